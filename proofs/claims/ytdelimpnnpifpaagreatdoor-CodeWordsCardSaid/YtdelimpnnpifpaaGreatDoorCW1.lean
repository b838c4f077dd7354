import Derived.Test.YtdelimpnnpifpaaGreatDoorKzR
import Derived.Test.YtdelimpnnpifpaaGreatDoorKWa
import Derived.Test.YtdelimpnnpifpaaGreatDoorCards
import Derived.Test.YtdelimpnnpifpaaGreatDoorTie
set_option linter.all false
namespace Go.Proofs.YtdelimpnnpifpaaGreatDoor
open Go Go.Kv Go.RowKit Go.ChangeShapes Go.WideShapes Go.ChangeAt Go.Proofs
set_option maxRecDepth 100000
theorem sh3 {n:Nat} {xs:List DV} (h:JE Tryz.prog (n+1) 3 xs):∃ (a0:Int),xs=[vI a0]∧(jc a0):=by
 rw [JE,Tryz.underlying3] at h
 obtain ⟨i,rfl,hw⟩:=h
 refine ⟨i,rfl,?_⟩
 simp [Lit.wf,IntKind.min,IntKind.max,IntKind.signed,IntKind.bits] at hw
 first | exact hw | (unfold jc; omega) | omega
theorem jyW {n:Nat} {xs:List DV} (h:JE Tryz.prog (n+2) 23 xs):∃ (a0:Int) (a1:Int),xs=[vI a0,vI a1]∧(jc a0)∧(jc a1):=by
 rw [JE,Tryz.underlying23] at h
 simp only [Y3] at h
 obtain ⟨x0,r0,rfl,h0,x1,r1,rfl,h1,rfl⟩:=h
 obtain ⟨a0,rfl,w0⟩:=sh3 h0
 obtain ⟨a1,rfl,w1⟩:=sh3 h1
 exact ⟨a0,a1,rfl,w0,w1⟩
def okt3 (x:Int):Prop:=jc x
theorem jv1 {n:Nat} {xs:List DV} (h:JE Tryz.prog (n+2) 24 xs):∃ (a0:List (Int)),xs=[.sl a0.length (a0.map vI)]∧((a0.length≤maxLen∧∀ e ∈ a0,okt3 e)):=by
 rw [JE,Tryz.underlying24] at h
 obtain ⟨ys,rfl,hm,hy⟩:=h
 obtain ⟨l,rfl,hl⟩:=jfw (enc:=fun x=>[vI x]) (R:=okt3) (fun y hyy=>by
  obtain ⟨a0,rfl,w0⟩:=sh3 (hy y hyy)
  exact ⟨a0,rfl,w0⟩)
 rw [List.length_map] at hm
 exact ⟨l,by rw [jc8,List.length_map],hm,hl⟩
theorem KC:KA Tryz.prog 2 23=true∧KA Tryz.prog 2 24=true∧KA Tryz.prog 2 24=true:=⟨by kernel_rfl,by kernel_rfl,by kernel_rfl⟩
theorem yG (os:Os) (started:os.Started) (H:Type) (enc:TypeId × Value→H) :
  ReturnsInHanded {} Tryz.checked os 3 .any (fun w args=>(Rows.codeWordsSpec.pre enc Tryz.prog Tryz.f3 [] false w args∧laidMetH Tryz.prog jc0 w)∧sizedMet enc Tryz.prog Tryz.f3 (OpenSpec.ofChange Rows.codeWordsSpec) false w args)
   (Rows.codeWordsSpec.post enc Tryz.prog Tryz.f3 false true false false):=by
 refine returnsInHanded_of_change_and (C:=Tryz.checked) (X:=fun w _=>laidMetH Tryz.prog jc0 w) (fun _ _ _ hh h=>h.of_heap hh) own started (by kernel_rfl) Tryz.func3
  (ChangeSpec.witness_shaped (enc:=enc) (C:=Tryz.checked) (os:=os) (X:=fun w _=>laidMetH Tryz.prog jc0 w) false (World.doorLaid Tryz.prog 4000 os)
   #[.agg #[.int .i64 0,.int .i64 0],.slice none 0 0,.slice none 0 0] 8 rfl (World.shaped_of_RefB (by kernel_rfl) (by kernel_rfl)) (by kernel_rfl) (by kernel_rfl) (by kernel_rfl) (jlI os _)) ?_
 intro W base args ds gs before hval0 hW _ _ hL _
 have hW':=hW
 obtain ⟨p,q,hA,hV,rfl,hfz,hnd⟩:=hW
 have hval:∀ (j:Nat) t v,Tryz.f3.params[j]? = some t→args[j]? = some v→Value.okWide Tryz.prog W .any base t v:=hval0
 have hA:DataW.TrodAll enc Tryz.prog W 0 (fun _=>true) true Tryz.f3.params.toList args.toList ds p:=hA
 rw [Tryz.params3] at hA hval
 obtain ⟨v0,v1,v2,d0,d1,d2,p0,p1,p2,rfl,rfl,rfl,h0,h1,h2⟩:=trodAll_three hA
 obtain ⟨rfl,rfl⟩:=trodVars_none hV
 obtain ⟨xs0,s0,r0⟩:=jbb (c:=J2 (kA W)) (fun {_}=>rfl) (ZL W) KC.1 (hval 0 23 v0 rfl rfl) h0
 obtain ⟨b0,b1,rfl,w0,w1⟩:=jyW (n:=0) s0
 have r0:Rel (J2 (kA W)) W (.agg [.d (vI b0),.d (vI b1)]) v0:=by
  have e:jdN Tryz.prog 23 [vI b0,vI b1]=(.agg [.d (vI b0),.d (vI b1)]:AV):=by unfold jdN; rw [Tryz.underlying23]; rfl
  rw [← e]; exact r0
 obtain ⟨xs1,s1,r1⟩:=jbb (c:=J2 (kA W)) (fun {_}=>rfl) (ZL W) KC.2.1 (hval 1 24 v1 rfl rfl) h1
 obtain ⟨b2,rfl,w2⟩:=jv1 (n:=0) s1
 have r1:Rel (J2 (kA W)) W (.d (.sl b2.length (b2.map vI))) v1:=by
  have e:jdN Tryz.prog 24 [.sl b2.length (b2.map vI)]=(.d (.sl b2.length (b2.map vI)):AV):=by unfold jdN; rw [Tryz.underlying24]; rfl
  rw [← e]; exact r1
 obtain ⟨xs2,s2,r2⟩:=jbb (c:=J2 (kA W)) (fun {_}=>rfl) (ZL W) KC.2.2 (hval 2 24 v2 rfl rfl) h2
 obtain ⟨b3,rfl,w3⟩:=jv1 (n:=0) s2
 have r2:Rel (J2 (kA W)) W (.d (.sl b3.length (b3.map vI))) v2:=by
  have e:jdN Tryz.prog 24 [.sl b3.length (b3.map vI)]=(.d (.sl b3.length (b3.map vI)):AV):=by unfold jdN; rw [Tryz.underlying24]; rfl
  rw [← e]; exact r2
 have hc:PureCalls Tryz.prog cfz.glob 3 [.agg [.d (vI b0),.d (vI b1)],.d (.sl b2.length (b2.map vI)),.d (.sl b3.length (b3.map vI))] (aB true):=f3 b0 b1 b2.length (b2.map vI) b3.length (b3.map vI) true (jd9 b0 b1 b2 b3)
 refine (jgo hc (jnc hL) (Rels.cons r0 (Rels.cons r1 (Rels.cons r2 Rels.nil)))).mono ?_
 rintro e W2 ⟨rfl,hb⟩
 exact ⟨_,rfl,jjj (tb:=4) jl7 rfl (by kernel_rfl) Tryz.underlying4 (by
  rw [Tryz.params3]
  intro t ht
  simp at ht
  rcases ht with rfl | rfl
  ·exact ⟨by kernel_rfl,of_decide_eq_true (by kernel_rfl)⟩
  ·exact ⟨by kernel_rfl,of_decide_eq_true (by kernel_rfl)⟩) hW' rfl hb⟩
theorem gI:Rows.CodeWordsSaid :=
 OpenClaim.holds_of_wide 3 Tryz.f3 rfl rfl rfl rfl rfl rfl rfl ⟨rfl,rfl,rfl,rfl,rfl⟩ rfl rfl rfl rfl rfl (by kernel_rfl) Tryz.func3 (by kernel_rfl)
  (of_decide_eq_true (by kernel_rfl)) (by unfold Func.isWrapper; first | (rw [if_pos (by decide +kernel)]; kernel_rfl) | (rw [if_neg (by decide +kernel)]; exact ⟨rfl,rfl⟩))
  (fun os started H enc _=>yG os started H enc)
theorem codeWords_card:Rows.CodeWordsCardSaid :=
 Claim7.holds_tied_plain_at .later [] [.data,.data,.data,.widerDeep] true (true, "7ea06ffd6ddb7799912c3dbbb101e36cc1e3fcf0ee32eb8dda875d72666d5391") false
  gI (fun _ h=>by cases h) (by kernel_rfl) (fun _ h=>by cases h) codeWords_row_tie rfl ⟨rfl,rfl⟩ (by kernel_rfl) rfl
  (fun f fn hf hfn=>by
   obtain rfl:f=3:=Option.some.inj ((show Tryz.prog.funcNamed "kilovar/kilovarlaw03.CodeWords"=some 3 by kernel_rfl).symm.trans hf) |>.symm
   obtain rfl:fn=Tryz.f3:=(Option.some.inj (Tryz.func3.symm.trans hfn)).symm
   exact ⟨by kernel_rfl,fun j t ht=>by
    rw [Tryz.params3] at ht
    rcases j with _ | _ | _ | j
    ·have h3:t=23:=by simpa using ht.symm
     subst h3
     exact (show Tryz.prog.wantsStandIn 23=false by kernel_rfl)
    ·have h3:t=24:=by simpa using ht.symm
     subst h3
     exact (show Tryz.prog.wantsStandIn 24=false by kernel_rfl)
    ·have h3:t=24:=by simpa using ht.symm
     subst h3
     exact (show Tryz.prog.wantsStandIn 24=false by kernel_rfl)
    ·simp at ht⟩)
  (by kernel_rfl)
end Go.Proofs.YtdelimpnnpifpaaGreatDoor
