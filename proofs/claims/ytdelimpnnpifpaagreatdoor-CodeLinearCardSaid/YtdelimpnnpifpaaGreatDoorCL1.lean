import Derived.Test.YtdelimpnnpifpaaGreatDoorKzR
import Derived.Test.YtdelimpnnpifpaaGreatDoorKLa
import Derived.Test.YtdelimpnnpifpaaGreatDoorCards
import Derived.Test.YtdelimpnnpifpaaGreatDoorTie
set_option linter.all false
namespace Go.Proofs.YtdelimpnnpifpaaGreatDoor
open Go Go.Kv Go.RowKit Go.ChangeShapes Go.WideShapes Go.ChangeAt Go.Proofs
set_option maxRecDepth 100000
theorem sh3 {n:Nat} {xs:List DV} (h:Ja Tryz.prog (n+1) 3 xs):∃ (a0:Int),xs=[vI a0]∧(je a0):=by
 rw [Ja,Tryz.underlying3] at h
 obtain ⟨i,rfl,hw⟩:=h
 refine ⟨i,rfl,?_⟩
 simp [Lit.wf,IntKind.min,IntKind.max,IntKind.signed,IntKind.bits] at hw
 first | exact hw | (unfold je; omega) | omega
theorem jxs {n:Nat} {xs:List DV} (h:Ja Tryz.prog (n+2) 23 xs):∃ (a0:Int) (a1:Int),xs=[vI a0,vI a1]∧(je a0)∧(je a1):=by
 rw [Ja,Tryz.underlying23] at h
 simp only [YG] at h
 obtain ⟨x0,r0,rfl,h0,x1,r1,rfl,h1,rfl⟩:=h
 obtain ⟨a0,rfl,w0⟩:=sh3 h0
 obtain ⟨a1,rfl,w1⟩:=sh3 h1
 exact ⟨a0,a1,rfl,w0,w1⟩
theorem sh5 {n:Nat} {xs:List DV} (h:Ja Tryz.prog (n+1) 5 xs):∃ (a0:Int),xs=[.v (.int .u8 a0)]∧(0≤a0∧a0≤255):=by
 rw [Ja,Tryz.underlying5] at h
 obtain ⟨i,rfl,hw⟩:=h
 refine ⟨i,rfl,?_⟩
 simp [Lit.wf,IntKind.min,IntKind.max,IntKind.signed,IntKind.bits] at hw
 first | exact hw | (unfold je; omega) | omega
def K3 (x:Int):DV:=.v (.int .u8 x)
def ok5 (x:Int):Prop:=0≤x∧x≤255
theorem juj {n:Nat} {xs:List DV} (h:Ja Tryz.prog (n+2) 86 xs):∃ (a0:List (Int)),xs=[.sl a0.length (a0.map K3)]∧((a0.length≤maxLen∧∀ e ∈ a0,ok5 e)):=by
 rw [Ja,Tryz.underlying86] at h
 obtain ⟨ys,rfl,hm,hy⟩:=h
 obtain ⟨l,rfl,hl⟩:=jfk (enc:=fun x=>[K3 x]) (R:=ok5) (fun y hyy=>by
  obtain ⟨a0,rfl,w0⟩:=sh5 (hy y hyy)
  exact ⟨a0,rfl,w0⟩)
 rw [List.length_map] at hm
 exact ⟨l,by rw [jdl,List.length_map],hm,hl⟩
theorem jze {n:Nat} {xs:List DV} (h:Ja Tryz.prog (n+3) 97 xs):∃ (a0:List (Int)) (a1:List (Int)),xs=[.sl a0.length (a0.map K3),.sl a1.length (a1.map K3)]∧((a0.length≤maxLen∧∀ e ∈ a0,ok5 e))∧((a1.length≤maxLen∧∀ e ∈ a1,ok5 e)):=by
 rw [Ja,Tryz.underlying97] at h
 simp only [YU] at h
 obtain ⟨x0,r0,rfl,h0,x1,r1,rfl,h1,rfl⟩:=h
 obtain ⟨a0,rfl,w0⟩:=juj h0
 obtain ⟨a1,rfl,w1⟩:=juj h1
 exact ⟨a0,a1,rfl,w0,w1⟩
theorem jqR {n:Nat} {xs:List DV} (h:Ja Tryz.prog (n+1) 98 xs):∃ (a0:Int),xs=[.v (.int .u16 a0)]∧(0≤a0∧a0≤65535):=by
 rw [Ja,Tryz.underlying98] at h
 obtain ⟨i,rfl,hw⟩:=h
 refine ⟨i,rfl,?_⟩
 simp [Lit.wf,IntKind.min,IntKind.max,IntKind.signed,IntKind.bits] at hw
 first | exact hw | (unfold je; omega) | omega
theorem jxM {n:Nat} {xs:List DV} (h:Ja Tryz.prog (n+2) 99 xs):∃ (a0:Int) (a1:Int),xs=[.v (.int .u16 a0),.v (.int .u16 a1)]∧(0≤a0∧a0≤65535)∧(0≤a1∧a1≤65535):=by
 rw [Ja,Tryz.underlying99] at h
 simp only [YU] at h
 obtain ⟨x0,r0,rfl,h0,x1,r1,rfl,h1,rfl⟩:=h
 obtain ⟨a0,rfl,w0⟩:=jqR h0
 obtain ⟨a1,rfl,w1⟩:=jqR h1
 exact ⟨a0,a1,rfl,w0,w1⟩
theorem kS:Ko Tryz.prog 2 23=true∧Ko Tryz.prog 3 97=true∧Ko Tryz.prog 2 99=true:=⟨by kernel_rfl,by kernel_rfl,by kernel_rfl⟩
theorem Z8 (os:Os) (started:os.Started) (H:Type) (enc:TypeId × Value→H) :
  ReturnsInHanded {} Tryz.checked os 9 .any (fun w args=>(Rows.codeLinearSpec.pre enc Tryz.prog Tryz.f9 [] false w args∧laidMetH Tryz.prog jc0 w)∧sizedMet enc Tryz.prog Tryz.f9 (OpenSpec.ofChange Rows.codeLinearSpec) false w args)
   (Rows.codeLinearSpec.post enc Tryz.prog Tryz.f9 false true false false):=by
 refine returnsInHanded_of_change_and (C:=Tryz.checked) (X:=fun w _=>laidMetH Tryz.prog jc0 w) (fun _ _ _ hh h=>h.of_heap hh) own started (by kernel_rfl) Tryz.func9
  (ChangeSpec.witness_shaped (enc:=enc) (C:=Tryz.checked) (os:=os) (X:=fun w _=>laidMetH Tryz.prog jc0 w) false (World.doorLaid Tryz.prog 4000 os)
   #[.agg #[.int .i64 0,.int .i64 0],.agg #[.slice none 0 0,.slice none 0 0],.agg #[.int .u16 0,.int .u16 0]] 8 rfl (World.shaped_of_RefB (by kernel_rfl) (by kernel_rfl)) (by kernel_rfl) (by kernel_rfl) (by kernel_rfl) (jiU os _)) ?_
 intro W base args ds gs before hval0 hW _ _ hL _
 have hW':=hW
 obtain ⟨p,q,hA,hV,rfl,hfz,hnd⟩:=hW
 have hval:∀ (j:Nat) t v,Tryz.f9.params[j]? = some t→args[j]? = some v→Value.okWide Tryz.prog W .any base t v:=hval0
 have hA:DataW.TrodAll enc Tryz.prog W 0 (fun _=>true) true Tryz.f9.params.toList args.toList ds p:=hA
 rw [Tryz.params9] at hA hval
 obtain ⟨v0,v1,v2,d0,d1,d2,p0,p1,p2,rfl,rfl,rfl,h0,h1,h2⟩:=trodAll_three hA
 obtain ⟨rfl,rfl⟩:=trodVars_none hV
 obtain ⟨xs0,s0,r0⟩:=jby (c:=JR (kj W)) (fun {_}=>rfl) (zS W) kS.1 (hval 0 23 v0 rfl rfl) h0
 obtain ⟨b0,b1,rfl,w0,w1⟩:=jxs (n:=0) s0
 have r0:Rel (JR (kj W)) W (.agg [.d (vI b0),.d (vI b1)]) v0:=by
  have e:jbS Tryz.prog 23 [vI b0,vI b1]=(.agg [.d (vI b0),.d (vI b1)]:AV):=by unfold jbS; rw [Tryz.underlying23]; rfl
  rw [← e]; exact r0
 obtain ⟨xs1,s1,r1⟩:=jby (c:=JR (kj W)) (fun {_}=>rfl) (zS W) kS.2.1 (hval 1 97 v1 rfl rfl) h1
 obtain ⟨b2,b3,rfl,w2,w3⟩:=jze (n:=0) s1
 have r1:Rel (JR (kj W)) W (.agg [.d (.sl b2.length (b2.map K3)),.d (.sl b3.length (b3.map K3))]) v1:=by
  have e:jbS Tryz.prog 97 [.sl b2.length (b2.map K3),.sl b3.length (b3.map K3)]=(.agg [.d (.sl b2.length (b2.map K3)),.d (.sl b3.length (b3.map K3))]:AV):=by unfold jbS; rw [Tryz.underlying97]; rfl
  rw [← e]; exact r1
 obtain ⟨xs2,s2,r2⟩:=jby (c:=JR (kj W)) (fun {_}=>rfl) (zS W) kS.2.2 (hval 2 99 v2 rfl rfl) h2
 obtain ⟨b4,b5,rfl,w4,w5⟩:=jxM (n:=0) s2
 have r2:Rel (JR (kj W)) W (.agg [.d (.v (.int .u16 b4)),.d (.v (.int .u16 b5))]) v2:=by
  have e:jbS Tryz.prog 99 [.v (.int .u16 b4),.v (.int .u16 b5)]=(.agg [.d (.v (.int .u16 b4)),.d (.v (.int .u16 b5))]:AV):=by unfold jbS; rw [Tryz.underlying99]; rfl
  rw [← e]; exact r2
 have hc:PureCalls Tryz.prog cfz.glob 9 [.agg [.d (vI b0),.d (vI b1)],.agg [.d (.sl b2.length (b2.map K3)),.d (.sl b3.length (b3.map K3))],.agg [.d (.v (.int .u16 b4)),.d (.v (.int .u16 b5))]] (aB true):=f9 b0 b1 b2.length (b2.map K3) b3.length (b3.map K3) b4 b5 true (jb6 b0 b1 b2 b3 b4 b5 (fun x hx=>w2.2 x hx) (fun x hx=>w3.2 x hx) w5)
 refine (jgK hc (jmC hL) (Rels.cons r0 (Rels.cons r1 (Rels.cons r2 Rels.nil)))).mono ?_
 rintro e W2 ⟨rfl,hb⟩
 exact ⟨_,rfl,jjr (tb:=4) jmE rfl (by kernel_rfl) Tryz.underlying4 (by
  rw [Tryz.params9]
  intro t ht
  simp at ht
  rcases ht with rfl | rfl | rfl
  ·exact ⟨by kernel_rfl,of_decide_eq_true (by kernel_rfl)⟩
  ·exact ⟨by kernel_rfl,of_decide_eq_true (by kernel_rfl)⟩
  ·exact ⟨by kernel_rfl,of_decide_eq_true (by kernel_rfl)⟩) hW' rfl hb⟩
theorem Yw:Rows.CodeLinearSaid :=
 OpenClaim.holds_of_wide 9 Tryz.f9 rfl rfl rfl rfl rfl rfl rfl ⟨rfl,rfl,rfl,rfl,rfl⟩ rfl rfl rfl rfl rfl (by kernel_rfl) Tryz.func9 (by kernel_rfl)
  (of_decide_eq_true (by kernel_rfl)) (by unfold Func.isWrapper; first | (rw [if_pos (by decide +kernel)]; kernel_rfl) | (rw [if_neg (by decide +kernel)]; exact ⟨rfl,rfl⟩))
  (fun os started H enc _=>Z8 os started H enc)
theorem codeLinear_card:Rows.CodeLinearCardSaid :=
 Claim7.holds_tied_plain_at .later [] [.data,.data,.data,.widerDeep] true (true, "7ea06ffd6ddb7799912c3dbbb101e36cc1e3fcf0ee32eb8dda875d72666d5391") false
  Yw (fun _ h=>by cases h) (by kernel_rfl) (fun _ h=>by cases h) codeLinear_row_tie rfl ⟨rfl,rfl⟩ (by kernel_rfl) rfl
  (fun f fn hf hfn=>by
   obtain rfl:f=9:=Option.some.inj ((show Tryz.prog.funcNamed "kilovar/kilovarlaw03.CodeLinear"=some 9 by kernel_rfl).symm.trans hf) |>.symm
   obtain rfl:fn=Tryz.f9:=(Option.some.inj (Tryz.func9.symm.trans hfn)).symm
   exact ⟨by kernel_rfl,fun j t ht=>by
    rw [Tryz.params9] at ht
    rcases j with _ | _ | _ | j
    ·have h3:t=23:=by simpa using ht.symm
     subst h3
     exact (show Tryz.prog.wantsStandIn 23=false by kernel_rfl)
    ·have h3:t=97:=by simpa using ht.symm
     subst h3
     exact (show Tryz.prog.wantsStandIn 97=false by kernel_rfl)
    ·have h3:t=99:=by simpa using ht.symm
     subst h3
     exact (show Tryz.prog.wantsStandIn 99=false by kernel_rfl)
    ·simp at ht⟩)
  (by kernel_rfl)
end Go.Proofs.YtdelimpnnpifpaaGreatDoor
