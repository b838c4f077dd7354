import Derived.Test.YtdelimpnnpifpaaGreatDoorKzA
import Derived.Test.YtdelimpnnpifpaaGreatDoorKvY
import Derived.Test.YtdelimpnnpifpaaGreatDoorRows
import Derived.Test.YtdelimpnnpifpaaGreatDoorTie
set_option linter.all false
namespace Go.Kv
open Go Go.RowKit Go.ChangeShapes Go.WideShapes Go.ChangeAt Go.Proofs Go.Proofs.YtdelimpnnpifpaaGreatDoor
set_option maxRecDepth 100000
theorem own:ownKnob Tryz.prog.godebug=none:=by kernel_rfl
theorem jmE:laidOutB Tryz.prog=true:=by kernel_rfl
def jc0:List (String × DataW Unit) := [("math/bits.deBruijn32tab",Rows.laid_math_bits_deBruijn32tab), ("math/bits.deBruijn64tab",Rows.laid_math_bits_deBruijn64tab), ("internal/strconv.uint64pow10",Rows.laid_internal_strconv_uint64pow10), ("kilovar/code.powers",Rows.laid_kilovar_code_powers)]
theorem jiU (os:Os) (args:Array Value):laidMetH Tryz.prog jc0 ((World.doorLaid Tryz.prog 4000 os).forCall (fun _ _=>0) ⟨#[],args,[]⟩).memory :=
 laidMetH_of_parts3 (fuel:=8) (laidMet_of_run' 8 (by kernel_rfl) (by kernel_rfl)) (by kernel_rfl) (by kernel_rfl)
theorem n32 : Tryz.prog.globalNamed "math/bits.deBruijn32tab"=some 6:=by kernel_rfl
theorem n64 : Tryz.prog.globalNamed "math/bits.deBruijn64tab"=some 7:=by kernel_rfl
theorem jyp : Tryz.prog.globalNamed "internal/strconv.uint64pow10"=some 2:=by kernel_rfl
theorem jpc : Tryz.prog.globalNamed "kilovar/code.powers"=some 0:=by kernel_rfl
noncomputable def jck (g:Nat):TypeId:=((Tryz.prog.globals[g]?).map (·.type)).getD 0
theorem jmd (g:Nat) (h:((Tryz.prog.globals[g]?).map (·.type)).isSome=true) {t:TypeId} (ht:(Tryz.prog.globals[g]?).map (·.type)=some t):t=jck g:=by
 unfold jck; rw [ht]; rfl
noncomputable def jec (t n:Nat):Bool:=match Tryz.prog.underlying t with
 | some (.array k e)=>k==n&&Tryz.prog.cellsOf t==n&&Tryz.prog.cellsOf e==1&&(match Tryz.prog.underlying e with
  | some (.int _)=>true
  | some .string=>true
  | _=>false)
 | _=>false
theorem jlR {t n:Nat} (h:jec t n=true):∃ e,Tryz.prog.underlying t=some (.array n e)∧Tryz.prog.cellsOf t=n∧Tryz.prog.cellsOf e=1∧((∃ k,Tryz.prog.underlying e=some (.int k))∨Tryz.prog.underlying e=some .string):=by
 unfold jec at h
 split at h
 ·rename_i k e hu
  simp only [Bool.and_eq_true,beq_iff_eq] at h
  obtain ⟨⟨⟨rfl,h1⟩,h2⟩,h3⟩:=h
  refine ⟨e,hu,h1,h2,?_⟩
  split at h3
  ·rename_i k' hk; exact .inl ⟨k',hk⟩
  ·rename_i hk; exact .inr hk
  ·simp at h3
 ·simp at h
theorem a32:jec (jck 6) 32=true:=by kernel_rfl
theorem a64:jec (jck 7) 64=true:=by kernel_rfl
theorem jyU:jec (jck 2) 20=true:=by kernel_rfl
theorem jp6:jec (jck 0) 16=true:=by kernel_rfl
def jfT:DataW Unit→List (DataW Unit)
 | .agg ds=>ds
 | _=>[]
theorem d32:K9 (jfT Rows.laid_math_bits_deBruijn32tab)=some gl6:=by kernel_rfl
theorem d64:K9 (jfT Rows.laid_math_bits_deBruijn64tab)=some gl7:=by kernel_rfl
theorem jyV:K9 (jfT Rows.laid_internal_strconv_uint64pow10)=some gl2:=by kernel_rfl
theorem joM:K9 (jfT Rows.laid_kilovar_code_powers)=some gl0:=by kernel_rfl
theorem ZU {W:World} {name:String} {g n:Nat} {d:DataW Unit} {xs:List DV} (hg:Tryz.prog.globalNamed name=some g) (ha:jec (jck g) n=true) (hd:K9 (jfT d)=some xs) (hda:d=.agg (jfT d))
  {g':Nat} {t:TypeId} {cs:Array Value} {f:Nat} {p:List MemPlace} {encU:TypeId × Value→Unit} {base:Nat} {sp:Nat→Bool} {held:Bool} (hg':Tryz.prog.globalNamed name=some g') (ht:(Tryz.prog.globals[g']?).map (·.type)=some t) (hv:W.var? Tryz.prog name=some cs)
  (h:DataW.trod encU Tryz.prog W base sp held f t cs.toList=some (d,p)):∃ us:List Value,us.length<kj W g∧jT W g 0 us∧RelDs (kj W) W xs us∧W.cell? ⟨g,us.length,none⟩=none:=by
 obtain rfl:=Option.some.inj (hg.symm.trans hg')
 have htt:t=jck g:=jmd g (by rw [ht]; rfl) ht
 subst htt
 obtain ⟨e,h1,h2,h3,h4⟩:=jlR ha
 rw [hda] at h
 exact jbU hg hv (jf2 h1 h2 h3 h4 h hd)
theorem jmC {W:World} (h:laidMetH Tryz.prog jc0 W):GlobOk cfz.glob W (kj W):=by
 rw [MakeChecks.laidMetH_plain _ _ _ (by kernel_rfl)] at h
 obtain ⟨ps,⟨g0,t0,cs0,f0,p0,q0,hg0,ht0,hv0,hd0,⟨g1,t1,cs1,f1,p1,q1,hg1,ht1,hv1,hd1,⟨g2,t2,cs2,f2,p2,q2,hg2,ht2,hv2,hd2,⟨g3,t3,cs3,f3,p3,q3,hg3,ht3,hv3,hd3,_,_⟩,_⟩,_⟩,_⟩,_,_⟩:=h
 intro g cs hc
 have hc:jkl g=some cs:=hc
 unfold jkl at hc
 split at hc
 ·simp at hc; subst hc; exact ZU jpc jp6 joM rfl hg3 ht3 hv3 hd3
 ·simp at hc; subst hc; exact ZU jyp jyU jyV rfl hg2 ht2 hv2 hd2
 ·simp at hc; subst hc; exact ZU n32 a32 d32 rfl hg0 ht0 hv0 hd0
 ·simp at hc; subst hc; exact ZU n64 a64 d64 rfl hg1 ht1 hv1 hd1
 ·simp at hc
end Go.Kv
namespace Go.Kv
open Go Go.RowKit
theorem jfk {E:Type} {enc:E→List DV} {R:E→Prop}:∀ {ys:List (List DV)},(∀ y ∈ ys,∃ e,y=enc e∧R e)→∃ l:List E,ys=l.map enc∧∀ e ∈ l,R e
 | [],_=>⟨[],rfl,by simp⟩
 | y :: ys,h=>by
  obtain ⟨e,rfl,he⟩:=h y (by simp)
  obtain ⟨l,rfl,hl⟩:=jfk (ys:=ys) fun z hz=>h z (by simp [hz])
  exact ⟨e :: l,rfl,by simpa using ⟨he,hl⟩⟩
theorem jdl {E:Type} {f:E→DV}:∀ l:List E,(l.map fun x=>[f x]).flatten=l.map f
 | []=>rfl
 | x :: l=>by simp [jdl l]
end Go.Kv
