import Derived.Test.YtdelimpnnpifpaaGreatDoorKzA
import Derived.Test.YtdelimpnnpifpaaGreatDoorKvY
import Derived.Test.YtdelimpnnpifpaaGreatDoorRows
import Derived.Test.YtdelimpnnpifpaaGreatDoorTie
set_option linter.all false
namespace Go.Kv
open Go Go.RowKit Go.ChangeShapes Go.WideShapes Go.ChangeAt Go.Proofs Go.Proofs.YtdelimpnnpifpaaGreatDoor
set_option maxRecDepth 100000
theorem own:ownKnob Tryz.prog.godebug=none:=by kernel_rfl
theorem jl7:laidOutB Tryz.prog=true:=by kernel_rfl
def jc0:List (String × DataW Unit) := [("math/bits.deBruijn32tab",Rows.laid_math_bits_deBruijn32tab), ("math/bits.deBruijn64tab",Rows.laid_math_bits_deBruijn64tab), ("internal/strconv.uint64pow10",Rows.laid_internal_strconv_uint64pow10), ("kilovar/code.powers",Rows.laid_kilovar_code_powers)]
theorem jlI (os:Os) (args:Array Value):laidMetH Tryz.prog jc0 ((World.doorLaid Tryz.prog 4000 os).forCall (fun _ _=>0) ⟨#[],args,[]⟩).memory :=
 laidMetH_of_parts3 (fuel:=8) (laidMet_of_run' 8 (by kernel_rfl) (by kernel_rfl)) (by kernel_rfl) (by kernel_rfl)
theorem n32 : Tryz.prog.globalNamed "math/bits.deBruijn32tab"=some 6:=by kernel_rfl
theorem n64 : Tryz.prog.globalNamed "math/bits.deBruijn64tab"=some 7:=by kernel_rfl
theorem jzd : Tryz.prog.globalNamed "internal/strconv.uint64pow10"=some 2:=by kernel_rfl
theorem jo5 : Tryz.prog.globalNamed "kilovar/code.powers"=some 0:=by kernel_rfl
noncomputable def jdJ (g:Nat):TypeId:=((Tryz.prog.globals[g]?).map (·.type)).getD 0
theorem jni (g:Nat) (h:((Tryz.prog.globals[g]?).map (·.type)).isSome=true) {t:TypeId} (ht:(Tryz.prog.globals[g]?).map (·.type)=some t):t=jdJ g:=by
 unfold jdJ; rw [ht]; rfl
noncomputable def jfb (t n:Nat):Bool:=match Tryz.prog.underlying t with
 | some (.array k e)=>k==n&&Tryz.prog.cellsOf t==n&&Tryz.prog.cellsOf e==1&&(match Tryz.prog.underlying e with
  | some (.int _)=>true
  | some .string=>true
  | _=>false)
 | _=>false
theorem jmI {t n:Nat} (h:jfb t n=true):∃ e,Tryz.prog.underlying t=some (.array n e)∧Tryz.prog.cellsOf t=n∧Tryz.prog.cellsOf e=1∧((∃ k,Tryz.prog.underlying e=some (.int k))∨Tryz.prog.underlying e=some .string):=by
 unfold jfb at h
 split at h
 ·rename_i k e hu
  simp only [Bool.and_eq_true,beq_iff_eq] at h
  obtain ⟨⟨⟨rfl,h1⟩,h2⟩,h3⟩:=h
  refine ⟨e,hu,h1,h2,?_⟩
  split at h3
  ·rename_i k' hk; exact .inl ⟨k',hk⟩
  ·rename_i hk; exact .inr hk
  ·simp at h3
 ·simp at h
theorem a32:jfb (jdJ 6) 32=true:=by kernel_rfl
theorem a64:jfb (jdJ 7) 64=true:=by kernel_rfl
theorem jx3:jfb (jdJ 2) 20=true:=by kernel_rfl
theorem jqC:jfb (jdJ 0) 16=true:=by kernel_rfl
def jgb:DataW Unit→List (DataW Unit)
 | .agg ds=>ds
 | _=>[]
theorem d32:qh (jgb Rows.laid_math_bits_deBruijn32tab)=some gl6:=by kernel_rfl
theorem d64:qh (jgb Rows.laid_math_bits_deBruijn64tab)=some gl7:=by kernel_rfl
theorem jxm:qh (jgb Rows.laid_internal_strconv_uint64pow10)=some gl2:=by kernel_rfl
theorem jpS:qh (jgb Rows.laid_kilovar_code_powers)=some gl0:=by kernel_rfl
theorem yD {W:World} {name:String} {g n:Nat} {d:DataW Unit} {xs:List DV} (hg:Tryz.prog.globalNamed name=some g) (ha:jfb (jdJ g) n=true) (hd:qh (jgb d)=some xs) (hda:d=.agg (jgb d))
  {g':Nat} {t:TypeId} {cs:Array Value} {f:Nat} {p:List MemPlace} {encU:TypeId × Value→Unit} {base:Nat} {sp:Nat→Bool} {held:Bool} (hg':Tryz.prog.globalNamed name=some g') (ht:(Tryz.prog.globals[g']?).map (·.type)=some t) (hv:W.var? Tryz.prog name=some cs)
  (h:DataW.trod encU Tryz.prog W base sp held f t cs.toList=some (d,p)):∃ us:List Value,us.length<kA W g∧j5 W g 0 us∧RelDs (kA W) W xs us∧W.cell? ⟨g,us.length,none⟩=none:=by
 obtain rfl:=Option.some.inj (hg.symm.trans hg')
 have htt:t=jdJ g:=jni g (by rw [ht]; rfl) ht
 subst htt
 obtain ⟨e,h1,h2,h3,h4⟩:=jmI ha
 rw [hda] at h
 exact jdE hg hv (jf8 h1 h2 h3 h4 h hd)
theorem jnc {W:World} (h:laidMetH Tryz.prog jc0 W):GlobOk cfz.glob W (kA W):=by
 rw [MakeChecks.laidMetH_plain _ _ _ (by kernel_rfl)] at h
 obtain ⟨ps,⟨g0,t0,cs0,f0,p0,q0,hg0,ht0,hv0,hd0,⟨g1,t1,cs1,f1,p1,q1,hg1,ht1,hv1,hd1,⟨g2,t2,cs2,f2,p2,q2,hg2,ht2,hv2,hd2,⟨g3,t3,cs3,f3,p3,q3,hg3,ht3,hv3,hd3,_,_⟩,_⟩,_⟩,_⟩,_,_⟩:=h
 intro g cs hc
 have hc:jja g=some cs:=hc
 unfold jja at hc
 split at hc
 ·simp at hc; subst hc; exact yD jo5 jqC jpS rfl hg3 ht3 hv3 hd3
 ·simp at hc; subst hc; exact yD jzd jx3 jxm rfl hg2 ht2 hv2 hd2
 ·simp at hc; subst hc; exact yD n32 a32 d32 rfl hg0 ht0 hv0 hd0
 ·simp at hc; subst hc; exact yD n64 a64 d64 rfl hg1 ht1 hv1 hd1
 ·simp at hc
end Go.Kv
namespace Go.Kv
open Go Go.RowKit
theorem jfw {E:Type} {enc:E→List DV} {R:E→Prop}:∀ {ys:List (List DV)},(∀ y ∈ ys,∃ e,y=enc e∧R e)→∃ l:List E,ys=l.map enc∧∀ e ∈ l,R e
 | [],_=>⟨[],rfl,by simp⟩
 | y :: ys,h=>by
  obtain ⟨e,rfl,he⟩:=h y (by simp)
  obtain ⟨l,rfl,hl⟩:=jfw (ys:=ys) fun z hz=>h z (by simp [hz])
  exact ⟨e :: l,rfl,by simpa using ⟨he,hl⟩⟩
theorem jc8 {E:Type} {f:E→DV}:∀ l:List E,(l.map fun x=>[f x]).flatten=l.map f
 | []=>rfl
 | x :: l=>by simp [jc8 l]
end Go.Kv
