import Derived.Test.YtfojgeoicgmncaaKvU
import Derived.Test.YtfojgeoicgmncaaChecked
namespace Go.Kv
set_option linter.unusedVariables false
set_option linter.unusedSimpArgs false
open Go Go.RowKit Go.Proofs
abbrev a8 (n : Int) : AV := .d (.v (.int .u8 n))
abbrev v8 (n : Int) : DV := .v (.int .u8 n)
noncomputable def cfz : Cfg := { P := Try.prog, ex := true, glob := fun _ => none }
def namesB (P : Program) : Bool := P.funcs.toList.all fun fn => fn.name != "runtime.NumGoroutine"
theorem namesB_ok {P : Program} (h : namesB P = true) : NamesOk P := by
  intro g fn hg
  unfold namesB at h
  rw [List.all_eq_true] at h
  have := h fn (by simpa using Array.mem_of_getElem? hg)
  simpa using this
theorem names_z : namesB cfz.P = true := by kernel_rfl
theorem knil : KnowOk cfz.P cfz.glob cfz.K := ⟨namesB_ok names_z, by intro j kn h; simp [cfz] at h⟩
noncomputable def cfw : Cfg := { P := cfz.P, ex := false, glob := cfz.glob }
theorem knilw : KnowOk cfw.P cfw.glob cfw.K := ⟨namesB_ok names_z, by intro j kn h; simp [cfw] at h⟩
noncomputable def cfe : Cfg := { P := cfz.P, ex := true, glob := cfz.glob, own0 := true }
theorem knile : KnowOk cfe.P cfe.glob cfe.K := ⟨namesB_ok names_z, by intro j kn h; simp [cfe] at h⟩
end Go.Kv
