/- Entries: their checks. -/
import Derived.Test.YtjpmpeknnfhccaaGreatDoorKzP
namespace Go.Kv
set_option linter.unusedVariables false
set_option linter.unusedSimpArgs false
open Go Go.RowKit
set_option maxRecDepth 100000
def entI (a b c d m : Int) : Int := firstI [rangeI a 0 999999999, rangeI b 0 100000000, rangeI c 0 999999, rangeI d 0 999999, rangeI m 0 7]
theorem F42_5 (a b c d e : Int) : F42 5 [vI a, vI b, vI c, vI d, vI e] = some (firstI [a, b, c, d, e]) := F42_eq [a, b, c, d, e] (by simp)
theorem F46_5 (a b c d e : Int) : F46 5 [vI a, vI b, vI c, vI d, vI e] = some (firstI [a, b, c, d, e]) := F46_eq [a, b, c, d, e] (by simp)
theorem F54_eq (a b c d m : Int) : F54 a b c d m = some (entI a b c d m) := by
  unfold F54; rw [res_eq]
  simp only [B54, F73_eq, F42_5, sem_bind_some, sem_sees, sem_ret, stepO_ret, entI]
theorem F49_eq (a b c d m : Int) : F49 a b c d m = some (entI a b c d m) := by
  unfold F49; rw [res_eq]
  simp only [B49, F47_eq, F46_5, sem_bind_some, sem_sees, sem_ret, stepO_ret, entI]
theorem entI_zero {a b c d m : Int} : entI a b c d m = 0 ↔ (0 ≤ a ∧ a ≤ 999999999) ∧ (0 ≤ b ∧ b ≤ 100000000) ∧ (0 ≤ c ∧ c ≤ 999999) ∧ (0 ≤ d ∧ d ≤ 999999) ∧ (0 ≤ m ∧ m ≤ 7) := by
  unfold entI
  simp only [firstI_zero, rangeI_zero, show firstI [] = 0 from rfl, and_true]
end Go.Kv
