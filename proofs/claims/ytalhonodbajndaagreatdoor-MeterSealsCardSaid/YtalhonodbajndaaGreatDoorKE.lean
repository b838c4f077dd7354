/- Entries: their checks. -/
import Derived.Test.YtalhonodbajndaaGreatDoorKzP
import Derived.Test.YtalhonodbajndaaGreatDoorG5
namespace Go.Kv
set_option linter.unusedVariables false
set_option linter.unusedSimpArgs false
open Go Go.RowKit
set_option maxRecDepth 100000
def entI (a b c d m : Int) : Int := firstI [rangeI a 0 999999999, rangeI b 0 100000000, rangeI c 0 999999, rangeI d 0 999999, rangeI m 0 7]
theorem F75_5 (a b c d e : Int) : F75 5 [vI a, vI b, vI c, vI d, vI e] = some (firstI [a, b, c, d, e]) := F75_eq [a, b, c, d, e] (by simp)
theorem F24_5 (a b c d e : Int) : F24 5 [vI a, vI b, vI c, vI d, vI e] = some (firstI [a, b, c, d, e]) := F24_eq [a, b, c, d, e] (by simp)
theorem F28_eq (a b c d m : Int) : F28 a b c d m = some (entI a b c d m) := by
  unfold F28; rw [res_eq]
  simp only [B28, F89_eq, F75_5, sem_bind_some, sem_sees, sem_ret, stepO_ret, entI]
theorem F26_eq (a b c d m : Int) : F26 a b c d m = some (entI a b c d m) := by
  unfold F26; rw [res_eq]
  simp only [B26, F34_eq, F24_5, sem_bind_some, sem_sees, sem_ret, stepO_ret, entI]
theorem entI_zero {a b c d m : Int} : entI a b c d m = 0 ↔ (0 ≤ a ∧ a ≤ 999999999) ∧ (0 ≤ b ∧ b ≤ 100000000) ∧ (0 ≤ c ∧ c ≤ 999999) ∧ (0 ≤ d ∧ d ≤ 999999) ∧ (0 ≤ m ∧ m ≤ 7) := by
  unfold entI
  simp only [firstI_zero, rangeI_zero, show firstI [] = 0 from rfl, and_true]
end Go.Kv
