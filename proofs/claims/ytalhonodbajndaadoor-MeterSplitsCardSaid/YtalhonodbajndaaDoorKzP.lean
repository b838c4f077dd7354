/- What the clocks' functions come to, in plain Lean. -/
import Derived.Test.YtalhonodbajndaaDoorGD8
import Derived.Test.YtalhonodbajndaaDoorGD3a
namespace Go.Kv
set_option linter.unusedVariables false
set_option linter.unusedSimpArgs false
open Go Go.RowKit
def firstI : List Int → Int
  | [] => 0
  | x :: xs => if x = 0 then firstI xs else x
def whenI (b : Bool) (e : Int) : Int := if b then e else 0
def rangeI (n a b : Int) : Int := if n < a ∨ n > b then 3 else 0

theorem dI_cel_map (l : List Int) (i : Nat) : dI (cel (l.map vI) i) = l.getD i 0 := by
  unfold cel
  simp only [List.getD_eq_getElem?_getD, List.getElem?_map]
  cases l[i]? <;> rfl
theorem at_map {l : List Int} {i : Nat} (h : i < l.length) : Option.map AV.d (List.drop i (l.map vI))[0]? = some (AV.d (vI (l.getD i 0))) := by
  simp [List.getElem?_drop, h, List.getD_eq_getElem?_getD]
theorem firstI_drop {l : List Int} {i : Nat} (h : i < l.length) : firstI (l.drop i) = if l.getD i 0 = 0 then firstI (l.drop (i + 1)) else l.getD i 0 := by
  rw [List.drop_eq_getElem_cons h]
  simp [firstI, List.getD_eq_getElem?_getD, h]

theorem F35_loop (l : List Int) (hl : l.length ≤ 4611686018427387904) : ∀ (k i : Nat), l.length = i + k → res B35 (.c1 l.length (l.map vI) (l.length : Int) (i : Int)) = some (firstI (l.drop i))
  | 0, i, hk => by
    rw [List.drop_eq_nil_of_le (by omega), res_eq]
    have : ¬ ((i : Int) < (l.length : Int)) := by omega
    simp [B35, sem_br, sem_ret, this, stepO_ret, stepO_nxt, firstI]
  | k + 1, i, hk => by
    have hi : i < l.length := by omega
    have h1 : (i : Int) < (l.length : Int) := by omega
    have ih := F35_loop l hl k (i + 1) (by omega)
    have hin : inI64 ((i : Int) + 1) := by unfold inI64; omega
    rw [firstI_drop hi, res_eq]
    simp only [B35, sem_br, sem_ask, sem_ret, sem_nxt, PC.holds, need_true, Int.toNat_natCast, Nat.mul_one, dI_cel_map, at_map hi, h1, hin, decide_true, if_true, Int.natCast_nonneg, List.length_map, Nat.le_of_lt hi]
    by_cases h0 : l.getD i 0 = 0
    · simp only [h0, bne_self_eq_false, if_true, Bool.false_eq_true, if_false, stepO_ret, stepO_nxt]
      rw [← ih]; rfl
    · simp only [h0, if_false, bne_iff_ne, ne_eq, not_false_eq_true, if_true, stepO_ret, stepO_nxt]
theorem F35_eq (l : List Int) (hl : l.length ≤ 4611686018427387904) : F35 l.length (l.map vI) = some (firstI l) := by
  unfold F35
  rw [res_eq]
  simp only [B35, sem_nxt, stepO_nxt]
  exact F35_loop l hl l.length 0 (by omega)

theorem F25_loop (l : List Int) (hl : l.length ≤ 4611686018427387904) : ∀ (k i : Nat), l.length = i + k → res B25 (.c1 l.length (l.map vI) (i : Int)) = some (firstI (l.drop i))
  | 0, i, hk => by
    rw [List.drop_eq_nil_of_le (by omega), res_eq]
    have : ¬ ((i : Int) < (l.length : Int)) := by omega
    simp [B25, sem_br, sem_ret, this, stepO_ret, stepO_nxt, firstI]
  | k + 1, i, hk => by
    have hi : i < l.length := by omega
    have h1 : (i : Int) < (l.length : Int) := by omega
    have ih := F25_loop l hl k (i + 1) (by omega)
    have hin : inI64 ((i : Int) + 1) := by unfold inI64; omega
    rw [firstI_drop hi, res_eq]
    simp only [B25, sem_br, sem_ask, sem_ret, sem_nxt, PC.holds, need_true, Int.toNat_natCast, Nat.mul_one, dI_cel_map, at_map hi, h1, hin, decide_true, if_true, Int.natCast_nonneg, List.length_map, Nat.le_of_lt hi]
    by_cases h0 : l.getD i 0 = 0
    · simp only [h0, bne_self_eq_false, if_true, Bool.false_eq_true, if_false, stepO_ret, stepO_nxt]
      rw [← ih]; rfl
    · simp only [h0, if_false, bne_iff_ne, ne_eq, not_false_eq_true, if_true]
      rfl
theorem F25_eq (l : List Int) (hl : l.length ≤ 4611686018427387904) : F25 l.length (l.map vI) = some (firstI l) := by
  unfold F25
  rw [res_eq]
  simp only [B25, sem_nxt, stepO_ret, stepO_nxt]
  exact F25_loop l hl l.length 0 (by omega)
theorem F35_2 (a b : Int) : F35 2 [vI a, vI b] = some (firstI [a, b]) := F35_eq [a, b] (by simp)
theorem F35_3 (a b c : Int) : F35 3 [vI a, vI b, vI c] = some (firstI [a, b, c]) := F35_eq [a, b, c] (by simp)
theorem F35_4 (a b c d : Int) : F35 4 [vI a, vI b, vI c, vI d] = some (firstI [a, b, c, d]) := F35_eq [a, b, c, d] (by simp)
theorem F25_2 (a b : Int) : F25 2 [vI a, vI b] = some (firstI [a, b]) := F25_eq [a, b] (by simp)
theorem F25_3 (a b c : Int) : F25 3 [vI a, vI b, vI c] = some (firstI [a, b, c]) := F25_eq [a, b, c] (by simp)
theorem F25_4 (a b c d : Int) : F25 4 [vI a, vI b, vI c, vI d] = some (firstI [a, b, c, d]) := F25_eq [a, b, c, d] (by simp)
theorem F38_eq (b : Bool) (e : Int) : F38 b e = some (whenI b e) := by
  unfold F38; rw [res_eq]; cases b <;> simp [B38, sem_br, sem_ret, stepO_ret, stepO_nxt, whenI]
theorem F56_eq (b : Bool) (e : Int) : F56 b e = some (whenI b e) := by
  unfold F56; rw [res_eq]; cases b <;> simp [B56, sem_br, sem_ret, stepO_ret, stepO_nxt, whenI]
theorem whenI_or (n a b e : Int) : whenI (if decide (n < a) = true then true else decide (n > b)) e = if n < a ∨ n > b then e else 0 := by
  unfold whenI
  by_cases h1 : n < a <;> by_cases h2 : n > b <;> simp [h1, h2]
theorem F49_eq (n a b : Int) : F49 n a b = some (rangeI n a b) := by
  unfold F49; rw [res_eq]
  simp only [B49, sem_triv, F38_eq, sem_bind_some, sem_sees, sem_ret, stepO_ret, stepO_nxt, whenI_or, rangeI]
theorem F26_eq (n a b : Int) : F26 n a b = some (rangeI n a b) := by
  unfold F26; rw [res_eq]
  simp only [B26, sem_triv, F56_eq, sem_bind_some, sem_sees, sem_ret, stepO_ret, stepO_nxt, whenI_or, rangeI]
theorem firstI_zero (x : Int) (l : List Int) : firstI (x :: l) = 0 ↔ x = 0 ∧ firstI l = 0 := by
  show (if x = 0 then firstI l else x) = 0 ↔ _
  by_cases h : x = 0 <;> simp [h]
theorem rangeI_zero {n a b : Int} : rangeI n a b = 0 ↔ a ≤ n ∧ n ≤ b := by
  unfold rangeI; split <;> omega
end Go.Kv
