/- What the clocks' functions come to, in plain Lean. -/
import Derived.Test.YtalhonodbajndaaGreatDoorKX5
namespace Go.Kv
set_option linter.unusedVariables false
set_option linter.unusedSimpArgs false
open Go Go.RowKit
def whenI (b : Bool) (e : Int) : Int := if b then e else 0
def rangeI (n a b : Int) : Int := if n < a ∨ n > b then 3 else 0

theorem dI_cel_map (l : List Int) (i : Nat) : dI (cel (l.map vI) i) = l.getD i 0 := by
  unfold cel
  simp only [List.getD_eq_getElem?_getD, List.getElem?_map]
  cases l[i]? <;> rfl
theorem at_map {l : List Int} {i : Nat} (h : i < l.length) : Option.map AV.d (List.drop i (l.map vI))[0]? = some (AV.d (vI (l.getD i 0))) := by
  simp [List.getElem?_drop, h, List.getD_eq_getElem?_getD]
theorem firstI_drop {l : List Int} {i : Nat} (h : i < l.length) : firstI (l.drop i) = if l.getD i 0 = 0 then firstI (l.drop (i + 1)) else l.getD i 0 := by
  rw [List.drop_eq_getElem_cons h]
  simp [firstI, List.getD_eq_getElem?_getD, h]

theorem F75_loop (l : List Int) (hl : l.length ≤ 4611686018427387904) : ∀ (k i : Nat), l.length = i + k → res B75 (.c1 l.length (l.map vI) (l.length : Int) (i : Int)) = some (firstI (l.drop i))
  | 0, i, hk => by
    rw [List.drop_eq_nil_of_le (by omega), res_eq]
    have : ¬ ((i : Int) < (l.length : Int)) := by omega
    simp [B75, sem_br, sem_ret, this, stepO_ret, stepO_nxt, firstI]
  | k + 1, i, hk => by
    have hi : i < l.length := by omega
    have h1 : (i : Int) < (l.length : Int) := by omega
    have ih := F75_loop l hl k (i + 1) (by omega)
    have hin : inI64 ((i : Int) + 1) := by unfold inI64; omega
    rw [firstI_drop hi, res_eq]
    simp only [B75, sem_br, sem_ask, sem_ret, sem_nxt, PC.holds, need_true, Int.toNat_natCast, Nat.mul_one, dI_cel_map, at_map hi, h1, hin, decide_true, if_true, Int.natCast_nonneg, List.length_map, Nat.le_of_lt hi]
    by_cases h0 : l.getD i 0 = 0
    · simp only [h0, bne_self_eq_false, if_true, Bool.false_eq_true, if_false, stepO_ret, stepO_nxt]
      rw [← ih]; rfl
    · simp only [h0, if_false, bne_iff_ne, ne_eq, not_false_eq_true, if_true, stepO_ret, stepO_nxt]
theorem F75_eq (l : List Int) (hl : l.length ≤ 4611686018427387904) : F75 l.length (l.map vI) = some (firstI l) := by
  unfold F75
  rw [res_eq]
  simp only [B75, sem_nxt, stepO_nxt]
  exact F75_loop l hl l.length 0 (by omega)

theorem F24_loop (l : List Int) (hl : l.length ≤ 4611686018427387904) : ∀ (k i : Nat), l.length = i + k → res B24 (.c1 l.length (l.map vI) (i : Int)) = some (firstI (l.drop i))
  | 0, i, hk => by
    rw [List.drop_eq_nil_of_le (by omega), res_eq]
    have : ¬ ((i : Int) < (l.length : Int)) := by omega
    simp [B24, sem_br, sem_ret, this, stepO_ret, stepO_nxt, firstI]
  | k + 1, i, hk => by
    have hi : i < l.length := by omega
    have h1 : (i : Int) < (l.length : Int) := by omega
    have ih := F24_loop l hl k (i + 1) (by omega)
    have hin : inI64 ((i : Int) + 1) := by unfold inI64; omega
    rw [firstI_drop hi, res_eq]
    simp only [B24, sem_br, sem_ask, sem_ret, sem_nxt, PC.holds, need_true, Int.toNat_natCast, Nat.mul_one, dI_cel_map, at_map hi, h1, hin, decide_true, if_true, Int.natCast_nonneg, List.length_map, Nat.le_of_lt hi]
    by_cases h0 : l.getD i 0 = 0
    · simp only [h0, bne_self_eq_false, if_true, Bool.false_eq_true, if_false, stepO_ret, stepO_nxt]
      rw [← ih]; rfl
    · simp only [h0, if_false, bne_iff_ne, ne_eq, not_false_eq_true, if_true]
      rfl
theorem F24_eq (l : List Int) (hl : l.length ≤ 4611686018427387904) : F24 l.length (l.map vI) = some (firstI l) := by
  unfold F24
  rw [res_eq]
  simp only [B24, sem_nxt, stepO_ret, stepO_nxt]
  exact F24_loop l hl l.length 0 (by omega)
theorem F75_2 (a b : Int) : F75 2 [vI a, vI b] = some (firstI [a, b]) := F75_eq [a, b] (by simp)
theorem F75_3 (a b c : Int) : F75 3 [vI a, vI b, vI c] = some (firstI [a, b, c]) := F75_eq [a, b, c] (by simp)
theorem F75_4 (a b c d : Int) : F75 4 [vI a, vI b, vI c, vI d] = some (firstI [a, b, c, d]) := F75_eq [a, b, c, d] (by simp)
theorem F24_2 (a b : Int) : F24 2 [vI a, vI b] = some (firstI [a, b]) := F24_eq [a, b] (by simp)
theorem F24_3 (a b c : Int) : F24 3 [vI a, vI b, vI c] = some (firstI [a, b, c]) := F24_eq [a, b, c] (by simp)
theorem F24_4 (a b c d : Int) : F24 4 [vI a, vI b, vI c, vI d] = some (firstI [a, b, c, d]) := F24_eq [a, b, c, d] (by simp)
theorem F77_eq (b : Bool) (e : Int) : F77 b e = some (whenI b e) := by
  unfold F77; rw [res_eq]; cases b <;> simp [B77, sem_br, sem_ret, stepO_ret, stepO_nxt, whenI]
theorem F82_eq (b : Bool) (e : Int) : F82 b e = some (whenI b e) := by
  unfold F82; rw [res_eq]; cases b <;> simp [B82, sem_br, sem_ret, stepO_ret, stepO_nxt, whenI]
theorem whenI_or (n a b e : Int) : whenI (if decide (n < a) = true then true else decide (n > b)) e = if n < a ∨ n > b then e else 0 := by
  unfold whenI
  by_cases h1 : n < a <;> by_cases h2 : n > b <;> simp [h1, h2]
theorem F89_eq (n a b : Int) : F89 n a b = some (rangeI n a b) := by
  unfold F89; rw [res_eq]
  simp only [B89, sem_triv, F77_eq, sem_bind_some, sem_sees, sem_ret, stepO_ret, stepO_nxt, whenI_or, rangeI]
theorem F34_eq (n a b : Int) : F34 n a b = some (rangeI n a b) := by
  unfold F34; rw [res_eq]
  simp only [B34, sem_triv, F82_eq, sem_bind_some, sem_sees, sem_ret, stepO_ret, stepO_nxt, whenI_or, rangeI]
theorem firstI_zero (x : Int) (l : List Int) : firstI (x :: l) = 0 ↔ x = 0 ∧ firstI l = 0 := by
  show (if x = 0 then firstI l else x) = 0 ↔ _
  by_cases h : x = 0 <;> simp [h]
theorem rangeI_zero {n a b : Int} : rangeI n a b = 0 ↔ a ≤ n ∧ n ≤ b := by
  unfold rangeI; split <;> omega
end Go.Kv
