/- What the clocks' functions come to, in plain Lean. -/
import Derived.Test.YtnafdaccamncdaaGA
import Derived.Test.YtnafdaccamncdaaGB
namespace Go.Kv
set_option linter.unusedVariables false
set_option linter.unusedSimpArgs false
open Go Go.RowKit
def firstI : List Int → Int
  | [] => 0
  | x :: xs => if x = 0 then firstI xs else x
def whenI (b : Bool) (e : Int) : Int := if b then e else 0
def rangeI (n a b : Int) : Int := if n < a ∨ n > b then 3 else 0

theorem dI_cel_map (l : List Int) (i : Nat) : dI (cel (l.map vI) i) = l.getD i 0 := by
  unfold cel
  simp only [List.getD_eq_getElem?_getD, List.getElem?_map]
  cases l[i]? <;> rfl
theorem at_map {l : List Int} {i : Nat} (h : i < l.length) : Option.map AV.d (List.drop i (l.map vI))[0]? = some (AV.d (vI (l.getD i 0))) := by
  simp [List.getElem?_drop, h, List.getD_eq_getElem?_getD]
theorem firstI_drop {l : List Int} {i : Nat} (h : i < l.length) : firstI (l.drop i) = if l.getD i 0 = 0 then firstI (l.drop (i + 1)) else l.getD i 0 := by
  rw [List.drop_eq_getElem_cons h]
  simp [firstI, List.getD_eq_getElem?_getD, h]

theorem F14_loop (l : List Int) (hl : l.length ≤ 4611686018427387904) : ∀ (k i : Nat), l.length = i + k → res B14 (.c1 l.length (l.map vI) (l.length : Int) (i : Int)) = some (firstI (l.drop i))
  | 0, i, hk => by
    rw [List.drop_eq_nil_of_le (by omega), res_eq]
    have : ¬ ((i : Int) < (l.length : Int)) := by omega
    simp [B14, sem_br, sem_ret, this, stepO_ret, stepO_nxt, firstI]
  | k + 1, i, hk => by
    have hi : i < l.length := by omega
    have h1 : (i : Int) < (l.length : Int) := by omega
    have ih := F14_loop l hl k (i + 1) (by omega)
    have hin : inI64 ((i : Int) + 1) := by unfold inI64; omega
    rw [firstI_drop hi, res_eq]
    simp only [B14, sem_br, sem_ask, sem_ret, sem_nxt, PC.holds, need_true, Int.toNat_natCast, Nat.mul_one, dI_cel_map, at_map hi, h1, hin, decide_true, if_true, Int.natCast_nonneg, List.length_map, Nat.le_of_lt hi]
    by_cases h0 : l.getD i 0 = 0
    · simp only [h0, bne_self_eq_false, if_true, Bool.false_eq_true, if_false, stepO_ret, stepO_nxt]
      rw [← ih]; rfl
    · simp only [h0, if_false, bne_iff_ne, ne_eq, not_false_eq_true, if_true, stepO_ret, stepO_nxt]
theorem F14_eq (l : List Int) (hl : l.length ≤ 4611686018427387904) : F14 l.length (l.map vI) = some (firstI l) := by
  unfold F14
  rw [res_eq]
  simp only [B14, sem_nxt, stepO_nxt]
  exact F14_loop l hl l.length 0 (by omega)

theorem F23_loop (l : List Int) (hl : l.length ≤ 4611686018427387904) : ∀ (k i : Nat), l.length = i + k → res B23 (.c1 l.length (l.map vI) (l.length : Int) (i : Int)) = some (firstI (l.drop i))
  | 0, i, hk => by
    rw [List.drop_eq_nil_of_le (by omega), res_eq]
    have : ¬ ((i : Int) < (l.length : Int)) := by omega
    simp [B23, sem_br, sem_ret, this, stepO_ret, stepO_nxt, firstI]
  | k + 1, i, hk => by
    have hi : i < l.length := by omega
    have h1 : (i : Int) < (l.length : Int) := by omega
    have ih := F23_loop l hl k (i + 1) (by omega)
    have hin : inI64 ((i : Int) + 1) := by unfold inI64; omega
    rw [firstI_drop hi, res_eq]
    simp only [B23, sem_br, sem_ask, sem_ret, sem_nxt, PC.holds, need_true, Int.toNat_natCast, Nat.mul_one, dI_cel_map, at_map hi, h1, hin, decide_true, if_true, Int.natCast_nonneg, List.length_map, Nat.le_of_lt hi]
    by_cases h0 : l.getD i 0 = 0
    · simp only [h0, bne_self_eq_false, if_true, Bool.false_eq_true, if_false, stepO_ret, stepO_nxt]
      rw [← ih]; rfl
    · simp only [h0, if_false, bne_iff_ne, ne_eq, not_false_eq_true, if_true, stepO_ret, stepO_nxt]
theorem F23_eq (l : List Int) (hl : l.length ≤ 4611686018427387904) : F23 l.length (l.map vI) = some (firstI l) := by
  unfold F23
  rw [res_eq]
  simp only [B23, sem_nxt, stepO_nxt]
  exact F23_loop l hl l.length 0 (by omega)

theorem F14_2 (a b : Int) : F14 2 [vI a, vI b] = some (firstI [a, b]) := F14_eq [a, b] (by simp)
theorem F14_3 (a b c : Int) : F14 3 [vI a, vI b, vI c] = some (firstI [a, b, c]) := F14_eq [a, b, c] (by simp)
theorem F14_4 (a b c d : Int) : F14 4 [vI a, vI b, vI c, vI d] = some (firstI [a, b, c, d]) := F14_eq [a, b, c, d] (by simp)
theorem F23_2 (a b : Int) : F23 2 [vI a, vI b] = some (firstI [a, b]) := F23_eq [a, b] (by simp)
theorem F23_3 (a b c : Int) : F23 3 [vI a, vI b, vI c] = some (firstI [a, b, c]) := F23_eq [a, b, c] (by simp)
theorem F23_4 (a b c d : Int) : F23 4 [vI a, vI b, vI c, vI d] = some (firstI [a, b, c, d]) := F23_eq [a, b, c, d] (by simp)
theorem F17_eq (b : Bool) (e : Int) : F17 b e = some (whenI b e) := by
  unfold F17; rw [res_eq]; cases b <;> simp [B17, sem_br, sem_ret, stepO_ret, stepO_nxt, whenI]
theorem F26_eq (b : Bool) (e : Int) : F26 b e = some (whenI b e) := by
  unfold F26; rw [res_eq]; cases b <;> simp [B26, sem_br, sem_ret, stepO_ret, stepO_nxt, whenI]
theorem whenI_or (n a b e : Int) : whenI (if decide (n < a) = true then true else decide (n > b)) e = if n < a ∨ n > b then e else 0 := by
  unfold whenI
  by_cases h1 : n < a <;> by_cases h2 : n > b <;> simp [h1, h2]
theorem F45_eq (n a b : Int) : F45 n a b = some (rangeI n a b) := by
  unfold F45; rw [res_eq]
  simp only [B45, sem_triv, F17_eq, sem_bind_some, sem_sees, sem_ret, stepO_ret, stepO_nxt, whenI_or, rangeI]
theorem F25_eq (n a b : Int) : F25 n a b = some (rangeI n a b) := by
  unfold F25; rw [res_eq]
  simp only [B25, sem_triv, F26_eq, sem_bind_some, sem_sees, sem_ret, stepO_ret, stepO_nxt, whenI_or, rangeI]
theorem firstI_zero (x : Int) (l : List Int) : firstI (x :: l) = 0 ↔ x = 0 ∧ firstI l = 0 := by
  show (if x = 0 then firstI l else x) = 0 ↔ _
  by_cases h : x = 0 <;> simp [h]
theorem rangeI_zero {n a b : Int} : rangeI n a b = 0 ↔ a ≤ n ∧ n ≤ b := by
  unfold rangeI; split <;> omega
end Go.Kv
