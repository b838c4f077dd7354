/- Checks of codes and lists, by both. -/
import Derived.Test.YtdelimpnnpifpaaGreatDoorGCk
import Derived.Test.YtdelimpnnpifpaaGreatDoorKIs
set_option linter.all false
namespace Go.Kv
open Go Go.RowKit
set_option maxRecDepth 100000
def firstI : List Int → Int
  | [] => 0
  | x :: xs => if x = 0 then firstI xs else x
def rangeI (n a b : Int) : Int := if n < a ∨ n > b then 3 else 0
def whenI (b : Bool) (e : Int) : Int := if b = true then e else 0
theorem firstI_drop {l : List Int} {i : Nat} (h : i < l.length) : firstI (l.drop i) = if l.getD i 0 = 0 then firstI (l.drop (i + 1)) else l.getD i 0 := by
  rw [dropD 0 h]; rfl
theorem F83_eq (b : Bool) (e : Int) : F83 b e = some (whenI b e) := by
  unfold F83; rw [res_eq]; unfold whenI
  cases b <;> simp [B83, sem_br, sem_ret, stepO_ret]
theorem F25_eq (b : Bool) (e : Int) : F25 b e = some (whenI b e) := by
  unfold F25; rw [res_eq]; unfold whenI
  cases b <;> simp [B25, sem_br, sem_ret, stepO_ret]
theorem orD (p q : Prop) [Decidable p] [Decidable q] : (if decide p = true then true else decide q) = decide (p ∨ q) := by
  by_cases hp : p <;> by_cases hq : q <;> simp [hp, hq]
theorem whenR (n a b : Int) : whenI (decide (n < a ∨ n > b)) 3 = rangeI n a b := by
  unfold whenI rangeI
  by_cases h : n < a ∨ n > b
  · rw [if_pos h, decide_eq_true h]; rfl
  · rw [if_neg h, decide_eq_false h]; rfl
theorem F91_eq (n a b : Int) : F91 n a b = some (rangeI n a b) := by
  unfold F91; rw [res_eq]
  simp only [B91, sem_triv, orD, F83_eq, sem_bind_some, sem_sees, sem_ret, stepO_ret, whenR]
theorem F54_eq (n a b : Int) : F54 n a b = some (rangeI n a b) := by
  unfold F54; rw [res_eq]
  simp only [B54, sem_triv, orD, F25_eq, sem_bind_some, sem_sees, sem_ret, stepO_ret, whenR]
theorem F55_eq (n : Int) : F55 n = some (rangeI n 0 256) := by
  unfold F55; rw [res_eq]
  simp only [B55, F54_eq, sem_bind_some, sem_sees, sem_ret, stepO_ret]
theorem F127_eq (n : Int) : F127 n = some (rangeI n 0 16) := by
  unfold F127; rw [res_eq]
  simp only [B127, F91_eq, sem_bind_some, sem_sees, sem_ret, stepO_ret]
theorem F82_loop (l : List Int) (hl : l.length ≤ 300) : ∀ (k i : Nat), l.length = i + k → res B82 (.c1 l.length (l.map vI) (l.length : Int) (i : Int)) = some (firstI (l.drop i)) := by
  intro k
  induction k with
  | zero =>
    intro i hk
    rw [List.drop_eq_nil_of_le (by omega), res_eq]
    have : ¬ ((i : Int) < (l.length : Int)) := by omega
    simp [B82, sem_br, sem_ret, this, stepO_ret, firstI]
  | succ k IH =>
    intro i hk
    have hi : i < l.length := by omega
    have h1 : (i : Int) < (l.length : Int) := by omega
    have hin : inI64 ((i : Int) + 1) := by unfold inI64; omega
    have ih := IH (i + 1) (by omega)
    rw [firstI_drop hi, res_eq]
    simp only [B82, sem_br, sem_ask, sem_ret, sem_nxt, PC.holds, need_true, Int.toNat_natCast, Nat.mul_one, dI_cel_map, at_map hi, h1, hin, decide_true, if_true, Int.natCast_nonneg, List.length_map, Nat.le_of_lt hi]
    by_cases hz : l.getD i 0 = 0
    · simp only [hz, bne_self_eq_false, Bool.false_eq_true, if_false, if_true, need_true, sem_nxt, stepO_nxt]
      rw [show ((i : Int) + 1) = ((i + 1 : Nat) : Int) by omega, ih]
    · simp only [bne_iff_ne.2 hz, hz, if_true, if_false, stepO_ret]
theorem F82_eq (l : List Int) (hl : l.length ≤ 300) : F82 l.length (l.map vI) = some (firstI l) := by
  unfold F82; rw [res_eq]
  simp only [B82, sem_nxt, stepO_nxt]
  exact F82_loop l hl l.length 0 (by omega)
theorem F82_2 (a b : Int) : F82 2 [vI a, vI b] = some (firstI [a, b]) := F82_eq [a, b] (by simp)
theorem F82_3 (a b c : Int) : F82 3 [vI a, vI b, vI c] = some (firstI [a, b, c]) := F82_eq [a, b, c] (by simp)
theorem F87_loop (l : List Int) (hl : l.length ≤ 300) : ∀ (k i : Nat), l.length = i + k → res B87 (.c1 l.length (l.map vI) (i : Int)) = some (firstI (l.drop i)) := by
  intro k
  induction k with
  | zero =>
    intro i hk
    rw [List.drop_eq_nil_of_le (by omega), res_eq]
    have : ¬ ((i : Int) < (l.length : Int)) := by omega
    simp [B87, sem_br, sem_ret, this, stepO_ret, firstI]
  | succ k IH =>
    intro i hk
    have hi : i < l.length := by omega
    have h1 : (i : Int) < (l.length : Int) := by omega
    have hin : inI64 ((i : Int) + 1) := by unfold inI64; omega
    have ih := IH (i + 1) (by omega)
    rw [firstI_drop hi, res_eq]
    simp only [B87, sem_br, sem_ask, sem_ret, sem_nxt, PC.holds, need_true, Int.toNat_natCast, Nat.mul_one, dI_cel_map, at_map hi, h1, hin, decide_true, if_true, Int.natCast_nonneg, List.length_map, Nat.le_of_lt hi]
    by_cases hz : l.getD i 0 = 0
    · simp only [hz, bne_self_eq_false, Bool.false_eq_true, if_false, if_true, need_true, sem_nxt, stepO_nxt]
      rw [show ((i : Int) + 1) = ((i + 1 : Nat) : Int) by omega, ih]
    · simp only [bne_iff_ne.2 hz, hz, if_true, if_false, stepO_ret]
theorem F39_eq (l : List Int) (hl : l.length ≤ 300) : F39 l.length (l.map vI) = some (firstI l) := by
  have h87 : F87 l.length (l.map vI) = some (firstI l) := by
    unfold F87; rw [res_eq]
    simp only [B87, sem_nxt, stepO_nxt]
    exact F87_loop l hl l.length 0 (by omega)
  unfold F39; rw [res_eq]
  simp only [B39, h87, sem_bind_some, sem_sees, sem_ret, stepO_ret]
theorem F87_2 (a b : Int) : F87 2 [vI a, vI b] = some (firstI [a, b]) := by
  unfold F87; rw [res_eq]
  simp only [B87, sem_nxt, stepO_nxt]
  exact F87_loop [a, b] (by simp) 2 0 (by simp)
theorem F87_3 (a b c : Int) : F87 3 [vI a, vI b, vI c] = some (firstI [a, b, c]) := by
  unfold F87; rw [res_eq]
  simp only [B87, sem_nxt, stepO_nxt]
  exact F87_loop [a, b, c] (by simp) 3 0 (by simp)
theorem F39_2 (a b : Int) : F39 2 [vI a, vI b] = some (firstI [a, b]) := F39_eq [a, b] (by simp)
theorem F39_3 (a b c : Int) : F39 3 [vI a, vI b, vI c] = some (firstI [a, b, c]) := F39_eq [a, b, c] (by simp)
/-- The error of a code. -/
def codeI (n k : Int) : Int := firstI [rangeI n 2 16, rangeI k 1 8, whenI (decide (k ≥ n)) 11]
theorem F27_eq (n k : Int) : F27 n k = some (codeI n k) := by
  unfold F27; rw [res_eq]
  simp only [B27, F91_eq, F83_eq, F82_3, sem_bind_some, sem_sees, sem_ret, stepO_ret]; rfl
theorem F28_eq (n k : Int) : F28 n k = some (codeI n k) := by
  unfold F28; rw [res_eq]
  simp only [B28, F54_eq, F25_eq, F87_3, sem_bind_some, sem_sees, sem_ret, stepO_ret]; rfl
theorem firstI_zero {x : Int} {xs : List Int} : firstI (x :: xs) = 0 ↔ x = 0 ∧ firstI xs = 0 := by
  rw [firstI]
  by_cases h : x = 0
  · simp [h]
  · simp [h]
theorem rangeI_zero {n a b : Int} : rangeI n a b = 0 ↔ a ≤ n ∧ n ≤ b := by
  unfold rangeI; split <;> omega
theorem whenI_zero {b : Bool} {e : Int} (he : e ≠ 0) : whenI b e = 0 ↔ b = false := by
  unfold whenI; cases b <;> simp [he]
theorem codeI_zero {n k : Int} : codeI n k = 0 ↔ (2 ≤ n ∧ n ≤ 16) ∧ (1 ≤ k ∧ k ≤ 8) ∧ k < n := by
  unfold codeI
  rw [firstI_zero, firstI_zero, firstI_zero, rangeI_zero, rangeI_zero, whenI_zero (by decide), decide_eq_false_iff_not]
  have : firstI [] = 0 := rfl
  simp only [this, and_true]
  omega
/-- The error of symbols. -/
def symI (l : List Int) : Int := firstI (l.map fun x => rangeI x 0 16)
theorem symI_zero {l : List Int} : symI l = 0 ↔ okS l := by
  unfold symI okS
  induction l with
  | nil => simp [firstI]
  | cons x l ih =>
    rw [List.map_cons, firstI_zero, rangeI_zero, ih]
    constructor
    · rintro ⟨h1, h2⟩ y hy
      rcases List.mem_cons.1 hy with rfl | hy
      · omega
      · exact h2 y hy
    · intro h
      exact ⟨by have := h x (by simp); omega, fun y hy => h y (by simp [hy])⟩
theorem fits_1 {n : Nat} (h : n ≤ 1000) : fitsN n 8 := ⟨by omega, by omega⟩
theorem F126_loop (l : List Int) (hl : l.length ≤ 300) : ∀ (k i : Nat), l.length = i + k → 0 < i →
    res B126 (.c2 (i - 1) i ((l.take i).map fun x => vI (rangeI x 0 16)) l.length (l.map vI) (l.length : Int) (i : Int) (i - 1)) = some (l.length, (l.map fun x => vI (rangeI x 0 16))) := by
  intro k
  induction k with
  | zero =>
    intro i hk h0
    rw [res_eq, List.take_of_length_le (by omega)]
    have h1 : ¬ ((i : Int) < (l.length : Int)) := by omega
    have h2 : i = l.length := by omega
    simp only [B126, sem_br, sem_ret, h1, decide_false, Bool.false_eq_true, if_false, stepO_ret]
    rw [h2]
  | succ k IH =>
    intro i hk h0
    have hi : i < l.length := by omega
    have h1 : (i : Int) < (l.length : Int) := by omega
    have hin : inI64 ((i : Int) + 1) := by unfold inI64; omega
    have ih := IH (i + 1) (by omega) (by omega)
    have hf := fits_1 (n := i + 1) (by omega)
    rw [res_eq]
    simp only [B126, sem_br, sem_ask, sem_ret, sem_nxt, PC.holds, need_true, Int.toNat_natCast, Nat.mul_one, dI_cel_map, at_map hi, h1, hin, decide_true, if_true, Int.natCast_nonneg, List.length_map, Nat.le_of_lt hi, F127_eq, sem_bind_some, sem_sees, hf, stepO_nxt]
    have e : (l.take (i + 1)).map (fun x => vI (rangeI x 0 16)) = (l.take i).map (fun x => vI (rangeI x 0 16)) ++ [vI (rangeI (l.getD i 0) 0 16)] := by
      rw [List.take_succ, List.map_append, List.getElem?_eq_getElem hi]
      simp [List.getD_eq_getElem?_getD, hi]
    rw [e] at ih
    rw [show ((i : Int) + 1) = ((i + 1 : Nat) : Int) by omega, show i - 1 + 1 = i by omega]
    exact ih
theorem F126_eq (l : List Int) (hl : l.length ≤ 300) : F126 l.length (l.map vI) = some (l.length, (l.map fun x => rangeI x 0 16).map vI) := by
  unfold F126; rw [res_eq]
  simp only [B126, sem_nxt, stepO_nxt]
  rw [res_eq]
  by_cases h : l.length = 0
  · have : l = [] := List.length_eq_zero_iff.1 h
    subst this
    simp [B126, sem_br, sem_ret, stepO_ret]
  · have hi : 0 < l.length := by omega
    have h1 : (0 : Int) < (l.length : Int) := by omega
    have hin : inI64 ((0 : Int) + 1) := by unfold inI64; omega
    have ha := at_map hi
    simp only [B126, sem_br, sem_ask, sem_ret, sem_nxt, PC.holds, need_true, Nat.mul_one, dI_cel_map, h1, hin, decide_true, if_true, List.length_map, F127_eq, sem_bind_some, sem_sees, stepO_nxt, show Int.toNat 0 = 0 from rfl, ha, Nat.zero_le, Int.le_refl]
    have hh := F126_loop l hl (l.length - 1) 1 (by omega) (by omega)
    have e : (l.take 1).map (fun x => vI (rangeI x 0 16)) = [vI (rangeI (l.getD 0 0) 0 16)] := by
      match l, hi with
      | x :: l, _ => rfl
    rw [e] at hh
    rw [List.map_map]
    exact hh
theorem F84_eq (l : List Int) (hl : l.length ≤ 300) : F84 l.length (l.map vI) = some (symI l) := by
  have h2 := F82_eq (l.map fun x => rangeI x 0 16) (by simpa using hl)
  rw [List.length_map] at h2
  unfold F84; rw [res_eq]
  simp only [B84, F126_eq l hl, sem_bind_some, sem_sees, h2, sem_ret, stepO_ret]; rfl
theorem F78_loop (l : List Int) (hl : l.length ≤ 300) : ∀ (k i : Nat), l.length = i + k → res B78 (.c1 l.length (l.map vI) (i : Int)) = some (symI (l.drop i)) := by
  intro k
  induction k with
  | zero =>
    intro i hk
    rw [List.drop_eq_nil_of_le (by omega), res_eq]
    have : ¬ ((i : Int) < (l.length : Int)) := by omega
    simp [B78, sem_br, sem_ret, this, stepO_ret, symI, firstI]
  | succ k IH =>
    intro i hk
    have hi : i < l.length := by omega
    have h1 : (i : Int) < (l.length : Int) := by omega
    have hin : inI64 ((i : Int) + 1) := by unfold inI64; omega
    have ih := IH (i + 1) (by omega)
    have e : symI (l.drop i) = if rangeI (l.getD i 0) 0 16 = 0 then symI (l.drop (i + 1)) else rangeI (l.getD i 0) 0 16 := by
      rw [dropD 0 hi]; rfl
    rw [e, res_eq]
    simp only [B78, sem_br, sem_ask, sem_ret, sem_nxt, PC.holds, need_true, Int.toNat_natCast, Nat.mul_one, dI_cel_map, at_map hi, h1, hin, decide_true, if_true, Int.natCast_nonneg, List.length_map, Nat.le_of_lt hi]
    by_cases h2 : l.getD i 0 < 0
    · have hr : rangeI (l.getD i 0) 0 16 = 3 := by unfold rangeI; rw [if_pos (by omega)]
      simp only [h2, decide_true, if_true, stepO_ret, hr]; rfl
    · by_cases h3 : l.getD i 0 ≥ 17
      · have hr : rangeI (l.getD i 0) 0 16 = 3 := by unfold rangeI; rw [if_pos (by omega)]
        simp only [h2, h3, decide_true, decide_false, Bool.false_eq_true, if_false, if_true, stepO_ret, hr, show (false == false) = true from rfl, need_true]; rfl
      · have hr : rangeI (l.getD i 0) 0 16 = 0 := by unfold rangeI; rw [if_neg (by omega)]
        simp only [h2, h3, decide_false, Bool.false_eq_true, if_false, if_true, stepO_nxt, hr, show (false == false) = true from rfl, need_true]
        rw [show ((i : Int) + 1) = ((i + 1 : Nat) : Int) by omega, ih]
theorem F78_eq (l : List Int) (hl : l.length ≤ 300) : F78 l.length (l.map vI) = some (symI l) := by
  unfold F78; rw [res_eq]
  simp only [B78, sem_nxt, stepO_nxt]
  exact F78_loop l hl l.length 0 (by omega)
/-- The error of a list without a code. -/
def looseI (l : List Int) : Int := firstI [whenI (decide ((l.length : Int) > 256)) 5, symI l]
theorem F105_eq (l : List Int) (hl : l.length ≤ 300) : F105 l.length (l.map vI) = some (looseI l) := by
  unfold F105; rw [res_eq]
  simp only [B105, F83_eq, F84_eq l hl, F82_2, sem_bind_some, sem_sees, sem_ret, stepO_ret]; rfl
theorem F56_eq (l : List Int) (hl : l.length ≤ 300) : F56 l.length (l.map vI) = some (looseI l) := by
  unfold F56; rw [res_eq]
  simp only [B56, F25_eq, F78_eq l hl, F87_2, sem_bind_some, sem_sees, sem_ret, stepO_ret]; rfl
def shortL (n : Nat) : Prop := n ≤ 40 ∨ n = 257
instance (n : Nat) : Decidable (shortL n) := by unfold shortL; infer_instance
theorem F14_eq (n : Nat) (l : List DV) : F14 n l = some (decide (shortL n)) := by
  unfold F14; rw [res_eq]
  simp only [B14, sem_triv, sem_ret, stepO_ret]
  congr 1
  unfold shortL
  by_cases h : n ≤ 40
  · have : ((n : Int) ≤ 40) := by omega
    simp [h, this]
  · have h2 : ¬ ((n : Int) ≤ 40) := by omega
    by_cases h3 : n = 257
    · subst h3; rfl
    · have h4 : ¬ ((n : Int) = 257) := by omega
      simp [h, h2, h3, h4]
theorem F17_eq (l : List Int) (hl : l.length ≤ 300) : F17 l.length (l.map vI) = some (l.length, l.map vI) := by
  unfold F17; rw [res_eq]
  by_cases h : l.length = 0
  · have : l = [] := List.length_eq_zero_iff.1 h
    subst this
    simp [B17, sem_br, sem_ask, PC.holds, need_true, sem_ret, stepO_ret]
  · have h1 : l.length.beq 0 = false := by
      rw [← Bool.not_eq_true, Nat.beq_eq]; exact h
    have h2 : 0 < l.length := by omega
    have hf := fits_1 (n := l.length) (by omega)
    simp only [B17, sem_br, sem_ask, PC.holds, h1, Bool.false_eq_true, if_false, need_true, h2, List.length_map, Nat.mul_one, hf, sem_ret, stepO_ret]
end Go.Kv
