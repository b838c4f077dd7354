/- The law's own sums of the cycles, in plain Lean. -/
import Derived.Test.YtalhonodbajndaaDoorKS1
namespace Go.Kv
set_option linter.unusedVariables false
set_option linter.unusedSimpArgs false
open Go Go.RowKit
set_option maxRecDepth 100000
def addAt (S : List Int) (k : Nat) (e : Int) : List Int := S.set k (S.getD k 0 + e)
theorem addAt_len (S : List Int) (k : Nat) (e : Int) : (addAt S k e).length = S.length := by unfold addAt; rw [List.length_set]
theorem addAt_get {S : List Int} (hl : S.length = 6) {k j : Nat} (hk : k < 6) (e : Int) : (addAt S k e).getD j 0 = S.getD j 0 + (if j = k then e else 0) := by
  unfold addAt
  simp only [List.getD_eq_getElem?_getD, List.getElem?_set, hl, hk, if_true]
  by_cases h : k = j
  · subst h; simp
  · simp [h, show ¬ (j = k) from fun e => h e.symm]
/-- The law's sums of a cycle are what the registers count. -/
theorem law_sum {S : List Int} (hl : S.length = 6) {p q : Int} (hq : q ≠ 0) {j : Nat} :
    (addAt (addAt S (sideN p) (absI p)) (1 + qd p q) (absI q)).getD j 0 = S.getD j 0 + ctr p q j := by
  have h1 : sideN p < 6 := by rcases side_cases p with e | e <;> omega
  have h2 : 1 + qd p q < 6 := by have := qd_bd p q; omega
  rw [addAt_get (by rw [addAt_len, hl]) h2, addAt_get hl h1]
  unfold ctr
  simp only [ne_eq, hq, not_false_eq_true, true_and, Int.add_assoc]
theorem law_other {S : List Int} (hl : S.length = 6) {p q : Int} (hq : q ≠ 0) {j : Nat} (hj : j < 6) :
    (addAt (addAt S (sw (sideN p)) (absI p)) (sw (1 + qd p q)) (absI q)).getD j 0 = S.getD j 0 + ctr p q (sw j) := by
  have h1 : sw (sideN p) < 6 := by rcases side_cases p with e | e <;> rw [e] <;> decide
  have h2 : sw (1 + qd p q) < 6 := by rcases qd_cases p q with e | e | e | e <;> rw [e] <;> decide
  rw [addAt_get (by rw [addAt_len, hl]) h2, addAt_get hl h1]
  unfold ctr
  simp only [ne_eq, hq, not_false_eq_true, true_and, Int.add_assoc]
  rcases side_cases p with e | e <;> rcases qd_cases p q with f | f | f | f <;> rw [e, f] <;> unfold sw <;>
    (match j, hj with
     | 0, _ => simp
     | 1, _ => simp
     | 2, _ => simp
     | 3, _ => simp
     | 4, _ => simp
     | 5, _ => simp)
theorem first_step (a : Int) (l : List Int) : firstI (a :: l) = if a = 0 then firstI l else a := rfl
theorem F25r (u r : Int) : F25 2 [vI (rangeI u 0 999999), vI (rangeI r 0 999999)] = some (regI u r) := F25_2 _ _
theorem F6_eq (a0 a1 a2 a3 a4 a5 a6 a7 a8 a9 a10 a11 : Int) : F6 a0 a1 a2 a3 a4 a5 a6 a7 a8 a9 a10 a11 = some (metI [a0, a1, a2, a3, a4, a5, a6, a7, a8, a9, a10, a11]) := by
  have e : metI [a0, a1, a2, a3, a4, a5, a6, a7, a8, a9, a10, a11] = firstI [regI a0 a1, regI a2 a3, regI a4 a5, regI a6 a7, regI a8 a9, regI a10 a11] := rfl
  have b (x : Int) (h : ¬ x = 0) : (x != 0) = true := by simp [h]
  rw [e]
  unfold F6; rw [res_eq]
  simp only [B6, F26_eq, F25r, sem_bind_some, sem_sees, sem_br, sem_ret]
  by_cases h0 : regI a0 a1 = 0
  · by_cases h1 : regI a2 a3 = 0
    · by_cases h2 : regI a4 a5 = 0
      · by_cases h3 : regI a6 a7 = 0
        · by_cases h4 : regI a8 a9 = 0
          · by_cases h5 : regI a10 a11 = 0
            · simp only [h0, h1, h2, h3, h4, h5, first_step, fnil, bne_self_eq_false, Bool.false_eq_true, if_false, if_true, stepO_ret]
            · simp only [h0, h1, h2, h3, h4, h5, b _ h5, first_step, bne_self_eq_false, Bool.false_eq_true, if_false, if_true, stepO_ret]
          · simp only [h0, h1, h2, h3, h4, b _ h4, first_step, bne_self_eq_false, Bool.false_eq_true, if_false, if_true, stepO_ret]
        · simp only [h0, h1, h2, h3, b _ h3, first_step, bne_self_eq_false, Bool.false_eq_true, if_false, if_true, stepO_ret]
      · simp only [h0, h1, h2, b _ h2, first_step, bne_self_eq_false, Bool.false_eq_true, if_false, if_true, stepO_ret]
    · simp only [h0, h1, b _ h1, first_step, bne_self_eq_false, Bool.false_eq_true, if_false, if_true, stepO_ret]
  · simp only [h0, b _ h0, first_step, Bool.false_eq_true, if_false, if_true, stepO_ret]
theorem F9_eq (a0 a1 a2 a3 a4 a5 a6 a7 a8 a9 a10 a11 : Int) : F9 a0 a1 a2 a3 a4 a5 a6 a7 a8 a9 a10 a11 = some (a0, a1, a2, a3, a4, a5, a6, a7, a8, a9, a10, a11) := by
  unfold F9; rw [res_eq]; simp only [B9, sem_ret, stepO_ret]
theorem F11_eq (a0 a1 a2 a3 a4 a5 a6 a7 a8 a9 a10 a11 : Int) : F11 a0 a1 a2 a3 a4 a5 a6 a7 a8 a9 a10 a11 = some (a0, a1, a2, a3, a4, a5, a6, a7, a8, a9, a10, a11) := by
  unfold F11; rw [res_eq]; simp only [B11, sem_ret, stepO_ret]
theorem F10_eq {L : List Int} (h : L.length ≤ 1000) : F10 L.length (L.map vF) = some (L.length, L.map vF) := by
  unfold F10; rw [res_eq]
  cases L with
  | nil => simp only [B10, List.length_nil, List.map_nil, sem_br, sem_ask, sem_ret, PC.holds, need_true, if_true, stepO_ret, show (Nat.beq 0 0) = true from rfl]
  | cons x L =>
    have h1 : ((x :: L).length.beq 0) = false := rfl
    have h2 : 0 < (x :: L).length := by simp
    have h3 : ((x :: L).map vF).length = (x :: L).length * 1 := by simp
    have h4 : fitsN (x :: L).length 4 := by unfold fitsN; omega
    simp only [B10, h1, h2, h3, h4, sem_br, sem_ask, sem_ret, PC.holds, need_true, Bool.false_eq_true, if_false, stepO_ret]
theorem F69_eq {u r : Int} (h : (0 ≤ u ∧ u ≤ 999999) ∧ (0 ≤ r ∧ r ≤ 999999)) : F69 u r = some (u * 1000000 + r) := by
  have i1 : inI64 (u * 1000000) := by unfold inI64; omega
  have i2 : inI64 (u * 1000000 + r) := by unfold inI64; omega
  unfold F69; rw [res_eq]
  simp only [B69, sem_ask, sem_ret, PC.holds, i1, i2, need_true, stepO_ret]
theorem F12_eq {u r u' r' : Int} (h : (0 ≤ u ∧ u ≤ 999999) ∧ (0 ≤ r ∧ r ≤ 999999)) (h' : (0 ≤ u' ∧ u' ≤ 999999) ∧ (0 ≤ r' ∧ r' ≤ 999999)) : F12 u r u' r' = some (difI u r u' r', 0) := by
  have i1 : inI64 (u' * 1000000 + r' - (u * 1000000 + r)) := by unfold inI64; omega
  have i2 : inI64 (u' * 1000000 + r' - (u * 1000000 + r) + 1000000000000) := by unfold inI64; omega
  have tm : (u' * 1000000 + r' - (u * 1000000 + r) + 1000000000000).tmod 1000000000000 = difI u r u' r' := Int.tmod_eq_emod_of_nonneg (by omega)
  have e43 : F43 u' r' u r = some (difI u r u' r') := by
    unfold F43; rw [res_eq]
    simp only [B43, F69_eq h, F69_eq h', sem_bind_some, sem_sees, sem_ask, sem_ret, PC.holds, i1, i2, need_true, tm, stepO_ret]
  have f00 : firstI [0, 0] = 0 := rfl
  unfold F12; rw [res_eq]
  simp only [B12, F42_eq, regI_zero.2 h, regI_zero.2 h', F35_2, f00, e43, sem_br, sem_bind_some, sem_sees, sem_ret, bne_self_eq_false, Bool.false_eq_true, if_false, stepO_ret]
/-! lists of integers in memory -/
def aiL (S : List Int) : List AV := S.map fun n => AV.d (DV.v (Value.int IntKind.i64 n))
theorem aiL_len (S : List Int) : (aiL S).length = S.length := by unfold aiL; rw [List.length_map]
theorem aiL_get {S : List Int} {k : Nat} (h : k < S.length) : (aiL S)[k]? = some (AV.d (DV.v (Value.int IntKind.i64 (S.getD k 0)))) := by
  unfold aiL
  rw [List.getElem?_map, List.getD_eq_getElem?_getD, List.getElem?_eq_getElem h]
  rfl
theorem aiL_cel {S : List Int} {k : Nat} (h : k < S.length) : dI (celA (aiL S) k) = S.getD k 0 := by
  unfold celA
  rw [List.getD_eq_getElem?_getD, aiL_get h]
  rfl
theorem aiL_splice {S : List Int} {k : Nat} (h : k < S.length) (e : Int) : spliceA (aiL S) k [AV.d (DV.v (Value.int IntKind.i64 e))] = aiL (S.set k e) := by
  unfold spliceA aiL
  rw [List.map_set]
  apply List.ext_getElem?
  intro i
  by_cases hi : i < k
  · rw [List.getElem?_append_left (by simp; omega), List.getElem?_append_left (by simp; omega), List.getElem?_take_of_lt hi, List.getElem?_set_ne (by omega)]
  · by_cases he : i = k
    · subst he
      rw [List.getElem?_append_left (by simp; omega), List.getElem?_append_right (by simp; omega), List.getElem?_set_self (by simpa using h)]
      simp [Nat.min_eq_left (Nat.le_of_lt h)]
    · rw [List.getElem?_append_right (by simp; omega), List.getElem?_drop, List.getElem?_set_ne (by omega)]
      congr 1
      simp; omega
theorem aiL_ref (n : Nat) : ∀ S : List Int, refBs n (aiL S) = true
  | [] => rfl
  | x :: S => by
    show (refB n (AV.d (DV.v (Value.int IntKind.i64 x))) && refBs n (aiL S)) = true
    rw [aiL_ref n S]; rfl
theorem aiL_refK (n : Nat) (t : TypeId) (S : List Int) : refK n (ABlk.cells (aiL S) t) = true := aiL_ref n S
end Go.Kv
