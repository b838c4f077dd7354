/- What a meter counts, in plain Lean. -/
import Derived.Test.YtnafdaccamncdaaKzP
import Derived.Test.YtnafdaccamncdaaKF
namespace Go.Kv
set_option linter.unusedVariables false
set_option linter.unusedSimpArgs false
open Go Go.RowKit
set_option maxRecDepth 100000
theorem fnil : firstI [] = 0 := rfl
def regI (u r : Int) : Int := firstI [rangeI u 0 999999, rangeI r 0 999999]
theorem regI_zero {u r : Int} : regI u r = 0 ↔ (0 ≤ u ∧ u ≤ 999999) ∧ (0 ≤ r ∧ r ≤ 999999) := by
  unfold regI
  simp only [firstI_zero, rangeI_zero, fnil, and_true]
theorem F14_5 (a b c d e : Int) : F14 5 [vI a, vI b, vI c, vI d, vI e] = some (firstI [a, b, c, d, e]) := F14_eq [a, b, c, d, e] (by simp)
theorem F14_6 (a b c d e f : Int) : F14 6 [vI a, vI b, vI c, vI d, vI e, vI f] = some (firstI [a, b, c, d, e, f]) := F14_eq [a, b, c, d, e, f] (by simp)
theorem F21_eq (u r : Int) : F21 u r = some (regI u r) := by
  unfold F21; rw [res_eq]
  simp only [B21, F45_eq, F14_2, sem_bind_some, sem_sees, sem_ret, stepO_ret, regI]
def metI (A : List Int) : Int := firstI [regI (A.getD 0 0) (A.getD 1 0), regI (A.getD 2 0) (A.getD 3 0), regI (A.getD 4 0) (A.getD 5 0), regI (A.getD 6 0) (A.getD 7 0), regI (A.getD 8 0) (A.getD 9 0), regI (A.getD 10 0) (A.getD 11 0)]
theorem F15_eq (a0 a1 a2 a3 a4 a5 a6 a7 a8 a9 a10 a11 : Int) : F15 a0 a1 a2 a3 a4 a5 a6 a7 a8 a9 a10 a11 = some (metI [a0, a1, a2, a3, a4, a5, a6, a7, a8, a9, a10, a11]) := by
  unfold F15; rw [res_eq]
  simp only [B15, F21_eq, F14_6, sem_bind_some, sem_sees, sem_ret, stepO_ret]
  rfl
def okM (A : List Int) : Prop := ∀ k, k < 6 → (0 ≤ A.getD (k * 2) 0 ∧ A.getD (k * 2) 0 ≤ 999999) ∧ (0 ≤ A.getD (k * 2 + 1) 0 ∧ A.getD (k * 2 + 1) 0 ≤ 999999)
theorem metI_ok {A : List Int} (h : metI A = 0) : okM A := by
  unfold metI at h
  simp only [firstI_zero, regI_zero, fnil, and_true] at h
  obtain ⟨h0, h1, h2, h3, h4, h5⟩ := h
  intro k hk
  match k, hk with
  | 0, _ => exact h0
  | 1, _ => exact h1
  | 2, _ => exact h2
  | 3, _ => exact h3
  | 4, _ => exact h4
  | 5, _ => exact h5
theorem ok_metI {A : List Int} (h : okM A) : metI A = 0 := by
  unfold metI
  simp only [firstI_zero, regI_zero, fnil, and_true]
  exact ⟨h 0 (by decide), h 1 (by decide), h 2 (by decide), h 3 (by decide), h 4 (by decide), h 5 (by decide)⟩
/-- A register that has counted an energy. -/
def upU (u r e : Int) : Int := (u + (r + e) / 1000000) % 1000000
def upV (r e : Int) : Int := (r + e) % 1000000
theorem F19_eq {u r e : Int} (h : (0 ≤ u ∧ u ≤ 999999) ∧ (0 ≤ r ∧ r ≤ 999999)) (he : 0 ≤ e ∧ e ≤ 1000000000000) : F19 u r e = some (upU u r e, upV r e) := by
  have t1 : (r + e).tdiv 1000000 = (r + e) / 1000000 := Int.tdiv_eq_ediv_of_nonneg (by omega)
  have t2 : (r + e).tmod 1000000 = (r + e) % 1000000 := Int.tmod_eq_emod_of_nonneg (by omega)
  have t3 : (u + (r + e) / 1000000).tmod 1000000 = (u + (r + e) / 1000000) % 1000000 := Int.tmod_eq_emod_of_nonneg (by omega)
  unfold F19; rw [res_eq]
  simp only [B19, sem_ask, sem_ret, PC.holds, t1, t2, t3]
  rw [need_of (by unfold inI64; omega), need_of (by unfold inI64; omega), need_of (by unfold inI64; omega)]
  rfl
def updL (A : List Int) (k : Nat) (e : Int) : List Int := (A.set (k * 2) (upU (A.getD (k * 2) 0) (A.getD (k * 2 + 1) 0) e)).set (k * 2 + 1) (upV (A.getD (k * 2 + 1) 0) e)
theorem updL_len (A : List Int) (k : Nat) (e : Int) : (updL A k e).length = A.length := by unfold updL; rw [List.length_set, List.length_set]
theorem updL_ok {A : List Int} (h : okM A) (hl : A.length = 12) (k : Nat) (e : Int) : okM (updL A k e) := by
  intro j hj
  obtain ⟨h1, h2⟩ := h j hj
  unfold updL
  simp only [List.getD_eq_getElem?_getD, List.getElem?_set, List.length_set, hl] at h1 h2 ⊢
  by_cases hk : k = j
  · subst hk
    simp only [show ¬ (k * 2 + 1 = k * 2) by omega, if_false, if_true, show k * 2 < 12 by omega, show k * 2 + 1 < 12 by omega, Option.getD_some]
    unfold upU upV
    omega
  · simp only [show ¬ (k * 2 + 1 = j * 2) by omega, show ¬ (k * 2 = j * 2) by omega, show ¬ (k * 2 + 1 = j * 2 + 1) by omega, show ¬ (k * 2 = j * 2 + 1) by omega, if_false]
    exact ⟨h1, h2⟩
theorem celA_aI (A : List Int) (i : Nat) : dI (celA (A.map aI) i) = A.getD i 0 := by
  unfold celA
  simp only [List.getD_eq_getElem?_getD, List.getElem?_map]
  cases A[i]? <;> rfl
theorem rowAI {A : List Int} {i : Nat} (h : i + 2 ≤ A.length) : List.take 2 (List.drop i (A.map aI)) = [AV.d (DV.v (Value.int IntKind.i64 (A.getD i 0))), AV.d (DV.v (Value.int IntKind.i64 (A.getD (i + 1) 0)))] := by
  rw [List.drop_eq_getElem_cons (by rw [List.length_map]; omega), List.drop_eq_getElem_cons (by rw [List.length_map]; omega)]
  simp [List.getD_eq_getElem?_getD, show i < A.length by omega, show i + 1 < A.length by omega]
theorem spl_set (A : List Int) (i : Nat) (u r : Int) (h : i + 2 ≤ A.length) : spliceA (A.map aI) i [AV.d (DV.v (Value.int IntKind.i64 u)), AV.d (DV.v (Value.int IntKind.i64 r))] = ((A.set i u).set (i + 1) r).map aI := by
  unfold spliceA
  apply List.ext_getElem?
  intro j
  simp only [List.length_cons, List.length_nil, List.getElem?_map, List.getElem?_set, List.length_set]
  by_cases h1 : j < i
  · rw [List.append_assoc, List.getElem?_append_left (by simp; omega), List.getElem?_take_of_lt h1]
    simp [show ¬ (i + 1 = j) by omega, show ¬ (i = j) by omega]
  · by_cases h2 : j < i + 2
    · rw [List.getElem?_append_left (by simp; omega), List.getElem?_append_right (by simp; omega)]
      rw [List.length_take, List.length_map, show min i A.length = i by omega]
      by_cases h3 : j = i
      · subst h3
        simp [show ¬ (j + 1 = j) by omega, show j < A.length by omega]
      · have : j = i + 1 := by omega
        subst this
        simp [show i + 1 < A.length by omega]
    · rw [List.getElem?_append_right (by simp; omega)]
      simp only [List.length_append, List.length_take, List.length_map, List.length_cons, List.length_nil, List.getElem?_drop]
      rw [show i + (0 + 1 + 1) + (j - (min i A.length + (0 + 1 + 1))) = j by omega]
      simp [show ¬ (i + 1 = j) by omega, show ¬ (i = j) by omega]
theorem spl_upd {A : List Int} {k : Nat} (e : Int) (h : k * 2 + 2 ≤ A.length) : spliceA (A.map aI) (k * 2) [AV.d (DV.v (Value.int IntKind.i64 (upU (A.getD (k * 2) 0) (A.getD (k * 2 + 1) 0) e))), AV.d (DV.v (Value.int IntKind.i64 (upV (A.getD (k * 2 + 1) 0) e)))] = (updL A k e).map aI := spl_set A _ _ _ h
theorem refK_aI (k : Nat) (A : List Int) (t : TypeId) : refK k (.cells (A.map aI) t) = true := by
  unfold refK
  induction A with
  | nil => rfl
  | cons x A ih => simpa [refBs, refB] using ih
theorem row12 {A : List Int} (h : A.length = 12) : List.take 12 (List.drop 0 (A.map aI)) = [AV.d (DV.v (Value.int IntKind.i64 (A.getD 0 0))), AV.d (DV.v (Value.int IntKind.i64 (A.getD 1 0))), AV.d (DV.v (Value.int IntKind.i64 (A.getD 2 0))), AV.d (DV.v (Value.int IntKind.i64 (A.getD 3 0))), AV.d (DV.v (Value.int IntKind.i64 (A.getD 4 0))), AV.d (DV.v (Value.int IntKind.i64 (A.getD 5 0))), AV.d (DV.v (Value.int IntKind.i64 (A.getD 6 0))), AV.d (DV.v (Value.int IntKind.i64 (A.getD 7 0))), AV.d (DV.v (Value.int IntKind.i64 (A.getD 8 0))), AV.d (DV.v (Value.int IntKind.i64 (A.getD 9 0))), AV.d (DV.v (Value.int IntKind.i64 (A.getD 10 0))), AV.d (DV.v (Value.int IntKind.i64 (A.getD 11 0)))] := by
  match A, h with
  | [a0, a1, a2, a3, a4, a5, a6, a7, a8, a9, a10, a11], _ => rfl
/-! a cycle -/
def qd (p q : Int) : Nat := if p ≥ 0 then (if q ≥ 0 then 1 else 4) else (if q ≥ 0 then 2 else 3)
theorem qd_bd (p q : Int) : 1 ≤ qd p q ∧ qd p q ≤ 4 := by
  unfold qd; split <;> split <;> decide
theorem F20_eq (p q : Int) (h : q ≠ 0) : F20 p q = some ((qd p q : Nat) : Int) := by
  have hb : (q == 0) = false := by simpa using h
  unfold F20; rw [res_eq]
  unfold qd
  simp only [B20, hb, Bool.false_and, Bool.and_false, if_true, sem_br, sem_ask, sem_triv, sem_ret, PC.holds, Bool.false_eq_true, if_false]
  by_cases h1 : p ≥ 0 <;> by_cases h2 : q ≥ 0
  · simp only [h1, h2, decide_true, if_true, stepO_ret]; rfl
  · simp only [h1, h2, decide_true, decide_false, if_true, if_false, Bool.false_eq_true, need_true, beq_self_eq_true, show ¬ (p < 0) by omega, stepO_ret]; rfl
  · simp only [h1, h2, decide_true, decide_false, if_true, if_false, Bool.false_eq_true, stepO_ret]; rfl
  · simp only [h1, h2, decide_true, decide_false, if_true, if_false, Bool.false_eq_true, show p < 0 by omega, stepO_ret]; rfl
def absI (x : Int) : Int := if -x > x then -x else x
theorem absI_bd {x : Int} (h : -1000000000 * 20 ≤ x ∧ x ≤ 1000000000 * 20) : 0 ≤ absI x ∧ absI x ≤ 1000000000000 := by
  unfold absI; split <;> omega
def sideN (p : Int) : Nat := if p < 0 then 1 else 0
def cyc (A : List Int) (p q : Int) : List Int := if q = 0 then updL A (sideN p) (absI p) else updL (updL A (sideN p) (absI p)) (1 + qd p q) (absI q)
theorem cyc_len (A : List Int) (p q : Int) : (cyc A p q).length = A.length := by
  unfold cyc; split <;> simp [updL_len]
theorem cyc_ok {A : List Int} (h : okM A) (hl : A.length = 12) (p q : Int) : okM (cyc A p q) := by
  unfold cyc
  split
  · exact updL_ok h hl _ _
  · exact updL_ok (updL_ok h hl _ _) (by rw [updL_len, hl]) _ _
def pI (W U : List Int) : Int := 0 + W.getD 0 0 * U.getD 0 0 + W.getD 1 0 * U.getD 1 0 + W.getD 2 0 * U.getD 2 0 + W.getD 3 0 * U.getD 3 0
def qI (W U : List Int) : Int := 0 + W.getD 3 0 * U.getD 0 0 + W.getD 0 0 * U.getD 1 0 + W.getD 1 0 * U.getD 2 0 + W.getD 2 0 * U.getD 3 0
/-- A sample that may be looked at. -/
structure Smp (a : Int) : Prop where
  f : FlOk a
  b : -65520 ≤ a ∧ a ≤ 65520
theorem mul_bd {a b : Int} (ha : -65520 ≤ a ∧ a ≤ 65520) (hb : -65520 ≤ b ∧ b ≤ 65520) : -4294967296 ≤ a * b ∧ a * b ≤ 4294967296 := by
  have h1 : (a * b).natAbs ≤ 65520 * 65520 := by rw [Int.natAbs_mul]; exact Nat.mul_le_mul (by omega) (by omega)
  omega
def Smps (L : List Int) : Prop := ∀ a ∈ L, Smp a
theorem Smps.get {L : List Int} (h : Smps L) {k : Nat} (hk : k < L.length) : Smp (L.getD k 0) := by
  rw [List.getD_eq_getElem?_getD, List.getElem?_eq_getElem hk]
  exact h _ (List.getElem_mem hk)
theorem F44_fl {W U : List Int} (hW : Smps W) (hU : Smps U) (lW : 4 ≤ W.length) (lU : 4 ≤ U.length) :
    F44 (fl (W.getD 0 0)) (fl (W.getD 1 0)) (fl (W.getD 2 0)) (fl (W.getD 3 0)) (fl (U.getD 0 0)) (fl (U.getD 1 0)) (fl (U.getD 2 0)) (fl (U.getD 3 0)) = some (pI W U, qI W U) := by
  have w0 := hW.get (k := 0) (by omega)
  have w1 := hW.get (k := 1) (by omega)
  have w2 := hW.get (k := 2) (by omega)
  have w3 := hW.get (k := 3) (by omega)
  have u0 := hU.get (k := 0) (by omega)
  have u1 := hU.get (k := 1) (by omega)
  have u2 := hU.get (k := 2) (by omega)
  have u3 := hU.get (k := 3) (by omega)
  unfold pI qI
  generalize W.getD 0 0 = x0, W.getD 1 0 = x1, W.getD 2 0 = x2, W.getD 3 0 = x3, U.getD 0 0 = y0, U.getD 1 0 = y1, U.getD 2 0 = y2, U.getD 3 0 = y3 at *

  have m00 := mul_bd w0.b u0.b
  have m30 := mul_bd w3.b u0.b
  have m11 := mul_bd w1.b u1.b
  have m01 := mul_bd w0.b u1.b
  have m22 := mul_bd w2.b u2.b
  have m12 := mul_bd w1.b u2.b
  have m33 := mul_bd w3.b u3.b
  have m23 := mul_bd w2.b u3.b
  unfold F44; rw [res_eq]
  simp only [B44, F57_fl w0.f, F57_fl w1.f, F57_fl w2.f, F57_fl w3.f, F57_fl u0.f, F57_fl u1.f, F57_fl u2.f, F57_fl u3.f, sem_bind_some, sem_sees, sem_triv, sem_ask, sem_ret, PC.holds]
  rw [need_of (by unfold inI64; omega), need_of (by unfold inI64; omega), need_of (by unfold inI64; omega), need_of (by unfold inI64; omega), need_of (by unfold inI64; omega), need_of (by unfold inI64; omega), need_of (by unfold inI64; omega), need_of (by unfold inI64; omega), need_of (by unfold inI64; omega), need_of (by unfold inI64; omega), need_of (by unfold inI64; omega), need_of (by unfold inI64; omega), need_of (by unfold inI64; omega), need_of (by unfold inI64; omega), need_of (by unfold inI64; omega), need_of (by unfold inI64; omega)]
  rfl
theorem pq_bd {W U : List Int} (hW : Smps W) (hU : Smps U) (lW : 4 ≤ W.length) (lU : 4 ≤ U.length) : (-1000000000 * 20 ≤ pI W U ∧ pI W U ≤ 1000000000 * 20) ∧ (-1000000000 * 20 ≤ qI W U ∧ qI W U ≤ 1000000000 * 20) := by
  have w0 := (hW.get (k := 0) (by omega)).b
  have w1 := (hW.get (k := 1) (by omega)).b
  have w2 := (hW.get (k := 2) (by omega)).b
  have w3 := (hW.get (k := 3) (by omega)).b
  have u0 := (hU.get (k := 0) (by omega)).b
  have u1 := (hU.get (k := 1) (by omega)).b
  have u2 := (hU.get (k := 2) (by omega)).b
  have u3 := (hU.get (k := 3) (by omega)).b
  unfold pI qI
  have m00 := mul_bd w0 u0
  have m30 := mul_bd w3 u0
  have m11 := mul_bd w1 u1
  have m01 := mul_bd w0 u1
  have m22 := mul_bd w2 u2
  have m12 := mul_bd w1 u2
  have m33 := mul_bd w3 u3
  have m23 := mul_bd w2 u3
  omega
end Go.Kv
