/- Balance and Verdict over intervals, and the difference of two registers, in plain Lean. -/
import Derived.Test.YtpmlobofkkhhaaaKD3
import Derived.Test.YtpmlobofkkhhaaaKL
namespace Go.Kv
set_option linter.unusedVariables false
set_option linter.unusedSimpArgs false
open Go Go.RowKit
set_option maxRecDepth 100000
abbrev Itv := Int × Int
def eI (x : Itv) : List DV := [vI x.1, vI x.2]
theorem eI_len (x : Itv) : (eI x).length = 2 := rfl
structure At2 (l : List DV) (i : Nat) (x : Itv) : Prop where
  c0 : dI (cel l (i * 2)) = x.1
  c1 : dI (cel l (i * 2 + 1)) = x.2
  r1 : i * 2 ≤ l.length
  r2 : 2 ≤ (l.drop (i * 2)).length
  t : List.map AV.d (List.take 2 (List.drop (i * 2) l)) = [AV.d (DV.v (Value.int IntKind.i64 x.1)), AV.d (DV.v (Value.int IntKind.i64 x.2))]
theorem at2 {M : List Itv} {i : Nat} (hi : i < M.length) : At2 (M.flatMap eI) i M[i] := by
  have hk (k : Nat) (h : k < 2) := fm_cel (enc := eI) eI_len hi h
  obtain ⟨r1, r2⟩ := fm_room (enc := eI) eI_len hi
  refine ⟨?_, ?_, r1, r2, ?_⟩
  · have := hk 0 (by decide)
    rw [Nat.add_zero] at this
    rw [this]; rfl
  · rw [hk 1 (by decide)]; rfl
  · rw [fm_at eI_len hi]; rfl
/-- An interval that is taken. -/
def okI (x : Itv) : Prop := (0 ≤ x.1 ∧ x.1 ≤ 1000000000) ∧ (0 ≤ x.2 ∧ x.2 ≤ 1000000000) ∧ x.1 ≤ x.2
theorem first000 : firstI [0, 0, 0] = 0 := rfl
theorem first00 : firstI [0, 0] = 0 := rfl
theorem F20_ok {a b : Int} (h : okI (a, b)) : F20 a b = some 0 := by
  obtain ⟨h1, h2, h3⟩ := h
  simp only at h1 h2 h3
  have e3 : whenI (decide (a > b)) 11 = 0 := by
    unfold whenI
    rw [if_neg (by simp; omega)]
  unfold F20; rw [res_eq]
  simp only [B20, F24_eq, F21_eq, F19_3, rangeI_zero.2 h1, rangeI_zero.2 h2, e3, first000, sem_bind_some, sem_sees, sem_ret, stepO_ret]
theorem F22_c2 {M : List Itv} (hM : ∀ x ∈ M, okI x) (hl : M.length ≤ 4096) : ∀ (k i e : Nat), M.length = i + k → 0 < i →
    res B22 (.c2 e i ((List.replicate i (0 : Int)).map vI) M.length (M.flatMap eI) (M.length : Int) (i : Int) e) = some (M.length, (List.replicate M.length (0 : Int)).map vI)
  | 0, i, e, hk, _ => by
    have : i = M.length := by omega
    subst this
    rw [res_eq]
    simp only [B22, sem_br, sem_ret, Int.lt_irrefl, decide_false, Bool.false_eq_true, if_false, stepO_ret]
  | k + 1, i, e, hk, h0 => by
    have hi : i < M.length := by omega
    have h1 : (i : Int) < (M.length : Int) := by omega
    have ih := F22_c2 hM hl k (i + 1) (e + 1) (by omega) (by omega)
    have hin : inI64 ((i : Int) + 1) := by unfold inI64; omega
    have hf : fitsN (i + 1) 8 := by unfold fitsN; omega
    have a := at2 hi
    have e20 : F20 M[i].1 M[i].2 = some 0 := F20_ok (hM _ (List.getElem_mem hi))
    rw [← zs_snoc] at ih
    rw [res_eq]
    simp only [B22, sem_br, sem_ask, sem_triv, sem_sees, sem_nxt, sem_bind_some, PC.holds, need_true, Int.toNat_natCast, a.c0, a.c1, a.r1, a.r2, a.t, e20, h1, hin, hf, decide_true, if_true, Int.natCast_nonneg, stepO_nxt]
    exact ih
theorem F22_eq {M : List Itv} (hM : ∀ x ∈ M, okI x) (hl : M.length ≤ 4096) : F22 M.length (M.flatMap eI) = some (M.length, (List.replicate M.length (0 : Int)).map vI) := by
  unfold F22; rw [res_eq]
  simp only [B22, sem_nxt, stepO_nxt]
  rw [res_eq]
  by_cases h : M.length = 0
  · have h1 : ¬ ((0 : Int) < (M.length : Int)) := by omega
    simp only [B22, sem_br, sem_ret, h1, decide_false, Bool.false_eq_true, if_false, stepO_ret, h]
    rfl
  · have h1 : (0 : Int) < (M.length : Int) := by omega
    have hi : 0 < M.length := by omega
    have hin : inI64 (0 + 1) := by unfold inI64; omega
    have e0 : (0 : Int).toNat = 0 := rfl
    have a := at2 hi
    have e20 : F20 M[0].1 M[0].2 = some 0 := F20_ok (hM _ (List.getElem_mem hi))
    have ih := F22_c2 hM hl (M.length - 1) 1 0 (by omega) (by decide)
    simp only [B22, sem_br, sem_ask, sem_triv, sem_sees, sem_nxt, sem_bind_some, PC.holds, need_true, e0, a.c0, a.c1, a.r1, a.r2, a.t, e20, h1, hin, decide_true, if_true, Int.le_refl, stepO_nxt]
    exact ih
def sLo (M : List Itv) : Int := (M.map (·.1)).sum
def sHi (M : List Itv) : Int := (M.map (·.2)).sum
theorem sLo_cons (x : Itv) (M : List Itv) : sLo (x :: M) = x.1 + sLo M := by simp [sLo]
theorem sHi_cons (x : Itv) (M : List Itv) : sHi (x :: M) = x.2 + sHi M := by simp [sHi]
theorem F7_c1 {M : List Itv} (hM : ∀ x ∈ M, okI x) (hl : M.length ≤ 256) : ∀ (k i : Nat) (lo hi : Int), M.length = i + k → -1000000000 * (i + 2) ≤ lo ∧ lo ≤ 1000000000 * 2 → -1000000000 * (i + 2) ≤ hi ∧ hi ≤ 1000000000 * 2 →
    res B7 (.c1 M.length (M.flatMap eI) (M.length : Int) (i : Int) lo hi) = some (lo - sHi (M.drop i), hi - sLo (M.drop i), 0)
  | 0, i, lo, hi, hk, _, _ => by
    rw [List.drop_eq_nil_of_le (by omega), res_eq]
    have : ¬ ((i : Int) < (M.length : Int)) := by omega
    simp only [B7, sem_br, sem_ret, this, decide_false, Bool.false_eq_true, if_false, stepO_ret, sHi, sLo, List.map_nil, List.sum_nil, Int.sub_zero]
  | k + 1, i, lo, hi, hk, b1, b2 => by
    have hi' : i < M.length := by omega
    have h1 : (i : Int) < (M.length : Int) := by omega
    obtain ⟨o1, o2, o3⟩ := hM _ (List.getElem_mem hi')
    have ih := F7_c1 hM hl k (i + 1) (lo - M[i].2) (hi - M[i].1) (by omega) (by omega) (by omega)
    have hin : inI64 ((i : Int) + 1) := by unfold inI64; omega
    have i1 : inI64 (lo - M[i].2) := by unfold inI64; omega
    have i2 : inI64 (hi - M[i].1) := by unfold inI64; omega
    have a := at2 hi'
    rw [List.drop_eq_getElem_cons hi', sHi_cons, sLo_cons]
    rw [res_eq]
    simp only [B7, sem_br, sem_ask, sem_triv, sem_sees, sem_nxt, PC.holds, need_true, Int.toNat_natCast, a.c0, a.c1, a.r1, a.r2, a.t, h1, hin, i1, i2, decide_true, if_true, Int.natCast_nonneg, stepO_nxt]
    rw [show lo - (M[i].2 + sHi (M.drop (i + 1))) = lo - M[i].2 - sHi (M.drop (i + 1)) by omega, show hi - (M[i].1 + sLo (M.drop (i + 1))) = hi - M[i].1 - sLo (M.drop (i + 1)) by omega]
    exact ih
theorem F7_eq {M : List Itv} (hM : ∀ x ∈ M, okI x) (hl : M.length ≤ 256) {a b : Int} (hf : okI (a, b)) : F7 a b M.length (M.flatMap eI) = some (a - sHi M, b - sLo M, 0) := by
  have h1 : ¬ ((M.length : Int) > 256) := by omega
  have w0 (e : Int) : whenI false e = 0 := rfl
  have e := F19_eq (List.replicate M.length (0 : Int)) (by rw [List.length_replicate]; omega)
  rw [List.length_replicate, first_zeros] at e
  have L := F7_c1 hM hl M.length 0 a b (by omega) (by have := hf.1; have := hf.2.1; simp only at *; omega) (by have := hf.1; have := hf.2.1; simp only at *; omega)
  rw [List.drop_zero] at L
  unfold F7; rw [res_eq]
  simp only [B7, F20_ok hf, F21_eq, h1, w0, F19_2, first00, F22_eq hM (by omega), e, sem_br, sem_bind_some, sem_sees, sem_triv, sem_nxt, decide_false, bne_self_eq_false, Bool.false_eq_true, if_false, stepO_nxt]
  exact L
theorem F8_eq' {M : List Itv} (hM : ∀ x ∈ M, okI x) (hl : M.length ≤ 256) {a b : Int} (hf : okI (a, b)) : F8 a b M.length (M.flatMap eI) = some (if a - sHi M > 0 then 1 else if b - sLo M < 0 then -1 else 0, 0) := by
  unfold F8; rw [res_eq]
  simp only [B8, F7_eq hM hl hf, sem_br, sem_bind_some, sem_sees, sem_triv, sem_ret, bne_self_eq_false, Bool.false_eq_true, if_false]
  by_cases h1 : a - sHi M > 0
  · simp only [h1, decide_true, if_true, stepO_ret]
  · by_cases h2 : b - sLo M < 0
    · simp only [h1, h2, decide_false, decide_true, Bool.false_eq_true, if_false, if_true, stepO_ret]
    · simp only [h1, h2, decide_false, Bool.false_eq_true, if_false, stepO_ret]
/-! the difference of two registers -/
def difI (u r u' r' : Int) : Int := (u' * 1000000 + r' - (u * 1000000 + r) + 1000000000000) % 1000000000000
theorem F34_eq {u r : Int} (h : (0 ≤ u ∧ u ≤ 999999) ∧ (0 ≤ r ∧ r ≤ 999999)) : F34 u r = some (u * 1000000 + r) := by
  have i1 : inI64 (u * 1000000) := by unfold inI64; omega
  have i2 : inI64 (u * 1000000 + r) := by unfold inI64; omega
  unfold F34; rw [res_eq]
  simp only [B34, sem_ask, sem_ret, PC.holds, i1, i2, need_true, stepO_ret]
theorem F6_eq {u r u' r' : Int} (h : (0 ≤ u ∧ u ≤ 999999) ∧ (0 ≤ r ∧ r ≤ 999999)) (h' : (0 ≤ u' ∧ u' ≤ 999999) ∧ (0 ≤ r' ∧ r' ≤ 999999)) : F6 u r u' r' = some (difI u r u' r', 0) := by
  have i1 : inI64 (u' * 1000000 + r' - (u * 1000000 + r)) := by unfold inI64; omega
  have i2 : inI64 (u' * 1000000 + r' - (u * 1000000 + r) + 1000000000000) := by unfold inI64; omega
  have tm : (u' * 1000000 + r' - (u * 1000000 + r) + 1000000000000).tmod 1000000000000 = difI u r u' r' := Int.tmod_eq_emod_of_nonneg (by omega)
  have e18 : F18 u' r' u r = some (difI u r u' r') := by
    unfold F18; rw [res_eq]
    simp only [B18, F34_eq h, F34_eq h', sem_bind_some, sem_sees, sem_ask, sem_ret, PC.holds, i1, i2, need_true, tm, stepO_ret]
  unfold F6; rw [res_eq]
  simp only [B6, F17_eq, regI_zero.2 h, regI_zero.2 h', F10_2, first00, e18, sem_br, sem_bind_some, sem_sees, sem_ret, bne_self_eq_false, Bool.false_eq_true, if_false, stepO_ret]
end Go.Kv
