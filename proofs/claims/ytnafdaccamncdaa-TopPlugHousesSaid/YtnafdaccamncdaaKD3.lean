/- What a meter counts: the whole, in plain Lean. -/
import Derived.Test.YtnafdaccamncdaaKD2
namespace Go.Kv
set_option linter.unusedVariables false
set_option linter.unusedSimpArgs false
open Go Go.RowKit
set_option maxRecDepth 100000
theorem F53c_loop (l : List Int) (hl : l.length ≤ 1000000) : ∀ (k i : Nat), l.length = i + k → res B53 (.c1 l.length (l.map vI) (l.length : Int) (i : Int)) = some (firstI (l.drop i))
  | 0, i, hk => by
    rw [List.drop_eq_nil_of_le (by omega), res_eq]
    have : ¬ ((i : Int) < (l.length : Int)) := by omega
    simp [B53, sem_br, sem_ret, this, stepO_ret, stepO_nxt, firstI]
  | k + 1, i, hk => by
    have hi : i < l.length := by omega
    have h1 : (i : Int) < (l.length : Int) := by omega
    have ih := F53c_loop l hl k (i + 1) (by omega)
    have hin : inI64 ((i : Int) + 1) := by unfold inI64; omega
    rw [firstI_drop hi, res_eq]
    simp only [B53, sem_br, sem_ask, sem_ret, sem_nxt, PC.holds, need_true, Int.toNat_natCast, Nat.mul_one, dI_cel_map, at_map hi, h1, hin, decide_true, if_true, Int.natCast_nonneg, List.length_map, Nat.le_of_lt hi]
    by_cases h0 : l.getD i 0 = 0
    · simp only [h0, bne_self_eq_false, if_true, Bool.false_eq_true, if_false, stepO_ret, stepO_nxt]
      rw [← ih]; rfl
    · simp only [h0, if_false, bne_iff_ne, ne_eq, not_false_eq_true, if_true, stepO_ret, stepO_nxt]
theorem F53_eq (l : List Int) (hl : l.length ≤ 1000000) : F53 l.length (l.map vI) = some (firstI l) := by
  unfold F53
  rw [res_eq]
  simp only [B53, sem_nxt, stepO_nxt]
  exact F53c_loop l hl l.length 0 (by omega)
theorem F53_2 (a b : Int) : F53 2 [vI a, vI b] = some (firstI [a, b]) := F53_eq [a, b] (by simp)
theorem F42_fl {a : Int} (h : FlOk a) : F42 (fl a) = some 0 := by
  unfold F42; rw [res_eq]
  have e0 : firstI [0, 0] = 0 := rfl
  simp only [B42, F55_fl h, F54_eq, F56_fl h, F53_2, e0, sem_bind_some, sem_sees, sem_ret, Bool.false_eq_true, if_false, stepO_ret]
theorem zs_snoc (k : Nat) : (List.replicate k (0 : Int)).map vI ++ [vI 0] = (List.replicate (k + 1) (0 : Int)).map vI := by
  rw [List.replicate_succ', List.map_append]; rfl
theorem F41_c2 {v : List Int} (sv : Smps v) (hl : v.length ≤ 4096) : ∀ (k i e : Nat), v.length = i + k → 0 < i → res B41 (.c2 e i ((List.replicate i (0 : Int)).map vI) v.length (v.map vF) (v.length : Int) (i : Int) e) = some (v.length, (List.replicate v.length (0 : Int)).map vI)
  | 0, i, e, hk, _ => by
    have : i = v.length := by omega
    subst this
    rw [res_eq]
    simp only [B41, sem_br, sem_ret, Int.lt_irrefl, decide_false, Bool.false_eq_true, if_false, stepO_ret]
  | k + 1, i, e, hk, h0 => by
    have hi : i < v.length := by omega
    have h1 : (i : Int) < (v.length : Int) := by omega
    have ih := F41_c2 sv hl k (i + 1) (e + 1) (by omega) (by omega)
    have hin : inI64 ((i : Int) + 1) := by unfold inI64; omega
    have hf : fitsN (i + 1) 8 := by unfold fitsN; omega
    rw [← zs_snoc] at ih
    rw [res_eq]
    simp only [B41, sem_br, sem_ask, sem_triv, sem_sees, sem_nxt, sem_bind_some, PC.holds, need_true, Int.toNat_natCast, Nat.mul_one, dF_F, at_mapF hi, F42_fl (sv.get hi).f, h1, hin, hf, decide_true, if_true, Int.natCast_nonneg, List.length_map, Nat.le_of_lt hi, stepO_nxt]
    exact ih
theorem F41_eq {v : List Int} (sv : Smps v) (hl : v.length ≤ 4096) : F41 v.length (v.map vF) = some (v.length, (List.replicate v.length (0 : Int)).map vI) := by
  unfold F41; rw [res_eq]
  simp only [B41, sem_nxt, stepO_nxt]
  rw [res_eq]
  by_cases h : v.length = 0
  · have h1 : ¬ ((0 : Int) < (v.length : Int)) := by omega
    simp only [B41, sem_br, sem_ret, h1, decide_false, Bool.false_eq_true, if_false, stepO_ret, h]
    rfl
  · have h1 : (0 : Int) < (v.length : Int) := by omega
    have hi : 0 < v.length := by omega
    have hin : inI64 (0 + 1) := by unfold inI64; omega
    have e0 : (0 : Int).toNat * 1 = 0 := rfl
    have at0 := at_mapF hi
    have ih := F41_c2 sv hl (v.length - 1) 1 0 (by omega) (by decide)
    simp only [B41, sem_br, sem_ask, sem_triv, sem_sees, sem_nxt, sem_bind_some, PC.holds, need_true, e0, dF_F, at0, F42_fl (sv.get hi).f, h1, hin, decide_true, if_true, Int.le_refl, List.length_map, Nat.zero_le, stepO_nxt]
    exact ih
theorem first_zeros (k : Nat) : firstI (List.replicate k (0 : Int)) = 0 := by
  induction k with
  | zero => rfl
  | succ k ih => rw [List.replicate_succ]; simp only [firstI, if_true]; exact ih
theorem F16_eq {v : List Int} (sv : Smps v) (hl : v.length ≤ 4096) : F16 v.length (v.map vF) = some 0 := by
  have h1 : ¬ ((v.length : Int) > 4096) := by omega
  have e := F14_eq (List.replicate v.length (0 : Int)) (by rw [List.length_replicate]; omega)
  rw [List.length_replicate, first_zeros] at e
  unfold F16; rw [res_eq]
  simp only [B16, F41_eq sv hl, e, sem_br, sem_bind_some, sem_sees, sem_triv, sem_ret, h1, decide_false, Bool.false_eq_true, if_false, stepO_ret]
theorem F6_eq {v i : List Int} {n : Nat} (hv : v.length = 4 * n) (hi : i.length = 4 * n) (hn : n ≤ 1024) (sv : Smps v) (si : Smps i) (a0 a1 a2 a3 a4 a5 a6 a7 a8 a9 a10 a11 : Int) (hA : okM [a0, a1, a2, a3, a4, a5, a6, a7, a8, a9, a10, a11]) :
    F6 a0 a1 a2 a3 a4 a5 a6 a7 a8 a9 a10 a11 v.length (v.map vF) i.length (i.map vF) = some (tup (runC v i n 0 [a0, a1, a2, a3, a4, a5, a6, a7, a8, a9, a10, a11])) := by
  have e1 : ((v.length : Int) != (i.length : Int)) = false := by simp; omega
  have e2 : ((v.length : Int).tmod 4 != 0) = false := by
    have : (v.length : Int).tmod 4 = 0 := by rw [Int.tmod_eq_emod_of_nonneg (by omega)]; omega
    rw [this]; rfl
  have w0 (e : Int) : whenI false e = 0 := rfl
  have f0 : firstI [0, 0, 0, 0, 0] = 0 := rfl
  have L := (F6_l hv hi hn sv si n 0 [a0, a1, a2, a3, a4, a5, a6, a7, a8, a9, a10, a11] (by omega) hA rfl).2
  unfold F6; rw [res_eq]
  simp only [B6, F15_eq, ok_metI hA, F16_eq sv (by omega), F16_eq si (by omega), F17_eq, e1, e2, w0, F14_5, f0, sem_br, sem_bind_some, sem_sees, sem_triv, sem_nxt, bne_self_eq_false, Bool.false_eq_true, if_false, stepO_nxt]
  exact L _ _ _ _ _ _ _ _ _ _ _ _ _ _ _ _ _ _ _ _ _ _ _ _ _ _ _ _ _ _ _ _ rfl
theorem runC_ok {v i : List Int} : ∀ (m j : Nat) {A : List Int}, okM A → A.length = 12 → okM (runC v i m j A) ∧ (runC v i m j A).length = 12
  | 0, j, A, h, hl => ⟨h, hl⟩
  | m + 1, j, A, h, hl => runC_ok m (j + 1) (cyc_ok h hl _ _) (by rw [cyc_len, hl])

end Go.Kv
