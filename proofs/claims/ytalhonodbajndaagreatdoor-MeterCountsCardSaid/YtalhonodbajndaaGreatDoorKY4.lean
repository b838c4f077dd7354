/- The checks of the samples, and of all that is counted, in plain Lean. -/
import Derived.Test.YtalhonodbajndaaGreatDoorKY3
namespace Go.Kv
set_option linter.unusedVariables false
set_option linter.unusedSimpArgs false
open Go Go.RowKit
set_option maxRecDepth 100000
def Wd (v : List Nat) : Prop := ∀ a ∈ v, a < 4294967296
theorem Wd.get {v : List Nat} (h : Wd v) {i : Nat} (hi : i < v.length) : v.getD i 0 < 4294967296 := by
  rw [List.getD_eq_getElem?_getD, List.getElem?_eq_getElem hi]
  exact h _ (List.getElem_mem hi)
theorem es_snoc {v : List Nat} {i : Nat} (hi : i < v.length) : ((v.take i).map sI).map vI ++ [vI (sI (v.getD i 0))] = ((v.take (i + 1)).map sI).map vI := by
  rw [List.take_succ_eq_append_getElem hi, List.map_append, List.map_append, List.getD_eq_getElem?_getD, List.getElem?_eq_getElem hi]
  rfl
theorem F113_c2 {v : List Nat} (hv : Wd v) (hl : v.length ≤ 4096) : ∀ (k i e : Nat), v.length = i + k → 0 < i → res B113 (.c2 e i (((v.take i).map sI).map vI) v.length (v.map vB) (v.length : Int) (i : Int) e) = some (v.length, (v.map sI).map vI)
  | 0, i, e, hk, _ => by
    have : i = v.length := by omega
    subst this
    rw [res_eq]
    simp only [B113, sem_br, sem_ret, Int.lt_irrefl, decide_false, Bool.false_eq_true, if_false, stepO_ret, List.take_length]
  | k + 1, i, e, hk, h0 => by
    have hi : i < v.length := by omega
    have h1 : (i : Int) < (v.length : Int) := by omega
    have ih := F113_c2 hv hl k (i + 1) (e + 1) (by omega) (by omega)
    have hin : inI64 ((i : Int) + 1) := by unfold inI64; omega
    have hf : fitsN (i + 1) 8 := by unfold fitsN; omega
    rw [← es_snoc hi] at ih
    rw [res_eq]
    simp only [B113, sem_br, sem_ask, sem_triv, sem_sees, sem_nxt, sem_bind_some, PC.holds, need_true, Int.toNat_natCast, Nat.mul_one, dF_F, at_mapF hi, F114_eq (hv.get hi), h1, hin, hf, decide_true, if_true, Int.natCast_nonneg, List.length_map, Nat.le_of_lt hi, stepO_nxt]
    exact ih
theorem F113_eq {v : List Nat} (hv : Wd v) (hl : v.length ≤ 4096) : F113 v.length (v.map vB) = some (v.length, (v.map sI).map vI) := by
  unfold F113; rw [res_eq]
  simp only [B113, sem_nxt, stepO_nxt]
  rw [res_eq]
  by_cases h : v.length = 0
  · have h1 : ¬ ((0 : Int) < (v.length : Int)) := by omega
    have hv0 : v = [] := List.length_eq_zero_iff.1 h
    subst hv0
    simp only [B113, sem_br, sem_ret, h1, decide_false, Bool.false_eq_true, if_false, stepO_ret]
    rfl
  · have h1 : (0 : Int) < (v.length : Int) := by omega
    have hi : 0 < v.length := by omega
    have hin : inI64 (0 + 1) := by unfold inI64; omega
    have e0 : (0 : Int).toNat * 1 = 0 := rfl
    have at0 := at_mapF hi
    have ih := F113_c2 hv hl (v.length - 1) 1 0 (by omega) (by decide)
    rw [← es_snoc hi] at ih
    simp only [B113, sem_br, sem_ask, sem_triv, sem_sees, sem_nxt, sem_bind_some, PC.holds, need_true, e0, dF_F, at0, F114_eq (hv.get hi), h1, hin, decide_true, if_true, Int.le_refl, List.length_map, Nat.zero_le, stepO_nxt]
    exact ih
/-- The error of samples. -/
def sS (v : List Nat) : Int := if (v.length : Int) > 4096 then 5 else firstI (v.map sI)
theorem F76_eq {v : List Nat} (hv : Wd v) : F76 v.length (v.map vB) = some (sS v) := by
  unfold F76; rw [res_eq]
  unfold sS
  by_cases h : (v.length : Int) > 4096
  · simp only [B76, h, sem_br, sem_ret, decide_true, if_true, stepO_ret]
  · have e := F75_eq (v.map sI) (by rw [List.length_map]; omega)
    rw [List.length_map] at e
    simp only [B76, h, F113_eq hv (by omega), e, sem_br, sem_bind_some, sem_sees, sem_ret, decide_false, Bool.false_eq_true, if_false, stepO_ret]
theorem firstI_dropN {v : List Nat} {i : Nat} (h : i < v.length) : firstI ((v.drop i).map sI) = if sI (v.getD i 0) = 0 then firstI ((v.drop (i + 1)).map sI) else sI (v.getD i 0) := by
  rw [List.drop_eq_getElem_cons h, List.getD_eq_getElem?_getD, List.getElem?_eq_getElem h]
  rfl
theorem F116_loop {v : List Nat} (hv : Wd v) (hl : v.length ≤ 4096) : ∀ (k i : Nat), v.length = i + k → res B116 (.c1 v.length (v.map vB) (i : Int)) = some (firstI ((v.drop i).map sI))
  | 0, i, hk => by
    rw [List.drop_eq_nil_of_le (by omega), res_eq]
    have : ¬ ((i : Int) < (v.length : Int)) := by omega
    simp [B116, sem_br, sem_ret, this, stepO_ret, firstI]
  | k + 1, i, hk => by
    have hi : i < v.length := by omega
    have h1 : (i : Int) < (v.length : Int) := by omega
    have ih := F116_loop hv hl k (i + 1) (by omega)
    have hin : inI64 ((i : Int) + 1) := by unfold inI64; omega
    rw [firstI_dropN hi, res_eq]
    simp only [B116, sem_br, sem_ask, sem_ret, sem_nxt, sem_sees, sem_bind_some, PC.holds, need_true, Int.toNat_natCast, Nat.mul_one, dF_F, at_mapF hi, F142_eq (hv.get hi), h1, hin, decide_true, if_true, Int.natCast_nonneg, List.length_map, Nat.le_of_lt hi]
    by_cases h0 : sI (v.getD i 0) = 0
    · simp only [h0, bne_self_eq_false, if_true, Bool.false_eq_true, if_false, stepO_nxt]
      exact ih
    · have hb : (sI (v.getD i 0) != 0) = true := bne_iff_ne.2 h0
      simp only [h0, hb, if_false, if_true, stepO_ret]
theorem F81_eq {v : List Nat} (hv : Wd v) : F81 v.length (v.map vB) = some (sS v) := by
  unfold F81; rw [res_eq]
  unfold sS
  by_cases h : (v.length : Int) > 4096
  · simp only [B81, h, sem_br, sem_ret, decide_true, if_true, stepO_ret]
  · have e : F116 v.length (v.map vB) = some (firstI (v.map sI)) := by
      unfold F116; rw [res_eq]
      simp only [B116, sem_nxt, stepO_nxt]
      exact F116_loop hv (by omega) v.length 0 (by omega)
    simp only [B81, h, e, sem_br, sem_bind_some, sem_sees, sem_ret, decide_false, Bool.false_eq_true, if_false, stepO_ret]
theorem firstI_all : ∀ {v : List Nat}, firstI (v.map sI) = 0 → OkS v
  | [], _ => fun a ha => by simp at ha
  | x :: v, h => by
    rw [List.map_cons, firstI_zero] at h
    intro a ha
    rcases List.mem_cons.1 ha with rfl | ha
    · exact h.1
    · exact firstI_all h.2 a ha
theorem sS_ok {v : List Nat} (h : sS v = 0) : v.length ≤ 4096 ∧ OkS v := by
  unfold sS at h
  split at h
  · simp at h
  · exact ⟨by omega, firstI_all h⟩
/-- The error of a series. -/
def badI (A : List Int) (v i : List Nat) : Int := firstI [metI A, sS v, sS i, whenI ((v.length : Int) != (i.length : Int)) 2, whenI ((v.length : Int).tmod 4 != 0) 16]
theorem first_step (a : Int) (l : List Int) : firstI (a :: l) = if a = 0 then firstI l else a := rfl
theorem F24r (u r : Int) : F24 2 [vI (rangeI u 0 999999), vI (rangeI r 0 999999)] = some (regI u r) := F24_2 _ _
theorem F19_eq (a0 a1 a2 a3 a4 a5 a6 a7 a8 a9 a10 a11 : Int) : F19 a0 a1 a2 a3 a4 a5 a6 a7 a8 a9 a10 a11 = some (metI [a0, a1, a2, a3, a4, a5, a6, a7, a8, a9, a10, a11]) := by
  have e : metI [a0, a1, a2, a3, a4, a5, a6, a7, a8, a9, a10, a11] = firstI [regI a0 a1, regI a2 a3, regI a4 a5, regI a6 a7, regI a8 a9, regI a10 a11] := rfl
  have b (x : Int) (h : ¬ x = 0) : (x != 0) = true := by simp [h]
  rw [e]
  unfold F19; rw [res_eq]
  simp only [B19, F34_eq, F24r, sem_bind_some, sem_sees, sem_br, sem_ret]
  by_cases h0 : regI a0 a1 = 0
  · by_cases h1 : regI a2 a3 = 0
    · by_cases h2 : regI a4 a5 = 0
      · by_cases h3 : regI a6 a7 = 0
        · by_cases h4 : regI a8 a9 = 0
          · by_cases h5 : regI a10 a11 = 0
            · simp only [h0, h1, h2, h3, h4, h5, first_step, fnil, bne_self_eq_false, Bool.false_eq_true, if_false, if_true, stepO_ret]
            · simp only [h0, h1, h2, h3, h4, h5, b _ h5, first_step, bne_self_eq_false, Bool.false_eq_true, if_false, if_true, stepO_ret]
          · simp only [h0, h1, h2, h3, h4, b _ h4, first_step, bne_self_eq_false, Bool.false_eq_true, if_false, if_true, stepO_ret]
        · simp only [h0, h1, h2, h3, b _ h3, first_step, bne_self_eq_false, Bool.false_eq_true, if_false, if_true, stepO_ret]
      · simp only [h0, h1, h2, b _ h2, first_step, bne_self_eq_false, Bool.false_eq_true, if_false, if_true, stepO_ret]
    · simp only [h0, h1, b _ h1, first_step, bne_self_eq_false, Bool.false_eq_true, if_false, if_true, stepO_ret]
  · simp only [h0, b _ h0, first_step, Bool.false_eq_true, if_false, if_true, stepO_ret]
theorem F16_eq {v i : List Nat} (hv : Wd v) (hi : Wd i) (a0 a1 a2 a3 a4 a5 a6 a7 a8 a9 a10 a11 : Int) : F16 a0 a1 a2 a3 a4 a5 a6 a7 a8 a9 a10 a11 v.length (v.map vB) i.length (i.map vB) = some (badI [a0, a1, a2, a3, a4, a5, a6, a7, a8, a9, a10, a11] v i) := by
  have e5 (a b c d e : Int) : F24 5 [vI a, vI b, vI c, vI d, vI e] = some (firstI [a, b, c, d, e]) := F24_eq [a, b, c, d, e] (by simp)
  unfold F16; rw [res_eq]
  simp only [B16, F19_eq, F81_eq hv, F81_eq hi, F82_eq, e5, sem_bind_some, sem_sees, sem_ret, stepO_ret]
  rfl
theorem whenI_zero {b : Bool} {e : Int} (he : e ≠ 0) (h : whenI b e = 0) : b = false := by
  cases b
  · rfl
  · exact absurd h he
theorem bad_ok {A : List Int} {v i : List Nat} (h : badI A v i = 0) : okM A ∧ (v.length ≤ 4096 ∧ OkS v) ∧ (i.length ≤ 4096 ∧ OkS i) ∧ ∃ n, v.length = 4 * n ∧ i.length = 4 * n ∧ n ≤ 1024 := by
  unfold badI at h
  simp only [firstI_zero, fnil, and_true] at h
  obtain ⟨h1, h2, h3, h4, h5⟩ := h
  have g2 := sS_ok h2
  have g3 := sS_ok h3
  have e4 := whenI_zero (by decide) h4
  have e5 := whenI_zero (by decide) h5
  have l1 : v.length = i.length := by have : (v.length : Int) = (i.length : Int) := by simpa using e4
                                      omega
  have l2 : (v.length : Int).tmod 4 = 0 := by simpa using e5
  rw [Int.tmod_eq_emod_of_nonneg (by omega)] at l2
  exact ⟨metI_ok h1, g2, g3, v.length / 4, by omega, by omega, by omega⟩
theorem F13_bad {v i : List Nat} (hv : Wd v) (hi : Wd i) {a0 a1 a2 a3 a4 a5 a6 a7 a8 a9 a10 a11 : Int} (h : badI [a0, a1, a2, a3, a4, a5, a6, a7, a8, a9, a10, a11] v i ≠ 0) :
    F13 a0 a1 a2 a3 a4 a5 a6 a7 a8 a9 a10 a11 v.length (v.map vB) i.length (i.map vB) = some (0, 0, 0, 0, 0, 0, 0, 0, 0, 0, 0, 0, badI [a0, a1, a2, a3, a4, a5, a6, a7, a8, a9, a10, a11] v i) := by
  have hb : (badI [a0, a1, a2, a3, a4, a5, a6, a7, a8, a9, a10, a11] v i != 0) = true := by simp [h]
  have e5 : F75 5 [vI (metI [a0, a1, a2, a3, a4, a5, a6, a7, a8, a9, a10, a11]), vI (sS v), vI (sS i), vI (whenI ((v.length : Int) != (i.length : Int)) 2), vI (whenI ((v.length : Int).tmod 4 != 0) 16)] = some (badI [a0, a1, a2, a3, a4, a5, a6, a7, a8, a9, a10, a11] v i) := F75_5 _ _ _ _ _
  unfold F13; rw [res_eq]
  simp only [B13, F18_eq, F76_eq hv, F76_eq hi, F77_eq, e5, hb, sem_br, sem_bind_some, sem_sees, sem_ret, if_true, stepO_ret]
theorem F13_ok {v i : List Nat} (hv : Wd v) (hi : Wd i) {n : Nat} {a0 a1 a2 a3 a4 a5 a6 a7 a8 a9 a10 a11 : Int} (h : badI [a0, a1, a2, a3, a4, a5, a6, a7, a8, a9, a10, a11] v i = 0) (hn : v.length = 4 * n) :
    F13 a0 a1 a2 a3 a4 a5 a6 a7 a8 a9 a10 a11 v.length (v.map vB) i.length (i.map vB) = some (tup (runC v i n 0 [a0, a1, a2, a3, a4, a5, a6, a7, a8, a9, a10, a11])) := by
  obtain ⟨hA, ⟨_, sv⟩, ⟨_, si⟩, n', l1, l2, l3⟩ := bad_ok h
  have : n' = n := by omega
  subst this
  have e5 : F75 5 [vI (metI [a0, a1, a2, a3, a4, a5, a6, a7, a8, a9, a10, a11]), vI (sS v), vI (sS i), vI (whenI ((v.length : Int) != (i.length : Int)) 2), vI (whenI ((v.length : Int).tmod 4 != 0) 16)] = some (badI [a0, a1, a2, a3, a4, a5, a6, a7, a8, a9, a10, a11] v i) := F75_5 _ _ _ _ _
  have L := (F13_l l1 l2 l3 sv si n' 0 [a0, a1, a2, a3, a4, a5, a6, a7, a8, a9, a10, a11] (by omega) hA rfl).2
  unfold F13; rw [res_eq]
  simp only [B13, F18_eq, F76_eq hv, F76_eq hi, F77_eq, e5, h, bne_self_eq_false, Bool.false_eq_true, if_false, sem_br, sem_bind_some, sem_sees, sem_nxt, stepO_nxt]
  exact L _ _ _ _ _ _ _ _ _ _ _ _ _ _ _ _ _ _ _ _ _ _ _ _ _ _ _ _ _ _ _ _ rfl
theorem runC_ok {v i : List Nat} : ∀ (m j : Nat) {A : List Int}, okM A → A.length = 12 → okM (runC v i m j A) ∧ (runC v i m j A).length = 12
  | 0, j, A, h, hl => ⟨h, hl⟩
  | m + 1, j, A, h, hl => runC_ok m (j + 1) (cyc_ok h hl _ _) (by rw [cyc_len, hl])
end Go.Kv
