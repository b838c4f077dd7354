/- What the functions about sets of houses, and sums of them, come to, in plain Lean. -/
import Derived.Test.YtnafdaccamncdaaKzP
import Derived.Test.YtnafdaccamncdaaKL
namespace Go.Kv
set_option linter.unusedVariables false
set_option linter.unusedSimpArgs false
open Go Go.RowKit Go.Proofs
set_option maxRecDepth 100000
section
open Go Go.RowKit
def eS (s : List Int) : DV := .sl s.length (s.map vI)
theorem dN_eS (s : List Int) : dN (eS s) = s.length := rfl
theorem dL_eS (s : List Int) : dL (eS s) = s.map vI := rfl
theorem cel_eS {S : List (List Int)} {i : Nat} (h : i < S.length) : cel (S.map eS) i = eS (S.getD i []) := by
  unfold cel
  simp [List.getD_eq_getElem?_getD, h]
theorem at_mapS {S : List (List Int)} {i : Nat} (h : i < S.length) : Option.map AV.d (List.drop i (S.map eS))[0]? = some (AV.d (DV.sl (S.getD i []).length ((S.getD i []).map vI))) := by
  simp [List.getElem?_drop, h, List.getD_eq_getElem?_getD, eS]
theorem dropD {α : Type} {l : List α} {i : Nat} (d : α) (h : i < l.length) : l.drop i = l.getD i d :: l.drop (i + 1) := by
  rw [List.drop_eq_getElem_cons h]; simp [List.getD_eq_getElem?_getD, h]
theorem F39_eq (b : Bool) (e : Int) : F39 b e = some (whenI b e) := by
  unfold F39; rw [res_eq]; cases b <;> simp [B39, sem_br, sem_ret, stepO_ret, whenI]
theorem F38_loop (l : List Int) (hl : l.length ≤ 9223372036854775807) : ∀ (k i : Nat), l.length = i + k → res B38 (.c1 l.length (l.map vI) (i : Int)) = some (firstI (l.drop i))
  | 0, i, hk => by
    rw [List.drop_eq_nil_of_le (by omega), res_eq]
    have : ¬ ((i : Int) < (l.length : Int)) := by omega
    simp [B38, sem_br, sem_ret, this, stepO_ret, stepO_nxt, firstI]
  | k + 1, i, hk => by
    have hi : i < l.length := by omega
    have h1 : (i : Int) < (l.length : Int) := by omega
    have ih := F38_loop l hl k (i + 1) (by omega)
    have hin : inI64 ((i : Int) + 1) := by unfold inI64; omega
    rw [firstI_drop hi, res_eq]
    simp only [B38, sem_br, sem_ask, sem_ret, sem_nxt, PC.holds, need_true, Int.toNat_natCast, Nat.mul_one, dI_cel_map, at_map hi, h1, hin, decide_true, if_true, Int.natCast_nonneg, List.length_map, Nat.le_of_lt hi]
    by_cases h0 : l.getD i 0 = 0
    · simp only [h0, bne_self_eq_false, if_true, Bool.false_eq_true, if_false, stepO_ret, stepO_nxt]
      rw [← ih]; rfl
    · simp only [h0, if_false, bne_iff_ne, ne_eq, not_false_eq_true, if_true, stepO_ret, stepO_nxt]
theorem F38_2 (a b : Int) : F38 2 [vI a, vI b] = some (firstI [a, b]) := by
  unfold F38
  rw [res_eq]
  simp only [B38, sem_nxt, stepO_nxt]
  exact F38_loop [a, b] (by simp) 2 0 (by simp)
theorem F23_2' (a b : Int) : F23 2 [vI a, vI b] = some (firstI [a, b]) := F23_eq [a, b] (by simp)
/-! a set -/
def erS (h last x : Int) : Int := firstI [if x < 0 ∨ x ≥ h then 10 else 0, if x ≤ last then 11 else 0]
def chS (h last : Int) : List Int → Int
  | [] => 0
  | x :: xs => if erS h last x = 0 then chS h x xs else erS h last x
def ckS (h : Int) (s : List Int) : Int := if s.length = 0 then 12 else chS h (-1) s
def lastAt (s : List Int) (i : Nat) : Int := if i = 0 then -1 else s.getD (i - 1) 0
theorem lastAt_succ (s : List Int) (i : Nat) : lastAt s (i + 1) = s.getD i 0 := by unfold lastAt; simp
theorem er1 {h last x : Int} : firstI [whenI (if decide (x < 0) = true then true else decide (x ≥ h)) 10, whenI (decide (x ≤ last)) 11] = erS h last x := by
  unfold erS
  rw [show whenI (if decide (x < 0) = true then true else decide (x ≥ h)) 10 = if x < 0 ∨ x ≥ h then 10 else 0 by
    unfold whenI; by_cases a : x < 0 <;> by_cases b : x ≥ h <;> simp [a, b]]
  rw [show whenI (decide (x ≤ last)) 11 = if x ≤ last then 11 else 0 by unfold whenI; by_cases a : x ≤ last <;> simp [a]]
theorem F28_loop (h : Int) (s : List Int) (hl : s.length ≤ 9223372036854775807) : ∀ (k i : Nat), s.length = i + k → res B28 (.c1 h (lastAt s i) s.length (s.map vI) (s.length : Int) (i : Int)) = some (chS h (lastAt s i) (s.drop i))
  | 0, i, hk => by
    rw [List.drop_eq_nil_of_le (by omega), res_eq]
    have : ¬ ((i : Int) < (s.length : Int)) := by omega
    simp [B28, sem_br, sem_ret, this, stepO_ret, stepO_nxt, chS]
  | k + 1, i, hk => by
    have hi : i < s.length := by omega
    have h1 : (i : Int) < (s.length : Int) := by omega
    have ih := F28_loop h s hl k (i + 1) (by omega)
    rw [lastAt_succ] at ih
    have hin : inI64 ((i : Int) + 1) := by unfold inI64; omega
    rw [dropD 0 hi, res_eq]
    simp only [B28, F26_eq, F23_2', er1, sem_br, sem_ask, sem_ret, sem_nxt, sem_bind_some, sem_sees, sem_triv, PC.holds, need_true, Int.toNat_natCast, Nat.mul_one, dI_cel_map, at_map hi, h1, hin, decide_true, if_true, Int.natCast_nonneg, List.length_map, Nat.le_of_lt hi]
    unfold chS
    by_cases h0 : erS h (lastAt s i) (s.getD i 0) = 0
    · simp only [h0, bne_self_eq_false, if_true, Bool.false_eq_true, if_false, stepO_ret, stepO_nxt]
      rw [← ih]; rfl
    · simp only [h0, if_false, bne_iff_ne, ne_eq, not_false_eq_true, if_true, stepO_ret, stepO_nxt]
theorem F28_eq (h : Int) (s : List Int) (hl : s.length ≤ 9223372036854775807) : F28 h s.length (s.map vI) = some (ckS h s) := by
  unfold F28 ckS
  rw [res_eq]
  by_cases h0 : s.length = 0
  · simp [B28, sem_br, sem_ret, h0, stepO_ret]
  · have e : ((s.length : Int) == 0) = false := by simp; intro h; simp [h] at h0
    simp only [B28, sem_br, e, Bool.false_eq_true, if_false, h0, sem_nxt, stepO_nxt]
    exact F28_loop h s hl s.length 0 (by omega)
theorem er2 {h x y : Int} {i : Nat} {s : List Int} (hy : y = s.getD (i - 1) 0) : firstI [if x < 0 ∨ x ≥ h then 10 else 0, if 0 < i ∧ x ≤ y then 11 else 0] = erS h (lastAt s i) x := by
  unfold erS lastAt firstI
  subst hy
  by_cases a : x < 0 ∨ x ≥ h
  · simp [a]
  · simp only [a, if_false, if_true]
    by_cases b : i = 0
    · subst b
      simp only [Nat.lt_irrefl, false_and, if_false, if_true]
      rw [if_neg (show ¬ x ≤ -1 by omega)]
    · simp only [b, if_false, show 0 < i by omega, true_and]
theorem whenT (e : Int) : whenI true e = e := rfl
theorem whenF (e : Int) : whenI false e = 0 := rfl
theorem F13_loop (h : Int) (s : List Int) (hl : s.length ≤ 9223372036854775807) : ∀ (k i : Nat), s.length = i + k → res B13 (.c1 h s.length (s.map vI) (i : Int)) = some (chS h (lastAt s i) (s.drop i))
  | 0, i, hk => by
    rw [List.drop_eq_nil_of_le (by omega), res_eq]
    have : ¬ ((i : Int) < (s.length : Int)) := by omega
    simp [B13, sem_br, sem_ret, this, stepO_ret, stepO_nxt, chS]
  | k + 1, i, hk => by
    have hi : i < s.length := by omega
    have h1 : (i : Int) < (s.length : Int) := by omega
    have ih := F13_loop h s hl k (i + 1) (by omega)
    rw [lastAt_succ] at ih
    have hin : inI64 ((i : Int) + 1) := by unfold inI64; omega
    have hin2 : inI64 ((i : Int) - 1) := by unfold inI64; omega
    have hm : (if (i : Int) - 1 > 0 then (i : Int) - 1 else 0) = ((i - 1 : Nat) : Int) := by split <;> omega
    have hi2 : i - 1 < s.length := by omega
    have h2 : ((i - 1 : Nat) : Int) < (s.length : Int) := by omega
    have er := er2 (h := h) (x := s.getD i 0) (i := i) (s := s) rfl
    rw [dropD 0 hi, res_eq]
    unfold chS
    have fin : ∀ e : Int, e = erS h (lastAt s i) (s.getD i 0) → stepO (res B13) ((if (e != 0) = true then some (.inr e) else some (.inl (.c1 h s.length (s.map vI) ((i : Int) + 1)))) : Option (S13 ⊕ Int)) =
        some (if erS h (lastAt s i) (s.getD i 0) = 0 then chS h (s.getD i 0) (s.drop (i + 1)) else erS h (lastAt s i) (s.getD i 0)) := by
      rintro e rfl
      by_cases h0 : erS h (lastAt s i) (s.getD i 0) = 0
      · simp only [h0, bne_self_eq_false, if_true, Bool.false_eq_true, if_false, stepO_ret, stepO_nxt]
        rw [← ih]; rfl
      · simp only [h0, if_false, bne_iff_ne, ne_eq, not_false_eq_true, if_true, stepO_ret, stepO_nxt]
    simp only [B13, F39_eq, F38_2, sem_br, sem_ask, sem_ret, sem_nxt, sem_bind_some, sem_sees, sem_triv, PC.holds, need_true, Int.toNat_natCast, Nat.mul_one, dI_cel_map, at_map hi, at_map hi2, hm, h1, h2, hin, hin2, decide_true, if_true, Int.natCast_nonneg, List.length_map, Nat.le_of_lt hi, Nat.le_of_lt hi2]
    by_cases a : s.getD i 0 < 0
    · by_cases c : (i : Int) > 0
      · simp only [a, c, decide_true, if_true, need_true, whenT, beq_self_eq_true]
        refine fin _ ?_
        rw [← er, if_pos (show s.getD i 0 < 0 ∨ s.getD i 0 ≥ h from .inl a)]
        rfl
      · simp only [a, c, decide_true, decide_false, if_true, if_false, need_true, whenT, whenF, Bool.false_eq_true, beq_self_eq_true]
        refine fin _ ?_
        rw [← er, if_pos (show s.getD i 0 < 0 ∨ s.getD i 0 ≥ h from .inl a)]
        rfl
    · by_cases c : (i : Int) > 0
      · simp only [a, c, decide_true, decide_false, if_true, if_false, need_true, whenT, Bool.false_eq_true, beq_self_eq_true]
        refine fin _ ?_
        rw [← er]
        have c' : 0 < i := by omega
        by_cases d : s.getD i 0 ≥ h <;> by_cases e : s.getD i 0 ≤ s.getD (i - 1) 0 <;> simp only [a, c', d, e, whenI, firstI, decide_true, decide_false, if_true, if_false, Bool.false_eq_true, true_and, false_or, false_and, and_false]
      · simp only [a, c, decide_true, decide_false, if_true, if_false, need_true, whenT, whenF, Bool.false_eq_true, beq_self_eq_true]
        refine fin _ ?_
        rw [← er]
        have c' : ¬ 0 < i := by omega
        by_cases d : s.getD i 0 ≥ h <;> simp only [a, c', d, whenI, firstI, decide_true, decide_false, if_true, if_false, Bool.false_eq_true, true_and, false_or, false_and, and_false]
theorem F13_eq (h : Int) (s : List Int) (hl : s.length ≤ 9223372036854775807) : F13 h s.length (s.map vI) = some (ckS h s) := by
  unfold F13 ckS
  rw [res_eq]
  by_cases h0 : s.length = 0
  · simp [B13, sem_br, sem_ret, h0, stepO_ret]
  · have e : ((s.length : Int) == 0) = false := by simp; intro h; simp [h] at h0
    simp only [B13, sem_br, e, Bool.false_eq_true, if_false, h0, sem_nxt, stepO_nxt]
    exact F13_loop h s hl s.length 0 (by omega)
def ckSs (h : Int) : List (List Int) → Int
  | [] => 0
  | s :: S => if ckS h s = 0 then ckSs h S else ckS h s
/-- Lists that are no longer than a machine holds. -/
def Fit (S : List (List Int)) : Prop := S.length ≤ 9223372036854775807 ∧ ∀ s ∈ S, s.length ≤ 9223372036854775807
theorem Fit.get {S : List (List Int)} (h : Fit S) {i : Nat} (hi : i < S.length) : (S.getD i []).length ≤ 9223372036854775807 := by
  rw [List.getD_eq_getElem?_getD, List.getElem?_eq_getElem hi]; exact h.2 _ (List.getElem_mem hi)
theorem F4_loop (h : Int) (S : List (List Int)) (hl : Fit S) : ∀ (k i : Nat), S.length = i + k → res B4 (.c1 h S.length (S.map eS) (i : Int)) = some (ckSs h (S.drop i))
  | 0, i, hk => by
    rw [List.drop_eq_nil_of_le (by omega), res_eq]
    have : ¬ ((i : Int) < (S.length : Int)) := by omega
    simp [B4, sem_br, sem_ret, this, stepO_ret, stepO_nxt, ckSs]
  | k + 1, i, hk => by
    have hi : i < S.length := by omega
    have h1 : (i : Int) < (S.length : Int) := by omega
    have ih := F4_loop h S hl k (i + 1) (by omega)
    have hin : inI64 ((i : Int) + 1) := by have := hl.1; unfold inI64; omega
    rw [dropD [] hi, res_eq]
    simp only [B4, F13_eq _ _ (hl.get hi), sem_br, sem_ask, sem_ret, sem_nxt, sem_bind_some, sem_sees, sem_triv, PC.holds, need_true, Int.toNat_natCast, Nat.mul_one, cel_eS hi, dN_eS, dL_eS, at_mapS hi, h1, hin, decide_true, if_true, Int.natCast_nonneg, List.length_map, Nat.le_of_lt hi]
    unfold ckSs
    by_cases h0 : ckS h (S.getD i []) = 0
    · simp only [h0, bne_self_eq_false, if_true, Bool.false_eq_true, if_false, stepO_ret, stepO_nxt]
      rw [← ih]; rfl
    · simp only [h0, if_false, bne_iff_ne, ne_eq, not_false_eq_true, if_true, stepO_ret, stepO_nxt]
theorem F4_eq (h : Int) (S : List (List Int)) (hl : Fit S) : F4 h S.length (S.map eS) = some (if S.length > 16 then 5 else ckSs h S) := by
  unfold F4
  rw [res_eq]
  by_cases h0 : S.length > 16
  · have : (S.length : Int) > 16 := by omega
    simp [B4, sem_br, sem_ret, h0, this, stepO_ret]
  · have e : ¬ ((S.length : Int) > 16) := by omega
    simp only [B4, sem_br, e, decide_false, Bool.false_eq_true, if_false, h0, sem_nxt, stepO_nxt]
    exact F4_loop h S hl S.length 0 (by omega)
end
section
open Go Go.RowKit
theorem F27_eq (h : Int) (s : List Int) (hl : s.length ≤ 9223372036854775807) : F27 s.length (s.map vI) [vI h] = some (ckS h s) := by
  unfold F27; rw [res_eq]
  have e : dI (cel [vI h] 0) = h := rfl
  simp only [B27, e, F28_eq h s hl, sem_ask, sem_ret, sem_bind_some, sem_sees, PC.holds, need_of (show Option.map AV.d ([vI h] : List DV)[0]? = some (AV.d (DV.v (Value.int IntKind.i64 h))) from rfl), stepO_ret]
theorem F29f_loop (h : Int) (S : List (List Int)) (hl : Fit S) (hS : S.length ≤ 100) : ∀ (k i e : Nat), S.length = i + k → 0 < i →
    res B29f (.c2 [vI h] e i ((S.take i).map fun s => vI (ckS h s)) S.length (S.map eS) (S.length : Int) (i : Int) e) = some (S.length, S.map fun s => vI (ckS h s))
  | 0, i, e, hk, h0 => by
    obtain rfl : i = S.length := by omega
    rw [List.take_of_length_le (Nat.le_refl _), res_eq]
    have h1 : ¬ ((S.length : Int) < (S.length : Int)) := by omega
    simp only [B29f, sem_br, sem_ask, sem_ret, PC.holds, h1, decide_false, Bool.false_eq_true, if_false, need_true, h0, stepO_ret]
  | k + 1, i, e, hk, h0 => by
    have hi : i < S.length := by omega
    have h1 : (i : Int) < (S.length : Int) := by omega
    have ih := F29f_loop h S hl hS k (i + 1) (e + 1) (by omega) (by omega)
    have hin : inI64 ((i : Int) + 1) := by unfold inI64; omega
    have hf : fitsN (i + 1) 8 := by unfold fitsN; omega
    rw [List.take_succ_eq_append_getElem hi, List.map_append] at ih
    rw [res_eq]
    simp only [B29f, F27_eq h _ (hl.get hi), sem_br, sem_ask, sem_ret, sem_nxt, sem_bind_some, sem_sees, sem_triv, PC.holds, need_true, Int.toNat_natCast, Nat.mul_one, cel_eS hi, dN_eS, dL_eS, at_mapS hi, h1, hin, hf, decide_true, if_true, Int.natCast_nonneg, List.length_map, Nat.le_of_lt hi, stepO_nxt]
    rw [← ih]
    simp [List.getD_eq_getElem?_getD, hi]
theorem F29f_eq (h : Int) (S : List (List Int)) (hl : Fit S) (hS : S.length ≤ 100) : F29f S.length (S.map eS) [vI h] = some (S.length, S.map fun s => vI (ckS h s)) := by
  unfold F29f
  rw [res_eq]
  simp only [B29f, sem_nxt, stepO_nxt]
  rw [res_eq]
  by_cases h0 : S.length = 0
  · have : S = [] := List.eq_nil_of_length_eq_zero h0
    subst this
    simp [B29f, sem_br, sem_ret, stepO_ret]
  · have hi : 0 < S.length := by omega
    have h1 : (0 : Int) < (S.length : Int) := by omega
    have h2 := at_mapS hi
    have hin : inI64 ((0 : Int) + 1) := by unfold inI64; omega
    have ih := F29f_loop h S hl hS (S.length - 1) 1 0 (by omega) (by omega)
    rw [List.take_succ_eq_append_getElem hi, List.map_append] at ih
    simp only [B29f, F27_eq h _ (hl.get hi), sem_br, sem_ask, sem_ret, sem_nxt, sem_bind_some, sem_sees, sem_triv, PC.holds, need_true, Int.toNat_zero, Nat.mul_one, Nat.zero_mul, cel_eS hi, dN_eS, dL_eS, h2, h1, hin, decide_true, if_true, Int.le_refl, List.length_map, Nat.zero_le, stepO_nxt]
    rw [← ih]
    simp [List.getD_eq_getElem?_getD, hi]
/-! whether a number is in a list -/
theorem F58_loop (l : List Int) (x : Int) (hl : l.length ≤ 9223372036854775807) : ∀ (k i : Nat), l.length = i + k → ∃ v : Int, res B58 (.c1 l.length (l.map vI) x (l.length : Int) (i : Int)) = some v ∧ decide (v ≥ 0) = decide (x ∈ l.drop i)
  | 0, i, hk => by
    rw [List.drop_eq_nil_of_le (by omega), res_eq]
    have : ¬ ((i : Int) < (l.length : Int)) := by omega
    refine ⟨-1, by simp [B58, sem_br, sem_ret, this, stepO_ret], by simp⟩
  | k + 1, i, hk => by
    have hi : i < l.length := by omega
    have h1 : (i : Int) < (l.length : Int) := by omega
    obtain ⟨v, ih, hv⟩ := F58_loop l x hl k (i + 1) (by omega)
    have hin : inI64 ((i : Int) + 1) := by unfold inI64; omega
    rw [dropD 0 hi, res_eq]
    simp only [B58, sem_br, sem_ask, sem_ret, sem_nxt, PC.holds, need_true, Int.toNat_natCast, Nat.mul_one, dI_cel_map, at_map hi, h1, hin, decide_true, if_true, Int.natCast_nonneg, List.length_map, Nat.le_of_lt hi]
    by_cases h0 : x = l.getD i 0
    · refine ⟨(i : Int), by simp only [h0, beq_self_eq_true, if_true, stepO_ret], ?_⟩
      simp only [← h0, List.mem_cons, true_or, ge_iff_le, Int.natCast_nonneg]
    · refine ⟨v, ?_, ?_⟩
      · simp only [beq_eq_false_iff_ne.2 h0, Bool.false_eq_true, if_false, stepO_nxt]
        rw [← ih]; rfl
      · simp only [hv, List.mem_cons, h0, false_or]
theorem F48_eq (l : List Int) (x : Int) (hl : l.length ≤ 9223372036854775807) : F48 l.length (l.map vI) x = some (decide (x ∈ l)) := by
  obtain ⟨v, e, hv⟩ := F58_loop l x hl l.length 0 (by omega)
  have e58 : F58 l.length (l.map vI) x = some v := by
    unfold F58; rw [res_eq]
    simp only [B58, sem_nxt, stepO_nxt]
    exact e
  unfold F48; rw [res_eq]
  simp only [B48, e58, sem_bind_some, sem_sees, sem_ret, stepO_ret, hv, List.drop_zero]
theorem F10_loop (l : List Int) (x : Int) (hl : l.length ≤ 9223372036854775807) : ∀ (k i : Nat), l.length = i + k → res B10 (.c1 l.length (l.map vI) x (i : Int)) = some (decide (x ∈ l.drop i))
  | 0, i, hk => by
    rw [List.drop_eq_nil_of_le (by omega), res_eq]
    have : ¬ ((i : Int) < (l.length : Int)) := by omega
    simp [B10, sem_br, sem_ret, this, stepO_ret]
  | k + 1, i, hk => by
    have hi : i < l.length := by omega
    have h1 : (i : Int) < (l.length : Int) := by omega
    have ih := F10_loop l x hl k (i + 1) (by omega)
    have hin : inI64 ((i : Int) + 1) := by unfold inI64; omega
    rw [dropD 0 hi, res_eq]
    simp only [B10, sem_br, sem_ask, sem_ret, sem_nxt, PC.holds, need_true, Int.toNat_natCast, Nat.mul_one, dI_cel_map, at_map hi, h1, hin, decide_true, if_true, Int.natCast_nonneg, List.length_map, Nat.le_of_lt hi]
    by_cases h0 : l.getD i 0 = x
    · simp only [h0, beq_self_eq_true, if_true, stepO_ret, List.mem_cons, true_or, decide_true]
    · simp only [beq_eq_false_iff_ne.2 h0, Bool.false_eq_true, if_false, stepO_nxt, List.mem_cons, show ¬ x = l.getD i 0 from fun h => h0 h.symm, false_or]
      rw [← ih]; rfl
theorem F10_eq (l : List Int) (x : Int) (hl : l.length ≤ 9223372036854775807) : F10 l.length (l.map vI) x = some (decide (x ∈ l)) := by
  unfold F10; rw [res_eq]
  simp only [B10, sem_nxt, stepO_nxt]
  have := F10_loop l x hl l.length 0 (by omega)
  rw [List.drop_zero] at this
  exact this
/-! how far two sets are apart -/
def cm (b : List Int) (a : List Int) : Int := ((a.filter fun x => decide (x ∈ b)).length : Int)
def apart (a b : List Int) : Int := a.length + b.length - 2 * cm b a
theorem cm_cons (b : List Int) (x : Int) (a : List Int) : cm b (x :: a) = (if x ∈ b then 1 else 0) + cm b a := by
  unfold cm
  by_cases h : x ∈ b
  · simp [List.filter_cons, h]; omega
  · simp [List.filter_cons, h]
theorem cm_bd (b a : List Int) : 0 ≤ cm b a ∧ cm b a ≤ a.length := by
  unfold cm
  have := List.length_filter_le (fun x => decide (x ∈ b)) a
  omega
theorem F32_loop (a b : List Int) (ha : a.length ≤ 1000000) (hb : b.length ≤ 1000000) : ∀ (k i : Nat) (n : Int), a.length = i + k → -2000000 * (i + 1) ≤ n ∧ n ≤ 3000000 →
    res B32 (.c1 b.length (b.map vI) n a.length (a.map vI) (a.length : Int) (i : Int)) = some (n - 2 * cm b (a.drop i))
  | 0, i, n, hk, hn => by
    rw [List.drop_eq_nil_of_le (by omega), res_eq]
    have : ¬ ((i : Int) < (a.length : Int)) := by omega
    simp [B32, sem_br, sem_ret, this, stepO_ret, cm]
  | k + 1, i, n, hk, hn => by
    have hi : i < a.length := by omega
    have h1 : (i : Int) < (a.length : Int) := by omega
    have hin : inI64 ((i : Int) + 1) := by unfold inI64; omega
    have hin2 : inI64 (n - 2) := by unfold inI64; omega
    rw [dropD 0 hi, res_eq, cm_cons]
    simp only [B32, F48_eq b _ (show b.length ≤ 9223372036854775807 by omega), sem_br, sem_ask, sem_ret, sem_nxt, sem_bind_some, sem_sees, PC.holds, need_true, Int.toNat_natCast, Nat.mul_one, dI_cel_map, at_map hi, h1, hin, hin2, decide_true, if_true, Int.natCast_nonneg, List.length_map, Nat.le_of_lt hi]
    by_cases h0 : a.getD i 0 ∈ b
    · simp only [h0, decide_true, if_true, stepO_nxt]
      have ih := F32_loop a b ha hb k (i + 1) (n - 2) (by omega) (by omega)
      rw [show n - 2 * (1 + cm b (a.drop (i + 1))) = n - 2 - 2 * cm b (a.drop (i + 1)) by omega, ← ih]; rfl
    · simp only [h0, decide_false, Bool.false_eq_true, if_false, stepO_nxt]
      have ih := F32_loop a b ha hb k (i + 1) n (by omega) (by omega)
      rw [Int.zero_add, ← ih]; rfl
theorem F32_eq (a b : List Int) (ha : a.length ≤ 1000000) (hb : b.length ≤ 1000000) : F32 a.length (a.map vI) b.length (b.map vI) = some (apart a b) := by
  unfold F32; rw [res_eq]
  have hin : inI64 ((a.length : Int) + (b.length : Int)) := by unfold inI64; omega
  simp only [B32, sem_ask, sem_nxt, PC.holds, hin, need_true, stepO_nxt]
  have := F32_loop a b ha hb a.length 0 ((a.length : Int) + (b.length : Int)) (by omega) (by omega)
  rw [List.drop_zero] at this
  exact this
def near (k : Int) (s o : List Int) : Bool := if apart o s > 0 then decide (apart o s < k) else false
theorem F31_eq (o s : List Int) (k : Int) (ho : o.length ≤ 1000000) (hs : s.length ≤ 1000000) : F31 o.length (o.map vI) [eS s] [vI k] = some (near k s o) := by
  unfold F31; rw [res_eq]
  have e : dI (cel [vI k] 0) = k := rfl
  have e2 : cel [eS s] 0 = eS s := rfl
  simp only [B31, e, e2, dN_eS, dL_eS, F32_eq o s ho hs, sem_ask, sem_ret, sem_bind_some, sem_sees, sem_br, PC.holds, need_of (show Option.map AV.d ([vI k] : List DV)[0]? = some (AV.d (DV.v (Value.int IntKind.i64 k))) from rfl),
    need_of (show Option.map AV.d ([eS s] : List DV)[0]? = some (AV.d (DV.sl s.length (s.map vI))) from rfl)]
  unfold near
  by_cases h : apart o s > 0
  · simp only [h, decide_true, if_true, beq_self_eq_true, need_true, stepO_ret]
  · simp only [h, decide_false, if_false, Bool.false_eq_true, stepO_ret]
theorem F47_loop (S : List (List Int)) (s : List Int) (k0 : Int) (hS : S.length ≤ 1000000) (hb : ∀ o ∈ S, o.length ≤ 1000000) (hs : s.length ≤ 1000000) : ∀ (k i : Nat), S.length = i + k →
    ∃ v : Int, res B47 (.c1 S.length (S.map eS) [eS s] [vI k0] (S.length : Int) (i : Int)) = some v ∧ decide (v ≥ 0) = (S.drop i).any (near k0 s)
  | 0, i, hk => by
    rw [List.drop_eq_nil_of_le (by omega), res_eq]
    have : ¬ ((i : Int) < (S.length : Int)) := by omega
    refine ⟨-1, by simp [B47, sem_br, sem_ret, this, stepO_ret], by simp⟩
  | k + 1, i, hk => by
    have hi : i < S.length := by omega
    have h1 : (i : Int) < (S.length : Int) := by omega
    obtain ⟨v, ih, hv⟩ := F47_loop S s k0 hS hb hs k (i + 1) (by omega)
    have hin : inI64 ((i : Int) + 1) := by unfold inI64; omega
    have ho : (S.getD i []).length ≤ 1000000 := by rw [List.getD_eq_getElem?_getD, List.getElem?_eq_getElem hi]; exact hb _ (List.getElem_mem hi)
    rw [dropD [] hi, res_eq]
    simp only [B47, F31_eq _ s k0 ho hs, sem_br, sem_ask, sem_ret, sem_nxt, sem_bind_some, sem_sees, PC.holds, need_true, Int.toNat_natCast, Nat.mul_one, cel_eS hi, dN_eS, dL_eS, at_mapS hi, h1, hin, decide_true, if_true, Int.natCast_nonneg, List.length_map, Nat.le_of_lt hi, List.any_cons]
    by_cases h0 : near k0 s (S.getD i []) = true
    · refine ⟨(i : Int), by simp only [h0, if_true, stepO_ret], ?_⟩
      simp only [h0, Bool.true_or, ge_iff_le, Int.natCast_nonneg, decide_true]
    · have h0 : near k0 s (S.getD i []) = false := by simpa using h0
      refine ⟨v, ?_, ?_⟩
      · simp only [h0, Bool.false_eq_true, if_false, stepO_nxt]
        rw [← ih]; rfl
      · simp only [hv, h0, Bool.false_or]
theorem F30_eq (S : List (List Int)) (s : List Int) (k0 : Int) (hS : S.length ≤ 1000000) (hb : ∀ o ∈ S, o.length ≤ 1000000) (hs : s.length ≤ 1000000) : F30 S.length (S.map eS) [eS s] [vI k0] = some (S.any (near k0 s)) := by
  obtain ⟨v, e, hv⟩ := F47_loop S s k0 hS hb hs S.length 0 (by omega)
  have e47 : F47 S.length (S.map eS) [eS s] [vI k0] = some v := by
    unfold F47; rw [res_eq]
    simp only [B47, sem_nxt, stepO_nxt]
    exact e
  unfold F30; rw [res_eq]
  simp only [B30, e47, sem_bind_some, sem_sees, sem_ret, stepO_ret, hv, List.drop_zero]
/-! permitted sets -/
theorem flatDs_vI : ∀ l : List Int, flatDs (l.map vI) = true := by
  intro l; unfold flatDs; rw [List.all_map]; exact List.all_eq_true.2 fun _ _ => rfl
theorem F24_eq (n : Int) : F24 n = some (rangeI n 1 5) := by
  unfold F24; rw [res_eq]
  simp only [B24, F25_eq, sem_bind_some, sem_sees, sem_ret, stepO_ret]
theorem first0s : ∀ {l : List Int}, (∀ x ∈ l, x = 0) → firstI l = 0
  | [], _ => rfl
  | x :: xs, h => by
    unfold firstI
    rw [if_pos (h x (by simp))]
    exact first0s fun y hy => h y (by simp [hy])
theorem F8_eq {h k : Int} {S : List (List Int)} {s : List Int} (hh : 1 ≤ h ∧ h ≤ 5) (hk : 1 ≤ k ∧ k ≤ 5) (hS : S.length ≤ 16) (hv : ∀ o ∈ S, ckS h o = 0 ∧ o.length ≤ 1000000) (hs : ckS h s = 0 ∧ s.length ≤ 1000000) :
    F8 h k S.length (S.map eS) s.length (s.map vI) = some (decide ((s.length : Int) ≥ k) && !S.any (near k s), 0) := by
  have hfit : Fit S := ⟨by omega, fun o ho => by have := (hv o ho).2; omega⟩
  have r1 : rangeI h 1 5 = 0 := rangeI_zero.2 hh
  have r2 : rangeI k 1 5 = 0 := rangeI_zero.2 hk
  have r3 : ¬ ((S.length : Int) > 16) := by omega
  have f3 : F23 3 [vI 0, vI 0, vI 0] = some 0 := F23_eq [0, 0, 0] (by simp)
  have f2 : F23 2 [vI 0, vI 0] = some 0 := F23_eq [0, 0] (by simp)
  have f0 : F23 0 [] = some 0 := F23_eq [] (by simp)
  have em : (S.map fun s => vI (ckS h s)) = (S.map fun s => ckS h s).map vI := by rw [List.map_map]; rfl
  have e1 : F23 S.length ((S.map fun s => ckS h s).map vI) = some 0 := by
    have := F23_eq (S.map fun s => ckS h s) (by rw [List.length_map]; omega)
    rw [List.length_map] at this
    rw [this, first0s]
    intro x hx
    obtain ⟨o, ho, rfl⟩ := List.mem_map.1 hx
    exact (hv o ho).1
  have e30 := F30_eq S s k (by omega) (fun o ho => (hv o ho).2) hs.2
  have e27 := F27_eq h s (by have := hs.2; omega)
  have hss : (DV.sl s.length (s.map vI)) = eS s := rfl
  unfold F8; rw [res_eq]
  simp only [B8, F24_eq, F25_eq, F26_eq, r1, r2, r3, decide_false, whenF, f3, f2, f0, F29f_eq h S hfit (by omega), em, e1, e27, hs.1, hss, e30, sem_br, sem_ask, sem_ret, sem_bind_some, sem_sees, sem_triv, PC.holds, bne_self_eq_false, Bool.false_eq_true, if_false, ownN]
  by_cases h0 : S.length = 0
  · have : S = [] := List.eq_nil_of_length_eq_zero h0
    subst this
    simp only [List.length_nil, List.any_nil, List.map_nil, sem_ask, sem_ret, sem_br, sem_bind_some, sem_sees, PC.holds, need_true, stepO_ret, if_true, show (Nat.beq 0 0) = true from rfl, f0, f2, e27, hs.1, bne_self_eq_false, Bool.false_eq_true, if_false]
    by_cases a : (s.length : Int) ≥ k <;> simp [a, stepO_ret]
  · have hb : (S.length).beq 0 = false := by
      cases hh : S.length with
      | zero => exact absurd hh h0
      | succ n => rfl
    simp only [hb, Bool.false_eq_true, if_false, sem_ask, sem_ret, sem_br, sem_bind_some, sem_sees, PC.holds, need_true, stepO_ret, e1, f2, e27, hs.1, bne_self_eq_false, show 0 < S.length by omega, e30, hss, flatDs_vI]
    by_cases a : (s.length : Int) ≥ k <;> simp [a, stepO_ret]
end
section
open Go Go.RowKit
/-! valid sets -/
theorem erS_zero {h last x : Int} (e : erS h last x = 0) : (0 ≤ x ∧ x < h) ∧ last < x := by
  unfold erS firstI at e
  by_cases a : x < 0 ∨ x ≥ h
  · simp [a] at e
  · by_cases b : x ≤ last
    · simp [a, b, firstI] at e
    · omega
theorem chS_zero {h : Int} : ∀ {s : List Int} {last : Int}, chS h last s = 0 → (∀ x ∈ s, (0 ≤ x ∧ x < h) ∧ last < x) ∧ s.Pairwise (· < ·)
  | [], _, _ => ⟨by simp, List.Pairwise.nil⟩
  | x :: xs, last, e => by
    unfold chS at e
    by_cases h0 : erS h last x = 0
    · rw [if_pos h0] at e
      obtain ⟨h1, h2⟩ := chS_zero e
      have h3 := erS_zero h0
      refine ⟨?_, List.Pairwise.cons (fun y hy => (h1 y hy).2) h2⟩
      intro y hy
      rcases List.mem_cons.1 hy with rfl | hy
      · exact h3
      · exact ⟨(h1 y hy).1, by have := (h1 y hy).2; omega⟩
    · rw [if_neg h0] at e; exact absurd e h0
/-- A valid set of houses. -/
structure VS (h : Int) (s : List Int) : Prop where
  ck : ckS h s = 0
  ne : s.length ≠ 0
  bd : ∀ x ∈ s, 0 ≤ x ∧ x < h
  inc : s.Pairwise (· < ·)
theorem vs_of {h : Int} {s : List Int} (e : ckS h s = 0) : VS h s := by
  have e' := e
  unfold ckS at e'
  by_cases h0 : s.length = 0
  · simp [h0] at e'
  · rw [if_neg h0] at e'
    obtain ⟨h1, h2⟩ := chS_zero e'
    exact ⟨e, h0, fun x hx => (h1 x hx).1, h2⟩
theorem inc_len : ∀ {s : List Int} {a h : Int}, a ≤ h → (∀ x ∈ s, a ≤ x ∧ x < h) → s.Pairwise (· < ·) → (s.length : Int) ≤ h - a
  | [], a, h, ha, _, _ => by simp; omega
  | x :: xs, a, h, ha, hb, hp => by
    have h1 := hb x (by simp)
    obtain ⟨p1, p2⟩ := List.pairwise_cons.1 hp
    have := inc_len (s := xs) (a := x + 1) (h := h) (by omega) (fun y hy => ⟨by have := p1 y hy; omega, (hb y (by simp [hy])).2⟩) p2
    rw [List.length_cons]; omega
theorem VS.len {h : Int} {s : List Int} (v : VS h s) (hh : 0 ≤ h) : (s.length : Int) ≤ h := by
  have := inc_len hh v.bd v.inc; omega
theorem ckSs_zero {h : Int} : ∀ {S : List (List Int)}, ckSs h S = 0 → ∀ s ∈ S, VS h s
  | [], _, s, hs => by simp at hs
  | x :: xs, e, s, hs => by
    unfold ckSs at e
    by_cases h0 : ckS h x = 0
    · rw [if_pos h0] at e
      rcases List.mem_cons.1 hs with rfl | hs
      · exact vs_of h0
      · exact ckSs_zero e s hs
    · rw [if_neg h0] at e; exact absurd e h0
/-! sums -/
def tot (U : List Int) (s : List Int) : Int := (s.map fun x => U.getD x.toNat 0).sum
theorem tot_cons (U : List Int) (x : Int) (s : List Int) : tot U (x :: s) = U.getD x.toNat 0 + tot U s := by simp [tot]
def Use (U : List Int) : Prop := ∀ x ∈ U, 0 ≤ x ∧ x ≤ 7
theorem Use.get {U : List Int} (h : Use U) (i : Nat) : 0 ≤ U.getD i 0 ∧ U.getD i 0 ≤ 7 := by
  rw [List.getD_eq_getElem?_getD]
  cases e : U[i]? with
  | none => simp
  | some x => exact h x (List.mem_of_getElem? e)
theorem tot_bd {U : List Int} (h : Use U) : ∀ s : List Int, 0 ≤ tot U s ∧ tot U s ≤ 7 * s.length
  | [] => by simp [tot]
  | x :: s => by
    have h1 := tot_bd h s
    have h2 := h.get x.toNat
    rw [tot_cons, List.length_cons]; omega
theorem F35_loop {U s : List Int} (hU : Use U) (hl : U.length ≤ 1000) (hs : s.length ≤ 1000) (hb : ∀ x ∈ s, 0 ≤ x ∧ x < (U.length : Int)) : ∀ (k i : Nat) (n : Int), s.length = i + k → 0 ≤ n ∧ n ≤ 7 * i →
    res B35 (.c1 U.length (U.map vI) n s.length (s.map vI) (s.length : Int) (i : Int)) = some (n + tot U (s.drop i))
  | 0, i, n, hk, hn => by
    rw [List.drop_eq_nil_of_le (by omega), res_eq]
    have : ¬ ((i : Int) < (s.length : Int)) := by omega
    simp [B35, sem_br, sem_ret, this, stepO_ret, tot]
  | k + 1, i, n, hk, hn => by
    have hi : i < s.length := by omega
    have h1 : (i : Int) < (s.length : Int) := by omega
    have hin : inI64 ((i : Int) + 1) := by unfold inI64; omega
    have hx : 0 ≤ s.getD i 0 ∧ s.getD i 0 < (U.length : Int) := by rw [List.getD_eq_getElem?_getD, List.getElem?_eq_getElem hi]; exact hb _ (List.getElem_mem hi)
    have hxn : (s.getD i 0).toNat < U.length := by omega
    have hu := hU.get (s.getD i 0).toNat
    have hin2 : inI64 (n + U.getD (s.getD i 0).toNat 0) := by unfold inI64; omega
    have ih := F35_loop hU hl hs hb k (i + 1) (n + U.getD (s.getD i 0).toNat 0) (by omega) (by omega)
    rw [dropD 0 hi, res_eq, tot_cons]
    simp only [B35, sem_br, sem_ask, sem_ret, sem_nxt, PC.holds, need_true, Int.toNat_natCast, Nat.mul_one, dI_cel_map, at_map hi, at_map hxn, hx.1, hx.2, h1, hin, hin2, decide_true, if_true, Int.natCast_nonneg, List.length_map, Nat.le_of_lt hi, Nat.le_of_lt hxn, stepO_nxt]
    rw [← Int.add_assoc, ← ih]; rfl
theorem F35_eq {U s : List Int} (hU : Use U) (hl : U.length ≤ 1000) (hs : s.length ≤ 1000) (hb : ∀ x ∈ s, 0 ≤ x ∧ x < (U.length : Int)) : F35 U.length (U.map vI) s.length (s.map vI) = some (tot U s) := by
  unfold F35; rw [res_eq]
  simp only [B35, sem_nxt, stepO_nxt]
  have := F35_loop hU hl hs hb s.length 0 0 (by omega) (by omega)
  rw [List.drop_zero, Int.zero_add] at this
  exact this
theorem F33_eq (n : Int) : F33 n = some (rangeI n 0 7) := by
  unfold F33; rw [res_eq]
  simp only [B33, F25_eq, sem_bind_some, sem_sees, sem_ret, stepO_ret]
theorem F34_loop {U : List Int} (hl : U.length ≤ 1000) : ∀ (k i e : Nat), U.length = i + k → 0 < i →
    res B34 (.c2 e i ((U.take i).map fun x => vI (rangeI x 0 7)) U.length (U.map vI) (U.length : Int) (i : Int) e) = some (U.length, U.map fun x => vI (rangeI x 0 7))
  | 0, i, e, hk, h0 => by
    obtain rfl : i = U.length := by omega
    rw [List.take_of_length_le (Nat.le_refl _), res_eq]
    have h1 : ¬ ((U.length : Int) < (U.length : Int)) := by omega
    simp only [B34, sem_br, sem_ask, sem_ret, PC.holds, h1, decide_false, Bool.false_eq_true, if_false, need_true, h0, stepO_ret]
  | k + 1, i, e, hk, h0 => by
    have hi : i < U.length := by omega
    have h1 : (i : Int) < (U.length : Int) := by omega
    have ih := F34_loop hl k (i + 1) (e + 1) (by omega) (by omega)
    have hin : inI64 ((i : Int) + 1) := by unfold inI64; omega
    have hf : fitsN (i + 1) 8 := by unfold fitsN; omega
    rw [List.take_succ_eq_append_getElem hi, List.map_append] at ih
    rw [res_eq]
    simp only [B34, F33_eq, sem_br, sem_ask, sem_ret, sem_nxt, sem_bind_some, sem_sees, sem_triv, PC.holds, need_true, Int.toNat_natCast, Nat.mul_one, dI_cel_map, at_map hi, h1, hin, hf, decide_true, if_true, Int.natCast_nonneg, List.length_map, Nat.le_of_lt hi, stepO_nxt]
    rw [← ih]
    simp [List.getD_eq_getElem?_getD, hi]
theorem F34_eq {U : List Int} (hl : U.length ≤ 1000) (h0 : 0 < U.length) : F34 U.length (U.map vI) = some (U.length, U.map fun x => vI (rangeI x 0 7)) := by
  unfold F34
  rw [res_eq]
  simp only [B34, sem_nxt, stepO_nxt]
  rw [res_eq]
  have h1 : (0 : Int) < (U.length : Int) := by omega
  have h2 := at_map h0
  have hin : inI64 ((0 : Int) + 1) := by unfold inI64; omega
  have ih := F34_loop hl (U.length - 1) 1 0 (by omega) (by omega)
  rw [List.take_succ_eq_append_getElem h0, List.map_append] at ih
  simp only [B34, F33_eq, sem_br, sem_ask, sem_ret, sem_nxt, sem_bind_some, sem_sees, sem_triv, PC.holds, need_true, Int.toNat_zero, Nat.mul_one, Nat.zero_mul, dI_cel_map, h2, h1, hin, decide_true, if_true, Int.le_refl, List.length_map, Nat.zero_le, stepO_nxt]
  rw [← ih]
  simp [List.getD_eq_getElem?_getD, h0]
/-- Sum of a valid set. -/
theorem F11_eq {U s : List Int} (hU : Use U) (hl : U.length ≤ 5) (h0 : 0 < U.length) (hs : VS (U.length : Int) s) : F11 U.length (U.map vI) s.length (s.map vI) = some (tot U s, 0) := by
  have hlen := hs.len (by omega)
  have c1 : ((U.length : Int) == 0) = false := by simp; intro h; simp [h] at h0
  have c2 : ¬ ((U.length : Int) > 5) := by omega
  have f2 : F23 2 [vI 0, vI 0] = some 0 := F23_eq [0, 0] (by simp)
  have em : (U.map fun x => vI (rangeI x 0 7)) = (U.map fun x => rangeI x 0 7).map vI := by rw [List.map_map]; rfl
  have e1 : F23 U.length ((U.map fun x => rangeI x 0 7).map vI) = some 0 := by
    have := F23_eq (U.map fun x => rangeI x 0 7) (by rw [List.length_map]; omega)
    rw [List.length_map] at this
    rw [this, first0s]
    intro x hx
    obtain ⟨o, ho, rfl⟩ := List.mem_map.1 hx
    exact rangeI_zero.2 (hU o ho)
  have e28 := F28_eq (U.length : Int) s (by omega)
  rw [hs.ck] at e28
  unfold F11; rw [res_eq]
  simp only [B11, F26_eq, c1, c2, decide_false, whenF, f2, F34_eq (by omega : U.length ≤ 1000) h0, em, e1, e28, F35_eq hU (by omega) (by omega) hs.bd, sem_br, sem_ask, sem_ret, sem_bind_some, sem_sees, sem_triv, PC.holds, bne_self_eq_false, Bool.false_eq_true, if_false, stepO_ret]
/-! answers -/
abbrev Ans := List Int × Int
def eA (a : Ans) : List DV := [eS a.1, vI a.2]
theorem eA_len (a : Ans) : (eA a).length = 2 := rfl
structure AtA (l : List DV) (i : Nat) (a : Ans) : Prop where
  c0 : cel l (i * 2) = eS a.1
  c1 : dI (cel l (i * 2 + 1)) = a.2
  r1 : i * 2 ≤ l.length
  r2 : 2 ≤ (l.drop (i * 2)).length
  t : List.map AV.d (List.take 2 (List.drop (i * 2) l)) = [AV.d (DV.sl a.1.length (a.1.map vI)), AV.d (DV.v (Value.int IntKind.i64 a.2))]
theorem atA {A : List Ans} {i : Nat} (hi : i < A.length) : AtA (A.flatMap eA) i (A.getD i ([], 0)) := by
  have hk (k : Nat) (h : k < 2) := fm_cel (enc := eA) eA_len hi h
  obtain ⟨r1, r2⟩ := fm_room (enc := eA) eA_len hi
  rw [show A.getD i ([], 0) = A[i] by simp [List.getD_eq_getElem?_getD, hi]]
  refine ⟨?_, ?_, r1, r2, ?_⟩
  · have := hk 0 (by decide)
    rw [Nat.add_zero] at this
    rw [this]; rfl
  · rw [hk 1 (by decide)]; rfl
  · rw [fm_at eA_len hi]; rfl
/-- A valid answer. -/
def VA (h : Int) (a : Ans) : Prop := VS h a.1 ∧ 0 ≤ a.2 ∧ a.2 ≤ 35 ∧ a.1.length ≤ 1000
theorem F50_eq {h : Int} {a : Ans} (v : VA h a) : F50 a.1.length (a.1.map vI) a.2 [vI h] = some 0 := by
  obtain ⟨v1, v2, v3, v4⟩ := v
  have e : dI (cel [vI h] 0) = h := rfl
  have e28 := F28_eq h a.1 (by omega)
  rw [v1.ck] at e28
  have r : rangeI a.2 0 35 = 0 := rangeI_zero.2 ⟨v2, v3⟩
  have f2 : F23 2 [vI 0, vI 0] = some 0 := F23_eq [0, 0] (by simp)
  unfold F50; rw [res_eq]
  simp only [B50, e, e28, F25_eq, r, f2, sem_ask, sem_ret, sem_bind_some, sem_sees, sem_triv, PC.holds, need_of (show Option.map AV.d ([vI h] : List DV)[0]? = some (AV.d (DV.v (Value.int IntKind.i64 h))) from rfl), stepO_ret]
theorem getA {A : List Ans} {i : Nat} (hi : i < A.length) {h : Int} (v : ∀ a ∈ A, VA h a) : VA h (A.getD i ([], 0)) := by
  rw [show A.getD i ([], 0) = A[i] by simp [List.getD_eq_getElem?_getD, hi]]; exact v _ (List.getElem_mem hi)
theorem zer_snoc (i : Nat) : (List.replicate i (0 : Int)).map vI ++ [DV.v (Value.int IntKind.i64 0)] = (List.replicate (i + 1) (0 : Int)).map vI := by
  rw [List.replicate_succ', List.map_append]; rfl
theorem F49f_loop {h : Int} {A : List Ans} (v : ∀ a ∈ A, VA h a) (hA : A.length ≤ 100) : ∀ (k i e : Nat), A.length = i + k → 0 < i →
    res B49f (.c2 [vI h] e i ((List.replicate i (0 : Int)).map vI) A.length (A.flatMap eA) (A.length : Int) (i : Int) e) = some (A.length, (List.replicate A.length (0 : Int)).map vI)
  | 0, i, e, hk, h0 => by
    obtain rfl : i = A.length := by omega
    rw [res_eq]
    have h1 : ¬ ((A.length : Int) < (A.length : Int)) := by omega
    simp only [B49f, sem_br, sem_ask, sem_ret, PC.holds, h1, decide_false, Bool.false_eq_true, if_false, need_true, h0, stepO_ret]
  | k + 1, i, e, hk, h0 => by
    have hi : i < A.length := by omega
    have h1 : (i : Int) < (A.length : Int) := by omega
    have ih := F49f_loop v hA k (i + 1) (e + 1) (by omega) (by omega)
    have hin : inI64 ((i : Int) + 1) := by unfold inI64; omega
    have hf : fitsN (i + 1) 8 := by unfold fitsN; omega
    have at2 := atA hi
    rw [res_eq]
    simp only [B49f, F50_eq (getA hi v), at2.c0, at2.c1, at2.r1, at2.r2, at2.t, dN_eS, dL_eS, sem_br, sem_ask, sem_ret, sem_nxt, sem_bind_some, sem_sees, sem_triv, PC.holds, need_true, Int.toNat_natCast, h1, hin, hf, decide_true, if_true, Int.natCast_nonneg, stepO_nxt, zer_snoc]
    rw [← ih]; rfl
theorem F49f_eq {h : Int} {A : List Ans} (v : ∀ a ∈ A, VA h a) (hA : A.length ≤ 100) (h0 : 0 < A.length) : F49f A.length (A.flatMap eA) [vI h] = some (A.length, (List.replicate A.length (0 : Int)).map vI) := by
  unfold F49f
  rw [res_eq]
  simp only [B49f, sem_nxt, stepO_nxt]
  rw [res_eq]
  have h1 : (0 : Int) < (A.length : Int) := by omega
  have at2 := atA h0
  have hin : inI64 ((0 : Int) + 1) := by unfold inI64; omega
  have ih := F49f_loop v hA (A.length - 1) 1 0 (by omega) (by omega)
  have a0 := at2.c0; have a1 := at2.c1; have a2 := at2.r1; have a3 := at2.r2; have a4 := at2.t
  simp only [B49f, Int.toNat_zero, F50_eq (getA h0 v), a0, a1, a2, a3, a4, dN_eS, dL_eS, sem_br, sem_ask, sem_ret, sem_nxt, sem_bind_some, sem_sees, sem_triv, PC.holds, need_true, h1, hin, decide_true, if_true, Int.le_refl, stepO_nxt]
  rw [← ih]; rfl
theorem F36_eq {h : Int} {A : List Ans} (hh : 1 ≤ h ∧ h ≤ 5) (v : ∀ a ∈ A, VA h a) (hA : A.length ≤ 16) (h0 : 0 < A.length) : F36 h 7 A.length (A.flatMap eA) = some 0 := by
  have r1 : rangeI h 1 5 = 0 := rangeI_zero.2 hh
  have r2 : rangeI 7 1 7 = 0 := rfl
  have r3 : ¬ ((A.length : Int) > 16) := by omega
  have f3 : F23 3 [vI 0, vI 0, vI 0] = some 0 := F23_eq [0, 0, 0] (by simp)
  have e1 : F23 A.length ((List.replicate A.length (0 : Int)).map vI) = some 0 := by
    have := F23_eq (List.replicate A.length (0 : Int)) (by rw [List.length_replicate]; omega)
    rw [List.length_replicate] at this
    rw [this, first0s]
    intro x hx
    exact (List.mem_replicate.1 hx).2
  have hb : (A.length).beq 0 = false := by
    cases hh : A.length with
    | zero => omega
    | succ n => rfl
  unfold F36; rw [res_eq]
  simp only [B36, F24_eq, F25_eq, F26_eq, r1, r2, r3, decide_false, whenF, f3, F49f_eq v (by omega : A.length ≤ 100) h0, e1, hb, flatDs_vI, h0, sem_br, sem_ask, sem_ret, sem_bind_some, sem_sees, sem_triv, PC.holds, need_true, bne_self_eq_false, Bool.false_eq_true, if_false, ownN, stepO_ret]
/-! copies of sets -/
theorem F9_loop {S : List (List Int)} (hl : Fit S) (hS : S.length ≤ 100) (hs : ∀ s ∈ S, s.length ≤ 1000) : ∀ (k i e z : Nat), S.length = i + k → 0 < i →
    res B9 (.c2 e i ((S.take i).map eS) S.length (S.map eS) (S.length : Int) (i : Int) z e) = some (S.length, S.map eS)
  | 0, i, e, z, hk, h0 => by
    obtain rfl : i = S.length := by omega
    rw [List.take_of_length_le (Nat.le_refl _), res_eq]
    have h1 : ¬ ((S.length : Int) < (S.length : Int)) := by omega
    simp only [B9, sem_br, sem_ask, sem_ret, PC.holds, h1, decide_false, Bool.false_eq_true, if_false, need_true, h0, stepO_ret]
  | k + 1, i, e, z, hk, h0 => by
    have hi : i < S.length := by omega
    have h1 : (i : Int) < (S.length : Int) := by omega
    have ih := F9_loop hl hS hs k (i + 1) (e + 1) z (by omega) (by omega)
    have hin : inI64 ((i : Int) + 1) := by unfold inI64; omega
    have hsl : (S.getD i []).length ≤ 1000 := by rw [List.getD_eq_getElem?_getD, List.getElem?_eq_getElem hi]; exact hs _ (List.getElem_mem hi)
    have hf : fitsN (i + 1) 24 := by unfold fitsN; omega
    have hf2 : fitsN (S.getD i []).length 8 := by unfold fitsN; omega
    rw [List.take_succ_eq_append_getElem hi, List.map_append] at ih
    rw [res_eq]
    simp only [B9, sem_br, sem_ask, sem_ret, sem_nxt, sem_bind_some, sem_sees, sem_triv, PC.holds, need_true, Int.toNat_natCast, Nat.mul_one, cel_eS hi, dN_eS, dL_eS, at_mapS hi, h1, hin, hf, hf2, Nat.zero_add, List.nil_append, decide_true, if_true, Int.natCast_nonneg, List.length_map, Nat.le_of_lt hi, stepO_nxt]
    rw [← ih]
    simp [List.getD_eq_getElem?_getD, hi, eS]
theorem F9_eq {S : List (List Int)} (hl : Fit S) (hS : S.length ≤ 100) (hs : ∀ s ∈ S, s.length ≤ 1000) : F9 S.length (S.map eS) = some (S.length, S.map eS) := by
  unfold F9
  rw [res_eq]
  simp only [B9, sem_nxt, stepO_nxt]
  rw [res_eq]
  by_cases h0 : S.length = 0
  · have : S = [] := List.eq_nil_of_length_eq_zero h0
    subst this
    simp [B9, sem_br, sem_ret, stepO_ret]
  · have hi : 0 < S.length := by omega
    have h1 : (0 : Int) < (S.length : Int) := by omega
    have h2 := at_mapS hi
    have hin : inI64 ((0 : Int) + 1) := by unfold inI64; omega
    have hsl : (S.getD 0 []).length ≤ 1000 := by rw [List.getD_eq_getElem?_getD, List.getElem?_eq_getElem hi]; exact hs _ (List.getElem_mem hi)
    have hf2 : fitsN (S.getD 0 []).length 8 := by unfold fitsN; omega
    have ih := F9_loop hl hS hs (S.length - 1) 1 0 (S.getD 0 []).length (by omega) (by omega)
    rw [List.take_succ_eq_append_getElem hi, List.map_append] at ih
    simp only [B9, sem_br, sem_ask, sem_ret, sem_nxt, sem_bind_some, sem_sees, sem_triv, PC.holds, need_true, Int.toNat_zero, Nat.mul_one, Nat.zero_mul, cel_eS hi, dN_eS, dL_eS, h2, h1, hin, hf2, Nat.zero_add, List.nil_append, decide_true, if_true, Int.le_refl, List.length_map, Nat.zero_le, stepO_nxt]
    rw [← ih]
    simp [List.getD_eq_getElem?_getD, hi, eS]
end
end Go.Kv
