import Derived.Test.YtfdjkfmiofgclaaGreatDoorGT7b
import Derived.Test.YtfdjkfmiofgclaaGreatDoorKL
namespace Go.Kv
set_option linter.unusedVariables false
set_option linter.unusedSimpArgs false
set_option linter.unnecessarySimpa false
open Go Go.RowKit
set_option maxRecDepth 100000
def firstI : List Int → Int
  | [] => 0
  | x :: xs => if x = 0 then firstI xs else x
def whenI (b : Bool) (e : Int) : Int := if b then e else 0
def rangeI (n a b : Int) : Int := if n < a ∨ n > b then 3 else 0
theorem whenT (e : Int) : whenI true e = e := rfl
theorem whenF (e : Int) : whenI false e = 0 := rfl
theorem dI_cel_map (l : List Int) (i : Nat) : dI (cel (l.map vI) i) = l.getD i 0 := by
  unfold cel
  simp only [List.getD_eq_getElem?_getD, List.getElem?_map]
  cases l[i]? <;> rfl
theorem at_map {l : List Int} {i : Nat} (h : i < l.length) : Option.map AV.d (List.drop i (l.map vI))[0]? = some (AV.d (vI (l.getD i 0))) := by
  simp [List.getElem?_drop, h, List.getD_eq_getElem?_getD]
theorem dropD {α : Type} {l : List α} {i : Nat} (d : α) (h : i < l.length) : l.drop i = l.getD i d :: l.drop (i + 1) := by
  rw [List.drop_eq_getElem_cons h]; simp [List.getD_eq_getElem?_getD, h]
theorem firstI_drop {l : List Int} {i : Nat} (h : i < l.length) : firstI (l.drop i) = if l.getD i 0 = 0 then firstI (l.drop (i + 1)) else l.getD i 0 := by
  rw [dropD 0 h]; rfl
theorem F107_loop (l : List Int) (hl : l.length ≤ 9223372036854775807) : ∀ (k i : Nat), l.length = i + k → res B107 (.c1 l.length (l.map vI) (l.length : Int) (i : Int)) = some (firstI (l.drop i))
  | 0, i, hk => by
    rw [List.drop_eq_nil_of_le (by omega), res_eq]
    have : ¬ ((i : Int) < (l.length : Int)) := by omega
    simp [B107, sem_br, sem_ret, this, stepO_ret, stepO_nxt, firstI]
  | k + 1, i, hk => by
    have hi : i < l.length := by omega
    have h1 : (i : Int) < (l.length : Int) := by omega
    have ih := F107_loop l hl k (i + 1) (by omega)
    have hin : inI64 ((i : Int) + 1) := by unfold inI64; omega
    rw [firstI_drop hi, res_eq]
    simp only [B107, sem_br, sem_ask, sem_ret, sem_nxt, PC.holds, need_true, Int.toNat_natCast, Nat.mul_one, dI_cel_map, at_map hi, h1, hin, decide_true, if_true, Int.natCast_nonneg, List.length_map, Nat.le_of_lt hi]
    by_cases h0 : l.getD i 0 = 0
    · simp only [h0, bne_self_eq_false, if_true, Bool.false_eq_true, if_false, stepO_ret, stepO_nxt]
      rw [← ih]; rfl
    · simp only [h0, if_false, bne_iff_ne, ne_eq, not_false_eq_true, if_true, stepO_ret, stepO_nxt]
theorem F107_eq (l : List Int) (hl : l.length ≤ 9223372036854775807) : F107 l.length (l.map vI) = some (firstI l) := by
  unfold F107
  rw [res_eq]
  simp only [B107, sem_nxt, stepO_nxt]
  exact F107_loop l hl l.length 0 (by omega)
theorem F107_2 (a b : Int) : F107 2 [vI a, vI b] = some (firstI [a, b]) := F107_eq [a, b] (by simp)
theorem F107_3 (a b c : Int) : F107 3 [vI a, vI b, vI c] = some (firstI [a, b, c]) := F107_eq [a, b, c] (by simp)
theorem F107_4 (a b c d : Int) : F107 4 [vI a, vI b, vI c, vI d] = some (firstI [a, b, c, d]) := F107_eq [a, b, c, d] (by simp)
theorem F20_loop (l : List Int) (hl : l.length ≤ 9223372036854775807) : ∀ (k i : Nat), l.length = i + k → res B20 (.c1 l.length (l.map vI) (i : Int)) = some (firstI (l.drop i))
  | 0, i, hk => by
    rw [List.drop_eq_nil_of_le (by omega), res_eq]
    have : ¬ ((i : Int) < (l.length : Int)) := by omega
    simp [B20, sem_br, sem_ret, this, stepO_ret, stepO_nxt, firstI]
  | k + 1, i, hk => by
    have hi : i < l.length := by omega
    have h1 : (i : Int) < (l.length : Int) := by omega
    have ih := F20_loop l hl k (i + 1) (by omega)
    have hin : inI64 ((i : Int) + 1) := by unfold inI64; omega
    rw [firstI_drop hi, res_eq]
    simp only [B20, sem_br, sem_ask, sem_ret, sem_nxt, PC.holds, need_true, Int.toNat_natCast, Nat.mul_one, dI_cel_map, at_map hi, h1, hin, decide_true, if_true, Int.natCast_nonneg, List.length_map, Nat.le_of_lt hi]
    by_cases h0 : l.getD i 0 = 0
    · simp only [h0, bne_self_eq_false, if_true, Bool.false_eq_true, if_false, stepO_ret, stepO_nxt]
      rw [← ih]; rfl
    · simp only [h0, if_false, bne_iff_ne, ne_eq, not_false_eq_true, if_true, stepO_ret, stepO_nxt]
theorem F20_2 (a b : Int) : F20 2 [vI a, vI b] = some (firstI [a, b]) := by
  unfold F20
  rw [res_eq]
  simp only [B20, sem_nxt, stepO_nxt]
  exact F20_loop [a, b] (by simp) 2 0 (by simp)
theorem F109_eq (b : Bool) (e : Int) : F109 b e = some (whenI b e) := by
  unfold F109; rw [res_eq]; cases b <;> simp [B109, sem_br, sem_ret, stepO_ret, whenI]
theorem F37_eq (b : Bool) (e : Int) : F37 b e = some (whenI b e) := by
  unfold F37; rw [res_eq]; cases b <;> simp [B37, sem_br, sem_ret, stepO_ret, whenI]
theorem whenI_or (n a b e : Int) : whenI (if decide (n < a) = true then true else decide (n > b)) e = if n < a ∨ n > b then e else 0 := by
  unfold whenI
  by_cases h1 : n < a <;> by_cases h2 : n > b <;> simp [h1, h2]
theorem F106_eq (n a b : Int) : F106 n a b = some (rangeI n a b) := by
  unfold F106; rw [res_eq]
  simp only [B106, F109_eq, whenI_or, sem_bind_some, sem_sees, sem_triv, sem_ask, sem_ret, PC.holds, stepO_ret, rangeI]
theorem F39_eq (n a b : Int) : F39 n a b = some (rangeI n a b) := by
  unfold F39; rw [res_eq]
  simp only [B39, F37_eq, whenI_or, sem_bind_some, sem_sees, sem_triv, sem_ask, sem_ret, PC.holds, stepO_ret, rangeI]
theorem rangeI_zero {n a b : Int} : rangeI n a b = 0 ↔ a ≤ n ∧ n ≤ b := by
  unfold rangeI; split <;> omega
theorem first0s : ∀ {l : List Int}, (∀ x ∈ l, x = 0) → firstI l = 0
  | [], _ => rfl
  | x :: xs, h => by
    unfold firstI
    rw [if_pos (h x (by simp))]
    exact first0s fun y hy => h y (by simp [hy])
structure VM (l : List Int) : Prop where
  l1 : 1 ≤ l.length
  l8 : l.length ≤ 8
  bd : ∀ x ∈ l, 0 ≤ x ∧ x ≤ 6
theorem VM.get {l : List Int} (v : VM l) {i : Nat} (hi : i < l.length) : 0 ≤ l.getD i 0 ∧ l.getD i 0 ≤ 6 := by
  rw [List.getD_eq_getElem?_getD, List.getElem?_eq_getElem hi]; exact v.bd _ (List.getElem_mem hi)
def chM : List Int → Int
  | [] => 0
  | x :: xs => if rangeI x 0 6 = 0 then chM xs else rangeI x 0 6
def ckM (l : List Int) : Int := if firstI [whenI ((l.length : Int) == 0) 12, whenI (decide ((l.length : Int) > 8)) 5] = 0 then chM l else firstI [whenI ((l.length : Int) == 0) 12, whenI (decide ((l.length : Int) > 8)) 5]
theorem F71_loop (l : List Int) (hl : l.length ≤ 9223372036854775807) : ∀ (k i : Nat), l.length = i + k → res B71 (.c1 l.length (l.map vI) (i : Int)) = some (chM (l.drop i))
  | 0, i, hk => by
    rw [List.drop_eq_nil_of_le (by omega), res_eq]
    have : ¬ ((i : Int) < (l.length : Int)) := by omega
    simp [B71, sem_br, sem_ret, this, stepO_ret, stepO_nxt, chM]
  | k + 1, i, hk => by
    have hi : i < l.length := by omega
    have h1 : (i : Int) < (l.length : Int) := by omega
    have ih := F71_loop l hl k (i + 1) (by omega)
    have hin : inI64 ((i : Int) + 1) := by unfold inI64; omega
    rw [dropD 0 hi, res_eq]
    simp only [B71, F39_eq, sem_br, sem_ask, sem_ret, sem_nxt, sem_bind_some, sem_sees, sem_triv, PC.holds, need_true, Int.toNat_natCast, Nat.mul_one, dI_cel_map, at_map hi, h1, hin, decide_true, if_true, Int.natCast_nonneg, List.length_map, Nat.le_of_lt hi]
    unfold chM
    by_cases h0 : rangeI (l.getD i 0) 0 6 = 0
    · simp only [h0, bne_self_eq_false, if_true, Bool.false_eq_true, if_false, stepO_ret, stepO_nxt]
      rw [← ih]; rfl
    · simp only [h0, if_false, bne_iff_ne, ne_eq, not_false_eq_true, if_true, stepO_ret, stepO_nxt]
theorem F71_eq (l : List Int) (hl : l.length ≤ 9223372036854775807) : F71 l.length (l.map vI) = some (ckM l) := by
  unfold F71 ckM
  rw [res_eq]
  simp only [B71, F37_eq, F20_2, sem_br, sem_bind_some, sem_sees, sem_triv, sem_ret, sem_nxt]
  by_cases h0 : firstI [whenI ((l.length : Int) == 0) 12, whenI (decide ((l.length : Int) > 8)) 5] = 0
  · simp only [h0, bne_self_eq_false, Bool.false_eq_true, if_false, if_true, stepO_nxt]
    exact F71_loop l hl l.length 0 (by omega)
  · simp only [h0, if_false, bne_iff_ne, ne_eq, not_false_eq_true, if_true, stepO_ret]
theorem chM_zero : ∀ {l : List Int}, chM l = 0 → ∀ x ∈ l, 0 ≤ x ∧ x ≤ 6
  | [], _, x, hx => by simp at hx
  | y :: ys, h, x, hx => by
    unfold chM at h
    by_cases h0 : rangeI y 0 6 = 0
    · rw [if_pos h0] at h
      rcases List.mem_cons.1 hx with rfl | hx
      · exact rangeI_zero.1 h0
      · exact chM_zero h x hx
    · rw [if_neg h0] at h; exact absurd h h0
theorem zero_chM : ∀ {l : List Int}, (∀ x ∈ l, 0 ≤ x ∧ x ≤ 6) → chM l = 0
  | [], _ => rfl
  | y :: ys, h => by
    unfold chM
    rw [if_pos (rangeI_zero.2 (h y (by simp)))]
    exact zero_chM fun x hx => h x (by simp [hx])
theorem ckM_vm {l : List Int} (h : ckM l = 0) : VM l := by
  unfold ckM at h
  by_cases h0 : firstI [whenI ((l.length : Int) == 0) 12, whenI (decide ((l.length : Int) > 8)) 5] = 0
  · rw [if_pos h0] at h
    refine ⟨?_, ?_, chM_zero h⟩
    · apply Classical.byContradiction
      intro hn
      have : ((l.length : Int) == 0) = true := by simp; cases l with
        | nil => rfl
        | cons x xs => simp at hn
      rw [this] at h0
      simp [whenI, firstI] at h0
    · apply Classical.byContradiction
      intro hn
      have h1 : decide ((l.length : Int) > 8) = true := by simp; omega
      rw [h1] at h0
      have h2 : ((l.length : Int) == 0) = false := by
        cases l with
        | nil => simp at hn
        | cons x xs => simp; omega
      rw [h2] at h0
      simp [whenI, firstI] at h0
  · rw [if_neg h0] at h; exact absurd h h0
theorem vm_ckM {l : List Int} (v : VM l) : ckM l = 0 := by
  have h1 := v.l1
  have h2 := v.l8
  unfold ckM
  have a : ((l.length : Int) == 0) = false := by
    cases l with
    | nil => simp at h1
    | cons x xs => simp; omega
  have b : decide ((l.length : Int) > 8) = false := by simp; omega
  rw [a, b]
  simp only [whenF, firstI, if_true]
  exact zero_chM v.bd
end Go.Kv
