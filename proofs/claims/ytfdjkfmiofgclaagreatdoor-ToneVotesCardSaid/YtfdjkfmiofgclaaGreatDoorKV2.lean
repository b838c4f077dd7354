/- ToneVotes: what both checks come to. -/
import Derived.Test.YtfdjkfmiofgclaaGreatDoorKV1
namespace Go.Kv
set_option linter.unusedVariables false
set_option linter.unusedSimpArgs false
set_option linter.unnecessarySimpa false
open Go Go.RowKit
set_option maxRecDepth 100000
def rowE (n0 : Nat) (l : List Int) : Int := if firstI [whenI ((l.length : Int) != (n0 : Int)) 2, whenI (decide ((l.length : Int) > 1024)) 5] = 0 then firstI (rgs l (-1) 1) else firstI [whenI ((l.length : Int) != (n0 : Int)) 2, whenI (decide ((l.length : Int) > 1024)) 5]
def chL (n0 : Nat) : List (List Int) → Int
  | [] => 0
  | l :: r => if rowE n0 l = 0 then chL n0 r else rowE n0 l
def voteE (ls : List (List Int)) : Int := if firstI [whenI ((ls.length : Int) == 0) 12, whenI (decide ((ls.length : Int) > 15)) 5] = 0 then chL (ls.getD 0 []).length ls else firstI [whenI ((ls.length : Int) == 0) 12, whenI (decide ((ls.length : Int) > 15)) 5]
theorem firstI_3 (a b c : Int) : firstI [a, b, c] = if firstI [a, b] = 0 then c else firstI [a, b] := by
  unfold firstI
  by_cases ha : a = 0
  · simp only [ha, if_true]
    unfold firstI
    by_cases hb : b = 0
    · simp only [hb, if_true]
      unfold firstI firstI
      by_cases hc : c = 0 <;> simp [hc]
    · simp only [hb, if_false]
  · simp only [ha, if_false]
theorem chL_drop {n0 : Nat} {ls : List (List Int)} {i : Nat} (hi : i < ls.length) : chL n0 (ls.drop i) = if rowE n0 (ls.getD i []) = 0 then chL n0 (ls.drop (i + 1)) else rowE n0 (ls.getD i []) := by
  rw [List.drop_eq_getElem_cons hi]
  simp only [chL, List.getD_eq_getElem?_getD, List.getElem?_eq_getElem hi, Option.getD_some]
theorem F45_row {ls : List (List Int)} (hl : ls.length ≤ 16) {i : Nat} (hi : i < ls.length) (hb : (ls.getD i []).length ≤ 1025) : ∀ (k j : Nat), (ls.getD i []).length = j + k →
    res B45 (.c2 ls.length (ls.map eS) (i : Int) (j : Int)) = if firstI (rgs ((ls.getD i []).drop j) (-1) 1) = 0 then res B45 (.c1 ls.length (ls.map eS) ((i + 1 : Nat) : Int)) else some (firstI (rgs ((ls.getD i []).drop j) (-1) 1))
  | 0, j, hk => by
    have h1 : (i : Int) < (ls.length : Int) := by omega
    have hn : ¬ ((j : Int) < ((ls.getD i []).length : Int)) := by omega
    have hin : inI64 ((i : Int) + 1) := by unfold inI64; omega
    rw [List.drop_of_length_le (by omega)]
    rw [res_eq]
    simp only [B45, sem_br, sem_ask, sem_ret, sem_nxt, PC.holds, need_true, Int.toNat_natCast, Nat.mul_one, dN_eS hi, dL_eS hi, atS hi, h1, hn, hin, decide_true, decide_false, Bool.false_eq_true, if_false, if_true, Int.natCast_nonneg, List.length_map, Nat.le_of_lt hi, stepO_nxt]
    simp only [rgs, List.map_nil, firstI, if_true]
    rfl
  | k + 1, j, hk => by
    have hj : j < (ls.getD i []).length := by omega
    have h1 : (i : Int) < (ls.length : Int) := by omega
    have h2 : (j : Int) < ((ls.getD i []).length : Int) := by omega
    have hin : inI64 ((j : Int) + 1) := by unfold inI64; omega
    have ih := F45_row hl hi hb k (j + 1) (by omega)
    have hd : rgs ((ls.getD i []).drop j) (-1) 1 = rangeI ((ls.getD i []).getD j 0) (-1) 1 :: rgs ((ls.getD i []).drop (j + 1)) (-1) 1 := by
      unfold rgs; rw [dropD 0 hj]; rfl
    rw [hd, res_eq]
    simp only [B45, F39_eq, sem_br, sem_ask, sem_ret, sem_nxt, sem_bind_some, sem_sees, PC.holds, need_true, Int.toNat_natCast, Nat.mul_one, dN_eS hi, dL_eS hi, atS hi, dI_cel_map, at_map hj, h1, h2, hin, decide_true, if_true, Int.natCast_nonneg, List.length_map, Nat.le_of_lt hi, Nat.le_of_lt hj]
    by_cases h0 : rangeI ((ls.getD i []).getD j 0) (-1) 1 = 0
    · simp only [firstI, h0, bne_self_eq_false, if_true, Bool.false_eq_true, if_false, stepO_nxt]
      rw [← ih]; rfl
    · have hb : (rangeI ((ls.getD i []).getD j 0) (-1) 1 != 0) = true := bne_iff_ne.2 h0
      simp only [firstI, h0, hb, if_false, if_true, stepO_ret]
theorem F45_loop {ls : List (List Int)} (hl : ls.length ≤ 16) (h0 : 0 < ls.length) (hb : ∀ l ∈ ls, l.length ≤ 1025) : ∀ (k i : Nat), ls.length = i + k →
    res B45 (.c1 ls.length (ls.map eS) (i : Int)) = some (chL (ls.getD 0 []).length (ls.drop i))
  | 0, i, hk => by
    have hn : ¬ ((i : Int) < (ls.length : Int)) := by omega
    rw [List.drop_of_length_le (by omega), res_eq]
    simp only [B45, sem_br, sem_ret, hn, decide_false, Bool.false_eq_true, if_false, stepO_ret, chL]
  | k + 1, i, hk => by
    have hi : i < ls.length := by omega
    have h1 : (i : Int) < (ls.length : Int) := by omega
    have h00 : (0 : Int) < (ls.length : Int) := by omega
    have ih := F45_loop hl h0 hb k (i + 1) (by omega)
    have hr := F45_row hl hi (hb _ (getD_memS hi)) (ls.getD i []).length 0 (by omega)
    rw [chL_drop hi, res_eq]
    simp only [B45, F37_eq, F20_2, sem_br, sem_ask, sem_ret, sem_nxt, sem_bind_some, sem_sees, PC.holds, need_true, Int.toNat_natCast, Nat.mul_one, dN_eS hi, dL_eS hi, atS hi, dN_eS h0, dL_eS h0, atS h0, h1, h00, decide_true, if_true, Int.natCast_nonneg, List.length_map, Nat.le_of_lt hi, Nat.zero_le]
    unfold rowE
    by_cases hz : firstI [whenI (((ls.getD i []).length : Int) != ((ls.getD 0 []).length : Int)) 2, whenI (decide (((ls.getD i []).length : Int) > 1024)) 5] = 0
    · simp only [hz, bne_self_eq_false, if_true, Bool.false_eq_true, if_false, stepO_nxt]
      have hr' : res B45 (.c2 ls.length (ls.map eS) (i : Int) 0) = _ := hr
      rw [hr', List.drop_zero, ih]
      by_cases hq : firstI (rgs (ls.getD i []) (-1) 1) = 0
      · simp only [hq, if_true]
      · simp only [hq, if_false]
    · have hbn : (firstI [whenI (((ls.getD i []).length : Int) != ((ls.getD 0 []).length : Int)) 2, whenI (decide (((ls.getD i []).length : Int) > 1024)) 5] != 0) = true := bne_iff_ne.2 hz
      simp only [hz, hbn, if_false, if_true, stepO_ret]
theorem F45_eq {ls : List (List Int)} (hl : ls.length ≤ 16) (hb : ∀ l ∈ ls, l.length ≤ 1025) : F45 ls.length (ls.map eS) = some (voteE ls) := by
  unfold F45 voteE; rw [res_eq]
  simp only [B45, F37_eq, F20_2, sem_br, sem_ret, sem_nxt, sem_bind_some, sem_sees]
  by_cases hz : firstI [whenI ((ls.length : Int) == 0) 12, whenI (decide ((ls.length : Int) > 15)) 5] = 0
  · have h0 : 0 < ls.length := by
      apply Classical.byContradiction
      intro h
      have : ls.length = 0 := by omega
      rw [this] at hz
      exact absurd hz (by decide)
    simp only [hz, bne_self_eq_false, if_true, Bool.false_eq_true, if_false, stepO_nxt]
    exact F45_loop hl h0 hb ls.length 0 (by omega)
  · have hbn : (firstI [whenI ((ls.length : Int) == 0) 12, whenI (decide ((ls.length : Int) > 15)) 5] != 0) = true := bne_iff_ne.2 hz
    simp only [hz, hbn, if_false, if_true, stepO_ret]
theorem rowE_0 {n0 : Nat} {l : List Int} (h : rowE n0 l = 0) : l.length = n0 ∧ l.length ≤ 1024 ∧ ∀ x ∈ l, -1 ≤ x ∧ x ≤ 1 := by
  unfold rowE at h
  split at h
  · rename_i hz
    have e1 : whenI ((l.length : Int) != (n0 : Int)) 2 = 0 := by
      unfold firstI at hz; split at hz <;> simp_all
    have e2 : whenI (decide ((l.length : Int) > 1024)) 5 = 0 := by
      unfold firstI at hz
      rw [if_pos e1] at hz
      unfold firstI at hz; split at hz <;> simp_all
    refine ⟨?_, ?_, ?_⟩
    · unfold whenI at e1; split at e1
      · simp at e1
      · rename_i hx; simp at hx; omega
    · unfold whenI at e2; split at e2
      · simp at e2
      · rename_i hx; simp at hx; omega
    · clear hz e1 e2
      unfold rgs at h
      induction l with
      | nil => intro x hx; simp at hx
      | cons y r ih =>
        simp only [List.map_cons, firstI] at h
        split at h
        · rename_i hy
          intro x hx
          rcases List.mem_cons.1 hx with rfl | hx
          · exact rangeI_zero.1 hy
          · exact ih h x hx
        · rename_i hy; exact absurd h hy
  · rename_i hz; exact absurd h hz
structure VL (ls : List (List Int)) (n0 : Nat) : Prop where
  l1 : 0 < ls.length
  l2 : ls.length ≤ 15
  n : n0 ≤ 1024
  e : ∀ l ∈ ls, l.length = n0 ∧ ∀ x ∈ l, -1 ≤ x ∧ x ≤ 1
theorem chL_0 {n0 : Nat} : ∀ {ls : List (List Int)}, chL n0 ls = 0 → ∀ l ∈ ls, rowE n0 l = 0
  | [], _, l, hl => by simp at hl
  | y :: r, h, l, hl => by
    unfold chL at h
    split at h
    · rename_i hy
      rcases List.mem_cons.1 hl with rfl | hl
      · exact hy
      · exact chL_0 h l hl
    · rename_i hy; exact absurd h hy
theorem vl_of {ls : List (List Int)} (h : voteE ls = 0) : VL ls (ls.getD 0 []).length := by
  unfold voteE at h
  split at h
  · rename_i hz
    have e1 : whenI ((ls.length : Int) == 0) 12 = 0 := by
      unfold firstI at hz; split at hz <;> simp_all
    have e2 : whenI (decide ((ls.length : Int) > 15)) 5 = 0 := by
      unfold firstI at hz
      rw [if_pos e1] at hz
      unfold firstI at hz; split at hz <;> simp_all
    have l1 : 0 < ls.length := by
      unfold whenI at e1; split at e1
      · simp at e1
      · rename_i hx; simp at hx; exact List.length_pos_iff.2 hx
    have l2 : ls.length ≤ 15 := by
      unfold whenI at e2; split at e2
      · simp at e2
      · rename_i hx; simp at hx; omega
    have hc := chL_0 h
    have h0 := rowE_0 (hc _ (getD_memS l1))
    exact ⟨l1, l2, h0.2.1, fun l hl => ⟨(rowE_0 (hc l hl)).1, (rowE_0 (hc l hl)).2.2⟩⟩
  · rename_i hz; exact absurd h hz
end Go.Kv
