/- ToneVotes: the law. -/
import Derived.Test.YtfdjkfmiofgclaaGreatDoorKV4
namespace Go.Kv
set_option linter.unusedVariables false
set_option linter.unusedSimpArgs false
set_option linter.unnecessarySimpa false
open Go Go.RowKit
set_option maxRecDepth 100000
theorem C3_end {ls : List (List Int)} {k : Nat} : C3 ls k ls.length = c3 (cnt (-1) k ls) (cnt 0 k ls) (cnt 1 k ls) := by
  unfold C3; rw [List.take_of_length_le (Nat.le_refl _)]
theorem C3_zero {ls : List (List Int)} {k : Nat} : C3 ls k 0 = c3 0 0 0 := by
  unfold C3; rw [List.take_zero]; rfl
theorem F44_c3 {ls : List (List Int)} {n0 : Nat} (v : VL ls n0) {k : Nat} (hk : k < n0) : res B44 (.c3 ls.length (ls.map eS) (k : Int) (n0 : Int) (ls.length : Int) 0) = res B44 (.c4 ls.length (ls.map eS) (k : Int) (n0 : Int) (ls.length : Int) 1 (C3 ls k 1)) := by
  have hi : 0 < ls.length := v.l1
  have h1 : (0 : Int) < (ls.length : Int) := by omega
  have hr := v.row hi
  have hl2 := v.l2
  have hn0 := v.n
  have h2 : (k : Int) < ((ls.getD 0 []).length : Int) := by omega
  have hkl : k < (ls.getD 0 []).length := by omega
  have hin : inI64 ((0 : Int) + 1) := by decide
  have q1 : inI64 ((-1 : Int) + 1) := by decide
  have q2 : inI64 ((0 : Int) + 1) := by decide
  have q3 : inI64 ((1 : Int) + 1) := by decide
  have s1 := cnt_succ (p := 1) (k := k) hi
  have s0 := cnt_succ (p := 0) (k := k) hi
  have sm := cnt_succ (p := -1) (k := k) hi
  rw [res_eq]
  unfold C3
  simp only [B44, sem_br, sem_ask, sem_ret, sem_nxt, sem_sees, sem_triv, PC.holds, need_true, Int.toNat_natCast, Int.toNat_zero, Nat.zero_mul, Nat.mul_one, dN_eS hi, dL_eS hi, atS hi, dI_cel_map, at_map hkl, h1, h2, decide_true, if_true, Int.natCast_nonneg, Int.le_refl, List.length_map, Nat.zero_le, Nat.le_of_lt hkl, z3_0]
  have t0 : ls.take 0 = [] := rfl
  rw [t0] at s1 s0 sm
  rcases v.cell hi hk with e | e | e
  · rw [e] at s1 s0 sm
    simp only [e, q1, hin, need_true, x3_0, c3_0, g3_0, p3_0, r3, r3', l3, show (0 : Int) ≤ (-1 : Int) + 1 from by decide, show ((-1 : Int) + 1 < 3) from by decide, show 0 + 1 ≤ 3 from by decide, if_true, stepO_nxt]
    rw [s1, s0, sm]; rfl
  · rw [e] at s1 s0 sm
    simp only [e, q2, hin, need_true, x3_1, c3_1, g3_1, p3_1, r3, r3', l3, show (0 : Int) ≤ (0 : Int) + 1 from by decide, show ((0 : Int) + 1 < 3) from by decide, show 1 + 1 ≤ 3 from by decide, if_true, stepO_nxt]
    rw [s1, s0, sm]; rfl
  · rw [e] at s1 s0 sm
    simp only [e, q3, hin, need_true, x3_2, c3_2, g3_2, p3_2, r3, r3', l3, show (0 : Int) ≤ (1 : Int) + 1 from by decide, show ((1 : Int) + 1 < 3) from by decide, show 2 + 1 ≤ 3 from by decide, if_true, stepO_nxt]
    rw [s1, s0, sm]; rfl
theorem F44_c6 {ls : List (List Int)} {n0 : Nat} (v : VL ls n0) {k : Nat} (hk : k < n0) (e t : Nat) (L : List DV) : res B44 (.c6 ls.length (ls.map eS) e t L (k : Int) (n0 : Int) (ls.length : Int) 0 e) = res B44 (.c7 ls.length (ls.map eS) e t L (k : Int) (n0 : Int) (ls.length : Int) 1 e (C3 ls k 1)) := by
  have hi : 0 < ls.length := v.l1
  have h1 : (0 : Int) < (ls.length : Int) := by omega
  have hr := v.row hi
  have hl2 := v.l2
  have hn0 := v.n
  have h2 : (k : Int) < ((ls.getD 0 []).length : Int) := by omega
  have hkl : k < (ls.getD 0 []).length := by omega
  have hin : inI64 ((0 : Int) + 1) := by decide
  have q1 : inI64 ((-1 : Int) + 1) := by decide
  have q2 : inI64 ((0 : Int) + 1) := by decide
  have q3 : inI64 ((1 : Int) + 1) := by decide
  have s1 := cnt_succ (p := 1) (k := k) hi
  have s0 := cnt_succ (p := 0) (k := k) hi
  have sm := cnt_succ (p := -1) (k := k) hi
  rw [res_eq]
  unfold C3
  simp only [B44, sem_br, sem_ask, sem_ret, sem_nxt, sem_sees, sem_triv, PC.holds, need_true, Int.toNat_natCast, Int.toNat_zero, Nat.zero_mul, Nat.mul_one, dN_eS hi, dL_eS hi, atS hi, dI_cel_map, at_map hkl, h1, h2, decide_true, if_true, Int.natCast_nonneg, Int.le_refl, List.length_map, Nat.zero_le, Nat.le_of_lt hkl, z3_0]
  have t0 : ls.take 0 = [] := rfl
  rw [t0] at s1 s0 sm
  rcases v.cell hi hk with e | e | e
  · rw [e] at s1 s0 sm
    simp only [e, q1, hin, need_true, x3_0, c3_0, g3_0, p3_0, r3, r3', l3, show (0 : Int) ≤ (-1 : Int) + 1 from by decide, show ((-1 : Int) + 1 < 3) from by decide, show 0 + 1 ≤ 3 from by decide, if_true, stepO_nxt]
    rw [s1, s0, sm]; rfl
  · rw [e] at s1 s0 sm
    simp only [e, q2, hin, need_true, x3_1, c3_1, g3_1, p3_1, r3, r3', l3, show (0 : Int) ≤ (0 : Int) + 1 from by decide, show ((0 : Int) + 1 < 3) from by decide, show 1 + 1 ≤ 3 from by decide, if_true, stepO_nxt]
    rw [s1, s0, sm]; rfl
  · rw [e] at s1 s0 sm
    simp only [e, q3, hin, need_true, x3_2, c3_2, g3_2, p3_2, r3, r3', l3, show (0 : Int) ≤ (1 : Int) + 1 from by decide, show ((1 : Int) + 1 < 3) from by decide, show 2 + 1 ≤ 3 from by decide, if_true, stepO_nxt]
    rw [s1, s0, sm]; rfl
theorem F44_e4 {ls : List (List Int)} {n0 : Nat} (v : VL ls n0) {k : Nat} (hk : k < n0) : res B44 (.c4 ls.length (ls.map eS) (k : Int) (n0 : Int) (ls.length : Int) (ls.length : Int) (C3 ls k ls.length)) = res B44 (.c5 ls.length (ls.map eS) 0 1 [vI (voteV ls k)] (n0 : Int) ((k + 1 : Nat) : Int) 0) := by
  have hl2 := v.l2
  have hn0 := v.n
  have hn : ¬ ((ls.length : Int) < (ls.length : Int)) := by omega
  have hin : inI64 ((k : Int) + 1) := by unfold inI64; omega
  rw [C3_end, res_eq]
  unfold voteV
  by_cases ha : cnt 1 k ls > cnt 0 k ls
  · have a1 : ((cnt 1 k ls : Nat) : Int) > ((cnt 0 k ls : Nat) : Int) := by omega
    simp only [B44, sem_br, sem_ask, sem_nxt, PC.holds, need_true, hn, hin, c3_1, c3_2, g3_1, g3_2, a1, ha, decide_true, decide_false, Bool.false_eq_true, if_false, if_true, stepO_nxt]
    rfl
  · have a1 : ¬ (((cnt 1 k ls : Nat) : Int) > ((cnt 0 k ls : Nat) : Int)) := by omega
    by_cases hb : cnt 0 k ls > cnt 1 k ls
    · have a2 : ((cnt 0 k ls : Nat) : Int) > ((cnt 1 k ls : Nat) : Int) := by omega
      simp only [B44, sem_br, sem_ask, sem_nxt, PC.holds, need_true, hn, hin, c3_1, c3_2, g3_1, g3_2, a1, ha, a2, hb, decide_true, decide_false, Bool.false_eq_true, if_false, if_true, stepO_nxt]
      rfl
    · have a2 : ¬ (((cnt 0 k ls : Nat) : Int) > ((cnt 1 k ls : Nat) : Int)) := by omega
      simp only [B44, sem_br, sem_ask, sem_nxt, PC.holds, need_true, hn, hin, c3_1, c3_2, g3_1, g3_2, a1, ha, a2, hb, decide_true, decide_false, Bool.false_eq_true, if_false, if_true, stepO_nxt]
      rfl
theorem F44_e7 {ls : List (List Int)} {n0 : Nat} (v : VL ls n0) {k : Nat} (hk : k < n0) (e t : Nat) (ht : t ≤ 1024) (L : List DV) : res B44 (.c7 ls.length (ls.map eS) e t L (k : Int) (n0 : Int) (ls.length : Int) (ls.length : Int) e (C3 ls k ls.length)) = res B44 (.c5 ls.length (ls.map eS) (e + 1) (t + 1) (L ++ [vI (voteV ls k)]) (n0 : Int) ((k + 1 : Nat) : Int) (e + 1)) := by
  have hl2 := v.l2
  have hn0 := v.n
  have hn : ¬ ((ls.length : Int) < (ls.length : Int)) := by omega
  have hin : inI64 ((k : Int) + 1) := by unfold inI64; omega
  have hf : fitsN (t + 1) 8 := ⟨by omega, by omega⟩
  rw [C3_end, res_eq]
  unfold voteV
  by_cases ha : cnt 1 k ls > cnt 0 k ls
  · have a1 : ((cnt 1 k ls : Nat) : Int) > ((cnt 0 k ls : Nat) : Int) := by omega
    simp only [B44, sem_br, sem_ask, sem_nxt, PC.holds, need_true, hn, hin, hf, c3_1, c3_2, g3_1, g3_2, a1, ha, decide_true, decide_false, Bool.false_eq_true, if_false, if_true, stepO_nxt]
    rfl
  · have a1 : ¬ (((cnt 1 k ls : Nat) : Int) > ((cnt 0 k ls : Nat) : Int)) := by omega
    by_cases hb : cnt 0 k ls > cnt 1 k ls
    · have a2 : ((cnt 0 k ls : Nat) : Int) > ((cnt 1 k ls : Nat) : Int) := by omega
      simp only [B44, sem_br, sem_ask, sem_nxt, PC.holds, need_true, hn, hin, hf, c3_1, c3_2, g3_1, g3_2, a1, ha, a2, hb, decide_true, decide_false, Bool.false_eq_true, if_false, if_true, stepO_nxt]
      rfl
    · have a2 : ¬ (((cnt 0 k ls : Nat) : Int) > ((cnt 1 k ls : Nat) : Int)) := by omega
      simp only [B44, sem_br, sem_ask, sem_nxt, PC.holds, need_true, hn, hin, hf, c3_1, c3_2, g3_1, g3_2, a1, ha, a2, hb, decide_true, decide_false, Bool.false_eq_true, if_false, if_true, stepO_nxt]
      rfl
theorem F44_loop {ls : List (List Int)} {n0 : Nat} (v : VL ls n0) : ∀ (m k e : Nat), n0 = k + m → 0 < k →
    res B44 (.c5 ls.length (ls.map eS) e k ((votes ls k).map vI) (n0 : Int) (k : Int) e) = some (n0, (votes ls n0).map vI, 0)
  | 0, k, e, hm, h0 => by
    have hn : ¬ ((k : Int) < (n0 : Int)) := by omega
    rw [res_eq]
    simp only [B44, sem_br, sem_ret, hn, decide_false, Bool.false_eq_true, if_false, stepO_ret]
    rw [show n0 = k by omega]
  | m + 1, k, e, hm, h0 => by
    have hn : (k : Int) < (n0 : Int) := by omega
    have hn0 := v.n
    have l1 := v.l1
    have ih := F44_loop v m (k + 1) (e + 1) (by omega) (by omega)
    rw [res_eq]
    simp only [B44, sem_br, sem_nxt, hn, decide_true, if_true, stepO_nxt]
    rw [F44_c6 v (k := k) (by omega) e k ((votes ls k).map vI)]
    have h7 := F44_c7 v (k := k) (by omega) e k ((votes ls k).map vI) (ls.length - 1) 1 (by omega)
    have h7' : res B44 (.c7 ls.length (ls.map eS) e k ((votes ls k).map vI) (k : Int) (n0 : Int) (ls.length : Int) 1 e (C3 ls k 1)) = _ := h7
    rw [h7', F44_e7 v (by omega) e k (by omega), ← ih, votes_succ]
theorem F44_body {ls : List (List Int)} {n0 : Nat} (v : VL ls n0) : res B44 (.c2 ls.length (ls.map eS) (n0 : Int) 0) = some (n0, (votes ls n0).map vI, 0) := by
  rw [res_eq]
  have l1 := v.l1
  by_cases hz : n0 = 0
  · subst hz
    have hn : ¬ ((0 : Int) < ((0 : Nat) : Int)) := by omega
    simp only [B44, sem_br, sem_ret, hn, decide_false, Bool.false_eq_true, if_false, stepO_ret]
    rfl
  · have hn : (0 : Int) < (n0 : Int) := by omega
    simp only [B44, sem_br, sem_nxt, hn, decide_true, if_true, stepO_nxt]
    have h3 := F44_c3 v (k := 0) (by omega)
    have h3' : res B44 (.c3 ls.length (ls.map eS) 0 (n0 : Int) (ls.length : Int) 0) = _ := h3
    have h4 := F44_c4 v (k := 0) (by omega) (ls.length - 1) 1 (by omega)
    have h4' : res B44 (.c4 ls.length (ls.map eS) ((0 : Nat) : Int) (n0 : Int) (ls.length : Int) 1 (C3 ls 0 1)) = _ := h4
    have ih := F44_loop v (n0 - 1) 1 0 (by omega) (by omega)
    rw [h3', h4', F44_e4 v (by omega), ← ih]
    rfl
theorem F44_rows {ls : List (List Int)} (hl : ls.length ≤ 16) (h0 : 0 < ls.length) (hb : ∀ l ∈ ls, l.length ≤ 1025) : ∀ (k i : Nat), ls.length = i + k →
    res B44 (.c1 ls.length (ls.map eS) (ls.length : Int) (i : Int)) = if chL (ls.getD 0 []).length (ls.drop i) = 0 then res B44 (.c2 ls.length (ls.map eS) ((ls.getD 0 []).length : Int) 0) else some (0, [], chL (ls.getD 0 []).length (ls.drop i))
  | 0, i, hk => by
    have hn : ¬ ((i : Int) < (ls.length : Int)) := by omega
    have h00 : (0 : Int) < (ls.length : Int) := by omega
    rw [List.drop_of_length_le (by omega), res_eq]
    simp only [B44, sem_br, sem_ask, sem_nxt, PC.holds, need_true, hn, decide_false, Bool.false_eq_true, if_false, dN_eS h0, dL_eS h0, atS h0, h00, List.length_map, Nat.zero_le, stepO_nxt, chL, if_true]
  | k + 1, i, hk => by
    have hi : i < ls.length := by omega
    have h1 : (i : Int) < (ls.length : Int) := by omega
    have h00 : (0 : Int) < (ls.length : Int) := by omega
    have hin : inI64 ((i : Int) + 1) := by unfold inI64; omega
    have ih := F44_rows hl h0 hb k (i + 1) (by omega)
    have hre : ∀ a b c : Int, (if firstI [a, b, c] = 0 then 0 else 0) = (0 : Int) := fun _ _ _ => by split <;> rfl
    rw [chL_drop hi, res_eq]
    simp only [B44, F109_eq, F107_3, F126_eq _ _ _ (hb _ (getD_memS hi)), sem_br, sem_ask, sem_ret, sem_nxt, sem_bind_some, sem_sees, PC.holds, need_true, Int.toNat_natCast, Nat.mul_one, dN_eS hi, dL_eS hi, atS hi, dN_eS h0, dL_eS h0, atS h0, h1, h00, hin, decide_true, if_true, Int.natCast_nonneg, List.length_map, Nat.le_of_lt hi, Nat.zero_le]
    have hrow : rowE (ls.getD 0 []).length (ls.getD i []) = firstI [whenI (((ls.getD i []).length : Int) != ((ls.getD 0 []).length : Int)) 2, whenI (decide (((ls.getD i []).length : Int) > 1024)) 5, firstI (rgs (ls.getD i []) (-1) 1)] := by
      rw [firstI_3]; rfl
    rw [← hrow]
    by_cases hz : rowE (ls.getD 0 []).length (ls.getD i []) = 0
    · simp only [hz, bne_self_eq_false, if_true, Bool.false_eq_true, if_false, stepO_nxt]
      rw [← ih]; rfl
    · have hbn : (rowE (ls.getD 0 []).length (ls.getD i []) != 0) = true := bne_iff_ne.2 hz
      simp only [hz, hbn, if_false, if_true, stepO_ret]
theorem F44_eq {ls : List (List Int)} (hl : ls.length ≤ 16) (hb : ∀ l ∈ ls, l.length ≤ 1025) :
    F44 ls.length (ls.map eS) = some (if voteE ls = 0 then ((ls.getD 0 []).length, (votes ls (ls.getD 0 []).length).map vI, 0) else (0, [], voteE ls)) := by
  unfold F44; rw [res_eq]
  simp only [B44, F109_eq, F107_2, sem_br, sem_ret, sem_nxt, sem_bind_some, sem_sees]
  by_cases hz : firstI [whenI ((ls.length : Int) == 0) 12, whenI (decide ((ls.length : Int) > 15)) 5] = 0
  · have h0 : 0 < ls.length := by
      apply Classical.byContradiction
      intro h
      have : ls.length = 0 := by omega
      rw [this] at hz
      exact absurd hz (by decide)
    have hv : voteE ls = chL (ls.getD 0 []).length ls := by unfold voteE; rw [if_pos hz]
    simp only [hz, bne_self_eq_false, if_true, Bool.false_eq_true, if_false, stepO_nxt]
    have hr := F44_rows hl h0 hb ls.length 0 (by omega)
    have hr' : res B44 (.c1 ls.length (ls.map eS) (ls.length : Int) 0) = _ := hr
    rw [hr', List.drop_zero, ← hv]
    by_cases he : voteE ls = 0
    · rw [if_pos he, if_pos he]
      exact F44_body (vl_of he)
    · rw [if_neg he, if_neg he]
  · have hv : voteE ls = firstI [whenI ((ls.length : Int) == 0) 12, whenI (decide ((ls.length : Int) > 15)) 5] := by unfold voteE; rw [if_neg hz]
    have hbn : (firstI [whenI ((ls.length : Int) == 0) 12, whenI (decide ((ls.length : Int) > 15)) 5] != 0) = true := bne_iff_ne.2 hz
    rw [hv, if_neg hz]
    simp only [hbn, if_true, stepO_ret]
theorem F65_loop (l : List Int) (hl : l.length ≤ 1025) : ∀ (k i : Nat), l.length = i + k → res B65 (.c1 l.length (l.map vI) l.length (l.map vI) (i : Int)) = some true
  | 0, i, hk => by
    have : ¬ ((i : Int) < (l.length : Int)) := by omega
    rw [res_eq]
    simp only [B65, sem_br, sem_ret, this, decide_false, Bool.false_eq_true, if_false, stepO_ret]
  | k + 1, i, hk => by
    have hi : i < l.length := by omega
    have h1 : (i : Int) < (l.length : Int) := by omega
    have ih := F65_loop l hl k (i + 1) (by omega)
    have hin : inI64 ((i : Int) + 1) := by unfold inI64; omega
    rw [res_eq]
    simp only [B65, sem_br, sem_ask, sem_ret, sem_nxt, PC.holds, need_true, Int.toNat_natCast, Nat.mul_one, dI_cel_map, at_map hi, h1, hin, decide_true, if_true, Int.natCast_nonneg, List.length_map, Nat.le_of_lt hi, bne_self_eq_false, Bool.false_eq_true, if_false, stepO_nxt]
    rw [← ih]; rfl
theorem F65_eq (l : List Int) (hl : l.length ≤ 1025) : F65 l.length (l.map vI) l.length (l.map vI) = some true := by
  unfold F65; rw [res_eq]
  simp only [B65, sem_br, sem_nxt, bne_self_eq_false, Bool.false_eq_true, if_false, stepO_nxt]
  exact F65_loop l hl l.length 0 (by omega)
theorem F24_bad {e : Int} (h : e ≠ 0) : F24 0 [] e e 0 [] = some true := by
  unfold F24; rw [res_eq]
  have h1 : (e != 0) = true := bne_iff_ne.2 h
  simp [B24, sem_br, sem_triv, sem_ask, sem_ret, PC.holds, need_true, h1, stepO_ret]
theorem F24_ok (l : List Int) (hl : l.length ≤ 1025) : F24 l.length (l.map vI) 0 0 l.length (l.map vI) = some true := by
  unfold F24; rw [res_eq]
  simp [B24, sem_br, sem_triv, sem_ask, sem_ret, sem_sees, sem_bind_some, PC.holds, need_true, F65_eq l hl, stepO_ret]
theorem F15_eq : F15 = some true := rfl
def bigS (l : List Int) : Bool := if decide ((l.length : Int) > 24) = true then (l.length : Int) != 1025 else false
theorem F6_end {ls : List (List Int)} (hl : ls.length ≤ 16) (hb : ∀ l ∈ ls, l.length ≤ 1025) : res B6 (.c1 ls.length (ls.map eS) (ls.length : Int) (ls.length : Int)) = some true := by
  have hn : ¬ ((ls.length : Int) < (ls.length : Int)) := by omega
  rw [res_eq]
  simp only [B6, F35_eq hb hl, F44_eq hl hb, F45_eq hl hb, sem_br, sem_ret, sem_bind_some, sem_sees, hn, decide_false, Bool.false_eq_true, if_false]
  by_cases he : voteE ls = 0
  · have v := vl_of he
    have hf := F24_ok (votes ls (ls.getD 0 []).length) (by rw [votes_len]; have := v.n; omega)
    rw [votes_len] at hf
    simp only [he, if_true, beq_self_eq_true, F46_eq v, sem_bind_some, sem_sees, sem_ret, hf, stepO_ret]
  · have hbq : (voteE ls == 0) = false := by simpa using he
    simp only [he, hbq, if_false, Bool.false_eq_true, F24_bad he, sem_bind_some, sem_sees, sem_ret, stepO_ret]
theorem F6_loop {ls : List (List Int)} (hl : ls.length ≤ 16) : ∀ (k i : Nat), ls.length = i + k → (∀ j, j < i → (ls.getD j []).length ≤ 1025) →
    res B6 (.c1 ls.length (ls.map eS) (ls.length : Int) (i : Int)) = some true
  | 0, i, hk, hp => by
    rw [show i = ls.length by omega]
    refine F6_end hl ?_
    intro l hm
    obtain ⟨j, hj, rfl⟩ := List.getElem_of_mem hm
    have := hp j (by omega)
    rwa [List.getD_eq_getElem?_getD, List.getElem?_eq_getElem hj, Option.getD_some] at this
  | k + 1, i, hk, hp => by
    have hi : i < ls.length := by omega
    have h1 : (i : Int) < (ls.length : Int) := by omega
    have hin : inI64 ((i : Int) + 1) := by unfold inI64; omega
    rw [res_eq]
    simp only [B6, sem_br, sem_ask, sem_triv, sem_nxt, sem_bind_some, sem_ret, sem_sees, PC.holds, need_true, F15_eq, Int.toNat_natCast, Nat.mul_one, dN_eS hi, dL_eS hi, atS hi, h1, hin, decide_true, if_true, Int.natCast_nonneg, List.length_map, Nat.le_of_lt hi]
    by_cases hg : bigS (ls.getD i []) = true
    · have hg' : (if decide (((ls.getD i []).length : Int) > 24) = true then ((ls.getD i []).length : Int) != 1025 else false) = true := hg
      simp only [hg', if_true, stepO_ret]
    · have hg' : ¬ ((if decide (((ls.getD i []).length : Int) > 24) = true then ((ls.getD i []).length : Int) != 1025 else false) = true) := hg
      simp only [hg', if_false, stepO_nxt]
      refine F6_loop hl k (i + 1) (by omega) ?_
      intro j hj
      by_cases hji : j = i
      · subst hji
        unfold bigS at hg
        split at hg
        · have h2 : ((ls.getD j []).length : Int) = 1025 := by simpa using hg
          omega
        · rename_i hx
          have : ¬ (((ls.getD j []).length : Int) > 24) := by simpa using hx
          omega
      · exact hp j (by omega)
/-- The law's truth. -/
theorem votes_true (ls : List (List Int)) : F6 ls.length (ls.map eS) = some true := by
  unfold F6; rw [res_eq]
  simp only [B6, sem_br, sem_triv, sem_nxt, sem_bind_some, sem_ret, sem_sees, F15_eq, Bool.not_true, Bool.false_eq_true, if_false]
  by_cases hl : (ls.length : Int) > 16
  · simp only [hl, decide_true, if_true, stepO_ret]
  · simp only [hl, decide_false, Bool.false_eq_true, if_false, stepO_nxt]
    exact F6_loop (by omega) ls.length 0 (by omega) (fun j hj => by omega)
end Go.Kv
