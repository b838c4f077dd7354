/- ToneVotes: what both votes come to. -/
import Derived.Test.YtfdjkfmiofgclaaGreatDoorKV2
namespace Go.Kv
set_option linter.unusedVariables false
set_option linter.unusedSimpArgs false
set_option linter.unnecessarySimpa false
open Go Go.RowKit
set_option maxRecDepth 100000
/-- How many lists have an element at a place. -/
def cnt (p : Int) (k : Nat) (ls : List (List Int)) : Nat := ls.countP fun l => l.getD k 0 == p
theorem cnt_le (p : Int) (k : Nat) (ls : List (List Int)) : cnt p k ls ≤ ls.length := List.countP_le_length
theorem cnt_succ {p : Int} {k i : Nat} {ls : List (List Int)} (hi : i < ls.length) : cnt p k (ls.take (i + 1)) = cnt p k (ls.take i) + if (ls.getD i []).getD k 0 = p then 1 else 0 := by
  unfold cnt
  rw [List.take_succ_eq_append_getElem hi, List.countP_append]
  simp [List.getD_eq_getElem?_getD, hi]
def voteV (ls : List (List Int)) (k : Nat) : Int := if cnt 1 k ls > cnt 0 k ls then 1 else if cnt 0 k ls > cnt 1 k ls then 0 else -1
def votes (ls : List (List Int)) (n : Nat) : List Int := (List.range n).map (voteV ls)
theorem votes_len (ls : List (List Int)) (n : Nat) : (votes ls n).length = n := by simp [votes]
theorem votes_succ (ls : List (List Int)) (n : Nat) : (votes ls (n + 1)).map vI = (votes ls n).map vI ++ [vI (voteV ls n)] := by
  simp [votes, List.range_succ]
theorem VL.row {ls : List (List Int)} {n0 : Nat} (v : VL ls n0) {i : Nat} (hi : i < ls.length) : (ls.getD i []).length = n0 := (v.e _ (getD_memS hi)).1
theorem VL.cell {ls : List (List Int)} {n0 : Nat} (v : VL ls n0) {i k : Nat} (hi : i < ls.length) (hk : k < n0) : (ls.getD i []).getD k 0 = -1 ∨ (ls.getD i []).getD k 0 = 0 ∨ (ls.getD i []).getD k 0 = 1 := by
  have hl := v.row hi
  have := (v.e _ (getD_memS hi)).2 _ (getD_memI (l := ls.getD i []) (i := k) (by omega))
  omega
/-! the reference -/
theorem F46_cnt1 {ls : List (List Int)} {n0 : Nat} (v : VL ls n0) {k : Nat} (hk : k < n0) : ∀ (m i : Nat), ls.length = i + m →
    res B46 (.c2 ls.length (ls.map eS) (k : Int) (cnt 1 k (ls.take i) : Int) (cnt 0 k (ls.take i) : Int) (i : Int)) = res B46 (.c6 ls.length (ls.map eS) (k : Int) (voteV ls k))
  | 0, i, hm => by
    have hn : ¬ ((i : Int) < (ls.length : Int)) := by omega
    rw [List.take_of_length_le (by omega), res_eq]
    simp only [B46, sem_br, sem_nxt, hn, decide_false, Bool.false_eq_true, if_false]
    unfold voteV
    by_cases ha : cnt 1 k ls > cnt 0 k ls
    · have h1 : ((cnt 1 k ls : Nat) : Int) > ((cnt 0 k ls : Nat) : Int) := by omega
      have h2 : ¬ (((cnt 0 k ls : Nat) : Int) > ((cnt 1 k ls : Nat) : Int)) := by omega
      simp only [h1, ha, decide_true, if_true, stepO_nxt]
      rw [res_eq]
      simp only [B46, sem_br, sem_nxt, h2, decide_false, Bool.false_eq_true, if_false, stepO_nxt]
    · have h1 : ¬ (((cnt 1 k ls : Nat) : Int) > ((cnt 0 k ls : Nat) : Int)) := by omega
      simp only [h1, ha, decide_false, Bool.false_eq_true, if_false, stepO_nxt]
      rw [res_eq]
      by_cases hb : cnt 0 k ls > cnt 1 k ls
      · have h2 : ((cnt 0 k ls : Nat) : Int) > ((cnt 1 k ls : Nat) : Int) := by omega
        simp only [B46, sem_br, sem_nxt, h2, hb, decide_true, if_true, stepO_nxt]
      · have h2 : ¬ (((cnt 0 k ls : Nat) : Int) > ((cnt 1 k ls : Nat) : Int)) := by omega
        simp only [B46, sem_br, sem_nxt, h2, hb, decide_false, Bool.false_eq_true, if_false, stepO_nxt]
  | m + 1, i, hm => by
    have hi : i < ls.length := by omega
    have h1 : (i : Int) < (ls.length : Int) := by omega
    have hr := v.row hi
    have hl2 := v.l2
    have h2 : (k : Int) < ((ls.getD i []).length : Int) := by omega
    have hkl : k < (ls.getD i []).length := by omega
    have hin : inI64 ((i : Int) + 1) := by unfold inI64; omega
    have c1 := cnt_le 1 k (ls.take i)
    have c0 := cnt_le 0 k (ls.take i)
    have hlt : (ls.take i).length ≤ 15 := by rw [List.length_take]; have := v.l2; omega
    have hi1 : inI64 ((cnt 1 k (ls.take i) : Int) + 1) := by unfold inI64; omega
    have hi0 : inI64 ((cnt 0 k (ls.take i) : Int) + 1) := by unfold inI64; omega
    have ih := F46_cnt1 v hk m (i + 1) (by omega)
    rw [cnt_succ hi, cnt_succ hi] at ih
    rw [res_eq]
    simp only [B46, sem_br, sem_ask, sem_nxt, PC.holds, need_true, Int.toNat_natCast, Nat.mul_one, dN_eS hi, dL_eS hi, atS hi, dI_cel_map, at_map hkl, h1, h2, decide_true, if_true, Int.natCast_nonneg, List.length_map, Nat.le_of_lt hi, Nat.le_of_lt hkl]
    rcases v.cell hi hk with e | e | e
    · simp only [e, show ((-1 : Int) == 1) = false from rfl, Bool.false_eq_true, if_false, stepO_nxt]
      rw [res_eq]
      simp only [B46, sem_br, sem_ask, sem_nxt, PC.holds, need_true, Int.toNat_natCast, Nat.mul_one, dN_eS hi, dL_eS hi, atS hi, dI_cel_map, at_map hkl, h1, h2, decide_true, if_true, Int.natCast_nonneg, List.length_map, Nat.le_of_lt hi, Nat.le_of_lt hkl, e, show ((-1 : Int) == 0) = false from rfl, Bool.false_eq_true, if_false, stepO_nxt]
      rw [res_eq]
      simp only [B46, sem_ask, sem_nxt, PC.holds, need_true, hin, stepO_nxt]
      rw [e] at ih
      simpa using ih
    · simp only [e, show ((0 : Int) == 1) = false from rfl, Bool.false_eq_true, if_false, stepO_nxt]
      rw [res_eq]
      simp only [B46, sem_br, sem_ask, sem_nxt, PC.holds, need_true, Int.toNat_natCast, Nat.mul_one, dN_eS hi, dL_eS hi, atS hi, dI_cel_map, at_map hkl, h1, h2, decide_true, if_true, Int.natCast_nonneg, List.length_map, Nat.le_of_lt hi, Nat.le_of_lt hkl, e, show ((0 : Int) == 0) = true from rfl, hi0, stepO_nxt]
      rw [res_eq]
      simp only [B46, sem_ask, sem_nxt, PC.holds, need_true, hin, stepO_nxt]
      rw [e] at ih
      simpa using ih
    · simp only [e, show ((1 : Int) == 1) = true from rfl, if_true, hi1, need_true, stepO_nxt]
      rw [res_eq]
      simp only [B46, sem_br, sem_ask, sem_nxt, PC.holds, need_true, Int.toNat_natCast, Nat.mul_one, dN_eS hi, dL_eS hi, atS hi, dI_cel_map, at_map hkl, h1, h2, decide_true, if_true, Int.natCast_nonneg, List.length_map, Nat.le_of_lt hi, Nat.le_of_lt hkl, e, show ((1 : Int) == 0) = false from rfl, Bool.false_eq_true, if_false, stepO_nxt]
      rw [res_eq]
      simp only [B46, sem_ask, sem_nxt, PC.holds, need_true, hin, stepO_nxt]
      rw [e] at ih
      simpa using ih
theorem F46_cnt2 {ls : List (List Int)} {n0 : Nat} (v : VL ls n0) {k : Nat} (hk : k < n0) (e t : Nat) (L : List DV) : ∀ (m i : Nat), ls.length = i + m →
    res B46 (.c8 ls.length (ls.map eS) e t L (k : Int) (cnt 1 k (ls.take i) : Int) (cnt 0 k (ls.take i) : Int) (i : Int) e) = res B46 (.c12 ls.length (ls.map eS) e t L (k : Int) (voteV ls k) e)
  | 0, i, hm => by
    have hn : ¬ ((i : Int) < (ls.length : Int)) := by omega
    rw [List.take_of_length_le (by omega), res_eq]
    simp only [B46, sem_br, sem_nxt, hn, decide_false, Bool.false_eq_true, if_false]
    unfold voteV
    by_cases ha : cnt 1 k ls > cnt 0 k ls
    · have h1 : ((cnt 1 k ls : Nat) : Int) > ((cnt 0 k ls : Nat) : Int) := by omega
      have h2 : ¬ (((cnt 0 k ls : Nat) : Int) > ((cnt 1 k ls : Nat) : Int)) := by omega
      simp only [h1, ha, decide_true, if_true, stepO_nxt]
      rw [res_eq]
      simp only [B46, sem_br, sem_nxt, h2, decide_false, Bool.false_eq_true, if_false, stepO_nxt]
    · have h1 : ¬ (((cnt 1 k ls : Nat) : Int) > ((cnt 0 k ls : Nat) : Int)) := by omega
      simp only [h1, ha, decide_false, Bool.false_eq_true, if_false, stepO_nxt]
      rw [res_eq]
      by_cases hb : cnt 0 k ls > cnt 1 k ls
      · have h2 : ((cnt 0 k ls : Nat) : Int) > ((cnt 1 k ls : Nat) : Int) := by omega
        simp only [B46, sem_br, sem_nxt, h2, hb, decide_true, if_true, stepO_nxt]
      · have h2 : ¬ (((cnt 0 k ls : Nat) : Int) > ((cnt 1 k ls : Nat) : Int)) := by omega
        simp only [B46, sem_br, sem_nxt, h2, hb, decide_false, Bool.false_eq_true, if_false, stepO_nxt]
  | m + 1, i, hm => by
    have hi : i < ls.length := by omega
    have h1 : (i : Int) < (ls.length : Int) := by omega
    have hr := v.row hi
    have hl2 := v.l2
    have h2 : (k : Int) < ((ls.getD i []).length : Int) := by omega
    have hkl : k < (ls.getD i []).length := by omega
    have hin : inI64 ((i : Int) + 1) := by unfold inI64; omega
    have c1 := cnt_le 1 k (ls.take i)
    have c0 := cnt_le 0 k (ls.take i)
    have hlt : (ls.take i).length ≤ 15 := by rw [List.length_take]; have := v.l2; omega
    have hi1 : inI64 ((cnt 1 k (ls.take i) : Int) + 1) := by unfold inI64; omega
    have hi0 : inI64 ((cnt 0 k (ls.take i) : Int) + 1) := by unfold inI64; omega
    have ih := F46_cnt2 v hk e t L m (i + 1) (by omega)
    rw [cnt_succ hi, cnt_succ hi] at ih
    rw [res_eq]
    simp only [B46, sem_br, sem_ask, sem_nxt, PC.holds, need_true, Int.toNat_natCast, Nat.mul_one, dN_eS hi, dL_eS hi, atS hi, dI_cel_map, at_map hkl, h1, h2, decide_true, if_true, Int.natCast_nonneg, List.length_map, Nat.le_of_lt hi, Nat.le_of_lt hkl]
    rcases v.cell hi hk with e | e | e
    · simp only [e, show ((-1 : Int) == 1) = false from rfl, Bool.false_eq_true, if_false, stepO_nxt]
      rw [res_eq]
      simp only [B46, sem_br, sem_ask, sem_nxt, PC.holds, need_true, Int.toNat_natCast, Nat.mul_one, dN_eS hi, dL_eS hi, atS hi, dI_cel_map, at_map hkl, h1, h2, decide_true, if_true, Int.natCast_nonneg, List.length_map, Nat.le_of_lt hi, Nat.le_of_lt hkl, e, show ((-1 : Int) == 0) = false from rfl, Bool.false_eq_true, if_false, stepO_nxt]
      rw [res_eq]
      simp only [B46, sem_ask, sem_nxt, PC.holds, need_true, hin, stepO_nxt]
      rw [e] at ih
      simpa using ih
    · simp only [e, show ((0 : Int) == 1) = false from rfl, Bool.false_eq_true, if_false, stepO_nxt]
      rw [res_eq]
      simp only [B46, sem_br, sem_ask, sem_nxt, PC.holds, need_true, Int.toNat_natCast, Nat.mul_one, dN_eS hi, dL_eS hi, atS hi, dI_cel_map, at_map hkl, h1, h2, decide_true, if_true, Int.natCast_nonneg, List.length_map, Nat.le_of_lt hi, Nat.le_of_lt hkl, e, show ((0 : Int) == 0) = true from rfl, hi0, stepO_nxt]
      rw [res_eq]
      simp only [B46, sem_ask, sem_nxt, PC.holds, need_true, hin, stepO_nxt]
      rw [e] at ih
      simpa using ih
    · simp only [e, show ((1 : Int) == 1) = true from rfl, if_true, hi1, need_true, stepO_nxt]
      rw [res_eq]
      simp only [B46, sem_br, sem_ask, sem_nxt, PC.holds, need_true, Int.toNat_natCast, Nat.mul_one, dN_eS hi, dL_eS hi, atS hi, dI_cel_map, at_map hkl, h1, h2, decide_true, if_true, Int.natCast_nonneg, List.length_map, Nat.le_of_lt hi, Nat.le_of_lt hkl, e, show ((1 : Int) == 0) = false from rfl, Bool.false_eq_true, if_false, stepO_nxt]
      rw [res_eq]
      simp only [B46, sem_ask, sem_nxt, PC.holds, need_true, hin, stepO_nxt]
      rw [e] at ih
      simpa using ih
theorem F46_loop {ls : List (List Int)} {n0 : Nat} (v : VL ls n0) : ∀ (m k e : Nat), n0 = k + m → 0 < k →
    res B46 (.c7 ls.length (ls.map eS) e k ((votes ls k).map vI) (k : Int) e) = some (n0, (votes ls n0).map vI)
  | 0, k, e, hm, h0 => by
    have hr := v.row v.l1
    have hl : 0 < ls.length := v.l1
    have h00 : (0 : Int) < (ls.length : Int) := by omega
    have hn : ¬ ((k : Int) < ((ls.getD 0 []).length : Int)) := by omega
    rw [res_eq]
    simp only [B46, sem_br, sem_ask, sem_ret, PC.holds, need_true, dN_eS hl, dL_eS hl, atS hl, h00, hn, decide_false, Bool.false_eq_true, if_false, List.length_map, Nat.zero_le, stepO_ret]
    rw [show n0 = k by omega]
  | m + 1, k, e, hm, h0 => by
    have hr := v.row v.l1
    have hl : 0 < ls.length := v.l1
    have hl2 := v.l2
    have hn0 := v.n
    have h00 : (0 : Int) < (ls.length : Int) := by omega
    have hn : (k : Int) < ((ls.getD 0 []).length : Int) := by omega
    have hin : inI64 ((k : Int) + 1) := by unfold inI64; omega
    have hf : fitsN (k + 1) 8 := ⟨by omega, by omega⟩
    have ih := F46_loop v m (k + 1) (e + 1) (by omega) (by omega)
    have hc := F46_cnt2 v (k := k) (by omega) e k ((votes ls k).map vI) ls.length 0 (by omega)
    rw [res_eq]
    simp only [B46, sem_br, sem_ask, sem_nxt, PC.holds, need_true, dN_eS hl, dL_eS hl, atS hl, h00, hn, decide_true, if_true, List.length_map, Nat.zero_le, stepO_nxt]
    have hc' : res B46 (.c8 ls.length (ls.map eS) e k ((votes ls k).map vI) (k : Int) 0 0 0 e) = _ := hc
    rw [hc', res_eq]
    simp only [B46, sem_ask, sem_nxt, PC.holds, need_true, hin, hf, stepO_nxt]
    rw [← ih, votes_succ]; rfl
theorem F46_eq {ls : List (List Int)} {n0 : Nat} (v : VL ls n0) : F46 ls.length (ls.map eS) = some (n0, (votes ls n0).map vI) := by
  have hr := v.row v.l1
  have hl : 0 < ls.length := v.l1
  have hn0 := v.n
  have h00 : (0 : Int) < (ls.length : Int) := by omega
  unfold F46; rw [res_eq]
  simp only [B46, sem_nxt, stepO_nxt]
  rw [res_eq]
  by_cases hz : n0 = 0
  · subst hz
    have hn : ¬ ((0 : Int) < ((ls.getD 0 []).length : Int)) := by omega
    simp only [B46, sem_br, sem_ask, sem_ret, PC.holds, need_true, dN_eS hl, dL_eS hl, atS hl, h00, hn, decide_false, Bool.false_eq_true, if_false, List.length_map, Nat.zero_le, stepO_ret]
    rfl
  · have hn : (0 : Int) < ((ls.getD 0 []).length : Int) := by omega
    have hin : inI64 ((0 : Int) + 1) := by unfold inI64; omega
    have hc := F46_cnt1 v (k := 0) (by omega) ls.length 0 (by omega)
    have ih := F46_loop v (n0 - 1) 1 0 (by omega) (by omega)
    simp only [B46, sem_br, sem_ask, sem_nxt, PC.holds, need_true, dN_eS hl, dL_eS hl, atS hl, h00, hn, decide_true, if_true, List.length_map, Nat.zero_le, stepO_nxt]
    have hc' : res B46 (.c2 ls.length (ls.map eS) 0 0 0 0) = _ := hc
    rw [hc', res_eq]
    simp only [B46, sem_ask, sem_nxt, PC.holds, need_true]
    have e1 : inI64 (((0 : Nat) : Int) + 1) := hin
    simp only [e1, need_true, stepO_nxt]
    rw [← ih]; rfl
end Go.Kv
