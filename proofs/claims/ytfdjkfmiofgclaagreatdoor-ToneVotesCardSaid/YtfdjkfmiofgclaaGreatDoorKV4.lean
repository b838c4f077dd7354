/- ToneVotes: what the program's vote comes to. -/
import Derived.Test.YtfdjkfmiofgclaaGreatDoorKV3
namespace Go.Kv
set_option linter.unusedVariables false
set_option linter.unusedSimpArgs false
set_option linter.unnecessarySimpa false
open Go Go.RowKit
set_option maxRecDepth 100000
def c3 (a b c : Int) : List AV := [.d (.v (.int .i64 a)), .d (.v (.int .i64 b)), .d (.v (.int .i64 c))]
theorem c3_0 (a b c : Int) : (c3 a b c)[0]? = some (AV.d (DV.v (Value.int IntKind.i64 (dI (celA (c3 a b c) 0))))) := rfl
theorem c3_1 (a b c : Int) : (c3 a b c)[1]? = some (AV.d (DV.v (Value.int IntKind.i64 (dI (celA (c3 a b c) 1))))) := rfl
theorem c3_2 (a b c : Int) : (c3 a b c)[2]? = some (AV.d (DV.v (Value.int IntKind.i64 (dI (celA (c3 a b c) 2))))) := rfl
theorem g3_0 (a b c : Int) : dI (celA (c3 a b c) 0) = a := rfl
theorem g3_1 (a b c : Int) : dI (celA (c3 a b c) 1) = b := rfl
theorem g3_2 (a b c : Int) : dI (celA (c3 a b c) 2) = c := rfl
theorem p3_0 (a b c x : Int) : spliceA (c3 a b c) 0 [AV.d (DV.v (Value.int IntKind.i64 x))] = c3 x b c := rfl
theorem p3_1 (a b c x : Int) : spliceA (c3 a b c) 1 [AV.d (DV.v (Value.int IntKind.i64 x))] = c3 a x c := rfl
theorem p3_2 (a b c x : Int) : spliceA (c3 a b c) 2 [AV.d (DV.v (Value.int IntKind.i64 x))] = c3 a b x := rfl
theorem z3_0 : [AV.d (DV.v (Value.int IntKind.i64 0)), AV.d (DV.v (Value.int IntKind.i64 0)), AV.d (DV.v (Value.int IntKind.i64 0))] = c3 0 0 0 := rfl
theorem r3 (a b c : Int) (t : TypeId) : refK 1 (ABlk.cells (c3 a b c) t) = true := rfl
theorem r3' (k : Nat) (a b c : Int) (t : TypeId) : refK k (ABlk.cells (c3 a b c) t) = true := rfl
theorem l3 (a b c : Int) : (c3 a b c).length = 3 := rfl
theorem x3_0 : 0 + ((-1 : Int) + 1).toNat = 0 := rfl
theorem x3_1 : 0 + ((0 : Int) + 1).toNat = 1 := rfl
theorem x3_2 : 0 + ((1 : Int) + 1).toNat = 2 := rfl
theorem cnt_all {ls : List (List Int)} {k : Nat} : cnt 1 k ls ≤ ls.length ∧ cnt 0 k ls ≤ ls.length ∧ cnt (-1) k ls ≤ ls.length := ⟨cnt_le _ _ _, cnt_le _ _ _, cnt_le _ _ _⟩
def C3 (ls : List (List Int)) (k i : Nat) : List AV := c3 (cnt (-1) k (ls.take i)) (cnt 0 k (ls.take i)) (cnt 1 k (ls.take i))

theorem F44_c4 {ls : List (List Int)} {n0 : Nat} (v : VL ls n0) {k : Nat} (hk : k < n0) : ∀ (m i : Nat), ls.length = i + m →
    res B44 (.c4 ls.length (ls.map eS) (k : Int) (n0 : Int) (ls.length : Int) (i : Int) (C3 ls k i)) = res B44 (.c4 ls.length (ls.map eS) (k : Int) (n0 : Int) (ls.length : Int) (ls.length : Int) (C3 ls k ls.length))
  | 0, i, hm => by rw [show i = ls.length by omega]
  | m + 1, i, hm => by
    have hi : i < ls.length := by omega
    have h1 : (i : Int) < (ls.length : Int) := by omega
    have hr := v.row hi
    have hl2 := v.l2
    have h2 : (k : Int) < ((ls.getD i []).length : Int) := by omega
    have hkl : k < (ls.getD i []).length := by omega
    have hin : inI64 ((i : Int) + 1) := by unfold inI64; omega
    have hlt : (ls.take i).length ≤ 15 := by rw [List.length_take]; omega
    obtain ⟨b1, b0, bm⟩ := cnt_all (ls := ls.take i) (k := k)
    have hi1 : inI64 ((cnt 1 k (ls.take i) : Int) + 1) := by unfold inI64; omega
    have hi0 : inI64 ((cnt 0 k (ls.take i) : Int) + 1) := by unfold inI64; omega
    have him : inI64 ((cnt (-1) k (ls.take i) : Int) + 1) := by unfold inI64; omega
    have q1 : inI64 ((-1 : Int) + 1) := by decide
    have q2 : inI64 ((0 : Int) + 1) := by decide
    have q3 : inI64 ((1 : Int) + 1) := by decide
    have ih := F44_c4 v hk  m (i + 1) (by omega)
    have s1 := cnt_succ (p := 1) (k := k) hi
    have s0 := cnt_succ (p := 0) (k := k) hi
    have sm := cnt_succ (p := -1) (k := k) hi
    rw [← ih, res_eq]
    unfold C3
    simp only [B44, sem_br, sem_ask, sem_ret, sem_nxt, sem_sees, sem_triv, PC.holds, need_true, Int.toNat_natCast, Nat.mul_one, dN_eS hi, dL_eS hi, atS hi, dI_cel_map, at_map hkl, h1, h2, hin, decide_true, if_true, Int.natCast_nonneg, List.length_map, Nat.le_of_lt hi, Nat.le_of_lt hkl]
    rcases v.cell hi hk with e | e | e
    · rw [e] at s1 s0 sm
      simp only [e, q1, need_true, x3_0, c3_0, g3_0, him, p3_0, r3, r3', l3, show (0 : Int) ≤ (-1 : Int) + 1 from by decide, show ((-1 : Int) + 1 < 3) from by decide, show 0 + 1 ≤ 3 from by decide, if_true, stepO_nxt]
      rw [s1, s0, sm]; rfl
    · rw [e] at s1 s0 sm
      simp only [e, q2, need_true, x3_1, c3_1, g3_1, hi0, p3_1, r3, r3', l3, show (0 : Int) ≤ (0 : Int) + 1 from by decide, show ((0 : Int) + 1 < 3) from by decide, show 1 + 1 ≤ 3 from by decide, if_true, stepO_nxt]
      rw [s1, s0, sm]; rfl
    · rw [e] at s1 s0 sm
      simp only [e, q3, need_true, x3_2, c3_2, g3_2, hi1, p3_2, r3, r3', l3, show (0 : Int) ≤ (1 : Int) + 1 from by decide, show ((1 : Int) + 1 < 3) from by decide, show 2 + 1 ≤ 3 from by decide, if_true, stepO_nxt]
      rw [s1, s0, sm]; rfl

theorem F44_c7 {ls : List (List Int)} {n0 : Nat} (v : VL ls n0) {k : Nat} (hk : k < n0) (e t : Nat) (L : List DV) : ∀ (m i : Nat), ls.length = i + m →
    res B44 (.c7 ls.length (ls.map eS) e t L (k : Int) (n0 : Int) (ls.length : Int) (i : Int) e (C3 ls k i)) = res B44 (.c7 ls.length (ls.map eS) e t L (k : Int) (n0 : Int) (ls.length : Int) (ls.length : Int) e (C3 ls k ls.length))
  | 0, i, hm => by rw [show i = ls.length by omega]
  | m + 1, i, hm => by
    have hi : i < ls.length := by omega
    have h1 : (i : Int) < (ls.length : Int) := by omega
    have hr := v.row hi
    have hl2 := v.l2
    have h2 : (k : Int) < ((ls.getD i []).length : Int) := by omega
    have hkl : k < (ls.getD i []).length := by omega
    have hin : inI64 ((i : Int) + 1) := by unfold inI64; omega
    have hlt : (ls.take i).length ≤ 15 := by rw [List.length_take]; omega
    obtain ⟨b1, b0, bm⟩ := cnt_all (ls := ls.take i) (k := k)
    have hi1 : inI64 ((cnt 1 k (ls.take i) : Int) + 1) := by unfold inI64; omega
    have hi0 : inI64 ((cnt 0 k (ls.take i) : Int) + 1) := by unfold inI64; omega
    have him : inI64 ((cnt (-1) k (ls.take i) : Int) + 1) := by unfold inI64; omega
    have q1 : inI64 ((-1 : Int) + 1) := by decide
    have q2 : inI64 ((0 : Int) + 1) := by decide
    have q3 : inI64 ((1 : Int) + 1) := by decide
    have ih := F44_c7 v hk e t L m (i + 1) (by omega)
    have s1 := cnt_succ (p := 1) (k := k) hi
    have s0 := cnt_succ (p := 0) (k := k) hi
    have sm := cnt_succ (p := -1) (k := k) hi
    rw [← ih, res_eq]
    unfold C3
    simp only [B44, sem_br, sem_ask, sem_ret, sem_nxt, sem_sees, sem_triv, PC.holds, need_true, Int.toNat_natCast, Nat.mul_one, dN_eS hi, dL_eS hi, atS hi, dI_cel_map, at_map hkl, h1, h2, hin, decide_true, if_true, Int.natCast_nonneg, List.length_map, Nat.le_of_lt hi, Nat.le_of_lt hkl]
    rcases v.cell hi hk with e | e | e
    · rw [e] at s1 s0 sm
      simp only [e, q1, need_true, x3_0, c3_0, g3_0, him, p3_0, r3, r3', l3, show (0 : Int) ≤ (-1 : Int) + 1 from by decide, show ((-1 : Int) + 1 < 3) from by decide, show 0 + 1 ≤ 3 from by decide, if_true, stepO_nxt]
      rw [s1, s0, sm]; rfl
    · rw [e] at s1 s0 sm
      simp only [e, q2, need_true, x3_1, c3_1, g3_1, hi0, p3_1, r3, r3', l3, show (0 : Int) ≤ (0 : Int) + 1 from by decide, show ((0 : Int) + 1 < 3) from by decide, show 1 + 1 ≤ 3 from by decide, if_true, stepO_nxt]
      rw [s1, s0, sm]; rfl
    · rw [e] at s1 s0 sm
      simp only [e, q3, need_true, x3_2, c3_2, g3_2, hi1, p3_2, r3, r3', l3, show (0 : Int) ≤ (1 : Int) + 1 from by decide, show ((1 : Int) + 1 < 3) from by decide, show 2 + 1 ≤ 3 from by decide, if_true, stepO_nxt]
      rw [s1, s0, sm]; rfl
end Go.Kv
