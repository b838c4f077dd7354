/- MeterStreams, in plain Lean. -/
import Derived.Test.YtjpmpeknnfhccaaGreatDoorKT3
namespace Go.Kv
set_option linter.unusedVariables false
set_option linter.unusedSimpArgs false
open Go Go.RowKit
set_option maxRecDepth 100000
def IsO (m : Nat) (X : Int × Nat × List DV × Int) : Prop := ∃ (r : Int) (es : List E5) (e : Int), es.length ≤ m ∧ X = (r, es.length, es.flatMap eE, e)
theorem isO_err (m : Nat) (e : Int) : IsO m (0, 0, [], e) := ⟨0, [], e, Nat.zero_le _, rfl⟩
theorem finO_is (r : Int) (es : List E5) (e : Int) {m : Nat} (h : es.length ≤ m) : IsO m (finO r es e) := by
  unfold finO
  split
  · exact ⟨r, es, 0, h, rfl⟩
  · exact isO_err m e
theorem unpF_is (key : T8) (r : Int) (S : List Int) (n : Nat) : ∀ (m i : Nat) (es : List E5), IsO (es.length + m) (unpF key r S n m i es)
  | 0, i, es => finO_is r es _ (Nat.le_refl _)
  | m + 1, i, es => by
    unfold unpF
    split
    · have h := unpF_is key r S n m (i + 1) (es ++ [entT (ch S i)])
      rw [List.length_append] at h
      rw [show es.length + (m + 1) = es.length + [entT (ch S i)].length + m by simp; omega]
      exact h
    · exact isO_err _ _
theorem unp_both {key : T8} (hkey : keyB key) {S : List Int} (hB : ∀ b ∈ S, ByteI b) (hl : S.length ≤ 400001) : ∃ X, IsO 1000 X ∧ F9 key.1 key.2.1 key.2.2.1 key.2.2.2.1 key.2.2.2.2.1 key.2.2.2.2.2.1 key.2.2.2.2.2.2.1 key.2.2.2.2.2.2.2 S.length (S.map vB) = some X ∧ F12 key.1 key.2.1 key.2.2.1 key.2.2.2.1 key.2.2.2.2.1 key.2.2.2.2.2.1 key.2.2.2.2.2.2.1 key.2.2.2.2.2.2.2 S.length (S.map vB) = some X := by
  unfold F9 F12
  rw [res_eq B9, res_eq B12]
  have u0 : whenI false 28 = 0 := rfl
  have u1 : whenI true 28 = 28 := rfl
  have u2 : whenI false 26 = 0 := rfl
  have u3 : whenI true 26 = 26 := rfl
  have u4 : whenI false 1 = 0 := rfl
  have u5 : whenI true 1 = 1 := rfl
  have u6 : whenI false 2 = 0 := rfl
  have u7 : whenI true 2 = 2 := rfl
  have f2 : firstI [0, 28] = 28 := rfl
  have f3 (x : Int) : firstI [26, x] = 26 := rfl
  have f4 : firstI [0, 0] = 0 := rfl
  have f5 (x y : Int) : firstI [1, x, y] = 1 := rfl
  have f6 (y : Int) : firstI [0, 28, y] = 28 := rfl
  have f7 : firstI [0, 0, 2] = 2 := rfl
  have f8 : firstI [0, 0, 0] = 0 := rfl
  have b28 : ((28 : Int) != 0) = true := rfl
  have b26 : ((26 : Int) != 0) = true := rfl
  have b1 : ((1 : Int) != 0) = true := rfl
  have b2 : ((2 : Int) != 0) = true := rfl
  by_cases g1 : (S.length : Int) > 400000
  · refine ⟨(0, 0, [], 26), isO_err _ _, ?_, ?_⟩
    · simp only [B9, F43_eq, F42_2, g1, u3, f3, b26, sem_br, sem_bind_some, sem_sees, sem_triv, sem_ret, decide_true, if_true, stepO_ret]
    · simp only [B12, g1, sem_br, sem_ret, decide_true, if_true, stepO_ret]
  by_cases g2 : (S.length : Int) < 6
  · refine ⟨(0, 0, [], 28), isO_err _ _, ?_, ?_⟩
    · simp only [B9, F43_eq, F42_2, g1, g2, u1, u2, f2, b28, sem_br, sem_bind_some, sem_sees, sem_triv, sem_ret, decide_true, decide_false, Bool.false_eq_true, if_false, if_true, stepO_ret]
    · simp only [B12, g1, g2, sem_br, sem_ret, decide_true, decide_false, Bool.false_eq_true, if_false, if_true, stepO_ret]
  obtain ⟨n, hn⟩ : ∃ n : Nat, S.getD 5 0 = (n : Int) := ⟨(S.getD 5 0).toNat, by have := (bytes_getD hB 5).1; omega⟩
  have hn2 : n ≤ 255 := by have := (bytes_getD hB 5).2; omega
  have hw5 : IntKind.i64.wrap (n : Int) = (n : Int) := wrap_in (by unfold inI64; omega)
  have a5 := at_mapB (S := S) (i := 5) (by omega)
  have a4 := at_mapB (S := S) (i := 4) (by omega)
  rw [hn] at a5
  have l5 : (5 : Int) < (S.length : Int) := by omega
  have l4 : (4 : Int) < (S.length : Int) := by omega
  have l4' : (4 : Int) ≤ (S.length : Int) := by omega
  have m5 : 5 ≤ S.length := by omega
  have m4 : 4 ≤ S.length := by omega
  have i1 : inI64 (16 * (n : Int)) := by unfold inI64; omega
  have i2 : inI64 (6 + 16 * (n : Int)) := by unfold inI64; omega
  have i3 : inI64 (6 + 16 * (n : Int) + 8) := by unfold inI64; omega
  have i4 : inI64 (14 + 16 * (n : Int)) := by unfold inI64; omega
  have t4 : (List.take 4 (List.drop 0 (S.map vB))).length = 4 := by rw [List.length_take, List.drop_zero, List.length_map]; omega
  have t4b : (List.take 4 (List.drop 0 (S.map vB))).all isB = true := by rw [List.drop_zero, ← List.map_take]; exact isB_map _
  generalize hh : ((pushAll (List.map byB (List.take 4 (List.drop 0 (S.map vB)))) ByteArray.empty).toList == (ByteArray.mk #[80, 82, 79, 70]).toList) = hd
  have d14 (x : Int) : (x < 6 + 16 * (n : Int) + 8) = (x < 14 + 16 * (n : Int)) := by apply propext; omega
  have e14 (x : Int) : (x > 6 + 16 * (n : Int) + 8) = (x > 14 + 16 * (n : Int)) := by apply propext; omega
  cases hd
  · refine ⟨(0, 0, [], 1), isO_err _ _, ?_, ?_⟩
    · simp only [B9, F43_eq, F42_2, F42_3, g1, g2, hh, dI_B, hn, hw5, a5, l5, l4', m5, i1, i2, i3, t4, t4b, List.length_map, Nat.mul_one, Bool.not_false, u0, u2, u5, f4, f5, b1, sem_br, sem_ask, sem_bind_some, sem_sees, sem_triv, sem_ret, PC.holds, need_true, bne_self_eq_false, decide_false, Bool.false_eq_true, if_false, if_true, stepO_ret]
    · simp only [B12, g1, g2, hh, l4', t4, t4b, List.length_map, Nat.mul_one, Bool.not_false, sem_br, sem_ask, sem_sees, sem_triv, sem_ret, PC.holds, need_true, decide_false, Bool.false_eq_true, if_false, if_true, stepO_ret]
  by_cases g3 : (S.length : Int) < 14 + 16 * (n : Int)
  · refine ⟨(0, 0, [], 28), isO_err _ _, ?_, ?_⟩
    · simp only [B9, F43_eq, F42_2, F42_3, d14, e14, g1, g2, g3, hh, dI_B, hn, hw5, a5, l5, l4', m5, i1, i2, i3, t4, t4b, List.length_map, Nat.mul_one, Bool.not_true, u0, u1, u2, u4, f4, f6, b28, sem_br, sem_ask, sem_bind_some, sem_sees, sem_triv, sem_ret, PC.holds, need_true, bne_self_eq_false, decide_true, decide_false, Bool.false_eq_true, if_false, if_true, stepO_ret]
    · simp only [B12, g1, g2, g3, hh, dI_B, hn, hw5, a5, l5, l4', m5, i1, i4, t4, t4b, List.length_map, Nat.mul_one, Bool.not_true, sem_br, sem_ask, sem_sees, sem_triv, sem_ret, PC.holds, need_true, decide_true, decide_false, Bool.false_eq_true, if_false, if_true, stepO_ret]
  by_cases g4 : (S.length : Int) > 14 + 16 * (n : Int)
  · refine ⟨(0, 0, [], 2), isO_err _ _, ?_, ?_⟩
    · simp only [B9, F43_eq, F42_2, F42_3, d14, e14, g1, g2, g3, g4, hh, dI_B, hn, hw5, a5, l5, l4', m5, i1, i2, i3, t4, t4b, List.length_map, Nat.mul_one, Bool.not_true, u0, u2, u4, u7, f4, f7, b2, sem_br, sem_ask, sem_bind_some, sem_sees, sem_triv, sem_ret, PC.holds, need_true, bne_self_eq_false, decide_true, decide_false, Bool.false_eq_true, if_false, if_true, stepO_ret]
    · simp only [B12, g1, g2, g3, g4, hh, dI_B, hn, hw5, a5, l5, l4', m5, i1, i4, t4, t4b, List.length_map, Nat.mul_one, Bool.not_true, sem_br, sem_ask, sem_sees, sem_triv, sem_ret, PC.holds, need_true, decide_true, decide_false, Bool.false_eq_true, if_false, if_true, stepO_ret]
  have hS : S.length = 14 + 16 * n := by omega
  have hw4 : IntKind.i64.wrap (S.getD 4 0) = S.getD 4 0 := wrap_in (by have := bytes_getD hB 4; unfold ByteI at this; unfold inI64; omega)
  have k1 : (6 : Int) ≤ 6 + 16 * (n : Int) := by omega
  have k2 : 6 + 16 * (n : Int) ≤ (S.length : Int) := by omega
  have k3 : 6 + 16 * n - 6 = 16 * n := by omega
  refine ⟨unpF key (S.getD 4 0) S n n 0 [], ?_, ?_, ?_⟩
  · obtain ⟨r, es, e, h1, h2⟩ := unpF_is key (S.getD 4 0) S n n 0 []
    exact ⟨r, es, e, by simp at h1; omega, h2⟩
  · simp only [B9, F43_eq, F42_2, F42_3, d14, e14, g1, g2, g3, g4, hh, dI_B, hn, hw5, hw4, a5, a4, l5, l4, l4', m5, m4, i1, i2, i3, t4, t4b, k1, k2, toN, k3, List.length_map, Nat.mul_one, Bool.not_true, u0, u2, u4, u6, f4, f8, sem_br, sem_ask, sem_bind_some, sem_sees, sem_triv, sem_nxt, PC.holds, need_true, bne_self_eq_false, decide_true, decide_false, Bool.false_eq_true, if_false, if_true, stepO_nxt]
    exact F9_c1 hS hn2 hkey hB ..
  · simp only [B12, g1, g2, g3, g4, hh, dI_B, hn, hw5, hw4, a5, a4, l5, l4, l4', m5, m4, i1, i4, t4, t4b, List.length_map, Nat.mul_one, Bool.not_true, sem_br, sem_ask, sem_sees, sem_triv, sem_nxt, PC.holds, need_true, decide_true, decide_false, Bool.false_eq_true, if_false, if_true, stepO_nxt]
    exact F12_c1 hS hn2 hkey hB
theorem F14_eq (r : Int) (l : List E5) (hl : l.length ≤ 1000) : F14 r l.length (l.flatMap eE) = some (r, l.length, l.flatMap eE) := by
  unfold F14; rw [res_eq]
  simp only [B14, F30_eq l hl, sem_bind_some, sem_sees, sem_ret, stepO_ret]
theorem F13_eq (r : Int) (l : List E5) (hl : l.length ≤ 1000) : F13 r l.length (l.flatMap eE) r l.length (l.flatMap eE) = some true := by
  unfold F13; rw [res_eq]
  simp only [B13, F29_same l hl, sem_br, sem_bind_some, sem_sees, sem_triv, sem_ret, beq_self_eq_true, if_true, stepO_ret]
theorem pack_len (r : Int) (key : T8) (l : List E5) : (packL r key l).length = 6 + 16 * l.length + 8 := by
  unfold packL
  rw [List.length_append, List.length_append, fm_len eB_len]
  show 6 + l.length * 16 + 8 = _
  omega
theorem isB_eB (l : List E5) : (l.flatMap eB).all isB = true := by
  rw [List.all_flatMap, List.all_eq_true]
  intro x _
  exact isB_map _
theorem pack_isB (r : Int) (key : T8) (l : List E5) : (packL r key l).all isB = true := by
  unfold packL
  rw [List.all_append, List.all_append, isB_eB]
  rfl
theorem F6_eq : F6 = some true := rfl
theorem streams_true {key : T8} (hkey : keyB key) (r : Int) (l : List E5) (S : List Int) (hB : ∀ b ∈ S, ByteI b) : F3 key.1 key.2.1 key.2.2.1 key.2.2.2.1 key.2.2.2.2.1 key.2.2.2.2.2.1 key.2.2.2.2.2.2.1 key.2.2.2.2.2.2.2 r l.length (l.flatMap eE) S.length (S.map vB) = some true := by
  unfold F3; rw [res_eq]
  cases hs : shortI l
  · simp only [B3, F5_eq, hs, F6_eq, sem_br, sem_bind_some, sem_sees, sem_triv, sem_ret, Bool.not_false, if_true, stepO_ret]
  have hl := short_le hs
  cases hc : (if decide ((S.length : Int) > 400) = true then (S.length : Int) != 400001 else false)
  rotate_left
  · simp only [B3, F5_eq, hs, hc, F6_eq, sem_br, sem_ask, sem_bind_some, sem_sees, sem_triv, sem_ret, PC.holds, need_true, Bool.not_true, beq_self_eq_true, Bool.false_eq_true, if_false, if_true, stepO_ret]
  have hlen : S.length ≤ 400001 := by
    split at hc
    · simp at hc; omega
    · rename_i h; simp at h; omega
  obtain ⟨X, ⟨r', es, e, he, rfl⟩, h9, h12⟩ := unp_both hkey hB hlen
  have hf : fitsN S.length 1 := by unfold fitsN; omega
  have hemp : ((pushAll (List.map byB []) ByteArray.empty).toList == (ByteArray.mk #[]).toList) = true := by rw [List.map_nil, pushAll, ByteArray.toList_empty, ByteArray.toList_eq]; rfl
  have hn0 : ([] : List DV).length = 0 := rfl
  have ha0 : ([] : List DV).all isB = true := rfl
  cases hz : S.length.beq 0
  · have hpos : 0 < S.length := by
      rcases Nat.eq_zero_or_pos S.length with h | h
      · rw [h] at hz; cases hz
      · exact h
    by_cases hp : profI r l = 0
    · obtain ⟨_, _, hent⟩ := prof_zero hp
      simp only [B3, F5_eq, hs, hc, hz, hpos, hf, hp, F6_eq, F8_eq r l (show l.length ≤ 1000 by omega), F7_eq hkey r l (show l.length ≤ 256 by omega), F10_eq r l (show l.length ≤ 1000 by omega), F11_eq hkey r l (show l.length ≤ 256 by omega) hent, pack_len, pack_isB, Nat.zero_add, List.nil_append, h9, h12, F14_eq r' es he, F13_eq r' es he, List.length_map, Nat.mul_one, sem_br, sem_ask, sem_bind_some, sem_sees, sem_triv, sem_ret, PC.holds, need_true, Bool.not_true, beq_self_eq_true, Bool.false_eq_true, if_false, if_true, stepO_ret]
    · have hp' : (profI r l == 0) = false := by simpa using hp
      simp only [B3, F5_eq, hs, hc, hz, hpos, hf, hp, hp', hemp, hn0, ha0, F6_eq, F8_eq r l (show l.length ≤ 1000 by omega), F7_eq hkey r l (show l.length ≤ 256 by omega), F10_eq r l (show l.length ≤ 1000 by omega), Nat.zero_add, List.nil_append, h9, h12, F14_eq r' es he, F13_eq r' es he, List.length_map, Nat.mul_one, sem_br, sem_ask, sem_bind_some, sem_sees, sem_triv, sem_ret, PC.holds, need_true, Bool.not_true, beq_self_eq_true, Bool.false_eq_true, if_false, if_true, stepO_ret]
  · have hS0 : S = [] := List.eq_nil_of_length_eq_zero (Nat.eq_of_beq_eq_true hz)
    subst hS0
    simp only [List.length_nil, List.map_nil] at h9 h12 hc hz ⊢
    by_cases hp : profI r l = 0
    · obtain ⟨_, _, hent⟩ := prof_zero hp
      simp only [B3, F5_eq, hs, hc, hz, hp, F6_eq, F8_eq r l (show l.length ≤ 1000 by omega), F7_eq hkey r l (show l.length ≤ 256 by omega), F10_eq r l (show l.length ≤ 1000 by omega), F11_eq hkey r l (show l.length ≤ 256 by omega) hent, pack_len, pack_isB, h9, h12, F14_eq r' es he, F13_eq r' es he, sem_br, sem_ask, sem_bind_some, sem_sees, sem_triv, sem_ret, PC.holds, need_true, Bool.not_true, beq_self_eq_true, Bool.false_eq_true, if_false, if_true, stepO_ret]
    · have hp' : (profI r l == 0) = false := by simpa using hp
      simp only [B3, F5_eq, hs, hc, hz, hp, hp', hemp, hn0, ha0, F6_eq, F8_eq r l (show l.length ≤ 1000 by omega), F7_eq hkey r l (show l.length ≤ 256 by omega), F10_eq r l (show l.length ≤ 1000 by omega), h9, h12, F14_eq r' es he, F13_eq r' es he, sem_br, sem_ask, sem_bind_some, sem_sees, sem_triv, sem_ret, PC.holds, need_true, Bool.not_true, beq_self_eq_true, Bool.false_eq_true, if_false, if_true, stepO_ret]
end Go.Kv
