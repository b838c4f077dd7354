import Derived.Test.YtfojgeoicgmncaaKP2
namespace Go.Kv
set_option linter.unusedVariables false
set_option linter.unusedSimpArgs false
open Go Go.RowKit
set_option maxRecDepth 100000
theorem F15_now {n : Int} {l m : List Int} (v : VE n l m) : F15 n l.length (l.map vI) m.length (m.map vI) n = some (n, l.length, l.map vI, m.length, m.map vI, l.length, l.map vI, 0) := by
  have hn := v.hn
  have h8 := v.hl.l8
  have r1 : rangeI n 0 1000000 = 0 := rangeI_zero.2 (by omega)
  have c1 : ¬ (n > n + 1) := by omega
  have c2 : ¬ (n > n) := by omega
  have c3 : ¬ (n < n) := by omega
  have hin : inI64 (n + 1) := by unfold inI64; omega
  unfold F15; rw [res_eq]
  simp only [B15, F31_eq v, F33_eq v, F32_eq, r1, F23_eq, c1, c2, c3, decide_false, whenF, F20_4, first0_4, hin, F25_m (show l.length ≤ 1000 by omega), sem_bind_some, sem_sees, sem_triv, sem_ask, sem_ret, sem_br, PC.holds, need_true, bne_self_eq_false, beq_self_eq_true, Bool.false_eq_true, if_false, stepO_ret]
theorem F15_next {n : Int} {l m : List Int} (v : VE n l m) (vm : VM m) : F15 n l.length (l.map vI) m.length (m.map vI) (n + 1) = some (n + 1, m.length, m.map vI, 0, [], m.length, m.map vI, 0) := by
  have hn := v.hn
  have h8 := vm.l8
  have r1 : rangeI (n + 1) 0 1000000 = 0 := rangeI_zero.2 (by omega)
  have c1 : ¬ (n + 1 > n + 1) := by omega
  have c2 : n + 1 > n := by omega
  have c3 : ¬ (n + 1 < n) := by omega
  have hin : inI64 (n + 1) := by unfold inI64; omega
  unfold F15; rw [res_eq]
  simp only [B15, F31_eq v, F33_eq v, F32_eq, r1, F23_eq, c1, c2, c3, vm_ne vm, decide_false, decide_true, if_true, whenF, F20_4, first0_4, hin, F25_m (show m.length ≤ 1000 by omega), sem_bind_some, sem_sees, sem_triv, sem_ask, sem_ret, sem_br, PC.holds, need_true, bne_self_eq_false, beq_self_eq_true, Bool.false_eq_true, if_false, stepO_ret]
theorem F15_old {n : Int} {l : List Int} (v : VE n l []) (h0 : 1 ≤ n) : F15 n l.length (l.map vI) 0 [] (n - 1) = some (0, 0, [], 0, [], 0, [], 35) := by
  have hn := v.hn
  have e31 := F31_eq v
  rw [List.length_nil, List.map_nil] at e31
  have r1 : rangeI (n - 1) 0 1000000 = 0 := rangeI_zero.2 (by omega)
  have c1 : ¬ (n - 1 > n + 1) := by omega
  have c2 : ¬ (n - 1 > n) := by omega
  have c3 : n - 1 < n := by omega
  have hin : inI64 (n + 1) := by unfold inI64; omega
  have f : firstI [0, 0, 35, 0] = 35 := rfl
  unfold F15; rw [res_eq]
  simp only [B15, e31, F32_eq, r1, F23_eq, c1, c2, c3, decide_false, decide_true, if_true, whenF, whenT, F20_4, f, hin, sem_bind_some, sem_sees, sem_triv, sem_ask, sem_ret, sem_br, PC.holds, need_true, beq_self_eq_true, Bool.false_eq_true, if_false, stepO_ret, show ((35 : Int) != 0) = true from rfl]
theorem F16_eq {n : Int} {l m : List Int} (v : VE n l m) (vm : VM m) : F16 n l.length (l.map vI) m.length (m.map vI) (n + 1) = some (n + 1, m.length, m.map vI, 0, [], 0) := by
  have hn := v.hn
  have h8 := vm.l8
  have r1 : rangeI (n + 1) 0 1000000 = 0 := rangeI_zero.2 (by omega)
  have c1 : ¬ (n + 1 > n + 1) := by omega
  have hin : inI64 (n + 1) := by unfold inI64; omega
  unfold F16; rw [res_eq]
  simp only [B16, F21_eq v, F24_eq v, F32_eq, r1, F23_eq, c1, vm_ne vm, decide_false, if_true, whenF, F20_4, first0_4, hin, F25_m (show m.length ≤ 1000 by omega), sem_bind_some, sem_sees, sem_triv, sem_ask, sem_ret, sem_br, PC.holds, need_true, bne_self_eq_false, beq_self_eq_true, Bool.false_eq_true, if_false, stepO_ret]
theorem F26_eq {n : Int} {l m : List Int} (v : VE n l m) : F26 n l.length (l.map vI) m.length (m.map vI) = some 0 := by
  have hn := v.hn
  have h8 := v.hl.l8
  have r : rangeI n 0 1000000 = 0 := rangeI_zero.2 (by omega)
  unfold F26; rw [res_eq]
  simp only [B26, F19_eq, r, F6_eq l (by omega), vm_ckM v.hl, F17_2, first0_2, sem_bind_some, sem_sees, sem_triv, sem_ask, sem_ret, sem_br, PC.holds, need_true, bne_self_eq_false, Bool.false_eq_true, if_false]
  rcases v.hm with rfl | ⟨vm, hl⟩
  · simp only [List.length_nil, Int.natCast_zero, Int.cast_ofNat_Int, beq_self_eq_true, if_true, stepO_ret]
  · have e : (((m.length : Nat) : Int) != (l.length : Int)) = false := by rw [hl]; exact bne_self_eq_false _
    simp only [vm_ne vm, e, Bool.false_eq_true, if_false, F18_eq, whenF, F6_eq m (by have := vm.l8; omega), vm_ckM vm, F17_2, first0_2, sem_bind_some, sem_sees, sem_triv, sem_ret, stepO_ret]
theorem F9_eq {n : Int} {l m : List Int} (v : VE n l m) : F9 n l.length (l.map vI) m.length (m.map vI) = some 0 := by
  unfold F9; rw [res_eq]
  simp only [B9, F26_eq v, sem_bind_some, sem_sees, sem_ret, stepO_ret]
theorem F14_eq {n : Int} {l m : List Int} (v : VE n l m) : F14 n l.length (l.map vI) m.length (m.map vI) = some 0 := by
  unfold F14; rw [res_eq]
  simp only [B14, F26_eq v, sem_bind_some, sem_sees, sem_ret, stepO_ret]
theorem F10_loop (l : List Int) (hl : l.length ≤ 1000) : ∀ (k i : Nat), l.length = i + k → res B10 (.c1 l.length (l.map vI) l.length (l.map vI) (i : Int)) = some true
  | 0, i, hk => by
    rw [res_eq]
    have : ¬ ((i : Int) < (l.length : Int)) := by omega
    simp [B10, sem_br, sem_ret, this, stepO_ret]
  | k + 1, i, hk => by
    have hi : i < l.length := by omega
    have h1 : (i : Int) < (l.length : Int) := by omega
    have ih := F10_loop l hl k (i + 1) (by omega)
    have hin : inI64 ((i : Int) + 1) := by unfold inI64; omega
    rw [res_eq]
    simp only [B10, sem_br, sem_ask, sem_ret, sem_nxt, PC.holds, need_true, Int.toNat_natCast, Nat.mul_one, dI_cel_map, at_map hi, h1, hin, decide_true, if_true, Int.natCast_nonneg, List.length_map, Nat.le_of_lt hi, bne_self_eq_false, Bool.false_eq_true, if_false, stepO_nxt]
    rw [← ih]; rfl
theorem F10_eq (l : List Int) (hl : l.length ≤ 1000) : F10 l.length (l.map vI) l.length (l.map vI) = some true := by
  unfold F10; rw [res_eq]
  simp only [B10, bne_self_eq_false, Bool.false_eq_true, if_false, sem_br, sem_nxt, stepO_nxt]
  exact F10_loop l hl l.length 0 (by omega)
abbrev vB (x : Int) : DV := .v (.int .u8 x)
theorem isB_all : ∀ l : List Int, (l.map vB).all isB = true
  | [] => rfl
  | x :: xs => by rw [List.map_cons, List.all_cons, isB_all xs]; rfl
theorem F12_eq (l : List Int) : F12 l.length (l.map vB) l.length (l.map vB) = some true := by
  unfold F12; rw [res_eq]
  simp only [B12, List.length_map, isB_all, sem_ask, sem_ret, PC.holds, need_true, beq_self_eq_true, stepO_ret]
theorem F7_eq {l : List Int} (hl : l.length ≤ 1000) : F7 l.length (l.map vI) = some (l.length, l.map vI) := by
  unfold F7; rw [res_eq]
  by_cases h0 : l.length = 0
  · have : l = [] := List.eq_nil_of_length_eq_zero h0
    subst this
    simp only [B7, List.length_nil, List.map_nil, show Nat.beq 0 0 = true from rfl, if_true, sem_br, sem_ask, sem_ret, PC.holds, need_true, stepO_ret]
  · have hb : (l.length).beq 0 = false := by
      cases hh : l.length with
      | zero => exact absurd hh h0
      | succ n => rfl
    have hf : fitsN l.length 8 := by unfold fitsN; omega
    simp only [B7, hb, Bool.false_eq_true, if_false, List.length_map, Nat.mul_one, hf, show 0 < l.length by omega, sem_br, sem_ask, sem_ret, PC.holds, need_true, stepO_ret]
end Go.Kv
