import Derived.Test.YtfojgeoicgmncaaKP1
namespace Go.Kv
set_option linter.unusedVariables false
set_option linter.unusedSimpArgs false
open Go Go.RowKit
set_option maxRecDepth 100000
theorem F70_eq (n a b : Int) : F70 n [vI a] [vI b] = some (rangeI n a b) := by
  unfold F70; rw [res_eq]
  have e1 : dI (cel [vI a] 0) = a := rfl
  have e2 : dI (cel [vI b] 0) = b := rfl
  simp only [B70, e1, e2, F32_eq, sem_ask, sem_ret, sem_bind_some, sem_sees, sem_triv, PC.holds, need_of (show Option.map AV.d ([vI a] : List DV)[0]? = some (AV.d (DV.v (Value.int IntKind.i64 a))) from rfl), need_of (show Option.map AV.d ([vI b] : List DV)[0]? = some (AV.d (DV.v (Value.int IntKind.i64 b))) from rfl), stepO_ret]
theorem zer_snoc (i : Nat) : (List.replicate i (0 : Int)).map vI ++ [DV.v (Value.int IntKind.i64 0)] = (List.replicate (i + 1) (0 : Int)).map vI := by
  rw [List.replicate_succ', List.map_append]; rfl
theorem zer_first (n : Nat) (h : n ≤ 9223372036854775807) : F20 n ((List.replicate n (0 : Int)).map vI) = some 0 := by
  have := F20_eq (List.replicate n (0 : Int)) (by rw [List.length_replicate]; exact h)
  rw [List.length_replicate] at this
  rw [this, first0s]
  intro x hx
  exact (List.mem_replicate.1 hx).2
theorem F55_loop {l : List Int} (v : VM l) : ∀ (k i e : Nat), l.length = i + k → 0 < i →
    res B55 (.c2 e i ((List.replicate i (0 : Int)).map vI) l.length (l.map vI) (l.length : Int) (i : Int) 0 6 e) = some 0
  | 0, i, e, hk, h0 => by
    obtain rfl : i = l.length := by omega
    have h1 : ¬ ((l.length : Int) < (l.length : Int)) := by omega
    rw [res_eq]
    simp only [B55, zer_first l.length (by have := v.l8; omega), flatDs, List.all_map, sem_br, sem_ask, sem_ret, sem_bind_some, sem_sees, PC.holds, h1, decide_false, Bool.false_eq_true, if_false, need_true, h0, stepO_ret]
  | k + 1, i, e, hk, h0 => by
    have hi : i < l.length := by omega
    have h1 : (i : Int) < (l.length : Int) := by omega
    have ih := F55_loop v k (i + 1) (e + 1) (by omega) (by omega)
    have h8 := v.l8
    have hin : inI64 ((i : Int) + 1) := by unfold inI64; omega
    have hf : fitsN (i + 1) 8 := by unfold fitsN; omega
    have hr : rangeI (l.getD i 0) 0 6 = 0 := rangeI_zero.2 (v.get hi)
    rw [res_eq]
    simp only [B55, F70_eq, hr, sem_br, sem_ask, sem_ret, sem_nxt, sem_bind_some, sem_sees, sem_triv, PC.holds, need_true, Int.toNat_natCast, Nat.mul_one, dI_cel_map, at_map hi, h1, hin, hf, decide_true, if_true, Int.natCast_nonneg, List.length_map, Nat.le_of_lt hi, stepO_nxt, zer_snoc]
    rw [← ih]; rfl
theorem F55_eq {l : List Int} (v : VM l) : F55 l.length (l.map vI) 0 6 = some 0 := by
  have h1' := v.l1
  have h8 := v.l8
  unfold F55
  rw [res_eq]
  simp only [B55, sem_nxt, stepO_nxt]
  rw [res_eq]
  have hi : 0 < l.length := by omega
  have h1 : (0 : Int) < (l.length : Int) := by omega
  have h2 := at_map hi
  have hin : inI64 ((0 : Int) + 1) := by unfold inI64; omega
  have hr : rangeI (l.getD 0 0) 0 6 = 0 := rangeI_zero.2 (v.get hi)
  have ih := F55_loop v (l.length - 1) 1 0 (by omega) (by omega)
  simp only [B55, F70_eq, dI_cel_map, Int.toNat_zero, Nat.zero_mul, hr, h2, h1, hin, sem_br, sem_ask, sem_ret, sem_nxt, sem_bind_some, sem_sees, sem_triv, PC.holds, need_true, Nat.mul_one, decide_true, if_true, Int.le_refl, List.length_map, Nat.zero_le, stepO_nxt]
  rw [← ih]; rfl
theorem vm_ne {l : List Int} (v : VM l) : ((l.length : Int) == 0) = false := by
  have := v.l1
  simp only [beq_eq_false_iff_ne, ne_eq]; omega
theorem vm_le {l : List Int} (v : VM l) : ¬ ((l.length : Int) > 8) := by
  have := v.l8
  omega
theorem first0_2 : firstI [0, 0] = 0 := rfl
theorem first0_3 : firstI [0, 0, 0] = 0 := rfl
theorem first0_4 : firstI [0, 0, 0, 0] = 0 := rfl
theorem F36_eq {l : List Int} (v : VM l) : F36 l.length (l.map vI) = some 0 := by
  unfold F36; rw [res_eq]
  simp only [B36, F23_eq, vm_ne v, vm_le v, decide_false, whenF, F55_eq v, F20_3, first0_3, sem_bind_some, sem_sees, sem_triv, sem_ask, sem_ret, PC.holds, need_true, stepO_ret]
theorem F22_eq {l m : List Int} (v : VM m) (h : m.length = l.length) : F22 l.length (l.map vI) m.length (m.map vI) = some 0 := by
  have e : (((m.length : Nat) : Int) != (l.length : Int)) = false := by rw [h]; exact bne_self_eq_false _
  unfold F22; rw [res_eq]
  simp only [B22, F23_eq, e, whenF, F36_eq v, F20_2, first0_2, sem_bind_some, sem_sees, sem_triv, sem_ask, sem_ret, PC.holds, need_true, stepO_ret]
structure VE (n : Int) (l m : List Int) : Prop where
  hn : 0 ≤ n ∧ n ≤ 100
  hl : VM l
  hm : m = [] ∨ (VM m ∧ m.length = l.length)
theorem F35_eq {n : Int} {l m : List Int} (v : VE n l m) : F35 n l.length (l.map vI) m.length (m.map vI) = some 0 := by
  have hn := v.hn
  have r : rangeI n 0 1000000 = 0 := rangeI_zero.2 (by omega)
  unfold F35; rw [res_eq]
  simp only [B35, F32_eq, r, F36_eq v.hl, F20_2, first0_2, sem_bind_some, sem_sees, sem_triv, sem_ask, sem_ret, sem_br, PC.holds, need_true, bne_self_eq_false, Bool.false_eq_true, if_false]
  rcases v.hm with rfl | ⟨vm, hl⟩
  · simp only [List.length_nil, Int.natCast_zero, Int.cast_ofNat_Int, beq_self_eq_true, if_true, stepO_ret]
  · simp only [vm_ne vm, Bool.false_eq_true, if_false, F22_eq vm hl, sem_bind_some, sem_sees, sem_ret, stepO_ret]
theorem F21_eq {n : Int} {l m : List Int} (v : VE n l m) : F21 n l.length (l.map vI) m.length (m.map vI) = some 0 := by
  unfold F21; rw [res_eq]
  simp only [B21, F35_eq v, sem_bind_some, sem_sees, sem_ret, stepO_ret]
theorem F31_eq {n : Int} {l m : List Int} (v : VE n l m) : F31 n l.length (l.map vI) m.length (m.map vI) = some 0 := by
  unfold F31; rw [res_eq]
  simp only [B31, F35_eq v, sem_bind_some, sem_sees, sem_ret, stepO_ret]
theorem zerosA_len (zs : List AV) : ∀ n : Nat, (zerosA zs n).length = n * zs.length
  | 0 => by simp [zerosA]
  | n + 1 => by
    unfold zerosA
    rw [List.length_append, zerosA_len zs n, Nat.succ_mul, Nat.add_comm]
theorem spl_all {zs xs : List AV} (h : zs.length = xs.length) : spliceA zs 0 xs = xs := by
  unfold spliceA
  simp [List.drop_eq_nil_of_le (show zs.length ≤ xs.length by omega)]
theorem toDs_d : ∀ l : List DV, toDs (l.map AV.d) = some l
  | [] => rfl
  | x :: xs => by
    rw [List.map_cons]; unfold toDs; rw [toDs_d xs]; rfl
theorem aD_d (l : List DV) : List.map aD (l.map AV.d) = l := by
  rw [List.map_map]
  conv => rhs; rw [← List.map_id l]
  rfl
theorem F25_eq {xs : List DV} (h : xs.length ≤ 1000) : F25 xs.length xs = some (xs.length, xs) := by
  have e1 : min xs.length xs.length * 1 = xs.length := by omega
  have hz : (zerosA (List.map (fun (x : Value) => AV.d (DV.v x)) (Value.int IntKind.i64 0).cells.toList) xs.length).length = (xs.map AV.d).length := by
    rw [zerosA_len, List.length_map, List.length_map]
    exact Nat.mul_one _
  have hz' : (zerosA (List.map (fun (x : Value) => AV.d (DV.v x)) (Value.int IntKind.i64 0).cells.toList) xs.length).length = xs.length := by rw [hz, List.length_map]
  unfold F25; rw [res_eq]
  simp only [B25, Int.toNat_natCast, Nat.min_self, Nat.mul_one, List.take_length, spl_all hz, List.drop_zero, sem_ask, sem_ret, PC.holds, hz', List.length_map]
  rw [show List.take xs.length (List.map AV.d xs) = xs.map AV.d from List.take_of_length_le (by simp)]
  simp only [toDs_d, aD_d, Nat.zero_add, Nat.le_refl, need_true, Int.le_refl, Int.natCast_nonneg]
  rw [need_of (by omega), need_of (by omega)]
  rfl
theorem F25_m {l : List Int} (h : l.length ≤ 1000) : F25 l.length (l.map vI) = some (l.length, l.map vI) := by
  have := F25_eq (xs := l.map vI) (by rw [List.length_map]; exact h)
  rw [List.length_map] at this
  exact this
theorem VE.ml {n : Int} {l m : List Int} (v : VE n l m) : m.length ≤ 8 := by
  rcases v.hm with rfl | ⟨vm, _⟩
  · simp
  · exact vm.l8
theorem F24_eq {n : Int} {l m : List Int} (v : VE n l m) : F24 n l.length (l.map vI) m.length (m.map vI) = some (n, l.length, l.map vI, m.length, m.map vI) := by
  have h1 := v.hl.l8
  have h2 := v.ml
  unfold F24; rw [res_eq]
  simp only [B24, F25_m (show l.length ≤ 1000 by omega), F25_m (show m.length ≤ 1000 by omega), sem_bind_some, sem_sees, sem_triv, sem_ask, sem_ret, PC.holds, need_true, stepO_ret]
theorem F33_eq {n : Int} {l m : List Int} (v : VE n l m) : F33 n l.length (l.map vI) m.length (m.map vI) = some (n, l.length, l.map vI, m.length, m.map vI) := by
  have h1 := v.hl.l8
  have h2 := v.ml
  unfold F33; rw [res_eq]
  simp only [B33, F25_m (show l.length ≤ 1000 by omega), F25_m (show m.length ≤ 1000 by omega), sem_bind_some, sem_sees, sem_triv, sem_ask, sem_ret, PC.holds, need_true, stepO_ret]
theorem F8_eq {n : Int} {l m : List Int} (v : VE n l []) (vm : VM m) (hm : m.length = l.length) : F8 n l.length (l.map vI) 0 [] m.length (m.map vI) = some (n, l.length, l.map vI, m.length, m.map vI, 0) := by
  have hn := v.hn
  have e21 := F21_eq v
  have e24 := F24_eq v
  have h8 := vm.l8
  rw [List.length_nil, List.map_nil] at e21 e24
  have c : (n == 1000000) = false := by simp; omega
  unfold F8; rw [res_eq]
  simp only [B8, e21, e24, F22_eq vm hm, F23_eq, c, Int.natCast_zero, Int.cast_ofNat_Int, gt_iff_lt, Int.lt_irrefl, decide_false, whenF, F20_4, first0_4, F25_m (show m.length ≤ 1000 by omega), sem_bind_some, sem_sees, sem_triv, sem_ask, sem_ret, sem_br, PC.holds, need_true, bne_self_eq_false, Bool.false_eq_true, if_false, stepO_ret]
theorem F34_loop (l : List Int) (hl : l.length ≤ 100) : ∀ (k i : Nat), l.length = i + k → res B34 (.c1 l.length (l.map vI) l.length (l.map vI) (l.length : Int) (i : Int)) = some true
  | 0, i, hk => by
    rw [res_eq]
    have : ¬ ((i : Int) < (l.length : Int)) := by omega
    simp [B34, sem_br, sem_ret, this, stepO_ret]
  | k + 1, i, hk => by
    have hi : i < l.length := by omega
    have h1 : (i : Int) < (l.length : Int) := by omega
    have ih := F34_loop l hl k (i + 1) (by omega)
    have hin : inI64 ((i : Int) + 1) := by unfold inI64; omega
    rw [res_eq]
    simp only [B34, sem_br, sem_ask, sem_ret, sem_nxt, PC.holds, need_true, Int.toNat_natCast, Nat.mul_one, dI_cel_map, at_map hi, h1, hin, decide_true, if_true, Int.natCast_nonneg, List.length_map, Nat.le_of_lt hi, bne_self_eq_false, Bool.false_eq_true, if_false, stepO_nxt]
    rw [← ih]; rfl
theorem F34_eq (l : List Int) (hl : l.length ≤ 100) : F34 l.length (l.map vI) l.length (l.map vI) = some true := by
  unfold F34; rw [res_eq]
  simp only [B34, bne_self_eq_false, Bool.false_eq_true, if_false, sem_br, sem_nxt, stepO_nxt]
  exact F34_loop l hl l.length 0 (by omega)
theorem F13_eq {n : Int} {l m r : List Int} (v : VE n l r) (hr : r = [] ∨ r = m) (vm : VM m) (hm : m.length = l.length) : F13 n l.length (l.map vI) r.length (r.map vI) (n + 1) m.length (m.map vI) = some (n, l.length, l.map vI, m.length, m.map vI, n + 1, 0) := by
  have hn := v.hn
  have h8 := vm.l8
  have r1 : rangeI (n + 1) 0 1000000 = 0 := rangeI_zero.2 (by omega)
  have c1 : ¬ (n + 1 > n + 1) := by omega
  have c2 : ¬ (n + 1 ≤ n) := by omega
  have hin : inI64 (n + 1) := by unfold inI64; omega
  unfold F13; rw [res_eq]
  simp only [B13, F31_eq v, F33_eq v, F32_eq, r1, F22_eq vm hm, F23_eq, c1, c2, decide_false, whenF, F20_4, first0_4, hin, sem_bind_some, sem_sees, sem_triv, sem_ask, sem_ret, sem_br, PC.holds, need_true, bne_self_eq_false, Bool.false_eq_true, if_false]
  rcases hr with rfl | rfl
  · simp only [List.length_nil, Int.natCast_zero, Int.cast_ofNat_Int, beq_self_eq_true, if_true, F25_m (show m.length ≤ 1000 by omega), sem_bind_some, sem_sees, sem_triv, sem_ask, sem_ret, PC.holds, need_true, stepO_ret]
  · simp only [vm_ne vm, Bool.false_eq_true, if_false, F34_eq r (by omega), Bool.not_true, sem_bind_some, sem_sees, sem_triv, sem_br, sem_ask, sem_ret, PC.holds, need_true, stepO_ret]
end Go.Kv
