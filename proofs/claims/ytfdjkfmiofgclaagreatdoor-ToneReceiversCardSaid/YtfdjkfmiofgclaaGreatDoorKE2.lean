/- What the ends' functions come to, for whatever is given. -/
import Derived.Test.YtfdjkfmiofgclaaGreatDoorKE1
namespace Go.Kv
set_option linter.unusedVariables false
set_option linter.unusedSimpArgs false
set_option linter.unnecessarySimpa false
open Go Go.RowKit
set_option maxRecDepth 100000
/-! copies -/
theorem zerosA_len (zs : List AV) : ∀ n : Nat, (zerosA zs n).length = n * zs.length
  | 0 => by simp [zerosA]
  | n + 1 => by
    unfold zerosA
    rw [List.length_append, zerosA_len zs n, Nat.succ_mul, Nat.add_comm]
theorem spl_all {zs xs : List AV} (h : zs.length = xs.length) : spliceA zs 0 xs = xs := by
  unfold spliceA
  simp [List.drop_eq_nil_of_le (show zs.length ≤ xs.length by omega)]
theorem toDs_d : ∀ l : List DV, toDs (l.map AV.d) = some l
  | [] => rfl
  | x :: xs => by
    rw [List.map_cons]; unfold toDs; rw [toDs_d xs]; rfl
theorem aD_d (l : List DV) : List.map aD (l.map AV.d) = l := by
  rw [List.map_map]
  conv => rhs; rw [← List.map_id l]
  rfl
theorem F129_eq {xs : List DV} (h : xs.length ≤ 1000) : F129 xs.length xs = some (xs.length, xs) := by
  have e1 : min xs.length xs.length * 1 = xs.length := by omega
  have hz : (zerosA (List.map (fun (x : Value) => AV.d (DV.v x)) (Value.int IntKind.i64 0).cells.toList) xs.length).length = (xs.map AV.d).length := by
    rw [zerosA_len, List.length_map, List.length_map]
    exact Nat.mul_one _
  have hz' : (zerosA (List.map (fun (x : Value) => AV.d (DV.v x)) (Value.int IntKind.i64 0).cells.toList) xs.length).length = xs.length := by rw [hz, List.length_map]
  unfold F129; rw [res_eq]
  simp only [B129, Int.toNat_natCast, Nat.min_self, Nat.mul_one, List.take_length, spl_all hz, List.drop_zero, sem_ask, sem_ret, PC.holds, hz', List.length_map]
  rw [show List.take xs.length (List.map AV.d xs) = xs.map AV.d from List.take_of_length_le (by simp)]
  simp only [toDs_d, aD_d, Nat.zero_add, Nat.le_refl, need_true, Int.le_refl, Int.natCast_nonneg]
  rw [need_of (by omega), need_of (by omega)]
  rfl
theorem F129_m {l : List Int} (h : l.length ≤ 1000) : F129 l.length (l.map vI) = some (l.length, l.map vI) := by
  have := F129_eq (xs := l.map vI) (by rw [List.length_map]; exact h)
  rw [List.length_map] at this
  exact this
theorem F33_eq {l : List Int} (h : l.length ≤ 1025) : F33 l.length (l.map vI) = some (l.length, l.map vI) := by
  unfold F33; rw [res_eq]
  by_cases h0 : l.length = 0
  · obtain rfl : l = [] := List.eq_nil_of_length_eq_zero h0
    simp [B33, sem_br, sem_ask, sem_ret, PC.holds, need_true, stepO_ret]
  · have hf : fitsN l.length 8 := ⟨by omega, by omega⟩
    have h1 : l.length.beq 0 = false := by
      cases hn : l.length with
      | zero => exact absurd hn h0
      | succ n => rfl
    simp only [B33, sem_br, sem_ask, sem_ret, PC.holds, need_true, stepO_ret, h1, Bool.false_eq_true, if_false, Nat.pos_of_ne_zero h0, List.length_map, Nat.mul_one, hf]
theorem F65_loop (l : List Int) (hl : l.length ≤ 1025) : ∀ (k i : Nat), l.length = i + k → res B65 (.c1 l.length (l.map vI) l.length (l.map vI) (i : Int)) = some true
  | 0, i, hk => by
    have : ¬ ((i : Int) < (l.length : Int)) := by omega
    rw [res_eq]
    simp only [B65, sem_br, sem_ret, this, decide_false, Bool.false_eq_true, if_false, stepO_ret]
  | k + 1, i, hk => by
    have hi : i < l.length := by omega
    have h1 : (i : Int) < (l.length : Int) := by omega
    have ih := F65_loop l hl k (i + 1) (by omega)
    have hin : inI64 ((i : Int) + 1) := by unfold inI64; omega
    rw [res_eq]
    simp only [B65, sem_br, sem_ask, sem_ret, sem_nxt, PC.holds, need_true, Int.toNat_natCast, Nat.mul_one, dI_cel_map, at_map hi, h1, hin, decide_true, if_true, Int.natCast_nonneg, List.length_map, Nat.le_of_lt hi, bne_self_eq_false, Bool.false_eq_true, if_false, stepO_nxt]
    rw [← ih]; rfl
theorem F65_eq (l : List Int) (hl : l.length ≤ 1025) : F65 l.length (l.map vI) l.length (l.map vI) = some true := by
  unfold F65; rw [res_eq]
  simp only [B65, sem_br, sem_nxt, bne_self_eq_false, Bool.false_eq_true, if_false, stepO_nxt]
  exact F65_loop l hl l.length 0 (by omega)
theorem F65_nil : F65 0 [] 0 [] = some true := F65_eq [] (by simp)
theorem F15_eq : F15 = some true := rfl
theorem F52_eq (n : Int) : F52 n = some (rangeI n 0 1000000) := by
  unfold F52; rw [res_eq]
  simp only [B52, F39_eq, sem_bind_some, sem_sees, sem_ret, stepO_ret]
theorem first_pos {a : Int} (h : a ≠ 0) (l : List Int) : firstI (a :: l) = a := by
  unfold firstI; rw [if_neg h]
theorem first_z (l : List Int) : firstI (0 :: l) = firstI l := by
  conv => lhs; unfold firstI
  rw [if_pos rfl]
theorem rangeI_0 {n : Int} (h : rangeI n 0 1000000 = 0) : 0 ≤ n ∧ n ≤ 1000000 := rangeI_zero.1 h
theorem endE_n {n : Int} {l m : List Int} (h : endE n l m = 0) : 0 ≤ n ∧ n ≤ 1000000 := by
  unfold endE at h
  by_cases h1 : firstI [rangeI n 0 1000000, ckM l] = 0
  · by_cases h2 : rangeI n 0 1000000 = 0
    · exact rangeI_0 h2
    · rw [first_pos h2] at h1; exact absurd h1 h2
  · rw [if_pos h1] at h; exact absurd h h1
theorem wrap_n {n : Int} (h : 0 ≤ n ∧ n ≤ 1000000) : IntKind.i64.wrap (n + 1) = n + 1 := by
  simp [IntKind.wrap, IntKind.signed, IntKind.bits]; omega
end Go.Kv
