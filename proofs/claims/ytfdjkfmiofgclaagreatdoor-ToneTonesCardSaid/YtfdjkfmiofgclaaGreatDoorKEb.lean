import Derived.Test.YtfdjkfmiofgclaaGreatDoorKP1b
namespace Go.Kv
set_option linter.unusedVariables false
set_option linter.unusedSimpArgs false
set_option linter.unnecessarySimpa false
open Go Go.RowKit
set_option maxRecDepth 100000
theorem takeS {α β : Type} {l : List α} {i : Nat} (d : α) (hi : i < l.length) (f : α → β) : (l.take (i + 1)).map f = (l.take i).map f ++ [f (l.getD i d)] := by
  rw [List.take_succ_eq_append_getElem hi, List.map_append]
  simp [List.getD_eq_getElem?_getD, hi]
def rgs (l : List Int) (a b : Int) : List Int := l.map fun x => rangeI x a b
theorem F172_eq (n a b : Int) : F172 n [vI a] [vI b] = some (rangeI n a b) := by
  unfold F172; rw [res_eq]
  have e1 : dI (cel [vI a] 0) = a := rfl
  have e2 : dI (cel [vI b] 0) = b := rfl
  simp [B172, e1, e2, F106_eq, sem_bind_some, sem_sees, sem_ask, sem_ret, PC.holds, need_true, stepO_ret]
theorem F126_loop (l : List Int) (a b : Int) (hl : l.length ≤ 1025) : ∀ (k i e : Nat), l.length = i + k → 0 < i →
    res B126 (.c2 e i ((rgs (l.take i) a b).map vI) l.length (l.map vI) (l.length : Int) (i : Int) a b e) = some (firstI (rgs l a b))
  | 0, i, e, hk, h0 => by
    have hn : ¬ ((i : Int) < (l.length : Int)) := by omega
    rw [res_eq, List.take_of_length_le (by omega)]
    have := F107_eq (rgs l a b) (by unfold rgs; rw [List.length_map]; omega)
    rw [show (rgs l a b).length = i by unfold rgs; rw [List.length_map]; omega] at this
    simp only [B126, sem_br, sem_ask, sem_ret, sem_bind_some, sem_sees, PC.holds, need_true, hn, this, decide_false, Bool.false_eq_true, if_false, stepO_ret]
  | k + 1, i, e, hk, h0 => by
    have hi : i < l.length := by omega
    have h1 : (i : Int) < (l.length : Int) := by omega
    have ih := F126_loop l a b hl k (i + 1) (e + 1) (by omega) (by omega)
    have hin : inI64 ((i : Int) + 1) := by unfold inI64; omega
    have hf : fitsN (i + 1) 8 := ⟨by omega, by omega⟩
    have tk : (rgs (l.take (i + 1)) a b).map vI = (rgs (l.take i) a b).map vI ++ [vI (rangeI (l.getD i 0) a b)] := by
      unfold rgs
      rw [List.map_map, List.map_map, takeS 0 hi]; rfl
    rw [res_eq]
    simp only [B126, sem_br, sem_ask, sem_ret, sem_nxt, sem_bind_some, sem_sees, PC.holds, need_true, Int.toNat_natCast, Nat.mul_one, dI_cel_map, at_map hi, h1, hin, decide_true, if_true, Int.natCast_nonneg, List.length_map, Nat.le_of_lt hi, F172_eq, hf, stepO_nxt]
    rw [← ih, tk]; rfl
theorem F126_eq (l : List Int) (a b : Int) (hl : l.length ≤ 1025) : F126 l.length (l.map vI) a b = some (firstI (rgs l a b)) := by
  unfold F126; rw [res_eq]
  simp only [B126, sem_nxt, stepO_nxt]
  rw [res_eq]
  by_cases h0 : l.length = 0
  · obtain rfl : l = [] := List.eq_nil_of_length_eq_zero h0
    have := F107_eq [] (by simp)
    simp only [List.length_nil, List.map_nil] at this
    simp [B126, sem_br, sem_ret, sem_bind_some, sem_sees, this, stepO_ret, rgs, firstI]
  · have hi : 0 < l.length := by omega
    have h1 : (0 : Int) < (l.length : Int) := by omega
    have ih := F126_loop l a b hl (l.length - 1) 1 0 (by omega) (by omega)
    have hin : inI64 ((0 : Int) + 1) := by unfold inI64; omega
    have a0 := at_map hi
    have tk : (rgs (l.take 1) a b).map vI = [vI (rangeI (l.getD 0 0) a b)] := by
      cases l with
      | nil => simp at hi
      | cons x r => simp [rgs]
    simp only [B126, sem_br, sem_ask, sem_ret, sem_nxt, sem_bind_some, sem_sees, PC.holds, need_true, Int.toNat_zero, Nat.zero_mul, dI_cel_map, a0, h1, hin, decide_true, if_true, Int.le_refl, Nat.zero_le, F172_eq, stepO_nxt]
    rw [← ih, tk]; rfl
theorem firstI_3 (a b c : Int) : firstI [a, b, c] = if firstI [a, b] = 0 then c else firstI [a, b] := by
  unfold firstI
  by_cases ha : a = 0
  · simp only [ha, if_true]
    unfold firstI
    by_cases hb : b = 0
    · simp only [hb, if_true]
      unfold firstI firstI
      by_cases hc : c = 0 <;> simp [hc]
    · simp only [hb, if_false]
  · simp only [ha, if_false]
theorem firstI_4 (a b c d : Int) : firstI [a, b, c, d] = if firstI [a, b] = 0 then firstI [c, d] else firstI [a, b] := by
  by_cases ha : a = 0 <;> by_cases hb : b = 0 <;> by_cases hc : c = 0 <;> by_cases hd : d = 0 <;> simp [firstI, ha, hb, hc, hd]
theorem chM_eq : ∀ l : List Int, chM l = firstI (rgs l 0 6)
  | [] => rfl
  | x :: r => by
    unfold chM rgs firstI
    have := chM_eq r
    unfold rgs at this
    split <;> simp_all [rgs]
theorem F169_g {l : List Int} (hl : l.length ≤ 1025) : F169 l.length (l.map vI) = some (ckM l) := by
  unfold F169 ckM; rw [res_eq]
  simp only [B169, F109_eq, F126_eq l 0 6 hl, F107_3, sem_bind_some, sem_sees, sem_ret, stepO_ret, firstI_3, chM_eq]
def othE (l m : List Int) : Int := firstI [whenI ((m.length : Int) != (l.length : Int)) 2, ckM m]
def endE (n : Int) (l m : List Int) : Int := if firstI [rangeI n 0 1000000, ckM l] ≠ 0 then firstI [rangeI n 0 1000000, ckM l] else if m.length = 0 then 0 else othE l m
theorem zerosA_len (zs : List AV) : ∀ n : Nat, (zerosA zs n).length = n * zs.length
  | 0 => by simp [zerosA]
  | n + 1 => by
    unfold zerosA
    rw [List.length_append, zerosA_len zs n, Nat.succ_mul, Nat.add_comm]
theorem spl_all {zs xs : List AV} (h : zs.length = xs.length) : spliceA zs 0 xs = xs := by
  unfold spliceA
  simp [List.drop_eq_nil_of_le (show zs.length ≤ xs.length by omega)]
theorem toDs_d : ∀ l : List DV, toDs (l.map AV.d) = some l
  | [] => rfl
  | x :: xs => by
    rw [List.map_cons]; unfold toDs; rw [toDs_d xs]; rfl
theorem aD_d (l : List DV) : List.map aD (l.map AV.d) = l := by
  rw [List.map_map]
  conv => rhs; rw [← List.map_id l]
  rfl
theorem F33_eq {l : List Int} (h : l.length ≤ 1025) : F33 l.length (l.map vI) = some (l.length, l.map vI) := by
  unfold F33; rw [res_eq]
  by_cases h0 : l.length = 0
  · obtain rfl : l = [] := List.eq_nil_of_length_eq_zero h0
    simp [B33, sem_br, sem_ask, sem_ret, PC.holds, need_true, stepO_ret]
  · have hf : fitsN l.length 8 := ⟨by omega, by omega⟩
    have h1 : l.length.beq 0 = false := by
      cases hn : l.length with
      | zero => exact absurd hn h0
      | succ n => rfl
    simp only [B33, sem_br, sem_ask, sem_ret, PC.holds, need_true, stepO_ret, h1, Bool.false_eq_true, if_false, Nat.pos_of_ne_zero h0, List.length_map, Nat.mul_one, hf]
theorem F65_loop (l : List Int) (hl : l.length ≤ 1025) : ∀ (k i : Nat), l.length = i + k → res B65 (.c1 l.length (l.map vI) l.length (l.map vI) (i : Int)) = some true
  | 0, i, hk => by
    have : ¬ ((i : Int) < (l.length : Int)) := by omega
    rw [res_eq]
    simp only [B65, sem_br, sem_ret, this, decide_false, Bool.false_eq_true, if_false, stepO_ret]
  | k + 1, i, hk => by
    have hi : i < l.length := by omega
    have h1 : (i : Int) < (l.length : Int) := by omega
    have ih := F65_loop l hl k (i + 1) (by omega)
    have hin : inI64 ((i : Int) + 1) := by unfold inI64; omega
    rw [res_eq]
    simp only [B65, sem_br, sem_ask, sem_ret, sem_nxt, PC.holds, need_true, Int.toNat_natCast, Nat.mul_one, dI_cel_map, at_map hi, h1, hin, decide_true, if_true, Int.natCast_nonneg, List.length_map, Nat.le_of_lt hi, bne_self_eq_false, Bool.false_eq_true, if_false, stepO_nxt]
    rw [← ih]; rfl
theorem F65_eq (l : List Int) (hl : l.length ≤ 1025) : F65 l.length (l.map vI) l.length (l.map vI) = some true := by
  unfold F65; rw [res_eq]
  simp only [B65, sem_br, sem_nxt, bne_self_eq_false, Bool.false_eq_true, if_false, stepO_nxt]
  exact F65_loop l hl l.length 0 (by omega)
theorem F65_nil : F65 0 [] 0 [] = some true := F65_eq [] (by simp)
theorem F15_eq : F15 = some true := rfl
theorem first_pos {a : Int} (h : a ≠ 0) (l : List Int) : firstI (a :: l) = a := by
  unfold firstI; rw [if_neg h]
theorem first_z (l : List Int) : firstI (0 :: l) = firstI l := by
  conv => lhs; unfold firstI
  rw [if_pos rfl]
theorem rangeI_0 {n : Int} (h : rangeI n 0 1000000 = 0) : 0 ≤ n ∧ n ≤ 1000000 := rangeI_zero.1 h
theorem endE_n {n : Int} {l m : List Int} (h : endE n l m = 0) : 0 ≤ n ∧ n ≤ 1000000 := by
  unfold endE at h
  by_cases h1 : firstI [rangeI n 0 1000000, ckM l] = 0
  · by_cases h2 : rangeI n 0 1000000 = 0
    · exact rangeI_0 h2
    · rw [first_pos h2] at h1; exact absurd h1 h2
  · rw [if_pos h1] at h; exact absurd h h1
theorem wrap_n {n : Int} (h : 0 ≤ n ∧ n ≤ 1000000) : IntKind.i64.wrap (n + 1) = n + 1 := by
  simp [IntKind.wrap, IntKind.signed, IntKind.bits]; omega
end Go.Kv
