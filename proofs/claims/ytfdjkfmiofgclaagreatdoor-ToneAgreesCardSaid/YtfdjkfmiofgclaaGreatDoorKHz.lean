import Derived.Test.YtfdjkfmiofgclaaGreatDoorGA11
import Derived.Test.YtfdjkfmiofgclaaGreatDoorKL
namespace Go.Kv
set_option linter.all false
open Go Go.RowKit Go.Proofs
set_option maxRecDepth 100000
section
open Go Go.RowKit
def firstI : List Int → Int
 | [] => 0
 | x :: xs => if x = 0 then firstI xs else x
def whenI (b : Bool) (e : Int) : Int := if b then e else 0
def rangeI (n a b : Int) : Int := if n < a ∨ n > b then 3 else 0
theorem whenT (e : Int) : whenI true e = e := rfl
theorem whenF (e : Int) : whenI false e = 0 := rfl
theorem dI_cel_map (l : List Int) (i : Nat) : dI (cel (l.map vI) i) = l.getD i 0 := by
 unfold cel
 simp only [List.getD_eq_getElem?_getD, List.getElem?_map]
 cases l[i]? <;> rfl
theorem at_map {l : List Int} {i : Nat} (h : i < l.length) : Option.map AV.d (List.drop i (l.map vI))[0]? = some (AV.d (vI (l.getD i 0))) := by
 simp [List.getElem?_drop, h, List.getD_eq_getElem?_getD]
theorem dropD {α : Type} {l : List α} {i : Nat} (d : α) (h : i < l.length) : l.drop i = l.getD i d :: l.drop (i + 1) := by
 rw [List.drop_eq_getElem_cons h]; simp [List.getD_eq_getElem?_getD, h]
theorem firstI_drop {l : List Int} {i : Nat} (h : i < l.length) : firstI (l.drop i) = if l.getD i 0 = 0 then firstI (l.drop (i + 1)) else l.getD i 0 := by
 rw [dropD 0 h]; rfl
theorem F107_loop (l : List Int) (hl : l.length ≤ 9223372036854775807) : ∀ (k i : Nat), l.length = i + k → res B107 (.c1 l.length (l.map vI) (l.length : Int) (i : Int)) = some (firstI (l.drop i))
 | 0, i, hk => by
  rw [List.drop_eq_nil_of_le (by omega), res_eq]
  have : ¬ ((i : Int) < (l.length : Int)) := by omega
  simp [B107, sem_br, sem_ret, this, stepO_ret, stepO_nxt, firstI]
 | k + 1, i, hk => by
  have hi : i < l.length := by omega
  have h1 : (i : Int) < (l.length : Int) := by omega
  have ih := F107_loop l hl k (i + 1) (by omega)
  have hin : inI64 ((i : Int) + 1) := by unfold inI64; omega
  rw [firstI_drop hi, res_eq]
  simp only [B107, sem_br, sem_ask, sem_ret, sem_nxt, PC.holds, need_true, Int.toNat_natCast, Nat.mul_one, dI_cel_map, at_map hi, h1, hin, decide_true, if_true, Int.natCast_nonneg, List.length_map, Nat.le_of_lt hi]
  by_cases h0 : l.getD i 0 = 0
  ·simp only [h0, bne_self_eq_false, if_true, Bool.false_eq_true, if_false, stepO_ret, stepO_nxt]
   rw [← ih]; rfl
  ·simp only [h0, if_false, bne_iff_ne, ne_eq, not_false_eq_true, if_true, stepO_ret, stepO_nxt]
theorem F107_eq (l : List Int) (hl : l.length ≤ 9223372036854775807) : F107 l.length (l.map vI) = some (firstI l) := by
 unfold F107
 rw [res_eq]
 simp only [B107, sem_nxt, stepO_nxt]
 exact F107_loop l hl l.length 0 (by omega)
theorem F107_2 (a b : Int) : F107 2 [vI a, vI b] = some (firstI [a, b]) := F107_eq [a, b] (by simp)
theorem F107_3 (a b c : Int) : F107 3 [vI a, vI b, vI c] = some (firstI [a, b, c]) := F107_eq [a, b, c] (by simp)
theorem F107_4 (a b c d : Int) : F107 4 [vI a, vI b, vI c, vI d] = some (firstI [a, b, c, d]) := F107_eq [a, b, c, d] (by simp)
theorem F20_loop (l : List Int) (hl : l.length ≤ 9223372036854775807) : ∀ (k i : Nat), l.length = i + k → res B20 (.c1 l.length (l.map vI) (i : Int)) = some (firstI (l.drop i))
 | 0, i, hk => by
  rw [List.drop_eq_nil_of_le (by omega), res_eq]
  have : ¬ ((i : Int) < (l.length : Int)) := by omega
  simp [B20, sem_br, sem_ret, this, stepO_ret, stepO_nxt, firstI]
 | k + 1, i, hk => by
  have hi : i < l.length := by omega
  have h1 : (i : Int) < (l.length : Int) := by omega
  have ih := F20_loop l hl k (i + 1) (by omega)
  have hin : inI64 ((i : Int) + 1) := by unfold inI64; omega
  rw [firstI_drop hi, res_eq]
  simp only [B20, sem_br, sem_ask, sem_ret, sem_nxt, PC.holds, need_true, Int.toNat_natCast, Nat.mul_one, dI_cel_map, at_map hi, h1, hin, decide_true, if_true, Int.natCast_nonneg, List.length_map, Nat.le_of_lt hi]
  by_cases h0 : l.getD i 0 = 0
  ·simp only [h0, bne_self_eq_false, if_true, Bool.false_eq_true, if_false, stepO_ret, stepO_nxt]
   rw [← ih]; rfl
  ·simp only [h0, if_false, bne_iff_ne, ne_eq, not_false_eq_true, if_true, stepO_ret, stepO_nxt]
theorem F20_2 (a b : Int) : F20 2 [vI a, vI b] = some (firstI [a, b]) := by
 unfold F20
 rw [res_eq]
 simp only [B20, sem_nxt, stepO_nxt]
 exact F20_loop [a, b] (by simp) 2 0 (by simp)
theorem F109_eq (b : Bool) (e : Int) : F109 b e = some (whenI b e) := by
 unfold F109; rw [res_eq]; cases b <;> simp [B109, sem_br, sem_ret, stepO_ret, whenI]
theorem F37_eq (b : Bool) (e : Int) : F37 b e = some (whenI b e) := by
 unfold F37; rw [res_eq]; cases b <;> simp [B37, sem_br, sem_ret, stepO_ret, whenI]
theorem whenI_or (n a b e : Int) : whenI (if decide (n < a) = true then true else decide (n > b)) e = if n < a ∨ n > b then e else 0 := by
 unfold whenI
 by_cases h1 : n < a <;> by_cases h2 : n > b <;> simp [h1, h2]
theorem F106_eq (n a b : Int) : F106 n a b = some (rangeI n a b) := by
 unfold F106; rw [res_eq]
 simp only [B106, F109_eq, whenI_or, sem_bind_some, sem_sees, sem_triv, sem_ask, sem_ret, PC.holds, stepO_ret, rangeI]
theorem F39_eq (n a b : Int) : F39 n a b = some (rangeI n a b) := by
 unfold F39; rw [res_eq]
 simp only [B39, F37_eq, whenI_or, sem_bind_some, sem_sees, sem_triv, sem_ask, sem_ret, PC.holds, stepO_ret, rangeI]
theorem rangeI_zero {n a b : Int} : rangeI n a b = 0 ↔ a ≤ n ∧ n ≤ b := by
 unfold rangeI; split <;> omega
def chM : List Int → Int
 | [] => 0
 | x :: xs => if rangeI x 0 6 = 0 then chM xs else rangeI x 0 6
def ckM (l : List Int) : Int := if firstI [whenI ((l.length : Int) == 0) 12, whenI (decide ((l.length : Int) > 8)) 5] = 0 then chM l else firstI [whenI ((l.length : Int) == 0) 12, whenI (decide ((l.length : Int) > 8)) 5]
theorem F71_loop (l : List Int) (hl : l.length ≤ 9223372036854775807) : ∀ (k i : Nat), l.length = i + k → res B71 (.c1 l.length (l.map vI) (i : Int)) = some (chM (l.drop i))
 | 0, i, hk => by
  rw [List.drop_eq_nil_of_le (by omega), res_eq]
  have : ¬ ((i : Int) < (l.length : Int)) := by omega
  simp [B71, sem_br, sem_ret, this, stepO_ret, stepO_nxt, chM]
 | k + 1, i, hk => by
  have hi : i < l.length := by omega
  have h1 : (i : Int) < (l.length : Int) := by omega
  have ih := F71_loop l hl k (i + 1) (by omega)
  have hin : inI64 ((i : Int) + 1) := by unfold inI64; omega
  rw [dropD 0 hi, res_eq]
  simp only [B71, F39_eq, sem_br, sem_ask, sem_ret, sem_nxt, sem_bind_some, sem_sees, sem_triv, PC.holds, need_true, Int.toNat_natCast, Nat.mul_one, dI_cel_map, at_map hi, h1, hin, decide_true, if_true, Int.natCast_nonneg, List.length_map, Nat.le_of_lt hi]
  unfold chM
  by_cases h0 : rangeI (l.getD i 0) 0 6 = 0
  ·simp only [h0, bne_self_eq_false, if_true, Bool.false_eq_true, if_false, stepO_ret, stepO_nxt]
   rw [← ih]; rfl
  ·simp only [h0, if_false, bne_iff_ne, ne_eq, not_false_eq_true, if_true, stepO_ret, stepO_nxt]
theorem F71_eq (l : List Int) (hl : l.length ≤ 9223372036854775807) : F71 l.length (l.map vI) = some (ckM l) := by
 unfold F71 ckM
 rw [res_eq]
 simp only [B71, F37_eq, F20_2, sem_br, sem_bind_some, sem_sees, sem_triv, sem_ret, sem_nxt]
 by_cases h0 : firstI [whenI ((l.length : Int) == 0) 12, whenI (decide ((l.length : Int) > 8)) 5] = 0
 ·simp only [h0, bne_self_eq_false, Bool.false_eq_true, if_false, if_true, stepO_nxt]
  exact F71_loop l hl l.length 0 (by omega)
 ·simp only [h0, if_false, bne_iff_ne, ne_eq, not_false_eq_true, if_true, stepO_ret]
end
section
open Go Go.RowKit
theorem takeS {α β : Type} {l : List α} {i : Nat} (d : α) (hi : i < l.length) (f : α → β) : (l.take (i + 1)).map f = (l.take i).map f ++ [f (l.getD i d)] := by
 rw [List.take_succ_eq_append_getElem hi, List.map_append]
 simp [List.getD_eq_getElem?_getD, hi]
def rgs (l : List Int) (a b : Int) : List Int := l.map fun x => rangeI x a b
theorem F172_eq (n a b : Int) : F172 n [vI a] [vI b] = some (rangeI n a b) := by
 unfold F172; rw [res_eq]
 have e1 : dI (cel [vI a] 0) = a := rfl
 have e2 : dI (cel [vI b] 0) = b := rfl
 simp [B172, e1, e2, F106_eq, sem_bind_some, sem_sees, sem_ask, sem_ret, PC.holds, need_true, stepO_ret]
theorem F126_loop (l : List Int) (a b : Int) (hl : l.length ≤ 1025) : ∀ (k i e : Nat), l.length = i + k → 0 < i →
  res B126 (.c2 e i ((rgs (l.take i) a b).map vI) l.length (l.map vI) (l.length : Int) (i : Int) a b e) = some (firstI (rgs l a b))
 | 0, i, e, hk, h0 => by
  have hn : ¬ ((i : Int) < (l.length : Int)) := by omega
  rw [res_eq, List.take_of_length_le (by omega)]
  have := F107_eq (rgs l a b) (by unfold rgs; rw [List.length_map]; omega)
  rw [show (rgs l a b).length = i by unfold rgs; rw [List.length_map]; omega] at this
  simp only [B126, sem_br, sem_ask, sem_ret, sem_bind_some, sem_sees, PC.holds, need_true, hn, this, decide_false, Bool.false_eq_true, if_false, stepO_ret]
 | k + 1, i, e, hk, h0 => by
  have hi : i < l.length := by omega
  have h1 : (i : Int) < (l.length : Int) := by omega
  have ih := F126_loop l a b hl k (i + 1) (e + 1) (by omega) (by omega)
  have hin : inI64 ((i : Int) + 1) := by unfold inI64; omega
  have hf : fitsN (i + 1) 8 := ⟨by omega, by omega⟩
  have tk : (rgs (l.take (i + 1)) a b).map vI = (rgs (l.take i) a b).map vI ++ [vI (rangeI (l.getD i 0) a b)] := by
   unfold rgs
   rw [List.map_map, List.map_map, takeS 0 hi]; rfl
  rw [res_eq]
  simp only [B126, sem_br, sem_ask, sem_ret, sem_nxt, sem_bind_some, sem_sees, PC.holds, need_true, Int.toNat_natCast, Nat.mul_one, dI_cel_map, at_map hi, h1, hin, decide_true, if_true, Int.natCast_nonneg, List.length_map, Nat.le_of_lt hi, F172_eq, hf, stepO_nxt]
  rw [← ih, tk]; rfl
theorem F126_eq (l : List Int) (a b : Int) (hl : l.length ≤ 1025) : F126 l.length (l.map vI) a b = some (firstI (rgs l a b)) := by
 unfold F126; rw [res_eq]
 simp only [B126, sem_nxt, stepO_nxt]
 rw [res_eq]
 by_cases h0 : l.length = 0
 ·obtain rfl : l = [] := List.eq_nil_of_length_eq_zero h0
  have := F107_eq [] (by simp)
  simp only [List.length_nil, List.map_nil] at this
  simp [B126, sem_br, sem_ret, sem_bind_some, sem_sees, this, stepO_ret, rgs, firstI]
 ·have hi : 0 < l.length := by omega
  have h1 : (0 : Int) < (l.length : Int) := by omega
  have ih := F126_loop l a b hl (l.length - 1) 1 0 (by omega) (by omega)
  have hin : inI64 ((0 : Int) + 1) := by unfold inI64; omega
  have a0 := at_map hi
  have tk : (rgs (l.take 1) a b).map vI = [vI (rangeI (l.getD 0 0) a b)] := by
   cases l with
   | nil => simp at hi
   | cons x r => simp [rgs]
  simp only [B126, sem_br, sem_ask, sem_ret, sem_nxt, sem_bind_some, sem_sees, PC.holds, need_true, Int.toNat_zero, Nat.zero_mul, dI_cel_map, a0, h1, hin, decide_true, if_true, Int.le_refl, Nat.zero_le, F172_eq, stepO_nxt]
  rw [← ih, tk]; rfl
theorem firstI_3 (a b c : Int) : firstI [a, b, c] = if firstI [a, b] = 0 then c else firstI [a, b] := by
 unfold firstI
 by_cases ha : a = 0
 ·simp only [ha, if_true]
  unfold firstI
  by_cases hb : b = 0
  ·simp only [hb, if_true]
   unfold firstI firstI
   by_cases hc : c = 0 <;> simp [hc]
  ·simp only [hb, if_false]
 ·simp only [ha, if_false]
theorem chM_eq : ∀ l : List Int, chM l = firstI (rgs l 0 6)
 | [] => rfl
 | x :: r => by
  unfold chM rgs firstI
  have := chM_eq r
  unfold rgs at this
  split <;> simp_all [rgs]
theorem F169_g {l : List Int} (hl : l.length ≤ 1025) : F169 l.length (l.map vI) = some (ckM l) := by
 unfold F169 ckM; rw [res_eq]
 simp only [B169, F109_eq, F126_eq l 0 6 hl, F107_3, sem_bind_some, sem_sees, sem_ret, stepO_ret, firstI_3, chM_eq]
def othE (l m : List Int) : Int := firstI [whenI ((m.length : Int) != (l.length : Int)) 2, ckM m]
def endE (n : Int) (l m : List Int) : Int := if firstI [rangeI n 0 1000000, ckM l] ≠ 0 then firstI [rangeI n 0 1000000, ckM l] else if m.length = 0 then 0 else othE l m
theorem F127_g {l m : List Int} (hm : m.length ≤ 1025) : F127 l.length (l.map vI) m.length (m.map vI) = some (othE l m) := by
 unfold F127 othE; rw [res_eq]
 simp only [B127, F109_eq, F169_g hm, F107_2, sem_bind_some, sem_sees, sem_ret, stepO_ret]
theorem F131_g {n : Int} {l m : List Int} (hl : l.length ≤ 1025) (hm : m.length ≤ 1025) : F131 n l.length (l.map vI) m.length (m.map vI) = some (endE n l m) := by
 unfold F131 endE; rw [res_eq]
 simp only [B131, F106_eq, F169_g hl, F107_2, F127_g hm, sem_bind_some, sem_sees, sem_triv, sem_br, sem_ret]
 by_cases h1 : firstI [rangeI n 0 1000000, ckM l] = 0
 ·have b1 : (firstI [rangeI n 0 1000000, ckM l] != 0) = false := by rw [h1]; rfl
  simp only [h1, bne_self_eq_false, Bool.false_eq_true, if_false, ne_eq, not_true_eq_false]
  by_cases h2 : m.length = 0
  ·have b2 : ((m.length : Int) == 0) = true := by rw [h2]; rfl
   simp only [h2, b2, if_true, stepO_ret, Int.natCast_zero, Int.cast_ofNat_Int, beq_self_eq_true]
  ·have b2 : ((m.length : Int) == 0) = false := by simp; exact fun h => h2 (by rw [h]; rfl)
   simp only [h2, b2, Bool.false_eq_true, if_false, stepO_ret]
 ·have b1 : (firstI [rangeI n 0 1000000, ckM l] != 0) = true := bne_iff_ne.2 h1
  simp only [h1, b1, if_true, ne_eq, not_false_eq_true, stepO_ret]
end
section
open Go Go.RowKit
theorem zerosA_len (zs : List AV) : ∀ n : Nat, (zerosA zs n).length = n * zs.length
 | 0 => by simp [zerosA]
 | n + 1 => by
  unfold zerosA
  rw [List.length_append, zerosA_len zs n, Nat.succ_mul, Nat.add_comm]
theorem spl_all {zs xs : List AV} (h : zs.length = xs.length) : spliceA zs 0 xs = xs := by
 unfold spliceA
 simp [List.drop_eq_nil_of_le (show zs.length ≤ xs.length by omega)]
theorem toDs_d : ∀ l : List DV, toDs (l.map AV.d) = some l
 | [] => rfl
 | x :: xs => by
  rw [List.map_cons]; unfold toDs; rw [toDs_d xs]; rfl
theorem aD_d (l : List DV) : List.map aD (l.map AV.d) = l := by
 rw [List.map_map]
 conv => rhs; rw [← List.map_id l]
 rfl
theorem F129_eq {xs : List DV} (h : xs.length ≤ 1000) : F129 xs.length xs = some (xs.length, xs) := by
 have e1 : min xs.length xs.length * 1 = xs.length := by omega
 have hz : (zerosA (List.map (fun (x : Value) => AV.d (DV.v x)) (Value.int IntKind.i64 0).cells.toList) xs.length).length = (xs.map AV.d).length := by
  rw [zerosA_len, List.length_map, List.length_map]
  exact Nat.mul_one _
 have hz' : (zerosA (List.map (fun (x : Value) => AV.d (DV.v x)) (Value.int IntKind.i64 0).cells.toList) xs.length).length = xs.length := by rw [hz, List.length_map]
 unfold F129; rw [res_eq]
 simp only [B129, Int.toNat_natCast, Nat.min_self, Nat.mul_one, List.take_length, spl_all hz, List.drop_zero, sem_ask, sem_ret, PC.holds, hz', List.length_map]
 rw [show List.take xs.length (List.map AV.d xs) = xs.map AV.d from List.take_of_length_le (by simp)]
 simp only [toDs_d, aD_d, Nat.zero_add, Nat.le_refl, need_true, Int.le_refl, Int.natCast_nonneg]
 rw [need_of (by omega), need_of (by omega)]
 rfl
theorem F129_m {l : List Int} (h : l.length ≤ 1000) : F129 l.length (l.map vI) = some (l.length, l.map vI) := by
 have := F129_eq (xs := l.map vI) (by rw [List.length_map]; exact h)
 rw [List.length_map] at this
 exact this
theorem F33_eq {l : List Int} (h : l.length ≤ 1025) : F33 l.length (l.map vI) = some (l.length, l.map vI) := by
 unfold F33; rw [res_eq]
 by_cases h0 : l.length = 0
 ·obtain rfl : l = [] := List.eq_nil_of_length_eq_zero h0
  simp [B33, sem_br, sem_ask, sem_ret, PC.holds, need_true, stepO_ret]
 ·have hf : fitsN l.length 8 := ⟨by omega, by omega⟩
  have h1 : l.length.beq 0 = false := by
   cases hn : l.length with
   | zero => exact absurd hn h0
   | succ n => rfl
  simp only [B33, sem_br, sem_ask, sem_ret, PC.holds, need_true, stepO_ret, h1, Bool.false_eq_true, if_false, Nat.pos_of_ne_zero h0, List.length_map, Nat.mul_one, hf]
theorem F65_loop (l : List Int) (hl : l.length ≤ 1025) : ∀ (k i : Nat), l.length = i + k → res B65 (.c1 l.length (l.map vI) l.length (l.map vI) (i : Int)) = some true
 | 0, i, hk => by
  have : ¬ ((i : Int) < (l.length : Int)) := by omega
  rw [res_eq]
  simp only [B65, sem_br, sem_ret, this, decide_false, Bool.false_eq_true, if_false, stepO_ret]
 | k + 1, i, hk => by
  have hi : i < l.length := by omega
  have h1 : (i : Int) < (l.length : Int) := by omega
  have ih := F65_loop l hl k (i + 1) (by omega)
  have hin : inI64 ((i : Int) + 1) := by unfold inI64; omega
  rw [res_eq]
  simp only [B65, sem_br, sem_ask, sem_ret, sem_nxt, PC.holds, need_true, Int.toNat_natCast, Nat.mul_one, dI_cel_map, at_map hi, h1, hin, decide_true, if_true, Int.natCast_nonneg, List.length_map, Nat.le_of_lt hi, bne_self_eq_false, Bool.false_eq_true, if_false, stepO_nxt]
  rw [← ih]; rfl
theorem F65_eq (l : List Int) (hl : l.length ≤ 1025) : F65 l.length (l.map vI) l.length (l.map vI) = some true := by
 unfold F65; rw [res_eq]
 simp only [B65, sem_br, sem_nxt, bne_self_eq_false, Bool.false_eq_true, if_false, stepO_nxt]
 exact F65_loop l hl l.length 0 (by omega)
theorem first_pos {a : Int} (h : a ≠ 0) (l : List Int) : firstI (a :: l) = a := by
 unfold firstI; rw [if_neg h]
theorem first_z (l : List Int) : firstI (0 :: l) = firstI l := by
 conv => lhs; unfold firstI
 rw [if_pos rfl]
theorem wrap_n {n : Int} (h : 0 ≤ n ∧ n ≤ 1000000) : IntKind.i64.wrap (n + 1) = n + 1 := by
 simp [IntKind.wrap, IntKind.signed, IntKind.bits]; omega
end
section
open Go Go.RowKit
abbrev RS := Int × Nat × List DV × Nat × List DV × Int
def zS (e : Int) : RS := (0, 0, [], 0, [], e)
def rS (n : Int) (l m : List Int) : RS := (n, l.length, l.map vI, m.length, m.map vI, 0)
theorem F55_g {n : Int} {l m : List Int} (hl : l.length ≤ 1025) (hm : m.length ≤ 1025) : F55 n l.length (l.map vI) m.length (m.map vI) = some (endE n l m) := by
 unfold F55; rw [res_eq]
 simp only [B55, F131_g hl hm, sem_bind_some, sem_sees, sem_ret, stepO_ret]
theorem F128_g {n : Int} {l m : List Int} (hl : l.length ≤ 1000) (hm : m.length ≤ 1000) : F128 n l.length (l.map vI) m.length (m.map vI) = some (n, l.length, l.map vI, m.length, m.map vI) := by
 unfold F128; rw [res_eq]
 simp only [B128, F129_m hl, F129_m hm, sem_bind_some, sem_sees, sem_triv, sem_ask, sem_ret, PC.holds, need_true, stepO_ret]
theorem F30_eq (l : List Int) : F30 l.length (l.map vI) = some (decide ((l.length : Int) ≤ 9)) := by
 unfold F30; rw [res_eq]; simp only [B30, sem_ret, stepO_ret]
end
section
open Go Go.RowKit
theorem eq_drop {l m : List Int} (h : l.length = m.length) {i : Nat} (hi : i < l.length) : decide (l.drop i = m.drop i) = if l.getD i 0 = m.getD i 0 then decide (l.drop (i + 1) = m.drop (i + 1)) else false := by
 rw [dropD 0 hi, dropD (l := m) 0 (by omega)]
 by_cases hx : l.getD i 0 = m.getD i 0
 ·rw [if_pos hx, hx]; simp
 ·rw [if_neg hx]; exact decide_eq_false (fun hh => hx (List.cons.inj hh).1)
theorem F133_lp {l m : List Int} (hl : l.length ≤ 1025) (h : l.length = m.length) : ∀ (k i : Nat), l.length = i + k → res B133 (.c1 l.length (l.map vI) m.length (m.map vI) (l.length : Int) (i : Int)) = some (decide (l.drop i = m.drop i))
 | 0, i, hk => by
  have : ¬ ((i : Int) < (l.length : Int)) := by omega
  rw [List.drop_of_length_le (by omega), List.drop_of_length_le (by omega), res_eq]
  simp only [B133, sem_br, sem_ret, this, decide_false, decide_true, Bool.false_eq_true, if_false, stepO_ret]
 | k + 1, i, hk => by
  have hi : i < l.length := by omega
  have hj : i < m.length := by omega
  have h1 : (i : Int) < (l.length : Int) := by omega
  have h2 : (i : Int) < (m.length : Int) := by omega
  have ih := F133_lp hl h k (i + 1) (by omega)
  have hin : inI64 ((i : Int) + 1) := by unfold inI64; omega
  rw [eq_drop h hi, res_eq]
  simp only [B133, sem_br, sem_ask, sem_ret, sem_nxt, PC.holds, need_true, Int.toNat_natCast, Nat.mul_one, dI_cel_map, at_map hi, at_map hj, h1, h2, hin, decide_true, if_true, Int.natCast_nonneg, List.length_map, Nat.le_of_lt hi, Nat.le_of_lt hj]
  by_cases hx : l.getD i 0 = m.getD i 0
  ·simp only [hx, bne_self_eq_false, Bool.false_eq_true, if_false, if_true, stepO_nxt]
   rw [← ih]; rfl
  ·simp only [bne_iff_ne.2 hx, hx, if_true, if_false, stepO_ret]
theorem F133_g {l m : List Int} (hl : l.length ≤ 1025) : F133 l.length (l.map vI) m.length (m.map vI) = some (decide (l = m)) := by
 unfold F133; rw [res_eq]
 by_cases h : l.length = m.length
 ·have hb : ((l.length : Int) != (m.length : Int)) = false := by rw [h]; simp
  simp only [B133, sem_br, sem_nxt, hb, Bool.false_eq_true, if_false, stepO_nxt]
  exact F133_lp hl h l.length 0 (by omega)
 ·have hb : ((l.length : Int) != (m.length : Int)) = true := bne_iff_ne.2 (by omega)
  have : ¬ l = m := fun e => h (by rw [e])
  simp only [B133, sem_br, sem_ret, hb, if_true, this, decide_false, stepO_ret]
abbrev RR := Int × Nat × List DV × Nat × List DV × Int × Int
abbrev RT := Int × Nat × List DV × Nat × List DV × Nat × List DV × Int
def zR (e : Int) : RR := (0, 0, [], 0, [], 0, e)
def rR (n : Int) (l m : List Int) (a : Int) : RR := (n, l.length, l.map vI, m.length, m.map vI, a, 0)
def zT (e : Int) : RT := (0, 0, [], 0, [], 0, [], e)
def rT (n : Int) (l m b : List Int) : RT := (n, l.length, l.map vI, m.length, m.map vI, b.length, b.map vI, 0)
theorem F63_g {n : Int} {l m : List Int} (hl : l.length ≤ 1025) (hm : m.length ≤ 1025) : F63 n l.length (l.map vI) m.length (m.map vI) = some (endE n l m) := by
 unfold F63; rw [res_eq]
 simp only [B63, F131_g hl hm, sem_bind_some, sem_sees, sem_ret, stepO_ret]
theorem F132_g {n : Int} {l m : List Int} (hl : l.length ≤ 1000) (hm : m.length ≤ 1000) : F132 n l.length (l.map vI) m.length (m.map vI) = some (n, l.length, l.map vI, m.length, m.map vI) := by
 unfold F132; rw [res_eq]
 simp only [B132, F129_m hl, F129_m hm, sem_bind_some, sem_sees, sem_triv, sem_ask, sem_ret, PC.holds, need_true, stepO_ret]
theorem first_0l {a : Int} {r : List Int} (h : firstI (a :: r) = 0) : a = 0 := by
 by_cases h0 : a = 0
 ·exact h0
 ·rw [first_pos h0] at h; exact absurd h h0
end
section
open Go Go.RowKit
end
section
open Go Go.RowKit
structure Vl (k : Nat) (l : List Int) : Prop where
 n : l.length = k
 c : ckM l = 0
 k : 0 < k ∧ k ≤ 8
def Vn (k : Nat) (m : List Int) : Prop := m = [] ∨ Vl k m
theorem Vl.le {k : Nat} {l : List Int} (h : Vl k l) : l.length ≤ 8 := by have := h.n; have := h.k; omega
theorem Vl.ne {k : Nat} {l : List Int} (h : Vl k l) : l.length ≠ 0 := by have := h.n; have := h.k; omega
theorem Vn.le {k : Nat} {m : List Int} (h : Vn k m) : m.length ≤ 8 := by
 rcases h with rfl | h
 ·simp
 ·exact h.le
theorem oth_0 {k : Nat} {l m : List Int} (hl : Vl k l) (hm : Vl k m) : othE l m = 0 := by
 unfold othE
 rw [hl.n, hm.n, hm.c, bne_self_eq_false, whenF]; rfl
theorem end_0 {k : Nat} {n : Int} {l m : List Int} (hn : 0 ≤ n ∧ n ≤ 1000000) (hl : Vl k l) (hm : Vn k m) : endE n l m = 0 := by
 unfold endE
 have h1 : firstI [rangeI n 0 1000000, ckM l] = 0 := by rw [hl.c, rangeI_zero.2 hn]; rfl
 rw [h1, if_neg (by simp)]
 rcases hm with rfl | hm
 ·rfl
 ·rw [if_neg hm.ne]; exact oth_0 hl hm
section
variable {k : Nat} {n a : Int} {l m b : List Int}
theorem F47_v (hn : 0 ≤ n ∧ n < 1000000) (hl : Vl k l) (hm : Vn k m) (hb : Vl k b) : F47 n l.length (l.map vI) m.length (m.map vI) b.length (b.map vI) = some (if m.length = 0 then rS n l b else zS 31) := by
 have h1 := hl.le; have h2 := hm.le; have h3 := hb.le
 have he := end_0 (n := n) ⟨hn.1, by omega⟩ hl hm
 have ho := oth_0 hl hb
 have hq : (n == 1000000) = false := by rw [beq_eq_false_iff_ne]; omega
 unfold F47; rw [res_eq]
 simp only [B47, F55_g (show l.length ≤ 1025 by omega) (show m.length ≤ 1025 by omega), F127_g (show b.length ≤ 1025 by omega), F109_eq, F107_4, F128_g (show l.length ≤ 1000 by omega) (show m.length ≤ 1000 by omega), F129_m (show b.length ≤ 1000 by omega), sem_bind_some, sem_sees, sem_br, sem_ret, he, ho, hq, whenF]
 by_cases h : m.length = 0
 ·have d : decide ((m.length : Int) > 0) = false := decide_eq_false (by omega)
  rw [d, whenF, if_pos h]; rfl
 ·have d : decide ((m.length : Int) > 0) = true := decide_eq_true (by omega)
  rw [d, whenT, if_neg h]; rfl
theorem F49_v (hn : 0 ≤ n ∧ n < 1000000) (hl : Vl k l) (hm : Vn k m) (ha : 0 ≤ a ∧ a ≤ 1000000) : F49 n l.length (l.map vI) m.length (m.map vI) a = some (if a = n + 1 then (if m.length = 0 then zS 7 else rS a m []) else if a > n + 1 then zS 24 else rS n l m) := by
 have h1 := hl.le; have h2 := hm.le
 have he := end_0 (n := n) ⟨hn.1, by omega⟩ hl hm
 have ha := rangeI_zero.2 ha
 have f1 := F55_g (n := n) (show l.length ≤ 1025 by omega) (show m.length ≤ 1025 by omega)
 have f2 := F128_g (n := n) (show l.length ≤ 1000 by omega) (show m.length ≤ 1000 by omega)
 have f3 := F129_m (show m.length ≤ 1000 by omega)
 have hw := wrap_n (n := n) ⟨hn.1, by omega⟩
 by_cases c1 : a = n + 1
 ·have b1 : (a == n + 1) = true := by simpa using c1
  have b2 : ¬ (a > n + 1) := by omega
  rw [if_pos c1]
  by_cases c2 : m.length = 0
  ·have d2 : ((m.length : Int) == 0) = true := by rw [c2]; rfl
   rw [if_pos c2]
   unfold F49; rw [res_eq]
   simp only [B49, f1, f2, f3, he, ha, hw, F106_eq, F109_eq, F107_4, b1, b2, d2, decide_false, whenT, whenF, sem_bind_some, sem_sees, sem_br, sem_ask, sem_ret, PC.holds, need_true, if_true, show firstI [0, 0, 0, 7] = 7 from rfl, show ((7 : Int) != 0) = true from rfl, stepO_ret]
   rfl
  ·have d2 : ((m.length : Int) == 0) = false := by simp; exact fun h => c2 (by rw [h]; rfl)
   rw [if_neg c2]
   unfold F49; rw [res_eq]
   simp only [B49, f1, f2, f3, he, ha, hw, F106_eq, F109_eq, F107_4, b1, b2, d2, decide_false, whenT, whenF, sem_bind_some, sem_sees, sem_br, sem_ask, sem_ret, PC.holds, need_true, if_true, show firstI [0, 0, 0, 0] = 0 from rfl, show ((0 : Int) != 0) = false from rfl, Bool.false_eq_true, if_false, stepO_ret]
   rfl
 ·have b1 : (a == n + 1) = false := by simpa using c1
  rw [if_neg c1]
  by_cases c2 : a > n + 1
  ·rw [if_pos c2]
   unfold F49; rw [res_eq]
   simp only [B49, f1, f2, f3, he, ha, hw, F106_eq, F109_eq, F107_4, b1, c2, decide_true, whenT, whenF, sem_bind_some, sem_sees, sem_br, sem_ask, sem_ret, PC.holds, need_true, Bool.false_eq_true, if_false, if_true, show firstI [0, 0, 24, 0] = 24 from rfl, show ((24 : Int) != 0) = true from rfl, stepO_ret]
   rfl
  ·rw [if_neg c2]
   unfold F49; rw [res_eq]
   simp only [B49, f1, f2, f3, he, ha, hw, F106_eq, F109_eq, F107_4, b1, c2, decide_false, whenT, whenF, sem_bind_some, sem_sees, sem_br, sem_ask, sem_ret, PC.holds, need_true, Bool.false_eq_true, if_false, if_true, show firstI [0, 0, 0, 0] = 0 from rfl, show ((0 : Int) != 0) = false from rfl, stepO_ret]
   rfl
theorem F57_v (hn : 0 ≤ n ∧ n < 1000000) (hl : Vl k l) (hm : Vn k m) (hb : Vl k b) (ha : 0 ≤ a ∧ a ≤ 1000000) : F57 n l.length (l.map vI) m.length (m.map vI) a b.length (b.map vI) = some (if a > n + 1 then zR 7 else if a ≤ n then rR n l m n else if m.length = 0 then rR n l b a else if m = b then rR n l m a else zR 24) := by
 have h1 := hl.le; have h2 := hm.le; have h3 := hb.le
 have he := end_0 (n := n) ⟨hn.1, by omega⟩ hl hm
 have ha := rangeI_zero.2 ha
 have ho := oth_0 hl hb
 have f1 := F63_g (n := n) (show l.length ≤ 1025 by omega) (show m.length ≤ 1025 by omega)
 have f2 := F132_g (n := n) (show l.length ≤ 1000 by omega) (show m.length ≤ 1000 by omega)
 have f3 := F129_m (show b.length ≤ 1000 by omega)
 have f4 := F127_g (l := l) (show b.length ≤ 1025 by omega)
 have hw := wrap_n (n := n) ⟨hn.1, by omega⟩
 by_cases c2 : a > n + 1
 ·rw [if_pos c2]
  unfold F57; rw [res_eq]
  simp only [B57, f1, f2, f3, f4, he, ha, ho, hw, F106_eq, F109_eq, F107_4, c2, decide_true, whenT, whenF, sem_bind_some, sem_sees, sem_br, sem_ask, sem_ret, PC.holds, need_true, if_true, show firstI [0, 0, 0, 7] = 7 from rfl, show ((7 : Int) != 0) = true from rfl, stepO_ret]
  rfl
 ·rw [if_neg c2]
  by_cases c3 : a ≤ n
  ·rw [if_pos c3]
   unfold F57; rw [res_eq]
   simp only [B57, f1, f2, f3, f4, he, ha, ho, hw, F106_eq, F109_eq, F107_4, c2, c3, decide_true, decide_false, whenT, whenF, sem_bind_some, sem_sees, sem_br, sem_ask, sem_ret, PC.holds, need_true, Bool.false_eq_true, if_false, if_true, show firstI [0, 0, 0, 0] = 0 from rfl, show ((0 : Int) != 0) = false from rfl, stepO_ret]
   rfl
  ·rw [if_neg c3]
   by_cases c4 : m.length = 0
   ·have d2 : ((m.length : Int) == 0) = true := by rw [c4]; rfl
    rw [if_pos c4]
    unfold F57; rw [res_eq]
    simp only [B57, f1, f2, f3, f4, he, ha, ho, hw, F106_eq, F109_eq, F107_4, c2, c3, d2, decide_false, whenT, whenF, sem_bind_some, sem_sees, sem_br, sem_ask, sem_ret, PC.holds, need_true, Bool.false_eq_true, if_false, if_true, show firstI [0, 0, 0, 0] = 0 from rfl, show ((0 : Int) != 0) = false from rfl, stepO_ret]
    rfl
   ·have d2 : ((m.length : Int) == 0) = false := by simp; exact fun h => c4 (by rw [h]; rfl)
    rw [if_neg c4]
    by_cases c5 : m = b
    ·subst c5
     rw [if_pos rfl]
     unfold F57; rw [res_eq]
     simp only [B57, f1, f2, f3, f4, he, ha, ho, hw, F106_eq, F109_eq, F107_4, F133_g (show m.length ≤ 1025 by omega), c2, c3, d2, decide_true, decide_false, Bool.not_true, whenT, whenF, sem_bind_some, sem_sees, sem_br, sem_ask, sem_ret, PC.holds, need_true, Bool.false_eq_true, if_false, if_true, show firstI [0, 0, 0, 0] = 0 from rfl, show ((0 : Int) != 0) = false from rfl, stepO_ret]
     rfl
    ·rw [if_neg c5]
     unfold F57; rw [res_eq]
     simp only [B57, f1, f2, f3, f4, he, ha, ho, hw, F106_eq, F109_eq, F107_4, F133_g (show m.length ≤ 1025 by omega), c2, c3, c5, d2, decide_true, decide_false, Bool.not_false, whenT, whenF, sem_bind_some, sem_sees, sem_br, sem_ask, sem_ret, PC.holds, need_true, Bool.false_eq_true, if_false, if_true, show firstI [0, 0, 0, 0] = 0 from rfl, show ((0 : Int) != 0) = false from rfl, stepO_ret]
     rfl
theorem F59_v (hn : 0 ≤ n ∧ n < 1000000) (hl : Vl k l) (hm : Vn k m) (ha : 0 ≤ a ∧ a ≤ 1000000) : F59 n l.length (l.map vI) m.length (m.map vI) a = some (if a < n then zT 35 else if a = n then rT n l m l else if a > n + 1 then zT 7 else if m.length = 0 then zT 7 else rT a m [] m) := by
 have h1 := hl.le; have h2 := hm.le
 have he := end_0 (n := n) ⟨hn.1, by omega⟩ hl hm
 have ha := rangeI_zero.2 ha
 have f1 := F63_g (n := n) (show l.length ≤ 1025 by omega) (show m.length ≤ 1025 by omega)
 have f2 := F132_g (n := n) (show l.length ≤ 1000 by omega) (show m.length ≤ 1000 by omega)
 have f3 := F129_m (show m.length ≤ 1000 by omega)
 have f4 := F129_m (show l.length ≤ 1000 by omega)
 have hw := wrap_n (n := n) ⟨hn.1, by omega⟩
 by_cases c1 : a < n
 ·have b1 : ¬ (a > n + 1) := by omega
  have b2 : ¬ (a > n) := by omega
  rw [if_pos c1]
  unfold F59; rw [res_eq]
  simp only [B59, f1, f2, f3, f4, he, ha, hw, F106_eq, F109_eq, F107_4, c1, b1, b2, decide_true, decide_false, beq_self_eq_true, whenT, whenF, sem_bind_some, sem_sees, sem_br, sem_ask, sem_ret, PC.holds, need_true, Bool.false_eq_true, if_false, if_true, show firstI [0, 0, 35, 0] = 35 from rfl, show ((35 : Int) != 0) = true from rfl, stepO_ret]
  rfl
 ·rw [if_neg c1]
  by_cases c2 : a = n
  ·have b1 : ¬ (a > n + 1) := by omega
   have b2 : ¬ (a > n) := by omega
   have b3 : (a == n) = true := by simpa using c2
   rw [if_pos c2]
   unfold F59; rw [res_eq]
   simp only [B59, f1, f2, f3, f4, he, ha, hw, F106_eq, F109_eq, F107_4, c1, b1, b2, decide_true, decide_false, beq_self_eq_true, whenT, whenF, sem_bind_some, sem_sees, sem_br, sem_ask, sem_ret, PC.holds, need_true, Bool.false_eq_true, if_false, if_true, show firstI [0, 0, 0, 0] = 0 from rfl, show ((0 : Int) != 0) = false from rfl, stepO_ret]
   rfl
  ·have b2 : a > n := by omega
   rw [if_neg c2]
   by_cases c3 : a > n + 1
   ·rw [if_pos c3]
    unfold F59; rw [res_eq]
    simp only [B59, f1, f2, f3, f4, he, ha, hw, F106_eq, F109_eq, F107_4, c1, c3, b2, decide_true, decide_false, beq_self_eq_true, whenT, whenF, sem_bind_some, sem_sees, sem_br, sem_ask, sem_ret, PC.holds, need_true, Bool.false_eq_true, if_false, if_true, show firstI [0, 0, 0, 7] = 7 from rfl, show ((7 : Int) != 0) = true from rfl, stepO_ret]
    rfl
   ·rw [if_neg c3]
    by_cases c4 : m.length = 0
    ·have d2 : ((m.length : Int) == 0) = true := by rw [c4]; rfl
     rw [if_pos c4]
     unfold F59; rw [res_eq]
     simp only [B59, f1, f2, f3, f4, he, ha, hw, F106_eq, F109_eq, F107_4, c1, c3, b2, d2, decide_true, decide_false, beq_self_eq_true, whenT, whenF, sem_bind_some, sem_sees, sem_br, sem_ask, sem_ret, PC.holds, need_true, Bool.false_eq_true, if_false, if_true, show firstI [0, 0, 0, 7] = 7 from rfl, show ((7 : Int) != 0) = true from rfl, stepO_ret]
     rfl
    ·have d2 : ((m.length : Int) == 0) = false := by simp; exact fun h => c4 (by rw [h]; rfl)
     rw [if_neg c4]
     unfold F59; rw [res_eq]
     simp only [B59, f1, f2, f3, f4, he, ha, hw, F106_eq, F109_eq, F107_4, c1, c3, b2, d2, decide_true, decide_false, beq_self_eq_true, whenT, whenF, sem_bind_some, sem_sees, sem_br, sem_ask, sem_ret, PC.holds, need_true, Bool.false_eq_true, if_false, if_true, show firstI [0, 0, 0, 0] = 0 from rfl, show ((0 : Int) != 0) = false from rfl, stepO_ret]
     rfl
end
end
section
open Go Go.RowKit
structure Cf where
 us : List (List Int)
 rs : List Nat
 an : Nat
 ab : List Int
 am : List Int
 bn : Nat
 bb : List Int
 bm : List Int
def uD (us : List (List Int)) (i : Nat) : List Int := us.getD i []
theorem uD_app {us : List (List Int)} (x : List Int) {i : Nat} (h : i < us.length) : uD (us ++ [x]) i = uD us i := by
 unfold uD
 rw [List.getD_eq_getElem?_getD, List.getElem?_append_left h, List.getD_eq_getElem?_getD]
theorem uD_end (us : List (List Int)) (x : List Int) : uD (us ++ [x]) us.length = x := by
 unfold uD
 rw [List.getD_eq_getElem?_getD, List.getElem?_append_right (Nat.le_refl _), Nat.sub_self]; rfl
theorem uD_mem {us : List (List Int)} {i : Nat} (h : i < us.length) : uD us i ∈ us := by
 unfold uD
 rw [List.getD_eq_getElem?_getD, List.getElem?_eq_getElem h]; exact List.getElem_mem h
structure Inv (k : Nat) (c : Cf) : Prop where
 u : ∀ x ∈ c.us, Vl k x
 a : c.an < c.us.length ∧ c.ab = uD c.us c.an
 m : (c.am = [] ∧ c.us.length = c.an + 1) ∨ (c.us.length = c.an + 2 ∧ c.am = uD c.us (c.an + 1))
 b : c.bn ≤ c.an ∧ c.an ≤ c.bn + 1 ∧ c.bb = uD c.us c.bn
 n : c.bm = [] ∨ (c.bn + 1 < c.us.length ∧ c.bm = uD c.us (c.bn + 1))
 x : c.an = c.bn + 1 → c.bm ≠ []
 r : ∀ r ∈ c.rs, r < c.us.length ∧ r ≤ c.bn + 1 ∧ (r = c.bn + 1 → c.bm ≠ [])
section
variable {k : Nat} {c : Cf}
theorem Inv.va (h : Inv k c) : Vl k c.ab := by rw [h.a.2]; exact h.u _ (uD_mem h.a.1)
theorem Inv.vb (h : Inv k c) : Vl k c.bb := by rw [h.b.2.2]; exact h.u _ (uD_mem (by have := h.a.1; have := h.b.1; omega))
theorem Inv.vu (h : Inv k c) {i : Nat} (hi : i < c.us.length) : Vl k (uD c.us i) := h.u _ (uD_mem hi)
theorem Inv.vm (h : Inv k c) : Vn k c.am := by
 rcases h.m with ⟨h1, _⟩ | ⟨h1, h2⟩
 ·exact .inl h1
 ·exact .inr (by rw [h2]; exact h.vu (by omega))
theorem Inv.vn (h : Inv k c) : Vn k c.bm := by
 rcases h.n with h1 | ⟨h1, h2⟩
 ·exact .inl h1
 ·exact .inr (by rw [h2]; exact h.vu h1)
theorem Inv.am0 (h : Inv k c) : c.am.length = 0 ↔ c.us.length = c.an + 1 := by
 rcases h.m with ⟨h1, h2⟩ | ⟨h1, h2⟩
 ·rw [h1]; simp [h2]
 ·have := (h.vu (i := c.an + 1) (by omega)).ne
  rw [← h2] at this
  constructor
  ·intro h3; exact absurd h3 this
  ·intro h3; omega
theorem inv_prop (h : Inv k c) (hm : c.am.length = 0) {x : List Int} (hx : Vl k x) : Inv k { c with us := c.us ++ [x], am := x } := by
 have hl := h.am0.1 hm
 have ha := h.a.1
 refine ⟨?_, ⟨?_, ?_⟩, ?_, ⟨h.b.1, h.b.2.1, ?_⟩, ?_, h.x, ?_⟩
 ·intro y hy
  rcases List.mem_append.1 hy with hy | hy
  ·exact h.u y hy
  ·rw [List.mem_singleton] at hy; rw [hy]; exact hx
 ·simp only [List.length_append, List.length_singleton]; omega
 ·show c.ab = uD (c.us ++ [x]) c.an
  rw [uD_app x ha]; exact h.a.2
 ·right
  refine ⟨by simp only [List.length_append, List.length_singleton]; omega, ?_⟩
  show x = uD (c.us ++ [x]) (c.an + 1)
  rw [← hl, uD_end]
 ·show c.bb = uD (c.us ++ [x]) c.bn
  rw [uD_app x (by have := h.b.1; omega)]; exact h.b.2.2
 ·rcases h.n with h1 | ⟨h1, h2⟩
  ·exact .inl h1
  ·refine .inr ⟨by simp only [List.length_append, List.length_singleton]; omega, ?_⟩
   show c.bm = uD (c.us ++ [x]) (c.bn + 1)
   rw [uD_app x h1]; exact h2
 ·intro r hr
  obtain ⟨h1, h2, h3⟩ := h.r r hr
  exact ⟨by simp only [List.length_append, List.length_singleton]; omega, h2, h3⟩
theorem inv_old (h : Inv k c) : Inv k { c with rs := c.rs ++ [c.bn] } := by
 refine ⟨h.u, h.a, h.m, h.b, h.n, h.x, ?_⟩
 intro r hr
 rcases List.mem_append.1 hr with hr | hr
 ·exact h.r r hr
 ·rw [List.mem_singleton] at hr
  subst hr
  have := h.a.1; have := h.b.1
  exact ⟨by show c.bn < c.us.length; omega, by show c.bn ≤ c.bn + 1; omega, fun e => by exact absurd e (by show ¬ c.bn = c.bn + 1; omega)⟩
theorem inv_new (h : Inv k c) (hk : c.bn + 1 < c.us.length) : Inv k { c with rs := c.rs ++ [c.bn + 1], bm := uD c.us (c.bn + 1) } := by
 have hne : uD c.us (c.bn + 1) ≠ [] := fun e => (h.vu hk).ne (by rw [e]; rfl)
 refine ⟨h.u, h.a, h.m, h.b, .inr ⟨hk, rfl⟩, fun _ => hne, ?_⟩
 intro r hr
 rcases List.mem_append.1 hr with hr | hr
 ·obtain ⟨h1, h2, h3⟩ := h.r r hr
  exact ⟨h1, h2, fun _ => hne⟩
 ·rw [List.mem_singleton] at hr
  subst hr
  exact ⟨hk, Nat.le_refl _, fun _ => hne⟩
theorem bm_new (h : Inv k c) (hne : c.bm.length ≠ 0) : c.bm = uD c.us (c.bn + 1) := by
 rcases h.n with h1 | ⟨_, h2⟩
 ·rw [h1] at hne; exact absurd rfl hne
 ·exact h2
theorem inv_conf (h : Inv k c) (hr : c.an + 1 ∈ c.rs) : c.am.length ≠ 0 ∧ Inv k { c with an := c.an + 1, ab := c.am, am := [] } := by
 obtain ⟨h1, h2, h3⟩ := h.r _ hr
 have hb := h.b
 have hl : c.us.length = c.an + 2 ∧ c.am = uD c.us (c.an + 1) := by
  rcases h.m with ⟨_, h4⟩ | h4
  ·omega
  ·exact h4
 refine ⟨?_, ⟨h.u, ⟨?_, hl.2⟩, .inl ⟨rfl, ?_⟩, ⟨?_, ?_, hb.2.2⟩, h.n, fun _ => h3 (by omega), h.r⟩⟩
 ·rw [hl.2]; exact (h.vu (by omega)).ne
 ·show c.an + 1 < c.us.length; omega
 ·show c.us.length = c.an + 1 + 1; omega
 ·show c.bn ≤ c.an + 1; omega
 ·show c.an + 1 ≤ c.bn + 1; omega
theorem inv_take (h : Inv k c) (ha : c.an = c.bn + 1) : c.bm.length ≠ 0 ∧ c.bm = c.ab ∧ Inv k { c with bn := c.an, bb := c.bm, bm := [] } := by
 have hne : c.bm.length ≠ 0 := fun e => h.x ha (List.eq_nil_of_length_eq_zero e)
 have hm := bm_new h hne
 refine ⟨hne, by rw [hm, h.a.2, ha], ⟨h.u, h.a, h.m, ⟨Nat.le_refl _, by show c.an ≤ c.an + 1; omega, by show c.bm = uD c.us c.an; rw [hm, ha]⟩, .inl rfl, fun e => by exact absurd e (by show ¬ c.an = c.an + 1; omega), ?_⟩⟩
 intro r hr
 obtain ⟨h1, h2, _⟩ := h.r r hr
 exact ⟨h1, by show r ≤ c.an + 1; omega, fun e => by
  have e : r = c.an + 1 := e
  omega⟩
end
end
section
open Go Go.RowKit
def eS (l : List Int) : DV := .sl l.length (l.map vI)
def vN (r : Nat) : DV := vI (r : Int)
section
variable {us : List (List Int)} {i : Nat}
theorem us_n (hi : i < us.length) : dN (cel (us.map eS) i) = (uD us i).length := by
 unfold cel uD; simp only [List.getD_eq_getElem?_getD, List.getElem?_map, List.getElem?_eq_getElem hi]; rfl
theorem us_l (hi : i < us.length) : dL (cel (us.map eS) i) = (uD us i).map vI := by
 unfold cel uD; simp only [List.getD_eq_getElem?_getD, List.getElem?_map, List.getElem?_eq_getElem hi]; rfl
theorem us_a (hi : i < us.length) : Option.map AV.d (List.drop i (us.map eS))[0]? = some (AV.d (DV.sl (uD us i).length ((uD us i).map vI))) := by
 unfold uD
 simp only [List.getElem?_drop, Nat.add_zero, List.getElem?_map, List.getElem?_eq_getElem hi, List.getD_eq_getElem?_getD]; rfl
end
section
variable {k : Nat} {c : Cf} {bl : Nat} {bx : List DV} {e f : Nat} {al : Nat} {ax : List DV} {cnt : Int} {i : Nat}
theorem K18 (h : Inv k c) (hl : c.us.length ≤ 100) (hi : i ≤ 100) :
  res B11 (.c18 bl bx e c.us.length (c.us.map eS) f c.rs.length (c.rs.map vN) al ax cnt (i : Int) (c.an : Int) c.ab.length (c.ab.map vI) c.am.length (c.am.map vI) (c.bn : Int) c.bb.length (c.bb.map vI) c.bm.length (c.bm.map vI) e f) =
  res B11 (.c22 bl bx e c.us.length (c.us.map eS) f c.rs.length (c.rs.map vN) al ax cnt ((i + 1 : Nat) : Int) (c.an : Int) c.ab.length (c.ab.map vI) c.am.length (c.am.map vI) (c.bn : Int) c.bb.length (c.bb.map vI) c.bm.length (c.bm.map vI) e f) := by
 obtain ⟨ha, hab⟩ := h.a
 obtain ⟨hb1, hb2, hbb⟩ := h.b
 have hbl : c.bn < c.us.length := by omega
 have q1 : ¬ ((c.bn : Int) < 0) := by omega
 have q2 : ¬ ((c.bn : Int) > (c.an : Int)) := by omega
 have q3 : ¬ ((c.an : Int) > (c.bn : Int) + 1) := by omega
 have q4 : ¬ ((c.an : Int) ≥ (c.us.length : Int)) := by omega
 have q5 : (c.an : Int) < (c.us.length : Int) := by omega
 have q6 : (c.bn : Int) < (c.us.length : Int) := by omega
 have i1 : inI64 ((c.bn : Int) + 1) := by unfold inI64; omega
 have i2 : inI64 ((i : Int) + 1) := by unfold inI64; omega
 have f1 := F65_eq c.ab (by have := h.va.le; omega)
 have f2 := F65_eq c.bb (by have := h.vb.le; omega)
 rw [res_eq]
 simp only [B11, q1, q2, q3, q4, q5, q6, i1, i2, decide_false, Bool.false_eq_true, if_false, Int.toNat_natCast, Nat.mul_one, us_n ha, us_l ha, us_a ha, us_n hbl, us_l hbl, us_a hbl, ← hab, ← hbb, f1, f2, Bool.not_true, List.length_map, Nat.le_of_lt ha, Nat.le_of_lt hbl, Int.natCast_nonneg, sem_br, sem_ask, sem_nxt, sem_bind_some, sem_sees, PC.holds, need_true, stepO_nxt]
 rfl
end
end
section
open Go Go.RowKit
section
variable {k : Nat} {c : Cf} {bl : Nat} {bx : List DV} {e f : Nat} {al : Nat} {ax : List DV} {cnt : Int} {i : Nat}
theorem K6 (h : Inv k c) (hl : c.us.length ≤ 100) (hi : i ≤ 100) (h0 : c.bn = 0) :
  res B11 (.c6 bl bx e c.us.length (c.us.map eS) al ax cnt (i : Int) (c.an : Int) c.ab.length (c.ab.map vI) c.am.length (c.am.map vI) c.bb.length (c.bb.map vI) e) = res B11 (.c9 bl bx e c.us.length (c.us.map eS) al ax cnt ((i + 1 : Nat) : Int) (c.an : Int) c.ab.length (c.ab.map vI) c.am.length (c.am.map vI) c.bb.length (c.bb.map vI) e) := by
 obtain ⟨ha, hab⟩ := h.a
 obtain ⟨hb1, hb2, hbb⟩ := h.b
 have hbl : c.bn < c.us.length := by omega
 have hz : 0 < c.us.length := by omega
 rw [h0] at hbb
 have q1 : ¬ ((0 : Int) < 0) := by omega
 have q2 : ¬ ((0 : Int) > (c.an : Int)) := by omega
 have q3 : ¬ (((c.an : Int) : Int) > 1) := by omega
 have q3' : ¬ (((c.an : Int) : Int) > 0 + 1) := by omega
 have q4 : ¬ (((c.an : Int) : Int) ≥ (c.us.length : Int)) := by omega
 have q5 : ((c.an : Int) : Int) < (c.us.length : Int) := by omega
 have q6 : (0 : Int) < (c.us.length : Int) := by omega
 have i1 : inI64 ((0 : Int) + 1) := by unfold inI64; omega
 have i2 : inI64 ((i : Int) + 1) := by unfold inI64; omega
 have z0 : (0 : Int) ≤ 0 := Int.le_refl 0
 have f1 := F65_eq c.ab (by have := h.va.le; omega)
 have f2 := F65_eq c.bb (by have := h.vb.le; omega)
 rw [res_eq]
 simp only [B11, q1, q2, q3, q3', q4, q5, q6, i1, i2, z0, decide_false, Bool.false_eq_true, if_false, Int.toNat_natCast, Int.toNat_zero, Nat.zero_mul, Nat.zero_le, Nat.mul_one, us_n ha, us_l ha, us_a ha, us_n hz, us_l hz, us_a hz, ← hab, ← hbb, f1, f2, Bool.not_true, List.length_map, Nat.le_of_lt ha, Nat.le_of_lt hz, Int.natCast_nonneg, sem_br, sem_ask, sem_nxt, sem_bind_some, sem_sees, PC.holds, need_true, stepO_nxt]
 rfl
theorem K8 (h : Inv k c) (hl : c.us.length ≤ 100) (hi : i ≤ 100) (h0 : c.an = 0) :
  res B11 (.c8 bl bx e c.us.length (c.us.map eS) al ax cnt (i : Int) c.ab.length (c.ab.map vI) (c.bn : Int) c.bb.length (c.bb.map vI) c.bm.length (c.bm.map vI)) = res B11 (.c11 bl bx e c.us.length (c.us.map eS) al ax cnt ((i + 1 : Nat) : Int) c.ab.length (c.ab.map vI) (c.bn : Int) c.bb.length (c.bb.map vI) c.bm.length (c.bm.map vI)) := by
 obtain ⟨ha, hab⟩ := h.a
 obtain ⟨hb1, hb2, hbb⟩ := h.b
 have hbl : c.bn < c.us.length := by omega
 have hz : 0 < c.us.length := by omega
 rw [h0] at hab
 have q1 : ¬ (((c.bn : Int) : Int) < 0) := by omega
 have q2 : ¬ (((c.bn : Int) : Int) > 0) := by omega
 have q3 : ¬ ((0 : Int) > ((c.bn : Int) + 1)) := by omega
 have q3' : ¬ ((0 : Int) > (c.bn : Int) + 1) := by omega
 have q4 : ¬ ((0 : Int) ≥ (c.us.length : Int)) := by omega
 have q5 : (0 : Int) < (c.us.length : Int) := by omega
 have q6 : ((c.bn : Int) : Int) < (c.us.length : Int) := by omega
 have i1 : inI64 (((c.bn : Int) : Int) + 1) := by unfold inI64; omega
 have i2 : inI64 ((i : Int) + 1) := by unfold inI64; omega
 have z0 : (0 : Int) ≤ 0 := Int.le_refl 0
 have f1 := F65_eq c.ab (by have := h.va.le; omega)
 have f2 := F65_eq c.bb (by have := h.vb.le; omega)
 rw [res_eq]
 simp only [B11, q1, q2, q3, q3', q4, q5, q6, i1, i2, z0, decide_false, Bool.false_eq_true, if_false, Int.toNat_natCast, Int.toNat_zero, Nat.zero_mul, Nat.zero_le, Nat.mul_one, us_n hz, us_l hz, us_a hz, us_n hbl, us_l hbl, us_a hbl, ← hab, ← hbb, f1, f2, Bool.not_true, List.length_map, Nat.le_of_lt hz, Nat.le_of_lt hbl, Int.natCast_nonneg, sem_br, sem_ask, sem_nxt, sem_bind_some, sem_sees, PC.holds, need_true, stepO_nxt]
 rfl
theorem K19 (h : Inv k c) (hl : c.us.length ≤ 100) (hi : i ≤ 100) :
  res B11 (.c19 bl bx e c.us.length (c.us.map eS) al ax cnt (i : Int) (c.an : Int) c.ab.length (c.ab.map vI) c.am.length (c.am.map vI) (c.bn : Int) c.bb.length (c.bb.map vI) c.bm.length (c.bm.map vI) e) = res B11 (.c23 bl bx e c.us.length (c.us.map eS) al ax cnt ((i + 1 : Nat) : Int) (c.an : Int) c.ab.length (c.ab.map vI) c.am.length (c.am.map vI) (c.bn : Int) c.bb.length (c.bb.map vI) c.bm.length (c.bm.map vI) e) := by
 obtain ⟨ha, hab⟩ := h.a
 obtain ⟨hb1, hb2, hbb⟩ := h.b
 have hbl : c.bn < c.us.length := by omega
 have q1 : ¬ (((c.bn : Int) : Int) < 0) := by omega
 have q2 : ¬ (((c.bn : Int) : Int) > (c.an : Int)) := by omega
 have q3 : ¬ (((c.an : Int) : Int) > ((c.bn : Int) + 1)) := by omega
 have q3' : ¬ (((c.an : Int) : Int) > (c.bn : Int) + 1) := by omega
 have q4 : ¬ (((c.an : Int) : Int) ≥ (c.us.length : Int)) := by omega
 have q5 : ((c.an : Int) : Int) < (c.us.length : Int) := by omega
 have q6 : ((c.bn : Int) : Int) < (c.us.length : Int) := by omega
 have i1 : inI64 (((c.bn : Int) : Int) + 1) := by unfold inI64; omega
 have i2 : inI64 ((i : Int) + 1) := by unfold inI64; omega
 have z0 : (0 : Int) ≤ 0 := Int.le_refl 0
 have f1 := F65_eq c.ab (by have := h.va.le; omega)
 have f2 := F65_eq c.bb (by have := h.vb.le; omega)
 rw [res_eq]
 simp only [B11, q1, q2, q3, q3', q4, q5, q6, i1, i2, z0, decide_false, Bool.false_eq_true, if_false, Int.toNat_natCast, Int.toNat_zero, Nat.zero_mul, Nat.zero_le, Nat.mul_one, us_n ha, us_l ha, us_a ha, us_n hbl, us_l hbl, us_a hbl, ← hab, ← hbb, f1, f2, Bool.not_true, List.length_map, Nat.le_of_lt ha, Nat.le_of_lt hbl, Int.natCast_nonneg, sem_br, sem_ask, sem_nxt, sem_bind_some, sem_sees, PC.holds, need_true, stepO_nxt]
 rfl
end
end
section
open Go Go.RowKit
def nx (n kk : Nat) : List Int := (List.range kk).map fun j : Nat => ((n : Int) + (j : Int)).tmod 7
theorem nx_len (n kk : Nat) : (nx n kk).length = kk := by simp [nx]
theorem nx_get {n kk j : Nat} (h : j < kk) : (nx n kk).getD j 0 = ((n : Int) + (j : Int)).tmod 7 := by
 unfold nx
 rw [List.getD_eq_getElem?_getD, List.getElem?_map, List.getElem?_range h]; rfl
theorem chM_all : ∀ l : List Int, (∀ x ∈ l, 0 ≤ x ∧ x ≤ 6) → chM l = 0
 | [], _ => rfl
 | x :: r, h => by
  unfold chM
  rw [if_pos (rangeI_zero.2 (h x (by simp)))]
  exact chM_all r fun y hy => h y (by simp [hy])
theorem nx_v {n kk : Nat} (h : 0 < kk ∧ kk ≤ 8) : Vl kk (nx n kk) := by
 refine ⟨nx_len n kk, ?_, h⟩
 unfold ckM
 have h1 : (((nx n kk).length : Int) == 0) = false := by rw [nx_len, beq_eq_false_iff_ne]; omega
 have h2 : decide (((nx n kk).length : Int) > 8) = false := by rw [nx_len]; exact decide_eq_false (by omega)
 rw [h1, h2, whenF, whenF, if_pos (show firstI [0, 0] = 0 from rfl)]
 apply chM_all
 intro x hx
 unfold nx at hx
 obtain ⟨j, _, rfl⟩ := List.mem_map.1 hx
 rw [Int.tmod_eq_emod_of_nonneg (by omega)]
 omega
theorem nx_take {n kk j : Nat} (h : j < kk) : ((nx n kk).take (j + 1)).map vI = ((nx n kk).take j).map vI ++ [vI (((n : Int) + (j : Int)).tmod 7)] := by
 rw [takeS 0 (by rw [nx_len]; exact h), nx_get h]
section
variable {k : Nat} {c : Cf} {bx : List DV} {e f : Nat} {al : Nat} {ax : List DV} {cnt : Int} {i n : Nat}
theorem N26 (h : Inv k c) (hk : 0 < k ∧ k ≤ 8) (hl : c.us.length ≤ 90) (hi : i ≤ 100) (hn : n ≤ 255) : ∀ (m j g : Nat), k = j + m →
  res B11 (.c26 k bx e c.us.length (c.us.map eS) f c.rs.length (c.rs.map vN) (n : Int) g j (((nx n k).take j).map vI) al ax cnt (i : Int) (k : Int) (j : Int) (c.an : Int) c.ab.length (c.ab.map vI) c.am.length (c.am.map vI) (c.bn : Int) c.bb.length (c.bb.map vI) c.bm.length (c.bm.map vI) e f g) =
  if c.am.length = 0 then res B11 (.c22 k bx (e + 1) (c.us.length + 1) (c.us.map eS ++ [eS (nx n k)]) f c.rs.length (c.rs.map vN) al ax cnt ((i + 1 : Nat) : Int) (c.an : Int) c.ab.length (c.ab.map vI) (nx n k).length ((nx n k).map vI) (c.bn : Int) c.bb.length (c.bb.map vI) c.bm.length (c.bm.map vI) (e + 1) f)
  else res B11 (.c22 k bx e c.us.length (c.us.map eS) f c.rs.length (c.rs.map vN) al ax cnt ((i + 1 : Nat) : Int) (c.an : Int) c.ab.length (c.ab.map vI) c.am.length (c.am.map vI) (c.bn : Int) c.bb.length (c.bb.map vI) c.bm.length (c.bm.map vI) e f)
 | 0, j, g, hj => by
  have hv := nx_v (n := n) hk
  have h1 : ¬ ((j : Int) < (k : Int)) := by omega
  have ha := h.a.1
  have f33 := F33_eq (l := nx n k) (by rw [nx_len]; omega)
  have f47 := F47_v (k := k) (n := (c.an : Int)) (b := nx n k) (by omega) h.va h.vm hv
  have i1 : inI64 ((c.an : Int) + 2) := by unfold inI64; omega
  have i2 : inI64 ((i : Int) + 1) := by unfold inI64; omega
  have ft : fitsN (c.us.length + 1) 24 := ⟨by omega, by omega⟩
  have hj' : j = (nx n k).length := by rw [nx_len]; omega
  have ht : (nx n k).take j = nx n k := List.take_of_length_le (by omega)
  rw [res_eq, ht, hj']
  have h1 : ¬ (((nx n k).length : Int) < (k : Int)) := by omega
  by_cases hm : c.am.length = 0
  ·have hu := h.am0.1 hm
   have q : ((c.us.length : Int) == (c.an : Int) + 2) = false := by rw [beq_eq_false_iff_ne]; omega
   have z := K18 (bl := k) (bx := bx) (e := e + 1) (f := f) (al := al) (ax := ax) (cnt := cnt) (i := i) (inv_prop h hm hv) (by simp only [List.length_append, List.length_singleton]; omega) hi
   simp only [List.length_append, List.length_singleton, List.map_append, List.map_cons, List.map_nil] at z
   rw [if_pos hm]
   simp only [B11, h1, f33, f47, if_pos hm, rS, q, i1, i2, ft, decide_false, Bool.false_eq_true, if_false, bne_self_eq_false, sem_br, sem_ask, sem_nxt, sem_bind_some, sem_sees, PC.holds, need_true, stepO_nxt]
   exact z
  ·have hu : c.us.length = c.an + 2 := by
    rcases h.m with ⟨e1, _⟩ | ⟨e1, _⟩
    ·rw [e1] at hm; exact absurd rfl hm
    ·exact e1
   have q : ((c.us.length : Int) == (c.an : Int) + 2) = true := by rw [beq_iff_eq]; omega
   rw [if_neg hm]
   simp only [B11, h1, f33, f47, if_neg hm, zS, q, i1, i2, decide_false, Bool.false_eq_true, if_false, if_true, bne_self_eq_false, sem_br, sem_ask, sem_nxt, sem_bind_some, sem_sees, PC.holds, need_true, stepO_nxt]
   rfl
 | m + 1, j, g, hj => by
  have hjk : j < k := by omega
  have h1 : (j : Int) < (k : Int) := by omega
  have i1 : inI64 ((n : Int) + (j : Int)) := by unfold inI64; omega
  have i2 : inI64 ((j : Int) + 1) := by unfold inI64; omega
  have ft : fitsN (j + 1) 8 := ⟨by omega, by omega⟩
  have ih := N26 h hk hl hi hn m (j + 1) (g + 1) (by omega)
  rw [nx_take hjk] at ih
  rw [res_eq]
  simp only [B11, h1, i1, i2, ft, decide_true, if_true, sem_br, sem_ask, sem_nxt, PC.holds, need_true, stepO_nxt]
  exact ih
end
end
section
open Go Go.RowKit
section
variable {k : Nat} {c : Cf} {bx : List DV} {e f : Nat} {al : Nat} {ax : List DV} {cnt : Int} {i n : Nat}
theorem M24 (h : Inv k c) (hk : 0 < k ∧ k ≤ 8) (hl : c.us.length ≤ 90) (hi : i ≤ 100) (hn : n ≤ 255) :
  res B11 (.c24 k bx e c.us.length (c.us.map eS) f c.rs.length (c.rs.map vN) (n : Int) al ax cnt (i : Int) (k : Int) 0 (c.an : Int) c.ab.length (c.ab.map vI) c.am.length (c.am.map vI) (c.bn : Int) c.bb.length (c.bb.map vI) c.bm.length (c.bm.map vI) e f) =
  if c.am.length = 0 then res B11 (.c22 k bx (e + 1) (c.us.length + 1) (c.us.map eS ++ [eS (nx n k)]) f c.rs.length (c.rs.map vN) al ax cnt ((i + 1 : Nat) : Int) (c.an : Int) c.ab.length (c.ab.map vI) (nx n k).length ((nx n k).map vI) (c.bn : Int) c.bb.length (c.bb.map vI) c.bm.length (c.bm.map vI) (e + 1) f)
  else res B11 (.c22 k bx e c.us.length (c.us.map eS) f c.rs.length (c.rs.map vN) al ax cnt ((i + 1 : Nat) : Int) (c.an : Int) c.ab.length (c.ab.map vI) c.am.length (c.am.map vI) (c.bn : Int) c.bb.length (c.bb.map vI) c.bm.length (c.bm.map vI) e f) := by
 have h1 : (0 : Int) < (k : Int) := by omega
 have i1 : inI64 ((n : Int) + 0) := by unfold inI64; omega
 have i2 : inI64 ((0 : Int) + 1) := by unfold inI64; omega
 have z := N26 (bx := bx) (e := e) (f := f) (al := al) (ax := ax) (cnt := cnt) h hk hl hi hn  (k - 1) 1 0 (by omega)
 rw [show (1 : Nat) = 0 + 1 from rfl, nx_take (show 0 < k by omega)] at z
 rw [res_eq]
 simp only [B11, h1, i1, i2, decide_true, if_true, sem_br, sem_ask, sem_nxt, PC.holds, need_true, stepO_nxt]
 exact z
theorem N27 (h : Inv k c) (hk : 0 < k ∧ k ≤ 8) (hl : c.us.length ≤ 90) (hi : i ≤ 100) (hn : n ≤ 255) : ∀ (m j g : Nat), k = j + m →
  res B11 (.c27 k bx e c.us.length (c.us.map eS) (n : Int) g j (((nx n k).take j).map vI) al ax cnt (i : Int) (k : Int) (j : Int) (c.an : Int) c.ab.length (c.ab.map vI) c.am.length (c.am.map vI) (c.bn : Int) c.bb.length (c.bb.map vI) c.bm.length (c.bm.map vI) e g) =
  if c.am.length = 0 then res B11 (.c23 k bx (e + 1) (c.us.length + 1) (c.us.map eS ++ [eS (nx n k)]) al ax cnt ((i + 1 : Nat) : Int) (c.an : Int) c.ab.length (c.ab.map vI) (nx n k).length ((nx n k).map vI) (c.bn : Int) c.bb.length (c.bb.map vI) c.bm.length (c.bm.map vI) (e + 1))
  else res B11 (.c23 k bx e c.us.length (c.us.map eS) al ax cnt ((i + 1 : Nat) : Int) (c.an : Int) c.ab.length (c.ab.map vI) c.am.length (c.am.map vI) (c.bn : Int) c.bb.length (c.bb.map vI) c.bm.length (c.bm.map vI) e)
 | 0, j, g, hj => by
  have hv := nx_v (n := n) hk
  have ha := h.a.1
  have f33 := F33_eq (l := nx n k) (by rw [nx_len]; omega)
  have f47 := F47_v (k := k) (n := (c.an : Int)) (b := nx n k) (by omega) h.va h.vm hv
  have i1 : inI64 ((c.an : Int) + 2) := by unfold inI64; omega
  have i2 : inI64 ((i : Int) + 1) := by unfold inI64; omega
  have ft : fitsN (c.us.length + 1) 24 := ⟨by omega, by omega⟩
  have hj' : j = (nx n k).length := by rw [nx_len]; omega
  have ht : (nx n k).take j = nx n k := List.take_of_length_le (by omega)
  rw [res_eq, ht, hj']
  have h1 : ¬ (((nx n k).length : Int) < (k : Int)) := by rw [nx_len]; omega
  by_cases hm : c.am.length = 0
  ·have hu := h.am0.1 hm
   have q : ((c.us.length : Int) == (c.an : Int) + 2) = false := by rw [beq_eq_false_iff_ne]; omega
   have z := K19 (bl := k) (bx := bx) (e := (e + 1)) (al := al) (ax := ax) (cnt := cnt) (i := i) (inv_prop h hm hv) (by simp only [List.length_append, List.length_singleton]; omega) hi
   simp only [List.length_append, List.length_singleton, List.map_append, List.map_cons, List.map_nil] at z
   rw [if_pos hm]
   simp only [B11, h1, f33, f47, if_pos hm, rS, q, i1, i2, ft, decide_false, Bool.false_eq_true, if_false, bne_self_eq_false, sem_br, sem_ask, sem_nxt, sem_bind_some, sem_sees, PC.holds, need_true, stepO_nxt]
   exact z
  ·have hu : c.us.length = c.an + 2 := by
    rcases h.m with ⟨e1, _⟩ | ⟨e1, _⟩
    ·rw [e1] at hm; exact absurd rfl hm
    ·exact e1
   have q : ((c.us.length : Int) == (c.an : Int) + 2) = true := by rw [beq_iff_eq]; omega
   rw [if_neg hm]
   simp only [B11, h1, f33, f47, if_neg hm, zS, q, i1, i2, decide_false, Bool.false_eq_true, if_false, if_true, bne_self_eq_false, sem_br, sem_ask, sem_nxt, sem_bind_some, sem_sees, PC.holds, need_true, stepO_nxt]
   rfl
 | m + 1, j, g, hj => by
  have hjk : j < k := by omega
  have h1 : (j : Int) < (k : Int) := by omega
  have i1 : inI64 ((n : Int) + (j : Int)) := by unfold inI64; omega
  have i2 : inI64 ((j : Int) + 1) := by unfold inI64; omega
  have ft : fitsN (j + 1) 8 := ⟨by omega, by omega⟩
  have ih := N27 h hk hl hi hn  m (j + 1) (g + 1) (by omega)
  rw [nx_take hjk] at ih
  rw [res_eq]
  simp only [B11, h1, i1, i2, ft, decide_true, if_true, sem_br, sem_ask, sem_nxt, PC.holds, need_true, stepO_nxt]
  exact ih
theorem M25 (h : Inv k c) (hk : 0 < k ∧ k ≤ 8) (hl : c.us.length ≤ 90) (hi : i ≤ 100) (hn : n ≤ 255) :
  res B11 (.c25 k bx e c.us.length (c.us.map eS) (n : Int) al ax cnt (i : Int) (k : Int) 0 (c.an : Int) c.ab.length (c.ab.map vI) c.am.length (c.am.map vI) (c.bn : Int) c.bb.length (c.bb.map vI) c.bm.length (c.bm.map vI) e) =
  if c.am.length = 0 then res B11 (.c23 k bx (e + 1) (c.us.length + 1) (c.us.map eS ++ [eS (nx n k)]) al ax cnt ((i + 1 : Nat) : Int) (c.an : Int) c.ab.length (c.ab.map vI) (nx n k).length ((nx n k).map vI) (c.bn : Int) c.bb.length (c.bb.map vI) c.bm.length (c.bm.map vI) (e + 1))
  else res B11 (.c23 k bx e c.us.length (c.us.map eS) al ax cnt ((i + 1 : Nat) : Int) (c.an : Int) c.ab.length (c.ab.map vI) c.am.length (c.am.map vI) (c.bn : Int) c.bb.length (c.bb.map vI) c.bm.length (c.bm.map vI) e) := by
 have h1 : (0 : Int) < (k : Int) := by omega
 have i1 : inI64 ((n : Int) + 0) := by unfold inI64; omega
 have i2 : inI64 ((0 : Int) + 1) := by unfold inI64; omega
 have z := N27 (bx := bx) (e := e) (al := al) (ax := ax) (cnt := cnt) h hk hl hi hn  (k - 1) 1 0 (by omega)
 rw [show (1 : Nat) = 0 + 1 from rfl, nx_take (show 0 < k by omega)] at z
 rw [res_eq]
 simp only [B11, h1, i1, i2, decide_true, if_true, sem_br, sem_ask, sem_nxt, PC.holds, need_true, stepO_nxt]
 exact z
theorem N17 (h : Inv k c) (hk : 0 < k ∧ k ≤ 8) (hl : c.us.length ≤ 90) (hi : i ≤ 100) (hn : n ≤ 255) (b0 : c.bn = 0) : ∀ (m j g : Nat), k = j + m →
  res B11 (.c17 k bx e c.us.length (c.us.map eS) (n : Int) g j (((nx n k).take j).map vI) al ax cnt (i : Int) (k : Int) (j : Int) (c.an : Int) c.ab.length (c.ab.map vI) c.am.length (c.am.map vI) c.bb.length (c.bb.map vI) e g) =
  if c.am.length = 0 then res B11 (.c9 k bx (e + 1) (c.us.length + 1) (c.us.map eS ++ [eS (nx n k)]) al ax cnt ((i + 1 : Nat) : Int) (c.an : Int) c.ab.length (c.ab.map vI) (nx n k).length ((nx n k).map vI) c.bb.length (c.bb.map vI) (e + 1))
  else res B11 (.c9 k bx e c.us.length (c.us.map eS) al ax cnt ((i + 1 : Nat) : Int) (c.an : Int) c.ab.length (c.ab.map vI) c.am.length (c.am.map vI) c.bb.length (c.bb.map vI) e)
 | 0, j, g, hj => by
  have hv := nx_v (n := n) hk
  have ha := h.a.1
  have f33 := F33_eq (l := nx n k) (by rw [nx_len]; omega)
  have f47 := F47_v (k := k) (n := (c.an : Int)) (b := nx n k) (by omega) h.va h.vm hv
  have i1 : inI64 ((c.an : Int) + 2) := by unfold inI64; omega
  have i2 : inI64 ((i : Int) + 1) := by unfold inI64; omega
  have ft : fitsN (c.us.length + 1) 24 := ⟨by omega, by omega⟩
  have hj' : j = (nx n k).length := by rw [nx_len]; omega
  have ht : (nx n k).take j = nx n k := List.take_of_length_le (by omega)
  rw [res_eq, ht, hj']
  have h1 : ¬ (((nx n k).length : Int) < (k : Int)) := by rw [nx_len]; omega
  by_cases hm : c.am.length = 0
  ·have hu := h.am0.1 hm
   have q : ((c.us.length : Int) == (c.an : Int) + 2) = false := by rw [beq_eq_false_iff_ne]; omega
   have z := K6 (bl := k) (bx := bx) (e := (e + 1)) (al := al) (ax := ax) (cnt := cnt) (i := i) (inv_prop h hm hv) (by simp only [List.length_append, List.length_singleton]; omega) hi b0
   simp only [List.length_append, List.length_singleton, List.map_append, List.map_cons, List.map_nil] at z
   rw [if_pos hm]
   simp only [B11, h1, f33, f47, if_pos hm, rS, q, i1, i2, ft, decide_false, Bool.false_eq_true, if_false, bne_self_eq_false, sem_br, sem_ask, sem_nxt, sem_bind_some, sem_sees, PC.holds, need_true, stepO_nxt]
   exact z
  ·have hu : c.us.length = c.an + 2 := by
    rcases h.m with ⟨e1, _⟩ | ⟨e1, _⟩
    ·rw [e1] at hm; exact absurd rfl hm
    ·exact e1
   have q : ((c.us.length : Int) == (c.an : Int) + 2) = true := by rw [beq_iff_eq]; omega
   rw [if_neg hm]
   simp only [B11, h1, f33, f47, if_neg hm, zS, q, i1, i2, decide_false, Bool.false_eq_true, if_false, if_true, bne_self_eq_false, sem_br, sem_ask, sem_nxt, sem_bind_some, sem_sees, PC.holds, need_true, stepO_nxt]
   rfl
 | m + 1, j, g, hj => by
  have hjk : j < k := by omega
  have h1 : (j : Int) < (k : Int) := by omega
  have i1 : inI64 ((n : Int) + (j : Int)) := by unfold inI64; omega
  have i2 : inI64 ((j : Int) + 1) := by unfold inI64; omega
  have ft : fitsN (j + 1) 8 := ⟨by omega, by omega⟩
  have ih := N17 h hk hl hi hn b0 m (j + 1) (g + 1) (by omega)
  rw [nx_take hjk] at ih
  rw [res_eq]
  simp only [B11, h1, i1, i2, ft, decide_true, if_true, sem_br, sem_ask, sem_nxt, PC.holds, need_true, stepO_nxt]
  exact ih
theorem M12 (h : Inv k c) (hk : 0 < k ∧ k ≤ 8) (hl : c.us.length ≤ 90) (hi : i ≤ 100) (hn : n ≤ 255) (b0 : c.bn = 0) :
  res B11 (.c12 k bx e c.us.length (c.us.map eS) (n : Int) al ax cnt (i : Int) (k : Int) 0 (c.an : Int) c.ab.length (c.ab.map vI) c.am.length (c.am.map vI) c.bb.length (c.bb.map vI) e) =
  if c.am.length = 0 then res B11 (.c9 k bx (e + 1) (c.us.length + 1) (c.us.map eS ++ [eS (nx n k)]) al ax cnt ((i + 1 : Nat) : Int) (c.an : Int) c.ab.length (c.ab.map vI) (nx n k).length ((nx n k).map vI) c.bb.length (c.bb.map vI) (e + 1))
  else res B11 (.c9 k bx e c.us.length (c.us.map eS) al ax cnt ((i + 1 : Nat) : Int) (c.an : Int) c.ab.length (c.ab.map vI) c.am.length (c.am.map vI) c.bb.length (c.bb.map vI) e) := by
 have h1 : (0 : Int) < (k : Int) := by omega
 have i1 : inI64 ((n : Int) + 0) := by unfold inI64; omega
 have i2 : inI64 ((0 : Int) + 1) := by unfold inI64; omega
 have z := N17 (bx := bx) (e := e) (al := al) (ax := ax) (cnt := cnt) h hk hl hi hn b0 (k - 1) 1 0 (by omega)
 rw [show (1 : Nat) = 0 + 1 from rfl, nx_take (show 0 < k by omega)] at z
 rw [res_eq]
 simp only [B11, h1, i1, i2, decide_true, if_true, sem_br, sem_ask, sem_nxt, PC.holds, need_true, stepO_nxt]
 exact z
theorem N21 (h : Inv k c) (hk : 0 < k ∧ k ≤ 8) (hl : c.us.length ≤ 90) (hi : i ≤ 100) (hn : n ≤ 255) (a0 : c.an = 0) (m0 : c.am = []) : ∀ (m j g : Nat), k = j + m →
  res B11 (.c21 k bx 0 c.us.length (c.us.map eS) (n : Int) g j (((nx n k).take j).map vI) al ax cnt (i : Int) (k : Int) (j : Int) c.ab.length (c.ab.map vI) (c.bn : Int) c.bb.length (c.bb.map vI) c.bm.length (c.bm.map vI) g) =
  res B11 (.c23 k bx 1 (c.us.length + 1) (c.us.map eS ++ [eS (nx n k)]) al ax cnt ((i + 1 : Nat) : Int) (c.an : Int) c.ab.length (c.ab.map vI) (nx n k).length ((nx n k).map vI) (c.bn : Int) c.bb.length (c.bb.map vI) c.bm.length (c.bm.map vI) 1)
 | 0, j, g, hj => by
  have hv := nx_v (n := n) hk
  have ha := h.a.1
  have f33 := F33_eq (l := nx n k) (by rw [nx_len]; omega)
  have f47 : F47 0 c.ab.length (c.ab.map vI) 0 [] (nx n k).length ((nx n k).map vI) = some (rS 0 c.ab (nx n k)) := (F47_v (k := k) (n := 0) (m := []) (b := nx n k) (by omega) h.va (.inl rfl) hv).trans (by simp only [List.length_nil, if_true])
  have hm : c.am.length = 0 := by rw [m0]; rfl
  have i2 : inI64 ((i : Int) + 1) := by unfold inI64; omega
  have ft : fitsN (c.us.length + 1) 24 := ⟨by omega, by omega⟩
  have hj' : j = (nx n k).length := by rw [nx_len]; omega
  have ht : (nx n k).take j = nx n k := List.take_of_length_le (by omega)
  rw [res_eq, ht, hj']
  have h1 : ¬ (((nx n k).length : Int) < (k : Int)) := by rw [nx_len]; omega
  have hu := h.am0.1 hm
  have q : ((c.us.length : Int) == 2) = false := by rw [beq_eq_false_iff_ne]; omega
  have z := K19 (bl := k) (bx := bx) (e := 1) (al := al) (ax := ax) (cnt := cnt) (i := i) (inv_prop h hm hv) (by simp only [List.length_append, List.length_singleton]; omega) hi
  simp only [List.length_append, List.length_singleton, List.map_append, List.map_cons, List.map_nil] at z
  rw [a0] at z ⊢
  simp only [B11, h1, f33, f47, rS, q, i2, ft, decide_false, Bool.false_eq_true, if_false, bne_self_eq_false, sem_br, sem_ask, sem_nxt, sem_bind_some, sem_sees, PC.holds, need_true, stepO_nxt]
  exact z
 | m + 1, j, g, hj => by
  have hjk : j < k := by omega
  have h1 : (j : Int) < (k : Int) := by omega
  have i1 : inI64 ((n : Int) + (j : Int)) := by unfold inI64; omega
  have i2 : inI64 ((j : Int) + 1) := by unfold inI64; omega
  have ft : fitsN (j + 1) 8 := ⟨by omega, by omega⟩
  have ih := N21 h hk hl hi hn a0 m0 m (j + 1) (g + 1) (by omega)
  rw [nx_take hjk] at ih
  rw [res_eq]
  simp only [B11, h1, i1, i2, ft, decide_true, if_true, sem_br, sem_ask, sem_nxt, PC.holds, need_true, stepO_nxt]
  exact ih
theorem M16 (h : Inv k c) (hk : 0 < k ∧ k ≤ 8) (hl : c.us.length ≤ 90) (hi : i ≤ 100) (hn : n ≤ 255) (a0 : c.an = 0) (m0 : c.am = []) :
  res B11 (.c16 k bx 0 c.us.length (c.us.map eS) (n : Int) al ax cnt (i : Int) (k : Int) 0 c.ab.length (c.ab.map vI) (c.bn : Int) c.bb.length (c.bb.map vI) c.bm.length (c.bm.map vI)) =
  res B11 (.c23 k bx 1 (c.us.length + 1) (c.us.map eS ++ [eS (nx n k)]) al ax cnt ((i + 1 : Nat) : Int) (c.an : Int) c.ab.length (c.ab.map vI) (nx n k).length ((nx n k).map vI) (c.bn : Int) c.bb.length (c.bb.map vI) c.bm.length (c.bm.map vI) 1) := by
 have h1 : (0 : Int) < (k : Int) := by omega
 have i1 : inI64 ((n : Int) + 0) := by unfold inI64; omega
 have i2 : inI64 ((0 : Int) + 1) := by unfold inI64; omega
 have z := N21 (bx := bx) (al := al) (ax := ax) (cnt := cnt) h hk hl hi hn a0 m0 (k - 1) 1 0 (by omega)
 rw [show (1 : Nat) = 0 + 1 from rfl, nx_take (show 0 < k by omega)] at z
 rw [res_eq]
 simp only [B11, h1, i1, i2, decide_true, if_true, sem_br, sem_ask, sem_nxt, PC.holds, need_true, stepO_nxt]
 exact z
theorem N5 (h : Inv k c) (hk : 0 < k ∧ k ≤ 8) (hl : c.us.length ≤ 90) (hi : i ≤ 100) (hn : n ≤ 255) (a0 : c.an = 0) (m0 : c.am = []) (b0 : c.bn = 0) (ab : c.bb = c.ab) : ∀ (m j g : Nat), k = j + m →
  res B11 (.c5 k bx 0 c.us.length (c.us.map eS) (n : Int) g j (((nx n k).take j).map vI) al ax cnt (i : Int) (k : Int) (j : Int) c.ab.length (c.ab.map vI) g) =
  res B11 (.c9 k bx 1 (c.us.length + 1) (c.us.map eS ++ [eS (nx n k)]) al ax cnt ((i + 1 : Nat) : Int) (c.an : Int) c.ab.length (c.ab.map vI) (nx n k).length ((nx n k).map vI) c.bb.length (c.bb.map vI) 1)
 | 0, j, g, hj => by
  have hv := nx_v (n := n) hk
  have ha := h.a.1
  have f33 := F33_eq (l := nx n k) (by rw [nx_len]; omega)
  have f47 : F47 0 c.ab.length (c.ab.map vI) 0 [] (nx n k).length ((nx n k).map vI) = some (rS 0 c.ab (nx n k)) := (F47_v (k := k) (n := 0) (m := []) (b := nx n k) (by omega) h.va (.inl rfl) hv).trans (by simp only [List.length_nil, if_true])
  have hm : c.am.length = 0 := by rw [m0]; rfl
  have i2 : inI64 ((i : Int) + 1) := by unfold inI64; omega
  have ft : fitsN (c.us.length + 1) 24 := ⟨by omega, by omega⟩
  have hj' : j = (nx n k).length := by rw [nx_len]; omega
  have ht : (nx n k).take j = nx n k := List.take_of_length_le (by omega)
  rw [res_eq, ht, hj']
  have h1 : ¬ (((nx n k).length : Int) < (k : Int)) := by rw [nx_len]; omega
  have hu := h.am0.1 hm
  have q : ((c.us.length : Int) == 2) = false := by rw [beq_eq_false_iff_ne]; omega
  have z := K6 (bl := k) (bx := bx) (e := 1) (al := al) (ax := ax) (cnt := cnt) (i := i) (inv_prop h hm hv) (by simp only [List.length_append, List.length_singleton]; omega) hi b0
  simp only [List.length_append, List.length_singleton, List.map_append, List.map_cons, List.map_nil] at z
  rw [a0] at z ⊢
  rw [ab] at z ⊢
  simp only [B11, h1, f33, f47, rS, q, i2, ft, decide_false, Bool.false_eq_true, if_false, bne_self_eq_false, sem_br, sem_ask, sem_nxt, sem_bind_some, sem_sees, PC.holds, need_true, stepO_nxt]
  exact z
 | m + 1, j, g, hj => by
  have hjk : j < k := by omega
  have h1 : (j : Int) < (k : Int) := by omega
  have i1 : inI64 ((n : Int) + (j : Int)) := by unfold inI64; omega
  have i2 : inI64 ((j : Int) + 1) := by unfold inI64; omega
  have ft : fitsN (j + 1) 8 := ⟨by omega, by omega⟩
  have ih := N5 h hk hl hi hn a0 m0 b0 ab m (j + 1) (g + 1) (by omega)
  rw [nx_take hjk] at ih
  rw [res_eq]
  simp only [B11, h1, i1, i2, ft, decide_true, if_true, sem_br, sem_ask, sem_nxt, PC.holds, need_true, stepO_nxt]
  exact ih
theorem M2 (h : Inv k c) (hk : 0 < k ∧ k ≤ 8) (hl : c.us.length ≤ 90) (hi : i ≤ 100) (hn : n ≤ 255) (a0 : c.an = 0) (m0 : c.am = []) (b0 : c.bn = 0) (ab : c.bb = c.ab) :
  res B11 (.c2 k bx 0 c.us.length (c.us.map eS) (n : Int) al ax cnt (i : Int) (k : Int) 0 c.ab.length (c.ab.map vI)) =
  res B11 (.c9 k bx 1 (c.us.length + 1) (c.us.map eS ++ [eS (nx n k)]) al ax cnt ((i + 1 : Nat) : Int) (c.an : Int) c.ab.length (c.ab.map vI) (nx n k).length ((nx n k).map vI) c.bb.length (c.bb.map vI) 1) := by
 have h1 : (0 : Int) < (k : Int) := by omega
 have i1 : inI64 ((n : Int) + 0) := by unfold inI64; omega
 have i2 : inI64 ((0 : Int) + 1) := by unfold inI64; omega
 have z := N5 (bx := bx) (al := al) (ax := ax) (cnt := cnt) h hk hl hi hn a0 m0 b0 ab (k - 1) 1 0 (by omega)
 rw [show (1 : Nat) = 0 + 1 from rfl, nx_take (show 0 < k by omega)] at z
 rw [res_eq]
 simp only [B11, h1, i1, i2, decide_true, if_true, sem_br, sem_ask, sem_nxt, PC.holds, need_true, stepO_nxt]
 exact z
end
end
section
open Go Go.RowKit
def eA (x : Int × Int) : List DV := [.v (.int .u8 x.1), .v (.int .u8 x.2)]
def aA (l : List (Int × Int)) (i : Nat) : Int × Int := l.getD i (0, 0)
section
variable {l : List (Int × Int)} {i : Nat}
theorem aE (hi : i < l.length) : (l.flatMap eA).drop (i * 2) = .v (.int .u8 (aA l i).1) :: .v (.int .u8 (aA l i).2) :: (l.drop (i + 1)).flatMap eA := by
 rw [fm_drop (enc := eA) (m := 2) (fun _ => rfl), List.drop_eq_getElem_cons hi, List.flatMap_cons]
 unfold aA
 rw [List.getD_eq_getElem?_getD, List.getElem?_eq_getElem hi]; rfl
theorem a_len (l : List (Int × Int)) : (l.flatMap eA).length = l.length * 2 := fm_len (enc := eA) (m := 2) (fun _ => rfl) l
theorem cel_d (xs : List DV) (k j : Nat) : cel xs (k + j) = cel (xs.drop k) j := by
 unfold cel; simp [List.getD_eq_getElem?_getD, List.getElem?_drop]
theorem a0_ (hi : i < l.length) : dI (cel (l.flatMap eA) (i * 2)) = (aA l i).1 := by
 rw [show i * 2 = i * 2 + 0 from rfl, cel_d, aE hi]; rfl
theorem a1_ (hi : i < l.length) : dI (cel (l.flatMap eA) (i * 2 + 1)) = (aA l i).2 := by rw [cel_d, aE hi]; rfl
theorem at_ (hi : i < l.length) : List.map AV.d (List.take 2 (List.drop (i * 2) (l.flatMap eA))) = [AV.d (DV.v (Value.int IntKind.u8 (aA l i).1)), AV.d (DV.v (Value.int IntKind.u8 (aA l i).2))] := by rw [aE hi]; rfl
theorem ar_ (hi : i < l.length) : i * 2 ≤ (l.flatMap eA).length := by rw [a_len]; omega
theorem aR2 (hi : i < l.length) : 2 ≤ (List.drop (i * 2) (l.flatMap eA)).length := by
 rw [aE hi]; simp only [List.length_cons]; omega
end
def U8 (l : List (Int × Int)) : Prop := ∀ x ∈ l, (0 ≤ x.1 ∧ x.1 ≤ 255) ∧ 0 ≤ x.2 ∧ x.2 ≤ 255
theorem aA_u8 {l : List (Int × Int)} {i : Nat} (h : U8 l) (hi : i < l.length) : ∃ n : Nat, (aA l i).2 = (n : Int) ∧ n ≤ 255 := by
 have : aA l i ∈ l := by
  unfold aA
  rw [List.getD_eq_getElem?_getD, List.getElem?_eq_getElem hi]; exact List.getElem_mem hi
 obtain ⟨_, h1, h2⟩ := h _ this
 exact ⟨(aA l i).2.toNat, by omega, by omega⟩
theorem wrap_u8 {n : Nat} (h : n ≤ 255) : IntKind.i64.wrap (n : Int) = (n : Int) := by
 cases n with
 | zero => rfl
 | succ m => exact wrap_n (n := (m : Int)) (by omega)
theorem tmodN (n m : Nat) : (n : Int).tmod (m : Int) = ((n % m : Nat) : Int) := by
 rw [Int.tmod_eq_emod_of_nonneg (by omega)]; rfl
theorem rs_get {rs : List Nat} {j : Nat} (h : j < rs.length) : dI (cel (rs.map vN) j) = ((rs.getD j 0 : Nat) : Int) ∧ Option.map AV.d (List.drop j (rs.map vN))[0]? = some (AV.d (DV.v (Value.int IntKind.i64 ((rs.getD j 0 : Nat) : Int)))) ∧ rs.getD j 0 ∈ rs := by
 refine ⟨?_, ?_, ?_⟩
 ·unfold cel; simp only [List.getD_eq_getElem?_getD, List.getElem?_map, List.getElem?_eq_getElem h]; rfl
 ·simp only [List.getElem?_drop, Nat.add_zero, List.getElem?_map, List.getElem?_eq_getElem h, List.getD_eq_getElem?_getD]; rfl
 ·simp only [List.getD_eq_getElem?_getD, List.getElem?_eq_getElem h, Option.getD_some]; exact List.getElem_mem h
end
section
open Go Go.RowKit
def PA (k : Nat) (bx : List DV) (acts : List (Int × Int)) (i : Nat) : Prop := ∀ c : Cf, Inv k c → c.us.length ≤ i + 1 → c.rs.length ≤ i →
 (∀ e f, res B11 (.c22 k bx e c.us.length (c.us.map eS) f c.rs.length (c.rs.map vN) acts.length (acts.flatMap eA) (acts.length : Int) (i : Int) (c.an : Int) c.ab.length (c.ab.map vI) c.am.length (c.am.map vI) (c.bn : Int) c.bb.length (c.bb.map vI) c.bm.length (c.bm.map vI) e f) = some true) ∧
 (c.rs = [] → ∀ e, res B11 (.c23 k bx e c.us.length (c.us.map eS) acts.length (acts.flatMap eA) (acts.length : Int) (i : Int) (c.an : Int) c.ab.length (c.ab.map vI) c.am.length (c.am.map vI) (c.bn : Int) c.bb.length (c.bb.map vI) c.bm.length (c.bm.map vI) e) = some true) ∧
 (c.rs = [] → c.bn = 0 → c.bm = [] → ∀ e, res B11 (.c9 k bx e c.us.length (c.us.map eS) acts.length (acts.flatMap eA) (acts.length : Int) (i : Int) (c.an : Int) c.ab.length (c.ab.map vI) c.am.length (c.am.map vI) c.bb.length (c.bb.map vI) e) = some true) ∧
 (c.rs = [] → c.an = 0 → c.am = [] → res B11 (.c11 k bx 0 c.us.length (c.us.map eS) acts.length (acts.flatMap eA) (acts.length : Int) (i : Int) c.ab.length (c.ab.map vI) (c.bn : Int) c.bb.length (c.bb.map vI) c.bm.length (c.bm.map vI)) = some true) ∧
 (c.rs = [] → c.an = 0 → c.am = [] → c.bn = 0 → c.bm = [] → c.bb = c.ab → res B11 (.c1 k bx 0 c.us.length (c.us.map eS) acts.length (acts.flatMap eA) (acts.length : Int) (i : Int) c.ab.length (c.ab.map vI)) = some true)
section
variable {k : Nat} {c : Cf} {bx : List DV} {acts : List (Int × Int)} {i : Nat}
theorem F13 (P : PA k bx acts (i + 1)) (hi : i ≤ 24) (h : Inv k c) (hl : c.us.length ≤ i + 2) (hr : c.rs.length ≤ i + 1) (e f : Nat) :
  res B11 (.c13 k bx e c.us.length (c.us.map eS) f c.rs.length (c.rs.map vN) acts.length (acts.flatMap eA) (acts.length : Int) (i : Int) (c.an : Int) c.ab.length (c.ab.map vI) c.am.length (c.am.map vI) (c.bn : Int) c.bb.length (c.bb.map vI) c.bm.length (c.bm.map vI) e f) = some true := by
 rw [res_eq]
 simp only [B11, sem_nxt, stepO_nxt]
 exact (K18 h (by omega) (by omega)).trans ((P c h hl hr).1 e f)
theorem H22 (hu : U8 acts) (hi : i < acts.length) (hal : acts.length ≤ 24) (hk : 0 < k ∧ k ≤ 8) (P : PA k bx acts (i + 1)) (h : Inv k c) (hl : c.us.length ≤ i + 1) (hr : c.rs.length ≤ i) (e f : Nat) :
  res B11 (.c22 k bx e c.us.length (c.us.map eS) f c.rs.length (c.rs.map vN) acts.length (acts.flatMap eA) (acts.length : Int) (i : Int) (c.an : Int) c.ab.length (c.ab.map vI) c.am.length (c.am.map vI) (c.bn : Int) c.bb.length (c.bb.map vI) c.bm.length (c.bm.map vI) e f) = some true := by
 obtain ⟨n, hn, hn2⟩ := aA_u8 hu hi
 have w : IntKind.i64.wrap (aA acts i).2 = (n : Int) := by rw [hn]; exact wrap_u8 hn2
 have h1 : (i : Int) < (acts.length : Int) := by omega
 have i2 : inI64 ((i : Int) + 1) := by unfold inI64; omega
 have ha := h.a.1
 have hb := h.b
 have hpc := P c h (by omega) (by omega)
 rw [res_eq]
 simp only [B11, h1, a0_ hi, a1_ hi, at_ hi, ar_ hi, aR2 hi, w, decide_true, if_true, sem_br, sem_ask, PC.holds, need_true, Int.toNat_natCast, Int.natCast_nonneg]
 cases c0 : ((aA acts i).1.tmod 5 == 0) with
 | true =>
  simp only [if_true, sem_nxt, stepO_nxt]
  have z := M24 (bx := bx) (e := e) (f := f) (al := acts.length) (ax := acts.flatMap eA) (cnt := (acts.length : Int)) h hk (show c.us.length ≤ 90 by omega) (show i ≤ 100 by omega) hn2
  rw [z]
  by_cases hm : c.am.length = 0
  ·rw [if_pos hm]
   have q := (P _ (inv_prop h hm (nx_v (n := n) hk)) (by simp only [List.length_append, List.length_singleton]; omega) (show c.rs.length ≤ i + 1 by omega)).1 (e + 1) f
   simp only [List.length_append, List.length_singleton, List.map_append, List.map_cons, List.map_nil] at q
   exact q
  ·rw [if_neg hm]
   exact hpc.1 e f
 | false =>
 simp only [Bool.false_eq_true, if_false]
 cases c1 : ((aA acts i).1.tmod 5 == 1) with
 | true =>
  have hq : n % c.us.length < c.us.length := Nat.mod_lt _ (by omega)
  have ne : ((c.us.length : Int) ≠ 0) := by omega
  simp only [if_true, sem_ask, PC.holds, need_true, ne, ne_eq, not_false_eq_true, tmodN, sem_br]
  by_cases hz : n % c.us.length = 0
  ·have hz2 : (((n % c.us.length : Nat) : Int) == 0) = true := by rw [hz]; rfl
   simp only [hz2, if_true, sem_ask, PC.holds, i2, need_true, sem_nxt, stepO_nxt]
   exact hpc.1 e f
  ·have hz2 : (((n % c.us.length : Nat) : Int) == 0) = false := by rw [beq_eq_false_iff_ne]; omega
   revert hq hz hz2
   generalize n % c.us.length = q
   intro hq hz hz2
   have f33 := F33_eq (l := uD c.us q) (by have := (h.vu hq).le; omega)
   have f57 := F57_v (k := k) (n := (c.bn : Int)) (a := (q : Int)) (by omega) h.vb h.vn (h.vu hq) (by omega)
   have q1 : (q : Int) < (c.us.length : Int) := by omega
   have i3 : inI64 ((c.bn : Int) + 1) := by unfold inI64; omega
   have ft : fitsN (c.rs.length + 1) 8 := ⟨by omega, by omega⟩
   simp only [hz2, Bool.false_eq_true, if_false, Int.toNat_natCast, Nat.mul_one, us_n hq, us_l hq, us_a hq, f33, f57, q1, i3, ft, Int.natCast_nonneg, List.length_map, Nat.le_of_lt hq, sem_bind_some, sem_sees, sem_ask, sem_br, PC.holds, need_true]
   by_cases d1 : (q : Int) > (c.bn : Int) + 1
   ·simp only [d1, if_true, decide_true, zR, bne_self_eq_false, Bool.false_eq_true, if_false, sem_ask, PC.holds, i2, need_true, sem_nxt, stepO_nxt]
    exact hpc.1 e f
   ·by_cases d2 : (q : Int) ≤ (c.bn : Int)
    ·have e1 : ¬ ((c.bn : Int) < (c.bn : Int)) := by omega
     have e2 : ¬ ((c.bn : Int) > (c.bn : Int) + 1) := by omega
     simp only [d1, d2, e1, e2, if_true, if_false, decide_false, rR, bne_self_eq_false, Bool.false_eq_true, beq_self_eq_true, ft, sem_ask, sem_br, PC.holds, i2, i3, need_true, sem_nxt, stepO_nxt]
     rw [res_eq]
     simp only [B11, sem_nxt, stepO_nxt]
     have z := K18 (bl := k) (bx := bx) (e := e) (f := f + 1) (al := acts.length) (ax := acts.flatMap eA) (cnt := (acts.length : Int)) (i := i) (inv_old h) (show c.us.length ≤ 100 by omega) (by omega)
     have y := (P _ (inv_old h) (show c.us.length ≤ i + 1 + 1 by omega) (by simp only [List.length_append, List.length_singleton]; omega)).1 e (f + 1)
     simp only [List.length_append, List.length_singleton, List.map_append, List.map_cons, List.map_nil] at z y
     exact z.trans y
    ·have e0 : q = c.bn + 1 := by omega
     subst e0
     have e1 : ¬ (((c.bn + 1 : Nat) : Int) < (c.bn : Int)) := by omega
     have f57' : (if ((c.bn + 1 : Nat) : Int) > (c.bn : Int) + 1 then zR 7 else if ((c.bn + 1 : Nat) : Int) ≤ (c.bn : Int) then rR (c.bn : Int) c.bb c.bm (c.bn : Int) else if c.bm.length = 0 then rR (c.bn : Int) c.bb (uD c.us (c.bn + 1)) ((c.bn + 1 : Nat) : Int) else if c.bm = uD c.us (c.bn + 1) then rR (c.bn : Int) c.bb c.bm ((c.bn + 1 : Nat) : Int) else zR 24) = rR (c.bn : Int) c.bb (uD c.us (c.bn + 1)) ((c.bn + 1 : Nat) : Int) := by
      rw [if_neg d1, if_neg d2]
      by_cases hm : c.bm.length = 0
      ·rw [if_pos hm]
      ·rw [if_neg hm, if_pos (bm_new h hm), bm_new h hm]
     rw [f57']
     simp only [d1, e1, rR, decide_false, bne_self_eq_false, Bool.false_eq_true, if_false, beq_self_eq_true, ft, sem_ask, sem_br, PC.holds, i2, i3, need_true, sem_nxt, stepO_nxt]
     rw [res_eq]
     simp only [B11, sem_nxt, stepO_nxt]
     have z := K18 (bl := k) (bx := bx) (e := e) (f := f + 1) (al := acts.length) (ax := acts.flatMap eA) (cnt := (acts.length : Int)) (i := i) (inv_new h hq) (show c.us.length ≤ 100 by omega) (by omega)
     have y := (P _ (inv_new h hq) (show c.us.length ≤ i + 1 + 1 by omega) (by simp only [List.length_append, List.length_singleton]; omega)).1 e (f + 1)
     simp only [List.length_append, List.length_singleton, List.map_append, List.map_cons, List.map_nil] at z y
     exact z.trans y
 | false =>
 simp only [Bool.false_eq_true, if_false]
 cases c2 : ((aA acts i).1.tmod 5 == 2) with
 | true =>
  simp only [if_true, sem_br]
  by_cases hz : c.rs.length = 0
  ·have hz2 : ((c.rs.length : Int) == 0) = true := by rw [hz]; rfl
   simp only [hz2, if_true, sem_ask, PC.holds, i2, need_true, sem_nxt, stepO_nxt]
   exact hpc.1 e f
  ·have hz2 : ((c.rs.length : Int) == 0) = false := by rw [beq_eq_false_iff_ne]; omega
   have hq : n % c.rs.length < c.rs.length := Nat.mod_lt _ (by omega)
   have ne : ((c.rs.length : Int) ≠ 0) := by omega
   simp only [hz2, Bool.false_eq_true, if_false, tmodN, Int.toNat_natCast, Nat.mul_one]
   revert hq
   generalize n % c.rs.length = q
   intro hq
   obtain ⟨g1, g2, g3⟩ := rs_get hq
   obtain ⟨r1, r2, r3⟩ := h.r _ g3
   have q1 : (q : Int) < (c.rs.length : Int) := by omega
   have i3 : inI64 ((c.an : Int) + 1) := by unfold inI64; omega
   simp only [g1]
   revert g1 g2 g3 r1 r2 r3
   generalize c.rs.getD q 0 = r
   intro g1 g2 g3 r1 r2 r3
   have f49 := F49_v (k := k) (n := (c.an : Int)) (a := (r : Int)) (by omega) h.va h.vm (by omega)
   by_cases d1 : r = c.an + 1
   ·subst d1
    obtain ⟨hm, hI⟩ := inv_conf h g3
    rw [if_pos (by omega), if_neg hm] at f49
    have hl2 : c.us.length = c.an + 2 := by
     rcases h.m with ⟨e1, _⟩ | ⟨e1, _⟩
     ·rw [e1] at hm; exact absurd rfl hm
     ·exact e1
    have hus : uD c.us (c.an + 1) = c.am := by
     rcases h.m with ⟨e1, _⟩ | ⟨_, e1⟩
     ·rw [e1] at hm; exact absurd rfl hm
     ·exact e1.symm
    have hlt : c.an + 1 < c.us.length := by omega
    have f65 := F65_eq c.am (by have := h.vm.le; omega)
    have e1 : ¬ (((c.an + 1 : Nat) : Int) < (c.an : Int)) := by omega
    have e2 : ¬ (((c.an + 1 : Nat) : Int) > (c.an : Int) + 1) := by omega
    have e3 : ¬ (((c.an + 1 : Nat) : Int) ≥ (c.us.length : Int)) := by omega
    have e4 : ((c.an + 1 : Nat) : Int) < (c.us.length : Int) := by omega
    simp only [f49, rS, ne, ne_eq, not_false_eq_true, g2, q1, i3, e1, e2, e3, e4, us_n hlt, us_l hlt, us_a hlt, hus, f65, Int.toNat_natCast, Nat.mul_one, Int.natCast_nonneg, List.length_map, Nat.le_of_lt hq, Nat.le_of_lt hlt, bne_self_eq_false, decide_false, Bool.false_eq_true, if_false, Bool.not_true, sem_bind_some, sem_sees, sem_ask, sem_br, PC.holds, need_true, sem_nxt, stepO_nxt]
    exact F13 P (by omega) hI (show c.us.length ≤ i + 2 by omega) (show c.rs.length ≤ i + 1 by omega) e f
   ·rw [if_neg (by omega), if_neg (by omega)] at f49
    have f65 := F65_eq c.ab (by have := h.va.le; omega)
    have hus : uD c.us c.an = c.ab := h.a.2.symm
    have e1 : ¬ ((c.an : Int) < (c.an : Int)) := by omega
    have e2 : ¬ ((c.an : Int) > (c.an : Int) + 1) := by omega
    have e3 : ¬ ((c.an : Int) ≥ (c.us.length : Int)) := by omega
    have e4 : (c.an : Int) < (c.us.length : Int) := by omega
    simp only [f49, rS, ne, ne_eq, not_false_eq_true, g2, q1, i3, e1, e2, e3, e4, us_n ha, us_l ha, us_a ha, hus, f65, Int.toNat_natCast, Nat.mul_one, Int.natCast_nonneg, List.length_map, Nat.le_of_lt hq, Nat.le_of_lt ha, bne_self_eq_false, decide_false, Bool.false_eq_true, if_false, Bool.not_true, sem_bind_some, sem_sees, sem_ask, sem_br, PC.holds, need_true, sem_nxt, stepO_nxt]
    exact F13 P (by omega) h (by omega) (by omega) e f
 | false =>
 simp only [Bool.false_eq_true, if_false]
 have hub : uD c.us c.bn = c.bb := h.b.2.2.symm
 have hbl : c.bn < c.us.length := by omega
 cases c3 : ((aA acts i).1.tmod 5 == 3) with
 | true =>
  have f59 := F59_v (k := k) (n := (c.bn : Int)) (a := (c.an : Int)) (by omega) h.vb h.vn (by omega)
  rw [if_neg (by omega)] at f59
  by_cases d1 : c.an = c.bn
  ·rw [if_pos (by omega)] at f59
   have hE : c.ab = c.bb := by rw [h.a.2, d1, hub]
   have f65 := F65_eq c.bb (by have := h.vb.le; omega)
   have e1 : ((c.bn : Int) != (c.an : Int)) = false := by rw [d1]; exact bne_self_eq_false _
   have z := F13 P (by omega) h (by omega) (by omega) e f
   rw [hE] at z ⊢
   simp only [f59, rT, f65, e1, bne_self_eq_false, Bool.false_eq_true, if_false, if_true, Bool.not_true, sem_bind_some, sem_sees, sem_ask, sem_br, PC.holds, need_true, beq_self_eq_true, sem_nxt, stepO_nxt]
   exact z
  ·obtain ⟨hm, hE, hI⟩ := inv_take h (by omega)
   rw [if_neg (by omega), if_neg (by omega), if_neg hm] at f59
   have f65 := F65_eq c.ab (by have := h.va.le; omega)
   have z := F13 P (by omega) hI (show c.us.length ≤ i + 2 by omega) (show c.rs.length ≤ i + 1 by omega) e f
   rw [hE] at z f59 ⊢
   simp only [f59, rT, f65, bne_self_eq_false, Bool.false_eq_true, if_false, if_true, Bool.not_true, sem_bind_some, sem_sees, sem_ask, sem_br, PC.holds, need_true, beq_self_eq_true, sem_nxt, stepO_nxt]
   exact z
 | false =>
  have i3 : inI64 ((c.an : Int) + 1) := by unfold inI64; omega
  have ne : ((c.an : Int) + 1 ≠ 0) := by omega
  have tm : (n : Int).tmod ((c.an : Int) + 1) = ((n % (c.an + 1) : Nat) : Int) := tmodN n (c.an + 1)
  have hq : n % (c.an + 1) < c.an + 1 := Nat.mod_lt _ (by omega)
  simp only [Bool.false_eq_true, if_false, i3, ne, ne_eq, not_false_eq_true, tm, sem_ask, PC.holds, need_true, Int.toNat_natCast, Nat.mul_one, Int.natCast_nonneg]
  revert hq
  generalize n % (c.an + 1) = q
  intro hq
  have hql : q < c.us.length := by omega
  have q1 : (q : Int) < (c.us.length : Int) := by omega
  have f59 := F59_v (k := k) (n := (c.bn : Int)) (a := (q : Int)) (by omega) h.vb h.vn (by omega)
  by_cases d0 : q < c.bn
  ·rw [if_pos (by omega)] at f59
   have e1 : (q : Int) < (c.bn : Int) := by omega
   simp only [f59, zT, e1, i2, decide_true, beq_self_eq_true, if_true, sem_bind_some, sem_sees, sem_ask, sem_br, PC.holds, need_true, sem_nxt, stepO_nxt]
   exact hpc.1 e f
  ·rw [if_neg (by omega)] at f59
   by_cases d1 : q = c.bn
   ·subst d1
    rw [if_pos rfl] at f59
    have f65 := F65_eq c.bb (by have := h.vb.le; omega)
    simp only [f59, rT, q1, Int.natCast_nonneg, us_n hbl, us_l hbl, us_a hbl, hub, f65, List.length_map, Nat.le_of_lt hbl, show ((0 : Int) == 35) = false from rfl, bne_self_eq_false, Bool.false_eq_true, if_false, if_true, Bool.not_true, sem_bind_some, sem_sees, sem_ask, sem_br, PC.holds, need_true, beq_self_eq_true, sem_nxt, stepO_nxt]
    exact F13 P (by omega) h (by omega) (by omega) e f
   ·have e0 : q = c.an := by omega
    obtain ⟨hm, hE, hI⟩ := inv_take h (by omega)
    subst e0
    rw [if_neg (by omega), if_neg (by omega), if_neg hm] at f59
    have f65 := F65_eq c.ab (by have := h.va.le; omega)
    have hua : uD c.us c.an = c.ab := h.a.2.symm
    have z := F13 P (by omega) hI (show c.us.length ≤ i + 2 by omega) (show c.rs.length ≤ i + 1 by omega) e f
    rw [hE] at z f59 ⊢
    simp only [f59, rT, q1, Int.natCast_nonneg, us_n ha, us_l ha, us_a ha, hua, f65, List.length_map, Nat.le_of_lt ha, show ((0 : Int) == 35) = false from rfl, bne_self_eq_false, Bool.false_eq_true, if_false, if_true, Bool.not_true, sem_bind_some, sem_sees, sem_ask, sem_br, PC.holds, need_true, beq_self_eq_true, sem_nxt, stepO_nxt]
    exact z
end
end
section
open Go Go.RowKit
section
variable {k : Nat} {c : Cf} {bx : List DV} {acts : List (Int × Int)} {i : Nat}
theorem F14 (P : PA k bx acts (i + 1)) (hi : i ≤ 24) (h : Inv k c) (hrs : c.rs = []) (hl : c.us.length ≤ i + 2) (e : Nat) :
  res B11 (.c14 k bx e c.us.length (c.us.map eS) acts.length (acts.flatMap eA) (acts.length : Int) (i : Int) (c.an : Int) c.ab.length (c.ab.map vI) c.am.length (c.am.map vI) (c.bn : Int) c.bb.length (c.bb.map vI) c.bm.length (c.bm.map vI) e) = some true := by
 rw [res_eq]
 simp only [B11, sem_nxt, stepO_nxt]
 exact (K19 h (by omega) (by omega)).trans ((P c h hl (by rw [hrs]; simp)).2.1 hrs e)
theorem F4_ (P : PA k bx acts (i + 1)) (hi : i ≤ 24) (h : Inv k c) (hrs : c.rs = []) (a0 : c.an = 0) (m0 : c.am = []) (hl : c.us.length ≤ i + 2) :
  res B11 (.c4 k bx 0 c.us.length (c.us.map eS) acts.length (acts.flatMap eA) (acts.length : Int) (i : Int) c.ab.length (c.ab.map vI) (c.bn : Int) c.bb.length (c.bb.map vI) c.bm.length (c.bm.map vI)) = some true := by
 rw [res_eq]
 simp only [B11, sem_nxt, stepO_nxt]
 exact (K8 h (by omega) (by omega) a0).trans ((P c h hl (by rw [hrs]; simp)).2.2.2.1 hrs a0 m0)
theorem H11 (hu : U8 acts) (hi : i < acts.length) (hal : acts.length ≤ 24) (hk : 0 < k ∧ k ≤ 8) (P : PA k bx acts (i + 1)) (h : Inv k c) (hrs : c.rs = []) (a0 : c.an = 0) (m0 : c.am = []) :
  res B11 (.c11 k bx 0 c.us.length (c.us.map eS) acts.length (acts.flatMap eA) (acts.length : Int) (i : Int) c.ab.length (c.ab.map vI) (c.bn : Int) c.bb.length (c.bb.map vI) c.bm.length (c.bm.map vI)) = some true := by
 obtain ⟨n, hn, hn2⟩ := aA_u8 hu hi
 have w : IntKind.i64.wrap (aA acts i).2 = (n : Int) := by rw [hn]; exact wrap_u8 hn2
 have h1 : (i : Int) < (acts.length : Int) := by omega
 have i2 : inI64 ((i : Int) + 1) := by unfold inI64; omega
 have hu1 : c.us.length = 1 := by have := h.am0.1 (by rw [m0]; rfl); omega
 have b0 : c.bn = 0 := by have := h.b.1; omega
 have bm0 : c.bm = [] := by
  rcases h.n with e | ⟨e, _⟩
  ·exact e
  ·omega
 have hE : c.ab = c.bb := by rw [h.a.2, h.b.2.2, a0, b0]
 have hpc := (P c h (by omega) (by rw [hrs]; simp)).2.2.2.1 hrs a0 m0
 have ha : 0 < c.us.length := by omega
 have hub : uD c.us 0 = c.bb := by rw [h.b.2.2, b0]
 have f65 := F65_eq c.bb (by have := h.vb.le; omega)
 have z := F4_ P (by omega) h hrs a0 m0 (by omega)
 have f59 : F59 (c.bn : Int) c.bb.length (c.bb.map vI) c.bm.length (c.bm.map vI) 0 = some (rT (c.bn : Int) c.bb c.bm c.bb) := by
  have := F59_v (k := k) (n := (c.bn : Int)) (a := 0) (by omega) h.vb h.vn (by omega)
  rw [if_neg (by omega), if_pos (by omega)] at this
  exact this
 have t0 : ((c.bn : Int) != 0) = false := by rw [b0]; rfl
 have t1 : (n : Int).tmod 1 = 0 := Int.tmod_one _
 rw [res_eq]
 simp only [B11, h1, a0_ hi, a1_ hi, at_ hi, ar_ hi, aR2 hi, w, decide_true, if_true, sem_br, sem_ask, PC.holds, need_true, Int.toNat_natCast, Int.natCast_nonneg]
 cases c0 : ((aA acts i).1.tmod 5 == 0) with
 | true =>
  simp only [if_true, sem_nxt, stepO_nxt]
  have z := M16 (bx := bx) (al := acts.length) (ax := acts.flatMap eA) (cnt := (acts.length : Int)) h hk (show c.us.length ≤ 90 by omega) (show i ≤ 100 by omega) hn2 a0 m0
  rw [z]
  have hm : c.am.length = 0 := by rw [m0]; rfl
  have q := (P _ (inv_prop h hm (nx_v (n := n) hk)) (by simp only [List.length_append, List.length_singleton]; omega) (show c.rs.length ≤ i + 1 by rw [hrs]; simp)).2.1 hrs 1
  simp only [List.length_append, List.length_singleton, List.map_append, List.map_cons, List.map_nil] at q
  exact q
 | false =>
 simp only [Bool.false_eq_true, if_false]
 cases c1 : ((aA acts i).1.tmod 5 == 1) with
 | true =>
  have ne : ((c.us.length : Int) ≠ 0) := by omega
  have hz : ((n : Int).tmod (c.us.length : Int) == 0) = true := by rw [hu1]; show ((n : Int).tmod 1 == 0) = true; rw [t1]; rfl
  simp only [if_true, sem_ask, PC.holds, need_true, ne, ne_eq, not_false_eq_true, hz, i2, sem_br, sem_nxt, stepO_nxt]
  exact hpc
 | false =>
 simp only [Bool.false_eq_true, if_false]
 cases c2 : ((aA acts i).1.tmod 5 == 2) with
 | true =>
  simp only [if_true, i2, sem_ask, PC.holds, need_true, sem_nxt, stepO_nxt]
  exact hpc
 | false =>
 simp only [Bool.false_eq_true, if_false]
 cases c3 : ((aA acts i).1.tmod 5 == 3) with
 | true =>
  rw [hE] at z ⊢
  simp only [f59, rT, f65, t0, bne_self_eq_false, Bool.false_eq_true, if_false, if_true, Bool.not_true, sem_bind_some, sem_sees, sem_ask, sem_br, PC.holds, need_true, beq_self_eq_true, sem_nxt, stepO_nxt]
  exact z
 | false =>
  have us0 := us_n ha; have us1 := us_l ha; have us2 := us_a ha
  have q1 : (0 : Int) < (c.us.length : Int) := by omega
  simp only [Bool.false_eq_true, if_false, t1, f59, rT, q1, Int.toNat_zero, Nat.zero_mul, Nat.zero_le, us0, us1, us2, hub, f65, show (1 : Int) ≠ 0 by decide, ne_eq, not_false_eq_true, Int.le_refl, show ((0 : Int) == 35) = false from rfl, bne_self_eq_false, beq_self_eq_true, Bool.not_true, sem_bind_some, sem_sees, sem_ask, sem_br, PC.holds, need_true, sem_nxt, stepO_nxt]
  exact z
theorem H1 (hu : U8 acts) (hi : i < acts.length) (hal : acts.length ≤ 24) (hk : 0 < k ∧ k ≤ 8) (P : PA k bx acts (i + 1)) (h : Inv k c) (hrs : c.rs = []) (a0 : c.an = 0) (m0 : c.am = []) (b0 : c.bn = 0) (bm0 : c.bm = []) (hE : c.bb = c.ab) :
  res B11 (.c1 k bx 0 c.us.length (c.us.map eS) acts.length (acts.flatMap eA) (acts.length : Int) (i : Int) c.ab.length (c.ab.map vI)) = some true := by
 obtain ⟨n, hn, hn2⟩ := aA_u8 hu hi
 have w : IntKind.i64.wrap (aA acts i).2 = (n : Int) := by rw [hn]; exact wrap_u8 hn2
 have h1 : (i : Int) < (acts.length : Int) := by omega
 have i2 : inI64 ((i : Int) + 1) := by unfold inI64; omega
 have hu1 : c.us.length = 1 := by have := h.am0.1 (by rw [m0]; rfl); omega
 have hpc := (P c h (by omega) (by rw [hrs]; simp)).2.2.2.2 hrs a0 m0 b0 bm0 hE
 have ha : 0 < c.us.length := by omega
 have hub : uD c.us 0 = c.ab := by rw [h.a.2, a0]
 have f65 := F65_eq c.ab (by have := h.va.le; omega)
 have z := F4_ P (by omega) h hrs a0 m0 (by omega)
 have f59 : F59 0 c.ab.length (c.ab.map vI) 0 [] 0 = some (rT 0 c.ab [] c.ab) := by
  have := F59_v (k := k) (n := 0) (m := []) (a := 0) (by omega) h.va (.inl rfl) (by omega)
  rw [if_neg (by omega), if_pos rfl] at this
  exact this
 rw [hE, b0, bm0] at z
 have t1 : (n : Int).tmod 1 = 0 := Int.tmod_one _
 rw [res_eq]
 simp only [B11, h1, a0_ hi, a1_ hi, at_ hi, ar_ hi, aR2 hi, w, decide_true, if_true, sem_br, sem_ask, PC.holds, need_true, Int.toNat_natCast, Int.natCast_nonneg]
 cases c0 : ((aA acts i).1.tmod 5 == 0) with
 | true =>
  simp only [if_true, sem_nxt, stepO_nxt]
  have z := M2 (bx := bx) (al := acts.length) (ax := acts.flatMap eA) (cnt := (acts.length : Int)) h hk (show c.us.length ≤ 90 by omega) (show i ≤ 100 by omega) hn2 a0 m0 b0 hE
  rw [z]
  have hm : c.am.length = 0 := by rw [m0]; rfl
  have q := (P _ (inv_prop h hm (nx_v (n := n) hk)) (by simp only [List.length_append, List.length_singleton]; omega) (show c.rs.length ≤ i + 1 by rw [hrs]; simp)).2.2.1 hrs b0 bm0 1
  simp only [List.length_append, List.length_singleton, List.map_append, List.map_cons, List.map_nil] at q
  exact q
 | false =>
 simp only [Bool.false_eq_true, if_false]
 cases c1 : ((aA acts i).1.tmod 5 == 1) with
 | true =>
  have ne : ((c.us.length : Int) ≠ 0) := by omega
  have hz : ((n : Int).tmod (c.us.length : Int) == 0) = true := by rw [hu1]; show ((n : Int).tmod 1 == 0) = true; rw [t1]; rfl
  simp only [if_true, sem_ask, PC.holds, need_true, ne, ne_eq, not_false_eq_true, hz, i2, sem_br, sem_nxt, stepO_nxt]
  exact hpc
 | false =>
 simp only [Bool.false_eq_true, if_false]
 cases c2 : ((aA acts i).1.tmod 5 == 2) with
 | true =>
  simp only [if_true, i2, sem_ask, PC.holds, need_true, sem_nxt, stepO_nxt]
  exact hpc
 | false =>
 simp only [Bool.false_eq_true, if_false]
 cases c3 : ((aA acts i).1.tmod 5 == 3) with
 | true =>
  simp only [f59, rT, f65, bne_self_eq_false, Bool.false_eq_true, if_false, if_true, Bool.not_true, sem_bind_some, sem_sees, sem_ask, sem_br, PC.holds, need_true, beq_self_eq_true, sem_nxt, stepO_nxt]
  exact z
 | false =>
  have us0 := us_n ha; have us1 := us_l ha; have us2 := us_a ha
  have q1 : (0 : Int) < (c.us.length : Int) := by omega
  simp only [Bool.false_eq_true, if_false, t1, f59, rT, q1, Int.toNat_zero, Nat.zero_mul, Nat.zero_le, us0, us1, us2, hub, f65, show (1 : Int) ≠ 0 by decide, ne_eq, not_false_eq_true, Int.le_refl, show ((0 : Int) == 35) = false from rfl, bne_self_eq_false, beq_self_eq_true, Bool.not_true, sem_bind_some, sem_sees, sem_ask, sem_br, PC.holds, need_true, sem_nxt, stepO_nxt]
  exact z
end
end
section
open Go Go.RowKit
section
variable {k : Nat} {c : Cf} {bx : List DV} {acts : List (Int × Int)} {i : Nat}
theorem H23 (hu : U8 acts) (hi : i < acts.length) (hal : acts.length ≤ 24) (hk : 0 < k ∧ k ≤ 8) (P : PA k bx acts (i + 1)) (h : Inv k c) (hl : c.us.length ≤ i + 1) (hrs : c.rs = []) (e : Nat) :
  res B11 (.c23 k bx e c.us.length (c.us.map eS) acts.length (acts.flatMap eA) (acts.length : Int) (i : Int) (c.an : Int) c.ab.length (c.ab.map vI) c.am.length (c.am.map vI) (c.bn : Int) c.bb.length (c.bb.map vI) c.bm.length (c.bm.map vI) e) = some true := by
 obtain ⟨n, hn, hn2⟩ := aA_u8 hu hi
 have w : IntKind.i64.wrap (aA acts i).2 = (n : Int) := by rw [hn]; exact wrap_u8 hn2
 have h1 : (i : Int) < (acts.length : Int) := by omega
 have i2 : inI64 ((i : Int) + 1) := by unfold inI64; omega
 have ha := h.a.1
 have hb := h.b
 have hr : c.rs.length = 0 := by rw [hrs]; rfl
 have hpc := (P c h (by omega) (by omega)).2.1 hrs e
 rw [res_eq]
 simp only [B11, h1, a0_ hi, a1_ hi, at_ hi, ar_ hi, aR2 hi, w, decide_true, if_true, sem_br, sem_ask, PC.holds, need_true, Int.toNat_natCast, Int.natCast_nonneg]
 cases c0 : ((aA acts i).1.tmod 5 == 0) with
 | true =>
  simp only [if_true, sem_nxt, stepO_nxt]
  have z := M25 (bx := bx) (e := e) (al := acts.length) (ax := acts.flatMap eA) (cnt := (acts.length : Int)) h hk (show c.us.length ≤ 90 by omega) (show i ≤ 100 by omega) hn2
  rw [z]
  by_cases hm : c.am.length = 0
  ·rw [if_pos hm]
   have q := (P _ (inv_prop h hm (nx_v (n := n) hk)) (by simp only [List.length_append, List.length_singleton]; omega) (show c.rs.length ≤ i + 1 by omega)).2.1 hrs (e + 1)
   simp only [List.length_append, List.length_singleton, List.map_append, List.map_cons, List.map_nil] at q
   exact q
  ·rw [if_neg hm]
   exact hpc
 | false =>
 simp only [Bool.false_eq_true, if_false]
 cases c1 : ((aA acts i).1.tmod 5 == 1) with
 | true =>
  have hq : n % c.us.length < c.us.length := Nat.mod_lt _ (by omega)
  have ne : ((c.us.length : Int) ≠ 0) := by omega
  simp only [if_true, sem_ask, PC.holds, need_true, ne, ne_eq, not_false_eq_true, tmodN, sem_br]
  by_cases hz : n % c.us.length = 0
  ·have hz2 : (((n % c.us.length : Nat) : Int) == 0) = true := by rw [hz]; rfl
   simp only [hz2, if_true, sem_ask, PC.holds, i2, need_true, sem_nxt, stepO_nxt]
   exact hpc
  ·have hz2 : (((n % c.us.length : Nat) : Int) == 0) = false := by rw [beq_eq_false_iff_ne]; omega
   revert hq hz hz2
   generalize n % c.us.length = q
   intro hq hz hz2
   have f33 := F33_eq (l := uD c.us q) (by have := (h.vu hq).le; omega)
   have f57 := F57_v (k := k) (n := (c.bn : Int)) (a := (q : Int)) (by omega) h.vb h.vn (h.vu hq) (by omega)
   have q1 : (q : Int) < (c.us.length : Int) := by omega
   have i3 : inI64 ((c.bn : Int) + 1) := by unfold inI64; omega
   have ft : fitsN (c.rs.length + 1) 8 := ⟨by omega, by omega⟩
   simp only [hz2, Bool.false_eq_true, if_false, Int.toNat_natCast, Nat.mul_one, us_n hq, us_l hq, us_a hq, f33, f57, q1, i3, ft, Int.natCast_nonneg, List.length_map, Nat.le_of_lt hq, sem_bind_some, sem_sees, sem_ask, sem_br, PC.holds, need_true]
   by_cases d1 : (q : Int) > (c.bn : Int) + 1
   ·simp only [d1, if_true, decide_true, zR, bne_self_eq_false, Bool.false_eq_true, if_false, sem_ask, PC.holds, i2, need_true, sem_nxt, stepO_nxt]
    exact hpc
   ·by_cases d2 : (q : Int) ≤ (c.bn : Int)
    ·have e1 : ¬ ((c.bn : Int) < (c.bn : Int)) := by omega
     have e2 : ¬ ((c.bn : Int) > (c.bn : Int) + 1) := by omega
     simp only [d1, d2, e1, e2, if_true, if_false, decide_false, rR, bne_self_eq_false, Bool.false_eq_true, beq_self_eq_true, ft, sem_ask, sem_br, PC.holds, i2, i3, need_true, sem_nxt, stepO_nxt]
     have z := F13 P (by omega) (inv_old h) (show c.us.length ≤ i + 2 by omega) (by simp only [List.length_append, List.length_singleton]; omega) e 0
     simp only [hrs, List.nil_append, List.length_singleton, List.map_cons, List.map_nil] at z
     exact z
    ·have e0 : q = c.bn + 1 := by omega
     subst e0
     have e1 : ¬ (((c.bn + 1 : Nat) : Int) < (c.bn : Int)) := by omega
     have f57' : (if ((c.bn + 1 : Nat) : Int) > (c.bn : Int) + 1 then zR 7 else if ((c.bn + 1 : Nat) : Int) ≤ (c.bn : Int) then rR (c.bn : Int) c.bb c.bm (c.bn : Int) else if c.bm.length = 0 then rR (c.bn : Int) c.bb (uD c.us (c.bn + 1)) ((c.bn + 1 : Nat) : Int) else if c.bm = uD c.us (c.bn + 1) then rR (c.bn : Int) c.bb c.bm ((c.bn + 1 : Nat) : Int) else zR 24) = rR (c.bn : Int) c.bb (uD c.us (c.bn + 1)) ((c.bn + 1 : Nat) : Int) := by
      rw [if_neg d1, if_neg d2]
      by_cases hm : c.bm.length = 0
      ·rw [if_pos hm]
      ·rw [if_neg hm, if_pos (bm_new h hm), bm_new h hm]
     rw [f57']
     simp only [d1, e1, rR, decide_false, bne_self_eq_false, Bool.false_eq_true, if_false, beq_self_eq_true, ft, sem_ask, sem_br, PC.holds, i2, i3, need_true, sem_nxt, stepO_nxt]
     have z := F13 P (by omega) (inv_new h hq) (show c.us.length ≤ i + 2 by omega) (by simp only [List.length_append, List.length_singleton]; omega) e 0
     simp only [hrs, List.nil_append, List.length_singleton, List.map_cons, List.map_nil] at z
     exact z
 | false =>
 simp only [Bool.false_eq_true, if_false]
 cases c2 : ((aA acts i).1.tmod 5 == 2) with
 | true =>
  simp only [if_true, i2, sem_ask, PC.holds, need_true, sem_nxt, stepO_nxt]
  exact hpc
 | false =>
 simp only [Bool.false_eq_true, if_false]
 have hub : uD c.us c.bn = c.bb := h.b.2.2.symm
 have hbl : c.bn < c.us.length := by omega
 cases c3 : ((aA acts i).1.tmod 5 == 3) with
 | true =>
  have f59 := F59_v (k := k) (n := (c.bn : Int)) (a := (c.an : Int)) (by omega) h.vb h.vn (by omega)
  rw [if_neg (by omega)] at f59
  by_cases d1 : c.an = c.bn
  ·rw [if_pos (by omega)] at f59
   have hE : c.ab = c.bb := by rw [h.a.2, d1, hub]
   have f65 := F65_eq c.bb (by have := h.vb.le; omega)
   have e1 : ((c.bn : Int) != (c.an : Int)) = false := by rw [d1]; exact bne_self_eq_false _
   have z := F14 P (by omega) h hrs (by omega) e
   rw [hE] at z ⊢
   simp only [f59, rT, f65, e1, bne_self_eq_false, Bool.false_eq_true, if_false, if_true, Bool.not_true, sem_bind_some, sem_sees, sem_ask, sem_br, PC.holds, need_true, beq_self_eq_true, sem_nxt, stepO_nxt]
   exact z
  ·obtain ⟨hm, hE, hI⟩ := inv_take h (by omega)
   rw [if_neg (by omega), if_neg (by omega), if_neg hm] at f59
   have f65 := F65_eq c.ab (by have := h.va.le; omega)
   have z := F14 P (by omega) hI hrs (show c.us.length ≤ i + 2 by omega) e
   rw [hE] at z f59 ⊢
   simp only [f59, rT, f65, bne_self_eq_false, Bool.false_eq_true, if_false, if_true, Bool.not_true, sem_bind_some, sem_sees, sem_ask, sem_br, PC.holds, need_true, beq_self_eq_true, sem_nxt, stepO_nxt]
   exact z
 | false =>
  have i3 : inI64 ((c.an : Int) + 1) := by unfold inI64; omega
  have ne : ((c.an : Int) + 1 ≠ 0) := by omega
  have tm : (n : Int).tmod ((c.an : Int) + 1) = ((n % (c.an + 1) : Nat) : Int) := tmodN n (c.an + 1)
  have hq : n % (c.an + 1) < c.an + 1 := Nat.mod_lt _ (by omega)
  simp only [Bool.false_eq_true, if_false, i3, ne, ne_eq, not_false_eq_true, tm, sem_ask, PC.holds, need_true, Int.toNat_natCast, Nat.mul_one, Int.natCast_nonneg]
  revert hq
  generalize n % (c.an + 1) = q
  intro hq
  have hql : q < c.us.length := by omega
  have q1 : (q : Int) < (c.us.length : Int) := by omega
  have f59 := F59_v (k := k) (n := (c.bn : Int)) (a := (q : Int)) (by omega) h.vb h.vn (by omega)
  by_cases d0 : q < c.bn
  ·rw [if_pos (by omega)] at f59
   have e1 : (q : Int) < (c.bn : Int) := by omega
   simp only [f59, zT, e1, i2, decide_true, beq_self_eq_true, if_true, sem_bind_some, sem_sees, sem_ask, sem_br, PC.holds, need_true, sem_nxt, stepO_nxt]
   exact hpc
  ·rw [if_neg (by omega)] at f59
   by_cases d1 : q = c.bn
   ·subst d1
    rw [if_pos rfl] at f59
    have f65 := F65_eq c.bb (by have := h.vb.le; omega)
    simp only [f59, rT, q1, Int.natCast_nonneg, us_n hbl, us_l hbl, us_a hbl, hub, f65, List.length_map, Nat.le_of_lt hbl, show ((0 : Int) == 35) = false from rfl, bne_self_eq_false, Bool.false_eq_true, if_false, if_true, Bool.not_true, sem_bind_some, sem_sees, sem_ask, sem_br, PC.holds, need_true, beq_self_eq_true, sem_nxt, stepO_nxt]
    exact F14 P (by omega) h hrs (by omega) e
   ·have e0 : q = c.an := by omega
    obtain ⟨hm, hE, hI⟩ := inv_take h (by omega)
    subst e0
    rw [if_neg (by omega), if_neg (by omega), if_neg hm] at f59
    have f65 := F65_eq c.ab (by have := h.va.le; omega)
    have hua : uD c.us c.an = c.ab := h.a.2.symm
    have z := F14 P (by omega) hI hrs (show c.us.length ≤ i + 2 by omega) e
    rw [hE] at z f59 ⊢
    simp only [f59, rT, q1, Int.natCast_nonneg, us_n ha, us_l ha, us_a ha, hua, f65, List.length_map, Nat.le_of_lt ha, show ((0 : Int) == 35) = false from rfl, bne_self_eq_false, Bool.false_eq_true, if_false, if_true, Bool.not_true, sem_bind_some, sem_sees, sem_ask, sem_br, PC.holds, need_true, beq_self_eq_true, sem_nxt, stepO_nxt]
    exact z
end
end
section
open Go Go.RowKit
section
variable {k : Nat} {c : Cf} {bx : List DV} {acts : List (Int × Int)} {i : Nat}
theorem H9 (hu : U8 acts) (hi : i < acts.length) (hal : acts.length ≤ 24) (hk : 0 < k ∧ k ≤ 8) (P : PA k bx acts (i + 1)) (h : Inv k c) (hl : c.us.length ≤ i + 1) (hrs : c.rs = []) (b0 : c.bn = 0) (bm0 : c.bm = []) (e : Nat) :
  res B11 (.c9 k bx e c.us.length (c.us.map eS) acts.length (acts.flatMap eA) (acts.length : Int) (i : Int) (c.an : Int) c.ab.length (c.ab.map vI) c.am.length (c.am.map vI) c.bb.length (c.bb.map vI) e) = some true := by
 obtain ⟨n, hn, hn2⟩ := aA_u8 hu hi
 have w : IntKind.i64.wrap (aA acts i).2 = (n : Int) := by rw [hn]; exact wrap_u8 hn2
 have h1 : (i : Int) < (acts.length : Int) := by omega
 have i2 : inI64 ((i : Int) + 1) := by unfold inI64; omega
 have ha := h.a.1
 have hr : c.rs.length = 0 := by rw [hrs]; rfl
 have a0 : c.an = 0 := by
  have := h.b
  by_cases q : c.an = c.bn + 1
  ·exact absurd bm0 (h.x q)
  ·omega
 have hE : c.bb = c.ab := by rw [h.a.2, h.b.2.2, a0, b0]
 have hpc := (P c h (by omega) (by omega)).2.2.1 hrs b0 bm0 e
 have hub : uD c.us 0 = c.ab := by rw [h.a.2, a0]
 have hz0 : 0 < c.us.length := by omega
 have f65 := F65_eq c.ab (by have := h.va.le; omega)
 have z14 := F14 P (by omega) h hrs (by omega) e
 rw [hE, b0, bm0] at z14
 have f59 : F59 0 c.bb.length (c.bb.map vI) 0 [] (c.an : Int) = some (rT 0 c.ab [] c.ab) := by
  have := F59_v (k := k) (n := 0) (m := []) (a := (c.an : Int)) (by omega) h.vb (.inl rfl) (by omega)
  rw [if_neg (by omega), if_pos (by omega), hE] at this
  rw [hE]; exact this
 rw [res_eq]
 simp only [B11, h1, a0_ hi, a1_ hi, at_ hi, ar_ hi, aR2 hi, w, decide_true, if_true, sem_br, sem_ask, PC.holds, need_true, Int.toNat_natCast, Int.natCast_nonneg]
 cases c0 : ((aA acts i).1.tmod 5 == 0) with
 | true =>
  simp only [if_true, sem_nxt, stepO_nxt]
  have z := M12 (bx := bx) (e := e) (al := acts.length) (ax := acts.flatMap eA) (cnt := (acts.length : Int)) h hk (show c.us.length ≤ 90 by omega) (show i ≤ 100 by omega) hn2 b0
  rw [z]
  by_cases hm : c.am.length = 0
  ·rw [if_pos hm]
   have q := (P _ (inv_prop h hm (nx_v (n := n) hk)) (by simp only [List.length_append, List.length_singleton]; omega) (show c.rs.length ≤ i + 1 by omega)).2.2.1 hrs b0 bm0 (e + 1)
   simp only [List.length_append, List.length_singleton, List.map_append, List.map_cons, List.map_nil] at q
   exact q
  ·rw [if_neg hm]
   exact hpc
 | false =>
 simp only [Bool.false_eq_true, if_false]
 cases c1 : ((aA acts i).1.tmod 5 == 1) with
 | true =>
  have hq : n % c.us.length < c.us.length := Nat.mod_lt _ (by omega)
  have ne : ((c.us.length : Int) ≠ 0) := by omega
  simp only [if_true, sem_ask, PC.holds, need_true, ne, ne_eq, not_false_eq_true, tmodN, sem_br]
  by_cases hz : n % c.us.length = 0
  ·have hz2 : (((n % c.us.length : Nat) : Int) == 0) = true := by rw [hz]; rfl
   simp only [hz2, if_true, sem_ask, PC.holds, i2, need_true, sem_nxt, stepO_nxt]
   exact hpc
  ·have hz2 : (((n % c.us.length : Nat) : Int) == 0) = false := by rw [beq_eq_false_iff_ne]; omega
   revert hq hz hz2
   generalize n % c.us.length = q
   intro hq hz hz2
   have f33 := F33_eq (l := uD c.us q) (by have := (h.vu hq).le; omega)
   have f57 : F57 0 c.bb.length (c.bb.map vI) 0 [] (q : Int) (uD c.us q).length ((uD c.us q).map vI) = some (if (q : Int) > 1 then zR 7 else rR 0 c.bb (uD c.us q) (q : Int)) := by
    have := F57_v (k := k) (n := 0) (m := []) (a := (q : Int)) (by omega) h.vb (.inl rfl) (h.vu hq) (by omega)
    by_cases d : (q : Int) > 1
    ·rw [if_pos (by omega)] at this
     rw [if_pos d]; exact this
    ·rw [if_neg (by omega), if_neg (by omega), if_pos (show ([] : List Int).length = 0 from rfl)] at this
     rw [if_neg d]; exact this
   have q1 : (q : Int) < (c.us.length : Int) := by omega
   simp only [hz2, Bool.false_eq_true, if_false, Int.toNat_natCast, Nat.mul_one, us_n hq, us_l hq, us_a hq, f33, f57, q1, Int.natCast_nonneg, List.length_map, Nat.le_of_lt hq, sem_bind_some, sem_sees, sem_ask, sem_br, PC.holds, need_true]
   by_cases d1 : (q : Int) > 1
   ·simp only [d1, if_true, decide_true, zR, bne_self_eq_false, Bool.false_eq_true, if_false, sem_ask, PC.holds, i2, need_true, sem_nxt, stepO_nxt]
    exact hpc
   ·have e0 : q = c.bn + 1 := by omega
    have e1 : ¬ ((q : Int) < 0) := by omega
    have z := F13 P (by omega) (inv_new h (by omega)) (show c.us.length ≤ i + 2 by omega) (by simp only [List.length_append, List.length_singleton]; omega) e 0
    simp only [hrs, List.nil_append, List.length_singleton, List.map_cons, List.map_nil] at z
    rw [← e0, b0] at z
    simp only [d1, e1, rR, decide_false, bne_self_eq_false, Bool.false_eq_true, if_false, beq_self_eq_true, sem_ask, sem_br, PC.holds, i2, need_true, sem_nxt, stepO_nxt]
    exact z
 | false =>
 simp only [Bool.false_eq_true, if_false]
 cases c2 : ((aA acts i).1.tmod 5 == 2) with
 | true =>
  simp only [if_true, i2, sem_ask, PC.holds, need_true, sem_nxt, stepO_nxt]
  exact hpc
 | false =>
 simp only [Bool.false_eq_true, if_false]
 cases c3 : ((aA acts i).1.tmod 5 == 3) with
 | true =>
  have t0 : ((0 : Int) != (c.an : Int)) = false := by rw [a0]; rfl
  simp only [f59, rT, f65, t0, bne_self_eq_false, Bool.false_eq_true, if_false, if_true, Bool.not_true, sem_bind_some, sem_sees, sem_ask, sem_br, PC.holds, need_true, beq_self_eq_true, sem_nxt, stepO_nxt]
  exact z14
 | false =>
  have i3 : inI64 ((c.an : Int) + 1) := by unfold inI64; omega
  have ne : ((c.an : Int) + 1 ≠ 0) := by omega
  have tm : (n : Int).tmod ((c.an : Int) + 1) = (c.an : Int) := by rw [a0]; exact Int.tmod_one _
  have q1 : (c.an : Int) < (c.us.length : Int) := by omega
  have hua : uD c.us c.an = c.ab := h.a.2.symm
  simp only [Bool.false_eq_true, if_false, i3, ne, ne_eq, not_false_eq_true, tm, f59, rT, q1, us_n ha, us_l ha, us_a ha, hua, f65, Int.toNat_natCast, Nat.mul_one, Int.natCast_nonneg, List.length_map, Nat.le_of_lt ha, show ((0 : Int) == 35) = false from rfl, bne_self_eq_false, beq_self_eq_true, Bool.not_true, sem_bind_some, sem_sees, sem_ask, sem_br, PC.holds, need_true, sem_nxt, stepO_nxt]
  exact z14
theorem firstI_0' : ∀ {l : List Int}, firstI l = 0 → ∀ x ∈ l, x = 0
 | [], _, x, hx => by simp at hx
 | y :: r, h, x, hx => by
  have hy : y = 0 := first_0l h
  rw [hy, first_z] at h
  rcases List.mem_cons.1 hx with rfl | hx
  ·exact hy
  ·exact firstI_0' h x hx
theorem PA_all (hu : U8 acts) (hal : acts.length ≤ 24) (hk : 0 < k ∧ k ≤ 8) : ∀ (m i : Nat), acts.length = i + m → PA k bx acts i
 | 0, i, hm => by
  have hn : ¬ ((acts.length : Int) < (acts.length : Int)) := by omega
  rw [show i = acts.length by omega]
  intro c h hl hr
  refine ⟨fun e f => ?_, fun _ e => ?_, fun _ _ _ e => ?_, fun _ _ _ => ?_, fun _ _ _ _ _ _ => ?_⟩ <;>
   (rw [res_eq]; simp only [B11, hn, decide_false, Bool.false_eq_true, if_false, sem_br, sem_ret, stepO_ret])
 | m + 1, i, hm => by
  have P := PA_all hu hal hk m (i + 1) (by omega)
  have hi : i < acts.length := by omega
  intro c h hl hr
  exact ⟨fun e f => H22 hu hi hal hk P h hl hr e f, fun hrs e => H23 hu hi hal hk P h hl hrs e, fun hrs b0 bm0 e => H9 hu hi hal hk P h hl hrs b0 bm0 e, fun hrs a0 m0 => H11 hu hi hal hk P h hrs a0 m0, fun hrs a0 m0 b0 bm0 hE => H1 hu hi hal hk P h hrs a0 m0 b0 bm0 hE⟩
end
theorem ck_len {l : List Int} (h : ckM l = 0) : 0 < l.length ∧ l.length ≤ 8 := by
 unfold ckM at h
 by_cases h1 : firstI [whenI ((l.length : Int) == 0) 12, whenI (decide ((l.length : Int) > 8)) 5] = 0
 ·have a := firstI_0' h1 (whenI ((l.length : Int) == 0) 12) (by simp)
  have b := firstI_0' h1 (whenI (decide ((l.length : Int) > 8)) 5) (by simp)
  constructor
  ·apply Nat.pos_of_ne_zero
   intro e
   rw [e] at a
   exact absurd a (by decide)
  ·apply Classical.byContradiction
   intro e
   rw [decide_eq_true (show (l.length : Int) > 8 by omega)] at b
   exact absurd b (by decide)
 ·rw [if_neg h1] at h; exact absurd h h1
theorem agrees_true (l : List Int) (acts : List (Int × Int)) (hll : l.length ≤ maxLen) (hu : U8 acts) : F11 l.length (l.map vI) acts.length (acts.flatMap eA) = some true := by
 have e15 : F15 = some true := rfl
 have e71 := F71_eq l (Nat.le_trans hll (by decide))
 unfold F11; rw [res_eq]
 by_cases g1 : (l.length : Int) ≤ 9
 ·by_cases g2 : ckM l = 0
  ·by_cases g3 : (acts.length : Int) > 24
   ·simp only [B11, e15, F30_eq, e71, g1, g2, g3, decide_true, bne_self_eq_false, Bool.not_true, Bool.false_eq_true, if_false, if_true, sem_bind_some, sem_sees, sem_br, sem_triv, sem_ret, sem_ask, PC.holds, need_true, stepO_ret]
   ·have hk := ck_len g2
    have f33 := F33_eq (l := l) (by omega)
    have v : Vl l.length l := ⟨rfl, g2, hk⟩
    have hI : Inv l.length { us := [l], rs := [], an := 0, ab := l, am := [], bn := 0, bb := l, bm := [] } := by
     refine ⟨?_, ⟨by simp, rfl⟩, .inl ⟨rfl, rfl⟩, ⟨Nat.le_refl _, by simp, rfl⟩, .inl rfl, fun e => by simp at e, fun r hr => by simp at hr⟩
     intro x hx
     rw [List.mem_singleton] at hx
     rw [hx]; exact v
    have z := (PA_all (bx := l.map vI) hu (by omega) hk acts.length 0 (by omega) _ hI (by simp) (by simp)).2.2.2.2 rfl rfl rfl rfl rfl rfl
    simp only [B11, e15, F30_eq, e71, f33, g1, g2, g3, decide_true, decide_false, bne_self_eq_false, Bool.not_true, Bool.false_eq_true, if_false, sem_bind_some, sem_sees, sem_br, sem_triv, sem_nxt, sem_ask, PC.holds, need_true, stepO_nxt]
    exact z
  ·simp only [B11, e15, F30_eq, e71, g1, bne_iff_ne.2 g2, decide_true, Bool.not_true, Bool.false_eq_true, if_false, if_true, sem_bind_some, sem_sees, sem_br, sem_triv, sem_ret, sem_ask, PC.holds, need_true, stepO_ret]
 ·simp only [B11, e15, F30_eq, e71, g1, decide_false, Bool.not_true, Bool.not_false, Bool.false_eq_true, if_false, if_true, sem_bind_some, sem_sees, sem_br, sem_triv, sem_ret, sem_ask, PC.holds, need_true, stepO_ret]
end
end Go.Kv
