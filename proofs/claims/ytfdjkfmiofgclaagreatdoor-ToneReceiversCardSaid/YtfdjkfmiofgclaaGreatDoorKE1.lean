/- What the checks of ends come to, for whatever is given. -/
import Derived.Test.YtfdjkfmiofgclaaGreatDoorKP1
namespace Go.Kv
set_option linter.unusedVariables false
set_option linter.unusedSimpArgs false
set_option linter.unnecessarySimpa false
open Go Go.RowKit
set_option maxRecDepth 100000
theorem takeS {α β : Type} {l : List α} {i : Nat} (d : α) (hi : i < l.length) (f : α → β) : (l.take (i + 1)).map f = (l.take i).map f ++ [f (l.getD i d)] := by
  rw [List.take_succ_eq_append_getElem hi, List.map_append]
  simp [List.getD_eq_getElem?_getD, hi]
def rgs (l : List Int) (a b : Int) : List Int := l.map fun x => rangeI x a b
theorem F172_eq (n a b : Int) : F172 n [vI a] [vI b] = some (rangeI n a b) := by
  unfold F172; rw [res_eq]
  have e1 : dI (cel [vI a] 0) = a := rfl
  have e2 : dI (cel [vI b] 0) = b := rfl
  simp [B172, e1, e2, F106_eq, sem_bind_some, sem_sees, sem_ask, sem_ret, PC.holds, need_true, stepO_ret]
theorem F126_loop (l : List Int) (a b : Int) (hl : l.length ≤ 1025) : ∀ (k i e : Nat), l.length = i + k → 0 < i →
    res B126 (.c2 e i ((rgs (l.take i) a b).map vI) l.length (l.map vI) (l.length : Int) (i : Int) a b e) = some (firstI (rgs l a b))
  | 0, i, e, hk, h0 => by
    have hn : ¬ ((i : Int) < (l.length : Int)) := by omega
    rw [res_eq, List.take_of_length_le (by omega)]
    have := F107_eq (rgs l a b) (by unfold rgs; rw [List.length_map]; omega)
    rw [show (rgs l a b).length = i by unfold rgs; rw [List.length_map]; omega] at this
    simp only [B126, sem_br, sem_ask, sem_ret, sem_bind_some, sem_sees, PC.holds, need_true, hn, this, decide_false, Bool.false_eq_true, if_false, stepO_ret]
  | k + 1, i, e, hk, h0 => by
    have hi : i < l.length := by omega
    have h1 : (i : Int) < (l.length : Int) := by omega
    have ih := F126_loop l a b hl k (i + 1) (e + 1) (by omega) (by omega)
    have hin : inI64 ((i : Int) + 1) := by unfold inI64; omega
    have hf : fitsN (i + 1) 8 := ⟨by omega, by omega⟩
    have tk : (rgs (l.take (i + 1)) a b).map vI = (rgs (l.take i) a b).map vI ++ [vI (rangeI (l.getD i 0) a b)] := by
      unfold rgs
      rw [List.map_map, List.map_map, takeS 0 hi]; rfl
    rw [res_eq]
    simp only [B126, sem_br, sem_ask, sem_ret, sem_nxt, sem_bind_some, sem_sees, PC.holds, need_true, Int.toNat_natCast, Nat.mul_one, dI_cel_map, at_map hi, h1, hin, decide_true, if_true, Int.natCast_nonneg, List.length_map, Nat.le_of_lt hi, F172_eq, hf, stepO_nxt]
    rw [← ih, tk]; rfl
theorem F126_eq (l : List Int) (a b : Int) (hl : l.length ≤ 1025) : F126 l.length (l.map vI) a b = some (firstI (rgs l a b)) := by
  unfold F126; rw [res_eq]
  simp only [B126, sem_nxt, stepO_nxt]
  rw [res_eq]
  by_cases h0 : l.length = 0
  · obtain rfl : l = [] := List.eq_nil_of_length_eq_zero h0
    have := F107_eq [] (by simp)
    simp only [List.length_nil, List.map_nil] at this
    simp [B126, sem_br, sem_ret, sem_bind_some, sem_sees, this, stepO_ret, rgs, firstI]
  · have hi : 0 < l.length := by omega
    have h1 : (0 : Int) < (l.length : Int) := by omega
    have ih := F126_loop l a b hl (l.length - 1) 1 0 (by omega) (by omega)
    have hin : inI64 ((0 : Int) + 1) := by unfold inI64; omega
    have a0 := at_map hi
    have tk : (rgs (l.take 1) a b).map vI = [vI (rangeI (l.getD 0 0) a b)] := by
      cases l with
      | nil => simp at hi
      | cons x r => simp [rgs]
    simp only [B126, sem_br, sem_ask, sem_ret, sem_nxt, sem_bind_some, sem_sees, PC.holds, need_true, Int.toNat_zero, Nat.zero_mul, dI_cel_map, a0, h1, hin, decide_true, if_true, Int.le_refl, Nat.zero_le, F172_eq, stepO_nxt]
    rw [← ih, tk]; rfl
theorem firstI_3 (a b c : Int) : firstI [a, b, c] = if firstI [a, b] = 0 then c else firstI [a, b] := by
  unfold firstI
  by_cases ha : a = 0
  · simp only [ha, if_true]
    unfold firstI
    by_cases hb : b = 0
    · simp only [hb, if_true]
      unfold firstI firstI
      by_cases hc : c = 0 <;> simp [hc]
    · simp only [hb, if_false]
  · simp only [ha, if_false]
theorem firstI_4 (a b c d : Int) : firstI [a, b, c, d] = if firstI [a, b] = 0 then firstI [c, d] else firstI [a, b] := by
  by_cases ha : a = 0 <;> by_cases hb : b = 0 <;> by_cases hc : c = 0 <;> by_cases hd : d = 0 <;> simp [firstI, ha, hb, hc, hd]
theorem chM_eq : ∀ l : List Int, chM l = firstI (rgs l 0 6)
  | [] => rfl
  | x :: r => by
    unfold chM rgs firstI
    have := chM_eq r
    unfold rgs at this
    split <;> simp_all [rgs]
theorem F169_g {l : List Int} (hl : l.length ≤ 1025) : F169 l.length (l.map vI) = some (ckM l) := by
  unfold F169 ckM; rw [res_eq]
  simp only [B169, F109_eq, F126_eq l 0 6 hl, F107_3, sem_bind_some, sem_sees, sem_ret, stepO_ret, firstI_3, chM_eq]
/-- The error of a map beside another one. -/
def othE (l m : List Int) : Int := firstI [whenI ((m.length : Int) != (l.length : Int)) 2, ckM m]
def endE (n : Int) (l m : List Int) : Int := if firstI [rangeI n 0 1000000, ckM l] ≠ 0 then firstI [rangeI n 0 1000000, ckM l] else if m.length = 0 then 0 else othE l m
theorem F127_g {l m : List Int} (hm : m.length ≤ 1025) : F127 l.length (l.map vI) m.length (m.map vI) = some (othE l m) := by
  unfold F127 othE; rw [res_eq]
  simp only [B127, F109_eq, F169_g hm, F107_2, sem_bind_some, sem_sees, sem_ret, stepO_ret]
theorem F131_g {n : Int} {l m : List Int} (hl : l.length ≤ 1025) (hm : m.length ≤ 1025) : F131 n l.length (l.map vI) m.length (m.map vI) = some (endE n l m) := by
  unfold F131 endE; rw [res_eq]
  simp only [B131, F106_eq, F169_g hl, F107_2, F127_g hm, sem_bind_some, sem_sees, sem_triv, sem_br, sem_ret]
  by_cases h1 : firstI [rangeI n 0 1000000, ckM l] = 0
  · have b1 : (firstI [rangeI n 0 1000000, ckM l] != 0) = false := by rw [h1]; rfl
    simp only [h1, bne_self_eq_false, Bool.false_eq_true, if_false, ne_eq, not_true_eq_false]
    by_cases h2 : m.length = 0
    · have b2 : ((m.length : Int) == 0) = true := by rw [h2]; rfl
      simp only [h2, b2, if_true, stepO_ret, Int.natCast_zero, Int.cast_ofNat_Int, beq_self_eq_true]
    · have b2 : ((m.length : Int) == 0) = false := by simp; exact fun h => h2 (by rw [h]; rfl)
      simp only [h2, b2, Bool.false_eq_true, if_false, stepO_ret]
  · have b1 : (firstI [rangeI n 0 1000000, ckM l] != 0) = true := bne_iff_ne.2 h1
    simp only [h1, b1, if_true, ne_eq, not_false_eq_true, stepO_ret]
theorem F51_g {l m : List Int} (hm : m.length ≤ 1025) : F51 l.length (l.map vI) m.length (m.map vI) = some (othE l m) := by
  unfold F51 othE; rw [res_eq]
  simp only [B51, F37_eq, F71_eq m (by omega), F20_2, sem_bind_some, sem_sees, sem_ret, stepO_ret]
theorem F130_g {n : Int} {l m : List Int} (hl : l.length ≤ 1025) (hm : m.length ≤ 1025) : F130 n l.length (l.map vI) m.length (m.map vI) = some (endE n l m) := by
  unfold F130 endE othE; rw [res_eq]
  simp only [B130, F39_eq, F71_eq l (by omega), F71_eq m (by omega), F20_2, F37_eq, sem_bind_some, sem_sees, sem_triv, sem_br, sem_ret]
  by_cases h1 : firstI [rangeI n 0 1000000, ckM l] = 0
  · simp only [h1, bne_self_eq_false, Bool.false_eq_true, if_false, ne_eq, not_true_eq_false]
    by_cases h2 : m.length = 0
    · have b2 : ((m.length : Int) == 0) = true := by rw [h2]; rfl
      simp only [h2, if_true, stepO_ret, Int.natCast_zero, Int.cast_ofNat_Int, beq_self_eq_true]
    · have b2 : ((m.length : Int) == 0) = false := by simp; exact fun h => h2 (by rw [h]; rfl)
      simp only [h2, b2, Bool.false_eq_true, if_false, stepO_ret]
  · have b1 : (firstI [rangeI n 0 1000000, ckM l] != 0) = true := bne_iff_ne.2 h1
    simp only [h1, b1, if_true, ne_eq, not_false_eq_true, stepO_ret]
end Go.Kv
