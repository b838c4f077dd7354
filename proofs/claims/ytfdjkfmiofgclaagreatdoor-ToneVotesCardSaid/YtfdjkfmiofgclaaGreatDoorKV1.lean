/- ToneVotes: what its functions come to. -/
import Derived.Test.YtfdjkfmiofgclaaGreatDoorKB1
namespace Go.Kv
set_option linter.unusedVariables false
set_option linter.unusedSimpArgs false
set_option linter.unnecessarySimpa false
open Go Go.RowKit
set_option maxRecDepth 100000
def eS (l : List Int) : DV := .sl l.length (l.map vI)
theorem dN_eS {ls : List (List Int)} {i : Nat} (hi : i < ls.length) : dN (cel (ls.map eS) i) = (ls.getD i []).length := by
  unfold cel; simp [List.getD_eq_getElem?_getD, hi, eS, dN]
theorem dL_eS {ls : List (List Int)} {i : Nat} (hi : i < ls.length) : dL (cel (ls.map eS) i) = (ls.getD i []).map vI := by
  unfold cel; simp [List.getD_eq_getElem?_getD, hi, eS, dL]
theorem atS {ls : List (List Int)} {i : Nat} (hi : i < ls.length) : Option.map AV.d (List.drop i (ls.map eS))[0]? = some (AV.d (DV.sl (ls.getD i []).length ((ls.getD i []).map vI))) := by
  simp [List.getElem?_drop, hi, List.getD_eq_getElem?_getD, eS]
theorem getD_memS {ls : List (List Int)} {i : Nat} (hi : i < ls.length) : ls.getD i [] ∈ ls := by
  rw [List.getD_eq_getElem?_getD, List.getElem?_eq_getElem hi]; exact List.getElem_mem hi
theorem getD_memI {l : List Int} {i : Nat} (hi : i < l.length) : l.getD i 0 ∈ l := by
  rw [List.getD_eq_getElem?_getD, List.getElem?_eq_getElem hi]; exact List.getElem_mem hi
theorem takeS {α β : Type} {l : List α} {i : Nat} (d : α) (hi : i < l.length) (f : α → β) : (l.take (i + 1)).map f = (l.take i).map f ++ [f (l.getD i d)] := by
  rw [List.take_succ_eq_append_getElem hi, List.map_append]
  simp [List.getD_eq_getElem?_getD, hi]
theorem F33_eq {l : List Int} (h : l.length ≤ 1025) : F33 l.length (l.map vI) = some (l.length, l.map vI) := by
  unfold F33; rw [res_eq]
  by_cases h0 : l.length = 0
  · obtain rfl : l = [] := List.eq_nil_of_length_eq_zero h0
    simp [B33, sem_br, sem_ask, sem_ret, PC.holds, need_true, stepO_ret]
  · have hf : fitsN l.length 8 := ⟨by omega, by omega⟩
    have h1 : l.length.beq 0 = false := by
      cases hn : l.length with
      | zero => exact absurd hn h0
      | succ n => rfl
    simp only [B33, sem_br, sem_ask, sem_ret, PC.holds, need_true, stepO_ret, h1, Bool.false_eq_true, if_false, Nat.pos_of_ne_zero h0, List.length_map, Nat.mul_one, hf]
theorem F35_loop {ls : List (List Int)} (hb : ∀ l ∈ ls, l.length ≤ 1025) (hl : ls.length ≤ 16) : ∀ (k i e : Nat), ls.length = i + k →
    res B35 (.c2 e i ((ls.take i).map eS) ls.length (ls.map eS) (ls.length : Int) (i : Int) e) = some (ls.length, ls.map eS)
  | 0, i, e, hk => by
    have : ¬ ((i : Int) < (ls.length : Int)) := by omega
    rw [res_eq]
    simp only [B35, sem_br, sem_ret, this, decide_false, Bool.false_eq_true, if_false, stepO_ret]
    rw [List.take_of_length_le (by omega), show i = ls.length by omega]
  | k + 1, i, e, hk => by
    have hi : i < ls.length := by omega
    have h1 : (i : Int) < (ls.length : Int) := by omega
    have ih := F35_loop hb hl k (i + 1) (e + 1) (by omega)
    have hin : inI64 ((i : Int) + 1) := by unfold inI64; omega
    have hf : fitsN (i + 1) 24 := ⟨by omega, by omega⟩
    rw [res_eq]
    simp only [B35, sem_br, sem_ask, sem_ret, sem_nxt, sem_bind_some, sem_sees, PC.holds, need_true, Int.toNat_natCast, Nat.mul_one, dN_eS hi, dL_eS hi, atS hi, h1, hin, decide_true, if_true, Int.natCast_nonneg, List.length_map, Nat.le_of_lt hi, F33_eq (hb _ (getD_memS hi)), hf, stepO_nxt]
    rw [← ih, takeS [] hi]; rfl
theorem F35_eq {ls : List (List Int)} (hb : ∀ l ∈ ls, l.length ≤ 1025) (hl : ls.length ≤ 16) : F35 ls.length (ls.map eS) = some (ls.length, ls.map eS) := by
  unfold F35; rw [res_eq]
  simp only [B35, sem_nxt, stepO_nxt]
  rw [res_eq]
  by_cases h0 : ls.length = 0
  · obtain rfl : ls = [] := List.eq_nil_of_length_eq_zero h0
    simp [B35, sem_br, sem_ret, stepO_ret]
  · have hi : 0 < ls.length := by omega
    have h1 : (0 : Int) < (ls.length : Int) := by omega
    have := F35_loop hb hl (ls.length - 1) 1 0 (by omega)
    have hin : inI64 ((0 : Int) + 1) := by unfold inI64; omega
    have t1 := takeS (l := ls) (i := 0) [] hi eS
    have a0 := atS hi; have d0 := dN_eS hi; have l0 := dL_eS hi
    simp only [B35, sem_br, sem_ask, sem_ret, sem_nxt, sem_bind_some, sem_sees, PC.holds, need_true, Int.toNat_zero, Nat.zero_mul, d0, l0, a0, h1, hin, decide_true, if_true, Int.le_refl, Nat.zero_le, F33_eq (hb _ (getD_memS hi)), stepO_nxt]
    rw [← this, t1]; rfl
def rgs (l : List Int) (a b : Int) : List Int := l.map fun x => rangeI x a b
theorem F172_eq (n a b : Int) : F172 n [vI a] [vI b] = some (rangeI n a b) := by
  unfold F172; rw [res_eq]
  have e1 : dI (cel [vI a] 0) = a := rfl
  have e2 : dI (cel [vI b] 0) = b := rfl
  simp [B172, e1, e2, F106_eq, sem_bind_some, sem_sees, sem_ask, sem_ret, PC.holds, need_true, stepO_ret]
theorem F126_loop (l : List Int) (a b : Int) (hl : l.length ≤ 1025) : ∀ (k i e : Nat), l.length = i + k → 0 < i →
    res B126 (.c2 e i ((rgs (l.take i) a b).map vI) l.length (l.map vI) (l.length : Int) (i : Int) a b e) = some (firstI (rgs l a b))
  | 0, i, e, hk, h0 => by
    have hn : ¬ ((i : Int) < (l.length : Int)) := by omega
    rw [res_eq, List.take_of_length_le (by omega)]
    have := F107_eq (rgs l a b) (by unfold rgs; rw [List.length_map]; omega)
    rw [show (rgs l a b).length = i by unfold rgs; rw [List.length_map]; omega] at this
    simp only [B126, sem_br, sem_ask, sem_ret, sem_bind_some, sem_sees, PC.holds, need_true, hn, this, decide_false, Bool.false_eq_true, if_false, stepO_ret]
  | k + 1, i, e, hk, h0 => by
    have hi : i < l.length := by omega
    have h1 : (i : Int) < (l.length : Int) := by omega
    have ih := F126_loop l a b hl k (i + 1) (e + 1) (by omega) (by omega)
    have hin : inI64 ((i : Int) + 1) := by unfold inI64; omega
    have hf : fitsN (i + 1) 8 := ⟨by omega, by omega⟩
    have tk : (rgs (l.take (i + 1)) a b).map vI = (rgs (l.take i) a b).map vI ++ [vI (rangeI (l.getD i 0) a b)] := by
      unfold rgs
      rw [List.map_map, List.map_map, takeS 0 hi]; rfl
    rw [res_eq]
    simp only [B126, sem_br, sem_ask, sem_ret, sem_nxt, sem_bind_some, sem_sees, PC.holds, need_true, Int.toNat_natCast, Nat.mul_one, dI_cel_map, at_map hi, h1, hin, decide_true, if_true, Int.natCast_nonneg, List.length_map, Nat.le_of_lt hi, F172_eq, hf, stepO_nxt]
    rw [← ih, tk]; rfl
theorem F126_eq (l : List Int) (a b : Int) (hl : l.length ≤ 1025) : F126 l.length (l.map vI) a b = some (firstI (rgs l a b)) := by
  unfold F126; rw [res_eq]
  simp only [B126, sem_nxt, stepO_nxt]
  rw [res_eq]
  by_cases h0 : l.length = 0
  · obtain rfl : l = [] := List.eq_nil_of_length_eq_zero h0
    have := F107_eq [] (by simp)
    simp only [List.length_nil, List.map_nil] at this
    simp [B126, sem_br, sem_ret, sem_bind_some, sem_sees, this, stepO_ret, rgs, firstI]
  · have hi : 0 < l.length := by omega
    have h1 : (0 : Int) < (l.length : Int) := by omega
    have ih := F126_loop l a b hl (l.length - 1) 1 0 (by omega) (by omega)
    have hin : inI64 ((0 : Int) + 1) := by unfold inI64; omega
    have a0 := at_map hi
    have tk : (rgs (l.take 1) a b).map vI = [vI (rangeI (l.getD 0 0) a b)] := by
      cases l with
      | nil => simp at hi
      | cons x r => simp [rgs]
    simp only [B126, sem_br, sem_ask, sem_ret, sem_nxt, sem_bind_some, sem_sees, PC.holds, need_true, Int.toNat_zero, Nat.zero_mul, dI_cel_map, a0, h1, hin, decide_true, if_true, Int.le_refl, Nat.zero_le, F172_eq, stepO_nxt]
    rw [← ih, tk]; rfl
end Go.Kv
