/- MeterReads, in plain Lean. -/
import Derived.Test.YtjpmpeknnfhccaaGreatDoorKE5
namespace Go.Kv
set_option linter.unusedVariables false
set_option linter.unusedSimpArgs false
open Go Go.RowKit
set_option maxRecDepth 100000
def sl5 (l : List E5) : Nat × List DV := (l.length, l.flatMap eE)
def spE (f t : Int) : Int := if f < 0 ∨ f > t then 14 else 0
/-- What Read hands back of a valid profile. -/
def rdI (l : List E5) (f t : Int) : List E5 × Int :=
  if spE f t ≠ 0 then ([], 14) else if f = t then ([], 0) else if (l.length : Int) = 0 then ([], 7) else
  if f < (at5 l 0).1 then ([], 35) else if t > (at5 l 0).1 + (l.length : Int) then ([], 7) else
  ((l.drop (f - (at5 l 0).1).toNat).take ((t - (at5 l 0).1).toNat - (f - (at5 l 0).1).toNat), 0)
theorem rd_len (l : List E5) (f t : Int) : (rdI l f t).1.length ≤ l.length := by
  unfold rdI
  repeat' split
  all_goals simp
  all_goals omega
section
variable {l : List E5}
theorem first_at (h : 0 < l.length) : dI (cel (List.drop 0 (l.flatMap eE)) 0) = (at5 l 0).1 := by
  have := (ent_at h).c0
  rw [Nat.zero_mul] at this
  exact this
theorem first_ask (h : 0 < l.length) : Option.map AV.d (List.drop 0 (List.drop 0 (l.flatMap eE)))[0]? = some (AV.d (DV.v (Value.int IntKind.i64 (at5 l 0).1))) := by
  have := fm_at (enc := eE) eE_len h
  rw [Nat.zero_mul, ← at5_get h] at this
  have h2 : (l.flatMap eE)[0]? = ((l.flatMap eE).take 5)[0]? := by rw [List.getElem?_take]; simp
  simp only [List.drop_zero] at this ⊢
  rw [h2, this]; rfl
end
/-- The slice between two numbers. -/
theorem sub_sl (l : List E5) (i n : Nat) (h : i + n ≤ l.length) : ((l.drop i).take n).length = n ∧ List.take (n * 5) (List.drop (i * 5) (l.flatMap eE)) = ((l.drop i).take n).flatMap eE := by
  refine ⟨by simp; omega, ?_⟩
  rw [fm_drop eE_len, fm_take eE_len]
def readE (r f t : Int) (l : List E5) : Int := firstI [profI r l, spE f t]
/-! the greatest sum -/
def imp (l : List E5) (i : Nat) : Int := (at5 l i).2.2.1
def sumI (l : List E5) (i : Nat) : Nat → Int
  | 0 => 0
  | n + 1 => sumI l i n + imp l (i + n)
def great (l : List E5) (w : Nat) : Nat → Nat → Int → Int → Int × Int
  | 0, _, b, n => (b, n)
  | k + 1, i, b, n => if sumI l i w > b then great l w k (i + 1) (sumI l i w) (at5 l i).1 else great l w k (i + 1) b n
theorem sum_bd {l : List E5} (h : ∀ j, j < l.length → entE (at5 l j) = 0) (i : Nat) : ∀ n, i + n ≤ l.length → 0 ≤ sumI l i n ∧ sumI l i n ≤ n * 999999
  | 0, _ => by simp [sumI]
  | n + 1, hn => by
    obtain ⟨h1, h2⟩ := sum_bd h i n (by omega)
    obtain ⟨_, _, ⟨h3, h4⟩, _⟩ := entI_zero.1 (h (i + n) (by omega))
    have e : sumI l i (n + 1) = sumI l i n + (at5 l (i + n)).2.2.1 := rfl
    rw [e]
    constructor
    · omega
    · have : ((n + 1 : Nat) : Int) * 999999 = (n : Int) * 999999 + 999999 := by push_cast; omega
      omega
theorem cel_drop (L : List DV) (i k : Nat) : cel (L.drop i) k = cel L (i + k) := by
  unfold cel
  simp [List.getD_eq_getElem?_getD, List.getElem?_drop]
theorem at_k {l : List E5} {i : Nat} (hi : i < l.length) (k : Nat) (v : Int) (hk : k < 5) (hv : (eE (at5 l i))[k]? = some (vI v)) : Option.map AV.d (List.drop k (List.drop (i * 5) (l.flatMap eE)))[0]? = some (AV.d (DV.v (Value.int IntKind.i64 v))) := by
  have A := (ent_at hi).row
  have : (List.drop k (List.drop (i * 5) (l.flatMap eE)))[0]? = ((List.drop (i * 5) (l.flatMap eE)).take 5)[k]? := by
    rw [List.getElem?_drop, List.getElem?_take, if_pos hk, Nat.add_zero]
  rw [this, A, hv]; rfl
theorem at5_sub {l : List E5} {i n j : Nat} (hj : j < n) (hn : i + n ≤ l.length) : at5 ((l.drop i).take n) j = at5 l (i + j) := by
  unfold at5
  simp only [List.getD_eq_getElem?_getD, List.getElem?_take, List.getElem?_drop, if_pos hj]
def grI (l : List E5) (w : Int) : Int × Int := great l w.toNat (l.length - w.toNat + 1) 0 (-1) 0
def grE (r w : Int) (l : List E5) : Int := firstI [profI r l, rangeI w 1 16, whenI (decide ((l.length : Int) < w)) 16]
end Go.Kv
