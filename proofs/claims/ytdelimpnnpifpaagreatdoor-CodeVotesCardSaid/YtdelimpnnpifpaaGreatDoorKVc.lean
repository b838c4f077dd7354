import Derived.Test.YtdelimpnnpifpaaGreatDoorKVa
set_option linter.all false
namespace Go.Kv
open Go Go.RowKit
set_option maxRecDepth 100000
def inc1 (A : List Int) (x : Int) : List Int := A.set x.toNat (A.getD x.toNat 0 + 1)
def cntA : List Int → List Int → List Int
 | [], A => A
 | x :: l, A => cntA l (inc1 A x)
theorem inc1_len (A : List Int) (x : Int) : (inc1 A x).length = A.length := by unfold inc1; simp
theorem cntA_len : ∀ (l A : List Int), (cntA l A).length = A.length
 | [], _ => rfl
 | x :: l, A => by rw [cntA, cntA_len l, inc1_len]
theorem inc1_at {A : List Int} {x : Int} (h : 0 ≤ x ∧ x < (A.length : Int)) (j : Nat) : (inc1 A x).getD j 0 = A.getD j 0 + if (j : Int) = x then 1 else 0 := by
 unfold inc1
 rw [List.getD_eq_getElem?_getD, List.getElem?_set]
 by_cases hj : x.toNat = j
 ·subst hj
  have h1 : x.toNat < A.length := by omega
  have h2 : ((x.toNat : Nat) : Int) = x := by omega
  simp [h1, h2]
 ·have h2 : ¬ ((j : Int) = x) := by omega
  simp [hj, h2, List.getD_eq_getElem?_getD]
theorem cntA_at : ∀ (l A : List Int), (∀ x ∈ l, 0 ≤ x ∧ x < (A.length : Int)) → ∀ j : Nat, (cntA l A).getD j 0 = A.getD j 0 + (l.count (j : Int) : Int)
 | [], A, _, j => by simp [cntA]
 | x :: l, A, h, j => by
  rw [cntA, cntA_at l (inc1 A x) (fun y hy => by rw [inc1_len]; exact h y (by simp [hy])) j, inc1_at (h x (by simp)) j, List.count_cons]
  by_cases hj : (j : Int) = x
  ·simp [hj]; omega
  ·have : ¬ (x = (j : Int)) := fun e => hj e.symm
   simp [hj, this]
theorem mxF_ge : ∀ (l : List Int) (m : Int), m ≤ mxF l m ∧ ∀ x ∈ l, x ≤ mxF l m
 | [], m => ⟨by simp [mxF], by simp⟩
 | x :: l, m => by
  obtain ⟨h1, h2⟩ := mxF_ge l (if x > m then x else m)
  have h3 : m ≤ (if x > m then x else m) ∧ x ≤ (if x > m then x else m) := by split <;> omega
  rw [mxF]
  refine ⟨Int.le_trans h3.1 h1, fun y hy => ?_⟩
  rcases List.mem_cons.1 hy with rfl | hy
  ·exact Int.le_trans h3.2 h1
  ·exact h2 y hy
theorem mxF_mem : ∀ (l : List Int) (m : Int), mxF l m = m ∨ mxF l m ∈ l
 | [], m => Or.inl rfl
 | x :: l, m => by
  rw [mxF]
  rcases mxF_mem l (if x > m then x else m) with h | h
  ·rw [h]
   split
   ·exact Or.inr (by simp)
   ·exact Or.inl rfl
  ·exact Or.inr (List.mem_cons_of_mem _ h)
def WinIs (A : List Int) (k : Nat) (mx : Int) : Prop := k < A.length ∧ A.getD k 0 = mx ∧ (∀ j, j < k → A.getD j 0 ≠ mx) ∧ ∀ x ∈ A, x ≤ mx
theorem first_at : ∀ (A : List Int) (v : Int), v ∈ A → ∃ k, k < A.length ∧ A.getD k 0 = v ∧ ∀ j, j < k → A.getD j 0 ≠ v
 | [], _, h => by cases h
 | x :: A, v, h => by
  by_cases hx : x = v
  ·exact ⟨0, by simp, by simpa using hx, by intro j hj; omega⟩
  ·have h2 : v ∈ A := by
    rcases List.mem_cons.1 h with rfl | h
    ·exact absurd rfl hx
    ·exact h
   obtain ⟨k, h3, h4, h5⟩ := first_at A v h2
   refine ⟨k + 1, by simp; omega, by simpa using h4, fun j hj => ?_⟩
   match j, hj with
   | 0, _ => simpa using hx
   | j + 1, hj => simpa using h5 j (by omega)
theorem win_ex (a : Int) (A : List Int) : ∃ k, WinIs (a :: A) k (mxF A a) := by
 obtain ⟨h1, h2⟩ := mxF_ge A a
 have hm : mxF A a ∈ a :: A := by
  rcases mxF_mem A a with h | h
  ·rw [h]; simp
  ·exact List.mem_cons_of_mem _ h
 obtain ⟨k, h3, h4, h5⟩ := first_at (a :: A) (mxF A a) hm
 exact ⟨k, h3, h4, h5, fun x hx => by
  rcases List.mem_cons.1 hx with rfl | hx
  ·exact h1
  ·exact h2 x hx⟩
def stepW (s n most which : Int) (sh : Bool) : Int × Int × Bool := if n > most then (n, s, false) else if n = most then (most, which, true) else (most, which, sh)
def InvW (A : List Int) (s : Nat) (r : Int × Int × Bool) : Prop :=
 0 ≤ r.1 ∧ (∀ j, j < s → A.getD j 0 ≤ r.1) ∧ (0 < r.1 → ∃ k : Nat, r.2.1 = (k : Int) ∧ k < s ∧ A.getD k 0 = r.1 ∧ (∀ j, j < k → A.getD j 0 ≠ r.1) ∧ (r.2.2 = true ↔ ∃ j, k < j ∧ j < s ∧ A.getD j 0 = r.1))
theorem InvW.zero (A : List Int) : InvW A 0 (0, 0, false) := ⟨by simp, by intro j hj; omega, by intro h; simp at h⟩
theorem InvW.step {A : List Int} {s : Nat} {most which : Int} {sh : Bool} (h : InvW A s (most, which, sh)) : InvW A (s + 1) (stepW (s : Int) (A.getD s 0) most which sh) := by
 obtain ⟨h1, h2, h3⟩ := h
 simp only at h1 h2 h3
 unfold stepW
 by_cases c1 : A.getD s 0 > most
 ·rw [if_pos c1]
  refine ⟨by simp only; omega, fun j hj => ?_, fun _ => ⟨s, rfl, by omega, rfl, fun j hj => ?_, ?_⟩⟩
  ·simp only
   rcases Nat.lt_or_eq_of_le (Nat.le_of_lt_succ hj) with hj | rfl
   ·have := h2 j hj; omega
   ·exact Int.le_refl _
  ·simp only
   have := h2 j hj; omega
  ·simp only
   constructor
   ·intro h; cases h
   ·rintro ⟨j, hj1, hj2, _⟩; omega
 ·rw [if_neg c1]
  by_cases c2 : A.getD s 0 = most
  ·rw [if_pos c2]
   refine ⟨h1, fun j hj => ?_, fun hp => ?_⟩
   ·simp only
    rcases Nat.lt_or_eq_of_le (Nat.le_of_lt_succ hj) with hj | rfl
    ·exact h2 j hj
    ·omega
   ·obtain ⟨k, e1, e2, e3, e4, e5⟩ := h3 hp
    exact ⟨k, e1, by omega, e3, e4, by simp only [true_iff]; exact ⟨s, e2, by omega, c2⟩⟩
  ·rw [if_neg c2]
   refine ⟨h1, fun j hj => ?_, fun hp => ?_⟩
   ·simp only
    rcases Nat.lt_or_eq_of_le (Nat.le_of_lt_succ hj) with hj | rfl
    ·exact h2 j hj
    ·omega
   ·obtain ⟨k, e1, e2, e3, e4, e5⟩ := h3 hp
    refine ⟨k, e1, by omega, e3, e4, ?_⟩
    simp only at e5 ⊢
    rw [e5]
    constructor
    ·rintro ⟨j, j1, j2, j3⟩; exact ⟨j, j1, by omega, j3⟩
    ·rintro ⟨j, j1, j2, j3⟩
     rcases Nat.lt_or_eq_of_le (Nat.le_of_lt_succ j2) with j2 | rfl
     ·exact ⟨j, j1, j2, j3⟩
     ·exact absurd j3 c2
theorem InvW.win {A : List Int} {k : Nat} {mx : Int} (hw : WinIs A k mx) (hp : 0 < mx) {r : Int × Int × Bool} (h : InvW A A.length r) : r.1 = mx ∧ r.2.1 = (k : Int) ∧ r.2.2 = decide (mx ∈ A.drop (k + 1)) := by
 obtain ⟨w1, w2, w3, w4⟩ := hw
 obtain ⟨h1, h2, h3⟩ := h
 have hge : mx ≤ r.1 := by rw [← w2]; exact h2 k w1
 obtain ⟨k', e1, e2, e3, e4, e5⟩ := h3 (by omega)
 have hle : r.1 ≤ mx := by
  rw [← e3]
  refine w4 _ ?_
  rw [List.getD_eq_getElem?_getD, List.getElem?_eq_getElem e2]
  simp
 have hmx : r.1 = mx := by omega
 have hk : k' = k := by
  rcases Nat.lt_trichotomy k' k with h | h | h
  ·exact absurd (e3.trans hmx) (w3 k' h)
  ·exact h
  ·exact absurd (w2.trans hmx.symm) (e4 k h)
 subst hk
 refine ⟨hmx, e1, ?_⟩
 rw [Bool.eq_iff_iff, e5, decide_eq_true_eq, hmx]
 constructor
 ·rintro ⟨j, j1, j2, j3⟩
  rw [List.mem_iff_getElem]
  refine ⟨j - (k' + 1), by rw [List.length_drop]; omega, ?_⟩
  rw [List.getElem_drop]
  rw [List.getD_eq_getElem?_getD, List.getElem?_eq_getElem j2] at j3
  simpa [show k' + 1 + (j - (k' + 1)) = j by omega] using j3
 ·intro hm
  obtain ⟨i, hi, he⟩ := List.mem_iff_getElem.1 hm
  rw [List.length_drop] at hi
  refine ⟨k' + 1 + i, by omega, by omega, ?_⟩
  rw [List.getElem_drop] at he
  rw [List.getD_eq_getElem?_getD, List.getElem?_eq_getElem (by omega)]
  simpa using he
end Go.Kv
namespace Go.Kv
open Go Go.RowKit
set_option maxRecDepth 100000
theorem B107_end (l : List Int) (A : List Int) (hA : A.length = 17) : ∃ (k : Nat) (mx : Int), WinIs A k mx ∧ res B107 (.c2 l.length (l.map vI) (l.length : Int) (l.length : Int) (A.map aI)) = some ((k : Int), !decide (mx ∈ A.drop (k + 1))) := by
 match A, hA with
 | a :: A, hA =>
  have hA1 : A.length = 16 := by simpa using hA
  obtain ⟨k, hw⟩ := win_ex a A
  refine ⟨k, mxF A a, hw, ?_⟩
  obtain ⟨h3, h4, h5, h6⟩ := hw
  rw [hA] at h3
  have e145 : F145 17 ((a :: A).map vI) = some (mxF A a) := by
   have h := F145_eq a A (by omega)
   rw [hA1] at h
   exact h
  have e146 : F146 17 ((a :: A).map vI) (mxF A a) = some ((k : Nat) : Int) := by
   have h := F146_at (a :: A) (mxF A a) (by omega) k (by omega) h4 h5
   rw [hA] at h
   exact h
  have hdl : ((a :: A).drop (k + 1)).length = 17 - (k + 1) := by rw [List.length_drop, hA]
  have e110 : F110 (17 - (k + 1)) (((a :: A).drop (k + 1)).map vI) (mxF A a) = some (decide (mxF A a ∈ (a :: A).drop (k + 1))) := by
   have h := F110_eq ((a :: A).drop (k + 1)) (by omega) (mxF A a)
   rw [hdl] at h
   exact h
  have ht0 : List.take 17 (List.drop 0 ((a :: A).map aI)) = (a :: A).map aI := by
   rw [List.drop_zero, List.take_of_length_le (by simp [hA1])]
  have hk1 : ((k : Int) + 1).toNat = k + 1 := by omega
  have hin : inI64 ((k : Int) + 1) := by unfold inI64; omega
  have hp : 0 ≤ (k : Int) + 1 := by omega
  have hp2 : (k : Int) + 1 ≤ 17 := by omega
  have ht1 : List.take ((17 - (k + 1)) * 1) (List.drop (if Nat.beq 17 (k + 1) = true then 0 else 0 + (k + 1) * 1) ((a :: A).map aI)) = ((a :: A).drop (k + 1)).map aI := by
   by_cases hk : k + 1 = 17
   ·have e : Nat.beq 17 (k + 1) = true := by rw [hk]; rfl
    rw [if_pos e, hk, List.drop_eq_nil_of_le (show (a :: A).length ≤ 17 by omega)]
    rfl
   ·have e : ¬ Nat.beq 17 (k + 1) = true := fun h => hk (Nat.eq_of_beq_eq_true h).symm
    rw [if_neg e, Nat.mul_one, Nat.mul_one, Nat.zero_add, ← List.map_drop, List.take_of_length_le (by rw [List.length_map, hdl]; exact Nat.le_refl _)]
  have hle : (if Nat.beq 17 (k + 1) = true then 0 else 0 + (k + 1) * 1) + (17 - (k + 1)) * 1 ≤ ((a :: A).map aI).length := by
   rw [List.length_map, hA]
   split <;> omega
  rw [res_eq]
  have h1 : ¬ ((l.length : Int) < (l.length : Int)) := by omega
  simp only [B107, sem_br, h1, decide_false, Bool.false_eq_true, if_false, ht0, aD_aI, e145, sem_bind_some, sem_sees, sem_ask, PC.holds, e146, hk1, ht1, e110, hin, hp, hp2, need_true, sem_ret]
  rw [need_of (by simp [hA1]), need_of (toDs_aI _), need_of (by simp [hA1]), need_of (toDs_aI _), need_of hle, need_of (toDs_aI _), need_of (Or.inl trivial), stepO_ret]
theorem B107_loop (l : List Int) (hl : l.length ≤ 300) (hs : okS l) : ∀ (xs : List Int) (i : Nat) (A : List Int), l.drop i = xs → i ≤ l.length → A.length = 17 → (∀ j, 0 ≤ A.getD j 0 ∧ A.getD j 0 ≤ (i : Int)) →
  res B107 (.c2 l.length (l.map vI) (l.length : Int) (i : Int) (A.map aI)) = res B107 (.c2 l.length (l.map vI) (l.length : Int) (l.length : Int) ((cntA xs A).map aI)) := by
 intro xs
 induction xs with
 | nil =>
  intro i A hd hi hA hb
  have hi2 : i = l.length := by
   have := congrArg List.length hd
   simp at this; omega
  rw [hi2]; rfl
 | cons x xs ih =>
  intro i A hd hi hA hb
  have hi2 : i < l.length := by
   apply Classical.byContradiction
   intro h
   rw [List.drop_eq_nil_of_le (by omega)] at hd
   simp at hd
  have hx : l.getD i 0 = x ∧ l.drop (i + 1) = xs := by
   rw [dropD 0 hi2] at hd
   simpa using hd
  have hxs : 0 ≤ x ∧ x < 17 := by
   refine hs x ?_
   have : x ∈ l.drop i := by rw [hd]; simp
   exact List.mem_of_mem_drop this
  have ih' := ih (i + 1) (inc1 A x) hx.2 (by omega) (by rw [inc1_len]; exact hA) (fun j => by
   have := hb j
   rw [inc1_at (by omega) j]
   split <;> omega)
  have g1 := at_map hi2
  rw [hx.1] at g1
  have g2 : dI (cel (l.map vI) i) = x := by rw [dI_cel_map, hx.1]
  have hxn : x.toNat < A.length := by omega
  have g3 := atA hxn
  have hbx := hb x.toNat
  have h1 : (i : Int) < (l.length : Int) := by omega
  have h3 : inI64 (((i + 1 : Nat)) : Int) := by unfold inI64; omega
  have h4 : 0 ≤ (i : Int) := by omega
  have h12 : (i : Int) + 1 = ((i + 1 : Nat) : Int) := by omega
  have h8 : inI64 (A.getD x.toNat 0 + 1) := by unfold inI64; omega
  rw [cntA, ← ih', res_eq]
  simp only [B107, sem_br, h1, decide_true, if_true, sem_ask, need_true, PC.holds, h3, h4, Int.toNat_natCast, Nat.mul_one, Nat.zero_add, g1, g2, hxs.1, hxs.2, celA_aI, g3, h8, h12, sem_triv, spl1 _ hxn, refK_map, sem_nxt]
  rw [need_of (by simp; omega), need_of (by simp; omega), stepO_nxt]
  rfl
def zero17 : List Int := List.replicate 17 0
theorem F107_eq (l : List Int) (hl : l.length ≤ 300) (h0 : 0 < l.length) (hs : okS l) : ∃ (k : Nat) (mx : Int), WinIs (cntA l zero17) k mx ∧ F107 l.length (l.map vI) = some ((k : Int), !decide (mx ∈ (cntA l zero17).drop (k + 1))) := by
 have hlen : (cntA l zero17).length = 17 := by rw [cntA_len]; rfl
 obtain ⟨k, mx, hw, he⟩ := B107_end l (cntA l zero17) hlen
 refine ⟨k, mx, hw, ?_⟩
 match l, h0 with
 | x :: l, h0 =>
  have hxs := hs x (by simp)
  have hz : ∀ j, zero17.getD j 0 = 0 := by
   intro j
   unfold zero17
   rw [List.getD_eq_getElem?_getD, List.getElem?_replicate]
   split <;> rfl
  have hb := B107_loop (x :: l) hl hs l 1 (inc1 zero17 x) rfl (by simp) (by rw [inc1_len]; rfl) (fun j => by
   rw [inc1_at (by show 0 ≤ x ∧ x < ((17 : Nat) : Int); omega) j, hz j]
   split <;> omega)
  rw [← he]
  rw [cntA]
  refine Eq.trans ?_ hb
  unfold F107; rw [res_eq]
  simp only [B107, sem_nxt, stepO_nxt]
  rw [res_eq]
  have g1 := at_map (l := x :: l) (i := 0) (by simp)
  have g2 : dI (cel ((x :: l).map vI) 0) = x := rfl
  have h1 : (0 : Int) < ((x :: l).length : Int) := by have := h0; omega
  have hin : inI64 ((0 : Int) + 1) := by unfold inI64; omega
  have hzl : [AV.d (DV.v (Value.int IntKind.i64 0)), AV.d (DV.v (Value.int IntKind.i64 0)), AV.d (DV.v (Value.int IntKind.i64 0)), AV.d (DV.v (Value.int IntKind.i64 0)), AV.d (DV.v (Value.int IntKind.i64 0)), AV.d (DV.v (Value.int IntKind.i64 0)), AV.d (DV.v (Value.int IntKind.i64 0)), AV.d (DV.v (Value.int IntKind.i64 0)), AV.d (DV.v (Value.int IntKind.i64 0)), AV.d (DV.v (Value.int IntKind.i64 0)), AV.d (DV.v (Value.int IntKind.i64 0)), AV.d (DV.v (Value.int IntKind.i64 0)), AV.d (DV.v (Value.int IntKind.i64 0)), AV.d (DV.v (Value.int IntKind.i64 0)), AV.d (DV.v (Value.int IntKind.i64 0)), AV.d (DV.v (Value.int IntKind.i64 0)), AV.d (DV.v (Value.int IntKind.i64 0))] = zero17.map aI := rfl
  have hxn : x.toNat < zero17.length := by show x.toNat < 17; omega
  have g3 := atA hxn
  have hzx := hz x.toNat
  have h8 : inI64 (zero17.getD x.toNat 0 + 1) := by rw [hzx]; unfold inI64; omega
  have hzlen : zero17.length = 17 := rfl
  simp only [B107, sem_br, h1, decide_true, if_true, sem_ask, need_true, PC.holds, show Int.toNat 0 = 0 from rfl, Nat.zero_mul, Nat.mul_one, Nat.zero_add, g1, g2, hxs.1, hxs.2, hzl, celA_aI, g3, h8, hin, sem_triv, spl1 _ hxn, refK_map, sem_nxt, Int.le_refl, Nat.zero_le]
  rw [need_of (by rfl), need_of (by omega), stepO_nxt]
  rfl
end Go.Kv
namespace Go.Kv
open Go Go.RowKit
set_option maxRecDepth 100000
def col (R : List (List Int)) (i : Nat) : List Int := R.map fun r => r.getD i 0
theorem F109_eq (r : List Int) (i : Nat) (hi : i < r.length) : F109 r.length (r.map vI) [vI (i : Int)] = some (r.getD i 0) := by
 have g1 := at_map hi
 have h1 : dI (cel [vI (i : Int)] 0) = (i : Int) := rfl
 have h2 : (i : Int) < (r.length : Int) := by omega
 have h3 : 0 ≤ (i : Int) := by omega
 unfold F109; rw [res_eq]
 simp only [B109, sem_ask, PC.holds, h1, h2, h3, need_true, Int.toNat_natCast, Nat.mul_one, g1, dI_cel_map, sem_ret]
 rw [need_of (by rfl), need_of (by simp; omega), stepO_ret]
theorem F108f_loop (R : List (List Int)) (hm : R.length ≤ 300) (c : Nat) (hc : ∀ r ∈ R, c < r.length) : ∀ (k i : Nat), R.length = i + k → 0 < i →
  res B108f (.c2 [vI (c : Int)] (i - 1) i ((col (R.take i) c).map vI) R.length (R.map rD) (R.length : Int) (i : Int) (i - 1)) = some (R.length, (col R c).map vI) := by
 intro k
 induction k with
 | zero =>
  intro i hk h0
  rw [res_eq, List.take_of_length_le (by omega)]
  have h1 : ¬ ((i : Int) < (R.length : Int)) := by omega
  have h2 : i = R.length := by omega
  simp only [B108f, sem_br, sem_ask, PC.holds, need_true, sem_ret, h1, decide_false, Bool.false_eq_true, if_false]
  rw [need_of h0, stepO_ret, h2]
 | succ k IH =>
  intro i hk h0
  have hi : i < R.length := by omega
  obtain ⟨g1, g2⟩ := celR R hi
  have g3 := at_mapR hi
  have h1 : (i : Int) < (R.length : Int) := by omega
  have hin : inI64 ((i : Int) + 1) := by unfold inI64; omega
  have ih := IH (i + 1) (by omega) (by omega)
  have hf := fits_1 (n := i + 1) (by omega)
  have hs := F109_eq (R.getD i []) c (hc _ (by rw [List.getD_eq_getElem?_getD, List.getElem?_eq_getElem hi]; simp))
  rw [res_eq]
  simp only [B108f, sem_br, sem_ask, sem_ret, sem_nxt, PC.holds, need_true, Int.toNat_natCast, Nat.mul_one, g1, g2, g3, h1, hin, decide_true, if_true, Int.natCast_nonneg, List.length_map, Nat.le_of_lt hi, hs, sem_bind_some, sem_sees, hf, stepO_nxt]
  have e : (col (R.take (i + 1)) c).map vI = (col (R.take i) c).map vI ++ [vI ((R.getD i []).getD c 0)] := by
   unfold col
   rw [List.take_succ, List.map_append, List.map_append, List.getElem?_eq_getElem hi]
   simp [List.getD_eq_getElem?_getD, hi]
  rw [e] at ih
  rw [show ((i : Int) + 1) = ((i + 1 : Nat) : Int) by omega, show i - 1 + 1 = i by omega]
  exact ih
theorem F108f_eq (R : List (List Int)) (h0 : 0 < R.length) (hm : R.length ≤ 300) (c : Nat) (hc : ∀ r ∈ R, c < r.length) : F108f R.length (R.map rD) [vI (c : Int)] = some (R.length, (col R c).map vI) := by
 unfold F108f; rw [res_eq]
 simp only [B108f, sem_nxt, stepO_nxt]
 rw [res_eq]
 obtain ⟨g1, g2⟩ := celR0 R h0
 have g3 := at_mapR h0
 have h1 : (0 : Int) < (R.length : Int) := by omega
 have hin : inI64 ((0 : Int) + 1) := by unfold inI64; omega
 have hs := F109_eq (R.getD 0 []) c (hc _ (by rw [List.getD_eq_getElem?_getD, List.getElem?_eq_getElem h0]; simp))
 simp only [B108f, sem_br, sem_ask, sem_ret, sem_nxt, PC.holds, need_true, Nat.mul_one, Nat.zero_mul, g1, g2, h1, hin, decide_true, if_true, List.length_map, hs, sem_bind_some, sem_sees, stepO_nxt, show Int.toNat 0 = 0 from rfl, g3, Nat.zero_le, Int.le_refl]
 have hh := F108f_loop R hm c hc (R.length - 1) 1 (by omega) (by omega)
 have e : (col (R.take 1) c).map vI = [vI ((R.getD 0 []).getD c 0)] := by
  match R, h0 with
  | x :: R, _ => rfl
 rw [e] at hh
 exact hh
end Go.Kv
namespace Go.Kv
open Go Go.RowKit
set_option maxRecDepth 100000
noncomputable def wF (l : List Int) : Int × Bool := (F107 l.length (l.map vI)).getD (0, false)
theorem F107_some (l : List Int) (hl : l.length ≤ 300) (h0 : 0 < l.length) (hs : okS l) : F107 l.length (l.map vI) = some (wF l) := by
 obtain ⟨k, mx, _, h⟩ := F107_eq l hl h0 hs
 unfold wF
 rw [h]; rfl
noncomputable def outT (R : List (List Int)) (i m : Nat) : List Int := (List.range' i m).map fun c => if (wF (col R c)).2 = true then (wF (col R c)).1 else 0
noncomputable def erT (R : List (List Int)) (i m : Nat) : List Int := ((List.range' i m).filter fun c => !(wF (col R c)).2).map fun (c : Nat) => (c : Int)
theorem outT_succ (R : List (List Int)) (i m : Nat) : outT R i (m + 1) = (if (wF (col R i)).2 = true then (wF (col R i)).1 else 0) :: outT R (i + 1) m := by
 unfold outT; rw [List.range'_succ, List.map_cons]
theorem erT_succ (R : List (List Int)) (i m : Nat) : erT R i (m + 1) = if (wF (col R i)).2 = true then erT R (i + 1) m else (i : Int) :: erT R (i + 1) m := by
 unfold erT; rw [List.range'_succ, List.filter_cons]
 cases (wF (col R i)).2 <;> simp
theorem ownN_own (n : Nat) (xs : List DV) : ownN (AV.own 0 0 1 n xs) = n := rfl
theorem flatDs_vI : ∀ l : List Int, flatDs (l.map vI) = true
 | [] => rfl
 | x :: l => by rw [List.map_cons]; unfold flatDs; exact flatDs_vI l
structure Good (R : List (List Int)) : Prop where
 h0 : 0 < R.length
 hm : R.length ≤ 300
 ev : ∀ r ∈ R, r.length = len0 R
 le : len0 R ≤ 16
 ok : ∀ r ∈ R, okS r
theorem Good.col_len {R : List (List Int)} (_ : Good R) (c : Nat) : (col R c).length = R.length := by unfold col; simp
theorem Good.col_ok {R : List (List Int)} (h : Good R) {c : Nat} (hc : c < len0 R) : okS (col R c) := by
 intro x hx
 unfold col at hx
 obtain ⟨r, hr, rfl⟩ := List.mem_map.1 hx
 have hl := h.ev r hr
 rw [List.getD_eq_getElem?_getD, List.getElem?_eq_getElem (by omega)]
 exact h.ok r hr _ (List.getElem_mem _)
theorem Good.mapped {R : List (List Int)} (h : Good R) {c : Nat} (hc : c < len0 R) : F108f R.length (R.map rD) [vI (c : Int)] = some (R.length, (col R c).map vI) :=
 F108f_eq R h.h0 h.hm c fun r hr => by rw [h.ev r hr]; exact hc
theorem Good.win {R : List (List Int)} (h : Good R) {c : Nat} (hc : c < len0 R) : F107 R.length ((col R c).map vI) = some (wF (col R c)) := by
 have := F107_some (col R c) (by rw [h.col_len]; exact h.hm) (by rw [h.col_len]; exact h.h0) (h.col_ok hc)
 rw [h.col_len] at this
 exact this
theorem B61_c2 {R : List (List Int)} (h : Good R) : ∀ (m i : Nat) (os es : List Int), len0 R = i + m → 0 < os.length → os.length ≤ i → 0 < es.length → es.length ≤ i →
  res B61 (.c2 R.length (R.map rD) (os.length - 1) os.length (os.map vI) (es.length - 1) es.length (es.map vI) (len0 R : Int) (i : Int) (es.length - 1) (os.length - 1)) =
   some ((os ++ outT R i m).length, (os ++ outT R i m).map vI, (es ++ erT R i m).length, (es ++ erT R i m).map vI, 0) := by
 intro m
 induction m with
 | zero =>
  intro i os es hi ho ho2 he he2
  rw [res_eq]
  have h1 : ¬ ((i : Int) < (len0 R : Int)) := by omega
  simp only [B61, sem_br, h1, decide_false, Bool.false_eq_true, if_false, sem_ret, stepO_ret]
  simp [outT, erT]
 | succ m ih =>
  intro i os es hi ho ho2 he he2
  have hle := h.le
  have hci : i < len0 R := by omega
  have h1 : (i : Int) < (len0 R : Int) := by omega
  have hn : Nat.beq R.length 0 = false := by
   cases hr : R.length with
   | zero => have := h.h0; omega
   | succ n => rfl
  have hn2 := h.h0
  have hin : inI64 (((i + 1 : Nat)) : Int) := by unfold inI64; omega
  have h12 : (i : Int) + 1 = ((i + 1 : Nat) : Int) := by omega
  have hf1 : fitsN (os.length + 1) 8 := fits_1 (by omega)
  have hf2 : fitsN (es.length + 1) 8 := fits_1 (by omega)
  rw [res_eq, outT_succ, erT_succ]
  by_cases hw : (wF (col R i)).2 = true
  ·have ih' := ih (i + 1) (os ++ [(wF (col R i)).1]) es (by omega) (by simp) (by simp; omega) he (by omega)
   rw [if_pos hw, if_pos hw]
   simp only [B61, sem_br, h1, decide_true, if_true, h.mapped hci, sem_bind_some, ownN_own, hn, Bool.false_eq_true, if_false, sem_sees, sem_ask, PC.holds, need_true, hn2, flatDs_vI, h.win hci, hw, Bool.not_true, hf1, h12, hin, sem_nxt, stepO_nxt]
   rw [List.append_assoc] at ih'
   refine Eq.trans ?_ ih'
   rw [List.length_append, List.length_singleton, List.map_append, show os.length - 1 + 1 = os.length + 1 - 1 by omega]
   rfl
  ·have hw2 : (wF (col R i)).2 = false := by simpa using hw
   have ih' := ih (i + 1) (os ++ [0]) (es ++ [(i : Int)]) (by omega) (by simp) (by simp; omega) (by simp) (by simp; omega)
   rw [if_neg hw, if_neg hw]
   simp only [B61, sem_br, h1, decide_true, if_true, h.mapped hci, sem_bind_some, ownN_own, hn, Bool.false_eq_true, if_false, sem_sees, sem_ask, PC.holds, need_true, hn2, flatDs_vI, h.win hci, hw2, Bool.not_false, hf1, hf2, h12, hin, sem_nxt, stepO_nxt]
   rw [List.append_assoc, List.append_assoc] at ih'
   refine Eq.trans ?_ ih'
   rw [List.length_append, List.length_append, List.length_singleton, List.length_singleton, List.map_append, List.map_append, show os.length - 1 + 1 = os.length + 1 - 1 by omega, show es.length - 1 + 1 = es.length + 1 - 1 by omega]
   rfl
end Go.Kv
namespace Go.Kv
open Go Go.RowKit
set_option maxRecDepth 100000
theorem B61_c4 {R : List (List Int)} (h : Good R) : ∀ (m i : Nat) (os es : List Int), len0 R = i + m → 0 < os.length → os.length ≤ i → 0 < es.length → es.length ≤ i →
  res B61 (.c4 R.length (R.map rD) (os.length - 1) os.length (os.map vI) (es.length - 1) es.length (es.map vI) (len0 R : Int) (i : Int) (os.length - 1) (es.length - 1)) =
   some ((os ++ outT R i m).length, (os ++ outT R i m).map vI, (es ++ erT R i m).length, (es ++ erT R i m).map vI, 0) := by
 intro m
 induction m with
 | zero =>
  intro i os es hi ho ho2 he he2
  rw [res_eq]
  have h1 : ¬ ((i : Int) < (len0 R : Int)) := by omega
  simp only [B61, sem_br, h1, decide_false, Bool.false_eq_true, if_false, sem_ret, stepO_ret]
  simp [outT, erT]
 | succ m ih =>
  intro i os es hi ho ho2 he he2
  have hle := h.le
  have hci : i < len0 R := by omega
  have h1 : (i : Int) < (len0 R : Int) := by omega
  have hn : Nat.beq R.length 0 = false := by
   cases hr : R.length with
   | zero => have := h.h0; omega
   | succ n => rfl
  have hn2 := h.h0
  have hin : inI64 (((i + 1 : Nat)) : Int) := by unfold inI64; omega
  have h12 : (i : Int) + 1 = ((i + 1 : Nat) : Int) := by omega
  have hf1 : fitsN (os.length + 1) 8 := fits_1 (by omega)
  have hf2 : fitsN (es.length + 1) 8 := fits_1 (by omega)
  rw [res_eq, outT_succ, erT_succ]
  by_cases hw : (wF (col R i)).2 = true
  ·have ih' := ih (i + 1) (os ++ [(wF (col R i)).1]) es (by omega) (by simp) (by simp; omega) he (by omega)
   rw [if_pos hw, if_pos hw]
   simp only [B61, sem_br, h1, decide_true, if_true, h.mapped hci, sem_bind_some, ownN_own, hn, Bool.false_eq_true, if_false, sem_sees, sem_ask, PC.holds, need_true, hn2, flatDs_vI, h.win hci, hw, Bool.not_true, hf1, h12, hin, sem_nxt, stepO_nxt]
   rw [List.append_assoc] at ih'
   refine Eq.trans ?_ ih'
   rw [List.length_append, List.length_singleton, List.map_append, show os.length - 1 + 1 = os.length + 1 - 1 by omega]
   rfl
  ·have hw2 : (wF (col R i)).2 = false := by simpa using hw
   have ih' := ih (i + 1) (os ++ [0]) (es ++ [(i : Int)]) (by omega) (by simp) (by simp; omega) (by simp) (by simp; omega)
   rw [if_neg hw, if_neg hw]
   simp only [B61, sem_br, h1, decide_true, if_true, h.mapped hci, sem_bind_some, ownN_own, hn, Bool.false_eq_true, if_false, sem_sees, sem_ask, PC.holds, need_true, hn2, flatDs_vI, h.win hci, hw2, Bool.not_false, hf1, hf2, h12, hin, sem_nxt, stepO_nxt]
   rw [List.append_assoc, List.append_assoc] at ih'
   refine Eq.trans ?_ ih'
   rw [List.length_append, List.length_append, List.length_singleton, List.length_singleton, List.map_append, List.map_append, show os.length - 1 + 1 = os.length + 1 - 1 by omega, show es.length - 1 + 1 = es.length + 1 - 1 by omega]
   rfl
theorem B61_c3 {R : List (List Int)} (h : Good R) : ∀ (m i : Nat) (os : List Int), len0 R = i + m → 0 < os.length → os.length ≤ i →
  res B61 (.c3 R.length (R.map rD) (os.length - 1) os.length (os.map vI) (len0 R : Int) (i : Int) (os.length - 1)) =
   some ((os ++ outT R i m).length, (os ++ outT R i m).map vI, (erT R i m).length, (erT R i m).map vI, 0) := by
 intro m
 induction m with
 | zero =>
  intro i os hi ho ho2
  rw [res_eq]
  have h1 : ¬ ((i : Int) < (len0 R : Int)) := by omega
  simp only [B61, sem_br, h1, decide_false, Bool.false_eq_true, if_false, sem_ret, stepO_ret]
  simp [outT, erT]
 | succ m ih =>
  intro i os hi ho ho2
  have hle := h.le
  have hci : i < len0 R := by omega
  have h1 : (i : Int) < (len0 R : Int) := by omega
  have hn : Nat.beq R.length 0 = false := by
   cases hr : R.length with
   | zero => have := h.h0; omega
   | succ n => rfl
  have hn2 := h.h0
  have hin : inI64 (((i + 1 : Nat)) : Int) := by unfold inI64; omega
  have h12 : (i : Int) + 1 = ((i + 1 : Nat) : Int) := by omega
  have hf1 : fitsN (os.length + 1) 8 := fits_1 (by omega)
  rw [res_eq, outT_succ, erT_succ]
  by_cases hw : (wF (col R i)).2 = true
  ·have ih' := ih (i + 1) (os ++ [(wF (col R i)).1]) (by omega) (by simp) (by simp; omega)
   rw [if_pos hw, if_pos hw]
   simp only [B61, sem_br, h1, decide_true, if_true, h.mapped hci, sem_bind_some, ownN_own, hn, Bool.false_eq_true, if_false, sem_sees, sem_ask, PC.holds, need_true, hn2, flatDs_vI, h.win hci, hw, Bool.not_true, hf1, h12, hin, sem_nxt, stepO_nxt]
   rw [List.append_assoc] at ih'
   refine Eq.trans ?_ ih'
   rw [List.length_append, List.length_singleton, List.map_append, show os.length - 1 + 1 = os.length + 1 - 1 by omega]
   rfl
  ·have hw2 : (wF (col R i)).2 = false := by simpa using hw
   have ih' := B61_c4 h m (i + 1) (os ++ [0]) [(i : Int)] (by omega) (by simp) (by simp; omega) (by simp) (by simp)
   rw [if_neg hw, if_neg hw]
   simp only [B61, sem_br, h1, decide_true, if_true, h.mapped hci, sem_bind_some, ownN_own, hn, Bool.false_eq_true, if_false, sem_sees, sem_ask, PC.holds, need_true, hn2, flatDs_vI, h.win hci, hw2, Bool.not_false, hf1, h12, hin, sem_nxt, stepO_nxt]
   rw [List.append_assoc] at ih'
   refine Eq.trans ?_ ih'
   rw [List.length_append, List.length_singleton, List.map_append, show os.length - 1 + 1 = os.length + 1 - 1 by omega]
   rfl
theorem good_of {R : List (List Int)} (hm : R.length ≤ 300) (hL : ∀ r ∈ R, r.length ≤ 300) (most : Int) (h : rowsE R most = 0) : Good R := by
 have h1 : firstI [whenI ((R.length : Int) == 0) 12, whenI (decide ((R.length : Int) > most)) 5] = 0 := by
  apply Classical.byContradiction
  intro hn
  unfold rowsE at h
  rw [if_pos hn] at h
  exact hn h
 rw [rowsE_of R most h1] at h
 have h0 : 0 < R.length := by
  rw [firstI_zero] at h1
  have := (whenI_zero (by decide)).1 h1.1
  have h2 : ¬ ((R.length : Int) = 0) := by simpa using this
  omega
 by_cases hu : unevenR R R
 ·rw [if_pos hu] at h; cases h
 ·rw [if_neg hu] at h
  by_cases hx : len0 R > 16
  ·rw [if_pos hx] at h; cases h
  ·rw [if_neg hx] at h
   refine ⟨h0, hm, fun r hr => ?_, by omega, fun r hr => ?_⟩
   ·apply Classical.byContradiction
    intro hn
    exact hu ⟨r, hr, hn⟩
   ·have key : ∀ (S : List (List Int)), firstI (S.map symI) = 0 → ∀ r ∈ S, symI r = 0 := by
     intro S
     induction S with
     | nil => intro _ r hr; cases hr
     | cons x S ih =>
      intro hs r hr
      rw [List.map_cons, firstI_zero] at hs
      rcases List.mem_cons.1 hr with rfl | hr
      ·exact hs.1
      ·exact ih hs.2 r hr
    exact symI_zero.1 (key R h r hr)
theorem F61_eq (R : List (List Int)) (hm : R.length ≤ 300) (hL : ∀ r ∈ R, r.length ≤ 300) :
  F61 R.length (R.map rD) = some (if rowsE R 15 = 0 then ((outT R 0 (len0 R)).length, (outT R 0 (len0 R)).map vI, (erT R 0 (len0 R)).length, (erT R 0 (len0 R)).map vI, 0) else (0, [], 0, [], rowsE R 15)) := by
 unfold F61; rw [res_eq]
 simp only [B61, F104_eq R 15 hm hL, sem_bind_some, sem_sees, sem_br]
 by_cases h : rowsE R 15 = 0
 ·have hg := good_of hm hL 15 h
  have hb : (rowsE R 15 != 0) = false := by rw [h]; rfl
  have g1 : dN (cel (R.map rD) 0) = len0 R := (celR0 R hg.h0).1
  have g2 := (celR0 R hg.h0).2
  have g3 : Option.map AV.d (List.drop 0 (R.map rD))[0]? = some (AV.d (DV.sl (len0 R) ((R.getD 0 []).map vI))) := at_mapR hg.h0
  have hc : 0 < (R.length : Int) := by have := hg.h0; omega
  rw [if_pos h]
  simp only [hb, Bool.false_eq_true, if_false, sem_ask, PC.holds, need_true, hc, Nat.zero_le, g1, g2, g3, sem_nxt, stepO_nxt]
  rw [res_eq]
  cases hl : len0 R with
  | zero =>
   have h1 : ¬ ((0 : Int) < ((0 : Nat) : Int)) := by omega
   simp only [B61, sem_br, h1, decide_false, Bool.false_eq_true, if_false, sem_ret, stepO_ret]
   rfl
  | succ m =>
   have hle := hg.le
   have hci : 0 < len0 R := by omega
   have h1 : (0 : Int) < ((m + 1 : Nat) : Int) := by omega
   have hn : Nat.beq R.length 0 = false := by
    cases hr : R.length with
    | zero => have := hg.h0; omega
    | succ n => rfl
   have hn2 := hg.h0
   have hin : inI64 ((0 : Int) + 1) := by unfold inI64; omega
   have q1 := hg.mapped hci
   have q2 := hg.win hci
   rw [show ((0 : Nat) : Int) = 0 from rfl] at q1
   rw [outT_succ, erT_succ]
   by_cases hw : (wF (col R 0)).2 = true
   ·have ih' := B61_c3 hg m 1 [(wF (col R 0)).1] (by omega) (by simp) (by simp)
    rw [if_pos hw, if_pos hw]
    simp only [B61, sem_br, h1, decide_true, if_true, q1, sem_bind_some, ownN_own, hn, Bool.false_eq_true, if_false, sem_sees, sem_ask, PC.holds, need_true, hn2, flatDs_vI, q2, hw, Bool.not_true, hin, sem_nxt, stepO_nxt]
    rw [hl] at ih'
    exact ih'
   ·have hw2 : (wF (col R 0)).2 = false := by simpa using hw
    have ih' := B61_c2 hg m 1 [0] [((0 : Nat) : Int)] (by omega) (by simp) (by simp) (by simp) (by simp)
    rw [if_neg hw, if_neg hw]
    simp only [B61, sem_br, h1, decide_true, if_true, q1, sem_bind_some, ownN_own, hn, Bool.false_eq_true, if_false, sem_sees, sem_ask, PC.holds, need_true, hn2, flatDs_vI, q2, hw2, Bool.not_false, hin, sem_nxt, stepO_nxt]
    rw [hl] at ih'
    exact ih'
 ·have hb : (rowsE R 15 != 0) = true := by simpa using h
  rw [if_neg h]
  simp only [hb, if_true, sem_ret, stepO_ret]
end Go.Kv
namespace Go.Kv
open Go Go.RowKit
set_option maxRecDepth 100000
theorem count_at {R : List (List Int)} {c k : Nat} (hk : k < R.length) (s : Int) : ((col R c).drop k).count s = ((col R c).drop (k + 1)).count s + if (R.getD k []).getD c 0 = s then 1 else 0 := by
 have hl : k < (col R c).length := by unfold col; simpa using hk
 rw [dropD 0 hl, List.count_cons]
 have e : (col R c).getD k 0 = (R.getD k []).getD c 0 := by
  unfold col
  rw [List.getD_eq_getElem?_getD, List.getElem?_map, List.getElem?_eq_getElem hk, List.getD_eq_getElem?_getD (l := R), List.getElem?_eq_getElem hk]
  rfl
 rw [e]
 by_cases h : (R.getD k []).getD c 0 = s
 ·simp [h]
 ·simp [h]
theorem B66_ain {R : List (List Int)} (hg : Good R) {c : Nat} (hc : c < len0 R) (most which s : Int) (sh : Bool) : ∀ (m k : Nat) (n : Int), R.length = k + m → 0 ≤ n → n ≤ (k : Int) →
  res B66 (.c2 R.length (R.map rD) (c : Int) most which sh s n (k : Int)) = res B66 (.c4 R.length (R.map rD) (c : Int) (stepW s (n + (((col R c).drop k).count s : Int)) most which sh).1 (stepW s (n + (((col R c).drop k).count s : Int)) most which sh).2.1 (stepW s (n + (((col R c).drop k).count s : Int)) most which sh).2.2 s) := by
 intro m
 induction m with
 | zero =>
  intro k n hk h0 h1
  have hz : ((col R c).drop k).count s = 0 := by
   rw [List.drop_eq_nil_of_le (by rw [hg.col_len]; omega)]; rfl
  have q1 : ¬ ((k : Int) < (R.length : Int)) := by omega
  rw [res_eq, hz]
  simp only [B66, sem_br, q1, decide_false, Bool.false_eq_true, if_false, Int.natCast_zero, Int.add_zero]
  unfold stepW
  by_cases c1 : n > most
  ·simp only [c1, decide_true, if_true, sem_nxt, stepO_nxt]
  ·by_cases c2 : n = most
   ·subst c2
    have hb : (n == n) = true := by simp
    simp only [c1, decide_false, Bool.false_eq_true, if_false, hb, if_true, sem_nxt, stepO_nxt]
   ·have hb : (n == most) = false := by simpa using c2
    simp only [c1, decide_false, Bool.false_eq_true, if_false, hb, c2, sem_nxt, stepO_nxt]
 | succ m ih =>
  intro k n hk h0 h1
  have hm := hg.hm
  have hki : k < R.length := by omega
  obtain ⟨g1, g2⟩ := celR R hki
  have g3 := at_mapR hki
  have hrl : (R.getD k []).length = len0 R := hg.ev _ (by rw [List.getD_eq_getElem?_getD, List.getElem?_eq_getElem hki]; simp)
  have hcr : c < (R.getD k []).length := by omega
  have g4 := at_map hcr
  have q1 : (k : Int) < (R.length : Int) := by omega
  have q2 : 0 ≤ (k : Int) := by omega
  have q3 : 0 ≤ (c : Int) := by omega
  have q4 : (c : Int) < ((R.getD k []).length : Int) := by omega
  have q5 : inI64 (((k + 1 : Nat)) : Int) := by unfold inI64; omega
  have q6 : inI64 (n + 1) := by unfold inI64; omega
  have h12 : (k : Int) + 1 = ((k + 1 : Nat) : Int) := by omega
  have hct := count_at (R := R) (c := c) hki s
  rw [res_eq]
  by_cases hx : (R.getD k []).getD c 0 = s
  ·have hb : ((R.getD k []).getD c 0 == s) = true := by simpa using hx
   have ih' := ih (k + 1) (n + 1) (by omega) (by omega) (by omega)
   rw [if_pos hx] at hct
   rw [show n + (((col R c).drop k).count s : Int) = n + 1 + (((col R c).drop (k + 1)).count s : Int) by omega, ← ih']
   simp only [B66, sem_br, q1, q2, q3, q4, q6, decide_true, if_true, sem_ask, need_true, PC.holds, Int.toNat_natCast, Nat.mul_one, g1, g2, g3, g4, dI_cel_map, hb, sem_nxt]
   rw [need_of (by simp; omega), need_of (by rw [List.length_map]; omega), stepO_nxt, res_eq]
   simp only [B66, sem_ask, PC.holds, h12, q5, need_true, sem_nxt, stepO_nxt]
  ·have hb : ((R.getD k []).getD c 0 == s) = false := by simpa using hx
   have ih' := ih (k + 1) n (by omega) (by omega) (by omega)
   rw [if_neg hx] at hct
   rw [show n + (((col R c).drop k).count s : Int) = n + (((col R c).drop (k + 1)).count s : Int) by omega, ← ih']
   simp only [B66, sem_br, q1, q2, q3, q4, decide_true, if_true, sem_ask, need_true, PC.holds, Int.toNat_natCast, Nat.mul_one, g1, g2, g3, g4, dI_cel_map, hb, Bool.false_eq_true, if_false, sem_nxt]
   rw [need_of (by simp; omega), need_of (by rw [List.length_map]; omega), stepO_nxt, res_eq]
   simp only [B66, sem_ask, PC.holds, h12, q5, need_true, sem_nxt, stepO_nxt]
theorem B66_asy {R : List (List Int)} (hg : Good R) {c : Nat} (hc : c < len0 R) : ∀ (m s : Nat) (r : Int × Int × Bool), 17 = s + m → InvW (cntA (col R c) zero17) s r →
  ∃ r', InvW (cntA (col R c) zero17) 17 r' ∧ res B66 (.c5 R.length (R.map rD) (c : Int) r.1 r.2.1 r.2.2 (s : Int)) = res B66 (.c5 R.length (R.map rD) (c : Int) r'.1 r'.2.1 r'.2.2 17) := by
 intro m
 induction m with
 | zero =>
  intro s r hs h
  obtain rfl : s = 17 := by omega
  exact ⟨r, h, rfl⟩
 | succ m ih =>
  intro s r hs h
  have hok := hg.col_ok hc
  have hcn : (cntA (col R c) zero17).getD s 0 = (((col R c).drop 0).count (s : Int) : Int) := by
   have hz : zero17.getD s 0 = 0 := by
    unfold zero17
    rw [List.getD_eq_getElem?_getD, List.getElem?_replicate]
    split <;> rfl
   rw [cntA_at (col R c) zero17 (fun x hx => by have := hok x hx; show 0 ≤ x ∧ x < ((17 : Nat) : Int); omega) s, hz, List.drop_zero]; omega
  obtain ⟨r', h1, h2⟩ := ih (s + 1) (stepW (s : Int) ((cntA (col R c) zero17).getD s 0) r.1 r.2.1 r.2.2) (by omega) (InvW.step h)
  refine ⟨r', h1, ?_⟩
  rw [← h2, hcn]
  have q1 : ((s : Nat) : Int) < 17 := by omega
  have q2 : inI64 (((s + 1 : Nat)) : Int) := by unfold inI64; omega
  have h12 : (s : Int) + 1 = ((s + 1 : Nat) : Int) := by omega
  have hin := B66_ain hg hc r.1 r.2.1 (s : Int) r.2.2 R.length 0 0 (by omega) (by omega) (by omega)
  rw [Int.zero_add] at hin
  rw [res_eq]
  simp only [B66, sem_br, q1, decide_true, if_true, sem_nxt, stepO_nxt]
  refine hin.trans ?_
  rw [res_eq]
  simp only [B66, sem_ask, PC.holds, h12, q2, need_true, sem_nxt, stepO_nxt]
theorem B66_bin {R : List (List Int)} (hg : Good R) {c : Nat} (hc : c < len0 R) (t1 n1 : Nat) (d1 : List DV) (t2 n2 : Nat) (d2 : List DV) (u1 u2 : Nat) (most which s : Int) (sh : Bool) : ∀ (m k : Nat) (n : Int), R.length = k + m → 0 ≤ n → n ≤ (k : Int) →
  res B66 (.c10 R.length (R.map rD) t1 n1 d1 t2 n2 d2 (c : Int) most which sh s n (k : Int) u1 u2) = res B66 (.c13 R.length (R.map rD) t1 n1 d1 t2 n2 d2 (c : Int) (stepW s (n + (((col R c).drop k).count s : Int)) most which sh).1 (stepW s (n + (((col R c).drop k).count s : Int)) most which sh).2.1 (stepW s (n + (((col R c).drop k).count s : Int)) most which sh).2.2 s u1 u2) := by
 intro m
 induction m with
 | zero =>
  intro k n hk h0 h1
  have hz : ((col R c).drop k).count s = 0 := by
   rw [List.drop_eq_nil_of_le (by rw [hg.col_len]; omega)]; rfl
  have q1 : ¬ ((k : Int) < (R.length : Int)) := by omega
  rw [res_eq, hz]
  simp only [B66, sem_br, q1, decide_false, Bool.false_eq_true, if_false, Int.natCast_zero, Int.add_zero]
  unfold stepW
  by_cases c1 : n > most
  ·simp only [c1, decide_true, if_true, sem_nxt, stepO_nxt]
  ·by_cases c2 : n = most
   ·subst c2
    have hb : (n == n) = true := by simp
    simp only [c1, decide_false, Bool.false_eq_true, if_false, hb, if_true, sem_nxt, stepO_nxt]
   ·have hb : (n == most) = false := by simpa using c2
    simp only [c1, decide_false, Bool.false_eq_true, if_false, hb, c2, sem_nxt, stepO_nxt]
 | succ m ih =>
  intro k n hk h0 h1
  have hm := hg.hm
  have hki : k < R.length := by omega
  obtain ⟨g1, g2⟩ := celR R hki
  have g3 := at_mapR hki
  have hrl : (R.getD k []).length = len0 R := hg.ev _ (by rw [List.getD_eq_getElem?_getD, List.getElem?_eq_getElem hki]; simp)
  have hcr : c < (R.getD k []).length := by omega
  have g4 := at_map hcr
  have q1 : (k : Int) < (R.length : Int) := by omega
  have q2 : 0 ≤ (k : Int) := by omega
  have q3 : 0 ≤ (c : Int) := by omega
  have q4 : (c : Int) < ((R.getD k []).length : Int) := by omega
  have q5 : inI64 (((k + 1 : Nat)) : Int) := by unfold inI64; omega
  have q6 : inI64 (n + 1) := by unfold inI64; omega
  have h12 : (k : Int) + 1 = ((k + 1 : Nat) : Int) := by omega
  have hct := count_at (R := R) (c := c) hki s
  rw [res_eq]
  by_cases hx : (R.getD k []).getD c 0 = s
  ·have hb : ((R.getD k []).getD c 0 == s) = true := by simpa using hx
   have ih' := ih (k + 1) (n + 1) (by omega) (by omega) (by omega)
   rw [if_pos hx] at hct
   rw [show n + (((col R c).drop k).count s : Int) = n + 1 + (((col R c).drop (k + 1)).count s : Int) by omega, ← ih']
   simp only [B66, sem_br, q1, q2, q3, q4, q6, decide_true, if_true, sem_ask, need_true, PC.holds, Int.toNat_natCast, Nat.mul_one, g1, g2, g3, g4, dI_cel_map, hb, sem_nxt]
   rw [need_of (by simp; omega), need_of (by rw [List.length_map]; omega), stepO_nxt, res_eq]
   simp only [B66, sem_ask, PC.holds, h12, q5, need_true, sem_nxt, stepO_nxt]
  ·have hb : ((R.getD k []).getD c 0 == s) = false := by simpa using hx
   have ih' := ih (k + 1) n (by omega) (by omega) (by omega)
   rw [if_neg hx] at hct
   rw [show n + (((col R c).drop k).count s : Int) = n + (((col R c).drop (k + 1)).count s : Int) by omega, ← ih']
   simp only [B66, sem_br, q1, q2, q3, q4, decide_true, if_true, sem_ask, need_true, PC.holds, Int.toNat_natCast, Nat.mul_one, g1, g2, g3, g4, dI_cel_map, hb, Bool.false_eq_true, if_false, sem_nxt]
   rw [need_of (by simp; omega), need_of (by rw [List.length_map]; omega), stepO_nxt, res_eq]
   simp only [B66, sem_ask, PC.holds, h12, q5, need_true, sem_nxt, stepO_nxt]
theorem B66_bsy {R : List (List Int)} (hg : Good R) {c : Nat} (hc : c < len0 R) (t1 n1 : Nat) (d1 : List DV) (t2 n2 : Nat) (d2 : List DV) (u1 u2 : Nat) : ∀ (m s : Nat) (r : Int × Int × Bool), 17 = s + m → InvW (cntA (col R c) zero17) s r →
  ∃ r', InvW (cntA (col R c) zero17) 17 r' ∧ res B66 (.c16 R.length (R.map rD) t1 n1 d1 t2 n2 d2 (c : Int) r.1 r.2.1 r.2.2 (s : Int) u1 u2) = res B66 (.c16 R.length (R.map rD) t1 n1 d1 t2 n2 d2 (c : Int) r'.1 r'.2.1 r'.2.2 17 u1 u2) := by
 intro m
 induction m with
 | zero =>
  intro s r hs h
  obtain rfl : s = 17 := by omega
  exact ⟨r, h, rfl⟩
 | succ m ih =>
  intro s r hs h
  have hok := hg.col_ok hc
  have hcn : (cntA (col R c) zero17).getD s 0 = (((col R c).drop 0).count (s : Int) : Int) := by
   have hz : zero17.getD s 0 = 0 := by
    unfold zero17
    rw [List.getD_eq_getElem?_getD, List.getElem?_replicate]
    split <;> rfl
   rw [cntA_at (col R c) zero17 (fun x hx => by have := hok x hx; show 0 ≤ x ∧ x < ((17 : Nat) : Int); omega) s, hz, List.drop_zero]; omega
  obtain ⟨r', h1, h2⟩ := ih (s + 1) (stepW (s : Int) ((cntA (col R c) zero17).getD s 0) r.1 r.2.1 r.2.2) (by omega) (InvW.step h)
  refine ⟨r', h1, ?_⟩
  rw [← h2, hcn]
  have q1 : ((s : Nat) : Int) < 17 := by omega
  have q2 : inI64 (((s + 1 : Nat)) : Int) := by unfold inI64; omega
  have h12 : (s : Int) + 1 = ((s + 1 : Nat) : Int) := by omega
  have hin := B66_bin hg hc t1 n1 d1 t2 n2 d2 u1 u2 r.1 r.2.1 (s : Int) r.2.2 R.length 0 0 (by omega) (by omega) (by omega)
  rw [Int.zero_add] at hin
  rw [res_eq]
  simp only [B66, sem_br, q1, decide_true, if_true, sem_nxt, stepO_nxt]
  refine hin.trans ?_
  rw [res_eq]
  simp only [B66, sem_ask, PC.holds, h12, q2, need_true, sem_nxt, stepO_nxt]
theorem B66_cin {R : List (List Int)} (hg : Good R) {c : Nat} (hc : c < len0 R) (t1 n1 : Nat) (d1 : List DV) (u1 : Nat) (most which s : Int) (sh : Bool) : ∀ (m k : Nat) (n : Int), R.length = k + m → 0 ≤ n → n ≤ (k : Int) →
  res B66 (.c11 R.length (R.map rD) t1 n1 d1 (c : Int) most which sh s n (k : Int) u1) = res B66 (.c15 R.length (R.map rD) t1 n1 d1 (c : Int) (stepW s (n + (((col R c).drop k).count s : Int)) most which sh).1 (stepW s (n + (((col R c).drop k).count s : Int)) most which sh).2.1 (stepW s (n + (((col R c).drop k).count s : Int)) most which sh).2.2 s u1) := by
 intro m
 induction m with
 | zero =>
  intro k n hk h0 h1
  have hz : ((col R c).drop k).count s = 0 := by
   rw [List.drop_eq_nil_of_le (by rw [hg.col_len]; omega)]; rfl
  have q1 : ¬ ((k : Int) < (R.length : Int)) := by omega
  rw [res_eq, hz]
  simp only [B66, sem_br, q1, decide_false, Bool.false_eq_true, if_false, Int.natCast_zero, Int.add_zero]
  unfold stepW
  by_cases c1 : n > most
  ·simp only [c1, decide_true, if_true, sem_nxt, stepO_nxt]
  ·by_cases c2 : n = most
   ·subst c2
    have hb : (n == n) = true := by simp
    simp only [c1, decide_false, Bool.false_eq_true, if_false, hb, if_true, sem_nxt, stepO_nxt]
   ·have hb : (n == most) = false := by simpa using c2
    simp only [c1, decide_false, Bool.false_eq_true, if_false, hb, c2, sem_nxt, stepO_nxt]
 | succ m ih =>
  intro k n hk h0 h1
  have hm := hg.hm
  have hki : k < R.length := by omega
  obtain ⟨g1, g2⟩ := celR R hki
  have g3 := at_mapR hki
  have hrl : (R.getD k []).length = len0 R := hg.ev _ (by rw [List.getD_eq_getElem?_getD, List.getElem?_eq_getElem hki]; simp)
  have hcr : c < (R.getD k []).length := by omega
  have g4 := at_map hcr
  have q1 : (k : Int) < (R.length : Int) := by omega
  have q2 : 0 ≤ (k : Int) := by omega
  have q3 : 0 ≤ (c : Int) := by omega
  have q4 : (c : Int) < ((R.getD k []).length : Int) := by omega
  have q5 : inI64 (((k + 1 : Nat)) : Int) := by unfold inI64; omega
  have q6 : inI64 (n + 1) := by unfold inI64; omega
  have h12 : (k : Int) + 1 = ((k + 1 : Nat) : Int) := by omega
  have hct := count_at (R := R) (c := c) hki s
  rw [res_eq]
  by_cases hx : (R.getD k []).getD c 0 = s
  ·have hb : ((R.getD k []).getD c 0 == s) = true := by simpa using hx
   have ih' := ih (k + 1) (n + 1) (by omega) (by omega) (by omega)
   rw [if_pos hx] at hct
   rw [show n + (((col R c).drop k).count s : Int) = n + 1 + (((col R c).drop (k + 1)).count s : Int) by omega, ← ih']
   simp only [B66, sem_br, q1, q2, q3, q4, q6, decide_true, if_true, sem_ask, need_true, PC.holds, Int.toNat_natCast, Nat.mul_one, g1, g2, g3, g4, dI_cel_map, hb, sem_nxt]
   rw [need_of (by simp; omega), need_of (by rw [List.length_map]; omega), stepO_nxt, res_eq]
   simp only [B66, sem_ask, PC.holds, h12, q5, need_true, sem_nxt, stepO_nxt]
  ·have hb : ((R.getD k []).getD c 0 == s) = false := by simpa using hx
   have ih' := ih (k + 1) n (by omega) (by omega) (by omega)
   rw [if_neg hx] at hct
   rw [show n + (((col R c).drop k).count s : Int) = n + (((col R c).drop (k + 1)).count s : Int) by omega, ← ih']
   simp only [B66, sem_br, q1, q2, q3, q4, decide_true, if_true, sem_ask, need_true, PC.holds, Int.toNat_natCast, Nat.mul_one, g1, g2, g3, g4, dI_cel_map, hb, Bool.false_eq_true, if_false, sem_nxt]
   rw [need_of (by simp; omega), need_of (by rw [List.length_map]; omega), stepO_nxt, res_eq]
   simp only [B66, sem_ask, PC.holds, h12, q5, need_true, sem_nxt, stepO_nxt]
theorem B66_csy {R : List (List Int)} (hg : Good R) {c : Nat} (hc : c < len0 R) (t1 n1 : Nat) (d1 : List DV) (u1 : Nat) : ∀ (m s : Nat) (r : Int × Int × Bool), 17 = s + m → InvW (cntA (col R c) zero17) s r →
  ∃ r', InvW (cntA (col R c) zero17) 17 r' ∧ res B66 (.c17 R.length (R.map rD) t1 n1 d1 (c : Int) r.1 r.2.1 r.2.2 (s : Int) u1) = res B66 (.c17 R.length (R.map rD) t1 n1 d1 (c : Int) r'.1 r'.2.1 r'.2.2 17 u1) := by
 intro m
 induction m with
 | zero =>
  intro s r hs h
  obtain rfl : s = 17 := by omega
  exact ⟨r, h, rfl⟩
 | succ m ih =>
  intro s r hs h
  have hok := hg.col_ok hc
  have hcn : (cntA (col R c) zero17).getD s 0 = (((col R c).drop 0).count (s : Int) : Int) := by
   have hz : zero17.getD s 0 = 0 := by
    unfold zero17
    rw [List.getD_eq_getElem?_getD, List.getElem?_replicate]
    split <;> rfl
   rw [cntA_at (col R c) zero17 (fun x hx => by have := hok x hx; show 0 ≤ x ∧ x < ((17 : Nat) : Int); omega) s, hz, List.drop_zero]; omega
  obtain ⟨r', h1, h2⟩ := ih (s + 1) (stepW (s : Int) ((cntA (col R c) zero17).getD s 0) r.1 r.2.1 r.2.2) (by omega) (InvW.step h)
  refine ⟨r', h1, ?_⟩
  rw [← h2, hcn]
  have q1 : ((s : Nat) : Int) < 17 := by omega
  have q2 : inI64 (((s + 1 : Nat)) : Int) := by unfold inI64; omega
  have h12 : (s : Int) + 1 = ((s + 1 : Nat) : Int) := by omega
  have hin := B66_cin hg hc t1 n1 d1 u1 r.1 r.2.1 (s : Int) r.2.2 R.length 0 0 (by omega) (by omega) (by omega)
  rw [Int.zero_add] at hin
  rw [res_eq]
  simp only [B66, sem_br, q1, decide_true, if_true, sem_nxt, stepO_nxt]
  refine hin.trans ?_
  rw [res_eq]
  simp only [B66, sem_ask, PC.holds, h12, q2, need_true, sem_nxt, stepO_nxt]
end Go.Kv
namespace Go.Kv
open Go Go.RowKit
set_option maxRecDepth 100000
theorem ref_win {R : List (List Int)} (hg : Good R) {c : Nat} (hc : c < len0 R) {r : Int × Int × Bool} (h : InvW (cntA (col R c) zero17) 17 r) : r.2.2 = !(wF (col R c)).2 ∧ r.2.1 = (wF (col R c)).1 := by
 have hok := hg.col_ok hc
 have hl := hg.col_len c
 obtain ⟨k, mx, hw, he⟩ := F107_eq (col R c) (by rw [hl]; exact hg.hm) (by rw [hl]; exact hg.h0) hok
 have hlen : (cntA (col R c) zero17).length = 17 := by rw [cntA_len]; rfl
 have e : wF (col R c) = ((k : Int), !decide (mx ∈ (cntA (col R c) zero17).drop (k + 1))) := by unfold wF; rw [he]; rfl
 have hp : 0 < mx := by
  have h0 : 0 < (col R c).length := by rw [hl]; exact hg.h0
  match hcol : col R c, h0 with
  | x :: l, _ =>
   have hx := hok x (by rw [hcol]; simp)
   rw [hcol] at hw hlen
   have hz : zero17.getD x.toNat 0 = 0 := by
    unfold zero17
    rw [List.getD_eq_getElem?_getD, List.getElem?_replicate]
    split <;> rfl
   have hat := cntA_at (x :: l) zero17 (fun y hy => by have := hok y (by rw [hcol]; exact hy); show 0 ≤ y ∧ y < ((17 : Nat) : Int); omega) x.toNat
   have hxx : ((x.toNat : Nat) : Int) = x := by omega
   have hlt : x.toNat < (cntA (x :: l) zero17).length := by omega
   rw [hz, hxx, List.count_cons_self] at hat
   have := hw.2.2.2 ((cntA (x :: l) zero17).getD x.toNat 0) (by
    rw [List.getD_eq_getElem?_getD, List.getElem?_eq_getElem hlt]
    simp)
   omega
 rw [← hlen] at h
 obtain ⟨_, h2, h3⟩ := InvW.win hw hp h
 rw [e, h2, h3]
 exact ⟨by simp, rfl⟩
theorem B66_b {R : List (List Int)} (hg : Good R) : ∀ (m i : Nat) (os es : List Int), len0 R = i + m → 0 < os.length → os.length ≤ i → 0 < es.length → es.length ≤ i →
  res B66 (.c8 R.length (R.map rD) (os.length - 1) os.length (os.map vI) (es.length - 1) es.length (es.map vI) (i : Int) (os.length - 1) (es.length - 1)) =
   some ((os ++ outT R i m).length, (os ++ outT R i m).map vI, (es ++ erT R i m).length, (es ++ erT R i m).map vI) := by
 have q1 : dN (cel (R.map rD) 0) = len0 R := (celR0 R hg.h0).1
 have q2 := (celR0 R hg.h0).2
 have q3 : Option.map AV.d (List.drop 0 (R.map rD))[0]? = some (AV.d (DV.sl (len0 R) ((R.getD 0 []).map vI))) := at_mapR hg.h0
 have hcp : 0 < (R.length : Int) := by have := hg.h0; omega
 intro m
 induction m with
 | zero =>
  intro i os es hi ho ho2 he he2
  rw [res_eq]
  have h1 : ¬ ((i : Int) < (len0 R : Int)) := by omega
  simp only [B66, sem_br, sem_ask, PC.holds, need_true, hcp, Nat.zero_le, q1, q2, q3, h1, decide_false, Bool.false_eq_true, if_false, sem_ret, stepO_ret]
  simp [outT, erT]
 | succ m ih =>
  intro i os es hi ho ho2 he he2
  have hle := hg.le
  have hci : i < len0 R := by omega
  have h1 : (i : Int) < (len0 R : Int) := by omega
  have hin : inI64 (((i + 1 : Nat)) : Int) := by unfold inI64; omega
  have h12 : (i : Int) + 1 = ((i + 1 : Nat) : Int) := by omega
  have hf1 : fitsN (os.length + 1) 8 := fits_1 (by omega)
  have hf2 : fitsN (es.length + 1) 8 := fits_1 (by omega)
  obtain ⟨r, hr1, hr2⟩ := B66_bsy hg hci (os.length - 1) os.length (os.map vI) (es.length - 1) es.length (es.map vI) (os.length - 1) (es.length - 1) 17 0 (0, 0, false) (by omega) (InvW.zero _)
  obtain ⟨w1, w2⟩ := ref_win hg hci hr1
  have hstart : res B66 (.c16 R.length (R.map rD) (os.length - 1) os.length (os.map vI) (es.length - 1) es.length (es.map vI) (i : Int) 0 0 false ((0 : Nat) : Int) (os.length - 1) (es.length - 1)) = res B66 (.c10 R.length (R.map rD) (os.length - 1) os.length (os.map vI) (es.length - 1) es.length (es.map vI) (i : Int) 0 0 false 0 0 0 (os.length - 1) (es.length - 1)) := by
   rw [res_eq]
   have q : (((0 : Nat) : Int)) < 17 := by omega
   simp only [B66, sem_br, q, decide_true, if_true, sem_nxt, stepO_nxt]
   rfl
  rw [res_eq]
  simp only [B66, sem_br, sem_ask, PC.holds, need_true, hcp, Nat.zero_le, q1, q2, q3, h1, decide_true, if_true, sem_nxt, stepO_nxt]
  rw [← hstart]
  refine hr2.trans ?_
  have h17 : ¬ ((17 : Int) < 17) := by omega
  rw [res_eq, outT_succ, erT_succ, w1, w2]
  by_cases hw : (wF (col R i)).2 = true
  ·have ih' := ih (i + 1) (os ++ [(wF (col R i)).1]) es (by omega) (by simp) (by simp; omega) he (by omega)
   rw [if_pos hw, if_pos hw]
   simp only [B66, sem_br, h17, decide_false, Bool.false_eq_true, if_false, hw, Bool.not_true, sem_ask, PC.holds, need_true, hf1, sem_nxt, stepO_nxt]
   rw [List.append_assoc] at ih'
   refine Eq.trans ?_ ih'
   rw [res_eq]
   simp only [B66, sem_ask, PC.holds, h12, hin, need_true, sem_nxt, stepO_nxt]
   rw [List.length_append, List.length_singleton, List.map_append, show os.length - 1 + 1 = os.length + 1 - 1 by omega]
   rfl
  ·have hw2 : (wF (col R i)).2 = false := by simpa using hw
   have ih' := ih (i + 1) (os ++ [0]) (es ++ [(i : Int)]) (by omega) (by simp) (by simp; omega) (by simp) (by simp; omega)
   rw [if_neg hw, if_neg hw]
   simp only [B66, sem_br, h17, decide_false, Bool.false_eq_true, if_false, hw2, Bool.not_false, if_true, sem_ask, PC.holds, need_true, hf1, hf2, sem_nxt, stepO_nxt]
   rw [List.append_assoc, List.append_assoc] at ih'
   refine Eq.trans ?_ ih'
   rw [res_eq]
   simp only [B66, sem_ask, PC.holds, h12, hin, need_true, sem_nxt, stepO_nxt]
   rw [List.length_append, List.length_append, List.length_singleton, List.length_singleton, List.map_append, List.map_append, show os.length - 1 + 1 = os.length + 1 - 1 by omega, show es.length - 1 + 1 = es.length + 1 - 1 by omega]
   rfl
theorem B66_c {R : List (List Int)} (hg : Good R) : ∀ (m i : Nat) (os : List Int), len0 R = i + m → 0 < os.length → os.length ≤ i →
  res B66 (.c9 R.length (R.map rD) (os.length - 1) os.length (os.map vI) (i : Int) (os.length - 1)) =
   some ((os ++ outT R i m).length, (os ++ outT R i m).map vI, (erT R i m).length, (erT R i m).map vI) := by
 have q1 : dN (cel (R.map rD) 0) = len0 R := (celR0 R hg.h0).1
 have q2 := (celR0 R hg.h0).2
 have q3 : Option.map AV.d (List.drop 0 (R.map rD))[0]? = some (AV.d (DV.sl (len0 R) ((R.getD 0 []).map vI))) := at_mapR hg.h0
 have hcp : 0 < (R.length : Int) := by have := hg.h0; omega
 intro m
 induction m with
 | zero =>
  intro i os hi ho ho2
  rw [res_eq]
  have h1 : ¬ ((i : Int) < (len0 R : Int)) := by omega
  simp only [B66, sem_br, sem_ask, PC.holds, need_true, hcp, Nat.zero_le, q1, q2, q3, h1, decide_false, Bool.false_eq_true, if_false, sem_ret, stepO_ret]
  simp [outT, erT]
 | succ m ih =>
  intro i os hi ho ho2
  have hle := hg.le
  have hci : i < len0 R := by omega
  have h1 : (i : Int) < (len0 R : Int) := by omega
  have hin : inI64 (((i + 1 : Nat)) : Int) := by unfold inI64; omega
  have h12 : (i : Int) + 1 = ((i + 1 : Nat) : Int) := by omega
  have hf1 : fitsN (os.length + 1) 8 := fits_1 (by omega)
  obtain ⟨r, hr1, hr2⟩ := B66_csy hg hci (os.length - 1) os.length (os.map vI) (os.length - 1) 17 0 (0, 0, false) (by omega) (InvW.zero _)
  obtain ⟨w1, w2⟩ := ref_win hg hci hr1
  have hstart : res B66 (.c17 R.length (R.map rD) (os.length - 1) os.length (os.map vI) (i : Int) 0 0 false ((0 : Nat) : Int) (os.length - 1)) = res B66 (.c11 R.length (R.map rD) (os.length - 1) os.length (os.map vI) (i : Int) 0 0 false 0 0 0 (os.length - 1)) := by
   rw [res_eq]
   have q : (((0 : Nat) : Int)) < 17 := by omega
   simp only [B66, sem_br, q, decide_true, if_true, sem_nxt, stepO_nxt]
   rfl
  rw [res_eq]
  simp only [B66, sem_br, sem_ask, PC.holds, need_true, hcp, Nat.zero_le, q1, q2, q3, h1, decide_true, if_true, sem_nxt, stepO_nxt]
  rw [← hstart]
  refine hr2.trans ?_
  have h17 : ¬ ((17 : Int) < 17) := by omega
  rw [res_eq, outT_succ, erT_succ, w1, w2]
  by_cases hw : (wF (col R i)).2 = true
  ·have ih' := ih (i + 1) (os ++ [(wF (col R i)).1]) (by omega) (by simp) (by simp; omega)
   rw [if_pos hw, if_pos hw]
   simp only [B66, sem_br, h17, decide_false, Bool.false_eq_true, if_false, hw, Bool.not_true, sem_ask, PC.holds, need_true, hf1, sem_nxt, stepO_nxt]
   rw [List.append_assoc] at ih'
   refine Eq.trans ?_ ih'
   rw [res_eq]
   simp only [B66, sem_ask, PC.holds, h12, hin, need_true, sem_nxt, stepO_nxt]
   rw [List.length_append, List.length_singleton, List.map_append, show os.length - 1 + 1 = os.length + 1 - 1 by omega]
   rfl
  ·have hw2 : (wF (col R i)).2 = false := by simpa using hw
   have ih' := B66_b hg m (i + 1) (os ++ [0]) [(i : Int)] (by omega) (by simp) (by simp; omega) (by simp) (by simp)
   rw [if_neg hw, if_neg hw]
   simp only [B66, sem_br, h17, decide_false, Bool.false_eq_true, if_false, hw2, Bool.not_false, if_true, sem_ask, PC.holds, need_true, hf1, sem_nxt, stepO_nxt]
   rw [List.append_assoc] at ih'
   refine Eq.trans ?_ ih'
   rw [res_eq]
   simp only [B66, sem_ask, PC.holds, h12, hin, need_true, sem_nxt, stepO_nxt]
   rw [List.length_append, List.length_singleton, List.map_append, show os.length - 1 + 1 = os.length + 1 - 1 by omega]
   rfl
theorem F66_eq {R : List (List Int)} (hg : Good R) : F66 R.length (R.map rD) = some ((outT R 0 (len0 R)).length, (outT R 0 (len0 R)).map vI, (erT R 0 (len0 R)).length, (erT R 0 (len0 R)).map vI) := by
 have q1 : dN (cel (R.map rD) 0) = len0 R := (celR0 R hg.h0).1
 have q2 := (celR0 R hg.h0).2
 have q3 : Option.map AV.d (List.drop 0 (R.map rD))[0]? = some (AV.d (DV.sl (len0 R) ((R.getD 0 []).map vI))) := at_mapR hg.h0
 have hcp : 0 < (R.length : Int) := by have := hg.h0; omega
 unfold F66; rw [res_eq]
 simp only [B66, sem_nxt, stepO_nxt]
 rw [res_eq]
 simp only [B66, sem_br, sem_ask, PC.holds, need_true, hcp, Nat.zero_le, q1, q2, q3]
 cases hl : len0 R with
 | zero =>
  have h1 : ¬ ((0 : Int) < ((0 : Nat) : Int)) := by omega
  simp only [h1, decide_false, Bool.false_eq_true, if_false, sem_ret, stepO_ret]
  rfl
 | succ m =>
  have hle := hg.le
  have hci : 0 < len0 R := by omega
  have h1 : (0 : Int) < ((m + 1 : Nat) : Int) := by omega
  have hin : inI64 ((0 : Int) + 1) := by unfold inI64; omega
  obtain ⟨r, hr1, hr2⟩ := B66_asy hg hci 17 0 (0, 0, false) (by omega) (InvW.zero _)
  obtain ⟨w1, w2⟩ := ref_win hg hci hr1
  have hstart : res B66 (.c5 R.length (R.map rD) ((0 : Nat) : Int) 0 0 false ((0 : Nat) : Int)) = res B66 (.c2 R.length (R.map rD) 0 0 0 false 0 0 0) := by
   rw [res_eq]
   have q : (((0 : Nat) : Int)) < 17 := by omega
   simp only [B66, sem_br, q, decide_true, if_true, sem_nxt, stepO_nxt]
   rfl
  simp only [h1, decide_true, if_true, sem_nxt, stepO_nxt]
  rw [← hstart]
  refine hr2.trans ?_
  have h17 : ¬ ((17 : Int) < 17) := by omega
  rw [res_eq, outT_succ, erT_succ, w1, w2]
  by_cases hw : (wF (col R 0)).2 = true
  ·have ih' := B66_c hg m 1 [(wF (col R 0)).1] (by omega) (by simp) (by simp)
   rw [if_pos hw, if_pos hw]
   simp only [B66, sem_br, h17, decide_false, Bool.false_eq_true, if_false, hw, Bool.not_true, sem_nxt, stepO_nxt]
   refine Eq.trans ?_ ih'
   rw [res_eq]
   simp only [B66, sem_ask, PC.holds, sem_nxt]
   rw [need_of (by unfold inI64; omega), stepO_nxt]
   rfl
  ·have hw2 : (wF (col R 0)).2 = false := by simpa using hw
   have ih' := B66_b hg m 1 [0] [((0 : Nat) : Int)] (by omega) (by simp) (by simp) (by simp) (by simp)
   rw [if_neg hw, if_neg hw]
   simp only [B66, sem_br, h17, decide_false, Bool.false_eq_true, if_false, hw2, Bool.not_false, if_true, sem_nxt, stepO_nxt]
   refine Eq.trans ?_ ih'
   rw [res_eq]
   simp only [B66, sem_ask, PC.holds, sem_nxt]
   rw [need_of (by unfold inI64; omega), stepO_nxt]
   rfl
end Go.Kv
