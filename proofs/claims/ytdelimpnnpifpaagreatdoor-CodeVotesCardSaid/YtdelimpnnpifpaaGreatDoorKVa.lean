import Derived.Test.YtdelimpnnpifpaaGreatDoorGV1
import Derived.Test.YtdelimpnnpifpaaGreatDoorKCk
import Derived.Test.YtdelimpnnpifpaaGreatDoorKaC
set_option linter.all false
namespace Go.Kv
open Go Go.RowKit
set_option maxRecDepth 100000
def rD (r : List Int) : DV := .sl r.length (r.map vI)
theorem celR (R : List (List Int)) {i : Nat} (h : i < R.length) : dN (cel (R.map rD) i) = (R.getD i []).length ∧ dL (cel (R.map rD) i) = (R.getD i []).map vI := by
 have e : cel (R.map rD) i = rD (R.getD i []) := by
  unfold cel
  simp [List.getD_eq_getElem?_getD, h]
 rw [e]; exact ⟨rfl, rfl⟩
theorem at_mapR {R : List (List Int)} {i : Nat} (h : i < R.length) : Option.map AV.d (List.drop i (R.map rD))[0]? = some (AV.d (DV.sl (R.getD i []).length ((R.getD i []).map vI))) := by
 simp [List.getElem?_drop, h, List.getD_eq_getElem?_getD, rD]
theorem celR0 (R : List (List Int)) (h : 0 < R.length) : dN (cel (R.map rD) 0) = (R.getD 0 []).length ∧ dL (cel (R.map rD) 0) = (R.getD 0 []).map vI := celR R h
def shortR (R : List (List Int)) : Bool := R.all (fun r => decide (r.length ≤ 17)) && decide (R.length ≤ 17)
theorem F42_loop (R : List (List Int)) (hR : R.length ≤ maxLen) : ∀ (m i : Nat), R.length = i + m → res B42 (.c1 R.length (R.map rD) (i : Int)) = some ((R.drop i).all (fun r => decide (r.length ≤ 17)) && decide (R.length ≤ 17)) := by
 intro m
 induction m with
 | zero =>
  intro i h
  have h1 : ¬ ((i : Int) < (R.length : Int)) := by omega
  rw [res_eq, List.drop_eq_nil_of_le (by omega)]
  simp only [B42, sem_br, h1, decide_false, Bool.false_eq_true, if_false, sem_ret, stepO_ret, List.all_nil, Bool.true_and]
  congr 1
  exact decide_eq_decide.2 (by omega)
 | succ m ih =>
  intro i h
  have hi : i < R.length := by omega
  obtain ⟨g1, g2⟩ := celR R hi
  have g3 := at_mapR hi
  have h1 : (i : Int) < (R.length : Int) := by omega
  have h2 : 0 ≤ (i : Int) := by omega
  have h3 : inI64 (((i + 1 : Nat)) : Int) := by unfold maxLen at hR; unfold inI64; omega
  have h12 : (i : Int) + 1 = ((i + 1 : Nat) : Int) := by omega
  rw [res_eq, dropD [] hi, List.all_cons]
  by_cases hx : (R.getD i []).length ≤ 17
  ·have hx2 : ¬ (((R.getD i []).length : Int) > 17) := by omega
   simp only [B42, sem_br, h1, decide_true, if_true, sem_ask, need_true, PC.holds, h2, Int.toNat_natCast, Nat.mul_one, g1, g2, g3, hx2, decide_false, Bool.false_eq_true, if_false, h12, h3, sem_nxt, hx, Bool.true_and]
   rw [need_of (by simp; omega), stepO_nxt]
   exact ih (i + 1) (by omega)
  ·have hx2 : (((R.getD i []).length : Int) > 17) := by omega
   simp only [B42, sem_br, h1, decide_true, if_true, sem_ask, need_true, PC.holds, h2, Int.toNat_natCast, Nat.mul_one, g1, g2, g3, hx2, hx, decide_false, Bool.false_and, sem_ret]
   rw [need_of (by simp; omega), stepO_ret]
theorem F42_eq (R : List (List Int)) (hR : R.length ≤ maxLen) : F42 R.length (R.map rD) = some (shortR R) := by
 unfold F42; rw [res_eq]
 simp only [B42, sem_nxt, stepO_nxt]
 exact F42_loop R hR R.length 0 (by omega)
end Go.Kv
namespace Go.Kv
open Go Go.RowKit
set_option maxRecDepth 100000
theorem celS_N (n : Nat) (xs : List DV) : dN (cel [DV.sl n xs] 0) = n := rfl
theorem celS_L (n : Nat) (xs : List DV) : dL (cel [DV.sl n xs] 0) = xs := rfl
def len0 (R : List (List Int)) : Nat := (R.getD 0 []).length
theorem F143_eq (r : List Int) (R : List (List Int)) (hR : 0 < R.length) : F143 r.length (r.map vI) [.sl R.length (R.map rD)] = some (decide (r.length ≠ len0 R)) := by
 obtain ⟨g1, g2⟩ := celR0 R hR
 have g3 := at_mapR hR
 rw [List.drop_zero] at g3
 unfold F143; rw [res_eq]
 simp only [B143, sem_ask, PC.holds, celS_N, celS_L, g1, g2, List.drop_zero, g3, sem_ret]
 rw [need_of (by rfl), need_of (by omega), need_of (by simp), need_of trivial, stepO_ret]
 congr 1
 unfold len0
 rw [Bool.eq_iff_iff, bne_iff_ne, decide_eq_true_eq]
 exact ⟨fun h e => h (by rw [e]), fun h e => h (by omega)⟩
def unevenR (R S : List (List Int)) : Prop := ∃ r ∈ S, r.length ≠ len0 R
theorem F133_loop (R : List (List Int)) (hR : 0 < R.length) (hm : R.length ≤ 300) : ∀ (m i : Nat), R.length = i + m →
  ∃ v : Int, res B133 (.c1 R.length (R.map rD) [.sl R.length (R.map rD)] (R.length : Int) (i : Int)) = some v ∧ (v ≥ 0 ↔ unevenR R (R.drop i)) := by
 intro m
 induction m with
 | zero =>
  intro i h
  refine ⟨-1, ?_, ?_⟩
  ·rw [res_eq]
   have h1 : ¬ ((i : Int) < (R.length : Int)) := by omega
   simp only [B133, sem_br, h1, decide_false, Bool.false_eq_true, if_false, sem_ret, stepO_ret]
  ·rw [List.drop_eq_nil_of_le (by omega)]; simp [unevenR]
 | succ m ih =>
  intro i h
  have hi : i < R.length := by omega
  obtain ⟨v, hv, hx⟩ := ih (i + 1) (by omega)
  obtain ⟨g1, g2⟩ := celR R hi
  have g3 := at_mapR hi
  have h1 : (i : Int) < (R.length : Int) := by omega
  have h3 : inI64 (((i + 1 : Nat)) : Int) := by unfold inI64; omega
  have h4 : 0 ≤ (i : Int) := by omega
  have h12 : (i : Int) + 1 = ((i + 1 : Nat) : Int) := by omega
  have hF := F143_eq (R.getD i []) R hR
  by_cases hz : (R.getD i []).length = len0 R
  ·refine ⟨v, ?_, ?_⟩
   ·rw [res_eq]
    have hd : decide ((R.getD i []).length ≠ len0 R) = false := decide_eq_false fun hn => hn hz
    rw [hd] at hF
    simp only [B133, sem_br, h1, decide_true, if_true, sem_ask, need_true, PC.holds, h3, h4, Int.toNat_natCast, Nat.mul_one, g1, g2, g3, hF, sem_bind_some, sem_sees, sem_nxt, h12, Bool.false_eq_true, if_false]
    rw [need_of (by simp; omega), stepO_nxt, hv]
   ·rw [hx, dropD [] hi]
    constructor
    ·rintro ⟨r, hr, hn⟩
     exact ⟨r, List.mem_cons_of_mem _ hr, hn⟩
    ·rintro ⟨r, hr, hn⟩
     rcases List.mem_cons.1 hr with rfl | hr
     ·exact absurd hz hn
     ·exact ⟨r, hr, hn⟩
  ·refine ⟨(i : Int), ?_, ?_⟩
   ·rw [res_eq]
    have hd : decide ((R.getD i []).length ≠ len0 R) = true := decide_eq_true hz
    rw [hd] at hF
    simp only [B133, sem_br, h1, decide_true, if_true, sem_ask, need_true, PC.holds, h4, Int.toNat_natCast, Nat.mul_one, g1, g2, g3, hF, sem_bind_some, sem_sees, sem_ret]
    rw [need_of (by simp; omega), stepO_ret]
   ·constructor
    ·intro _
     exact ⟨R.getD i [], by rw [dropD [] hi]; simp, hz⟩
    ·intro _; omega
instance (R S : List (List Int)) : Decidable (unevenR R S) := by unfold unevenR; infer_instance
theorem F142_eq (R : List (List Int)) (hR : 0 < R.length) (hm : R.length ≤ 300) : F142 R.length (R.map rD) [.sl R.length (R.map rD)] = some (decide (unevenR R R)) := by
 obtain ⟨v, hv, hx⟩ := F133_loop R hR hm R.length 0 (by omega)
 have h133 : F133 R.length (R.map rD) [.sl R.length (R.map rD)] = some v := by
  unfold F133; rw [res_eq]
  simp only [B133, sem_nxt, stepO_nxt]
  exact hv
 unfold F142; rw [res_eq]
 simp only [B142, h133, sem_bind_some, sem_sees, sem_ret, stepO_ret]
 rw [List.drop_zero] at hx
 congr 1
 exact decide_eq_decide.2 hx
theorem F144_loop (R : List (List Int)) (hm : R.length ≤ 300) (hL : ∀ r ∈ R, r.length ≤ 300) : ∀ (k i : Nat), R.length = i + k → 0 < i →
  res B144 (.c2 (i - 1) i ((R.take i).map fun r => vI (symI r)) R.length (R.map rD) (R.length : Int) (i : Int) (i - 1)) = some (R.length, (R.map fun r => vI (symI r))) := by
 intro k
 induction k with
 | zero =>
  intro i hk h0
  rw [res_eq, List.take_of_length_le (by omega)]
  have h1 : ¬ ((i : Int) < (R.length : Int)) := by omega
  have h2 : i = R.length := by omega
  simp only [B144, sem_br, sem_ret, h1, decide_false, Bool.false_eq_true, if_false, stepO_ret]
  rw [h2]
 | succ k IH =>
  intro i hk h0
  have hi : i < R.length := by omega
  obtain ⟨g1, g2⟩ := celR R hi
  have g3 := at_mapR hi
  have h1 : (i : Int) < (R.length : Int) := by omega
  have hin : inI64 ((i : Int) + 1) := by unfold inI64; omega
  have ih := IH (i + 1) (by omega) (by omega)
  have hf := fits_1 (n := i + 1) (by omega)
  have hs := F84_eq (R.getD i []) (hL _ (by rw [List.getD_eq_getElem?_getD, List.getElem?_eq_getElem hi]; simp))
  rw [res_eq]
  simp only [B144, sem_br, sem_ask, sem_ret, sem_nxt, PC.holds, need_true, Int.toNat_natCast, Nat.mul_one, g1, g2, g3, h1, hin, decide_true, if_true, Int.natCast_nonneg, List.length_map, Nat.le_of_lt hi, hs, sem_bind_some, sem_sees, hf, stepO_nxt]
  have e : (R.take (i + 1)).map (fun r => vI (symI r)) = (R.take i).map (fun r => vI (symI r)) ++ [vI (symI (R.getD i []))] := by
   rw [List.take_succ, List.map_append, List.getElem?_eq_getElem hi]
   simp [List.getD_eq_getElem?_getD, hi]
  rw [e] at ih
  rw [show ((i : Int) + 1) = ((i + 1 : Nat) : Int) by omega, show i - 1 + 1 = i by omega]
  exact ih
theorem F144_eq (R : List (List Int)) (h0 : 0 < R.length) (hm : R.length ≤ 300) (hL : ∀ r ∈ R, r.length ≤ 300) : F144 R.length (R.map rD) = some (R.length, (R.map symI).map vI) := by
 unfold F144; rw [res_eq]
 simp only [B144, sem_nxt, stepO_nxt]
 rw [res_eq]
 obtain ⟨g1, g2⟩ := celR0 R h0
 have g3 := at_mapR h0
 have h1 : (0 : Int) < (R.length : Int) := by omega
 have hin : inI64 ((0 : Int) + 1) := by unfold inI64; omega
 have hs := F84_eq (R.getD 0 []) (hL _ (by rw [List.getD_eq_getElem?_getD, List.getElem?_eq_getElem h0]; simp))
 simp only [B144, sem_br, sem_ask, sem_ret, sem_nxt, PC.holds, need_true, Nat.mul_one, Nat.zero_mul, g1, g2, h1, hin, decide_true, if_true, List.length_map, hs, sem_bind_some, sem_sees, stepO_nxt, show Int.toNat 0 = 0 from rfl, g3, Nat.zero_le, Int.le_refl]
 have hh := F144_loop R hm hL (R.length - 1) 1 (by omega) (by omega)
 have e : (R.take 1).map (fun r => vI (symI r)) = [vI (symI (R.getD 0 []))] := by
  match R, h0 with
  | x :: R, _ => rfl
 rw [e] at hh
 rw [List.map_map]
 exact hh
def rowsE (R : List (List Int)) (most : Int) : Int :=
 if firstI [whenI ((R.length : Int) == 0) 12, whenI (decide ((R.length : Int) > most)) 5] ≠ 0 then firstI [whenI ((R.length : Int) == 0) 12, whenI (decide ((R.length : Int) > most)) 5]
 else if firstI [whenI (decide (unevenR R R)) 2, whenI (decide ((len0 R : Int) > 16)) 5] ≠ 0 then firstI [whenI (decide (unevenR R R)) 2, whenI (decide ((len0 R : Int) > 16)) 5]
 else firstI (R.map symI)
theorem F104_eq (R : List (List Int)) (most : Int) (hm : R.length ≤ 300) (hL : ∀ r ∈ R, r.length ≤ 300) : F104 R.length (R.map rD) most = some (rowsE R most) := by
 unfold F104; rw [res_eq]
 simp only [B104, F83_eq, sem_bind_some, sem_sees, F82_2, sem_br]
 by_cases h : firstI [whenI ((R.length : Int) == 0) 12, whenI (decide ((R.length : Int) > most)) 5] = 0
 ·have h0 : 0 < R.length := by
   rw [firstI_zero] at h
   have := (whenI_zero (by decide)).1 h.1
   have h2 : ¬ ((R.length : Int) = 0) := by simpa using this
   omega
  have g1 : dN (cel (R.map rD) 0) = len0 R := (celR0 R h0).1
  have g2 := (celR0 R h0).2
  have g3 : Option.map AV.d (List.drop 0 (R.map rD))[0]? = some (AV.d (DV.sl (len0 R) ((R.getD 0 []).map vI))) := at_mapR h0
  have hb : (firstI [whenI ((R.length : Int) == 0) 12, whenI (decide ((R.length : Int) > most)) 5] != 0) = false := by rw [h]; rfl
  have hc : 0 < (R.length : Int) := by omega
  simp only [hb, Bool.false_eq_true, if_false, F142_eq R h0 hm, sem_bind_some, sem_sees, F83_eq, g1, g2, g3, F82_2, sem_ask, PC.holds, need_true, hc, Nat.zero_le, sem_br]
  by_cases h2 : firstI [whenI (decide (unevenR R R)) 2, whenI (decide ((len0 R : Int) > 16)) 5] = 0
  ·have hb2 : (firstI [whenI (decide (unevenR R R)) 2, whenI (decide ((len0 R : Int) > 16)) 5] != 0) = false := by rw [h2]; rfl
   have h3 := F82_eq (R.map symI) (by simpa using hm)
   rw [List.length_map] at h3
   have hr : rowsE R most = firstI (R.map symI) := by unfold rowsE; rw [if_neg (by simp [h]), if_neg (by simp [h2])]
   simp only [hb2, Bool.false_eq_true, if_false, F144_eq R h0 hm hL, sem_bind_some, sem_sees, h3, sem_ret, stepO_ret, hr]
  ·have hb2 : (firstI [whenI (decide (unevenR R R)) 2, whenI (decide ((len0 R : Int) > 16)) 5] != 0) = true := by simpa using h2
   have hr : rowsE R most = firstI [whenI (decide (unevenR R R)) 2, whenI (decide ((len0 R : Int) > 16)) 5] := by unfold rowsE; rw [if_neg (by simp [h]), if_pos h2]
   simp only [hb2, if_true, sem_ret, stepO_ret, hr]
 ·have hb : (firstI [whenI ((R.length : Int) == 0) 12, whenI (decide ((R.length : Int) > most)) 5] != 0) = true := by simpa using h
  have hr : rowsE R most = firstI [whenI ((R.length : Int) == 0) 12, whenI (decide ((R.length : Int) > most)) 5] := by unfold rowsE; rw [if_pos h]
  simp only [hb, if_true, sem_ret, stepO_ret, hr]
end Go.Kv
namespace Go.Kv
open Go Go.RowKit
set_option maxRecDepth 100000
theorem firstI_cons (x : Int) (xs : List Int) : firstI (x :: xs) = if x = 0 then firstI xs else x := rfl
theorem F46_c2 (R : List (List Int)) (hm : R.length ≤ 300) (hL : ∀ r ∈ R, r.length ≤ 300) : ∀ (m i : Nat), R.length = i + m → res B46 (.c2 R.length (R.map rD) (i : Int)) = some (firstI ((R.drop i).map symI)) := by
 intro m
 induction m with
 | zero =>
  intro i h
  have h1 : ¬ ((i : Int) < (R.length : Int)) := by omega
  rw [res_eq, List.drop_eq_nil_of_le (by omega)]
  simp only [B46, sem_br, h1, decide_false, Bool.false_eq_true, if_false, sem_ret, stepO_ret]
  rfl
 | succ m ih =>
  intro i h
  have hi : i < R.length := by omega
  obtain ⟨g1, g2⟩ := celR R hi
  have g3 := at_mapR hi
  have h1 : (i : Int) < (R.length : Int) := by omega
  have h3 : inI64 (((i + 1 : Nat)) : Int) := by unfold inI64; omega
  have h4 : 0 ≤ (i : Int) := by omega
  have h12 : (i : Int) + 1 = ((i + 1 : Nat) : Int) := by omega
  have hs := F78_eq (R.getD i []) (hL _ (by rw [List.getD_eq_getElem?_getD, List.getElem?_eq_getElem hi]; simp))
  rw [res_eq, dropD [] hi, List.map_cons]
  by_cases hz : symI (R.getD i []) = 0
  ·have hb : (symI (R.getD i []) != 0) = false := by rw [hz]; rfl
   simp only [B46, sem_br, h1, decide_true, if_true, sem_ask, need_true, PC.holds, h3, h4, Int.toNat_natCast, Nat.mul_one, g1, g2, g3, hs, sem_bind_some, sem_sees, hb, Bool.false_eq_true, if_false, h12, sem_nxt]
   rw [need_of (by simp; omega), stepO_nxt, ih (i + 1) (by omega)]
   rw [firstI_cons, if_pos hz]
  ·have hb : (symI (R.getD i []) != 0) = true := by simpa using hz
   simp only [B46, sem_br, h1, decide_true, if_true, sem_ask, need_true, PC.holds, h3, h4, Int.toNat_natCast, Nat.mul_one, g1, g2, g3, hs, sem_bind_some, sem_sees, hb, sem_ret]
   rw [need_of (by simp; omega), stepO_ret]
   rw [firstI_cons, if_neg hz]
theorem F46_c1 (R : List (List Int)) (h0 : 0 < R.length) (hm : R.length ≤ 300) : ∀ (m i : Nat), R.length = i + m →
  res B46 (.c1 R.length (R.map rD) (i : Int)) = if unevenR R (R.drop i) then some 2 else if len0 R > 16 then some 5 else res B46 (.c2 R.length (R.map rD) 0) := by
 have q1 : dN (cel (R.map rD) 0) = len0 R := (celR0 R h0).1
 have q2 := (celR0 R h0).2
 have q3 : Option.map AV.d (List.drop 0 (R.map rD))[0]? = some (AV.d (DV.sl (len0 R) ((R.getD 0 []).map vI))) := at_mapR h0
 have hc : 0 < (R.length : Int) := by omega
 intro m
 induction m with
 | zero =>
  intro i h
  have h1 : ¬ ((i : Int) < (R.length : Int)) := by omega
  have hu : ¬ unevenR R (R.drop i) := by rw [List.drop_eq_nil_of_le (by omega)]; rintro ⟨r, hr, _⟩; cases hr
  rw [res_eq, if_neg hu]
  simp only [B46, sem_br, h1, decide_false, Bool.false_eq_true, if_false, sem_ask, need_true, PC.holds, hc, Nat.zero_le, q1, q2, q3]
  by_cases hx : len0 R > 16
  ·have hx2 : ((len0 R : Nat) : Int) > 16 := by omega
   simp only [hx2, decide_true, if_true, sem_ret, stepO_ret, hx]
  ·have hx2 : ¬ ((len0 R : Nat) : Int) > 16 := by omega
   simp only [hx2, decide_false, Bool.false_eq_true, if_false, sem_nxt, stepO_nxt, hx]
 | succ m ih =>
  intro i h
  have hi : i < R.length := by omega
  obtain ⟨g1, g2⟩ := celR R hi
  have g3 := at_mapR hi
  have h1 : (i : Int) < (R.length : Int) := by omega
  have h3 : inI64 (((i + 1 : Nat)) : Int) := by unfold inI64; omega
  have h4 : 0 ≤ (i : Int) := by omega
  have h12 : (i : Int) + 1 = ((i + 1 : Nat) : Int) := by omega
  by_cases hz : (R.getD i []).length = len0 R
  ·have hb : (((R.getD i []).length : Int) != ((len0 R : Nat) : Int)) = false := by rw [hz]; simp
   have hu : unevenR R (R.drop i) ↔ unevenR R (R.drop (i + 1)) := by
    rw [dropD [] hi]
    constructor
    ·rintro ⟨r, hr, hn⟩
     rcases List.mem_cons.1 hr with rfl | hr
     ·exact absurd hz hn
     ·exact ⟨r, hr, hn⟩
    ·rintro ⟨r, hr, hn⟩
     exact ⟨r, List.mem_cons_of_mem _ hr, hn⟩
   have ih' := ih (i + 1) (by omega)
   simp only [← hu] at ih'
   rw [← ih', res_eq]
   simp only [B46, sem_br, h1, decide_true, if_true, sem_ask, need_true, PC.holds, h3, h4, Int.toNat_natCast, Nat.mul_one, g1, g2, g3, q1, q2, q3, hc, Nat.zero_le, hb, Bool.false_eq_true, if_false, h12, sem_nxt]
   rw [need_of (by simp; omega), stepO_nxt]
  ·have hb : (((R.getD i []).length : Int) != ((len0 R : Nat) : Int)) = true := by rw [bne_iff_ne]; omega
   have hu : unevenR R (R.drop i) := ⟨R.getD i [], by rw [dropD [] hi]; simp, hz⟩
   rw [if_pos hu, res_eq]
   simp only [B46, sem_br, h1, decide_true, if_true, sem_ask, need_true, PC.holds, h3, h4, Int.toNat_natCast, Nat.mul_one, g1, g2, g3, q1, q2, q3, hc, Nat.zero_le, hb, sem_ret]
   rw [need_of (by simp; omega), stepO_ret]
theorem rowsE_of (R : List (List Int)) (most : Int) (h : firstI [whenI ((R.length : Int) == 0) 12, whenI (decide ((R.length : Int) > most)) 5] = 0) :
  rowsE R most = if unevenR R R then 2 else if len0 R > 16 then 5 else firstI (R.map symI) := by
 have a1 : whenI true 2 = 2 := rfl
 have a2 : whenI true 5 = 5 := rfl
 have a3 : ∀ e, whenI false e = 0 := fun _ => rfl
 have b1 : ∀ x, firstI [(2 : Int), x] = 2 := fun _ => rfl
 have b2 : firstI [(0 : Int), 5] = 5 := rfl
 have b3 : firstI [(0 : Int), 0] = 0 := rfl
 have hn : ¬ (firstI [whenI ((R.length : Int) == 0) 12, whenI (decide ((R.length : Int) > most)) 5] ≠ 0) := fun hh => hh h
 unfold rowsE
 rw [if_neg hn]
 by_cases hu : unevenR R R
 ·have hd : decide (unevenR R R) = true := decide_eq_true hu
  rw [if_pos hu, hd, a1, b1, if_pos (by decide)]
 ·have hd : decide (unevenR R R) = false := decide_eq_false hu
  rw [if_neg hu, hd, a3]
  by_cases hx : len0 R > 16
  ·have hx2 : decide (((len0 R : Nat) : Int) > 16) = true := decide_eq_true (by omega)
   rw [if_pos hx, hx2, a2, b2, if_pos (by decide)]
  ·have hx2 : decide (((len0 R : Nat) : Int) > 16) = false := decide_eq_false (by omega)
   rw [if_neg hx, hx2, a3, b3, if_neg (by decide)]
theorem F46_eq (R : List (List Int)) (most : Int) (hm : R.length ≤ 300) (hL : ∀ r ∈ R, r.length ≤ 300) : F46 R.length (R.map rD) most = some (rowsE R most) := by
 unfold F46; rw [res_eq]
 simp only [B46, F25_eq, sem_bind_some, sem_sees, F87_2, sem_br]
 by_cases h : firstI [whenI ((R.length : Int) == 0) 12, whenI (decide ((R.length : Int) > most)) 5] = 0
 ·have h0 : 0 < R.length := by
   rw [firstI_zero] at h
   have := (whenI_zero (by decide)).1 h.1
   have h2 : ¬ ((R.length : Int) = 0) := by simpa using this
   omega
  have hb : (firstI [whenI ((R.length : Int) == 0) 12, whenI (decide ((R.length : Int) > most)) 5] != 0) = false := by rw [h]; rfl
  have h1 := F46_c1 R h0 hm R.length 0 (by omega)
  have h2 := F46_c2 R hm hL R.length 0 (by omega)
  rw [List.drop_zero] at h1 h2
  simp only [hb, Bool.false_eq_true, if_false, sem_nxt, stepO_nxt]
  rw [rowsE_of R most h]
  refine h1.trans ?_
  by_cases hu : unevenR R R
  ·rw [if_pos hu, if_pos hu]
  ·rw [if_neg hu, if_neg hu]
   by_cases hx : len0 R > 16
   ·rw [if_pos hx, if_pos hx]
   ·rw [if_neg hx, if_neg hx]
    exact h2
 ·have hb : (firstI [whenI ((R.length : Int) == 0) 12, whenI (decide ((R.length : Int) > most)) 5] != 0) = true := by simpa using h
  have hr : rowsE R most = firstI [whenI ((R.length : Int) == 0) 12, whenI (decide ((R.length : Int) > most)) 5] := by unfold rowsE; rw [if_pos h]
  simp only [hb, if_true, sem_ret, stepO_ret, hr]
end Go.Kv
namespace Go.Kv
open Go Go.RowKit
set_option maxRecDepth 100000
theorem dI_cel_map8 (l : List Int) (i : Nat) : dI (cel (l.map v8) i) = l.getD i 0 := by
 unfold cel
 simp only [List.getD_eq_getElem?_getD, List.getElem?_map]
 cases l[i]? <;> rfl
theorem at_map8 {l : List Int} {i : Nat} (h : i < l.length) : Option.map AV.d (List.drop i (l.map v8))[0]? = some (AV.d (v8 (l.getD i 0))) := by
 simp [List.getElem?_drop, h, List.getD_eq_getElem?_getD]
def okB (l : List Int) : Prop := ∀ x ∈ l, 0 ≤ x ∧ x ≤ 255
theorem okB_at {l : List Int} (h : okB l) (i : Nat) : 0 ≤ l.getD i 0 ∧ l.getD i 0 ≤ 255 := by
 rw [List.getD_eq_getElem?_getD]
 cases he : l[i]? with
 | none => simp
 | some x => exact h x (List.mem_of_getElem? he)
theorem low4 : ∀ n : _root_.Fin 256, (BitVec.ofInt 8 ((n.val : Nat) : Int) &&& BitVec.ofInt 8 15).toNat = n.val % 16 := by decide +kernel
theorem nib_lo {x : Int} (h : 0 ≤ x ∧ x ≤ 255) : IntKind.i64.wrap (IntKind.u8.wrap ((BitVec.ofInt 8 x &&& BitVec.ofInt 8 15).toNat : Int)) = x % 16 := by
 obtain ⟨n, rfl⟩ := Int.eq_ofNat_of_zero_le h.1
 have := low4 ⟨n, by omega⟩
 simp only at this
 rw [this, IntKind.wrap_u8, wrap_in (by unfold inI64; omega)]
 omega
theorem nib_hi {x : Int} (h : 0 ≤ x ∧ x ≤ 255) : IntKind.i64.wrap (x.fdiv 16) = x / 16 := by
 rw [Int.fdiv_eq_ediv_of_nonneg _ (by omega)]
 exact wrap_in (by unfold inI64; omega)
theorem nib_hi2 {x : Int} (h : 0 ≤ x ∧ x ≤ 255) : (IntKind.i64.wrap x).tdiv 16 = x / 16 := by
 rw [wrap_in (by unfold inI64; omega), Int.tdiv_eq_ediv_of_nonneg (by omega)]
theorem nib_lo2 {x : Int} (h : 0 ≤ x ∧ x ≤ 255) : (IntKind.i64.wrap x).tmod 16 = x % 16 := by
 rw [wrap_in (by unfold inI64; omega), Int.tmod_eq_emod_of_nonneg (by omega)]
def nibs (b : List Int) : List Int := b.flatMap fun x => [x / 16, x % 16]
theorem nibs_take (b : List Int) {i : Nat} (h : i < b.length) : nibs (b.take (i + 1)) = nibs (b.take i) ++ [b.getD i 0 / 16, b.getD i 0 % 16] := by
 unfold nibs
 rw [List.take_succ, List.flatMap_append, List.getElem?_eq_getElem h]
 simp [List.getD_eq_getElem?_getD, h]
theorem nibs_len : ∀ b : List Int, (nibs b).length = 2 * b.length
 | [] => rfl
 | x :: b => by
  have := nibs_len b
  unfold nibs at *
  rw [List.flatMap_cons, List.length_append, this]
  simp; omega
theorem F62_loop (b : List Int) (hb : b.length ≤ 300) (ho : okB b) : ∀ (k i : Nat), b.length = i + k → 0 < i →
  res B62 (.c2 (2 * i - 2) (2 * i) ((nibs (b.take i)).map vI) b.length (b.map v8) (b.length : Int) (i : Int) (2 * i - 2)) = some (2 * b.length, (nibs b).map vI, 0) := by
 intro k
 induction k with
 | zero =>
  intro i hk h0
  rw [res_eq, List.take_of_length_le (by omega)]
  have h1 : ¬ ((i : Int) < (b.length : Int)) := by omega
  have h2 : i = b.length := by omega
  simp only [B62, sem_br, sem_ret, h1, decide_false, Bool.false_eq_true, if_false, stepO_ret]
  rw [h2]
 | succ k IH =>
  intro i hk h0
  have hi : i < b.length := by omega
  have h1 : (i : Int) < (b.length : Int) := by omega
  have hin : inI64 (((i + 1 : Nat)) : Int) := by unfold inI64; omega
  have h12 : (i : Int) + 1 = ((i + 1 : Nat) : Int) := by omega
  have ih := IH (i + 1) (by omega) (by omega)
  have hf : fitsN (2 * i + 2) 8 := fits_1 (by omega)
  have hx := okB_at ho i
  rw [res_eq]
  simp only [B62, sem_br, sem_ask, sem_nxt, PC.holds, need_true, Int.toNat_natCast, Nat.mul_one, dI_cel_map8, at_map8 hi, h1, h12, hin, decide_true, if_true, Int.natCast_nonneg, List.length_map, Nat.le_of_lt hi, hf, stepO_nxt, nib_hi hx, nib_lo hx]
  rw [nibs_take b hi, List.map_append] at ih
  have e1 : 2 * i - 2 + 2 = 2 * (i + 1) - 2 := by omega
  have e2 : 2 * i + 2 = 2 * (i + 1) := by omega
  rw [e1, e2]
  exact ih
theorem F62_eq (b : List Int) (hb : b.length ≤ 300) (ho : okB b) : F62 b.length (b.map v8) = some (if b.length > 128 then (0, [], 5) else (2 * b.length, (nibs b).map vI, 0)) := by
 unfold F62; rw [res_eq]
 by_cases h : b.length > 128
 ·have h2 : ((b.length : Nat) : Int) > 128 := by omega
  simp only [B62, sem_br, h2, decide_true, if_true, sem_ret, stepO_ret, h]
 ·have h2 : ¬ ((b.length : Nat) : Int) > 128 := by omega
  rw [if_neg h]
  simp only [B62, sem_br, h2, decide_false, Bool.false_eq_true, if_false, sem_nxt, stepO_nxt]
  rw [res_eq]
  by_cases h0 : b.length = 0
  ·have : b = [] := List.length_eq_zero_iff.1 h0
   subst this
   simp [B62, sem_br, sem_ret, stepO_ret, nibs]
  ·have hi : 0 < b.length := by omega
   have h1 : (0 : Int) < (b.length : Int) := by omega
   have hin : inI64 ((0 : Int) + 1) := by unfold inI64; omega
   have hx := okB_at ho 0
   have ha := at_map8 hi
   simp only [B62, sem_br, sem_ask, sem_nxt, PC.holds, need_true, Nat.mul_one, Nat.zero_mul, dI_cel_map8, h1, hin, decide_true, if_true, List.length_map, stepO_nxt, show Int.toNat 0 = 0 from rfl, ha, Nat.zero_le, Int.le_refl, nib_hi hx, nib_lo hx]
   have hh := F62_loop b hb ho (b.length - 1) 1 (by omega) (by omega)
   rw [nibs_take b hi] at hh
   exact hh
theorem F67_loop (b : List Int) (hb : b.length ≤ 300) (ho : okB b) : ∀ (k i : Nat), b.length = i + k → 0 < i →
  res B67 (.c2 b.length (b.map v8) (2 * i - 1) (2 * i) ((nibs (b.take i)).map vI) (i : Int) (2 * i - 1)) = some (2 * b.length, (nibs b).map vI) := by
 intro k
 induction k with
 | zero =>
  intro i hk h0
  rw [res_eq, List.take_of_length_le (by omega)]
  have h1 : ¬ ((i : Int) < (b.length : Int)) := by omega
  have h2 : i = b.length := by omega
  simp only [B67, sem_br, sem_ret, h1, decide_false, Bool.false_eq_true, if_false, stepO_ret]
  rw [h2]
 | succ k IH =>
  intro i hk h0
  have hi : i < b.length := by omega
  have h1 : (i : Int) < (b.length : Int) := by omega
  have hin : inI64 (((i + 1 : Nat)) : Int) := by unfold inI64; omega
  have h12 : (i : Int) + 1 = ((i + 1 : Nat) : Int) := by omega
  have ih := IH (i + 1) (by omega) (by omega)
  have hf : fitsN (2 * i + 1) 8 := fits_1 (by omega)
  have hf2 : fitsN (2 * i + 1 + 1) 8 := fits_1 (by omega)
  have hx := okB_at ho i
  have hq : inI64 (b.getD i 0 / 16) := by unfold inI64; omega
  rw [res_eq]
  simp only [B67, sem_br, sem_ask, sem_nxt, PC.holds, need_true, Int.toNat_natCast, Nat.mul_one, dI_cel_map8, at_map8 hi, h1, h12, hin, decide_true, if_true, Int.natCast_nonneg, List.length_map, Nat.le_of_lt hi, hf, hf2, stepO_nxt, nib_hi2 hx, nib_lo2 hx, hq]
  rw [nibs_take b hi, List.map_append] at ih
  have e1 : 2 * i - 1 + 1 + 1 = 2 * (i + 1) - 1 := by omega
  have e2 : 2 * i + 1 + 1 = 2 * (i + 1) := by omega
  rw [e1, e2, List.append_assoc]
  exact ih
theorem F67_eq (b : List Int) (hb : b.length ≤ 300) (ho : okB b) : F67 b.length (b.map v8) = some (2 * b.length, (nibs b).map vI) := by
 unfold F67; rw [res_eq]
 simp only [B67, sem_nxt, stepO_nxt]
 rw [res_eq]
 by_cases h0 : b.length = 0
 ·have : b = [] := List.length_eq_zero_iff.1 h0
  subst this
  simp [B67, sem_br, sem_ret, stepO_ret, nibs]
 ·have hi : 0 < b.length := by omega
  have h1 : (0 : Int) < (b.length : Int) := by omega
  have hin : inI64 ((0 : Int) + 1) := by unfold inI64; omega
  have hx := okB_at ho 0
  have ha := at_map8 hi
  have hq : inI64 (b.getD 0 0 / 16) := by unfold inI64; omega
  simp only [B67, sem_br, sem_ask, sem_nxt, PC.holds, need_true, Nat.mul_one, Nat.zero_mul, dI_cel_map8, h1, hin, decide_true, if_true, List.length_map, stepO_nxt, show Int.toNat 0 = 0 from rfl, ha, Nat.zero_le, Int.le_refl, nib_hi2 hx, nib_lo2 hx, hq]
  have hh := F67_loop b hb ho (b.length - 1) 1 (by omega) (by omega)
  rw [nibs_take b hi] at hh
  exact hh
end Go.Kv
namespace Go.Kv
open Go Go.RowKit
set_option maxRecDepth 100000
theorem or16 : ∀ a b : _root_.Fin 16, (BitVec.ofInt 64 (((a.val : Nat) : Int) * 16) ||| BitVec.ofInt 64 ((b.val : Nat) : Int)).toNat = 16 * a.val + b.val := by decide +kernel
theorem pack_eq {a b : Int} (ha : 0 ≤ a ∧ a < 16) (hb : 0 ≤ b ∧ b < 16) : IntKind.u8.wrap (IntKind.i64.wrap ((BitVec.ofInt 64 (IntKind.i64.wrap (a * 16)) ||| BitVec.ofInt 64 b).toNat : Int)) = 16 * a + b := by
 obtain ⟨n, rfl⟩ := Int.eq_ofNat_of_zero_le ha.1
 obtain ⟨m, rfl⟩ := Int.eq_ofNat_of_zero_le hb.1
 have := or16 ⟨n, by omega⟩ ⟨m, by omega⟩
 simp only at this
 rw [wrap_in (n := (n : Int) * 16) (by unfold inI64; omega), this, wrap_in (by unfold inI64; omega), IntKind.wrap_u8]
 omega
theorem pack_eq2 {a b : Int} (ha : 0 ≤ a ∧ a < 16) (hb : 0 ≤ b ∧ b < 16) : IntKind.u8.wrap (16 * a + b) = 16 * a + b := by
 rw [IntKind.wrap_u8]; omega
def packs : List Int → List Int
 | a :: b :: l => (16 * a + b) :: packs l
 | _ => []
def okN (l : List Int) : Prop := ∀ x ∈ l, 0 ≤ x ∧ x < 16
theorem okN_at {l : List Int} (h : okN l) (i : Nat) : 0 ≤ l.getD i 0 ∧ l.getD i 0 < 16 := by
 rw [List.getD_eq_getElem?_getD]
 cases he : l[i]? with
 | none => simp
 | some x => exact h x (List.mem_of_getElem? he)
theorem take2 {l : List Int} {i : Nat} (h : i + 2 ≤ l.length) : List.take 2 (List.drop i (l.map vI)) = [vI (l.getD i 0), vI (l.getD (i + 1) 0)] := by
 rw [← List.map_drop, dropD 0 (by omega : i < l.length), dropD 0 (by omega : i + 1 < l.length)]
 rfl
theorem packs_step {l : List Int} {i : Nat} (h : i + 2 ≤ l.length) : packs (l.drop i) = (16 * l.getD i 0 + l.getD (i + 1) 0) :: packs (l.drop (i + 2)) := by
 rw [dropD 0 (by omega : i < l.length), dropD 0 (by omega : i + 1 < l.length)]
 rfl
theorem F68_loop (l : List Int) (hl : l.length ≤ 300) (ho : okN l) (he : l.length % 2 = 0) : ∀ (k i c : Nat) (ds : List Int), l.length = i + 2 * k → 0 < c → c ≤ i → ds.length = c →
  res B68 (.c2 l.length (l.map vI) (c - 1) c (ds.map v8) (i : Int) (c - 1)) = some (c + k, (ds ++ packs (l.drop i)).map v8) := by
 intro k
 induction k with
 | zero =>
  intro i c ds hk h0 hc hd
  rw [res_eq, List.drop_eq_nil_of_le (by omega)]
  have h1 : ¬ ((i : Int) + 1 < (l.length : Int)) := by omega
  have hin : inI64 ((i : Int) + 1) := by unfold inI64; omega
  simp only [B68, sem_br, sem_ask, need_true, PC.holds, hin, sem_ret, h1, decide_false, Bool.false_eq_true, if_false, stepO_ret]
  simp [packs]
 | succ k IH =>
  intro i c ds hk h0 hc hd
  have hi : i + 2 ≤ l.length := by omega
  have a0 := okN_at ho i
  have a1 := okN_at ho (i + 1)
  have h1 : (i : Int) + 1 < (l.length : Int) := by omega
  have h1' : (i : Int) < (l.length : Int) := by omega
  have hin : inI64 ((i : Int) + 1) := by unfold inI64; omega
  have hin2 : inI64 ((i : Int) + 2) := by unfold inI64; omega
  have hq : inI64 (16 * l.getD i 0) := by unfold inI64; omega
  have hq2 : inI64 (16 * l.getD i 0 + l.getD (i + 1) 0) := by unfold inI64; omega
  have ht : ((i : Int) + 1).toNat = i + 1 := by omega
  have hp : 0 ≤ (i : Int) + 1 := by omega
  have hf : fitsN (c + 1) 1 := ⟨by omega, by omega⟩
  have ih := IH (i + 2) (c + 1) (ds ++ [16 * l.getD i 0 + l.getD (i + 1) 0]) (by omega) (by omega) (by omega) (by simp [hd])
  rw [res_eq]
  have g0 := at_map (l := l) (i := i) (by omega)
  have g1 := at_map (l := l) (i := i + 1) (by omega)
  have e1 : i ≤ l.length := by omega
  have e2 : i + 1 ≤ l.length := by omega
  simp only [B68, sem_br, sem_ask, sem_nxt, PC.holds, need_true, Int.toNat_natCast, Nat.mul_one, ht, hp, dI_cel_map, g0, g1, h1, h1', hin, hin2, hq, hq2, decide_true, if_true, Int.natCast_nonneg, List.length_map, e1, e2, hf, stepO_nxt, pack_eq2 a0 a1]
  rw [packs_step hi, show (c + (k + 1)) = c + 1 + k by omega]
  rw [List.map_append] at ih
  rw [show ds ++ (16 * l.getD i 0 + l.getD (i + 1) 0) :: packs (l.drop (i + 2)) = ds ++ [16 * l.getD i 0 + l.getD (i + 1) 0] ++ packs (l.drop (i + 2)) by simp, ← ih, show c - 1 + 1 = c by omega, show c + 1 - 1 = c by omega, show ((i : Int) + 2) = ((i + 2 : Nat) : Int) by omega]
  rfl
theorem packs_len : ∀ (k : Nat) (l : List Int), l.length = 2 * k → (packs l).length = k
 | 0, l, h => by
  have : l = [] := List.length_eq_zero_iff.1 (by omega)
  subst this; rfl
 | k + 1, [], h => by simp at h
 | k + 1, [a], h => by simp at h; omega
 | k + 1, a :: b :: l, h => by
  have := packs_len k l (by simp at h; omega)
  simp [packs, this]
theorem F68_eq (l : List Int) (hl : l.length ≤ 300) (ho : okN l) (he : l.length % 2 = 0) : F68 l.length (l.map vI) = some (l.length / 2, (packs l).map v8) := by
 unfold F68; rw [res_eq]
 simp only [B68, sem_nxt, stepO_nxt]
 rw [res_eq]
 by_cases h0 : l.length = 0
 ·have : l = [] := List.length_eq_zero_iff.1 h0
  subst this
  have hin : inI64 ((0 : Int) + 1) := by unfold inI64; omega
  have h1 : ¬ ((0 : Int) + 1 < (([] : List Int).length : Int)) := by simp
  simp only [B68, sem_br, sem_ask, need_true, PC.holds, hin, h1, decide_false, Bool.false_eq_true, if_false, sem_ret, stepO_ret]
  rfl
 ·have hi : 0 + 2 ≤ l.length := by omega
  have a0 := okN_at ho 0
  have a1 := okN_at ho (0 + 1)
  have h1 : (0 : Int) + 1 < (l.length : Int) := by omega
  have h1' : (0 : Int) < (l.length : Int) := by omega
  have hin : inI64 ((0 : Int) + 1) := by unfold inI64; omega
  have hin2 : inI64 ((0 : Int) + 2) := by unfold inI64; omega
  have hq : inI64 (16 * l.getD 0 0) := by unfold inI64; omega
  have hq2 : inI64 (16 * l.getD 0 0 + l.getD (0 + 1) 0) := by unfold inI64; omega
  have ht : ((0 : Int) + 1).toNat = 0 + 1 := by omega
  have hp : 0 ≤ (0 : Int) + 1 := by omega
  have g0 := at_map (l := l) (i := 0) (by omega)
  have g1 := at_map (l := l) (i := 0 + 1) (by omega)
  have e2 : 0 + 1 ≤ l.length := by omega
  simp only [B68, sem_br, sem_ask, sem_nxt, PC.holds, need_true, Nat.mul_one, Nat.zero_mul, ht, hp, dI_cel_map, g0, g1, h1, h1', hin, hin2, hq, hq2, decide_true, if_true, List.length_map, Nat.zero_le, Int.le_refl, show Int.toNat 0 = 0 from rfl, e2, stepO_nxt, pack_eq2 a0 a1]
  have hh := F68_loop l hl ho he (l.length / 2 - 1) 2 1 [16 * l.getD 0 0 + l.getD (0 + 1) 0] (by omega) (by omega) (by omega) rfl
  have e3 : packs l = (16 * l.getD 0 0 + l.getD (0 + 1) 0) :: packs (l.drop 2) := packs_step hi
  rw [e3]
  rw [show 1 + (l.length / 2 - 1) = l.length / 2 by omega] at hh
  exact hh
end Go.Kv
namespace Go.Kv
open Go Go.RowKit
set_option maxRecDepth 100000
theorem F146_any (l : List Int) (hl : l.length ≤ 300) (x : Int) : ∃ v : Int, F146 l.length (l.map vI) x = some v ∧ (v ≥ 0 ↔ x ∈ l) := by
 have loop : ∀ (m i : Nat), l.length = i + m → ∃ v : Int, res B146 (.c1 l.length (l.map vI) x (l.length : Int) (i : Int)) = some v ∧ (v ≥ 0 ↔ x ∈ l.drop i) := by
  intro m
  induction m with
  | zero =>
   intro i h
   refine ⟨-1, ?_, ?_⟩
   ·rw [res_eq]
    have h1 : ¬ ((i : Int) < (l.length : Int)) := by omega
    simp only [B146, sem_br, h1, decide_false, Bool.false_eq_true, if_false, sem_ret, stepO_ret]
   ·rw [List.drop_eq_nil_of_le (by omega)]; simp
  | succ m ih =>
   intro i h
   have hi : i < l.length := by omega
   obtain ⟨v, hv, hx⟩ := ih (i + 1) (by omega)
   have g1 := at_map hi
   have h1 : (i : Int) < (l.length : Int) := by omega
   have h4 : 0 ≤ (i : Int) := by omega
   have h3 : inI64 (((i + 1 : Nat)) : Int) := by unfold inI64; omega
   have h12 : (i : Int) + 1 = ((i + 1 : Nat) : Int) := by omega
   by_cases hz : x = l.getD i 0
   ·refine ⟨(i : Int), ?_, ?_⟩
    ·rw [res_eq]
     have h5 : (x == l.getD i 0) = true := by simpa using hz
     simp only [B146, sem_br, h1, decide_true, if_true, sem_ask, need_true, PC.holds, h4, Int.toNat_natCast, Nat.mul_one, dI_cel_map, g1, sem_ret, h5]
     rw [need_of (by simp; omega), stepO_ret]
    ·constructor
     ·intro _
      rw [dropD 0 hi, ← hz]; simp
     ·intro _; omega
   ·refine ⟨v, ?_, ?_⟩
    ·rw [res_eq]
     have h5 : (x == l.getD i 0) = false := by simpa using hz
     simp only [B146, sem_br, h1, decide_true, if_true, sem_ask, need_true, PC.holds, h4, Int.toNat_natCast, Nat.mul_one, dI_cel_map, g1, sem_nxt, h5, h12, h3, Bool.false_eq_true, if_false]
     rw [need_of (by simp; omega), stepO_nxt, hv]
    ·rw [hx, dropD 0 hi, List.mem_cons]
     constructor
     ·exact Or.inr
     ·rintro (h | h)
      ·exact absurd h hz
      ·exact h
 obtain ⟨v, hv, hx⟩ := loop l.length 0 (by omega)
 refine ⟨v, ?_, by rw [List.drop_zero] at hx; exact hx⟩
 unfold F146; rw [res_eq]
 simp only [B146, sem_nxt, stepO_nxt]
 exact hv
theorem F110_eq (l : List Int) (hl : l.length ≤ 300) (x : Int) : F110 l.length (l.map vI) x = some (decide (x ∈ l)) := by
 obtain ⟨v, hv, hx⟩ := F146_any l hl x
 unfold F110; rw [res_eq]
 simp only [B110, hv, sem_bind_some, sem_sees, sem_ret, stepO_ret]
 congr 1
 exact decide_eq_decide.2 hx
theorem F71_loop (l : List Int) (hl : l.length ≤ 300) (x : Int) : ∀ (m i : Nat), l.length = i + m → res B71 (.c1 l.length (l.map vI) x (i : Int)) = some (decide (x ∈ l.drop i)) := by
 intro m
 induction m with
 | zero =>
  intro i h
  rw [res_eq, List.drop_eq_nil_of_le (by omega)]
  have h1 : ¬ ((i : Int) < (l.length : Int)) := by omega
  simp only [B71, sem_br, h1, decide_false, Bool.false_eq_true, if_false, sem_ret, stepO_ret]
  simp
 | succ m ih =>
  intro i h
  have hi : i < l.length := by omega
  have g1 := at_map hi
  have h1 : (i : Int) < (l.length : Int) := by omega
  have h4 : 0 ≤ (i : Int) := by omega
  have h3 : inI64 (((i + 1 : Nat)) : Int) := by unfold inI64; omega
  have h12 : (i : Int) + 1 = ((i + 1 : Nat) : Int) := by omega
  rw [res_eq, dropD 0 hi]
  by_cases hz : l.getD i 0 = x
  ·have h5 : (l.getD i 0 == x) = true := by simpa using hz
   simp only [B71, sem_br, h1, decide_true, if_true, sem_ask, need_true, PC.holds, h4, Int.toNat_natCast, Nat.mul_one, dI_cel_map, g1, sem_ret, h5]
   rw [need_of (by simp; omega), stepO_ret, hz]
   simp
  ·have h5 : (l.getD i 0 == x) = false := by simpa using hz
   simp only [B71, sem_br, h1, decide_true, if_true, sem_ask, need_true, PC.holds, h4, Int.toNat_natCast, Nat.mul_one, dI_cel_map, g1, sem_nxt, h5, h12, h3, Bool.false_eq_true, if_false]
   rw [need_of (by simp; omega), stepO_nxt, ih (i + 1) (by omega)]
   congr 1
   exact decide_eq_decide.2 (by rw [List.mem_cons]; exact ⟨Or.inr, fun h => h.elim (fun h => absurd h.symm hz) id⟩)
theorem F71_eq (l : List Int) (hl : l.length ≤ 300) (x : Int) : F71 l.length (l.map vI) x = some (decide (x ∈ l)) := by
 unfold F71; rw [res_eq]
 simp only [B71, sem_nxt, stepO_nxt]
 have h := F71_loop l hl x l.length 0 (by omega)
 rw [List.drop_zero] at h
 exact h
def packE (l : List Int) : Int := firstI [looseI l, whenI (decide (l.length % 2 ≠ 0)) 2, whenI (decide (16 ∈ l)) 1]
theorem odd_eq (n : Nat) : (((n : Nat) : Int).tmod 2 != 0) = decide (n % 2 ≠ 0) := by
 rw [Int.tmod_eq_emod_of_nonneg (by omega), Bool.eq_iff_iff, bne_iff_ne, decide_eq_true_eq]
 omega
theorem F65_eq (l : List Int) (hl : l.length ≤ 300) : F65 l.length (l.map vI) = some (packE l) := by
 unfold F65; rw [res_eq]
 simp only [B65, F56_eq l hl, sem_bind_some, sem_sees, F25_eq, F71_eq l hl, F87_3, sem_ret, stepO_ret, odd_eq]
 rfl
theorem looseI_zero {l : List Int} : looseI l = 0 ↔ l.length ≤ 256 ∧ okS l := by
 unfold looseI
 rw [firstI_zero, whenI_zero (by decide), firstI_zero, symI_zero]
 simp only [decide_eq_false_iff_not]
 constructor
 ·rintro ⟨h, h2, _⟩; exact ⟨by omega, h2⟩
 ·rintro ⟨h, h2⟩; exact ⟨by omega, h2, rfl⟩
theorem packE_zero {l : List Int} : packE l = 0 ↔ l.length ≤ 256 ∧ okN l ∧ l.length % 2 = 0 := by
 unfold packE
 rw [firstI_zero, looseI_zero, firstI_zero, whenI_zero (by decide), firstI_zero, whenI_zero (by decide)]
 simp only [decide_eq_false_iff_not]
 constructor
 ·rintro ⟨⟨h, h2⟩, h3, h4, _⟩
  refine ⟨h, fun x hx => ?_, by omega⟩
  have := h2 x hx
  have hne : x ≠ 16 := fun e => h4 (e ▸ hx)
  omega
 ·rintro ⟨h, h2, h3⟩
  exact ⟨⟨h, fun x hx => by have := h2 x hx; omega⟩, by omega, fun hm => by have := h2 16 hm; omega, rfl⟩
end Go.Kv
namespace Go.Kv
open Go Go.RowKit
set_option maxRecDepth 100000
theorem celI_0 (n : Int) : dI (cel [vI n] 0) = n := rfl
theorem cel2_0 (a b : Int) : dI (cel [vI a, vI b] 0) = a := rfl
theorem cel2_1 (a b : Int) : dI (cel [vI a, vI b] 1) = b := rfl
theorem F63_loop (l : List Int) (hl : l.length ≤ 300) (ho : okN l) (he : l.length % 2 = 0) (x743 : Nat) (x744 : List DV) (x745 x746 x747 x748 : Int) (x749 : Bool) (x750 : Int) (x751 : Bool) (x752 : Int) (x753 : List DV) : ∀ (k i c : Nat) (ds : List Int), l.length = i + 2 * k → 0 < c → c ≤ i → ds.length = c →
  res B63 (.c2 [.sl l.length (l.map vI)] [vI 2] (i : Int) (c - 1) c (ds.map v8) x743 x744 x745 x746 x747 x748 x749 x750 x751 x752 x753 (c - 1)) = some (c + k, (ds ++ packs (l.drop i)).map v8, 0) := by
 intro k
 induction k with
 | zero =>
  intro i c ds hk h0 hc hd
  rw [res_eq, List.drop_eq_nil_of_le (by omega)]
  have h1 : ¬ ((i : Int) < (l.length : Int)) := by omega
  simp only [B63, sem_br, sem_ask, PC.holds, celS_N, celS_L, sem_ret, h1, decide_false, Bool.false_eq_true, if_false]
  rw [need_of (by rfl), stepO_ret]
  simp [packs]
 | succ k IH =>
  intro i c ds hk h0 hc hd
  have hi : i + 2 ≤ l.length := by omega
  have a0 := okN_at ho i
  have a1 := okN_at ho (i + 1)
  have h1 : (i : Int) < (l.length : Int) := by omega
  have hlt : ¬ ((l.length - i : Nat) : Int) < 2 := by omega
  have hin2 : inI64 ((i : Int) + 2) := by unfold inI64; omega
  have ht : ((i : Int) + 2).toNat = i + 2 := by omega
  have hs : i + 2 - i = 2 := by omega
  have hf : fitsN (c + 1) 1 := ⟨by omega, by omega⟩
  have e1 : i ≤ l.length := by omega
  have q1 : (i : Int) ≤ (l.length : Int) := by omega
  have q2 : (i : Int) ≤ (i : Int) + 2 := by omega
  have q3 : (i : Int) + 2 ≤ (l.length : Int) := by omega
  have ht2 := take2 hi
  have ih := IH (i + 2) (c + 1) (ds ++ [16 * l.getD i 0 + l.getD (i + 1) 0]) (by omega) (by omega) (by omega) (by simp [hd])
  rw [res_eq]
  simp only [B63, sem_br, sem_ask, sem_nxt, PC.holds, celS_N, celS_L, celI_0, h1, decide_true, if_true, Int.toNat_natCast, hlt, if_false, ht, hs, Nat.mul_one, ht2, cel2_0, cel2_1, pack_eq a0 a1, List.length_map, hin2, hf, q1, q2, q3, need_true, Int.natCast_nonneg, Int.le_refl, Nat.le_refl]
  rw [packs_step hi, show (c + (k + 1)) = c + 1 + k by omega]
  rw [List.map_append] at ih
  rw [show ds ++ (16 * l.getD i 0 + l.getD (i + 1) 0) :: packs (l.drop (i + 2)) = ds ++ [16 * l.getD i 0 + l.getD (i + 1) 0] ++ packs (l.drop (i + 2)) by simp]
  refine Eq.trans ?_ ih
  rw [show c + 1 - 1 = c - 1 + 1 by omega, show ((i + 2 : Nat) : Int) = (i : Int) + 2 by omega]
  rw [need_of (by rfl), need_of (by rfl), need_of (by rfl), need_of (by rfl), need_of (by omega), need_of (by simp), need_of (by rfl), need_of (by omega), need_of (by simp), need_of (by rfl), need_of (by rfl), stepO_nxt]
  rfl
theorem F111_2 (l : List Int) : F111 l.length (l.map vI) 2 = some ([.sl l.length (l.map vI)], [vI 2]) := by
 unfold F111; rw [res_eq]
 simp only [B111, sem_ask, PC.holds, sem_ret]
 rw [need_of (by decide), stepO_ret]
theorem F63_eq (l : List Int) (hl : l.length ≤ 300) : F63 l.length (l.map vI) = some (if packE l = 0 then (l.length / 2, (packs l).map v8, 0) else (0, [], packE l)) := by
 unfold F63; rw [res_eq]
 have hp : firstI [looseI l, whenI (decide (l.length % 2 ≠ 0)) 2, whenI (decide (16 ∈ l)) 1] = packE l := rfl
 simp only [B63, F105_eq l hl, sem_bind_some, sem_sees, F83_eq, F110_eq l hl, F82_3, odd_eq, hp, sem_br, F111_2]
 by_cases h : packE l = 0
 ·have hb : (packE l != 0) = false := by rw [h]; rfl
  obtain ⟨h1, ho, he⟩ := packE_zero.1 h
  rw [if_pos h]
  simp only [hb, Bool.false_eq_true, if_false, sem_nxt, stepO_nxt]
  rw [res_eq]
  by_cases h0 : l.length = 0
  ·have : l = [] := List.length_eq_zero_iff.1 h0
   subst this
   have h1 : ¬ ((0 : Int) < (([] : List Int).length : Int)) := by simp
   simp only [B63, sem_br, sem_ask, PC.holds, celS_N, celS_L, sem_ret, h1, decide_false, Bool.false_eq_true, if_false]
   rw [need_of (by rfl), stepO_ret]
   rfl
  ·have hi : 0 + 2 ≤ l.length := by omega
   have a0 := okN_at ho 0
   have a1 := okN_at ho (0 + 1)
   have h1 : (0 : Int) < (l.length : Int) := by omega
   have hlt : ¬ ((l.length - 0 : Nat) : Int) < 2 := by omega
   have hin2 : inI64 ((0 : Int) + 2) := by unfold inI64; omega
   have ht : ((0 : Int) + 2).toNat = 0 + 2 := by omega
   have hs : 0 + 2 - 0 = 2 := by omega
   have q2 : (0 : Int) ≤ (0 : Int) + 2 := by omega
   have q3 : (0 : Int) + 2 ≤ (l.length : Int) := by omega
   have q1 : (0 : Int) ≤ (l.length : Int) := by omega
   have ht2 := take2 hi
   simp only [B63, sem_br, sem_ask, sem_nxt, PC.holds, celS_N, celS_L, celI_0, h1, decide_true, if_true, Int.toNat_natCast, show Int.toNat 0 = 0 from rfl, hlt, if_false, ht, hs, Nat.mul_one, Nat.zero_mul, ht2, cel2_0, cel2_1, pack_eq a0 a1, List.length_map, hin2, q1, q2, q3, need_true, Int.le_refl, Nat.le_refl]
   have hh := F63_loop l hl ho he l.length (l.map vI) (packE l) (looseI l) (l.length : Int) (((l.length : Nat) : Int).tmod 2) (decide (l.length % 2 ≠ 0)) (whenI (decide (l.length % 2 ≠ 0)) 2) (decide (16 ∈ l)) (whenI (decide (16 ∈ l)) 1) [vI (looseI l), vI (whenI (decide (l.length % 2 ≠ 0)) 2), vI (whenI (decide (16 ∈ l)) 1)] (l.length / 2 - 1) 2 1 [16 * l.getD 0 0 + l.getD (0 + 1) 0] (by omega) (by omega) (by omega) rfl
   have e3 : packs l = (16 * l.getD 0 0 + l.getD (0 + 1) 0) :: packs (l.drop 2) := packs_step hi
   rw [e3]
   rw [show 1 + (l.length / 2 - 1) = l.length / 2 by omega] at hh
   refine Eq.trans ?_ hh
   rw [need_of (by rfl), need_of (by rfl), need_of (by rfl), need_of (by rfl), need_of (by omega), need_of (by simp), need_of (by rfl), need_of (by omega), need_of (by simp), need_of (by rfl), need_of (by rfl), stepO_nxt]
   rfl
 ·have hb : (packE l != 0) = true := by simpa using h
  rw [if_neg h]
  simp only [hb, if_true, sem_ret, stepO_ret]
end Go.Kv
namespace Go.Kv
open Go Go.RowKit
set_option maxRecDepth 100000
def repE (l : List Int) (t : Int) : Int := firstI [looseI l, rangeI t 1 15, whenI (decide ((l.length : Int) > 16)) 5]
theorem F64_eq (l : List Int) (hl : l.length ≤ 300) (t : Int) : F64 l.length (l.map vI) t = some (repE l t) := by
 unfold F64; rw [res_eq]
 simp only [B64, F56_eq l hl, sem_bind_some, sem_sees, F54_eq, F25_eq, F87_3, sem_ret, stepO_ret]
 rfl
theorem F86c_eq (l : List Int) (hl : l.length ≤ 300) : F86c l.length (l.map vI) = some (l.length, l.map vI) := by
 unfold F86c
 rw [if_pos ⟨by simp, fits_1 (by omega)⟩]
theorem F60_loop (l : List Int) (hl : l.length ≤ 300) (t : Nat) (ht : t ≤ 15) : ∀ (m i : Nat), t = i + m → 0 < i →
  res B60 (.c2 l.length (l.map vI) (i - 1) i (List.replicate i (rD l)) (t : Int) (i : Int) (i - 1)) = some (t, List.replicate t (rD l), 0) := by
 intro m
 induction m with
 | zero =>
  intro i h h0
  obtain rfl : t = i := by omega
  rw [res_eq]
  have h1 : ¬ ((t : Int) < (t : Int)) := by omega
  simp only [B60, sem_br, h1, decide_false, Bool.false_eq_true, if_false, sem_ret, stepO_ret]
 | succ m ih =>
  intro i h h0
  have h1 : (i : Int) < (t : Int) := by omega
  have hin : inI64 (((i + 1 : Nat)) : Int) := by unfold inI64; omega
  have h12 : (i : Int) + 1 = ((i + 1 : Nat) : Int) := by omega
  have hf : fitsN (i + 1) 24 := ⟨by omega, by omega⟩
  have ih' := ih (i + 1) (by omega) (by omega)
  rw [res_eq]
  simp only [B60, sem_br, h1, decide_true, if_true, F86c_eq l hl, sem_bind_some, sem_sees, sem_ask, need_true, PC.holds, hf, h12, hin, sem_nxt, stepO_nxt]
  rw [List.replicate_succ'] at ih'
  rw [show i - 1 + 1 = i + 1 - 1 by omega]
  exact ih'
theorem F60_eq (l : List Int) (hl : l.length ≤ 300) (t : Int) : F60 l.length (l.map vI) t = some (if repE l t = 0 then (t.toNat, List.replicate t.toNat (rD l), 0) else (0, [], repE l t)) := by
 have hp : firstI [looseI l, rangeI t 1 15, whenI (decide ((l.length : Int) > 16)) 5] = repE l t := rfl
 unfold F60; rw [res_eq]
 simp only [B60, F105_eq l hl, sem_bind_some, sem_sees, F91_eq, F83_eq, F82_3, hp, sem_br]
 by_cases h : repE l t = 0
 ·have hb : (repE l t != 0) = false := by rw [h]; rfl
  have hr : 1 ≤ t ∧ t ≤ 15 := by
   unfold repE at h
   rw [firstI_zero, firstI_zero, rangeI_zero] at h
   exact h.2.1
  obtain ⟨n, rfl⟩ := Int.eq_ofNat_of_zero_le (by omega : 0 ≤ t)
  rw [if_pos h]
  simp only [hb, Bool.false_eq_true, if_false, sem_nxt, stepO_nxt]
  rw [res_eq]
  have h1 : (0 : Int) < (n : Int) := by omega
  have hin : inI64 ((0 : Int) + 1) := by unfold inI64; omega
  simp only [B60, sem_br, h1, decide_true, if_true, F86c_eq l hl, sem_bind_some, sem_sees, sem_ask, need_true, PC.holds, hin, sem_nxt, stepO_nxt, Int.toNat_natCast]
  exact F60_loop l hl n (by omega) (n - 1) 1 (by omega) (by omega)
 ·have hb : (repE l t != 0) = true := by simpa using h
  rw [if_neg h]
  simp only [hb, if_true, sem_ret, stepO_ret]
theorem F30_loop (a b : List Int) (hl : a.length ≤ 1000) (he : a.length = b.length) : ∀ (m i : Nat), a.length = i + m → res B30 (.c1 a.length (a.map vI) b.length (b.map vI) (i : Int)) = some (decide (a.drop i = b.drop i)) := by
 intro m
 induction m with
 | zero =>
  intro i h
  rw [res_eq, List.drop_eq_nil_of_le (by omega), List.drop_eq_nil_of_le (by omega)]
  have h1 : ¬ ((i : Int) < (a.length : Int)) := by omega
  simp only [B30, sem_br, h1, decide_false, Bool.false_eq_true, if_false, sem_ret, stepO_ret]
  simp
 | succ m ih =>
  intro i h
  have hi : i < a.length := by omega
  have hj : i < b.length := by omega
  have g1 := at_map hi
  have g2 := at_map hj
  have h1 : (i : Int) < (a.length : Int) := by omega
  have h2 : (i : Int) < (b.length : Int) := by omega
  have h4 : 0 ≤ (i : Int) := by omega
  have h3 : inI64 (((i + 1 : Nat)) : Int) := by unfold inI64; omega
  have h12 : (i : Int) + 1 = ((i + 1 : Nat) : Int) := by omega
  rw [res_eq, dropD 0 hi, dropD 0 hj]
  by_cases hz : a.getD i 0 = b.getD i 0
  ·have h5 : (a.getD i 0 != b.getD i 0) = false := by rw [hz]; simp
   simp only [B30, sem_br, h1, h2, decide_true, if_true, sem_ask, need_true, PC.holds, h4, Int.toNat_natCast, Nat.mul_one, dI_cel_map, g1, g2, sem_nxt, h5, h12, h3, Bool.false_eq_true, if_false]
   rw [need_of (by simp; omega), need_of (by simp; omega), stepO_nxt, ih (i + 1) (by omega)]
   congr 1
   exact decide_eq_decide.2 ⟨fun e => by rw [hz, e], fun e => (List.cons.inj e).2⟩
  ·have h5 : (a.getD i 0 != b.getD i 0) = true := by simpa using hz
   simp only [B30, sem_br, h1, h2, decide_true, if_true, sem_ask, need_true, PC.holds, h4, Int.toNat_natCast, Nat.mul_one, dI_cel_map, g1, g2, sem_ret, h5]
   rw [need_of (by simp; omega), need_of (by simp; omega), stepO_ret]
   congr 1
   exact (decide_eq_false fun e => hz (List.cons.inj e).1).symm
theorem F30_eq (a b : List Int) (hl : a.length ≤ 1000) : F30 a.length (a.map vI) b.length (b.map vI) = some (decide (a = b)) := by
 unfold F30; rw [res_eq]
 by_cases he : a.length = b.length
 ·have hb : ((a.length : Int) != (b.length : Int)) = false := by rw [he]; simp
  simp only [B30, sem_br, hb, Bool.false_eq_true, if_false, sem_nxt, stepO_nxt]
  have h := F30_loop a b hl he a.length 0 (by omega)
  rw [List.drop_zero, List.drop_zero] at h
  exact h
 ·have hb : ((a.length : Int) != (b.length : Int)) = true := by rw [bne_iff_ne]; omega
  simp only [B30, sem_br, hb, if_true, sem_ret, stepO_ret]
  congr 1
  exact (decide_eq_false fun e => he (by rw [e])).symm
end Go.Kv
namespace Go.Kv
open Go Go.RowKit
set_option maxRecDepth 100000
theorem F50_loop (R : List (List Int)) (hm : R.length ≤ 300) (hL : ∀ r ∈ R, r.length ≤ 1000) : ∀ (m i : Nat), R.length = i + m → res B50 (.c1 R.length (R.map rD) R.length (R.map rD) (i : Int)) = some true := by
 intro m
 induction m with
 | zero =>
  intro i h
  rw [res_eq]
  have h1 : ¬ ((i : Int) < (R.length : Int)) := by omega
  simp only [B50, sem_br, h1, decide_false, Bool.false_eq_true, if_false, sem_ret, stepO_ret]
 | succ m ih =>
  intro i h
  have hi : i < R.length := by omega
  obtain ⟨g1, g2⟩ := celR R hi
  have g3 := at_mapR hi
  have h1 : (i : Int) < (R.length : Int) := by omega
  have h4 : 0 ≤ (i : Int) := by omega
  have h3 : inI64 (((i + 1 : Nat)) : Int) := by unfold inI64; omega
  have h12 : (i : Int) + 1 = ((i + 1 : Nat) : Int) := by omega
  have hs := F30_eq (R.getD i []) (R.getD i []) (hL _ (by rw [List.getD_eq_getElem?_getD, List.getElem?_eq_getElem hi]; simp))
  rw [decide_eq_true rfl] at hs
  rw [res_eq]
  simp only [B50, sem_br, h1, decide_true, if_true, Int.toNat_natCast, Nat.mul_one, g1, g2, g3, hs, sem_bind_some, sem_sees, sem_ask, need_true, PC.holds, h4, Bool.not_true, Bool.false_eq_true, if_false, h12, h3, sem_nxt]
  rw [need_of (by simp; omega), need_of (by simp; omega), stepO_nxt, ih (i + 1) (by omega)]
theorem F50_refl (R : List (List Int)) (hm : R.length ≤ 300) (hL : ∀ r ∈ R, r.length ≤ 1000) : F50 R.length (R.map rD) R.length (R.map rD) = some true := by
 unfold F50; rw [res_eq]
 simp only [B50, sem_br, bne_self_eq_false, Bool.false_eq_true, if_false, sem_nxt, stepO_nxt]
 exact F50_loop R hm hL R.length 0 (by omega)
theorem isB_all : ∀ b : List Int, okB b → (b.map v8).all isB = true
 | [], _ => rfl
 | x :: b, h => by
  have hx := h x (by simp)
  rw [List.map_cons, List.all_cons, isB_all b fun y hy => h y (by simp [hy]), Bool.and_true]
  rfl
theorem F69_refl (b : List Int) (h : okB b) : F69 b.length (b.map v8) b.length (b.map v8) = some true := by
 unfold F69; rw [res_eq]
 simp only [B69, sem_ask, PC.holds, List.length_map, isB_all b h, need_true, sem_ret, stepO_ret]
 congr 1
 unfold eqS
 simp
def mxF : List Int → Int → Int
 | [], m => m
 | x :: l, m => mxF l (if x > m then x else m)
theorem F145_loop (l : List Int) (hl : l.length ≤ 300) : ∀ (m i : Nat) (a : Int), l.length = i + m → res B145 (.c1 l.length (l.map vI) a (i : Int)) = some (mxF (l.drop i) a) := by
 intro m
 induction m with
 | zero =>
  intro i a h
  rw [res_eq, List.drop_eq_nil_of_le (by omega)]
  have h1 : ¬ ((i : Int) < (l.length : Int)) := by omega
  simp only [B145, sem_br, h1, decide_false, Bool.false_eq_true, if_false, sem_ret, stepO_ret]
  rfl
 | succ m ih =>
  intro i a h
  have hi : i < l.length := by omega
  have g1 := at_map hi
  have h1 : (i : Int) < (l.length : Int) := by omega
  have h4 : 0 ≤ (i : Int) := by omega
  have h3 : inI64 (((i + 1 : Nat)) : Int) := by unfold inI64; omega
  have h12 : (i : Int) + 1 = ((i + 1 : Nat) : Int) := by omega
  rw [res_eq, dropD 0 hi]
  simp only [B145, sem_br, h1, decide_true, if_true, sem_ask, need_true, PC.holds, h4, Int.toNat_natCast, Nat.mul_one, dI_cel_map, g1, sem_nxt, h12, h3]
  rw [need_of (by simp; omega), stepO_nxt, ih (i + 1) _ (by omega)]
  rfl
theorem F145_eq (x : Int) (l : List Int) (hl : l.length < 300) : F145 (l.length + 1) ((x :: l).map vI) = some (mxF l x) := by
 unfold F145; rw [res_eq]
 have hl2 : (x :: l).length ≤ 300 := by simp; omega
 have g1 := at_map (l := x :: l) (i := 0) (by simp)
 have h := F145_loop (x :: l) hl2 l.length 1 x (by simp; omega)
 have e1 : decide (((l.length + 1 : Nat) : Int) < 1) = false := decide_eq_false (by omega)
 have e2 : (0 : Int) < ((l.length + 1 : Nat) : Int) := by omega
 have e3 : dI (cel ((x :: l).map vI) 0) = x := rfl
 simp only [B145, sem_ask, PC.holds, e1, e2, e3, need_true, sem_nxt]
 rw [need_of (Nat.zero_le _), need_of (by rfl), stepO_nxt]
 exact h
end Go.Kv
