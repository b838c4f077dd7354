/- What the clocks' functions come to, in plain Lean. -/
import Derived.Test.YtalhonodbajndaaDoorG5
namespace Go.Kv
set_option linter.unusedVariables false
set_option linter.unusedSimpArgs false
open Go Go.RowKit
def firstI : List Int → Int
  | [] => 0
  | x :: xs => if x = 0 then firstI xs else x
def whenI (b : Bool) (e : Int) : Int := if b then e else 0
def rangeI (n a b : Int) : Int := if n < a ∨ n > b then 3 else 0

theorem dI_cel_map (l : List Int) (i : Nat) : dI (cel (l.map vI) i) = l.getD i 0 := by
  unfold cel
  simp only [List.getD_eq_getElem?_getD, List.getElem?_map]
  cases l[i]? <;> rfl
theorem at_map {l : List Int} {i : Nat} (h : i < l.length) : Option.map AV.d (List.drop i (l.map vI))[0]? = some (AV.d (vI (l.getD i 0))) := by
  simp [List.getElem?_drop, h, List.getD_eq_getElem?_getD]
theorem firstI_drop {l : List Int} {i : Nat} (h : i < l.length) : firstI (l.drop i) = if l.getD i 0 = 0 then firstI (l.drop (i + 1)) else l.getD i 0 := by
  rw [List.drop_eq_getElem_cons h]
  simp [firstI, List.getD_eq_getElem?_getD, h]

theorem F35_loop (l : List Int) (hl : l.length ≤ 4611686018427387904) : ∀ (k i : Nat), l.length = i + k → res B35 (.c1 l.length (l.map vI) (l.length : Int) (i : Int)) = some (firstI (l.drop i))
  | 0, i, hk => by
    rw [List.drop_eq_nil_of_le (by omega), res_eq]
    have : ¬ ((i : Int) < (l.length : Int)) := by omega
    simp [B35, sem_br, sem_ret, this, stepO_ret, stepO_nxt, firstI]
  | k + 1, i, hk => by
    have hi : i < l.length := by omega
    have h1 : (i : Int) < (l.length : Int) := by omega
    have ih := F35_loop l hl k (i + 1) (by omega)
    have hin : inI64 ((i : Int) + 1) := by unfold inI64; omega
    rw [firstI_drop hi, res_eq]
    simp only [B35, sem_br, sem_ask, sem_ret, sem_nxt, PC.holds, need_true, Int.toNat_natCast, Nat.mul_one, dI_cel_map, at_map hi, h1, hin, decide_true, if_true, Int.natCast_nonneg, List.length_map, Nat.le_of_lt hi]
    by_cases h0 : l.getD i 0 = 0
    · simp only [h0, bne_self_eq_false, if_true, Bool.false_eq_true, if_false, stepO_ret, stepO_nxt]
      rw [← ih]; rfl
    · simp only [h0, if_false, bne_iff_ne, ne_eq, not_false_eq_true, if_true, stepO_ret, stepO_nxt]
theorem F35_eq (l : List Int) (hl : l.length ≤ 4611686018427387904) : F35 l.length (l.map vI) = some (firstI l) := by
  unfold F35
  rw [res_eq]
  simp only [B35, sem_nxt, stepO_nxt]
  exact F35_loop l hl l.length 0 (by omega)

theorem F25_loop (l : List Int) (hl : l.length ≤ 4611686018427387904) : ∀ (k i : Nat), l.length = i + k → res B25 (.c1 l.length (l.map vI) (i : Int)) = some (firstI (l.drop i))
  | 0, i, hk => by
    rw [List.drop_eq_nil_of_le (by omega), res_eq]
    have : ¬ ((i : Int) < (l.length : Int)) := by omega
    simp [B25, sem_br, sem_ret, this, stepO_ret, stepO_nxt, firstI]
  | k + 1, i, hk => by
    have hi : i < l.length := by omega
    have h1 : (i : Int) < (l.length : Int) := by omega
    have ih := F25_loop l hl k (i + 1) (by omega)
    have hin : inI64 ((i : Int) + 1) := by unfold inI64; omega
    rw [firstI_drop hi, res_eq]
    simp only [B25, sem_br, sem_ask, sem_ret, sem_nxt, PC.holds, need_true, Int.toNat_natCast, Nat.mul_one, dI_cel_map, at_map hi, h1, hin, decide_true, if_true, Int.natCast_nonneg, List.length_map, Nat.le_of_lt hi]
    by_cases h0 : l.getD i 0 = 0
    · simp only [h0, bne_self_eq_false, if_true, Bool.false_eq_true, if_false, stepO_ret, stepO_nxt]
      rw [← ih]; rfl
    · simp only [h0, if_false, bne_iff_ne, ne_eq, not_false_eq_true, if_true]
      rfl
theorem F25_eq (l : List Int) (hl : l.length ≤ 4611686018427387904) : F25 l.length (l.map vI) = some (firstI l) := by
  unfold F25
  rw [res_eq]
  simp only [B25, sem_nxt, stepO_ret, stepO_nxt]
  exact F25_loop l hl l.length 0 (by omega)
theorem F35_2 (a b : Int) : F35 2 [vI a, vI b] = some (firstI [a, b]) := F35_eq [a, b] (by simp)
theorem F35_3 (a b c : Int) : F35 3 [vI a, vI b, vI c] = some (firstI [a, b, c]) := F35_eq [a, b, c] (by simp)
theorem F35_4 (a b c d : Int) : F35 4 [vI a, vI b, vI c, vI d] = some (firstI [a, b, c, d]) := F35_eq [a, b, c, d] (by simp)
theorem F25_2 (a b : Int) : F25 2 [vI a, vI b] = some (firstI [a, b]) := F25_eq [a, b] (by simp)
theorem F25_3 (a b c : Int) : F25 3 [vI a, vI b, vI c] = some (firstI [a, b, c]) := F25_eq [a, b, c] (by simp)
theorem F25_4 (a b c d : Int) : F25 4 [vI a, vI b, vI c, vI d] = some (firstI [a, b, c, d]) := F25_eq [a, b, c, d] (by simp)
theorem F38_eq (b : Bool) (e : Int) : F38 b e = some (whenI b e) := by
  unfold F38; rw [res_eq]; cases b <;> simp [B38, sem_br, sem_ret, stepO_ret, stepO_nxt, whenI]
theorem F56_eq (b : Bool) (e : Int) : F56 b e = some (whenI b e) := by
  unfold F56; rw [res_eq]; cases b <;> simp [B56, sem_br, sem_ret, stepO_ret, stepO_nxt, whenI]
theorem whenI_or (n a b e : Int) : whenI (if decide (n < a) = true then true else decide (n > b)) e = if n < a ∨ n > b then e else 0 := by
  unfold whenI
  by_cases h1 : n < a <;> by_cases h2 : n > b <;> simp [h1, h2]
theorem F49_eq (n a b : Int) : F49 n a b = some (rangeI n a b) := by
  unfold F49; rw [res_eq]
  simp only [B49, sem_triv, F38_eq, sem_bind_some, sem_sees, sem_ret, stepO_ret, stepO_nxt, whenI_or, rangeI]
theorem F26_eq (n a b : Int) : F26 n a b = some (rangeI n a b) := by
  unfold F26; rw [res_eq]
  simp only [B26, sem_triv, F56_eq, sem_bind_some, sem_sees, sem_ret, stepO_ret, stepO_nxt, whenI_or, rangeI]
def offI (n : Int) : Int := if n < -1000000 ∨ n > 1000000 then 4 else 0
theorem F52_eq (n : Int) : F52 n = some (offI n) := by
  unfold F52; rw [res_eq]
  simp only [B52, sem_triv, F38_eq, sem_bind_some, sem_sees, sem_ret, stepO_ret, stepO_nxt, whenI_or, offI]
def clockI (a b c d : Int) : Int := firstI [rangeI a 0 100000000, rangeI b (-1000000) 1000000, rangeI c (-1000) 1000, rangeI d 2 1000]
theorem F53_eq (a b c d : Int) : F53 a b c d = some (clockI a b c d) := by
  unfold F53; rw [res_eq]
  simp only [B53, F49_eq, F35_4, sem_bind_some, sem_sees, sem_ret, stepO_ret, stepO_nxt, clockI]
theorem F20_eq (a b c d : Int) : F20 a b c d = some (clockI a b c d) := by
  unfold F20; rw [res_eq]
  simp only [B20, F26_eq, F25_4, sem_bind_some, sem_sees, sem_ret, stepO_ret, stepO_nxt, clockI]
def tickI (a b c d t : Int) : Int := firstI [clockI a b c d, rangeI t 0 100000000, whenI (decide (t < a)) 11]
theorem F50_eq (a b c d t : Int) : F50 a b c d t = some (tickI a b c d t) := by
  unfold F50; rw [res_eq]
  simp only [B50, F53_eq, F49_eq, F38_eq, F35_3, sem_bind_some, sem_sees, sem_ret, stepO_ret, stepO_nxt, tickI]
theorem firstI_zero (x : Int) (l : List Int) : firstI (x :: l) = 0 ↔ x = 0 ∧ firstI l = 0 := by
  show (if x = 0 then firstI l else x) = 0 ↔ _
  by_cases h : x = 0 <;> simp [h]
theorem rangeI_zero {n a b : Int} : rangeI n a b = 0 ↔ a ≤ n ∧ n ≤ b := by
  unfold rangeI; split <;> omega
theorem offI_zero {n : Int} : offI n = 0 ↔ -1000000 ≤ n ∧ n ≤ 1000000 := by
  unfold offI; split <;> omega
theorem tickI_zero {a b c d t : Int} : tickI a b c d t = 0 ↔ (0 ≤ a ∧ a ≤ 100000000) ∧ (-1000000 ≤ b ∧ b ≤ 1000000) ∧ (-1000 ≤ c ∧ c ≤ 1000) ∧ (2 ≤ d ∧ d ≤ 1000) ∧ (0 ≤ t ∧ t ≤ 100000000) ∧ a ≤ t := by
  unfold tickI clockI
  simp only [firstI_zero, rangeI_zero, show firstI [] = 0 from rfl, and_true, whenI]
  by_cases h : t < a <;> simp [h] <;> omega
theorem quot {a d t : Int} (ha : 0 ≤ a) (hd : 2 ≤ d) (ht : t ≤ 100000000) (h : a ≤ t) : 0 ≤ (t - a).tdiv d ∧ (t - a).tdiv d ≤ 100000000 := by
  rw [Int.tdiv_eq_ediv_of_nonneg (by omega)]
  refine ⟨Int.ediv_nonneg (by omega) (by omega), ?_⟩
  have := Int.ediv_le_self d (show 0 ≤ t - a by omega)
  omega
def timeI (a b c d t : Int) : Int := if c < 0 then t + b - (if (t - a).tdiv d < 0 - c then (t - a).tdiv d else 0 - c) else t + b + (if (t - a).tdiv d < c then (t - a).tdiv d else c)
theorem F51_eq {a b c d t : Int} (h : tickI a b c d t = 0) : F51 a b c d t = some (timeI a b c d t) := by
  obtain ⟨⟨h1, h2⟩, ⟨h3, h4⟩, ⟨h5, h6⟩, ⟨h7, h8⟩, ⟨h9, h10⟩, h11⟩ := tickI_zero.1 h
  obtain ⟨q1, q2⟩ := quot h1 h7 h10 h11
  unfold F51 timeI; rw [res_eq]
  generalize hq : (t - a).tdiv d = q at q1 q2
  generalize hM : (if -c > c then -c else c) = M
  have hM1 : M = (if c < 0 then 0 - c else c) := by rw [← hM]; split <;> split <;> omega
  have e1 : inI64 (t - a) := by unfold inI64; omega
  have e2 : d ≠ 0 := by omega
  have e3 : inI64 q := by unfold inI64; omega
  have e4 : inI64 (t + b) := by unfold inI64; omega
  have e5 : inI64 (-c) := by unfold inI64; omega
  by_cases hc : c < 0
  · have hM2 : M = 0 - c := by rw [hM1, if_pos hc]
    have e6 : inI64 (-if M < q then M else q) := by unfold inI64; split <;> omega
    have e7 : inI64 (t + b + -if M < q then M else q) := by unfold inI64; split <;> omega
    simp only [B51, sem_ask, sem_br, sem_ret, PC.holds, need_true, hq, hM, e1, e2, e3, e4, e5, e6, e7, hc, ne_eq, not_false_eq_true, if_true, decide_true, stepO_ret, stepO_nxt, Option.some.injEq]
    rw [hM2]; split <;> split <;> omega
  · have hM2 : M = c := by rw [hM1, if_neg hc]
    have e7 : inI64 (t + b + if M < q then M else q) := by unfold inI64; split <;> omega
    simp only [B51, sem_ask, sem_br, sem_ret, PC.holds, need_true, hq, hM, e1, e2, e3, e4, e5, e7, hc, ne_eq, not_false_eq_true, if_true, if_false, decide_false, Bool.false_eq_true, stepO_ret, stepO_nxt, Option.some.injEq]
    rw [hM2]; split <;> split <;> omega
theorem timeI_bd {a b c d t : Int} (h : tickI a b c d t = 0) : -2000000 ≤ timeI a b c d t ∧ timeI a b c d t ≤ 300000000 := by
  obtain ⟨⟨h1, h2⟩, ⟨h3, h4⟩, ⟨h5, h6⟩, ⟨h7, h8⟩, ⟨h9, h10⟩, h11⟩ := tickI_zero.1 h
  obtain ⟨q1, q2⟩ := quot h1 h7 h10 h11
  unfold timeI
  generalize (t - a).tdiv d = q at q1 q2
  split <;> split <;> omega
theorem F22_eq (a b c d t : Int) : F22 a b c d t = some (if tickI a b c d t = 0 then (timeI a b c d t, 0) else (0, tickI a b c d t)) := by
  unfold F22; rw [res_eq]
  by_cases h : tickI a b c d t = 0
  · simp only [B22, F50_eq, F51_eq h, h, sem_bind_some, sem_sees, sem_br, sem_ret, stepO_ret, stepO_nxt, bne_self_eq_false, Bool.false_eq_true, if_false, if_true]
  · simp [B22, F50_eq, h, sem_bind_some, sem_sees, sem_br, sem_ret, stepO_ret, stepO_nxt]
def setE (a b c d t u : Int) : Int := firstI [tickI a b c d t, rangeI u 0 200000000]
theorem setE_zero {a b c d t u : Int} : setE a b c d t u = 0 ↔ tickI a b c d t = 0 ∧ 0 ≤ u ∧ u ≤ 200000000 := by
  unfold setE; simp only [firstI_zero, rangeI_zero, show firstI [] = 0 from rfl, and_true]
theorem F24_eq (a b c d t u : Int) : F24 a b c d t u = some (if setE a b c d t u = 0 then (if offI (u - t) = 0 then (t, u - t, d, u - timeI a b c d t, 0) else (0, 0, 0, 0, 4)) else (0, 0, 0, 0, setE a b c d t u)) := by
  unfold F24; rw [res_eq]
  have hs : firstI [tickI a b c d t, rangeI u 0 200000000] = setE a b c d t u := rfl
  by_cases h : setE a b c d t u = 0
  · obtain ⟨ht, hu1, hu2⟩ := setE_zero.1 h
    obtain ⟨⟨h1, h2⟩, ⟨h3, h4⟩, ⟨h5, h6⟩, ⟨h7, h8⟩, ⟨h9, h10⟩, h11⟩ := tickI_zero.1 ht
    have hb := timeI_bd ht
    have e1 : inI64 (u - t) := by unfold inI64; omega
    have e2 : inI64 (u - timeI a b c d t) := by unfold inI64; omega
    rw [if_pos h]
    by_cases h0 : offI (u - t) = 0
    · simp only [B24, F50_eq, F49_eq, F35_2, F52_eq, F51_eq ht, hs, h, h0, e1, e2, sem_bind_some, sem_sees, sem_ask, sem_br, sem_ret, PC.holds, need_true, stepO_ret, stepO_nxt, bne_self_eq_false, Bool.false_eq_true, if_false, if_true]
    · have h4 : offI (u - t) = 4 := by unfold offI at h0 ⊢; split <;> simp_all
      simp [B24, F50_eq, F49_eq, F35_2, F52_eq, hs, h, h4, e1, sem_bind_some, sem_sees, sem_ask, sem_br, sem_ret, PC.holds, need_true, stepO_ret, stepO_nxt]
  · simp [B24, F50_eq, F49_eq, F35_2, hs, h, sem_bind_some, sem_sees, sem_ask, sem_br, sem_ret, PC.holds, need_true, stepO_ret, stepO_nxt]
def slewE (a b c d t y e : Int) : Int := firstI [tickI a b c d t, rangeI y (-1000) 1000, rangeI e 2 1000]
theorem slewE_zero {a b c d t y e : Int} : slewE a b c d t y e = 0 ↔ tickI a b c d t = 0 ∧ (-1000 ≤ y ∧ y ≤ 1000) ∧ 2 ≤ e ∧ e ≤ 1000 := by
  unfold slewE; simp only [firstI_zero, rangeI_zero, show firstI [] = 0 from rfl, and_true]
theorem F21_eq (a b c d t y e : Int) : F21 a b c d t y e = some (if slewE a b c d t y e = 0 then (if offI (timeI a b c d t - t) = 0 then (t, timeI a b c d t - t, y, e, 0) else (0, 0, 0, 0, 4)) else (0, 0, 0, 0, slewE a b c d t y e)) := by
  unfold F21; rw [res_eq]
  have hs : firstI [tickI a b c d t, rangeI y (-1000) 1000, rangeI e 2 1000] = slewE a b c d t y e := rfl
  by_cases h : slewE a b c d t y e = 0
  · obtain ⟨ht, _⟩ := slewE_zero.1 h
    obtain ⟨⟨h1, h2⟩, ⟨h3, h4⟩, ⟨h5, h6⟩, ⟨h7, h8⟩, ⟨h9, h10⟩, h11⟩ := tickI_zero.1 ht
    have hb := timeI_bd ht
    have e1 : inI64 (timeI a b c d t - t) := by unfold inI64; omega
    rw [if_pos h]
    by_cases h0 : offI (timeI a b c d t - t) = 0
    · simp only [B21, F50_eq, F49_eq, F35_3, F52_eq, F51_eq ht, hs, h, h0, e1, sem_bind_some, sem_sees, sem_ask, sem_br, sem_ret, PC.holds, need_true, stepO_ret, stepO_nxt, bne_self_eq_false, Bool.false_eq_true, if_false, if_true]
    · have h4 : offI (timeI a b c d t - t) = 4 := by unfold offI at h0 ⊢; split <;> simp_all
      simp [B21, F50_eq, F49_eq, F35_3, F52_eq, F51_eq ht, hs, h, h4, e1, sem_bind_some, sem_sees, sem_ask, sem_br, sem_ret, PC.holds, need_true, stepO_ret, stepO_nxt]
  · simp [B21, F50_eq, F49_eq, F35_3, hs, h, sem_bind_some, sem_sees, sem_ask, sem_br, sem_ret, PC.holds, need_true, stepO_ret, stepO_nxt]

theorem tick_cases {a b c d t u : Int} (h : tickI a b c d t ≠ 0) : setE a b c d t u = tickI a b c d t := by
  unfold setE; show (if tickI a b c d t = 0 then _ else tickI a b c d t) = _; rw [if_neg h]
theorem slew_cases {a b c d t y e : Int} (h : tickI a b c d t ≠ 0) : slewE a b c d t y e = tickI a b c d t := by
  unfold slewE; show (if tickI a b c d t = 0 then _ else tickI a b c d t) = _; rw [if_neg h]
end Go.Kv
