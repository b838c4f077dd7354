/- What the clocks' functions come to, in plain Lean. -/
import Derived.Test.YtalhonodbajndaaGreatDoorG7
namespace Go.Kv
set_option linter.unusedVariables false
set_option linter.unusedSimpArgs false
open Go Go.RowKit
def firstI : List Int → Int
  | [] => 0
  | x :: xs => if x = 0 then firstI xs else x
def whenI (b : Bool) (e : Int) : Int := if b then e else 0
def rangeI (n a b : Int) : Int := if n < a ∨ n > b then 3 else 0

theorem dI_cel_map (l : List Int) (i : Nat) : dI (cel (l.map vI) i) = l.getD i 0 := by
  unfold cel
  simp only [List.getD_eq_getElem?_getD, List.getElem?_map]
  cases l[i]? <;> rfl
theorem at_map {l : List Int} {i : Nat} (h : i < l.length) : Option.map AV.d (List.drop i (l.map vI))[0]? = some (AV.d (vI (l.getD i 0))) := by
  simp [List.getElem?_drop, h, List.getD_eq_getElem?_getD]
theorem firstI_drop {l : List Int} {i : Nat} (h : i < l.length) : firstI (l.drop i) = if l.getD i 0 = 0 then firstI (l.drop (i + 1)) else l.getD i 0 := by
  rw [List.drop_eq_getElem_cons h]
  simp [firstI, List.getD_eq_getElem?_getD, h]

theorem F75_loop (l : List Int) (hl : l.length ≤ 4611686018427387904) : ∀ (k i : Nat), l.length = i + k → res B75 (.c1 l.length (l.map vI) (l.length : Int) (i : Int)) = some (firstI (l.drop i))
  | 0, i, hk => by
    rw [List.drop_eq_nil_of_le (by omega), res_eq]
    have : ¬ ((i : Int) < (l.length : Int)) := by omega
    simp [B75, sem_br, sem_ret, this, stepO_ret, stepO_nxt, firstI]
  | k + 1, i, hk => by
    have hi : i < l.length := by omega
    have h1 : (i : Int) < (l.length : Int) := by omega
    have ih := F75_loop l hl k (i + 1) (by omega)
    have hin : inI64 ((i : Int) + 1) := by unfold inI64; omega
    rw [firstI_drop hi, res_eq]
    simp only [B75, sem_br, sem_ask, sem_ret, sem_nxt, PC.holds, need_true, Int.toNat_natCast, Nat.mul_one, dI_cel_map, at_map hi, h1, hin, decide_true, if_true, Int.natCast_nonneg, List.length_map, Nat.le_of_lt hi]
    by_cases h0 : l.getD i 0 = 0
    · simp only [h0, bne_self_eq_false, if_true, Bool.false_eq_true, if_false, stepO_ret, stepO_nxt]
      rw [← ih]; rfl
    · simp only [h0, if_false, bne_iff_ne, ne_eq, not_false_eq_true, if_true, stepO_ret, stepO_nxt]
theorem F75_eq (l : List Int) (hl : l.length ≤ 4611686018427387904) : F75 l.length (l.map vI) = some (firstI l) := by
  unfold F75
  rw [res_eq]
  simp only [B75, sem_nxt, stepO_nxt]
  exact F75_loop l hl l.length 0 (by omega)

theorem F24_loop (l : List Int) (hl : l.length ≤ 4611686018427387904) : ∀ (k i : Nat), l.length = i + k → res B24 (.c1 l.length (l.map vI) (i : Int)) = some (firstI (l.drop i))
  | 0, i, hk => by
    rw [List.drop_eq_nil_of_le (by omega), res_eq]
    have : ¬ ((i : Int) < (l.length : Int)) := by omega
    simp [B24, sem_br, sem_ret, this, stepO_ret, stepO_nxt, firstI]
  | k + 1, i, hk => by
    have hi : i < l.length := by omega
    have h1 : (i : Int) < (l.length : Int) := by omega
    have ih := F24_loop l hl k (i + 1) (by omega)
    have hin : inI64 ((i : Int) + 1) := by unfold inI64; omega
    rw [firstI_drop hi, res_eq]
    simp only [B24, sem_br, sem_ask, sem_ret, sem_nxt, PC.holds, need_true, Int.toNat_natCast, Nat.mul_one, dI_cel_map, at_map hi, h1, hin, decide_true, if_true, Int.natCast_nonneg, List.length_map, Nat.le_of_lt hi]
    by_cases h0 : l.getD i 0 = 0
    · simp only [h0, bne_self_eq_false, if_true, Bool.false_eq_true, if_false, stepO_ret, stepO_nxt]
      rw [← ih]; rfl
    · simp only [h0, if_false, bne_iff_ne, ne_eq, not_false_eq_true, if_true]
      rfl
theorem F24_eq (l : List Int) (hl : l.length ≤ 4611686018427387904) : F24 l.length (l.map vI) = some (firstI l) := by
  unfold F24
  rw [res_eq]
  simp only [B24, sem_nxt, stepO_ret, stepO_nxt]
  exact F24_loop l hl l.length 0 (by omega)
theorem F75_2 (a b : Int) : F75 2 [vI a, vI b] = some (firstI [a, b]) := F75_eq [a, b] (by simp)
theorem F75_3 (a b c : Int) : F75 3 [vI a, vI b, vI c] = some (firstI [a, b, c]) := F75_eq [a, b, c] (by simp)
theorem F75_4 (a b c d : Int) : F75 4 [vI a, vI b, vI c, vI d] = some (firstI [a, b, c, d]) := F75_eq [a, b, c, d] (by simp)
theorem F24_2 (a b : Int) : F24 2 [vI a, vI b] = some (firstI [a, b]) := F24_eq [a, b] (by simp)
theorem F24_3 (a b c : Int) : F24 3 [vI a, vI b, vI c] = some (firstI [a, b, c]) := F24_eq [a, b, c] (by simp)
theorem F24_4 (a b c d : Int) : F24 4 [vI a, vI b, vI c, vI d] = some (firstI [a, b, c, d]) := F24_eq [a, b, c, d] (by simp)
theorem F77_eq (b : Bool) (e : Int) : F77 b e = some (whenI b e) := by
  unfold F77; rw [res_eq]; cases b <;> simp [B77, sem_br, sem_ret, stepO_ret, stepO_nxt, whenI]
theorem F82_eq (b : Bool) (e : Int) : F82 b e = some (whenI b e) := by
  unfold F82; rw [res_eq]; cases b <;> simp [B82, sem_br, sem_ret, stepO_ret, stepO_nxt, whenI]
theorem whenI_or (n a b e : Int) : whenI (if decide (n < a) = true then true else decide (n > b)) e = if n < a ∨ n > b then e else 0 := by
  unfold whenI
  by_cases h1 : n < a <;> by_cases h2 : n > b <;> simp [h1, h2]
theorem F89_eq (n a b : Int) : F89 n a b = some (rangeI n a b) := by
  unfold F89; rw [res_eq]
  simp only [B89, sem_triv, F77_eq, sem_bind_some, sem_sees, sem_ret, stepO_ret, stepO_nxt, whenI_or, rangeI]
theorem F34_eq (n a b : Int) : F34 n a b = some (rangeI n a b) := by
  unfold F34; rw [res_eq]
  simp only [B34, sem_triv, F82_eq, sem_bind_some, sem_sees, sem_ret, stepO_ret, stepO_nxt, whenI_or, rangeI]
def offI (n : Int) : Int := if n < -1000000 ∨ n > 1000000 then 4 else 0
theorem F96_eq (n : Int) : F96 n = some (offI n) := by
  unfold F96; rw [res_eq]
  simp only [B96, sem_triv, F77_eq, sem_bind_some, sem_sees, sem_ret, stepO_ret, stepO_nxt, whenI_or, offI]
def clockI (a b c d : Int) : Int := firstI [rangeI a 0 100000000, rangeI b (-1000000) 1000000, rangeI c (-1000) 1000, rangeI d 2 1000]
theorem F50_eq (a b c d : Int) : F50 a b c d = some (clockI a b c d) := by
  unfold F50; rw [res_eq]
  simp only [B50, F89_eq, F75_4, sem_bind_some, sem_sees, sem_ret, stepO_ret, stepO_nxt, clockI]
theorem F40_eq (a b c d : Int) : F40 a b c d = some (clockI a b c d) := by
  unfold F40; rw [res_eq]
  simp only [B40, F34_eq, F24_4, sem_bind_some, sem_sees, sem_ret, stepO_ret, stepO_nxt, clockI]
def tickI (a b c d t : Int) : Int := firstI [clockI a b c d, rangeI t 0 100000000, whenI (decide (t < a)) 11]
theorem F95_eq (a b c d t : Int) : F95 a b c d t = some (tickI a b c d t) := by
  unfold F95; rw [res_eq]
  simp only [B95, F50_eq, F89_eq, F77_eq, F75_3, sem_bind_some, sem_sees, sem_ret, stepO_ret, stepO_nxt, tickI]
theorem F47_eq (a b c d t : Int) : F47 a b c d t = some (tickI a b c d t) := by
  unfold F47; rw [res_eq]
  simp only [B47, F40_eq, F34_eq, F82_eq, F24_3, sem_bind_some, sem_sees, sem_ret, stepO_ret, stepO_nxt, tickI]

theorem firstI_zero (x : Int) (l : List Int) : firstI (x :: l) = 0 ↔ x = 0 ∧ firstI l = 0 := by
  show (if x = 0 then firstI l else x) = 0 ↔ _
  by_cases h : x = 0 <;> simp [h]
theorem rangeI_zero {n a b : Int} : rangeI n a b = 0 ↔ a ≤ n ∧ n ≤ b := by
  unfold rangeI; split <;> omega
theorem offI_zero {n : Int} : offI n = 0 ↔ -1000000 ≤ n ∧ n ≤ 1000000 := by
  unfold offI; split <;> omega
theorem tickI_zero {a b c d t : Int} : tickI a b c d t = 0 ↔ (0 ≤ a ∧ a ≤ 100000000) ∧ (-1000000 ≤ b ∧ b ≤ 1000000) ∧ (-1000 ≤ c ∧ c ≤ 1000) ∧ (2 ≤ d ∧ d ≤ 1000) ∧ (0 ≤ t ∧ t ≤ 100000000) ∧ a ≤ t := by
  unfold tickI clockI
  simp only [firstI_zero, rangeI_zero, show firstI [] = 0 from rfl, and_true, whenI]
  by_cases h : t < a <;> simp [h] <;> omega
theorem quot {a d t : Int} (ha : 0 ≤ a) (hd : 2 ≤ d) (ht : t ≤ 100000000) (h : a ≤ t) : 0 ≤ (t - a).tdiv d ∧ (t - a).tdiv d ≤ 100000000 := by
  rw [Int.tdiv_eq_ediv_of_nonneg (by omega)]
  refine ⟨Int.ediv_nonneg (by omega) (by omega), ?_⟩
  have := Int.ediv_le_self d (show 0 ≤ t - a by omega)
  omega
def timeI (a b c d t : Int) : Int := if c < 0 then t + b - (if (t - a).tdiv d < 0 - c then (t - a).tdiv d else 0 - c) else t + b + (if (t - a).tdiv d < c then (t - a).tdiv d else c)
theorem F48_eq {a b c d t : Int} (h : tickI a b c d t = 0) : F48 a b c d t = some (timeI a b c d t) := by
  obtain ⟨⟨h1, h2⟩, ⟨h3, h4⟩, ⟨h5, h6⟩, ⟨h7, h8⟩, ⟨h9, h10⟩, h11⟩ := tickI_zero.1 h
  obtain ⟨q1, q2⟩ := quot h1 h7 h10 h11
  unfold F48 timeI; rw [res_eq]
  generalize hq : (t - a).tdiv d = q at q1 q2
  have e1 : inI64 (t - a) := by unfold inI64; omega
  have e2 : d ≠ 0 := by omega
  have e3 : inI64 q := by unfold inI64; omega
  have e4 : inI64 (t + b) := by unfold inI64; omega
  have e5 : inI64 (0 - c) := by unfold inI64; omega
  have e6 : inI64 (t + b - if q < 0 - c then q else 0 - c) := by unfold inI64; split <;> omega
  have e7 : inI64 (t + b + if q < c then q else c) := by unfold inI64; split <;> omega
  by_cases hc : c < 0
  · simp only [B48, sem_ask, sem_br, sem_ret, PC.holds, need_true, hq, e1, e2, e3, e4, e5, e6, hc, ne_eq, not_false_eq_true, if_true, decide_true, stepO_ret, stepO_nxt]
  · simp only [B48, sem_ask, sem_br, sem_ret, PC.holds, need_true, hq, e1, e2, e3, e4, e7, hc, ne_eq, not_false_eq_true, if_true, if_false, decide_false, Bool.false_eq_true, stepO_ret, stepO_nxt]
theorem F92_eq {a b c d t : Int} (h : tickI a b c d t = 0) : F92 a b c d t = some (timeI a b c d t) := by
  obtain ⟨⟨h1, h2⟩, ⟨h3, h4⟩, ⟨h5, h6⟩, ⟨h7, h8⟩, ⟨h9, h10⟩, h11⟩ := tickI_zero.1 h
  obtain ⟨q1, q2⟩ := quot h1 h7 h10 h11
  unfold F92 timeI; rw [res_eq]
  generalize hq : (t - a).tdiv d = q at q1 q2
  generalize hM : (if -c > c then -c else c) = M
  have hM1 : M = (if c < 0 then 0 - c else c) := by rw [← hM]; split <;> split <;> omega
  have e1 : inI64 (t - a) := by unfold inI64; omega
  have e2 : d ≠ 0 := by omega
  have e3 : inI64 q := by unfold inI64; omega
  have e4 : inI64 (t + b) := by unfold inI64; omega
  have e5 : inI64 (-c) := by unfold inI64; omega
  by_cases hc : c < 0
  · have hM2 : M = 0 - c := by rw [hM1, if_pos hc]
    have e6 : inI64 (-if M < q then M else q) := by unfold inI64; split <;> omega
    have e7 : inI64 (t + b + -if M < q then M else q) := by unfold inI64; split <;> omega
    simp only [B92, sem_ask, sem_br, sem_ret, PC.holds, need_true, hq, hM, e1, e2, e3, e4, e5, e6, e7, hc, ne_eq, not_false_eq_true, if_true, decide_true, stepO_ret, stepO_nxt, Option.some.injEq]
    rw [hM2]; split <;> split <;> omega
  · have hM2 : M = c := by rw [hM1, if_neg hc]
    have e7 : inI64 (t + b + if M < q then M else q) := by unfold inI64; split <;> omega
    simp only [B92, sem_ask, sem_br, sem_ret, PC.holds, need_true, hq, hM, e1, e2, e3, e4, e5, e7, hc, ne_eq, not_false_eq_true, if_true, if_false, decide_false, Bool.false_eq_true, stepO_ret, stepO_nxt, Option.some.injEq]
    rw [hM2]; split <;> split <;> omega
theorem timeI_bd {a b c d t : Int} (h : tickI a b c d t = 0) : -2000000 ≤ timeI a b c d t ∧ timeI a b c d t ≤ 300000000 := by
  obtain ⟨⟨h1, h2⟩, ⟨h3, h4⟩, ⟨h5, h6⟩, ⟨h7, h8⟩, ⟨h9, h10⟩, h11⟩ := tickI_zero.1 h
  obtain ⟨q1, q2⟩ := quot h1 h7 h10 h11
  unfold timeI
  generalize (t - a).tdiv d = q at q1 q2
  split <;> split <;> omega
theorem F49_eq {a b c d : Int} (h : inI64 (b - a)) : F49 a b c d = some (if offI (b - a) = 0 then (a, b - a, c, d, 0) else (0, 0, 0, 0, 4)) := by
  unfold F49; rw [res_eq]
  have hr : rangeI (b - a) (-1000000) 1000000 = if offI (b - a) = 0 then 0 else 3 := by
    unfold rangeI offI; split <;> split <;> omega
  by_cases h0 : offI (b - a) = 0
  · rw [if_pos h0]; rw [if_pos h0] at hr
    simp only [B49, F34_eq, hr, sem_bind_some, sem_sees, sem_ask, sem_br, sem_ret, PC.holds, need_true, h, if_true, bne_self_eq_false, Bool.false_eq_true, if_false, stepO_ret, stepO_nxt]
  · rw [if_neg h0]; rw [if_neg h0] at hr
    simp [B49, F34_eq, hr, sem_bind_some, sem_sees, sem_ask, sem_br, sem_ret, PC.holds, need_true, h, stepO_ret, stepO_nxt]
theorem F44_eq (a b c d t : Int) : F44 a b c d t = some (if tickI a b c d t = 0 then (timeI a b c d t, 0) else (0, tickI a b c d t)) := by
  unfold F44; rw [res_eq]
  by_cases h : tickI a b c d t = 0
  · simp only [B44, F95_eq, F92_eq h, h, sem_bind_some, sem_sees, sem_br, sem_ret, stepO_ret, stepO_nxt, bne_self_eq_false, Bool.false_eq_true, if_false, if_true]
  · simp [B44, F95_eq, h, sem_bind_some, sem_sees, sem_br, sem_ret, stepO_ret, stepO_nxt]
def setE (a b c d t u : Int) : Int := firstI [tickI a b c d t, rangeI u 0 200000000]
theorem setE_zero {a b c d t u : Int} : setE a b c d t u = 0 ↔ tickI a b c d t = 0 ∧ 0 ≤ u ∧ u ≤ 200000000 := by
  unfold setE; simp only [firstI_zero, rangeI_zero, show firstI [] = 0 from rfl, and_true]
theorem F45_eq (a b c d t u : Int) : F45 a b c d t u = some (if setE a b c d t u = 0 then (if offI (u - t) = 0 then (t, u - t, 0, d, u - timeI a b c d t, 0) else (0, 0, 0, 0, 0, 4)) else (0, 0, 0, 0, 0, setE a b c d t u)) := by
  unfold F45; rw [res_eq]
  have hs : firstI [tickI a b c d t, rangeI u 0 200000000] = setE a b c d t u := rfl
  by_cases h : setE a b c d t u = 0
  · obtain ⟨ht, hu1, hu2⟩ := setE_zero.1 h
    obtain ⟨⟨h1, h2⟩, ⟨h3, h4⟩, ⟨h5, h6⟩, ⟨h7, h8⟩, ⟨h9, h10⟩, h11⟩ := tickI_zero.1 ht
    have hb := timeI_bd ht
    have e1 : inI64 (u - t) := by unfold inI64; omega
    have e2 : inI64 (u - timeI a b c d t) := by unfold inI64; omega
    rw [if_pos h]
    by_cases h0 : offI (u - t) = 0
    · simp only [B45, F95_eq, F89_eq, F75_2, F96_eq, F92_eq ht, hs, h, h0, e1, e2, sem_bind_some, sem_sees, sem_ask, sem_br, sem_ret, PC.holds, need_true, stepO_ret, stepO_nxt, bne_self_eq_false, Bool.false_eq_true, if_false, if_true]
    · have h4 : offI (u - t) = 4 := by unfold offI at h0 ⊢; split <;> simp_all
      simp [B45, F95_eq, F89_eq, F75_2, F96_eq, hs, h, h4, e1, sem_bind_some, sem_sees, sem_ask, sem_br, sem_ret, PC.holds, need_true, stepO_ret, stepO_nxt]
  · simp [B45, F95_eq, F89_eq, F75_2, hs, h, sem_bind_some, sem_sees, sem_ask, sem_br, sem_ret, PC.holds, need_true, stepO_ret, stepO_nxt]
def slewE (a b c d t y e : Int) : Int := firstI [tickI a b c d t, rangeI y (-1000) 1000, rangeI e 2 1000]
theorem slewE_zero {a b c d t y e : Int} : slewE a b c d t y e = 0 ↔ tickI a b c d t = 0 ∧ (-1000 ≤ y ∧ y ≤ 1000) ∧ 2 ≤ e ∧ e ≤ 1000 := by
  unfold slewE; simp only [firstI_zero, rangeI_zero, show firstI [] = 0 from rfl, and_true]
theorem F46_eq (a b c d t y e : Int) : F46 a b c d t y e = some (if slewE a b c d t y e = 0 then (if offI (timeI a b c d t - t) = 0 then (t, timeI a b c d t - t, y, e, 0) else (0, 0, 0, 0, 4)) else (0, 0, 0, 0, slewE a b c d t y e)) := by
  unfold F46; rw [res_eq]
  have hs : firstI [tickI a b c d t, rangeI y (-1000) 1000, rangeI e 2 1000] = slewE a b c d t y e := rfl
  by_cases h : slewE a b c d t y e = 0
  · obtain ⟨ht, _⟩ := slewE_zero.1 h
    obtain ⟨⟨h1, h2⟩, ⟨h3, h4⟩, ⟨h5, h6⟩, ⟨h7, h8⟩, ⟨h9, h10⟩, h11⟩ := tickI_zero.1 ht
    have hb := timeI_bd ht
    have e1 : inI64 (timeI a b c d t - t) := by unfold inI64; omega
    rw [if_pos h]
    by_cases h0 : offI (timeI a b c d t - t) = 0
    · simp only [B46, F95_eq, F89_eq, F75_3, F96_eq, F92_eq ht, hs, h, h0, e1, sem_bind_some, sem_sees, sem_ask, sem_br, sem_ret, PC.holds, need_true, stepO_ret, stepO_nxt, bne_self_eq_false, Bool.false_eq_true, if_false, if_true]
    · have h4 : offI (timeI a b c d t - t) = 4 := by unfold offI at h0 ⊢; split <;> simp_all
      simp [B46, F95_eq, F89_eq, F75_3, F96_eq, F92_eq ht, hs, h, h4, e1, sem_bind_some, sem_sees, sem_ask, sem_br, sem_ret, PC.holds, need_true, stepO_ret, stepO_nxt]
  · simp [B46, F95_eq, F89_eq, F75_3, hs, h, sem_bind_some, sem_sees, sem_ask, sem_br, sem_ret, PC.holds, need_true, stepO_ret, stepO_nxt]

theorem tick_cases {a b c d t u : Int} (h : tickI a b c d t ≠ 0) : setE a b c d t u = tickI a b c d t := by
  unfold setE; show (if tickI a b c d t = 0 then _ else tickI a b c d t) = _; rw [if_neg h]
theorem slew_cases {a b c d t y e : Int} (h : tickI a b c d t ≠ 0) : slewE a b c d t y e = tickI a b c d t := by
  unfold slewE; show (if tickI a b c d t = 0 then _ else tickI a b c d t) = _; rw [if_neg h]
theorem clocks_end (x183 x184 x185 x186 x187 x193 x194 x195 x196 x197 x198 x199 x200 x201 x202 x203 x204 : Int) :
    res B7 (.c3 x183 x184 x185 x186 x187 x184 x186 x187 x183 x185 x193 x194 x195 x196 x197 x198 x199 x200 x201 x202 x203 x204 x197 x198 x199 x200 x201 x202 x203 x204) = some true := by
  have h12 : F12 = some true := rfl
  rw [res_eq]
  simp only [B7, F50_eq, F40_eq, h12, sem_bind_some, sem_sees, sem_triv, sem_ret, stepO_ret, beq_self_eq_true, Bool.and_true, if_true]
theorem clocks_true (a b c d t u y e : Int) : F7 a b c d t u y e = some true := by
  have hs : firstI [tickI a b c d t, rangeI u 0 200000000] = setE a b c d t u := rfl
  have hw : firstI [tickI a b c d t, rangeI y (-1000) 1000, rangeI e 2 1000] = slewE a b c d t y e := rfl
  unfold F7; rw [res_eq]
  by_cases ht : tickI a b c d t = 0
  · obtain ⟨⟨h1, h2⟩, ⟨h3, h4⟩, ⟨h5, h6⟩, ⟨h7, h8⟩, ⟨h9, h10⟩, h11⟩ := tickI_zero.1 ht
    have hb := timeI_bd ht
    have hi1 : inI64 (timeI a b c d t - t) := by unfold inI64; omega
    have e4 : ((4 : Int) == 0) = false := rfl
    have hs0 : firstI [0, rangeI u 0 200000000] = setE a b c d t u := by rw [← hs, ht]
    have hw0 : firstI [0, rangeI y (-1000) 1000, rangeI e 2 1000] = slewE a b c d t y e := by rw [← hw, ht]
    simp only [B7, F44_eq, F45_eq, F46_eq, F47_eq, F34_eq, F24_2, F24_3, F48_eq ht, ht, hs0, hw0, if_true, sem_bind_some, sem_sees, sem_br, sem_nxt, stepO_nxt, beq_self_eq_true]
    rw [res_eq]
    have key : ∀ (x : Int × Int × Int × Int × Int), x = (if slewE a b c d t y e = 0 then (if offI (timeI a b c d t - t) = 0 then (t, timeI a b c d t - t, y, e, 0) else (0, 0, 0, 0, 4)) else (0, 0, 0, 0, slewE a b c d t y e)) →
        ∀ (s1 s2 s3 s4 j u' : Int), res B7 (.c2 (timeI a b c d t) 0 j u' x.2.2.2.2 0 u' (slewE a b c d t y e) (timeI a b c d t) j a b c d t u y e s1 s2 s3 s4 x.1 x.2.1 x.2.2.1 x.2.2.2.1 s1 s2 s3 s4) = some true := by
      intro x hx s1 s2 s3 s4 j u'
      rw [res_eq]
      by_cases hse : slewE a b c d t y e = 0
      · rw [if_pos hse] at hx
        simp only [B7, hse, F49_eq hi1, sem_bind_some, sem_sees, sem_br, sem_nxt, stepO_nxt, beq_self_eq_true, if_true]
        rw [← hx]
        exact clocks_end ..
      · rw [if_neg hse] at hx
        have hse' : (slewE a b c d t y e == 0) = false := by simpa using hse
        simp only [B7, hse', sem_br, sem_nxt, stepO_nxt, Bool.false_eq_true, if_false]
        subst hx
        exact clocks_end ..
    by_cases hu : setE a b c d t u = 0
    · obtain ⟨_, hu1, hu2⟩ := setE_zero.1 hu
      have hi2 : inI64 (u - t) := by unfold inI64; omega
      have hi3 : inI64 (u - timeI a b c d t) := by unfold inI64; omega
      by_cases h0 : offI (u - t) = 0
      · simp only [B7, hu, h0, F49_eq hi2, sem_bind_some, sem_sees, sem_ask, sem_br, sem_nxt, stepO_nxt, beq_self_eq_true, if_true, PC.holds, need_true, hi3]
        exact key _ rfl ..
      · simp only [B7, hu, h0, F49_eq hi2, sem_bind_some, sem_sees, sem_ask, sem_br, sem_nxt, stepO_nxt, beq_self_eq_true, if_true, if_false, PC.holds, need_true, e4, Bool.false_eq_true]
        exact key _ rfl ..
    · have hu' : (setE a b c d t u == 0) = false := by simpa using hu
      simp only [B7, hu, hu', sem_br, sem_nxt, stepO_nxt, Bool.false_eq_true, if_false]
      exact key _ rfl ..
  · have hx : (tickI a b c d t == 0) = false := by simpa using ht
    have t1 := tick_cases (u := u) ht
    have t2 := slew_cases (y := y) (e := e) ht
    simp only [B7, F44_eq, F45_eq, F46_eq, F47_eq, F34_eq, F24_2, F24_3, hs, hw, t1, t2, ht, hx, if_false, sem_bind_some, sem_sees, sem_br, sem_nxt, stepO_nxt, Bool.false_eq_true]
    rw [res_eq]
    simp only [B7, hx, sem_br, sem_nxt, stepO_nxt, Bool.false_eq_true, if_false]
    rw [res_eq]
    simp only [B7, hx, sem_br, sem_nxt, stepO_nxt, Bool.false_eq_true, if_false]
    exact clocks_end ..
end Go.Kv
