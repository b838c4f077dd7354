/- MeterSlews, in plain Lean. -/
import Derived.Test.YtalhonodbajndaaDoorKzI
namespace Go.Kv
set_option linter.unusedVariables false
set_option linter.unusedSimpArgs false
open Go Go.RowKit
set_option maxRecDepth 100000
theorem quo_of {n m q : Int} (hm : 1 ≤ m) (h1 : 0 ≤ n - q * m) (h2 : n - q * m < m) : q = n / m :=
  ((Int.ediv_emod_unique (a := n) (b := m) (r := n - q * m) (q := q) (by omega)).2 ⟨by rw [Int.mul_comm m q]; omega, h1, h2⟩).1.symm
theorem floor_eq (n : Int) {m : Int} (hm : 1 ≤ m) : floorI n m = n / m := by
  have e := Int.mul_tdiv_add_tmod n m
  have h1 := Int.tmod_lt_of_pos n (show 0 < m by omega)
  have h2 := Int.lt_tmod_of_pos n (show 0 < m by omega)
  unfold floorI
  have hc : m * n.tdiv m = n.tdiv m * m := Int.mul_comm ..
  split
  · refine quo_of hm ?_ ?_
    · rw [Int.sub_mul]; omega
    · rw [Int.sub_mul]; omega
  · exact quo_of hm (by omega) (by omega)
theorem tmod_zero {k m : Int} (hm : 1 ≤ m) : (k.tmod m == 0) = (k % m == 0) := by
  have : k.tmod m = 0 ↔ k % m = 0 := by
    rw [← Int.dvd_iff_tmod_eq_zero, ← Int.dvd_iff_emod_eq_zero]
  rw [Bool.eq_iff_iff, beq_iff_eq, beq_iff_eq]
  exact this
/-- One more: a multiple is passed, or none. -/
theorem div_step (k : Int) {m : Int} (hm : 2 ≤ m) : k / m = (k - 1) / m + (if k % m = 0 then 1 else 0) := by
  have e1 := Int.mul_ediv_add_emod k m
  have e2 := Int.mul_ediv_add_emod (k - 1) m
  have a1 := Int.emod_nonneg k (show m ≠ 0 by omega)
  have a2 := Int.emod_lt_of_pos k (show 0 < m by omega)
  have b1 := Int.emod_nonneg (k - 1) (show m ≠ 0 by omega)
  have b2 := Int.emod_lt_of_pos (k - 1) (show 0 < m by omega)
  generalize k / m = q at *
  generalize (k - 1) / m = q' at *
  generalize k % m = r at *
  generalize (k - 1) % m = r' at *
  have hq : m * (q - q') = 1 + r' - r := by rw [Int.mul_sub]; omega
  split
  · rename_i h0
    have h1 : m * (q - q') ≤ m * 1 := by omega
    have h2 : m * (q - q') ≥ 1 := by omega
    have := Int.le_of_mul_le_mul_left h1 (by omega)
    have h3 : 0 < q - q' := by
      apply Classical.byContradiction; intro hn
      have : m * (q - q') ≤ m * 0 := Int.mul_le_mul_of_nonneg_left (by omega) (by omega)
      omega
    omega
  · rename_i h0
    have h3 : q - q' < 1 := by
      apply Classical.byContradiction; intro hn
      have : m * 1 ≤ m * (q - q') := Int.mul_le_mul_of_nonneg_left (by omega) (by omega)
      omega
    have h4 : -1 < q - q' := by
      apply Classical.byContradiction; intro hn
      have : m * (q - q') ≤ m * (-1) := Int.mul_le_mul_of_nonneg_left (by omega) (by omega)
      omega
    omega
/-- Two more at most: no more than one multiple is passed. -/
theorem div_two {x y m : Int} (hm : 2 ≤ m) (h1 : x ≤ y) (h2 : y ≤ x + 2) : y / m = x / m + (if y / m > x / m then 1 else 0) := by
  have hle : x / m ≤ y / m := Int.ediv_le_ediv (by omega) h1
  have : y / m ≤ x / m + 1 := by
    have h3 : y / m ≤ (x + m) / m := Int.ediv_le_ediv (by omega) (by omega)
    rw [Int.add_ediv_of_dvd_right (Int.dvd_refl m), Int.ediv_self (by omega)] at h3
    exact h3
  split <;> omega
theorem quo_step {j e : Int} (he : 2 ≤ e) : j / e ≤ (j + 1) / e ∧ (j + 1) / e ≤ j / e + 1 := by
  refine ⟨Int.ediv_le_ediv (by omega) (by omega), ?_⟩
  have h3 : (j + 1) / e ≤ (j + e) / e := Int.ediv_le_ediv (by omega) (by omega)
  rwa [Int.add_ediv_of_dvd_right (Int.dvd_refl e), Int.ediv_self (by omega)] at h3

theorem ticks_mem {p : Int → Bool} : ∀ (n : Nat) (t : Int) x, x ∈ ticks p n t → t ≤ x ∧ x < t + n ∧ p x = true
  | 0, _, x, h => by simp [ticks] at h
  | n + 1, t, x, h => by
    unfold ticks at h
    split at h
    · rename_i hp
      rcases List.mem_cons.1 h with rfl | h
      · exact ⟨Int.le_refl _, by omega, hp⟩
      · obtain ⟨a1, a2, a3⟩ := ticks_mem n (t + 1) x h
        exact ⟨by omega, by omega, a3⟩
    · obtain ⟨a1, a2, a3⟩ := ticks_mem n (t + 1) x h
      exact ⟨by omega, by omega, a3⟩
theorem ticks_sorted {p : Int → Bool} : ∀ (n : Nat) (t : Int), (ticks p n t).Pairwise (· < ·)
  | 0, _ => List.Pairwise.nil
  | n + 1, t => by
    unfold ticks
    split
    · exact List.Pairwise.cons (fun x hx => by have := ticks_mem n (t + 1) x hx; omega) (ticks_sorted n (t + 1))
    · exact ticks_sorted n (t + 1)

/-! The slewed clock: since B, offset o, left y, every e. -/
section
variable {B o y e m : Int}
theorem time_at (he : 2 ≤ e) {t : Int} (ht : B ≤ t) : timeI B o y e t = t + o + (if y < 0 then - (if (t - B) / e < -y then (t - B) / e else -y) else (if (t - B) / e < y then (t - B) / e else y)) := by
  unfold timeI
  rw [Int.tdiv_eq_ediv_of_nonneg (by omega)]
  split
  · rw [show 0 - y = -y by omega]; omega
  · rfl
theorem time_step (he : 2 ≤ e) {t : Int} (ht : B ≤ t) : timeI B o y e t ≤ timeI B o y e (t + 1) ∧ timeI B o y e (t + 1) ≤ timeI B o y e t + 2 := by
  rw [time_at he ht, time_at he (show B ≤ t + 1 by omega)]
  have h := quo_step (j := t - B) he
  rw [show t - B + 1 = t + 1 - B by omega] at h
  generalize (t - B) / e = q at h
  generalize (t + 1 - B) / e = q' at h
  split <;> split <;> split <;> omega
theorem time_first (he : 2 ≤ e) : timeI B o y e B = B + o := by
  rw [time_at he (Int.le_refl B), Int.sub_self, Int.zero_ediv]
  split <;> split <;> omega
theorem time_last (he : 2 ≤ e ∧ e ≤ 5) (hy : -40 ≤ y ∧ y ≤ 40) : timeI B o y e (B + 200) = B + o + 200 + y := by
  rw [time_at he.1 (by omega), show B + 200 - B = 200 by omega]
  have hq : 40 ≤ 200 / e := by
    have : e = 2 ∨ e = 3 ∨ e = 4 ∨ e = 5 := by omega
    rcases this with rfl | rfl | rfl | rfl <;> decide
  split <;> split <;> omega
theorem hits_len (he : 2 ≤ e) (hm : 2 ≤ m) : ∀ (n : Nat) (t : Int), B ≤ t → ((ticks (hit B o y e m) n (t + 1)).length : Int) = timeI B o y e (t + n) / m - timeI B o y e t / m
  | 0, t, ht => by simp [ticks]
  | n + 1, t, ht => by
    have ih := hits_len he hm n (t + 1) (by omega)
    obtain ⟨s1, s2⟩ := time_step (o := o) (y := y) he ht
    have d := div_two hm s1 s2
    have hh : hit B o y e m (t + 1) = decide (timeI B o y e (t + 1) / m > timeI B o y e t / m) := by
      unfold hit begins
      rw [show t + 1 - 1 = t by omega, floor_eq _ (by omega), floor_eq _ (by omega)]
      have : t + 1 > B := by omega
      simp [this]
    rw [show t + ((n + 1 : Nat) : Int) = t + 1 + (n : Int) by omega]
    unfold ticks
    rw [hh]
    by_cases hx : timeI B o y e (t + 1) / m > timeI B o y e t / m
    · rw [if_pos hx] at d
      simp only [hx, decide_true, if_true, List.length_cons]
      omega
    · rw [if_neg hx] at d
      simp only [hx, decide_false, Bool.false_eq_true, if_false]
      omega
end
section
variable {B o y e m : Int} {T0 n0 n1 n2 n3 : Int}
theorem slew_in (hm : 2 ≤ m ∧ m ≤ 51) {t tm : Int} (htm : -1000000000 ≤ tm ∧ tm ≤ 1000000000) : ∀ (r : Nat) (k c : Int), tm + 1 = k + r → -1000000000 ≤ k → -1000000000 ≤ c → c + r ≤ 1000000000 →
    res B5 (.c2 B y m T0 c t tm k n0 n1 n2 n3 B o y e) = res B5 (.c2 B y m T0 (c + tm / m - (k - 1) / m) t tm (tm + 1) n0 n1 n2 n3 B o y e)
  | 0, k, c, hk, _, _, _ => by
    have : k = tm + 1 := by omega
    subst this
    rw [show tm + 1 - 1 = tm by omega, show c + tm / m - tm / m = c by omega]
  | r + 1, k, c, hk, hk0, hc0, hc1 => by
    have h1 : k ≤ tm := by omega
    have h2 : m ≠ 0 := by omega
    have h3 : inI64 (k + 1) := by unfold inI64; omega
    have h4 : inI64 (c + 1) := by unfold inI64; omega
    have ds := div_step k hm.1
    rw [res_eq]
    by_cases hz : k % m = 0
    · have hz' : (k % m == 0) = true := by simpa using hz
      have ih := slew_in hm (t := t) htm r (k + 1) (c + 1) (by omega) (by omega) (by omega) (by omega)
      rw [if_pos hz] at ds
      simp only [B5, sem_br, sem_ask, sem_nxt, PC.holds, h1, h2, h3, h4, tmod_zero (show 1 ≤ m by omega), hz', need_true, decide_true, if_true, ne_eq, not_false_eq_true, stepO_nxt]
      rw [ih, show k + 1 - 1 = k by omega, show c + 1 + tm / m - k / m = c + tm / m - (k - 1) / m by omega]
    · have hz' : (k % m == 0) = false := by simpa using hz
      have ih := slew_in hm (t := t) htm r (k + 1) c (by omega) (by omega) (by omega) (by omega)
      rw [if_neg hz] at ds
      simp only [B5, sem_br, sem_ask, sem_nxt, PC.holds, h1, h2, h3, tmod_zero (show 1 ≤ m by omega), hz', need_true, decide_true, if_true, ne_eq, not_false_eq_true, Bool.false_eq_true, if_false, stepO_nxt]
      rw [ih, show k + 1 - 1 = k by omega, show c + tm / m - k / m = c + tm / m - (k - 1) / m by omega]
structure Slewn (B o y e m : Int) : Prop where
  b : 0 ≤ B ∧ B ≤ 99980100
  o : -20000 ≤ o ∧ o ≤ 20000
  y : -40 ≤ y ∧ y ≤ 40
  e : 2 ≤ e ∧ e ≤ 5
  m : 2 ≤ m ∧ m ≤ 51
theorem Slewn.clock (h : Slewn B o y e m) : clockI B o y e = 0 := by
  obtain ⟨hb, ho, hy, he, hm⟩ := h
  exact clockI_zero.2 ⟨by omega, by omega, by omega, by omega⟩
theorem Slewn.tick (h : Slewn B o y e m) {t : Int} (ht : B ≤ t ∧ t ≤ B + 300) : tickI B o y e t = 0 := by
  obtain ⟨hb, ho, hy, he, hm⟩ := h
  exact tickI_zero.2 ⟨by omega, by omega, by omega, by omega, by omega, by omega⟩
theorem Slewn.bd (h : Slewn B o y e m) {t : Int} (ht : B ≤ t ∧ t ≤ B + 300) : -100000 ≤ timeI B o y e t ∧ timeI B o y e t ≤ 200000000 := by
  obtain ⟨hb, ho, hy, he, hm⟩ := h
  rw [time_at he.1 ht.1]
  have : 0 ≤ (t - B) / e := Int.ediv_nonneg (by omega) (by omega)
  generalize (t - B) / e = q at this
  split <;> split <;> omega
theorem div_bd {x m : Int} (hm : 2 ≤ m) (hx : -200000000 ≤ x ∧ x ≤ 200000000) : -200000000 ≤ x / m ∧ x / m ≤ 200000000 := by
  have e1 := Int.mul_ediv_add_emod x m
  have a1 := Int.emod_nonneg x (show m ≠ 0 by omega)
  have a2 := Int.emod_lt_of_pos x (show 0 < m by omega)
  constructor
  · have : (-200000000) / m ≤ x / m := Int.ediv_le_ediv (by omega) hx.1
    have h2 : (-200000000 : Int) ≤ (-200000000) / m := by
      apply Int.le_ediv_of_mul_le (by omega)
      have : (-200000000 : Int) * m ≤ (-200000000) * 1 := Int.mul_le_mul_of_nonpos_left (by omega) (by omega)
      omega
    omega
  · rcases Int.le_total 0 x with h | h
    · have := Int.ediv_le_self m h; omega
    · have : x / m ≤ 0 / m := Int.ediv_le_ediv (by omega) h
      rw [Int.zero_ediv] at this; omega
theorem slew_c1 (h : Slewn B o y e m) (hT : T0 = timeI B o y e B) : ∀ (r j : Nat), 200 = j + r →
    res B5 (.c1 B y m T0 (timeI B o y e (B + j)) (timeI B o y e (B + j) / m - T0 / m) (B + j + 1) n0 n1 n2 n3 B o y e) =
    res B5 (.c1 B y m T0 (timeI B o y e (B + 200)) (timeI B o y e (B + 200) / m - T0 / m) (B + 201) n0 n1 n2 n3 B o y e)
  | 0, j, hj => by
    have : j = 200 := by omega
    subst this
    rw [show B + ((200 : Nat) : Int) = B + 200 from rfl, show B + 200 + 1 = B + 201 by omega]
  | r + 1, j, hj => by
    have ih := slew_c1 h hT r (j + 1) (by omega)
    have hb := h.b
    obtain ⟨s1, s2⟩ := time_step (B := B) (o := o) (y := y) h.e.1 (show B ≤ B + (j : Int) by omega)
    have bd1 := h.bd (t := B + j) ⟨by omega, by omega⟩
    have bd2 := h.bd (t := B + j + 1) ⟨by omega, by omega⟩
    have bd0 := h.bd (t := B) ⟨by omega, by omega⟩
    rw [← hT] at bd0
    have dv1 := div_bd h.m.1 (x := timeI B o y e (B + j)) (by omega)
    have dv0 := div_bd h.m.1 (x := T0) (by omega)
    have ht : F22 B o y e (B + j + 1) = some (timeI B o y e (B + j + 1), 0) := by
      rw [F22_eq, if_pos (h.tick (t := B + j + 1) ⟨by omega, by omega⟩)]
    have hin := slew_in (T0 := T0) (n0 := n0) (n1 := n1) (n2 := n2) (n3 := n3) (B := B) (o := o) (y := y) (e := e) h.m (t := B + j + 1) (tm := timeI B o y e (B + j + 1)) (by omega)
      (timeI B o y e (B + j + 1) - timeI B o y e (B + j)).toNat (timeI B o y e (B + j) + 1) (timeI B o y e (B + j) / m - T0 / m) (by omega) (by omega) (by omega) (by omega)
    generalize hX : timeI B o y e (B + j) = X at *
    generalize hY : timeI B o y e (B + j + 1) = Y at *
    have g1 : inI64 (B + 200) := by unfold inI64; omega
    have g2 : B + (j : Int) + 1 ≤ B + 200 := by omega
    have g3 : ¬ Y < X := by omega
    have g4 : inI64 (X + 2) := by unfold inI64; omega
    have g5 : ¬ Y > X + 2 := by omega
    have g6 : inI64 (X + 1) := by unfold inI64; omega
    have g7 : inI64 (B + (j : Int) + 1 + 1) := by unfold inI64; omega
    have g8 : ¬ Y + 1 ≤ Y := by omega
    rw [res_eq]
    simp only [B5, ht, sem_bind_some, sem_sees, sem_triv, sem_br, sem_ask, sem_nxt, PC.holds, g1, g2, g3, g4, g5, g6, need_true, bne_self_eq_false, Bool.false_eq_true, if_false, decide_true, decide_false, if_true, beq_self_eq_true, stepO_nxt]
    rw [hin, res_eq]
    simp only [B5, sem_br, sem_ask, sem_nxt, PC.holds, g7, g8, need_true, decide_false, Bool.false_eq_true, if_false, stepO_nxt]
    rw [show X / m - T0 / m + Y / m - (X + 1 - 1) / m = Y / m - T0 / m by rw [show X + 1 - 1 = X by omega]; omega]
    rw [show B + ((j + 1 : Nat) : Int) = B + j + 1 by omega, hY] at ih
    exact ih
/-- The last part: a clock that is set. -/
theorem slew_c3_end (h : Slewn B o y e m) (hn : 0 ≤ n1 ∧ n1 ≤ 65535) (len : Nat) (D : List DV) : res B5 (.c3 B (timeI B o y e (B + 200)) len D (len : Int) (len : Int) n0 n1 n2 n3 B o y e) = some true := by
  have h7 : F7 = some true := rfl
  have hb := h.b
  have he := h.e
  have bd2 := h.bd (t := B + 200) ⟨by omega, by omega⟩
  have ew : IntKind.i64.wrap n1 = n1 := wrap_in (by unfold inI64; omega)
  have em : n1.tmod 9000 = n1 % 9000 := Int.tmod_eq_emod_of_nonneg hn.1
  obtain ⟨g, hg, hg0⟩ : ∃ g, n1 % 9000 = g ∧ (0 ≤ g ∧ g ≤ 8999) := ⟨_, rfl, by omega, by omega⟩
  have t1 := h.tick (t := B + 200) ⟨by omega, by omega⟩
  have hs : setE B o y e (B + 200) (B + 200 + g) = 0 := setE_zero.2 ⟨t1, by omega, by omega⟩
  have ho : offI (B + 200 + g - (B + 200)) = 0 := offI_zero.2 (by omega)
  have eg : B + 200 + g - (B + 200) = g := by omega
  have f24 : F24 B o y e (B + 200) (B + 200 + g) = some (B + 200, g, e, B + 200 + g - timeI B o y e (B + 200), 0) := by
    rw [F24_eq, if_pos hs, if_pos ho, eg]
  have k1 : tickI (B + 200) g 0 e (B + 200) = 0 := tickI_zero.2 ⟨by omega, by omega, by omega, by omega, by omega, by omega⟩
  have k2 : tickI (B + 200) g 0 e (B + 260) = 0 := tickI_zero.2 ⟨by omega, by omega, by omega, by omega, by omega, by omega⟩
  have v1 : timeI (B + 200) g 0 e (B + 200) = B + 200 + g := time_first he.1
  have v2 : timeI (B + 200) g 0 e (B + 260) = B + 200 + g + 60 := by
    rw [time_at he.1 (by omega)]
    have : 0 ≤ (B + 260 - (B + 200)) / e := Int.ediv_nonneg (by omega) (by omega)
    generalize (B + 260 - (B + 200)) / e = q at this
    split <;> split <;> omega
  have f1 : F22 (B + 200) g 0 e (B + 200) = some (B + 200 + g, 0) := by rw [F22_eq, if_pos k1, v1]
  have f2 : F22 (B + 200) g 0 e (B + 260) = some (B + 200 + g + 60, 0) := by rw [F22_eq, if_pos k2, v2]
  generalize timeI B o y e (B + 200) = X at *
  have i1 : inI64 (B + 200) := by unfold inI64; omega
  have i2 : inI64 (B + 200 + g) := by unfold inI64; omega
  have i3 : inI64 (B + 260) := by unfold inI64; omega
  have i4 : inI64 (B + 200 + g + 60) := by unfold inI64; omega
  have i5 : inI64 (B + 200 + g - X) := by unfold inI64; omega
  rw [res_eq]
  simp only [B5, ew, em, hg, f24, f1, f2, h7, i1, i2, i3, i4, i5, sem_bind_some, sem_sees, sem_triv, sem_br, sem_ask, sem_ret, PC.holds, need_true, Int.lt_irrefl, decide_false, Bool.false_eq_true, if_false, if_true, beq_self_eq_true, stepO_ret]
theorem slew_c3 (h : Slewn B o y e m) (hn : 0 ≤ n1 ∧ n1 ≤ 65535) (l : List Int) (hl : l.length ≤ 1000) (h1 : ∀ x ∈ l, B < x ∧ x ≤ B + 200) (h2 : l.Pairwise (· < ·)) : ∀ (r i : Nat), l.length = i + r →
    res B5 (.c3 B (timeI B o y e (B + 200)) l.length (l.map vI) (l.length : Int) (i : Int) n0 n1 n2 n3 B o y e) = some true
  | 0, i, hi => by
    have : i = l.length := by omega
    subst this
    exact slew_c3_end h hn _ _
  | r + 1, i, hi => by
    have hlt : i < l.length := by omega
    have ih := slew_c3 h hn l hl h1 h2 r (i + 1) (by omega)
    have hb := h.b
    have g0 : (i : Int) < (l.length : Int) := by omega
    have hx := h1 (l.getD i 0) (by simp [List.getD_eq_getElem?_getD, hlt])
    have g1 : ¬ l.getD i 0 ≤ B := by omega
    have g2 : ¬ l.getD i 0 > B + 200 := by omega
    have g3 : inI64 (B + 200) := by unfold inI64; omega
    have g4 : inI64 ((i : Int) + 1) := by unfold inI64; omega
    rw [res_eq]
    by_cases hz : i = 0
    · subst hz
      have g5 : ¬ ((0 : Nat) : Int) > 0 := by omega
      simp only [B5, sem_br, sem_ask, sem_triv, sem_nxt, PC.holds, need_true, Int.toNat_natCast, Nat.mul_one, dI_cel_map, at_map hlt, g0, g1, g2, g3, g4, g5, Nat.le_of_lt hlt, List.length_map, Int.natCast_nonneg, decide_true, decide_false, if_true, Bool.false_eq_true, if_false, beq_self_eq_true, stepO_nxt]
      exact ih
    · have hp : i - 1 < l.length := by omega
      have g5 : (i : Int) > 0 := by omega
      have e1 : (i : Int) - 1 = ((i - 1 : Nat) : Int) := by omega
      have g6 : inI64 ((i - 1 : Nat) : Int) := by unfold inI64; omega
      have g7 : ((i - 1 : Nat) : Int) < (l.length : Int) := by omega
      have hlt2 : l.getD (i - 1) 0 < l.getD i 0 := by
        have := List.pairwise_iff_getElem.1 h2 (i - 1) i hp hlt (by omega)
        simpa [List.getD_eq_getElem?_getD, hlt, hp] using this
      have g8 : ¬ l.getD i 0 ≤ l.getD (i - 1) 0 := by omega
      simp only [B5, sem_br, sem_ask, sem_triv, sem_nxt, PC.holds, need_true, e1, Int.toNat_natCast, Nat.mul_one, dI_cel_map, at_map hlt, at_map hp, g0, g1, g2, g3, g4, g5, g6, g7, g8, Nat.le_of_lt hlt, Nat.le_of_lt hp, List.length_map, Int.natCast_nonneg, decide_true, decide_false, if_true, Bool.false_eq_true, if_false, beq_self_eq_true, stepO_nxt]
      exact ih
theorem slew_mid (h : Slewn B o y e m) (hn : 0 ≤ n1 ∧ n1 ≤ 65535) (hT : T0 = timeI B o y e B) : res B5 (.c1 B y m T0 (timeI B o y e (B + 200)) (timeI B o y e (B + 200) / m - T0 / m) (B + 201) n0 n1 n2 n3 B o y e) = some true := by
  have hb := h.b
  have hc := h.clock
  have hsp : spanI B (B + 201) = 0 := spanI_zero.2 ⟨by omega, by omega, by omega⟩
  have hmn : manyI B (B + 201) = 0 := (manyI_zero hsp).2 (by omega)
  have hrm : rangeI m 2 100000 = 0 := rangeI_zero.2 (by have := h.m; omega)
  have z1 : firstI [clockI B o y e, spanI B (B + 201)] = 0 := firstI_zero .. |>.2 ⟨hc, firstI_zero .. |>.2 ⟨hsp, rfl⟩⟩
  have z2 : firstI [manyI B (B + 201), rangeI m 2 100000] = 0 := firstI_zero .. |>.2 ⟨hmn, firstI_zero .. |>.2 ⟨hrm, rfl⟩⟩
  have hlist : ticksL B o y e B (B + 201) m = ticks (hit B o y e m) 200 (B + 1) := by
    unfold ticksL
    rw [show (B + 201 - B).toNat = 200 + 1 by omega, ticks]
    have : hit B o y e m B = false := by unfold hit; simp
    rw [this]; simp
  have f23 : F23 B o y e B (B + 201) m = some ((ticks (hit B o y e m) 200 (B + 1)).length, (ticks (hit B o y e m) 200 (B + 1)).map vI, 0) := by
    rw [F23_eq]; unfold outer inner; rw [if_pos z1, if_pos z2, hlist]
  have hlen := hits_len (B := B) (o := o) (y := y) h.e.1 h.m.1 200 B (Int.le_refl B)
  rw [← hT] at hlen
  have hend := time_last (B := B) (o := o) h.e h.y
  have hfst := time_first (B := B) (o := o) (y := y) h.e.1
  have e201 : ¬ B + 201 ≤ B + 200 := by omega
  have i1 : inI64 (B + 200) := by unfold inI64; omega
  have i2 : inI64 (B + 201) := by unfold inI64; omega
  have hbo := h.o
  have hy := h.y
  have i3 : inI64 (T0 + 200) := by rw [hT, hfst]; unfold inI64; omega
  have i4 : inI64 (T0 + 200 + y) := by rw [hT, hfst]; unfold inI64; omega
  have hlast : timeI B o y e (B + 200) = T0 + 200 + y := by rw [hend, hT, hfst]
  have hc3 := slew_c3 (n0 := n0) (n1 := n1) (n2 := n2) (n3 := n3) h hn (ticks (hit B o y e m) 200 (B + 1)) (by have := ticks_len (hit B o y e m) 200 (B + 1); omega)
    (fun x hx => by have := ticks_mem 200 (B + 1) x hx; omega) (ticks_sorted 200 (B + 1)) _ 0 (by rw [Nat.zero_add])
  have e200 : ((200 : Nat) : Int) = 200 := rfl
  rw [e200] at hlen
  rw [res_eq]
  rw [hlast] at hc3 hlen ⊢
  simp only [B5, f23, sem_bind_some, sem_sees, sem_triv, sem_br, sem_ask, sem_nxt, PC.holds, need_true, e201, i1, i2, i3, i4, hlen, bne_self_eq_false, decide_false, Bool.false_eq_true, if_false, beq_self_eq_true, stepO_nxt]
  rw [hlen] at hc3
  exact hc3
end
theorem slews_true (a b c d n0 n1 n2 n3 : Int) (w0 : 0 ≤ n0 ∧ n0 ≤ 65535) (w1 : 0 ≤ n1 ∧ n1 ≤ 65535) (w2 : 0 ≤ n2 ∧ n2 ≤ 65535) (w3 : 0 ≤ n3 ∧ n3 ≤ 65535) : F5 a b c d n0 n1 n2 n3 = some true := by
  have h7 : F7 = some true := rfl
  unfold F5; rw [res_eq]
  by_cases hc : clockI a b c d = 0
  · obtain ⟨⟨a1, a2⟩, ⟨b1, b2⟩, ⟨c1, c2⟩, ⟨d1, d2⟩⟩ := clockI_zero.1 hc
    have i0 : inI64 (-b) := by unfold inI64; omega
    by_cases hb : (if -b > b then -b else b) > 10000
    · simp only [B5, F20_eq, hc, i0, hb, h7, sem_bind_some, sem_sees, sem_br, sem_ask, sem_ret, PC.holds, need_true, bne_self_eq_false, Bool.false_eq_true, if_false, decide_true, if_true, stepO_ret]
    · by_cases ha : a > 99980000
      · simp only [B5, F20_eq, hc, i0, hb, ha, h7, sem_bind_some, sem_sees, sem_br, sem_ask, sem_ret, PC.holds, need_true, bne_self_eq_false, Bool.false_eq_true, if_false, decide_true, decide_false, if_true, stepO_ret]
      · have hb' : -10000 ≤ b ∧ b ≤ 10000 := by split at hb <;> omega
        have e0 : (IntKind.i64.wrap n0).tmod 100 = n0 % 100 := by rw [wrap_in (by unfold inI64; omega), Int.tmod_eq_emod_of_nonneg w0.1]
        have e1 : (IntKind.i64.wrap n1).tmod 81 = n1 % 81 := by rw [wrap_in (by unfold inI64; omega), Int.tmod_eq_emod_of_nonneg w1.1]
        have e2 : (IntKind.i64.wrap n2).tmod 4 = n2 % 4 := by rw [wrap_in (by unfold inI64; omega), Int.tmod_eq_emod_of_nonneg w2.1]
        have e3 : (IntKind.i64.wrap n3).tmod 50 = n3 % 50 := by rw [wrap_in (by unfold inI64; omega), Int.tmod_eq_emod_of_nonneg w3.1]
        obtain ⟨B, hB, hB1⟩ : ∃ B, a + n0 % 100 = B ∧ (a ≤ B ∧ B ≤ a + 99) := ⟨_, rfl, by omega, by omega⟩
        obtain ⟨y, hy, hy1⟩ : ∃ y, n1 % 81 - 40 = y ∧ (-40 ≤ y ∧ y ≤ 40) := ⟨_, rfl, by omega, by omega⟩
        obtain ⟨e, he, he1⟩ : ∃ e, 2 + n2 % 4 = e ∧ (2 ≤ e ∧ e ≤ 5) := ⟨_, rfl, by omega, by omega⟩
        obtain ⟨m, hm, hm1⟩ : ∃ m, 2 + n3 % 50 = m ∧ (2 ≤ m ∧ m ≤ 51) := ⟨_, rfl, by omega, by omega⟩
        have ht : tickI a b c d B = 0 := tickI_zero.2 ⟨by omega, by omega, by omega, by omega, by omega, by omega⟩
        have hTb : -11000 ≤ timeI a b c d B - B ∧ timeI a b c d B - B ≤ 11000 := by
          rw [time_at d1 hB1.1]
          have : 0 ≤ (B - a) / d := Int.ediv_nonneg (by omega) (by omega)
          generalize (B - a) / d = q at this
          split <;> split <;> omega
        have hs : slewE a b c d B y e = 0 := slewE_zero.2 ⟨ht, by omega, by omega⟩
        have ho : offI (timeI a b c d B - B) = 0 := offI_zero.2 (by omega)
        obtain ⟨T0, hT⟩ : ∃ T0, timeI a b c d B = T0 := ⟨_, rfl⟩
        have hS : Slewn B (T0 - B) y e m := ⟨by omega, by omega, hy1, he1, hm1⟩
        have hf : timeI B (T0 - B) y e B = T0 := by rw [time_first he1.1]; omega
        have f21 : F21 a b c d B y e = some (B, T0 - B, y, e, 0) := by rw [F21_eq, if_pos hs, if_pos ho, hT]
        have f22 : F22 a b c d B = some (T0, 0) := by rw [F22_eq, if_pos ht, hT]
        have f22' : F22 B (T0 - B) y e B = some (T0, 0) := by rw [F22_eq, if_pos (hS.tick ⟨Int.le_refl B, by omega⟩), hf]
        have f20 : F20 B (T0 - B) y e = some 0 := by rw [F20_eq, hS.clock]
        have hmid := slew_mid (n0 := n0) (n1 := n1) (n2 := n2) (n3 := n3) hS w1 hf.symm
        have hc1 := slew_c1 (n0 := n0) (n1 := n1) (n2 := n2) (n3 := n3) hS hf.symm 200 0 (by omega)
        have i1 : inI64 B := by unfold inI64; omega
        have i2 : inI64 y := by unfold inI64; omega
        have i3 : inI64 e := by unfold inI64; omega
        have i4 : inI64 m := by unfold inI64; omega
        have i5 : inI64 (B + 1) := by unfold inI64; omega
        simp only [B5, F20_eq a b c d, hc, i0, hb, ha, h7, e0, e1, e2, e3, hB, hy, he, hm, f21, f22, f22', f20, i1, i2, i3, i4, i5, sem_bind_some, sem_sees, sem_triv, sem_br, sem_ask, sem_nxt, PC.holds, need_true, bne_self_eq_false, Bool.false_eq_true, if_false, decide_false, stepO_nxt]
        rw [show B + ((0 : Nat) : Int) = B by omega, hf, show T0 / m - T0 / m = 0 by omega] at hc1
        rw [hc1]
        exact hmid
  · have hc' : (clockI a b c d != 0) = true := by simpa using hc
    simp only [B5, F20_eq, hc', h7, sem_bind_some, sem_sees, sem_br, sem_ret, if_true, stepO_ret]
end Go.Kv
