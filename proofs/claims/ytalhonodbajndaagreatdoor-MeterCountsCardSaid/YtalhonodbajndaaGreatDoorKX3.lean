/- A sample within its range: sixteen of it is exact; its floor and its integer are sixteen of it for the same samples. -/
import Derived.Test.YtalhonodbajndaaGreatDoorKX2
namespace Go.Kv
set_option linter.unusedVariables false
set_option linter.unusedSimpArgs false
open Go Go.RowKit
set_option maxRecDepth 100000
abbrev y16 (x : Nat) : Nat := fval .mul .f32 1098907648 x
abbrev z64 (x : Nat) : Nat := ftof .f32 (y16 x) .f64
abbrev t32 (x : Nat) : Nat := ftof .f64 (floorV (z64 x)) .f32
abbrev lvI (x : Nat) : Int := ftoi .f32 (y16 x) .i64
def notNan (z : Nat) : Bool := match FloatKind.f64.decode z with
  | .nan _ _ => false
  | _ => true
theorem sg_inj {s : Bool} {a b : Nat} : sg s a = sg s b ↔ a = b := by
  unfold sg
  cases s
  · simp only [Bool.false_eq_true, if_false]; omega
  · simp only [if_true]; omega
theorem sg_zero (s : Bool) : sg s 0 = 0 := by cases s <;> rfl
theorem sg_neg {s : Bool} {n : Nat} (h : 0 < n) : decide (sg s n < 0) = s := by
  unfold sg
  cases s
  · simp only [Bool.false_eq_true, if_false]; exact decide_eq_false (by omega)
  · simp only [if_true]; exact decide_eq_true (by omega)
theorem ftof_num {a b : FloatKind} (hab : a ≠ b) {x : Nat} {s : Bool} {m : Nat} {e : Int} (h : a.format.read x = .number s m e) {k : Nat} {q : Int} (hr : b.format.read (b.format.write (.number s m e)) = .number s k q) :
    ftofOk a x b = true ∧ ftof a x b = b.format.write (.number s m e) := by
  have h' : a.decode x = .number s m e := h
  have hi : (b.decode (b.encode (.number s m e))).isInfinity = false := by
    show (b.format.read (b.format.write (.number s m e))).isInfinity = false
    rw [hr]; rfl
  unfold ftofOk ftof floatToFloatBits
  rw [if_neg hab, h']
  simp only [hi, Bool.false_eq_true, if_false]
  exact ⟨rfl, rfl⟩
/-- A float32 number as a float64. -/
theorem toDbl {K : Nat} (hK : 1200 ≤ K) {x : Nat} {s : Bool} {m : Nat} {e : Int} (h : FS.read x = .number s m e) : ftofOk .f32 x .f64 = true ∧ ∃ k q, FD.read (ftof .f32 x .f64) = .number s k q ∧ mv K k q = mv K m e := by
  obtain ⟨b1, b2, b3⟩ := read_S h
  have hlog : 0 < m → m.log2 < 24 := fun hm => (Nat.log2_lt (by omega)).2 b1
  obtain ⟨k, q, h1, h2, h3⟩ := rw_val (f := FD) (s := s) (m := m) (p := e) (K := K) (by omega) (by rw [d_lp]; omega) (by rw [d_inf]; decide) (fun hm => by
    have := hlog hm
    left; rw [d_lp, d_fb]; omega) (fun hm => by
    have := hlog hm
    rw [d_lp, d_fb, d_bn, d_inf]
    have : ((max (e + (m.log2 : Int) - ((52 : Nat) : Int)) (-1074) - -1074).toNat + 2) ≤ 2000 := by omega
    exact Nat.le_trans (Nat.mul_le_mul_right _ this) (by decide))
  obtain ⟨c1, c2⟩ := ftof_num (a := .f32) (b := .f64) (by decide) h h1
  exact ⟨c1, k, q, by rw [c2]; exact h1, h3⟩
theorem read16 : FS.read 1098907648 = .number false 8388608 (-19) := by decide
theorem in_log {K : Nat} (hK : 1200 ≤ K) {m : Nat} {e : Int} (he : -149 ≤ e) (hm : 0 < m) (hr : mv K m e ≤ mv K 8388608 (-13)) : (m.log2 : Int) + e ≤ 10 := by
  have g1 := Nat.log2_self_le (n := m) (by omega)
  generalize m.log2 = L at *
  have a : 2 ^ (L + (e + K).toNat) ≤ 2 ^ (23 + (-13 + (K : Int)).toNat) := by
    calc 2 ^ (L + (e + K).toNat) = 2 ^ L * 2 ^ (e + K).toNat := Nat.pow_add ..
      _ ≤ m * 2 ^ (e + K).toNat := Nat.mul_le_mul_right _ g1
      _ ≤ 8388608 * 2 ^ (-13 + (K : Int)).toNat := hr
      _ = 2 ^ (23 + (-13 + (K : Int)).toNat) := (Nat.pow_add 2 23 _).symm
  have := (Nat.pow_le_pow_iff_right (by decide)).1 a
  omega
/-- Sixteen of a sample within its range. -/
theorem mul16 {K : Nat} (hK : 1200 ≤ K) {x : Nat} {s : Bool} {m : Nat} {e : Int} (h : FS.read x = .number s m e) (hr : mv K m e ≤ mv K 8388608 (-13)) :
    fok .mul .f32 1098907648 x = true ∧ ∃ k q, FS.read (y16 x) = .number s k q ∧ mv K k q = mv K m (e + 4) := by
  obtain ⟨b1, b2, b3⟩ := read_S h
  have hp : (FS.read 1098907648).product (FS.read x) = some (.number s (8388608 * m) (-19 + e)) := by
    rw [read16, h]; cases s <;> rfl
  have hv : mv K (8388608 * m) (-19 + e) = mv K m (e + 4) := by
    have := mv_up (K := K) (m := m) (r := 23) (e := -19 + e) (by omega)
    rw [Nat.mul_comm, show 8388608 = 2 ^ 23 from rfl, this]
    congr 1; omega
  have hlog : 0 < 8388608 * m → (8388608 * m).log2 = 23 + m.log2 ∧ (m.log2 : Int) + e ≤ 10 ∧ m.log2 < 24 := fun hm => by
    have hm' : 0 < m := by omega
    refine ⟨log2_of ?_ ?_, in_log hK b2 hm' hr, (Nat.log2_lt (by omega)).2 b1⟩
    · rw [Nat.pow_add]; exact Nat.mul_le_mul_left _ (Nat.log2_self_le (by omega))
    · rw [Nat.add_assoc, Nat.pow_add]; exact Nat.mul_lt_mul_of_pos_left Nat.lt_log2_self (by decide)
  obtain ⟨k, q, h1, h2, h3⟩ := rw_val (f := FS) (s := s) (m := 8388608 * m) (p := -19 + e) (K := K) (by omega) (by rw [s_lp]; omega) (by rw [s_inf]; decide) (fun hm => by
    obtain ⟨e1, e2, e3⟩ := hlog hm
    right
    rw [e1, s_lp, s_fb]
    refine Nat.dvd_trans (Nat.pow_dvd_pow 2 (n := 23) (by omega)) ?_
    exact Nat.dvd_mul_right _ _) (fun hm => by
    obtain ⟨e1, e2, e3⟩ := hlog hm
    rw [e1, s_lp, s_fb, s_bn, s_inf]
    have : ((max (-19 + e + ((23 + m.log2 : Nat) : Int) - ((23 : Nat) : Int)) (-149) - -149).toNat + 2) ≤ 250 := by omega
    exact Nat.le_trans (Nat.mul_le_mul_right _ this) (by decide))
  have hb : floatBits .mul .f32 1098907648 x = some (FS.write (.number s (8388608 * m) (-19 + e))) := by
    show ((FS.read 1098907648).product (FS.read x)).map FS.write = _
    rw [hp]; rfl
  refine ⟨?_, k, q, ?_, h3.trans hv⟩
  · unfold fok; rw [hb]; rfl
  · unfold y16 fval; rw [hb]; exact h1
theorem in_bd {K : Nat} (hK : 1200 ≤ K) {m : Nat} {e : Int} (he : -149 ≤ e) (hr : mv K m e ≤ mv K 8388608 (-13)) : mv K m (e + 4) ≤ 16384 * 2 ^ K := by
  have h1 : mv K m (e + 4) = mv K m e * 16 := by
    unfold mv
    rw [show (e + 4 + (K : Int)).toNat = (e + K).toNat + 4 by omega, Nat.pow_add, ← Nat.mul_assoc]
  have h2 : mv K 8388608 (-13) * 16 = 16384 * 2 ^ K := by
    unfold mv
    rw [show K = 13 + (-13 + (K : Int)).toNat by omega]
    generalize hj : (-13 + ((13 + (-13 + (K : Int)).toNat : Nat) : Int)).toNat = j
    have : (-13 + (K : Int)).toNat = j := by omega
    rw [this, Nat.pow_add]
    omega
  rw [h1, ← h2]; exact Nat.mul_le_mul_right _ hr
/-- What is looked at of a sample within its range. -/
theorem in_range {K : Nat} (hK : 1200 ≤ K) {x : Nat} {s : Bool} {m : Nat} {e : Int} (h : FS.read x = .number s m e) (hr : mv K m e ≤ mv K 8388608 (-13)) :
    fok .mul .f32 1098907648 x = true ∧ ftofOk .f32 (y16 x) .f64 = true ∧ notNan (z64 x) = true ∧ ftofOk .f64 (floorV (z64 x)) .f32 = true ∧ ftoiOk .f32 (y16 x) .i64 = true ∧
    (-16400 ≤ lvI x ∧ lvI x ≤ 16400) ∧ (FloatKind.f32.format.order (floatOfInt .f32 (lvI x)) (y16 x) == some .eq) = (FloatKind.f32.format.order (t32 x) (y16 x) == some .eq) := by
  obtain ⟨b1, b2, b3⟩ := read_S h
  obtain ⟨m1, ky, qy, hy, vy⟩ := mul16 hK h hr
  have bd := in_bd hK b2 hr
  rw [← vy] at bd
  obtain ⟨_, by2, _⟩ := read_S hy
  obtain ⟨d1, kz, qz, hz, vz⟩ := toDbl hK hy
  obtain ⟨_, bz2, _⟩ := read_D hz
  have pK : 0 < 2 ^ K := Nat.two_pow_pos _
  -- the floor
  obtain ⟨n1, c1, c2, c3⟩ := cut_int (way := .down) (.inl rfl) (s := s) (m := kz) (e := qz) (K := K) (by omega)
  obtain ⟨n2, c4, c5, c6⟩ := cut_int (way := .zero) (.inr rfl) (s := s) (m := ky) (e := qy) (K := K) (by omega)
  rw [vz] at c2 c3
  have bn1 : n1 ≤ 16385 := by
    have : n1 * 2 ^ K ≤ 16385 * 2 ^ K := by omega
    exact Nat.le_of_mul_le_mul_right this pK
  have bn2 : n2 ≤ 16385 := by
    have : n2 * 2 ^ K ≤ 16385 * 2 ^ K := by omega
    exact Nat.le_of_mul_le_mul_right this pK
  have hfl : floorV (z64 x) = FD.write (.number s n1 0) := by
    show FD.write ((FD.read (z64 x)).integral .down) = _
    rw [hz]
    show FD.write (.number s (Ieee.Toward.down.cut s (kz <<< qz.toNat) (-qz).toNat) 0) = _
    rw [c1]
  have mv0 (n : Nat) : mv K n 0 = n * 2 ^ K := by unfold mv; congr 2; omega
  obtain ⟨kw, qw, hw, w2, w3⟩ := rw_int (f := FD) (s := s) (k := n1) (n := n1) (q := 0) (K := K) (by omega) (by rw [d_lp]; decide) (by rw [d_lp]; omega) (mv0 n1) (Nat.lt_of_le_of_lt bn1 (by rw [d_fb]; decide)) (by rw [d_lp, d_bn, d_inf]; decide)
  rw [← hfl] at hw
  obtain ⟨kt, qt, ht, t2, t3⟩ := rw_int (f := FS) (s := s) (k := kw) (n := n1) (q := qw) (K := K) (by rw [d_lp] at w2; omega) (by rw [s_lp]; decide) (by rw [s_lp]; omega) w3 (Nat.lt_of_le_of_lt bn1 (by rw [s_fb]; decide)) (by rw [s_lp, s_bn, s_inf]; decide)
  obtain ⟨g1, g2⟩ := ftof_num (a := .f64) (b := .f32) (by decide) hw ht
  -- the integer
  have hti : floatToIntVal .f32 (y16 x) .i64 = some (sg s n2) := by
    have e1 : (FloatKind.f32.decode (y16 x)).toInt .zero = some (sg s n2) := by
      show (FS.read (y16 x)).toInt .zero = _
      rw [hy]
      show some (Ieee.signed s (Ieee.Toward.zero.cut s (ky <<< qy.toNat) (-qy).toNat) 0) = _
      rw [c4, signed_eq, Nat.pow_zero, Nat.mul_one]
    unfold floatToIntVal
    rw [e1]
    have : IntKind.i64.min ≤ sg s n2 ∧ sg s n2 ≤ IntKind.i64.max := by
      have a1 : IntKind.i64.min = -9223372036854775808 := by decide
      have a2 : IntKind.i64.max = 9223372036854775807 := by decide
      rw [a1, a2]
      unfold sg; cases s <;> simp <;> omega
    simp only [this, and_self, if_true]
  have hlv : lvI x = sg s n2 := by
    show (floatToIntVal .f32 (y16 x) .i64).getD 0 = _
    rw [hti]; rfl
  have hlb : -16400 ≤ sg s n2 ∧ sg s n2 ≤ 16400 := by unfold sg; cases s <;> simp <;> omega
  refine ⟨m1, d1, ?_, g1, ?_, by rw [hlv]; exact hlb, ?_⟩
  · have hz' : FloatKind.f64.decode (z64 x) = .number s kz qz := hz
    unfold notNan; rw [hz']
  · unfold ftoiOk; rw [hti]; rfl
  · -- both are sixteen of it or neither is
    have ht' : FS.read (t32 x) = .number s kt qt := by show FS.read (ftof .f64 (floorV (z64 x)) .f32) = _; rw [g2]; exact ht
    obtain ⟨ki, qi, hi, i2, i3⟩ := rw_int (f := FS) (s := decide (sg s n2 < 0)) (k := n2) (n := n2) (q := 0) (K := K) (by omega) (by rw [s_lp]; decide) (by rw [s_lp]; omega) (mv0 n2) (Nat.lt_of_le_of_lt bn2 (by rw [s_fb]; decide)) (by rw [s_lp, s_bn, s_inf]; decide)
    have hfi : FS.read (floatOfInt .f32 (lvI x)) = .number (decide (sg s n2 < 0)) ki qi := by
      rw [hlv]
      show FS.read (FS.write (.number (decide (sg s n2 < 0)) (sg s n2).natAbs 0)) = _
      rw [show (sg s n2).natAbs = n2 by unfold sg; cases s <;> simp]
      exact hi
    show ((FS.read (floatOfInt .f32 (lvI x))).order (FS.read (y16 x)) == some .eq) = ((FS.read (t32 x)).order (FS.read (y16 x)) == some .eq)
    rw [s_lp] at t2 i2
    rw [hfi, ht', hy, ord_num (K := K) (by omega) (by omega), ord_num (K := K) (by omega) (by omega), cmp_eq, cmp_eq, i3, t3]
    have q1 : (sg s (n1 * 2 ^ K) = sg s (mv K ky qy)) ↔ n1 * 2 ^ K = mv K ky qy := sg_inj
    have q2 : (sg (decide (sg s n2 < 0)) (n2 * 2 ^ K) = sg s (mv K ky qy)) ↔ n2 * 2 ^ K = mv K ky qy := by
      rcases Nat.eq_zero_or_pos n2 with h0 | h0
      · subst h0
        rw [Nat.zero_mul, sg_zero, ← sg_zero s]; exact sg_inj
      · rw [sg_neg h0]; exact sg_inj
    have : (sg (decide (sg s n2 < 0)) (n2 * 2 ^ K) = sg s (mv K ky qy)) ↔ (sg s (n1 * 2 ^ K) = sg s (mv K ky qy)) := by
      rw [q1, q2, c2, c5]
    exact decide_eq_decide.2 this
end Go.Kv
