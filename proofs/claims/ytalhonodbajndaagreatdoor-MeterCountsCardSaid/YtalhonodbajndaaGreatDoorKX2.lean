/- A sample as a float: sixteen of it, its floor and its integer. -/
import Derived.Test.YtalhonodbajndaaGreatDoorKX1
namespace Go.Kv
set_option linter.unusedVariables false
set_option linter.unusedSimpArgs false
open Go Go.RowKit
set_option maxRecDepth 100000
abbrev FS : Ieee.Format := Ieee.single
abbrev FD : Ieee.Format := Ieee.double
theorem s_lp : FS.leastPlace = -149 := rfl
theorem d_lp : FD.leastPlace = -1074 := rfl
theorem s_fb : FS.fractionBits = 23 := rfl
theorem d_fb : FD.fractionBits = 52 := rfl
theorem s_bn : FS.binade = 8388608 := rfl
theorem d_bn : FD.binade = 4503599627370496 := rfl
theorem s_inf : FS.infRung = 2139095040 := rfl
theorem d_inf : FD.infRung = 9218868437227405312 := rfl
theorem s_sw : FS.signWeight = 2147483648 := rfl
theorem d_sw : FD.signWeight = 9223372036854775808 := rfl
theorem read_S {x : Nat} {s : Bool} {m : Nat} {e : Int} (h : FS.read x = .number s m e) : m < 16777216 ∧ -149 ≤ e ∧ e ≤ 104 := by
  unfold Ieee.Format.read at h
  rw [s_sw, s_bn, s_inf, s_lp] at h
  dsimp only at h
  split at h
  · simp only [Ieee.Datum.number.injEq] at h
    omega
  · split at h
    · simp only [Ieee.Datum.number.injEq] at h
      omega
    · split at h <;> simp at h
theorem read_D {x : Nat} {s : Bool} {m : Nat} {e : Int} (h : FD.read x = .number s m e) : m < 9007199254740992 ∧ -1074 ≤ e ∧ e ≤ 971 := by
  unfold Ieee.Format.read at h
  rw [d_sw, d_bn, d_inf, d_lp] at h
  dsimp only at h
  split at h
  · simp only [Ieee.Datum.number.injEq] at h
    omega
  · split at h
    · simp only [Ieee.Datum.number.injEq] at h
      omega
    · split at h <;> simp at h
section
variable {f : Ieee.Format}
theorem write_zero {s : Bool} {p : Int} (hb : 0 < f.infRung) : f.read (f.write (.number s 0 p)) = .number s 0 f.leastPlace := by
  show f.read (f.nearest s 0 p) = _
  unfold Ieee.Format.nearest
  rw [if_pos rfl]
  have h := read_rung (f := f) (s := s) (k := 0) (i := 0) (by have : 0 < f.binade := Nat.two_pow_pos _; omega) (.inl rfl) (by omega)
  rw [Nat.zero_mul] at h
  rw [h]; simp
/-- What is written exactly is read with the same value. -/
theorem rw_val {s : Bool} {m : Nat} {p : Int} {K : Nat} (h1 : 0 ≤ p + K) (h2 : 0 ≤ f.leastPlace + K) (hz : 0 < f.infRung)
    (hl : 0 < m → max (p + m.log2 - f.fractionBits) f.leastPlace ≤ p ∨ 2 ^ (max (p + m.log2 - f.fractionBits) f.leastPlace - p).toNat ∣ m)
    (hb : 0 < m → ((max (p + m.log2 - f.fractionBits) f.leastPlace - f.leastPlace).toNat + 2) * f.binade ≤ f.infRung) :
    ∃ k q, f.read (f.write (.number s m p)) = .number s k q ∧ f.leastPlace ≤ q ∧ mv K k q = mv K m p := by
  by_cases hm : m = 0
  · subst hm
    refine ⟨0, f.leastPlace, write_zero hz, Int.le_refl _, ?_⟩
    unfold mv; rw [Nat.zero_mul, Nat.zero_mul]
  · obtain ⟨k, h3, _, _, h4⟩ := exact (s := s) (Nat.pos_of_ne_zero hm) (hl (Nat.pos_of_ne_zero hm)) (hb (Nat.pos_of_ne_zero hm))
    exact ⟨k, _, h3, by omega, h4 K h1 (by omega)⟩
theorem log2_of {m L : Nat} (h1 : 2 ^ L ≤ m) (h2 : m < 2 ^ (L + 1)) : m.log2 = L := by
  have hm : m ≠ 0 := by have := Nat.two_pow_pos L; omega
  have a := (Nat.le_log2 hm).2 h1
  have b : m.log2 < L + 1 := (Nat.log2_lt hm).2 h2
  omega
/-- An integer that fits is written exactly, however it is given. -/
theorem rw_int {s : Bool} {k n : Nat} {q : Int} {K : Nat} (h1 : 0 ≤ q + K) (hlp : f.leastPlace ≤ 0) (h2 : 0 ≤ f.leastPlace + K) (hv : mv K k q = n * 2 ^ K) (hn : n < 2 ^ (f.fractionBits + 1))
    (hb : ((0 - f.leastPlace).toNat + 2) * f.binade ≤ f.infRung) : ∃ k' q', f.read (f.write (.number s k q)) = .number s k' q' ∧ f.leastPlace ≤ q' ∧ mv K k' q' = n * 2 ^ K := by
  have hbp : 0 < f.binade := Nat.two_pow_pos _
  have hz : 0 < f.infRung := by have : 0 < ((0 - f.leastPlace).toNat + 2) * f.binade := Nat.mul_pos (by omega) hbp; omega
  have key : 0 < k → max (q + k.log2 - f.fractionBits) f.leastPlace ≤ 0 ∧ (max (q + k.log2 - f.fractionBits) f.leastPlace ≤ q ∨ 2 ^ (max (q + k.log2 - f.fractionBits) f.leastPlace - q).toNat ∣ k) := by
    intro hk
    have g1 := Nat.log2_self_le (n := k) (by omega)
    have g2 := Nat.lt_log2_self (n := k)
    generalize k.log2 = L at *
    unfold mv at hv
    have u : q + (L : Int) < (f.fractionBits : Int) + 1 := by
      have a : 2 ^ (L + (q + K).toNat) < 2 ^ (f.fractionBits + 1 + K) := by
        calc 2 ^ (L + (q + K).toNat) = 2 ^ L * 2 ^ (q + K).toNat := Nat.pow_add ..
          _ ≤ k * 2 ^ (q + K).toNat := Nat.mul_le_mul_right _ g1
          _ = n * 2 ^ K := hv
          _ < 2 ^ (f.fractionBits + 1) * 2 ^ K := Nat.mul_lt_mul_of_pos_right hn (Nat.two_pow_pos _)
          _ = 2 ^ (f.fractionBits + 1 + K) := (Nat.pow_add ..).symm
      have := (Nat.pow_lt_pow_iff_right (by decide)).1 a
      omega
    refine ⟨by omega, ?_⟩
    generalize hw : max (q + (L : Int) - f.fractionBits) f.leastPlace = w at *
    by_cases hwq : w ≤ q
    · exact .inl hwq
    · right
      have hw0 : w ≤ 0 := by omega
      have e : k = n * 2 ^ (-q).toNat := by
        have : k * 2 ^ (q + K).toNat = n * 2 ^ (-q).toNat * 2 ^ (q + K).toNat := by
          rw [hv, Nat.mul_assoc, ← Nat.pow_add]; congr 2; omega
        exact Nat.mul_right_cancel (Nat.two_pow_pos _) this
      rw [e]
      exact Nat.dvd_trans (Nat.pow_dvd_pow 2 (by omega)) (Nat.dvd_mul_left _ _)
  obtain ⟨k', q', h3, h4, h5⟩ := rw_val (f := f) (s := s) (m := k) (p := q) (K := K) h1 h2 hz (fun hk => (key hk).2) (fun hk => by
    refine Nat.le_trans (Nat.mul_le_mul_right _ ?_) hb
    have := (key hk).1
    omega)
  exact ⟨k', q', h3, h4, h5.trans hv⟩
/-- Downwards or towards zero: the whole of a number, and when it is all of it. -/
theorem cut_int {way : Ieee.Toward} (hw : way = .down ∨ way = .zero) {s : Bool} {m : Nat} {e : Int} {K : Nat} (h1 : 0 ≤ e + K) :
    ∃ n, way.cut s (m <<< e.toNat) (-e).toNat = n ∧ (n * 2 ^ K = mv K m e ↔ 2 ^ K ∣ mv K m e) ∧ n * 2 ^ K ≤ mv K m e + 2 ^ K := by
  refine ⟨_, rfl, ?_⟩
  by_cases he : 0 ≤ e
  · have e1 : way.cut s (m <<< e.toNat) (-e).toNat = m * 2 ^ e.toNat := by
      rw [show (-e).toNat = 0 by omega, Nat.shiftLeft_eq]
      unfold Ieee.Toward.cut
      simp only [Nat.zero_min, Nat.shiftLeft_zero, Nat.div_one, Nat.mod_one]
      rcases hw with rfl | rfl
      · cases s <;> rfl
      · rfl
    have e2 : mv K m e = m * 2 ^ e.toNat * 2 ^ K := by
      unfold mv; rw [Nat.mul_assoc, ← Nat.pow_add]; congr 2; omega
    rw [e1, e2]
    exact ⟨⟨fun _ => Nat.dvd_mul_left _ _, fun _ => rfl⟩, Nat.le_add_right _ _⟩
  · have e0 : m <<< e.toNat = m := by rw [show e.toNat = 0 by omega, Nat.shiftLeft_zero]
    rw [e0]
    obtain ⟨d, hd⟩ : ∃ d, (-e).toNat = d := ⟨_, rfl⟩
    rw [hd]
    have hK : (e + K).toNat = K - d := by omega
    have hdK : d ≤ K := by omega
    have e2 : mv K m e = m * 2 ^ (K - d) := by unfold mv; rw [hK]
    have e3 : 2 ^ K = 2 ^ d * 2 ^ (K - d) := by rw [← Nat.pow_add]; congr 1; omega
    have pK : 0 < 2 ^ (K - d) := Nat.two_pow_pos _
    have dv : 2 ^ K ∣ mv K m e ↔ 2 ^ d ∣ m := by
      rw [e2, e3]; exact Nat.mul_dvd_mul_iff_right pK
    have eqv (n : Nat) : n * 2 ^ K = mv K m e ↔ n * 2 ^ d = m := by
      rw [e2, e3, ← Nat.mul_assoc]; exact ⟨fun h => Nat.mul_right_cancel pK h, fun h => by rw [h]⟩
    have leq (n : Nat) : n * 2 ^ K ≤ mv K m e + 2 ^ K ↔ n * 2 ^ d ≤ m + 2 ^ d := by
      rw [e2, e3, ← Nat.mul_assoc, ← Nat.add_mul]; exact Nat.mul_le_mul_right_iff pK
    rw [eqv, dv, leq]
    -- the cut
    have hgp : 0 < 1 <<< min d (m.log2 + 2) := by rw [Nat.shiftLeft_eq, Nat.one_mul]; exact Nat.two_pow_pos _
    have low : m / (1 <<< min d (m.log2 + 2)) * 2 ^ d ≤ m := by
      by_cases hc : d ≤ m.log2 + 2
      · rw [Nat.min_eq_left hc, Nat.shiftLeft_eq, Nat.one_mul]; exact Nat.div_mul_le_self _ _
      · rw [Nat.min_eq_right (by omega), Nat.shiftLeft_eq, Nat.one_mul, Nat.div_eq_of_lt, Nat.zero_mul]
        · exact Nat.zero_le _
        · exact Nat.lt_of_lt_of_le Nat.lt_log2_self (Nat.pow_le_pow_right (by decide) (by omega))
    have div : 2 ^ d ∣ m → m / (1 <<< min d (m.log2 + 2)) * 2 ^ d = m ∧ m % (1 <<< min d (m.log2 + 2)) = 0 := by
      intro h
      by_cases hm : m = 0
      · subst hm; simp
      · have hle : 2 ^ d ≤ m := Nat.le_of_dvd (Nat.pos_of_ne_zero hm) h
        have hdl : d ≤ m.log2 := (Nat.le_log2 hm).2 hle
        rw [Nat.min_eq_left (by omega), Nat.shiftLeft_eq, Nat.one_mul]
        exact ⟨Nat.div_mul_cancel h, Nat.mod_eq_zero_of_dvd h⟩
    unfold Ieee.Toward.cut
    dsimp only
    generalize 1 <<< min d (m.log2 + 2) = g at *
    rcases hw with rfl | rfl
    · dsimp only
      refine ⟨⟨fun h => ⟨_, (Nat.mul_comm _ _ ▸ h).symm⟩, fun h => ?_⟩, ?_⟩
      · obtain ⟨h3, h4⟩ := div h
        rw [h4]
        simpa using h3
      · have : (s && m % g != 0).toNat ≤ 1 := Bool.toNat_le _
        calc (m / g + (s && m % g != 0).toNat) * 2 ^ d = m / g * 2 ^ d + (s && m % g != 0).toNat * 2 ^ d := Nat.add_mul ..
          _ ≤ m + 1 * 2 ^ d := Nat.add_le_add low (Nat.mul_le_mul_right _ this)
          _ = m + 2 ^ d := by rw [Nat.one_mul]
    · dsimp only
      refine ⟨⟨fun h => ⟨_, (Nat.mul_comm _ _ ▸ h).symm⟩, fun h => ?_⟩, ?_⟩
      · obtain ⟨h3, h4⟩ := div h
        simpa using h3
      · simp only [Bool.toNat_false, Nat.add_zero]; omega
end
end Go.Kv
