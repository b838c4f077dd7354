/- What the words of a binary format stand for, exactly: a number that has a word is read again from it. -/
import Derived.Test.YtalhonodbajndaaGreatDoorKvU
namespace Go.Kv
set_option linter.unusedVariables false
set_option linter.unusedSimpArgs false
open Go Go.RowKit
set_option maxRecDepth 100000
/-- A magnitude in units of 2 ^ -K. -/
def mv (K : Nat) (m : Nat) (e : Int) : Nat := m * 2 ^ (e + K).toNat
def sg (s : Bool) (a : Nat) : Int := if s then -(a : Int) else (a : Int)
theorem mv_up {K m r : Nat} {e : Int} (h : 0 ≤ e + K) : mv K (m * 2 ^ r) e = mv K m (e + r) := by
  unfold mv
  rw [show (e + r + K).toNat = r + (e + K).toNat by omega, Nat.pow_add, Nat.mul_assoc]
theorem sg_mul (s : Bool) (a c : Nat) : sg s (a * c) = sg s a * (c : Int) := by
  unfold sg; cases s <;> simp [Int.natCast_mul, Int.neg_mul]
theorem signed_eq (s : Bool) (m k : Nat) : Ieee.signed s m k = sg s (m * 2 ^ k) := by
  unfold Ieee.signed sg
  rw [Nat.shiftLeft_eq]
theorem cmp_mul {x y c : Int} (h : 0 < c) : compare (x * c) (y * c) = compare x y := by
  have h1 : x * c < y * c ↔ x < y := Int.mul_lt_mul_right h
  have h2 : x * c = y * c ↔ x = y := Int.mul_eq_mul_right_iff (Int.ne_of_gt h)
  simp only [compare, compareOfLessAndEq, h1, h2]
theorem ord_num {K : Nat} {s t : Bool} {m n : Nat} {e j : Int} (he : 0 ≤ e + K) (hj : 0 ≤ j + K) :
    Ieee.Datum.order (.number s m e) (.number t n j) = some (compare (sg s (mv K m e)) (sg t (mv K n j))) := by
  show some (compare (Ieee.signed s m (e - min e j).toNat) (Ieee.signed t n (j - min e j).toNat)) = _
  rw [signed_eq, signed_eq]
  have hb : 0 ≤ min e j + K := by omega
  have e1 : mv K m e = m * 2 ^ (e - min e j).toNat * 2 ^ (min e j + K).toNat := by
    unfold mv
    rw [show (e + K).toNat = (e - min e j).toNat + (min e j + K).toNat by omega, Nat.pow_add, Nat.mul_assoc]
  have e2 : mv K n j = n * 2 ^ (j - min e j).toNat * 2 ^ (min e j + K).toNat := by
    unfold mv
    rw [show (j + K).toNat = (j - min e j).toNat + (min e j + K).toNat by omega, Nat.pow_add, Nat.mul_assoc]
  rw [e1, e2, sg_mul s (m * 2 ^ (e - min e j).toNat), sg_mul t (n * 2 ^ (j - min e j).toNat), cmp_mul (by have : 0 < 2 ^ (min e j + K).toNat := Nat.two_pow_pos _; omega)]
theorem cmp_eq {x y : Int} : (some (compare x y) == some Ordering.eq) = decide (x = y) := by
  by_cases h : x = y
  · subst h; simp [compare, compareOfLessAndEq]
  · by_cases h2 : x < y
    · simp [compare, compareOfLessAndEq, h, h2]
    · simp [compare, compareOfLessAndEq, h, h2]
theorem cmp_lt {x y : Int} : (some (compare x y) == some Ordering.lt) = decide (x < y) := by
  by_cases h2 : x < y
  · simp [compare, compareOfLessAndEq, h2]
  · by_cases h : x = y
    · simp [compare, compareOfLessAndEq, h, h2]
    · simp [compare, compareOfLessAndEq, h, h2]
theorem cmp_gt {x y : Int} : (some (compare x y) == some Ordering.gt) = decide (y < x) := by
  by_cases h2 : x < y
  · have : ¬ (y < x) := by omega
    simp [compare, compareOfLessAndEq, h2, this]
  · by_cases h : x = y
    · subst h; simp [compare, compareOfLessAndEq]
    · have : y < x := by omega
      simp [compare, compareOfLessAndEq, h, h2, this]
section
variable {f : Ieee.Format}
theorem sw_pos : 0 < f.signWeight := Nat.two_pow_pos _
theorem read_word {s : Bool} {r : Nat} (hr : r < f.signWeight) : f.read (f.word s r) =
    if r < f.binade then .number s r f.leastPlace
    else if r < f.infRung then .number s (f.binade + r % f.binade) (f.leastPlace + (r / f.binade - 1 : Nat))
    else if r = f.infRung then .infinity s
    else .nan s (r - f.infRung) := by
  have h0 := sw_pos (f := f)
  have h1 : f.word s r % f.signWeight = r := by
    unfold Ieee.Format.word
    cases s
    · simp [Nat.mod_eq_of_lt hr]
    · simp [Nat.mod_eq_of_lt hr]
  have h2 : (f.word s r / f.signWeight % 2 == 1) = s := by
    unfold Ieee.Format.word
    cases s
    · simp [Nat.div_eq_of_lt hr]
    · simp [Nat.add_div_left _ h0, Nat.div_eq_of_lt hr]
  unfold Ieee.Format.read
  dsimp only
  rw [h1, h2]
theorem inf_lt_sw : f.infRung < f.signWeight := f.infRung_lt
/-- A rung below infinity is a number. -/
theorem read_rung {s : Bool} {k : Nat} {i : Nat} (hk : k < 2 * f.binade) (hi : i = 0 ∨ f.binade ≤ k) (hb : i * f.binade + k < f.infRung) : f.read (f.word s (i * f.binade + k)) = .number s k (f.leastPlace + (i : Int)) := by
  have hp : 0 < f.binade := Nat.two_pow_pos _
  rw [read_word (Nat.lt_trans hb inf_lt_sw)]
  by_cases h1 : i * f.binade + k < f.binade
  · rw [if_pos h1]
    have : i = 0 := by
      rcases hi with h | h
      · exact h
      · omega
    subst this
    simp
  · rw [if_neg h1, if_pos hb]
    have hkb : f.binade ≤ k := by
      rcases hi with h | h
      · subst h; omega
      · exact h
    have e1 : (i * f.binade + k) % f.binade = k - f.binade := by
      rw [show i * f.binade + k = k - f.binade + f.binade * (i + 1) by rw [Nat.mul_add, Nat.mul_comm i]; omega, Nat.add_mul_mod_self_left, Nat.mod_eq_of_lt (by omega)]
    have e2 : (i * f.binade + k) / f.binade = i + 1 := by
      rw [show i * f.binade + k = k - f.binade + f.binade * (i + 1) by rw [Nat.mul_add, Nat.mul_comm i]; omega, Nat.add_mul_div_left _ _ hp, Nat.div_eq_of_lt (by omega)]
      omega
    rw [e1, e2, show f.binade + (k - f.binade) = k by omega, Nat.add_sub_cancel]
/-- To the even one, where nothing is left over. -/
theorem cut_exact {neg : Bool} {n d : Nat} (hn : 0 < n) (h : 2 ^ d ∣ n) : Ieee.Toward.even.cut neg n d = n / 2 ^ d := by
  have hle : 2 ^ d ≤ n := Nat.le_of_dvd hn h
  have hd : d ≤ n.log2 := (Nat.le_log2 (by omega)).2 hle
  have hg : 1 <<< min d (n.log2 + 2) = 2 ^ d := by rw [Nat.min_eq_left (by omega), Nat.shiftLeft_eq, Nat.one_mul]
  unfold Ieee.Toward.cut
  dsimp only
  rw [hg, Nat.mod_eq_zero_of_dvd h]
  have hp : 0 < 2 ^ d := Nat.two_pow_pos _
  have h1 : (decide (2 ^ d < 2 * 0) || 2 ^ d == 2 * 0 && n / 2 ^ d % 2 == 1) = false := by
    have a : ¬ (2 ^ d < 2 * 0) := by omega
    have b : (2 ^ d == 2 * 0) = false := by simp
    simp
  rw [h1]; rfl
/-- A number that the format has is read again as it was. -/
theorem exact {s : Bool} {m : Nat} {p : Int} (hm : 0 < m) (hl : max (p + m.log2 - f.fractionBits) f.leastPlace ≤ p ∨ 2 ^ (max (p + m.log2 - f.fractionBits) f.leastPlace - p).toNat ∣ m)
    (hb : ((max (p + m.log2 - f.fractionBits) f.leastPlace - f.leastPlace).toNat + 2) * f.binade ≤ f.infRung) :
    ∃ k, f.read (f.write (.number s m p)) = .number s k (max (p + m.log2 - f.fractionBits) f.leastPlace) ∧ k < 2 * f.binade ∧ 0 < k ∧
      ∀ K : Nat, 0 ≤ p + K → 0 ≤ max (p + m.log2 - f.fractionBits) f.leastPlace + K → mv K k (max (p + m.log2 - f.fractionBits) f.leastPlace) = mv K m p := by
  have hlog := Nat.log2_self_le (n := m) (by omega)
  have hlog2 := Nat.lt_log2_self (n := m)
  generalize hL : m.log2 = L at *
  generalize hq : max (p + (L : Int) - f.fractionBits) f.leastPlace = q at *
  have hq1 : f.leastPlace ≤ q := by omega
  have hq2 : p + (L : Int) - f.fractionBits ≤ q := by omega
  have hp : 0 < f.binade := Nat.two_pow_pos _
  obtain ⟨k, hk, hkv⟩ : ∃ k, Ieee.Toward.even.cut s (m <<< (p - q).toNat) (q - p).toNat = k ∧ ((q ≤ p ∧ k = m * 2 ^ (p - q).toNat) ∨ (p < q ∧ k * 2 ^ (q - p).toNat = m)) := by
    refine ⟨_, rfl, ?_⟩
    by_cases h : q ≤ p
    · left
      refine ⟨h, ?_⟩
      rw [Nat.shiftLeft_eq, show (q - p).toNat = 0 by omega]
      rw [cut_exact (Nat.mul_pos hm (Nat.two_pow_pos _)) (Nat.one_dvd _)]
      simp
    · right
      have hd : 2 ^ (q - p).toNat ∣ m := by
        rcases hl with h' | h'
        · omega
        · exact h'
      refine ⟨by omega, ?_⟩
      rw [show (p - q).toNat = 0 by omega, Nat.shiftLeft_zero, cut_exact hm hd, Nat.div_mul_cancel hd]
  have hk0 : 0 < k := by
    rcases hkv with ⟨_, h⟩ | ⟨_, h⟩
    · rw [h]; exact Nat.mul_pos hm (Nat.two_pow_pos _)
    · rcases Nat.eq_zero_or_pos k with h' | h'
      · rw [h', Nat.zero_mul] at h; omega
      · exact h'
  have hfb : f.binade = 2 ^ f.fractionBits := rfl
  have hk2 : k < 2 * f.binade := by
    rw [hfb, ← Nat.pow_succ']
    rcases hkv with ⟨h1, h⟩ | ⟨h1, h⟩
    · rw [h]
      calc m * 2 ^ (p - q).toNat < 2 ^ (L + 1) * 2 ^ (p - q).toNat := Nat.mul_lt_mul_of_pos_right hlog2 (Nat.two_pow_pos _)
        _ = 2 ^ (L + 1 + (p - q).toNat) := (Nat.pow_add ..).symm
        _ ≤ 2 ^ (f.fractionBits + 1) := Nat.pow_le_pow_right (by decide) (by omega)
    · have : k * 2 ^ (q - p).toNat < 2 ^ (f.fractionBits + 1) * 2 ^ (q - p).toNat := by
        rw [h, ← Nat.pow_add]
        exact Nat.lt_of_lt_of_le hlog2 (Nat.pow_le_pow_right (by decide) (by omega))
      exact Nat.lt_of_mul_lt_mul_right this
  have hi : (q - f.leastPlace).toNat = 0 ∨ f.binade ≤ k := by
    by_cases h0 : q = f.leastPlace
    · left; omega
    · right
      have hqe : q = p + (L : Int) - f.fractionBits := by omega
      rw [hfb]
      rcases hkv with ⟨h1, h⟩ | ⟨h1, h⟩
      · rw [h]
        calc 2 ^ f.fractionBits = 2 ^ (L + (p - q).toNat) := by congr 1; omega
          _ = 2 ^ L * 2 ^ (p - q).toNat := Nat.pow_add ..
          _ ≤ m * 2 ^ (p - q).toNat := Nat.mul_le_mul_right _ hlog
      · have : 2 ^ f.fractionBits * 2 ^ (q - p).toNat ≤ k * 2 ^ (q - p).toNat := by
          rw [h, ← Nat.pow_add, show f.fractionBits + (q - p).toNat = L by omega]
          exact hlog
        exact Nat.le_of_mul_le_mul_right this (Nat.two_pow_pos _)
  have hr : (q - f.leastPlace).toNat * f.binade + k < f.infRung := by
    rw [Nat.add_mul] at hb; omega
  refine ⟨k, ?_, hk2, hk0, ?_⟩
  · show f.read (f.nearest s m p) = _
    unfold Ieee.Format.nearest
    rw [if_neg (by omega)]
    dsimp only
    rw [hL, hq, hk, Nat.min_eq_left (Nat.le_of_lt hr), read_rung hk2 hi hr]
    congr 1; omega
  · intro K h1 h2
    rcases hkv with ⟨h3, h⟩ | ⟨h3, h⟩
    · rw [h, mv_up h2]; congr 1; omega
    · rw [← h, mv_up h1]; congr 1; omega
end
end Go.Kv
