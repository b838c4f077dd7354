/- MeterBlocks, in plain Lean. -/
import Derived.Test.YtalhonodbajndaaGreatDoorKE
import Derived.Test.YtalhonodbajndaaGreatDoorG8
namespace Go.Kv
set_option linter.unusedVariables false
set_option linter.unusedSimpArgs false
open Go Go.RowKit
set_option maxRecDepth 100000
theorem wrap_u8 (x : Int) : IntKind.u8.wrap x = x % 256 := by
  simp [IntKind.wrap, IntKind.signed, IntKind.bits]
abbrev T15 : Type := Int × Int × Int × Int × Int × Int × Int × Int × Int × Int × Int × Int × Int × Int × Int
def blk (a b c d m : Int) : T15 := (a / 16777216 % 256, a / 65536 % 256, a / 256 % 256, a % 256, b / 16777216 % 256, b / 65536 % 256, b / 256 % 256, b % 256, c / 65536 % 256, c / 256 % 256, c % 256, d / 65536 % 256, d / 256 % 256, d % 256, m % 256)
theorem F98_eq : F98 = some () := by unfold F98; rw [res_eq]; rfl
theorem F120_eq (a b c d m : Int) : F120 a b c d m = some a := by unfold F120; rw [res_eq]; rfl
theorem F122_eq (a b c d m : Int) : F122 a b c d m = some b := by unfold F122; rw [res_eq]; rfl
theorem F124_eq (a b c d m : Int) : F124 a b c d m = some c := by unfold F124; rw [res_eq]; rfl
theorem F126_eq (a b c d m : Int) : F126 a b c d m = some d := by unfold F126; rw [res_eq]; rfl
theorem F128_eq (a b c d m : Int) : F128 a b c d m = some m := by unfold F128; rw [res_eq]; rfl
theorem F97_eq {a b c d m : Int} (h : entI a b c d m = 0) : F97 a b c d m = some (blk a b c d m) := by
  obtain ⟨⟨a1, a2⟩, ⟨b1, b2⟩, ⟨c1, c2⟩, ⟨d1, d2⟩, ⟨m1, m2⟩⟩ := entI_zero.1 h
  unfold F97; rw [res_eq]
  have f (x k : Int) (hk : 0 ≤ k) : x.fdiv k = x / k := Int.fdiv_eq_ediv_of_nonneg x hk
  simp only [B97, F98_eq, F120_eq, F122_eq, F124_eq, F126_eq, F128_eq, sem_bind_some, sem_sees, sem_ret, stepO_ret, wrap_u8, f _ 16777216 (by decide), f _ 65536 (by decide), f _ 256 (by decide), f _ 1 (by decide), Int.ediv_one, blk]
theorem td {x k : Int} (h : 0 ≤ x) : x.tdiv k = x / k := Int.tdiv_eq_ediv_of_nonneg h
theorem tm {x k : Int} (h : 0 ≤ x) : x.tmod k = x % k := Int.tmod_eq_emod_of_nonneg h
theorem q4 {a : Int} (a1 : 0 ≤ a) : a / 256 / 256 = a / 65536 ∧ a / 256 / 256 / 256 = a / 16777216 := by omega
theorem in_a {a : Int} (a1 : 0 ≤ a) (a2 : a ≤ 999999999) : inI64 (a / 256) ∧ inI64 (a / 65536) ∧ inI64 (a / 16777216) ∧ inI64 (a / 16777216 / 256) := by unfold inI64; omega
theorem nn_a {a : Int} (a1 : 0 ≤ a) (a2 : a ≤ 999999999) : 0 ≤ a / 256 ∧ 0 ≤ a / 65536 ∧ 0 ≤ a / 16777216 := by omega
theorem put4 {a : Int} (a1 : 0 ≤ a) (a2 : a ≤ 999999999) : F99 a = some (a / 16777216 % 256, a / 65536 % 256, a / 256 % 256, a % 256) := by
  obtain ⟨i1, i2, i3, i4⟩ := in_a a1 a2
  obtain ⟨n1, n2, n3⟩ := nn_a a1 a2
  obtain ⟨q1, q2⟩ := q4 a1
  unfold F99; rw [res_eq]
  simp only [B99, sem_ask, sem_ret, PC.holds, td a1, td n1, td n2, td n3, tm a1, tm n1, tm n2, tm n3, q1, show a / 65536 / 256 = a / 16777216 by omega, i1, i2, i3, i4, need_true, stepO_ret, wrap_u8, Int.emod_emod_of_dvd _ (Int.dvd_refl 256)]
theorem put4_1 {a : Int} (a1 : 0 ≤ a) (a2 : a ≤ 999999999) (x0 x1 x2 x3 : Int) : F99_1 x0 x1 x2 x3 a = some (x0, x1, x2, x3, a / 16777216 % 256, a / 65536 % 256, a / 256 % 256, a % 256) := by
  obtain ⟨i1, i2, i3, i4⟩ := in_a a1 a2
  obtain ⟨n1, n2, n3⟩ := nn_a a1 a2
  obtain ⟨q1, q2⟩ := q4 a1
  unfold F99_1; rw [res_eq]
  simp only [B99_1, sem_ask, sem_ret, PC.holds, td a1, td n1, td n2, td n3, tm a1, tm n1, tm n2, tm n3, q1, show a / 65536 / 256 = a / 16777216 by omega, i1, i2, i3, i4, need_true, stepO_ret, wrap_u8, Int.emod_emod_of_dvd _ (Int.dvd_refl 256)]
theorem put3_2 {a : Int} (a1 : 0 ≤ a) (a2 : a ≤ 999999999) (x0 x1 x2 x3 x4 x5 x6 x7 : Int) : F99_2 x0 x1 x2 x3 x4 x5 x6 x7 a = some (x0, x1, x2, x3, x4, x5, x6, x7, a / 65536 % 256, a / 256 % 256, a % 256) := by
  obtain ⟨i1, i2, i3, i4⟩ := in_a a1 a2
  obtain ⟨n1, n2, n3⟩ := nn_a a1 a2
  obtain ⟨q1, q2⟩ := q4 a1
  unfold F99_2; rw [res_eq]
  simp only [B99_2, sem_ask, sem_ret, PC.holds, td a1, td n1, td n2, td n3, tm a1, tm n1, tm n2, tm n3, q1, show a / 65536 / 256 = a / 16777216 by omega, i1, i2, i3, i4, need_true, stepO_ret, wrap_u8, Int.emod_emod_of_dvd _ (Int.dvd_refl 256)]
theorem put3_3 {a : Int} (a1 : 0 ≤ a) (a2 : a ≤ 999999999) (x0 x1 x2 x3 x4 x5 x6 x7 x8 x9 x10 : Int) : F99_3 x0 x1 x2 x3 x4 x5 x6 x7 x8 x9 x10 a = some (x0, x1, x2, x3, x4, x5, x6, x7, x8, x9, x10, a / 65536 % 256, a / 256 % 256, a % 256) := by
  obtain ⟨i1, i2, i3, i4⟩ := in_a a1 a2
  obtain ⟨n1, n2, n3⟩ := nn_a a1 a2
  obtain ⟨q1, q2⟩ := q4 a1
  unfold F99_3; rw [res_eq]
  simp only [B99_3, sem_ask, sem_ret, PC.holds, td a1, td n1, td n2, td n3, tm a1, tm n1, tm n2, tm n3, q1, show a / 65536 / 256 = a / 16777216 by omega, i1, i2, i3, i4, need_true, stepO_ret, wrap_u8, Int.emod_emod_of_dvd _ (Int.dvd_refl 256)]
theorem put1_4 {a : Int} (a1 : 0 ≤ a) (a2 : a ≤ 999999999) (x0 x1 x2 x3 x4 x5 x6 x7 x8 x9 x10 x11 x12 x13 : Int) : F99_4 x0 x1 x2 x3 x4 x5 x6 x7 x8 x9 x10 x11 x12 x13 a = some (x0, x1, x2, x3, x4, x5, x6, x7, x8, x9, x10, x11, x12, x13, a % 256) := by
  obtain ⟨i1, i2, i3, i4⟩ := in_a a1 a2
  unfold F99_4; rw [res_eq]
  simp only [B99_4, sem_ask, sem_ret, PC.holds, td a1, tm a1, i1, need_true, stepO_ret, wrap_u8, Int.emod_emod_of_dvd _ (Int.dvd_refl 256)]
theorem F53_eq {a b c d m : Int} (h : entI a b c d m = 0) : F53 a b c d m = some (blk a b c d m) := by
  obtain ⟨⟨a1, a2⟩, ⟨b1, b2⟩, ⟨c1, c2⟩, ⟨d1, d2⟩, ⟨m1, m2⟩⟩ := entI_zero.1 h
  unfold F53; rw [res_eq]
  simp only [B53, put4 a1 a2, put4_1 b1 (show b ≤ 999999999 by omega), put3_2 c1 (show c ≤ 999999999 by omega), put3_3 d1 (show d ≤ 999999999 by omega), put1_4 m1 (show m ≤ 999999999 by omega), sem_bind_some, sem_sees, sem_ret, stepO_ret, blk]
theorem F51_eq (a b c d m : Int) : F51 a b c d m = some (if entI a b c d m = 0 then
    (a / 16777216 % 256, a / 65536 % 256, a / 256 % 256, a % 256, b / 16777216 % 256, b / 65536 % 256, b / 256 % 256, b % 256, c / 65536 % 256, c / 256 % 256, c % 256, d / 65536 % 256, d / 256 % 256, d % 256, m % 256, 0) else (0, 0, 0, 0, 0, 0, 0, 0, 0, 0, 0, 0, 0, 0, 0, entI a b c d m)) := by
  unfold F51; rw [res_eq]
  by_cases h : entI a b c d m = 0
  · rw [if_pos h]
    simp only [B51, F28_eq, h, F97_eq h, sem_bind_some, sem_sees, sem_br, sem_ret, stepO_ret, bne_self_eq_false, Bool.false_eq_true, if_false, blk]
  · have h' : (entI a b c d m != 0) = true := by simpa using h
    rw [if_neg h]
    simp only [B51, F28_eq, h', sem_bind_some, sem_sees, sem_br, sem_ret, stepO_ret, if_true]

/-! bytes read -/
abbrev or8 (x c : Int) : Int := IntKind.i64.wrap (↑(BitVec.ofInt 64 (IntKind.i64.wrap (x * 256)) ||| BitVec.ofInt 64 (IntKind.i64.wrap c)).toNat : Int)
abbrev or0 (c : Int) : Int := IntKind.i64.wrap (↑(BitVec.ofInt 64 0 ||| BitVec.ofInt 64 (IntKind.i64.wrap c)).toNat : Int)
theorem bv_nat {n : Int} (h0 : 0 ≤ n) (h1 : n < 9223372036854775808) : (BitVec.ofInt 64 n).toNat = n.toNat := by
  rw [BitVec.toNat_ofInt]
  have : n % (2 ^ 64 : Nat) = n := Int.emod_eq_of_lt h0 (by omega)
  rw [this]
theorem or0_eq {c : Int} (h0 : 0 ≤ c) (h1 : c ≤ 255) : or0 c = c := by
  have e1 : IntKind.i64.wrap c = c := wrap_in (by unfold inI64; omega)
  have e2 : (BitVec.ofInt 64 0 ||| BitVec.ofInt 64 c) = BitVec.ofInt 64 c := by
    rw [show BitVec.ofInt 64 0 = 0#64 from rfl, BitVec.zero_or]
  unfold or0
  rw [e1, e2, bv_nat h0 (by omega), Int.toNat_of_nonneg h0, e1]
theorem or8_eq {x c : Int} (x0 : 0 ≤ x) (x1 : x ≤ 4294967296) (h0 : 0 ≤ c) (h1 : c ≤ 255) : or8 x c = 256 * x + c := by
  have e1 : IntKind.i64.wrap c = c := wrap_in (by unfold inI64; omega)
  have e2 : IntKind.i64.wrap (x * 256) = x * 256 := wrap_in (by unfold inI64; omega)
  unfold or8
  rw [e1, e2, BitVec.toNat_or, bv_nat (by omega) (by omega), bv_nat h0 (by omega)]
  have e3 : (x * 256).toNat = 2 ^ 8 * x.toNat := by omega
  have e4 : c.toNat < 2 ^ 8 := by omega
  rw [e3, ← Nat.two_pow_add_eq_or_of_lt e4]
  have e5 : ((2 ^ 8 * x.toNat + c.toNat : Nat) : Int) = 256 * x + c := by omega
  rw [e5]
  exact wrap_in (by unfold inI64; omega)
def by4 (a b c d : Int) : Int := 256 * (256 * (256 * a + b) + c) + d
def by3 (a b c : Int) : Int := 256 * (256 * a + b) + c
def ByteI (a : Int) : Prop := 0 ≤ a ∧ a ≤ 255
theorem or_4 {a b c d : Int} (ha : ByteI a) (hb : ByteI b) (hc : ByteI c) (hd : ByteI d) : or8 (or8 (or8 (or0 a) b) c) d = by4 a b c d := by
  unfold ByteI at *
  rw [or0_eq ha.1 ha.2, or8_eq (x := a) ha.1 (by omega) hb.1 hb.2, or8_eq (by omega) (by omega) hc.1 hc.2, or8_eq (by omega) (by omega) hd.1 hd.2]
  rfl
theorem or_3 {a b c : Int} (ha : ByteI a) (hb : ByteI b) (hc : ByteI c) : or8 (or8 (or0 a) b) c = by3 a b c := by
  unfold ByteI at *
  rw [or0_eq ha.1 ha.2, or8_eq (x := a) ha.1 (by omega) hb.1 hb.2, or8_eq (by omega) (by omega) hc.1 hc.2]
  rfl
theorem take4 {a b c d e f g h i j k l m n o p : Int} (ha : ByteI a) (hb : ByteI b) (hc : ByteI c) (hd : ByteI d) : F100 a b c d e f g h i j k l m n o p = some (by4 a b c d) := by
  unfold ByteI at *
  have w (x : Int) (h : 0 ≤ x ∧ x ≤ 255) : IntKind.i64.wrap x = x := wrap_in (by unfold inI64; omega)
  unfold F100; rw [res_eq]
  simp only [B100, w _ ha, w _ hb, w _ hc, w _ hd, Int.zero_add, sem_ask, sem_ret, PC.holds, stepO_ret]
  rw [need_of (by unfold inI64; omega), need_of (by unfold inI64; omega), need_of (by unfold inI64; omega), need_of (by unfold inI64; omega), need_of (by unfold inI64; omega), need_of (by unfold inI64; omega), need_of (by unfold inI64; omega)]
  rfl
theorem take4_1 {a b c d i j k l m n o p : Int} (ha : ByteI a) (hb : ByteI b) (hc : ByteI c) (hd : ByteI d) (x0 x1 x2 x3 : Int) : F100_1 x0 x1 x2 x3 a b c d i j k l m n o p = some (by4 a b c d) := by
  unfold ByteI at *
  have w (x : Int) (h : 0 ≤ x ∧ x ≤ 255) : IntKind.i64.wrap x = x := wrap_in (by unfold inI64; omega)
  unfold F100_1; rw [res_eq]
  simp only [B100_1, w _ ha, w _ hb, w _ hc, w _ hd, Int.zero_add, sem_ask, sem_ret, PC.holds, stepO_ret]
  rw [need_of (by unfold inI64; omega), need_of (by unfold inI64; omega), need_of (by unfold inI64; omega), need_of (by unfold inI64; omega), need_of (by unfold inI64; omega), need_of (by unfold inI64; omega), need_of (by unfold inI64; omega)]
  rfl
theorem take3_2 {a b c : Int} (ha : ByteI a) (hb : ByteI b) (hc : ByteI c) (x0 x1 x2 x3 x4 x5 x6 x7 y0 y1 y2 y3 y4 : Int) : F100_2 x0 x1 x2 x3 x4 x5 x6 x7 a b c y0 y1 y2 y3 y4 = some (by3 a b c) := by
  unfold ByteI at *
  have w (x : Int) (h : 0 ≤ x ∧ x ≤ 255) : IntKind.i64.wrap x = x := wrap_in (by unfold inI64; omega)
  unfold F100_2; rw [res_eq]
  simp only [B100_2, w _ ha, w _ hb, w _ hc, Int.zero_add, sem_ask, sem_ret, PC.holds, stepO_ret]
  rw [need_of (by unfold inI64; omega), need_of (by unfold inI64; omega), need_of (by unfold inI64; omega), need_of (by unfold inI64; omega), need_of (by unfold inI64; omega)]
  rfl
theorem take3_3 {a b c : Int} (ha : ByteI a) (hb : ByteI b) (hc : ByteI c) (x0 x1 x2 x3 x4 x5 x6 x7 x8 x9 x10 y0 y1 : Int) : F100_3 x0 x1 x2 x3 x4 x5 x6 x7 x8 x9 x10 a b c y0 y1 = some (by3 a b c) := by
  unfold ByteI at *
  have w (x : Int) (h : 0 ≤ x ∧ x ≤ 255) : IntKind.i64.wrap x = x := wrap_in (by unfold inI64; omega)
  unfold F100_3; rw [res_eq]
  simp only [B100_3, w _ ha, w _ hb, w _ hc, Int.zero_add, sem_ask, sem_ret, PC.holds, stepO_ret]
  rw [need_of (by unfold inI64; omega), need_of (by unfold inI64; omega), need_of (by unfold inI64; omega), need_of (by unfold inI64; omega), need_of (by unfold inI64; omega)]
  rfl
theorem take1_4 {a : Int} (ha : ByteI a) (x0 x1 x2 x3 x4 x5 x6 x7 x8 x9 x10 x11 x12 x13 y0 : Int) : F100_4 x0 x1 x2 x3 x4 x5 x6 x7 x8 x9 x10 x11 x12 x13 a y0 = some a := by
  unfold ByteI at *
  have w (x : Int) (h : 0 ≤ x ∧ x ≤ 255) : IntKind.i64.wrap x = x := wrap_in (by unfold inI64; omega)
  unfold F100_4; rw [res_eq]
  simp only [B100_4, w _ ha, Int.zero_add, sem_ask, sem_ret, PC.holds, stepO_ret]
  rw [need_of (by unfold inI64; omega)]
  rfl
def unbE (a b c d e f g h i j k l m n o p : Int) : Int := if p = 0 then entI (by4 a b c d) (by4 e f g h) (by3 i j k) (by3 l m n) o else 1
def unbI (a b c d e f g h i j k l m n o p : Int) : Int × Int × Int × Int × Int × Int := if unbE a b c d e f g h i j k l m n o p = 0 then (by4 a b c d, by4 e f g h, by3 i j k, by3 l m n, o, 0) else (0, 0, 0, 0, 0, unbE a b c d e f g h i j k l m n o p)
theorem F54_eq {a b c d e f g h i j k l m n o p : Int} (ha : ByteI a) (hb : ByteI b) (hc : ByteI c) (hd : ByteI d) (he : ByteI e) (hf : ByteI f) (hg : ByteI g) (hh : ByteI h) (hi : ByteI i) (hj : ByteI j) (hk : ByteI k) (hl : ByteI l) (hm : ByteI m) (hn : ByteI n) (ho : ByteI o) : F54 a b c d e f g h i j k l m n o p = some (unbI a b c d e f g h i j k l m n o p) := by
  unfold F54; rw [res_eq]
  by_cases hp : p = 0
  · have hE : unbE a b c d e f g h i j k l m n o p = entI (by4 a b c d) (by4 e f g h) (by3 i j k) (by3 l m n) o := by unfold unbE; rw [if_pos hp]
    unfold unbI
    rw [hE]
    subst hp
    by_cases h0 : entI (by4 a b c d) (by4 e f g h) (by3 i j k) (by3 l m n) o = 0
    · rw [if_pos h0]
      simp only [B54, take4 ha hb hc hd, take4_1 he hf hg hh, take3_2 hi hj hk, take3_3 hl hm hn, take1_4 ho, F26_eq, h0, sem_bind_some, sem_sees, sem_br, sem_ret, stepO_ret, bne_self_eq_false, Bool.false_eq_true, if_false]
    · have h0' : (entI (by4 a b c d) (by4 e f g h) (by3 i j k) (by3 l m n) o != 0) = true := by simpa using h0
      rw [if_neg h0]
      simp only [B54, take4 ha hb hc hd, take4_1 he hf hg hh, take3_2 hi hj hk, take3_3 hl hm hn, take1_4 ho, F26_eq, h0', sem_bind_some, sem_sees, sem_br, sem_ret, stepO_ret, bne_self_eq_false, Bool.false_eq_true, if_false, if_true]
  · have hp' : (p != 0) = true := by simpa using hp
    have hE : unbE a b c d e f g h i j k l m n o p = 1 := by unfold unbE; rw [if_neg hp]
    unfold unbI
    rw [hE, if_neg (by decide)]
    simp only [B54, hp', sem_br, sem_ret, stepO_ret, if_true]
theorem F52_eq {a b c d e f g h i j k l m n o p : Int} (ha : ByteI a) (hb : ByteI b) (hc : ByteI c) (hd : ByteI d) (he : ByteI e) (hf : ByteI f) (hg : ByteI g) (hh : ByteI h) (hi : ByteI i) (hj : ByteI j) (hk : ByteI k) (hl : ByteI l) (hm : ByteI m) (hn : ByteI n) (ho : ByteI o) : F52 a b c d e f g h i j k l m n o p = some (unbI a b c d e f g h i j k l m n o p) := by
  have e1 := or_4 ha hb hc hd
  have e2 := or_4 he hf hg hh
  have e3 := or_3 hi hj hk
  have e4 := or_3 hl hm hn
  have e5 := or0_eq ho.1 ho.2
  simp only [or8, or0] at e1 e2 e3 e4 e5
  unfold F52; rw [res_eq]
  have hE : firstI [whenI (p != 0) 1, entI (by4 a b c d) (by4 e f g h) (by3 i j k) (by3 l m n) o] = unbE a b c d e f g h i j k l m n o p := by
    unfold unbE whenI
    simp only [firstI]
    by_cases hp : p = 0
    · simp [hp]; intro hh; exact hh.symm
    · simp [hp]
  unfold unbI
  simp only [B52, e1, e2, e3, e4, e5, F98_eq, F77_eq, F28_eq, F75_2, hE, sem_bind_some, sem_sees, sem_br, sem_ret]
  by_cases h0 : unbE a b c d e f g h i j k l m n o p = 0
  · simp only [h0, bne_self_eq_false, Bool.false_eq_true, if_false, if_true, stepO_ret]
  · have h0' : (unbE a b c d e f g h i j k l m n o p != 0) = true := by simpa using h0
    simp only [h0, h0', if_true, if_false, stepO_ret]
theorem blocks_true {a b c d e f g h i j k l m n o p : Int} (ha : ByteI a) (hb : ByteI b) (hc : ByteI c) (hd : ByteI d) (he : ByteI e) (hf : ByteI f) (hg : ByteI g) (hh : ByteI h) (hi : ByteI i) (hj : ByteI j) (hk : ByteI k) (hl : ByteI l) (hm : ByteI m) (hn : ByteI n) (ho : ByteI o) (r s t u v : Int) : F8 r s t u v a b c d e f g h i j k l m n o p = some true := by
  have h12 : F12 = some true := rfl
  unfold F8; rw [res_eq]
  by_cases h0 : entI r s t u v = 0
  · simp only [B8, F51_eq, F52_eq ha hb hc hd he hf hg hh hi hj hk hl hm hn ho, F54_eq ha hb hc hd he hf hg hh hi hj hk hl hm hn ho, F26_eq, F53_eq h0, h0, h12, sem_bind_some, sem_sees, sem_triv, sem_br, sem_ret, stepO_ret, beq_self_eq_true, if_true, blk, Bool.and_true, Bool.true_and]
  · have h0' : (entI r s t u v == 0) = false := by simpa using h0
    simp only [B8, F51_eq, F52_eq ha hb hc hd he hf hg hh hi hj hk hl hm hn ho, F54_eq ha hb hc hd he hf hg hh hi hj hk hl hm hn ho, F26_eq, h0, h0', h12, sem_bind_some, sem_sees, sem_triv, sem_br, sem_ret, stepO_ret, beq_self_eq_true, if_true, if_false, Bool.false_eq_true, Bool.and_true, Bool.true_and]
end Go.Kv
