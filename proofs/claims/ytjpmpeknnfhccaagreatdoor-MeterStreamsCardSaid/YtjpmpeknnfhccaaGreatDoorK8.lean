/- Unblocked, in plain Lean. -/
import Derived.Test.YtjpmpeknnfhccaaGreatDoorK8s
import Derived.Test.YtjpmpeknnfhccaaGreatDoorGE6
import Derived.Test.YtjpmpeknnfhccaaGreatDoorGE3
namespace Go.Kv
set_option linter.unusedVariables false
set_option linter.unusedSimpArgs false
open Go Go.RowKit
set_option maxRecDepth 100000
/-! bytes read -/
abbrev or8 (x c : Int) : Int := IntKind.i64.wrap (↑(BitVec.ofInt 64 (IntKind.i64.wrap (x * 256)) ||| BitVec.ofInt 64 (IntKind.i64.wrap c)).toNat : Int)
abbrev or0 (c : Int) : Int := IntKind.i64.wrap (↑(BitVec.ofInt 64 0 ||| BitVec.ofInt 64 (IntKind.i64.wrap c)).toNat : Int)
theorem bv_nat {n : Int} (h0 : 0 ≤ n) (h1 : n < 9223372036854775808) : (BitVec.ofInt 64 n).toNat = n.toNat := by
  rw [BitVec.toNat_ofInt]
  have : n % (2 ^ 64 : Nat) = n := Int.emod_eq_of_lt h0 (by omega)
  rw [this]
theorem or0_eq {c : Int} (h0 : 0 ≤ c) (h1 : c ≤ 255) : or0 c = c := by
  have e1 : IntKind.i64.wrap c = c := wrap_in (by unfold inI64; omega)
  have e2 : (BitVec.ofInt 64 0 ||| BitVec.ofInt 64 c) = BitVec.ofInt 64 c := by
    rw [show BitVec.ofInt 64 0 = 0#64 from rfl, BitVec.zero_or]
  unfold or0
  rw [e1, e2, bv_nat h0 (by omega), Int.toNat_of_nonneg h0, e1]
theorem or8_eq {x c : Int} (x0 : 0 ≤ x) (x1 : x ≤ 4294967296) (h0 : 0 ≤ c) (h1 : c ≤ 255) : or8 x c = 256 * x + c := by
  have e1 : IntKind.i64.wrap c = c := wrap_in (by unfold inI64; omega)
  have e2 : IntKind.i64.wrap (x * 256) = x * 256 := wrap_in (by unfold inI64; omega)
  unfold or8
  rw [e1, e2, BitVec.toNat_or, bv_nat (by omega) (by omega), bv_nat h0 (by omega)]
  have e3 : (x * 256).toNat = 2 ^ 8 * x.toNat := by omega
  have e4 : c.toNat < 2 ^ 8 := by omega
  rw [e3, ← Nat.two_pow_add_eq_or_of_lt e4]
  have e5 : ((2 ^ 8 * x.toNat + c.toNat : Nat) : Int) = 256 * x + c := by omega
  rw [e5]
  exact wrap_in (by unfold inI64; omega)
def by4 (a b c d : Int) : Int := 256 * (256 * (256 * a + b) + c) + d
def by3 (a b c : Int) : Int := 256 * (256 * a + b) + c
theorem or_4 {a b c d : Int} (ha : ByteI a) (hb : ByteI b) (hc : ByteI c) (hd : ByteI d) : or8 (or8 (or8 (or0 a) b) c) d = by4 a b c d := by
  unfold ByteI at *
  rw [or0_eq ha.1 ha.2, or8_eq (x := a) ha.1 (by omega) hb.1 hb.2, or8_eq (by omega) (by omega) hc.1 hc.2, or8_eq (by omega) (by omega) hd.1 hd.2]
  rfl
theorem or_3 {a b c : Int} (ha : ByteI a) (hb : ByteI b) (hc : ByteI c) : or8 (or8 (or0 a) b) c = by3 a b c := by
  unfold ByteI at *
  rw [or0_eq ha.1 ha.2, or8_eq (x := a) ha.1 (by omega) hb.1 hb.2, or8_eq (by omega) (by omega) hc.1 hc.2]
  rfl
theorem take4 {a b c d e f g h i j k l m n o p : Int} (ha : ByteI a) (hb : ByteI b) (hc : ByteI c) (hd : ByteI d) : F85 a b c d e f g h i j k l m n o p = some (by4 a b c d) := by
  unfold ByteI at *
  have w (x : Int) (h : 0 ≤ x ∧ x ≤ 255) : IntKind.i64.wrap x = x := wrap_in (by unfold inI64; omega)
  unfold F85; rw [res_eq]
  simp only [B85, w _ ha, w _ hb, w _ hc, w _ hd, Int.zero_add, sem_ask, sem_ret, PC.holds, stepO_ret]
  rw [need_of (by unfold inI64; omega), need_of (by unfold inI64; omega), need_of (by unfold inI64; omega), need_of (by unfold inI64; omega), need_of (by unfold inI64; omega), need_of (by unfold inI64; omega), need_of (by unfold inI64; omega)]
  rfl
theorem take4_1 {a b c d i j k l m n o p : Int} (ha : ByteI a) (hb : ByteI b) (hc : ByteI c) (hd : ByteI d) (x0 x1 x2 x3 : Int) : F85_1 x0 x1 x2 x3 a b c d i j k l m n o p = some (by4 a b c d) := by
  unfold ByteI at *
  have w (x : Int) (h : 0 ≤ x ∧ x ≤ 255) : IntKind.i64.wrap x = x := wrap_in (by unfold inI64; omega)
  unfold F85_1; rw [res_eq]
  simp only [B85_1, w _ ha, w _ hb, w _ hc, w _ hd, Int.zero_add, sem_ask, sem_ret, PC.holds, stepO_ret]
  rw [need_of (by unfold inI64; omega), need_of (by unfold inI64; omega), need_of (by unfold inI64; omega), need_of (by unfold inI64; omega), need_of (by unfold inI64; omega), need_of (by unfold inI64; omega), need_of (by unfold inI64; omega)]
  rfl
theorem take3_2 {a b c : Int} (ha : ByteI a) (hb : ByteI b) (hc : ByteI c) (x0 x1 x2 x3 x4 x5 x6 x7 y0 y1 y2 y3 y4 : Int) : F85_2 x0 x1 x2 x3 x4 x5 x6 x7 a b c y0 y1 y2 y3 y4 = some (by3 a b c) := by
  unfold ByteI at *
  have w (x : Int) (h : 0 ≤ x ∧ x ≤ 255) : IntKind.i64.wrap x = x := wrap_in (by unfold inI64; omega)
  unfold F85_2; rw [res_eq]
  simp only [B85_2, w _ ha, w _ hb, w _ hc, Int.zero_add, sem_ask, sem_ret, PC.holds, stepO_ret]
  rw [need_of (by unfold inI64; omega), need_of (by unfold inI64; omega), need_of (by unfold inI64; omega), need_of (by unfold inI64; omega), need_of (by unfold inI64; omega)]
  rfl
theorem take3_3 {a b c : Int} (ha : ByteI a) (hb : ByteI b) (hc : ByteI c) (x0 x1 x2 x3 x4 x5 x6 x7 x8 x9 x10 y0 y1 : Int) : F85_3 x0 x1 x2 x3 x4 x5 x6 x7 x8 x9 x10 a b c y0 y1 = some (by3 a b c) := by
  unfold ByteI at *
  have w (x : Int) (h : 0 ≤ x ∧ x ≤ 255) : IntKind.i64.wrap x = x := wrap_in (by unfold inI64; omega)
  unfold F85_3; rw [res_eq]
  simp only [B85_3, w _ ha, w _ hb, w _ hc, Int.zero_add, sem_ask, sem_ret, PC.holds, stepO_ret]
  rw [need_of (by unfold inI64; omega), need_of (by unfold inI64; omega), need_of (by unfold inI64; omega), need_of (by unfold inI64; omega), need_of (by unfold inI64; omega)]
  rfl
theorem take1_4 {a : Int} (ha : ByteI a) (x0 x1 x2 x3 x4 x5 x6 x7 x8 x9 x10 x11 x12 x13 y0 : Int) : F85_4 x0 x1 x2 x3 x4 x5 x6 x7 x8 x9 x10 x11 x12 x13 a y0 = some a := by
  unfold ByteI at *
  have w (x : Int) (h : 0 ≤ x ∧ x ≤ 255) : IntKind.i64.wrap x = x := wrap_in (by unfold inI64; omega)
  unfold F85_4; rw [res_eq]
  simp only [B85_4, w _ ha, Int.zero_add, sem_ask, sem_ret, PC.holds, stepO_ret]
  rw [need_of (by unfold inI64; omega)]
  rfl
def unbE (a b c d e f g h i j k l m n o p : Int) : Int := if p = 0 then entI (by4 a b c d) (by4 e f g h) (by3 i j k) (by3 l m n) o else 1
def unbI (a b c d e f g h i j k l m n o p : Int) : Int × Int × Int × Int × Int × Int := if unbE a b c d e f g h i j k l m n o p = 0 then (by4 a b c d, by4 e f g h, by3 i j k, by3 l m n, o, 0) else (0, 0, 0, 0, 0, unbE a b c d e f g h i j k l m n o p)
theorem F53_eq {a b c d e f g h i j k l m n o p : Int} (ha : ByteI a) (hb : ByteI b) (hc : ByteI c) (hd : ByteI d) (he : ByteI e) (hf : ByteI f) (hg : ByteI g) (hh : ByteI h) (hi : ByteI i) (hj : ByteI j) (hk : ByteI k) (hl : ByteI l) (hm : ByteI m) (hn : ByteI n) (ho : ByteI o) : F53 a b c d e f g h i j k l m n o p = some (unbI a b c d e f g h i j k l m n o p) := by
  unfold F53; rw [res_eq]
  by_cases hp : p = 0
  · have hE : unbE a b c d e f g h i j k l m n o p = entI (by4 a b c d) (by4 e f g h) (by3 i j k) (by3 l m n) o := by unfold unbE; rw [if_pos hp]
    unfold unbI
    rw [hE]
    subst hp
    by_cases h0 : entI (by4 a b c d) (by4 e f g h) (by3 i j k) (by3 l m n) o = 0
    · rw [if_pos h0]
      simp only [B53, take4 ha hb hc hd, take4_1 he hf hg hh, take3_2 hi hj hk, take3_3 hl hm hn, take1_4 ho, F49_eq, h0, sem_bind_some, sem_sees, sem_br, sem_ret, stepO_ret, bne_self_eq_false, Bool.false_eq_true, if_false]
    · have h0' : (entI (by4 a b c d) (by4 e f g h) (by3 i j k) (by3 l m n) o != 0) = true := by simpa using h0
      rw [if_neg h0]
      simp only [B53, take4 ha hb hc hd, take4_1 he hf hg hh, take3_2 hi hj hk, take3_3 hl hm hn, take1_4 ho, F49_eq, h0', sem_bind_some, sem_sees, sem_br, sem_ret, stepO_ret, bne_self_eq_false, Bool.false_eq_true, if_false, if_true]
  · have hp' : (p != 0) = true := by simpa using hp
    have hE : unbE a b c d e f g h i j k l m n o p = 1 := by unfold unbE; rw [if_neg hp]
    unfold unbI
    rw [hE, if_neg (by decide)]
    simp only [B53, hp', sem_br, sem_ret, stepO_ret, if_true]
theorem F16_eq {a b c d e f g h i j k l m n o p : Int} (ha : ByteI a) (hb : ByteI b) (hc : ByteI c) (hd : ByteI d) (he : ByteI e) (hf : ByteI f) (hg : ByteI g) (hh : ByteI h) (hi : ByteI i) (hj : ByteI j) (hk : ByteI k) (hl : ByteI l) (hm : ByteI m) (hn : ByteI n) (ho : ByteI o) : F16 a b c d e f g h i j k l m n o p = some (unbI a b c d e f g h i j k l m n o p) := by
  have e1 := or_4 ha hb hc hd
  have e2 := or_4 he hf hg hh
  have e3 := or_3 hi hj hk
  have e4 := or_3 hl hm hn
  have e5 := or0_eq ho.1 ho.2
  simp only [or8, or0] at e1 e2 e3 e4 e5
  unfold F16; rw [res_eq]
  have hE : firstI [whenI (p != 0) 1, entI (by4 a b c d) (by4 e f g h) (by3 i j k) (by3 l m n) o] = unbE a b c d e f g h i j k l m n o p := by
    unfold unbE whenI
    simp only [firstI]
    by_cases hp : p = 0
    · simp [hp]; intro hh; exact hh.symm
    · simp [hp]
  unfold unbI
  simp only [B16, e1, e2, e3, e4, e5, F55_eq, F43_eq, F54_eq, F42_2, hE, sem_bind_some, sem_sees, sem_br, sem_ret]
  by_cases h0 : unbE a b c d e f g h i j k l m n o p = 0
  · simp only [h0, bne_self_eq_false, Bool.false_eq_true, if_false, if_true, stepO_ret]
  · have h0' : (unbE a b c d e f g h i j k l m n o p != 0) = true := by simpa using h0
    simp only [h0, h0', if_true, if_false, stepO_ret]
end Go.Kv
