/- Blocks of 16 bytes, in plain Lean. -/
import Derived.Test.YtjpmpeknnfhccaaGreatDoorKE
namespace Go.Kv
set_option linter.unusedVariables false
set_option linter.unusedSimpArgs false
open Go Go.RowKit
set_option maxRecDepth 100000
theorem wrap_u8 (x : Int) : IntKind.u8.wrap x = x % 256 := by
  simp [IntKind.wrap, IntKind.signed, IntKind.bits]
abbrev T15 : Type := Int × Int × Int × Int × Int × Int × Int × Int × Int × Int × Int × Int × Int × Int × Int
def blk (a b c d m : Int) : T15 := (a / 16777216 % 256, a / 65536 % 256, a / 256 % 256, a % 256, b / 16777216 % 256, b / 65536 % 256, b / 256 % 256, b % 256, c / 65536 % 256, c / 256 % 256, c % 256, d / 65536 % 256, d / 256 % 256, d % 256, m % 256)
theorem F55_eq : F55 = some () := by unfold F55; rw [res_eq]; rfl
theorem F86_eq (a b c d m : Int) : F86 a b c d m = some a := by unfold F86; rw [res_eq]; rfl
theorem F88_eq (a b c d m : Int) : F88 a b c d m = some b := by unfold F88; rw [res_eq]; rfl
theorem F90_eq (a b c d m : Int) : F90 a b c d m = some c := by unfold F90; rw [res_eq]; rfl
theorem F92_eq (a b c d m : Int) : F92 a b c d m = some d := by unfold F92; rw [res_eq]; rfl
theorem F94_eq (a b c d m : Int) : F94 a b c d m = some m := by unfold F94; rw [res_eq]; rfl
theorem F41_eq {a b c d m : Int} (h : entI a b c d m = 0) : F41 a b c d m = some (blk a b c d m) := by
  obtain ⟨⟨a1, a2⟩, ⟨b1, b2⟩, ⟨c1, c2⟩, ⟨d1, d2⟩, ⟨m1, m2⟩⟩ := entI_zero.1 h
  unfold F41; rw [res_eq]
  have f (x k : Int) (hk : 0 ≤ k) : x.fdiv k = x / k := Int.fdiv_eq_ediv_of_nonneg x hk
  simp only [B41, F55_eq, F86_eq, F88_eq, F90_eq, F92_eq, F94_eq, sem_bind_some, sem_sees, sem_ret, stepO_ret, wrap_u8, f _ 16777216 (by decide), f _ 65536 (by decide), f _ 256 (by decide), f _ 1 (by decide), Int.ediv_one, blk]
theorem td {x k : Int} (h : 0 ≤ x) : x.tdiv k = x / k := Int.tdiv_eq_ediv_of_nonneg h
theorem tm {x k : Int} (h : 0 ≤ x) : x.tmod k = x % k := Int.tmod_eq_emod_of_nonneg h
theorem q4 {a : Int} (a1 : 0 ≤ a) : a / 256 / 256 = a / 65536 ∧ a / 256 / 256 / 256 = a / 16777216 := by omega
theorem in_a {a : Int} (a1 : 0 ≤ a) (a2 : a ≤ 999999999) : inI64 (a / 256) ∧ inI64 (a / 65536) ∧ inI64 (a / 16777216) ∧ inI64 (a / 16777216 / 256) := by unfold inI64; omega
theorem nn_a {a : Int} (a1 : 0 ≤ a) (a2 : a ≤ 999999999) : 0 ≤ a / 256 ∧ 0 ≤ a / 65536 ∧ 0 ≤ a / 16777216 := by omega
theorem put4 {a : Int} (a1 : 0 ≤ a) (a2 : a ≤ 999999999) : F83 a = some (a / 16777216 % 256, a / 65536 % 256, a / 256 % 256, a % 256) := by
  obtain ⟨i1, i2, i3, i4⟩ := in_a a1 a2
  obtain ⟨n1, n2, n3⟩ := nn_a a1 a2
  obtain ⟨q1, q2⟩ := q4 a1
  unfold F83; rw [res_eq]
  simp only [B83, sem_ask, sem_ret, PC.holds, td a1, td n1, td n2, td n3, tm a1, tm n1, tm n2, tm n3, q1, show a / 65536 / 256 = a / 16777216 by omega, i1, i2, i3, i4, need_true, stepO_ret, wrap_u8, Int.emod_emod_of_dvd _ (Int.dvd_refl 256)]
theorem put4_1 {a : Int} (a1 : 0 ≤ a) (a2 : a ≤ 999999999) (x0 x1 x2 x3 : Int) : F83_1 x0 x1 x2 x3 a = some (x0, x1, x2, x3, a / 16777216 % 256, a / 65536 % 256, a / 256 % 256, a % 256) := by
  obtain ⟨i1, i2, i3, i4⟩ := in_a a1 a2
  obtain ⟨n1, n2, n3⟩ := nn_a a1 a2
  obtain ⟨q1, q2⟩ := q4 a1
  unfold F83_1; rw [res_eq]
  simp only [B83_1, sem_ask, sem_ret, PC.holds, td a1, td n1, td n2, td n3, tm a1, tm n1, tm n2, tm n3, q1, show a / 65536 / 256 = a / 16777216 by omega, i1, i2, i3, i4, need_true, stepO_ret, wrap_u8, Int.emod_emod_of_dvd _ (Int.dvd_refl 256)]
theorem put3_2 {a : Int} (a1 : 0 ≤ a) (a2 : a ≤ 999999999) (x0 x1 x2 x3 x4 x5 x6 x7 : Int) : F83_2 x0 x1 x2 x3 x4 x5 x6 x7 a = some (x0, x1, x2, x3, x4, x5, x6, x7, a / 65536 % 256, a / 256 % 256, a % 256) := by
  obtain ⟨i1, i2, i3, i4⟩ := in_a a1 a2
  obtain ⟨n1, n2, n3⟩ := nn_a a1 a2
  obtain ⟨q1, q2⟩ := q4 a1
  unfold F83_2; rw [res_eq]
  simp only [B83_2, sem_ask, sem_ret, PC.holds, td a1, td n1, td n2, td n3, tm a1, tm n1, tm n2, tm n3, q1, show a / 65536 / 256 = a / 16777216 by omega, i1, i2, i3, i4, need_true, stepO_ret, wrap_u8, Int.emod_emod_of_dvd _ (Int.dvd_refl 256)]
theorem put3_3 {a : Int} (a1 : 0 ≤ a) (a2 : a ≤ 999999999) (x0 x1 x2 x3 x4 x5 x6 x7 x8 x9 x10 : Int) : F83_3 x0 x1 x2 x3 x4 x5 x6 x7 x8 x9 x10 a = some (x0, x1, x2, x3, x4, x5, x6, x7, x8, x9, x10, a / 65536 % 256, a / 256 % 256, a % 256) := by
  obtain ⟨i1, i2, i3, i4⟩ := in_a a1 a2
  obtain ⟨n1, n2, n3⟩ := nn_a a1 a2
  obtain ⟨q1, q2⟩ := q4 a1
  unfold F83_3; rw [res_eq]
  simp only [B83_3, sem_ask, sem_ret, PC.holds, td a1, td n1, td n2, td n3, tm a1, tm n1, tm n2, tm n3, q1, show a / 65536 / 256 = a / 16777216 by omega, i1, i2, i3, i4, need_true, stepO_ret, wrap_u8, Int.emod_emod_of_dvd _ (Int.dvd_refl 256)]
theorem put1_4 {a : Int} (a1 : 0 ≤ a) (a2 : a ≤ 999999999) (x0 x1 x2 x3 x4 x5 x6 x7 x8 x9 x10 x11 x12 x13 : Int) : F83_4 x0 x1 x2 x3 x4 x5 x6 x7 x8 x9 x10 x11 x12 x13 a = some (x0, x1, x2, x3, x4, x5, x6, x7, x8, x9, x10, x11, x12, x13, a % 256) := by
  obtain ⟨i1, i2, i3, i4⟩ := in_a a1 a2
  unfold F83_4; rw [res_eq]
  simp only [B83_4, sem_ask, sem_ret, PC.holds, td a1, tm a1, i1, need_true, stepO_ret, wrap_u8, Int.emod_emod_of_dvd _ (Int.dvd_refl 256)]
theorem F51_eq {a b c d m : Int} (h : entI a b c d m = 0) : F51 a b c d m = some (blk a b c d m) := by
  obtain ⟨⟨a1, a2⟩, ⟨b1, b2⟩, ⟨c1, c2⟩, ⟨d1, d2⟩, ⟨m1, m2⟩⟩ := entI_zero.1 h
  unfold F51; rw [res_eq]
  simp only [B51, put4 a1 a2, put4_1 b1 (show b ≤ 999999999 by omega), put3_2 c1 (show c ≤ 999999999 by omega), put3_3 d1 (show d ≤ 999999999 by omega), put1_4 m1 (show m ≤ 999999999 by omega), sem_bind_some, sem_sees, sem_ret, stepO_ret, blk]
def ByteI (a : Int) : Prop := 0 ≤ a ∧ a ≤ 255
end Go.Kv
