/- Words that are numbers or infinite, and what is looked at of them. -/
import Derived.Test.YtalhonodbajndaaGreatDoorKX3
namespace Go.Kv
set_option linter.unusedVariables false
set_option linter.unusedSimpArgs false
open Go Go.RowKit
set_option maxRecDepth 100000
abbrev absV (y : Nat) : Nat := (IntKind.u64.wrap (↑(BitVec.ofInt 64 (↑y : Int) &&& ~~~BitVec.ofInt 64 9223372036854775808).toNat : Int)).toNat
theorem read_max : FS.read 2139095039 = .number false 16777215 104 := by decide
theorem read_min : FS.read 4286578687 = .number true 16777215 104 := by decide
theorem read_maxD : FD.read 9218868437227405311 = .number false 9007199254740991 971 := by decide
theorem read_up : FS.read 1149239296 = .number false 8388608 (-13) := by decide
theorem read_dn : FS.read 3296722944 = .number true 8388608 (-13) := by decide
theorem absV_eq (y : Nat) : absV y = y % 9223372036854775808 := by
  unfold absV
  have h1 : (~~~BitVec.ofInt 64 9223372036854775808) = 9223372036854775807#64 := by decide
  have h2 : (BitVec.ofInt 64 (y : Int)).toNat = y % 18446744073709551616 := by
    rw [BitVec.ofInt_natCast, BitVec.toNat_ofNat]
  rw [h1, BitVec.toNat_and, h2, show (9223372036854775807#64).toNat = 2 ^ 63 - 1 from rfl, Nat.and_two_pow_sub_one_eq_mod]
  have h3 : y % 18446744073709551616 % 2 ^ 63 = y % 9223372036854775808 := by omega
  rw [h3]
  have h4 : IntKind.u64.wrap ((y % 9223372036854775808 : Nat) : Int) = ((y % 9223372036854775808 : Nat) : Int) := by
    have : (y % 9223372036854775808 : Nat) < 9223372036854775808 := Nat.mod_lt _ (by decide)
    generalize (y % 9223372036854775808 : Nat) = r at *
    simp only [IntKind.wrap, IntKind.signed, IntKind.bits]
    simp
    omega
  rw [h4, Int.toNat_natCast]
theorem read_abs {w : Nat} {s : Bool} {k : Nat} {q : Int} (h : FD.read w = .number s k q) : FD.read (absV w) = .number false k q := by
  rw [absV_eq]
  unfold Ieee.Format.read at h ⊢
  rw [d_sw] at h ⊢
  have h1 : w % 9223372036854775808 % 9223372036854775808 = w % 9223372036854775808 := Nat.mod_mod _ _
  have h2 : w % 9223372036854775808 / 9223372036854775808 = 0 := Nat.div_eq_of_lt (Nat.mod_lt _ (by decide))
  rw [h1, h2]
  dsimp only at h ⊢
  split at h
  · rename_i hc
    simp only [Ieee.Datum.number.injEq] at h
    rw [if_pos hc, h.2.1, h.2.2]; rfl
  · rename_i hc
    split at h
    · rename_i hd
      simp only [Ieee.Datum.number.injEq] at h
      rw [if_neg hc, if_pos hd, h.2.1, h.2.2]; rfl
    · split at h <;> simp at h
theorem mv_le {K m n : Nat} {e j : Int} (h1 : m ≤ n) (h2 : e ≤ j) : mv K m e ≤ mv K n j := by
  unfold mv
  exact Nat.mul_le_mul h1 (Nat.pow_le_pow_right (by decide) (by omega))
theorem sg_le {s : Bool} {a b : Nat} (h : a ≤ b) : ¬ ((b : Int) < sg s a) ∧ ¬ (sg s a < -(b : Int)) := by
  unfold sg; cases s
  · simp only [Bool.false_eq_true, if_false]; omega
  · simp only [if_true]; omega
theorem le_sg {s : Bool} {a b : Nat} (h1 : ¬ ((b : Int) < sg s a)) (h2 : ¬ (sg s a < -(b : Int))) : a ≤ b := by
  unfold sg at h1 h2; cases s
  · simp only [Bool.false_eq_true, if_false] at h1 h2; omega
  · simp only [if_true] at h1 h2; omega
theorem ord_self {f : Ieee.Format} {x : Nat} {s : Bool} {m : Nat} {e : Int} (h : f.read x = .number s m e) : (f.order x x != some .eq) = false := by
  show (! ((f.read x).order (f.read x) == some .eq)) = false
  rw [h, ord_num (K := (-e).toNat) (by omega) (by omega), cmp_eq]
  simp
structure Fin32 (x : Nat) : Prop where
  c1 : (FloatKind.f32.format.order x x != some .eq) = false
  c2 : (FloatKind.f32.format.order x 2139095039 == some .gt) = false
  c3 : (FloatKind.f32.format.order x 4286578687 == some .lt) = false
  c4 : ftofOk .f32 x .f64 = true
  c5 : (FloatKind.f64.format.order (ftof .f32 x .f64) (ftof .f32 x .f64) != some .eq) = false
  c6 : (FloatKind.f64.format.order (absV (ftof .f32 x .f64)) 9218868437227405311 == some .gt) = false
theorem fin32 {x : Nat} {s : Bool} {m : Nat} {e : Int} (h : FS.read x = .number s m e) : Fin32 x := by
  obtain ⟨b1, b2, b3⟩ := read_S h
  obtain ⟨d1, k, q, hk, hv⟩ := toDbl (K := 1200) (Nat.le_refl _) h
  obtain ⟨e1, e2, e3⟩ := read_D hk
  have l1 := sg_le (s := s) (mv_le (K := 1200) (m := m) (n := 16777215) (e := e) (j := 104) (by omega) b3)
  have l2 := sg_le (s := false) (mv_le (K := 1200) (m := k) (n := 9007199254740991) (e := q) (j := 971) (by omega) e3)
  refine ⟨ord_self h, ?_, ?_, d1, ord_self hk, ?_⟩
  · show ((FS.read x).order (FS.read 2139095039) == some .gt) = false
    rw [h, read_max, ord_num (K := 1200) (by omega) (by omega), cmp_gt]
    exact decide_eq_false l1.1
  · show ((FS.read x).order (FS.read 4286578687) == some .lt) = false
    rw [h, read_min, ord_num (K := 1200) (by omega) (by omega), cmp_lt]
    exact decide_eq_false l1.2
  · show ((FD.read (absV (ftof .f32 x .f64))).order (FD.read 9218868437227405311) == some .gt) = false
    rw [read_abs hk, read_maxD, ord_num (K := 1200) (by omega) (by omega), cmp_gt]
    exact decide_eq_false l2.1
/-- Not beyond 1024. -/
theorem in_mv {x : Nat} {s : Bool} {m : Nat} {e : Int} (h : FS.read x = .number s m e) (h1 : (FloatKind.f32.format.order x 3296722944 == some .lt) = false) (h2 : (FloatKind.f32.format.order x 1149239296 == some .gt) = false) : mv 1200 m e ≤ mv 1200 8388608 (-13) := by
  obtain ⟨b1, b2, b3⟩ := read_S h
  have g1 : ((FS.read x).order (FS.read 3296722944) == some .lt) = false := h1
  have g2 : ((FS.read x).order (FS.read 1149239296) == some .gt) = false := h2
  rw [h, read_dn, ord_num (K := 1200) (by omega) (by omega), cmp_lt] at g1
  rw [h, read_up, ord_num (K := 1200) (by omega) (by omega), cmp_gt] at g2
  exact le_sg (of_decide_eq_false g2) (of_decide_eq_false g1)
theorem inf_word {x : Nat} {s : Bool} (hx : x < 4294967296) (h : FS.read x = .infinity s) : x = 2139095040 ∨ x = 4286578688 := by
  unfold Ieee.Format.read at h
  rw [s_sw, s_bn, s_inf, s_lp] at h
  dsimp only at h
  split at h
  · simp at h
  · split at h
    · simp at h
    · split at h
      · omega
      · simp at h
end Go.Kv
