/- Small integers as floats: what is looked at of them, by the kernel. -/
import Derived.Test.YtnafdaccamncdaaGA
namespace Go.Kv
set_option linter.unusedVariables false
set_option linter.unusedSimpArgs false
open Go Go.RowKit Go.Proofs
set_option maxRecDepth 100000
theorem bits_run (y : Nat) : pureRun cfz.P (callFunc 67 #[.float .f64 y]) = some (.value (.int .u64 y)) := by kernel_rfl
theorem from_run (n : Int) : pureRun cfz.P (callFunc 66 #[.int .u64 n]) = some (.value (.float .f64 n.toNat)) := by kernel_rfl
def floorS (z : Nat) (d : Ieee.Datum) : Sem Value := match d with
  | .nan s t =>
    if FloatKind.f64.format.quiet t = t then pure (.float .f64 z) else do
    let kept ← choose (.extern "math.Floor,Ceil,Trunc,RoundToEven.signallingNaN kept" 2)
    pure (.float .f64 (if kept == 1 then z else FloatKind.f64.encode (.nan s (FloatKind.f64.format.quiet t))))
  | d => pure (.float .f64 (FloatKind.f64.encode (d.integral .down)))
theorem floor_run (z : Nat) : pureRun cfz.P (callFunc 64 #[.float .f64 z]) = pureRun cfz.P ((floorS z (FloatKind.f64.decode z)).bind fun v => .pure (.value v)) := by kernel_rfl
def notNan (z : Nat) : Bool := match FloatKind.f64.decode z with
  | .nan _ _ => false
  | _ => true
theorem ext_bits (y : Nat) : ∀ w : World, (callFunc 67 #[.float .f64 y]).run cfz.P w = .ok (.value (.int .u64 y)) w := fun w => pureRun_run (bits_run y) w
theorem ext_from (n : Int) : ∀ w : World, (callFunc 66 #[.int .u64 n]).run cfz.P w = .ok (.value (.float .f64 n.toNat)) w := fun w => pureRun_run (from_run n) w
theorem ext_floor {z : Nat} (h : notNan z = true) : ∀ w : World, (callFunc 64 #[.float .f64 z]).run cfz.P w = .ok (.value (.float .f64 (floorV z))) w := fun w => by
  refine pureRun_run ?_ w
  rw [floor_run]
  unfold floorV
  unfold notNan at h
  cases hd : FloatKind.f64.decode z with
  | nan s t => rw [hd] at h; simp at h
  | _ => rfl
/-- A sixteenth of an integer. -/
abbrev fl (a : Int) : Nat := fval .mul .f32 1031798784 (floatOfInt .f32 a)
abbrev d64 (a : Int) : Nat := ftof .f32 (fl a) .f64
abbrev m16 (a : Int) : Nat := fval .mul .f32 1098907648 (fl a)
abbrev m64 (a : Int) : Nat := ftof .f32 (m16 a) .f64
abbrev absV (y : Nat) : Nat := (IntKind.u64.wrap (↑(BitVec.ofInt 64 (↑y : Int) &&& ~~~BitVec.ofInt 64 9223372036854775808).toNat : Int)).toNat
structure FlOk (a : Int) : Prop where
  c1 : ftofOk .f32 (fl a) .f64 = true
  c2 : (FloatKind.f64.format.order (d64 a) (d64 a) != some .eq) = false
  c3 : (FloatKind.f64.format.order (absV (d64 a)) 9218868437227405311 == some .gt) = false
  c4 : (FloatKind.f32.format.order (fl a) (Op.negFloat .f32 1149239296) == some .lt) = false
  c5 : (FloatKind.f32.format.order (fl a) 1149239296 == some .gt) = false
  c6 : fok .mul .f32 1098907648 (fl a) = true
  c7 : ftofOk .f32 (m16 a) .f64 = true
  c8 : notNan (m64 a) = true
  c9 : ftofOk .f64 (floorV (m64 a)) .f32 = true
  c10 : (FloatKind.f32.format.order (ftof .f64 (floorV (m64 a)) .f32) (m16 a) != some .eq) = false
  c11 : ftoiOk .f32 (m16 a) .i64 = true
  c12 : ftoi .f32 (m16 a) .i64 = a
def chk (a : Int) : Bool := ftofOk .f32 (fl a) .f64 && (!(FloatKind.f64.format.order (d64 a) (d64 a) != some .eq) && (!(FloatKind.f64.format.order (absV (d64 a)) 9218868437227405311 == some .gt) &&
  (!(FloatKind.f32.format.order (fl a) (Op.negFloat .f32 1149239296) == some .lt) && (!(FloatKind.f32.format.order (fl a) 1149239296 == some .gt) && (fok .mul .f32 1098907648 (fl a) && (ftofOk .f32 (m16 a) .f64 && (notNan (m64 a) &&
  (ftofOk .f64 (floorV (m64 a)) .f32 && (!(FloatKind.f32.format.order (ftof .f64 (floorV (m64 a)) .f32) (m16 a) != some .eq) && (ftoiOk .f32 (m16 a) .i64 && decide (ftoi .f32 (m16 a) .i64 = a)))))))))))
theorem chk_ok {a : Int} (h : chk a = true) : FlOk a := by
  unfold chk at h
  simp only [Bool.and_eq_true, Bool.not_eq_true', decide_eq_true_eq] at h
  obtain ⟨h1, h2, h3, h4, h5, h6, h7, h8, h9, h10, h11, h12⟩ := h
  exact ⟨h1, h2, h3, h4, h5, h6, h7, h8, h9, h10, h11, h12⟩
theorem chk_all : ((List.range 8).all fun i => chk (1000 * (i : Int))) = true := by kernel_rfl
theorem flOk {k : Nat} (h : k ≤ 7) : FlOk (1000 * (k : Int)) := chk_ok (List.all_eq_true.1 chk_all k (List.mem_range.2 (by omega)))
theorem F17_eq0 (b : Bool) (e : Int) : F17 b e = some (if b then e else 0) := by
  unfold F17; rw [res_eq]; cases b <;> simp [B17, sem_br, sem_ret, stepO_ret]
theorem F54_eq (b : Bool) (e : Int) : F54 b e = some (if b then e else 0) := by
  unfold F54; rw [res_eq]; cases b <;> simp [B54, sem_br, sem_ret, stepO_ret]
theorem F63_eq (y : Nat) : F63 y = some (absV y) := by
  unfold F63; rw [res_eq]
  simp only [B63, sem_ask, sem_ret, PC.holds, need_of (ext_bits y), need_of (ext_from _), stepO_ret]
theorem F62_eq {z : Nat} (h : notNan z = true) : F62 z = some (floorV z) := by
  unfold F62; rw [res_eq]
  simp only [B62, sem_ask, sem_ret, PC.holds, need_of (ext_floor h), stepO_ret]
section
variable {a : Int}
theorem F55_fl (h : FlOk a) : F55 (fl a) = some false := by
  have e60 : F60 (d64 a) = some false := by
    unfold F60; rw [res_eq]
    simp only [B60, sem_ret, stepO_ret, h.c2]
  have e61 : F61 (d64 a) 0 = some false := by
    unfold F61; rw [res_eq]
    simp only [B61, F63_eq, sem_br, sem_bind_some, sem_sees, sem_triv, sem_ask, sem_ret, PC.holds, stepO_ret, h.c3, beq_self_eq_true, if_true]
  unfold F55; rw [res_eq]
  simp only [B55, e60, e61, h.c1, sem_br, sem_bind_some, sem_sees, sem_triv, sem_ask, sem_ret, PC.holds, need_true, beq_self_eq_true, Bool.false_eq_true, if_false, stepO_ret]
theorem F56_fl (h : FlOk a) : F56 (fl a) 1149239296 = some 0 := by
  unfold F56; rw [res_eq]
  simp only [B56, F62_eq h.c8, F54_eq, h.c4, h.c5, h.c6, h.c7, h.c9, h.c10, sem_br, sem_bind_some, sem_sees, sem_triv, sem_ask, sem_ret, PC.holds, need_true, beq_self_eq_true, Bool.false_eq_true, if_false, stepO_ret]
theorem F57_fl (h : FlOk a) : F57 (fl a) = some a := by
  unfold F57; rw [res_eq]
  simp only [B57, h.c6, h.c11, h.c12, sem_ask, sem_ret, PC.holds, need_true, stepO_ret]
end
end Go.Kv
