/- One seal, in plain Lean. -/
import Derived.Test.YtjpmpeknnfhccaaGreatDoorK8s
namespace Go.Kv
set_option linter.unusedVariables false
set_option linter.unusedSimpArgs false
open Go Go.RowKit
set_option maxRecDepth 100000
abbrev T8 : Type := Int × Int × Int × Int × Int × Int × Int × Int
abbrev vB (n : Int) : DV := .v (.int .u8 n)
def stS (j x b : Int) : Int := ((2 * j + 3) * x + b + j) % 256
def fS (j x : Int) (ds : List Int) : Int := ds.foldl (stS j) x
theorem stS_b (j x b : Int) : ByteI (stS j x b) := by unfold stS ByteI; omega
theorem fS_b (j : Int) : ∀ (ds : List Int) (x : Int), ByteI x → ByteI (fS j x ds)
  | [], _, h => h
  | b :: ds, x, _ => fS_b j ds (stS j x b) (stS_b j x b)
theorem fS_at {ds : List Int} {i : Nat} (hi : i < ds.length) (j x : Int) : fS j x (ds.drop i) = fS j (stS j x ds[i]) (ds.drop (i + 1)) := by
  rw [List.drop_eq_getElem_cons hi]; rfl
theorem fS_end (ds : List Int) (j x : Int) : fS j x (ds.drop ds.length) = x := by rw [List.drop_length]; rfl
structure StOk (j x b : Int) : Prop where
  i1 : inI64 (2 * j)
  i2 : inI64 (2 * j + 3)
  i3 : inI64 ((2 * j + 3) * x)
  i4 : inI64 ((2 * j + 3) * x + b)
  i5 : inI64 ((2 * j + 3) * x + b + j)
  eq : ((2 * j + 3) * x + b + j).tmod 256 = stS j x b
theorem st_ok {j x b : Int} (hj : 0 ≤ j ∧ j ≤ 7) (hx : ByteI x) (hb : ByteI b) : StOk j x b := by
  unfold ByteI at *
  have p0 : 0 ≤ (2 * j + 3) * x := Int.mul_nonneg (by omega) hx.1
  have p1 : (2 * j + 3) * x ≤ 17 * 255 := Int.mul_le_mul (by omega) hx.2 hx.1 (by omega)
  refine ⟨by unfold inI64; omega, by unfold inI64; omega, by unfold inI64; omega, by unfold inI64; omega, by unfold inI64; omega, ?_⟩
  exact Int.tmod_eq_emod_of_nonneg (by omega)
structure B1 (D : List DV) (b : Int) (i : Nat) : Prop where
  c : dI (cel D (i * 1)) = b
  le : i * 1 ≤ D.length
  row : Option.map AV.d (List.drop (i * 1) D)[0]? = some (AV.d (DV.v (Value.int IntKind.u8 b)))
theorem b_at {ds : List Int} {i : Nat} (hi : i < ds.length) : B1 (ds.map vB) ds[i] i := by
  have e : (ds.map vB)[i]? = some (vB ds[i]) := by simp [hi]
  refine ⟨?_, by simp; omega, ?_⟩
  · unfold cel; rw [Nat.mul_one, List.getD_eq_getElem?_getD, e]; rfl
  · rw [Nat.mul_one, List.getElem?_drop, Nat.add_zero, e]; rfl
theorem wb {x : Int} (h : ByteI x) : IntKind.i64.wrap x = x := wrap_in (by unfold ByteI at h; unfold inI64; omega)
theorem wu {x : Int} (h : ByteI x) : IntKind.u8.wrap x = x := by rw [wrap_u8]; unfold ByteI at h; omega
def seal8 (k : T8) (ds : List Int) : T8 := (fS 0 k.1 ds, fS 1 k.2.1 ds, fS 2 k.2.2.1 ds, fS 3 k.2.2.2.1 ds, fS 4 k.2.2.2.2.1 ds, fS 5 k.2.2.2.2.2.1 ds, fS 6 k.2.2.2.2.2.2.1 ds, fS 7 k.2.2.2.2.2.2.2 ds)
section
variable {ds : List Int}
theorem rk143 (b0 b1 b2 b3 b4 b5 b6 b7 : Int) : refK 2 (ABlk.cells [AV.d (DV.v (Value.int IntKind.u8 b0)), AV.d (DV.v (Value.int IntKind.u8 b1)), AV.d (DV.v (Value.int IntKind.u8 b2)), AV.d (DV.v (Value.int IntKind.u8 b3)), AV.d (DV.v (Value.int IntKind.u8 b4)), AV.d (DV.v (Value.int IntKind.u8 b5)), AV.d (DV.v (Value.int IntKind.u8 b6)), AV.d (DV.v (Value.int IntKind.u8 b7))] 23) = true := rfl
theorem s143_c1 (hd : ∀ b ∈ ds, ByteI b) (hl : ds.length ≤ 1000) {j : Int} (hj : 0 ≤ j ∧ j ≤ 7) (a0 a1 a2 a3 a4 a5 a6 a7 : Int) (z : Int) : ∀ (k i : Nat) (x : Int), ds.length = i + k → ByteI x → res B82 (.c1 ds.length (ds.map vB) j x z (ds.length : Int) (i : Int) a0 a1 a2 a3 a4 a5 a6 a7) = res B82 (.c1 ds.length (ds.map vB) j (fS j x (ds.drop i)) z (ds.length : Int) (ds.length : Int) a0 a1 a2 a3 a4 a5 a6 a7)
  | 0, i, x, hk, _ => by
    have : i = ds.length := by omega
    subst this; rw [fS_end]
  | k + 1, i, x, hk, hx => by
    have hi : i < ds.length := by omega
    have A := b_at hi
    have hb := hd ds[i] (List.getElem_mem hi)
    have O := st_ok hj hx hb
    have ih := s143_c1 hd hl hj a0 a1 a2 a3 a4 a5 a6 a7 z k (i + 1) (stS j x ds[i]) (by omega) (stS_b _ _ _)
    have h1 : (i : Int) < (ds.length : Int) := by omega
    have hin : inI64 ((i : Int) + 1) := by unfold inI64; omega
    have w := wb hb
    rw [fS_at hi, ← ih, res_eq]
    simp only [B82, sem_br, sem_ask, sem_nxt, sem_triv, sem_ret, PC.holds, need_true, stepO_nxt, stepO_ret, Int.toNat_natCast, A.c, A.le, A.row, w, O.i1, O.i2, O.i3, O.i4, O.i5, O.eq, h1, hin, Int.natCast_nonneg, decide_true, if_true]
    rfl
theorem s143_c3 (hd : ∀ b ∈ ds, ByteI b) (hl : ds.length ≤ 1000) {j : Int} (hj : 0 ≤ j ∧ j ≤ 7) (a0 a1 a2 a3 a4 a5 a6 a7 : Int) (b0 b1 b2 b3 b4 b5 b6 b7 : Int) : ∀ (k i : Nat) (x : Int), ds.length = i + k → ByteI x → res B82 (.c3 ds.length (ds.map vB) j x (ds.length : Int) (i : Int) [AV.d (DV.v (Value.int IntKind.u8 b0)), AV.d (DV.v (Value.int IntKind.u8 b1)), AV.d (DV.v (Value.int IntKind.u8 b2)), AV.d (DV.v (Value.int IntKind.u8 b3)), AV.d (DV.v (Value.int IntKind.u8 b4)), AV.d (DV.v (Value.int IntKind.u8 b5)), AV.d (DV.v (Value.int IntKind.u8 b6)), AV.d (DV.v (Value.int IntKind.u8 b7))]) = res B82 (.c3 ds.length (ds.map vB) j (fS j x (ds.drop i)) (ds.length : Int) (ds.length : Int) [AV.d (DV.v (Value.int IntKind.u8 b0)), AV.d (DV.v (Value.int IntKind.u8 b1)), AV.d (DV.v (Value.int IntKind.u8 b2)), AV.d (DV.v (Value.int IntKind.u8 b3)), AV.d (DV.v (Value.int IntKind.u8 b4)), AV.d (DV.v (Value.int IntKind.u8 b5)), AV.d (DV.v (Value.int IntKind.u8 b6)), AV.d (DV.v (Value.int IntKind.u8 b7))])
  | 0, i, x, hk, _ => by
    have : i = ds.length := by omega
    subst this; rw [fS_end]
  | k + 1, i, x, hk, hx => by
    have hi : i < ds.length := by omega
    have A := b_at hi
    have hb := hd ds[i] (List.getElem_mem hi)
    have O := st_ok hj hx hb
    have ih := s143_c3 hd hl hj a0 a1 a2 a3 a4 a5 a6 a7 b0 b1 b2 b3 b4 b5 b6 b7 k (i + 1) (stS j x ds[i]) (by omega) (stS_b _ _ _)
    have h1 : (i : Int) < (ds.length : Int) := by omega
    have hin : inI64 ((i : Int) + 1) := by unfold inI64; omega
    have w := wb hb
    rw [fS_at hi, ← ih, res_eq]
    simp only [B82, sem_br, sem_ask, sem_nxt, sem_triv, sem_ret, PC.holds, need_true, stepO_nxt, stepO_ret, Int.toNat_natCast, A.c, A.le, A.row, w, O.i1, O.i2, O.i3, O.i4, O.i5, O.eq, h1, hin, Int.natCast_nonneg, decide_true, if_true, rk143 b0 b1 b2 b3 b4 b5 b6 b7]
    rfl
theorem s143_0 (hd : ∀ b ∈ ds, ByteI b) (hl : ds.length ≤ 1000) (a0 a1 a2 a3 a4 a5 a6 a7 : Int) (h : ByteI a0) : res B82 (.c1 ds.length (ds.map vB) 0 (IntKind.i64.wrap a0) 0 (ds.length : Int) 0 a0 a1 a2 a3 a4 a5 a6 a7) = res B82 (.c2 ds.length (ds.map vB) 1 [AV.d (DV.v (Value.int IntKind.u8 (fS 0 a0 ds))), AV.d (DV.v (Value.int IntKind.u8 a1)), AV.d (DV.v (Value.int IntKind.u8 a2)), AV.d (DV.v (Value.int IntKind.u8 a3)), AV.d (DV.v (Value.int IntKind.u8 a4)), AV.d (DV.v (Value.int IntKind.u8 a5)), AV.d (DV.v (Value.int IntKind.u8 a6)), AV.d (DV.v (Value.int IntKind.u8 a7))]) := by
  have e := s143_c1 hd hl (j := 0) ⟨by decide, by decide⟩ a0 a1 a2 a3 a4 a5 a6 a7 0 ds.length 0 a0 (by omega) h
  rw [wb h]
  refine Eq.trans e ?_
  have hw := wu (fS_b 0 ds a0 h)
  have n0 : ¬ ((ds.length : Int) < (ds.length : Int)) := Int.lt_irrefl _
  have sp : ∀ v, spliceA [AV.d (DV.v (Value.int IntKind.u8 a0)), AV.d (DV.v (Value.int IntKind.u8 a1)), AV.d (DV.v (Value.int IntKind.u8 a2)), AV.d (DV.v (Value.int IntKind.u8 a3)), AV.d (DV.v (Value.int IntKind.u8 a4)), AV.d (DV.v (Value.int IntKind.u8 a5)), AV.d (DV.v (Value.int IntKind.u8 a6)), AV.d (DV.v (Value.int IntKind.u8 a7))] (0 + Int.toNat 0 * 1) [v] = [v, AV.d (DV.v (Value.int IntKind.u8 a1)), AV.d (DV.v (Value.int IntKind.u8 a2)), AV.d (DV.v (Value.int IntKind.u8 a3)), AV.d (DV.v (Value.int IntKind.u8 a4)), AV.d (DV.v (Value.int IntKind.u8 a5)), AV.d (DV.v (Value.int IntKind.u8 a6)), AV.d (DV.v (Value.int IntKind.u8 a7))] := fun _ => rfl
  have q1 : (0 : Int) ≤ 0 := by decide
  have q2 : (0 : Int) < 8 := by decide
  have q3 : 0 + Int.toNat 0 * 1 + 1 ≤ 8 := by decide
  have q4 : inI64 (0 + 1) := by unfold inI64; omega
  have q5 := rk143 (fS 0 a0 ds) a1 a2 a3 a4 a5 a6 a7
  rw [res_eq]
  simp only [B82, sem_br, sem_ask, sem_nxt, sem_triv, sem_ret, PC.holds, need_true, stepO_nxt, stepO_ret, n0, List.drop_zero, hw, sp, q1, q2, q3, q4, q5, decide_false, Bool.false_eq_true, if_false]
  rfl
theorem s143_1 (hd : ∀ b ∈ ds, ByteI b) (hl : ds.length ≤ 1000) (a0 a1 a2 a3 a4 a5 a6 a7 b0 b1 b2 b3 b4 b5 b6 b7 : Int) (h : ByteI b1) : res B82 (.c2 ds.length (ds.map vB) 1 [AV.d (DV.v (Value.int IntKind.u8 b0)), AV.d (DV.v (Value.int IntKind.u8 b1)), AV.d (DV.v (Value.int IntKind.u8 b2)), AV.d (DV.v (Value.int IntKind.u8 b3)), AV.d (DV.v (Value.int IntKind.u8 b4)), AV.d (DV.v (Value.int IntKind.u8 b5)), AV.d (DV.v (Value.int IntKind.u8 b6)), AV.d (DV.v (Value.int IntKind.u8 b7))]) = res B82 (.c2 ds.length (ds.map vB) 2 [AV.d (DV.v (Value.int IntKind.u8 b0)), AV.d (DV.v (Value.int IntKind.u8 (fS 1 b1 ds))), AV.d (DV.v (Value.int IntKind.u8 b2)), AV.d (DV.v (Value.int IntKind.u8 b3)), AV.d (DV.v (Value.int IntKind.u8 b4)), AV.d (DV.v (Value.int IntKind.u8 b5)), AV.d (DV.v (Value.int IntKind.u8 b6)), AV.d (DV.v (Value.int IntKind.u8 b7))]) := by
  have e := s143_c3 hd hl (j := 1) ⟨by decide, by decide⟩ a0 a1 a2 a3 a4 a5 a6 a7 b0 b1 b2 b3 b4 b5 b6 b7 ds.length 0 b1 (by omega) h
  have ca : dI (celA [AV.d (DV.v (Value.int IntKind.u8 b0)), AV.d (DV.v (Value.int IntKind.u8 b1)), AV.d (DV.v (Value.int IntKind.u8 b2)), AV.d (DV.v (Value.int IntKind.u8 b3)), AV.d (DV.v (Value.int IntKind.u8 b4)), AV.d (DV.v (Value.int IntKind.u8 b5)), AV.d (DV.v (Value.int IntKind.u8 b6)), AV.d (DV.v (Value.int IntKind.u8 b7))] (0 + Int.toNat 1 * 1)) = b1 := rfl
  have cg : ([AV.d (DV.v (Value.int IntKind.u8 b0)), AV.d (DV.v (Value.int IntKind.u8 b1)), AV.d (DV.v (Value.int IntKind.u8 b2)), AV.d (DV.v (Value.int IntKind.u8 b3)), AV.d (DV.v (Value.int IntKind.u8 b4)), AV.d (DV.v (Value.int IntKind.u8 b5)), AV.d (DV.v (Value.int IntKind.u8 b6)), AV.d (DV.v (Value.int IntKind.u8 b7))] : List AV)[0 + Int.toNat 1 * 1]? = some (AV.d (DV.v (Value.int IntKind.u8 b1))) := rfl
  have hw := wu (fS_b 1 ds b1 h)
  have w := wb h
  have n0 : ¬ ((ds.length : Int) < (ds.length : Int)) := Int.lt_irrefl _
  have sp : ∀ v, spliceA [AV.d (DV.v (Value.int IntKind.u8 b0)), AV.d (DV.v (Value.int IntKind.u8 b1)), AV.d (DV.v (Value.int IntKind.u8 b2)), AV.d (DV.v (Value.int IntKind.u8 b3)), AV.d (DV.v (Value.int IntKind.u8 b4)), AV.d (DV.v (Value.int IntKind.u8 b5)), AV.d (DV.v (Value.int IntKind.u8 b6)), AV.d (DV.v (Value.int IntKind.u8 b7))] (0 + Int.toNat 1 * 1) [v] = [AV.d (DV.v (Value.int IntKind.u8 b0)), v, AV.d (DV.v (Value.int IntKind.u8 b2)), AV.d (DV.v (Value.int IntKind.u8 b3)), AV.d (DV.v (Value.int IntKind.u8 b4)), AV.d (DV.v (Value.int IntKind.u8 b5)), AV.d (DV.v (Value.int IntKind.u8 b6)), AV.d (DV.v (Value.int IntKind.u8 b7))] := fun _ => rfl
  have q1 : (0 : Int) ≤ 1 := by decide
  have q2 : (1 : Int) < 8 := by decide
  have q3 : 0 + Int.toNat 1 * 1 + 1 ≤ ([AV.d (DV.v (Value.int IntKind.u8 b0)), AV.d (DV.v (Value.int IntKind.u8 b1)), AV.d (DV.v (Value.int IntKind.u8 b2)), AV.d (DV.v (Value.int IntKind.u8 b3)), AV.d (DV.v (Value.int IntKind.u8 b4)), AV.d (DV.v (Value.int IntKind.u8 b5)), AV.d (DV.v (Value.int IntKind.u8 b6)), AV.d (DV.v (Value.int IntKind.u8 b7))] : List AV).length := Nat.le_of_ble_eq_true rfl
  have q4 : inI64 (1 + 1) := by unfold inI64; omega
  have q5 := rk143 b0 b1 b2 b3 b4 b5 b6 b7
  have q6 := rk143 b0 (fS 1 b1 ds) b2 b3 b4 b5 b6 b7
  have e1 : res B82 (.c2 ds.length (ds.map vB) 1 [AV.d (DV.v (Value.int IntKind.u8 b0)), AV.d (DV.v (Value.int IntKind.u8 b1)), AV.d (DV.v (Value.int IntKind.u8 b2)), AV.d (DV.v (Value.int IntKind.u8 b3)), AV.d (DV.v (Value.int IntKind.u8 b4)), AV.d (DV.v (Value.int IntKind.u8 b5)), AV.d (DV.v (Value.int IntKind.u8 b6)), AV.d (DV.v (Value.int IntKind.u8 b7))]) = res B82 (.c3 ds.length (ds.map vB) 1 b1 (ds.length : Int) 0 [AV.d (DV.v (Value.int IntKind.u8 b0)), AV.d (DV.v (Value.int IntKind.u8 b1)), AV.d (DV.v (Value.int IntKind.u8 b2)), AV.d (DV.v (Value.int IntKind.u8 b3)), AV.d (DV.v (Value.int IntKind.u8 b4)), AV.d (DV.v (Value.int IntKind.u8 b5)), AV.d (DV.v (Value.int IntKind.u8 b6)), AV.d (DV.v (Value.int IntKind.u8 b7))]) := by
    rw [res_eq]
    simp only [B82, sem_br, sem_ask, sem_nxt, sem_triv, sem_ret, PC.holds, need_true, stepO_nxt, stepO_ret, ca, cg, w, q1, q2, q5, decide_true, if_true]
  rw [e1]
  refine Eq.trans e ?_
  rw [res_eq]
  simp only [B82, sem_br, sem_ask, sem_nxt, sem_triv, sem_ret, PC.holds, need_true, stepO_nxt, stepO_ret, n0, List.drop_zero, hw, sp, q1, q2, q3, q4, q6, decide_false, Bool.false_eq_true, if_false]
  rfl
theorem s143_2 (hd : ∀ b ∈ ds, ByteI b) (hl : ds.length ≤ 1000) (a0 a1 a2 a3 a4 a5 a6 a7 b0 b1 b2 b3 b4 b5 b6 b7 : Int) (h : ByteI b2) : res B82 (.c2 ds.length (ds.map vB) 2 [AV.d (DV.v (Value.int IntKind.u8 b0)), AV.d (DV.v (Value.int IntKind.u8 b1)), AV.d (DV.v (Value.int IntKind.u8 b2)), AV.d (DV.v (Value.int IntKind.u8 b3)), AV.d (DV.v (Value.int IntKind.u8 b4)), AV.d (DV.v (Value.int IntKind.u8 b5)), AV.d (DV.v (Value.int IntKind.u8 b6)), AV.d (DV.v (Value.int IntKind.u8 b7))]) = res B82 (.c2 ds.length (ds.map vB) 3 [AV.d (DV.v (Value.int IntKind.u8 b0)), AV.d (DV.v (Value.int IntKind.u8 b1)), AV.d (DV.v (Value.int IntKind.u8 (fS 2 b2 ds))), AV.d (DV.v (Value.int IntKind.u8 b3)), AV.d (DV.v (Value.int IntKind.u8 b4)), AV.d (DV.v (Value.int IntKind.u8 b5)), AV.d (DV.v (Value.int IntKind.u8 b6)), AV.d (DV.v (Value.int IntKind.u8 b7))]) := by
  have e := s143_c3 hd hl (j := 2) ⟨by decide, by decide⟩ a0 a1 a2 a3 a4 a5 a6 a7 b0 b1 b2 b3 b4 b5 b6 b7 ds.length 0 b2 (by omega) h
  have ca : dI (celA [AV.d (DV.v (Value.int IntKind.u8 b0)), AV.d (DV.v (Value.int IntKind.u8 b1)), AV.d (DV.v (Value.int IntKind.u8 b2)), AV.d (DV.v (Value.int IntKind.u8 b3)), AV.d (DV.v (Value.int IntKind.u8 b4)), AV.d (DV.v (Value.int IntKind.u8 b5)), AV.d (DV.v (Value.int IntKind.u8 b6)), AV.d (DV.v (Value.int IntKind.u8 b7))] (0 + Int.toNat 2 * 1)) = b2 := rfl
  have cg : ([AV.d (DV.v (Value.int IntKind.u8 b0)), AV.d (DV.v (Value.int IntKind.u8 b1)), AV.d (DV.v (Value.int IntKind.u8 b2)), AV.d (DV.v (Value.int IntKind.u8 b3)), AV.d (DV.v (Value.int IntKind.u8 b4)), AV.d (DV.v (Value.int IntKind.u8 b5)), AV.d (DV.v (Value.int IntKind.u8 b6)), AV.d (DV.v (Value.int IntKind.u8 b7))] : List AV)[0 + Int.toNat 2 * 1]? = some (AV.d (DV.v (Value.int IntKind.u8 b2))) := rfl
  have hw := wu (fS_b 2 ds b2 h)
  have w := wb h
  have n0 : ¬ ((ds.length : Int) < (ds.length : Int)) := Int.lt_irrefl _
  have sp : ∀ v, spliceA [AV.d (DV.v (Value.int IntKind.u8 b0)), AV.d (DV.v (Value.int IntKind.u8 b1)), AV.d (DV.v (Value.int IntKind.u8 b2)), AV.d (DV.v (Value.int IntKind.u8 b3)), AV.d (DV.v (Value.int IntKind.u8 b4)), AV.d (DV.v (Value.int IntKind.u8 b5)), AV.d (DV.v (Value.int IntKind.u8 b6)), AV.d (DV.v (Value.int IntKind.u8 b7))] (0 + Int.toNat 2 * 1) [v] = [AV.d (DV.v (Value.int IntKind.u8 b0)), AV.d (DV.v (Value.int IntKind.u8 b1)), v, AV.d (DV.v (Value.int IntKind.u8 b3)), AV.d (DV.v (Value.int IntKind.u8 b4)), AV.d (DV.v (Value.int IntKind.u8 b5)), AV.d (DV.v (Value.int IntKind.u8 b6)), AV.d (DV.v (Value.int IntKind.u8 b7))] := fun _ => rfl
  have q1 : (0 : Int) ≤ 2 := by decide
  have q2 : (2 : Int) < 8 := by decide
  have q3 : 0 + Int.toNat 2 * 1 + 1 ≤ ([AV.d (DV.v (Value.int IntKind.u8 b0)), AV.d (DV.v (Value.int IntKind.u8 b1)), AV.d (DV.v (Value.int IntKind.u8 b2)), AV.d (DV.v (Value.int IntKind.u8 b3)), AV.d (DV.v (Value.int IntKind.u8 b4)), AV.d (DV.v (Value.int IntKind.u8 b5)), AV.d (DV.v (Value.int IntKind.u8 b6)), AV.d (DV.v (Value.int IntKind.u8 b7))] : List AV).length := Nat.le_of_ble_eq_true rfl
  have q4 : inI64 (2 + 1) := by unfold inI64; omega
  have q5 := rk143 b0 b1 b2 b3 b4 b5 b6 b7
  have q6 := rk143 b0 b1 (fS 2 b2 ds) b3 b4 b5 b6 b7
  have e1 : res B82 (.c2 ds.length (ds.map vB) 2 [AV.d (DV.v (Value.int IntKind.u8 b0)), AV.d (DV.v (Value.int IntKind.u8 b1)), AV.d (DV.v (Value.int IntKind.u8 b2)), AV.d (DV.v (Value.int IntKind.u8 b3)), AV.d (DV.v (Value.int IntKind.u8 b4)), AV.d (DV.v (Value.int IntKind.u8 b5)), AV.d (DV.v (Value.int IntKind.u8 b6)), AV.d (DV.v (Value.int IntKind.u8 b7))]) = res B82 (.c3 ds.length (ds.map vB) 2 b2 (ds.length : Int) 0 [AV.d (DV.v (Value.int IntKind.u8 b0)), AV.d (DV.v (Value.int IntKind.u8 b1)), AV.d (DV.v (Value.int IntKind.u8 b2)), AV.d (DV.v (Value.int IntKind.u8 b3)), AV.d (DV.v (Value.int IntKind.u8 b4)), AV.d (DV.v (Value.int IntKind.u8 b5)), AV.d (DV.v (Value.int IntKind.u8 b6)), AV.d (DV.v (Value.int IntKind.u8 b7))]) := by
    rw [res_eq]
    simp only [B82, sem_br, sem_ask, sem_nxt, sem_triv, sem_ret, PC.holds, need_true, stepO_nxt, stepO_ret, ca, cg, w, q1, q2, q5, decide_true, if_true]
  rw [e1]
  refine Eq.trans e ?_
  rw [res_eq]
  simp only [B82, sem_br, sem_ask, sem_nxt, sem_triv, sem_ret, PC.holds, need_true, stepO_nxt, stepO_ret, n0, List.drop_zero, hw, sp, q1, q2, q3, q4, q6, decide_false, Bool.false_eq_true, if_false]
  rfl
theorem s143_3 (hd : ∀ b ∈ ds, ByteI b) (hl : ds.length ≤ 1000) (a0 a1 a2 a3 a4 a5 a6 a7 b0 b1 b2 b3 b4 b5 b6 b7 : Int) (h : ByteI b3) : res B82 (.c2 ds.length (ds.map vB) 3 [AV.d (DV.v (Value.int IntKind.u8 b0)), AV.d (DV.v (Value.int IntKind.u8 b1)), AV.d (DV.v (Value.int IntKind.u8 b2)), AV.d (DV.v (Value.int IntKind.u8 b3)), AV.d (DV.v (Value.int IntKind.u8 b4)), AV.d (DV.v (Value.int IntKind.u8 b5)), AV.d (DV.v (Value.int IntKind.u8 b6)), AV.d (DV.v (Value.int IntKind.u8 b7))]) = res B82 (.c2 ds.length (ds.map vB) 4 [AV.d (DV.v (Value.int IntKind.u8 b0)), AV.d (DV.v (Value.int IntKind.u8 b1)), AV.d (DV.v (Value.int IntKind.u8 b2)), AV.d (DV.v (Value.int IntKind.u8 (fS 3 b3 ds))), AV.d (DV.v (Value.int IntKind.u8 b4)), AV.d (DV.v (Value.int IntKind.u8 b5)), AV.d (DV.v (Value.int IntKind.u8 b6)), AV.d (DV.v (Value.int IntKind.u8 b7))]) := by
  have e := s143_c3 hd hl (j := 3) ⟨by decide, by decide⟩ a0 a1 a2 a3 a4 a5 a6 a7 b0 b1 b2 b3 b4 b5 b6 b7 ds.length 0 b3 (by omega) h
  have ca : dI (celA [AV.d (DV.v (Value.int IntKind.u8 b0)), AV.d (DV.v (Value.int IntKind.u8 b1)), AV.d (DV.v (Value.int IntKind.u8 b2)), AV.d (DV.v (Value.int IntKind.u8 b3)), AV.d (DV.v (Value.int IntKind.u8 b4)), AV.d (DV.v (Value.int IntKind.u8 b5)), AV.d (DV.v (Value.int IntKind.u8 b6)), AV.d (DV.v (Value.int IntKind.u8 b7))] (0 + Int.toNat 3 * 1)) = b3 := rfl
  have cg : ([AV.d (DV.v (Value.int IntKind.u8 b0)), AV.d (DV.v (Value.int IntKind.u8 b1)), AV.d (DV.v (Value.int IntKind.u8 b2)), AV.d (DV.v (Value.int IntKind.u8 b3)), AV.d (DV.v (Value.int IntKind.u8 b4)), AV.d (DV.v (Value.int IntKind.u8 b5)), AV.d (DV.v (Value.int IntKind.u8 b6)), AV.d (DV.v (Value.int IntKind.u8 b7))] : List AV)[0 + Int.toNat 3 * 1]? = some (AV.d (DV.v (Value.int IntKind.u8 b3))) := rfl
  have hw := wu (fS_b 3 ds b3 h)
  have w := wb h
  have n0 : ¬ ((ds.length : Int) < (ds.length : Int)) := Int.lt_irrefl _
  have sp : ∀ v, spliceA [AV.d (DV.v (Value.int IntKind.u8 b0)), AV.d (DV.v (Value.int IntKind.u8 b1)), AV.d (DV.v (Value.int IntKind.u8 b2)), AV.d (DV.v (Value.int IntKind.u8 b3)), AV.d (DV.v (Value.int IntKind.u8 b4)), AV.d (DV.v (Value.int IntKind.u8 b5)), AV.d (DV.v (Value.int IntKind.u8 b6)), AV.d (DV.v (Value.int IntKind.u8 b7))] (0 + Int.toNat 3 * 1) [v] = [AV.d (DV.v (Value.int IntKind.u8 b0)), AV.d (DV.v (Value.int IntKind.u8 b1)), AV.d (DV.v (Value.int IntKind.u8 b2)), v, AV.d (DV.v (Value.int IntKind.u8 b4)), AV.d (DV.v (Value.int IntKind.u8 b5)), AV.d (DV.v (Value.int IntKind.u8 b6)), AV.d (DV.v (Value.int IntKind.u8 b7))] := fun _ => rfl
  have q1 : (0 : Int) ≤ 3 := by decide
  have q2 : (3 : Int) < 8 := by decide
  have q3 : 0 + Int.toNat 3 * 1 + 1 ≤ ([AV.d (DV.v (Value.int IntKind.u8 b0)), AV.d (DV.v (Value.int IntKind.u8 b1)), AV.d (DV.v (Value.int IntKind.u8 b2)), AV.d (DV.v (Value.int IntKind.u8 b3)), AV.d (DV.v (Value.int IntKind.u8 b4)), AV.d (DV.v (Value.int IntKind.u8 b5)), AV.d (DV.v (Value.int IntKind.u8 b6)), AV.d (DV.v (Value.int IntKind.u8 b7))] : List AV).length := Nat.le_of_ble_eq_true rfl
  have q4 : inI64 (3 + 1) := by unfold inI64; omega
  have q5 := rk143 b0 b1 b2 b3 b4 b5 b6 b7
  have q6 := rk143 b0 b1 b2 (fS 3 b3 ds) b4 b5 b6 b7
  have e1 : res B82 (.c2 ds.length (ds.map vB) 3 [AV.d (DV.v (Value.int IntKind.u8 b0)), AV.d (DV.v (Value.int IntKind.u8 b1)), AV.d (DV.v (Value.int IntKind.u8 b2)), AV.d (DV.v (Value.int IntKind.u8 b3)), AV.d (DV.v (Value.int IntKind.u8 b4)), AV.d (DV.v (Value.int IntKind.u8 b5)), AV.d (DV.v (Value.int IntKind.u8 b6)), AV.d (DV.v (Value.int IntKind.u8 b7))]) = res B82 (.c3 ds.length (ds.map vB) 3 b3 (ds.length : Int) 0 [AV.d (DV.v (Value.int IntKind.u8 b0)), AV.d (DV.v (Value.int IntKind.u8 b1)), AV.d (DV.v (Value.int IntKind.u8 b2)), AV.d (DV.v (Value.int IntKind.u8 b3)), AV.d (DV.v (Value.int IntKind.u8 b4)), AV.d (DV.v (Value.int IntKind.u8 b5)), AV.d (DV.v (Value.int IntKind.u8 b6)), AV.d (DV.v (Value.int IntKind.u8 b7))]) := by
    rw [res_eq]
    simp only [B82, sem_br, sem_ask, sem_nxt, sem_triv, sem_ret, PC.holds, need_true, stepO_nxt, stepO_ret, ca, cg, w, q1, q2, q5, decide_true, if_true]
  rw [e1]
  refine Eq.trans e ?_
  rw [res_eq]
  simp only [B82, sem_br, sem_ask, sem_nxt, sem_triv, sem_ret, PC.holds, need_true, stepO_nxt, stepO_ret, n0, List.drop_zero, hw, sp, q1, q2, q3, q4, q6, decide_false, Bool.false_eq_true, if_false]
  rfl
theorem s143_4 (hd : ∀ b ∈ ds, ByteI b) (hl : ds.length ≤ 1000) (a0 a1 a2 a3 a4 a5 a6 a7 b0 b1 b2 b3 b4 b5 b6 b7 : Int) (h : ByteI b4) : res B82 (.c2 ds.length (ds.map vB) 4 [AV.d (DV.v (Value.int IntKind.u8 b0)), AV.d (DV.v (Value.int IntKind.u8 b1)), AV.d (DV.v (Value.int IntKind.u8 b2)), AV.d (DV.v (Value.int IntKind.u8 b3)), AV.d (DV.v (Value.int IntKind.u8 b4)), AV.d (DV.v (Value.int IntKind.u8 b5)), AV.d (DV.v (Value.int IntKind.u8 b6)), AV.d (DV.v (Value.int IntKind.u8 b7))]) = res B82 (.c2 ds.length (ds.map vB) 5 [AV.d (DV.v (Value.int IntKind.u8 b0)), AV.d (DV.v (Value.int IntKind.u8 b1)), AV.d (DV.v (Value.int IntKind.u8 b2)), AV.d (DV.v (Value.int IntKind.u8 b3)), AV.d (DV.v (Value.int IntKind.u8 (fS 4 b4 ds))), AV.d (DV.v (Value.int IntKind.u8 b5)), AV.d (DV.v (Value.int IntKind.u8 b6)), AV.d (DV.v (Value.int IntKind.u8 b7))]) := by
  have e := s143_c3 hd hl (j := 4) ⟨by decide, by decide⟩ a0 a1 a2 a3 a4 a5 a6 a7 b0 b1 b2 b3 b4 b5 b6 b7 ds.length 0 b4 (by omega) h
  have ca : dI (celA [AV.d (DV.v (Value.int IntKind.u8 b0)), AV.d (DV.v (Value.int IntKind.u8 b1)), AV.d (DV.v (Value.int IntKind.u8 b2)), AV.d (DV.v (Value.int IntKind.u8 b3)), AV.d (DV.v (Value.int IntKind.u8 b4)), AV.d (DV.v (Value.int IntKind.u8 b5)), AV.d (DV.v (Value.int IntKind.u8 b6)), AV.d (DV.v (Value.int IntKind.u8 b7))] (0 + Int.toNat 4 * 1)) = b4 := rfl
  have cg : ([AV.d (DV.v (Value.int IntKind.u8 b0)), AV.d (DV.v (Value.int IntKind.u8 b1)), AV.d (DV.v (Value.int IntKind.u8 b2)), AV.d (DV.v (Value.int IntKind.u8 b3)), AV.d (DV.v (Value.int IntKind.u8 b4)), AV.d (DV.v (Value.int IntKind.u8 b5)), AV.d (DV.v (Value.int IntKind.u8 b6)), AV.d (DV.v (Value.int IntKind.u8 b7))] : List AV)[0 + Int.toNat 4 * 1]? = some (AV.d (DV.v (Value.int IntKind.u8 b4))) := rfl
  have hw := wu (fS_b 4 ds b4 h)
  have w := wb h
  have n0 : ¬ ((ds.length : Int) < (ds.length : Int)) := Int.lt_irrefl _
  have sp : ∀ v, spliceA [AV.d (DV.v (Value.int IntKind.u8 b0)), AV.d (DV.v (Value.int IntKind.u8 b1)), AV.d (DV.v (Value.int IntKind.u8 b2)), AV.d (DV.v (Value.int IntKind.u8 b3)), AV.d (DV.v (Value.int IntKind.u8 b4)), AV.d (DV.v (Value.int IntKind.u8 b5)), AV.d (DV.v (Value.int IntKind.u8 b6)), AV.d (DV.v (Value.int IntKind.u8 b7))] (0 + Int.toNat 4 * 1) [v] = [AV.d (DV.v (Value.int IntKind.u8 b0)), AV.d (DV.v (Value.int IntKind.u8 b1)), AV.d (DV.v (Value.int IntKind.u8 b2)), AV.d (DV.v (Value.int IntKind.u8 b3)), v, AV.d (DV.v (Value.int IntKind.u8 b5)), AV.d (DV.v (Value.int IntKind.u8 b6)), AV.d (DV.v (Value.int IntKind.u8 b7))] := fun _ => rfl
  have q1 : (0 : Int) ≤ 4 := by decide
  have q2 : (4 : Int) < 8 := by decide
  have q3 : 0 + Int.toNat 4 * 1 + 1 ≤ ([AV.d (DV.v (Value.int IntKind.u8 b0)), AV.d (DV.v (Value.int IntKind.u8 b1)), AV.d (DV.v (Value.int IntKind.u8 b2)), AV.d (DV.v (Value.int IntKind.u8 b3)), AV.d (DV.v (Value.int IntKind.u8 b4)), AV.d (DV.v (Value.int IntKind.u8 b5)), AV.d (DV.v (Value.int IntKind.u8 b6)), AV.d (DV.v (Value.int IntKind.u8 b7))] : List AV).length := Nat.le_of_ble_eq_true rfl
  have q4 : inI64 (4 + 1) := by unfold inI64; omega
  have q5 := rk143 b0 b1 b2 b3 b4 b5 b6 b7
  have q6 := rk143 b0 b1 b2 b3 (fS 4 b4 ds) b5 b6 b7
  have e1 : res B82 (.c2 ds.length (ds.map vB) 4 [AV.d (DV.v (Value.int IntKind.u8 b0)), AV.d (DV.v (Value.int IntKind.u8 b1)), AV.d (DV.v (Value.int IntKind.u8 b2)), AV.d (DV.v (Value.int IntKind.u8 b3)), AV.d (DV.v (Value.int IntKind.u8 b4)), AV.d (DV.v (Value.int IntKind.u8 b5)), AV.d (DV.v (Value.int IntKind.u8 b6)), AV.d (DV.v (Value.int IntKind.u8 b7))]) = res B82 (.c3 ds.length (ds.map vB) 4 b4 (ds.length : Int) 0 [AV.d (DV.v (Value.int IntKind.u8 b0)), AV.d (DV.v (Value.int IntKind.u8 b1)), AV.d (DV.v (Value.int IntKind.u8 b2)), AV.d (DV.v (Value.int IntKind.u8 b3)), AV.d (DV.v (Value.int IntKind.u8 b4)), AV.d (DV.v (Value.int IntKind.u8 b5)), AV.d (DV.v (Value.int IntKind.u8 b6)), AV.d (DV.v (Value.int IntKind.u8 b7))]) := by
    rw [res_eq]
    simp only [B82, sem_br, sem_ask, sem_nxt, sem_triv, sem_ret, PC.holds, need_true, stepO_nxt, stepO_ret, ca, cg, w, q1, q2, q5, decide_true, if_true]
  rw [e1]
  refine Eq.trans e ?_
  rw [res_eq]
  simp only [B82, sem_br, sem_ask, sem_nxt, sem_triv, sem_ret, PC.holds, need_true, stepO_nxt, stepO_ret, n0, List.drop_zero, hw, sp, q1, q2, q3, q4, q6, decide_false, Bool.false_eq_true, if_false]
  rfl
theorem s143_5 (hd : ∀ b ∈ ds, ByteI b) (hl : ds.length ≤ 1000) (a0 a1 a2 a3 a4 a5 a6 a7 b0 b1 b2 b3 b4 b5 b6 b7 : Int) (h : ByteI b5) : res B82 (.c2 ds.length (ds.map vB) 5 [AV.d (DV.v (Value.int IntKind.u8 b0)), AV.d (DV.v (Value.int IntKind.u8 b1)), AV.d (DV.v (Value.int IntKind.u8 b2)), AV.d (DV.v (Value.int IntKind.u8 b3)), AV.d (DV.v (Value.int IntKind.u8 b4)), AV.d (DV.v (Value.int IntKind.u8 b5)), AV.d (DV.v (Value.int IntKind.u8 b6)), AV.d (DV.v (Value.int IntKind.u8 b7))]) = res B82 (.c2 ds.length (ds.map vB) 6 [AV.d (DV.v (Value.int IntKind.u8 b0)), AV.d (DV.v (Value.int IntKind.u8 b1)), AV.d (DV.v (Value.int IntKind.u8 b2)), AV.d (DV.v (Value.int IntKind.u8 b3)), AV.d (DV.v (Value.int IntKind.u8 b4)), AV.d (DV.v (Value.int IntKind.u8 (fS 5 b5 ds))), AV.d (DV.v (Value.int IntKind.u8 b6)), AV.d (DV.v (Value.int IntKind.u8 b7))]) := by
  have e := s143_c3 hd hl (j := 5) ⟨by decide, by decide⟩ a0 a1 a2 a3 a4 a5 a6 a7 b0 b1 b2 b3 b4 b5 b6 b7 ds.length 0 b5 (by omega) h
  have ca : dI (celA [AV.d (DV.v (Value.int IntKind.u8 b0)), AV.d (DV.v (Value.int IntKind.u8 b1)), AV.d (DV.v (Value.int IntKind.u8 b2)), AV.d (DV.v (Value.int IntKind.u8 b3)), AV.d (DV.v (Value.int IntKind.u8 b4)), AV.d (DV.v (Value.int IntKind.u8 b5)), AV.d (DV.v (Value.int IntKind.u8 b6)), AV.d (DV.v (Value.int IntKind.u8 b7))] (0 + Int.toNat 5 * 1)) = b5 := rfl
  have cg : ([AV.d (DV.v (Value.int IntKind.u8 b0)), AV.d (DV.v (Value.int IntKind.u8 b1)), AV.d (DV.v (Value.int IntKind.u8 b2)), AV.d (DV.v (Value.int IntKind.u8 b3)), AV.d (DV.v (Value.int IntKind.u8 b4)), AV.d (DV.v (Value.int IntKind.u8 b5)), AV.d (DV.v (Value.int IntKind.u8 b6)), AV.d (DV.v (Value.int IntKind.u8 b7))] : List AV)[0 + Int.toNat 5 * 1]? = some (AV.d (DV.v (Value.int IntKind.u8 b5))) := rfl
  have hw := wu (fS_b 5 ds b5 h)
  have w := wb h
  have n0 : ¬ ((ds.length : Int) < (ds.length : Int)) := Int.lt_irrefl _
  have sp : ∀ v, spliceA [AV.d (DV.v (Value.int IntKind.u8 b0)), AV.d (DV.v (Value.int IntKind.u8 b1)), AV.d (DV.v (Value.int IntKind.u8 b2)), AV.d (DV.v (Value.int IntKind.u8 b3)), AV.d (DV.v (Value.int IntKind.u8 b4)), AV.d (DV.v (Value.int IntKind.u8 b5)), AV.d (DV.v (Value.int IntKind.u8 b6)), AV.d (DV.v (Value.int IntKind.u8 b7))] (0 + Int.toNat 5 * 1) [v] = [AV.d (DV.v (Value.int IntKind.u8 b0)), AV.d (DV.v (Value.int IntKind.u8 b1)), AV.d (DV.v (Value.int IntKind.u8 b2)), AV.d (DV.v (Value.int IntKind.u8 b3)), AV.d (DV.v (Value.int IntKind.u8 b4)), v, AV.d (DV.v (Value.int IntKind.u8 b6)), AV.d (DV.v (Value.int IntKind.u8 b7))] := fun _ => rfl
  have q1 : (0 : Int) ≤ 5 := by decide
  have q2 : (5 : Int) < 8 := by decide
  have q3 : 0 + Int.toNat 5 * 1 + 1 ≤ ([AV.d (DV.v (Value.int IntKind.u8 b0)), AV.d (DV.v (Value.int IntKind.u8 b1)), AV.d (DV.v (Value.int IntKind.u8 b2)), AV.d (DV.v (Value.int IntKind.u8 b3)), AV.d (DV.v (Value.int IntKind.u8 b4)), AV.d (DV.v (Value.int IntKind.u8 b5)), AV.d (DV.v (Value.int IntKind.u8 b6)), AV.d (DV.v (Value.int IntKind.u8 b7))] : List AV).length := Nat.le_of_ble_eq_true rfl
  have q4 : inI64 (5 + 1) := by unfold inI64; omega
  have q5 := rk143 b0 b1 b2 b3 b4 b5 b6 b7
  have q6 := rk143 b0 b1 b2 b3 b4 (fS 5 b5 ds) b6 b7
  have e1 : res B82 (.c2 ds.length (ds.map vB) 5 [AV.d (DV.v (Value.int IntKind.u8 b0)), AV.d (DV.v (Value.int IntKind.u8 b1)), AV.d (DV.v (Value.int IntKind.u8 b2)), AV.d (DV.v (Value.int IntKind.u8 b3)), AV.d (DV.v (Value.int IntKind.u8 b4)), AV.d (DV.v (Value.int IntKind.u8 b5)), AV.d (DV.v (Value.int IntKind.u8 b6)), AV.d (DV.v (Value.int IntKind.u8 b7))]) = res B82 (.c3 ds.length (ds.map vB) 5 b5 (ds.length : Int) 0 [AV.d (DV.v (Value.int IntKind.u8 b0)), AV.d (DV.v (Value.int IntKind.u8 b1)), AV.d (DV.v (Value.int IntKind.u8 b2)), AV.d (DV.v (Value.int IntKind.u8 b3)), AV.d (DV.v (Value.int IntKind.u8 b4)), AV.d (DV.v (Value.int IntKind.u8 b5)), AV.d (DV.v (Value.int IntKind.u8 b6)), AV.d (DV.v (Value.int IntKind.u8 b7))]) := by
    rw [res_eq]
    simp only [B82, sem_br, sem_ask, sem_nxt, sem_triv, sem_ret, PC.holds, need_true, stepO_nxt, stepO_ret, ca, cg, w, q1, q2, q5, decide_true, if_true]
  rw [e1]
  refine Eq.trans e ?_
  rw [res_eq]
  simp only [B82, sem_br, sem_ask, sem_nxt, sem_triv, sem_ret, PC.holds, need_true, stepO_nxt, stepO_ret, n0, List.drop_zero, hw, sp, q1, q2, q3, q4, q6, decide_false, Bool.false_eq_true, if_false]
  rfl
theorem s143_6 (hd : ∀ b ∈ ds, ByteI b) (hl : ds.length ≤ 1000) (a0 a1 a2 a3 a4 a5 a6 a7 b0 b1 b2 b3 b4 b5 b6 b7 : Int) (h : ByteI b6) : res B82 (.c2 ds.length (ds.map vB) 6 [AV.d (DV.v (Value.int IntKind.u8 b0)), AV.d (DV.v (Value.int IntKind.u8 b1)), AV.d (DV.v (Value.int IntKind.u8 b2)), AV.d (DV.v (Value.int IntKind.u8 b3)), AV.d (DV.v (Value.int IntKind.u8 b4)), AV.d (DV.v (Value.int IntKind.u8 b5)), AV.d (DV.v (Value.int IntKind.u8 b6)), AV.d (DV.v (Value.int IntKind.u8 b7))]) = res B82 (.c2 ds.length (ds.map vB) 7 [AV.d (DV.v (Value.int IntKind.u8 b0)), AV.d (DV.v (Value.int IntKind.u8 b1)), AV.d (DV.v (Value.int IntKind.u8 b2)), AV.d (DV.v (Value.int IntKind.u8 b3)), AV.d (DV.v (Value.int IntKind.u8 b4)), AV.d (DV.v (Value.int IntKind.u8 b5)), AV.d (DV.v (Value.int IntKind.u8 (fS 6 b6 ds))), AV.d (DV.v (Value.int IntKind.u8 b7))]) := by
  have e := s143_c3 hd hl (j := 6) ⟨by decide, by decide⟩ a0 a1 a2 a3 a4 a5 a6 a7 b0 b1 b2 b3 b4 b5 b6 b7 ds.length 0 b6 (by omega) h
  have ca : dI (celA [AV.d (DV.v (Value.int IntKind.u8 b0)), AV.d (DV.v (Value.int IntKind.u8 b1)), AV.d (DV.v (Value.int IntKind.u8 b2)), AV.d (DV.v (Value.int IntKind.u8 b3)), AV.d (DV.v (Value.int IntKind.u8 b4)), AV.d (DV.v (Value.int IntKind.u8 b5)), AV.d (DV.v (Value.int IntKind.u8 b6)), AV.d (DV.v (Value.int IntKind.u8 b7))] (0 + Int.toNat 6 * 1)) = b6 := rfl
  have cg : ([AV.d (DV.v (Value.int IntKind.u8 b0)), AV.d (DV.v (Value.int IntKind.u8 b1)), AV.d (DV.v (Value.int IntKind.u8 b2)), AV.d (DV.v (Value.int IntKind.u8 b3)), AV.d (DV.v (Value.int IntKind.u8 b4)), AV.d (DV.v (Value.int IntKind.u8 b5)), AV.d (DV.v (Value.int IntKind.u8 b6)), AV.d (DV.v (Value.int IntKind.u8 b7))] : List AV)[0 + Int.toNat 6 * 1]? = some (AV.d (DV.v (Value.int IntKind.u8 b6))) := rfl
  have hw := wu (fS_b 6 ds b6 h)
  have w := wb h
  have n0 : ¬ ((ds.length : Int) < (ds.length : Int)) := Int.lt_irrefl _
  have sp : ∀ v, spliceA [AV.d (DV.v (Value.int IntKind.u8 b0)), AV.d (DV.v (Value.int IntKind.u8 b1)), AV.d (DV.v (Value.int IntKind.u8 b2)), AV.d (DV.v (Value.int IntKind.u8 b3)), AV.d (DV.v (Value.int IntKind.u8 b4)), AV.d (DV.v (Value.int IntKind.u8 b5)), AV.d (DV.v (Value.int IntKind.u8 b6)), AV.d (DV.v (Value.int IntKind.u8 b7))] (0 + Int.toNat 6 * 1) [v] = [AV.d (DV.v (Value.int IntKind.u8 b0)), AV.d (DV.v (Value.int IntKind.u8 b1)), AV.d (DV.v (Value.int IntKind.u8 b2)), AV.d (DV.v (Value.int IntKind.u8 b3)), AV.d (DV.v (Value.int IntKind.u8 b4)), AV.d (DV.v (Value.int IntKind.u8 b5)), v, AV.d (DV.v (Value.int IntKind.u8 b7))] := fun _ => rfl
  have q1 : (0 : Int) ≤ 6 := by decide
  have q2 : (6 : Int) < 8 := by decide
  have q3 : 0 + Int.toNat 6 * 1 + 1 ≤ ([AV.d (DV.v (Value.int IntKind.u8 b0)), AV.d (DV.v (Value.int IntKind.u8 b1)), AV.d (DV.v (Value.int IntKind.u8 b2)), AV.d (DV.v (Value.int IntKind.u8 b3)), AV.d (DV.v (Value.int IntKind.u8 b4)), AV.d (DV.v (Value.int IntKind.u8 b5)), AV.d (DV.v (Value.int IntKind.u8 b6)), AV.d (DV.v (Value.int IntKind.u8 b7))] : List AV).length := Nat.le_of_ble_eq_true rfl
  have q4 : inI64 (6 + 1) := by unfold inI64; omega
  have q5 := rk143 b0 b1 b2 b3 b4 b5 b6 b7
  have q6 := rk143 b0 b1 b2 b3 b4 b5 (fS 6 b6 ds) b7
  have e1 : res B82 (.c2 ds.length (ds.map vB) 6 [AV.d (DV.v (Value.int IntKind.u8 b0)), AV.d (DV.v (Value.int IntKind.u8 b1)), AV.d (DV.v (Value.int IntKind.u8 b2)), AV.d (DV.v (Value.int IntKind.u8 b3)), AV.d (DV.v (Value.int IntKind.u8 b4)), AV.d (DV.v (Value.int IntKind.u8 b5)), AV.d (DV.v (Value.int IntKind.u8 b6)), AV.d (DV.v (Value.int IntKind.u8 b7))]) = res B82 (.c3 ds.length (ds.map vB) 6 b6 (ds.length : Int) 0 [AV.d (DV.v (Value.int IntKind.u8 b0)), AV.d (DV.v (Value.int IntKind.u8 b1)), AV.d (DV.v (Value.int IntKind.u8 b2)), AV.d (DV.v (Value.int IntKind.u8 b3)), AV.d (DV.v (Value.int IntKind.u8 b4)), AV.d (DV.v (Value.int IntKind.u8 b5)), AV.d (DV.v (Value.int IntKind.u8 b6)), AV.d (DV.v (Value.int IntKind.u8 b7))]) := by
    rw [res_eq]
    simp only [B82, sem_br, sem_ask, sem_nxt, sem_triv, sem_ret, PC.holds, need_true, stepO_nxt, stepO_ret, ca, cg, w, q1, q2, q5, decide_true, if_true]
  rw [e1]
  refine Eq.trans e ?_
  rw [res_eq]
  simp only [B82, sem_br, sem_ask, sem_nxt, sem_triv, sem_ret, PC.holds, need_true, stepO_nxt, stepO_ret, n0, List.drop_zero, hw, sp, q1, q2, q3, q4, q6, decide_false, Bool.false_eq_true, if_false]
  rfl
theorem s143_7 (hd : ∀ b ∈ ds, ByteI b) (hl : ds.length ≤ 1000) (a0 a1 a2 a3 a4 a5 a6 a7 b0 b1 b2 b3 b4 b5 b6 b7 : Int) (h : ByteI b7) : res B82 (.c2 ds.length (ds.map vB) 7 [AV.d (DV.v (Value.int IntKind.u8 b0)), AV.d (DV.v (Value.int IntKind.u8 b1)), AV.d (DV.v (Value.int IntKind.u8 b2)), AV.d (DV.v (Value.int IntKind.u8 b3)), AV.d (DV.v (Value.int IntKind.u8 b4)), AV.d (DV.v (Value.int IntKind.u8 b5)), AV.d (DV.v (Value.int IntKind.u8 b6)), AV.d (DV.v (Value.int IntKind.u8 b7))]) = res B82 (.c2 ds.length (ds.map vB) 8 [AV.d (DV.v (Value.int IntKind.u8 b0)), AV.d (DV.v (Value.int IntKind.u8 b1)), AV.d (DV.v (Value.int IntKind.u8 b2)), AV.d (DV.v (Value.int IntKind.u8 b3)), AV.d (DV.v (Value.int IntKind.u8 b4)), AV.d (DV.v (Value.int IntKind.u8 b5)), AV.d (DV.v (Value.int IntKind.u8 b6)), AV.d (DV.v (Value.int IntKind.u8 (fS 7 b7 ds)))]) := by
  have e := s143_c3 hd hl (j := 7) ⟨by decide, by decide⟩ a0 a1 a2 a3 a4 a5 a6 a7 b0 b1 b2 b3 b4 b5 b6 b7 ds.length 0 b7 (by omega) h
  have ca : dI (celA [AV.d (DV.v (Value.int IntKind.u8 b0)), AV.d (DV.v (Value.int IntKind.u8 b1)), AV.d (DV.v (Value.int IntKind.u8 b2)), AV.d (DV.v (Value.int IntKind.u8 b3)), AV.d (DV.v (Value.int IntKind.u8 b4)), AV.d (DV.v (Value.int IntKind.u8 b5)), AV.d (DV.v (Value.int IntKind.u8 b6)), AV.d (DV.v (Value.int IntKind.u8 b7))] (0 + Int.toNat 7 * 1)) = b7 := rfl
  have cg : ([AV.d (DV.v (Value.int IntKind.u8 b0)), AV.d (DV.v (Value.int IntKind.u8 b1)), AV.d (DV.v (Value.int IntKind.u8 b2)), AV.d (DV.v (Value.int IntKind.u8 b3)), AV.d (DV.v (Value.int IntKind.u8 b4)), AV.d (DV.v (Value.int IntKind.u8 b5)), AV.d (DV.v (Value.int IntKind.u8 b6)), AV.d (DV.v (Value.int IntKind.u8 b7))] : List AV)[0 + Int.toNat 7 * 1]? = some (AV.d (DV.v (Value.int IntKind.u8 b7))) := rfl
  have hw := wu (fS_b 7 ds b7 h)
  have w := wb h
  have n0 : ¬ ((ds.length : Int) < (ds.length : Int)) := Int.lt_irrefl _
  have sp : ∀ v, spliceA [AV.d (DV.v (Value.int IntKind.u8 b0)), AV.d (DV.v (Value.int IntKind.u8 b1)), AV.d (DV.v (Value.int IntKind.u8 b2)), AV.d (DV.v (Value.int IntKind.u8 b3)), AV.d (DV.v (Value.int IntKind.u8 b4)), AV.d (DV.v (Value.int IntKind.u8 b5)), AV.d (DV.v (Value.int IntKind.u8 b6)), AV.d (DV.v (Value.int IntKind.u8 b7))] (0 + Int.toNat 7 * 1) [v] = [AV.d (DV.v (Value.int IntKind.u8 b0)), AV.d (DV.v (Value.int IntKind.u8 b1)), AV.d (DV.v (Value.int IntKind.u8 b2)), AV.d (DV.v (Value.int IntKind.u8 b3)), AV.d (DV.v (Value.int IntKind.u8 b4)), AV.d (DV.v (Value.int IntKind.u8 b5)), AV.d (DV.v (Value.int IntKind.u8 b6)), v] := fun _ => rfl
  have q1 : (0 : Int) ≤ 7 := by decide
  have q2 : (7 : Int) < 8 := by decide
  have q3 : 0 + Int.toNat 7 * 1 + 1 ≤ ([AV.d (DV.v (Value.int IntKind.u8 b0)), AV.d (DV.v (Value.int IntKind.u8 b1)), AV.d (DV.v (Value.int IntKind.u8 b2)), AV.d (DV.v (Value.int IntKind.u8 b3)), AV.d (DV.v (Value.int IntKind.u8 b4)), AV.d (DV.v (Value.int IntKind.u8 b5)), AV.d (DV.v (Value.int IntKind.u8 b6)), AV.d (DV.v (Value.int IntKind.u8 b7))] : List AV).length := Nat.le_of_ble_eq_true rfl
  have q4 : inI64 (7 + 1) := by unfold inI64; omega
  have q5 := rk143 b0 b1 b2 b3 b4 b5 b6 b7
  have q6 := rk143 b0 b1 b2 b3 b4 b5 b6 (fS 7 b7 ds)
  have e1 : res B82 (.c2 ds.length (ds.map vB) 7 [AV.d (DV.v (Value.int IntKind.u8 b0)), AV.d (DV.v (Value.int IntKind.u8 b1)), AV.d (DV.v (Value.int IntKind.u8 b2)), AV.d (DV.v (Value.int IntKind.u8 b3)), AV.d (DV.v (Value.int IntKind.u8 b4)), AV.d (DV.v (Value.int IntKind.u8 b5)), AV.d (DV.v (Value.int IntKind.u8 b6)), AV.d (DV.v (Value.int IntKind.u8 b7))]) = res B82 (.c3 ds.length (ds.map vB) 7 b7 (ds.length : Int) 0 [AV.d (DV.v (Value.int IntKind.u8 b0)), AV.d (DV.v (Value.int IntKind.u8 b1)), AV.d (DV.v (Value.int IntKind.u8 b2)), AV.d (DV.v (Value.int IntKind.u8 b3)), AV.d (DV.v (Value.int IntKind.u8 b4)), AV.d (DV.v (Value.int IntKind.u8 b5)), AV.d (DV.v (Value.int IntKind.u8 b6)), AV.d (DV.v (Value.int IntKind.u8 b7))]) := by
    rw [res_eq]
    simp only [B82, sem_br, sem_ask, sem_nxt, sem_triv, sem_ret, PC.holds, need_true, stepO_nxt, stepO_ret, ca, cg, w, q1, q2, q5, decide_true, if_true]
  rw [e1]
  refine Eq.trans e ?_
  rw [res_eq]
  simp only [B82, sem_br, sem_ask, sem_nxt, sem_triv, sem_ret, PC.holds, need_true, stepO_nxt, stepO_ret, n0, List.drop_zero, hw, sp, q1, q2, q3, q4, q6, decide_false, Bool.false_eq_true, if_false]
  rfl
theorem s143_8 (a0 a1 a2 a3 a4 a5 a6 a7 b0 b1 b2 b3 b4 b5 b6 b7 : Int) : res B82 (.c2 ds.length (ds.map vB) 8 [AV.d (DV.v (Value.int IntKind.u8 b0)), AV.d (DV.v (Value.int IntKind.u8 b1)), AV.d (DV.v (Value.int IntKind.u8 b2)), AV.d (DV.v (Value.int IntKind.u8 b3)), AV.d (DV.v (Value.int IntKind.u8 b4)), AV.d (DV.v (Value.int IntKind.u8 b5)), AV.d (DV.v (Value.int IntKind.u8 b6)), AV.d (DV.v (Value.int IntKind.u8 b7))]) = some (b0, b1, b2, b3, b4, b5, b6, b7) := by
  have q1 : ¬ ((8 : Int) < 8) := by decide
  have q2 : 8 ≤ ([AV.d (DV.v (Value.int IntKind.u8 b0)), AV.d (DV.v (Value.int IntKind.u8 b1)), AV.d (DV.v (Value.int IntKind.u8 b2)), AV.d (DV.v (Value.int IntKind.u8 b3)), AV.d (DV.v (Value.int IntKind.u8 b4)), AV.d (DV.v (Value.int IntKind.u8 b5)), AV.d (DV.v (Value.int IntKind.u8 b6)), AV.d (DV.v (Value.int IntKind.u8 b7))] : List AV).length := Nat.le_refl 8
  have q3 : (List.take 8 (List.drop 0 [AV.d (DV.v (Value.int IntKind.u8 b0)), AV.d (DV.v (Value.int IntKind.u8 b1)), AV.d (DV.v (Value.int IntKind.u8 b2)), AV.d (DV.v (Value.int IntKind.u8 b3)), AV.d (DV.v (Value.int IntKind.u8 b4)), AV.d (DV.v (Value.int IntKind.u8 b5)), AV.d (DV.v (Value.int IntKind.u8 b6)), AV.d (DV.v (Value.int IntKind.u8 b7))])) = [AV.d (DV.v (Value.int IntKind.u8 b0)), AV.d (DV.v (Value.int IntKind.u8 b1)), AV.d (DV.v (Value.int IntKind.u8 b2)), AV.d (DV.v (Value.int IntKind.u8 b3)), AV.d (DV.v (Value.int IntKind.u8 b4)), AV.d (DV.v (Value.int IntKind.u8 b5)), AV.d (DV.v (Value.int IntKind.u8 b6)), AV.d (DV.v (Value.int IntKind.u8 b7))] := rfl
  have g0 : dI (celA [AV.d (DV.v (Value.int IntKind.u8 b0)), AV.d (DV.v (Value.int IntKind.u8 b1)), AV.d (DV.v (Value.int IntKind.u8 b2)), AV.d (DV.v (Value.int IntKind.u8 b3)), AV.d (DV.v (Value.int IntKind.u8 b4)), AV.d (DV.v (Value.int IntKind.u8 b5)), AV.d (DV.v (Value.int IntKind.u8 b6)), AV.d (DV.v (Value.int IntKind.u8 b7))] 0) = b0 := rfl
  have g1 : dI (celA [AV.d (DV.v (Value.int IntKind.u8 b0)), AV.d (DV.v (Value.int IntKind.u8 b1)), AV.d (DV.v (Value.int IntKind.u8 b2)), AV.d (DV.v (Value.int IntKind.u8 b3)), AV.d (DV.v (Value.int IntKind.u8 b4)), AV.d (DV.v (Value.int IntKind.u8 b5)), AV.d (DV.v (Value.int IntKind.u8 b6)), AV.d (DV.v (Value.int IntKind.u8 b7))] 1) = b1 := rfl
  have g2 : dI (celA [AV.d (DV.v (Value.int IntKind.u8 b0)), AV.d (DV.v (Value.int IntKind.u8 b1)), AV.d (DV.v (Value.int IntKind.u8 b2)), AV.d (DV.v (Value.int IntKind.u8 b3)), AV.d (DV.v (Value.int IntKind.u8 b4)), AV.d (DV.v (Value.int IntKind.u8 b5)), AV.d (DV.v (Value.int IntKind.u8 b6)), AV.d (DV.v (Value.int IntKind.u8 b7))] 2) = b2 := rfl
  have g3 : dI (celA [AV.d (DV.v (Value.int IntKind.u8 b0)), AV.d (DV.v (Value.int IntKind.u8 b1)), AV.d (DV.v (Value.int IntKind.u8 b2)), AV.d (DV.v (Value.int IntKind.u8 b3)), AV.d (DV.v (Value.int IntKind.u8 b4)), AV.d (DV.v (Value.int IntKind.u8 b5)), AV.d (DV.v (Value.int IntKind.u8 b6)), AV.d (DV.v (Value.int IntKind.u8 b7))] 3) = b3 := rfl
  have g4 : dI (celA [AV.d (DV.v (Value.int IntKind.u8 b0)), AV.d (DV.v (Value.int IntKind.u8 b1)), AV.d (DV.v (Value.int IntKind.u8 b2)), AV.d (DV.v (Value.int IntKind.u8 b3)), AV.d (DV.v (Value.int IntKind.u8 b4)), AV.d (DV.v (Value.int IntKind.u8 b5)), AV.d (DV.v (Value.int IntKind.u8 b6)), AV.d (DV.v (Value.int IntKind.u8 b7))] 4) = b4 := rfl
  have g5 : dI (celA [AV.d (DV.v (Value.int IntKind.u8 b0)), AV.d (DV.v (Value.int IntKind.u8 b1)), AV.d (DV.v (Value.int IntKind.u8 b2)), AV.d (DV.v (Value.int IntKind.u8 b3)), AV.d (DV.v (Value.int IntKind.u8 b4)), AV.d (DV.v (Value.int IntKind.u8 b5)), AV.d (DV.v (Value.int IntKind.u8 b6)), AV.d (DV.v (Value.int IntKind.u8 b7))] 5) = b5 := rfl
  have g6 : dI (celA [AV.d (DV.v (Value.int IntKind.u8 b0)), AV.d (DV.v (Value.int IntKind.u8 b1)), AV.d (DV.v (Value.int IntKind.u8 b2)), AV.d (DV.v (Value.int IntKind.u8 b3)), AV.d (DV.v (Value.int IntKind.u8 b4)), AV.d (DV.v (Value.int IntKind.u8 b5)), AV.d (DV.v (Value.int IntKind.u8 b6)), AV.d (DV.v (Value.int IntKind.u8 b7))] 6) = b6 := rfl
  have g7 : dI (celA [AV.d (DV.v (Value.int IntKind.u8 b0)), AV.d (DV.v (Value.int IntKind.u8 b1)), AV.d (DV.v (Value.int IntKind.u8 b2)), AV.d (DV.v (Value.int IntKind.u8 b3)), AV.d (DV.v (Value.int IntKind.u8 b4)), AV.d (DV.v (Value.int IntKind.u8 b5)), AV.d (DV.v (Value.int IntKind.u8 b6)), AV.d (DV.v (Value.int IntKind.u8 b7))] 7) = b7 := rfl
  rw [res_eq]
  simp only [B82, sem_br, sem_ask, sem_nxt, sem_triv, sem_ret, PC.holds, need_true, stepO_nxt, stepO_ret, q1, q2, q3, g0, g1, g2, g3, g4, g5, g6, g7, decide_false, Bool.false_eq_true, if_false]
theorem F82_eq (hd : ∀ b ∈ ds, ByteI b) (hl : ds.length ≤ 1000) {a0 a1 a2 a3 a4 a5 a6 a7 : Int} (h0 : ByteI a0) (h1 : ByteI a1) (h2 : ByteI a2) (h3 : ByteI a3) (h4 : ByteI a4) (h5 : ByteI a5) (h6 : ByteI a6) (h7 : ByteI a7) : F82 a0 a1 a2 a3 a4 a5 a6 a7 ds.length (ds.map vB) = some (seal8 (a0, a1, a2, a3, a4, a5, a6, a7) ds) := by
  unfold F82; rw [res_eq]
  simp only [B82, sem_br, sem_ask, sem_nxt, sem_triv, sem_ret, PC.holds, need_true, stepO_nxt, stepO_ret]
  refine Eq.trans (s143_0 hd hl a0 a1 a2 a3 a4 a5 a6 a7 h0) ?_
  refine Eq.trans (s143_1 hd hl a0 a1 a2 a3 a4 a5 a6 a7 (fS 0 a0 ds) a1 a2 a3 a4 a5 a6 a7 h1) ?_
  refine Eq.trans (s143_2 hd hl a0 a1 a2 a3 a4 a5 a6 a7 (fS 0 a0 ds) (fS 1 a1 ds) a2 a3 a4 a5 a6 a7 h2) ?_
  refine Eq.trans (s143_3 hd hl a0 a1 a2 a3 a4 a5 a6 a7 (fS 0 a0 ds) (fS 1 a1 ds) (fS 2 a2 ds) a3 a4 a5 a6 a7 h3) ?_
  refine Eq.trans (s143_4 hd hl a0 a1 a2 a3 a4 a5 a6 a7 (fS 0 a0 ds) (fS 1 a1 ds) (fS 2 a2 ds) (fS 3 a3 ds) a4 a5 a6 a7 h4) ?_
  refine Eq.trans (s143_5 hd hl a0 a1 a2 a3 a4 a5 a6 a7 (fS 0 a0 ds) (fS 1 a1 ds) (fS 2 a2 ds) (fS 3 a3 ds) (fS 4 a4 ds) a5 a6 a7 h5) ?_
  refine Eq.trans (s143_6 hd hl a0 a1 a2 a3 a4 a5 a6 a7 (fS 0 a0 ds) (fS 1 a1 ds) (fS 2 a2 ds) (fS 3 a3 ds) (fS 4 a4 ds) (fS 5 a5 ds) a6 a7 h6) ?_
  refine Eq.trans (s143_7 hd hl a0 a1 a2 a3 a4 a5 a6 a7 (fS 0 a0 ds) (fS 1 a1 ds) (fS 2 a2 ds) (fS 3 a3 ds) (fS 4 a4 ds) (fS 5 a5 ds) (fS 6 a6 ds) a7 h7) ?_
  refine Eq.trans (s143_8 a0 a1 a2 a3 a4 a5 a6 a7 (fS 0 a0 ds) (fS 1 a1 ds) (fS 2 a2 ds) (fS 3 a3 ds) (fS 4 a4 ds) (fS 5 a5 ds) (fS 6 a6 ds) (fS 7 a7 ds)) ?_
  rfl
theorem rk105 (b0 b1 b2 b3 b4 b5 b6 b7 : Int) : refK 3 (ABlk.cells [AV.d (DV.v (Value.int IntKind.u8 b0)), AV.d (DV.v (Value.int IntKind.u8 b1)), AV.d (DV.v (Value.int IntKind.u8 b2)), AV.d (DV.v (Value.int IntKind.u8 b3)), AV.d (DV.v (Value.int IntKind.u8 b4)), AV.d (DV.v (Value.int IntKind.u8 b5)), AV.d (DV.v (Value.int IntKind.u8 b6)), AV.d (DV.v (Value.int IntKind.u8 b7))] 23) = true := rfl
theorem s105_c1 (hd : ∀ b ∈ ds, ByteI b) (hl : ds.length ≤ 1000) {j : Int} (hj : 0 ≤ j ∧ j ≤ 7) (a0 a1 a2 a3 a4 a5 a6 a7 : Int) (z : Int) : ∀ (k i : Nat) (x : Int), ds.length = i + k → ByteI x → res B108 (.c1 ds.length (ds.map vB) j x (i : Int) a0 a1 a2 a3 a4 a5 a6 a7 z) = res B108 (.c1 ds.length (ds.map vB) j (fS j x (ds.drop i)) (ds.length : Int) a0 a1 a2 a3 a4 a5 a6 a7 z)
  | 0, i, x, hk, _ => by
    have : i = ds.length := by omega
    subst this; rw [fS_end]
  | k + 1, i, x, hk, hx => by
    have hi : i < ds.length := by omega
    have A := b_at hi
    have hb := hd ds[i] (List.getElem_mem hi)
    have O := st_ok hj hx hb
    have ih := s105_c1 hd hl hj a0 a1 a2 a3 a4 a5 a6 a7 z k (i + 1) (stS j x ds[i]) (by omega) (stS_b _ _ _)
    have h1 : (i : Int) < (ds.length : Int) := by omega
    have hin : inI64 ((i : Int) + 1) := by unfold inI64; omega
    have w := wb hb
    rw [fS_at hi, ← ih, res_eq]
    simp only [B108, sem_br, sem_ask, sem_nxt, sem_triv, sem_ret, PC.holds, need_true, stepO_nxt, stepO_ret, Int.toNat_natCast, A.c, A.le, A.row, w, O.i1, O.i2, O.i3, O.i4, O.i5, O.eq, h1, hin, Int.natCast_nonneg, decide_true, if_true]
    rfl
theorem s105_c3 (hd : ∀ b ∈ ds, ByteI b) (hl : ds.length ≤ 1000) {j : Int} (hj : 0 ≤ j ∧ j ≤ 7) (a0 a1 a2 a3 a4 a5 a6 a7 : Int) (b0 b1 b2 b3 b4 b5 b6 b7 : Int) : ∀ (k i : Nat) (x : Int), ds.length = i + k → ByteI x → res B108 (.c3 ds.length (ds.map vB) j x (i : Int) a0 a1 a2 a3 a4 a5 a6 a7 [AV.d (DV.v (Value.int IntKind.u8 b0)), AV.d (DV.v (Value.int IntKind.u8 b1)), AV.d (DV.v (Value.int IntKind.u8 b2)), AV.d (DV.v (Value.int IntKind.u8 b3)), AV.d (DV.v (Value.int IntKind.u8 b4)), AV.d (DV.v (Value.int IntKind.u8 b5)), AV.d (DV.v (Value.int IntKind.u8 b6)), AV.d (DV.v (Value.int IntKind.u8 b7))]) = res B108 (.c3 ds.length (ds.map vB) j (fS j x (ds.drop i)) (ds.length : Int) a0 a1 a2 a3 a4 a5 a6 a7 [AV.d (DV.v (Value.int IntKind.u8 b0)), AV.d (DV.v (Value.int IntKind.u8 b1)), AV.d (DV.v (Value.int IntKind.u8 b2)), AV.d (DV.v (Value.int IntKind.u8 b3)), AV.d (DV.v (Value.int IntKind.u8 b4)), AV.d (DV.v (Value.int IntKind.u8 b5)), AV.d (DV.v (Value.int IntKind.u8 b6)), AV.d (DV.v (Value.int IntKind.u8 b7))])
  | 0, i, x, hk, _ => by
    have : i = ds.length := by omega
    subst this; rw [fS_end]
  | k + 1, i, x, hk, hx => by
    have hi : i < ds.length := by omega
    have A := b_at hi
    have hb := hd ds[i] (List.getElem_mem hi)
    have O := st_ok hj hx hb
    have ih := s105_c3 hd hl hj a0 a1 a2 a3 a4 a5 a6 a7 b0 b1 b2 b3 b4 b5 b6 b7 k (i + 1) (stS j x ds[i]) (by omega) (stS_b _ _ _)
    have h1 : (i : Int) < (ds.length : Int) := by omega
    have hin : inI64 ((i : Int) + 1) := by unfold inI64; omega
    have w := wb hb
    rw [fS_at hi, ← ih, res_eq]
    simp only [B108, sem_br, sem_ask, sem_nxt, sem_triv, sem_ret, PC.holds, need_true, stepO_nxt, stepO_ret, Int.toNat_natCast, A.c, A.le, A.row, w, O.i1, O.i2, O.i3, O.i4, O.i5, O.eq, h1, hin, Int.natCast_nonneg, decide_true, if_true, rk105 b0 b1 b2 b3 b4 b5 b6 b7]
    rfl
theorem s105_0 (hd : ∀ b ∈ ds, ByteI b) (hl : ds.length ≤ 1000) (a0 a1 a2 a3 a4 a5 a6 a7 : Int) (h : ByteI a0) : res B108 (.c1 ds.length (ds.map vB) 0 (IntKind.i64.wrap a0) 0 a0 a1 a2 a3 a4 a5 a6 a7 0) = res B108 (.c2 ds.length (ds.map vB) 1 a0 a1 a2 a3 a4 a5 a6 a7 [AV.d (DV.v (Value.int IntKind.u8 (fS 0 a0 ds))), AV.d (DV.v (Value.int IntKind.u8 0)), AV.d (DV.v (Value.int IntKind.u8 0)), AV.d (DV.v (Value.int IntKind.u8 0)), AV.d (DV.v (Value.int IntKind.u8 0)), AV.d (DV.v (Value.int IntKind.u8 0)), AV.d (DV.v (Value.int IntKind.u8 0)), AV.d (DV.v (Value.int IntKind.u8 0))]) := by
  have e := s105_c1 hd hl (j := 0) ⟨by decide, by decide⟩ a0 a1 a2 a3 a4 a5 a6 a7 0 ds.length 0 a0 (by omega) h
  rw [wb h]
  refine Eq.trans e ?_
  have hw := wu (fS_b 0 ds a0 h)
  have n0 : ¬ ((ds.length : Int) < (ds.length : Int)) := Int.lt_irrefl _
  have sp : ∀ v, spliceA [AV.d (DV.v (Value.int IntKind.u8 0)), AV.d (DV.v (Value.int IntKind.u8 0)), AV.d (DV.v (Value.int IntKind.u8 0)), AV.d (DV.v (Value.int IntKind.u8 0)), AV.d (DV.v (Value.int IntKind.u8 0)), AV.d (DV.v (Value.int IntKind.u8 0)), AV.d (DV.v (Value.int IntKind.u8 0)), AV.d (DV.v (Value.int IntKind.u8 0))] (0 + Int.toNat 0 * 1) [v] = [v, AV.d (DV.v (Value.int IntKind.u8 0)), AV.d (DV.v (Value.int IntKind.u8 0)), AV.d (DV.v (Value.int IntKind.u8 0)), AV.d (DV.v (Value.int IntKind.u8 0)), AV.d (DV.v (Value.int IntKind.u8 0)), AV.d (DV.v (Value.int IntKind.u8 0)), AV.d (DV.v (Value.int IntKind.u8 0))] := fun _ => rfl
  have q1 : (0 : Int) ≤ 0 := by decide
  have q2 : (0 : Int) < 8 := by decide
  have q3 : 0 + Int.toNat 0 * 1 + 1 ≤ 8 := by decide
  have q4 : inI64 (0 + 1) := by unfold inI64; omega
  have q5 := rk105 (fS 0 a0 ds) 0 0 0 0 0 0 0
  rw [res_eq]
  simp only [B108, sem_br, sem_ask, sem_nxt, sem_triv, sem_ret, PC.holds, need_true, stepO_nxt, stepO_ret, n0, List.drop_zero, hw, sp, q1, q2, q3, q4, q5, decide_false, Bool.false_eq_true, if_false]
  rfl
theorem s105_1 (hd : ∀ b ∈ ds, ByteI b) (hl : ds.length ≤ 1000) (a0 a1 a2 a3 a4 a5 a6 a7 b0 b1 b2 b3 b4 b5 b6 b7 : Int) (h : ByteI a1) : res B108 (.c2 ds.length (ds.map vB) 1 a0 a1 a2 a3 a4 a5 a6 a7 [AV.d (DV.v (Value.int IntKind.u8 b0)), AV.d (DV.v (Value.int IntKind.u8 b1)), AV.d (DV.v (Value.int IntKind.u8 b2)), AV.d (DV.v (Value.int IntKind.u8 b3)), AV.d (DV.v (Value.int IntKind.u8 b4)), AV.d (DV.v (Value.int IntKind.u8 b5)), AV.d (DV.v (Value.int IntKind.u8 b6)), AV.d (DV.v (Value.int IntKind.u8 b7))]) = res B108 (.c2 ds.length (ds.map vB) 2 a0 a1 a2 a3 a4 a5 a6 a7 [AV.d (DV.v (Value.int IntKind.u8 b0)), AV.d (DV.v (Value.int IntKind.u8 (fS 1 a1 ds))), AV.d (DV.v (Value.int IntKind.u8 b2)), AV.d (DV.v (Value.int IntKind.u8 b3)), AV.d (DV.v (Value.int IntKind.u8 b4)), AV.d (DV.v (Value.int IntKind.u8 b5)), AV.d (DV.v (Value.int IntKind.u8 b6)), AV.d (DV.v (Value.int IntKind.u8 b7))]) := by
  have e := s105_c3 hd hl (j := 1) ⟨by decide, by decide⟩ a0 a1 a2 a3 a4 a5 a6 a7 b0 b1 b2 b3 b4 b5 b6 b7 ds.length 0 a1 (by omega) h
  have ca : dI (celA [AV.d (DV.v (Value.int IntKind.u8 a0)), AV.d (DV.v (Value.int IntKind.u8 a1)), AV.d (DV.v (Value.int IntKind.u8 a2)), AV.d (DV.v (Value.int IntKind.u8 a3)), AV.d (DV.v (Value.int IntKind.u8 a4)), AV.d (DV.v (Value.int IntKind.u8 a5)), AV.d (DV.v (Value.int IntKind.u8 a6)), AV.d (DV.v (Value.int IntKind.u8 a7))] (0 + Int.toNat 1 * 1)) = a1 := rfl
  have cg : ([AV.d (DV.v (Value.int IntKind.u8 a0)), AV.d (DV.v (Value.int IntKind.u8 a1)), AV.d (DV.v (Value.int IntKind.u8 a2)), AV.d (DV.v (Value.int IntKind.u8 a3)), AV.d (DV.v (Value.int IntKind.u8 a4)), AV.d (DV.v (Value.int IntKind.u8 a5)), AV.d (DV.v (Value.int IntKind.u8 a6)), AV.d (DV.v (Value.int IntKind.u8 a7))] : List AV)[0 + Int.toNat 1 * 1]? = some (AV.d (DV.v (Value.int IntKind.u8 a1))) := rfl
  have hw := wu (fS_b 1 ds a1 h)
  have w := wb h
  have n0 : ¬ ((ds.length : Int) < (ds.length : Int)) := Int.lt_irrefl _
  have sp : ∀ v, spliceA [AV.d (DV.v (Value.int IntKind.u8 b0)), AV.d (DV.v (Value.int IntKind.u8 b1)), AV.d (DV.v (Value.int IntKind.u8 b2)), AV.d (DV.v (Value.int IntKind.u8 b3)), AV.d (DV.v (Value.int IntKind.u8 b4)), AV.d (DV.v (Value.int IntKind.u8 b5)), AV.d (DV.v (Value.int IntKind.u8 b6)), AV.d (DV.v (Value.int IntKind.u8 b7))] (0 + Int.toNat 1 * 1) [v] = [AV.d (DV.v (Value.int IntKind.u8 b0)), v, AV.d (DV.v (Value.int IntKind.u8 b2)), AV.d (DV.v (Value.int IntKind.u8 b3)), AV.d (DV.v (Value.int IntKind.u8 b4)), AV.d (DV.v (Value.int IntKind.u8 b5)), AV.d (DV.v (Value.int IntKind.u8 b6)), AV.d (DV.v (Value.int IntKind.u8 b7))] := fun _ => rfl
  have q1 : (0 : Int) ≤ 1 := by decide
  have q2 : (1 : Int) < 8 := by decide
  have q3 : 0 + Int.toNat 1 * 1 + 1 ≤ ([AV.d (DV.v (Value.int IntKind.u8 b0)), AV.d (DV.v (Value.int IntKind.u8 b1)), AV.d (DV.v (Value.int IntKind.u8 b2)), AV.d (DV.v (Value.int IntKind.u8 b3)), AV.d (DV.v (Value.int IntKind.u8 b4)), AV.d (DV.v (Value.int IntKind.u8 b5)), AV.d (DV.v (Value.int IntKind.u8 b6)), AV.d (DV.v (Value.int IntKind.u8 b7))] : List AV).length := Nat.le_of_ble_eq_true rfl
  have q4 : inI64 (1 + 1) := by unfold inI64; omega
  have q5 := rk105 b0 b1 b2 b3 b4 b5 b6 b7
  have q6 := rk105 b0 (fS 1 a1 ds) b2 b3 b4 b5 b6 b7
  have e1 : res B108 (.c2 ds.length (ds.map vB) 1 a0 a1 a2 a3 a4 a5 a6 a7 [AV.d (DV.v (Value.int IntKind.u8 b0)), AV.d (DV.v (Value.int IntKind.u8 b1)), AV.d (DV.v (Value.int IntKind.u8 b2)), AV.d (DV.v (Value.int IntKind.u8 b3)), AV.d (DV.v (Value.int IntKind.u8 b4)), AV.d (DV.v (Value.int IntKind.u8 b5)), AV.d (DV.v (Value.int IntKind.u8 b6)), AV.d (DV.v (Value.int IntKind.u8 b7))]) = res B108 (.c3 ds.length (ds.map vB) 1 a1 0 a0 a1 a2 a3 a4 a5 a6 a7 [AV.d (DV.v (Value.int IntKind.u8 b0)), AV.d (DV.v (Value.int IntKind.u8 b1)), AV.d (DV.v (Value.int IntKind.u8 b2)), AV.d (DV.v (Value.int IntKind.u8 b3)), AV.d (DV.v (Value.int IntKind.u8 b4)), AV.d (DV.v (Value.int IntKind.u8 b5)), AV.d (DV.v (Value.int IntKind.u8 b6)), AV.d (DV.v (Value.int IntKind.u8 b7))]) := by
    rw [res_eq]
    simp only [B108, sem_br, sem_ask, sem_nxt, sem_triv, sem_ret, PC.holds, need_true, stepO_nxt, stepO_ret, ca, cg, w, q1, q2, q5, decide_true, if_true]
  rw [e1]
  refine Eq.trans e ?_
  rw [res_eq]
  simp only [B108, sem_br, sem_ask, sem_nxt, sem_triv, sem_ret, PC.holds, need_true, stepO_nxt, stepO_ret, n0, List.drop_zero, hw, sp, q1, q2, q3, q4, q6, decide_false, Bool.false_eq_true, if_false]
  rfl
theorem s105_2 (hd : ∀ b ∈ ds, ByteI b) (hl : ds.length ≤ 1000) (a0 a1 a2 a3 a4 a5 a6 a7 b0 b1 b2 b3 b4 b5 b6 b7 : Int) (h : ByteI a2) : res B108 (.c2 ds.length (ds.map vB) 2 a0 a1 a2 a3 a4 a5 a6 a7 [AV.d (DV.v (Value.int IntKind.u8 b0)), AV.d (DV.v (Value.int IntKind.u8 b1)), AV.d (DV.v (Value.int IntKind.u8 b2)), AV.d (DV.v (Value.int IntKind.u8 b3)), AV.d (DV.v (Value.int IntKind.u8 b4)), AV.d (DV.v (Value.int IntKind.u8 b5)), AV.d (DV.v (Value.int IntKind.u8 b6)), AV.d (DV.v (Value.int IntKind.u8 b7))]) = res B108 (.c2 ds.length (ds.map vB) 3 a0 a1 a2 a3 a4 a5 a6 a7 [AV.d (DV.v (Value.int IntKind.u8 b0)), AV.d (DV.v (Value.int IntKind.u8 b1)), AV.d (DV.v (Value.int IntKind.u8 (fS 2 a2 ds))), AV.d (DV.v (Value.int IntKind.u8 b3)), AV.d (DV.v (Value.int IntKind.u8 b4)), AV.d (DV.v (Value.int IntKind.u8 b5)), AV.d (DV.v (Value.int IntKind.u8 b6)), AV.d (DV.v (Value.int IntKind.u8 b7))]) := by
  have e := s105_c3 hd hl (j := 2) ⟨by decide, by decide⟩ a0 a1 a2 a3 a4 a5 a6 a7 b0 b1 b2 b3 b4 b5 b6 b7 ds.length 0 a2 (by omega) h
  have ca : dI (celA [AV.d (DV.v (Value.int IntKind.u8 a0)), AV.d (DV.v (Value.int IntKind.u8 a1)), AV.d (DV.v (Value.int IntKind.u8 a2)), AV.d (DV.v (Value.int IntKind.u8 a3)), AV.d (DV.v (Value.int IntKind.u8 a4)), AV.d (DV.v (Value.int IntKind.u8 a5)), AV.d (DV.v (Value.int IntKind.u8 a6)), AV.d (DV.v (Value.int IntKind.u8 a7))] (0 + Int.toNat 2 * 1)) = a2 := rfl
  have cg : ([AV.d (DV.v (Value.int IntKind.u8 a0)), AV.d (DV.v (Value.int IntKind.u8 a1)), AV.d (DV.v (Value.int IntKind.u8 a2)), AV.d (DV.v (Value.int IntKind.u8 a3)), AV.d (DV.v (Value.int IntKind.u8 a4)), AV.d (DV.v (Value.int IntKind.u8 a5)), AV.d (DV.v (Value.int IntKind.u8 a6)), AV.d (DV.v (Value.int IntKind.u8 a7))] : List AV)[0 + Int.toNat 2 * 1]? = some (AV.d (DV.v (Value.int IntKind.u8 a2))) := rfl
  have hw := wu (fS_b 2 ds a2 h)
  have w := wb h
  have n0 : ¬ ((ds.length : Int) < (ds.length : Int)) := Int.lt_irrefl _
  have sp : ∀ v, spliceA [AV.d (DV.v (Value.int IntKind.u8 b0)), AV.d (DV.v (Value.int IntKind.u8 b1)), AV.d (DV.v (Value.int IntKind.u8 b2)), AV.d (DV.v (Value.int IntKind.u8 b3)), AV.d (DV.v (Value.int IntKind.u8 b4)), AV.d (DV.v (Value.int IntKind.u8 b5)), AV.d (DV.v (Value.int IntKind.u8 b6)), AV.d (DV.v (Value.int IntKind.u8 b7))] (0 + Int.toNat 2 * 1) [v] = [AV.d (DV.v (Value.int IntKind.u8 b0)), AV.d (DV.v (Value.int IntKind.u8 b1)), v, AV.d (DV.v (Value.int IntKind.u8 b3)), AV.d (DV.v (Value.int IntKind.u8 b4)), AV.d (DV.v (Value.int IntKind.u8 b5)), AV.d (DV.v (Value.int IntKind.u8 b6)), AV.d (DV.v (Value.int IntKind.u8 b7))] := fun _ => rfl
  have q1 : (0 : Int) ≤ 2 := by decide
  have q2 : (2 : Int) < 8 := by decide
  have q3 : 0 + Int.toNat 2 * 1 + 1 ≤ ([AV.d (DV.v (Value.int IntKind.u8 b0)), AV.d (DV.v (Value.int IntKind.u8 b1)), AV.d (DV.v (Value.int IntKind.u8 b2)), AV.d (DV.v (Value.int IntKind.u8 b3)), AV.d (DV.v (Value.int IntKind.u8 b4)), AV.d (DV.v (Value.int IntKind.u8 b5)), AV.d (DV.v (Value.int IntKind.u8 b6)), AV.d (DV.v (Value.int IntKind.u8 b7))] : List AV).length := Nat.le_of_ble_eq_true rfl
  have q4 : inI64 (2 + 1) := by unfold inI64; omega
  have q5 := rk105 b0 b1 b2 b3 b4 b5 b6 b7
  have q6 := rk105 b0 b1 (fS 2 a2 ds) b3 b4 b5 b6 b7
  have e1 : res B108 (.c2 ds.length (ds.map vB) 2 a0 a1 a2 a3 a4 a5 a6 a7 [AV.d (DV.v (Value.int IntKind.u8 b0)), AV.d (DV.v (Value.int IntKind.u8 b1)), AV.d (DV.v (Value.int IntKind.u8 b2)), AV.d (DV.v (Value.int IntKind.u8 b3)), AV.d (DV.v (Value.int IntKind.u8 b4)), AV.d (DV.v (Value.int IntKind.u8 b5)), AV.d (DV.v (Value.int IntKind.u8 b6)), AV.d (DV.v (Value.int IntKind.u8 b7))]) = res B108 (.c3 ds.length (ds.map vB) 2 a2 0 a0 a1 a2 a3 a4 a5 a6 a7 [AV.d (DV.v (Value.int IntKind.u8 b0)), AV.d (DV.v (Value.int IntKind.u8 b1)), AV.d (DV.v (Value.int IntKind.u8 b2)), AV.d (DV.v (Value.int IntKind.u8 b3)), AV.d (DV.v (Value.int IntKind.u8 b4)), AV.d (DV.v (Value.int IntKind.u8 b5)), AV.d (DV.v (Value.int IntKind.u8 b6)), AV.d (DV.v (Value.int IntKind.u8 b7))]) := by
    rw [res_eq]
    simp only [B108, sem_br, sem_ask, sem_nxt, sem_triv, sem_ret, PC.holds, need_true, stepO_nxt, stepO_ret, ca, cg, w, q1, q2, q5, decide_true, if_true]
  rw [e1]
  refine Eq.trans e ?_
  rw [res_eq]
  simp only [B108, sem_br, sem_ask, sem_nxt, sem_triv, sem_ret, PC.holds, need_true, stepO_nxt, stepO_ret, n0, List.drop_zero, hw, sp, q1, q2, q3, q4, q6, decide_false, Bool.false_eq_true, if_false]
  rfl
theorem s105_3 (hd : ∀ b ∈ ds, ByteI b) (hl : ds.length ≤ 1000) (a0 a1 a2 a3 a4 a5 a6 a7 b0 b1 b2 b3 b4 b5 b6 b7 : Int) (h : ByteI a3) : res B108 (.c2 ds.length (ds.map vB) 3 a0 a1 a2 a3 a4 a5 a6 a7 [AV.d (DV.v (Value.int IntKind.u8 b0)), AV.d (DV.v (Value.int IntKind.u8 b1)), AV.d (DV.v (Value.int IntKind.u8 b2)), AV.d (DV.v (Value.int IntKind.u8 b3)), AV.d (DV.v (Value.int IntKind.u8 b4)), AV.d (DV.v (Value.int IntKind.u8 b5)), AV.d (DV.v (Value.int IntKind.u8 b6)), AV.d (DV.v (Value.int IntKind.u8 b7))]) = res B108 (.c2 ds.length (ds.map vB) 4 a0 a1 a2 a3 a4 a5 a6 a7 [AV.d (DV.v (Value.int IntKind.u8 b0)), AV.d (DV.v (Value.int IntKind.u8 b1)), AV.d (DV.v (Value.int IntKind.u8 b2)), AV.d (DV.v (Value.int IntKind.u8 (fS 3 a3 ds))), AV.d (DV.v (Value.int IntKind.u8 b4)), AV.d (DV.v (Value.int IntKind.u8 b5)), AV.d (DV.v (Value.int IntKind.u8 b6)), AV.d (DV.v (Value.int IntKind.u8 b7))]) := by
  have e := s105_c3 hd hl (j := 3) ⟨by decide, by decide⟩ a0 a1 a2 a3 a4 a5 a6 a7 b0 b1 b2 b3 b4 b5 b6 b7 ds.length 0 a3 (by omega) h
  have ca : dI (celA [AV.d (DV.v (Value.int IntKind.u8 a0)), AV.d (DV.v (Value.int IntKind.u8 a1)), AV.d (DV.v (Value.int IntKind.u8 a2)), AV.d (DV.v (Value.int IntKind.u8 a3)), AV.d (DV.v (Value.int IntKind.u8 a4)), AV.d (DV.v (Value.int IntKind.u8 a5)), AV.d (DV.v (Value.int IntKind.u8 a6)), AV.d (DV.v (Value.int IntKind.u8 a7))] (0 + Int.toNat 3 * 1)) = a3 := rfl
  have cg : ([AV.d (DV.v (Value.int IntKind.u8 a0)), AV.d (DV.v (Value.int IntKind.u8 a1)), AV.d (DV.v (Value.int IntKind.u8 a2)), AV.d (DV.v (Value.int IntKind.u8 a3)), AV.d (DV.v (Value.int IntKind.u8 a4)), AV.d (DV.v (Value.int IntKind.u8 a5)), AV.d (DV.v (Value.int IntKind.u8 a6)), AV.d (DV.v (Value.int IntKind.u8 a7))] : List AV)[0 + Int.toNat 3 * 1]? = some (AV.d (DV.v (Value.int IntKind.u8 a3))) := rfl
  have hw := wu (fS_b 3 ds a3 h)
  have w := wb h
  have n0 : ¬ ((ds.length : Int) < (ds.length : Int)) := Int.lt_irrefl _
  have sp : ∀ v, spliceA [AV.d (DV.v (Value.int IntKind.u8 b0)), AV.d (DV.v (Value.int IntKind.u8 b1)), AV.d (DV.v (Value.int IntKind.u8 b2)), AV.d (DV.v (Value.int IntKind.u8 b3)), AV.d (DV.v (Value.int IntKind.u8 b4)), AV.d (DV.v (Value.int IntKind.u8 b5)), AV.d (DV.v (Value.int IntKind.u8 b6)), AV.d (DV.v (Value.int IntKind.u8 b7))] (0 + Int.toNat 3 * 1) [v] = [AV.d (DV.v (Value.int IntKind.u8 b0)), AV.d (DV.v (Value.int IntKind.u8 b1)), AV.d (DV.v (Value.int IntKind.u8 b2)), v, AV.d (DV.v (Value.int IntKind.u8 b4)), AV.d (DV.v (Value.int IntKind.u8 b5)), AV.d (DV.v (Value.int IntKind.u8 b6)), AV.d (DV.v (Value.int IntKind.u8 b7))] := fun _ => rfl
  have q1 : (0 : Int) ≤ 3 := by decide
  have q2 : (3 : Int) < 8 := by decide
  have q3 : 0 + Int.toNat 3 * 1 + 1 ≤ ([AV.d (DV.v (Value.int IntKind.u8 b0)), AV.d (DV.v (Value.int IntKind.u8 b1)), AV.d (DV.v (Value.int IntKind.u8 b2)), AV.d (DV.v (Value.int IntKind.u8 b3)), AV.d (DV.v (Value.int IntKind.u8 b4)), AV.d (DV.v (Value.int IntKind.u8 b5)), AV.d (DV.v (Value.int IntKind.u8 b6)), AV.d (DV.v (Value.int IntKind.u8 b7))] : List AV).length := Nat.le_of_ble_eq_true rfl
  have q4 : inI64 (3 + 1) := by unfold inI64; omega
  have q5 := rk105 b0 b1 b2 b3 b4 b5 b6 b7
  have q6 := rk105 b0 b1 b2 (fS 3 a3 ds) b4 b5 b6 b7
  have e1 : res B108 (.c2 ds.length (ds.map vB) 3 a0 a1 a2 a3 a4 a5 a6 a7 [AV.d (DV.v (Value.int IntKind.u8 b0)), AV.d (DV.v (Value.int IntKind.u8 b1)), AV.d (DV.v (Value.int IntKind.u8 b2)), AV.d (DV.v (Value.int IntKind.u8 b3)), AV.d (DV.v (Value.int IntKind.u8 b4)), AV.d (DV.v (Value.int IntKind.u8 b5)), AV.d (DV.v (Value.int IntKind.u8 b6)), AV.d (DV.v (Value.int IntKind.u8 b7))]) = res B108 (.c3 ds.length (ds.map vB) 3 a3 0 a0 a1 a2 a3 a4 a5 a6 a7 [AV.d (DV.v (Value.int IntKind.u8 b0)), AV.d (DV.v (Value.int IntKind.u8 b1)), AV.d (DV.v (Value.int IntKind.u8 b2)), AV.d (DV.v (Value.int IntKind.u8 b3)), AV.d (DV.v (Value.int IntKind.u8 b4)), AV.d (DV.v (Value.int IntKind.u8 b5)), AV.d (DV.v (Value.int IntKind.u8 b6)), AV.d (DV.v (Value.int IntKind.u8 b7))]) := by
    rw [res_eq]
    simp only [B108, sem_br, sem_ask, sem_nxt, sem_triv, sem_ret, PC.holds, need_true, stepO_nxt, stepO_ret, ca, cg, w, q1, q2, q5, decide_true, if_true]
  rw [e1]
  refine Eq.trans e ?_
  rw [res_eq]
  simp only [B108, sem_br, sem_ask, sem_nxt, sem_triv, sem_ret, PC.holds, need_true, stepO_nxt, stepO_ret, n0, List.drop_zero, hw, sp, q1, q2, q3, q4, q6, decide_false, Bool.false_eq_true, if_false]
  rfl
theorem s105_4 (hd : ∀ b ∈ ds, ByteI b) (hl : ds.length ≤ 1000) (a0 a1 a2 a3 a4 a5 a6 a7 b0 b1 b2 b3 b4 b5 b6 b7 : Int) (h : ByteI a4) : res B108 (.c2 ds.length (ds.map vB) 4 a0 a1 a2 a3 a4 a5 a6 a7 [AV.d (DV.v (Value.int IntKind.u8 b0)), AV.d (DV.v (Value.int IntKind.u8 b1)), AV.d (DV.v (Value.int IntKind.u8 b2)), AV.d (DV.v (Value.int IntKind.u8 b3)), AV.d (DV.v (Value.int IntKind.u8 b4)), AV.d (DV.v (Value.int IntKind.u8 b5)), AV.d (DV.v (Value.int IntKind.u8 b6)), AV.d (DV.v (Value.int IntKind.u8 b7))]) = res B108 (.c2 ds.length (ds.map vB) 5 a0 a1 a2 a3 a4 a5 a6 a7 [AV.d (DV.v (Value.int IntKind.u8 b0)), AV.d (DV.v (Value.int IntKind.u8 b1)), AV.d (DV.v (Value.int IntKind.u8 b2)), AV.d (DV.v (Value.int IntKind.u8 b3)), AV.d (DV.v (Value.int IntKind.u8 (fS 4 a4 ds))), AV.d (DV.v (Value.int IntKind.u8 b5)), AV.d (DV.v (Value.int IntKind.u8 b6)), AV.d (DV.v (Value.int IntKind.u8 b7))]) := by
  have e := s105_c3 hd hl (j := 4) ⟨by decide, by decide⟩ a0 a1 a2 a3 a4 a5 a6 a7 b0 b1 b2 b3 b4 b5 b6 b7 ds.length 0 a4 (by omega) h
  have ca : dI (celA [AV.d (DV.v (Value.int IntKind.u8 a0)), AV.d (DV.v (Value.int IntKind.u8 a1)), AV.d (DV.v (Value.int IntKind.u8 a2)), AV.d (DV.v (Value.int IntKind.u8 a3)), AV.d (DV.v (Value.int IntKind.u8 a4)), AV.d (DV.v (Value.int IntKind.u8 a5)), AV.d (DV.v (Value.int IntKind.u8 a6)), AV.d (DV.v (Value.int IntKind.u8 a7))] (0 + Int.toNat 4 * 1)) = a4 := rfl
  have cg : ([AV.d (DV.v (Value.int IntKind.u8 a0)), AV.d (DV.v (Value.int IntKind.u8 a1)), AV.d (DV.v (Value.int IntKind.u8 a2)), AV.d (DV.v (Value.int IntKind.u8 a3)), AV.d (DV.v (Value.int IntKind.u8 a4)), AV.d (DV.v (Value.int IntKind.u8 a5)), AV.d (DV.v (Value.int IntKind.u8 a6)), AV.d (DV.v (Value.int IntKind.u8 a7))] : List AV)[0 + Int.toNat 4 * 1]? = some (AV.d (DV.v (Value.int IntKind.u8 a4))) := rfl
  have hw := wu (fS_b 4 ds a4 h)
  have w := wb h
  have n0 : ¬ ((ds.length : Int) < (ds.length : Int)) := Int.lt_irrefl _
  have sp : ∀ v, spliceA [AV.d (DV.v (Value.int IntKind.u8 b0)), AV.d (DV.v (Value.int IntKind.u8 b1)), AV.d (DV.v (Value.int IntKind.u8 b2)), AV.d (DV.v (Value.int IntKind.u8 b3)), AV.d (DV.v (Value.int IntKind.u8 b4)), AV.d (DV.v (Value.int IntKind.u8 b5)), AV.d (DV.v (Value.int IntKind.u8 b6)), AV.d (DV.v (Value.int IntKind.u8 b7))] (0 + Int.toNat 4 * 1) [v] = [AV.d (DV.v (Value.int IntKind.u8 b0)), AV.d (DV.v (Value.int IntKind.u8 b1)), AV.d (DV.v (Value.int IntKind.u8 b2)), AV.d (DV.v (Value.int IntKind.u8 b3)), v, AV.d (DV.v (Value.int IntKind.u8 b5)), AV.d (DV.v (Value.int IntKind.u8 b6)), AV.d (DV.v (Value.int IntKind.u8 b7))] := fun _ => rfl
  have q1 : (0 : Int) ≤ 4 := by decide
  have q2 : (4 : Int) < 8 := by decide
  have q3 : 0 + Int.toNat 4 * 1 + 1 ≤ ([AV.d (DV.v (Value.int IntKind.u8 b0)), AV.d (DV.v (Value.int IntKind.u8 b1)), AV.d (DV.v (Value.int IntKind.u8 b2)), AV.d (DV.v (Value.int IntKind.u8 b3)), AV.d (DV.v (Value.int IntKind.u8 b4)), AV.d (DV.v (Value.int IntKind.u8 b5)), AV.d (DV.v (Value.int IntKind.u8 b6)), AV.d (DV.v (Value.int IntKind.u8 b7))] : List AV).length := Nat.le_of_ble_eq_true rfl
  have q4 : inI64 (4 + 1) := by unfold inI64; omega
  have q5 := rk105 b0 b1 b2 b3 b4 b5 b6 b7
  have q6 := rk105 b0 b1 b2 b3 (fS 4 a4 ds) b5 b6 b7
  have e1 : res B108 (.c2 ds.length (ds.map vB) 4 a0 a1 a2 a3 a4 a5 a6 a7 [AV.d (DV.v (Value.int IntKind.u8 b0)), AV.d (DV.v (Value.int IntKind.u8 b1)), AV.d (DV.v (Value.int IntKind.u8 b2)), AV.d (DV.v (Value.int IntKind.u8 b3)), AV.d (DV.v (Value.int IntKind.u8 b4)), AV.d (DV.v (Value.int IntKind.u8 b5)), AV.d (DV.v (Value.int IntKind.u8 b6)), AV.d (DV.v (Value.int IntKind.u8 b7))]) = res B108 (.c3 ds.length (ds.map vB) 4 a4 0 a0 a1 a2 a3 a4 a5 a6 a7 [AV.d (DV.v (Value.int IntKind.u8 b0)), AV.d (DV.v (Value.int IntKind.u8 b1)), AV.d (DV.v (Value.int IntKind.u8 b2)), AV.d (DV.v (Value.int IntKind.u8 b3)), AV.d (DV.v (Value.int IntKind.u8 b4)), AV.d (DV.v (Value.int IntKind.u8 b5)), AV.d (DV.v (Value.int IntKind.u8 b6)), AV.d (DV.v (Value.int IntKind.u8 b7))]) := by
    rw [res_eq]
    simp only [B108, sem_br, sem_ask, sem_nxt, sem_triv, sem_ret, PC.holds, need_true, stepO_nxt, stepO_ret, ca, cg, w, q1, q2, q5, decide_true, if_true]
  rw [e1]
  refine Eq.trans e ?_
  rw [res_eq]
  simp only [B108, sem_br, sem_ask, sem_nxt, sem_triv, sem_ret, PC.holds, need_true, stepO_nxt, stepO_ret, n0, List.drop_zero, hw, sp, q1, q2, q3, q4, q6, decide_false, Bool.false_eq_true, if_false]
  rfl
theorem s105_5 (hd : ∀ b ∈ ds, ByteI b) (hl : ds.length ≤ 1000) (a0 a1 a2 a3 a4 a5 a6 a7 b0 b1 b2 b3 b4 b5 b6 b7 : Int) (h : ByteI a5) : res B108 (.c2 ds.length (ds.map vB) 5 a0 a1 a2 a3 a4 a5 a6 a7 [AV.d (DV.v (Value.int IntKind.u8 b0)), AV.d (DV.v (Value.int IntKind.u8 b1)), AV.d (DV.v (Value.int IntKind.u8 b2)), AV.d (DV.v (Value.int IntKind.u8 b3)), AV.d (DV.v (Value.int IntKind.u8 b4)), AV.d (DV.v (Value.int IntKind.u8 b5)), AV.d (DV.v (Value.int IntKind.u8 b6)), AV.d (DV.v (Value.int IntKind.u8 b7))]) = res B108 (.c2 ds.length (ds.map vB) 6 a0 a1 a2 a3 a4 a5 a6 a7 [AV.d (DV.v (Value.int IntKind.u8 b0)), AV.d (DV.v (Value.int IntKind.u8 b1)), AV.d (DV.v (Value.int IntKind.u8 b2)), AV.d (DV.v (Value.int IntKind.u8 b3)), AV.d (DV.v (Value.int IntKind.u8 b4)), AV.d (DV.v (Value.int IntKind.u8 (fS 5 a5 ds))), AV.d (DV.v (Value.int IntKind.u8 b6)), AV.d (DV.v (Value.int IntKind.u8 b7))]) := by
  have e := s105_c3 hd hl (j := 5) ⟨by decide, by decide⟩ a0 a1 a2 a3 a4 a5 a6 a7 b0 b1 b2 b3 b4 b5 b6 b7 ds.length 0 a5 (by omega) h
  have ca : dI (celA [AV.d (DV.v (Value.int IntKind.u8 a0)), AV.d (DV.v (Value.int IntKind.u8 a1)), AV.d (DV.v (Value.int IntKind.u8 a2)), AV.d (DV.v (Value.int IntKind.u8 a3)), AV.d (DV.v (Value.int IntKind.u8 a4)), AV.d (DV.v (Value.int IntKind.u8 a5)), AV.d (DV.v (Value.int IntKind.u8 a6)), AV.d (DV.v (Value.int IntKind.u8 a7))] (0 + Int.toNat 5 * 1)) = a5 := rfl
  have cg : ([AV.d (DV.v (Value.int IntKind.u8 a0)), AV.d (DV.v (Value.int IntKind.u8 a1)), AV.d (DV.v (Value.int IntKind.u8 a2)), AV.d (DV.v (Value.int IntKind.u8 a3)), AV.d (DV.v (Value.int IntKind.u8 a4)), AV.d (DV.v (Value.int IntKind.u8 a5)), AV.d (DV.v (Value.int IntKind.u8 a6)), AV.d (DV.v (Value.int IntKind.u8 a7))] : List AV)[0 + Int.toNat 5 * 1]? = some (AV.d (DV.v (Value.int IntKind.u8 a5))) := rfl
  have hw := wu (fS_b 5 ds a5 h)
  have w := wb h
  have n0 : ¬ ((ds.length : Int) < (ds.length : Int)) := Int.lt_irrefl _
  have sp : ∀ v, spliceA [AV.d (DV.v (Value.int IntKind.u8 b0)), AV.d (DV.v (Value.int IntKind.u8 b1)), AV.d (DV.v (Value.int IntKind.u8 b2)), AV.d (DV.v (Value.int IntKind.u8 b3)), AV.d (DV.v (Value.int IntKind.u8 b4)), AV.d (DV.v (Value.int IntKind.u8 b5)), AV.d (DV.v (Value.int IntKind.u8 b6)), AV.d (DV.v (Value.int IntKind.u8 b7))] (0 + Int.toNat 5 * 1) [v] = [AV.d (DV.v (Value.int IntKind.u8 b0)), AV.d (DV.v (Value.int IntKind.u8 b1)), AV.d (DV.v (Value.int IntKind.u8 b2)), AV.d (DV.v (Value.int IntKind.u8 b3)), AV.d (DV.v (Value.int IntKind.u8 b4)), v, AV.d (DV.v (Value.int IntKind.u8 b6)), AV.d (DV.v (Value.int IntKind.u8 b7))] := fun _ => rfl
  have q1 : (0 : Int) ≤ 5 := by decide
  have q2 : (5 : Int) < 8 := by decide
  have q3 : 0 + Int.toNat 5 * 1 + 1 ≤ ([AV.d (DV.v (Value.int IntKind.u8 b0)), AV.d (DV.v (Value.int IntKind.u8 b1)), AV.d (DV.v (Value.int IntKind.u8 b2)), AV.d (DV.v (Value.int IntKind.u8 b3)), AV.d (DV.v (Value.int IntKind.u8 b4)), AV.d (DV.v (Value.int IntKind.u8 b5)), AV.d (DV.v (Value.int IntKind.u8 b6)), AV.d (DV.v (Value.int IntKind.u8 b7))] : List AV).length := Nat.le_of_ble_eq_true rfl
  have q4 : inI64 (5 + 1) := by unfold inI64; omega
  have q5 := rk105 b0 b1 b2 b3 b4 b5 b6 b7
  have q6 := rk105 b0 b1 b2 b3 b4 (fS 5 a5 ds) b6 b7
  have e1 : res B108 (.c2 ds.length (ds.map vB) 5 a0 a1 a2 a3 a4 a5 a6 a7 [AV.d (DV.v (Value.int IntKind.u8 b0)), AV.d (DV.v (Value.int IntKind.u8 b1)), AV.d (DV.v (Value.int IntKind.u8 b2)), AV.d (DV.v (Value.int IntKind.u8 b3)), AV.d (DV.v (Value.int IntKind.u8 b4)), AV.d (DV.v (Value.int IntKind.u8 b5)), AV.d (DV.v (Value.int IntKind.u8 b6)), AV.d (DV.v (Value.int IntKind.u8 b7))]) = res B108 (.c3 ds.length (ds.map vB) 5 a5 0 a0 a1 a2 a3 a4 a5 a6 a7 [AV.d (DV.v (Value.int IntKind.u8 b0)), AV.d (DV.v (Value.int IntKind.u8 b1)), AV.d (DV.v (Value.int IntKind.u8 b2)), AV.d (DV.v (Value.int IntKind.u8 b3)), AV.d (DV.v (Value.int IntKind.u8 b4)), AV.d (DV.v (Value.int IntKind.u8 b5)), AV.d (DV.v (Value.int IntKind.u8 b6)), AV.d (DV.v (Value.int IntKind.u8 b7))]) := by
    rw [res_eq]
    simp only [B108, sem_br, sem_ask, sem_nxt, sem_triv, sem_ret, PC.holds, need_true, stepO_nxt, stepO_ret, ca, cg, w, q1, q2, q5, decide_true, if_true]
  rw [e1]
  refine Eq.trans e ?_
  rw [res_eq]
  simp only [B108, sem_br, sem_ask, sem_nxt, sem_triv, sem_ret, PC.holds, need_true, stepO_nxt, stepO_ret, n0, List.drop_zero, hw, sp, q1, q2, q3, q4, q6, decide_false, Bool.false_eq_true, if_false]
  rfl
theorem s105_6 (hd : ∀ b ∈ ds, ByteI b) (hl : ds.length ≤ 1000) (a0 a1 a2 a3 a4 a5 a6 a7 b0 b1 b2 b3 b4 b5 b6 b7 : Int) (h : ByteI a6) : res B108 (.c2 ds.length (ds.map vB) 6 a0 a1 a2 a3 a4 a5 a6 a7 [AV.d (DV.v (Value.int IntKind.u8 b0)), AV.d (DV.v (Value.int IntKind.u8 b1)), AV.d (DV.v (Value.int IntKind.u8 b2)), AV.d (DV.v (Value.int IntKind.u8 b3)), AV.d (DV.v (Value.int IntKind.u8 b4)), AV.d (DV.v (Value.int IntKind.u8 b5)), AV.d (DV.v (Value.int IntKind.u8 b6)), AV.d (DV.v (Value.int IntKind.u8 b7))]) = res B108 (.c2 ds.length (ds.map vB) 7 a0 a1 a2 a3 a4 a5 a6 a7 [AV.d (DV.v (Value.int IntKind.u8 b0)), AV.d (DV.v (Value.int IntKind.u8 b1)), AV.d (DV.v (Value.int IntKind.u8 b2)), AV.d (DV.v (Value.int IntKind.u8 b3)), AV.d (DV.v (Value.int IntKind.u8 b4)), AV.d (DV.v (Value.int IntKind.u8 b5)), AV.d (DV.v (Value.int IntKind.u8 (fS 6 a6 ds))), AV.d (DV.v (Value.int IntKind.u8 b7))]) := by
  have e := s105_c3 hd hl (j := 6) ⟨by decide, by decide⟩ a0 a1 a2 a3 a4 a5 a6 a7 b0 b1 b2 b3 b4 b5 b6 b7 ds.length 0 a6 (by omega) h
  have ca : dI (celA [AV.d (DV.v (Value.int IntKind.u8 a0)), AV.d (DV.v (Value.int IntKind.u8 a1)), AV.d (DV.v (Value.int IntKind.u8 a2)), AV.d (DV.v (Value.int IntKind.u8 a3)), AV.d (DV.v (Value.int IntKind.u8 a4)), AV.d (DV.v (Value.int IntKind.u8 a5)), AV.d (DV.v (Value.int IntKind.u8 a6)), AV.d (DV.v (Value.int IntKind.u8 a7))] (0 + Int.toNat 6 * 1)) = a6 := rfl
  have cg : ([AV.d (DV.v (Value.int IntKind.u8 a0)), AV.d (DV.v (Value.int IntKind.u8 a1)), AV.d (DV.v (Value.int IntKind.u8 a2)), AV.d (DV.v (Value.int IntKind.u8 a3)), AV.d (DV.v (Value.int IntKind.u8 a4)), AV.d (DV.v (Value.int IntKind.u8 a5)), AV.d (DV.v (Value.int IntKind.u8 a6)), AV.d (DV.v (Value.int IntKind.u8 a7))] : List AV)[0 + Int.toNat 6 * 1]? = some (AV.d (DV.v (Value.int IntKind.u8 a6))) := rfl
  have hw := wu (fS_b 6 ds a6 h)
  have w := wb h
  have n0 : ¬ ((ds.length : Int) < (ds.length : Int)) := Int.lt_irrefl _
  have sp : ∀ v, spliceA [AV.d (DV.v (Value.int IntKind.u8 b0)), AV.d (DV.v (Value.int IntKind.u8 b1)), AV.d (DV.v (Value.int IntKind.u8 b2)), AV.d (DV.v (Value.int IntKind.u8 b3)), AV.d (DV.v (Value.int IntKind.u8 b4)), AV.d (DV.v (Value.int IntKind.u8 b5)), AV.d (DV.v (Value.int IntKind.u8 b6)), AV.d (DV.v (Value.int IntKind.u8 b7))] (0 + Int.toNat 6 * 1) [v] = [AV.d (DV.v (Value.int IntKind.u8 b0)), AV.d (DV.v (Value.int IntKind.u8 b1)), AV.d (DV.v (Value.int IntKind.u8 b2)), AV.d (DV.v (Value.int IntKind.u8 b3)), AV.d (DV.v (Value.int IntKind.u8 b4)), AV.d (DV.v (Value.int IntKind.u8 b5)), v, AV.d (DV.v (Value.int IntKind.u8 b7))] := fun _ => rfl
  have q1 : (0 : Int) ≤ 6 := by decide
  have q2 : (6 : Int) < 8 := by decide
  have q3 : 0 + Int.toNat 6 * 1 + 1 ≤ ([AV.d (DV.v (Value.int IntKind.u8 b0)), AV.d (DV.v (Value.int IntKind.u8 b1)), AV.d (DV.v (Value.int IntKind.u8 b2)), AV.d (DV.v (Value.int IntKind.u8 b3)), AV.d (DV.v (Value.int IntKind.u8 b4)), AV.d (DV.v (Value.int IntKind.u8 b5)), AV.d (DV.v (Value.int IntKind.u8 b6)), AV.d (DV.v (Value.int IntKind.u8 b7))] : List AV).length := Nat.le_of_ble_eq_true rfl
  have q4 : inI64 (6 + 1) := by unfold inI64; omega
  have q5 := rk105 b0 b1 b2 b3 b4 b5 b6 b7
  have q6 := rk105 b0 b1 b2 b3 b4 b5 (fS 6 a6 ds) b7
  have e1 : res B108 (.c2 ds.length (ds.map vB) 6 a0 a1 a2 a3 a4 a5 a6 a7 [AV.d (DV.v (Value.int IntKind.u8 b0)), AV.d (DV.v (Value.int IntKind.u8 b1)), AV.d (DV.v (Value.int IntKind.u8 b2)), AV.d (DV.v (Value.int IntKind.u8 b3)), AV.d (DV.v (Value.int IntKind.u8 b4)), AV.d (DV.v (Value.int IntKind.u8 b5)), AV.d (DV.v (Value.int IntKind.u8 b6)), AV.d (DV.v (Value.int IntKind.u8 b7))]) = res B108 (.c3 ds.length (ds.map vB) 6 a6 0 a0 a1 a2 a3 a4 a5 a6 a7 [AV.d (DV.v (Value.int IntKind.u8 b0)), AV.d (DV.v (Value.int IntKind.u8 b1)), AV.d (DV.v (Value.int IntKind.u8 b2)), AV.d (DV.v (Value.int IntKind.u8 b3)), AV.d (DV.v (Value.int IntKind.u8 b4)), AV.d (DV.v (Value.int IntKind.u8 b5)), AV.d (DV.v (Value.int IntKind.u8 b6)), AV.d (DV.v (Value.int IntKind.u8 b7))]) := by
    rw [res_eq]
    simp only [B108, sem_br, sem_ask, sem_nxt, sem_triv, sem_ret, PC.holds, need_true, stepO_nxt, stepO_ret, ca, cg, w, q1, q2, q5, decide_true, if_true]
  rw [e1]
  refine Eq.trans e ?_
  rw [res_eq]
  simp only [B108, sem_br, sem_ask, sem_nxt, sem_triv, sem_ret, PC.holds, need_true, stepO_nxt, stepO_ret, n0, List.drop_zero, hw, sp, q1, q2, q3, q4, q6, decide_false, Bool.false_eq_true, if_false]
  rfl
theorem s105_7 (hd : ∀ b ∈ ds, ByteI b) (hl : ds.length ≤ 1000) (a0 a1 a2 a3 a4 a5 a6 a7 b0 b1 b2 b3 b4 b5 b6 b7 : Int) (h : ByteI a7) : res B108 (.c2 ds.length (ds.map vB) 7 a0 a1 a2 a3 a4 a5 a6 a7 [AV.d (DV.v (Value.int IntKind.u8 b0)), AV.d (DV.v (Value.int IntKind.u8 b1)), AV.d (DV.v (Value.int IntKind.u8 b2)), AV.d (DV.v (Value.int IntKind.u8 b3)), AV.d (DV.v (Value.int IntKind.u8 b4)), AV.d (DV.v (Value.int IntKind.u8 b5)), AV.d (DV.v (Value.int IntKind.u8 b6)), AV.d (DV.v (Value.int IntKind.u8 b7))]) = res B108 (.c2 ds.length (ds.map vB) 8 a0 a1 a2 a3 a4 a5 a6 a7 [AV.d (DV.v (Value.int IntKind.u8 b0)), AV.d (DV.v (Value.int IntKind.u8 b1)), AV.d (DV.v (Value.int IntKind.u8 b2)), AV.d (DV.v (Value.int IntKind.u8 b3)), AV.d (DV.v (Value.int IntKind.u8 b4)), AV.d (DV.v (Value.int IntKind.u8 b5)), AV.d (DV.v (Value.int IntKind.u8 b6)), AV.d (DV.v (Value.int IntKind.u8 (fS 7 a7 ds)))]) := by
  have e := s105_c3 hd hl (j := 7) ⟨by decide, by decide⟩ a0 a1 a2 a3 a4 a5 a6 a7 b0 b1 b2 b3 b4 b5 b6 b7 ds.length 0 a7 (by omega) h
  have ca : dI (celA [AV.d (DV.v (Value.int IntKind.u8 a0)), AV.d (DV.v (Value.int IntKind.u8 a1)), AV.d (DV.v (Value.int IntKind.u8 a2)), AV.d (DV.v (Value.int IntKind.u8 a3)), AV.d (DV.v (Value.int IntKind.u8 a4)), AV.d (DV.v (Value.int IntKind.u8 a5)), AV.d (DV.v (Value.int IntKind.u8 a6)), AV.d (DV.v (Value.int IntKind.u8 a7))] (0 + Int.toNat 7 * 1)) = a7 := rfl
  have cg : ([AV.d (DV.v (Value.int IntKind.u8 a0)), AV.d (DV.v (Value.int IntKind.u8 a1)), AV.d (DV.v (Value.int IntKind.u8 a2)), AV.d (DV.v (Value.int IntKind.u8 a3)), AV.d (DV.v (Value.int IntKind.u8 a4)), AV.d (DV.v (Value.int IntKind.u8 a5)), AV.d (DV.v (Value.int IntKind.u8 a6)), AV.d (DV.v (Value.int IntKind.u8 a7))] : List AV)[0 + Int.toNat 7 * 1]? = some (AV.d (DV.v (Value.int IntKind.u8 a7))) := rfl
  have hw := wu (fS_b 7 ds a7 h)
  have w := wb h
  have n0 : ¬ ((ds.length : Int) < (ds.length : Int)) := Int.lt_irrefl _
  have sp : ∀ v, spliceA [AV.d (DV.v (Value.int IntKind.u8 b0)), AV.d (DV.v (Value.int IntKind.u8 b1)), AV.d (DV.v (Value.int IntKind.u8 b2)), AV.d (DV.v (Value.int IntKind.u8 b3)), AV.d (DV.v (Value.int IntKind.u8 b4)), AV.d (DV.v (Value.int IntKind.u8 b5)), AV.d (DV.v (Value.int IntKind.u8 b6)), AV.d (DV.v (Value.int IntKind.u8 b7))] (0 + Int.toNat 7 * 1) [v] = [AV.d (DV.v (Value.int IntKind.u8 b0)), AV.d (DV.v (Value.int IntKind.u8 b1)), AV.d (DV.v (Value.int IntKind.u8 b2)), AV.d (DV.v (Value.int IntKind.u8 b3)), AV.d (DV.v (Value.int IntKind.u8 b4)), AV.d (DV.v (Value.int IntKind.u8 b5)), AV.d (DV.v (Value.int IntKind.u8 b6)), v] := fun _ => rfl
  have q1 : (0 : Int) ≤ 7 := by decide
  have q2 : (7 : Int) < 8 := by decide
  have q3 : 0 + Int.toNat 7 * 1 + 1 ≤ ([AV.d (DV.v (Value.int IntKind.u8 b0)), AV.d (DV.v (Value.int IntKind.u8 b1)), AV.d (DV.v (Value.int IntKind.u8 b2)), AV.d (DV.v (Value.int IntKind.u8 b3)), AV.d (DV.v (Value.int IntKind.u8 b4)), AV.d (DV.v (Value.int IntKind.u8 b5)), AV.d (DV.v (Value.int IntKind.u8 b6)), AV.d (DV.v (Value.int IntKind.u8 b7))] : List AV).length := Nat.le_of_ble_eq_true rfl
  have q4 : inI64 (7 + 1) := by unfold inI64; omega
  have q5 := rk105 b0 b1 b2 b3 b4 b5 b6 b7
  have q6 := rk105 b0 b1 b2 b3 b4 b5 b6 (fS 7 a7 ds)
  have e1 : res B108 (.c2 ds.length (ds.map vB) 7 a0 a1 a2 a3 a4 a5 a6 a7 [AV.d (DV.v (Value.int IntKind.u8 b0)), AV.d (DV.v (Value.int IntKind.u8 b1)), AV.d (DV.v (Value.int IntKind.u8 b2)), AV.d (DV.v (Value.int IntKind.u8 b3)), AV.d (DV.v (Value.int IntKind.u8 b4)), AV.d (DV.v (Value.int IntKind.u8 b5)), AV.d (DV.v (Value.int IntKind.u8 b6)), AV.d (DV.v (Value.int IntKind.u8 b7))]) = res B108 (.c3 ds.length (ds.map vB) 7 a7 0 a0 a1 a2 a3 a4 a5 a6 a7 [AV.d (DV.v (Value.int IntKind.u8 b0)), AV.d (DV.v (Value.int IntKind.u8 b1)), AV.d (DV.v (Value.int IntKind.u8 b2)), AV.d (DV.v (Value.int IntKind.u8 b3)), AV.d (DV.v (Value.int IntKind.u8 b4)), AV.d (DV.v (Value.int IntKind.u8 b5)), AV.d (DV.v (Value.int IntKind.u8 b6)), AV.d (DV.v (Value.int IntKind.u8 b7))]) := by
    rw [res_eq]
    simp only [B108, sem_br, sem_ask, sem_nxt, sem_triv, sem_ret, PC.holds, need_true, stepO_nxt, stepO_ret, ca, cg, w, q1, q2, q5, decide_true, if_true]
  rw [e1]
  refine Eq.trans e ?_
  rw [res_eq]
  simp only [B108, sem_br, sem_ask, sem_nxt, sem_triv, sem_ret, PC.holds, need_true, stepO_nxt, stepO_ret, n0, List.drop_zero, hw, sp, q1, q2, q3, q4, q6, decide_false, Bool.false_eq_true, if_false]
  rfl
theorem s105_8 (a0 a1 a2 a3 a4 a5 a6 a7 b0 b1 b2 b3 b4 b5 b6 b7 : Int) : res B108 (.c2 ds.length (ds.map vB) 8 a0 a1 a2 a3 a4 a5 a6 a7 [AV.d (DV.v (Value.int IntKind.u8 b0)), AV.d (DV.v (Value.int IntKind.u8 b1)), AV.d (DV.v (Value.int IntKind.u8 b2)), AV.d (DV.v (Value.int IntKind.u8 b3)), AV.d (DV.v (Value.int IntKind.u8 b4)), AV.d (DV.v (Value.int IntKind.u8 b5)), AV.d (DV.v (Value.int IntKind.u8 b6)), AV.d (DV.v (Value.int IntKind.u8 b7))]) = some (b0, b1, b2, b3, b4, b5, b6, b7) := by
  have q1 : ¬ ((8 : Int) < 8) := by decide
  have q2 : 8 ≤ ([AV.d (DV.v (Value.int IntKind.u8 b0)), AV.d (DV.v (Value.int IntKind.u8 b1)), AV.d (DV.v (Value.int IntKind.u8 b2)), AV.d (DV.v (Value.int IntKind.u8 b3)), AV.d (DV.v (Value.int IntKind.u8 b4)), AV.d (DV.v (Value.int IntKind.u8 b5)), AV.d (DV.v (Value.int IntKind.u8 b6)), AV.d (DV.v (Value.int IntKind.u8 b7))] : List AV).length := Nat.le_refl 8
  have q3 : (List.take 8 (List.drop 0 [AV.d (DV.v (Value.int IntKind.u8 b0)), AV.d (DV.v (Value.int IntKind.u8 b1)), AV.d (DV.v (Value.int IntKind.u8 b2)), AV.d (DV.v (Value.int IntKind.u8 b3)), AV.d (DV.v (Value.int IntKind.u8 b4)), AV.d (DV.v (Value.int IntKind.u8 b5)), AV.d (DV.v (Value.int IntKind.u8 b6)), AV.d (DV.v (Value.int IntKind.u8 b7))])) = [AV.d (DV.v (Value.int IntKind.u8 b0)), AV.d (DV.v (Value.int IntKind.u8 b1)), AV.d (DV.v (Value.int IntKind.u8 b2)), AV.d (DV.v (Value.int IntKind.u8 b3)), AV.d (DV.v (Value.int IntKind.u8 b4)), AV.d (DV.v (Value.int IntKind.u8 b5)), AV.d (DV.v (Value.int IntKind.u8 b6)), AV.d (DV.v (Value.int IntKind.u8 b7))] := rfl
  have g0 : dI (celA [AV.d (DV.v (Value.int IntKind.u8 b0)), AV.d (DV.v (Value.int IntKind.u8 b1)), AV.d (DV.v (Value.int IntKind.u8 b2)), AV.d (DV.v (Value.int IntKind.u8 b3)), AV.d (DV.v (Value.int IntKind.u8 b4)), AV.d (DV.v (Value.int IntKind.u8 b5)), AV.d (DV.v (Value.int IntKind.u8 b6)), AV.d (DV.v (Value.int IntKind.u8 b7))] 0) = b0 := rfl
  have g1 : dI (celA [AV.d (DV.v (Value.int IntKind.u8 b0)), AV.d (DV.v (Value.int IntKind.u8 b1)), AV.d (DV.v (Value.int IntKind.u8 b2)), AV.d (DV.v (Value.int IntKind.u8 b3)), AV.d (DV.v (Value.int IntKind.u8 b4)), AV.d (DV.v (Value.int IntKind.u8 b5)), AV.d (DV.v (Value.int IntKind.u8 b6)), AV.d (DV.v (Value.int IntKind.u8 b7))] 1) = b1 := rfl
  have g2 : dI (celA [AV.d (DV.v (Value.int IntKind.u8 b0)), AV.d (DV.v (Value.int IntKind.u8 b1)), AV.d (DV.v (Value.int IntKind.u8 b2)), AV.d (DV.v (Value.int IntKind.u8 b3)), AV.d (DV.v (Value.int IntKind.u8 b4)), AV.d (DV.v (Value.int IntKind.u8 b5)), AV.d (DV.v (Value.int IntKind.u8 b6)), AV.d (DV.v (Value.int IntKind.u8 b7))] 2) = b2 := rfl
  have g3 : dI (celA [AV.d (DV.v (Value.int IntKind.u8 b0)), AV.d (DV.v (Value.int IntKind.u8 b1)), AV.d (DV.v (Value.int IntKind.u8 b2)), AV.d (DV.v (Value.int IntKind.u8 b3)), AV.d (DV.v (Value.int IntKind.u8 b4)), AV.d (DV.v (Value.int IntKind.u8 b5)), AV.d (DV.v (Value.int IntKind.u8 b6)), AV.d (DV.v (Value.int IntKind.u8 b7))] 3) = b3 := rfl
  have g4 : dI (celA [AV.d (DV.v (Value.int IntKind.u8 b0)), AV.d (DV.v (Value.int IntKind.u8 b1)), AV.d (DV.v (Value.int IntKind.u8 b2)), AV.d (DV.v (Value.int IntKind.u8 b3)), AV.d (DV.v (Value.int IntKind.u8 b4)), AV.d (DV.v (Value.int IntKind.u8 b5)), AV.d (DV.v (Value.int IntKind.u8 b6)), AV.d (DV.v (Value.int IntKind.u8 b7))] 4) = b4 := rfl
  have g5 : dI (celA [AV.d (DV.v (Value.int IntKind.u8 b0)), AV.d (DV.v (Value.int IntKind.u8 b1)), AV.d (DV.v (Value.int IntKind.u8 b2)), AV.d (DV.v (Value.int IntKind.u8 b3)), AV.d (DV.v (Value.int IntKind.u8 b4)), AV.d (DV.v (Value.int IntKind.u8 b5)), AV.d (DV.v (Value.int IntKind.u8 b6)), AV.d (DV.v (Value.int IntKind.u8 b7))] 5) = b5 := rfl
  have g6 : dI (celA [AV.d (DV.v (Value.int IntKind.u8 b0)), AV.d (DV.v (Value.int IntKind.u8 b1)), AV.d (DV.v (Value.int IntKind.u8 b2)), AV.d (DV.v (Value.int IntKind.u8 b3)), AV.d (DV.v (Value.int IntKind.u8 b4)), AV.d (DV.v (Value.int IntKind.u8 b5)), AV.d (DV.v (Value.int IntKind.u8 b6)), AV.d (DV.v (Value.int IntKind.u8 b7))] 6) = b6 := rfl
  have g7 : dI (celA [AV.d (DV.v (Value.int IntKind.u8 b0)), AV.d (DV.v (Value.int IntKind.u8 b1)), AV.d (DV.v (Value.int IntKind.u8 b2)), AV.d (DV.v (Value.int IntKind.u8 b3)), AV.d (DV.v (Value.int IntKind.u8 b4)), AV.d (DV.v (Value.int IntKind.u8 b5)), AV.d (DV.v (Value.int IntKind.u8 b6)), AV.d (DV.v (Value.int IntKind.u8 b7))] 7) = b7 := rfl
  rw [res_eq]
  simp only [B108, sem_br, sem_ask, sem_nxt, sem_triv, sem_ret, PC.holds, need_true, stepO_nxt, stepO_ret, q1, q2, q3, g0, g1, g2, g3, g4, g5, g6, g7, decide_false, Bool.false_eq_true, if_false]
theorem F108_eq (hd : ∀ b ∈ ds, ByteI b) (hl : ds.length ≤ 1000) {a0 a1 a2 a3 a4 a5 a6 a7 : Int} (h0 : ByteI a0) (h1 : ByteI a1) (h2 : ByteI a2) (h3 : ByteI a3) (h4 : ByteI a4) (h5 : ByteI a5) (h6 : ByteI a6) (h7 : ByteI a7) : F108 a0 a1 a2 a3 a4 a5 a6 a7 ds.length (ds.map vB) = some (seal8 (a0, a1, a2, a3, a4, a5, a6, a7) ds) := by
  unfold F108; rw [res_eq]
  simp only [B108, sem_br, sem_ask, sem_nxt, sem_triv, sem_ret, PC.holds, need_true, stepO_nxt, stepO_ret]
  refine Eq.trans (s105_0 hd hl a0 a1 a2 a3 a4 a5 a6 a7 h0) ?_
  refine Eq.trans (s105_1 hd hl a0 a1 a2 a3 a4 a5 a6 a7 (fS 0 a0 ds) 0 0 0 0 0 0 0 h1) ?_
  refine Eq.trans (s105_2 hd hl a0 a1 a2 a3 a4 a5 a6 a7 (fS 0 a0 ds) (fS 1 a1 ds) 0 0 0 0 0 0 h2) ?_
  refine Eq.trans (s105_3 hd hl a0 a1 a2 a3 a4 a5 a6 a7 (fS 0 a0 ds) (fS 1 a1 ds) (fS 2 a2 ds) 0 0 0 0 0 h3) ?_
  refine Eq.trans (s105_4 hd hl a0 a1 a2 a3 a4 a5 a6 a7 (fS 0 a0 ds) (fS 1 a1 ds) (fS 2 a2 ds) (fS 3 a3 ds) 0 0 0 0 h4) ?_
  refine Eq.trans (s105_5 hd hl a0 a1 a2 a3 a4 a5 a6 a7 (fS 0 a0 ds) (fS 1 a1 ds) (fS 2 a2 ds) (fS 3 a3 ds) (fS 4 a4 ds) 0 0 0 h5) ?_
  refine Eq.trans (s105_6 hd hl a0 a1 a2 a3 a4 a5 a6 a7 (fS 0 a0 ds) (fS 1 a1 ds) (fS 2 a2 ds) (fS 3 a3 ds) (fS 4 a4 ds) (fS 5 a5 ds) 0 0 h6) ?_
  refine Eq.trans (s105_7 hd hl a0 a1 a2 a3 a4 a5 a6 a7 (fS 0 a0 ds) (fS 1 a1 ds) (fS 2 a2 ds) (fS 3 a3 ds) (fS 4 a4 ds) (fS 5 a5 ds) (fS 6 a6 ds) 0 h7) ?_
  refine Eq.trans (s105_8 a0 a1 a2 a3 a4 a5 a6 a7 (fS 0 a0 ds) (fS 1 a1 ds) (fS 2 a2 ds) (fS 3 a3 ds) (fS 4 a4 ds) (fS 5 a5 ds) (fS 6 a6 ds) (fS 7 a7 ds)) ?_
  rfl
end
end Go.Kv
