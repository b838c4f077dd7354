/- What the reference counts, cycle by cycle, in plain Lean. -/
import Derived.Test.YtalhonodbajndaaGreatDoorKY4
namespace Go.Kv
set_option linter.unusedVariables false
set_option linter.unusedSimpArgs false
open Go Go.RowKit
set_option maxRecDepth 100000
abbrev tup12 (A : List Int) : Int × Int × Int × Int × Int × Int × Int × Int × Int × Int × Int × Int := (A.getD 0 0, A.getD 1 0, A.getD 2 0, A.getD 3 0, A.getD 4 0, A.getD 5 0, A.getD 6 0, A.getD 7 0, A.getD 8 0, A.getD 9 0, A.getD 10 0, A.getD 11 0)
theorem F84_lv {W U : List Nat} (hW : OkS W) (hU : OkS U) (lW : 4 ≤ W.length) (lU : 4 ≤ U.length) :
    F84 (W.getD 0 0) (W.getD 1 0) (W.getD 2 0) (W.getD 3 0) (U.getD 0 0) (U.getD 1 0) (U.getD 2 0) (U.getD 3 0) = some (pL W U, qL W U) := by
  have w0 := hW.get (k := 0) (by omega)
  have w1 := hW.get (k := 1) (by omega)
  have w2 := hW.get (k := 2) (by omega)
  have w3 := hW.get (k := 3) (by omega)
  have u0 := hU.get (k := 0) (by omega)
  have u1 := hU.get (k := 1) (by omega)
  have u2 := hU.get (k := 2) (by omega)
  have u3 := hU.get (k := 3) (by omega)
  unfold pL qL
  generalize W.getD 0 0 = x0, W.getD 1 0 = x1, W.getD 2 0 = x2, W.getD 3 0 = x3, U.getD 0 0 = y0, U.getD 1 0 = y1, U.getD 2 0 = y2, U.getD 3 0 = y3 at *
  have m00 := mulL (lv_bd w0) (lv_bd u0)
  have m30 := mulL (lv_bd w3) (lv_bd u0)
  have m11 := mulL (lv_bd w1) (lv_bd u1)
  have m01 := mulL (lv_bd w0) (lv_bd u1)
  have m22 := mulL (lv_bd w2) (lv_bd u2)
  have m12 := mulL (lv_bd w1) (lv_bd u2)
  have m33 := mulL (lv_bd w3) (lv_bd u3)
  have m23 := mulL (lv_bd w2) (lv_bd u3)
  unfold F84; rw [res_eq]
  simp only [B84, F119_eq w0, F119_eq w1, F119_eq w2, F119_eq w3, F119_eq u0, F119_eq u1, F119_eq u2, F119_eq u3, sem_bind_some, sem_sees, sem_triv, sem_ask, sem_ret, PC.holds]
  rw [need_of (by unfold inI64; omega), need_of (by unfold inI64; omega), need_of (by unfold inI64; omega), need_of (by unfold inI64; omega), need_of (by unfold inI64; omega), need_of (by unfold inI64; omega), need_of (by unfold inI64; omega), need_of (by unfold inI64; omega), need_of (by unfold inI64; omega), need_of (by unfold inI64; omega), need_of (by unfold inI64; omega), need_of (by unfold inI64; omega), need_of (by unfold inI64; omega), need_of (by unfold inI64; omega), need_of (by unfold inI64; omega), need_of (by unfold inI64; omega)]
  rfl
theorem F117_eq {u r e : Int} (h : (0 ≤ u ∧ u ≤ 999999) ∧ (0 ≤ r ∧ r ≤ 999999)) (he : 0 ≤ e ∧ e ≤ 1000000000000) : F117 u r e = some (upU u r e, upV r e) := by
  have t1 : (r + e).tdiv 1000000 = (r + e) / 1000000 := Int.tdiv_eq_ediv_of_nonneg (by omega)
  have t2 : (r + e).tmod 1000000 = (r + e) % 1000000 := Int.tmod_eq_emod_of_nonneg (by omega)
  have t3 : (u + (r + e) / 1000000).tmod 1000000 = (u + (r + e) / 1000000) % 1000000 := Int.tmod_eq_emod_of_nonneg (by omega)
  unfold F117; rw [res_eq]
  simp only [B117, sem_ask, sem_ret, PC.holds, t1, t2, t3]
  rw [need_of (by unfold inI64; omega), need_of (by unfold inI64; omega), need_of (by unfold inI64; omega)]
  rfl
theorem up_zero {u r : Int} (h : (0 ≤ u ∧ u ≤ 999999) ∧ (0 ≤ r ∧ r ≤ 999999)) : upU u r 0 = u ∧ upV r 0 = r := by
  unfold upU upV; omega
theorem set_getD {A : List Int} {i : Nat} (h : i < A.length) : A.set i (A.getD i 0) = A := by
  rw [List.getD_eq_getElem?_getD, List.getElem?_eq_getElem h]
  exact List.set_getElem_self h
theorem updL_zero {A : List Int} (hA : okM A) (hl : A.length = 12) {k : Nat} (hk : k < 6) : updL A k 0 = A := by
  unfold updL
  obtain ⟨e1, e2⟩ := up_zero (hA k hk)
  rw [e1, e2, set_getD (by omega), set_getD (by omega)]
theorem F118_zero : F118 0 0 = some 0 := by
  unfold F118; rw [res_eq]
  simp only [B118, sem_br, sem_ret, beq_self_eq_true, Bool.and_self, if_true, stepO_ret]
theorem F118_eq {p q : Int} (h : ¬ (p = 0 ∧ q = 0)) : F118 p q = some ((qd p q : Nat) : Int) := by
  have hb : (p == 0 && (q == 0 && true)) = false := by
    by_cases h1 : p = 0
    · have h2 : ¬ (q = 0) := fun e => h ⟨h1, e⟩
      simp [h1, h2]
    · simp [h1]
  unfold F118; rw [res_eq]
  unfold qd
  simp only [B118, hb, if_true, sem_br, sem_ask, sem_ret, PC.holds, Bool.false_eq_true, if_false]
  by_cases h1 : p ≥ 0 <;> by_cases h2 : q ≥ 0
  · simp only [h1, h2, decide_true, if_true, stepO_ret]; rfl
  · simp only [h1, h2, decide_true, decide_false, if_true, if_false, Bool.false_eq_true, need_true, show ¬ (p < 0) by omega, stepO_ret]; rfl
  · simp only [h1, h2, decide_true, decide_false, if_true, if_false, Bool.false_eq_true, stepO_ret]; rfl
  · simp only [h1, h2, decide_true, decide_false, if_true, if_false, Bool.false_eq_true, show p < 0 by omega, stepO_ret]; rfl
theorem F83_eq {a0 a1 a2 a3 a4 a5 a6 a7 a8 a9 a10 a11 p q : Int} (hA : okM [a0, a1, a2, a3, a4, a5, a6, a7, a8, a9, a10, a11]) (bp : -1000000000 * 20 ≤ p ∧ p ≤ 1000000000 * 20) (bq : -1000000000 * 20 ≤ q ∧ q ≤ 1000000000 * 20) : F83 a0 a1 a2 a3 a4 a5 a6 a7 a8 a9 a10 a11 p q = some (tup12 (cyc [a0, a1, a2, a3, a4, a5, a6, a7, a8, a9, a10, a11] p q)) := by
  have ap := absI_bd bp
  have aq := absI_bd bq
  have z0 (x : Int) : 0 - x = -x := Int.zero_sub x
  have ip : inI64 (-p) := by unfold inI64; omega
  have iq : inI64 (-q) := by unfold inI64; omega
  have hq' : (if -q > q then -q else q) = absI q := rfl
  have hd := qd_bd p q
  have id1 : inI64 (1 + (qd p q : Int)) := by unfold inI64; omega
  have ld0 : (0 : Int) ≤ 1 + (qd p q : Int) := by omega
  have ld6 : 1 + (qd p q : Int) < 6 := by omega
  have ldn : (1 + (qd p q : Int)).toNat = 1 + qd p q := by omega
  have lq : decide (((qd p q : Nat) : Int) > 0) = true := decide_eq_true (by omega)
  obtain ⟨B, hB, f1, f2, oB, lB, hpre⟩ : ∃ B : List Int, B = updL [a0, a1, a2, a3, a4, a5, a6, a7, a8, a9, a10, a11] (sideN p) (absI p) ∧ F117 a0 a1 (if p > 0 then p else 0) = some (B.getD 0 0, B.getD 1 0) ∧ F117 a2 a3 (if -p > 0 then -p else 0) = some (B.getD 2 0, B.getD 3 0) ∧ okM B ∧ B.length = 12 ∧ B = [B.getD 0 0, B.getD 1 0, B.getD 2 0, B.getD 3 0, a4, a5, a6, a7, a8, a9, a10, a11] := by
    have u0 := up_zero (hA 0 (by decide))
    have u1 := up_zero (hA 1 (by decide))
    have h0 := hA 0 (by decide)
    have h1 := hA 1 (by decide)
    refine ⟨_, rfl, ?_, ?_, updL_ok hA rfl _ _, by rw [updL_len]; rfl, ?_⟩
    · by_cases hp : p < 0
      · have e1 : sideN p = 1 := if_pos hp
        rw [if_neg (by omega), e1]
        have := F117_eq h0 (e := 0) (by omega)
        rw [u0.1, u0.2] at this
        exact this
      · have e1 : sideN p = 0 := if_neg hp
        have e2 : absI p = (if p > 0 then p else 0) := by unfold absI; split <;> split <;> omega
        rw [e1, e2]
        exact F117_eq h0 (by rw [← e2]; exact ap)
    · by_cases hp : p < 0
      · have e1 : sideN p = 1 := if_pos hp
        have e2 : absI p = (if -p > 0 then -p else 0) := by unfold absI; split <;> split <;> omega
        rw [e1, e2]
        exact F117_eq h1 (by rw [← e2]; exact ap)
      · have e1 : sideN p = 0 := if_neg hp
        rw [if_neg (by omega), e1]
        have := F117_eq h1 (e := 0) (by omega)
        rw [u1.1, u1.2] at this
        exact this
    · by_cases hp : p < 0
      · have e1 : sideN p = 1 := if_pos hp
        rw [e1]; rfl
      · have e1 : sideN p = 0 := if_neg hp
        rw [e1]; rfl
  have hc : cyc [a0, a1, a2, a3, a4, a5, a6, a7, a8, a9, a10, a11] p q = if q = 0 then B else updL B (1 + qd p q) (absI q) := by unfold cyc; rw [← hB]
  rw [hc]
  unfold F83; rw [res_eq]
  by_cases h0 : p = 0 ∧ q = 0
  · obtain ⟨hp0, hq0⟩ := h0
    have h3 : decide ((0 : Int) > 0) = false := by decide
    rw [hp0] at f1 f2 ip
    rw [hp0, hq0, if_pos rfl]
    simp only [B83, z0, f1, f2, F118_zero, h3, ip, sem_br, sem_ask, sem_triv, sem_sees, sem_nxt, sem_ret, sem_bind_some, PC.holds, need_true, decide_true, decide_false, if_true, if_false, Bool.false_eq_true, stepO_nxt, stepO_ret]
    rw [hpre]; rfl
  · have hz : (if q = 0 then B else updL B (1 + qd p q) (absI q)) = updL B (1 + qd p q) (absI q) := by
      by_cases hq0 : q = 0
      · rw [if_pos hq0]
        have : absI q = 0 := by rw [hq0]; rfl
        rw [this, updL_zero oB lB (by omega)]
      · rw [if_neg hq0]
    rw [hz]
    have hm : ([AV.d (DV.v (Value.int IntKind.i64 (B.getD 0 0))), AV.d (DV.v (Value.int IntKind.i64 (B.getD 1 0))), AV.d (DV.v (Value.int IntKind.i64 (B.getD 2 0))), AV.d (DV.v (Value.int IntKind.i64 (B.getD 3 0))), AV.d (DV.v (Value.int IntKind.i64 a4)), AV.d (DV.v (Value.int IntKind.i64 a5)), AV.d (DV.v (Value.int IntKind.i64 a6)), AV.d (DV.v (Value.int IntKind.i64 a7)), AV.d (DV.v (Value.int IntKind.i64 a8)), AV.d (DV.v (Value.int IntKind.i64 a9)), AV.d (DV.v (Value.int IntKind.i64 a10)), AV.d (DV.v (Value.int IntKind.i64 a11))] : List AV) = B.map aI := by
      conv => rhs; rw [hpre]
      rfl
    have f3 : F117 (B.getD ((1 + qd p q) * 2) 0) (B.getD ((1 + qd p q) * 2 + 1) 0) (absI q) = some (upU (B.getD ((1 + qd p q) * 2) 0) (B.getD ((1 + qd p q) * 2 + 1) 0) (absI q), upV (B.getD ((1 + qd p q) * 2 + 1) 0) (absI q)) := F117_eq (oB (1 + qd p q) (by omega)) aq
    have s2 := spl_upd (A := B) (k := 1 + qd p q) (absI q) (by rw [lB]; omega)
    have r2 := rowAI (A := B) (i := (1 + qd p q) * 2) (by rw [lB]; omega)
    have l2 : (updL B (1 + qd p q) (absI q)).length = 12 := by rw [updL_len, lB]
    have ld12 : (1 + qd p q) * 2 + 2 ≤ 12 := by omega
    simp only [B83, z0, f1, f2, F118_eq h0, lq, hm, ip, iq, hq', ldn, id1, ld0, ld6, ld12, Nat.zero_add, celA_aI, f3, s2, r2, l2, row12 l2, List.length_map, Nat.le_refl, sem_br, sem_ask, sem_triv, sem_sees, sem_nxt, sem_ret, sem_bind_some, PC.holds, need_true, decide_true, decide_false, if_true, if_false, Bool.false_eq_true, stepO_nxt, stepO_ret]
section
variable {v i : List Nat} {n : Nat}
theorem wn_get {v : List Nat} {j k : Nat} (hk : k < 4) : (wn v j).getD k 0 = v.getD (4 * j + k) 0 := by
  unfold wn
  rw [List.getD_eq_getElem?_getD, List.getD_eq_getElem?_getD, List.getElem?_take_of_lt hk, List.getElem?_drop]
theorem F17_loop (hv : v.length = 4 * n) (hi : i.length = 4 * n) (hn : n ≤ 1024) (sv : OkS v) (si : OkS i) : ∀ (m j : Nat) (a0 a1 a2 a3 a4 a5 a6 a7 a8 a9 a10 a11 : Int), n = j + m → okM [a0, a1, a2, a3, a4, a5, a6, a7, a8, a9, a10, a11] →
    res B17 (.c1 v.length (v.map vB) i.length (i.map vB) ((4 * j : Nat) : Int) a0 a1 a2 a3 a4 a5 a6 a7 a8 a9 a10 a11) = some (tup12 (runC v i m j [a0, a1, a2, a3, a4, a5, a6, a7, a8, a9, a10, a11]))
  | 0, j, a0, a1, a2, a3, a4, a5, a6, a7, a8, a9, a10, a11, hm, hA => by
    have hin : inI64 (((4 * j : Nat) : Int) + 4) := by unfold inI64; omega
    have h1 : ¬ (((4 * j : Nat) : Int) + 4 ≤ (v.length : Int)) := by omega
    rw [res_eq]
    simp only [B17, hin, h1, sem_br, sem_ask, sem_triv, sem_sees, sem_nxt, sem_ret, sem_bind_some, PC.holds, need_true, decide_true, decide_false, if_true, if_false, Bool.false_eq_true, stepO_nxt, stepO_ret]
    rfl
  | m + 1, j, a0, a1, a2, a3, a4, a5, a6, a7, a8, a9, a10, a11, hm, hA => by
    have hin : inI64 (((4 * j : Nat) : Int) + 4) := by unfold inI64; omega
    have h1 : ((4 * j : Nat) : Int) + 4 ≤ (v.length : Int) := by omega
    have lW := wn_len (v := v) (j := j) (by omega)
    have lU := wn_len (v := i) (j := j) (by omega)
    have hF := F84_lv (wn_smp sv j) (wn_smp si j) (by omega) (by omega)
    obtain ⟨bp, bq⟩ := pqL_bd (wn_smp sv j) (wn_smp si j) (by omega) (by omega)
    have hr : runC v i (m + 1) j [a0, a1, a2, a3, a4, a5, a6, a7, a8, a9, a10, a11] = runC v i m (j + 1) (cyc [a0, a1, a2, a3, a4, a5, a6, a7, a8, a9, a10, a11] (pL (wn v j) (wn i j)) (qL (wn v j) (wn i j))) := rfl
    rw [hr]
    rw [wn_get (k := 0) (by decide), wn_get (k := 1) (by decide), wn_get (k := 2) (by decide), wn_get (k := 3) (by decide), wn_get (k := 0) (by decide), wn_get (k := 1) (by decide), wn_get (k := 2) (by decide), wn_get (k := 3) (by decide)] at hF
    generalize hp : pL (wn v j) (wn i j) = p at *
    generalize hq : qL (wn v j) (wn i j) = q at *
    have hG := F83_eq hA bp bq
    have oc := cyc_ok hA rfl p q
    have lc : (cyc [a0, a1, a2, a3, a4, a5, a6, a7, a8, a9, a10, a11] p q).length = 12 := by rw [cyc_len]; rfl
    generalize cyc [a0, a1, a2, a3, a4, a5, a6, a7, a8, a9, a10, a11] p q = B at *
    obtain ⟨b0, b1, b2, b3, b4, b5, b6, b7, b8, b9, b10, b11, rfl⟩ : ∃ b0 b1 b2 b3 b4 b5 b6 b7 b8 b9 b10 b11 : Int, B = [b0, b1, b2, b3, b4, b5, b6, b7, b8, b9, b10, b11] := by
      match B, lc with
      | [b0, b1, b2, b3, b4, b5, b6, b7, b8, b9, b10, b11], _ => exact ⟨_, _, _, _, _, _, _, _, _, _, _, _, rfl⟩
    have ih := F17_loop hv hi hn sv si m (j + 1) b0 b1 b2 b3 b4 b5 b6 b7 b8 b9 b10 b11 (by omega) oc
    have hG' : F83 a0 a1 a2 a3 a4 a5 a6 a7 a8 a9 a10 a11 p q = some (b0, b1, b2, b3, b4, b5, b6, b7, b8, b9, b10, b11) := hG
    have t0 : (((4 * j : Nat) : Int)).toNat = 4 * j + 0 := by omega
    have a0v : Option.map AV.d (List.drop (4 * j + 0) (v.map vB))[0]? = some (AV.d (DV.v (Value.float FloatKind.f32 (v.getD (4 * j + 0) 0)))) := at_mapF (by omega)
    have a0i : Option.map AV.d (List.drop (4 * j + 0) (i.map vB))[0]? = some (AV.d (DV.v (Value.float FloatKind.f32 (i.getD (4 * j + 0) 0)))) := at_mapF (by omega)
    have r0v : 4 * j + 0 ≤ v.length := by omega
    have r0i : 4 * j + 0 ≤ i.length := by omega
    have p0 : (0 : Int) ≤ ((4 * j : Nat) : Int) := by omega
    have q0 : ((4 * j : Nat) : Int) < (v.length : Int) := by omega
    have s0 : ((4 * j : Nat) : Int) < (i.length : Int) := by omega
    have t1 : (((4 * j : Nat) : Int) + 1).toNat = 4 * j + 1 := by omega
    have a1v : Option.map AV.d (List.drop (4 * j + 1) (v.map vB))[0]? = some (AV.d (DV.v (Value.float FloatKind.f32 (v.getD (4 * j + 1) 0)))) := at_mapF (by omega)
    have a1i : Option.map AV.d (List.drop (4 * j + 1) (i.map vB))[0]? = some (AV.d (DV.v (Value.float FloatKind.f32 (i.getD (4 * j + 1) 0)))) := at_mapF (by omega)
    have r1v : 4 * j + 1 ≤ v.length := by omega
    have r1i : 4 * j + 1 ≤ i.length := by omega
    have n1 : inI64 (((4 * j : Nat) : Int) + 1) := by unfold inI64; omega
    have p1 : (0 : Int) ≤ ((4 * j : Nat) : Int) + 1 := by omega
    have q1 : ((4 * j : Nat) : Int) + 1 < (v.length : Int) := by omega
    have s1 : ((4 * j : Nat) : Int) + 1 < (i.length : Int) := by omega
    have t2 : (((4 * j : Nat) : Int) + 2).toNat = 4 * j + 2 := by omega
    have a2v : Option.map AV.d (List.drop (4 * j + 2) (v.map vB))[0]? = some (AV.d (DV.v (Value.float FloatKind.f32 (v.getD (4 * j + 2) 0)))) := at_mapF (by omega)
    have a2i : Option.map AV.d (List.drop (4 * j + 2) (i.map vB))[0]? = some (AV.d (DV.v (Value.float FloatKind.f32 (i.getD (4 * j + 2) 0)))) := at_mapF (by omega)
    have r2v : 4 * j + 2 ≤ v.length := by omega
    have r2i : 4 * j + 2 ≤ i.length := by omega
    have n2 : inI64 (((4 * j : Nat) : Int) + 2) := by unfold inI64; omega
    have p2 : (0 : Int) ≤ ((4 * j : Nat) : Int) + 2 := by omega
    have q2 : ((4 * j : Nat) : Int) + 2 < (v.length : Int) := by omega
    have s2 : ((4 * j : Nat) : Int) + 2 < (i.length : Int) := by omega
    have t3 : (((4 * j : Nat) : Int) + 3).toNat = 4 * j + 3 := by omega
    have a3v : Option.map AV.d (List.drop (4 * j + 3) (v.map vB))[0]? = some (AV.d (DV.v (Value.float FloatKind.f32 (v.getD (4 * j + 3) 0)))) := at_mapF (by omega)
    have a3i : Option.map AV.d (List.drop (4 * j + 3) (i.map vB))[0]? = some (AV.d (DV.v (Value.float FloatKind.f32 (i.getD (4 * j + 3) 0)))) := at_mapF (by omega)
    have r3v : 4 * j + 3 ≤ v.length := by omega
    have r3i : 4 * j + 3 ≤ i.length := by omega
    have n3 : inI64 (((4 * j : Nat) : Int) + 3) := by unfold inI64; omega
    have p3 : (0 : Int) ≤ ((4 * j : Nat) : Int) + 3 := by omega
    have q3 : ((4 * j : Nat) : Int) + 3 < (v.length : Int) := by omega
    have s3 : ((4 * j : Nat) : Int) + 3 < (i.length : Int) := by omega
    rw [res_eq]
    simp only [B17, hin, h1, t0, a0v, a0i, r0v, r0i, p0, q0, s0, t1, a1v, a1i, r1v, r1i, p1, q1, s1, t2, a2v, a2i, r2v, r2i, p2, q2, s2, t3, a3v, a3i, r3v, r3i, p3, q3, s3, n1, n2, n3, Nat.mul_one, dF_F, hF, hG', List.length_map, sem_br, sem_ask, sem_triv, sem_sees, sem_nxt, sem_ret, sem_bind_some, PC.holds, need_true, decide_true, decide_false, if_true, if_false, Bool.false_eq_true, stepO_nxt, stepO_ret]
    exact ih
theorem F17_eq (hv : v.length = 4 * n) (hi : i.length = 4 * n) (hn : n ≤ 1024) (sv : OkS v) (si : OkS i) {a0 a1 a2 a3 a4 a5 a6 a7 a8 a9 a10 a11 : Int} (hA : okM [a0, a1, a2, a3, a4, a5, a6, a7, a8, a9, a10, a11]) :
    F17 a0 a1 a2 a3 a4 a5 a6 a7 a8 a9 a10 a11 v.length (v.map vB) i.length (i.map vB) = some (tup12 (runC v i n 0 [a0, a1, a2, a3, a4, a5, a6, a7, a8, a9, a10, a11])) := by
  unfold F17; rw [res_eq]
  simp only [B17, sem_nxt, stepO_nxt]
  exact F17_loop hv hi hn sv si n 0 a0 a1 a2 a3 a4 a5 a6 a7 a8 a9 a10 a11 (by omega) hA
end
end Go.Kv
