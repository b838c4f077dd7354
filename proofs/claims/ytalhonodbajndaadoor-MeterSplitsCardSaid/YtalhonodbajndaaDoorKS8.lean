/- The law of the samples counted in parts and of the opposite current holds, in plain Lean. -/
import Derived.Test.YtalhonodbajndaaDoorKS7
namespace Go.Kv
set_option linter.unusedVariables false
set_option linter.unusedSimpArgs false
open Go Go.RowKit
set_option maxRecDepth 100000
structure Inv (X : List X8) (h : Nat) (S O : List Int) : Prop where
  ls : S.length = 6
  lo : O.length = 6
  s : ∀ j, j < 6 → S.getD j 0 = sumX (fun x => ctr (pX x) (qX x) j) (X.take h)
  o : ∀ j, j < 6 → O.getD j 0 = sumX (fun x => ctr (pX x) (qX x) (sw j)) (X.take h)
  z : ∀ x ∈ X.take h, pX x ≠ 0 ∧ qX x ≠ 0
theorem inv0 (X : List X8) : Inv X 0 zs zs := ⟨rfl, rfl, fun j hj => by match j, hj with | 0, _ => rfl | 1, _ => rfl | 2, _ => rfl | 3, _ => rfl | 4, _ => rfl | 5, _ => rfl,
  fun j hj => by match j, hj with | 0, _ => rfl | 1, _ => rfl | 2, _ => rfl | 3, _ => rfl | 4, _ => rfl | 5, _ => rfl, fun x hx => by simp at hx⟩
theorem inv_bd {X : List X8} {h : Nat} {S O : List Int} (i : Inv X h S O) (hh : h ≤ 11) : ∀ j, j < 6 → (0 ≤ S.getD j 0 ∧ S.getD j 0 ≤ 220000000000) ∧ (0 ≤ O.getD j 0 ∧ O.getD j 0 ≤ 220000000000) := by
  intro j hj
  have b1 := sumX_bd j (X.take h)
  have b2 := sumX_bd (sw j) (X.take h)
  have hl : (X.take h).length ≤ 11 := by rw [List.length_take]; omega
  rw [i.s j hj, i.o j hj]
  omega
theorem add_bd {S : List Int} {k : Nat} {e : Int} (hl : S.length = 6) (hk : k < 6) (he : 0 ≤ e ∧ e ≤ 20000000000) {b : Int} (hS : ∀ j, j < 6 → 0 ≤ S.getD j 0 ∧ S.getD j 0 ≤ b) : ∀ j, j < 6 → 0 ≤ (addAt S k e).getD j 0 ∧ (addAt S k e).getD j 0 ≤ b + 20000000000 := by
  intro j hj
  have := hS j hj
  rw [addAt_get hl hk]
  split <;> omega
theorem inv_step {X : List X8} {h : Nat} {S O : List Int} (hh : h < X.length) (i : Inv X h S O) (hp : pX X[h] ≠ 0) (hq : qX X[h] ≠ 0) :
    Inv X (h + 1) (addAt (addAt S (sideN (pX X[h])) (absI (pX X[h]))) (1 + qd (pX X[h]) (qX X[h])) (absI (qX X[h]))) (addAt (addAt O (sw (sideN (pX X[h]))) (absI (pX X[h]))) (sw (1 + qd (pX X[h]) (qX X[h]))) (absI (qX X[h]))) := by
  refine ⟨by rw [addAt_len, addAt_len, i.ls], by rw [addAt_len, addAt_len, i.lo], ?_, ?_, ?_⟩
  · intro j hj
    rw [law_sum i.ls hq, i.s j hj, List.take_succ_eq_append_getElem hh, sumX_snoc]
  · intro j hj
    rw [law_other i.lo hq hj, i.o j hj, List.take_succ_eq_append_getElem hh, sumX_snoc]
  · intro x hx
    rw [List.take_succ_eq_append_getElem hh, List.mem_append, List.mem_singleton] at hx
    rcases hx with hx | rfl
    · exact i.z x hx
    · exact ⟨hp, hq⟩
theorem F10r {L : List Int} {n : Nat} (hn : L.length = n) (h : n ≤ 1000) : F10 n (L.map vF) = some (n, L.map vF) := by subst hn; exact F10_eq h
theorem dif_w {A R : List Int} (hA : okM A) (hR : okM R) {k : Nat} (hk : k < 6) {s : Int} (h : difI (A.getD (k * 2) 0) (A.getD (k * 2 + 1) 0) (R.getD (k * 2) 0) (R.getD (k * 2 + 1) 0) = s) :
    F12 (A.getD (k * 2) 0) (A.getD (k * 2 + 1) 0) (R.getD (k * 2) 0) (R.getD (k * 2 + 1) 0) = some (s, 0) := by
  rw [F12_eq (hA k hk) (hR k hk), h]
theorem okM_metI {R : List Int} (h : okM R) : metI R = 0 := by
  have e (k : Nat) (hk : k < 6) := regI_zero.2 (h k hk)
  have e0 := e 0 (by decide)
  have e1 := e 1 (by decide)
  have e2 := e 2 (by decide)
  have e3 := e 3 (by decide)
  have e4 := e 4 (by decide)
  have e5 := e 5 (by decide)
  have f0 : firstI [0, 0, 0, 0, 0, 0] = 0 := rfl
  show firstI [regI (R.getD (0 * 2) 0) (R.getD (0 * 2 + 1) 0), regI (R.getD (1 * 2) 0) (R.getD (1 * 2 + 1) 0), regI (R.getD (2 * 2) 0) (R.getD (2 * 2 + 1) 0), regI (R.getD (3 * 2) 0) (R.getD (3 * 2 + 1) 0), regI (R.getD (4 * 2) 0) (R.getD (4 * 2 + 1) 0), regI (R.getD (5 * 2) 0) (R.getD (5 * 2 + 1) 0)] = 0
  rw [e0, e1, e2, e3, e4, e5, f0]
theorem F6_R {R : List Int} (hl : R.length = 12) (h : okM R) : F6 (R.getD 0 0) (R.getD 1 0) (R.getD 2 0) (R.getD 3 0) (R.getD 4 0) (R.getD 5 0) (R.getD 6 0) (R.getD 7 0) (R.getD 8 0) (R.getD 9 0) (R.getD 10 0) (R.getD 11 0) = some 0 := by
  rw [F6_eq, len12 hl, okM_metI h]
section
variable {X : List X8} {cut m0 m1 m2 m3 m4 m5 m6 m7 m8 m9 m10 m11 : Int}
theorem c4_end {S O : List Int} {t t1 t2 : Nat} (hA : okM [m0, m1, m2, m3, m4, m5, m6, m7, m8, m9, m10, m11]) (hc : 0 ≤ cut ∧ cut ≤ 255) (h1 : 1 ≤ X.length) (h10 : X.length ≤ 10) (i : Inv X X.length S O) :
    res B3 (.c4 X.length (X.flatMap e8) cut t (4 * X.length) ((X.flatMap v4).map vF) t1 (4 * X.length) ((X.flatMap i4).map vF) t2 (4 * X.length) ((X.flatMap n4).map vF) (X.length : Int) (X.length : Int) m0 m1 m2 m3 m4 m5 m6 m7 m8 m9 m10 m11 (aiL S) (aiL O) t t1 t2) = some true := by
  have hlt : ¬ ((X.length : Int) < (X.length : Int)) := Int.lt_irrefl _
  have i1 : inI64 ((X.length : Int) + 1) := by unfold inI64; omega
  have i2 : ((X.length : Int) + 1) ≠ 0 := by omega
  have ww : IntKind.i64.wrap cut = cut := wrap_in (by unfold inI64; omega)
  obtain ⟨a, ha, hc2⟩ : ∃ a : Nat, a ≤ X.length ∧ 4 * cut.tmod ((X.length : Int) + 1) = ((4 * a : Nat) : Int) := by
    have e : cut.tmod ((X.length : Int) + 1) = cut % ((X.length : Int) + 1) := Int.tmod_eq_emod_of_nonneg hc.1
    have b1 := Int.emod_nonneg cut i2
    have b2 := Int.emod_lt_of_pos cut (show (0 : Int) < (X.length : Int) + 1 by omega)
    refine ⟨(cut % ((X.length : Int) + 1)).toNat, by omega, ?_⟩
    rw [e]; omega
  have i3 : inI64 ((4 * a : Nat) : Int) := by unfold inI64; omega
  have l4 : ((4 * a : Nat) : Int) ≤ ((4 * X.length : Nat) : Int) := by omega
  obtain ⟨oW, lW⟩ := whole_ok (l := X) hA rfl
  obtain ⟨oT, lT⟩ := turned_ok (l := X) hA rfl
  obtain ⟨oP, lP⟩ := prtA_ok (l := X) a hA rfl
  have lv : (X.flatMap v4).length = 4 * X.length := f4_len (fun _ => rfl) X
  have li : (X.flatMap i4).length = 4 * X.length := f4_len (fun _ => rfl) X
  have ln : (X.flatMap n4).length = 4 * X.length := f4_len (fun _ => rfl) X
  have tv : ((X.flatMap v4).take (4 * a)).length = 4 * a := by rw [List.length_take]; omega
  have ti : ((X.flatMap i4).take (4 * a)).length = 4 * a := by rw [List.length_take]; omega
  have dv : ((X.flatMap v4).drop (4 * a)).length = 4 * X.length - 4 * a := by rw [List.length_drop]; omega
  have di : ((X.flatMap i4).drop (4 * a)).length = 4 * X.length - 4 * a := by rw [List.length_drop]; omega
  have fv := F10r lv (by omega)
  have fi := F10r li (by omega)
  have ftv := F10r tv (by omega)
  have fti := F10r ti (by omega)
  have fdv := F10r dv (by omega)
  have fdi := F10r di (by omega)
  have mt (L : List Int) (k : Nat) : (L.map vF).take k = (L.take k).map vF := List.map_take.symm
  have md (L : List Int) (k : Nat) : (L.map vF).drop k = (L.drop k).map vF := List.map_drop.symm
  have w1 := whole_F (l := X) (A := [m0, m1, m2, m3, m4, m5, m6, m7, m8, m9, m10, m11]) rfl hA h10
  have w2 := turned_F (l := X) (A := [m0, m1, m2, m3, m4, m5, m6, m7, m8, m9, m10, m11]) rfl hA h10
  have w3 := part_F (l := X) (A := [m0, m1, m2, m3, m4, m5, m6, m7, m8, m9, m10, m11]) rfl hA h10 ha
  have w4 := both_F (l := X) (A := [m0, m1, m2, m3, m4, m5, m6, m7, m8, m9, m10, m11]) rfl hA h10 ha rfl
  rw [lv, li] at w1
  rw [lv, ln] at w2
  rw [tv, ti] at w3
  rw [dv, di] at w4
  replace w1 : F8 m0 m1 m2 m3 m4 m5 m6 m7 m8 m9 m10 m11 (4 * X.length) ((X.flatMap v4).map vF) (4 * X.length) ((X.flatMap i4).map vF) = some (tup (whole X [m0, m1, m2, m3, m4, m5, m6, m7, m8, m9, m10, m11])) := w1
  replace w2 : F8 m0 m1 m2 m3 m4 m5 m6 m7 m8 m9 m10 m11 (4 * X.length) ((X.flatMap v4).map vF) (4 * X.length) ((X.flatMap n4).map vF) = some (tup (turned X [m0, m1, m2, m3, m4, m5, m6, m7, m8, m9, m10, m11])) := w2
  replace w3 : F8 m0 m1 m2 m3 m4 m5 m6 m7 m8 m9 m10 m11 (4 * a) (((X.flatMap v4).take (4 * a)).map vF) (4 * a) (((X.flatMap i4).take (4 * a)).map vF) = some (tup (prtA X a [m0, m1, m2, m3, m4, m5, m6, m7, m8, m9, m10, m11])) := w3
  have zz : ∀ x ∈ X, pX x ≠ 0 ∧ qX x ≠ 0 := fun x hx => i.z x (by rw [List.take_length]; exact hx)
  have sS (k : Nat) (hk : k < 6) : S.getD k 0 = regS X k := by have := i.s k hk; rw [List.take_length] at this; exact this
  have sO (k : Nat) (hk : k < 6) : O.getD k 0 = regS X (sw k) := by have := i.o k hk; rw [List.take_length] at this; exact this
  have gS (k : Nat) (hk : k < 6) : (aiL S)[k]? = some (AV.d (DV.v (Value.int IntKind.i64 (regS X k)))) := by rw [aiL_get (by rw [i.ls]; exact hk), sS k hk]
  have gO (k : Nat) (hk : k < 6) : (aiL O)[k]? = some (AV.d (DV.v (Value.int IntKind.i64 (regS X (sw k))))) := by rw [aiL_get (by rw [i.lo]; exact hk), sO k hk]
  have cS (k : Nat) (hk : k < 6) : dI (celA (aiL S) k) = regS X k := by rw [aiL_cel (by rw [i.ls]; exact hk), sS k hk]
  have cO (k : Nat) (hk : k < 6) : dI (celA (aiL O) k) = regS X (sw k) := by rw [aiL_cel (by rw [i.lo]; exact hk), sO k hk]
  have dW0 : F12 m0 m1 ((whole X [m0, m1, m2, m3, m4, m5, m6, m7, m8, m9, m10, m11]).getD 0 0) ((whole X [m0, m1, m2, m3, m4, m5, m6, m7, m8, m9, m10, m11]).getD 1 0) = some (regS X 0, 0) := dif_w (k := 0) hA oW (by decide) (whole_dif rfl hA h10 (by decide))
  have dT0 : F12 m0 m1 ((turned X [m0, m1, m2, m3, m4, m5, m6, m7, m8, m9, m10, m11]).getD 0 0) ((turned X [m0, m1, m2, m3, m4, m5, m6, m7, m8, m9, m10, m11]).getD 1 0) = some (regS X (sw 0), 0) := dif_w (k := 0) hA oT (by decide) (turned_dif rfl hA h10 zz (by decide))
  have gS0 := gS 0 (by decide)
  have gO0 := gO 0 (by decide)
  have cS0 := cS 0 (by decide)
  have cO0 := cO 0 (by decide)
  have dW1 : F12 m2 m3 ((whole X [m0, m1, m2, m3, m4, m5, m6, m7, m8, m9, m10, m11]).getD 2 0) ((whole X [m0, m1, m2, m3, m4, m5, m6, m7, m8, m9, m10, m11]).getD 3 0) = some (regS X 1, 0) := dif_w (k := 1) hA oW (by decide) (whole_dif rfl hA h10 (by decide))
  have dT1 : F12 m2 m3 ((turned X [m0, m1, m2, m3, m4, m5, m6, m7, m8, m9, m10, m11]).getD 2 0) ((turned X [m0, m1, m2, m3, m4, m5, m6, m7, m8, m9, m10, m11]).getD 3 0) = some (regS X (sw 1), 0) := dif_w (k := 1) hA oT (by decide) (turned_dif rfl hA h10 zz (by decide))
  have gS1 := gS 1 (by decide)
  have gO1 := gO 1 (by decide)
  have cS1 := cS 1 (by decide)
  have cO1 := cO 1 (by decide)
  have dW2 : F12 m4 m5 ((whole X [m0, m1, m2, m3, m4, m5, m6, m7, m8, m9, m10, m11]).getD 4 0) ((whole X [m0, m1, m2, m3, m4, m5, m6, m7, m8, m9, m10, m11]).getD 5 0) = some (regS X 2, 0) := dif_w (k := 2) hA oW (by decide) (whole_dif rfl hA h10 (by decide))
  have dT2 : F12 m4 m5 ((turned X [m0, m1, m2, m3, m4, m5, m6, m7, m8, m9, m10, m11]).getD 4 0) ((turned X [m0, m1, m2, m3, m4, m5, m6, m7, m8, m9, m10, m11]).getD 5 0) = some (regS X (sw 2), 0) := dif_w (k := 2) hA oT (by decide) (turned_dif rfl hA h10 zz (by decide))
  have gS2 := gS 2 (by decide)
  have gO2 := gO 2 (by decide)
  have cS2 := cS 2 (by decide)
  have cO2 := cO 2 (by decide)
  have dW3 : F12 m6 m7 ((whole X [m0, m1, m2, m3, m4, m5, m6, m7, m8, m9, m10, m11]).getD 6 0) ((whole X [m0, m1, m2, m3, m4, m5, m6, m7, m8, m9, m10, m11]).getD 7 0) = some (regS X 3, 0) := dif_w (k := 3) hA oW (by decide) (whole_dif rfl hA h10 (by decide))
  have dT3 : F12 m6 m7 ((turned X [m0, m1, m2, m3, m4, m5, m6, m7, m8, m9, m10, m11]).getD 6 0) ((turned X [m0, m1, m2, m3, m4, m5, m6, m7, m8, m9, m10, m11]).getD 7 0) = some (regS X (sw 3), 0) := dif_w (k := 3) hA oT (by decide) (turned_dif rfl hA h10 zz (by decide))
  have gS3 := gS 3 (by decide)
  have gO3 := gO 3 (by decide)
  have cS3 := cS 3 (by decide)
  have cO3 := cO 3 (by decide)
  have dW4 : F12 m8 m9 ((whole X [m0, m1, m2, m3, m4, m5, m6, m7, m8, m9, m10, m11]).getD 8 0) ((whole X [m0, m1, m2, m3, m4, m5, m6, m7, m8, m9, m10, m11]).getD 9 0) = some (regS X 4, 0) := dif_w (k := 4) hA oW (by decide) (whole_dif rfl hA h10 (by decide))
  have dT4 : F12 m8 m9 ((turned X [m0, m1, m2, m3, m4, m5, m6, m7, m8, m9, m10, m11]).getD 8 0) ((turned X [m0, m1, m2, m3, m4, m5, m6, m7, m8, m9, m10, m11]).getD 9 0) = some (regS X (sw 4), 0) := dif_w (k := 4) hA oT (by decide) (turned_dif rfl hA h10 zz (by decide))
  have gS4 := gS 4 (by decide)
  have gO4 := gO 4 (by decide)
  have cS4 := cS 4 (by decide)
  have cO4 := cO 4 (by decide)
  have dW5 : F12 m10 m11 ((whole X [m0, m1, m2, m3, m4, m5, m6, m7, m8, m9, m10, m11]).getD 10 0) ((whole X [m0, m1, m2, m3, m4, m5, m6, m7, m8, m9, m10, m11]).getD 11 0) = some (regS X 5, 0) := dif_w (k := 5) hA oW (by decide) (whole_dif rfl hA h10 (by decide))
  have dT5 : F12 m10 m11 ((turned X [m0, m1, m2, m3, m4, m5, m6, m7, m8, m9, m10, m11]).getD 10 0) ((turned X [m0, m1, m2, m3, m4, m5, m6, m7, m8, m9, m10, m11]).getD 11 0) = some (regS X (sw 5), 0) := dif_w (k := 5) hA oT (by decide) (turned_dif rfl hA h10 zz (by decide))
  have gS5 := gS 5 (by decide)
  have gO5 := gO 5 (by decide)
  have cS5 := cS 5 (by decide)
  have cO5 := cO 5 (by decide)
  have f6 := F6_R lW oW
  generalize hW : whole X [m0, m1, m2, m3, m4, m5, m6, m7, m8, m9, m10, m11] = W at *
  generalize hT : turned X [m0, m1, m2, m3, m4, m5, m6, m7, m8, m9, m10, m11] = T at *
  generalize hP : prtA X a [m0, m1, m2, m3, m4, m5, m6, m7, m8, m9, m10, m11] = P at *
  rw [res_eq]
  simp only [B3, hlt, i1, i2, ww, hc2, i3, l4, Int.natCast_nonneg, Int.toNat_natCast, Nat.sub_zero, Nat.mul_one, List.drop_zero, mt, md, fv, fi, ftv, fti, fdv, fdi, F9_eq, F11_eq, w1, w2, w3, w4, f6, dW0, dT0, gS0, gO0, cS0, cO0, dW1, dT1, gS1, gO1, cS1, cO1, dW2, dT2, gS2, gO2, cS2, cO2, dW3, dT3, gS3, gO3, cS3, cO3, dW4, dT4, gS4, gO4, cS4, cO4, dW5, dT5, gS5, gO5, cS5, cO5, F7_t, ne_eq, not_false_eq_true, bne_self_eq_false, beq_self_eq_true, Bool.and_self, Bool.not_true, sem_br, sem_ask, sem_triv, sem_sees, sem_nxt, sem_ret, sem_bind_some, PC.holds, need_true, decide_true, decide_false, if_true, if_false, Bool.false_eq_true, stepO_nxt, stepO_ret]
theorem c4_all (ok : ∀ x ∈ X, okX8 x) (hA : okM [m0, m1, m2, m3, m4, m5, m6, m7, m8, m9, m10, m11]) (hc : 0 ≤ cut ∧ cut ≤ 255) (h10 : X.length ≤ 10) : ∀ (k h : Nat) (S O : List Int) (t t1 t2 : Nat), X.length = h + k → 1 ≤ h → Inv X h S O →
    res B3 (.c4 X.length (X.flatMap e8) cut t (4 * h) (rowF v4 X h) t1 (4 * h) (rowF i4 X h) t2 (4 * h) (rowF n4 X h) (X.length : Int) (h : Int) m0 m1 m2 m3 m4 m5 m6 m7 m8 m9 m10 m11 (aiL S) (aiL O) t t1 t2) = some true
  | 0, h, S, O, t, t1, t2, hk, h1, i => by
    have e : h = X.length := by omega
    subst e
    have := c4_end (t := t) (t1 := t1) (t2 := t2) hA hc h1 h10 i
    unfold rowF
    rw [List.take_length]
    exact this
  | k + 1, h, S, O, t, t1, t2, hk, h1, i => by
    have hh : h < X.length := by omega
    have o := ok _ (List.getElem_mem hh)
    by_cases hp : pX X[h] = 0
    · exact c4_zero hh o (by omega) (Or.inl hp)
    · by_cases hq : qX X[h] = 0
      · exact c4_zero hh o (by omega) (Or.inr hq)
      · have pb := (pqX_bd X[h]).1
        have qb := (pqX_bd X[h]).2
        have sb := inv_bd i (by omega)
        have k1 : sideN (pX X[h]) < 6 := by rcases side_cases (pX X[h]) with e | e <;> omega
        have k2 : sw (sideN (pX X[h])) < 6 := by rcases side_cases (pX X[h]) with e | e <;> rw [e] <;> decide
        have an := absI_nn (pX X[h])
        have s1 := add_bd i.ls k1 ⟨an, pb⟩ (fun j hj => (sb j hj).1)
        have s2 := add_bd i.lo k2 ⟨an, pb⟩ (fun j hj => (sb j hj).2)
        rw [c4_go hh o (by omega) hp hq, row_step hh rfl, row_step hh rfl, row_step hh rfl, c5_go pb hq i.ls i.lo (fun j hj => by have := sb j hj; omega), c3_go qb (by omega) (by rw [addAt_len, i.ls]) (by rw [addAt_len, i.lo]) (fun j hj => by have := s1 j hj; have := s2 j hj; omega)]
        exact c4_all ok hA hc h10 k (h + 1) _ _ _ _ _ (by omega) (by omega) (inv_step hh i hp hq)
end
theorem splits_true (m0 m1 m2 m3 m4 m5 m6 m7 m8 m9 m10 m11 : Int) (X : List X8) (hX : X.length ≤ maxLen ∧ ∀ x ∈ X, okX8 x) (cut : Int) (hc : 0 ≤ cut ∧ cut ≤ 255) : F3 m0 m1 m2 m3 m4 m5 m6 m7 m8 m9 m10 m11 X.length (X.flatMap e8) cut = some true := by
  unfold F3; rw [res_eq]
  by_cases hm : metI [m0, m1, m2, m3, m4, m5, m6, m7, m8, m9, m10, m11] = 0
  · have hA := metI_ok hm
    have e6 := F6_eq m0 m1 m2 m3 m4 m5 m6 m7 m8 m9 m10 m11
    rw [hm] at e6
    by_cases hs : X.length < 1 ∨ X.length > 10
    · have hcc : (if (if ((0 : Int) != 0) = true then true else decide ((X.length : Int) < 1)) = true then true else decide ((X.length : Int) > 10)) = true := by
        rw [bne_self_eq_false]
        rcases hs with h | h
        · simp; omega
        · simp; omega
      simp only [B3, e6, hcc, F7_t, sem_br, sem_ask, sem_triv, sem_sees, sem_nxt, sem_ret, sem_bind_some, PC.holds, need_true, decide_true, decide_false, if_true, if_false, Bool.false_eq_true, stepO_nxt, stepO_ret]
    · have h1 : ¬ ((X.length : Int) < 1) := by omega
      have h2 : ¬ ((X.length : Int) > 10) := by omega
      simp only [B3, e6, h1, h2, bne_self_eq_false, sem_br, sem_ask, sem_triv, sem_sees, sem_nxt, sem_ret, sem_bind_some, PC.holds, need_true, decide_true, decide_false, if_true, if_false, Bool.false_eq_true, stepO_nxt, stepO_ret]
      have hh : 0 < X.length := by omega
      have o := hX.2 _ (List.getElem_mem hh)
      have a := at8 hh o
      have s := smX X[0]
      have ac := act_eq X[0]
      have re := rea_eq X[0]
      have pb : inI64 (pX X[0]) := by have := (pqX_bd X[0]).1; unfold absI at this; unfold inI64; split at this <;> omega
      have qb : inI64 (qX X[0]) := by have := (pqX_bd X[0]).2; unfold absI at this; unfold inI64; split at this <;> omega
      have hlt : (0 : Int) < (X.length : Int) := by omega
      have e0 : (0 : Int).toNat = 0 := rfl
      rw [res_eq]
      by_cases hp : pX X[0] = 0
      · have hcc : (if (pX X[0] == 0) = true then true else qX X[0] == 0) = true := by rw [hp]; rfl
        simp only [B3, hlt, e0, a.r1, a.r2, a.t, a.c0, a.c1, a.c2, a.c3, a.c4, a.c5, a.c6, a.c7, s.n0, s.n1, s.n2, s.n3, s.s0, s.s1, s.s2, s.s3, s.p0, s.q0, s.p1, s.q1, s.p2, s.q2, s.p3, s.q3, s.u0, s.v0, s.u1, s.v1, s.u2, s.v2, s.u3, s.v3, ac, re, pb, qb, Int.le_refl,  hcc, F7_t, sem_br, sem_ask, sem_triv, sem_sees, sem_nxt, sem_ret, sem_bind_some, PC.holds, need_true, decide_true, decide_false, if_true, if_false, Bool.false_eq_true, stepO_nxt, stepO_ret]
      · by_cases hq : qX X[0] = 0
        · have hcc : (if (pX X[0] == 0) = true then true else qX X[0] == 0) = true := by rw [hq]; split <;> rfl
          simp only [B3, hlt, e0, a.r1, a.r2, a.t, a.c0, a.c1, a.c2, a.c3, a.c4, a.c5, a.c6, a.c7, s.n0, s.n1, s.n2, s.n3, s.s0, s.s1, s.s2, s.s3, s.p0, s.q0, s.p1, s.q1, s.p2, s.q2, s.p3, s.q3, s.u0, s.v0, s.u1, s.v1, s.u2, s.v2, s.u3, s.v3, ac, re, pb, qb, Int.le_refl,  hcc, F7_t, sem_br, sem_ask, sem_triv, sem_sees, sem_nxt, sem_ret, sem_bind_some, PC.holds, need_true, decide_true, decide_false, if_true, if_false, Bool.false_eq_true, stepO_nxt, stepO_ret]
        · have b1 := bF hp
          have b2 := bF hq
          have L := c4_all (X := X) (cut := cut) hX.2 hA hc (by omega) (X.length - 1) 1 _ _ 3 3 3 (by omega) (by omega) (inv_step hh (inv0 X) hp hq)
          have pbb := (pqX_bd X[0]).1
          have qbb := (pqX_bd X[0]).2
          have k1 : sideN (pX X[0]) < 6 := by rcases side_cases (pX X[0]) with e | e <;> omega
          have k2 : sw (sideN (pX X[0])) < 6 := by rcases side_cases (pX X[0]) with e | e <;> rw [e] <;> decide
          have an := absI_nn (pX X[0])
          have sb := inv_bd (inv0 X) (by omega)
          have s1 := add_bd (S := zs) rfl k1 ⟨an, pbb⟩ (fun j hj => (sb j hj).1)
          have s2 := add_bd (S := zs) rfl k2 ⟨an, pbb⟩ (fun j hj => (sb j hj).2)
          have G2 := c2_go (X := X) (cut := cut) (m0 := m0) (m1 := m1) (m2 := m2) (m3 := m3) (m4 := m4) (m5 := m5) (m6 := m6) (m7 := m7) (m8 := m8) (m9 := m9) (m10 := m10) (m11 := m11) (h := 0) (V := [vF (m32 X[0].1), vF (m32 X[0].2.1), vF (m32 X[0].2.2.1), vF (m32 X[0].2.2.2.1)]) (I := [vF (m32 X[0].2.2.2.2.1), vF (m32 X[0].2.2.2.2.2.1), vF (m32 X[0].2.2.2.2.2.2.1), vF (m32 X[0].2.2.2.2.2.2.2)]) (M := [vF (-m32 X[0].2.2.2.2.1), vF (-m32 X[0].2.2.2.2.2.1), vF (-m32 X[0].2.2.2.2.2.2.1), vF (-m32 X[0].2.2.2.2.2.2.2)]) pbb hq
          have G3 := c3_go (X := X) (cut := cut) (m0 := m0) (m1 := m1) (m2 := m2) (m3 := m3) (m4 := m4) (m5 := m5) (m6 := m6) (m7 := m7) (m8 := m8) (m9 := m9) (m10 := m10) (m11 := m11) (h := 0) (n := 4) (t := 3) (t1 := 3) (t2 := 3) (V := [vF (m32 X[0].1), vF (m32 X[0].2.1), vF (m32 X[0].2.2.1), vF (m32 X[0].2.2.2.1)]) (I := [vF (m32 X[0].2.2.2.2.1), vF (m32 X[0].2.2.2.2.2.1), vF (m32 X[0].2.2.2.2.2.2.1), vF (m32 X[0].2.2.2.2.2.2.2)]) (M := [vF (-m32 X[0].2.2.2.2.1), vF (-m32 X[0].2.2.2.2.2.1), vF (-m32 X[0].2.2.2.2.2.2.1), vF (-m32 X[0].2.2.2.2.2.2.2)]) (p := pX X[0]) qbb (by omega) (S := addAt zs (sideN (pX X[0])) (absI (pX X[0]))) (O := addAt zs (sw (sideN (pX X[0]))) (absI (pX X[0]))) (by rw [addAt_len]; rfl) (by rw [addAt_len]; rfl) (fun j hj => by have := s1 j hj; have := s2 j hj; omega)
          have r1 : rowF v4 X 1 = [vF (m32 X[0].1), vF (m32 X[0].2.1), vF (m32 X[0].2.2.1), vF (m32 X[0].2.2.2.1)] := (row_step hh rfl).symm
          have r2 : rowF i4 X 1 = [vF (m32 X[0].2.2.2.2.1), vF (m32 X[0].2.2.2.2.2.1), vF (m32 X[0].2.2.2.2.2.2.1), vF (m32 X[0].2.2.2.2.2.2.2)] := (row_step hh rfl).symm
          have r3 : rowF n4 X 1 = [vF (-m32 X[0].2.2.2.2.1), vF (-m32 X[0].2.2.2.2.2.1), vF (-m32 X[0].2.2.2.2.2.2.1), vF (-m32 X[0].2.2.2.2.2.2.2)] := (row_step hh rfl).symm
          rw [r1, r2, r3] at L
          replace L := (G2.trans G3).trans L
          by_cases hneg : pX X[0] < 0
          · have e1 : sideN (pX X[0]) = 1 := if_pos hneg
            simp only [B3, hlt, e0, a.r1, a.r2, a.t, a.c0, a.c1, a.c2, a.c3, a.c4, a.c5, a.c6, a.c7, s.n0, s.n1, s.n2, s.n3, s.s0, s.s1, s.s2, s.s3, s.p0, s.q0, s.p1, s.q1, s.p2, s.q2, s.p3, s.q3, s.u0, s.v0, s.u1, s.v1, s.u2, s.v2, s.u3, s.v3, ac, re, pb, qb, Int.le_refl,  b1, b2, hneg, sem_br, sem_ask, sem_triv, sem_sees, sem_nxt, sem_ret, sem_bind_some, PC.holds, need_true, decide_true, decide_false, if_true, if_false, Bool.false_eq_true, stepO_nxt, stepO_ret]
            rw [e1] at L
            exact L
          · have e1 : sideN (pX X[0]) = 0 := if_neg hneg
            simp only [B3, hlt, e0, a.r1, a.r2, a.t, a.c0, a.c1, a.c2, a.c3, a.c4, a.c5, a.c6, a.c7, s.n0, s.n1, s.n2, s.n3, s.s0, s.s1, s.s2, s.s3, s.p0, s.q0, s.p1, s.q1, s.p2, s.q2, s.p3, s.q3, s.u0, s.v0, s.u1, s.v1, s.u2, s.v2, s.u3, s.v3, ac, re, pb, qb, Int.le_refl,  b1, b2, hneg, sem_br, sem_ask, sem_triv, sem_sees, sem_nxt, sem_ret, sem_bind_some, PC.holds, need_true, decide_true, decide_false, if_true, if_false, Bool.false_eq_true, stepO_nxt, stepO_ret]
            rw [e1] at L
            exact L
  · have hb : (metI [m0, m1, m2, m3, m4, m5, m6, m7, m8, m9, m10, m11] != 0) = true := by simp [hm]
    simp only [B3, F6_eq, hb, F7_t, sem_br, sem_ask, sem_triv, sem_sees, sem_nxt, sem_ret, sem_bind_some, PC.holds, need_true, decide_true, decide_false, if_true, if_false, Bool.false_eq_true, stepO_nxt, stepO_ret]
end Go.Kv
