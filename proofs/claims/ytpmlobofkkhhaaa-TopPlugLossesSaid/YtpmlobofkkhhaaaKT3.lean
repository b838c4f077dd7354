/- What the law finds over all houses, in plain Lean: the loops, and what is told at the end. -/
import Derived.Test.YtpmlobofkkhhaaaGP3
import Derived.Test.YtpmlobofkkhhaaaKT2b
namespace Go.Kv
set_option linter.unusedVariables false
set_option linter.unusedSimpArgs false
open Go Go.RowKit
set_option maxRecDepth 100000
abbrev Hse := Int × Int × Int
def eH (x : Hse) : List DV := [.v (.int .u16 x.1), .v (.int .u16 x.2.1), .v (.int .u16 x.2.2)]
theorem eH_len (x : Hse) : (eH x).length = 3 := rfl
def okH (x : Hse) : Prop := (0 ≤ x.1 ∧ x.1 ≤ 65535) ∧ (0 ≤ x.2.1 ∧ x.2.1 ≤ 65535) ∧ (0 ≤ x.2.2 ∧ x.2.2 ≤ 65535)
structure At3 (l : List DV) (i : Nat) (x : Hse) : Prop where
  c0 : dI (cel l (i * 3)) = x.1
  c1 : dI (cel l (i * 3 + 1)) = x.2.1
  c2 : dI (cel l (i * 3 + 2)) = x.2.2
  r1 : i * 3 ≤ l.length
  r2 : 3 ≤ (l.drop (i * 3)).length
  t : List.map AV.d (List.take 3 (List.drop (i * 3) l)) = [AV.d (DV.v (Value.int IntKind.u16 x.1)), AV.d (DV.v (Value.int IntKind.u16 x.2.1)), AV.d (DV.v (Value.int IntKind.u16 x.2.2))]
theorem at3 {M : List Hse} {i : Nat} (hi : i < M.length) : At3 (M.flatMap eH) i M[i] := by
  have hk (k : Nat) (h : k < 3) := fm_cel (enc := eH) eH_len hi h
  obtain ⟨r1, r2⟩ := fm_room (enc := eH) eH_len hi
  refine ⟨?_, ?_, ?_, r1, r2, ?_⟩
  · have := hk 0 (by decide)
    rw [Nat.add_zero] at this
    rw [this]; rfl
  · rw [hk 1 (by decide)]; rfl
  · rw [hk 2 (by decide)]; rfl
  · rw [fm_at eH_len hi]; rfl
theorem wr16 {x : Int} (h : 0 ≤ x ∧ x ≤ 65535) : IntKind.i64.wrap x = x := wrap_in (by unfold inI64; omega)
theorem tm_pos {a b : Int} (h : 0 ≤ a) : a.tmod b = a % b := Int.tmod_eq_emod_of_nonneg h
def cN (x : Hse) : Nat := 1 + (x.2.1 % 4).toNat
def cA (x : Hse) : Int := x.2.1 % 128
def cB (x : Hse) : Int := x.2.2 % 128
def eE (x : Hse) (h : Nat) : Int := en (cA x) (cB x) (h : Int) (cN x) 0
def rR (x : Hse) : Int := x.1 * 15
def uU (x : Hse) (h : Nat) : Int := (rR x + eE x h) / 1000000 * 1000000
def loI (x : Hse) (h : Nat) : Int := if uU x h - 999999 > 0 then uU x h - 999999 else 0
def hiI (x : Hse) (h : Nat) : Int := uU x h + 1000000 - 1
structure HH (x : Hse) (h : Nat) : Prop where
  xa : 0 ≤ cA x ∧ cA x ≤ 127
  xb : 0 ≤ cB x ∧ cB x ≤ 127
  xh : 0 ≤ (h : Int) ∧ (h : Int) ≤ 5
  n : cN x ≤ 4
  n1 : 1 ≤ cN x
  r : 0 ≤ rR x ∧ rR x ≤ 999999
  u : 0 ≤ 999990 + (h : Int) ∧ 999990 + (h : Int) ≤ 999999
  e : 0 ≤ eE x h ∧ eE x h ≤ 16800000
theorem hh {x : Hse} {h : Nat} (ox : okH x) (hh : h ≤ 5) : HH x h := by
  obtain ⟨o1, o2, o3⟩ := ox
  have ha : 0 ≤ cA x ∧ cA x ≤ 127 := by unfold cA; omega
  have hb : 0 ≤ cB x ∧ cB x ≤ 127 := by unfold cB; omega
  have hn : cN x ≤ 4 := by unfold cN; omega
  have he := en_bd ha hb (h := (h : Int)) (by omega) (cN x) 0 (by omega)
  refine ⟨ha, hb, by omega, hn, by unfold cN; omega, by unfold rR; omega, by omega, ?_⟩
  unfold eE; omega
theorem F5_H {x : Hse} {h : Nat} (H : HH x h) : F5 (999990 + (h : Int)) (rR x) 0 0 0 0 0 0 0 0 0 0 (4 * cN x) ((vL (cA x) (cN x)).map vF) (4 * cN x) ((iL (cB x) (h : Int) (cN x)).map vF) =
    some (tup (regT ((999990 + (h : Int)) * 1000000 + rR x + eE x h))) := F5_T H.xa H.xb H.xh H.n H.u H.r
theorem F6_H1 {x : Hse} {h : Nat} (H : HH x h) : F6 (999990 + (h : Int)) (rR x) (((999990 + (h : Int)) * 1000000 + rR x + eE x h) / 1000000 % 1000000) (((999990 + (h : Int)) * 1000000 + rR x + eE x h) % 1000000) = some (eE x h, 0) := by
  have := H.e
  rw [F6_eq ⟨H.u, H.r⟩ ⟨by omega, by omega⟩, dif_T H.u H.r ⟨by omega, by omega⟩]
theorem F6_H2 {x : Hse} {h : Nat} (H : HH x h) : F6 (999990 + (h : Int)) 0 (((999990 + (h : Int)) * 1000000 + rR x + eE x h) / 1000000 % 1000000) 0 = some (uU x h, 0) := by
  have := H.e
  rw [F6_eq ⟨H.u, by omega⟩ ⟨by omega, by omega⟩, dif_U H.u H.r ⟨by omega, by omega⟩]; rfl
theorem vF_app (L M : List Int) : (L ++ M).map vF = L.map vF ++ M.map vF := List.map_append
theorem good_H {x : Hse} {k : Nat} {M : List Itv} {t : Int} (H : HH x k) (g : Good k M t) : (loI x k ≤ eE x k ∧ eE x k ≤ hiI x k) ∧ Good (k + 1) (M ++ [(loI x k, hiI x k)]) (t + eE x k) :=
  good_snoc g H.r H.e (by unfold loI uU; omega) (by unfold hiI uU; omega)
theorem uU_bd {x : Hse} {h : Nat} (H : HH x h) : 0 ≤ uU x h ∧ uU x h ≤ 20000000 := by
  have := H.e; have := H.r
  unfold uU; omega
theorem uU_m {x : Hse} {h : Nat} (H : HH x h) : (uU x h).tmod 1000000 = 0 := by
  rw [tm_pos (uU_bd H).1]; unfold uU; omega

theorem reg_0 (T : Int) : (regT T).getD 0 0 = T / 1000000 % 1000000 := rfl
theorem reg_1 (T : Int) : (regT T).getD 1 0 = T % 1000000 := rfl
theorem vF0 : vF 0 = DV.v (Value.float FloatKind.f32 0) := by kernel_rfl
theorem vL_step (a : Int) (j : Nat) : (vL a j).map vF ++ [DV.v (Value.float FloatKind.f32 (floatOfInt FloatKind.f32 a)), DV.v (Value.float FloatKind.f32 0), DV.v (Value.float FloatKind.f32 (floatOfInt FloatKind.f32 (j : Int))), DV.v (Value.float FloatKind.f32 0)] = (vL a (j + 1)).map vF := by
  rw [vL_snoc, List.map_append, List.map_cons, List.map_cons, List.map_cons, List.map_cons, List.map_nil, vF0]
theorem iL_step (b h : Int) (j : Nat) : (iL b h j).map vF ++ [DV.v (Value.float FloatKind.f32 (floatOfInt FloatKind.f32 b)), DV.v (Value.float FloatKind.f32 0), DV.v (Value.float FloatKind.f32 (floatOfInt FloatKind.f32 h)), DV.v (Value.float FloatKind.f32 0)] = (iL b h (j + 1)).map vF := by
  rw [iL_snoc, List.map_append, List.map_cons, List.map_cons, List.map_cons, List.map_cons, List.map_nil, vF0]

theorem inI (x : Hse) (h : Nat) (H : HH x h) : loI x h ≤ eE x h ∧ eE x h ≤ hiI x h := by
  have hr := H.r; have he := H.e
  unfold loI hiI uU; omega

theorem c3_run {x : Hse} {h : Nat} (H : HH x h) (ox : okH x) {N : Nat} {l : List DV} {NI lost t : Int} (ht : 0 ≤ t ∧ t ≤ 200000000) : ∀ (k j t1 t2 : Nat), cN x = j + k → ∃ u1 u2 : Nat, res B3 (.c3 lost t (h : Int) t1 (4 * j) ((vL (cA x) j).map vF) t2 (4 * j) ((iL (cB x) (h : Int) j).map vF) N l NI ((cN x : Nat) : Int) ((j : Nat) : Int) x.1 x.2.1 x.2.2 (999990 + (h : Int)) (rR x) t1 t2) = res B3 (.c5 lost (t + eE x h) 0 1 [vI (loI x h), vI (hiI x h)] N l NI ((h : Int) + 1) u1 u2 0)
  | 0, j, t1, t2, hj => by
    have hjn : j = cN x := by omega
    subst hjn
    refine ⟨t1, t2, ?_⟩
    have hlt : ¬ (((cN x : Nat) : Int) < ((cN x : Nat) : Int)) := Int.lt_irrefl _
    have ub := uU_bd H
    have um := uU_m H
    have eb := H.e
    obtain ⟨lo1, lo2⟩ := inI x h H
    have i1 : inI64 (uU x h - 999999) := by unfold inI64; omega
    have i2 : inI64 (uU x h + 1000000) := by unfold inI64; omega
    have i3 : inI64 (uU x h + 1000000 - 1) := by unfold inI64; omega
    have i4 : inI64 (t + eE x h) := by unfold inI64; omega
    have i5 : inI64 ((h : Int) + 1) := by have := H.xh; unfold inI64; omega
    have l1 : ¬ (eE x h < (if uU x h - 999999 > 0 then uU x h - 999999 else 0)) := by have : loI x h = (if uU x h - 999999 > 0 then uU x h - 999999 else 0) := rfl; omega
    have l2 : ¬ (eE x h > uU x h + 1000000 - 1) := by have : hiI x h = uU x h + 1000000 - 1 := rfl; omega
    rw [res_eq]
    simp only [B3, F5_H H, F6_H1 H, F6_H2 H, reg_0, reg_1, um, hlt, i1, i2, i3, i4, i5, l1, l2, sem_br, sem_ask, sem_triv, sem_sees, sem_nxt, sem_bind_some, PC.holds, need_true, decide_true, decide_false, Bool.false_eq_true, if_true, if_false, bne_self_eq_false, beq_self_eq_true, stepO_nxt]
    rfl
  | k + 1, j, t1, t2, hj => by
    obtain ⟨u1, u2, ih⟩ := c3_run H ox ht k (j + 1) (t1 + 4) (t2 + 4) (by omega)
    refine ⟨u1, u2, ?_⟩
    have hlt : ((j : Nat) : Int) < ((cN x : Nat) : Int) := by omega
    have hn := H.n
    have hf : fitsN (4 * j + 4) 4 := by unfold fitsN; omega
    have hin : inI64 ((j : Int) + 1) := by unfold inI64; omega
    have wa : (IntKind.i64.wrap x.2.1).tmod 128 = cA x := by rw [wr16 ox.2.1, tm_pos ox.2.1.1]; rfl
    have wb : (IntKind.i64.wrap x.2.2).tmod 128 = cB x := by rw [wr16 ox.2.2, tm_pos ox.2.2.1]; rfl
    rw [← ih, res_eq]
    simp only [B3, wa, wb, vL_step, iL_step, hlt, hin, hf, sem_br, sem_ask, sem_triv, sem_sees, sem_nxt, PC.holds, need_true, decide_true, if_true, stepO_nxt]
    rfl

theorem c9_run {x : Hse} {h : Nat} (H : HH x h) (ox : okH x) {N : Nat} {l : List DV} {NI lost t : Int} {s m g1 g2 : Nat} {M : List DV} (ht : 0 ≤ t ∧ t ≤ 200000000) (hM : m ≤ 10) : ∀ (k j t1 t2 : Nat), cN x = j + k → ∃ u1 u2 : Nat, res B3 (.c9 lost t s m M (h : Int) t1 (4 * j) ((vL (cA x) j).map vF) t2 (4 * j) ((iL (cB x) (h : Int) j).map vF) N l NI ((cN x : Nat) : Int) ((j : Nat) : Int) g1 g2 s x.1 x.2.1 x.2.2 (999990 + (h : Int)) (rR x) t1 t2) = res B3 (.c5 lost (t + eE x h) (s + 1) (m + 1) (M ++ [vI (loI x h), vI (hiI x h)]) N l NI ((h : Int) + 1) g1 g2 (s + 1))
  | 0, j, t1, t2, hj => by
    have hjn : j = cN x := by omega
    subst hjn
    refine ⟨t1, t2, ?_⟩
    have hfm : fitsN (m + 1) 16 := by unfold fitsN; omega
    have hlt : ¬ (((cN x : Nat) : Int) < ((cN x : Nat) : Int)) := Int.lt_irrefl _
    have ub := uU_bd H
    have um := uU_m H
    have eb := H.e
    obtain ⟨lo1, lo2⟩ := inI x h H
    have i1 : inI64 (uU x h - 999999) := by unfold inI64; omega
    have i2 : inI64 (uU x h + 1000000) := by unfold inI64; omega
    have i3 : inI64 (uU x h + 1000000 - 1) := by unfold inI64; omega
    have i4 : inI64 (t + eE x h) := by unfold inI64; omega
    have i5 : inI64 ((h : Int) + 1) := by have := H.xh; unfold inI64; omega
    have l1 : ¬ (eE x h < (if uU x h - 999999 > 0 then uU x h - 999999 else 0)) := by have : loI x h = (if uU x h - 999999 > 0 then uU x h - 999999 else 0) := rfl; omega
    have l2 : ¬ (eE x h > uU x h + 1000000 - 1) := by have : hiI x h = uU x h + 1000000 - 1 := rfl; omega
    rw [res_eq]
    simp only [B3, F5_H H, F6_H1 H, F6_H2 H, reg_0, reg_1, um, hlt, i1, i2, i3, i4, i5, l1, l2, hfm, sem_br, sem_ask, sem_triv, sem_sees, sem_nxt, sem_bind_some, PC.holds, need_true, decide_true, decide_false, Bool.false_eq_true, if_true, if_false, bne_self_eq_false, beq_self_eq_true, stepO_nxt]
    rfl
  | k + 1, j, t1, t2, hj => by
    obtain ⟨u1, u2, ih⟩ := c9_run H ox ht hM k (j + 1) (t1 + 4) (t2 + 4) (by omega)
    refine ⟨u1, u2, ?_⟩
    have hlt : ((j : Nat) : Int) < ((cN x : Nat) : Int) := by omega
    have hn := H.n
    have hf : fitsN (4 * j + 4) 4 := by unfold fitsN; omega
    have hin : inI64 ((j : Int) + 1) := by unfold inI64; omega
    have wa : (IntKind.i64.wrap x.2.1).tmod 128 = cA x := by rw [wr16 ox.2.1, tm_pos ox.2.1.1]; rfl
    have wb : (IntKind.i64.wrap x.2.2).tmod 128 = cB x := by rw [wr16 ox.2.2, tm_pos ox.2.2.1]; rfl
    rw [← ih, res_eq]
    simp only [B3, wa, wb, vL_step, iL_step, hlt, hin, hf, sem_br, sem_ask, sem_triv, sem_sees, sem_nxt, PC.holds, need_true, decide_true, if_true, stepO_nxt]
    rfl
theorem real_bd {t lost : Int} (ht : 0 ≤ t ∧ t ≤ 200000000) (hl : -2147483648 ≤ lost ∧ lost ≤ 2147483647) : -30000000 < lost.tmod 30000000 ∧ lost.tmod 30000000 < 30000000 := by
  have h1 := Int.tmod_lt_of_pos lost (b := 30000000) (by decide)
  have h2 : -(lost.tmod 30000000) = (-lost).tmod 30000000 := (Int.neg_tmod lost 30000000).symm
  have h3 := Int.tmod_lt_of_pos (-lost) (b := 30000000) (by decide)
  omega
def reI (t lost : Int) : Int := if -t > lost.tmod 30000000 then -t else lost.tmod 30000000
theorem c5_end {N : Nat} {l : List DV} {lost t : Int} {s g1 g2 : Nat} {M : List Itv} {h : Nat} (hl : -2147483648 ≤ lost ∧ lost ≤ 2147483647) (g : Good h M t) (h6 : h ≤ 6) (h1 : 1 ≤ h) :
    res B3 (.c5 lost t s h (M.flatMap eI) N l (h : Int) (h : Int) g1 g2 s) = some true := by
  have hlt : ¬ ((h : Int) < (h : Int)) := Int.lt_irrefl _
  have ht : 0 ≤ t ∧ t ≤ 200000000 := by have := g.t0; have := g.t1; omega
  have rb := real_bd ht hl
  have ww : IntKind.i64.wrap lost = lost := wrap_in (by unfold inI64; omega)
  have i1 : inI64 (-t) := by unfold inI64; omega
  have hr : reI t lost = (if -t > lost.tmod 30000000 then -t else lost.tmod 30000000) := rfl
  have rb2 : -t ≤ reI t lost ∧ reI t lost ≤ 30000000 := by rw [hr]; omega
  have i2 : inI64 (t + reI t lost) := by unfold inI64; omega
  have hM := g.ok
  have hlen := g.len
  have ok : okI (t + reI t lost, t + reI t lost) := by unfold okI; simp only; omega
  have e7 := F7_eq hM (by omega) ok
  have e8 := F8_eq' hM (by omega) ok
  rw [hlen] at e7 e8
  have hb : (h.beq 0) = false := by cases h; omega; rfl
  have n0 : 0 < h := h1
  have n2 : (M.flatMap eI).length = h * 2 := by rw [fm_len eI_len, hlen]
  have n3 : fitsN h 16 := by unfold fitsN; omega
  have glo := g.lo
  have ghi := g.hi
  have k1 : t + reI t lost - sHi M ≤ reI t lost := by omega
  have k2 : t + reI t lost - sLo M ≥ reI t lost := by omega
  have e4 : F4 = some true := rfl
  rw [res_eq]
  simp only [B3, ww, ← hr, e4, e7, e8, hlt, i1, i2, hb, n0, n2, n3, k1, k2, sem_br, sem_ask, sem_triv, sem_sees, sem_bind_some, PC.holds, need_true, decide_true, decide_false, Bool.false_eq_true, if_true, if_false, beq_self_eq_true]
  have z1 : ((-1 : Int) != 1) = true := rfl
  have z2 : ((-1 : Int) != -1) = false := rfl
  have z3 : ((0 : Int) != 1) = true := rfl
  have z4 : ((0 : Int) != -1) = true := rfl
  have z5 : ((1 : Int) != -1) = true := rfl
  by_cases p1 : t + reI t lost - sHi M > 0
  · have q1 : reI t lost > 0 := by omega
    simp only [p1, q1, z5, if_true, bne_self_eq_false, Bool.false_eq_true, if_false, decide_true, beq_self_eq_true, need_true, sem_ret, stepO_ret]
  · by_cases p2 : t + reI t lost - sLo M < 0
    · have q2 : reI t lost < 0 := by omega
      simp only [p1, p2, q2, z1, z2, if_true, if_false, decide_true, beq_self_eq_true, Bool.false_eq_true, need_true, sem_ret, stepO_ret]
    · simp only [p1, p2, z3, z4, if_true, if_false, beq_self_eq_true, need_true, sem_ret, stepO_ret]
theorem c5_all {X : List Hse} {lost : Int} (hX : ∀ x ∈ X, okH x) (h6 : X.length ≤ 6) (hl : -2147483648 ≤ lost ∧ lost ≤ 2147483647) : ∀ (k h : Nat) (M : List Itv) (t : Int) (s g1 g2 : Nat), X.length = h + k → 1 ≤ h → Good h M t →
    res B3 (.c5 lost t s h (M.flatMap eI) X.length (X.flatMap eH) (X.length : Int) (h : Int) g1 g2 s) = some true
  | 0, h, M, t, s, g1, g2, hk, h1, g => by
    have : X.length = h := by omega
    rw [this]
    exact c5_end hl g (by omega) h1
  | k + 1, h, M, t, s, g1, g2, hk, h1, g => by
    have hi : h < X.length := by omega
    have ox := hX _ (List.getElem_mem hi)
    have H := hh ox (h := h) (by omega)
    have ht : 0 ≤ t ∧ t ≤ 200000000 := by have := g.t0; have := g.t1; omega
    have gg := (good_H H g).2
    have ih := c5_all hX h6 hl k (h + 1) _ _ (s + 1) g1 g2 (by omega) (by omega) gg
    have a := at3 hi
    have hlt : (h : Int) < (X.length : Int) := by omega
    have w0 : IntKind.i64.wrap X[h].1 = X[h].1 := wr16 ox.1
    have w1 : IntKind.i64.wrap X[h].2.1 = X[h].2.1 := wr16 ox.2.1
    have w2 : IntKind.i64.wrap X[h].2.2 = X[h].2.2 := wr16 ox.2.2
    have hb := H.xh
    have i1 : inI64 (999990 + (h : Int)) := by unfold inI64; omega
    have i2 : inI64 (X[h].1 * 15) := by have := ox.1; unfold inI64; omega
    have cn : (1 : Int) + X[h].2.1.tmod 4 = ((cN X[h] : Nat) : Int) := by rw [tm_pos ox.2.1.1]; unfold cN; omega
    have i3 : inI64 ((cN X[h] : Nat) : Int) := by have := H.n; unfold inI64; omega
    have wa : X[h].2.1.tmod 128 = cA X[h] := tm_pos ox.2.1.1
    have wb : X[h].2.2.tmod 128 = cB X[h] := tm_pos ox.2.2.1
    obtain ⟨_, _, r9⟩ := c9_run H ox (N := X.length) (l := X.flatMap eH) (NI := (X.length : Int)) (lost := lost) (t := t) (s := s) (m := h) (g1 := g1) (g2 := g2) (M := M.flatMap eI) ht (by omega) (cN X[h] - 1) 1 0 0 (by have := H.n1; omega)
    rw [eI_snoc] at ih
    rw [← ih, res_eq]
    simp only [B3, hlt, a.c0, a.c1, a.c2, a.r1, a.r2, a.t, w0, w1, w2, i1, i2, cn, i3, Int.toNat_natCast, Int.natCast_nonneg, sem_br, sem_ask, sem_triv, sem_sees, sem_nxt, PC.holds, need_true, decide_true, if_true, stepO_nxt]
    have hlt2 : (0 : Int) < ((cN X[h] : Nat) : Int) := by have := H.n1; omega
    have hin : inI64 (0 + 1) := by unfold inI64; omega
    rw [res_eq]
    simp only [B3, hlt2, hin, w1, w2, wa, wb, sem_br, sem_ask, sem_triv, sem_sees, sem_nxt, PC.holds, need_true, decide_true, if_true, stepO_nxt]
    exact r9
theorem losses_true (X : List Hse) (hX : X.length ≤ maxLen ∧ ∀ x ∈ X, okH x) (lost : Int) (hl : -2147483648 ≤ lost ∧ lost ≤ 2147483647) : F3 X.length (X.flatMap eH) lost = some true := by
  have e4 : F4 = some true := rfl
  unfold F3; rw [res_eq]
  by_cases hs : X.length < 1 ∨ X.length > 6
  · have hc : (if decide ((X.length : Int) < 1) = true then true else decide ((X.length : Int) > 6)) = true := by
      rcases hs with h | h
      · rw [if_pos (decide_eq_true (by omega))]
      · by_cases h2 : (X.length : Int) < 1
        · rw [if_pos (decide_eq_true h2)]
        · rw [if_neg (by simpa using h2)]; exact decide_eq_true (by omega)
    simp only [B3, hc, e4, sem_br, sem_triv, sem_sees, sem_ret, sem_bind_some, if_true, stepO_ret]
  · have h1 : ¬ ((X.length : Int) < 1) := by omega
    have h2 : ¬ ((X.length : Int) > 6) := by omega
    simp only [B3, h1, h2, decide_false, Bool.false_eq_true, if_false, sem_br, sem_triv, sem_nxt, stepO_nxt]
    have hi : 0 < X.length := by omega
    have ox := hX.2 _ (List.getElem_mem hi)
    have H := hh ox (h := 0) (by omega)
    have gg := (good_H H good0).2
    have a := at3 hi
    have hlt : (0 : Int) < (X.length : Int) := by omega
    have w0 : IntKind.i64.wrap X[0].1 = X[0].1 := wr16 ox.1
    have w1 : IntKind.i64.wrap X[0].2.1 = X[0].2.1 := wr16 ox.2.1
    have w2 : IntKind.i64.wrap X[0].2.2 = X[0].2.2 := wr16 ox.2.2
    have i1 : inI64 (999990 + 0) := by unfold inI64; omega
    have i2 : inI64 (X[0].1 * 15) := by have := ox.1; unfold inI64; omega
    have cn : (1 : Int) + X[0].2.1.tmod 4 = ((cN X[0] : Nat) : Int) := by rw [tm_pos ox.2.1.1]; unfold cN; omega
    have i3 : inI64 ((cN X[0] : Nat) : Int) := by have := H.n; unfold inI64; omega
    have wa : X[0].2.1.tmod 128 = cA X[0] := tm_pos ox.2.1.1
    have wb : X[0].2.2.tmod 128 = cB X[0] := tm_pos ox.2.2.1
    obtain ⟨u1, u2, r3⟩ := c3_run H ox (N := X.length) (l := X.flatMap eH) (NI := (X.length : Int)) (lost := lost) (t := 0) (by omega) (cN X[0] - 1) 1 0 0 (by have := H.n1; omega)
    have L := c5_all hX.2 (by omega) hl (X.length - 1) 1 _ _ 0 u1 u2 (by omega) (by omega) gg
    rw [res_eq]
    have e0 : (0 : Int).toNat = 0 := rfl
    simp only [B3, hlt, e0, a.c0, a.c1, a.c2, a.r1, a.r2, a.t, w0, w1, w2, i1, i2, cn, i3, Int.le_refl, sem_br, sem_ask, sem_triv, sem_sees, sem_nxt, PC.holds, need_true, decide_true, if_true, stepO_nxt]
    have hlt2 : (0 : Int) < ((cN X[0] : Nat) : Int) := by have := H.n1; omega
    have hin : inI64 (0 + 1) := by unfold inI64; omega
    rw [res_eq]
    simp only [B3, hlt2, hin, w1, w2, wa, wb, sem_br, sem_ask, sem_triv, sem_sees, sem_nxt, PC.holds, need_true, decide_true, if_true, stepO_nxt]
    exact r3.trans L
end Go.Kv
