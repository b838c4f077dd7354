import Derived.Test.YtfojgeoicgmncaaKR1
namespace Go.Kv
set_option linter.unusedVariables false
set_option linter.unusedSimpArgs false
open Go Go.RowKit Go.Proofs
set_option maxRecDepth 100000
abbrev RX := Int × Int × Bool
def eX (x : RX) : List DV := [.v (.int .u8 x.1), .v (.int .u8 x.2.1), .v (.bool x.2.2)]
theorem eX_len (x : RX) : (eX x).length = 3 := rfl
def x0 : RX := (0, 0, false)
def ro (x : RX) : Rd := (bits4 x.1, bits4 x.2.1, x.2.2)
structure AtX (l : List DV) (i : Nat) (x : RX) : Prop where
  c0 : dI (cel l (i * 3)) = x.1
  c1 : dI (cel l (i * 3 + 1)) = x.2.1
  c2 : dB (cel l (i * 3 + 2)) = x.2.2
  r1 : i * 3 ≤ l.length
  r2 : 3 ≤ (l.drop (i * 3)).length
  t : List.map AV.d (List.take 3 (List.drop (i * 3) l)) = [AV.d (DV.v (Value.int IntKind.u8 x.1)), AV.d (DV.v (Value.int IntKind.u8 x.2.1)), AV.d (DV.v (Value.bool x.2.2))]
theorem atX {L : List RX} {i : Nat} (hi : i < L.length) : AtX (L.flatMap eX) i (L.getD i x0) := by
  have hk (k : Nat) (h : k < 3) := fm_cel (enc := eX) eX_len hi h
  obtain ⟨q1, q2⟩ := fm_room (enc := eX) eX_len hi
  rw [show L.getD i x0 = L[i] by simp [List.getD_eq_getElem?_getD, hi]]
  refine ⟨?_, ?_, ?_, q1, q2, ?_⟩
  · have := hk 0 (by decide)
    rw [Nat.add_zero] at this
    rw [this]; rfl
  · rw [hk 1 (by decide)]; rfl
  · rw [hk 2 (by decide)]; rfl
  · rw [fm_at eX_len hi]; rfl
section
variable {L : List RX}
theorem ou_step (hL : L.length ≤ 6) {s : S29} {k j : Nat} {ys : List DV} (h : Ou L.length (L.flatMap eX) s k ys ((j : Nat) : Int)) (hj : j < L.length) (hk : k ≤ j) :
    ∃ s2 e1 e2, Ou L.length (L.flatMap eX) s2 (k + 1) (ys ++ [e1, e2, .v (.bool (L.getD j x0).2.2)]) (((j + 1 : Nat)) : Int) ∧ wkD e1 = eI (bits4 (L.getD j x0).1) ∧ wkD e2 = eI (bits4 (L.getD j x0).2.1) ∧ res B29 s = res B29 s2 := by
  have h1 : ((j : Nat) : Int) < ((L.length : Nat) : Int) := by omega
  have t := atX hj
  have t0 := t.c0; have t1 := t.c1; have t2 := t.c2; have t3 := t.r1; have t4 := t.r2; have t5 := t.t
  have hin : inI64 (((j : Nat) : Int) + 1) := by unfold inI64; omega
  have hf : fitsN (k + 1) 56 := by unfold fitsN; omega
  have h04 : ((0 : Nat) : Int) < 4 := by omega
  cases h with
  | c14 p _ _ _ x y =>
    obtain ⟨s1, r1, e1⟩ := all14 (R14.nn (p := p) (k := k) (ys := ys) (N := L.length) (C := L.flatMap eX) (j := ((j : Nat) : Int)) (x := x) (y := y) (a := (L.getD j x0).1) (b := (L.getD j x0).2.1) (d := (L.getD j x0).2.2) 0)
    obtain ⟨s2, f1, f2, o, w1, w2, e2⟩ := en14 r1 hin hf
    refine ⟨s2, f1, f2, o, w1, w2, ?_⟩
    rw [← e2, ← e1, res_eq, res_eq B29 (.c28 ..)]
    simp only [B29, h1, h04, t0, t1, t2, t3, t4, t5, Int.toNat_natCast, Int.natCast_nonneg, decide_true, if_true, sem_br, sem_ask, sem_nxt, PC.holds, need_true, stepO_nxt]
    all_goals rfl
  | c15 p _ _ _ x =>
    obtain ⟨s1, r1, e1⟩ := all15 (R15.nn (p := p) (k := k) (ys := ys) (N := L.length) (C := L.flatMap eX) (j := ((j : Nat) : Int)) (x := x) (a := (L.getD j x0).1) (b := (L.getD j x0).2.1) (d := (L.getD j x0).2.2) 0)
    obtain ⟨s2, f1, f2, o, w1, w2, e2⟩ := en15 r1 hin hf
    refine ⟨s2, f1, f2, o, w1, w2, ?_⟩
    rw [← e2, ← e1, res_eq, res_eq B29 (.c35 ..)]
    simp only [B29, h1, h04, t0, t1, t2, t3, t4, t5, Int.toNat_natCast, Int.natCast_nonneg, decide_true, if_true, sem_br, sem_ask, sem_nxt, PC.holds, need_true, stepO_nxt]
    all_goals rfl
  | c16 p =>
    obtain ⟨s1, r1, e1⟩ := all16 (R16.nn (p := p) (k := k) (ys := ys) (N := L.length) (C := L.flatMap eX) (j := ((j : Nat) : Int)) (a := (L.getD j x0).1) (b := (L.getD j x0).2.1) (d := (L.getD j x0).2.2) 0)
    obtain ⟨s2, f1, f2, o, w1, w2, e2⟩ := en16 r1 hin hf
    refine ⟨s2, f1, f2, o, w1, w2, ?_⟩
    rw [← e2, ← e1, res_eq, res_eq B29 (.c42 ..)]
    simp only [B29, h1, h04, t0, t1, t2, t3, t4, t5, Int.toNat_natCast, Int.natCast_nonneg, decide_true, if_true, sem_br, sem_ask, sem_nxt, PC.holds, need_true, stepO_nxt]
    all_goals rfl
  | c17 p _ _ _ x y =>
    obtain ⟨s1, r1, e1⟩ := all17 (R17.nn (p := p) (k := k) (ys := ys) (N := L.length) (C := L.flatMap eX) (j := ((j : Nat) : Int)) (x := x) (y := y) (a := (L.getD j x0).1) (b := (L.getD j x0).2.1) (d := (L.getD j x0).2.2) 0)
    obtain ⟨s2, f1, f2, o, w1, w2, e2⟩ := en17 r1 hin hf
    refine ⟨s2, f1, f2, o, w1, w2, ?_⟩
    rw [← e2, ← e1, res_eq, res_eq B29 (.c49 ..)]
    simp only [B29, h1, h04, t0, t1, t2, t3, t4, t5, Int.toNat_natCast, Int.natCast_nonneg, decide_true, if_true, sem_br, sem_ask, sem_nxt, PC.holds, need_true, stepO_nxt]
    all_goals rfl
theorem ou_end {s : S29} {k : Nat} {ys : List DV} (h : Ou L.length (L.flatMap eX) s k ys ((L.length : Nat) : Int)) : res B29 s = some (k, ys) := by
  have h1 : ¬ (((L.length : Nat) : Int) < ((L.length : Nat) : Int)) := by omega
  cases h <;> (rw [res_eq]; simp only [B29, h1, decide_false, Bool.false_eq_true, if_false, sem_br, sem_ret, stepO_ret])
theorem ou_first (hL : 0 < L.length) : ∃ s2 e1 e2, Ou L.length (L.flatMap eX) s2 1 ([] ++ [e1, e2, .v (.bool (L.getD 0 x0).2.2)]) (((1 : Nat)) : Int) ∧ wkD e1 = eI (bits4 (L.getD 0 x0).1) ∧ wkD e2 = eI (bits4 (L.getD 0 x0).2.1) ∧ res B29 (.c0 L.length (L.flatMap eX)) = res B29 s2 := by
  have h1 : (0 : Int) < ((L.length : Nat) : Int) := by omega
  have t := atX hL
  have t0 := t.c0; have t1 := t.c1; have t2 := t.c2; have t3 := t.r1; have t4 := t.r2; have t5 := t.t
  simp only [Nat.zero_mul, Nat.zero_add] at t0 t1 t2 t3 t4 t5
  have hin : inI64 ((0 : Int) + 1) := by unfold inI64; omega
  have h04 : ((0 : Nat) : Int) < 4 := by omega
  obtain ⟨s1, r1, e1⟩ := all0 (R0.nn (N := L.length) (C := L.flatMap eX) (j := (0 : Int)) (a := (L.getD 0 x0).1) (b := (L.getD 0 x0).2.1) (d := (L.getD 0 x0).2.2) 0)
  obtain ⟨s2, f1, f2, o, w1, w2, e2⟩ := en0 r1 hin
  refine ⟨s2, f1, f2, o, w1, w2, ?_⟩
  rw [← e2, ← e1, res_eq]
  simp only [B29, sem_nxt, stepO_nxt]
  rw [res_eq, res_eq B29 (.c9 ..)]
  simp only [B29, h1, h04, t0, t1, t2, t3, t4, t5, Int.toNat_zero, Nat.zero_mul, Nat.zero_add, Int.le_refl, decide_true, if_true, sem_br, sem_ask, sem_nxt, PC.holds, need_true, stepO_nxt]
  all_goals rfl
theorem ou_all (hL : L.length ≤ 6) : ∀ (m k : Nat) {s : S29} {ys : List DV}, L.length = k + m → Ou L.length (L.flatMap eX) s k ys ((k : Nat) : Int) → ys.map wkD = ((L.take k).map ro).flatMap eR →
    ∃ zs, res B29 s = some (L.length, zs) ∧ zs.map wkD = (L.map ro).flatMap eR
  | 0, k, s, ys, hm, h, hy => by
    obtain rfl : k = L.length := by omega
    rw [List.take_length] at hy
    exact ⟨ys, ou_end h, hy⟩
  | m + 1, k, s, ys, hm, h, hy => by
    have hk : k < L.length := by omega
    obtain ⟨s2, e1, e2, o, w1, w2, e⟩ := ou_step hL h hk (Nat.le_refl _)
    rw [e]
    refine ou_all hL m (k + 1) (by omega) o ?_
    rw [List.map_append, hy, List.take_succ_eq_append_getElem hk, List.map_append, List.flatMap_append]
    congr 1
    simp only [List.map_cons, List.map_nil, w1, w2, List.flatMap_cons, List.flatMap_nil, List.append_nil, eR, ro]
    rw [show L.getD k x0 = L[k] by simp [List.getD_eq_getElem?_getD, hk]]
    rfl
theorem F29x_eq (hL : L.length ≤ 6) : ∃ zs, F29x L.length (L.flatMap eX) = some (L.length, zs) ∧ zs.map wkD = (L.map ro).flatMap eR := by
  unfold F29x
  by_cases h0 : L.length = 0
  · have : L = [] := List.eq_nil_of_length_eq_zero h0
    subst this
    refine ⟨[], ?_, rfl⟩
    rw [res_eq]
    simp only [B29, sem_nxt, stepO_nxt]
    rw [res_eq]
    have h1 : ¬ (((([] : List RX).length : Nat) : Int) > 0) := by simp
    simp [B29, sem_br, sem_ret, stepO_ret]
  · obtain ⟨s2, e1, e2, o, w1, w2, e⟩ := ou_first (L := L) (by omega)
    rw [e]
    refine ou_all hL (L.length - 1) 1 (by omega) o ?_
    have hk : 0 < L.length := by omega
    rw [List.take_succ_eq_append_getElem hk]
    simp only [List.nil_append, List.take_zero, List.map_nil, List.flatMap_nil, List.map_cons, w1, w2, List.flatMap_cons, List.append_nil, eR, ro]
    rw [show L.getD 0 x0 = L[0] by simp [List.getD_eq_getElem?_getD, hk]]
    rfl
end
noncomputable def F29 (a0 : Nat) (a1 : List DV) : Option (Nat × List DV) := (F29x a0 a1).map fun v => (v.1, v.2.map wkD)
theorem wkD_ok {φ : Nat → Nat} {w : World} : ∀ {x : DV} {u : Value}, RelD φ w x u → RelD φ w (wkD x) u := by
  intro x u h
  unfold wkD
  split
  · unfold RelD at h
    obtain ⟨rfl, _⟩ := h
    unfold RelD
    exact ⟨0, 0, 0, [], .inr ⟨⟨_, rfl⟩, rfl, rfl, rfl⟩, Nat.zero_le _, Nat.le_refl _, by intro i u hu; simp at hu, RelDs.nil⟩
  · exact h
theorem wkDs_ok {φ : Nat → Nat} {w : World} : ∀ {xs : List DV} {us : List Value}, RelDs φ w xs us → RelDs φ w (xs.map wkD) us
  | [], _, h => h
  | x :: xs, us, h => by
    obtain ⟨u, r, rfl, hu, t⟩ := h.cons_inv
    exact RelDs.cons (wkD_ok hu) (wkDs_ok t)
theorem f29 (a0 : Nat) (a1 : List DV) (v : Nat × List DV) (h : F29 a0 a1 = some v) : PureCalls cfz.P cfz.glob 29 [(.d (.sl a0 a1))] (out29 v) := by
  unfold F29 at h
  cases hx : F29x a0 a1 with
  | none => rw [hx] at h; cases h
  | some y =>
    rw [hx] at h
    obtain rfl := Option.some.inj h
    intro w φ us h1 h2 h3
    refine (f29x a0 a1 y hx w φ us h1 h2 h3).mono ?_
    rintro e w' ⟨u, φ', e1, e2, e3, e4, e5⟩
    refine ⟨u, φ', e1, e2, e3, e4, ?_⟩
    unfold out29 at e5 ⊢
    unfold Rel RelD at e5 ⊢
    obtain ⟨bk, off, cap, us, k1, k2, k3, k4, k5⟩ := e5
    exact ⟨bk, off, cap, us, k1, k2, k3, k4, wkDs_ok k5⟩
theorem F29_eq {L : List RX} (hL : L.length ≤ 6) : F29 L.length (L.flatMap eX) = some (L.length, (L.map ro).flatMap eR) := by
  obtain ⟨zs, e, h⟩ := F29x_eq hL
  unfold F29
  rw [e]
  exact congrArg (fun z => some (L.length, z)) h
end Go.Kv
