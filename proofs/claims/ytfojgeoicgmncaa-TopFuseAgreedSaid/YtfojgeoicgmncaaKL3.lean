import Derived.Test.YtfojgeoicgmncaaKL2
import Derived.Test.YtfojgeoicgmncaaGE
namespace Go.Kv
set_option linter.unusedVariables false
set_option linter.unusedSimpArgs false
open Go Go.RowKit
set_option maxRecDepth 100000
theorem F49_eq {Q : List Fr} (hQ : Q.length ≤ 64) {a w : Nat} (hw : w ≤ 8) (ha : a ≤ min (a + w) Q.length) :
    F49 [.sl Q.length (Q.flatMap eF), vI (a : Int), vI (w : Int)] = some (min (a + w) Q.length - a, sq Q a (min (a + w) Q.length - a)) := by
  have hin : inI64 ((a : Int) + (w : Int)) := by unfold inI64; omega
  have d0 : dN (cel [DV.sl Q.length (Q.flatMap eF), vI (a : Int), vI (w : Int)] 0) = Q.length := rfl
  have d1 : dI (cel [DV.sl Q.length (Q.flatMap eF), vI (a : Int), vI (w : Int)] 1) = (a : Int) := rfl
  have d2 : dI (cel [DV.sl Q.length (Q.flatMap eF), vI (a : Int), vI (w : Int)] 2) = (w : Int) := rfl
  have d3 : dL (cel [DV.sl Q.length (Q.flatMap eF), vI (a : Int), vI (w : Int)] 0) = Q.flatMap eF := rfl
  unfold F49
  rw [res_eq]
  simp only [B49, d1, sem_ask, sem_triv, sem_nxt, PC.holds]
  rw [need_of (by simp), need_of (by rfl), stepO_nxt, res_eq]
  by_cases hlt : a < min (a + w) Q.length
  · have hi : a < Q.length := by omega
    have c : (a : Int) < if (a : Int) + (w : Int) < (Q.length : Int) then (a : Int) + (w : Int) else (Q.length : Int) := by split <;> omega
    have hin2 : inI64 ((a : Int) + 1) := by unfold inI64; omega
    have t := atF hi
    have tm : (a : Int).tmod 16 = (a : Int) % 16 := Int.tmod_eq_emod_of_nonneg (by omega)
    have ih := F49_c2 (a := a) hQ hw (min (a + w) Q.length - a - 1) 1 0 (by omega) (by omega)
    rw [sq_succ, show 1 + (min (a + w) Q.length - a - 1) = min (a + w) Q.length - a by omega] at ih
    simp only [B49, d0, d1, d2, d3, c, hin, hin2, tm, t.c0, t.c1, t.c2, t.c3, t.r1, t.r2, t.t, dN_eB, dL_eB, decide_true, if_true, Int.toNat_natCast, Int.natCast_nonneg, show (a : Int) < (Q.length : Int) by omega, sem_br, sem_ask, sem_triv, sem_nxt, PC.holds, need_true, stepO_nxt]
    rw [need_of (by simp), need_of (by rfl), need_of (by simp), need_of (by rfl), need_of (by simp), need_of (by rfl), need_of (by simp), need_of (by rfl)]
    simp only [stepO_nxt]
    exact ih
  · have c : ¬ ((a : Int) < if (a : Int) + (w : Int) < (Q.length : Int) then (a : Int) + (w : Int) else (Q.length : Int)) := by split <;> omega
    have e0 : min (a + w) Q.length - a = 0 := by omega
    simp only [B49, d0, d1, d2, d3, c, hin, decide_false, Bool.false_eq_true, if_false, sem_br, sem_ask, sem_triv, sem_ret, PC.holds, need_true, stepO_ret]
    rw [need_of (by simp), need_of (by rfl), need_of (by simp), need_of (by rfl), need_of (by simp), need_of (by rfl), e0]
    rfl
theorem F47_eq (t : Int) (n : Nat) (xs : List DV) (m : Int) (ht : 0 ≤ t) : F47 t n xs m = some (m == t % 16) := by
  have tm : t.tmod 16 = t % 16 := Int.tmod_eq_emod_of_nonneg ht
  unfold F47; rw [res_eq]
  simp only [B47, tm, sem_ask, sem_triv, sem_sees, sem_ret, PC.holds, need_true, stepO_ret]
theorem fr_snoc {Q : List Fr} {t : Nat} (h : t < Q.length) : (Q.take (t + 1)).flatMap eF = (Q.take t).flatMap eF ++ eF (Q.getD t f0) := fr_take_succ h
theorem F48_eq {Q : List Fr} (v : VFs Q) (hQ : Q.length ≤ 64) {t : Nat} (h : t < Q.length) : F48 (t : Int) t ((Q.take t).flatMap eF) (Q.getD t f0).1 (Q.getD t f0).2.1 (Q.getD t f0).2.2.1 (Q.getD t f0).2.2.2.length ((Q.getD t f0).2.2.2.map vB) =
    some (((t + 1 : Nat) : Int), t + 1, (Q.take (t + 1)).flatMap eF) := by
  have hlen : (Q.take t).length = t := by rw [List.length_take]; omega
  have e45 := F45f_eq (v.take t) (by omega)
  rw [hlen] at e45
  have hb := (v.get h).b
  have e40 := F40_eq (Q.getD t f0).1 (Q.getD t f0).2.1 (Q.getD t f0).2.2.1 (b := (Q.getD t f0).2.2.2) (by omega)
  have hf : fitsN (t + 1) 48 := by unfold fitsN; omega
  rw [fr_snoc h]
  unfold F48; rw [res_eq]
  simp only [B48, e45, e40, ownN, sem_br, sem_ask, sem_triv, sem_bind_some, sem_sees, sem_ret, PC.holds, need_true]
  by_cases h0 : t = 0
  · subst h0
    simp only [show Nat.beq 0 0 = true from rfl, if_true, need_true, stepO_ret]
    rfl
  · have hp : 0 < t := by omega
    simp only [nb hp, hp, hf, Bool.false_eq_true, if_false, need_true, stepO_ret]
    rfl
theorem F52_eq (n : Nat) (xs : List DV) {a w t : Nat} (h1 : a ≤ t) (h2 : t ≤ a + w) (h3 : t ≤ n) (hw : w ≤ 8) (hn : n ≤ 64) : F52 n xs (a : Int) (w : Int) ((t : Int).tmod 16) = some (t : Int) := by
  have tm : (t : Int).tmod 16 = (t : Int) % 16 := Int.tmod_eq_emod_of_nonneg (by omega)
  have am : (a : Int).tmod 16 = (a : Int) % 16 := Int.tmod_eq_emod_of_nonneg (by omega)
  have x : ((t : Int) % 16 - (a : Int) % 16 + 16).tmod 16 = ((t : Int) - (a : Int)) := by
    rw [Int.tmod_eq_emod_of_nonneg (by omega)]; omega
  have c : (t : Int) - (a : Int) ≤ if (n : Int) - (a : Int) < (w : Int) then (n : Int) - (a : Int) else (w : Int) := by split <;> omega
  have i1 : inI64 ((t : Int) % 16 - (a : Int) % 16) := by unfold inI64; omega
  have i2 : inI64 ((t : Int) % 16 - (a : Int) % 16 + 16) := by unfold inI64; omega
  have i3 : inI64 ((n : Int) - (a : Int)) := by unfold inI64; omega
  have i4 : inI64 ((a : Int) + ((t : Int) - (a : Int))) := by unfold inI64; omega
  unfold F52; rw [res_eq]
  simp only [B52, tm, am, x, c, i1, i2, i3, i4, decide_true, if_true, sem_br, sem_ask, sem_triv, sem_sees, sem_ret, PC.holds, need_true, stepO_ret]
  rw [show (a : Int) + ((t : Int) - (a : Int)) = (t : Int) by omega]
structure AtN (l : List DV) (i : Nat) (f : Fr) (m : Int) : Prop where
  c0 : dI (cel l (i * 5)) = f.1
  c1 : dI (cel l (i * 5 + 1)) = f.2.1
  c2 : dI (cel l (i * 5 + 2)) = f.2.2.1
  c3 : cel l (i * 5 + 3) = eB f.2.2.2
  c4 : dI (cel l (i * 5 + 4)) = m
  r1 : i * 5 ≤ l.length
  r2 : 5 ≤ (l.drop (i * 5)).length
  t : List.map AV.d (List.take 5 (List.drop (i * 5) l)) = [AV.d (DV.v (Value.int IntKind.i64 f.1)), AV.d (DV.v (Value.int IntKind.i64 f.2.1)), AV.d (DV.v (Value.int IntKind.i64 f.2.2.1)), AV.d (DV.sl f.2.2.2.length (f.2.2.2.map vB)), AV.d (DV.v (Value.int IntKind.i64 m))]
theorem atN {Q : List Fr} {a k i : Nat} (hi : i < k) : AtN (sq Q a k) i (Q.getD (a + i) f0) (((a + i : Nat) : Int) % 16) := by
  have hl : i < (List.range k).length := by rw [List.length_range]; exact hi
  let enc : Nat → List DV := fun i => eF (Q.getD (a + i) f0) ++ [vI (((a + i : Nat) : Int) % 16)]
  have el : ∀ x, (enc x).length = 5 := fun _ => rfl
  have hk (j : Nat) (h : j < 5) := fm_cel (enc := enc) el hl h
  obtain ⟨q1, q2⟩ := fm_room (enc := enc) el hl
  have at5 := fm_at (enc := enc) el hl
  rw [List.getElem_range] at at5
  refine ⟨?_, ?_, ?_, ?_, ?_, q1, q2, ?_⟩
  · have := hk 0 (by decide)
    rw [Nat.add_zero, List.getElem_range] at this
    show dI (cel ((List.range k).flatMap enc) (i * 5)) = _
    rw [this]; rfl
  · have := hk 1 (by decide)
    rw [List.getElem_range] at this
    show dI (cel ((List.range k).flatMap enc) (i * 5 + 1)) = _
    rw [this]; rfl
  · have := hk 2 (by decide)
    rw [List.getElem_range] at this
    show dI (cel ((List.range k).flatMap enc) (i * 5 + 2)) = _
    rw [this]; rfl
  · have := hk 3 (by decide)
    rw [List.getElem_range] at this
    show cel ((List.range k).flatMap enc) (i * 5 + 3) = _
    rw [this]; rfl
  · have := hk 4 (by decide)
    rw [List.getElem_range] at this
    show dI (cel ((List.range k).flatMap enc) (i * 5 + 4)) = _
    rw [this]; rfl
  · show List.map AV.d (List.take 5 (List.drop (i * 5) ((List.range k).flatMap enc))) = _
    rw [at5]; rfl
structure QL (Q : List Fr) (L : List Rd) : Prop where
  v : VFs Q
  l : 1 ≤ Q.length ∧ Q.length ≤ 4
  r : VRs L
def tk (a i t : Nat) (r : Rd) : Nat := if ((i : Nat) : Int) ∈ r.1 then t else if a + i = t then t + 1 else t
def tks (a : Nat) (r : Rd) : Nat → Nat → Nat → Nat
  | 0, _, t => t
  | k + 1, i, t => tks a r k (i + 1) (tk a i t r)
theorem tk_bd (a i t : Nat) (r : Rd) : t ≤ tk a i t r ∧ (tk a i t r = t ∨ tk a i t r = a + i + 1) := by
  unfold tk; split
  · omega
  · split <;> omega
theorem tks_bd {a : Nat} {r : Rd} : ∀ (k i t : Nat), t ≤ tks a r k i t ∧ (tks a r k i t = t ∨ tks a r k i t ≤ a + i + k)
  | 0, i, t => by unfold tks; omega
  | k + 1, i, t => by
    unfold tks
    have h1 := tk_bd a i t r
    have h2 := tks_bd (a := a) (r := r) k (i + 1) (tk a i t r)
    omega
section
variable {Q : List Fr} {L : List Rd}
theorem QL.len (q : QL Q L) {t : Nat} (h : t ≤ Q.length) : (Q.take t).length = t := by rw [List.length_take]; omega
abbrev fr (Q : List Fr) (t : Nat) : List DV := (Q.take t).flatMap eF
theorem eqm {a i t : Nat} (h1 : a ≤ 4) (h2 : i ≤ 4) (h3 : t ≤ 4) (h4 : a + i ≤ 4) : (((a + i : Nat) : Int) % 16 == (t : Int) % 16) = decide (a + i = t) := by
  by_cases h : a + i = t
  · subst h; simp
  · have : ¬ (((a + i : Nat) : Int) % 16 = (t : Int) % 16) := by omega
    rw [beq_eq_false_iff_ne.2 this]; simp [h]
theorem in11 (q : QL Q L) {a j : Nat} {r : Rd} (vr : VR r) (hj : j ≤ 64) : ∀ (k i t : Nat), Q.length - a = i + k → a ≤ t → t ≤ Q.length → ∃ a' t' : Nat, (t' = tks a r k i t ∧ (a' = a ∨ a' = t') ∧ (r.2.2 = false → a' = t')) ∧ (res B28 (.c11 L.length (L.flatMap eR) (L.length : Int) ((j : Nat) : Int) (Q.length - a) (sq Q a (Q.length - a)) ((((Q.length - a) : Nat)) : Int) ((i : Nat) : Int) Q.length (Q.flatMap eF) ((a : Nat) : Int) 4 ((t : Nat) : Int) t (fr Q t) r.1.length (r.1.map vI) r.2.1.length (r.2.1.map vI) r.2.2) = res B28 (.c15 L.length (L.flatMap eR) (L.length : Int) (((j + 1) : Nat) : Int) Q.length (Q.flatMap eF) ((a' : Nat) : Int) 4 ((t' : Nat) : Int) t' (fr Q t')))
  | 0, i, t, hk, h1, h2 => by
    obtain rfl : i = Q.length - a := by omega
    have hq := q.l
    have c : ¬ (((Q.length - a : Nat) : Int) < ((Q.length - a : Nat) : Int)) := by omega
    have hin : inI64 ((j : Int) + 1) := by unfold inI64; omega
    have e52 : F52 Q.length (Q.flatMap eF) (a : Int) 4 ((t : Int).tmod 16) = some (t : Int) := F52_eq Q.length (Q.flatMap eF) (w := 4) h1 (by omega) h2 (by omega) (by omega)
    cases hd : r.2.2 with
    | false =>
      refine ⟨t, t, ⟨rfl, .inr rfl, fun _ => rfl⟩, ?_⟩
      rw [res_eq]
      simp only [B28, c, hd, decide_false, Bool.false_eq_true, if_false, Bool.not_false, if_true, e52, hin, sem_br, sem_ask, sem_triv, sem_bind_some, sem_sees, sem_nxt, PC.holds, need_true, stepO_nxt]
      rfl
    | true =>
      refine ⟨a, t, ⟨rfl, .inl rfl, fun h => by cases h⟩, ?_⟩
      rw [res_eq]
      simp only [B28, c, hd, decide_false, Bool.false_eq_true, if_false, Bool.not_true, hin, sem_br, sem_ask, sem_triv, sem_bind_some, sem_sees, sem_nxt, PC.holds, need_true, stepO_nxt]
      rfl
  | k + 1, i, t, hk, h1, h2 => by
    have hq := q.l
    have hi : i < Q.length - a := by omega
    have hai : a + i < Q.length := by omega
    have c : ((i : Nat) : Int) < ((Q.length - a : Nat) : Int) := by omega
    have hin : inI64 ((i : Int) + 1) := by unfold inI64; omega
    have at5 := atN (Q := Q) (a := a) hi
    have e51 := F51_eq r.1 (i : Int) (by have := vr.1.1; omega)
    have e51d := F51_eq r.2.1 (i : Int) (by have := vr.2.1; omega)
    have em := eqm (a := a) (i := i) (t := t) (by omega) (by omega) (by omega) (by omega)
    have e47 := F47_eq (t : Int) t (fr Q t) (((a + i : Nat) : Int) % 16) (by omega)
    rw [em] at e47
    by_cases hlost : ((i : Nat) : Int) ∈ r.1
    · have etk : tk a i t r = t := by unfold tk; rw [if_pos hlost]
      have ih := in11 q (a := a) vr hj k (i + 1) t (by omega) h1 h2
      unfold tks
      rw [etk]
      have step : res B28 (.c11 L.length (L.flatMap eR) (L.length : Int) ((j : Nat) : Int) (Q.length - a) (sq Q a (Q.length - a)) ((((Q.length - a) : Nat)) : Int) ((i : Nat) : Int) Q.length (Q.flatMap eF) ((a : Nat) : Int) 4 ((t : Nat) : Int) t (fr Q t) r.1.length (r.1.map vI) r.2.1.length (r.2.1.map vI) r.2.2) = res B28 (.c11 L.length (L.flatMap eR) (L.length : Int) ((j : Nat) : Int) (Q.length - a) (sq Q a (Q.length - a)) ((((Q.length - a) : Nat)) : Int) (((i + 1) : Nat) : Int) Q.length (Q.flatMap eF) ((a : Nat) : Int) 4 ((t : Nat) : Int) t (fr Q t) r.1.length (r.1.map vI) r.2.1.length (r.2.1.map vI) r.2.2) := by
        rw [res_eq]
        simp only [B28, c, at5.c0, at5.c1, at5.c2, at5.c3, at5.c4, at5.r1, at5.r2, at5.t, dN_eB, dL_eB, e51, hlost, decide_true, if_true, Int.toNat_natCast, Int.natCast_nonneg, hin, sem_br, sem_ask, sem_triv, sem_bind_some, sem_sees, sem_nxt, PC.holds, need_true, stepO_nxt]
        rfl
      rw [step]
      exact ih
    · by_cases htake : a + i = t
      · have etk : tk a i t r = t + 1 := by unfold tk; rw [if_neg hlost, if_pos htake]
        have e48 := F48_eq q.v (by omega) (t := t) (by omega)
        have em2 := eqm (a := a) (i := i) (t := t + 1) (by omega) (by omega) (by omega) (by omega)
        have e47b := F47_eq ((t + 1 : Nat) : Int) (t + 1) (fr Q (t + 1)) (((a + i : Nat) : Int) % 16) (by omega)
        rw [em2] at e47b
        have hne : decide (a + i = t + 1) = false := by simp; omega
        rw [hne] at e47b
        have htake' : decide (a + i = t) = true := decide_eq_true htake
        rw [htake'] at e47
        have ih := in11 q (a := a) vr hj k (i + 1) (t + 1) (by omega) (by omega) (by omega)
        unfold tks
        rw [etk]
        have hget : Q.getD (a + i) f0 = Q.getD t f0 := by rw [htake]
        have step : res B28 (.c11 L.length (L.flatMap eR) (L.length : Int) ((j : Nat) : Int) (Q.length - a) (sq Q a (Q.length - a)) ((((Q.length - a) : Nat)) : Int) ((i : Nat) : Int) Q.length (Q.flatMap eF) ((a : Nat) : Int) 4 ((t : Nat) : Int) t (fr Q t) r.1.length (r.1.map vI) r.2.1.length (r.2.1.map vI) r.2.2) = res B28 (.c11 L.length (L.flatMap eR) (L.length : Int) ((j : Nat) : Int) (Q.length - a) (sq Q a (Q.length - a)) ((((Q.length - a) : Nat)) : Int) (((i + 1) : Nat) : Int) Q.length (Q.flatMap eF) ((a : Nat) : Int) 4 (((t + 1) : Nat) : Int) (t + 1) (fr Q (t + 1)) r.1.length (r.1.map vI) r.2.1.length (r.2.1.map vI) r.2.2) := by
          rw [res_eq]
          simp only [B28, c, at5.c0, at5.c1, at5.c2, at5.c3, at5.c4, at5.r1, at5.r2, at5.t, hget, dN_eB, dL_eB, e51, hlost, decide_true, decide_false, if_true, Bool.false_eq_true, if_false, Int.toNat_natCast, Int.natCast_nonneg, hin, sem_br, sem_ask, sem_triv, sem_bind, sem_sees, sem_nxt, PC.holds, need_true]
          rw [hget] at *
          erw [e47]
          simp only [if_true, sem_br, sem_ask, sem_triv, sem_bind, sem_sees, sem_nxt, PC.holds, need_true]
          erw [e48]
          simp only [e51d, sem_br, sem_ask, sem_triv, sem_bind, sem_sees, sem_nxt, PC.holds, need_true]
          erw [e47b]
          by_cases hd : ((i : Nat) : Int) ∈ r.2.1
          · simp only [hd, decide_true, if_true, Bool.false_eq_true, if_false, hin, sem_br, sem_ask, sem_triv, sem_bind, sem_sees, sem_nxt, PC.holds, need_true, stepO_nxt]
            rfl
          · simp only [hd, decide_false, if_true, Bool.false_eq_true, if_false, hin, sem_br, sem_ask, sem_triv, sem_bind, sem_sees, sem_nxt, PC.holds, need_true, stepO_nxt]
            rfl
        rw [step]
        obtain ⟨a', t', x1, x2⟩ := ih
        exact ⟨a', t', x1, x2⟩
      · have etk : tk a i t r = t := by unfold tk; rw [if_neg hlost, if_neg htake]
        have htake' : decide (a + i = t) = false := decide_eq_false htake
        rw [htake'] at e47
        have ih := in11 q (a := a) vr hj k (i + 1) t (by omega) h1 h2
        unfold tks
        rw [etk]
        have step : res B28 (.c11 L.length (L.flatMap eR) (L.length : Int) ((j : Nat) : Int) (Q.length - a) (sq Q a (Q.length - a)) ((((Q.length - a) : Nat)) : Int) ((i : Nat) : Int) Q.length (Q.flatMap eF) ((a : Nat) : Int) 4 ((t : Nat) : Int) t (fr Q t) r.1.length (r.1.map vI) r.2.1.length (r.2.1.map vI) r.2.2) = res B28 (.c11 L.length (L.flatMap eR) (L.length : Int) ((j : Nat) : Int) (Q.length - a) (sq Q a (Q.length - a)) ((((Q.length - a) : Nat)) : Int) (((i + 1) : Nat) : Int) Q.length (Q.flatMap eF) ((a : Nat) : Int) 4 ((t : Nat) : Int) t (fr Q t) r.1.length (r.1.map vI) r.2.1.length (r.2.1.map vI) r.2.2) := by
          rw [res_eq]
          simp only [B28, c, at5.c0, at5.c1, at5.c2, at5.c3, at5.c4, at5.r1, at5.r2, at5.t, dN_eB, dL_eB, e51, hlost, decide_true, decide_false, if_true, Bool.false_eq_true, if_false, Int.toNat_natCast, Int.natCast_nonneg, hin, sem_br, sem_ask, sem_triv, sem_bind, sem_sees, sem_nxt, PC.holds, need_true]
          erw [e47]
          simp only [e51d, Bool.false_eq_true, if_false, sem_br, sem_ask, sem_triv, sem_bind, sem_sees, sem_nxt, PC.holds, need_true]
          by_cases hd : ((i : Nat) : Int) ∈ r.2.1
          · simp only [hd, decide_true, if_true, Bool.false_eq_true, if_false, hin, sem_br, sem_ask, sem_triv, sem_bind, sem_sees, sem_nxt, PC.holds, need_true, stepO_nxt]
            rfl
          · simp only [hd, decide_false, if_true, Bool.false_eq_true, if_false, hin, sem_br, sem_ask, sem_triv, sem_bind, sem_sees, sem_nxt, PC.holds, need_true, stepO_nxt]
            rfl
        rw [step]
        exact ih
theorem in12 (q : QL Q L) {a j : Nat} {r : Rd} (vr : VR r) (hj : j ≤ 64) : ∀ (k i t : Nat), Q.length - a = i + k → a ≤ t → t ≤ Q.length → ∃ a' t' : Nat, (t' = tks a r k i t ∧ (a' = a ∨ a' = t') ∧ (r.2.2 = false → a' = t')) ∧ (res B28 (.c12 L.length (L.flatMap eR) (L.length : Int) ((j : Nat) : Int) (Q.length - a) (sq Q a (Q.length - a)) ((((Q.length - a) : Nat)) : Int) ((i : Nat) : Int) Q.length (Q.flatMap eF) ((a : Nat) : Int) 4 ((t : Nat) : Int) t (fr Q t) r.1.length (r.1.map vI) r.2.1.length (r.2.1.map vI) r.2.2) = res B28 (.c16 L.length (L.flatMap eR) (L.length : Int) (((j + 1) : Nat) : Int) Q.length (Q.flatMap eF) ((a' : Nat) : Int) 4 ((t' : Nat) : Int) t' (fr Q t')))
  | 0, i, t, hk, h1, h2 => by
    obtain rfl : i = Q.length - a := by omega
    have hq := q.l
    have c : ¬ (((Q.length - a : Nat) : Int) < ((Q.length - a : Nat) : Int)) := by omega
    have hin : inI64 ((j : Int) + 1) := by unfold inI64; omega
    have e52 : F52 Q.length (Q.flatMap eF) (a : Int) 4 ((t : Int).tmod 16) = some (t : Int) := F52_eq Q.length (Q.flatMap eF) (w := 4) h1 (by omega) h2 (by omega) (by omega)
    cases hd : r.2.2 with
    | false =>
      refine ⟨t, t, ⟨rfl, .inr rfl, fun _ => rfl⟩, ?_⟩
      rw [res_eq]
      simp only [B28, c, hd, decide_false, Bool.false_eq_true, if_false, Bool.not_false, if_true, e52, hin, sem_br, sem_ask, sem_triv, sem_bind_some, sem_sees, sem_nxt, PC.holds, need_true, stepO_nxt]
      rfl
    | true =>
      refine ⟨a, t, ⟨rfl, .inl rfl, fun h => by cases h⟩, ?_⟩
      rw [res_eq]
      simp only [B28, c, hd, decide_false, Bool.false_eq_true, if_false, Bool.not_true, hin, sem_br, sem_ask, sem_triv, sem_bind_some, sem_sees, sem_nxt, PC.holds, need_true, stepO_nxt]
      rfl
  | k + 1, i, t, hk, h1, h2 => by
    have hq := q.l
    have hi : i < Q.length - a := by omega
    have hai : a + i < Q.length := by omega
    have c : ((i : Nat) : Int) < ((Q.length - a : Nat) : Int) := by omega
    have hin : inI64 ((i : Int) + 1) := by unfold inI64; omega
    have at5 := atN (Q := Q) (a := a) hi
    have e51 := F51_eq r.1 (i : Int) (by have := vr.1.1; omega)
    have e51d := F51_eq r.2.1 (i : Int) (by have := vr.2.1; omega)
    have em := eqm (a := a) (i := i) (t := t) (by omega) (by omega) (by omega) (by omega)
    have e47 := F47_eq (t : Int) t (fr Q t) (((a + i : Nat) : Int) % 16) (by omega)
    rw [em] at e47
    by_cases hlost : ((i : Nat) : Int) ∈ r.1
    · have etk : tk a i t r = t := by unfold tk; rw [if_pos hlost]
      have ih := in12 q (a := a) vr hj k (i + 1) t (by omega) h1 h2
      unfold tks
      rw [etk]
      have step : res B28 (.c12 L.length (L.flatMap eR) (L.length : Int) ((j : Nat) : Int) (Q.length - a) (sq Q a (Q.length - a)) ((((Q.length - a) : Nat)) : Int) ((i : Nat) : Int) Q.length (Q.flatMap eF) ((a : Nat) : Int) 4 ((t : Nat) : Int) t (fr Q t) r.1.length (r.1.map vI) r.2.1.length (r.2.1.map vI) r.2.2) = res B28 (.c12 L.length (L.flatMap eR) (L.length : Int) ((j : Nat) : Int) (Q.length - a) (sq Q a (Q.length - a)) ((((Q.length - a) : Nat)) : Int) (((i + 1) : Nat) : Int) Q.length (Q.flatMap eF) ((a : Nat) : Int) 4 ((t : Nat) : Int) t (fr Q t) r.1.length (r.1.map vI) r.2.1.length (r.2.1.map vI) r.2.2) := by
        rw [res_eq]
        simp only [B28, c, at5.c0, at5.c1, at5.c2, at5.c3, at5.c4, at5.r1, at5.r2, at5.t, dN_eB, dL_eB, e51, hlost, decide_true, if_true, Int.toNat_natCast, Int.natCast_nonneg, hin, sem_br, sem_ask, sem_triv, sem_bind_some, sem_sees, sem_nxt, PC.holds, need_true, stepO_nxt]
        rfl
      rw [step]
      exact ih
    · by_cases htake : a + i = t
      · have etk : tk a i t r = t + 1 := by unfold tk; rw [if_neg hlost, if_pos htake]
        have e48 := F48_eq q.v (by omega) (t := t) (by omega)
        have em2 := eqm (a := a) (i := i) (t := t + 1) (by omega) (by omega) (by omega) (by omega)
        have e47b := F47_eq ((t + 1 : Nat) : Int) (t + 1) (fr Q (t + 1)) (((a + i : Nat) : Int) % 16) (by omega)
        rw [em2] at e47b
        have hne : decide (a + i = t + 1) = false := by simp; omega
        rw [hne] at e47b
        have htake' : decide (a + i = t) = true := decide_eq_true htake
        rw [htake'] at e47
        have ih := in12 q (a := a) vr hj k (i + 1) (t + 1) (by omega) (by omega) (by omega)
        unfold tks
        rw [etk]
        have hget : Q.getD (a + i) f0 = Q.getD t f0 := by rw [htake]
        have step : res B28 (.c12 L.length (L.flatMap eR) (L.length : Int) ((j : Nat) : Int) (Q.length - a) (sq Q a (Q.length - a)) ((((Q.length - a) : Nat)) : Int) ((i : Nat) : Int) Q.length (Q.flatMap eF) ((a : Nat) : Int) 4 ((t : Nat) : Int) t (fr Q t) r.1.length (r.1.map vI) r.2.1.length (r.2.1.map vI) r.2.2) = res B28 (.c12 L.length (L.flatMap eR) (L.length : Int) ((j : Nat) : Int) (Q.length - a) (sq Q a (Q.length - a)) ((((Q.length - a) : Nat)) : Int) (((i + 1) : Nat) : Int) Q.length (Q.flatMap eF) ((a : Nat) : Int) 4 (((t + 1) : Nat) : Int) (t + 1) (fr Q (t + 1)) r.1.length (r.1.map vI) r.2.1.length (r.2.1.map vI) r.2.2) := by
          rw [res_eq]
          simp only [B28, c, at5.c0, at5.c1, at5.c2, at5.c3, at5.c4, at5.r1, at5.r2, at5.t, hget, dN_eB, dL_eB, e51, hlost, decide_true, decide_false, if_true, Bool.false_eq_true, if_false, Int.toNat_natCast, Int.natCast_nonneg, hin, sem_br, sem_ask, sem_triv, sem_bind, sem_sees, sem_nxt, PC.holds, need_true]
          rw [hget] at *
          erw [e47]
          simp only [if_true, sem_br, sem_ask, sem_triv, sem_bind, sem_sees, sem_nxt, PC.holds, need_true]
          erw [e48]
          simp only [e51d, sem_br, sem_ask, sem_triv, sem_bind, sem_sees, sem_nxt, PC.holds, need_true]
          erw [e47b]
          by_cases hd : ((i : Nat) : Int) ∈ r.2.1
          · simp only [hd, decide_true, if_true, Bool.false_eq_true, if_false, hin, sem_br, sem_ask, sem_triv, sem_bind, sem_sees, sem_nxt, PC.holds, need_true, stepO_nxt]
            rfl
          · simp only [hd, decide_false, if_true, Bool.false_eq_true, if_false, hin, sem_br, sem_ask, sem_triv, sem_bind, sem_sees, sem_nxt, PC.holds, need_true, stepO_nxt]
            rfl
        rw [step]
        obtain ⟨a', t', x1, x2⟩ := ih
        exact ⟨a', t', x1, x2⟩
      · have etk : tk a i t r = t := by unfold tk; rw [if_neg hlost, if_neg htake]
        have htake' : decide (a + i = t) = false := decide_eq_false htake
        rw [htake'] at e47
        have ih := in12 q (a := a) vr hj k (i + 1) t (by omega) h1 h2
        unfold tks
        rw [etk]
        have step : res B28 (.c12 L.length (L.flatMap eR) (L.length : Int) ((j : Nat) : Int) (Q.length - a) (sq Q a (Q.length - a)) ((((Q.length - a) : Nat)) : Int) ((i : Nat) : Int) Q.length (Q.flatMap eF) ((a : Nat) : Int) 4 ((t : Nat) : Int) t (fr Q t) r.1.length (r.1.map vI) r.2.1.length (r.2.1.map vI) r.2.2) = res B28 (.c12 L.length (L.flatMap eR) (L.length : Int) ((j : Nat) : Int) (Q.length - a) (sq Q a (Q.length - a)) ((((Q.length - a) : Nat)) : Int) (((i + 1) : Nat) : Int) Q.length (Q.flatMap eF) ((a : Nat) : Int) 4 ((t : Nat) : Int) t (fr Q t) r.1.length (r.1.map vI) r.2.1.length (r.2.1.map vI) r.2.2) := by
          rw [res_eq]
          simp only [B28, c, at5.c0, at5.c1, at5.c2, at5.c3, at5.c4, at5.r1, at5.r2, at5.t, dN_eB, dL_eB, e51, hlost, decide_true, decide_false, if_true, Bool.false_eq_true, if_false, Int.toNat_natCast, Int.natCast_nonneg, hin, sem_br, sem_ask, sem_triv, sem_bind, sem_sees, sem_nxt, PC.holds, need_true]
          erw [e47]
          simp only [e51d, Bool.false_eq_true, if_false, sem_br, sem_ask, sem_triv, sem_bind, sem_sees, sem_nxt, PC.holds, need_true]
          by_cases hd : ((i : Nat) : Int) ∈ r.2.1
          · simp only [hd, decide_true, if_true, Bool.false_eq_true, if_false, hin, sem_br, sem_ask, sem_triv, sem_bind, sem_sees, sem_nxt, PC.holds, need_true, stepO_nxt]
            rfl
          · simp only [hd, decide_false, if_true, Bool.false_eq_true, if_false, hin, sem_br, sem_ask, sem_triv, sem_bind, sem_sees, sem_nxt, PC.holds, need_true, stepO_nxt]
            rfl
        rw [step]
        exact ih
theorem in8 (q : QL Q L) {a j : Nat} {r : Rd} (vr : VR r) (hj : j ≤ 64) : ∀ (k i t : Nat), Q.length - a = i + k → a ≤ t → t ≤ Q.length → ∃ a' t' : Nat, (t' = tks a r k i t ∧ (a' = a ∨ a' = t') ∧ (r.2.2 = false → a' = t')) ∧ (res B28 (.c8 L.length (L.flatMap eR) (L.length : Int) ((j : Nat) : Int) (Q.length - a) (sq Q a (Q.length - a)) ((((Q.length - a) : Nat)) : Int) ((i : Nat) : Int) Q.length (Q.flatMap eF) ((a : Nat) : Int) 4 ((t : Nat) : Int) t (fr Q t) r.1.length (r.1.map vI) r.2.1.length (r.2.1.map vI) r.2.2) = res B28 (.c16 L.length (L.flatMap eR) (L.length : Int) (((j + 1) : Nat) : Int) Q.length (Q.flatMap eF) ((a' : Nat) : Int) 4 ((t' : Nat) : Int) t' (fr Q t')) ∨ (t' = t ∧ res B28 (.c8 L.length (L.flatMap eR) (L.length : Int) ((j : Nat) : Int) (Q.length - a) (sq Q a (Q.length - a)) ((((Q.length - a) : Nat)) : Int) ((i : Nat) : Int) Q.length (Q.flatMap eF) ((a : Nat) : Int) 4 ((t : Nat) : Int) t (fr Q t) r.1.length (r.1.map vI) r.2.1.length (r.2.1.map vI) r.2.2) = res B28 (.c4 L.length (L.flatMap eR) (L.length : Int) (((j + 1) : Nat) : Int) Q.length (Q.flatMap eF) ((a' : Nat) : Int) 4 ((t' : Nat) : Int) t' (fr Q t'))))
  | 0, i, t, hk, h1, h2 => by
    obtain rfl : i = Q.length - a := by omega
    have hq := q.l
    have c : ¬ (((Q.length - a : Nat) : Int) < ((Q.length - a : Nat) : Int)) := by omega
    have hin : inI64 ((j : Int) + 1) := by unfold inI64; omega
    have e52 : F52 Q.length (Q.flatMap eF) (a : Int) 4 ((t : Int).tmod 16) = some (t : Int) := F52_eq Q.length (Q.flatMap eF) (w := 4) h1 (by omega) h2 (by omega) (by omega)
    cases hd : r.2.2 with
    | false =>
      refine ⟨t, t, ⟨rfl, .inr rfl, fun _ => rfl⟩, ?_⟩
      refine .inr ⟨rfl, ?_⟩
      rw [res_eq]
      simp only [B28, c, hd, decide_false, Bool.false_eq_true, if_false, Bool.not_false, if_true, e52, hin, sem_br, sem_ask, sem_triv, sem_bind_some, sem_sees, sem_nxt, PC.holds, need_true, stepO_nxt]
      rfl
    | true =>
      refine ⟨a, t, ⟨rfl, .inl rfl, fun h => by cases h⟩, ?_⟩
      refine .inr ⟨rfl, ?_⟩
      rw [res_eq]
      simp only [B28, c, hd, decide_false, Bool.false_eq_true, if_false, Bool.not_true, hin, sem_br, sem_ask, sem_triv, sem_bind_some, sem_sees, sem_nxt, PC.holds, need_true, stepO_nxt]
      rfl
  | k + 1, i, t, hk, h1, h2 => by
    have hq := q.l
    have hi : i < Q.length - a := by omega
    have hai : a + i < Q.length := by omega
    have c : ((i : Nat) : Int) < ((Q.length - a : Nat) : Int) := by omega
    have hin : inI64 ((i : Int) + 1) := by unfold inI64; omega
    have at5 := atN (Q := Q) (a := a) hi
    have e51 := F51_eq r.1 (i : Int) (by have := vr.1.1; omega)
    have e51d := F51_eq r.2.1 (i : Int) (by have := vr.2.1; omega)
    have em := eqm (a := a) (i := i) (t := t) (by omega) (by omega) (by omega) (by omega)
    have e47 := F47_eq (t : Int) t (fr Q t) (((a + i : Nat) : Int) % 16) (by omega)
    rw [em] at e47
    by_cases hlost : ((i : Nat) : Int) ∈ r.1
    · have etk : tk a i t r = t := by unfold tk; rw [if_pos hlost]
      have ih := in8 q (a := a) vr hj k (i + 1) t (by omega) h1 h2
      unfold tks
      rw [etk]
      have step : res B28 (.c8 L.length (L.flatMap eR) (L.length : Int) ((j : Nat) : Int) (Q.length - a) (sq Q a (Q.length - a)) ((((Q.length - a) : Nat)) : Int) ((i : Nat) : Int) Q.length (Q.flatMap eF) ((a : Nat) : Int) 4 ((t : Nat) : Int) t (fr Q t) r.1.length (r.1.map vI) r.2.1.length (r.2.1.map vI) r.2.2) = res B28 (.c8 L.length (L.flatMap eR) (L.length : Int) ((j : Nat) : Int) (Q.length - a) (sq Q a (Q.length - a)) ((((Q.length - a) : Nat)) : Int) (((i + 1) : Nat) : Int) Q.length (Q.flatMap eF) ((a : Nat) : Int) 4 ((t : Nat) : Int) t (fr Q t) r.1.length (r.1.map vI) r.2.1.length (r.2.1.map vI) r.2.2) := by
        rw [res_eq]
        simp only [B28, c, at5.c0, at5.c1, at5.c2, at5.c3, at5.c4, at5.r1, at5.r2, at5.t, dN_eB, dL_eB, e51, hlost, decide_true, if_true, Int.toNat_natCast, Int.natCast_nonneg, hin, sem_br, sem_ask, sem_triv, sem_bind_some, sem_sees, sem_nxt, PC.holds, need_true, stepO_nxt]
        rfl
      rw [step]
      exact ih
    · by_cases htake : a + i = t
      · have etk : tk a i t r = t + 1 := by unfold tk; rw [if_neg hlost, if_pos htake]
        have e48 := F48_eq q.v (by omega) (t := t) (by omega)
        have em2 := eqm (a := a) (i := i) (t := t + 1) (by omega) (by omega) (by omega) (by omega)
        have e47b := F47_eq ((t + 1 : Nat) : Int) (t + 1) (fr Q (t + 1)) (((a + i : Nat) : Int) % 16) (by omega)
        rw [em2] at e47b
        have hne : decide (a + i = t + 1) = false := by simp; omega
        rw [hne] at e47b
        have htake' : decide (a + i = t) = true := decide_eq_true htake
        rw [htake'] at e47
        have ih := in12 q (a := a) vr hj k (i + 1) (t + 1) (by omega) (by omega) (by omega)
        unfold tks
        rw [etk]
        have hget : Q.getD (a + i) f0 = Q.getD t f0 := by rw [htake]
        have step : res B28 (.c8 L.length (L.flatMap eR) (L.length : Int) ((j : Nat) : Int) (Q.length - a) (sq Q a (Q.length - a)) ((((Q.length - a) : Nat)) : Int) ((i : Nat) : Int) Q.length (Q.flatMap eF) ((a : Nat) : Int) 4 ((t : Nat) : Int) t (fr Q t) r.1.length (r.1.map vI) r.2.1.length (r.2.1.map vI) r.2.2) = res B28 (.c12 L.length (L.flatMap eR) (L.length : Int) ((j : Nat) : Int) (Q.length - a) (sq Q a (Q.length - a)) ((((Q.length - a) : Nat)) : Int) (((i + 1) : Nat) : Int) Q.length (Q.flatMap eF) ((a : Nat) : Int) 4 (((t + 1) : Nat) : Int) (t + 1) (fr Q (t + 1)) r.1.length (r.1.map vI) r.2.1.length (r.2.1.map vI) r.2.2) := by
          rw [res_eq]
          simp only [B28, c, at5.c0, at5.c1, at5.c2, at5.c3, at5.c4, at5.r1, at5.r2, at5.t, hget, dN_eB, dL_eB, e51, hlost, decide_true, decide_false, if_true, Bool.false_eq_true, if_false, Int.toNat_natCast, Int.natCast_nonneg, hin, sem_br, sem_ask, sem_triv, sem_bind, sem_sees, sem_nxt, PC.holds, need_true]
          rw [hget] at *
          erw [e47]
          simp only [if_true, sem_br, sem_ask, sem_triv, sem_bind, sem_sees, sem_nxt, PC.holds, need_true]
          erw [e48]
          simp only [e51d, sem_br, sem_ask, sem_triv, sem_bind, sem_sees, sem_nxt, PC.holds, need_true]
          erw [e47b]
          by_cases hd : ((i : Nat) : Int) ∈ r.2.1
          · simp only [hd, decide_true, if_true, Bool.false_eq_true, if_false, hin, sem_br, sem_ask, sem_triv, sem_bind, sem_sees, sem_nxt, PC.holds, need_true, stepO_nxt]
            rfl
          · simp only [hd, decide_false, if_true, Bool.false_eq_true, if_false, hin, sem_br, sem_ask, sem_triv, sem_bind, sem_sees, sem_nxt, PC.holds, need_true, stepO_nxt]
            rfl
        rw [step]
        obtain ⟨a', t', x1, x2⟩ := ih
        exact ⟨a', t', x1, .inl x2⟩
      · have etk : tk a i t r = t := by unfold tk; rw [if_neg hlost, if_neg htake]
        have htake' : decide (a + i = t) = false := decide_eq_false htake
        rw [htake'] at e47
        have ih := in8 q (a := a) vr hj k (i + 1) t (by omega) h1 h2
        unfold tks
        rw [etk]
        have step : res B28 (.c8 L.length (L.flatMap eR) (L.length : Int) ((j : Nat) : Int) (Q.length - a) (sq Q a (Q.length - a)) ((((Q.length - a) : Nat)) : Int) ((i : Nat) : Int) Q.length (Q.flatMap eF) ((a : Nat) : Int) 4 ((t : Nat) : Int) t (fr Q t) r.1.length (r.1.map vI) r.2.1.length (r.2.1.map vI) r.2.2) = res B28 (.c8 L.length (L.flatMap eR) (L.length : Int) ((j : Nat) : Int) (Q.length - a) (sq Q a (Q.length - a)) ((((Q.length - a) : Nat)) : Int) (((i + 1) : Nat) : Int) Q.length (Q.flatMap eF) ((a : Nat) : Int) 4 ((t : Nat) : Int) t (fr Q t) r.1.length (r.1.map vI) r.2.1.length (r.2.1.map vI) r.2.2) := by
          rw [res_eq]
          simp only [B28, c, at5.c0, at5.c1, at5.c2, at5.c3, at5.c4, at5.r1, at5.r2, at5.t, dN_eB, dL_eB, e51, hlost, decide_true, decide_false, if_true, Bool.false_eq_true, if_false, Int.toNat_natCast, Int.natCast_nonneg, hin, sem_br, sem_ask, sem_triv, sem_bind, sem_sees, sem_nxt, PC.holds, need_true]
          erw [e47]
          simp only [e51d, Bool.false_eq_true, if_false, sem_br, sem_ask, sem_triv, sem_bind, sem_sees, sem_nxt, PC.holds, need_true]
          by_cases hd : ((i : Nat) : Int) ∈ r.2.1
          · simp only [hd, decide_true, if_true, Bool.false_eq_true, if_false, hin, sem_br, sem_ask, sem_triv, sem_bind, sem_sees, sem_nxt, PC.holds, need_true, stepO_nxt]
            rfl
          · simp only [hd, decide_false, if_true, Bool.false_eq_true, if_false, hin, sem_br, sem_ask, sem_triv, sem_bind, sem_sees, sem_nxt, PC.holds, need_true, stepO_nxt]
            rfl
        rw [step]
        exact ih
theorem in7 (q : QL Q L) {a j : Nat} {r : Rd} (vr : VR r) (hj : j ≤ 64) : ∀ (k i t : Nat), Q.length - a = i + k → a ≤ t → t ≤ Q.length → t = 0 → ∃ a' t' : Nat, (t' = tks a r k i t ∧ (a' = a ∨ a' = t') ∧ (r.2.2 = false → a' = t')) ∧ (res B28 (.c7 L.length (L.flatMap eR) (L.length : Int) ((j : Nat) : Int) (Q.length - a) (sq Q a (Q.length - a)) ((((Q.length - a) : Nat)) : Int) ((i : Nat) : Int) Q.length (Q.flatMap eF) ((a : Nat) : Int) 4 ((t : Nat) : Int) r.1.length (r.1.map vI) r.2.1.length (r.2.1.map vI) r.2.2) = res B28 (.c15 L.length (L.flatMap eR) (L.length : Int) (((j + 1) : Nat) : Int) Q.length (Q.flatMap eF) ((a' : Nat) : Int) 4 ((t' : Nat) : Int) t' (fr Q t')) ∨ (t' = t ∧ res B28 (.c7 L.length (L.flatMap eR) (L.length : Int) ((j : Nat) : Int) (Q.length - a) (sq Q a (Q.length - a)) ((((Q.length - a) : Nat)) : Int) ((i : Nat) : Int) Q.length (Q.flatMap eF) ((a : Nat) : Int) 4 ((t : Nat) : Int) r.1.length (r.1.map vI) r.2.1.length (r.2.1.map vI) r.2.2) = res B28 (.c3 L.length (L.flatMap eR) (L.length : Int) (((j + 1) : Nat) : Int) Q.length (Q.flatMap eF) ((a' : Nat) : Int) 4 ((t' : Nat) : Int))))
  | 0, i, t, hk, h1, h2, ht0 => by
    obtain rfl : i = Q.length - a := by omega
    have hq := q.l
    have c : ¬ (((Q.length - a : Nat) : Int) < ((Q.length - a : Nat) : Int)) := by omega
    have hin : inI64 ((j : Int) + 1) := by unfold inI64; omega
    have e52 : F52 Q.length (Q.flatMap eF) (a : Int) 4 ((t : Int).tmod 16) = some (t : Int) := F52_eq Q.length (Q.flatMap eF) (w := 4) h1 (by omega) h2 (by omega) (by omega)
    cases hd : r.2.2 with
    | false =>
      refine ⟨t, t, ⟨rfl, .inr rfl, fun _ => rfl⟩, ?_⟩
      refine .inr ⟨rfl, ?_⟩
      subst ht0
      rw [res_eq]
      simp only [B28, c, hd, decide_false, Bool.false_eq_true, if_false, Bool.not_false, if_true, e52, hin, sem_br, sem_ask, sem_triv, sem_bind_some, sem_sees, sem_nxt, PC.holds, need_true, stepO_nxt]
      rfl
    | true =>
      refine ⟨a, t, ⟨rfl, .inl rfl, fun h => by cases h⟩, ?_⟩
      refine .inr ⟨rfl, ?_⟩
      subst ht0
      rw [res_eq]
      simp only [B28, c, hd, decide_false, Bool.false_eq_true, if_false, Bool.not_true, hin, sem_br, sem_ask, sem_triv, sem_bind_some, sem_sees, sem_nxt, PC.holds, need_true, stepO_nxt]
      rfl
  | k + 1, i, t, hk, h1, h2, ht0 => by
    have hq := q.l
    have hi : i < Q.length - a := by omega
    have hai : a + i < Q.length := by omega
    have c : ((i : Nat) : Int) < ((Q.length - a : Nat) : Int) := by omega
    have hin : inI64 ((i : Int) + 1) := by unfold inI64; omega
    have at5 := atN (Q := Q) (a := a) hi
    have e51 := F51_eq r.1 (i : Int) (by have := vr.1.1; omega)
    have e51d := F51_eq r.2.1 (i : Int) (by have := vr.2.1; omega)
    have em := eqm (a := a) (i := i) (t := t) (by omega) (by omega) (by omega) (by omega)
    have e47 := F47_eq (t : Int) t (fr Q t) (((a + i : Nat) : Int) % 16) (by omega)
    rw [em] at e47
    subst ht0
    by_cases hlost : ((i : Nat) : Int) ∈ r.1
    · have etk : tk a i 0 r = 0 := by unfold tk; rw [if_pos hlost]
      have ih := in7 q (a := a) vr hj k (i + 1) 0 (by omega) h1 h2 rfl
      unfold tks
      rw [etk]
      have step : res B28 (.c7 L.length (L.flatMap eR) (L.length : Int) ((j : Nat) : Int) (Q.length - a) (sq Q a (Q.length - a)) ((((Q.length - a) : Nat)) : Int) ((i : Nat) : Int) Q.length (Q.flatMap eF) ((a : Nat) : Int) 4 ((0 : Nat) : Int) r.1.length (r.1.map vI) r.2.1.length (r.2.1.map vI) r.2.2) = res B28 (.c7 L.length (L.flatMap eR) (L.length : Int) ((j : Nat) : Int) (Q.length - a) (sq Q a (Q.length - a)) ((((Q.length - a) : Nat)) : Int) (((i + 1) : Nat) : Int) Q.length (Q.flatMap eF) ((a : Nat) : Int) 4 ((0 : Nat) : Int) r.1.length (r.1.map vI) r.2.1.length (r.2.1.map vI) r.2.2) := by
        rw [res_eq]
        simp only [B28, c, at5.c0, at5.c1, at5.c2, at5.c3, at5.c4, at5.r1, at5.r2, at5.t, dN_eB, dL_eB, e51, hlost, decide_true, if_true, Int.toNat_natCast, Int.natCast_nonneg, hin, sem_br, sem_ask, sem_triv, sem_bind_some, sem_sees, sem_nxt, PC.holds, need_true, stepO_nxt]
        rfl
      rw [step]
      exact ih
    · by_cases htake : a + i = 0
      · have etk : tk a i 0 r = 0 + 1 := by unfold tk; rw [if_neg hlost, if_pos htake]
        have e48 := F48_eq q.v (by omega) (t := 0) (by omega)
        have em2 := eqm (a := a) (i := i) (t := 0 + 1) (by omega) (by omega) (by omega) (by omega)
        have e47b := F47_eq ((0 + 1 : Nat) : Int) (0 + 1) (fr Q (0 + 1)) (((a + i : Nat) : Int) % 16) (by omega)
        rw [em2] at e47b
        have hne : decide (a + i = 0 + 1) = false := by simp; omega
        rw [hne] at e47b
        have htake' : decide (a + i = 0) = true := decide_eq_true htake
        rw [htake'] at e47
        have ih := in11 q (a := a) vr hj k (i + 1) (0 + 1) (by omega) (by omega) (by omega)
        unfold tks
        rw [etk]
        have hget : Q.getD (a + i) f0 = Q.getD 0 f0 := by rw [htake]
        have step : res B28 (.c7 L.length (L.flatMap eR) (L.length : Int) ((j : Nat) : Int) (Q.length - a) (sq Q a (Q.length - a)) ((((Q.length - a) : Nat)) : Int) ((i : Nat) : Int) Q.length (Q.flatMap eF) ((a : Nat) : Int) 4 ((0 : Nat) : Int) r.1.length (r.1.map vI) r.2.1.length (r.2.1.map vI) r.2.2) = res B28 (.c11 L.length (L.flatMap eR) (L.length : Int) ((j : Nat) : Int) (Q.length - a) (sq Q a (Q.length - a)) ((((Q.length - a) : Nat)) : Int) (((i + 1) : Nat) : Int) Q.length (Q.flatMap eF) ((a : Nat) : Int) 4 (((0 + 1) : Nat) : Int) (0 + 1) (fr Q (0 + 1)) r.1.length (r.1.map vI) r.2.1.length (r.2.1.map vI) r.2.2) := by
          rw [res_eq]
          simp only [B28, c, at5.c0, at5.c1, at5.c2, at5.c3, at5.c4, at5.r1, at5.r2, at5.t, hget, dN_eB, dL_eB, e51, hlost, decide_true, decide_false, if_true, Bool.false_eq_true, if_false, Int.toNat_natCast, Int.natCast_nonneg, hin, sem_br, sem_ask, sem_triv, sem_bind, sem_sees, sem_nxt, PC.holds, need_true]
          rw [hget] at *
          erw [e47]
          simp only [if_true, sem_br, sem_ask, sem_triv, sem_bind, sem_sees, sem_nxt, PC.holds, need_true]
          erw [e48]
          simp only [e51d, sem_br, sem_ask, sem_triv, sem_bind, sem_sees, sem_nxt, PC.holds, need_true]
          erw [e47b]
          by_cases hd : ((i : Nat) : Int) ∈ r.2.1
          · simp only [hd, decide_true, if_true, Bool.false_eq_true, if_false, hin, sem_br, sem_ask, sem_triv, sem_bind, sem_sees, sem_nxt, PC.holds, need_true, stepO_nxt]
            rfl
          · simp only [hd, decide_false, if_true, Bool.false_eq_true, if_false, hin, sem_br, sem_ask, sem_triv, sem_bind, sem_sees, sem_nxt, PC.holds, need_true, stepO_nxt]
            rfl
        rw [step]
        obtain ⟨a', t', x1, x2⟩ := ih
        exact ⟨a', t', x1, .inl x2⟩
      · have etk : tk a i 0 r = 0 := by unfold tk; rw [if_neg hlost, if_neg htake]
        have htake' : decide (a + i = 0) = false := decide_eq_false htake
        rw [htake'] at e47
        have ih := in7 q (a := a) vr hj k (i + 1) 0 (by omega) h1 h2 rfl
        unfold tks
        rw [etk]
        have step : res B28 (.c7 L.length (L.flatMap eR) (L.length : Int) ((j : Nat) : Int) (Q.length - a) (sq Q a (Q.length - a)) ((((Q.length - a) : Nat)) : Int) ((i : Nat) : Int) Q.length (Q.flatMap eF) ((a : Nat) : Int) 4 ((0 : Nat) : Int) r.1.length (r.1.map vI) r.2.1.length (r.2.1.map vI) r.2.2) = res B28 (.c7 L.length (L.flatMap eR) (L.length : Int) ((j : Nat) : Int) (Q.length - a) (sq Q a (Q.length - a)) ((((Q.length - a) : Nat)) : Int) (((i + 1) : Nat) : Int) Q.length (Q.flatMap eF) ((a : Nat) : Int) 4 ((0 : Nat) : Int) r.1.length (r.1.map vI) r.2.1.length (r.2.1.map vI) r.2.2) := by
          rw [res_eq]
          simp only [B28, c, at5.c0, at5.c1, at5.c2, at5.c3, at5.c4, at5.r1, at5.r2, at5.t, dN_eB, dL_eB, e51, hlost, decide_true, decide_false, if_true, Bool.false_eq_true, if_false, Int.toNat_natCast, Int.natCast_nonneg, hin, sem_br, sem_ask, sem_triv, sem_bind, sem_sees, sem_nxt, PC.holds, need_true]
          erw [e47]
          simp only [e51d, Bool.false_eq_true, if_false, sem_br, sem_ask, sem_triv, sem_bind, sem_sees, sem_nxt, PC.holds, need_true]
          by_cases hd : ((i : Nat) : Int) ∈ r.2.1
          · simp only [hd, decide_true, if_true, Bool.false_eq_true, if_false, hin, sem_br, sem_ask, sem_triv, sem_bind, sem_sees, sem_nxt, PC.holds, need_true, stepO_nxt]
            rfl
          · simp only [hd, decide_false, if_true, Bool.false_eq_true, if_false, hin, sem_br, sem_ask, sem_triv, sem_bind, sem_sees, sem_nxt, PC.holds, need_true, stepO_nxt]
            rfl
        rw [step]
        exact ih
end
end Go.Kv
