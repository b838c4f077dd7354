import Derived.Test.YtfojgeoicgmncaaKL3
namespace Go.Kv
set_option linter.unusedVariables false
set_option linter.unusedSimpArgs false
open Go Go.RowKit
set_option maxRecDepth 100000
def clean (r : Rd) : Prop := r.1 = [] ∧ r.2.2 = false
theorem tks_clean {a : Nat} {r : Rd} (h : r.1 = []) : ∀ (k i t : Nat), a + i ≤ t → t ≤ a + i + k → tks a r k i t = a + i + k
  | 0, i, t, h1, h2 => by unfold tks; omega
  | k + 1, i, t, h1, h2 => by
    unfold tks
    have e : tk a i t r = if a + i = t then t + 1 else t := by unfold tk; rw [h]; simp
    rw [e]
    by_cases h3 : a + i = t
    · rw [if_pos h3, tks_clean h k (i + 1) (t + 1) (by omega) (by omega)]; omega
    · rw [if_neg h3, tks_clean h k (i + 1) t (by omega) (by omega)]; omega
section
variable {Q : List Fr} {L : List Rd}
theorem getR (q : QL Q L) {j : Nat} (hj : j < L.length) : L.getD j r0 ∈ L.drop j := by
  rw [dropD r0 hj]; simp
theorem rnd15 (q : QL Q L) : ∀ (k j a t : Nat), L.length = j + k → a ≤ t → t ≤ Q.length → ∃ a' t' : Nat, (a' ≤ t' ∧ t' ≤ Q.length ∧ ((∃ r ∈ L.drop j, clean r) → t' = Q.length) ∧ (t = Q.length → t' = Q.length)) ∧
    res B28 (.c15 L.length (L.flatMap eR) (L.length : Int) ((j : Nat) : Int) Q.length (Q.flatMap eF) ((a : Nat) : Int) 4 ((t : Nat) : Int) t (fr Q t)) = some (Q.length, Q.flatMap eF, (a' : Int), 4, (t' : Int), t', fr Q t', 0)
  | 0, j, a, t, hk, h1, h2 => by
    have c : ¬ (((j : Nat) : Int) < (L.length : Int)) := by omega
    refine ⟨a, t, ⟨h1, h2, ?_, fun h => h⟩, ?_⟩
    · rintro ⟨r, hr, _⟩
      rw [List.drop_eq_nil_of_le (by omega)] at hr
      simp at hr
    · skip
      rw [res_eq]
      simp only [B28, c, decide_false, Bool.false_eq_true, if_false, sem_br, sem_ask, sem_triv, sem_sees, sem_ret, PC.holds, need_true, stepO_ret]
      skip
  | k + 1, j, a, t, hk, h1, h2 => by
    have hq := q.l
    have hj : j < L.length := by omega
    have c : ((j : Nat) : Int) < (L.length : Int) := by omega
    have hl := q.r.1
    have vr := q.r.get hj
    have tr := atR hj
    have hm : min (a + 4) Q.length = Q.length := by omega
    have e49 : F49 [.sl Q.length (Q.flatMap eF), vI (a : Int), vI 4] = some (min (a + 4) Q.length - a, sq Q a (min (a + 4) Q.length - a)) := F49_eq (Q := Q) (by omega) (a := a) (w := 4) (by omega) (by omega)
    rw [hm] at e49
    have hin := in11 q (a := a) vr (show j ≤ 64 by omega) (Q.length - a) 0 t (by omega) h1 h2
    have step : res B28 (.c15 L.length (L.flatMap eR) (L.length : Int) ((j : Nat) : Int) Q.length (Q.flatMap eF) ((a : Nat) : Int) 4 ((t : Nat) : Int) t (fr Q t)) = res B28 (.c11 L.length (L.flatMap eR) (L.length : Int) ((j : Nat) : Int) (Q.length - a) (sq Q a (Q.length - a)) ((((Q.length - a) : Nat)) : Int) ((0 : Nat) : Int) Q.length (Q.flatMap eF) ((a : Nat) : Int) 4 ((t : Nat) : Int) t (fr Q t) (L.getD j r0).1.length ((L.getD j r0).1.map vI) (L.getD j r0).2.1.length ((L.getD j r0).2.1.map vI) (L.getD j r0).2.2) := by
      skip
      rw [res_eq]
      simp only [B28, c, F50_eq, e49, tr.c0, tr.c1, tr.c2, tr.r1, tr.r2, tr.t, dN_eI, dL_eI, decide_true, if_true, Int.toNat_natCast, Int.natCast_nonneg, sem_br, sem_ask, sem_triv, sem_bind_some, sem_sees, sem_nxt, PC.holds, need_true, stepO_nxt]
      rfl
    have hb := tks_bd (a := a) (r := L.getD j r0) (Q.length - a) 0 t
    have hcl : (L.getD j r0).1 = [] → tks a (L.getD j r0) (Q.length - a) 0 t = Q.length := fun h => by
      rw [tks_clean h _ _ _ (by omega) (by omega)]; omega
    obtain ⟨a1, t1, ⟨x1, x2, x3⟩, x4⟩ := hin
    have ha1 : a1 ≤ t1 := by rcases x2 with x2 | x2 <;> omega
    have hmem : (∃ r ∈ L.drop j, clean r) → t1 = Q.length ∨ ∃ r ∈ L.drop (j + 1), clean r := by
      rintro ⟨r, hr, hc⟩
      rw [dropD r0 hj] at hr
      rcases List.mem_cons.1 hr with rfl | hr
      · left; rw [x1]; exact hcl hc.1
      · right; exact ⟨r, hr, hc⟩
    have hstay : t = Q.length → t1 = Q.length := fun h => by omega
    rw [step]
    obtain ⟨a', t', ⟨y1, y2, y3, y4⟩, y5⟩ := rnd15 q k (j + 1) a1 t1 (by omega) ha1 (by omega)
    refine ⟨a', t', ⟨y1, y2, ?_, fun h => y4 (hstay h)⟩, by rw [x4]; exact y5⟩
    intro h
    rcases hmem h with h | h
    · exact y4 h
    · exact y3 h
theorem rnd16 (q : QL Q L) : ∀ (k j a t : Nat), L.length = j + k → a ≤ t → t ≤ Q.length → ∃ a' t' : Nat, (a' ≤ t' ∧ t' ≤ Q.length ∧ ((∃ r ∈ L.drop j, clean r) → t' = Q.length) ∧ (t = Q.length → t' = Q.length)) ∧
    res B28 (.c16 L.length (L.flatMap eR) (L.length : Int) ((j : Nat) : Int) Q.length (Q.flatMap eF) ((a : Nat) : Int) 4 ((t : Nat) : Int) t (fr Q t)) = some (Q.length, Q.flatMap eF, (a' : Int), 4, (t' : Int), t', fr Q t', 0)
  | 0, j, a, t, hk, h1, h2 => by
    have c : ¬ (((j : Nat) : Int) < (L.length : Int)) := by omega
    refine ⟨a, t, ⟨h1, h2, ?_, fun h => h⟩, ?_⟩
    · rintro ⟨r, hr, _⟩
      rw [List.drop_eq_nil_of_le (by omega)] at hr
      simp at hr
    · skip
      rw [res_eq]
      simp only [B28, c, decide_false, Bool.false_eq_true, if_false, sem_br, sem_ask, sem_triv, sem_sees, sem_ret, PC.holds, need_true, stepO_ret]
      skip
  | k + 1, j, a, t, hk, h1, h2 => by
    have hq := q.l
    have hj : j < L.length := by omega
    have c : ((j : Nat) : Int) < (L.length : Int) := by omega
    have hl := q.r.1
    have vr := q.r.get hj
    have tr := atR hj
    have hm : min (a + 4) Q.length = Q.length := by omega
    have e49 : F49 [.sl Q.length (Q.flatMap eF), vI (a : Int), vI 4] = some (min (a + 4) Q.length - a, sq Q a (min (a + 4) Q.length - a)) := F49_eq (Q := Q) (by omega) (a := a) (w := 4) (by omega) (by omega)
    rw [hm] at e49
    have hin := in12 q (a := a) vr (show j ≤ 64 by omega) (Q.length - a) 0 t (by omega) h1 h2
    have step : res B28 (.c16 L.length (L.flatMap eR) (L.length : Int) ((j : Nat) : Int) Q.length (Q.flatMap eF) ((a : Nat) : Int) 4 ((t : Nat) : Int) t (fr Q t)) = res B28 (.c12 L.length (L.flatMap eR) (L.length : Int) ((j : Nat) : Int) (Q.length - a) (sq Q a (Q.length - a)) ((((Q.length - a) : Nat)) : Int) ((0 : Nat) : Int) Q.length (Q.flatMap eF) ((a : Nat) : Int) 4 ((t : Nat) : Int) t (fr Q t) (L.getD j r0).1.length ((L.getD j r0).1.map vI) (L.getD j r0).2.1.length ((L.getD j r0).2.1.map vI) (L.getD j r0).2.2) := by
      skip
      rw [res_eq]
      simp only [B28, c, F50_eq, e49, tr.c0, tr.c1, tr.c2, tr.r1, tr.r2, tr.t, dN_eI, dL_eI, decide_true, if_true, Int.toNat_natCast, Int.natCast_nonneg, sem_br, sem_ask, sem_triv, sem_bind_some, sem_sees, sem_nxt, PC.holds, need_true, stepO_nxt]
      rfl
    have hb := tks_bd (a := a) (r := L.getD j r0) (Q.length - a) 0 t
    have hcl : (L.getD j r0).1 = [] → tks a (L.getD j r0) (Q.length - a) 0 t = Q.length := fun h => by
      rw [tks_clean h _ _ _ (by omega) (by omega)]; omega
    obtain ⟨a1, t1, ⟨x1, x2, x3⟩, x4⟩ := hin
    have ha1 : a1 ≤ t1 := by rcases x2 with x2 | x2 <;> omega
    have hmem : (∃ r ∈ L.drop j, clean r) → t1 = Q.length ∨ ∃ r ∈ L.drop (j + 1), clean r := by
      rintro ⟨r, hr, hc⟩
      rw [dropD r0 hj] at hr
      rcases List.mem_cons.1 hr with rfl | hr
      · left; rw [x1]; exact hcl hc.1
      · right; exact ⟨r, hr, hc⟩
    have hstay : t = Q.length → t1 = Q.length := fun h => by omega
    rw [step]
    obtain ⟨a', t', ⟨y1, y2, y3, y4⟩, y5⟩ := rnd16 q k (j + 1) a1 t1 (by omega) ha1 (by omega)
    refine ⟨a', t', ⟨y1, y2, ?_, fun h => y4 (hstay h)⟩, by rw [x4]; exact y5⟩
    intro h
    rcases hmem h with h | h
    · exact y4 h
    · exact y3 h
theorem rnd4 (q : QL Q L) : ∀ (k j a t : Nat), L.length = j + k → a ≤ t → t ≤ Q.length → ∃ a' t' : Nat, (a' ≤ t' ∧ t' ≤ Q.length ∧ ((∃ r ∈ L.drop j, clean r) → t' = Q.length) ∧ (t = Q.length → t' = Q.length)) ∧
    res B28 (.c4 L.length (L.flatMap eR) (L.length : Int) ((j : Nat) : Int) Q.length (Q.flatMap eF) ((a : Nat) : Int) 4 ((t : Nat) : Int) t (fr Q t)) = some (Q.length, Q.flatMap eF, (a' : Int), 4, (t' : Int), t', fr Q t', 0)
  | 0, j, a, t, hk, h1, h2 => by
    have c : ¬ (((j : Nat) : Int) < (L.length : Int)) := by omega
    refine ⟨a, t, ⟨h1, h2, ?_, fun h => h⟩, ?_⟩
    · rintro ⟨r, hr, _⟩
      rw [List.drop_eq_nil_of_le (by omega)] at hr
      simp at hr
    · skip
      rw [res_eq]
      simp only [B28, c, decide_false, Bool.false_eq_true, if_false, sem_br, sem_ask, sem_triv, sem_sees, sem_ret, PC.holds, need_true, stepO_ret]
      skip
  | k + 1, j, a, t, hk, h1, h2 => by
    have hq := q.l
    have hj : j < L.length := by omega
    have c : ((j : Nat) : Int) < (L.length : Int) := by omega
    have hl := q.r.1
    have vr := q.r.get hj
    have tr := atR hj
    have hm : min (a + 4) Q.length = Q.length := by omega
    have e49 : F49 [.sl Q.length (Q.flatMap eF), vI (a : Int), vI 4] = some (min (a + 4) Q.length - a, sq Q a (min (a + 4) Q.length - a)) := F49_eq (Q := Q) (by omega) (a := a) (w := 4) (by omega) (by omega)
    rw [hm] at e49
    have hin := in8 q (a := a) vr (show j ≤ 64 by omega) (Q.length - a) 0 t (by omega) h1 h2
    have step : res B28 (.c4 L.length (L.flatMap eR) (L.length : Int) ((j : Nat) : Int) Q.length (Q.flatMap eF) ((a : Nat) : Int) 4 ((t : Nat) : Int) t (fr Q t)) = res B28 (.c8 L.length (L.flatMap eR) (L.length : Int) ((j : Nat) : Int) (Q.length - a) (sq Q a (Q.length - a)) ((((Q.length - a) : Nat)) : Int) ((0 : Nat) : Int) Q.length (Q.flatMap eF) ((a : Nat) : Int) 4 ((t : Nat) : Int) t (fr Q t) (L.getD j r0).1.length ((L.getD j r0).1.map vI) (L.getD j r0).2.1.length ((L.getD j r0).2.1.map vI) (L.getD j r0).2.2) := by
      skip
      rw [res_eq]
      simp only [B28, c, F50_eq, e49, tr.c0, tr.c1, tr.c2, tr.r1, tr.r2, tr.t, dN_eI, dL_eI, decide_true, if_true, Int.toNat_natCast, Int.natCast_nonneg, sem_br, sem_ask, sem_triv, sem_bind_some, sem_sees, sem_nxt, PC.holds, need_true, stepO_nxt]
      rfl
    have hb := tks_bd (a := a) (r := L.getD j r0) (Q.length - a) 0 t
    have hcl : (L.getD j r0).1 = [] → tks a (L.getD j r0) (Q.length - a) 0 t = Q.length := fun h => by
      rw [tks_clean h _ _ _ (by omega) (by omega)]; omega
    obtain ⟨a1, t1, ⟨x1, x2, x3⟩, x4⟩ := hin
    have ha1 : a1 ≤ t1 := by rcases x2 with x2 | x2 <;> omega
    have hmem : (∃ r ∈ L.drop j, clean r) → t1 = Q.length ∨ ∃ r ∈ L.drop (j + 1), clean r := by
      rintro ⟨r, hr, hc⟩
      rw [dropD r0 hj] at hr
      rcases List.mem_cons.1 hr with rfl | hr
      · left; rw [x1]; exact hcl hc.1
      · right; exact ⟨r, hr, hc⟩
    have hstay : t = Q.length → t1 = Q.length := fun h => by omega
    rw [step]
    rcases x4 with x4 | ⟨z1, x4⟩
    · obtain ⟨a', t', ⟨y1, y2, y3, y4⟩, y5⟩ := rnd16 q k (j + 1) a1 t1 (by omega) ha1 (by omega)
      refine ⟨a', t', ⟨y1, y2, ?_, fun h => y4 (hstay h)⟩, by rw [x4]; exact y5⟩
      intro h
      rcases hmem h with h | h
      · exact y4 h
      · exact y3 h
    · obtain ⟨a', t', ⟨y1, y2, y3, y4⟩, y5⟩ := rnd4 q k (j + 1) a1 t1 (by omega) ha1 (by omega)
      refine ⟨a', t', ⟨y1, y2, ?_, fun h => y4 (hstay h)⟩, by rw [x4]; exact y5⟩
      intro h
      rcases hmem h with h | h
      · exact y4 h
      · exact y3 h
theorem rnd3 (q : QL Q L) : ∀ (k j a t : Nat), L.length = j + k → a ≤ t → t ≤ Q.length → t = 0 → ∃ a' t' : Nat, (a' ≤ t' ∧ t' ≤ Q.length ∧ ((∃ r ∈ L.drop j, clean r) → t' = Q.length) ∧ (t = Q.length → t' = Q.length)) ∧
    res B28 (.c3 L.length (L.flatMap eR) (L.length : Int) ((j : Nat) : Int) Q.length (Q.flatMap eF) ((a : Nat) : Int) 4 ((t : Nat) : Int)) = some (Q.length, Q.flatMap eF, (a' : Int), 4, (t' : Int), t', fr Q t', 0)
  | 0, j, a, t, hk, h1, h2, ht0 => by
    have c : ¬ (((j : Nat) : Int) < (L.length : Int)) := by omega
    refine ⟨a, t, ⟨h1, h2, ?_, fun h => h⟩, ?_⟩
    · rintro ⟨r, hr, _⟩
      rw [List.drop_eq_nil_of_le (by omega)] at hr
      simp at hr
    · subst ht0
      rw [res_eq]
      simp only [B28, c, decide_false, Bool.false_eq_true, if_false, sem_br, sem_ask, sem_triv, sem_sees, sem_ret, PC.holds, need_true, stepO_ret]
      rfl
  | k + 1, j, a, t, hk, h1, h2, ht0 => by
    have hq := q.l
    have hj : j < L.length := by omega
    have c : ((j : Nat) : Int) < (L.length : Int) := by omega
    have hl := q.r.1
    have vr := q.r.get hj
    have tr := atR hj
    have hm : min (a + 4) Q.length = Q.length := by omega
    have e49 : F49 [.sl Q.length (Q.flatMap eF), vI (a : Int), vI 4] = some (min (a + 4) Q.length - a, sq Q a (min (a + 4) Q.length - a)) := F49_eq (Q := Q) (by omega) (a := a) (w := 4) (by omega) (by omega)
    rw [hm] at e49
    have hin := in7 q (a := a) vr (show j ≤ 64 by omega) (Q.length - a) 0 t (by omega) h1 h2 ht0
    have step : res B28 (.c3 L.length (L.flatMap eR) (L.length : Int) ((j : Nat) : Int) Q.length (Q.flatMap eF) ((a : Nat) : Int) 4 ((t : Nat) : Int)) = res B28 (.c7 L.length (L.flatMap eR) (L.length : Int) ((j : Nat) : Int) (Q.length - a) (sq Q a (Q.length - a)) ((((Q.length - a) : Nat)) : Int) ((0 : Nat) : Int) Q.length (Q.flatMap eF) ((a : Nat) : Int) 4 ((t : Nat) : Int) (L.getD j r0).1.length ((L.getD j r0).1.map vI) (L.getD j r0).2.1.length ((L.getD j r0).2.1.map vI) (L.getD j r0).2.2) := by
      subst ht0
      rw [res_eq]
      simp only [B28, c, F50_eq, e49, tr.c0, tr.c1, tr.c2, tr.r1, tr.r2, tr.t, dN_eI, dL_eI, decide_true, if_true, Int.toNat_natCast, Int.natCast_nonneg, sem_br, sem_ask, sem_triv, sem_bind_some, sem_sees, sem_nxt, PC.holds, need_true, stepO_nxt]
      rfl
    have hb := tks_bd (a := a) (r := L.getD j r0) (Q.length - a) 0 t
    have hcl : (L.getD j r0).1 = [] → tks a (L.getD j r0) (Q.length - a) 0 t = Q.length := fun h => by
      rw [tks_clean h _ _ _ (by omega) (by omega)]; omega
    obtain ⟨a1, t1, ⟨x1, x2, x3⟩, x4⟩ := hin
    have ha1 : a1 ≤ t1 := by rcases x2 with x2 | x2 <;> omega
    have hmem : (∃ r ∈ L.drop j, clean r) → t1 = Q.length ∨ ∃ r ∈ L.drop (j + 1), clean r := by
      rintro ⟨r, hr, hc⟩
      rw [dropD r0 hj] at hr
      rcases List.mem_cons.1 hr with rfl | hr
      · left; rw [x1]; exact hcl hc.1
      · right; exact ⟨r, hr, hc⟩
    have hstay : t = Q.length → t1 = Q.length := fun h => by omega
    rw [step]
    rcases x4 with x4 | ⟨z1, x4⟩
    · obtain ⟨a', t', ⟨y1, y2, y3, y4⟩, y5⟩ := rnd15 q k (j + 1) a1 t1 (by omega) ha1 (by omega)
      refine ⟨a', t', ⟨y1, y2, ?_, fun h => y4 (hstay h)⟩, by rw [x4]; exact y5⟩
      intro h
      rcases hmem h with h | h
      · exact y4 h
      · exact y3 h
    · obtain ⟨a', t', ⟨y1, y2, y3, y4⟩, y5⟩ := rnd3 q k (j + 1) a1 t1 (by omega) ha1 (by omega) (by omega)
      refine ⟨a', t', ⟨y1, y2, ?_, fun h => y4 (hstay h)⟩, by rw [x4]; exact y5⟩
      intro h
      rcases hmem h with h | h
      · exact y4 h
      · exact y3 h
theorem F28_eq (q : QL Q L) {a t : Nat} (h1 : a ≤ t) (h2 : t ≤ Q.length) : ∃ a' t' : Nat, (a' ≤ t' ∧ t' ≤ Q.length ∧ ((∃ r ∈ L, clean r) → t' = Q.length)) ∧
    F28 Q.length (Q.flatMap eF) (a : Int) 4 (t : Int) t (fr Q t) L.length (L.flatMap eR) = some (Q.length, Q.flatMap eF, (a' : Int), 4, (t' : Int), t', fr Q t', 0) := by
  have hq := q.l
  have hlen := q.len h2
  have vt := q.v.take t
  have e41 := F41_eq q.v (by omega) (a := (a : Int)) (w := 4) (by omega) (by omega)
  have e42 := F42_eq vt (by omega)
  rw [hlen] at e42
  have e43 := F43_eq q.r
  have e44 : F44 Q.length (Q.flatMap eF) (a : Int) 4 (t : Int) t (fr Q t) = some true := F44_eq q.v (by omega) (w := 4) h1 (by omega) h2 (by omega)
  have e45 := F45f_eq q.v (by omega)
  have e45t := F45f_eq vt (by omega)
  rw [hlen] at e45t
  unfold F28; rw [res_eq]
  simp only [B28, e41, e42, e43, e44, e45, e45t, F37_3, first0_3, ownN, nb (show 0 < Q.length by omega), show 0 < Q.length by omega, Bool.not_true, sem_br, sem_ask, sem_triv, sem_bind_some, sem_sees, sem_nxt, PC.holds, need_true, bne_self_eq_false, Bool.false_eq_true, if_false]
  by_cases h0 : t = 0
  · subst h0
    obtain ⟨a', t', ⟨y1, y2, y3, _⟩, y5⟩ := rnd3 q L.length 0 a 0 (by omega) h1 h2 rfl
    rw [List.drop_zero] at y3
    refine ⟨a', t', ⟨y1, y2, y3⟩, ?_⟩
    simp only [show Nat.beq 0 0 = true from rfl, if_true, need_true, stepO_nxt]
    exact y5
  · obtain ⟨a', t', ⟨y1, y2, y3, _⟩, y5⟩ := rnd4 q L.length 0 a t (by omega) h1 h2
    rw [List.drop_zero] at y3
    refine ⟨a', t', ⟨y1, y2, y3⟩, ?_⟩
    simp only [nb (show 0 < t by omega), show 0 < t by omega, Bool.false_eq_true, if_false, need_true, stepO_nxt]
    exact y5
end
end Go.Kv
