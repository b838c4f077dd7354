/- MeterSeals: both checks, in plain Lean. -/
import Derived.Test.YtalhonodbajndaaGreatDoorK10
namespace Go.Kv
set_option linter.unusedVariables false
set_option linter.unusedSimpArgs false
open Go Go.RowKit
set_option maxRecDepth 100000
def eq8 (a b : T8) : Bool := a.1 == b.1 && (a.2.1 == b.2.1 && (a.2.2.1 == b.2.2.1 && (a.2.2.2.1 == b.2.2.2.1 && (a.2.2.2.2.1 == b.2.2.2.2.1 && (a.2.2.2.2.2.1 == b.2.2.2.2.2.1 && (a.2.2.2.2.2.2.1 == b.2.2.2.2.2.2.1 && (a.2.2.2.2.2.2.2 == b.2.2.2.2.2.2.2 && true)))))))
theorem eq8_self (a : T8) : eq8 a a = true := by simp only [eq8, beq_self_eq_true, Bool.and_true]
theorem eq8_eq {a b : T8} (h : eq8 a b = true) : a = b := by
  unfold eq8 at h
  simp only [Bool.and_eq_true, beq_iff_eq, and_true] at h
  obtain ⟨h0, h1, h2, h3, h4, h5, h6, h7⟩ := h
  exact Prod.ext h0 (Prod.ext h1 (Prod.ext h2 (Prod.ext h3 (Prod.ext h4 (Prod.ext h5 (Prod.ext h6 h7))))))
theorem F64_eq (S : List T8) (hl : S.length ≤ 1000) : F64 S.length (S.flatMap e8) = some (S.length, S.flatMap e8) := by
  unfold F64; rw [res_eq]
  by_cases h : S = []
  · subst h
    have e0 : (List.flatMap e8 ([] : List T8)) = [] := rfl
    simp only [B64, e0, List.length_nil, Nat.beq_refl, show (0 : Nat).beq 0 = true from rfl, sem_br, sem_ask, sem_ret, PC.holds, need_true, if_true, stepO_ret]
  · have h0 : 0 < S.length := List.length_pos_iff.2 h
    have h1 : S.length.beq 0 = false := by cases hs : S.length with
      | zero => omega
      | succ n => rfl
    have h2 : (S.flatMap e8).length = S.length * 8 := fm_len e8_len S
    have h3 : fitsN S.length 8 := by unfold fitsN; omega
    simp only [B64, sem_br, sem_ask, sem_ret, PC.holds, need_true, h0, h1, h2, h3, Nat.zero_add, List.nil_append, Bool.false_eq_true, if_false, stepO_ret]
theorem F68_loop (S : List T8) (hl : S.length ≤ 1000) : ∀ (k i : Nat), S.length = i + k → res B68 (.c1 S.length (S.flatMap e8) S.length (S.flatMap e8) (i : Int)) = some true
  | 0, i, hk => by
    rw [res_eq]
    have : ¬ ((i : Int) < (S.length : Int)) := by omega
    simp only [B68, sem_br, sem_ret, this, decide_false, Bool.false_eq_true, if_false, stepO_ret]
  | k + 1, i, hk => by
    have hi : i < S.length := by omega
    have h1 : (i : Int) < (S.length : Int) := by omega
    have ih := F68_loop S hl k (i + 1) (by omega)
    have hin : inI64 ((i : Int) + 1) := by unfold inI64; omega
    have A := k_at hi
    rw [res_eq]
    simp only [B68, sem_br, sem_ask, sem_nxt, sem_triv, sem_sees, sem_ret, sem_bind_some, PC.holds, need_true, Int.toNat_natCast, Int.natCast_nonneg, decide_true, if_true, stepO_nxt, stepO_ret, A.c0, A.c1, A.c2, A.c3, A.c4, A.c5, A.c6, A.c7, A.le, A.rm, A.row, h1, hin, beq_self_eq_true, Bool.and_true, Bool.not_true, Bool.false_eq_true, if_false]
    exact ih
theorem F68_same (S : List T8) (hl : S.length ≤ 1000) : F68 S.length (S.flatMap e8) S.length (S.flatMap e8) = some true := by
  unfold F68; rw [res_eq]
  simp only [B68, sem_br, sem_nxt, bne_self_eq_false, Bool.false_eq_true, if_false, stepO_nxt]
  exact F68_loop S hl S.length 0 (by omega)
theorem F68_nil : F68 0 [] 0 [] = some true := F68_same [] (by simp)
/-- A seal that is not the chain's, or a number that does not follow. -/
def gap (l : List E5) (i : Nat) : Bool := decide (0 < i) && ((at5 l i).1 != (at5 l (i - 1)).1 + 1)
def bad (key : T8) (l : List E5) (S : List T8) (i : Nat) : Bool := !eq8 (keyAt key l (i + 1)) (at8 S i) || gap l i
def find (key : T8) (l : List E5) (S : List T8) : Nat → Nat → Int × Int
  | 0, i => ((i : Int), 0)
  | k + 1, i => if bad key l S i = true then ((i : Int), 27) else find key l S k (i + 1)
theorem num_at {l : List E5} {i : Nat} (hi : i < l.length) : Option.map AV.d (List.drop 0 (List.drop (i * 5) (l.flatMap eE)))[0]? = some (AV.d (DV.v (Value.int IntKind.i64 (at5 l i).1))) ∧ dI (cel (List.drop (i * 5) (l.flatMap eE)) 0) = (at5 l i).1 := by
  refine ⟨at_k hi 0 _ (by decide) rfl, ?_⟩
  rw [cel_drop, Nat.add_zero]; exact (ent_at hi).c0
theorem F63_loop {key : T8} (l : List E5) (hl : l.length ≤ 256) (hz : ∀ j, j < l.length → entE (at5 l j) = 0) (S : List T8) (hS : S.length = l.length) : ∀ (k i : Nat), l.length = i + k →
    res B63 (.c1 l.length (l.flatMap eE) l.length (S.flatMap e8) (l.length : Int) l.length ((outs key l l.length).flatMap e8) (l.length : Int) (i : Int)) = some (find key l S k i)
  | 0, i, hk => by
    have : i = l.length := by omega
    subst this
    rw [res_eq]
    simp only [B63, F77_eq, sem_br, sem_bind_some, sem_sees, sem_ret, Int.lt_irrefl, decide_false, Bool.false_eq_true, if_false, stepO_ret]
    rfl
  | k + 1, i, hk => by
    have hi : i < l.length := by omega
    have h1 : (i : Int) < (l.length : Int) := by omega
    have ih := F63_loop (key := key) l hl hz S hS k (i + 1) (by omega)
    have hin : inI64 ((i : Int) + 1) := by unfold inI64; omega
    have ho := outs_len key l l.length
    have A := k_at (l := outs key l l.length) (i := i) (by omega)
    have B := k_at (l := S) (i := i) (by omega)
    rw [outs_at key l l.length i hi] at A
    have hb : bad key l S i = (!eq8 (keyAt key l (i + 1)) (at8 S i) || gap l i) := rfl
    generalize keyAt key l (i + 1) = x at A hb
    generalize at8 S i = y at B hb
    have hq : (x.1 == y.1 && (x.2.1 == y.2.1 && (x.2.2.1 == y.2.2.1 && (x.2.2.2.1 == y.2.2.2.1 && (x.2.2.2.2.1 == y.2.2.2.2.1 && (x.2.2.2.2.2.1 == y.2.2.2.2.2.1 && (x.2.2.2.2.2.2.1 == y.2.2.2.2.2.2.1 && (x.2.2.2.2.2.2.2 == y.2.2.2.2.2.2.2 && true)))))))) = eq8 x y := rfl
    have w27 : whenI true 27 = 27 := rfl
    obtain ⟨n1, n2⟩ := num_at hi
    have L := (ent_at hi).le
    rw [res_eq]
    by_cases he : eq8 x y = true
    · by_cases hz0 : i = 0
      · subst hz0
        have hbad : bad key l S 0 = false := by rw [hb, he]; rfl
        have g0 : ¬ ((0 : Nat) : Int) > 0 := by omega
        simp only [find, hbad, B63, sem_br, sem_ask, sem_nxt, sem_triv, sem_sees, sem_ret, sem_bind_some, PC.holds, need_true, Int.toNat_natCast, Int.natCast_nonneg, decide_true, if_true, stepO_nxt, stepO_ret, A.c0, A.c1, A.c2, A.c3, A.c4, A.c5, A.c6, A.c7, A.le, A.rm, A.row, B.c0, B.c1, B.c2, B.c3, B.c4, B.c5, B.c6, B.c7, B.le, B.rm, B.row, h1, hin, g0, hq, he, Bool.not_true, beq_self_eq_true, decide_false, Bool.false_eq_true, if_false]
        exact ih
      · have g0 : (i : Int) > 0 := by omega
        have g1 : (if (i : Int) - 1 > 0 then (i : Int) - 1 else 0) = ((i - 1 : Nat) : Int) := by split <;> omega
        have g2 : inI64 ((i : Int) - 1) := by unfold inI64; omega
        have g3 : ((i - 1 : Nat) : Int) < (l.length : Int) := by omega
        have hp : i - 1 < l.length := by omega
        obtain ⟨m1, m2⟩ := num_at hp
        have M := (ent_at hp).le
        obtain ⟨⟨p1, p2⟩, _⟩ := entI_zero.1 (hz (i - 1) hp)
        have g4 : inI64 ((at5 l (i - 1)).1 + 1) := by unfold inI64; omega
        have hg : gap l i = ((at5 l i).1 != (at5 l (i - 1)).1 + 1) := by
          unfold gap
          have : decide (0 < i) = true := by simpa using Nat.pos_of_ne_zero hz0
          rw [this, Bool.true_and]
        have hbad : bad key l S i = ((at5 l i).1 != (at5 l (i - 1)).1 + 1) := by rw [hb, he, hg]; rfl
        by_cases hn : ((at5 l i).1 != (at5 l (i - 1)).1 + 1) = true
        · simp only [find, hbad, hn, B63, F77_eq, sem_br, sem_ask, sem_nxt, sem_triv, sem_sees, sem_ret, sem_bind_some, PC.holds, need_true, Int.toNat_natCast, Int.natCast_nonneg, decide_true, if_true, stepO_nxt, stepO_ret, A.c0, A.c1, A.c2, A.c3, A.c4, A.c5, A.c6, A.c7, A.le, A.rm, A.row, B.c0, B.c1, B.c2, B.c3, B.c4, B.c5, B.c6, B.c7, B.le, B.rm, B.row, n1, n2, m1, m2, L, M, Nat.zero_le, h1, hin, g0, g1, g2, g3, g4, hq, he, Bool.not_true, beq_self_eq_true, w27, decide_false, Bool.false_eq_true, if_false]
        · have hn' : ((at5 l i).1 != (at5 l (i - 1)).1 + 1) = false := by simpa using hn
          simp only [find, hbad, hn', B63, F77_eq, sem_br, sem_ask, sem_nxt, sem_triv, sem_sees, sem_ret, sem_bind_some, PC.holds, need_true, Int.toNat_natCast, Int.natCast_nonneg, decide_true, if_true, stepO_nxt, stepO_ret, A.c0, A.c1, A.c2, A.c3, A.c4, A.c5, A.c6, A.c7, A.le, A.rm, A.row, B.c0, B.c1, B.c2, B.c3, B.c4, B.c5, B.c6, B.c7, B.le, B.rm, B.row, n1, n2, m1, m2, L, M, Nat.zero_le, h1, hin, g0, g1, g2, g3, g4, hq, he, Bool.not_true, beq_self_eq_true, decide_false, Bool.false_eq_true, if_false]
          exact ih
    · have he' : eq8 x y = false := by simpa using he
      have hbad : bad key l S i = true := by rw [hb, he']; rfl
      simp only [find, hbad, B63, F77_eq, sem_br, sem_ask, sem_nxt, sem_triv, sem_sees, sem_ret, sem_bind_some, PC.holds, need_true, Int.toNat_natCast, Int.natCast_nonneg, decide_true, if_true, stepO_nxt, stepO_ret, A.c0, A.c1, A.c2, A.c3, A.c4, A.c5, A.c6, A.c7, A.le, A.rm, A.row, B.c0, B.c1, B.c2, B.c3, B.c4, B.c5, B.c6, B.c7, B.le, B.rm, B.row, h1, hin, hq, he', Bool.not_false, beq_self_eq_true, w27, Bool.false_eq_true, if_false]
def lenE (l : List E5) (S : List T8) : Int := whenI ((S.length : Int) != (l.length : Int)) 2
theorem lenE_zero {l : List E5} {S : List T8} (h : lenE l S = 0) : S.length = l.length := by
  unfold lenE whenI at h
  by_cases hx : (S.length : Int) = (l.length : Int)
  · omega
  · have : ((S.length : Int) != (l.length : Int)) = true := by simpa using hx
    rw [this] at h; simp at h
theorem F63_eq {key : T8} (hkey : keyB key) (l : List E5) (hl : l.length ≤ 256) (S : List T8) : F63 key.1 key.2.1 key.2.2.1 key.2.2.2.1 key.2.2.2.2.1 key.2.2.2.2.2.1 key.2.2.2.2.2.2.1 key.2.2.2.2.2.2.2 l.length (l.flatMap eE) S.length (S.flatMap e8) = some (if firstI [sealE l, lenE l S] = 0 then find key l S l.length 0 else (0, firstI [sealE l, lenE l S])) := by
  unfold F63; rw [res_eq]
  have e1 : whenI ((S.length : Int) != (l.length : Int)) 2 = lenE l S := rfl
  by_cases h : firstI [sealE l, lenE l S] = 0
  · obtain ⟨h0, h2⟩ := firstI_zero .. |>.1 h
    obtain ⟨h2, _⟩ := firstI_zero .. |>.1 h2
    have hS := lenE_zero h2
    have hz := (sealE_zero h0).2
    have lp := F63_loop (key := key) l hl hz S hS l.length 0 (by omega)
    rw [if_pos h]
    simp only [B63, F103_eq l (by omega), F77_eq, e1, F75_2, h, F104_eq hkey l hl hz, sem_br, sem_bind_some, sem_sees, sem_nxt, bne_self_eq_false, Bool.false_eq_true, if_false, stepO_nxt]
    rw [hS]
    exact lp
  · have h' : (firstI [sealE l, lenE l S] != 0) = true := by simpa using h
    rw [if_neg h]
    simp only [B63, F103_eq l (by omega), F77_eq, e1, F75_2, h', sem_br, sem_bind_some, sem_sees, sem_ret, if_true, stepO_ret]
theorem F67_loop {key : T8} (hkey : keyB key) (l : List E5) (hl : l.length ≤ 256) (hz : ∀ j, j < l.length → entE (at5 l j) = 0) (S : List T8) (hS : S.length = l.length) : ∀ (k i : Nat) (x : T8), l.length = i + k → x = keyAt key l i →
    res B67 (.c1 l.length (l.flatMap eE) l.length (S.flatMap e8) (i : Int) x.1 x.2.1 x.2.2.1 x.2.2.2.1 x.2.2.2.2.1 x.2.2.2.2.2.1 x.2.2.2.2.2.2.1 x.2.2.2.2.2.2.2) = some (find key l S k i)
  | 0, i, x, hk, _ => by
    have : i = l.length := by omega
    subst this
    rw [res_eq]
    simp only [B67, sem_br, sem_ret, Int.lt_irrefl, decide_false, Bool.false_eq_true, if_false, stepO_ret]
    rfl
  | k + 1, i, x, hk, hx => by
    have hi : i < l.length := by omega
    have h1 : (i : Int) < (l.length : Int) := by omega
    have hin : inI64 ((i : Int) + 1) := by unfold inI64; omega
    have kb := keyAt_b hkey l i
    rw [← hx] at kb
    have f := F105_K kb (bD_b (at5 l i))
    have e1 : seal8 x (bD (blkE (at5 l i))) = keyAt key l (i + 1) := by rw [hx]; rfl
    rw [e1] at f
    have A := ent_at hi
    have B := k_at (l := S) (i := i) (by omega)
    have hb : bad key l S i = (!eq8 (keyAt key l (i + 1)) (at8 S i) || gap l i) := rfl
    have ih : eq8 (keyAt key l (i + 1)) (at8 S i) = true → res B67 (.c1 l.length (l.flatMap eE) l.length (S.flatMap e8) ((i + 1 : Nat) : Int) (at8 S i).1 (at8 S i).2.1 (at8 S i).2.2.1 (at8 S i).2.2.2.1 (at8 S i).2.2.2.2.1 (at8 S i).2.2.2.2.2.1 (at8 S i).2.2.2.2.2.2.1 (at8 S i).2.2.2.2.2.2.2) = some (find key l S k (i + 1)) := fun h => F67_loop hkey l hl hz S hS k (i + 1) (at8 S i) (by omega) (eq8_eq h).symm
    generalize keyAt key l (i + 1) = u at f hb ih
    generalize at8 S i = y at B hb ih
    have hq : (u.1 == y.1 && (u.2.1 == y.2.1 && (u.2.2.1 == y.2.2.1 && (u.2.2.2.1 == y.2.2.2.1 && (u.2.2.2.2.1 == y.2.2.2.2.1 && (u.2.2.2.2.2.1 == y.2.2.2.2.2.1 && (u.2.2.2.2.2.2.1 == y.2.2.2.2.2.2.1 && (u.2.2.2.2.2.2.2 == y.2.2.2.2.2.2.2 && true)))))))) = eq8 u y := rfl
    obtain ⟨n1, n2⟩ := num_at hi
    have L := A.le
    rw [res_eq]
    by_cases hz0 : i = 0
    · subst hz0
      have g0 : ¬ ((0 : Nat) : Int) > 0 := by omega
      have hg : gap l 0 = false := rfl
      by_cases he : eq8 u y = true
      · have hbad : bad key l S 0 = false := by rw [hb, he]; rfl
        have ih' := ih he
        simp only [find, hbad, B67, F53_E (hz 0 hi), f, sem_br, sem_ask, sem_nxt, sem_triv, sem_sees, sem_ret, sem_bind_some, PC.holds, need_true, Int.toNat_natCast, Int.natCast_nonneg, decide_true, if_true, stepO_nxt, stepO_ret, A.c0, A.c1, A.c2, A.c3, A.c4, A.le, A.rm, A.row, map_eE, B.c0, B.c1, B.c2, B.c3, B.c4, B.c5, B.c6, B.c7, B.le, B.rm, B.row, h1, hin, g0, hq, he, Bool.not_true, beq_self_eq_true, decide_false, Bool.false_eq_true, if_false]
        exact ih'
      · have he' : eq8 u y = false := by simpa using he
        have hbad : bad key l S 0 = true := by rw [hb, he']; rfl
        simp only [find, hbad, B67, F53_E (hz 0 hi), f, sem_br, sem_ask, sem_nxt, sem_triv, sem_sees, sem_ret, sem_bind_some, PC.holds, need_true, Int.toNat_natCast, Int.natCast_nonneg, decide_true, if_true, stepO_nxt, stepO_ret, A.c0, A.c1, A.c2, A.c3, A.c4, A.le, A.rm, A.row, map_eE, B.c0, B.c1, B.c2, B.c3, B.c4, B.c5, B.c6, B.c7, B.le, B.rm, B.row, h1, hin, g0, hq, he', Bool.not_false, beq_self_eq_true, decide_false, Bool.false_eq_true, if_false]
    · have g0 : (i : Int) > 0 := by omega
      have g1 : (i : Int) - 1 = ((i - 1 : Nat) : Int) := by omega
      have g2 : inI64 ((i - 1 : Nat) : Int) := by unfold inI64; omega
      have g3 : ((i - 1 : Nat) : Int) < (l.length : Int) := by omega
      have hp : i - 1 < l.length := by omega
      obtain ⟨m1, m2⟩ := num_at hp
      have M := (ent_at hp).le
      obtain ⟨⟨p1, p2⟩, _⟩ := entI_zero.1 (hz (i - 1) hp)
      have g4 : inI64 ((at5 l (i - 1)).1 + 1) := by unfold inI64; omega
      have hg : gap l i = ((at5 l i).1 != (at5 l (i - 1)).1 + 1) := by
        unfold gap
        have : decide (0 < i) = true := by simpa using Nat.pos_of_ne_zero hz0
        rw [this, Bool.true_and]
      by_cases hn : ((at5 l i).1 != (at5 l (i - 1)).1 + 1) = true
      · have hbad : bad key l S i = true := by rw [hb, hg, hn]; cases eq8 u y <;> rfl
        simp only [find, hbad, B67, F53_E (hz i hi), hn, sem_br, sem_ask, sem_nxt, sem_triv, sem_sees, sem_ret, sem_bind_some, PC.holds, need_true, Int.toNat_natCast, Int.natCast_nonneg, decide_true, if_true, stepO_nxt, stepO_ret, A.c0, A.c1, A.c2, A.c3, A.c4, A.le, A.rm, A.row, map_eE, B.c0, B.c1, B.c2, B.c3, B.c4, B.c5, B.c6, B.c7, B.le, B.rm, B.row, n1, n2, m1, m2, L, M, Nat.zero_le, h1, hin, g0, g1, g2, g3, g4, beq_self_eq_true, decide_false, Bool.false_eq_true, if_false, Bool.not_true, ite_self]
      · have hn' : ((at5 l i).1 != (at5 l (i - 1)).1 + 1) = false := by simpa using hn
        by_cases he : eq8 u y = true
        · have hbad : bad key l S i = false := by rw [hb, he, hg, hn']; rfl
          have ih' := ih he
          simp only [find, hbad, B67, F53_E (hz i hi), f, hn', sem_br, sem_ask, sem_nxt, sem_triv, sem_sees, sem_ret, sem_bind_some, PC.holds, need_true, Int.toNat_natCast, Int.natCast_nonneg, decide_true, if_true, stepO_nxt, stepO_ret, A.c0, A.c1, A.c2, A.c3, A.c4, A.le, A.rm, A.row, map_eE, B.c0, B.c1, B.c2, B.c3, B.c4, B.c5, B.c6, B.c7, B.le, B.rm, B.row, n1, n2, m1, m2, L, M, Nat.zero_le, h1, hin, g0, g1, g2, g3, g4, hq, he, Bool.not_true, beq_self_eq_true, decide_false, Bool.false_eq_true, if_false]
          exact ih'
        · have he' : eq8 u y = false := by simpa using he
          have hbad : bad key l S i = true := by rw [hb, he']; rfl
          simp only [find, hbad, B67, F53_E (hz i hi), f, hn', sem_br, sem_ask, sem_nxt, sem_triv, sem_sees, sem_ret, sem_bind_some, PC.holds, need_true, Int.toNat_natCast, Int.natCast_nonneg, decide_true, if_true, stepO_nxt, stepO_ret, A.c0, A.c1, A.c2, A.c3, A.c4, A.le, A.rm, A.row, map_eE, B.c0, B.c1, B.c2, B.c3, B.c4, B.c5, B.c6, B.c7, B.le, B.rm, B.row, n1, n2, m1, m2, L, M, Nat.zero_le, h1, hin, g0, g1, g2, g3, g4, hq, he', Bool.not_false, beq_self_eq_true, decide_false, Bool.false_eq_true, if_false]
theorem F67_eq {key : T8} (hkey : keyB key) (l : List E5) (hl : l.length ≤ 256) (hz : ∀ j, j < l.length → entE (at5 l j) = 0) (S : List T8) : F67 key.1 key.2.1 key.2.2.1 key.2.2.2.1 key.2.2.2.2.1 key.2.2.2.2.2.1 key.2.2.2.2.2.2.1 key.2.2.2.2.2.2.2 l.length (l.flatMap eE) S.length (S.flatMap e8) = some (if lenE l S = 0 then find key l S l.length 0 else (0, 2)) := by
  unfold F67; rw [res_eq]
  by_cases h : (S.length : Int) = (l.length : Int)
  · have hS : S.length = l.length := by omega
    have h0 : lenE l S = 0 := by unfold lenE; rw [h]; simp [whenI]
    have lp := F67_loop hkey l hl hz S hS l.length 0 key (by omega) rfl
    rw [if_pos h0]
    simp only [B67, h, sem_br, sem_nxt, bne_self_eq_false, Bool.false_eq_true, if_false, stepO_nxt]
    rw [hS]
    exact lp
  · have h' : ((S.length : Int) != (l.length : Int)) = true := by simpa using h
    have h0 : lenE l S = 2 := by unfold lenE; rw [h']; rfl
    rw [h0, if_neg (by decide)]
    simp only [B67, h', sem_br, sem_ret, if_true, stepO_ret]
theorem seals_true {key : T8} (hkey : keyB key) (l : List E5) (S : List T8) : F10 key.1 key.2.1 key.2.2.1 key.2.2.2.1 key.2.2.2.2.1 key.2.2.2.2.2.1 key.2.2.2.2.2.2.1 key.2.2.2.2.2.2.2 l.length (l.flatMap eE) S.length (S.flatMap e8) = some true := by
  have h12 : F12 = some true := rfl
  have h60 : F60 l.length (l.flatMap eE) = some (shortI l) := by
    unfold F60; rw [res_eq]
    simp only [B60, sem_triv, sem_ret, stepO_ret]
    rfl
  unfold F10; rw [res_eq]
  by_cases hg : (if (!shortI l) = true then true else decide ((S.length : Int) > 14)) = true
  · simp only [B10, h60, hg, h12, sem_bind_some, sem_sees, sem_triv, sem_br, sem_ret, if_true, stepO_ret]
  · have hg' : (if (!shortI l) = true then true else decide ((S.length : Int) > 14)) = false := by simpa using hg
    have hs : shortI l = true := by
      cases hx : shortI l with
      | true => rfl
      | false => rw [hx] at hg; simp at hg
    have hS : S.length ≤ 1000 := by
      rw [hs] at hg; simp at hg; omega
    have hl := short_le hs
    have f62 := F62_eq l (by omega)
    have f61 := F61_eq hkey l (by omega)
    have f63 := F63_eq hkey l (by omega) S
    have f64 := F64_eq S hS
    have f65 := F65_eq l (by omega)
    by_cases h : sealE l = 0
    · have hz := (sealE_zero h).2
      have f66 := F66_eq hkey l (by omega) hz
      have f67 := F67_eq hkey l (by omega) hz S
      have ho := outs_len key l l.length
      have f68 := F68_same (outs key l l.length) (by rw [ho]; omega)
      rw [ho] at f68
      have e1 : firstI [sealE l, lenE l S] = lenE l S := by
        rw [h]; show (if lenE l S = 0 then 0 else lenE l S) = _
        split
        · rename_i hh; exact hh.symm
        · rfl
      have e2 : (if lenE l S = 0 then find key l S l.length 0 else (0, lenE l S)) = (if lenE l S = 0 then find key l S l.length 0 else (0, 2)) := by
        by_cases hx : lenE l S = 0
        · rw [if_pos hx, if_pos hx]
        · rw [if_neg hx, if_neg hx]
          have : lenE l S = 2 := by
            unfold lenE whenI at hx ⊢
            split at hx
            · rename_i hb; rw [if_pos hb]
            · contradiction
          rw [this]
      rw [e1, e2] at f63
      rw [if_pos h] at f61
      simp only [B10, h60, hg', f61, f62, f63, f64, f65, h, f66, f67, f68, h12, sem_bind_some, sem_sees, sem_triv, sem_br, sem_ret, beq_self_eq_true, Bool.false_eq_true, if_false, if_true, stepO_ret]
    · have h' : (sealE l == 0) = false := by simpa using h
      have e1 : firstI [sealE l, lenE l S] = sealE l := by
        show (if sealE l = 0 then _ else sealE l) = _
        rw [if_neg h]
      rw [e1, if_neg h] at f63
      rw [if_neg h] at f61
      simp only [B10, h60, hg', f61, f62, f63, f64, f65, h', F68_nil, h12, sem_bind_some, sem_sees, sem_triv, sem_br, sem_ret, beq_self_eq_true, Bool.false_eq_true, if_false, if_true, stepO_ret]
end Go.Kv
