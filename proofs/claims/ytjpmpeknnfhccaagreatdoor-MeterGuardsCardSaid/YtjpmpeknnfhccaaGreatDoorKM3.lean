import Derived.Test.YtjpmpeknnfhccaaGreatDoorKM2
namespace Go.Kv
set_option linter.unusedVariables false
set_option linter.unusedSimpArgs false
open Go Go.RowKit Go.Proofs
set_option maxRecDepth 100000
section
open Go Go.RowKit
theorem F96_c2 (l : List E5) (hl : l.length ≤ 1000) : ∀ (k i e : Nat), l.length = i + k → res B96 (.c2 e i ((l.take i).flatMap eV) l.length (l.flatMap eE) (l.length : Int) (i : Int) e) = some (l.length, l.flatMap eV)
  | 0, i, e, hk => by
    rw [res_eq]
    have : ¬ ((i : Int) < (l.length : Int)) := by omega
    have h2 : i = l.length := by omega
    subst h2
    simp only [B96, sem_br, sem_ret, this, decide_false, Bool.false_eq_true, if_false, stepO_ret, List.take_length]
  | k + 1, i, e, hk => by
    have hi : i < l.length := by omega
    have h1 : (i : Int) < (l.length : Int) := by omega
    have ih := F96_c2 l hl k (i + 1) (e + 1) (by omega)
    have hin : inI64 ((i : Int) + 1) := by unfold inI64; omega
    have hf : fitsN (i + 1) 8 := by unfold fitsN; omega
    have A := ent_at hi
    rw [snocG hi] at ih
    rw [res_eq]
    simp only [B96, sem_br, sem_ask, sem_nxt, sem_triv, sem_sees, sem_ret, sem_bind_some, PC.holds, need_true, Int.toNat_natCast, Int.toNat_zero, A.c0, A.c1, A.c2, A.c3, A.c4, A.le, A.rm, A.row, map_eE, h1, decide_true, if_true, Int.natCast_nonneg, Int.le_refl, stepO_nxt, stepO_ret, hin, hf, F54_eq]
    exact ih
theorem F96_eq (l : List E5) (hl : l.length ≤ 1000) : F96 l.length (l.flatMap eE) = some (l.length, l.flatMap eV) := by
  unfold F96; rw [res_eq]
  simp only [B96, sem_nxt, stepO_nxt]
  rw [res_eq]
  by_cases h0 : l = []
  · subst h0; rfl
  · have hi : 0 < l.length := List.length_pos_iff.2 h0
    have h1 : (0 : Int) < (l.length : Int) := by omega
    have hin : inI64 ((0 : Int) + 1) := by unfold inI64; omega
    have A := ent_at hi
    have ih := F96_c2 l hl (l.length - 1) 1 0 (by omega)
    rw [snocG hi] at ih
    simp only [B96, sem_br, sem_ask, sem_nxt, sem_triv, sem_sees, sem_ret, sem_bind_some, PC.holds, need_true, Int.toNat_natCast, Int.toNat_zero, A.c0, A.c1, A.c2, A.c3, A.c4, A.le, A.rm, A.row, map_eE, h1, decide_true, if_true, Int.natCast_nonneg, Int.le_refl, stepO_nxt, stepO_ret, hin, F54_eq]
    exact ih
theorem F56_eq (l : List E5) (hl : l.length ≤ 1000) : F56 l.length (l.flatMap eE) = some (sealE l) := by
  unfold F56 sealE; rw [res_eq]
  have e := F42_eq (l.map entE) (by simp; omega)
  rw [List.length_map, ← eV_map] at e
  by_cases h : (l.length : Int) > 64
  · simp only [B56, h, sem_br, sem_ret, decide_true, if_true, stepO_ret]
  · simp only [B56, h, F96_eq l hl, e, sem_br, sem_ret, sem_bind_some, sem_sees, decide_false, Bool.false_eq_true, if_false, stepO_ret]
theorem F17_eq {key : T8} (hkey : keyB key) (l : List E5) (hl : l.length ≤ 256) : F17 key.1 key.2.1 key.2.2.1 key.2.2.2.1 key.2.2.2.2.1 key.2.2.2.2.2.1 key.2.2.2.2.2.2.1 key.2.2.2.2.2.2.2 l.length (l.flatMap eE) = some (if sealE l = 0 then (l.length, (outs key l l.length).flatMap e8, 0) else (0, [], sealE l)) := by
  unfold F17; rw [res_eq]
  by_cases h : sealE l = 0
  · rw [if_pos h]
    simp only [B17, F56_eq l (by omega), h, F57_eq hkey l hl (sealE_zero h).2, sem_br, sem_bind_some, sem_sees, sem_ret, bne_self_eq_false, Bool.false_eq_true, if_false, stepO_ret]
  · have h' : (sealE l != 0) = true := by simpa using h
    rw [if_neg h]
    simp only [B17, F56_eq l (by omega), h', sem_br, sem_bind_some, sem_sees, sem_ret, if_true, stepO_ret]
theorem F18f_c2 (l : List E5) (hl : l.length ≤ 1000) (hp : 0 < l.length) : ∀ (k i e : Nat), l.length = i + k → res B18f (.c2 e i ((l.take i).flatMap eE) l.length (l.flatMap eE) (l.length : Int) (i : Int) e) = some (l.length, l.flatMap eE)
  | 0, i, e, hk => by
    rw [res_eq]
    have : ¬ ((i : Int) < (l.length : Int)) := by omega
    have h2 : i = l.length := by omega
    subst h2
    simp only [B18f, sem_br, sem_ask, sem_ret, PC.holds, need_true, need_of hp, this, decide_false, Bool.false_eq_true, if_false, stepO_ret, List.take_length]
  | k + 1, i, e, hk => by
    have hi : i < l.length := by omega
    have h1 : (i : Int) < (l.length : Int) := by omega
    have ih := F18f_c2 l hl hp k (i + 1) (e + 1) (by omega)
    have hin : inI64 ((i : Int) + 1) := by unfold inI64; omega
    have hf : fitsN (i + 1) 40 := by unfold fitsN; omega
    have A := ent_at hi
    rw [take_snoc hi] at ih
    rw [res_eq]
    simp only [B18f, sem_br, sem_ask, sem_nxt, PC.holds, need_true, Int.toNat_natCast, A.c0, A.c1, A.c2, A.c3, A.c4, A.le, A.rm, A.row, map_eE, h1, hin, hf, decide_true, if_true, Int.natCast_nonneg, stepO_nxt]
    exact ih
theorem F18f_eq (l : List E5) (hl : l.length ≤ 1000) : F18f l.length (l.flatMap eE) = some (l.length, l.flatMap eE) := by
  unfold F18f; rw [res_eq]
  simp only [B18f, sem_nxt, stepO_nxt]
  rw [res_eq]
  by_cases h0 : l = []
  · subst h0; rfl
  · have hi : 0 < l.length := List.length_pos_iff.2 h0
    have h1 : (0 : Int) < (l.length : Int) := by omega
    have hin : inI64 ((0 : Int) + 1) := by unfold inI64; omega
    have A := ent_at hi
    have ih := F18f_c2 l hl hi (l.length - 1) 1 0 (by omega)
    rw [take_snoc hi] at ih
    simp only [B18f, sem_br, sem_ask, sem_nxt, PC.holds, need_true, Int.toNat_zero, A.c0, A.c1, A.c2, A.c3, A.c4, A.le, A.rm, A.row, map_eE, h1, hin, decide_true, if_true, Int.le_refl, stepO_nxt]
    exact ih
theorem F15_E {x : E5} (h : entE x = 0) : F15 x.1 x.2.1 x.2.2.1 x.2.2.2.1 x.2.2.2.2 = some ((blkE x).1, (blkE x).2.1, (blkE x).2.2.1, (blkE x).2.2.2.1, (blkE x).2.2.2.2.1, (blkE x).2.2.2.2.2.1, (blkE x).2.2.2.2.2.2.1, (blkE x).2.2.2.2.2.2.2.1, (blkE x).2.2.2.2.2.2.2.2.1, (blkE x).2.2.2.2.2.2.2.2.2.1, (blkE x).2.2.2.2.2.2.2.2.2.2.1, (blkE x).2.2.2.2.2.2.2.2.2.2.2.1, (blkE x).2.2.2.2.2.2.2.2.2.2.2.2.1, (blkE x).2.2.2.2.2.2.2.2.2.2.2.2.2.1, (blkE x).2.2.2.2.2.2.2.2.2.2.2.2.2.2, 0) := by
  unfold F15; rw [res_eq]
  have h1 : F54 x.1 x.2.1 x.2.2.1 x.2.2.2.1 x.2.2.2.2 = some 0 := by rw [F54_eq]; exact congrArg some h
  simp only [B15, h1, F41_E h, sem_br, sem_bind_some, sem_sees, sem_ret, bne_self_eq_false, Bool.false_eq_true, if_false, stepO_ret]
theorem eq8_self (a : T8) : eq8 a a = true := by simp only [eq8, beq_self_eq_true, Bool.and_true]
theorem eq8_eq {a b : T8} (h : eq8 a b = true) : a = b := by
  unfold eq8 at h
  simp only [Bool.and_eq_true, beq_iff_eq, and_true] at h
  obtain ⟨h0, h1, h2, h3, h4, h5, h6, h7⟩ := h
  exact Prod.ext h0 (Prod.ext h1 (Prod.ext h2 (Prod.ext h3 (Prod.ext h4 (Prod.ext h5 (Prod.ext h6 h7))))))
theorem F20ef_eq (S : List T8) (hl : S.length ≤ 1000) : F20ef S.length (S.flatMap e8) = some (S.length, S.flatMap e8) := by
  unfold F20ef; rw [res_eq]
  have hf : fitsN S.length 8 := by unfold fitsN; omega
  have hf0 : fitsN (0 + S.length) 8 := by rw [Nat.zero_add]; exact hf
  have hl8 : (S.flatMap e8).length = S.length * 8 := fm_len e8_len S
  simp only [B20ef, sem_br, sem_ask, sem_triv, sem_ret, PC.holds, need_true, need_of hf0, hf, hl8, Nat.zero_add, List.nil_append, stepO_ret]
def gap (l : List E5) (i : Nat) : Bool := decide (0 < i) && ((at5 l i).1 != (at5 l (i - 1)).1 + 1)
def bad (key : T8) (l : List E5) (S : List T8) (i : Nat) : Bool := !eq8 (keyAt key l (i + 1)) (at8 S i) || gap l i
def find (key : T8) (l : List E5) (S : List T8) : Nat → Nat → Int × Int
  | 0, i => ((i : Int), 0)
  | k + 1, i => if bad key l S i = true then ((i : Int), 27) else find key l S k (i + 1)
theorem num_at {l : List E5} {i : Nat} (hi : i < l.length) : Option.map AV.d (List.drop 0 (List.drop (i * 5) (l.flatMap eE)))[0]? = some (AV.d (DV.v (Value.int IntKind.i64 (at5 l i).1))) ∧ dI (cel (List.drop (i * 5) (l.flatMap eE)) 0) = (at5 l i).1 := by
  refine ⟨at_k hi 0 _ (by decide) rfl, ?_⟩
  rw [cel_drop, Nat.add_zero]; exact (ent_at hi).c0
theorem F19_loop {key : T8} (l : List E5) (hl : l.length ≤ 256) (hz : ∀ j, j < l.length → entE (at5 l j) = 0) (S : List T8) (hS : S.length = l.length) : ∀ (k i : Nat), l.length = i + k →
    res B19 (.c1 l.length (l.flatMap eE) l.length (S.flatMap e8) (l.length : Int) l.length ((outs key l l.length).flatMap e8) (l.length : Int) (i : Int)) = some (find key l S k i)
  | 0, i, hk => by
    have : i = l.length := by omega
    subst this
    rw [res_eq]
    simp only [B19, F43_eq, sem_br, sem_bind_some, sem_sees, sem_ret, Int.lt_irrefl, decide_false, Bool.false_eq_true, if_false, stepO_ret]
    rfl
  | k + 1, i, hk => by
    have hi : i < l.length := by omega
    have h1 : (i : Int) < (l.length : Int) := by omega
    have ih := F19_loop (key := key) l hl hz S hS k (i + 1) (by omega)
    have hin : inI64 ((i : Int) + 1) := by unfold inI64; omega
    have ho := outs_len key l l.length
    have A := k_at (l := outs key l l.length) (i := i) (by omega)
    have B := k_at (l := S) (i := i) (by omega)
    rw [outs_at key l l.length i hi] at A
    have hb : bad key l S i = (!eq8 (keyAt key l (i + 1)) (at8 S i) || gap l i) := rfl
    generalize keyAt key l (i + 1) = x at A hb
    generalize at8 S i = y at B hb
    have hq : (x.1 == y.1 && (x.2.1 == y.2.1 && (x.2.2.1 == y.2.2.1 && (x.2.2.2.1 == y.2.2.2.1 && (x.2.2.2.2.1 == y.2.2.2.2.1 && (x.2.2.2.2.2.1 == y.2.2.2.2.2.1 && (x.2.2.2.2.2.2.1 == y.2.2.2.2.2.2.1 && (x.2.2.2.2.2.2.2 == y.2.2.2.2.2.2.2 && true)))))))) = eq8 x y := rfl
    have w27 : whenI true 27 = 27 := rfl
    obtain ⟨n1, n2⟩ := num_at hi
    have L := (ent_at hi).le
    rw [res_eq]
    by_cases he : eq8 x y = true
    · by_cases hz0 : i = 0
      · subst hz0
        have hbad : bad key l S 0 = false := by rw [hb, he]; rfl
        have g0 : ¬ ((0 : Nat) : Int) > 0 := by omega
        simp only [find, hbad, B19, sem_br, sem_ask, sem_nxt, sem_triv, sem_sees, sem_ret, sem_bind_some, PC.holds, need_true, Int.toNat_natCast, Int.natCast_nonneg, decide_true, if_true, stepO_nxt, stepO_ret, A.c0, A.c1, A.c2, A.c3, A.c4, A.c5, A.c6, A.c7, A.le, A.rm, A.row, B.c0, B.c1, B.c2, B.c3, B.c4, B.c5, B.c6, B.c7, B.le, B.rm, B.row, h1, hin, g0, hq, he, Bool.not_true, beq_self_eq_true, decide_false, Bool.false_eq_true, if_false]
        exact ih
      · have g0 : (i : Int) > 0 := by omega
        have g1 : (if (i : Int) - 1 > 0 then (i : Int) - 1 else 0) = ((i - 1 : Nat) : Int) := by split <;> omega
        have g2 : inI64 ((i : Int) - 1) := by unfold inI64; omega
        have g3 : ((i - 1 : Nat) : Int) < (l.length : Int) := by omega
        have hp : i - 1 < l.length := by omega
        obtain ⟨m1, m2⟩ := num_at hp
        have M := (ent_at hp).le
        obtain ⟨⟨p1, p2⟩, _⟩ := entI_zero.1 (hz (i - 1) hp)
        have g4 : inI64 ((at5 l (i - 1)).1 + 1) := by unfold inI64; omega
        have hg : gap l i = ((at5 l i).1 != (at5 l (i - 1)).1 + 1) := by
          unfold gap
          have : decide (0 < i) = true := by simpa using Nat.pos_of_ne_zero hz0
          rw [this, Bool.true_and]
        have hbad : bad key l S i = ((at5 l i).1 != (at5 l (i - 1)).1 + 1) := by rw [hb, he, hg]; rfl
        by_cases hn : ((at5 l i).1 != (at5 l (i - 1)).1 + 1) = true
        · simp only [find, hbad, hn, B19, F43_eq, sem_br, sem_ask, sem_nxt, sem_triv, sem_sees, sem_ret, sem_bind_some, PC.holds, need_true, Int.toNat_natCast, Int.natCast_nonneg, decide_true, if_true, stepO_nxt, stepO_ret, A.c0, A.c1, A.c2, A.c3, A.c4, A.c5, A.c6, A.c7, A.le, A.rm, A.row, B.c0, B.c1, B.c2, B.c3, B.c4, B.c5, B.c6, B.c7, B.le, B.rm, B.row, n1, n2, m1, m2, L, M, Nat.zero_le, h1, hin, g0, g1, g2, g3, g4, hq, he, Bool.not_true, beq_self_eq_true, w27, decide_false, Bool.false_eq_true, if_false]
        · have hn' : ((at5 l i).1 != (at5 l (i - 1)).1 + 1) = false := by simpa using hn
          simp only [find, hbad, hn', B19, F43_eq, sem_br, sem_ask, sem_nxt, sem_triv, sem_sees, sem_ret, sem_bind_some, PC.holds, need_true, Int.toNat_natCast, Int.natCast_nonneg, decide_true, if_true, stepO_nxt, stepO_ret, A.c0, A.c1, A.c2, A.c3, A.c4, A.c5, A.c6, A.c7, A.le, A.rm, A.row, B.c0, B.c1, B.c2, B.c3, B.c4, B.c5, B.c6, B.c7, B.le, B.rm, B.row, n1, n2, m1, m2, L, M, Nat.zero_le, h1, hin, g0, g1, g2, g3, g4, hq, he, Bool.not_true, beq_self_eq_true, decide_false, Bool.false_eq_true, if_false]
          exact ih
    · have he' : eq8 x y = false := by simpa using he
      have hbad : bad key l S i = true := by rw [hb, he']; rfl
      simp only [find, hbad, B19, F43_eq, sem_br, sem_ask, sem_nxt, sem_triv, sem_sees, sem_ret, sem_bind_some, PC.holds, need_true, Int.toNat_natCast, Int.natCast_nonneg, decide_true, if_true, stepO_nxt, stepO_ret, A.c0, A.c1, A.c2, A.c3, A.c4, A.c5, A.c6, A.c7, A.le, A.rm, A.row, B.c0, B.c1, B.c2, B.c3, B.c4, B.c5, B.c6, B.c7, B.le, B.rm, B.row, h1, hin, hq, he', Bool.not_false, beq_self_eq_true, w27, Bool.false_eq_true, if_false]
def lenE (l : List E5) (S : List T8) : Int := whenI ((S.length : Int) != (l.length : Int)) 2
theorem lenE_zero {l : List E5} {S : List T8} (h : lenE l S = 0) : S.length = l.length := by
  unfold lenE whenI at h
  by_cases hx : (S.length : Int) = (l.length : Int)
  · omega
  · have : ((S.length : Int) != (l.length : Int)) = true := by simpa using hx
    rw [this] at h; simp at h
theorem F19_eq {key : T8} (hkey : keyB key) (l : List E5) (hl : l.length ≤ 256) (S : List T8) : F19 key.1 key.2.1 key.2.2.1 key.2.2.2.1 key.2.2.2.2.1 key.2.2.2.2.2.1 key.2.2.2.2.2.2.1 key.2.2.2.2.2.2.2 l.length (l.flatMap eE) S.length (S.flatMap e8) = some (if firstI [sealE l, lenE l S] = 0 then find key l S l.length 0 else (0, firstI [sealE l, lenE l S])) := by
  unfold F19; rw [res_eq]
  have e1 : whenI ((S.length : Int) != (l.length : Int)) 2 = lenE l S := rfl
  by_cases h : firstI [sealE l, lenE l S] = 0
  · obtain ⟨h0, h2⟩ := firstI_zero .. |>.1 h
    obtain ⟨h2, _⟩ := firstI_zero .. |>.1 h2
    have hS := lenE_zero h2
    have hz := (sealE_zero h0).2
    have lp := F19_loop (key := key) l hl hz S hS l.length 0 (by omega)
    rw [if_pos h]
    simp only [B19, F56_eq l (by omega), F43_eq, e1, F42_2, h, F57_eq hkey l hl hz, sem_br, sem_bind_some, sem_sees, sem_nxt, bne_self_eq_false, Bool.false_eq_true, if_false, stepO_nxt]
    rw [hS]
    exact lp
  · have h' : (firstI [sealE l, lenE l S] != 0) = true := by simpa using h
    rw [if_neg h]
    simp only [B19, F56_eq l (by omega), F43_eq, e1, F42_2, h', sem_br, sem_bind_some, sem_sees, sem_ret, if_true, stepO_ret]
end
section
open Go Go.RowKit
theorem by_blk {x : E5} (h : entE x = 0) : entT (bD (blkE x)) = x ∧ errT (bD (blkE x)) = 0 := by
  have hz := entI_zero.1 h
  obtain ⟨a, b, c, d, m⟩ := x
  simp only at hz
  obtain ⟨⟨a1, a2⟩, ⟨b1, b2⟩, ⟨c1, c2⟩, ⟨d1, d2⟩, m1, m2⟩ := hz
  have e : entT (bD (blkE (a, b, c, d, m))) = (a, b, c, d, m) := by
    simp only [entT, bD, blkE, blk, List.getD_cons_zero, List.getD_cons_succ, by4, by3, Prod.mk.injEq]
    refine ⟨?_, ?_, ?_, ?_, ?_⟩ <;> omega
  refine ⟨e, ?_⟩
  unfold errT
  rw [if_pos (by rfl), e]
  exact h
theorem blk_by {C : List Int} (hl : C.length = 16) (hb : ∀ b ∈ C, ByteI b) (h : errT C = 0) : bD (blkE (entT C)) = C := by
  have hz := entI_zero.1 (errT_ent h)
  have h15 : C.getD 15 0 = 0 := by
    unfold errT at h
    split at h
    · assumption
    · contradiction
  have hg := fun i => bytes_getD hb i
  match C, hl with
  | [c0, c1, c2, c3, c4, c5, c6, c7, c8, c9, c10, c11, c12, c13, c14, c15], _ =>
    simp only [List.getD_cons_zero, List.getD_cons_succ] at h15
    have b0 := hg 0; have b1 := hg 1; have b2 := hg 2; have b3 := hg 3; have b4 := hg 4; have b5 := hg 5; have b6 := hg 6; have b7 := hg 7
    have b8 := hg 8; have b9 := hg 9; have b10 := hg 10; have b11 := hg 11; have b12 := hg 12; have b13 := hg 13; have b14 := hg 14
    simp only [List.getD_cons_zero, List.getD_cons_succ, ByteI] at b0 b1 b2 b3 b4 b5 b6 b7 b8 b9 b10 b11 b12 b13 b14
    simp only [entT, List.getD_cons_zero, List.getD_cons_succ, by4, by3] at hz
    subst h15
    simp only [entT, bD, blkE, blk, List.getD_cons_zero, List.getD_cons_succ, by4, by3, List.cons.injEq, and_true]
    refine ⟨?_, ?_, ?_, ?_, ?_, ?_, ?_, ?_, ?_, ?_, ?_, ?_, ?_, ?_, ?_⟩ <;> omega
theorem seal8_inj {x y : T8} (hx : keyB x) (hy : keyB y) (ds : List Int) (h : seal8 x ds = seal8 y ds) : x = y := by
  obtain ⟨x0, x1, x2, x3, x4, x5, x6, x7⟩ := x
  obtain ⟨y0, y1, y2, y3, y4, y5, y6, y7⟩ := y
  simp only [seal8, Prod.mk.injEq] at h
  simp only [keyB] at hx hy
  obtain ⟨h0, h1, h2, h3, h4, h5, h6, h7⟩ := h
  obtain ⟨p0, p1, p2, p3, p4, p5, p6, p7⟩ := hx
  obtain ⟨q0, q1, q2, q3, q4, q5, q6, q7⟩ := hy
  rw [fS_inj (by decide) ds p0 q0 h0, fS_inj (by decide) ds p1 q1 h1, fS_inj (by decide) ds p2 q2 h2, fS_inj (by decide) ds p3 q3 h3, fS_inj (by decide) ds p4 q4 h4, fS_inj (by decide) ds p5 q5 h5, fS_inj (by decide) ds p6 q6 h6, fS_inj (by decide) ds p7 q7 h7]
theorem seal8_byte {x : T8} {ds : List Int} {i : Nat} (hi : i < ds.length) {c : Int} (hd : ByteI ds[i]) (hc : ByteI c) (h : seal8 x (ds.set i c) = seal8 x ds) : c = ds[i] := by
  simp only [seal8, Prod.mk.injEq] at h
  exact fS_byte (by decide) hi hd hc h.1
theorem keyAt_congr {key : T8} {A B : List E5} : ∀ {i : Nat}, (∀ j, j < i → at5 A j = at5 B j) → keyAt key A i = keyAt key B i
  | 0, _ => rfl
  | i + 1, h => by
    simp only [keyAt]
    rw [keyAt_congr (fun j hj => h j (by omega)), h i (by omega)]
theorem keyAt_apart {key : T8} (hk : keyB key) {A B : List E5} {i : Nat} (h : keyAt key A i ≠ keyAt key B i) : ∀ {n : Nat}, i ≤ n → (∀ j, i ≤ j → j < n → at5 A j = at5 B j) → keyAt key A n ≠ keyAt key B n
  | 0, hn, _ => by
    have : i = 0 := by omega
    subst this
    exact h
  | n + 1, hn, hs => by
    by_cases he : i = n + 1
    · subst he; exact h
    · intro hc
      simp only [keyAt] at hc
      rw [hs n (by omega) (by omega)] at hc
      exact keyAt_apart hk h (n := n) (by omega) (fun j h1 h2 => hs j h1 (by omega)) (seal8_inj (keyAt_b hk _ _) (keyAt_b hk _ _) _ hc)
theorem find_at {key : T8} {l : List E5} {S : List T8} {k : Nat} : ∀ {m i : Nat}, i ≤ k → k < i + m → (∀ j, i ≤ j → j < k → bad key l S j = false) → bad key l S k = true → find key l S m i = ((k : Int), 27)
  | 0, i, h1, h2, _, _ => by omega
  | m + 1, i, h1, h2, h3, h4 => by
    unfold find
    by_cases he : i = k
    · subst he; rw [if_pos h4]
    · rw [if_neg (by rw [h3 i (Nat.le_refl _) (by omega)]; simp)]
      exact find_at (by omega) (by omega) (fun j a b => h3 j (by omega) b) h4
theorem find_none_ {key : T8} {l : List E5} {S : List T8} : ∀ {m i : Nat}, (∀ j, i ≤ j → j < i + m → bad key l S j = false) → find key l S m i = (((i + m : Nat) : Int), 0)
  | 0, i, _ => rfl
  | m + 1, i, h => by
    unfold find
    rw [if_neg (by rw [h i (Nat.le_refl _) (by omega)]; simp), find_none_ (fun j a b => h j (by omega) (by omega))]
    congr 2; omega
theorem bad_no {key : T8} {l : List E5} {S : List T8} {i : Nat} (h1 : keyAt key l (i + 1) = at8 S i) (h2 : 0 < i → (at5 l i).1 = (at5 l (i - 1)).1 + 1) : bad key l S i = false := by
  unfold bad gap
  rw [h1, eq8_self]
  by_cases hi : 0 < i
  · simp [hi, h2 hi]
  · simp [hi]
theorem bad_key {key : T8} {l : List E5} {S : List T8} {i : Nat} (h1 : keyAt key l (i + 1) ≠ at8 S i) : bad key l S i = true := by
  unfold bad
  have : eq8 (keyAt key l (i + 1)) (at8 S i) = false := by
    cases h : eq8 (keyAt key l (i + 1)) (at8 S i) with
    | false => rfl
    | true => exact absurd (eq8_eq h) h1
  rw [this]; rfl
theorem bad_gap {key : T8} {l : List E5} {S : List T8} {i : Nat} (hi : 0 < i) (h : (at5 l i).1 ≠ (at5 l (i - 1)).1 + 1) : bad key l S i = true := by
  unfold bad gap
  simp [hi, h]
def Row (n0 : Int) (A : List E5) : Prop := ∀ j, j < A.length → (at5 A j).1 = n0 + j
variable {key : T8} {A : List E5} {n0 : Int}
theorem find_self (hr : Row n0 A) : find key A (outs key A A.length) A.length 0 = ((A.length : Int), 0) := by
  have := find_none_ (key := key) (l := A) (S := outs key A A.length) (m := A.length) (i := 0) (fun j _ hj => bad_no (outs_at key A A.length j (by omega)).symm (fun h0 => by
    rw [hr j (by omega), hr (j - 1) (by omega)]; omega))
  simpa using this
theorem at5_set {k : Nat} {e : E5} (hk : k < A.length) (j : Nat) : at5 (A.set k e) j = if j = k then e else at5 A j := by
  unfold at5
  by_cases h : j = k
  · subst h; simp [List.getD_eq_getElem?_getD, hk]
  · simp [List.getD_eq_getElem?_getD, h, List.getElem?_set_ne (Ne.symm h)]
theorem find_changed (hk : keyB key) (hr : Row n0 A) {k : Nat} (hkA : k < A.length) {e : E5} {i : Nat} (hi : i < 15) {c : Int} (hc : ByteI c) (he : bD (blkE e) = (bD (blkE (at5 A k))).set i c) (hne : c ≠ (bD (blkE (at5 A k))).getD i 0) :
    find key (A.set k e) (outs key A A.length) (A.set k e).length 0 = ((k : Int), 27) := by
  have hlen : (A.set k e).length = A.length := by simp
  have hb16 : (bD (blkE (at5 A k))).length = 16 := rfl
  have hki : keyAt key (A.set k e) k = keyAt key A k := keyAt_congr (fun j hj => by rw [at5_set hkA, if_neg (by omega)])
  rw [hlen]
  by_cases hg : 0 < k ∧ (at5 (A.set k e) k).1 ≠ (at5 (A.set k e) (k - 1)).1 + 1
  · refine find_at (Nat.zero_le _) (by omega) (fun j _ hj => bad_no ?_ (fun h0 => ?_)) (bad_gap hg.1 hg.2)
    · rw [outs_at key A A.length j (by omega)]
      exact keyAt_congr (fun q hq => by rw [at5_set hkA, if_neg (by omega)])
    · rw [at5_set hkA, at5_set hkA, if_neg (by omega), if_neg (by omega), hr j (by omega), hr (j - 1) (by omega)]; omega
  · refine find_at (Nat.zero_le _) (by omega) (fun j _ hj => bad_no ?_ (fun h0 => ?_)) (bad_key ?_)
    · rw [outs_at key A A.length j (by omega)]
      exact keyAt_congr (fun q hq => by rw [at5_set hkA, if_neg (by omega)])
    · rw [at5_set hkA, at5_set hkA, if_neg (by omega), if_neg (by omega), hr j (by omega), hr (j - 1) (by omega)]; omega
    · rw [outs_at key A A.length k hkA]
      simp only [keyAt]
      rw [at5_set hkA, if_pos rfl, hki, he]
      intro h
      have hd : ByteI (bD (blkE (at5 A k)))[i] := bD_b (at5 A k) _ (List.getElem_mem _)
      have := seal8_byte (by omega) hd hc h
      exact hne (by rw [this]; simp [List.getD_eq_getElem?_getD, show i < (bD (blkE (at5 A k))).length by omega])
end
section
open Go Go.RowKit
variable {key : T8} {A : List E5} {n0 : Int}
theorem at5_less {k j : Nat} (hk : k < A.length) : at5 (A.take k ++ A.drop (k + 1)) j = if j < k then at5 A j else at5 A (j + 1) := by
  unfold at5
  simp only [List.getD_eq_getElem?_getD]
  have hl : (A.take k).length = k := by rw [List.length_take]; omega
  split
  · rw [List.getElem?_append_left (by omega), List.getElem?_take, if_pos (by omega)]
  · rw [List.getElem?_append_right (by omega), hl, List.getElem?_drop]
    congr 2; omega
theorem at8_less {S : List T8} {k j : Nat} (hk : k < S.length) : at8 (S.take k ++ S.drop (k + 1)) j = if j < k then at8 S j else at8 S (j + 1) := by
  unfold at8
  simp only [List.getD_eq_getElem?_getD]
  have hl : (S.take k).length = k := by rw [List.length_take]; omega
  split
  · rw [List.getElem?_append_left (by omega), List.getElem?_take, if_pos (by omega)]
  · rw [List.getElem?_append_right (by omega), hl, List.getElem?_drop]
    congr 2; omega
theorem at5_more {k j : Nat} (hk : k < A.length) : at5 (A.take k ++ [at5 A k] ++ A.drop k) j = if j ≤ k then at5 A j else at5 A (j - 1) := by
  unfold at5
  simp only [List.getD_eq_getElem?_getD]
  have hl : (A.take k).length = k := by rw [List.length_take]; omega
  by_cases h1 : j < k
  · rw [if_pos (by omega), List.append_assoc, List.getElem?_append_left (by omega), List.getElem?_take, if_pos (by omega)]
  · by_cases h2 : j = k
    · subst h2
      rw [if_pos (Nat.le_refl _), List.append_assoc, List.getElem?_append_right (by omega), hl, Nat.sub_self]
      simp [hk]
    · rw [if_neg (by omega), List.getElem?_append_right (by simp; omega), List.getElem?_drop]
      congr 2
      simp; omega
theorem at8_more {S : List T8} {k j : Nat} (hk : k < S.length) : at8 (S.take k ++ [at8 S k] ++ S.drop k) j = if j ≤ k then at8 S j else at8 S (j - 1) := by
  unfold at8
  simp only [List.getD_eq_getElem?_getD]
  have hl : (S.take k).length = k := by rw [List.length_take]; omega
  by_cases h1 : j < k
  · rw [if_pos (by omega), List.append_assoc, List.getElem?_append_left (by omega), List.getElem?_take, if_pos (by omega)]
  · by_cases h2 : j = k
    · subst h2
      rw [if_pos (Nat.le_refl _), List.append_assoc, List.getElem?_append_right (by omega), hl, Nat.sub_self]
      simp [hk]
    · rw [if_neg (by omega), List.getElem?_append_right (by simp; omega), List.getElem?_drop]
      congr 2
      simp; omega
theorem len_less {α : Type} {L : List α} {k : Nat} (hk : k < L.length) : (L.take k ++ L.drop (k + 1)).length = L.length - 1 := by
  rw [List.length_append, List.length_take, List.length_drop]; omega
theorem len_more {α : Type} {L : List α} {x : α} {k : Nat} (hk : k < L.length) : (L.take k ++ [x] ++ L.drop k).length = L.length + 1 := by
  rw [List.length_append, List.length_append, List.length_take, List.length_drop]; simp; omega
theorem find_last (hr : Row n0 A) {k : Nat} (hk : k + 1 = A.length) :
    find key (A.take k ++ A.drop (k + 1)) ((outs key A A.length).take k ++ (outs key A A.length).drop (k + 1)) (A.take k ++ A.drop (k + 1)).length 0 = ((k : Int), 0) := by
  have hS : (outs key A A.length).length = A.length := outs_len _ _ _
  rw [len_less (by omega)]
  have := find_none_ (key := key) (l := A.take k ++ A.drop (k + 1)) (S := (outs key A A.length).take k ++ (outs key A A.length).drop (k + 1)) (m := A.length - 1) (i := 0) (fun j _ hj => bad_no ?_ (fun h0 => ?_))
  · rw [this]; simp; omega
  · rw [at8_less (by omega), if_pos (by omega), outs_at key A A.length j (by omega)]
    exact keyAt_congr (fun q hq => by rw [at5_less (by omega), if_pos (by omega)])
  · rw [at5_less (by omega), at5_less (by omega), if_pos (by omega), if_pos (by omega), hr j (by omega), hr (j - 1) (by omega)]; omega
theorem find_less (hkey : keyB key) (hr : Row n0 A) {k : Nat} (hk : k + 1 < A.length) (h : 0 < k ∨ keyAt key A 1 ≠ key) :
    find key (A.take k ++ A.drop (k + 1)) ((outs key A A.length).take k ++ (outs key A A.length).drop (k + 1)) (A.take k ++ A.drop (k + 1)).length 0 = ((k : Int), 27) := by
  have hS : (outs key A A.length).length = A.length := outs_len _ _ _
  rw [len_less (by omega)]
  refine find_at (Nat.zero_le _) (by omega) (fun j _ hj => bad_no ?_ (fun h0 => ?_)) ?_
  · rw [at8_less (by omega), if_pos (by omega), outs_at key A A.length j (by omega)]
    exact keyAt_congr (fun q hq => by rw [at5_less (by omega), if_pos (by omega)])
  · rw [at5_less (by omega), at5_less (by omega), if_pos (by omega), if_pos (by omega), hr j (by omega), hr (j - 1) (by omega)]; omega
  · by_cases h0 : 0 < k
    · refine bad_gap h0 ?_
      rw [at5_less (by omega), at5_less (by omega), if_neg (by omega), if_pos (by omega), hr (k + 1) (by omega), hr (k - 1) (by omega)]; omega
    · have hk0 : k = 0 := by omega
      subst hk0
      rcases h with h | h
      · omega
      refine bad_key ?_
      rw [at8_less (by omega), if_neg (by omega), outs_at key A A.length 1 (by omega)]
      simp only [keyAt]
      rw [at5_less (by omega), if_neg (by omega)]
      intro hc
      have := seal8_inj hkey (seal8_b hkey _) _ hc
      exact h this.symm
theorem find_more (hr : Row n0 A) {k : Nat} (hk : k < A.length) :
    find key (A.take k ++ [at5 A k] ++ A.drop k) ((outs key A A.length).take k ++ [at8 (outs key A A.length) k] ++ (outs key A A.length).drop k) (A.take k ++ [at5 A k] ++ A.drop k).length 0 = (((k + 1 : Nat) : Int), 27) := by
  have hS : (outs key A A.length).length = A.length := outs_len _ _ _
  rw [len_more hk]
  refine find_at (Nat.zero_le _) (by omega) (fun j _ hj => bad_no ?_ (fun h0 => ?_)) ?_
  · rw [at8_more (by omega), if_pos (by omega), outs_at key A A.length j (by omega)]
    exact keyAt_congr (fun q hq => by rw [at5_more hk, if_pos (by omega)])
  · rw [at5_more hk, at5_more hk, if_pos (by omega), if_pos (by omega), hr j (by omega), hr (j - 1) (by omega)]; omega
  · refine bad_gap (by omega) ?_
    rw [at5_more hk, at5_more hk, if_neg (by omega), if_pos (by omega), Nat.add_sub_cancel, hr k hk]; omega
theorem find_other {key' : T8} (h1 : keyB key) (h2 : keyB key') (hne : key' ≠ key) (h0 : 0 < A.length) : find key' A (outs key A A.length) A.length 0 = (0, 27) := by
  refine find_at (k := 0) (Nat.le_refl _) (by omega) (fun j _ hj => by omega) (bad_key ?_)
  rw [outs_at key A A.length 0 h0]
  simp only [keyAt]
  intro hc
  exact hne (seal8_inj h2 h1 _ hc)
end
section
open Go Go.RowKit
def bsK (x : T8) : List Int := [x.1, x.2.1, x.2.2.1, x.2.2.2.1, x.2.2.2.2.1, x.2.2.2.2.2.1, x.2.2.2.2.2.2.1, x.2.2.2.2.2.2.2]
def bsE (x : E5) : List Int := bD (blkE x)
def hdS (r n : Int) : List Int := [80, 82, 79, 70, IntKind.u8.wrap r, IntKind.u8.wrap n]
def packS (r : Int) (key : T8) (A : List E5) : List Int := hdS r A.length ++ (A.flatMap bsE ++ bsK (keyAt key A A.length))
theorem packS_map (r : Int) (key : T8) (A : List E5) : (packS r key A).map vB = packL r key A := by
  unfold packS packL
  have : (A.flatMap bsE).map vB = A.flatMap eB := by rw [List.map_flatMap]; rfl
  rw [List.map_append, List.map_append, this, List.append_assoc]
  rfl
theorem bsE_len (x : E5) : (bsE x).length = 16 := rfl
theorem fl_len : ∀ A : List E5, (A.flatMap bsE).length = 16 * A.length
  | [] => rfl
  | x :: A => by rw [List.flatMap_cons, List.length_append, fl_len A, bsE_len, List.length_cons]; omega
theorem fl_drop : ∀ (A : List E5) (i : Nat), (A.flatMap bsE).drop (16 * i) = (A.drop i).flatMap bsE
  | A, 0 => by simp
  | [], i + 1 => by simp
  | x :: A, i + 1 => by
    rw [List.flatMap_cons, show 16 * (i + 1) = 16 + 16 * i by omega, ← List.drop_drop]
    have : (bsE x ++ A.flatMap bsE).drop 16 = A.flatMap bsE := by
      rw [show 16 = (bsE x).length from rfl, List.drop_left]
    rw [this, fl_drop A i, List.drop_succ_cons]
theorem packS_len (r : Int) (key : T8) (A : List E5) : (packS r key A).length = 14 + 16 * A.length := by
  unfold packS
  rw [List.length_append, List.length_append, fl_len]
  simp [hdS, bsK]; omega
theorem drop6 (r : Int) (key : T8) (A : List E5) (m : Nat) : (packS r key A).drop (6 + m) = (A.flatMap bsE ++ bsK (keyAt key A A.length)).drop m := by
  rw [← List.drop_drop]
  congr 1
theorem packS_ch (r : Int) (key : T8) (A : List E5) {i : Nat} (hi : i < A.length) : ch (packS r key A) i = bsE (at5 A i) := by
  unfold ch
  rw [drop6, List.drop_append_of_le_length (by rw [fl_len]; omega), fl_drop, List.drop_eq_getElem_cons hi, List.flatMap_cons, List.append_assoc]
  rw [show 16 = (bsE A[i]).length from rfl, List.take_left, at5_get hi]
theorem packS_tl (r : Int) (key : T8) (A : List E5) : tl (packS r key A) A.length = bsK (keyAt key A A.length) := by
  unfold tl
  rw [drop6, List.drop_append_of_le_length (by rw [fl_len]; omega), fl_drop, List.drop_length]
  rfl
theorem tlT_bsK (x : T8) : tlT (bsK x) = x := rfl
theorem packS_b (r : Int) {key : T8} (hk : keyB key) (A : List E5) : ∀ b ∈ packS r key A, ByteI b := by
  intro b hb
  unfold packS at hb
  rw [List.mem_append, List.mem_append] at hb
  rcases hb with hb | hb | hb
  · have w (x : Int) : ByteI (IntKind.u8.wrap x) := by rw [wrap_u8]; exact mb x
    simp only [hdS, List.mem_cons, List.not_mem_nil, or_false] at hb
    rcases hb with rfl | rfl | rfl | rfl | rfl | rfl
    · unfold ByteI; omega
    · unfold ByteI; omega
    · unfold ByteI; omega
    · unfold ByteI; omega
    · exact w _
    · exact w _
  · obtain ⟨x, _, hx⟩ := List.mem_flatMap.1 hb
    exact bD_b x b hx
  · obtain ⟨h0, h1, h2, h3, h4, h5, h6, h7⟩ := keyAt_b hk A A.length
    simp only [bsK, List.mem_cons, List.not_mem_nil, or_false] at hb
    rcases hb with rfl | rfl | rfl | rfl | rfl | rfl | rfl | rfl <;> assumption
variable {key : T8} {S : List Int} {n : Nat} {r : Int}
theorem unpF_all : ∀ {m i : Nat} {es : List E5}, (∀ j, i ≤ j → j < i + m → errT (ch S j) = 0) →
    unpF key r S n m i es = finO r (es ++ (List.range' i m).map fun q => entT (ch S q)) (fin key r (es ++ (List.range' i m).map fun q => entT (ch S q)) (tlT (tl S n)))
  | 0, i, es, _ => by simp [unpF]
  | m + 1, i, es, h => by
    unfold unpF
    rw [if_pos (h i (Nat.le_refl _) (by omega)), unpF_all (fun j h1 h2 => h j (by omega) (by omega)), List.range'_succ, List.map_cons, List.append_assoc]
    rfl
theorem unpF_bad : ∀ {m i : Nat} {es : List E5}, (∃ j, i ≤ j ∧ j < i + m ∧ errT (ch S j) ≠ 0) → ∃ e, e ≠ 0 ∧ unpF key r S n m i es = (0, 0, [], e)
  | 0, i, es, ⟨j, h1, h2, _⟩ => by omega
  | m + 1, i, es, ⟨j, h1, h2, h3⟩ => by
    unfold unpF
    by_cases he : errT (ch S i) = 0
    · rw [if_pos he]
      have hne : i ≠ j := by intro h; subst h; exact h3 he
      exact unpF_bad ⟨j, by omega, by omega, h3⟩
    · rw [if_neg he]
      exact ⟨_, he, rfl⟩
theorem at5_range {f : Nat → E5} {i : Nat} (hi : i < n) : at5 ((List.range' 0 n).map f) i = f i := by
  unfold at5
  simp [List.getD_eq_getElem?_getD, List.getElem?_range', hi]
theorem map_at5 (A : List E5) : (List.range' 0 A.length).map (at5 A) = A := by
  apply List.ext_getElem?
  intro i
  by_cases hi : i < A.length
  · simp [List.getElem?_range', hi, at5_get hi]
  · simp [List.getElem?_eq_none (show A.length ≤ i by omega), List.getElem?_range', hi]
theorem unp_pack {A : List E5} (hp : profI r A = 0) : unpF key r (packS r key A) A.length A.length 0 [] = (r, A.length, A.flatMap eE, 0) := by
  have hz := (prof_zero hp).2.2
  have he : (List.range' 0 A.length).map (fun q => entT (ch (packS r key A) q)) = A := by
    conv => rhs; rw [← map_at5 A]
    apply List.map_congr_left
    intro q hq
    have hq : q < A.length := by simpa using (List.mem_range'.1 hq)
    rw [packS_ch r key A hq]
    exact (by_blk (hz q hq)).1
  rw [unpF_all (fun j _ hj => by rw [packS_ch r key A (by omega)]; exact (by_blk (hz j (by omega))).2)]
  simp only [List.nil_append]
  rw [he, packS_tl, tlT_bsK]
  unfold fin
  have h1 : eq8 (keyAt key A A.length) (keyAt key A A.length) = true := eq8_self _
  rw [h1, hp]
  rfl
theorem unp_broken (hk : keyB key) {A : List E5} (hz : ∀ j, j < A.length → entE (at5 A j) = 0) {k i : Nat} (hkA : k < A.length) (hi : i < 15) {c : Int} (hc : ByteI c) (hne : c ≠ (bsE (at5 A k)).getD i 0) :
    ∃ x y z e, e ≠ 0 ∧ unpF key r ((packS r key A).set (6 + 16 * k + i) c) A.length A.length 0 [] = (x, y, z, e) := by
  have hlen := packS_len r key A
  have hch : ∀ j, j < A.length → ch ((packS r key A).set (6 + 16 * k + i) c) j = if j = k then (bsE (at5 A k)).set i c else bsE (at5 A j) := by
    intro j hj
    have hs := packS_ch r key A hj
    unfold ch at hs ⊢
    by_cases hjk : j = k
    · subst hjk
      rw [if_pos rfl, ← hs]
      apply List.ext_getElem?
      intro q
      simp only [List.getElem?_take, List.getElem?_drop, List.getElem?_set]
      by_cases h1 : q < 16
      · by_cases h2 : i = q
        · subst h2; rw [if_pos h1, if_pos rfl, if_pos rfl, if_pos (by omega), if_pos (by rw [List.length_take, List.length_drop]; omega)]
        · simp [h1, h2, show ¬ 6 + 16 * j + i = 6 + 16 * j + q by omega]
      · simp [h1]
        intro hiq; omega
    · rw [if_neg hjk, ← hs]
      apply List.ext_getElem?
      intro q
      simp only [List.getElem?_take, List.getElem?_drop, List.getElem?_set]
      by_cases h1 : q < 16
      · rw [if_pos h1, if_pos h1, if_neg (by omega)]
      · rw [if_neg h1, if_neg h1]
  have htl : tl ((packS r key A).set (6 + 16 * k + i) c) A.length = bsK (keyAt key A A.length) := by
    rw [← packS_tl r key A]
    unfold tl
    apply List.ext_getElem?
    intro q
    simp only [List.getElem?_take, List.getElem?_drop, List.getElem?_set]
    split
    · rw [if_neg (by omega)]
    · rfl
  by_cases he : errT ((bsE (at5 A k)).set i c) = 0
  · have herr : ∀ j, 0 ≤ j → j < 0 + A.length → errT (ch ((packS r key A).set (6 + 16 * k + i) c) j) = 0 := by
      intro j _ hj
      rw [hch j (by omega)]
      split
      · exact he
      · exact (by_blk (hz j (by omega))).2
    rw [unpF_all herr, htl, tlT_bsK]
    simp only [List.nil_append]
    generalize hE : (List.range' 0 A.length).map (fun q => entT (ch ((packS r key A).set (6 + 16 * k + i) c) q)) = E
    have hEl : E.length = A.length := by rw [← hE]; simp
    have hEat : ∀ j, j < A.length → at5 E j = if j = k then entT ((bsE (at5 A k)).set i c) else at5 A j := by
      intro j hj
      rw [← hE, at5_range hj, hch j hj]
      split
      · rfl
      · exact (by_blk (hz j hj)).1
    have hb : ∀ b ∈ (bsE (at5 A k)).set i c, ByteI b := by
      intro b hb
      rcases List.mem_or_eq_of_mem_set hb with h | h
      · exact bD_b _ b h
      · rw [h]; exact hc
    have hre := blk_by (C := (bsE (at5 A k)).set i c) (by simp [bsE_len]) hb he
    have hneq : keyAt key E A.length ≠ keyAt key A A.length := by
      refine keyAt_apart hk (i := k + 1) ?_ (by omega) (fun j h1 h2 => by rw [hEat j h2, if_neg (by omega)])
      simp only [keyAt]
      rw [hEat k hkA, if_pos rfl, keyAt_congr (A := E) (B := A) (fun j hj => by rw [hEat j (by omega), if_neg (by omega)]), hre]
      intro h
      have hil : i < (bsE (at5 A k)).length := by rw [bsE_len]; omega
      have hd : ByteI ((bsE (at5 A k))[i]'hil) := bD_b (at5 A k) _ (List.getElem_mem hil)
      have := seal8_byte (ds := bsE (at5 A k)) hil hd hc h
      exact hne (by rw [this]; simp [List.getD_eq_getElem?_getD, show i < (bsE (at5 A k)).length by rw [bsE_len]; omega])
    have h8 : eq8 (keyAt key E A.length) (keyAt key A A.length) = false := by
      cases h : eq8 (keyAt key E A.length) (keyAt key A A.length) with
      | false => rfl
      | true => exact absurd (eq8_eq h) hneq
    have hfin : fin key r E (keyAt key A A.length) = 27 := by
      unfold fin
      rw [hEl, h8]
      rfl
    rw [hfin]
    exact ⟨0, 0, [], 27, by decide, rfl⟩
  · obtain ⟨e, h1, h2⟩ := unpF_bad (key := key) (r := r) (n := A.length) (S := (packS r key A).set (6 + 16 * k + i) c) (m := A.length) (i := 0) (es := []) ⟨k, Nat.zero_le _, by omega, by rw [hch k hkA, if_pos rfl]; exact he⟩
    exact ⟨0, 0, [], e, h1, h2⟩
theorem F9_ok (hkey : keyB key) (hB : ∀ b ∈ S, ByteI b) (hS : S.length = 14 + 16 * n) (hn2 : n ≤ 255) (h5 : S.getD 5 0 = (n : Int)) (h4 : S.take 4 = [80, 82, 79, 70]) :
    F9 key.1 key.2.1 key.2.2.1 key.2.2.2.1 key.2.2.2.2.1 key.2.2.2.2.2.1 key.2.2.2.2.2.2.1 key.2.2.2.2.2.2.2 S.length (S.map vB) = some (unpF key (S.getD 4 0) S n n 0 []) := by
  unfold F9
  rw [res_eq B9]
  have u0 : whenI false 28 = 0 := rfl
  have u2 : whenI false 26 = 0 := rfl
  have u4 : whenI false 1 = 0 := rfl
  have u6 : whenI false 2 = 0 := rfl
  have f4 : firstI [0, 0] = 0 := rfl
  have f8 : firstI [0, 0, 0] = 0 := rfl
  have g1 : ¬ (S.length : Int) > 400000 := by omega
  have g2 : ¬ (S.length : Int) < 6 := by omega
  have hw5 : IntKind.i64.wrap (n : Int) = (n : Int) := wrap_in (by unfold inI64; omega)
  have a5 := at_mapB (S := S) (i := 5) (by omega)
  have a4 := at_mapB (S := S) (i := 4) (by omega)
  rw [h5] at a5
  have l5 : (5 : Int) < (S.length : Int) := by omega
  have l4 : (4 : Int) < (S.length : Int) := by omega
  have l4' : (4 : Int) ≤ (S.length : Int) := by omega
  have m5 : 5 ≤ S.length := by omega
  have m4 : 4 ≤ S.length := by omega
  have i1 : inI64 (16 * (n : Int)) := by unfold inI64; omega
  have i2 : inI64 (6 + 16 * (n : Int)) := by unfold inI64; omega
  have i3 : inI64 (6 + 16 * (n : Int) + 8) := by unfold inI64; omega
  have t4 : (List.take 4 (List.drop 0 (S.map vB))).length = 4 := by rw [List.length_take, List.drop_zero, List.length_map]; omega
  have t4b : (List.take 4 (List.drop 0 (S.map vB))).all isB = true := by rw [List.drop_zero, ← List.map_take]; exact isB_map _
  have hh : ((pushAll (List.map byB (List.take 4 (List.drop 0 (S.map vB)))) ByteArray.empty).toList == (ByteArray.mk #[80, 82, 79, 70]).toList) = true := by
    rw [List.drop_zero, ← List.map_take, byB_map, h4]; kernel_rfl
  have d14 (x : Int) : (x < 6 + 16 * (n : Int) + 8) = (x < 14 + 16 * (n : Int)) := by apply propext; omega
  have e14 (x : Int) : (x > 6 + 16 * (n : Int) + 8) = (x > 14 + 16 * (n : Int)) := by apply propext; omega
  have g3 : ¬ (S.length : Int) < 14 + 16 * (n : Int) := by omega
  have g4 : ¬ (S.length : Int) > 14 + 16 * (n : Int) := by omega
  have hw4 : IntKind.i64.wrap (S.getD 4 0) = S.getD 4 0 := wrap_in (by have := bytes_getD hB 4; unfold ByteI at this; unfold inI64; omega)
  have k1 : (6 : Int) ≤ 6 + 16 * (n : Int) := by omega
  have k2 : 6 + 16 * (n : Int) ≤ (S.length : Int) := by omega
  have k3 : 6 + 16 * n - 6 = 16 * n := by omega
  simp only [B9, F43_eq, F42_2, F42_3, d14, e14, g1, g2, g3, g4, hh, dI_B, h5, hw5, hw4, a5, a4, l5, l4, l4', m5, m4, i1, i2, i3, t4, t4b, k1, k2, toN, k3, List.length_map, Nat.mul_one, Bool.not_true, u0, u2, u4, u6, f4, f8, sem_br, sem_ask, sem_bind_some, sem_sees, sem_triv, sem_nxt, PC.holds, need_true, bne_self_eq_false, decide_true, decide_false, Bool.false_eq_true, if_false, if_true, stepO_nxt]
  exact F9_c1 hS hn2 hkey hB ..
end
end Go.Kv
