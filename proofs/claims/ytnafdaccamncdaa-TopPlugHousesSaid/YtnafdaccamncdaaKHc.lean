/- TopPlugHouses is true of every input, in plain Lean. -/
import Derived.Test.YtnafdaccamncdaaKHb
import Derived.Test.YtnafdaccamncdaaGD
import Derived.Test.YtnafdaccamncdaaKM
namespace Go.Kv
set_option linter.unusedVariables false
set_option linter.unusedSimpArgs false
open Go Go.RowKit Go.Proofs
set_option maxRecDepth 100000
section
open Go Go.RowKit
/-- What the law knows of its input. -/
structure LW (R : List Int) (S : List (List Int)) (k : Int) : Prop where
  hR : Use R
  lR : 1 ≤ R.length ∧ R.length ≤ 5
  lS : S.length ≤ 5
  hS : ∀ s ∈ S, VS (R.length : Int) s
  hk : 2 ≤ k ∧ k ≤ 4
section
variable {R : List Int} {S : List (List Int)} {k : Int}
theorem LW.get (L : LW R S k) {i : Nat} (hi : i < S.length) : VS (R.length : Int) (S.getD i []) := by
  rw [List.getD_eq_getElem?_getD, List.getElem?_eq_getElem hi]; exact L.hS _ (List.getElem_mem hi)
theorem LW.len (L : LW R S k) {i : Nat} (hi : i < S.length) : (S.getD i []).length ≤ 5 := by
  have := (L.get hi).len (by omega); have := L.lR; omega
/-- What is known, and that the uses are in it. -/
abbrev kR (R : List Int) (As : List (List Int)) : Acc := kn R.length (ans R As)
theorem kR_in (L : LW R S k) (As : List (List Int)) (i : Nat) : (kR R As).lo i ≤ R.getD i 0 ∧ R.getD i 0 ≤ (kR R As).hi i := (kn_in L.hR L.lR (ans_fits R As)).2 i
theorem kR_mono (L : LW R S k) (As : List (List Int)) (s : List Int) (i : Nat) : (kR R As).lo i ≤ (kR R (As ++ [s])).lo i ∧ (kR R (As ++ [s])).hi i ≤ (kR R As).hi i :=
  kn_mono (fun _ h => fits_snoc h) (kn_in L.hR L.lR (ans_fits R (As ++ [s]))).1 i
theorem c6_run (L : LW R S k) {a : Acc} (ha : ∀ i, a.lo i ≤ R.getD i 0 ∧ R.getD i 0 ≤ a.hi i) {e z w j : Nat} {Q : List DV} (hj : j ≤ 5) : ∀ (m i : Nat), R.length = i + m →
    res B3 (.c6 e R.length (R.map vI) k Q R.length (ivs a R.length) S.length (S.map eS) (S.length : Int) (j : Int) (R.length : Int) (i : Int) z w) =
      res B3 (.c8 e R.length (R.map vI) k 0 1 Q R.length (ivs a R.length) S.length (S.map eS) (S.length : Int) ((j : Int) + 1) z w 0)
  | 0, i, hk => by
    obtain rfl : i = R.length := by omega
    have h1 : ¬ ((R.length : Int) < (R.length : Int)) := by omega
    have hin : inI64 ((j : Int) + 1) := by unfold inI64; omega
    rw [res_eq]
    simp only [B3, h1, decide_false, Bool.false_eq_true, if_false, sem_br, sem_ask, sem_triv, sem_nxt, PC.holds, hin, need_true, stepO_nxt]
  | m + 1, i, hk => by
    have hi : i < R.length := by omega
    have h1 : (i : Int) < (R.length : Int) := by omega
    have hin : inI64 ((i : Int) + 1) := by have := L.lR; unfold inI64; omega
    have ih := c6_run L ha (e := e) (z := z) (w := w) (Q := Q) hj m (i + 1) (by omega)
    have t := atI (a := a) hi
    have n1 : ¬ (R.getD i 0 < a.lo i) := by have := ha i; omega
    have n2 : ¬ (R.getD i 0 > a.hi i) := by have := ha i; omega
    rw [res_eq]
    simp only [B3, h1, decide_true, if_true, t.c0, t.c1, t.r1, t.r2, t.t, n1, n2, decide_false, Bool.false_eq_true, if_false, dI_cel_map, at_map hi, Int.toNat_natCast, Nat.mul_one, Int.natCast_nonneg, List.length_map, Nat.le_of_lt hi, hin, sem_br, sem_ask, sem_triv, sem_nxt, PC.holds, need_true, beq_self_eq_true, stepO_nxt]
    rw [← ih]; rfl
theorem c12_run (L : LW R S k) {e e1 nq n0 z w e2 : Nat} {Q I s' : List DV} {o s : List Int} {T NI j i : Int} {no : Nat} (ho : VS (R.length : Int) o) (hs : VS (R.length : Int) s) (hi : inI64 (i + 1)) (hn : near k s o = false) :
    ∀ (m t : Nat), R.length = t + m → ∀ (x : Int), x = xc o s t →
    res B3 (.c12 e R.length (R.map vI) k e1 nq Q n0 I s.length (s.map vI) o.length (o.map vI) x no s' T j NI i (R.length : Int) (t : Int) z w e2) =
      res B3 (.c10 e R.length (R.map vI) k e1 nq Q n0 I s.length (s.map vI) no s' T j NI (i + 1) z w e2)
  | 0, t, hk, x, hx => by
    obtain rfl : R.length = t := by omega
    have h1 : ¬ ((R.length : Int) < (R.length : Int)) := by omega
    rw [xc_apart ho hs] at hx
    rw [res_eq]
    unfold near at hn
    have hc : (if decide (x > 0) = true then decide (x < k) else false) = false := by
      rw [hx]
      by_cases c : apart o s > 0
      · simp only [c, decide_true, if_true] at hn ⊢; exact hn
      · simp only [c, decide_false, Bool.false_eq_true, if_false]
    simp only [B3, h1, decide_false, hc, Bool.false_eq_true, if_false, sem_br, sem_ask, sem_triv, sem_nxt, PC.holds, hi, need_true, stepO_nxt]
  | m + 1, t, hk, x, hx => by
    have h1 : (t : Int) < (R.length : Int) := by omega
    have lo := ho.len (by omega)
    have ls := hs.len (by omega)
    have lR := L.lR
    have hin : inI64 ((t : Int) + 1) := by unfold inI64; omega
    have hb := xc_bd o s t
    have hin2 : inI64 (x + 1) := by unfold inI64; omega
    have ih := c12_run L (e := e) (e1 := e1) (nq := nq) (z := z) (w := w) (e2 := e2) (Q := Q) (I := I) (s' := s') (T := T) (NI := NI) (j := j) (i := i) (n0 := n0) (no := no) ho hs hi hn m (t + 1) (by omega)
    rw [res_eq]
    simp only [B3, F10_eq o (t : Int) (by omega), F10_eq s (t : Int) (by omega), h1, decide_true, if_true, sem_br, sem_ask, sem_triv, sem_bind_some, sem_sees, sem_nxt, PC.holds, need_true]
    by_cases c : (!decide ((t : Int) ∈ o) == decide ((t : Int) ∈ s)) = true
    · simp only [c, if_true, hin2, need_true, stepO_nxt]
      rw [res_eq]
      simp only [B3, sem_ask, sem_nxt, PC.holds, hin, need_true, stepO_nxt]
      exact ih (x + 1) (by rw [xc_succ, hx]; unfold b2; rw [if_pos c])
    · simp only [c, Bool.false_eq_true, if_false, stepO_nxt]
      rw [res_eq]
      simp only [B3, sem_ask, sem_nxt, PC.holds, hin, need_true, stepO_nxt]
      exact ih x (by rw [xc_succ, hx]; unfold b2; rw [if_neg c]; omega)
/-- What does not change while the law looks at one set. -/
theorem c10_run (L : LW R S k) {e e1 z w e2 : Nat} {I : List DV} {s : List Int} {As : List (List Int)} {n0 : Nat} {j : Int} (hA : ∀ o ∈ As, VS (R.length : Int) o ∧ near k s o = false) (lA : As.length ≤ 5) (hs : VS (R.length : Int) s) (he : e1 = e2) : ∀ (m i : Nat), As.length = i + m →
    res B3 (.c10 e R.length (R.map vI) k e1 As.length (As.map eS) n0 I s.length (s.map vI) S.length (S.map eS) (S.length : Int) j (As.length : Int) (i : Int) z w e2) =
      res B3 (.c13 e R.length (R.map vI) k (e2 + 1) (As.length + 1) ((As ++ [s]).map eS) n0 I S.length (S.map eS) (S.length : Int) j (e2 + 1) ((As.length + 1 : Nat) : Int) 0 z w (e2 + 1))
  | 0, i, hk => by
    obtain rfl : i = As.length := by omega
    have h1 : ¬ ((As.length : Int) < (As.length : Int)) := by omega
    have hf : fitsN (As.length + 1) 24 := by unfold fitsN; omega
    rw [res_eq]
    simp only [B3, h1, decide_false, Bool.false_eq_true, if_false, sem_br, sem_ask, sem_triv, sem_nxt, PC.holds, he, hf, need_true, stepO_nxt]
    rw [List.map_append]
    rfl
  | m + 1, i, hk => by
    have hi : i < As.length := by omega
    have h1 : (i : Int) < (As.length : Int) := by omega
    have ih := c10_run L (e := e) (z := z) (w := w) (I := I) (n0 := n0) (j := j) hA lA hs he m (i + 1) (by omega)
    have hin : inI64 ((i : Int) + 1) := by unfold inI64; omega
    have ho : VS (R.length : Int) (As.getD i []) ∧ near k s (As.getD i []) = false := by
      rw [List.getD_eq_getElem?_getD, List.getElem?_eq_getElem hi]; exact hA _ (List.getElem_mem hi)
    have h12 := c12_run L (e := e) (e1 := e1) (nq := As.length) (n0 := n0) (z := z) (w := w) (e2 := e2) (Q := As.map eS) (I := I) (s' := S.map eS) (T := (S.length : Int)) (NI := (As.length : Int)) (j := j) (i := (i : Int)) (no := S.length) ho.1 hs hin ho.2 R.length 0 (by omega) 0 rfl
    rw [res_eq]
    simp only [B3, h1, decide_true, if_true, Int.toNat_natCast, Nat.mul_one, cel_eS hi, dN_eS, dL_eS, at_mapS hi, Int.natCast_nonneg, List.length_map, Nat.le_of_lt hi, sem_br, sem_ask, sem_triv, sem_nxt, PC.holds, need_true, stepO_nxt]
    exact h12.trans ih
theorem ans_take_succ {Bs : List (List Int)} {i : Nat} (hi : i < Bs.length) : (ans R (Bs.take (i + 1))).flatMap eA = (ans R (Bs.take i)).flatMap eA ++ [DV.sl (Bs.getD i []).length ((Bs.getD i []).map vI), DV.v (Value.int IntKind.i64 (tot R (Bs.getD i [])))] := by
  rw [List.take_succ_eq_append_getElem hi, ans_snoc, List.flatMap_append]
  simp [List.getD_eq_getElem?_getD, hi, eA, eS]
theorem c17_run (L : LW R S k) {e E1 n0 z w z1 z2 : Nat} {I : List DV} {Bs : List (List Int)} {j : Int} (hB : ∀ o ∈ Bs, VS (R.length : Int) o) (lB : Bs.length ≤ 6) (h0 : 0 < Bs.length) : ∀ (m i E2 : Nat), Bs.length = i + m → 0 < i →
    res B3 (.c17 e R.length (R.map vI) k E1 Bs.length (Bs.map eS) n0 I E2 i ((ans R (Bs.take i)).flatMap eA) S.length (S.map eS) (S.length : Int) j E1 (Bs.length : Int) (i : Int) z w E1 z1 z2 E2) =
      res B3 (.c18 e R.length (R.map vI) k E1 Bs.length (Bs.map eS) n0 I R.length (ivs (kR R Bs) R.length) S.length (S.map eS) (S.length : Int) j (R.length : Int) 0 z w E1)
  | 0, i, E2, hk, hp => by
    obtain rfl : i = Bs.length := by omega
    have h1 : ¬ ((Bs.length : Int) < (Bs.length : Int)) := by omega
    rw [List.take_of_length_le (Nat.le_refl _), res_eq]
    simp only [B3, F12_R L.hR L.lR hB (by omega) h0, h1, decide_false, Bool.false_eq_true, if_false, sem_br, sem_ask, sem_triv, sem_bind_some, sem_sees, sem_nxt, PC.holds, need_true, bne_self_eq_false, beq_self_eq_true, stepO_nxt]
  | m + 1, i, E2, hk, hp => by
    have hi : i < Bs.length := by omega
    have h1 : (i : Int) < (Bs.length : Int) := by omega
    have ih := c17_run L (e := e) (E1 := E1) (n0 := n0) (z := z) (w := w) (z1 := z1) (z2 := z2) (I := I) (j := j) hB lB h0 m (i + 1) (E2 + 1) (by omega) (by omega)
    have ho : VS (R.length : Int) (Bs.getD i []) := by
      rw [List.getD_eq_getElem?_getD, List.getElem?_eq_getElem hi]; exact hB _ (List.getElem_mem hi)
    have lo := ho.len (by omega)
    have lR := L.lR
    have hin : inI64 ((i : Int) + 1) := by unfold inI64; omega
    have f1 : fitsN R.length 8 := by unfold fitsN; omega
    have f2 : fitsN (Bs.getD i []).length 8 := by unfold fitsN; omega
    have f3 : fitsN (i + 1) 32 := by unfold fitsN; omega
    have e11 := F11_eq (U := R) (s := Bs.getD i []) L.hR (by omega) (by omega) ho
    rw [ans_take_succ hi] at ih
    rw [res_eq]
    simp only [B3, h1, decide_true, if_true, Int.toNat_natCast, Nat.mul_one, Nat.zero_add, List.nil_append, cel_eS hi, dN_eS, dL_eS, at_mapS hi, e11, Int.natCast_nonneg, List.length_map, Nat.le_of_lt hi, f1, f2, f3, hin, sem_br, sem_ask, sem_triv, sem_bind_some, sem_sees, sem_nxt, PC.holds, need_true, bne_self_eq_false, Bool.false_eq_true, if_false, stepO_nxt]
    exact ih
theorem c13_run (L : LW R S k) {e E1 n0 z w : Nat} {I : List DV} {Bs : List (List Int)} {j : Int} (hB : ∀ o ∈ Bs, VS (R.length : Int) o) (lB : Bs.length ≤ 6) (h0 : 0 < Bs.length) :
    res B3 (.c13 e R.length (R.map vI) k E1 Bs.length (Bs.map eS) n0 I S.length (S.map eS) (S.length : Int) j E1 (Bs.length : Int) 0 z w E1) =
      res B3 (.c18 e R.length (R.map vI) k E1 Bs.length (Bs.map eS) n0 I R.length (ivs (kR R Bs) R.length) S.length (S.map eS) (S.length : Int) j (R.length : Int) 0 z w E1) := by
  have h1 : (0 : Int) < (Bs.length : Int) := by omega
  have lR := L.lR
  have ho : VS (R.length : Int) (Bs.getD 0 []) := by
    rw [List.getD_eq_getElem?_getD, List.getElem?_eq_getElem h0]; exact hB _ (List.getElem_mem h0)
  have lo := ho.len (by omega)
  have h17 := c17_run L (e := e) (E1 := E1) (n0 := n0) (z := z) (w := w) (z1 := R.length) (z2 := (Bs.getD 0 []).length) (I := I) (j := j) hB lB h0 (Bs.length - 1) 1 0 (by omega) (by omega)
  have hin : inI64 ((0 : Int) + 1) := by unfold inI64; omega
  have f1 : fitsN R.length 8 := by unfold fitsN; omega
  have f2 : fitsN (Bs.getD 0 []).length 8 := by unfold fitsN; omega
  have e11 := F11_eq (U := R) (s := Bs.getD 0 []) L.hR (by omega) (by omega) ho
  have h2 := at_mapS h0
  rw [ans_take_succ h0] at h17
  rw [← h17, res_eq]
  simp only [B3, h1, decide_true, if_true, Int.toNat_zero, Nat.zero_mul, Nat.mul_one, Nat.zero_add, List.nil_append, cel_eS h0, dN_eS, dL_eS, h2, e11, Int.le_refl, List.length_map, Nat.zero_le, f1, f2, hin, sem_br, sem_ask, sem_triv, sem_bind_some, sem_sees, sem_nxt, PC.holds, need_true, bne_self_eq_false, Bool.false_eq_true, if_false, stepO_nxt]
  rfl
theorem c18_run (L : LW R S k) {a b : Acc} (hb : ∀ i, b.lo i ≤ R.getD i 0 ∧ R.getD i 0 ≤ b.hi i) (hab : ∀ i, a.lo i ≤ b.lo i ∧ b.hi i ≤ a.hi i) {e E1 nq z w j : Nat} {Q : List DV} (hj : j ≤ 5) : ∀ (m i : Nat), R.length = i + m →
    res B3 (.c18 e R.length (R.map vI) k E1 nq Q R.length (ivs a R.length) R.length (ivs b R.length) S.length (S.map eS) (S.length : Int) (j : Int) (R.length : Int) (i : Int) z w E1) =
      res B3 (.c8 e R.length (R.map vI) k E1 nq Q R.length (ivs b R.length) S.length (S.map eS) (S.length : Int) ((j : Int) + 1) z w E1)
  | 0, i, hk => by
    obtain rfl : i = R.length := by omega
    have h1 : ¬ ((R.length : Int) < (R.length : Int)) := by omega
    have hin : inI64 ((j : Int) + 1) := by unfold inI64; omega
    rw [res_eq]
    simp only [B3, h1, decide_false, Bool.false_eq_true, if_false, sem_br, sem_ask, sem_triv, sem_nxt, PC.holds, hin, need_true, stepO_nxt]
  | m + 1, i, hk => by
    have hi : i < R.length := by omega
    have h1 : (i : Int) < (R.length : Int) := by omega
    have hin : inI64 ((i : Int) + 1) := by have := L.lR; unfold inI64; omega
    have ih := c18_run L hb hab (e := e) (E1 := E1) (nq := nq) (z := z) (w := w) (Q := Q) hj m (i + 1) (by omega)
    have t := atI (a := b) hi
    have u := atI (a := a) hi
    have n1 : ¬ (R.getD i 0 < b.lo i) := by have := hb i; omega
    have n2 : ¬ (R.getD i 0 > b.hi i) := by have := hb i; omega
    have n3 : ¬ (b.lo i < a.lo i) := by have := hab i; omega
    have n4 : ¬ (b.hi i > a.hi i) := by have := hab i; omega
    have n5 : (R.length : Int) > 0 := by omega
    have u1 : 1 ≤ (List.drop (i * 2) (ivs a R.length)).length := Nat.le_trans (by omega) u.r2
    rw [res_eq]
    simp only [B3, h1, decide_true, if_true, t.c0, t.c1, t.r1, t.r2, t.t, u.d0, u.d1, u.p0, u.p1, u.r1, u1, n1, n2, n3, n4, n5, decide_false, Bool.false_eq_true, if_false, dI_cel_map, at_map hi, Int.toNat_natCast, Nat.mul_one, Int.natCast_nonneg, List.length_map, Nat.le_of_lt hi, Nat.zero_le, hin, sem_br, sem_ask, sem_triv, sem_nxt, PC.holds, need_true, beq_self_eq_true, stepO_nxt]
    rw [← ih]; rfl
theorem F5_true : F5 = some true := rfl
theorem c8_all (L : LW R S k) {e z w : Nat} : ∀ (m j E : Nat) (As : List (List Int)), S.length = j + m → (∀ o ∈ As, VS (R.length : Int) o) → As.length ≤ j → 0 < As.length →
    res B3 (.c8 e R.length (R.map vI) k E As.length (As.map eS) R.length (ivs (kR R As) R.length) S.length (S.map eS) (S.length : Int) (j : Int) z w E) = some true
  | 0, j, E, As, hk, hA, lA, h0 => by
    have h1 : ¬ ((j : Int) < (S.length : Int)) := by omega
    rw [res_eq]
    simp only [B3, h1, decide_false, Bool.false_eq_true, if_false, F5_true, sem_br, sem_ask, sem_triv, sem_bind_some, sem_sees, sem_ret, stepO_ret]
  | m + 1, j, E, As, hk, hA, lA, h0 => by
    have hi : j < S.length := by omega
    have h1 : (j : Int) < (S.length : Int) := by omega
    have lS := L.lS
    have lR := L.lR
    have hk4 := L.hk
    have hs := L.get hi
    have ls := L.len hi
    have hin : inI64 ((j : Int) + 1) := by unfold inI64; omega
    have f2 : fitsN (S.getD j []).length 8 := by unfold fitsN; omega
    have hl1000 : ∀ o ∈ As, o.length ≤ 1000 := fun o ho => by have := (hA o ho).len (by omega); omega
    have e9 := F9_eq (S := As) ⟨by omega, fun o ho => by have := hl1000 o ho; omega⟩ (by omega) hl1000
    have e8 := F8_eq (h := (R.length : Int)) (k := k) (S := As) (s := S.getD j []) ⟨by omega, by omega⟩ ⟨by omega, by omega⟩ (by omega) (fun o ho => ⟨(hA o ho).ck, by have := hl1000 o ho; omega⟩) ⟨hs.ck, by omega⟩
    rw [res_eq]
    simp only [B3, h1, decide_true, if_true, Int.toNat_natCast, Nat.mul_one, Nat.zero_add, List.nil_append, cel_eS hi, dN_eS, dL_eS, at_mapS hi, e9, e8, Int.natCast_nonneg, List.length_map, Nat.le_of_lt hi, f2, sem_br, sem_ask, sem_triv, sem_bind_some, sem_sees, sem_nxt, PC.holds, need_true, bne_self_eq_false, beq_self_eq_true, Bool.false_eq_true, if_false]
    by_cases c : (decide (((S.getD j []).length : Int) ≥ k) && !As.any (near k (S.getD j []))) = true
    · have c1 := c
      rw [Bool.and_eq_true, decide_eq_true_eq] at c1
      obtain ⟨c1, c2⟩ := c1
      have c3 : ¬ (((S.getD j []).length : Int) < k) := by omega
      simp only [c, if_true, c3, decide_false, Bool.false_eq_true, if_false, Bool.not_true, stepO_nxt]
      have hn : ∀ o ∈ As, VS (R.length : Int) o ∧ near k (S.getD j []) o = false := by
        intro o ho
        refine ⟨hA o ho, ?_⟩
        have c2 : As.any (near k (S.getD j [])) = false := by simpa using c2
        exact Bool.eq_false_iff.2 (List.any_eq_false.1 c2 o ho)
      have h10 := c10_run L (e := e) (e1 := E) (z := z) (w := w) (e2 := E) (I := ivs (kR R As) R.length) (n0 := R.length) (j := (j : Int)) hn (by omega) hs rfl As.length 0 (by omega)
      have hB : ∀ o ∈ As ++ [S.getD j []], VS (R.length : Int) o := by
        intro o ho
        rcases List.mem_append.1 ho with ho | ho
        · exact hA o ho
        · rw [List.mem_singleton.1 ho]; exact hs
      have lB : (As ++ [S.getD j []]).length = As.length + 1 := by rw [List.length_append]; rfl
      have h13 := c13_run L (e := e) (E1 := E + 1) (n0 := R.length) (z := z) (w := w) (I := ivs (kR R As) R.length) (j := (j : Int)) hB (by omega) (by omega)
      have h18 := c18_run L (kR_in L (As ++ [S.getD j []])) (kR_mono L As (S.getD j [])) (e := e) (E1 := E + 1) (nq := As.length + 1) (z := z) (w := w) (j := j) (Q := (As ++ [S.getD j []]).map eS) (by omega) R.length 0 (by omega)
      have ih := c8_all L (e := e) (z := z) (w := w) m (j + 1) (E + 1) (As ++ [S.getD j []]) (by omega) hB (by omega) (by omega)
      rw [lB] at h13 ih
      exact h10.trans (h13.trans (h18.trans ih))
    · have ih := c8_all L (e := e) (z := z) (w := w) m (j + 1) E As (by omega) hA (by omega) h0
      simp only [c, Bool.false_eq_true, if_false, Bool.not_false, if_true, hin, need_true, stepO_nxt]
      exact ih
end
end
section
open Go Go.RowKit
section
variable {R : List Int} {S : List (List Int)} {k : Int}
theorem c4_all (L : LW R S k) {e z : Nat} : ∀ (m j : Nat), S.length = j + m →
    res B3 (.c4 e R.length (R.map vI) k S.length (S.map eS) (S.length : Int) (j : Int) z) = some true
  | 0, j, hk => by
    have h1 : ¬ ((j : Int) < (S.length : Int)) := by omega
    rw [res_eq]
    simp only [B3, h1, decide_false, Bool.false_eq_true, if_false, F5_true, sem_br, sem_ask, sem_triv, sem_bind_some, sem_sees, sem_ret, stepO_ret]
  | m + 1, j, hk => by
    have hi : j < S.length := by omega
    have h1 : (j : Int) < (S.length : Int) := by omega
    have lS := L.lS
    have lR := L.lR
    have hk4 := L.hk
    have hs := L.get hi
    have ls := L.len hi
    have hin : inI64 ((j : Int) + 1) := by unfold inI64; omega
    have f1 : fitsN R.length 8 := by unfold fitsN; omega
    have f2 : fitsN (S.getD j []).length 8 := by unfold fitsN; omega
    have e9 : F9 0 [] = some (0, []) := F9_eq (S := []) ⟨by simp, by simp⟩ (by simp) (by simp)
    have e8 : F8 (R.length : Int) k 0 [] (S.getD j []).length ((S.getD j []).map vI) = _ := F8_eq (h := (R.length : Int)) (k := k) (S := []) (s := S.getD j []) ⟨by omega, by omega⟩ ⟨by omega, by omega⟩ (by simp) (by simp) ⟨hs.ck, by omega⟩
    have e11 := F11_eq (U := R) (s := S.getD j []) L.hR (by omega) (by omega) hs
    have e12 : F12 (R.length : Int) 7 1 [DV.sl (S.getD j []).length ((S.getD j []).map vI), vI (tot R (S.getD j []))] = _ := F12_R L.hR L.lR (As := [S.getD j []]) (by
      intro o ho
      rw [List.mem_singleton.1 ho]; exact hs) (by simp) (by simp)
    rw [res_eq]
    simp only [B3, h1, decide_true, if_true, Int.toNat_natCast, Nat.mul_one, Nat.zero_add, List.nil_append, cel_eS hi, dN_eS, dL_eS, at_mapS hi, e9, e8, Int.natCast_nonneg, List.length_map, Nat.le_of_lt hi, f1, f2, sem_br, sem_ask, sem_triv, sem_bind_some, sem_sees, sem_nxt, PC.holds, need_true, bne_self_eq_false, beq_self_eq_true, Bool.false_eq_true, if_false, List.any_nil, Bool.not_false, Bool.and_true]
    by_cases c : ((S.getD j []).length : Int) ≥ k
    · have c3 : ¬ (((S.getD j []).length : Int) < k) := by omega
      simp only [c, c3, decide_true, if_true, decide_false, Bool.false_eq_true, if_false, Bool.not_true, e11, e12, f1, f2, sem_br, sem_ask, sem_triv, sem_bind_some, sem_sees, sem_nxt, PC.holds, need_true, bne_self_eq_false, beq_self_eq_true, stepO_nxt]
      have h6 := c6_run L (kR_in L [S.getD j []]) (e := e) (z := z) (w := (S.getD j []).length) (j := j) (Q := [S.getD j []].map eS) (by omega) R.length 0 (by omega)
      have h8 := c8_all L (e := e) (z := z) (w := (S.getD j []).length) m (j + 1) 0 [S.getD j []] (by omega) (by
        intro o ho
        rw [List.mem_singleton.1 ho]; exact hs) (by simp) (by simp)
      exact h6.trans h8
    · have c3 : ((S.getD j []).length : Int) < k := by omega
      have ih := c4_all L (e := e) (z := z) m (j + 1) (by omega)
      simp only [c, c3, decide_true, if_true, decide_false, Bool.false_eq_true, if_false, Bool.not_false, hin, sem_br, sem_ask, sem_triv, sem_bind_some, sem_sees, sem_nxt, PC.holds, need_true, stepO_nxt]
      exact ih
end
abbrev vB (x : Int) : DV := .v (.int .u8 x)
theorem dI_B (X : List Int) (i : Nat) : dI (cel (X.map vB) i) = X.getD i 0 := by
  unfold cel
  simp only [List.getD_eq_getElem?_getD, List.getElem?_map]
  cases X[i]? <;> rfl
theorem at_mapB {X : List Int} {i : Nat} (h : i < X.length) : Option.map AV.d (List.drop i (X.map vB))[0]? = some (AV.d (DV.v (Value.int IntKind.u8 (X.getD i 0)))) := by
  simp [List.getElem?_drop, h, List.getD_eq_getElem?_getD]
/-- The uses. -/
def uses (X : List Int) : List Int := X.map fun x => x % 8
structure IW (X : List Int) (S : List (List Int)) (n0 n1 : Int) : Prop where
  hX : ∀ x ∈ X, 0 ≤ x ∧ x ≤ 255
  h0 : 0 ≤ n0 ∧ n0 ≤ 4294967295
  h1 : 0 ≤ n1 ∧ n1 ≤ 4294967295
  lX : 1 ≤ X.length ∧ X.length ≤ 5
  L : LW (uses X) S (2 + n0 % 3)
theorem w0 : DV.v (Value.float FloatKind.f32 0) = DV.v (.float .f32 (fl 0)) := by rw [fl_zero]
theorem meter_step {x n0 n1 : Int} {i : Nat} (hx : 0 ≤ x ∧ x ≤ 255) (h0 : 0 ≤ n0 ∧ n0 ≤ 4294967295) (h1 : 0 ≤ n1 ∧ n1 ≤ 4294967295) (hi : i ≤ 5) :
    F6 ((n0 + (i : Int)).tmod 1000000) ((n1 + 7 * (i : Int)).tmod 1000000) 0 0 0 0 0 0 0 0 0 0 4 [.v (.float .f32 1115291648), .v (.float .f32 0), .v (.float .f32 0), .v (.float .f32 0)]
      4 [.v (.float .f32 (fval .mul .f32 1115291648 (floatOfInt .f32 (x.tmod 8)))), .v (.float .f32 0), .v (.float .f32 0), .v (.float .f32 0)] =
      some (tup (regT ((n0 + (i : Int)) % 1000000 * 1000000 + (n1 + 7 * (i : Int)) % 1000000 + x % 8 * 1000000))) ∧
    F7 ((n0 + (i : Int)).tmod 1000000) ((n1 + 7 * (i : Int)).tmod 1000000) (((n0 + (i : Int)) % 1000000 * 1000000 + (n1 + 7 * (i : Int)) % 1000000 + x % 8 * 1000000) / 1000000 % 1000000)
      (((n0 + (i : Int)) % 1000000 * 1000000 + (n1 + 7 * (i : Int)) % 1000000 + x % 8 * 1000000) % 1000000) = some (x % 8 * 1000000, 0) ∧
    fok .mul .f32 1115291648 (floatOfInt .f32 (x.tmod 8)) = true := by
  have t1 : (n0 + (i : Int)).tmod 1000000 = (n0 + (i : Int)) % 1000000 := Int.tmod_eq_emod_of_nonneg (by omega)
  have t2 : (n1 + 7 * (i : Int)).tmod 1000000 = (n1 + 7 * (i : Int)) % 1000000 := Int.tmod_eq_emod_of_nonneg (by omega)
  have t3 : x.tmod 8 = x % 8 := Int.tmod_eq_emod_of_nonneg (by omega)
  obtain ⟨u, hu⟩ : ∃ u : Nat, x % 8 = (u : Int) := ⟨(x % 8).toNat, by omega⟩
  have hu7 : u ≤ 7 := by omega
  rw [t1, t2, t3, hu]
  have e6 := F6_T hu7 (u := (n0 + (i : Int)) % 1000000) (r := (n1 + 7 * (i : Int)) % 1000000) (by omega) (by omega)
  have e7 := F7_T hu7 (u := (n0 + (i : Int)) % 1000000) (r := (n1 + 7 * (i : Int)) % 1000000) (by omega) (by omega)
  refine ⟨?_, e7, use_fok hu7⟩
  rw [use_fl hu7]
  have v1 : ([1000, 0, 0, 0] : List Int).map vF = [.v (.float .f32 1115291648), .v (.float .f32 0), .v (.float .f32 0), .v (.float .f32 0)] := by
    simp only [List.map_cons, List.map_nil, vF, fl_1000, fl_zero]
  have v2 : ([1000 * (u : Int), 0, 0, 0] : List Int).map vF = [.v (.float .f32 (fl (1000 * (u : Int)))), .v (.float .f32 0), .v (.float .f32 0), .v (.float .f32 0)] := by
    simp only [List.map_cons, List.map_nil, vF, fl_zero]
  rw [v1, v2] at e6
  exact e6
theorem wr32 {x : Int} (h : 0 ≤ x ∧ x ≤ 4294967295) : IntKind.i64.wrap x = x := wrap_in (by unfold inI64; omega)
section
variable {X : List Int} {S : List (List Int)} {n0 n1 : Int}
theorem IW.get (W : IW X S n0 n1) {i : Nat} (hi : i < X.length) : 0 ≤ X.getD i 0 ∧ X.getD i 0 ≤ 255 := by
  rw [List.getD_eq_getElem?_getD, List.getElem?_eq_getElem hi]; exact W.hX _ (List.getElem_mem hi)
theorem uses_take {i : Nat} (hi : i < X.length) : ((uses X).take (i + 1)).map vI = ((uses X).take i).map vI ++ [vI (X.getD i 0 % 8)] := by
  have hl : i < (uses X).length := by unfold uses; rw [List.length_map]; exact hi
  rw [List.take_succ_eq_append_getElem hl, List.map_append]
  simp [uses, List.getD_eq_getElem?_getD, hi]
theorem reg_a (T : Int) : (regT T).getD 0 0 = T / 1000000 % 1000000 := rfl
theorem reg_b (T : Int) : (regT T).getD 1 0 = T % 1000000 := rfl
theorem c2_run (W : IW X S n0 n1) : ∀ (m i E : Nat), X.length = i + m → 0 < i →
    res B3 (.c2 S.length (S.map eS) E i (((uses X).take i).map vI) X.length (X.map vB) (X.length : Int) (i : Int) n0 n1 E) = some true
  | 0, i, E, hk, hp => by
    obtain rfl : i = X.length := by omega
    have h1 : ¬ ((X.length : Int) < (X.length : Int)) := by omega
    have hlen : (uses X).length = X.length := List.length_map ..
    have lX := W.lX
    have h0 := W.h0
    have t3 : n0.tmod 3 = n0 % 3 := Int.tmod_eq_emod_of_nonneg (by omega)
    have hin : inI64 (2 + n0 % 3) := by unfold inI64; omega
    have h4 := c4_all W.L (e := E) (z := E) S.length 0 (by omega)
    rw [hlen] at h4
    rw [List.take_of_length_le (by rw [hlen]; exact Nat.le_refl _), res_eq]
    simp only [B3, h1, decide_false, Bool.false_eq_true, if_false, wr32 W.h0, t3, hin, sem_br, sem_ask, sem_triv, sem_nxt, PC.holds, need_true, stepO_nxt]
    exact h4
  | m + 1, i, E, hk, hp => by
    have hi : i < X.length := by omega
    have h1 : (i : Int) < (X.length : Int) := by omega
    have lX := W.lX
    have h0 := W.h0
    have hn1 := W.h1
    have hx := W.get hi
    have ih := c2_run W m (i + 1) (E + 1) (by omega) (by omega)
    rw [uses_take hi] at ih
    obtain ⟨e6, e7, ek⟩ := meter_step (i := i) hx W.h0 W.h1 (by omega)
    have wx : IntKind.i64.wrap (X.getD i 0) = X.getD i 0 := wr32 ⟨hx.1, by omega⟩
    have t2 : (n1 + 7 * (i : Int)).tmod 1000000 = (n1 + 7 * (i : Int)) % 1000000 := Int.tmod_eq_emod_of_nonneg (by omega)
    have t3 : (X.getD i 0).tmod 8 = X.getD i 0 % 8 := Int.tmod_eq_emod_of_nonneg (by omega)
    have t4 : (X.getD i 0 % 8 * 1000000).tdiv 1000000 = X.getD i 0 % 8 := by rw [Int.tdiv_eq_ediv_of_nonneg (by omega)]; omega
    have t5 : ((n0 + (i : Int)) % 1000000 * 1000000 + (n1 + 7 * (i : Int)) % 1000000 + X.getD i 0 % 8 * 1000000) % 1000000 = (n1 + 7 * (i : Int)) % 1000000 := by omega
    have i1 : inI64 (n0 + (i : Int)) := by unfold inI64; omega
    have i2 : inI64 (7 * (i : Int)) := by unfold inI64; omega
    have i3 : inI64 (n1 + 7 * (i : Int)) := by unfold inI64; omega
    have i4 : inI64 (X.getD i 0 % 8 * 1000000) := by unfold inI64; omega
    have i5 : inI64 (X.getD i 0 % 8) := by unfold inI64; omega
    have i6 : inI64 ((i : Int) + 1) := by unfold inI64; omega
    have hf : fitsN (i + 1) 8 := by unfold fitsN; omega
    rw [res_eq]
    simp only [B3, h1, decide_true, if_true, Int.toNat_natCast, Nat.mul_one, dI_B, at_mapB hi, Int.natCast_nonneg, List.length_map, Nat.le_of_lt hi, wr32 W.h0, wr32 W.h1, wx, i1, i2, i3, ek, e6, tup, reg_a, reg_b, e7, sem_br, sem_ask, sem_triv, sem_bind_some, sem_sees, sem_nxt, PC.holds, need_true, bne_self_eq_false, beq_self_eq_true, Bool.false_eq_true, if_false]
    simp only [t2, t3, t4, t5, i4, i5, i6, hf, sem_br, sem_ask, sem_triv, sem_bind_some, sem_sees, sem_nxt, PC.holds, need_true, bne_self_eq_false, beq_self_eq_true, Bool.false_eq_true, if_false, stepO_nxt]
    exact ih
theorem c1_run (W : IW X S n0 n1) : res B3 (.c1 S.length (S.map eS) X.length (X.map vB) (X.length : Int) 0 n0 n1) = some true := by
  have lX := W.lX
  have hi : 0 < X.length := by omega
  have h1 : (0 : Int) < (X.length : Int) := by omega
  have h0 := W.h0
  have hn1 := W.h1
  have hx := W.get hi
  have ih := c2_run W (X.length - 1) 1 0 (by omega) (by omega)
  rw [uses_take hi] at ih
  obtain ⟨e6, e7, ek⟩ := meter_step (i := 0) hx W.h0 W.h1 (by omega)
  rw [show ((0 : Nat) : Int) = 0 from rfl] at e6 e7
  have wx : IntKind.i64.wrap (X.getD 0 0) = X.getD 0 0 := wr32 ⟨hx.1, by omega⟩
  have t2 : (n1 + 7 * (0 : Int)).tmod 1000000 = (n1 + 7 * (0 : Int)) % 1000000 := Int.tmod_eq_emod_of_nonneg (by omega)
  have t3 : (X.getD 0 0).tmod 8 = X.getD 0 0 % 8 := Int.tmod_eq_emod_of_nonneg (by omega)
  have t4 : (X.getD 0 0 % 8 * 1000000).tdiv 1000000 = X.getD 0 0 % 8 := by rw [Int.tdiv_eq_ediv_of_nonneg (by omega)]; omega
  have t5 : ((n0 + (0 : Int)) % 1000000 * 1000000 + (n1 + 7 * (0 : Int)) % 1000000 + X.getD 0 0 % 8 * 1000000) % 1000000 = (n1 + 7 * (0 : Int)) % 1000000 := by omega
  have i1 : inI64 (n0 + (0 : Int)) := by unfold inI64; omega
  have i2 : inI64 (7 * (0 : Int)) := by unfold inI64; omega
  have i3 : inI64 (n1 + 7 * (0 : Int)) := by unfold inI64; omega
  have i4 : inI64 (X.getD 0 0 % 8 * 1000000) := by unfold inI64; omega
  have i5 : inI64 (X.getD 0 0 % 8) := by unfold inI64; omega
  have i6 : inI64 ((0 : Int) + 1) := by unfold inI64; omega
  have at0 := at_mapB hi
  rw [res_eq]
  simp only [B3, h1, decide_true, if_true, Int.toNat_zero, Nat.zero_mul, dI_B, at0, Int.le_refl, List.length_map, Nat.zero_le, wr32 W.h0, wr32 W.h1, wx, i1, i2, i3, ek, e6, tup, reg_a, reg_b, e7, sem_br, sem_ask, sem_triv, sem_bind_some, sem_sees, sem_nxt, PC.holds, need_true, bne_self_eq_false, beq_self_eq_true, Bool.false_eq_true, if_false]
  simp only [t2, t3, t4, t5, i4, i5, i6, sem_br, sem_ask, sem_triv, sem_bind_some, sem_sees, sem_nxt, PC.holds, need_true, bne_self_eq_false, beq_self_eq_true, Bool.false_eq_true, if_false, stepO_nxt]
  exact ih
end
/-- The law is true. -/
theorem houses_true (X : List Int) (hX : X.length ≤ maxLen ∧ ∀ x ∈ X, 0 ≤ x ∧ x ≤ 255) (S : List (List Int)) (hS : S.length ≤ maxLen ∧ ∀ s ∈ S, s.length ≤ maxLen) (n0 n1 : Int) (h0 : 0 ≤ n0 ∧ n0 ≤ 4294967295) (h1 : 0 ≤ n1 ∧ n1 ≤ 4294967295) :
    F3 X.length (X.map vB) S.length (S.map eS) n0 n1 = some true := by
  have mx : maxLen ≤ 9223372036854775807 := by decide
  have e4 := F4_eq (X.length : Int) S ⟨by omega, fun s hs => by have := hS.2 s hs; omega⟩
  unfold F3; rw [res_eq]
  simp only [B3, e4, F5_true, sem_br, sem_ask, sem_triv, sem_bind_some, sem_sees, sem_nxt, sem_ret]
  by_cases a1 : (X.length : Int) < 1
  · simp only [a1, decide_true, if_true, stepO_ret]
  by_cases a2 : (X.length : Int) > 5
  · simp only [a1, a2, decide_true, decide_false, if_true, if_false, Bool.false_eq_true, stepO_ret]
  by_cases a3 : (S.length : Int) < 1
  · simp only [a1, a2, a3, decide_true, decide_false, if_true, if_false, Bool.false_eq_true, stepO_ret]
  by_cases a4 : (S.length : Int) > 5
  · simp only [a1, a2, a3, a4, decide_true, decide_false, if_true, if_false, Bool.false_eq_true, stepO_ret]
  have a5 : ¬ (S.length > 16) := by omega
  simp only [a1, a2, a3, a4, a5, decide_false, if_false, Bool.false_eq_true]
  by_cases c5 : ckSs (X.length : Int) S = 0
  · simp only [c5, bne_self_eq_false, Bool.false_eq_true, if_false, stepO_nxt]
    have hlen : (uses X).length = X.length := List.length_map ..
    refine c1_run ⟨hX.2, h0, h1, by omega, ?_⟩
    refine ⟨?_, by omega, by omega, by rw [hlen]; exact ckSs_zero c5, by omega⟩
    intro x hx
    obtain ⟨y, _, rfl⟩ := List.mem_map.1 hx
    omega
  · simp only [bne_iff_ne.2 c5, if_true, stepO_ret]
end
end Go.Kv
