import Derived.Test.YtfojgeoicgmncaaKT1
namespace Go.Kv
set_option linter.unusedVariables false
set_option linter.unusedSimpArgs false
open Go Go.RowKit
set_option maxRecDepth 100000
section
variable {B S X : List Int} {L : List RX} {l : List LX} {N : Nat} {n a c : Int} {j : Nat}
theorem F5_eq (l : List Int) : F5 l.length (l.map vI) = some (decide ((l.length : Int) ≤ 9)) := by
  unfold F5; rw [res_eq]
  simp only [B5, sem_ret, stepO_ret]
theorem round1 (hS : S.length = N) (v : VE 4 S []) (hN : 1 ≤ N ∧ N ≤ 8) (ha : 0 ≤ a ∧ a ≤ 255) (hL : L.length ≤ 6) (hj : j ≤ 100) :
    res B3 (.c2 N (B.map vI) L.length (L.flatMap eX) ((j : Nat) : Int) l.length (l.flatMap eL) (l.length : Int) (N : Int) 0 N (S.map vI) a c) =
    if c.tmod 2 == 0 then res B3 (.c8 N (B.map vI) L.length (L.flatMap eX) l.length (l.flatMap eL) (l.length : Int) (((j + 1 : Nat)) : Int) 4 N (S.map vI) N ((xs a N).map vI) 4 N (S.map vI) N ((xs a N).map vI))
    else res B3 (.c8 N (B.map vI) L.length (L.flatMap eX) l.length (l.flatMap eL) (l.length : Int) (((j + 1 : Nat)) : Int) (4 + 1) N ((xs a N).map vI) 0 [] (4 + 1) N ((xs a N).map vI) 0 []) := by
  have h1 : (0 : Int) < ((N : Nat) : Int) := by omega
  have w := w64 (a := a) (by omega)
  have i1 : inI64 (a + 0) := by unfold inI64; omega
  have i2 : inI64 ((0 : Int) + 1) := by unfold inI64; omega
  obtain ⟨p, ih⟩ := own1 (L := L) (l := l) (B := B) (c := c) (a := a) (j := j) hS v hN ha (N - 1) 1 0 (by omega) (by omega)
  have vx := xs_vm (a := a) (k := N) ha.1 hN
  have hX := xs_len a N
  have m1 := msg1 (B := B) (S := S) (l := l) (c := c) (a := a) (j := j) hX vx.bd (by omega) hN hL hj p N 0 0 (by omega)
  have d1 := md1 (B := B) (L := L) (l := l) (c := c) (a := a) hS hX vx hN hj v (by omega)
  refine Eq.trans ?_ (ih.trans (m1.trans d1))
  rw [res_eq]
  simp only [B3, h1, w, i1, i2, decide_true, if_true, sem_br, sem_ask, sem_nxt, PC.holds, need_true, stepO_nxt]
  rfl
theorem round2 (hS : S.length = N) (v : VE n S []) (hN : 1 ≤ N ∧ N ≤ 8) (ha : 0 ≤ a ∧ a ≤ 255) (hL : L.length ≤ 6) (hj : j ≤ 100) (h99 : n ≤ 99) :
    res B3 (.c9 N (B.map vI) L.length (L.flatMap eX) ((j : Nat) : Int) l.length (l.flatMap eL) (l.length : Int) (N : Int) 0 n N (S.map vI) 0 [] n N (S.map vI) 0 [] a c) =
    if c.tmod 2 == 0 then res B3 (.c8 N (B.map vI) L.length (L.flatMap eX) l.length (l.flatMap eL) (l.length : Int) (((j + 1 : Nat)) : Int) n N (S.map vI) N ((xs a N).map vI) n N (S.map vI) N ((xs a N).map vI))
    else res B3 (.c8 N (B.map vI) L.length (L.flatMap eX) l.length (l.flatMap eL) (l.length : Int) (((j + 1 : Nat)) : Int) (n + 1) N ((xs a N).map vI) 0 [] (n + 1) N ((xs a N).map vI) 0 []) := by
  have h1 : (0 : Int) < ((N : Nat) : Int) := by omega
  have w := w64 (a := a) (by omega)
  have i1 : inI64 (a + 0) := by unfold inI64; omega
  have i2 : inI64 ((0 : Int) + 1) := by unfold inI64; omega
  obtain ⟨p, ih⟩ := own2 (L := L) (l := l) (B := B) (c := c) (a := a) (j := j) hS v hN ha (N - 1) 1 0 (by omega) (by omega)
  have vx := xs_vm (a := a) (k := N) ha.1 hN
  have hX := xs_len a N
  have m1 := msg2 (B := B) (S := S) (R := []) (l := l) (c := c) (a := a) (j := j) hX vx.bd v.hn hN hL hj p N 0 0 (by omega)
  have d1 := md2 (B := B) (L := L) (l := l) (c := c) (a := a) (R := []) hS hX vx hN hj v (.inl rfl) h99
  refine Eq.trans ?_ (ih.trans (m1.trans d1))
  rw [res_eq]
  simp only [B3, h1, w, i1, i2, decide_true, if_true, sem_br, sem_ask, sem_nxt, PC.holds, need_true, stepO_nxt]
  rfl
theorem round3 (hS : S.length = N) (hX : X.length = N) (v : VE n S X) (vx : VM X) (hN : 1 ≤ N ∧ N ≤ 8) (hL : L.length ≤ 6) (hj : j ≤ 100) (h99 : n ≤ 99) :
    res B3 (.c10 N (B.map vI) L.length (L.flatMap eX) ((j : Nat) : Int) l.length (l.flatMap eL) (l.length : Int) n N (S.map vI) N (X.map vI) n N (S.map vI) N (X.map vI) a c) =
    if c.tmod 2 == 0 then res B3 (.c8 N (B.map vI) L.length (L.flatMap eX) l.length (l.flatMap eL) (l.length : Int) (((j + 1 : Nat)) : Int) n N (S.map vI) N (X.map vI) n N (S.map vI) N (X.map vI))
    else res B3 (.c8 N (B.map vI) L.length (L.flatMap eX) l.length (l.flatMap eL) (l.length : Int) (((j + 1 : Nat)) : Int) (n + 1) N (X.map vI) 0 [] (n + 1) N (X.map vI) 0 []) := by
  have hn := v.hn
  have i1 : inI64 (n + 1) := by unfold inI64; omega
  have i2 : inI64 ((n + 1 : Int).tdiv 256) := by
    rw [Int.tdiv_eq_ediv_of_nonneg (by omega)]; unfold inI64; omega
  have q1 := hi_eq hn
  have q2 := lo_eq hn
  have m1 := msg3 (B := B) (S := S) (R := X) (l := l) (c := c) (a := a) (j := j) hX vx.bd hn hN hL hj N 0 0 (by omega)
  have d1 := md2 (B := B) (L := L) (l := l) (c := c) (a := a) (R := X) hS hX vx hN hj v (.inr rfl) h99
  rw [hX] at m1 d1
  refine Eq.trans ?_ (m1.trans d1)
  rw [res_eq]
  simp only [B3, i1, i2, q1, q2, sem_ask, sem_nxt, PC.holds, need_true, stepO_nxt]
  rfl
def VL (l : List LX) : Prop := ∀ x ∈ l, (0 ≤ x.1 ∧ x.1 ≤ 255) ∧ (0 ≤ x.2 ∧ x.2 ≤ 255)
theorem VL.get (v : VL l) (hj : j < l.length) : 0 ≤ (l.getD j l0).1 ∧ (l.getD j l0).1 ≤ 255 := by
  rw [show l.getD j l0 = l[j] by simp [List.getD_eq_getElem?_getD, hj]]
  exact (v _ (List.getElem_mem hj)).1
theorem main8 (hN : 1 ≤ N ∧ N ≤ 8) (hL : L.length ≤ 6) (vl : VL l) (hl : l.length ≤ 4) : ∀ (k j : Nat), l.length = j + k →
    (∀ (n : Int) (S : List Int), VE n S [] → S.length = N → n ≤ 4 + ((j : Nat) : Int) → res B3 (.c8 N (B.map vI) L.length (L.flatMap eX) l.length (l.flatMap eL) (l.length : Int) ((j : Nat) : Int) n N (S.map vI) 0 [] n N (S.map vI) 0 []) = some true) ∧
    (∀ (n : Int) (S X : List Int), VE n S X → VM X → S.length = N → X.length = N → n ≤ 4 + ((j : Nat) : Int) → res B3 (.c8 N (B.map vI) L.length (L.flatMap eX) l.length (l.flatMap eL) (l.length : Int) ((j : Nat) : Int) n N (S.map vI) N (X.map vI) n N (S.map vI) N (X.map vI)) = some true)
  | 0, j, hk => by
    obtain rfl : j = l.length := by omega
    have hc : ¬ (((l.length : Nat) : Int) < ((l.length : Nat) : Int)) := by omega
    constructor
    · intro n S v hS hn
      rw [res_eq]
      simp only [B3, hc, decide_false, Bool.false_eq_true, if_false, sem_br, sem_ret, stepO_ret]
    · intro n S X v vx hS hX hn
      rw [res_eq]
      simp only [B3, hc, decide_false, Bool.false_eq_true, if_false, sem_br, sem_ret, stepO_ret]
  | k + 1, j, hk => by
    have hj : j < l.length := by omega
    have h1 : ((j : Nat) : Int) < ((l.length : Nat) : Int) := by omega
    have t := atL hj
    have t0 := t.c0; have t1 := t.c1; have t2 := t.r1; have t3 := t.r2; have t4 := t.t
    have hab := vl.get hj
    obtain ⟨i1, i2⟩ := main8 hN hL vl hl k (j + 1) (by omega)
    have z : (((0 : Nat) : Int) == 0) = true := rfl
    have z1 : (((N : Nat) : Int) == 0) = false := by simp; omega
    constructor
    · intro n S v hS hn
      have hv := v.hn
      have vx := xs_vm (a := (l.getD j l0).1) (k := N) hab.1 hN
      have hX := xs_len (l.getD j l0).1 N
      have r := round2 (B := B) (l := l) (c := (l.getD j l0).2) (j := j) hS v hN hab hL (by omega) (by omega)
      rw [res_eq]
      simp only [B3, h1, t0, t1, t2, t3, t4, z, Int.toNat_natCast, Int.natCast_nonneg, decide_true, if_true, sem_br, sem_ask, sem_nxt, PC.holds, need_true, stepO_nxt]
      refine r.trans ?_
      split
      · exact i2 n S _ ⟨v.hn, v.hl, .inr ⟨vx, by rw [hX, hS]⟩⟩ vx hS hX (by omega)
      · exact i1 (n + 1) _ ⟨by omega, vx, .inl rfl⟩ hX (by omega)
    · intro n S X v vx hS hX hn
      have hv := v.hn
      have r := round3 (B := B) (l := l) (a := (l.getD j l0).1) (c := (l.getD j l0).2) (j := j) hS hX v vx hN hL (by omega) (by omega)
      rw [res_eq]
      simp only [B3, h1, t0, t1, t2, t3, t4, z1, Int.toNat_natCast, Int.natCast_nonneg, decide_true, if_true, Bool.false_eq_true, if_false, sem_br, sem_ask, sem_nxt, PC.holds, need_true, stepO_nxt]
      refine r.trans ?_
      split
      · exact i2 n S X v vx hS hX (by omega)
      · exact i1 (n + 1) X ⟨by omega, vx, .inl rfl⟩ hX (by omega)
theorem fuse_true (hB : B.length ≤ 9223372036854775807) (vl : VL l) : F3 B.length (B.map vI) l.length (l.flatMap eL) L.length (L.flatMap eX) = some true := by
  unfold F3; rw [res_eq]
  by_cases h9 : (B.length : Int) ≤ 9
  · by_cases h6 : ckM B = 0
    · by_cases h4 : (l.length : Int) > 4
      · simp only [B3, F4_true, F5_eq, F6_eq B hB, h9, h6, h4, decide_true, Bool.not_true, Bool.false_eq_true, if_false, if_true, bne_self_eq_false, sem_br, sem_triv, sem_bind_some, sem_sees, sem_ret, stepO_ret]
      · by_cases h7 : (L.length : Int) > 6
        · simp only [B3, F4_true, F5_eq, F6_eq B hB, h9, h6, h4, h7, decide_true, decide_false, Bool.not_true, Bool.false_eq_true, if_false, if_true, bne_self_eq_false, sem_br, sem_triv, sem_bind_some, sem_sees, sem_ret, stepO_ret]
        · have vm := ckM_vm h6
          have e7 := F7_eq (l := B) (by omega)
          have hN : 1 ≤ B.length ∧ B.length ≤ 8 := ⟨vm.l1, vm.l8⟩
          have hL : L.length ≤ 6 := by omega
          have v4 : VE 4 B [] := ⟨by omega, vm, .inl rfl⟩
          simp only [B3, F4_true, F5_eq, F6_eq B hB, e7, h9, h6, h4, h7, decide_true, decide_false, Bool.not_true, Bool.false_eq_true, if_false, if_true, bne_self_eq_false, sem_br, sem_triv, sem_bind_some, sem_sees, sem_nxt, stepO_nxt]
          by_cases hl0 : 0 < l.length
          · have t := atL hl0
            have t0 := t.c0; have t1 := t.c1; have t2 := t.r1; have t3 := t.r2; have t4 := t.t
            simp only [Nat.zero_mul, Nat.zero_add] at t0 t1 t2 t3 t4
            have hab := vl.get hl0
            have h1 : (0 : Int) < ((l.length : Nat) : Int) := by omega
            have vx := xs_vm (a := (l.getD 0 l0).1) (k := B.length) hab.1 hN
            have hX := xs_len (l.getD 0 l0).1 B.length
            obtain ⟨i1, i2⟩ := main8 (B := B) hN hL vl (by omega) (l.length - 1) 1 (by omega)
            have r := round1 (B := B) (l := l) (c := (l.getD 0 l0).2) (j := 0) rfl v4 hN hab hL (by omega)
            rw [res_eq]
            simp only [B3, h1, t0, t1, t2, t3, t4, Int.toNat_zero, Nat.zero_mul, Nat.zero_add, Int.le_refl, decide_true, if_true, sem_br, sem_ask, sem_nxt, PC.holds, need_true, stepO_nxt]
            refine r.trans ?_
            split
            · exact i2 4 B _ ⟨by omega, vm, .inr ⟨vx, hX⟩⟩ vx rfl hX (by omega)
            · exact i1 (4 + 1) _ ⟨by omega, vx, .inl rfl⟩ hX (by omega)
          · have h1 : ¬ ((0 : Int) < ((l.length : Nat) : Int)) := by omega
            rw [res_eq]
            simp only [B3, h1, decide_false, Bool.false_eq_true, if_false, sem_br, sem_ret, stepO_ret]
    · have h6b : (ckM B != 0) = true := by simpa using h6
      simp only [B3, F4_true, F5_eq, F6_eq B hB, h9, h6b, decide_true, Bool.not_true, Bool.false_eq_true, if_false, if_true, sem_br, sem_triv, sem_bind_some, sem_sees, sem_ret, stepO_ret]
  · simp only [B3, F4_true, F5_eq, F6_eq B hB, h9, decide_false, Bool.not_true, Bool.not_false, Bool.false_eq_true, if_false, if_true, sem_br, sem_triv, sem_bind_some, sem_sees, sem_ret, stepO_ret]
end
end Go.Kv
