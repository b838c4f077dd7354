import Derived.Test.YtfojgeoicgmncaaKF1
import Derived.Test.YtfojgeoicgmncaaGF3
namespace Go.Kv
set_option linter.unusedVariables false
set_option linter.unusedSimpArgs false
open Go Go.RowKit
set_option maxRecDepth 100000
abbrev LX := Int × Int
def eL (x : LX) : List DV := [.v (.int .u8 x.1), .v (.int .u8 x.2)]
theorem eL_len (x : LX) : (eL x).length = 2 := rfl
def l0 : LX := (0, 0)
structure AtL (l : List DV) (i : Nat) (x : LX) : Prop where
  c0 : dI (cel l (i * 2)) = x.1
  c1 : dI (cel l (i * 2 + 1)) = x.2
  r1 : i * 2 ≤ l.length
  r2 : 2 ≤ (l.drop (i * 2)).length
  t : List.map AV.d (List.take 2 (List.drop (i * 2) l)) = [AV.d (DV.v (Value.int IntKind.u8 x.1)), AV.d (DV.v (Value.int IntKind.u8 x.2))]
theorem atL {L : List LX} {i : Nat} (hi : i < L.length) : AtL (L.flatMap eL) i (L.getD i l0) := by
  have hk (k : Nat) (h : k < 2) := fm_cel (enc := eL) eL_len hi h
  obtain ⟨q1, q2⟩ := fm_room (enc := eL) eL_len hi
  rw [show L.getD i l0 = L[i] by simp [List.getD_eq_getElem?_getD, hi]]
  refine ⟨?_, ?_, q1, q2, ?_⟩
  · have := hk 0 (by decide)
    rw [Nat.add_zero] at this
    rw [this]; rfl
  · rw [hk 1 (by decide)]; rfl
  · rw [fm_at eL_len hi]; rfl
theorem w64 {a : Int} (h : 0 ≤ a ∧ a ≤ 1000) : IntKind.i64.wrap a = a := by
  simp [IntKind.wrap, IntKind.signed, IntKind.bits]; omega
theorem w8 {a : Int} (h : 0 ≤ a ∧ a ≤ 255) : IntKind.u8.wrap a = a := by
  simp [IntKind.wrap, IntKind.signed, IntKind.bits]; omega
theorem hi_eq {n : Int} (h : 0 ≤ n ∧ n ≤ 100) : IntKind.u8.wrap ((n + 1).tdiv 256) = 0 := by
  rw [Int.tdiv_eq_ediv_of_nonneg (by omega), show (n + 1) / 256 = 0 by omega]; rfl
theorem lo_eq {n : Int} (h : 0 ≤ n ∧ n ≤ 100) : IntKind.u8.wrap ((n + 1).tmod 256) = n + 1 := by
  rw [Int.tmod_eq_emod_of_nonneg (by omega), show (n + 1) % 256 = n + 1 by omega]; exact w8 (by omega)
def xs (a : Int) (k : Nat) : List Int := (List.range k).map fun i => (a + ((i : Nat) : Int)).tmod 7
theorem xs_len (a : Int) (k : Nat) : (xs a k).length = k := by unfold xs; rw [List.length_map, List.length_range]
theorem xs_succ (a : Int) (k : Nat) : (xs a (k + 1)).map vI = (xs a k).map vI ++ [DV.v (Value.int IntKind.i64 ((a + ((k : Nat) : Int)).tmod 7))] := by
  unfold xs; rw [List.range_succ, List.map_append, List.map_append]; rfl
theorem xs_vm {a : Int} {k : Nat} (ha : 0 ≤ a) (hk : 1 ≤ k ∧ k ≤ 8) : VM (xs a k) := by
  refine ⟨by rw [xs_len]; omega, by rw [xs_len]; omega, ?_⟩
  intro x hx
  unfold xs at hx
  obtain ⟨i, _, rfl⟩ := List.mem_map.1 hx
  rw [Int.tmod_eq_emod_of_nonneg (by omega)]; omega
theorem tk_succ {l : List Int} {i : Nat} (hi : i < l.length) (f : Int → DV) : (l.take (i + 1)).map f = (l.take i).map f ++ [f (l.getD i 0)] := by
  rw [List.take_succ_eq_append_getElem hi, List.map_append]
  simp [List.getD_eq_getElem?_getD, hi]
def mb (n : Int) (X : List Int) (i : Nat) : List DV := (0 :: (n + 1) :: X.take i).map vB
theorem mb_succ {n : Int} {X : List Int} {i : Nat} (hi : i < X.length) : mb n X (i + 1) = mb n X i ++ [DV.v (Value.int IntKind.u8 (X.getD i 0))] := by
  unfold mb
  rw [List.map_cons, List.map_cons, tk_succ hi, List.map_cons, List.map_cons]; rfl
theorem mb_all {n : Int} {X : List Int} {i : Nat} (hi : X.length ≤ i) : mb n X i = (0 :: (n + 1) :: X).map vB := by
  unfold mb; rw [List.take_of_length_le hi]
section
variable {B S X R : List Int} {L : List RX} {l : List LX} {N : Nat} {n a c : Int} {j : Nat}
theorem own1 (hS : S.length = N) (v : VE 4 S []) (hN : 1 ≤ N ∧ N ≤ 8) (ha : 0 ≤ a ∧ a ≤ 255) : ∀ (k i e : Nat), N = i + k → 0 < i → ∃ p : Nat, res B3 (.c3 N (B.map vI) L.length (L.flatMap eX) ((j : Nat) : Int) e i ((xs a i).map vI) l.length (l.flatMap eL) (l.length : Int) (N : Int) ((i : Nat) : Int) N (S.map vI) a c e) = res B3 (.c5 N (B.map vI) L.length (L.flatMap eX) ((j : Nat) : Int) 0 (0 + 2) (mb 4 (xs a N) 0) l.length (l.flatMap eL) (l.length : Int) N ((xs a N).map vI) (N : Int) ((0 : Nat) : Int) 4 N (S.map vI) N (S.map vI) a c p 0)
  | 0, i, e, hk, h0 => by
    obtain rfl : i = N := by omega
    have vx := xs_vm (a := a) (k := i) ha.1 hN
    have hx := xs_len a i
    have e8 := F8_eq v vx (by rw [hx, hS])
    have v2 : VE 4 S (xs a i) := ⟨v.hn, v.hl, .inr ⟨vx, by rw [hx, hS]⟩⟩
    have e9 := F9_eq v2
    have e10 := F10_eq (xs a i) (by rw [hx]; omega)
    rw [hx, hS] at e8 e9
    rw [hx] at e10
    have hn := v.hn
    have i1 : inI64 (4 + 1) := by unfold inI64; omega
    have i2 : inI64 ((4 + 1 : Int).tdiv 256) := by
      rw [Int.tdiv_eq_ediv_of_nonneg (by omega)]; unfold inI64; omega
    have q1 := hi_eq hn
    have q2 := lo_eq hn
    have hc : ¬ (((i : Nat) : Int) < ((i : Nat) : Int)) := by omega
    refine ⟨e, ?_⟩
    rw [res_eq]
    simp only [B3, hc, e8, e9, e10, i1, i2, q1, q2, sem_br, sem_ask, sem_triv, sem_bind_some, sem_sees, sem_nxt, sem_ret, PC.holds, need_true, bne_self_eq_false, beq_self_eq_true, Bool.false_eq_true, if_false, if_true, Bool.not_true, Bool.not_false, decide_true, decide_false, stepO_nxt]
    all_goals rfl
  | k + 1, i, e, hk, h0 => by
    have h1 : ((i : Nat) : Int) < ((N : Nat) : Int) := by omega
    have w := w64 (a := a) (by omega)
    have i1 : inI64 (a + ((i : Nat) : Int)) := by unfold inI64; omega
    have i2 : inI64 (((i : Nat) : Int) + 1) := by unfold inI64; omega
    have hf : fitsN (i + 1) 8 := by unfold fitsN; omega
    obtain ⟨p, ih⟩ := own1 hS v hN ha k (i + 1) (e + 1) (by omega) (by omega)
    refine ⟨p, ?_⟩
    rw [xs_succ] at ih
    rw [← ih, res_eq]
    simp only [B3, h1, w, i1, i2, hf, sem_br, sem_ask, sem_triv, sem_bind_some, sem_sees, sem_nxt, sem_ret, PC.holds, need_true, bne_self_eq_false, beq_self_eq_true, Bool.false_eq_true, if_false, if_true, Bool.not_true, Bool.not_false, decide_true, decide_false, stepO_nxt]
    all_goals rfl
theorem own2 (hS : S.length = N) (v : VE n S []) (hN : 1 ≤ N ∧ N ≤ 8) (ha : 0 ≤ a ∧ a ≤ 255) : ∀ (k i e : Nat), N = i + k → 0 < i → ∃ p : Nat, res B3 (.c11 N (B.map vI) L.length (L.flatMap eX) ((j : Nat) : Int) e i ((xs a i).map vI) l.length (l.flatMap eL) (l.length : Int) (N : Int) ((i : Nat) : Int) n N (S.map vI) 0 [] n N (S.map vI) 0 [] a c e) = res B3 (.c14 N (B.map vI) L.length (L.flatMap eX) ((j : Nat) : Int) 0 (0 + 2) (mb n (xs a N) 0) l.length (l.flatMap eL) (l.length : Int) N ((xs a N).map vI) (N : Int) ((0 : Nat) : Int) n N (S.map vI) n N (S.map vI) 0 [] a c p 0)
  | 0, i, e, hk, h0 => by
    obtain rfl : i = N := by omega
    have vx := xs_vm (a := a) (k := i) ha.1 hN
    have hx := xs_len a i
    have e8 := F8_eq v vx (by rw [hx, hS])
    have v2 : VE n S (xs a i) := ⟨v.hn, v.hl, .inr ⟨vx, by rw [hx, hS]⟩⟩
    have e9 := F9_eq v2
    have e10 := F10_eq (xs a i) (by rw [hx]; omega)
    rw [hx, hS] at e8 e9
    rw [hx] at e10
    have hn := v.hn
    have i1 : inI64 (n + 1) := by unfold inI64; omega
    have i2 : inI64 ((n + 1 : Int).tdiv 256) := by
      rw [Int.tdiv_eq_ediv_of_nonneg (by omega)]; unfold inI64; omega
    have q1 := hi_eq hn
    have q2 := lo_eq hn
    have hc : ¬ (((i : Nat) : Int) < ((i : Nat) : Int)) := by omega
    refine ⟨e, ?_⟩
    rw [res_eq]
    simp only [B3, hc, e8, e9, e10, i1, i2, q1, q2, sem_br, sem_ask, sem_triv, sem_bind_some, sem_sees, sem_nxt, sem_ret, PC.holds, need_true, bne_self_eq_false, beq_self_eq_true, Bool.false_eq_true, if_false, if_true, Bool.not_true, Bool.not_false, decide_true, decide_false, stepO_nxt]
    all_goals rfl
  | k + 1, i, e, hk, h0 => by
    have h1 : ((i : Nat) : Int) < ((N : Nat) : Int) := by omega
    have w := w64 (a := a) (by omega)
    have i1 : inI64 (a + ((i : Nat) : Int)) := by unfold inI64; omega
    have i2 : inI64 (((i : Nat) : Int) + 1) := by unfold inI64; omega
    have hf : fitsN (i + 1) 8 := by unfold fitsN; omega
    obtain ⟨p, ih⟩ := own2 hS v hN ha k (i + 1) (e + 1) (by omega) (by omega)
    refine ⟨p, ?_⟩
    rw [xs_succ] at ih
    rw [← ih, res_eq]
    simp only [B3, h1, w, i1, i2, hf, sem_br, sem_ask, sem_triv, sem_bind_some, sem_sees, sem_nxt, sem_ret, PC.holds, need_true, bne_self_eq_false, beq_self_eq_true, Bool.false_eq_true, if_false, if_true, Bool.not_true, Bool.not_false, decide_true, decide_false, stepO_nxt]
    all_goals rfl
theorem msg1 (hX : X.length = N) (hb : ∀ x ∈ X, 0 ≤ x ∧ x ≤ 6) (hn : 0 ≤ (4 : Int) ∧ (4 : Int) ≤ 100) (hN : 1 ≤ N ∧ N ≤ 8) (hL : L.length ≤ 6) (hj : j ≤ 100) (p : Nat) : ∀ (k i e : Nat), N = i + k → res B3 (.c5 N (B.map vI) L.length (L.flatMap eX) ((j : Nat) : Int) e (i + 2) (mb 4 X i) l.length (l.flatMap eL) (l.length : Int) N (X.map vI) (N : Int) ((i : Nat) : Int) 4 N (S.map vI) N (S.map vI) a c p e) = res B3 (.c6 N (B.map vI) L.length (L.flatMap eX) (N + 2) ((0 :: (4 + 1) :: X).map vB) l.length (l.flatMap eL) (l.length : Int) ((j : Nat) : Int) N (X.map vB) (N : Int) 0 4 N (S.map vI) N (X.map vI) N (S.map vI) a c)
  | 0, i, e, hk => by
    obtain rfl : i = N := by omega
    have hlen : (0 :: (4 + 1) :: X).length = i + 2 := by rw [List.length_cons, List.length_cons, hX]
    have cp : CPx ((j : Nat) : Int) (0 :: (4 + 1) :: X) 3 ((i + 2 + 3 - 1) / 3) := ⟨by omega, .inr rfl, by rw [hlen]; omega, by rw [hlen], by omega⟩
    have e11 := F11_eq cp hL
    have e12 := F12_eq (0 :: (4 + 1) :: X)
    rw [hlen] at e11 e12
    have e11a : F11 (i + 2) ((0 :: (4 + 1) :: X).map vB) ((j : Nat) : Int) 3 L.length (L.flatMap eX) = some (i + 2, (0 :: (4 + 1) :: X).map vB, true) := e11
    have hc : ¬ (((i : Nat) : Int) < ((i : Nat) : Int)) := by omega
    have hm := mb_all (n := 4) (X := X) (i := i) (by omega)
    have h2 : (2 : Int) ≤ ((i + 2 : Nat) : Int) := by omega
    have ht : List.take i (List.drop 2 ((0 :: (4 + 1) :: X).map vB)) = X.map vB := by
      show List.take i (X.map vB) = _
      rw [List.take_of_length_le (by rw [List.length_map]; omega)]
    rw [hm, res_eq]
    simp only [B3, hc, e11a, e12, h2, ht, Int.toNat_natCast, Nat.add_sub_cancel, Nat.mul_one, List.length_map, hlen, Int.le_refl, sem_br, sem_ask, sem_triv, sem_bind_some, sem_sees, sem_nxt, sem_ret, PC.holds, need_true, bne_self_eq_false, beq_self_eq_true, Bool.false_eq_true, if_false, if_true, Bool.not_true, Bool.not_false, decide_true, decide_false, stepO_nxt]
    all_goals rfl
  | k + 1, i, e, hk => by
    have hi : i < X.length := by omega
    have h1 : ((i : Nat) : Int) < ((N : Nat) : Int) := by omega
    have hxi : 0 ≤ X.getD i 0 ∧ X.getD i 0 ≤ 6 := by
      rw [List.getD_eq_getElem?_getD, List.getElem?_eq_getElem hi]; exact hb _ (List.getElem_mem hi)
    have w := w8 (a := X.getD i 0) (by omega)
    have i2 : inI64 (((i : Nat) : Int) + 1) := by unfold inI64; omega
    have hf : fitsN (i + 2 + 1) 1 := by unfold fitsN; omega
    have hle : i ≤ X.length := by omega
    have ih := msg1 hX hb hn hN hL hj p k (i + 1) (e + 1) (by omega)
    rw [mb_succ hi] at ih
    rw [← ih, res_eq]
    simp only [B3, h1, w, i2, hf, hle, Int.toNat_natCast, Nat.mul_one, dI_cel_map, at_map hi, Int.natCast_nonneg, List.length_map, sem_br, sem_ask, sem_triv, sem_bind_some, sem_sees, sem_nxt, sem_ret, PC.holds, need_true, bne_self_eq_false, beq_self_eq_true, Bool.false_eq_true, if_false, if_true, Bool.not_true, Bool.not_false, decide_true, decide_false, stepO_nxt]
    all_goals rfl
theorem msg2 (hX : X.length = N) (hb : ∀ x ∈ X, 0 ≤ x ∧ x ≤ 6) (hn : 0 ≤ (n : Int) ∧ (n : Int) ≤ 100) (hN : 1 ≤ N ∧ N ≤ 8) (hL : L.length ≤ 6) (hj : j ≤ 100) (p : Nat) : ∀ (k i e : Nat), N = i + k → res B3 (.c14 N (B.map vI) L.length (L.flatMap eX) ((j : Nat) : Int) e (i + 2) (mb n X i) l.length (l.flatMap eL) (l.length : Int) N (X.map vI) (N : Int) ((i : Nat) : Int) n N (S.map vI) n N (S.map vI) R.length (R.map vI) a c p e) = res B3 (.c15 N (B.map vI) L.length (L.flatMap eX) (N + 2) ((0 :: (n + 1) :: X).map vB) l.length (l.flatMap eL) (l.length : Int) ((j : Nat) : Int) N (X.map vB) (N : Int) 0 n N (S.map vI) N (X.map vI) n N (S.map vI) R.length (R.map vI) a c)
  | 0, i, e, hk => by
    obtain rfl : i = N := by omega
    have hlen : (0 :: (n + 1) :: X).length = i + 2 := by rw [List.length_cons, List.length_cons, hX]
    have cp : CPx ((j : Nat) : Int) (0 :: (n + 1) :: X) 3 ((i + 2 + 3 - 1) / 3) := ⟨by omega, .inr rfl, by rw [hlen]; omega, by rw [hlen], by omega⟩
    have e11 := F11_eq cp hL
    have e12 := F12_eq (0 :: (n + 1) :: X)
    rw [hlen] at e11 e12
    have e11a : F11 (i + 2) ((0 :: (n + 1) :: X).map vB) ((j : Nat) : Int) 3 L.length (L.flatMap eX) = some (i + 2, (0 :: (n + 1) :: X).map vB, true) := e11
    have hc : ¬ (((i : Nat) : Int) < ((i : Nat) : Int)) := by omega
    have hm := mb_all (n := n) (X := X) (i := i) (by omega)
    have h2 : (2 : Int) ≤ ((i + 2 : Nat) : Int) := by omega
    have ht : List.take i (List.drop 2 ((0 :: (n + 1) :: X).map vB)) = X.map vB := by
      show List.take i (X.map vB) = _
      rw [List.take_of_length_le (by rw [List.length_map]; omega)]
    rw [hm, res_eq]
    simp only [B3, hc, e11a, e12, h2, ht, Int.toNat_natCast, Nat.add_sub_cancel, Nat.mul_one, List.length_map, hlen, Int.le_refl, sem_br, sem_ask, sem_triv, sem_bind_some, sem_sees, sem_nxt, sem_ret, PC.holds, need_true, bne_self_eq_false, beq_self_eq_true, Bool.false_eq_true, if_false, if_true, Bool.not_true, Bool.not_false, decide_true, decide_false, stepO_nxt]
    all_goals rfl
  | k + 1, i, e, hk => by
    have hi : i < X.length := by omega
    have h1 : ((i : Nat) : Int) < ((N : Nat) : Int) := by omega
    have hxi : 0 ≤ X.getD i 0 ∧ X.getD i 0 ≤ 6 := by
      rw [List.getD_eq_getElem?_getD, List.getElem?_eq_getElem hi]; exact hb _ (List.getElem_mem hi)
    have w := w8 (a := X.getD i 0) (by omega)
    have i2 : inI64 (((i : Nat) : Int) + 1) := by unfold inI64; omega
    have hf : fitsN (i + 2 + 1) 1 := by unfold fitsN; omega
    have hle : i ≤ X.length := by omega
    have ih := msg2 hX hb hn hN hL hj p k (i + 1) (e + 1) (by omega)
    rw [mb_succ hi] at ih
    rw [← ih, res_eq]
    simp only [B3, h1, w, i2, hf, hle, Int.toNat_natCast, Nat.mul_one, dI_cel_map, at_map hi, Int.natCast_nonneg, List.length_map, sem_br, sem_ask, sem_triv, sem_bind_some, sem_sees, sem_nxt, sem_ret, PC.holds, need_true, bne_self_eq_false, beq_self_eq_true, Bool.false_eq_true, if_false, if_true, Bool.not_true, Bool.not_false, decide_true, decide_false, stepO_nxt]
    all_goals rfl
theorem msg3 (hX : X.length = N) (hb : ∀ x ∈ X, 0 ≤ x ∧ x ≤ 6) (hn : 0 ≤ (n : Int) ∧ (n : Int) ≤ 100) (hN : 1 ≤ N ∧ N ≤ 8) (hL : L.length ≤ 6) (hj : j ≤ 100) : ∀ (k i e : Nat), N = i + k → res B3 (.c13 N (B.map vI) L.length (L.flatMap eX) ((j : Nat) : Int) e (i + 2) (mb n X i) l.length (l.flatMap eL) (l.length : Int) N (X.map vI) (N : Int) ((i : Nat) : Int) n N (S.map vI) n N (S.map vI) R.length (R.map vI) a c e) = res B3 (.c15 N (B.map vI) L.length (L.flatMap eX) (N + 2) ((0 :: (n + 1) :: X).map vB) l.length (l.flatMap eL) (l.length : Int) ((j : Nat) : Int) N (X.map vB) (N : Int) 0 n N (S.map vI) N (X.map vI) n N (S.map vI) R.length (R.map vI) a c)
  | 0, i, e, hk => by
    obtain rfl : i = N := by omega
    have hlen : (0 :: (n + 1) :: X).length = i + 2 := by rw [List.length_cons, List.length_cons, hX]
    have cp : CPx ((j : Nat) : Int) (0 :: (n + 1) :: X) 3 ((i + 2 + 3 - 1) / 3) := ⟨by omega, .inr rfl, by rw [hlen]; omega, by rw [hlen], by omega⟩
    have e11 := F11_eq cp hL
    have e12 := F12_eq (0 :: (n + 1) :: X)
    rw [hlen] at e11 e12
    have e11a : F11 (i + 2) ((0 :: (n + 1) :: X).map vB) ((j : Nat) : Int) 3 L.length (L.flatMap eX) = some (i + 2, (0 :: (n + 1) :: X).map vB, true) := e11
    have hc : ¬ (((i : Nat) : Int) < ((i : Nat) : Int)) := by omega
    have hm := mb_all (n := n) (X := X) (i := i) (by omega)
    have h2 : (2 : Int) ≤ ((i + 2 : Nat) : Int) := by omega
    have ht : List.take i (List.drop 2 ((0 :: (n + 1) :: X).map vB)) = X.map vB := by
      show List.take i (X.map vB) = _
      rw [List.take_of_length_le (by rw [List.length_map]; omega)]
    rw [hm, res_eq]
    simp only [B3, hc, e11a, e12, h2, ht, Int.toNat_natCast, Nat.add_sub_cancel, Nat.mul_one, List.length_map, hlen, Int.le_refl, sem_br, sem_ask, sem_triv, sem_bind_some, sem_sees, sem_nxt, sem_ret, PC.holds, need_true, bne_self_eq_false, beq_self_eq_true, Bool.false_eq_true, if_false, if_true, Bool.not_true, Bool.not_false, decide_true, decide_false, stepO_nxt]
    all_goals rfl
  | k + 1, i, e, hk => by
    have hi : i < X.length := by omega
    have h1 : ((i : Nat) : Int) < ((N : Nat) : Int) := by omega
    have hxi : 0 ≤ X.getD i 0 ∧ X.getD i 0 ≤ 6 := by
      rw [List.getD_eq_getElem?_getD, List.getElem?_eq_getElem hi]; exact hb _ (List.getElem_mem hi)
    have w := w8 (a := X.getD i 0) (by omega)
    have i2 : inI64 (((i : Nat) : Int) + 1) := by unfold inI64; omega
    have hf : fitsN (i + 2 + 1) 1 := by unfold fitsN; omega
    have hle : i ≤ X.length := by omega
    have ih := msg3 hX hb hn hN hL hj k (i + 1) (e + 1) (by omega)
    rw [mb_succ hi] at ih
    rw [← ih, res_eq]
    simp only [B3, h1, w, i2, hf, hle, Int.toNat_natCast, Nat.mul_one, dI_cel_map, at_map hi, Int.natCast_nonneg, List.length_map, sem_br, sem_ask, sem_triv, sem_bind_some, sem_sees, sem_nxt, sem_ret, PC.holds, need_true, bne_self_eq_false, beq_self_eq_true, Bool.false_eq_true, if_false, if_true, Bool.not_true, Bool.not_false, decide_true, decide_false, stepO_nxt]
    all_goals rfl
theorem hd1 (hS : S.length = N) (hX : X.length = N) (vm : VM X) (hN : 1 ≤ N ∧ N ≤ 8) (hj : j ≤ 100) (v : VE 4 S []) (h99 : (4 : Int) ≤ 99) : ∀ (k i e : Nat), N = i + k → 0 < i → res B3 (.c7 N (B.map vI) L.length (L.flatMap eX) (N + 2) ((0 :: (4 + 1) :: X).map vB) e i ((X.take i).map vI) l.length (l.flatMap eL) (l.length : Int) ((j : Nat) : Int) N (X.map vB) (N : Int) ((i : Nat) : Int) 4 N (S.map vI) N (X.map vI) N (S.map vI) a c e) = if c.tmod 2 == 0 then res B3 (.c8 N (B.map vI) L.length (L.flatMap eX) l.length (l.flatMap eL) (l.length : Int) (((j + 1 : Nat)) : Int) 4 N (S.map vI) N (X.map vI) 4 N (S.map vI) N (X.map vI)) else res B3 (.c8 N (B.map vI) L.length (L.flatMap eX) l.length (l.flatMap eL) (l.length : Int) (((j + 1 : Nat)) : Int) (4 + 1) N (X.map vI) 0 [] (4 + 1) N (X.map vI) 0 [])
  | 0, i, e, hk, h0 => by
    obtain rfl : i = N := by omega
    have hn := v.hn
    have ht : (X.take i).map vI = X.map vI := by rw [List.take_of_length_le (by omega)]
    have e13 := F13_eq v (.inl rfl) vm (by rw [hX, hS])
    have v2 : VE 4 S X := ⟨hn, v.hl, .inr ⟨vm, by rw [hX, hS]⟩⟩
    have v3 : VE (4 + 1) X [] := ⟨by omega, vm, .inl rfl⟩
    have e14 := F14_eq v2
    have e15 := F15_now v2
    have e10 := F10_eq S (by omega)
    have e10x := F10_eq X (by omega)
    have e7 := F7_eq (l := X) (by omega)
    have e16 := F16_eq v2 vm
    have e9 := F9_eq v3
    have e15n := F15_next v2 vm
    have e14n := F14_eq v3
    have e15o := F15_old v3 (by omega)
    rw [show (4 : Int) + 1 - 1 = 4 by omega] at e15o
    rw [hX, hS] at e13 e14 e15 e16 e15n
    rw [hX] at e10x e7 e9 e14n e15o
    rw [hS] at e10
    rw [List.length_nil, List.map_nil] at e9 e14n e13
    have hc : ¬ (((i : Nat) : Int) < ((i : Nat) : Int)) := by omega
    have d0 : dI (cel ((0 :: (4 + 1) :: X).map vB) 0) = 0 := rfl
    have d1 : dI (cel ((0 :: (4 + 1) :: X).map vB) 1) = 4 + 1 := rfl
    have p0 : Option.map AV.d (List.drop 0 ((0 :: (4 + 1) :: X).map vB))[0]? = some (AV.d (DV.v (Value.int IntKind.u8 0))) := rfl
    have p1 : Option.map AV.d (List.drop 1 ((0 :: (4 + 1) :: X).map vB))[0]? = some (AV.d (DV.v (Value.int IntKind.u8 (4 + 1)))) := rfl
    have w0 := w64 (a := 0) (by omega)
    have w1 := w64 (a := (4 + 1)) (by omega)
    have s0 : (256 : Int) * 0 + (4 + 1) = 4 + 1 := by omega
    have i0 : inI64 ((256 : Int) * 0) := by unfold inI64; omega
    have i1 : inI64 ((4 : Int) + 1) := by unfold inI64; omega
    have i2 : inI64 (((j : Nat) : Int) + 1) := by unfold inI64; omega
    have i3 : inI64 (4 : Int) := by unfold inI64; omega
    have g0 : (0 : Int) < ((i + 2 : Nat) : Int) := by omega
    have g1 : (1 : Int) < ((i + 2 : Nat) : Int) := by omega
    have l1 : 1 ≤ X.length + 1 + 1 := by omega
    have y1 : (4 : Int) + 1 - 1 = 4 := by omega
    have y0 : ((0 : Nat) : Int) = 0 := rfl
    by_cases h2 : (c.tmod 2 == 0) = true
    · rw [if_pos h2, ht, res_eq]
      simp only [B3, hc, h2, d0, d1, p0, p1, w0, w1, s0, i0, i1, i2, i3, g0, g1, l1, e13, e14, e15, e10, List.length_map, List.length_cons, Nat.zero_le, sem_br, sem_ask, sem_triv, sem_bind_some, sem_sees, sem_nxt, sem_ret, PC.holds, need_true, bne_self_eq_false, beq_self_eq_true, Bool.false_eq_true, if_false, if_true, Bool.not_true, Bool.not_false, decide_true, decide_false, stepO_nxt]
      all_goals rfl
    · rw [if_neg h2, ht, res_eq]
      simp only [Bool.not_eq_true] at h2
      simp only [B3, hc, h2, d0, d1, p0, p1, w0, w1, s0, i0, i1, i2, i3, g0, g1, l1, y0, y1, e13, e14, e15, e10, e7, e16, e9, e10x, e15n, e14n, e15o, List.length_map, List.length_cons, Nat.zero_le, sem_br, sem_ask, sem_triv, sem_bind_some, sem_sees, sem_nxt, sem_ret, PC.holds, need_true, bne_self_eq_false, beq_self_eq_true, Bool.false_eq_true, if_false, if_true, Bool.not_true, Bool.not_false, decide_true, decide_false, stepO_nxt]
      all_goals rfl
  | k + 1, i, e, hk, h0 => by
    have hi : i < X.length := by omega
    have h1 : ((i : Nat) : Int) < ((N : Nat) : Int) := by omega
    have hxi := vm.get hi
    have w := w64 (a := X.getD i 0) (by omega)
    have i2 : inI64 (((i : Nat) : Int) + 1) := by unfold inI64; omega
    have hf : fitsN (i + 1) 8 := by unfold fitsN; omega
    have hle : i ≤ X.length := by omega
    have ih := hd1 hS hX vm hN hj v h99 k (i + 1) (e + 1) (by omega) (by omega)
    rw [tk_succ hi] at ih
    rw [← ih, res_eq]
    simp only [B3, h1, w, i2, hf, hle, Int.toNat_natCast, Nat.mul_one, dB_cel, at_mapB hi, Int.natCast_nonneg, List.length_map, sem_br, sem_ask, sem_triv, sem_bind_some, sem_sees, sem_nxt, sem_ret, PC.holds, need_true, bne_self_eq_false, beq_self_eq_true, Bool.false_eq_true, if_false, if_true, Bool.not_true, Bool.not_false, decide_true, decide_false, stepO_nxt]
    all_goals rfl
theorem md1 (hS : S.length = N) (hX : X.length = N) (vm : VM X) (hN : 1 ≤ N ∧ N ≤ 8) (hj : j ≤ 100) (v : VE 4 S []) (h99 : (4 : Int) ≤ 99) : res B3 (.c6 N (B.map vI) L.length (L.flatMap eX) (N + 2) ((0 :: (4 + 1) :: X).map vB) l.length (l.flatMap eL) (l.length : Int) ((j : Nat) : Int) N (X.map vB) (N : Int) 0 4 N (S.map vI) N (X.map vI) N (S.map vI) a c) = if c.tmod 2 == 0 then res B3 (.c8 N (B.map vI) L.length (L.flatMap eX) l.length (l.flatMap eL) (l.length : Int) (((j + 1 : Nat)) : Int) 4 N (S.map vI) N (X.map vI) 4 N (S.map vI) N (X.map vI)) else res B3 (.c8 N (B.map vI) L.length (L.flatMap eX) l.length (l.flatMap eL) (l.length : Int) (((j + 1 : Nat)) : Int) (4 + 1) N (X.map vI) 0 [] (4 + 1) N (X.map vI) 0 []) := by
  have hi : 0 < X.length := by omega
  have h1 : (0 : Int) < ((N : Nat) : Int) := by omega
  have hxi := vm.get hi
  have w := w64 (a := X.getD 0 0) (by omega)
  have i2 : inI64 ((0 : Int) + 1) := by unfold inI64; omega
  have hd := dB_cel X 0
  have ham := at_mapB hi
  have ih := hd1 (L := L) (l := l) (B := B) (c := c) (a := a) (j := j) hS hX vm hN hj v h99 (N - 1) 1 0 (by omega) (by omega)
  rw [tk_succ hi] at ih
  rw [← ih, res_eq]
  simp only [B3, h1, w, i2, hd, ham, Int.toNat_zero, Nat.zero_mul, Int.le_refl, Nat.zero_le, sem_br, sem_ask, sem_triv, sem_bind_some, sem_sees, sem_nxt, sem_ret, PC.holds, need_true, bne_self_eq_false, beq_self_eq_true, Bool.false_eq_true, if_false, if_true, Bool.not_true, Bool.not_false, decide_true, decide_false, stepO_nxt]
  all_goals rfl
theorem hd2 (hS : S.length = N) (hX : X.length = N) (vm : VM X) (hN : 1 ≤ N ∧ N ≤ 8) (hj : j ≤ 100) (v : VE n S R) (hR : R = [] ∨ R = X) (h99 : (n : Int) ≤ 99) : ∀ (k i e : Nat), N = i + k → 0 < i → res B3 (.c16 N (B.map vI) L.length (L.flatMap eX) (N + 2) ((0 :: (n + 1) :: X).map vB) e i ((X.take i).map vI) l.length (l.flatMap eL) (l.length : Int) ((j : Nat) : Int) N (X.map vB) (N : Int) ((i : Nat) : Int) n N (S.map vI) N (X.map vI) n N (S.map vI) R.length (R.map vI) a c e) = if c.tmod 2 == 0 then res B3 (.c8 N (B.map vI) L.length (L.flatMap eX) l.length (l.flatMap eL) (l.length : Int) (((j + 1 : Nat)) : Int) n N (S.map vI) N (X.map vI) n N (S.map vI) N (X.map vI)) else res B3 (.c8 N (B.map vI) L.length (L.flatMap eX) l.length (l.flatMap eL) (l.length : Int) (((j + 1 : Nat)) : Int) (n + 1) N (X.map vI) 0 [] (n + 1) N (X.map vI) 0 [])
  | 0, i, e, hk, h0 => by
    obtain rfl : i = N := by omega
    have hn := v.hn
    have ht : (X.take i).map vI = X.map vI := by rw [List.take_of_length_le (by omega)]
    have e13 := F13_eq v hR vm (by rw [hX, hS])
    have v2 : VE n S X := ⟨hn, v.hl, .inr ⟨vm, by rw [hX, hS]⟩⟩
    have v3 : VE (n + 1) X [] := ⟨by omega, vm, .inl rfl⟩
    have e14 := F14_eq v2
    have e15 := F15_now v2
    have e10 := F10_eq S (by omega)
    have e10x := F10_eq X (by omega)
    have e7 := F7_eq (l := X) (by omega)
    have e16 := F16_eq v2 vm
    have e9 := F9_eq v3
    have e15n := F15_next v2 vm
    have e14n := F14_eq v3
    have e15o := F15_old v3 (by omega)
    rw [show (n : Int) + 1 - 1 = n by omega] at e15o
    rw [hX, hS] at e13 e14 e15 e16 e15n
    rw [hX] at e10x e7 e9 e14n e15o
    rw [hS] at e10
    rw [List.length_nil, List.map_nil] at e9 e14n
    have hc : ¬ (((i : Nat) : Int) < ((i : Nat) : Int)) := by omega
    have d0 : dI (cel ((0 :: (n + 1) :: X).map vB) 0) = 0 := rfl
    have d1 : dI (cel ((0 :: (n + 1) :: X).map vB) 1) = n + 1 := rfl
    have p0 : Option.map AV.d (List.drop 0 ((0 :: (n + 1) :: X).map vB))[0]? = some (AV.d (DV.v (Value.int IntKind.u8 0))) := rfl
    have p1 : Option.map AV.d (List.drop 1 ((0 :: (n + 1) :: X).map vB))[0]? = some (AV.d (DV.v (Value.int IntKind.u8 (n + 1)))) := rfl
    have w0 := w64 (a := 0) (by omega)
    have w1 := w64 (a := (n + 1)) (by omega)
    have s0 : (256 : Int) * 0 + (n + 1) = n + 1 := by omega
    have i0 : inI64 ((256 : Int) * 0) := by unfold inI64; omega
    have i1 : inI64 ((n : Int) + 1) := by unfold inI64; omega
    have i2 : inI64 (((j : Nat) : Int) + 1) := by unfold inI64; omega
    have i3 : inI64 (n : Int) := by unfold inI64; omega
    have g0 : (0 : Int) < ((i + 2 : Nat) : Int) := by omega
    have g1 : (1 : Int) < ((i + 2 : Nat) : Int) := by omega
    have l1 : 1 ≤ X.length + 1 + 1 := by omega
    have y1 : (n : Int) + 1 - 1 = n := by omega
    have y0 : ((0 : Nat) : Int) = 0 := rfl
    by_cases h2 : (c.tmod 2 == 0) = true
    · rw [if_pos h2, ht, res_eq]
      simp only [B3, hc, h2, d0, d1, p0, p1, w0, w1, s0, i0, i1, i2, i3, g0, g1, l1, e13, e14, e15, e10, List.length_map, List.length_cons, Nat.zero_le, sem_br, sem_ask, sem_triv, sem_bind_some, sem_sees, sem_nxt, sem_ret, PC.holds, need_true, bne_self_eq_false, beq_self_eq_true, Bool.false_eq_true, if_false, if_true, Bool.not_true, Bool.not_false, decide_true, decide_false, stepO_nxt]
      all_goals rfl
    · rw [if_neg h2, ht, res_eq]
      simp only [Bool.not_eq_true] at h2
      simp only [B3, hc, h2, d0, d1, p0, p1, w0, w1, s0, i0, i1, i2, i3, g0, g1, l1, y0, y1, e13, e14, e15, e10, e7, e16, e9, e10x, e15n, e14n, e15o, List.length_map, List.length_cons, Nat.zero_le, sem_br, sem_ask, sem_triv, sem_bind_some, sem_sees, sem_nxt, sem_ret, PC.holds, need_true, bne_self_eq_false, beq_self_eq_true, Bool.false_eq_true, if_false, if_true, Bool.not_true, Bool.not_false, decide_true, decide_false, stepO_nxt]
      all_goals rfl
  | k + 1, i, e, hk, h0 => by
    have hi : i < X.length := by omega
    have h1 : ((i : Nat) : Int) < ((N : Nat) : Int) := by omega
    have hxi := vm.get hi
    have w := w64 (a := X.getD i 0) (by omega)
    have i2 : inI64 (((i : Nat) : Int) + 1) := by unfold inI64; omega
    have hf : fitsN (i + 1) 8 := by unfold fitsN; omega
    have hle : i ≤ X.length := by omega
    have ih := hd2 hS hX vm hN hj v hR h99 k (i + 1) (e + 1) (by omega) (by omega)
    rw [tk_succ hi] at ih
    rw [← ih, res_eq]
    simp only [B3, h1, w, i2, hf, hle, Int.toNat_natCast, Nat.mul_one, dB_cel, at_mapB hi, Int.natCast_nonneg, List.length_map, sem_br, sem_ask, sem_triv, sem_bind_some, sem_sees, sem_nxt, sem_ret, PC.holds, need_true, bne_self_eq_false, beq_self_eq_true, Bool.false_eq_true, if_false, if_true, Bool.not_true, Bool.not_false, decide_true, decide_false, stepO_nxt]
    all_goals rfl
theorem md2 (hS : S.length = N) (hX : X.length = N) (vm : VM X) (hN : 1 ≤ N ∧ N ≤ 8) (hj : j ≤ 100) (v : VE n S R) (hR : R = [] ∨ R = X) (h99 : (n : Int) ≤ 99) : res B3 (.c15 N (B.map vI) L.length (L.flatMap eX) (N + 2) ((0 :: (n + 1) :: X).map vB) l.length (l.flatMap eL) (l.length : Int) ((j : Nat) : Int) N (X.map vB) (N : Int) 0 n N (S.map vI) N (X.map vI) n N (S.map vI) R.length (R.map vI) a c) = if c.tmod 2 == 0 then res B3 (.c8 N (B.map vI) L.length (L.flatMap eX) l.length (l.flatMap eL) (l.length : Int) (((j + 1 : Nat)) : Int) n N (S.map vI) N (X.map vI) n N (S.map vI) N (X.map vI)) else res B3 (.c8 N (B.map vI) L.length (L.flatMap eX) l.length (l.flatMap eL) (l.length : Int) (((j + 1 : Nat)) : Int) (n + 1) N (X.map vI) 0 [] (n + 1) N (X.map vI) 0 []) := by
  have hi : 0 < X.length := by omega
  have h1 : (0 : Int) < ((N : Nat) : Int) := by omega
  have hxi := vm.get hi
  have w := w64 (a := X.getD 0 0) (by omega)
  have i2 : inI64 ((0 : Int) + 1) := by unfold inI64; omega
  have hd := dB_cel X 0
  have ham := at_mapB hi
  have ih := hd2 (L := L) (l := l) (B := B) (c := c) (a := a) (j := j) hS hX vm hN hj v hR h99 (N - 1) 1 0 (by omega) (by omega)
  rw [tk_succ hi] at ih
  rw [← ih, res_eq]
  simp only [B3, h1, w, i2, hd, ham, Int.toNat_zero, Nat.zero_mul, Int.le_refl, Nat.zero_le, sem_br, sem_ask, sem_triv, sem_bind_some, sem_sees, sem_nxt, sem_ret, PC.holds, need_true, bne_self_eq_false, beq_self_eq_true, Bool.false_eq_true, if_false, if_true, Bool.not_true, Bool.not_false, decide_true, decide_false, stepO_nxt]
  all_goals rfl
end
end Go.Kv
