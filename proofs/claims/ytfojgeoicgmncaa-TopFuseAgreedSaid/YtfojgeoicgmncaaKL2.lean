import Derived.Test.YtfojgeoicgmncaaKL1
namespace Go.Kv
set_option linter.unusedVariables false
set_option linter.unusedSimpArgs false
open Go Go.RowKit
set_option maxRecDepth 100000
theorem F66_loop (l : List Int) (x : Int) (hl : l.length ≤ 1000) : ∀ (k i : Nat), l.length = i + k → ∃ v : Int, res B66 (.c1 l.length (l.map vI) x (l.length : Int) (i : Int)) = some v ∧ decide (v ≥ 0) = decide (x ∈ l.drop i)
  | 0, i, hk => by
    rw [List.drop_eq_nil_of_le (by omega), res_eq]
    have : ¬ ((i : Int) < (l.length : Int)) := by omega
    refine ⟨-1, by simp [B66, sem_br, sem_ret, this, stepO_ret], by simp⟩
  | k + 1, i, hk => by
    have hi : i < l.length := by omega
    have h1 : (i : Int) < (l.length : Int) := by omega
    obtain ⟨v, ih, hv⟩ := F66_loop l x hl k (i + 1) (by omega)
    have hin : inI64 ((i : Int) + 1) := by unfold inI64; omega
    rw [dropD 0 hi, res_eq]
    simp only [B66, sem_br, sem_ask, sem_ret, sem_nxt, PC.holds, need_true, Int.toNat_natCast, Nat.mul_one, dI_cel_map, at_map hi, h1, hin, decide_true, if_true, Int.natCast_nonneg, List.length_map, Nat.le_of_lt hi]
    by_cases h0 : x = l.getD i 0
    · refine ⟨(i : Int), by simp only [h0, beq_self_eq_true, if_true, stepO_ret], ?_⟩
      simp only [← h0, List.mem_cons, true_or, ge_iff_le, Int.natCast_nonneg]
    · refine ⟨v, ?_, ?_⟩
      · simp only [beq_eq_false_iff_ne.2 h0, Bool.false_eq_true, if_false, stepO_nxt]
        rw [← ih]; rfl
      · simp only [hv, List.mem_cons, h0, false_or]
theorem F51_eq (l : List Int) (x : Int) (hl : l.length ≤ 1000) : F51 l.length (l.map vI) x = some (decide (x ∈ l)) := by
  obtain ⟨v, e, hv⟩ := F66_loop l x hl l.length 0 (by omega)
  have e66 : F66 l.length (l.map vI) x = some v := by
    unfold F66; rw [res_eq]
    simp only [B66, sem_nxt, stepO_nxt]
    exact e
  unfold F51; rw [res_eq]
  simp only [B51, e66, sem_bind_some, sem_sees, sem_ret, stepO_ret, hv, List.drop_zero]
abbrev Rd := List Int × List Int × Bool
def eI (l : List Int) : DV := .sl l.length (l.map vI)
theorem dN_eI (l : List Int) : dN (eI l) = l.length := rfl
theorem dL_eI (l : List Int) : dL (eI l) = l.map vI := rfl
def eR (r : Rd) : List DV := [eI r.1, eI r.2.1, .v (.bool r.2.2)]
theorem eR_len (r : Rd) : (eR r).length = 3 := rfl
def r0 : Rd := ([], [], false)
structure AtR (l : List DV) (i : Nat) (r : Rd) : Prop where
  c0 : cel l (i * 3) = eI r.1
  c1 : cel l (i * 3 + 1) = eI r.2.1
  c2 : dB (cel l (i * 3 + 2)) = r.2.2
  r1 : i * 3 ≤ l.length
  r2 : 3 ≤ (l.drop (i * 3)).length
  t : List.map AV.d (List.take 3 (List.drop (i * 3) l)) = [AV.d (DV.sl r.1.length (r.1.map vI)), AV.d (DV.sl r.2.1.length (r.2.1.map vI)), AV.d (DV.v (Value.bool r.2.2))]
theorem atR {L : List Rd} {i : Nat} (hi : i < L.length) : AtR (L.flatMap eR) i (L.getD i r0) := by
  have hk (k : Nat) (h : k < 3) := fm_cel (enc := eR) eR_len hi h
  obtain ⟨q1, q2⟩ := fm_room (enc := eR) eR_len hi
  rw [show L.getD i r0 = L[i] by simp [List.getD_eq_getElem?_getD, hi]]
  refine ⟨?_, ?_, ?_, q1, q2, ?_⟩
  · have := hk 0 (by decide)
    rw [Nat.add_zero] at this
    rw [this]; rfl
  · rw [hk 1 (by decide)]; rfl
  · rw [hk 2 (by decide)]; rfl
  · rw [fm_at eR_len hi]; rfl
def VX (l : List Int) : Prop := l.length ≤ 100 ∧ ∀ x ∈ l, 0 ≤ x ∧ x ≤ 7
def VR (r : Rd) : Prop := VX r.1 ∧ VX r.2.1
def VRs (L : List Rd) : Prop := L.length ≤ 64 ∧ ∀ r ∈ L, VR r
theorem VRs.get {L : List Rd} (v : VRs L) {i : Nat} (hi : i < L.length) : VR (L.getD i r0) := by
  rw [show L.getD i r0 = L[i] by simp [List.getD_eq_getElem?_getD, hi]]; exact v.2 _ (List.getElem_mem hi)
theorem VX.get {l : List Int} (v : VX l) {i : Nat} (hi : i < l.length) : 0 ≤ l.getD i 0 ∧ l.getD i 0 ≤ 7 := by
  rw [List.getD_eq_getElem?_getD, List.getElem?_eq_getElem hi]; exact v.2 _ (List.getElem_mem hi)
theorem F57_eq (n : Int) : F57 n = some (rangeI n 0 7) := by
  unfold F57; rw [res_eq]
  simp only [B57, F38_eq, sem_bind_some, sem_sees, sem_ret, stepO_ret]
theorem F60_loop {l : List Int} (v : VX l) : ∀ (k i e : Nat), l.length = i + k → 0 < i →
    res B60 (.c2 e i ((List.replicate i (0 : Int)).map vI) l.length (l.map vI) (l.length : Int) (i : Int) e) = some (l.length, (List.replicate l.length (0 : Int)).map vI)
  | 0, i, e, hk, h0 => by
    obtain rfl : i = l.length := by omega
    rw [res_eq]
    have h1 : ¬ ((l.length : Int) < (l.length : Int)) := by omega
    simp only [B60, sem_br, sem_ask, sem_ret, PC.holds, h1, decide_false, Bool.false_eq_true, if_false, need_true, h0, stepO_ret]
  | k + 1, i, e, hk, h0 => by
    have hi : i < l.length := by omega
    have h1 : (i : Int) < (l.length : Int) := by omega
    have hl := v.1
    have ih := F60_loop v k (i + 1) (e + 1) (by omega) (by omega)
    have hin : inI64 ((i : Int) + 1) := by unfold inI64; omega
    have hf : fitsN (i + 1) 8 := by unfold fitsN; omega
    have hr : rangeI (l.getD i 0) 0 7 = 0 := rangeI_zero.2 (v.get hi)
    rw [res_eq]
    simp only [B60, F57_eq, hr, sem_br, sem_ask, sem_ret, sem_nxt, sem_bind_some, sem_sees, sem_triv, PC.holds, need_true, Int.toNat_natCast, Nat.mul_one, dI_cel_map, at_map hi, h1, hin, hf, decide_true, if_true, Int.natCast_nonneg, List.length_map, Nat.le_of_lt hi, stepO_nxt, zer_snoc]
    rw [← ih]; rfl
theorem F60_eq {l : List Int} (v : VX l) : F60 l.length (l.map vI) = some (l.length, (List.replicate l.length (0 : Int)).map vI) := by
  unfold F60
  rw [res_eq]
  simp only [B60, sem_nxt, stepO_nxt]
  rw [res_eq]
  by_cases h0 : l.length = 0
  · have : l = [] := List.eq_nil_of_length_eq_zero h0
    subst this
    simp [B60, sem_br, sem_ret, stepO_ret]
  · have hi : 0 < l.length := by omega
    have h1 : (0 : Int) < (l.length : Int) := by omega
    have hin : inI64 ((0 : Int) + 1) := by unfold inI64; omega
    have hr : rangeI (l.getD 0 0) 0 7 = 0 := rangeI_zero.2 (v.get hi)
    have h2 := at_map hi
    have ih := F60_loop v (l.length - 1) 1 0 (by omega) (by omega)
    simp only [B60, F57_eq, Int.toNat_zero, Nat.zero_mul, dI_cel_map, hr, h2, h1, hin, sem_br, sem_ask, sem_ret, sem_nxt, sem_bind_some, sem_sees, sem_triv, PC.holds, need_true, Nat.mul_one, decide_true, if_true, Int.le_refl, List.length_map, Nat.zero_le, stepO_nxt]
    rw [← ih]; rfl
theorem F59_eq {r : Rd} (v : VR r) : F59 r.1.length (r.1.map vI) r.2.1.length (r.2.1.map vI) r.2.2 = some 0 := by
  have l1 := v.1.1
  have l2 := v.2.1
  unfold F59; rw [res_eq]
  simp only [B59, F60_eq v.1, F60_eq v.2, F37_z r.1.length (by omega), F37_z r.2.1.length (by omega), F37_2, first0_2, flat_vI, sem_bind_some, sem_sees, sem_triv, sem_ask, sem_ret, PC.holds, need_true, stepO_ret]
theorem F43_loop {L : List Rd} (v : VRs L) : ∀ (k i e : Nat), L.length = i + k → 0 < i →
    res B43 (.c2 e i ((List.replicate i (0 : Int)).map vI) L.length (L.flatMap eR) (L.length : Int) (i : Int) e) = some 0
  | 0, i, e, hk, h0 => by
    obtain rfl : i = L.length := by omega
    have hl := v.1
    rw [res_eq]
    have h1 : ¬ ((L.length : Int) < (L.length : Int)) := by omega
    simp only [B43, F37_z L.length (by omega), sem_br, sem_ask, sem_ret, sem_bind_some, sem_sees, PC.holds, h1, decide_false, Bool.false_eq_true, if_false, need_true, h0, stepO_ret]
  | k + 1, i, e, hk, h0 => by
    have hi : i < L.length := by omega
    have h1 : (i : Int) < (L.length : Int) := by omega
    have hl := v.1
    have ih := F43_loop v k (i + 1) (e + 1) (by omega) (by omega)
    have hin : inI64 ((i : Int) + 1) := by unfold inI64; omega
    have hf : fitsN (i + 1) 8 := by unfold fitsN; omega
    have t := atR hi
    rw [res_eq]
    simp only [B43, F59_eq (v.get hi), t.c0, t.c1, t.c2, t.r1, t.r2, t.t, dN_eI, dL_eI, sem_br, sem_ask, sem_ret, sem_nxt, sem_bind_some, sem_sees, sem_triv, PC.holds, need_true, Int.toNat_natCast, h1, hin, hf, decide_true, if_true, Int.natCast_nonneg, stepO_nxt, zer_snoc]
    rw [← ih]; rfl
theorem F43_eq {L : List Rd} (v : VRs L) : F43 L.length (L.flatMap eR) = some 0 := by
  have hl := v.1
  have c : ¬ ((L.length : Int) > 64) := by omega
  unfold F43
  rw [res_eq]
  simp only [B43, c, decide_false, Bool.false_eq_true, if_false, sem_br, sem_nxt, stepO_nxt]
  rw [res_eq]
  by_cases h0 : L.length = 0
  · have : L = [] := List.eq_nil_of_length_eq_zero h0
    subst this
    simp only [B43, List.length_nil, Int.natCast_zero, Int.cast_ofNat_Int, Int.lt_irrefl, decide_false, Bool.false_eq_true, if_false, F37_0, sem_br, sem_ask, sem_triv, sem_bind_some, sem_sees, sem_ret, PC.holds, need_true, stepO_ret]
  · have hi : 0 < L.length := by omega
    have h1 : (0 : Int) < (L.length : Int) := by omega
    have hin : inI64 ((0 : Int) + 1) := by unfold inI64; omega
    have ih := F43_loop v (L.length - 1) 1 0 (by omega) (by omega)
    have t := atR hi
    have a0 := t.c0; have a1 := t.c1; have a2 := t.c2; have a4 := t.r1; have a5 := t.r2; have a6 := t.t
    simp only [B43, Int.toNat_zero, F59_eq (v.get hi), a0, a1, a2, a4, a5, a6, dN_eI, dL_eI, sem_br, sem_ask, sem_ret, sem_nxt, sem_bind_some, sem_sees, sem_triv, PC.holds, need_true, h1, hin, decide_true, if_true, Int.le_refl, stepO_nxt]
    rw [← ih]; rfl
abbrev eBx (b : List Int) : List DV := b.map vB
theorem dB_cel (b : List Int) (i : Nat) : dI (cel (b.map vB) i) = b.getD i 0 := by
  unfold cel
  simp only [List.getD_eq_getElem?_getD, List.getElem?_map]
  cases b[i]? <;> rfl
theorem at_mapB {b : List Int} {i : Nat} (h : i < b.length) : Option.map AV.d (List.drop i (b.map vB))[0]? = some (AV.d (DV.v (Value.int IntKind.u8 (b.getD i 0)))) := by
  simp [List.getElem?_drop, h, List.getD_eq_getElem?_getD]
theorem F54_loop (b : List Int) (hl : b.length ≤ 1000) : ∀ (k i : Nat), b.length = i + k → res B54 (.c1 b.length (b.map vB) b.length (b.map vB) (b.length : Int) (i : Int)) = some true
  | 0, i, hk => by
    rw [res_eq]
    have : ¬ ((i : Int) < (b.length : Int)) := by omega
    simp [B54, sem_br, sem_ret, this, stepO_ret]
  | k + 1, i, hk => by
    have hi : i < b.length := by omega
    have h1 : (i : Int) < (b.length : Int) := by omega
    have ih := F54_loop b hl k (i + 1) (by omega)
    have hin : inI64 ((i : Int) + 1) := by unfold inI64; omega
    rw [res_eq]
    simp only [B54, sem_br, sem_ask, sem_ret, sem_nxt, PC.holds, need_true, Int.toNat_natCast, Nat.mul_one, dB_cel, at_mapB hi, h1, hin, decide_true, if_true, Int.natCast_nonneg, List.length_map, Nat.le_of_lt hi, bne_self_eq_false, Bool.false_eq_true, if_false, stepO_nxt]
    rw [← ih]; rfl
theorem F54_eq (b : List Int) (hl : b.length ≤ 1000) : F54 b.length (b.map vB) b.length (b.map vB) = some true := by
  unfold F54; rw [res_eq]
  simp only [B54, bne_self_eq_false, Bool.false_eq_true, if_false, sem_br, sem_nxt, stepO_nxt]
  exact F54_loop b hl b.length 0 (by omega)
theorem F62_eq {f : Fr} (v : VF f) : F62 f.1 f.2.1 f.2.2.1 f.2.2.2.length (f.2.2.2.map vB) f.1 f.2.1 f.2.2.1 f.2.2.2.length (f.2.2.2.map vB) = some true := by
  have hb := v.b
  unfold F62; rw [res_eq]
  simp only [B62, F54_eq f.2.2.2 (by omega), beq_self_eq_true, if_true, sem_br, sem_bind_some, sem_sees, sem_triv, sem_ask, sem_ret, PC.holds, need_true, stepO_ret]
theorem F61_loop {Q : List Fr} (v : VFs Q) (hQ : Q.length ≤ 64) : ∀ (k i : Nat), Q.length = i + k → res B61 (.c1 Q.length (Q.flatMap eF) Q.length (Q.flatMap eF) (Q.length : Int) (i : Int)) = some true
  | 0, i, hk => by
    rw [res_eq]
    have : ¬ ((i : Int) < (Q.length : Int)) := by omega
    simp [B61, sem_br, sem_ret, this, stepO_ret]
  | k + 1, i, hk => by
    have hi : i < Q.length := by omega
    have h1 : (i : Int) < (Q.length : Int) := by omega
    have ih := F61_loop v hQ k (i + 1) (by omega)
    have hin : inI64 ((i : Int) + 1) := by unfold inI64; omega
    have t := atF hi
    rw [res_eq]
    simp only [B61, F62_eq (v.get hi), t.c0, t.c1, t.c2, t.c3, t.r1, t.r2, t.t, dN_eB, dL_eB, sem_br, sem_ask, sem_ret, sem_nxt, sem_bind_some, sem_sees, sem_triv, PC.holds, need_true, Int.toNat_natCast, h1, hin, decide_true, if_true, Int.natCast_nonneg, Bool.not_true, Bool.false_eq_true, if_false, stepO_nxt]
    rw [← ih]; rfl
theorem F61_eq {Q : List Fr} (v : VFs Q) (hQ : Q.length ≤ 64) : F61 Q.length (Q.flatMap eF) Q.length (Q.flatMap eF) = some true := by
  unfold F61; rw [res_eq]
  simp only [B61, bne_self_eq_false, Bool.false_eq_true, if_false, sem_br, sem_nxt, stepO_nxt]
  exact F61_loop v hQ Q.length 0 (by omega)
theorem take_fr (Q : List Fr) (t : Nat) : List.take (t * 4) (Q.flatMap eF) = (Q.take t).flatMap eF := fm_take eF_len t Q
theorem VFs.take {Q : List Fr} (v : VFs Q) (t : Nat) : VFs (Q.take t) := fun f hf => v f (List.mem_of_mem_take hf)
theorem F44_eq {Q : List Fr} (v : VFs Q) (hQ : Q.length ≤ 64) {a w t : Nat} (h1 : a ≤ t) (h2 : t ≤ a + w) (h3 : t ≤ Q.length) (hw : w ≤ 8) :
    F44 Q.length (Q.flatMap eF) (a : Int) (w : Int) (t : Int) t ((Q.take t).flatMap eF) = some true := by
  have c1 : (t : Int) ≥ (a : Int) := by omega
  have c2 : (t : Int) ≤ if (a : Int) + (w : Int) < (Q.length : Int) then (a : Int) + (w : Int) else (Q.length : Int) := by split <;> omega
  have hin : inI64 ((a : Int) + (w : Int)) := by unfold inI64; omega
  have e0 : ((t : Int) - 0).toNat = t := by omega
  have hlen : (Q.take t).length = t := by rw [List.length_take]; omega
  have e61 := F61_eq (v.take t) (by omega)
  rw [hlen] at e61
  unfold F44; rw [res_eq]
  simp only [B44, c1, c2, hin, decide_true, if_true, Int.sub_zero, Nat.sub_zero, Int.toNat_natCast, List.drop_zero, take_fr, e61, fl_len, sem_br, sem_bind_some, sem_sees, sem_triv, sem_ask, sem_ret, PC.holds, need_true, Int.natCast_nonneg, show (t : Int) ≤ (Q.length : Int) by omega, stepO_ret]
def sq (Q : List Fr) (a k : Nat) : List DV := (List.range k).flatMap fun i => eF (Q.getD (a + i) f0) ++ [vI (((a + i : Nat) : Int) % 16)]
theorem sq_succ (Q : List Fr) (a k : Nat) : sq Q a (k + 1) = sq Q a k ++ (eF (Q.getD (a + k) f0) ++ [vI (((a + k : Nat) : Int) % 16)]) := by
  unfold sq; rw [List.range_succ, List.flatMap_append]; simp
theorem F50_eq (n : Nat) (xs : List DV) (a w : Int) : F50 n xs a w = some [.sl n xs, vI a, vI w] := by
  unfold F50; rw [res_eq]; rfl
theorem F49_c2 {Q : List Fr} (hQ : Q.length ≤ 64) {a w : Nat} (hw : w ≤ 8) : ∀ (k i e : Nat), min (a + w) Q.length = a + i + k → 0 < i →
    res B49 (.c2 [.sl Q.length (Q.flatMap eF), vI (a : Int), vI (w : Int)] ((a + i : Nat) : Int) e i (sq Q a i) e) = some (i + k, sq Q a (i + k))
  | 0, i, e, hk, h0 => by
    have c : ¬ (((a + i : Nat) : Int) < if (a : Int) + (w : Int) < (Q.length : Int) then (a : Int) + (w : Int) else (Q.length : Int)) := by split <;> omega
    have hin : inI64 ((a : Int) + (w : Int)) := by unfold inI64; omega
    have d0 : dN (cel [DV.sl Q.length (Q.flatMap eF), vI (a : Int), vI (w : Int)] 0) = Q.length := rfl
    have d1 : dI (cel [DV.sl Q.length (Q.flatMap eF), vI (a : Int), vI (w : Int)] 1) = (a : Int) := rfl
    have d2 : dI (cel [DV.sl Q.length (Q.flatMap eF), vI (a : Int), vI (w : Int)] 2) = (w : Int) := rfl
    have d3 : dL (cel [DV.sl Q.length (Q.flatMap eF), vI (a : Int), vI (w : Int)] 0) = Q.flatMap eF := rfl
    rw [res_eq]
    simp only [B49, d0, d1, d2, d3, c, hin, decide_false, Bool.false_eq_true, if_false, sem_br, sem_ask, sem_triv, sem_ret, PC.holds, need_true, Nat.add_zero, stepO_ret]
    rw [need_of (by simp), need_of (by rfl), need_of (by simp), need_of (by rfl), need_of (by simp), need_of (by rfl)]
    simp only [need_true, stepO_ret]
  | k + 1, i, e, hk, h0 => by
    have hi : a + i < Q.length := by omega
    have c : ((a + i : Nat) : Int) < if (a : Int) + (w : Int) < (Q.length : Int) then (a : Int) + (w : Int) else (Q.length : Int) := by split <;> omega
    have hin : inI64 ((a : Int) + (w : Int)) := by unfold inI64; omega
    have hin2 : inI64 (((a + i : Nat) : Int) + 1) := by unfold inI64; omega
    have hf : fitsN (i + 1) 56 := by unfold fitsN; omega
    have d0 : dN (cel [DV.sl Q.length (Q.flatMap eF), vI (a : Int), vI (w : Int)] 0) = Q.length := rfl
    have d1 : dI (cel [DV.sl Q.length (Q.flatMap eF), vI (a : Int), vI (w : Int)] 1) = (a : Int) := rfl
    have d2 : dI (cel [DV.sl Q.length (Q.flatMap eF), vI (a : Int), vI (w : Int)] 2) = (w : Int) := rfl
    have d3 : dL (cel [DV.sl Q.length (Q.flatMap eF), vI (a : Int), vI (w : Int)] 0) = Q.flatMap eF := rfl
    have t := atF hi
    have tm : ((a + i : Nat) : Int).tmod 16 = ((a + i : Nat) : Int) % 16 := Int.tmod_eq_emod_of_nonneg (by omega)
    have ih := F49_c2 (a := a) hQ hw k (i + 1) (e + 1) (by omega) (by omega)
    rw [sq_succ] at ih
    rw [res_eq]
    simp only [B49, d0, d1, d2, d3, c, hin, hin2, hf, tm, t.c0, t.c1, t.c2, t.c3, t.r1, t.r2, t.t, dN_eB, dL_eB, decide_true, if_true, Int.toNat_natCast, Int.natCast_nonneg, show ((a + i : Nat) : Int) < (Q.length : Int) by omega, sem_br, sem_ask, sem_triv, sem_nxt, PC.holds, need_true, stepO_nxt]
    rw [need_of (by simp), need_of (by rfl), need_of (by simp), need_of (by rfl), need_of (by simp), need_of (by rfl), need_of (by simp), need_of (by rfl)]
    simp only [stepO_nxt]
    rw [show i + (k + 1) = i + 1 + k by omega, ← ih]
    rfl
end Go.Kv
