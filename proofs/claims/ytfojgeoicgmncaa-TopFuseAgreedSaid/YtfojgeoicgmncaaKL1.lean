import Derived.Test.YtfojgeoicgmncaaKP3
import Derived.Test.YtfojgeoicgmncaaGC
namespace Go.Kv
set_option linter.unusedVariables false
set_option linter.unusedSimpArgs false
open Go Go.RowKit
set_option maxRecDepth 100000
theorem F37_loop (l : List Int) (hl : l.length ≤ 9223372036854775807) : ∀ (k i : Nat), l.length = i + k → res B37 (.c1 l.length (l.map vI) (l.length : Int) (i : Int)) = some (firstI (l.drop i))
  | 0, i, hk => by
    rw [List.drop_eq_nil_of_le (by omega), res_eq]
    have : ¬ ((i : Int) < (l.length : Int)) := by omega
    simp [B37, sem_br, sem_ret, this, stepO_ret, stepO_nxt, firstI]
  | k + 1, i, hk => by
    have hi : i < l.length := by omega
    have h1 : (i : Int) < (l.length : Int) := by omega
    have ih := F37_loop l hl k (i + 1) (by omega)
    have hin : inI64 ((i : Int) + 1) := by unfold inI64; omega
    rw [firstI_drop hi, res_eq]
    simp only [B37, sem_br, sem_ask, sem_ret, sem_nxt, PC.holds, need_true, Int.toNat_natCast, Nat.mul_one, dI_cel_map, at_map hi, h1, hin, decide_true, if_true, Int.natCast_nonneg, List.length_map, Nat.le_of_lt hi]
    by_cases h0 : l.getD i 0 = 0
    · simp only [h0, bne_self_eq_false, if_true, Bool.false_eq_true, if_false, stepO_ret, stepO_nxt]
      rw [← ih]; rfl
    · simp only [h0, if_false, bne_iff_ne, ne_eq, not_false_eq_true, if_true, stepO_ret, stepO_nxt]
theorem F37_eq (l : List Int) (hl : l.length ≤ 9223372036854775807) : F37 l.length (l.map vI) = some (firstI l) := by
  unfold F37
  rw [res_eq]
  simp only [B37, sem_nxt, stepO_nxt]
  exact F37_loop l hl l.length 0 (by omega)
theorem F37_2 (a b : Int) : F37 2 [vI a, vI b] = some (firstI [a, b]) := F37_eq [a, b] (by simp)
theorem F37_3 (a b c : Int) : F37 3 [vI a, vI b, vI c] = some (firstI [a, b, c]) := F37_eq [a, b, c] (by simp)
theorem F37_0 : F37 0 [] = some 0 := F37_eq [] (by simp)
theorem F37_z (n : Nat) (h : n ≤ 9223372036854775807) : F37 n ((List.replicate n (0 : Int)).map vI) = some 0 := by
  have := F37_eq (List.replicate n (0 : Int)) (by rw [List.length_replicate]; exact h)
  rw [List.length_replicate] at this
  rw [this, first0s]
  intro x hx
  exact (List.mem_replicate.1 hx).2
theorem F39_eq (b : Bool) (e : Int) : F39 b e = some (whenI b e) := by
  unfold F39; rw [res_eq]; cases b <;> simp [B39, sem_br, sem_ret, stepO_ret, whenI]
theorem F38_eq (n a b : Int) : F38 n a b = some (rangeI n a b) := by
  unfold F38; rw [res_eq]
  simp only [B38, F39_eq, whenI_or, sem_bind_some, sem_sees, sem_triv, sem_ask, sem_ret, PC.holds, stepO_ret, rangeI]
theorem flat_vI (l : List Int) : flatDs (l.map vI) = true := by
  unfold flatDs; rw [List.all_map]; exact List.all_eq_true.2 fun _ _ => rfl
abbrev Fr := Int × Int × Int × List Int
def eB (b : List Int) : DV := .sl b.length (b.map vB)
theorem dN_eB (b : List Int) : dN (eB b) = b.length := rfl
theorem dL_eB (b : List Int) : dL (eB b) = b.map vB := rfl
def eF (f : Fr) : List DV := [vI f.1, vI f.2.1, vI f.2.2.1, eB f.2.2.2]
theorem eF_len (f : Fr) : (eF f).length = 4 := rfl
def f0 : Fr := (0, 0, 0, [])
structure AtF (l : List DV) (i : Nat) (f : Fr) : Prop where
  c0 : dI (cel l (i * 4)) = f.1
  c1 : dI (cel l (i * 4 + 1)) = f.2.1
  c2 : dI (cel l (i * 4 + 2)) = f.2.2.1
  c3 : cel l (i * 4 + 3) = eB f.2.2.2
  r1 : i * 4 ≤ l.length
  r2 : 4 ≤ (l.drop (i * 4)).length
  t : List.map AV.d (List.take 4 (List.drop (i * 4) l)) = [AV.d (DV.v (Value.int IntKind.i64 f.1)), AV.d (DV.v (Value.int IntKind.i64 f.2.1)), AV.d (DV.v (Value.int IntKind.i64 f.2.2.1)), AV.d (DV.sl f.2.2.2.length (f.2.2.2.map vB))]
theorem atF {Q : List Fr} {i : Nat} (hi : i < Q.length) : AtF (Q.flatMap eF) i (Q.getD i f0) := by
  have hk (k : Nat) (h : k < 4) := fm_cel (enc := eF) eF_len hi h
  obtain ⟨r1, r2⟩ := fm_room (enc := eF) eF_len hi
  rw [show Q.getD i f0 = Q[i] by simp [List.getD_eq_getElem?_getD, hi]]
  refine ⟨?_, ?_, ?_, ?_, r1, r2, ?_⟩
  · have := hk 0 (by decide)
    rw [Nat.add_zero] at this
    rw [this]; rfl
  · rw [hk 1 (by decide)]; rfl
  · rw [hk 2 (by decide)]; rfl
  · rw [hk 3 (by decide)]; rfl
  · rw [fm_at eF_len hi]; rfl
structure VF (f : Fr) : Prop where
  m : 0 ≤ f.1 ∧ f.1 ≤ 255
  ps : 1 ≤ f.2.2.1 ∧ f.2.2.1 ≤ 64
  p : 0 ≤ f.2.1 ∧ f.2.1 ≤ f.2.2.1 - 1
  b : 1 ≤ f.2.2.2.length ∧ f.2.2.2.length ≤ 12
def VFs (Q : List Fr) : Prop := ∀ f ∈ Q, VF f
theorem VFs.get {Q : List Fr} (v : VFs Q) {i : Nat} (hi : i < Q.length) : VF (Q.getD i f0) := by
  rw [show Q.getD i f0 = Q[i] by simp [List.getD_eq_getElem?_getD, hi]]; exact v _ (List.getElem_mem hi)
theorem fl_len (Q : List Fr) : (Q.flatMap eF).length = Q.length * 4 := fm_len eF_len Q
theorem F68_eq {f : Fr} (v : VF f) : F68 f.1 f.2.1 f.2.2.1 f.2.2.2.length (f.2.2.2.map vB) = some 0 := by
  obtain ⟨m, p, ps, b⟩ := f
  have h1 := v.m; have h2 := v.ps; have h3 := v.p; have h4 := v.b
  simp only at h1 h2 h3 h4 ⊢
  have e71 : F71 = some () := by unfold F71; rw [res_eq]; rfl
  have e72 : F72 m p ps b.length (b.map vB) = some m := by unfold F72; rw [res_eq]; simp only [B72, sem_ret, sem_ask, sem_sees, sem_triv, PC.holds, need_true, stepO_ret]
  have e73 : F73 m p ps b.length (b.map vB) = some () := by unfold F73; rw [res_eq]; simp only [B73, sem_ret, sem_ask, sem_sees, sem_triv, PC.holds, need_true, stepO_ret]
  have e74 : F74 m p ps b.length (b.map vB) = some ps := by unfold F74; rw [res_eq]; simp only [B74, sem_ret, sem_ask, sem_sees, sem_triv, PC.holds, need_true, stepO_ret]
  have e75 : F75 m p ps b.length (b.map vB) = some () := by unfold F75; rw [res_eq]; simp only [B75, sem_ret, sem_ask, sem_sees, sem_triv, PC.holds, need_true, stepO_ret]
  have e76 : F76 m p ps b.length (b.map vB) = some p := by unfold F76; rw [res_eq]; simp only [B76, sem_ret, sem_ask, sem_sees, sem_triv, PC.holds, need_true, stepO_ret]
  have hin : inI64 (ps - 1) := by unfold inI64; omega
  have e77 : F77 m p ps b.length (b.map vB) = some (ps - 1) := by unfold F77; rw [res_eq]; simp only [B77, sem_ret, sem_ask, sem_sees, sem_triv, PC.holds, hin, need_true, stepO_ret]
  have r1 : rangeI m 0 255 = 0 := rangeI_zero.2 h1
  have r2 : rangeI ps 1 64 = 0 := rangeI_zero.2 h2
  have r3 : rangeI p 0 (ps - 1) = 0 := rangeI_zero.2 h3
  have c : ¬ ((b.length : Int) > 12) := by omega
  unfold F68; rw [res_eq]
  simp only [B68, e71, e72, e73, e74, e75, e76, e77, F38_eq, r1, r2, r3, c, decide_false, F39_eq, whenF, sem_bind_some, sem_sees, sem_triv, sem_ask, sem_ret, sem_br, PC.holds, need_true, bne_self_eq_false, Bool.false_eq_true, if_false, stepO_ret]
theorem F67_loop {Q : List Fr} (v : VFs Q) (hQ : Q.length ≤ 64) : ∀ (k i e : Nat), Q.length = i + k → 0 < i →
    res B67 (.c2 e i ((List.replicate i (0 : Int)).map vI) Q.length (Q.flatMap eF) (Q.length : Int) (i : Int) e) = some (Q.length, (List.replicate Q.length (0 : Int)).map vI)
  | 0, i, e, hk, h0 => by
    obtain rfl : i = Q.length := by omega
    rw [res_eq]
    have h1 : ¬ ((Q.length : Int) < (Q.length : Int)) := by omega
    simp only [B67, sem_br, sem_ask, sem_ret, PC.holds, h1, decide_false, Bool.false_eq_true, if_false, need_true, h0, stepO_ret]
  | k + 1, i, e, hk, h0 => by
    have hi : i < Q.length := by omega
    have h1 : (i : Int) < (Q.length : Int) := by omega
    have ih := F67_loop v hQ k (i + 1) (e + 1) (by omega) (by omega)
    have hin : inI64 ((i : Int) + 1) := by unfold inI64; omega
    have hf : fitsN (i + 1) 8 := by unfold fitsN; omega
    have t := atF hi
    rw [res_eq]
    simp only [B67, F68_eq (v.get hi), t.c0, t.c1, t.c2, t.c3, t.r1, t.r2, t.t, dN_eB, dL_eB, sem_br, sem_ask, sem_ret, sem_nxt, sem_bind_some, sem_sees, sem_triv, PC.holds, need_true, Int.toNat_natCast, h1, hin, hf, decide_true, if_true, Int.natCast_nonneg, stepO_nxt, zer_snoc]
    rw [← ih]; rfl
theorem F67_eq {Q : List Fr} (v : VFs Q) (hQ : Q.length ≤ 64) : F67 Q.length (Q.flatMap eF) = some (Q.length, (List.replicate Q.length (0 : Int)).map vI) := by
  unfold F67
  rw [res_eq]
  simp only [B67, sem_nxt, stepO_nxt]
  rw [res_eq]
  by_cases h0 : Q.length = 0
  · have : Q = [] := List.eq_nil_of_length_eq_zero h0
    subst this
    simp [B67, sem_br, sem_ret, stepO_ret]
  · have hi : 0 < Q.length := by omega
    have h1 : (0 : Int) < (Q.length : Int) := by omega
    have hin : inI64 ((0 : Int) + 1) := by unfold inI64; omega
    have ih := F67_loop v hQ (Q.length - 1) 1 0 (by omega) (by omega)
    have t := atF hi
    have a0 := t.c0; have a1 := t.c1; have a2 := t.c2; have a3 := t.c3; have a4 := t.r1; have a5 := t.r2; have a6 := t.t
    simp only [B67, Int.toNat_zero, F68_eq (v.get hi), a0, a1, a2, a3, a4, a5, a6, dN_eB, dL_eB, sem_br, sem_ask, sem_ret, sem_nxt, sem_bind_some, sem_sees, sem_triv, PC.holds, need_true, h1, hin, decide_true, if_true, Int.le_refl, stepO_nxt]
    rw [← ih]; rfl
theorem F53_eq {Q : List Fr} (v : VFs Q) (hQ : Q.length ≤ 64) : F53 Q.length (Q.flatMap eF) = some 0 := by
  have c : ¬ ((Q.length : Int) > 64) := by omega
  unfold F53; rw [res_eq]
  simp only [B53, c, decide_false, Bool.false_eq_true, if_false, F67_eq v hQ, F37_z Q.length (by omega), flat_vI, sem_br, sem_bind_some, sem_sees, sem_triv, sem_ask, sem_ret, PC.holds, need_true, stepO_ret]
theorem F41_eq {Q : List Fr} (v : VFs Q) (hQ : Q.length ≤ 64) {a w : Int} (ha : 0 ≤ a ∧ a ≤ Q.length) (hw : 1 ≤ w ∧ w ≤ 8) : F41 Q.length (Q.flatMap eF) a w = some 0 := by
  have r1 : rangeI a 0 (Q.length : Int) = 0 := rangeI_zero.2 ha
  have r2 : rangeI w 1 8 = 0 := rangeI_zero.2 hw
  unfold F41; rw [res_eq]
  simp only [B41, F53_eq v hQ, F38_eq, r1, r2, F37_3, first0_3, sem_bind_some, sem_sees, sem_triv, sem_ask, sem_ret, PC.holds, need_true, stepO_ret]
theorem F42_eq {Q : List Fr} (v : VFs Q) (hQ : Q.length ≤ 64) : F42 (Q.length : Int) Q.length (Q.flatMap eF) = some 0 := by
  unfold F42; rw [res_eq]
  simp only [B42, F53_eq v hQ, F39_eq, bne_self_eq_false, whenF, F37_2, first0_2, sem_bind_some, sem_sees, sem_triv, sem_ask, sem_ret, PC.holds, need_true, stepO_ret]
theorem nb {n : Nat} (h : 0 < n) : n.beq 0 = false := by
  cases n with
  | zero => omega
  | succ n => rfl
theorem F56_eq {b : List Int} (h : 1 ≤ b.length ∧ b.length ≤ 1000) : F56 b.length (b.map vB) = some (b.length, b.map vB) := by
  have hf : fitsN b.length 1 := by unfold fitsN; omega
  unfold F56; rw [res_eq]
  simp only [B56, nb (show 0 < b.length by omega), Bool.false_eq_true, if_false, hf, show 0 < b.length by omega, List.length_map, Nat.mul_one, sem_br, sem_ask, sem_triv, sem_ret, PC.holds, need_true, stepO_ret]
theorem F40_eq (m p ps : Int) {b : List Int} (h : 1 ≤ b.length ∧ b.length ≤ 1000) : F40 m p ps b.length (b.map vB) = some (m, p, ps, b.length, b.map vB) := by
  unfold F40; rw [res_eq]
  simp only [B40, F56_eq h, sem_bind_some, sem_sees, sem_triv, sem_ask, sem_ret, PC.holds, need_true, stepO_ret]
theorem fr_take_succ {Q : List Fr} {i : Nat} (hi : i < Q.length) : (Q.take (i + 1)).flatMap eF = (Q.take i).flatMap eF ++ [DV.v (Value.int IntKind.i64 (Q.getD i f0).1), DV.v (Value.int IntKind.i64 (Q.getD i f0).2.1), DV.v (Value.int IntKind.i64 (Q.getD i f0).2.2.1), DV.sl (Q.getD i f0).2.2.2.length ((Q.getD i f0).2.2.2.map vB)] := by
  rw [List.take_succ_eq_append_getElem hi, List.flatMap_append]
  simp [List.getD_eq_getElem?_getD, hi, eF, eB]
theorem F63f_loop {Q : List Fr} (v : VFs Q) (hQ : Q.length ≤ 64) : ∀ (k i e : Nat), Q.length = i + k → 0 < i →
    res B63f (.c2 e i ((Q.take i).flatMap eF) Q.length (Q.flatMap eF) (Q.length : Int) (i : Int) e) = some (Q.length, Q.flatMap eF)
  | 0, i, e, hk, h0 => by
    obtain rfl : i = Q.length := by omega
    rw [List.take_of_length_le (Nat.le_refl _), res_eq]
    have h1 : ¬ ((Q.length : Int) < (Q.length : Int)) := by omega
    simp only [B63f, sem_br, sem_ask, sem_ret, PC.holds, h1, decide_false, Bool.false_eq_true, if_false, need_true, h0, stepO_ret]
  | k + 1, i, e, hk, h0 => by
    have hi : i < Q.length := by omega
    have h1 : (i : Int) < (Q.length : Int) := by omega
    have ih := F63f_loop v hQ k (i + 1) (e + 1) (by omega) (by omega)
    have hin : inI64 ((i : Int) + 1) := by unfold inI64; omega
    have hf : fitsN (i + 1) 48 := by unfold fitsN; omega
    have t := atF hi
    have hb := (v.get hi).b
    have e40 := F40_eq (Q.getD i f0).1 (Q.getD i f0).2.1 (Q.getD i f0).2.2.1 (b := (Q.getD i f0).2.2.2) (by omega)
    rw [fr_take_succ hi] at ih
    rw [res_eq]
    simp only [B63f, t.c0, t.c1, t.c2, t.c3, t.r1, t.r2, t.t, dN_eB, dL_eB, e40, sem_br, sem_ask, sem_ret, sem_nxt, sem_bind_some, sem_sees, sem_triv, PC.holds, need_true, Int.toNat_natCast, h1, hin, hf, decide_true, if_true, Int.natCast_nonneg, stepO_nxt]
    exact ih
theorem F63f_eq {Q : List Fr} (v : VFs Q) (hQ : Q.length ≤ 64) : F63f Q.length (Q.flatMap eF) = some (Q.length, Q.flatMap eF) := by
  unfold F63f
  rw [res_eq]
  simp only [B63f, sem_nxt, stepO_nxt]
  rw [res_eq]
  by_cases h0 : Q.length = 0
  · have : Q = [] := List.eq_nil_of_length_eq_zero h0
    subst this
    simp [B63f, sem_br, sem_ret, stepO_ret]
  · have hi : 0 < Q.length := by omega
    have h1 : (0 : Int) < (Q.length : Int) := by omega
    have hin : inI64 ((0 : Int) + 1) := by unfold inI64; omega
    have ih := F63f_loop v hQ (Q.length - 1) 1 0 (by omega) (by omega)
    have t := atF hi
    have a0 := t.c0; have a1 := t.c1; have a2 := t.c2; have a3 := t.c3; have a4 := t.r1; have a5 := t.r2; have a6 := t.t
    have hb := (v.get hi).b
    have e40 := F40_eq (Q.getD 0 f0).1 (Q.getD 0 f0).2.1 (Q.getD 0 f0).2.2.1 (b := (Q.getD 0 f0).2.2.2) (by omega)
    rw [fr_take_succ hi] at ih
    simp only [B63f, Int.toNat_zero, a0, a1, a2, a3, a4, a5, a6, dN_eB, dL_eB, e40, sem_br, sem_ask, sem_ret, sem_nxt, sem_bind_some, sem_sees, sem_triv, PC.holds, need_true, h1, hin, decide_true, if_true, Int.le_refl, stepO_nxt]
    exact ih
theorem F45f_eq {Q : List Fr} (v : VFs Q) (hQ : Q.length ≤ 64) : F45f Q.length (Q.flatMap eF) = some (Q.length, Q.flatMap eF) := by
  have hl := fl_len Q
  have hz : ∀ zs : List AV, zs.length = 4 → (zerosA zs Q.length).length = ((Q.flatMap eF).map AV.d).length := by
    intro zs h; rw [zerosA_len, h, List.length_map, hl]
  have tk : List.take (Q.length * 4) (Q.flatMap eF) = Q.flatMap eF := List.take_of_length_le (by omega)
  have tk2 : List.take (Q.length * 4) ((Q.flatMap eF).map AV.d) = (Q.flatMap eF).map AV.d := List.take_of_length_le (by rw [List.length_map]; omega)
  unfold F45f; rw [res_eq]
  simp only [B45f, Int.toNat_natCast, Nat.min_self, tk, List.drop_zero, sem_ask, sem_bind, sem_ret, sem_br, sem_sees, sem_triv, PC.holds]
  rw [spl_all (hz _ rfl)]
  simp only [tk2, toDs_d, aD_d, hl, Nat.zero_add, List.length_map, Nat.le_refl, Int.le_refl, Int.natCast_nonneg, need_true, F63f_eq v hQ, ownN, sem_ask, sem_bind, sem_ret, sem_br, sem_sees, sem_triv, PC.holds]
  rw [need_of (by omega), need_of (by omega), need_of (by rw [hz _ rfl, List.length_map, hl]; exact Nat.le_refl _)]
  by_cases h0 : Q.length = 0
  · have : Q = [] := List.eq_nil_of_length_eq_zero h0
    subst this
    simp only [List.length_nil, show Nat.beq 0 0 = true from rfl, if_true, need_true, List.flatMap_nil, stepO_ret]
  · have hp : 0 < Q.length := by omega
    simp only [nb hp, hp, Bool.false_eq_true, if_false, need_true, stepO_ret]
end Go.Kv
