import Derived.Test.YtfojgeoicgmncaaKL4
namespace Go.Kv
set_option linter.unusedVariables false
set_option linter.unusedSimpArgs false
open Go Go.RowKit
set_option maxRecDepth 100000
theorem mfind_app {κ β : Type} [BEq κ] : ∀ (l r : List (κ × β)) (x : κ), mfind (l ++ r) x = (mfind l x).or (mfind r x)
  | [], r, x => by simp [mfind]
  | e :: l, r, x => by
    show (if x == e.1 then some e.2 else mfind (l ++ r) x) = (if x == e.1 then some e.2 else mfind l x).or (mfind r x)
    split
    · rfl
    · exact mfind_app l r x
theorem mset_new {κ β : Type} [BEq κ] : ∀ (l : List (κ × β)) (x : κ) (v : β), mfind l x = none → mset l x v = l ++ [(x, v)]
  | [], x, v, _ => rfl
  | e :: l, x, v, h => by
    unfold mfind at h
    unfold mset
    split at h
    · cases h
    · rename_i hne
      rw [if_neg hne, mset_new l x v h]; rfl
def mapE (Q : List Fr) (i : Nat) : MID := (List.range i).map fun p => (((p : Nat) : Int), eF (Q.getD p f0))
theorem mapE_succ (Q : List Fr) (i : Nat) : mapE Q (i + 1) = mapE Q i ++ [(((i : Nat) : Int), eF (Q.getD i f0))] := by
  unfold mapE; rw [List.range_succ, List.map_append]; rfl
theorem mapE_find (Q : List Fr) (p : Nat) : ∀ i : Nat, mfind (mapE Q i) ((p : Nat) : Int) = if p < i then some (eF (Q.getD p f0)) else none
  | 0 => rfl
  | i + 1 => by
    rw [mapE_succ, mfind_app, mapE_find Q p i]
    by_cases h : p < i
    · rw [if_pos h, if_pos (by omega)]; rfl
    · rw [if_neg h]
      by_cases h2 : p = i
      · subst h2
        rw [if_pos (by omega)]
        simp [mfind]
      · rw [if_neg (by omega)]
        have : (((p : Nat) : Int) == ((i : Nat) : Int)) = false := by simp; omega
        simp [mfind, this]
structure JQ (Q : List Fr) (m : Int) : Prop where
  v : VFs Q
  l : 1 ≤ Q.length ∧ Q.length ≤ 4
  m : ∀ i, i < Q.length → (Q.getD i f0).1 = m
  p : ∀ i, i < Q.length → (Q.getD i f0).2.1 = ((i : Nat) : Int)
  ps : ∀ i, i < Q.length → (Q.getD i f0).2.2.1 = ((Q.length : Nat) : Int)
def msg (Q : List Fr) : List Int := Q.flatMap fun f => f.2.2.2
section
variable {Q : List Fr} {m : Int}
structure First (l : List DV) (f : Fr) : Prop where
  d0 : dI (cel (List.drop 0 l) 0) = f.1
  d2 : dI (cel (List.drop 0 l) 2) = f.2.2.1
  p0 : Option.map AV.d (List.drop 0 (List.drop 0 l))[0]? = some (AV.d (DV.v (Value.int IntKind.i64 f.1)))
  p2 : Option.map AV.d (List.drop 2 (List.drop 0 l))[0]? = some (AV.d (DV.v (Value.int IntKind.i64 f.2.2.1)))
  r : 2 ≤ (List.drop 0 l).length
theorem firstF (h : 0 < Q.length) : First (Q.flatMap eF) (Q.getD 0 f0) := by
  match Q, h with
  | f :: Q', _ => exact ⟨rfl, rfl, rfl, rfl, by simp [eF]⟩
theorem F30_c1 (j : JQ Q m) : ∀ (k i : Nat), Q.length = i + k → res B30 (.c1 Q.length (Q.flatMap eF) (Q.length : Int) (i : Int) (mapE Q i)) = res B30 (.c2 true ((Q.length : Nat) : Int) 0 (mapE Q Q.length))
  | 0, i, hk => by
    obtain rfl : i = Q.length := by omega
    have hl := j.l
    have c : ¬ ((Q.length : Int) < (Q.length : Int)) := by omega
    have F := firstF (Q := Q) (by omega)
    have e0 := j.ps 0 (by omega)
    have d2 := F.d2
    have p2 := F.p2
    rw [e0] at d2 p2
    rw [res_eq]
    simp only [B30, c, d2, p2, F.r, decide_false, Bool.false_eq_true, if_false, sem_br, sem_ask, sem_triv, sem_nxt, PC.holds, need_true, Nat.zero_le, show (0 : Int) < (Q.length : Int) by omega, stepO_nxt]
  | k + 1, i, hk => by
    have hl := j.l
    have hi : i < Q.length := by omega
    have h1 : (i : Int) < (Q.length : Int) := by omega
    have hin : inI64 ((i : Int) + 1) := by unfold inI64; omega
    have t := atF hi
    have F := firstF (Q := Q) (by omega)
    have ih := F30_c1 j k (i + 1) (by omega)
    have q0 := t.c0; have q1 := t.c1; have q2 := t.c2; have q3 := t.c3; have qt := t.t
    have g0 := F.d0; have g2 := F.d2; have gp0 := F.p0; have gp2 := F.p2
    rw [j.m i hi] at q0 qt
    rw [j.p i hi] at q1 qt
    rw [j.ps i hi] at q2 qt
    rw [j.m 0 (by omega)] at g0 gp0
    rw [j.ps 0 (by omega)] at g2 gp2
    have hf : mfind (mapE Q i) ((i : Nat) : Int) = none := by rw [mapE_find, if_neg (by omega)]
    have hhas : mhas (mapE Q i) ((i : Nat) : Int) = false := by unfold mhas; rw [hf]; rfl
    have hget : ∀ zs, mgetD (mapE Q i) ((i : Nat) : Int) zs = zs := fun zs => by unfold mgetD; rw [hf]; rfl
    have hset : mset (mapE Q i) ((i : Nat) : Int) (eF (Q.getD i f0)) = mapE Q (i + 1) := by rw [mset_new _ _ _ hf, mapE_succ]
    have heF : eF (Q.getD i f0) = [DV.v (Value.int IntKind.i64 m), DV.v (Value.int IntKind.i64 ((i : Nat) : Int)), DV.v (Value.int IntKind.i64 ((Q.length : Nat) : Int)), DV.sl (Q.getD i f0).2.2.2.length ((Q.getD i f0).2.2.2.map vB)] := by
      unfold eF eB
      rw [j.m i hi, j.p i hi, j.ps i hi]
    rw [heF] at hset
    rw [res_eq]
    simp only [B30, h1, hin, q0, q1, q2, q3, qt, t.r1, t.r2, g0, g2, gp0, gp2, F.r, hhas, hget, dN_eB, dL_eB, hset, decide_true, if_true, decide_false, Bool.false_eq_true, if_false, bne_self_eq_false, beq_self_eq_true, Int.toNat_natCast, Int.natCast_nonneg, Nat.zero_le, show (0 : Int) < (Q.length : Int) by omega, sem_br, sem_ask, sem_triv, sem_nxt, PC.holds, need_true]
    rw [need_of (by rfl)]
    simp only [stepO_nxt]
    rw [← ih]; rfl
def bs (Q : List Fr) (i : Nat) : List Int := msg (Q.take i)
theorem bs_succ {i : Nat} (hi : i < Q.length) : bs Q (i + 1) = bs Q i ++ (Q.getD i f0).2.2.2 := by
  unfold bs msg
  rw [List.take_succ_eq_append_getElem hi, List.flatMap_append]
  simp [List.getD_eq_getElem?_getD, hi]
theorem bs_len (j : JQ Q m) : ∀ i : Nat, i ≤ Q.length → (bs Q i).length ≤ 12 * i
  | 0, _ => by simp [bs, msg]
  | i + 1, h => by
    have := bs_len j i (by omega)
    have hb := (j.v.get (show i < Q.length by omega)).b
    rw [bs_succ (by omega), List.length_append]; omega
theorem F30_c3 (j : JQ Q m) : ∀ (k i e : Nat), Q.length = i + k → 0 < i →
    res B30 (.c3 e (bs Q i).length ((bs Q i).map vB) true (Q.length : Int) (i : Int) (mapE Q Q.length) e) = some ((msg Q).length, (msg Q).map vB, 0)
  | 0, i, e, hk, h0 => by
    obtain rfl : i = Q.length := by omega
    have c : ¬ ((Q.length : Int) < (Q.length : Int)) := by omega
    have hb : bs Q Q.length = msg Q := by unfold bs; rw [List.take_length]
    rw [res_eq, hb]
    simp only [B30, c, decide_false, Bool.false_eq_true, if_false, Bool.not_true, sem_br, sem_ask, sem_triv, sem_ret, PC.holds, need_true, stepO_ret]
  | k + 1, i, e, hk, h0 => by
    have hl := j.l
    have hi : i < Q.length := by omega
    have h1 : (i : Int) < (Q.length : Int) := by omega
    have hin : inI64 ((i : Int) + 1) := by unfold inI64; omega
    have hb := (j.v.get hi).b
    have hbl := bs_len j i (by omega)
    have hf : mfind (mapE Q Q.length) ((i : Nat) : Int) = some (eF (Q.getD i f0)) := by rw [mapE_find, if_pos hi]
    have hhas : mhas (mapE Q Q.length) ((i : Nat) : Int) = true := by unfold mhas; rw [hf]; rfl
    have hget : ∀ zs, mgetD (mapE Q Q.length) ((i : Nat) : Int) zs = eF (Q.getD i f0) := fun zs => by unfold mgetD; rw [hf]; rfl
    have g3 : cel (eF (Q.getD i f0)) 3 = eB (Q.getD i f0).2.2.2 := rfl
    have hfit : fitsN ((bs Q i).length + (Q.getD i f0).2.2.2.length) 1 := by unfold fitsN; omega
    have ih := F30_c3 j k (i + 1) (e + (Q.getD i f0).2.2.2.length) (by omega) (by omega)
    rw [bs_succ hi, List.length_append, List.map_append] at ih
    rw [res_eq]
    simp only [B30, h1, hin, hhas, hget, g3, dN_eB, dL_eB, nb (show 0 < (Q.getD i f0).2.2.2.length by omega), show 0 < (Q.getD i f0).2.2.2.length by omega, hfit, decide_true, if_true, Bool.not_true, Bool.false_eq_true, if_false, List.length_map, Nat.mul_one, sem_br, sem_ask, sem_triv, sem_nxt, PC.holds, need_true]
    rw [need_of (by rfl)]
    simp only [stepO_nxt]
    rw [← ih]; rfl
theorem F30_eq (j : JQ Q m) : F30 Q.length (Q.flatMap eF) = some ((msg Q).length, (msg Q).map vB, 0) := by
  have hl := j.l
  have hi : 0 < Q.length := by omega
  have c1 := F30_c1 j Q.length 0 (by omega)
  have h1 : (0 : Int) < (Q.length : Int) := by omega
  have e53 := F53_eq j.v (by omega)
  have ne : ((Q.length : Int) == 0) = false := by simp; intro h; simp [h] at hi
  have hin : inI64 ((0 : Int) + 1) := by unfold inI64; omega
  have hb := (j.v.get hi).b
  have hf : mfind (mapE Q Q.length) (0 : Int) = some (eF (Q.getD 0 f0)) := by
    have := mapE_find Q 0 Q.length
    rw [if_pos hi] at this; exact this
  have hhas : mhas (mapE Q Q.length) (0 : Int) = true := by unfold mhas; rw [hf]; rfl
  have hget : ∀ zs, mgetD (mapE Q Q.length) (0 : Int) zs = eF (Q.getD 0 f0) := fun zs => by unfold mgetD; rw [hf]; rfl
  have g3 : cel (eF (Q.getD 0 f0)) 3 = eB (Q.getD 0 f0).2.2.2 := rfl
  have hfit : fitsN ((Q.getD 0 f0).2.2.2.length) 1 := by unfold fitsN; omega
  have c3 := F30_c3 j (Q.length - 1) 1 0 (by omega) (by omega)
  have b1 : bs Q 1 = (Q.getD 0 f0).2.2.2 := by
    have := bs_succ (Q := Q) hi
    rw [this]; rfl
  rw [b1] at c3
  unfold F30; rw [res_eq]
  simp only [B30, e53, F39_eq, ne, whenF, F37_2, first0_2, sem_br, sem_ask, sem_triv, sem_bind_some, sem_sees, sem_nxt, PC.holds, need_true, bne_self_eq_false, Bool.false_eq_true, if_false, stepO_nxt]
  refine c1.trans ?_
  rw [res_eq]
  simp only [B30, h1, hin, hhas, hget, g3, dN_eB, dL_eB, nb (show 0 < (Q.getD 0 f0).2.2.2.length by omega), show 0 < (Q.getD 0 f0).2.2.2.length by omega, hfit, decide_true, if_true, Bool.not_true, Bool.false_eq_true, if_false, List.length_map, Nat.mul_one, sem_br, sem_ask, sem_triv, sem_nxt, PC.holds, need_true]
  rw [need_of (by rfl)]
  simp only [stepO_nxt]
  exact c3
end
def piece (b : List Int) (s p : Nat) : List Int := (b.drop (p * s)).take s
def cutQ (m : Int) (b : List Int) (s P : Nat) : List Fr := (List.range P).map fun p => (m, ((p : Nat) : Int), ((P : Nat) : Int), piece b s p)
section
variable {m : Int} {b : List Int} {s P : Nat}
theorem cut_len : (cutQ m b s P).length = P := by unfold cutQ; rw [List.length_map, List.length_range]
theorem cut_get {p : Nat} (h : p < P) : (cutQ m b s P).getD p f0 = (m, ((p : Nat) : Int), ((P : Nat) : Int), piece b s p) := by
  unfold cutQ
  simp [List.getD_eq_getElem?_getD, h]
structure CPx (m : Int) (b : List Int) (s P : Nat) : Prop where
  hm : 0 ≤ m ∧ m ≤ 255
  hs : s = 2 ∨ s = 3
  hb : 1 ≤ b.length ∧ b.length ≤ 11
  hP : P = (b.length + s - 1) / s
  h4 : P ≤ 4
theorem CPx.lt (c : CPx m b s P) {p : Nat} (h : p < P) : p * s < b.length := by
  obtain ⟨_, hs, hb, hP, _⟩ := c
  rcases hs with rfl | rfl <;> omega
theorem piece_len (c : CPx m b s P) {p : Nat} (h : p < P) : 1 ≤ (piece b s p).length ∧ (piece b s p).length ≤ 12 := by
  have := c.lt h
  unfold piece
  rw [List.length_take, List.length_drop]
  rcases c.hs with rfl | rfl <;> omega
theorem CPx.pos (c : CPx m b s P) : 1 ≤ P := by
  obtain ⟨_, hs, hb, hP, _⟩ := c
  rcases hs with rfl | rfl <;> omega
theorem cut_jq (c : CPx m b s P) : JQ (cutQ m b s P) m := by
  have h1 := c.pos
  have h4 := c.h4
  refine ⟨?_, by rw [cut_len]; omega, ?_, ?_, ?_⟩
  · intro f hf
    unfold cutQ at hf
    obtain ⟨p, hp, rfl⟩ := List.mem_map.1 hf
    have hp := List.mem_range.1 hp
    exact ⟨c.hm, by simp only; omega, by simp only; omega, piece_len c hp⟩
  · intro i hi; rw [cut_len] at hi; rw [cut_get hi]
  · intro i hi; rw [cut_len] at hi; rw [cut_get hi]
  · intro i hi; rw [cut_len] at hi; rw [cut_get hi, cut_len]
theorem cut_take : ∀ k : Nat, ((List.range k).map (piece b s)).flatten = b.take (k * s)
  | 0 => by simp
  | k + 1 => by
    rw [List.range_succ, List.map_append, List.flatten_append, cut_take k]
    simp only [List.map_cons, List.map_nil, List.flatten_cons, List.flatten_nil, List.append_nil, piece]
    rw [← List.take_add, Nat.succ_mul]
theorem cut_msg (c : CPx m b s P) : msg (cutQ m b s P) = b := by
  have h : b.length ≤ P * s := by
    obtain ⟨_, hs, hb, hP, _⟩ := c
    rcases hs with rfl | rfl <;> omega
  unfold msg cutQ
  rw [List.flatMap_map]
  have := cut_take (b := b) (s := s) P
  rw [List.take_of_length_le h] at this
  rw [List.flatMap_def]
  exact this
theorem F27_c2 (c : CPx m b s P) : ∀ (k i e : Nat), P = i + k → 0 < i →
    res B27 (.c2 m b.length (b.map vB) ((s : Nat) : Int) ((P : Nat) : Int) e i (((cutQ m b s P).take i).flatMap eF) ((i : Nat) : Int) e) = some (P, (cutQ m b s P).flatMap eF, 0)
  | 0, i, e, hk, h0 => by
    obtain rfl : i = P := by omega
    have hc : ¬ (((i : Nat) : Int) < ((i : Nat) : Int)) := by omega
    rw [List.take_of_length_le (by rw [cut_len]; exact Nat.le_refl _), res_eq]
    simp only [B27, hc, decide_false, Bool.false_eq_true, if_false, sem_br, sem_ask, sem_triv, sem_ret, PC.holds, need_true, stepO_ret]
  | k + 1, i, e, hk, h0 => by
    have hi : i < P := by omega
    have h1 : ((i : Nat) : Int) < ((P : Nat) : Int) := by omega
    have h4 := c.h4
    have hb := c.hb
    have hlt := c.lt hi
    have hpl := piece_len c hi
    have hin : inI64 (((i : Nat) : Int) + 1) := by unfold inI64; omega
    have hf : fitsN (i + 1) 48 := by unfold fitsN; omega
    have ih := F27_c2 c k (i + 1) (e + 1) (by omega) (by omega)
    rw [fr_take_succ (by rw [cut_len]; exact hi), cut_get hi] at ih
    obtain ⟨n, hn⟩ : ∃ n : Nat, (if (((i : Nat) : Int) + 1) * ((s : Nat) : Int) < ((b.length : Nat) : Int) then (((i : Nat) : Int) + 1) * ((s : Nat) : Int) else ((b.length : Nat) : Int)) = ((n : Nat) : Int) ∧ i * s ≤ n ∧ n ≤ b.length ∧ n - i * s = (piece b s i).length := by
      unfold piece
      rw [List.length_take, List.length_drop]
      rcases c.hs with rfl | rfl
      · by_cases h : (i + 1) * 2 < b.length
        · exact ⟨(i + 1) * 2, by rw [if_pos (by omega)]; omega, by omega, by omega, by omega⟩
        · exact ⟨b.length, by rw [if_neg (by omega)], by omega, by omega, by omega⟩
      · by_cases h : (i + 1) * 3 < b.length
        · exact ⟨(i + 1) * 3, by rw [if_pos (by omega)]; omega, by omega, by omega, by omega⟩
        · exact ⟨b.length, by rw [if_neg (by omega)], by omega, by omega, by omega⟩
    obtain ⟨hn, hn1, hn2, hn3⟩ := hn
    have his : ((i : Nat) : Int) * ((s : Nat) : Int) = ((i * s : Nat) : Int) := by rw [Int.natCast_mul]
    have hpc : List.take (piece b s i).length (List.drop (i * s) (b.map vB)) = (piece b s i).map vB := by
      unfold piece
      rw [← List.map_drop, ← List.map_take, List.length_take, List.length_drop]
      congr 1
      rcases c.hs with rfl | rfl
      · by_cases h : 2 ≤ b.length - i * 2
        · rw [Nat.min_eq_left h]
        · rw [List.take_of_length_le (by rw [List.length_drop]; omega), List.take_of_length_le (by rw [List.length_drop]; omega)]
      · by_cases h : 3 ≤ b.length - i * 3
        · rw [Nat.min_eq_left h]
        · rw [List.take_of_length_le (by rw [List.length_drop]; omega), List.take_of_length_le (by rw [List.length_drop]; omega)]
    have e40 := F40_eq m ((i : Nat) : Int) ((P : Nat) : Int) (b := piece b s i) (by omega)
    have i1 : inI64 ((i * s : Nat) : Int) := by unfold inI64; omega
    have i2 : inI64 ((((i : Nat) : Int) + 1) * ((s : Nat) : Int)) := by
      unfold inI64
      rcases c.hs with rfl | rfl <;> omega
    rw [res_eq]
    simp only [B27, h1, hin, his, i1, i2, hn, Int.toNat_natCast, hn3, Nat.mul_one, hpc, e40, hf, decide_true, if_true, List.length_map, Int.natCast_nonneg, sem_br, sem_ask, sem_triv, sem_bind_some, sem_sees, sem_nxt, PC.holds, need_true]
    rw [need_of (by omega), need_of (by omega)]
    simp only [stepO_nxt]
    rw [← ih]; rfl
theorem F27_c1 (c : CPx m b s P) : res B27 (.c1 m b.length (b.map vB) ((s : Nat) : Int) ((P : Nat) : Int) 0) = some (P, (cutQ m b s P).flatMap eF, 0) := by
  have h4 := c.h4
  have hp := c.pos
  have hb := c.hb
  have h1 : (0 : Int) < ((P : Nat) : Int) := by omega
  have hpl := piece_len c (show 0 < P by omega)
  have hs := c.hs
  obtain ⟨n, hn, hn2, hn3⟩ : ∃ n : Nat, (if ((0 : Int) + 1) * ((s : Nat) : Int) < ((b.length : Nat) : Int) then ((0 : Int) + 1) * ((s : Nat) : Int) else ((b.length : Nat) : Int)) = ((n : Nat) : Int) ∧ n ≤ b.length ∧ n = (piece b s 0).length := by
    unfold piece
    rw [List.length_take, List.length_drop]
    by_cases h : s < b.length
    · exact ⟨s, by rw [if_pos (by omega)]; omega, by omega, by omega⟩
    · exact ⟨b.length, by rw [if_neg (by omega)], by omega, by omega⟩
  have hpc : List.take (piece b s 0).length (b.map vB) = (piece b s 0).map vB := by
    unfold piece
    rw [Nat.zero_mul, List.drop_zero, ← List.map_take, List.length_take]
    congr 1
    by_cases h : s ≤ b.length
    · rw [Nat.min_eq_left h]
    · rw [List.take_of_length_le (by omega), List.take_of_length_le (by omega)]
  have e40 := F40_eq m 0 ((P : Nat) : Int) (b := piece b s 0) (by omega)
  have i0 : inI64 (0 : Int) := by unfold inI64; omega
  have i1 : inI64 ((0 : Int) + 1) := by unfold inI64; omega
  have i2 : inI64 (((0 : Int) + 1) * ((s : Nat) : Int)) := by unfold inI64; omega
  have ih := F27_c2 c (P - 1) 1 0 (by omega) (by omega)
  rw [show (cutQ m b s P).take 1 = [(m, (0 : Int), ((P : Nat) : Int), piece b s 0)] by
    unfold cutQ; rw [show P = P - 1 + 1 by omega, List.range_succ_eq_map]; rfl] at ih
  rw [res_eq]
  simp only [B27, h1, Int.zero_mul, i0, i1, i2, hn, hn3, hn2, Int.toNat_natCast, Int.toNat_zero, Nat.sub_zero, Nat.zero_mul, List.drop_zero, Nat.mul_one, hpc, e40, decide_true, if_true, List.length_map, Int.natCast_nonneg, Int.le_refl, sem_br, sem_ask, sem_triv, sem_bind_some, sem_sees, sem_nxt, PC.holds, need_true]
  rw [need_of (by omega)]
  simp only [stepO_nxt]
  rw [← ih]; rfl
theorem F27_eq (c : CPx m b s P) : F27 m b.length (b.map vB) ((s : Nat) : Int) = some (P, (cutQ m b s P).flatMap eF, 0) := by
  have h4 := c.h4
  have hp := c.pos
  have hb := c.hb
  have hs := c.hs
  have hm := c.hm
  have c1 := F27_c1 c
  have r1 : rangeI m 0 255 = 0 := rangeI_zero.2 hm
  have r2 : rangeI ((s : Nat) : Int) 1 12 = 0 := rangeI_zero.2 ⟨by omega, by omega⟩
  have h256 : ¬ (((b.length : Nat) : Int) > 256) := by omega
  have i1 : inI64 (((b.length : Nat) : Int) + ((s : Nat) : Int)) := by unfold inI64; omega
  have i2 : inI64 (((b.length : Nat) : Int) + ((s : Nat) : Int) - 1) := by unfold inI64; omega
  have hd : (((b.length : Nat) : Int) + ((s : Nat) : Int) - 1).tdiv ((s : Nat) : Int) = ((P : Nat) : Int) := by
    rw [Int.tdiv_eq_ediv_of_nonneg (by omega), c.hP]
    rw [show ((b.length : Nat) : Int) + ((s : Nat) : Int) - 1 = ((b.length + s - 1 : Nat) : Int) by omega]
    exact (Int.natCast_ediv _ _).symm
  have i3 : inI64 ((P : Nat) : Int) := by unfold inI64; omega
  have hmax : (if ((P : Nat) : Int) > 1 then ((P : Nat) : Int) else 1) = ((P : Nat) : Int) := by
    by_cases h : ((P : Nat) : Int) > 1
    · rw [if_pos h]
    · rw [if_neg h]; omega
  have h64 : ¬ (((P : Nat) : Int) > 64) := by omega
  have hs0 : ((s : Nat) : Int) ≠ 0 := by omega
  unfold F27; rw [res_eq]
  simp only [B27, F38_eq, F39_eq, r1, r2, h256, decide_false, whenF, F37_3, first0_3, i1, i2, hd, i3, hmax, h64, ne_eq, hs0, not_false_eq_true, bne_self_eq_false, Bool.false_eq_true, if_false, sem_br, sem_ask, sem_triv, sem_bind_some, sem_sees, sem_nxt, PC.holds, need_true, stepO_nxt]
  exact c1
end
end Go.Kv
