/- Entries in lists, and their profiles. -/
import Derived.Test.YtjpmpeknnfhccaaGreatDoorKL
import Derived.Test.YtjpmpeknnfhccaaGreatDoorKE
namespace Go.Kv
set_option linter.unusedVariables false
set_option linter.unusedSimpArgs false
open Go Go.RowKit
set_option maxRecDepth 100000
abbrev E5 : Type := Int × Int × Int × Int × Int
def eE (x : E5) : List DV := [vI x.1, vI x.2.1, vI x.2.2.1, vI x.2.2.2.1, vI x.2.2.2.2]
theorem eE_len (x : E5) : (eE x).length = 5 := rfl
def entE (x : E5) : Int := entI x.1 x.2.1 x.2.2.1 x.2.2.2.1 x.2.2.2.2
def at5 (l : List E5) (i : Nat) : E5 := l.getD i (0, 0, 0, 0, 0)
theorem at5_get {l : List E5} {i : Nat} (hi : i < l.length) : at5 l i = l[i] := by simp [at5, List.getD_eq_getElem?_getD, hi]
structure At5 (L : List DV) (x : E5) (i : Nat) : Prop where
  c0 : dI (cel L (i * 5)) = x.1
  c1 : dI (cel L (i * 5 + 1)) = x.2.1
  c2 : dI (cel L (i * 5 + 2)) = x.2.2.1
  c3 : dI (cel L (i * 5 + 3)) = x.2.2.2.1
  c4 : dI (cel L (i * 5 + 4)) = x.2.2.2.2
  le : i * 5 ≤ L.length
  rm : 5 ≤ (L.drop (i * 5)).length
  row : (L.drop (i * 5)).take 5 = eE x
theorem ent_at {l : List E5} {i : Nat} (hi : i < l.length) : At5 (l.flatMap eE) (at5 l i) i := by
  have hk (k : Nat) (h : k < 5) := fm_cel (enc := eE) eE_len hi h
  obtain ⟨r1, r2⟩ := fm_room (enc := eE) eE_len hi
  rw [at5_get hi]
  refine ⟨?_, ?_, ?_, ?_, ?_, r1, r2, fm_at eE_len hi⟩
  · have := hk 0 (by decide); rw [Nat.add_zero] at this; rw [this]; rfl
  · rw [hk 1 (by decide)]; rfl
  · rw [hk 2 (by decide)]; rfl
  · rw [hk 3 (by decide)]; rfl
  · rw [hk 4 (by decide)]; rfl
theorem map_eE (x : E5) : (eE x).map AV.d = [AV.d (DV.v (Value.int IntKind.i64 x.1)), AV.d (DV.v (Value.int IntKind.i64 x.2.1)), AV.d (DV.v (Value.int IntKind.i64 x.2.2.1)), AV.d (DV.v (Value.int IntKind.i64 x.2.2.2.1)), AV.d (DV.v (Value.int IntKind.i64 x.2.2.2.2))] := rfl
theorem take_snoc {l : List E5} {i : Nat} (hi : i < l.length) : (l.take (i + 1)).flatMap eE = (l.take i).flatMap eE ++ eE (at5 l i) := by
  rw [List.take_add_one, at5_get hi, List.getElem?_eq_getElem hi, List.flatMap_append]
  simp only [Option.toList, List.flatMap_cons, List.flatMap_nil, List.append_nil]

/-! copies -/
theorem F18_c2 (l : List E5) (hl : l.length ≤ 1000) : ∀ (k i e : Nat), l.length = i + k → res B18 (.c2 e i ((l.take i).flatMap eE) l.length (l.flatMap eE) (l.length : Int) (i : Int) e) = some (l.length, l.flatMap eE)
  | 0, i, e, hk => by
    rw [res_eq]
    have : ¬ ((i : Int) < (l.length : Int)) := by omega
    have h2 : i = l.length := by omega
    subst h2
    simp only [B18, sem_br, sem_ret, this, decide_false, Bool.false_eq_true, if_false, stepO_ret, List.take_length]
  | k + 1, i, e, hk => by
    have hi : i < l.length := by omega
    have h1 : (i : Int) < (l.length : Int) := by omega
    have ih := F18_c2 l hl k (i + 1) (e + 1) (by omega)
    have hin : inI64 ((i : Int) + 1) := by unfold inI64; omega
    have hf : fitsN (i + 1) 40 := by unfold fitsN; omega
    have A := ent_at hi
    rw [take_snoc hi] at ih
    rw [res_eq]
    simp only [B18, sem_br, sem_ask, sem_nxt, PC.holds, need_true, Int.toNat_natCast, A.c0, A.c1, A.c2, A.c3, A.c4, A.le, A.rm, A.row, map_eE, h1, hin, hf, decide_true, if_true, Int.natCast_nonneg, stepO_nxt]
    exact ih
theorem F18_eq (l : List E5) (hl : l.length ≤ 1000) : F18 l.length (l.flatMap eE) = some (l.length, l.flatMap eE) := by
  unfold F18; rw [res_eq]
  simp only [B18, sem_nxt, stepO_nxt]
  rw [res_eq]
  by_cases h0 : l = []
  · subst h0; rfl
  · have hi : 0 < l.length := List.length_pos_iff.2 h0
    have h1 : (0 : Int) < (l.length : Int) := by omega
    have hin : inI64 ((0 : Int) + 1) := by unfold inI64; omega
    have A := ent_at hi
    have ih := F18_c2 l hl (l.length - 1) 1 0 (by omega)
    rw [take_snoc hi] at ih
    simp only [B18, sem_br, sem_ask, sem_nxt, PC.holds, need_true, Int.toNat_zero, A.c0, A.c1, A.c2, A.c3, A.c4, A.le, A.rm, A.row, map_eE, h1, hin, decide_true, if_true, Int.le_refl, stepO_nxt]
    exact ih
theorem F8_eq (r : Int) (l : List E5) (hl : l.length ≤ 1000) : F8 r l.length (l.flatMap eE) = some (r, l.length, l.flatMap eE) := by
  unfold F8; rw [res_eq]
  simp only [B8, F18_eq l hl, sem_bind_some, sem_sees, sem_ret, stepO_ret]
theorem F30_c2 (l : List E5) (hl : l.length ≤ 1000) : ∀ (k i e : Nat), l.length = i + k → res B30 (.c2 e i ((l.take i).flatMap eE) l.length (l.flatMap eE) (l.length : Int) (i : Int) e) = some (l.length, l.flatMap eE)
  | 0, i, e, hk => by
    rw [res_eq]
    have : ¬ ((i : Int) < (l.length : Int)) := by omega
    have h2 : i = l.length := by omega
    subst h2
    simp only [B30, sem_br, sem_ret, this, decide_false, Bool.false_eq_true, if_false, stepO_ret, List.take_length]
  | k + 1, i, e, hk => by
    have hi : i < l.length := by omega
    have h1 : (i : Int) < (l.length : Int) := by omega
    have ih := F30_c2 l hl k (i + 1) (e + 1) (by omega)
    have hin : inI64 ((i : Int) + 1) := by unfold inI64; omega
    have hf : fitsN (i + 1) 40 := by unfold fitsN; omega
    have A := ent_at hi
    rw [take_snoc hi] at ih
    rw [res_eq]
    simp only [B30, sem_br, sem_ask, sem_nxt, PC.holds, need_true, Int.toNat_natCast, A.c0, A.c1, A.c2, A.c3, A.c4, A.le, A.rm, A.row, map_eE, h1, hin, hf, decide_true, if_true, Int.natCast_nonneg, stepO_nxt]
    exact ih
theorem F30_eq (l : List E5) (hl : l.length ≤ 1000) : F30 l.length (l.flatMap eE) = some (l.length, l.flatMap eE) := by
  unfold F30; rw [res_eq]
  simp only [B30, sem_nxt, stepO_nxt]
  rw [res_eq]
  by_cases h0 : l = []
  · subst h0; rfl
  · have hi : 0 < l.length := List.length_pos_iff.2 h0
    have h1 : (0 : Int) < (l.length : Int) := by omega
    have hin : inI64 ((0 : Int) + 1) := by unfold inI64; omega
    have A := ent_at hi
    have ih := F30_c2 l hl (l.length - 1) 1 0 (by omega)
    rw [take_snoc hi] at ih
    simp only [B30, sem_br, sem_ask, sem_nxt, PC.holds, need_true, Int.toNat_zero, A.c0, A.c1, A.c2, A.c3, A.c4, A.le, A.rm, A.row, map_eE, h1, hin, decide_true, if_true, Int.le_refl, stepO_nxt]
    exact ih
/-- A list of entries is the same as itself. -/
theorem F29_loop (l : List E5) (hl : l.length ≤ 1000) : ∀ (k i : Nat), l.length = i + k → res B29 (.c1 l.length (l.flatMap eE) l.length (l.flatMap eE) (i : Int)) = some true
  | 0, i, hk => by
    rw [res_eq]
    have : ¬ ((i : Int) < (l.length : Int)) := by omega
    simp only [B29, sem_br, sem_ret, this, decide_false, Bool.false_eq_true, if_false, stepO_ret]
  | k + 1, i, hk => by
    have hi : i < l.length := by omega
    have h1 : (i : Int) < (l.length : Int) := by omega
    have ih := F29_loop l hl k (i + 1) (by omega)
    have hin : inI64 ((i : Int) + 1) := by unfold inI64; omega
    have A := ent_at hi
    rw [res_eq]
    simp only [B29, sem_br, sem_ask, sem_nxt, PC.holds, need_true, Int.toNat_natCast, A.c0, A.c1, A.c2, A.c3, A.c4, A.le, A.rm, A.row, map_eE, h1, hin, decide_true, if_true, Int.natCast_nonneg, stepO_nxt, beq_self_eq_true, Bool.and_true, Bool.not_true, Bool.false_eq_true, if_false]
    exact ih
theorem F29_same (l : List E5) (hl : l.length ≤ 1000) : F29 l.length (l.flatMap eE) l.length (l.flatMap eE) = some true := by
  unfold F29; rw [res_eq]
  simp only [B29, sem_br, sem_nxt, bne_self_eq_false, Bool.false_eq_true, if_false, stepO_nxt]
  exact F29_loop l hl l.length 0 (by omega)
theorem F29_nil : F29 0 [] 0 [] = some true := F29_same [] (by simp)
theorem F30_nil : F30 0 [] = some (0, []) := F30_eq [] (by simp)

/-! a profile's error -/
def fol (x p : E5) : Bool := if x.1 == p.1 + 1 then decide (x.2.1 > p.2.1) else false
theorem F71_eq (x p : E5) (h : entE p = 0) : F71 x.1 x.2.1 x.2.2.1 x.2.2.2.1 x.2.2.2.2 p.1 p.2.1 p.2.2.1 p.2.2.2.1 p.2.2.2.2 = some (fol x p) := by
  obtain ⟨⟨h1, h2⟩, _⟩ := entI_zero.1 h
  have e : inI64 (p.1 + 1) := by unfold inI64; omega
  unfold F71 fol; rw [res_eq]
  simp only [B71, sem_ask, sem_br, PC.holds, e, need_true, sem_ret]
  split <;> rfl
theorem F50_eq (x p : E5) (h : entE p = 0) : F50 p.1 p.2.1 p.2.2.1 p.2.2.2.1 p.2.2.2.2 x.1 x.2.1 x.2.2.1 x.2.2.2.1 x.2.2.2.2 = some (fol x p) := by
  obtain ⟨⟨h1, h2⟩, _⟩ := entI_zero.1 h
  have e : inI64 (p.1 + 1) := by unfold inI64; omega
  unfold F50 fol; rw [res_eq]
  simp only [B50, sem_ask, sem_br, PC.holds, e, need_true, sem_ret, sem_triv, stepO_ret]
  first | rfl | (split <;> rfl)
def errAt (l : List E5) (i : Nat) : Int := firstI [entE (at5 l i), if i = 0 then 0 else whenI (!fol (at5 l i) (at5 l (i - 1))) 11]
def scan (l : List E5) : Nat → Nat → Int
  | 0, _ => 0
  | k + 1, i => if errAt l i = 0 then scan l k (i + 1) else errAt l i
def profI (r : Int) (l : List E5) : Int := if firstI [rangeI r 1 64, whenI (decide ((l.length : Int) > r)) 5] = 0 then scan l l.length 0 else firstI [rangeI r 1 64, whenI (decide ((l.length : Int) > r)) 5]
theorem errAt_ent {l : List E5} {i : Nat} (h : errAt l i = 0) : entE (at5 l i) = 0 := (firstI_zero .. |>.1 h).1
theorem F39_loop (l : List E5) (hl : l.length ≤ 1000) (r : Int) : ∀ (k i : Nat), l.length = i + k → (0 < i → entE (at5 l (i - 1)) = 0) → res B39 (.c1 l.length (l.flatMap eE) (l.length : Int) (i : Int) r) = some (scan l k i)
  | 0, i, hk, _ => by
    rw [res_eq]
    have : ¬ ((i : Int) < (l.length : Int)) := by omega
    simp only [B39, sem_br, sem_ret, this, decide_false, Bool.false_eq_true, if_false, stepO_ret, scan]
  | k + 1, i, hk, hprev => by
    have hi : i < l.length := by omega
    have h1 : (i : Int) < (l.length : Int) := by omega
    have hin : inI64 ((i : Int) + 1) := by unfold inI64; omega
    have A := ent_at hi
    have key : ∀ e, e = errAt l i → stepO (res B39) (if (e != 0) = true then some (Sum.inr e) else some (.inl (S39.c1 l.length (l.flatMap eE) (l.length : Int) ((i : Int) + 1) r))) = some (scan l (k + 1) i) := by
      intro e he
      subst he
      by_cases h0 : errAt l i = 0
      · have ih := F39_loop l hl r k (i + 1) (by omega) (fun _ => by simpa using errAt_ent h0)
        rw [h0]
        simp only [bne_self_eq_false, Bool.false_eq_true, if_false, stepO_nxt, scan, h0, if_true]
        exact ih
      · have h0' : (errAt l i != 0) = true := by simpa using h0
        simp only [h0', if_true, stepO_ret, scan, if_neg h0]
    rw [res_eq]
    by_cases hz : i = 0
    · subst hz
      have hE : firstI [entE (at5 l 0), whenI false 11] = errAt l 0 := rfl
      have k0 := key _ rfl
      simp only [B39, sem_br, sem_ask, sem_bind_some, sem_sees, sem_ret, sem_nxt, PC.holds, need_true, Int.toNat_natCast, A.c0, A.c1, A.c2, A.c3, A.c4, A.le, A.rm, A.row, map_eE, h1, hin, F54_eq, F43_eq, F42_2, decide_true, if_true, Int.natCast_nonneg, show ¬ ((0 : Nat) : Int) > 0 by omega, decide_false, Bool.false_eq_true, if_false, show entI (at5 l 0).1 (at5 l 0).2.1 (at5 l 0).2.2.1 (at5 l 0).2.2.2.1 (at5 l 0).2.2.2.2 = entE (at5 l 0) from rfl, hE]
      exact k0
    · have hp : i - 1 < l.length := by omega
      have P := ent_at hp
      have hpe := hprev (by omega)
      have g0 : (i : Int) > 0 := by omega
      have g1 : (if (i : Int) - 1 > 0 then (i : Int) - 1 else 0) = ((i - 1 : Nat) : Int) := by split <;> omega
      have g2 : inI64 ((i : Int) - 1) := by unfold inI64; omega
      have g3 : ((i - 1 : Nat) : Int) < (l.length : Int) := by omega
      have hE : firstI [entE (at5 l i), whenI (!fol (at5 l i) (at5 l (i - 1))) 11] = errAt l i := by unfold errAt; rw [if_neg hz]
      have k0 := key _ rfl
      simp only [B39, sem_br, sem_ask, sem_bind_some, sem_sees, sem_ret, sem_nxt, PC.holds, need_true, g1, Int.toNat_natCast, A.c0, A.c1, A.c2, A.c3, A.c4, A.le, A.rm, A.row, P.c0, P.c1, P.c2, P.c3, P.c4, P.le, P.rm, P.row, map_eE, h1, hin, g0, g2, g3, F54_eq, F43_eq, F42_2, F71_eq _ _ hpe, beq_self_eq_true, decide_true, if_true, Int.natCast_nonneg, show entI (at5 l i).1 (at5 l i).2.1 (at5 l i).2.2.1 (at5 l i).2.2.2.1 (at5 l i).2.2.2.2 = entE (at5 l i) from rfl, hE]
      exact k0
theorem F39_eq (r : Int) (l : List E5) (hl : l.length ≤ 1000) : F39 r l.length (l.flatMap eE) = some (profI r l) := by
  unfold F39 profI; rw [res_eq]
  by_cases h0 : firstI [rangeI r 1 64, whenI (decide ((l.length : Int) > r)) 5] = 0
  · rw [if_pos h0, ← F39_loop l hl r l.length 0 (by omega) (by omega)]
    simp only [B39, F73_eq, F43_eq, F42_2, sem_bind_some, sem_sees, sem_br, sem_nxt, h0, bne_self_eq_false, Bool.false_eq_true, if_false, stepO_nxt]
    rfl
  · have h0' : (firstI [rangeI r 1 64, whenI (decide ((l.length : Int) > r)) 5] != 0) = true := by simpa using h0
    rw [if_neg h0]
    simp only [B39, F73_eq, F43_eq, F42_2, sem_bind_some, sem_sees, sem_br, sem_ret, h0', if_true, stepO_ret]
theorem F10_loop (l : List E5) (hl : l.length ≤ 1000) (r : Int) : ∀ (k i : Nat), l.length = i + k → (0 < i → entE (at5 l (i - 1)) = 0) → res B10 (.c1 (i : Int) r l.length (l.flatMap eE)) = some (scan l k i)
  | 0, i, hk, _ => by
    rw [res_eq]
    have : ¬ ((i : Int) < (l.length : Int)) := by omega
    simp only [B10, sem_br, sem_ret, this, decide_false, Bool.false_eq_true, if_false, stepO_ret, scan]
  | k + 1, i, hk, hprev => by
    have hi : i < l.length := by omega
    have h1 : (i : Int) < (l.length : Int) := by omega
    have hin : inI64 ((i : Int) + 1) := by unfold inI64; omega
    have A := ent_at hi
    have next (h0 : errAt l i = 0) : res B10 (.c1 ((i : Int) + 1) r l.length (l.flatMap eE)) = some (scan l (k + 1) i) := by
      have ih := F10_loop l hl r k (i + 1) (by omega) (fun _ => by simpa using errAt_ent h0)
      simp only [scan, h0, if_true]
      exact ih
    have eE' : entI (at5 l i).1 (at5 l i).2.1 (at5 l i).2.2.1 (at5 l i).2.2.2.1 (at5 l i).2.2.2.2 = entE (at5 l i) := rfl
    rw [res_eq]
    by_cases he : entE (at5 l i) = 0
    · by_cases hz : i = 0
      · subst hz
        have h0 : errAt l 0 = 0 := by unfold errAt; simp [firstI, he]
        have nx := next h0
        simp only [B10, sem_br, sem_ask, sem_bind_some, sem_sees, sem_ret, sem_nxt, PC.holds, need_true, Int.toNat_natCast, A.c0, A.c1, A.c2, A.c3, A.c4, A.le, A.rm, A.row, map_eE, h1, hin, F49_eq, eE', he, bne_self_eq_false, decide_true, if_true, Int.natCast_nonneg, show ¬ ((0 : Nat) : Int) > 0 by omega, decide_false, Bool.false_eq_true, if_false, stepO_nxt]
        exact nx
      · have hp : i - 1 < l.length := by omega
        have P := ent_at hp
        have hpe := hprev (by omega)
        have g0 : (i : Int) > 0 := by omega
        have g1 : ((i : Int) - 1) = ((i - 1 : Nat) : Int) := by omega
        have g2 : inI64 ((i - 1 : Nat) : Int) := by unfold inI64; omega
        have g3 : ((i - 1 : Nat) : Int) < (l.length : Int) := by omega
        have hE : errAt l i = whenI (!fol (at5 l i) (at5 l (i - 1))) 11 := by unfold errAt; rw [if_neg hz]; simp [firstI, he]; intro h; exact h.symm
        by_cases hf : fol (at5 l i) (at5 l (i - 1)) = true
        · have h0 : errAt l i = 0 := by rw [hE, hf]; rfl
          have nx := next h0
          simp only [B10, sem_br, sem_ask, sem_bind_some, sem_sees, sem_triv, sem_ret, sem_nxt, PC.holds, need_true, g1, Int.toNat_natCast, A.c0, A.c1, A.c2, A.c3, A.c4, A.le, A.rm, A.row, P.c0, P.c1, P.c2, P.c3, P.c4, P.le, P.rm, P.row, map_eE, h1, hin, g0, g2, g3, F49_eq, F50_eq _ _ hpe, eE', he, hf, bne_self_eq_false, Bool.not_true, decide_true, if_true, Int.natCast_nonneg, Bool.false_eq_true, if_false, stepO_nxt, ite_self]
          exact nx
        · have hf' : fol (at5 l i) (at5 l (i - 1)) = false := by simpa using hf
          have h0 : errAt l i = 11 := by rw [hE, hf']; rfl
          simp only [B10, sem_br, sem_ask, sem_bind_some, sem_sees, sem_triv, sem_ret, sem_nxt, PC.holds, need_true, g1, Int.toNat_natCast, A.c0, A.c1, A.c2, A.c3, A.c4, A.le, A.rm, A.row, P.c0, P.c1, P.c2, P.c3, P.c4, P.le, P.rm, P.row, map_eE, h1, hin, g0, g2, g3, F49_eq, F50_eq _ _ hpe, eE', he, hf', bne_self_eq_false, Bool.not_false, decide_true, if_true, Int.natCast_nonneg, Bool.false_eq_true, if_false, stepO_ret, ite_self, scan, h0]
          rfl
    · have he' : (entE (at5 l i) != 0) = true := by simpa using he
      have h0 : errAt l i = entE (at5 l i) := by unfold errAt; simp only [firstI, if_neg he]
      simp only [B10, sem_br, sem_ask, sem_bind_some, sem_sees, sem_ret, PC.holds, need_true, Int.toNat_natCast, A.c0, A.c1, A.c2, A.c3, A.c4, A.le, A.rm, A.row, map_eE, h1, F49_eq, eE', he', decide_true, if_true, Int.natCast_nonneg, stepO_ret, scan, h0, if_neg he]
theorem F10_eq (r : Int) (l : List E5) (hl : l.length ≤ 1000) : F10 r l.length (l.flatMap eE) = some (profI r l) := by
  unfold F10 profI; rw [res_eq]
  by_cases h0 : firstI [rangeI r 1 64, whenI (decide ((l.length : Int) > r)) 5] = 0
  · rw [if_pos h0, ← F10_loop l hl r l.length 0 (by omega) (by omega)]
    simp only [B10, F47_eq, F48_eq, F46_2, sem_bind_some, sem_sees, sem_br, sem_nxt, h0, bne_self_eq_false, Bool.false_eq_true, if_false, stepO_nxt]
    rfl
  · have h0' : (firstI [rangeI r 1 64, whenI (decide ((l.length : Int) > r)) 5] != 0) = true := by simpa using h0
    rw [if_neg h0]
    simp only [B10, F47_eq, F48_eq, F46_2, sem_bind_some, sem_sees, sem_br, sem_ret, h0', if_true, stepO_ret]
theorem scan_zero {l : List E5} : ∀ {k i : Nat}, scan l k i = 0 → ∀ j, i ≤ j → j < i + k → errAt l j = 0
  | 0, i, _, j, h1, h2 => by omega
  | k + 1, i, h, j, h1, h2 => by
    simp only [scan] at h
    split at h
    · rename_i h0
      by_cases hj : j = i
      · subst hj; exact h0
      · exact scan_zero h j (by omega) (by omega)
    · contradiction
theorem prof_zero {r : Int} {l : List E5} (h : profI r l = 0) : (1 ≤ r ∧ r ≤ 64) ∧ (l.length : Int) ≤ r ∧ ∀ j, j < l.length → entE (at5 l j) = 0 := by
  unfold profI at h
  split at h
  · rename_i h0
    obtain ⟨a1, a2⟩ := firstI_zero .. |>.1 h0
    obtain ⟨a2, _⟩ := firstI_zero .. |>.1 a2
    refine ⟨rangeI_zero.1 a1, ?_, fun j hj => errAt_ent (scan_zero h j (Nat.zero_le _) (by omega))⟩
    unfold whenI at a2
    by_cases hx : (l.length : Int) > r
    · simp [hx] at a2
    · omega
  · contradiction
/-- At most 12 entries, or one too many. -/
def shortI (l : List E5) : Bool := if decide ((l.length : Int) ≤ 12) = true then true else (l.length : Int) == 65
theorem F5_eq (r : Int) (l : List E5) : F5 r l.length (l.flatMap eE) = some (shortI l) := by
  unfold F5; rw [res_eq]
  have : F21 l.length (l.flatMap eE) = some (shortI l) := by
    unfold F21; rw [res_eq]
    simp only [B21, sem_triv, sem_ret, stepO_ret]
    rfl
  simp only [B5, this, sem_bind_some, sem_sees, sem_ret, stepO_ret]
theorem short_le {l : List E5} (h : shortI l = true) : l.length ≤ 65 := by
  unfold shortI at h
  split at h
  · rename_i hx; simp at hx; omega
  · simp at h; omega
end Go.Kv
