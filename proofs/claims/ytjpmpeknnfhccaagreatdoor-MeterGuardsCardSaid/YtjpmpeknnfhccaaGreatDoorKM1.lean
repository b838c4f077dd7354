import Derived.Test.YtjpmpeknnfhccaaGreatDoorGG19
namespace Go.Kv
set_option linter.unusedVariables false
set_option linter.unusedSimpArgs false
open Go Go.RowKit Go.Proofs
set_option maxRecDepth 100000
section
open Go Go.RowKit
def firstI : List Int → Int
  | [] => 0
  | x :: xs => if x = 0 then firstI xs else x
def whenI (b : Bool) (e : Int) : Int := if b then e else 0
def rangeI (n a b : Int) : Int := if n < a ∨ n > b then 3 else 0
theorem dI_cel_map (l : List Int) (i : Nat) : dI (cel (l.map vI) i) = l.getD i 0 := by
  unfold cel
  simp only [List.getD_eq_getElem?_getD, List.getElem?_map]
  cases l[i]? <;> rfl
theorem at_map {l : List Int} {i : Nat} (h : i < l.length) : Option.map AV.d (List.drop i (l.map vI))[0]? = some (AV.d (vI (l.getD i 0))) := by
  simp [List.getElem?_drop, h, List.getD_eq_getElem?_getD]
theorem firstI_drop {l : List Int} {i : Nat} (h : i < l.length) : firstI (l.drop i) = if l.getD i 0 = 0 then firstI (l.drop (i + 1)) else l.getD i 0 := by
  rw [List.drop_eq_getElem_cons h]
  simp [firstI, List.getD_eq_getElem?_getD, h]
theorem F42_loop (l : List Int) (hl : l.length ≤ 4611686018427387904) : ∀ (k i : Nat), l.length = i + k → res B42 (.c1 l.length (l.map vI) (l.length : Int) (i : Int)) = some (firstI (l.drop i))
  | 0, i, hk => by
    rw [List.drop_eq_nil_of_le (by omega), res_eq]
    have : ¬ ((i : Int) < (l.length : Int)) := by omega
    simp [B42, sem_br, sem_ret, this, stepO_ret, stepO_nxt, firstI]
  | k + 1, i, hk => by
    have hi : i < l.length := by omega
    have h1 : (i : Int) < (l.length : Int) := by omega
    have ih := F42_loop l hl k (i + 1) (by omega)
    have hin : inI64 ((i : Int) + 1) := by unfold inI64; omega
    rw [firstI_drop hi, res_eq]
    simp only [B42, sem_br, sem_ask, sem_ret, sem_nxt, PC.holds, need_true, Int.toNat_natCast, Nat.mul_one, dI_cel_map, at_map hi, h1, hin, decide_true, if_true, Int.natCast_nonneg, List.length_map, Nat.le_of_lt hi]
    by_cases h0 : l.getD i 0 = 0
    · simp only [h0, bne_self_eq_false, if_true, Bool.false_eq_true, if_false, stepO_ret, stepO_nxt]
      rw [← ih]; rfl
    · simp only [h0, if_false, bne_iff_ne, ne_eq, not_false_eq_true, if_true, stepO_ret, stepO_nxt]
theorem F42_eq (l : List Int) (hl : l.length ≤ 4611686018427387904) : F42 l.length (l.map vI) = some (firstI l) := by
  unfold F42
  rw [res_eq]
  simp only [B42, sem_nxt, stepO_nxt]
  exact F42_loop l hl l.length 0 (by omega)
theorem F42_2 (a b : Int) : F42 2 [vI a, vI b] = some (firstI [a, b]) := F42_eq [a, b] (by simp)
theorem F42_3 (a b c : Int) : F42 3 [vI a, vI b, vI c] = some (firstI [a, b, c]) := F42_eq [a, b, c] (by simp)
theorem F42_4 (a b c d : Int) : F42 4 [vI a, vI b, vI c, vI d] = some (firstI [a, b, c, d]) := F42_eq [a, b, c, d] (by simp)
theorem F43_eq (b : Bool) (e : Int) : F43 b e = some (whenI b e) := by
  unfold F43; rw [res_eq]; cases b <;> simp [B43, sem_br, sem_ret, stepO_ret, stepO_nxt, whenI]
theorem whenI_or (n a b e : Int) : whenI (if decide (n < a) = true then true else decide (n > b)) e = if n < a ∨ n > b then e else 0 := by
  unfold whenI
  by_cases h1 : n < a <;> by_cases h2 : n > b <;> simp [h1, h2]
theorem F73_eq (n a b : Int) : F73 n a b = some (rangeI n a b) := by
  unfold F73; rw [res_eq]
  simp only [B73, sem_triv, F43_eq, sem_bind_some, sem_sees, sem_ret, stepO_ret, stepO_nxt, whenI_or, rangeI]
theorem firstI_zero (x : Int) (l : List Int) : firstI (x :: l) = 0 ↔ x = 0 ∧ firstI l = 0 := by
  show (if x = 0 then firstI l else x) = 0 ↔ _
  by_cases h : x = 0 <;> simp [h]
theorem rangeI_zero {n a b : Int} : rangeI n a b = 0 ↔ a ≤ n ∧ n ≤ b := by
  unfold rangeI; split <;> omega
end
section
open Go Go.RowKit
section
variable {E : Type} {enc : E → List DV} {m : Nat}
theorem fm_len (h : ∀ x, (enc x).length = m) : ∀ l : List E, (l.flatMap enc).length = l.length * m
  | [] => by simp
  | x :: l => by
    have := fm_len h l
    simp only [List.flatMap_cons, List.length_append, h x, this, List.length_cons]
    rw [Nat.add_mul]; omega
theorem fm_drop (h : ∀ x, (enc x).length = m) : ∀ (i : Nat) (l : List E), (l.flatMap enc).drop (i * m) = (l.drop i).flatMap enc
  | 0, l => by simp
  | i + 1, [] => by simp
  | i + 1, x :: l => by
    have := fm_drop h i l
    have e : (i + 1) * m = (enc x).length + i * m := by rw [Nat.add_mul, h x]; omega
    rw [List.flatMap_cons, e, List.drop_append, List.drop_of_length_le (by omega)]
    simpa using this
theorem fm_take (h : ∀ x, (enc x).length = m) : ∀ (i : Nat) (l : List E), (l.flatMap enc).take (i * m) = (l.take i).flatMap enc
  | 0, l => by simp
  | i + 1, [] => by simp
  | i + 1, x :: l => by
    have := fm_take h i l
    have e : (i + 1) * m = (enc x).length + i * m := by rw [Nat.add_mul, h x]; omega
    rw [List.flatMap_cons, e, List.take_append, List.take_of_length_le (by omega)]
    simp [this]
theorem fm_cel (h : ∀ x, (enc x).length = m) {l : List E} {i k : Nat} (hi : i < l.length) (hk : k < m) : cel (l.flatMap enc) (i * m + k) = cel (enc l[i]) k := by
  unfold cel
  have h1 : (l.flatMap enc).getD (i * m + k) (.v .nilIface) = ((l.flatMap enc).drop (i * m)).getD k (.v .nilIface) := by
    simp [List.getD_eq_getElem?_getD, List.getElem?_drop]
  rw [h1, fm_drop h, List.drop_eq_getElem_cons hi, List.flatMap_cons]
  rw [List.getD_eq_getElem?_getD, List.getD_eq_getElem?_getD, List.getElem?_append_left (by rw [h]; exact hk)]
theorem fm_at (h : ∀ x, (enc x).length = m) {l : List E} {i : Nat} (hi : i < l.length) : ((l.flatMap enc).drop (i * m)).take m = enc l[i] := by
  rw [fm_drop h, List.drop_eq_getElem_cons hi, List.flatMap_cons, List.take_append_of_le_length (by rw [h]; exact Nat.le_refl _), List.take_of_length_le (by rw [h]; exact Nat.le_refl _)]
theorem fm_room (h : ∀ x, (enc x).length = m) {l : List E} {i : Nat} (hi : i < l.length) : i * m ≤ (l.flatMap enc).length ∧ m ≤ ((l.flatMap enc).drop (i * m)).length := by
  rw [fm_drop h, fm_len h, fm_len h, List.length_drop]
  have h1 : (l.length - i) * m ≥ 1 * m := Nat.mul_le_mul_right _ (by omega)
  have h2 : i * m ≤ l.length * m := Nat.mul_le_mul_right _ (by omega)
  omega
end
end
section
open Go Go.RowKit
def entI (a b c d m : Int) : Int := firstI [rangeI a 0 999999999, rangeI b 0 100000000, rangeI c 0 999999, rangeI d 0 999999, rangeI m 0 7]
theorem F42_5 (a b c d e : Int) : F42 5 [vI a, vI b, vI c, vI d, vI e] = some (firstI [a, b, c, d, e]) := F42_eq [a, b, c, d, e] (by simp)
theorem F54_eq (a b c d m : Int) : F54 a b c d m = some (entI a b c d m) := by
  unfold F54; rw [res_eq]
  simp only [B54, F73_eq, F42_5, sem_bind_some, sem_sees, sem_ret, stepO_ret, entI]
theorem entI_zero {a b c d m : Int} : entI a b c d m = 0 ↔ (0 ≤ a ∧ a ≤ 999999999) ∧ (0 ≤ b ∧ b ≤ 100000000) ∧ (0 ≤ c ∧ c ≤ 999999) ∧ (0 ≤ d ∧ d ≤ 999999) ∧ (0 ≤ m ∧ m ≤ 7) := by
  unfold entI
  simp only [firstI_zero, rangeI_zero, show firstI [] = 0 from rfl, and_true]
end
section
open Go Go.RowKit
abbrev E5 : Type := Int × Int × Int × Int × Int
def eE (x : E5) : List DV := [vI x.1, vI x.2.1, vI x.2.2.1, vI x.2.2.2.1, vI x.2.2.2.2]
theorem eE_len (x : E5) : (eE x).length = 5 := rfl
def entE (x : E5) : Int := entI x.1 x.2.1 x.2.2.1 x.2.2.2.1 x.2.2.2.2
def at5 (l : List E5) (i : Nat) : E5 := l.getD i (0, 0, 0, 0, 0)
theorem at5_get {l : List E5} {i : Nat} (hi : i < l.length) : at5 l i = l[i] := by simp [at5, List.getD_eq_getElem?_getD, hi]
structure At5 (L : List DV) (x : E5) (i : Nat) : Prop where
  c0 : dI (cel L (i * 5)) = x.1
  c1 : dI (cel L (i * 5 + 1)) = x.2.1
  c2 : dI (cel L (i * 5 + 2)) = x.2.2.1
  c3 : dI (cel L (i * 5 + 3)) = x.2.2.2.1
  c4 : dI (cel L (i * 5 + 4)) = x.2.2.2.2
  le : i * 5 ≤ L.length
  rm : 5 ≤ (L.drop (i * 5)).length
  row : (L.drop (i * 5)).take 5 = eE x
theorem ent_at {l : List E5} {i : Nat} (hi : i < l.length) : At5 (l.flatMap eE) (at5 l i) i := by
  have hk (k : Nat) (h : k < 5) := fm_cel (enc := eE) eE_len hi h
  obtain ⟨r1, r2⟩ := fm_room (enc := eE) eE_len hi
  rw [at5_get hi]
  refine ⟨?_, ?_, ?_, ?_, ?_, r1, r2, fm_at eE_len hi⟩
  · have := hk 0 (by decide); rw [Nat.add_zero] at this; rw [this]; rfl
  · rw [hk 1 (by decide)]; rfl
  · rw [hk 2 (by decide)]; rfl
  · rw [hk 3 (by decide)]; rfl
  · rw [hk 4 (by decide)]; rfl
theorem map_eE (x : E5) : (eE x).map AV.d = [AV.d (DV.v (Value.int IntKind.i64 x.1)), AV.d (DV.v (Value.int IntKind.i64 x.2.1)), AV.d (DV.v (Value.int IntKind.i64 x.2.2.1)), AV.d (DV.v (Value.int IntKind.i64 x.2.2.2.1)), AV.d (DV.v (Value.int IntKind.i64 x.2.2.2.2))] := rfl
theorem take_snoc {l : List E5} {i : Nat} (hi : i < l.length) : (l.take (i + 1)).flatMap eE = (l.take i).flatMap eE ++ eE (at5 l i) := by
  rw [List.take_add_one, at5_get hi, List.getElem?_eq_getElem hi, List.flatMap_append]
  simp only [Option.toList, List.flatMap_cons, List.flatMap_nil, List.append_nil]
theorem F18_c2 (l : List E5) (hl : l.length ≤ 1000) : ∀ (k i e : Nat), l.length = i + k → res B18 (.c2 e i ((l.take i).flatMap eE) l.length (l.flatMap eE) (l.length : Int) (i : Int) e) = some (l.length, l.flatMap eE)
  | 0, i, e, hk => by
    rw [res_eq]
    have : ¬ ((i : Int) < (l.length : Int)) := by omega
    have h2 : i = l.length := by omega
    subst h2
    simp only [B18, sem_br, sem_ret, this, decide_false, Bool.false_eq_true, if_false, stepO_ret, List.take_length]
  | k + 1, i, e, hk => by
    have hi : i < l.length := by omega
    have h1 : (i : Int) < (l.length : Int) := by omega
    have ih := F18_c2 l hl k (i + 1) (e + 1) (by omega)
    have hin : inI64 ((i : Int) + 1) := by unfold inI64; omega
    have hf : fitsN (i + 1) 40 := by unfold fitsN; omega
    have A := ent_at hi
    rw [take_snoc hi] at ih
    rw [res_eq]
    simp only [B18, sem_br, sem_ask, sem_nxt, PC.holds, need_true, Int.toNat_natCast, A.c0, A.c1, A.c2, A.c3, A.c4, A.le, A.rm, A.row, map_eE, h1, hin, hf, decide_true, if_true, Int.natCast_nonneg, stepO_nxt]
    exact ih
theorem F18_eq (l : List E5) (hl : l.length ≤ 1000) : F18 l.length (l.flatMap eE) = some (l.length, l.flatMap eE) := by
  unfold F18; rw [res_eq]
  simp only [B18, sem_nxt, stepO_nxt]
  rw [res_eq]
  by_cases h0 : l = []
  · subst h0; rfl
  · have hi : 0 < l.length := List.length_pos_iff.2 h0
    have h1 : (0 : Int) < (l.length : Int) := by omega
    have hin : inI64 ((0 : Int) + 1) := by unfold inI64; omega
    have A := ent_at hi
    have ih := F18_c2 l hl (l.length - 1) 1 0 (by omega)
    rw [take_snoc hi] at ih
    simp only [B18, sem_br, sem_ask, sem_nxt, PC.holds, need_true, Int.toNat_zero, A.c0, A.c1, A.c2, A.c3, A.c4, A.le, A.rm, A.row, map_eE, h1, hin, decide_true, if_true, Int.le_refl, stepO_nxt]
    exact ih
theorem F8_eq (r : Int) (l : List E5) (hl : l.length ≤ 1000) : F8 r l.length (l.flatMap eE) = some (r, l.length, l.flatMap eE) := by
  unfold F8; rw [res_eq]
  simp only [B8, F18_eq l hl, sem_bind_some, sem_sees, sem_ret, stepO_ret]
theorem F30_c2 (l : List E5) (hl : l.length ≤ 1000) : ∀ (k i e : Nat), l.length = i + k → res B30 (.c2 e i ((l.take i).flatMap eE) l.length (l.flatMap eE) (l.length : Int) (i : Int) e) = some (l.length, l.flatMap eE)
  | 0, i, e, hk => by
    rw [res_eq]
    have : ¬ ((i : Int) < (l.length : Int)) := by omega
    have h2 : i = l.length := by omega
    subst h2
    simp only [B30, sem_br, sem_ret, this, decide_false, Bool.false_eq_true, if_false, stepO_ret, List.take_length]
  | k + 1, i, e, hk => by
    have hi : i < l.length := by omega
    have h1 : (i : Int) < (l.length : Int) := by omega
    have ih := F30_c2 l hl k (i + 1) (e + 1) (by omega)
    have hin : inI64 ((i : Int) + 1) := by unfold inI64; omega
    have hf : fitsN (i + 1) 40 := by unfold fitsN; omega
    have A := ent_at hi
    rw [take_snoc hi] at ih
    rw [res_eq]
    simp only [B30, sem_br, sem_ask, sem_nxt, PC.holds, need_true, Int.toNat_natCast, A.c0, A.c1, A.c2, A.c3, A.c4, A.le, A.rm, A.row, map_eE, h1, hin, hf, decide_true, if_true, Int.natCast_nonneg, stepO_nxt]
    exact ih
theorem F30_eq (l : List E5) (hl : l.length ≤ 1000) : F30 l.length (l.flatMap eE) = some (l.length, l.flatMap eE) := by
  unfold F30; rw [res_eq]
  simp only [B30, sem_nxt, stepO_nxt]
  rw [res_eq]
  by_cases h0 : l = []
  · subst h0; rfl
  · have hi : 0 < l.length := List.length_pos_iff.2 h0
    have h1 : (0 : Int) < (l.length : Int) := by omega
    have hin : inI64 ((0 : Int) + 1) := by unfold inI64; omega
    have A := ent_at hi
    have ih := F30_c2 l hl (l.length - 1) 1 0 (by omega)
    rw [take_snoc hi] at ih
    simp only [B30, sem_br, sem_ask, sem_nxt, PC.holds, need_true, Int.toNat_zero, A.c0, A.c1, A.c2, A.c3, A.c4, A.le, A.rm, A.row, map_eE, h1, hin, decide_true, if_true, Int.le_refl, stepO_nxt]
    exact ih
theorem F29_loop (l : List E5) (hl : l.length ≤ 1000) : ∀ (k i : Nat), l.length = i + k → res B29 (.c1 l.length (l.flatMap eE) l.length (l.flatMap eE) (i : Int)) = some true
  | 0, i, hk => by
    rw [res_eq]
    have : ¬ ((i : Int) < (l.length : Int)) := by omega
    simp only [B29, sem_br, sem_ret, this, decide_false, Bool.false_eq_true, if_false, stepO_ret]
  | k + 1, i, hk => by
    have hi : i < l.length := by omega
    have h1 : (i : Int) < (l.length : Int) := by omega
    have ih := F29_loop l hl k (i + 1) (by omega)
    have hin : inI64 ((i : Int) + 1) := by unfold inI64; omega
    have A := ent_at hi
    rw [res_eq]
    simp only [B29, sem_br, sem_ask, sem_nxt, PC.holds, need_true, Int.toNat_natCast, A.c0, A.c1, A.c2, A.c3, A.c4, A.le, A.rm, A.row, map_eE, h1, hin, decide_true, if_true, Int.natCast_nonneg, stepO_nxt, beq_self_eq_true, Bool.and_true, Bool.not_true, Bool.false_eq_true, if_false]
    exact ih
theorem F29_same (l : List E5) (hl : l.length ≤ 1000) : F29 l.length (l.flatMap eE) l.length (l.flatMap eE) = some true := by
  unfold F29; rw [res_eq]
  simp only [B29, sem_br, sem_nxt, bne_self_eq_false, Bool.false_eq_true, if_false, stepO_nxt]
  exact F29_loop l hl l.length 0 (by omega)
theorem F29_nil : F29 0 [] 0 [] = some true := F29_same [] (by simp)
theorem F30_nil : F30 0 [] = some (0, []) := F30_eq [] (by simp)
def fol (x p : E5) : Bool := if x.1 == p.1 + 1 then decide (x.2.1 > p.2.1) else false
theorem F71_eq (x p : E5) (h : entE p = 0) : F71 x.1 x.2.1 x.2.2.1 x.2.2.2.1 x.2.2.2.2 p.1 p.2.1 p.2.2.1 p.2.2.2.1 p.2.2.2.2 = some (fol x p) := by
  obtain ⟨⟨h1, h2⟩, _⟩ := entI_zero.1 h
  have e : inI64 (p.1 + 1) := by unfold inI64; omega
  unfold F71 fol; rw [res_eq]
  simp only [B71, sem_ask, sem_br, PC.holds, e, need_true, sem_ret]
  split <;> rfl
def errAt (l : List E5) (i : Nat) : Int := firstI [entE (at5 l i), if i = 0 then 0 else whenI (!fol (at5 l i) (at5 l (i - 1))) 11]
def scan (l : List E5) : Nat → Nat → Int
  | 0, _ => 0
  | k + 1, i => if errAt l i = 0 then scan l k (i + 1) else errAt l i
def profI (r : Int) (l : List E5) : Int := if firstI [rangeI r 1 64, whenI (decide ((l.length : Int) > r)) 5] = 0 then scan l l.length 0 else firstI [rangeI r 1 64, whenI (decide ((l.length : Int) > r)) 5]
theorem errAt_ent {l : List E5} {i : Nat} (h : errAt l i = 0) : entE (at5 l i) = 0 := (firstI_zero .. |>.1 h).1
theorem F39_loop (l : List E5) (hl : l.length ≤ 1000) (r : Int) : ∀ (k i : Nat), l.length = i + k → (0 < i → entE (at5 l (i - 1)) = 0) → res B39 (.c1 l.length (l.flatMap eE) (l.length : Int) (i : Int) r) = some (scan l k i)
  | 0, i, hk, _ => by
    rw [res_eq]
    have : ¬ ((i : Int) < (l.length : Int)) := by omega
    simp only [B39, sem_br, sem_ret, this, decide_false, Bool.false_eq_true, if_false, stepO_ret, scan]
  | k + 1, i, hk, hprev => by
    have hi : i < l.length := by omega
    have h1 : (i : Int) < (l.length : Int) := by omega
    have hin : inI64 ((i : Int) + 1) := by unfold inI64; omega
    have A := ent_at hi
    have key : ∀ e, e = errAt l i → stepO (res B39) (if (e != 0) = true then some (Sum.inr e) else some (.inl (S39.c1 l.length (l.flatMap eE) (l.length : Int) ((i : Int) + 1) r))) = some (scan l (k + 1) i) := by
      intro e he
      subst he
      by_cases h0 : errAt l i = 0
      · have ih := F39_loop l hl r k (i + 1) (by omega) (fun _ => by simpa using errAt_ent h0)
        rw [h0]
        simp only [bne_self_eq_false, Bool.false_eq_true, if_false, stepO_nxt, scan, h0, if_true]
        exact ih
      · have h0' : (errAt l i != 0) = true := by simpa using h0
        simp only [h0', if_true, stepO_ret, scan, if_neg h0]
    rw [res_eq]
    by_cases hz : i = 0
    · subst hz
      have hE : firstI [entE (at5 l 0), whenI false 11] = errAt l 0 := rfl
      have k0 := key _ rfl
      simp only [B39, sem_br, sem_ask, sem_bind_some, sem_sees, sem_ret, sem_nxt, PC.holds, need_true, Int.toNat_natCast, A.c0, A.c1, A.c2, A.c3, A.c4, A.le, A.rm, A.row, map_eE, h1, hin, F54_eq, F43_eq, F42_2, decide_true, if_true, Int.natCast_nonneg, show ¬ ((0 : Nat) : Int) > 0 by omega, decide_false, Bool.false_eq_true, if_false, show entI (at5 l 0).1 (at5 l 0).2.1 (at5 l 0).2.2.1 (at5 l 0).2.2.2.1 (at5 l 0).2.2.2.2 = entE (at5 l 0) from rfl, hE]
      exact k0
    · have hp : i - 1 < l.length := by omega
      have P := ent_at hp
      have hpe := hprev (by omega)
      have g0 : (i : Int) > 0 := by omega
      have g1 : (if (i : Int) - 1 > 0 then (i : Int) - 1 else 0) = ((i - 1 : Nat) : Int) := by split <;> omega
      have g2 : inI64 ((i : Int) - 1) := by unfold inI64; omega
      have g3 : ((i - 1 : Nat) : Int) < (l.length : Int) := by omega
      have hE : firstI [entE (at5 l i), whenI (!fol (at5 l i) (at5 l (i - 1))) 11] = errAt l i := by unfold errAt; rw [if_neg hz]
      have k0 := key _ rfl
      simp only [B39, sem_br, sem_ask, sem_bind_some, sem_sees, sem_ret, sem_nxt, PC.holds, need_true, g1, Int.toNat_natCast, A.c0, A.c1, A.c2, A.c3, A.c4, A.le, A.rm, A.row, P.c0, P.c1, P.c2, P.c3, P.c4, P.le, P.rm, P.row, map_eE, h1, hin, g0, g2, g3, F54_eq, F43_eq, F42_2, F71_eq _ _ hpe, beq_self_eq_true, decide_true, if_true, Int.natCast_nonneg, show entI (at5 l i).1 (at5 l i).2.1 (at5 l i).2.2.1 (at5 l i).2.2.2.1 (at5 l i).2.2.2.2 = entE (at5 l i) from rfl, hE]
      exact k0
theorem F39_eq (r : Int) (l : List E5) (hl : l.length ≤ 1000) : F39 r l.length (l.flatMap eE) = some (profI r l) := by
  unfold F39 profI; rw [res_eq]
  by_cases h0 : firstI [rangeI r 1 64, whenI (decide ((l.length : Int) > r)) 5] = 0
  · rw [if_pos h0, ← F39_loop l hl r l.length 0 (by omega) (by omega)]
    simp only [B39, F73_eq, F43_eq, F42_2, sem_bind_some, sem_sees, sem_br, sem_nxt, h0, bne_self_eq_false, Bool.false_eq_true, if_false, stepO_nxt]
    rfl
  · have h0' : (firstI [rangeI r 1 64, whenI (decide ((l.length : Int) > r)) 5] != 0) = true := by simpa using h0
    rw [if_neg h0]
    simp only [B39, F73_eq, F43_eq, F42_2, sem_bind_some, sem_sees, sem_br, sem_ret, h0', if_true, stepO_ret]
theorem scan_zero {l : List E5} : ∀ {k i : Nat}, scan l k i = 0 → ∀ j, i ≤ j → j < i + k → errAt l j = 0
  | 0, i, _, j, h1, h2 => by omega
  | k + 1, i, h, j, h1, h2 => by
    simp only [scan] at h
    split at h
    · rename_i h0
      by_cases hj : j = i
      · subst hj; exact h0
      · exact scan_zero h j (by omega) (by omega)
    · contradiction
theorem prof_zero {r : Int} {l : List E5} (h : profI r l = 0) : (1 ≤ r ∧ r ≤ 64) ∧ (l.length : Int) ≤ r ∧ ∀ j, j < l.length → entE (at5 l j) = 0 := by
  unfold profI at h
  split at h
  · rename_i h0
    obtain ⟨a1, a2⟩ := firstI_zero .. |>.1 h0
    obtain ⟨a2, _⟩ := firstI_zero .. |>.1 a2
    refine ⟨rangeI_zero.1 a1, ?_, fun j hj => errAt_ent (scan_zero h j (Nat.zero_le _) (by omega))⟩
    unfold whenI at a2
    by_cases hx : (l.length : Int) > r
    · simp [hx] at a2
    · omega
  · contradiction
def shortI (l : List E5) : Bool := if decide ((l.length : Int) ≤ 12) = true then true else (l.length : Int) == 65
theorem F5_eq (r : Int) (l : List E5) : F5 r l.length (l.flatMap eE) = some (shortI l) := by
  unfold F5; rw [res_eq]
  have : F21 l.length (l.flatMap eE) = some (shortI l) := by
    unfold F21; rw [res_eq]
    simp only [B21, sem_triv, sem_ret, stepO_ret]
    rfl
  simp only [B5, this, sem_bind_some, sem_sees, sem_ret, stepO_ret]
theorem short_le {l : List E5} (h : shortI l = true) : l.length ≤ 65 := by
  unfold shortI at h
  split at h
  · rename_i hx; simp at hx; omega
  · simp at h; omega
end
section
open Go Go.RowKit
def sl5 (l : List E5) : Nat × List DV := (l.length, l.flatMap eE)
def spE (f t : Int) : Int := if f < 0 ∨ f > t then 14 else 0
def rdI (l : List E5) (f t : Int) : List E5 × Int :=
  if spE f t ≠ 0 then ([], 14) else if f = t then ([], 0) else if (l.length : Int) = 0 then ([], 7) else
  if f < (at5 l 0).1 then ([], 35) else if t > (at5 l 0).1 + (l.length : Int) then ([], 7) else
  ((l.drop (f - (at5 l 0).1).toNat).take ((t - (at5 l 0).1).toNat - (f - (at5 l 0).1).toNat), 0)
theorem rd_len (l : List E5) (f t : Int) : (rdI l f t).1.length ≤ l.length := by
  unfold rdI
  repeat' split
  all_goals simp
  all_goals omega
section
variable {l : List E5}
theorem first_at (h : 0 < l.length) : dI (cel (List.drop 0 (l.flatMap eE)) 0) = (at5 l 0).1 := by
  have := (ent_at h).c0
  rw [Nat.zero_mul] at this
  exact this
theorem first_ask (h : 0 < l.length) : Option.map AV.d (List.drop 0 (List.drop 0 (l.flatMap eE)))[0]? = some (AV.d (DV.v (Value.int IntKind.i64 (at5 l 0).1))) := by
  have := fm_at (enc := eE) eE_len h
  rw [Nat.zero_mul, ← at5_get h] at this
  have h2 : (l.flatMap eE)[0]? = ((l.flatMap eE).take 5)[0]? := by rw [List.getElem?_take]; simp
  simp only [List.drop_zero] at this ⊢
  rw [h2, this]; rfl
end
theorem sub_sl (l : List E5) (i n : Nat) (h : i + n ≤ l.length) : ((l.drop i).take n).length = n ∧ List.take (n * 5) (List.drop (i * 5) (l.flatMap eE)) = ((l.drop i).take n).flatMap eE := by
  refine ⟨by simp; omega, ?_⟩
  rw [fm_drop eE_len, fm_take eE_len]
def readE (r f t : Int) (l : List E5) : Int := firstI [profI r l, spE f t]
def imp (l : List E5) (i : Nat) : Int := (at5 l i).2.2.1
def sumI (l : List E5) (i : Nat) : Nat → Int
  | 0 => 0
  | n + 1 => sumI l i n + imp l (i + n)
def great (l : List E5) (w : Nat) : Nat → Nat → Int → Int → Int × Int
  | 0, _, b, n => (b, n)
  | k + 1, i, b, n => if sumI l i w > b then great l w k (i + 1) (sumI l i w) (at5 l i).1 else great l w k (i + 1) b n
theorem sum_bd {l : List E5} (h : ∀ j, j < l.length → entE (at5 l j) = 0) (i : Nat) : ∀ n, i + n ≤ l.length → 0 ≤ sumI l i n ∧ sumI l i n ≤ n * 999999
  | 0, _ => by simp [sumI]
  | n + 1, hn => by
    obtain ⟨h1, h2⟩ := sum_bd h i n (by omega)
    obtain ⟨_, _, ⟨h3, h4⟩, _⟩ := entI_zero.1 (h (i + n) (by omega))
    have e : sumI l i (n + 1) = sumI l i n + (at5 l (i + n)).2.2.1 := rfl
    rw [e]
    constructor
    · omega
    · have : ((n + 1 : Nat) : Int) * 999999 = (n : Int) * 999999 + 999999 := by push_cast; omega
      omega
theorem cel_drop (L : List DV) (i k : Nat) : cel (L.drop i) k = cel L (i + k) := by
  unfold cel
  simp [List.getD_eq_getElem?_getD, List.getElem?_drop]
theorem at_k {l : List E5} {i : Nat} (hi : i < l.length) (k : Nat) (v : Int) (hk : k < 5) (hv : (eE (at5 l i))[k]? = some (vI v)) : Option.map AV.d (List.drop k (List.drop (i * 5) (l.flatMap eE)))[0]? = some (AV.d (DV.v (Value.int IntKind.i64 v))) := by
  have A := (ent_at hi).row
  have : (List.drop k (List.drop (i * 5) (l.flatMap eE)))[0]? = ((List.drop (i * 5) (l.flatMap eE)).take 5)[k]? := by
    rw [List.getElem?_drop, List.getElem?_take, if_pos hk, Nat.add_zero]
  rw [this, A, hv]; rfl
theorem at5_sub {l : List E5} {i n j : Nat} (hj : j < n) (hn : i + n ≤ l.length) : at5 ((l.drop i).take n) j = at5 l (i + j) := by
  unfold at5
  simp only [List.getD_eq_getElem?_getD, List.getElem?_take, List.getElem?_drop, if_pos hj]
def grI (l : List E5) (w : Int) : Int × Int := great l w.toNat (l.length - w.toNat + 1) 0 (-1) 0
def grE (r w : Int) (l : List E5) : Int := firstI [profI r l, rangeI w 1 16, whenI (decide ((l.length : Int) < w)) 16]
end
section
open Go Go.RowKit
theorem wrap_u8 (x : Int) : IntKind.u8.wrap x = x % 256 := by
  simp [IntKind.wrap, IntKind.signed, IntKind.bits]
abbrev T15 : Type := Int × Int × Int × Int × Int × Int × Int × Int × Int × Int × Int × Int × Int × Int × Int
def blk (a b c d m : Int) : T15 := (a / 16777216 % 256, a / 65536 % 256, a / 256 % 256, a % 256, b / 16777216 % 256, b / 65536 % 256, b / 256 % 256, b % 256, c / 65536 % 256, c / 256 % 256, c % 256, d / 65536 % 256, d / 256 % 256, d % 256, m % 256)
theorem F55_eq : F55 = some () := by unfold F55; rw [res_eq]; rfl
theorem F86_eq (a b c d m : Int) : F86 a b c d m = some a := by unfold F86; rw [res_eq]; rfl
theorem F88_eq (a b c d m : Int) : F88 a b c d m = some b := by unfold F88; rw [res_eq]; rfl
theorem F90_eq (a b c d m : Int) : F90 a b c d m = some c := by unfold F90; rw [res_eq]; rfl
theorem F92_eq (a b c d m : Int) : F92 a b c d m = some d := by unfold F92; rw [res_eq]; rfl
theorem F94_eq (a b c d m : Int) : F94 a b c d m = some m := by unfold F94; rw [res_eq]; rfl
theorem F41_eq {a b c d m : Int} (h : entI a b c d m = 0) : F41 a b c d m = some (blk a b c d m) := by
  obtain ⟨⟨a1, a2⟩, ⟨b1, b2⟩, ⟨c1, c2⟩, ⟨d1, d2⟩, ⟨m1, m2⟩⟩ := entI_zero.1 h
  unfold F41; rw [res_eq]
  have f (x k : Int) (hk : 0 ≤ k) : x.fdiv k = x / k := Int.fdiv_eq_ediv_of_nonneg x hk
  simp only [B41, F55_eq, F86_eq, F88_eq, F90_eq, F92_eq, F94_eq, sem_bind_some, sem_sees, sem_ret, stepO_ret, wrap_u8, f _ 16777216 (by decide), f _ 65536 (by decide), f _ 256 (by decide), f _ 1 (by decide), Int.ediv_one, blk]
theorem td {x k : Int} (h : 0 ≤ x) : x.tdiv k = x / k := Int.tdiv_eq_ediv_of_nonneg h
theorem tm {x k : Int} (h : 0 ≤ x) : x.tmod k = x % k := Int.tmod_eq_emod_of_nonneg h
theorem q4 {a : Int} (a1 : 0 ≤ a) : a / 256 / 256 = a / 65536 ∧ a / 256 / 256 / 256 = a / 16777216 := by omega
theorem in_a {a : Int} (a1 : 0 ≤ a) (a2 : a ≤ 999999999) : inI64 (a / 256) ∧ inI64 (a / 65536) ∧ inI64 (a / 16777216) ∧ inI64 (a / 16777216 / 256) := by unfold inI64; omega
theorem nn_a {a : Int} (a1 : 0 ≤ a) (a2 : a ≤ 999999999) : 0 ≤ a / 256 ∧ 0 ≤ a / 65536 ∧ 0 ≤ a / 16777216 := by omega
def ByteI (a : Int) : Prop := 0 ≤ a ∧ a ≤ 255
end
section
open Go Go.RowKit
abbrev T8 : Type := Int × Int × Int × Int × Int × Int × Int × Int
abbrev vB (n : Int) : DV := .v (.int .u8 n)
def stS (j x b : Int) : Int := ((2 * j + 3) * x + b + j) % 256
def fS (j x : Int) (ds : List Int) : Int := ds.foldl (stS j) x
theorem stS_b (j x b : Int) : ByteI (stS j x b) := by unfold stS ByteI; omega
theorem fS_b (j : Int) : ∀ (ds : List Int) (x : Int), ByteI x → ByteI (fS j x ds)
  | [], _, h => h
  | b :: ds, x, _ => fS_b j ds (stS j x b) (stS_b j x b)
theorem fS_at {ds : List Int} {i : Nat} (hi : i < ds.length) (j x : Int) : fS j x (ds.drop i) = fS j (stS j x ds[i]) (ds.drop (i + 1)) := by
  rw [List.drop_eq_getElem_cons hi]; rfl
theorem fS_end (ds : List Int) (j x : Int) : fS j x (ds.drop ds.length) = x := by rw [List.drop_length]; rfl
structure StOk (j x b : Int) : Prop where
  i1 : inI64 (2 * j)
  i2 : inI64 (2 * j + 3)
  i3 : inI64 ((2 * j + 3) * x)
  i4 : inI64 ((2 * j + 3) * x + b)
  i5 : inI64 ((2 * j + 3) * x + b + j)
  eq : ((2 * j + 3) * x + b + j).tmod 256 = stS j x b
theorem st_ok {j x b : Int} (hj : 0 ≤ j ∧ j ≤ 7) (hx : ByteI x) (hb : ByteI b) : StOk j x b := by
  unfold ByteI at *
  have p0 : 0 ≤ (2 * j + 3) * x := Int.mul_nonneg (by omega) hx.1
  have p1 : (2 * j + 3) * x ≤ 17 * 255 := Int.mul_le_mul (by omega) hx.2 hx.1 (by omega)
  refine ⟨by unfold inI64; omega, by unfold inI64; omega, by unfold inI64; omega, by unfold inI64; omega, by unfold inI64; omega, ?_⟩
  exact Int.tmod_eq_emod_of_nonneg (by omega)
structure B1 (D : List DV) (b : Int) (i : Nat) : Prop where
  c : dI (cel D (i * 1)) = b
  le : i * 1 ≤ D.length
  row : Option.map AV.d (List.drop (i * 1) D)[0]? = some (AV.d (DV.v (Value.int IntKind.u8 b)))
theorem b_at {ds : List Int} {i : Nat} (hi : i < ds.length) : B1 (ds.map vB) ds[i] i := by
  have e : (ds.map vB)[i]? = some (vB ds[i]) := by simp [hi]
  refine ⟨?_, by simp; omega, ?_⟩
  · unfold cel; rw [Nat.mul_one, List.getD_eq_getElem?_getD, e]; rfl
  · rw [Nat.mul_one, List.getElem?_drop, Nat.add_zero, e]; rfl
theorem wb {x : Int} (h : ByteI x) : IntKind.i64.wrap x = x := wrap_in (by unfold ByteI at h; unfold inI64; omega)
theorem wu {x : Int} (h : ByteI x) : IntKind.u8.wrap x = x := by rw [wrap_u8]; unfold ByteI at h; omega
def seal8 (k : T8) (ds : List Int) : T8 := (fS 0 k.1 ds, fS 1 k.2.1 ds, fS 2 k.2.2.1 ds, fS 3 k.2.2.2.1 ds, fS 4 k.2.2.2.2.1 ds, fS 5 k.2.2.2.2.2.1 ds, fS 6 k.2.2.2.2.2.2.1 ds, fS 7 k.2.2.2.2.2.2.2 ds)
section
variable {ds : List Int}
theorem rk143 (b0 b1 b2 b3 b4 b5 b6 b7 : Int) : refK 2 (ABlk.cells [AV.d (DV.v (Value.int IntKind.u8 b0)), AV.d (DV.v (Value.int IntKind.u8 b1)), AV.d (DV.v (Value.int IntKind.u8 b2)), AV.d (DV.v (Value.int IntKind.u8 b3)), AV.d (DV.v (Value.int IntKind.u8 b4)), AV.d (DV.v (Value.int IntKind.u8 b5)), AV.d (DV.v (Value.int IntKind.u8 b6)), AV.d (DV.v (Value.int IntKind.u8 b7))] 23) = true := rfl
theorem s143_c1 (hd : ∀ b ∈ ds, ByteI b) (hl : ds.length ≤ 1000) {j : Int} (hj : 0 ≤ j ∧ j ≤ 7) (a0 a1 a2 a3 a4 a5 a6 a7 : Int) (z : Int) : ∀ (k i : Nat) (x : Int), ds.length = i + k → ByteI x → res B82 (.c1 ds.length (ds.map vB) j x z (ds.length : Int) (i : Int) a0 a1 a2 a3 a4 a5 a6 a7) = res B82 (.c1 ds.length (ds.map vB) j (fS j x (ds.drop i)) z (ds.length : Int) (ds.length : Int) a0 a1 a2 a3 a4 a5 a6 a7)
  | 0, i, x, hk, _ => by
    have : i = ds.length := by omega
    subst this; rw [fS_end]
  | k + 1, i, x, hk, hx => by
    have hi : i < ds.length := by omega
    have A := b_at hi
    have hb := hd ds[i] (List.getElem_mem hi)
    have O := st_ok hj hx hb
    have ih := s143_c1 hd hl hj a0 a1 a2 a3 a4 a5 a6 a7 z k (i + 1) (stS j x ds[i]) (by omega) (stS_b _ _ _)
    have h1 : (i : Int) < (ds.length : Int) := by omega
    have hin : inI64 ((i : Int) + 1) := by unfold inI64; omega
    have w := wb hb
    rw [fS_at hi, ← ih, res_eq]
    simp only [B82, sem_br, sem_ask, sem_nxt, sem_triv, sem_ret, PC.holds, need_true, stepO_nxt, stepO_ret, Int.toNat_natCast, A.c, A.le, A.row, w, O.i1, O.i2, O.i3, O.i4, O.i5, O.eq, h1, hin, Int.natCast_nonneg, decide_true, if_true]
    rfl
theorem s143_c3 (hd : ∀ b ∈ ds, ByteI b) (hl : ds.length ≤ 1000) {j : Int} (hj : 0 ≤ j ∧ j ≤ 7) (a0 a1 a2 a3 a4 a5 a6 a7 : Int) (b0 b1 b2 b3 b4 b5 b6 b7 : Int) : ∀ (k i : Nat) (x : Int), ds.length = i + k → ByteI x → res B82 (.c3 ds.length (ds.map vB) j x (ds.length : Int) (i : Int) [AV.d (DV.v (Value.int IntKind.u8 b0)), AV.d (DV.v (Value.int IntKind.u8 b1)), AV.d (DV.v (Value.int IntKind.u8 b2)), AV.d (DV.v (Value.int IntKind.u8 b3)), AV.d (DV.v (Value.int IntKind.u8 b4)), AV.d (DV.v (Value.int IntKind.u8 b5)), AV.d (DV.v (Value.int IntKind.u8 b6)), AV.d (DV.v (Value.int IntKind.u8 b7))]) = res B82 (.c3 ds.length (ds.map vB) j (fS j x (ds.drop i)) (ds.length : Int) (ds.length : Int) [AV.d (DV.v (Value.int IntKind.u8 b0)), AV.d (DV.v (Value.int IntKind.u8 b1)), AV.d (DV.v (Value.int IntKind.u8 b2)), AV.d (DV.v (Value.int IntKind.u8 b3)), AV.d (DV.v (Value.int IntKind.u8 b4)), AV.d (DV.v (Value.int IntKind.u8 b5)), AV.d (DV.v (Value.int IntKind.u8 b6)), AV.d (DV.v (Value.int IntKind.u8 b7))])
  | 0, i, x, hk, _ => by
    have : i = ds.length := by omega
    subst this; rw [fS_end]
  | k + 1, i, x, hk, hx => by
    have hi : i < ds.length := by omega
    have A := b_at hi
    have hb := hd ds[i] (List.getElem_mem hi)
    have O := st_ok hj hx hb
    have ih := s143_c3 hd hl hj a0 a1 a2 a3 a4 a5 a6 a7 b0 b1 b2 b3 b4 b5 b6 b7 k (i + 1) (stS j x ds[i]) (by omega) (stS_b _ _ _)
    have h1 : (i : Int) < (ds.length : Int) := by omega
    have hin : inI64 ((i : Int) + 1) := by unfold inI64; omega
    have w := wb hb
    rw [fS_at hi, ← ih, res_eq]
    simp only [B82, sem_br, sem_ask, sem_nxt, sem_triv, sem_ret, PC.holds, need_true, stepO_nxt, stepO_ret, Int.toNat_natCast, A.c, A.le, A.row, w, O.i1, O.i2, O.i3, O.i4, O.i5, O.eq, h1, hin, Int.natCast_nonneg, decide_true, if_true, rk143 b0 b1 b2 b3 b4 b5 b6 b7]
    rfl
theorem s143_0 (hd : ∀ b ∈ ds, ByteI b) (hl : ds.length ≤ 1000) (a0 a1 a2 a3 a4 a5 a6 a7 : Int) (h : ByteI a0) : res B82 (.c1 ds.length (ds.map vB) 0 (IntKind.i64.wrap a0) 0 (ds.length : Int) 0 a0 a1 a2 a3 a4 a5 a6 a7) = res B82 (.c2 ds.length (ds.map vB) 1 [AV.d (DV.v (Value.int IntKind.u8 (fS 0 a0 ds))), AV.d (DV.v (Value.int IntKind.u8 a1)), AV.d (DV.v (Value.int IntKind.u8 a2)), AV.d (DV.v (Value.int IntKind.u8 a3)), AV.d (DV.v (Value.int IntKind.u8 a4)), AV.d (DV.v (Value.int IntKind.u8 a5)), AV.d (DV.v (Value.int IntKind.u8 a6)), AV.d (DV.v (Value.int IntKind.u8 a7))]) := by
  have e := s143_c1 hd hl (j := 0) ⟨by decide, by decide⟩ a0 a1 a2 a3 a4 a5 a6 a7 0 ds.length 0 a0 (by omega) h
  rw [wb h]
  refine Eq.trans e ?_
  have hw := wu (fS_b 0 ds a0 h)
  have n0 : ¬ ((ds.length : Int) < (ds.length : Int)) := Int.lt_irrefl _
  have sp : ∀ v, spliceA [AV.d (DV.v (Value.int IntKind.u8 a0)), AV.d (DV.v (Value.int IntKind.u8 a1)), AV.d (DV.v (Value.int IntKind.u8 a2)), AV.d (DV.v (Value.int IntKind.u8 a3)), AV.d (DV.v (Value.int IntKind.u8 a4)), AV.d (DV.v (Value.int IntKind.u8 a5)), AV.d (DV.v (Value.int IntKind.u8 a6)), AV.d (DV.v (Value.int IntKind.u8 a7))] (0 + Int.toNat 0 * 1) [v] = [v, AV.d (DV.v (Value.int IntKind.u8 a1)), AV.d (DV.v (Value.int IntKind.u8 a2)), AV.d (DV.v (Value.int IntKind.u8 a3)), AV.d (DV.v (Value.int IntKind.u8 a4)), AV.d (DV.v (Value.int IntKind.u8 a5)), AV.d (DV.v (Value.int IntKind.u8 a6)), AV.d (DV.v (Value.int IntKind.u8 a7))] := fun _ => rfl
  have q1 : (0 : Int) ≤ 0 := by decide
  have q2 : (0 : Int) < 8 := by decide
  have q3 : 0 + Int.toNat 0 * 1 + 1 ≤ 8 := by decide
  have q4 : inI64 (0 + 1) := by unfold inI64; omega
  have q5 := rk143 (fS 0 a0 ds) a1 a2 a3 a4 a5 a6 a7
  rw [res_eq]
  simp only [B82, sem_br, sem_ask, sem_nxt, sem_triv, sem_ret, PC.holds, need_true, stepO_nxt, stepO_ret, n0, List.drop_zero, hw, sp, q1, q2, q3, q4, q5, decide_false, Bool.false_eq_true, if_false]
  rfl
theorem s143_1 (hd : ∀ b ∈ ds, ByteI b) (hl : ds.length ≤ 1000) (a0 a1 a2 a3 a4 a5 a6 a7 b0 b1 b2 b3 b4 b5 b6 b7 : Int) (h : ByteI b1) : res B82 (.c2 ds.length (ds.map vB) 1 [AV.d (DV.v (Value.int IntKind.u8 b0)), AV.d (DV.v (Value.int IntKind.u8 b1)), AV.d (DV.v (Value.int IntKind.u8 b2)), AV.d (DV.v (Value.int IntKind.u8 b3)), AV.d (DV.v (Value.int IntKind.u8 b4)), AV.d (DV.v (Value.int IntKind.u8 b5)), AV.d (DV.v (Value.int IntKind.u8 b6)), AV.d (DV.v (Value.int IntKind.u8 b7))]) = res B82 (.c2 ds.length (ds.map vB) 2 [AV.d (DV.v (Value.int IntKind.u8 b0)), AV.d (DV.v (Value.int IntKind.u8 (fS 1 b1 ds))), AV.d (DV.v (Value.int IntKind.u8 b2)), AV.d (DV.v (Value.int IntKind.u8 b3)), AV.d (DV.v (Value.int IntKind.u8 b4)), AV.d (DV.v (Value.int IntKind.u8 b5)), AV.d (DV.v (Value.int IntKind.u8 b6)), AV.d (DV.v (Value.int IntKind.u8 b7))]) := by
  have e := s143_c3 hd hl (j := 1) ⟨by decide, by decide⟩ a0 a1 a2 a3 a4 a5 a6 a7 b0 b1 b2 b3 b4 b5 b6 b7 ds.length 0 b1 (by omega) h
  have ca : dI (celA [AV.d (DV.v (Value.int IntKind.u8 b0)), AV.d (DV.v (Value.int IntKind.u8 b1)), AV.d (DV.v (Value.int IntKind.u8 b2)), AV.d (DV.v (Value.int IntKind.u8 b3)), AV.d (DV.v (Value.int IntKind.u8 b4)), AV.d (DV.v (Value.int IntKind.u8 b5)), AV.d (DV.v (Value.int IntKind.u8 b6)), AV.d (DV.v (Value.int IntKind.u8 b7))] (0 + Int.toNat 1 * 1)) = b1 := rfl
  have cg : ([AV.d (DV.v (Value.int IntKind.u8 b0)), AV.d (DV.v (Value.int IntKind.u8 b1)), AV.d (DV.v (Value.int IntKind.u8 b2)), AV.d (DV.v (Value.int IntKind.u8 b3)), AV.d (DV.v (Value.int IntKind.u8 b4)), AV.d (DV.v (Value.int IntKind.u8 b5)), AV.d (DV.v (Value.int IntKind.u8 b6)), AV.d (DV.v (Value.int IntKind.u8 b7))] : List AV)[0 + Int.toNat 1 * 1]? = some (AV.d (DV.v (Value.int IntKind.u8 b1))) := rfl
  have hw := wu (fS_b 1 ds b1 h)
  have w := wb h
  have n0 : ¬ ((ds.length : Int) < (ds.length : Int)) := Int.lt_irrefl _
  have sp : ∀ v, spliceA [AV.d (DV.v (Value.int IntKind.u8 b0)), AV.d (DV.v (Value.int IntKind.u8 b1)), AV.d (DV.v (Value.int IntKind.u8 b2)), AV.d (DV.v (Value.int IntKind.u8 b3)), AV.d (DV.v (Value.int IntKind.u8 b4)), AV.d (DV.v (Value.int IntKind.u8 b5)), AV.d (DV.v (Value.int IntKind.u8 b6)), AV.d (DV.v (Value.int IntKind.u8 b7))] (0 + Int.toNat 1 * 1) [v] = [AV.d (DV.v (Value.int IntKind.u8 b0)), v, AV.d (DV.v (Value.int IntKind.u8 b2)), AV.d (DV.v (Value.int IntKind.u8 b3)), AV.d (DV.v (Value.int IntKind.u8 b4)), AV.d (DV.v (Value.int IntKind.u8 b5)), AV.d (DV.v (Value.int IntKind.u8 b6)), AV.d (DV.v (Value.int IntKind.u8 b7))] := fun _ => rfl
  have q1 : (0 : Int) ≤ 1 := by decide
  have q2 : (1 : Int) < 8 := by decide
  have q3 : 0 + Int.toNat 1 * 1 + 1 ≤ ([AV.d (DV.v (Value.int IntKind.u8 b0)), AV.d (DV.v (Value.int IntKind.u8 b1)), AV.d (DV.v (Value.int IntKind.u8 b2)), AV.d (DV.v (Value.int IntKind.u8 b3)), AV.d (DV.v (Value.int IntKind.u8 b4)), AV.d (DV.v (Value.int IntKind.u8 b5)), AV.d (DV.v (Value.int IntKind.u8 b6)), AV.d (DV.v (Value.int IntKind.u8 b7))] : List AV).length := Nat.le_of_ble_eq_true rfl
  have q4 : inI64 (1 + 1) := by unfold inI64; omega
  have q5 := rk143 b0 b1 b2 b3 b4 b5 b6 b7
  have q6 := rk143 b0 (fS 1 b1 ds) b2 b3 b4 b5 b6 b7
  have e1 : res B82 (.c2 ds.length (ds.map vB) 1 [AV.d (DV.v (Value.int IntKind.u8 b0)), AV.d (DV.v (Value.int IntKind.u8 b1)), AV.d (DV.v (Value.int IntKind.u8 b2)), AV.d (DV.v (Value.int IntKind.u8 b3)), AV.d (DV.v (Value.int IntKind.u8 b4)), AV.d (DV.v (Value.int IntKind.u8 b5)), AV.d (DV.v (Value.int IntKind.u8 b6)), AV.d (DV.v (Value.int IntKind.u8 b7))]) = res B82 (.c3 ds.length (ds.map vB) 1 b1 (ds.length : Int) 0 [AV.d (DV.v (Value.int IntKind.u8 b0)), AV.d (DV.v (Value.int IntKind.u8 b1)), AV.d (DV.v (Value.int IntKind.u8 b2)), AV.d (DV.v (Value.int IntKind.u8 b3)), AV.d (DV.v (Value.int IntKind.u8 b4)), AV.d (DV.v (Value.int IntKind.u8 b5)), AV.d (DV.v (Value.int IntKind.u8 b6)), AV.d (DV.v (Value.int IntKind.u8 b7))]) := by
    rw [res_eq]
    simp only [B82, sem_br, sem_ask, sem_nxt, sem_triv, sem_ret, PC.holds, need_true, stepO_nxt, stepO_ret, ca, cg, w, q1, q2, q5, decide_true, if_true]
  rw [e1]
  refine Eq.trans e ?_
  rw [res_eq]
  simp only [B82, sem_br, sem_ask, sem_nxt, sem_triv, sem_ret, PC.holds, need_true, stepO_nxt, stepO_ret, n0, List.drop_zero, hw, sp, q1, q2, q3, q4, q6, decide_false, Bool.false_eq_true, if_false]
  rfl
theorem s143_2 (hd : ∀ b ∈ ds, ByteI b) (hl : ds.length ≤ 1000) (a0 a1 a2 a3 a4 a5 a6 a7 b0 b1 b2 b3 b4 b5 b6 b7 : Int) (h : ByteI b2) : res B82 (.c2 ds.length (ds.map vB) 2 [AV.d (DV.v (Value.int IntKind.u8 b0)), AV.d (DV.v (Value.int IntKind.u8 b1)), AV.d (DV.v (Value.int IntKind.u8 b2)), AV.d (DV.v (Value.int IntKind.u8 b3)), AV.d (DV.v (Value.int IntKind.u8 b4)), AV.d (DV.v (Value.int IntKind.u8 b5)), AV.d (DV.v (Value.int IntKind.u8 b6)), AV.d (DV.v (Value.int IntKind.u8 b7))]) = res B82 (.c2 ds.length (ds.map vB) 3 [AV.d (DV.v (Value.int IntKind.u8 b0)), AV.d (DV.v (Value.int IntKind.u8 b1)), AV.d (DV.v (Value.int IntKind.u8 (fS 2 b2 ds))), AV.d (DV.v (Value.int IntKind.u8 b3)), AV.d (DV.v (Value.int IntKind.u8 b4)), AV.d (DV.v (Value.int IntKind.u8 b5)), AV.d (DV.v (Value.int IntKind.u8 b6)), AV.d (DV.v (Value.int IntKind.u8 b7))]) := by
  have e := s143_c3 hd hl (j := 2) ⟨by decide, by decide⟩ a0 a1 a2 a3 a4 a5 a6 a7 b0 b1 b2 b3 b4 b5 b6 b7 ds.length 0 b2 (by omega) h
  have ca : dI (celA [AV.d (DV.v (Value.int IntKind.u8 b0)), AV.d (DV.v (Value.int IntKind.u8 b1)), AV.d (DV.v (Value.int IntKind.u8 b2)), AV.d (DV.v (Value.int IntKind.u8 b3)), AV.d (DV.v (Value.int IntKind.u8 b4)), AV.d (DV.v (Value.int IntKind.u8 b5)), AV.d (DV.v (Value.int IntKind.u8 b6)), AV.d (DV.v (Value.int IntKind.u8 b7))] (0 + Int.toNat 2 * 1)) = b2 := rfl
  have cg : ([AV.d (DV.v (Value.int IntKind.u8 b0)), AV.d (DV.v (Value.int IntKind.u8 b1)), AV.d (DV.v (Value.int IntKind.u8 b2)), AV.d (DV.v (Value.int IntKind.u8 b3)), AV.d (DV.v (Value.int IntKind.u8 b4)), AV.d (DV.v (Value.int IntKind.u8 b5)), AV.d (DV.v (Value.int IntKind.u8 b6)), AV.d (DV.v (Value.int IntKind.u8 b7))] : List AV)[0 + Int.toNat 2 * 1]? = some (AV.d (DV.v (Value.int IntKind.u8 b2))) := rfl
  have hw := wu (fS_b 2 ds b2 h)
  have w := wb h
  have n0 : ¬ ((ds.length : Int) < (ds.length : Int)) := Int.lt_irrefl _
  have sp : ∀ v, spliceA [AV.d (DV.v (Value.int IntKind.u8 b0)), AV.d (DV.v (Value.int IntKind.u8 b1)), AV.d (DV.v (Value.int IntKind.u8 b2)), AV.d (DV.v (Value.int IntKind.u8 b3)), AV.d (DV.v (Value.int IntKind.u8 b4)), AV.d (DV.v (Value.int IntKind.u8 b5)), AV.d (DV.v (Value.int IntKind.u8 b6)), AV.d (DV.v (Value.int IntKind.u8 b7))] (0 + Int.toNat 2 * 1) [v] = [AV.d (DV.v (Value.int IntKind.u8 b0)), AV.d (DV.v (Value.int IntKind.u8 b1)), v, AV.d (DV.v (Value.int IntKind.u8 b3)), AV.d (DV.v (Value.int IntKind.u8 b4)), AV.d (DV.v (Value.int IntKind.u8 b5)), AV.d (DV.v (Value.int IntKind.u8 b6)), AV.d (DV.v (Value.int IntKind.u8 b7))] := fun _ => rfl
  have q1 : (0 : Int) ≤ 2 := by decide
  have q2 : (2 : Int) < 8 := by decide
  have q3 : 0 + Int.toNat 2 * 1 + 1 ≤ ([AV.d (DV.v (Value.int IntKind.u8 b0)), AV.d (DV.v (Value.int IntKind.u8 b1)), AV.d (DV.v (Value.int IntKind.u8 b2)), AV.d (DV.v (Value.int IntKind.u8 b3)), AV.d (DV.v (Value.int IntKind.u8 b4)), AV.d (DV.v (Value.int IntKind.u8 b5)), AV.d (DV.v (Value.int IntKind.u8 b6)), AV.d (DV.v (Value.int IntKind.u8 b7))] : List AV).length := Nat.le_of_ble_eq_true rfl
  have q4 : inI64 (2 + 1) := by unfold inI64; omega
  have q5 := rk143 b0 b1 b2 b3 b4 b5 b6 b7
  have q6 := rk143 b0 b1 (fS 2 b2 ds) b3 b4 b5 b6 b7
  have e1 : res B82 (.c2 ds.length (ds.map vB) 2 [AV.d (DV.v (Value.int IntKind.u8 b0)), AV.d (DV.v (Value.int IntKind.u8 b1)), AV.d (DV.v (Value.int IntKind.u8 b2)), AV.d (DV.v (Value.int IntKind.u8 b3)), AV.d (DV.v (Value.int IntKind.u8 b4)), AV.d (DV.v (Value.int IntKind.u8 b5)), AV.d (DV.v (Value.int IntKind.u8 b6)), AV.d (DV.v (Value.int IntKind.u8 b7))]) = res B82 (.c3 ds.length (ds.map vB) 2 b2 (ds.length : Int) 0 [AV.d (DV.v (Value.int IntKind.u8 b0)), AV.d (DV.v (Value.int IntKind.u8 b1)), AV.d (DV.v (Value.int IntKind.u8 b2)), AV.d (DV.v (Value.int IntKind.u8 b3)), AV.d (DV.v (Value.int IntKind.u8 b4)), AV.d (DV.v (Value.int IntKind.u8 b5)), AV.d (DV.v (Value.int IntKind.u8 b6)), AV.d (DV.v (Value.int IntKind.u8 b7))]) := by
    rw [res_eq]
    simp only [B82, sem_br, sem_ask, sem_nxt, sem_triv, sem_ret, PC.holds, need_true, stepO_nxt, stepO_ret, ca, cg, w, q1, q2, q5, decide_true, if_true]
  rw [e1]
  refine Eq.trans e ?_
  rw [res_eq]
  simp only [B82, sem_br, sem_ask, sem_nxt, sem_triv, sem_ret, PC.holds, need_true, stepO_nxt, stepO_ret, n0, List.drop_zero, hw, sp, q1, q2, q3, q4, q6, decide_false, Bool.false_eq_true, if_false]
  rfl
theorem s143_3 (hd : ∀ b ∈ ds, ByteI b) (hl : ds.length ≤ 1000) (a0 a1 a2 a3 a4 a5 a6 a7 b0 b1 b2 b3 b4 b5 b6 b7 : Int) (h : ByteI b3) : res B82 (.c2 ds.length (ds.map vB) 3 [AV.d (DV.v (Value.int IntKind.u8 b0)), AV.d (DV.v (Value.int IntKind.u8 b1)), AV.d (DV.v (Value.int IntKind.u8 b2)), AV.d (DV.v (Value.int IntKind.u8 b3)), AV.d (DV.v (Value.int IntKind.u8 b4)), AV.d (DV.v (Value.int IntKind.u8 b5)), AV.d (DV.v (Value.int IntKind.u8 b6)), AV.d (DV.v (Value.int IntKind.u8 b7))]) = res B82 (.c2 ds.length (ds.map vB) 4 [AV.d (DV.v (Value.int IntKind.u8 b0)), AV.d (DV.v (Value.int IntKind.u8 b1)), AV.d (DV.v (Value.int IntKind.u8 b2)), AV.d (DV.v (Value.int IntKind.u8 (fS 3 b3 ds))), AV.d (DV.v (Value.int IntKind.u8 b4)), AV.d (DV.v (Value.int IntKind.u8 b5)), AV.d (DV.v (Value.int IntKind.u8 b6)), AV.d (DV.v (Value.int IntKind.u8 b7))]) := by
  have e := s143_c3 hd hl (j := 3) ⟨by decide, by decide⟩ a0 a1 a2 a3 a4 a5 a6 a7 b0 b1 b2 b3 b4 b5 b6 b7 ds.length 0 b3 (by omega) h
  have ca : dI (celA [AV.d (DV.v (Value.int IntKind.u8 b0)), AV.d (DV.v (Value.int IntKind.u8 b1)), AV.d (DV.v (Value.int IntKind.u8 b2)), AV.d (DV.v (Value.int IntKind.u8 b3)), AV.d (DV.v (Value.int IntKind.u8 b4)), AV.d (DV.v (Value.int IntKind.u8 b5)), AV.d (DV.v (Value.int IntKind.u8 b6)), AV.d (DV.v (Value.int IntKind.u8 b7))] (0 + Int.toNat 3 * 1)) = b3 := rfl
  have cg : ([AV.d (DV.v (Value.int IntKind.u8 b0)), AV.d (DV.v (Value.int IntKind.u8 b1)), AV.d (DV.v (Value.int IntKind.u8 b2)), AV.d (DV.v (Value.int IntKind.u8 b3)), AV.d (DV.v (Value.int IntKind.u8 b4)), AV.d (DV.v (Value.int IntKind.u8 b5)), AV.d (DV.v (Value.int IntKind.u8 b6)), AV.d (DV.v (Value.int IntKind.u8 b7))] : List AV)[0 + Int.toNat 3 * 1]? = some (AV.d (DV.v (Value.int IntKind.u8 b3))) := rfl
  have hw := wu (fS_b 3 ds b3 h)
  have w := wb h
  have n0 : ¬ ((ds.length : Int) < (ds.length : Int)) := Int.lt_irrefl _
  have sp : ∀ v, spliceA [AV.d (DV.v (Value.int IntKind.u8 b0)), AV.d (DV.v (Value.int IntKind.u8 b1)), AV.d (DV.v (Value.int IntKind.u8 b2)), AV.d (DV.v (Value.int IntKind.u8 b3)), AV.d (DV.v (Value.int IntKind.u8 b4)), AV.d (DV.v (Value.int IntKind.u8 b5)), AV.d (DV.v (Value.int IntKind.u8 b6)), AV.d (DV.v (Value.int IntKind.u8 b7))] (0 + Int.toNat 3 * 1) [v] = [AV.d (DV.v (Value.int IntKind.u8 b0)), AV.d (DV.v (Value.int IntKind.u8 b1)), AV.d (DV.v (Value.int IntKind.u8 b2)), v, AV.d (DV.v (Value.int IntKind.u8 b4)), AV.d (DV.v (Value.int IntKind.u8 b5)), AV.d (DV.v (Value.int IntKind.u8 b6)), AV.d (DV.v (Value.int IntKind.u8 b7))] := fun _ => rfl
  have q1 : (0 : Int) ≤ 3 := by decide
  have q2 : (3 : Int) < 8 := by decide
  have q3 : 0 + Int.toNat 3 * 1 + 1 ≤ ([AV.d (DV.v (Value.int IntKind.u8 b0)), AV.d (DV.v (Value.int IntKind.u8 b1)), AV.d (DV.v (Value.int IntKind.u8 b2)), AV.d (DV.v (Value.int IntKind.u8 b3)), AV.d (DV.v (Value.int IntKind.u8 b4)), AV.d (DV.v (Value.int IntKind.u8 b5)), AV.d (DV.v (Value.int IntKind.u8 b6)), AV.d (DV.v (Value.int IntKind.u8 b7))] : List AV).length := Nat.le_of_ble_eq_true rfl
  have q4 : inI64 (3 + 1) := by unfold inI64; omega
  have q5 := rk143 b0 b1 b2 b3 b4 b5 b6 b7
  have q6 := rk143 b0 b1 b2 (fS 3 b3 ds) b4 b5 b6 b7
  have e1 : res B82 (.c2 ds.length (ds.map vB) 3 [AV.d (DV.v (Value.int IntKind.u8 b0)), AV.d (DV.v (Value.int IntKind.u8 b1)), AV.d (DV.v (Value.int IntKind.u8 b2)), AV.d (DV.v (Value.int IntKind.u8 b3)), AV.d (DV.v (Value.int IntKind.u8 b4)), AV.d (DV.v (Value.int IntKind.u8 b5)), AV.d (DV.v (Value.int IntKind.u8 b6)), AV.d (DV.v (Value.int IntKind.u8 b7))]) = res B82 (.c3 ds.length (ds.map vB) 3 b3 (ds.length : Int) 0 [AV.d (DV.v (Value.int IntKind.u8 b0)), AV.d (DV.v (Value.int IntKind.u8 b1)), AV.d (DV.v (Value.int IntKind.u8 b2)), AV.d (DV.v (Value.int IntKind.u8 b3)), AV.d (DV.v (Value.int IntKind.u8 b4)), AV.d (DV.v (Value.int IntKind.u8 b5)), AV.d (DV.v (Value.int IntKind.u8 b6)), AV.d (DV.v (Value.int IntKind.u8 b7))]) := by
    rw [res_eq]
    simp only [B82, sem_br, sem_ask, sem_nxt, sem_triv, sem_ret, PC.holds, need_true, stepO_nxt, stepO_ret, ca, cg, w, q1, q2, q5, decide_true, if_true]
  rw [e1]
  refine Eq.trans e ?_
  rw [res_eq]
  simp only [B82, sem_br, sem_ask, sem_nxt, sem_triv, sem_ret, PC.holds, need_true, stepO_nxt, stepO_ret, n0, List.drop_zero, hw, sp, q1, q2, q3, q4, q6, decide_false, Bool.false_eq_true, if_false]
  rfl
theorem s143_4 (hd : ∀ b ∈ ds, ByteI b) (hl : ds.length ≤ 1000) (a0 a1 a2 a3 a4 a5 a6 a7 b0 b1 b2 b3 b4 b5 b6 b7 : Int) (h : ByteI b4) : res B82 (.c2 ds.length (ds.map vB) 4 [AV.d (DV.v (Value.int IntKind.u8 b0)), AV.d (DV.v (Value.int IntKind.u8 b1)), AV.d (DV.v (Value.int IntKind.u8 b2)), AV.d (DV.v (Value.int IntKind.u8 b3)), AV.d (DV.v (Value.int IntKind.u8 b4)), AV.d (DV.v (Value.int IntKind.u8 b5)), AV.d (DV.v (Value.int IntKind.u8 b6)), AV.d (DV.v (Value.int IntKind.u8 b7))]) = res B82 (.c2 ds.length (ds.map vB) 5 [AV.d (DV.v (Value.int IntKind.u8 b0)), AV.d (DV.v (Value.int IntKind.u8 b1)), AV.d (DV.v (Value.int IntKind.u8 b2)), AV.d (DV.v (Value.int IntKind.u8 b3)), AV.d (DV.v (Value.int IntKind.u8 (fS 4 b4 ds))), AV.d (DV.v (Value.int IntKind.u8 b5)), AV.d (DV.v (Value.int IntKind.u8 b6)), AV.d (DV.v (Value.int IntKind.u8 b7))]) := by
  have e := s143_c3 hd hl (j := 4) ⟨by decide, by decide⟩ a0 a1 a2 a3 a4 a5 a6 a7 b0 b1 b2 b3 b4 b5 b6 b7 ds.length 0 b4 (by omega) h
  have ca : dI (celA [AV.d (DV.v (Value.int IntKind.u8 b0)), AV.d (DV.v (Value.int IntKind.u8 b1)), AV.d (DV.v (Value.int IntKind.u8 b2)), AV.d (DV.v (Value.int IntKind.u8 b3)), AV.d (DV.v (Value.int IntKind.u8 b4)), AV.d (DV.v (Value.int IntKind.u8 b5)), AV.d (DV.v (Value.int IntKind.u8 b6)), AV.d (DV.v (Value.int IntKind.u8 b7))] (0 + Int.toNat 4 * 1)) = b4 := rfl
  have cg : ([AV.d (DV.v (Value.int IntKind.u8 b0)), AV.d (DV.v (Value.int IntKind.u8 b1)), AV.d (DV.v (Value.int IntKind.u8 b2)), AV.d (DV.v (Value.int IntKind.u8 b3)), AV.d (DV.v (Value.int IntKind.u8 b4)), AV.d (DV.v (Value.int IntKind.u8 b5)), AV.d (DV.v (Value.int IntKind.u8 b6)), AV.d (DV.v (Value.int IntKind.u8 b7))] : List AV)[0 + Int.toNat 4 * 1]? = some (AV.d (DV.v (Value.int IntKind.u8 b4))) := rfl
  have hw := wu (fS_b 4 ds b4 h)
  have w := wb h
  have n0 : ¬ ((ds.length : Int) < (ds.length : Int)) := Int.lt_irrefl _
  have sp : ∀ v, spliceA [AV.d (DV.v (Value.int IntKind.u8 b0)), AV.d (DV.v (Value.int IntKind.u8 b1)), AV.d (DV.v (Value.int IntKind.u8 b2)), AV.d (DV.v (Value.int IntKind.u8 b3)), AV.d (DV.v (Value.int IntKind.u8 b4)), AV.d (DV.v (Value.int IntKind.u8 b5)), AV.d (DV.v (Value.int IntKind.u8 b6)), AV.d (DV.v (Value.int IntKind.u8 b7))] (0 + Int.toNat 4 * 1) [v] = [AV.d (DV.v (Value.int IntKind.u8 b0)), AV.d (DV.v (Value.int IntKind.u8 b1)), AV.d (DV.v (Value.int IntKind.u8 b2)), AV.d (DV.v (Value.int IntKind.u8 b3)), v, AV.d (DV.v (Value.int IntKind.u8 b5)), AV.d (DV.v (Value.int IntKind.u8 b6)), AV.d (DV.v (Value.int IntKind.u8 b7))] := fun _ => rfl
  have q1 : (0 : Int) ≤ 4 := by decide
  have q2 : (4 : Int) < 8 := by decide
  have q3 : 0 + Int.toNat 4 * 1 + 1 ≤ ([AV.d (DV.v (Value.int IntKind.u8 b0)), AV.d (DV.v (Value.int IntKind.u8 b1)), AV.d (DV.v (Value.int IntKind.u8 b2)), AV.d (DV.v (Value.int IntKind.u8 b3)), AV.d (DV.v (Value.int IntKind.u8 b4)), AV.d (DV.v (Value.int IntKind.u8 b5)), AV.d (DV.v (Value.int IntKind.u8 b6)), AV.d (DV.v (Value.int IntKind.u8 b7))] : List AV).length := Nat.le_of_ble_eq_true rfl
  have q4 : inI64 (4 + 1) := by unfold inI64; omega
  have q5 := rk143 b0 b1 b2 b3 b4 b5 b6 b7
  have q6 := rk143 b0 b1 b2 b3 (fS 4 b4 ds) b5 b6 b7
  have e1 : res B82 (.c2 ds.length (ds.map vB) 4 [AV.d (DV.v (Value.int IntKind.u8 b0)), AV.d (DV.v (Value.int IntKind.u8 b1)), AV.d (DV.v (Value.int IntKind.u8 b2)), AV.d (DV.v (Value.int IntKind.u8 b3)), AV.d (DV.v (Value.int IntKind.u8 b4)), AV.d (DV.v (Value.int IntKind.u8 b5)), AV.d (DV.v (Value.int IntKind.u8 b6)), AV.d (DV.v (Value.int IntKind.u8 b7))]) = res B82 (.c3 ds.length (ds.map vB) 4 b4 (ds.length : Int) 0 [AV.d (DV.v (Value.int IntKind.u8 b0)), AV.d (DV.v (Value.int IntKind.u8 b1)), AV.d (DV.v (Value.int IntKind.u8 b2)), AV.d (DV.v (Value.int IntKind.u8 b3)), AV.d (DV.v (Value.int IntKind.u8 b4)), AV.d (DV.v (Value.int IntKind.u8 b5)), AV.d (DV.v (Value.int IntKind.u8 b6)), AV.d (DV.v (Value.int IntKind.u8 b7))]) := by
    rw [res_eq]
    simp only [B82, sem_br, sem_ask, sem_nxt, sem_triv, sem_ret, PC.holds, need_true, stepO_nxt, stepO_ret, ca, cg, w, q1, q2, q5, decide_true, if_true]
  rw [e1]
  refine Eq.trans e ?_
  rw [res_eq]
  simp only [B82, sem_br, sem_ask, sem_nxt, sem_triv, sem_ret, PC.holds, need_true, stepO_nxt, stepO_ret, n0, List.drop_zero, hw, sp, q1, q2, q3, q4, q6, decide_false, Bool.false_eq_true, if_false]
  rfl
theorem s143_5 (hd : ∀ b ∈ ds, ByteI b) (hl : ds.length ≤ 1000) (a0 a1 a2 a3 a4 a5 a6 a7 b0 b1 b2 b3 b4 b5 b6 b7 : Int) (h : ByteI b5) : res B82 (.c2 ds.length (ds.map vB) 5 [AV.d (DV.v (Value.int IntKind.u8 b0)), AV.d (DV.v (Value.int IntKind.u8 b1)), AV.d (DV.v (Value.int IntKind.u8 b2)), AV.d (DV.v (Value.int IntKind.u8 b3)), AV.d (DV.v (Value.int IntKind.u8 b4)), AV.d (DV.v (Value.int IntKind.u8 b5)), AV.d (DV.v (Value.int IntKind.u8 b6)), AV.d (DV.v (Value.int IntKind.u8 b7))]) = res B82 (.c2 ds.length (ds.map vB) 6 [AV.d (DV.v (Value.int IntKind.u8 b0)), AV.d (DV.v (Value.int IntKind.u8 b1)), AV.d (DV.v (Value.int IntKind.u8 b2)), AV.d (DV.v (Value.int IntKind.u8 b3)), AV.d (DV.v (Value.int IntKind.u8 b4)), AV.d (DV.v (Value.int IntKind.u8 (fS 5 b5 ds))), AV.d (DV.v (Value.int IntKind.u8 b6)), AV.d (DV.v (Value.int IntKind.u8 b7))]) := by
  have e := s143_c3 hd hl (j := 5) ⟨by decide, by decide⟩ a0 a1 a2 a3 a4 a5 a6 a7 b0 b1 b2 b3 b4 b5 b6 b7 ds.length 0 b5 (by omega) h
  have ca : dI (celA [AV.d (DV.v (Value.int IntKind.u8 b0)), AV.d (DV.v (Value.int IntKind.u8 b1)), AV.d (DV.v (Value.int IntKind.u8 b2)), AV.d (DV.v (Value.int IntKind.u8 b3)), AV.d (DV.v (Value.int IntKind.u8 b4)), AV.d (DV.v (Value.int IntKind.u8 b5)), AV.d (DV.v (Value.int IntKind.u8 b6)), AV.d (DV.v (Value.int IntKind.u8 b7))] (0 + Int.toNat 5 * 1)) = b5 := rfl
  have cg : ([AV.d (DV.v (Value.int IntKind.u8 b0)), AV.d (DV.v (Value.int IntKind.u8 b1)), AV.d (DV.v (Value.int IntKind.u8 b2)), AV.d (DV.v (Value.int IntKind.u8 b3)), AV.d (DV.v (Value.int IntKind.u8 b4)), AV.d (DV.v (Value.int IntKind.u8 b5)), AV.d (DV.v (Value.int IntKind.u8 b6)), AV.d (DV.v (Value.int IntKind.u8 b7))] : List AV)[0 + Int.toNat 5 * 1]? = some (AV.d (DV.v (Value.int IntKind.u8 b5))) := rfl
  have hw := wu (fS_b 5 ds b5 h)
  have w := wb h
  have n0 : ¬ ((ds.length : Int) < (ds.length : Int)) := Int.lt_irrefl _
  have sp : ∀ v, spliceA [AV.d (DV.v (Value.int IntKind.u8 b0)), AV.d (DV.v (Value.int IntKind.u8 b1)), AV.d (DV.v (Value.int IntKind.u8 b2)), AV.d (DV.v (Value.int IntKind.u8 b3)), AV.d (DV.v (Value.int IntKind.u8 b4)), AV.d (DV.v (Value.int IntKind.u8 b5)), AV.d (DV.v (Value.int IntKind.u8 b6)), AV.d (DV.v (Value.int IntKind.u8 b7))] (0 + Int.toNat 5 * 1) [v] = [AV.d (DV.v (Value.int IntKind.u8 b0)), AV.d (DV.v (Value.int IntKind.u8 b1)), AV.d (DV.v (Value.int IntKind.u8 b2)), AV.d (DV.v (Value.int IntKind.u8 b3)), AV.d (DV.v (Value.int IntKind.u8 b4)), v, AV.d (DV.v (Value.int IntKind.u8 b6)), AV.d (DV.v (Value.int IntKind.u8 b7))] := fun _ => rfl
  have q1 : (0 : Int) ≤ 5 := by decide
  have q2 : (5 : Int) < 8 := by decide
  have q3 : 0 + Int.toNat 5 * 1 + 1 ≤ ([AV.d (DV.v (Value.int IntKind.u8 b0)), AV.d (DV.v (Value.int IntKind.u8 b1)), AV.d (DV.v (Value.int IntKind.u8 b2)), AV.d (DV.v (Value.int IntKind.u8 b3)), AV.d (DV.v (Value.int IntKind.u8 b4)), AV.d (DV.v (Value.int IntKind.u8 b5)), AV.d (DV.v (Value.int IntKind.u8 b6)), AV.d (DV.v (Value.int IntKind.u8 b7))] : List AV).length := Nat.le_of_ble_eq_true rfl
  have q4 : inI64 (5 + 1) := by unfold inI64; omega
  have q5 := rk143 b0 b1 b2 b3 b4 b5 b6 b7
  have q6 := rk143 b0 b1 b2 b3 b4 (fS 5 b5 ds) b6 b7
  have e1 : res B82 (.c2 ds.length (ds.map vB) 5 [AV.d (DV.v (Value.int IntKind.u8 b0)), AV.d (DV.v (Value.int IntKind.u8 b1)), AV.d (DV.v (Value.int IntKind.u8 b2)), AV.d (DV.v (Value.int IntKind.u8 b3)), AV.d (DV.v (Value.int IntKind.u8 b4)), AV.d (DV.v (Value.int IntKind.u8 b5)), AV.d (DV.v (Value.int IntKind.u8 b6)), AV.d (DV.v (Value.int IntKind.u8 b7))]) = res B82 (.c3 ds.length (ds.map vB) 5 b5 (ds.length : Int) 0 [AV.d (DV.v (Value.int IntKind.u8 b0)), AV.d (DV.v (Value.int IntKind.u8 b1)), AV.d (DV.v (Value.int IntKind.u8 b2)), AV.d (DV.v (Value.int IntKind.u8 b3)), AV.d (DV.v (Value.int IntKind.u8 b4)), AV.d (DV.v (Value.int IntKind.u8 b5)), AV.d (DV.v (Value.int IntKind.u8 b6)), AV.d (DV.v (Value.int IntKind.u8 b7))]) := by
    rw [res_eq]
    simp only [B82, sem_br, sem_ask, sem_nxt, sem_triv, sem_ret, PC.holds, need_true, stepO_nxt, stepO_ret, ca, cg, w, q1, q2, q5, decide_true, if_true]
  rw [e1]
  refine Eq.trans e ?_
  rw [res_eq]
  simp only [B82, sem_br, sem_ask, sem_nxt, sem_triv, sem_ret, PC.holds, need_true, stepO_nxt, stepO_ret, n0, List.drop_zero, hw, sp, q1, q2, q3, q4, q6, decide_false, Bool.false_eq_true, if_false]
  rfl
theorem s143_6 (hd : ∀ b ∈ ds, ByteI b) (hl : ds.length ≤ 1000) (a0 a1 a2 a3 a4 a5 a6 a7 b0 b1 b2 b3 b4 b5 b6 b7 : Int) (h : ByteI b6) : res B82 (.c2 ds.length (ds.map vB) 6 [AV.d (DV.v (Value.int IntKind.u8 b0)), AV.d (DV.v (Value.int IntKind.u8 b1)), AV.d (DV.v (Value.int IntKind.u8 b2)), AV.d (DV.v (Value.int IntKind.u8 b3)), AV.d (DV.v (Value.int IntKind.u8 b4)), AV.d (DV.v (Value.int IntKind.u8 b5)), AV.d (DV.v (Value.int IntKind.u8 b6)), AV.d (DV.v (Value.int IntKind.u8 b7))]) = res B82 (.c2 ds.length (ds.map vB) 7 [AV.d (DV.v (Value.int IntKind.u8 b0)), AV.d (DV.v (Value.int IntKind.u8 b1)), AV.d (DV.v (Value.int IntKind.u8 b2)), AV.d (DV.v (Value.int IntKind.u8 b3)), AV.d (DV.v (Value.int IntKind.u8 b4)), AV.d (DV.v (Value.int IntKind.u8 b5)), AV.d (DV.v (Value.int IntKind.u8 (fS 6 b6 ds))), AV.d (DV.v (Value.int IntKind.u8 b7))]) := by
  have e := s143_c3 hd hl (j := 6) ⟨by decide, by decide⟩ a0 a1 a2 a3 a4 a5 a6 a7 b0 b1 b2 b3 b4 b5 b6 b7 ds.length 0 b6 (by omega) h
  have ca : dI (celA [AV.d (DV.v (Value.int IntKind.u8 b0)), AV.d (DV.v (Value.int IntKind.u8 b1)), AV.d (DV.v (Value.int IntKind.u8 b2)), AV.d (DV.v (Value.int IntKind.u8 b3)), AV.d (DV.v (Value.int IntKind.u8 b4)), AV.d (DV.v (Value.int IntKind.u8 b5)), AV.d (DV.v (Value.int IntKind.u8 b6)), AV.d (DV.v (Value.int IntKind.u8 b7))] (0 + Int.toNat 6 * 1)) = b6 := rfl
  have cg : ([AV.d (DV.v (Value.int IntKind.u8 b0)), AV.d (DV.v (Value.int IntKind.u8 b1)), AV.d (DV.v (Value.int IntKind.u8 b2)), AV.d (DV.v (Value.int IntKind.u8 b3)), AV.d (DV.v (Value.int IntKind.u8 b4)), AV.d (DV.v (Value.int IntKind.u8 b5)), AV.d (DV.v (Value.int IntKind.u8 b6)), AV.d (DV.v (Value.int IntKind.u8 b7))] : List AV)[0 + Int.toNat 6 * 1]? = some (AV.d (DV.v (Value.int IntKind.u8 b6))) := rfl
  have hw := wu (fS_b 6 ds b6 h)
  have w := wb h
  have n0 : ¬ ((ds.length : Int) < (ds.length : Int)) := Int.lt_irrefl _
  have sp : ∀ v, spliceA [AV.d (DV.v (Value.int IntKind.u8 b0)), AV.d (DV.v (Value.int IntKind.u8 b1)), AV.d (DV.v (Value.int IntKind.u8 b2)), AV.d (DV.v (Value.int IntKind.u8 b3)), AV.d (DV.v (Value.int IntKind.u8 b4)), AV.d (DV.v (Value.int IntKind.u8 b5)), AV.d (DV.v (Value.int IntKind.u8 b6)), AV.d (DV.v (Value.int IntKind.u8 b7))] (0 + Int.toNat 6 * 1) [v] = [AV.d (DV.v (Value.int IntKind.u8 b0)), AV.d (DV.v (Value.int IntKind.u8 b1)), AV.d (DV.v (Value.int IntKind.u8 b2)), AV.d (DV.v (Value.int IntKind.u8 b3)), AV.d (DV.v (Value.int IntKind.u8 b4)), AV.d (DV.v (Value.int IntKind.u8 b5)), v, AV.d (DV.v (Value.int IntKind.u8 b7))] := fun _ => rfl
  have q1 : (0 : Int) ≤ 6 := by decide
  have q2 : (6 : Int) < 8 := by decide
  have q3 : 0 + Int.toNat 6 * 1 + 1 ≤ ([AV.d (DV.v (Value.int IntKind.u8 b0)), AV.d (DV.v (Value.int IntKind.u8 b1)), AV.d (DV.v (Value.int IntKind.u8 b2)), AV.d (DV.v (Value.int IntKind.u8 b3)), AV.d (DV.v (Value.int IntKind.u8 b4)), AV.d (DV.v (Value.int IntKind.u8 b5)), AV.d (DV.v (Value.int IntKind.u8 b6)), AV.d (DV.v (Value.int IntKind.u8 b7))] : List AV).length := Nat.le_of_ble_eq_true rfl
  have q4 : inI64 (6 + 1) := by unfold inI64; omega
  have q5 := rk143 b0 b1 b2 b3 b4 b5 b6 b7
  have q6 := rk143 b0 b1 b2 b3 b4 b5 (fS 6 b6 ds) b7
  have e1 : res B82 (.c2 ds.length (ds.map vB) 6 [AV.d (DV.v (Value.int IntKind.u8 b0)), AV.d (DV.v (Value.int IntKind.u8 b1)), AV.d (DV.v (Value.int IntKind.u8 b2)), AV.d (DV.v (Value.int IntKind.u8 b3)), AV.d (DV.v (Value.int IntKind.u8 b4)), AV.d (DV.v (Value.int IntKind.u8 b5)), AV.d (DV.v (Value.int IntKind.u8 b6)), AV.d (DV.v (Value.int IntKind.u8 b7))]) = res B82 (.c3 ds.length (ds.map vB) 6 b6 (ds.length : Int) 0 [AV.d (DV.v (Value.int IntKind.u8 b0)), AV.d (DV.v (Value.int IntKind.u8 b1)), AV.d (DV.v (Value.int IntKind.u8 b2)), AV.d (DV.v (Value.int IntKind.u8 b3)), AV.d (DV.v (Value.int IntKind.u8 b4)), AV.d (DV.v (Value.int IntKind.u8 b5)), AV.d (DV.v (Value.int IntKind.u8 b6)), AV.d (DV.v (Value.int IntKind.u8 b7))]) := by
    rw [res_eq]
    simp only [B82, sem_br, sem_ask, sem_nxt, sem_triv, sem_ret, PC.holds, need_true, stepO_nxt, stepO_ret, ca, cg, w, q1, q2, q5, decide_true, if_true]
  rw [e1]
  refine Eq.trans e ?_
  rw [res_eq]
  simp only [B82, sem_br, sem_ask, sem_nxt, sem_triv, sem_ret, PC.holds, need_true, stepO_nxt, stepO_ret, n0, List.drop_zero, hw, sp, q1, q2, q3, q4, q6, decide_false, Bool.false_eq_true, if_false]
  rfl
theorem s143_7 (hd : ∀ b ∈ ds, ByteI b) (hl : ds.length ≤ 1000) (a0 a1 a2 a3 a4 a5 a6 a7 b0 b1 b2 b3 b4 b5 b6 b7 : Int) (h : ByteI b7) : res B82 (.c2 ds.length (ds.map vB) 7 [AV.d (DV.v (Value.int IntKind.u8 b0)), AV.d (DV.v (Value.int IntKind.u8 b1)), AV.d (DV.v (Value.int IntKind.u8 b2)), AV.d (DV.v (Value.int IntKind.u8 b3)), AV.d (DV.v (Value.int IntKind.u8 b4)), AV.d (DV.v (Value.int IntKind.u8 b5)), AV.d (DV.v (Value.int IntKind.u8 b6)), AV.d (DV.v (Value.int IntKind.u8 b7))]) = res B82 (.c2 ds.length (ds.map vB) 8 [AV.d (DV.v (Value.int IntKind.u8 b0)), AV.d (DV.v (Value.int IntKind.u8 b1)), AV.d (DV.v (Value.int IntKind.u8 b2)), AV.d (DV.v (Value.int IntKind.u8 b3)), AV.d (DV.v (Value.int IntKind.u8 b4)), AV.d (DV.v (Value.int IntKind.u8 b5)), AV.d (DV.v (Value.int IntKind.u8 b6)), AV.d (DV.v (Value.int IntKind.u8 (fS 7 b7 ds)))]) := by
  have e := s143_c3 hd hl (j := 7) ⟨by decide, by decide⟩ a0 a1 a2 a3 a4 a5 a6 a7 b0 b1 b2 b3 b4 b5 b6 b7 ds.length 0 b7 (by omega) h
  have ca : dI (celA [AV.d (DV.v (Value.int IntKind.u8 b0)), AV.d (DV.v (Value.int IntKind.u8 b1)), AV.d (DV.v (Value.int IntKind.u8 b2)), AV.d (DV.v (Value.int IntKind.u8 b3)), AV.d (DV.v (Value.int IntKind.u8 b4)), AV.d (DV.v (Value.int IntKind.u8 b5)), AV.d (DV.v (Value.int IntKind.u8 b6)), AV.d (DV.v (Value.int IntKind.u8 b7))] (0 + Int.toNat 7 * 1)) = b7 := rfl
  have cg : ([AV.d (DV.v (Value.int IntKind.u8 b0)), AV.d (DV.v (Value.int IntKind.u8 b1)), AV.d (DV.v (Value.int IntKind.u8 b2)), AV.d (DV.v (Value.int IntKind.u8 b3)), AV.d (DV.v (Value.int IntKind.u8 b4)), AV.d (DV.v (Value.int IntKind.u8 b5)), AV.d (DV.v (Value.int IntKind.u8 b6)), AV.d (DV.v (Value.int IntKind.u8 b7))] : List AV)[0 + Int.toNat 7 * 1]? = some (AV.d (DV.v (Value.int IntKind.u8 b7))) := rfl
  have hw := wu (fS_b 7 ds b7 h)
  have w := wb h
  have n0 : ¬ ((ds.length : Int) < (ds.length : Int)) := Int.lt_irrefl _
  have sp : ∀ v, spliceA [AV.d (DV.v (Value.int IntKind.u8 b0)), AV.d (DV.v (Value.int IntKind.u8 b1)), AV.d (DV.v (Value.int IntKind.u8 b2)), AV.d (DV.v (Value.int IntKind.u8 b3)), AV.d (DV.v (Value.int IntKind.u8 b4)), AV.d (DV.v (Value.int IntKind.u8 b5)), AV.d (DV.v (Value.int IntKind.u8 b6)), AV.d (DV.v (Value.int IntKind.u8 b7))] (0 + Int.toNat 7 * 1) [v] = [AV.d (DV.v (Value.int IntKind.u8 b0)), AV.d (DV.v (Value.int IntKind.u8 b1)), AV.d (DV.v (Value.int IntKind.u8 b2)), AV.d (DV.v (Value.int IntKind.u8 b3)), AV.d (DV.v (Value.int IntKind.u8 b4)), AV.d (DV.v (Value.int IntKind.u8 b5)), AV.d (DV.v (Value.int IntKind.u8 b6)), v] := fun _ => rfl
  have q1 : (0 : Int) ≤ 7 := by decide
  have q2 : (7 : Int) < 8 := by decide
  have q3 : 0 + Int.toNat 7 * 1 + 1 ≤ ([AV.d (DV.v (Value.int IntKind.u8 b0)), AV.d (DV.v (Value.int IntKind.u8 b1)), AV.d (DV.v (Value.int IntKind.u8 b2)), AV.d (DV.v (Value.int IntKind.u8 b3)), AV.d (DV.v (Value.int IntKind.u8 b4)), AV.d (DV.v (Value.int IntKind.u8 b5)), AV.d (DV.v (Value.int IntKind.u8 b6)), AV.d (DV.v (Value.int IntKind.u8 b7))] : List AV).length := Nat.le_of_ble_eq_true rfl
  have q4 : inI64 (7 + 1) := by unfold inI64; omega
  have q5 := rk143 b0 b1 b2 b3 b4 b5 b6 b7
  have q6 := rk143 b0 b1 b2 b3 b4 b5 b6 (fS 7 b7 ds)
  have e1 : res B82 (.c2 ds.length (ds.map vB) 7 [AV.d (DV.v (Value.int IntKind.u8 b0)), AV.d (DV.v (Value.int IntKind.u8 b1)), AV.d (DV.v (Value.int IntKind.u8 b2)), AV.d (DV.v (Value.int IntKind.u8 b3)), AV.d (DV.v (Value.int IntKind.u8 b4)), AV.d (DV.v (Value.int IntKind.u8 b5)), AV.d (DV.v (Value.int IntKind.u8 b6)), AV.d (DV.v (Value.int IntKind.u8 b7))]) = res B82 (.c3 ds.length (ds.map vB) 7 b7 (ds.length : Int) 0 [AV.d (DV.v (Value.int IntKind.u8 b0)), AV.d (DV.v (Value.int IntKind.u8 b1)), AV.d (DV.v (Value.int IntKind.u8 b2)), AV.d (DV.v (Value.int IntKind.u8 b3)), AV.d (DV.v (Value.int IntKind.u8 b4)), AV.d (DV.v (Value.int IntKind.u8 b5)), AV.d (DV.v (Value.int IntKind.u8 b6)), AV.d (DV.v (Value.int IntKind.u8 b7))]) := by
    rw [res_eq]
    simp only [B82, sem_br, sem_ask, sem_nxt, sem_triv, sem_ret, PC.holds, need_true, stepO_nxt, stepO_ret, ca, cg, w, q1, q2, q5, decide_true, if_true]
  rw [e1]
  refine Eq.trans e ?_
  rw [res_eq]
  simp only [B82, sem_br, sem_ask, sem_nxt, sem_triv, sem_ret, PC.holds, need_true, stepO_nxt, stepO_ret, n0, List.drop_zero, hw, sp, q1, q2, q3, q4, q6, decide_false, Bool.false_eq_true, if_false]
  rfl
theorem s143_8 (a0 a1 a2 a3 a4 a5 a6 a7 b0 b1 b2 b3 b4 b5 b6 b7 : Int) : res B82 (.c2 ds.length (ds.map vB) 8 [AV.d (DV.v (Value.int IntKind.u8 b0)), AV.d (DV.v (Value.int IntKind.u8 b1)), AV.d (DV.v (Value.int IntKind.u8 b2)), AV.d (DV.v (Value.int IntKind.u8 b3)), AV.d (DV.v (Value.int IntKind.u8 b4)), AV.d (DV.v (Value.int IntKind.u8 b5)), AV.d (DV.v (Value.int IntKind.u8 b6)), AV.d (DV.v (Value.int IntKind.u8 b7))]) = some (b0, b1, b2, b3, b4, b5, b6, b7) := by
  have q1 : ¬ ((8 : Int) < 8) := by decide
  have q2 : 8 ≤ ([AV.d (DV.v (Value.int IntKind.u8 b0)), AV.d (DV.v (Value.int IntKind.u8 b1)), AV.d (DV.v (Value.int IntKind.u8 b2)), AV.d (DV.v (Value.int IntKind.u8 b3)), AV.d (DV.v (Value.int IntKind.u8 b4)), AV.d (DV.v (Value.int IntKind.u8 b5)), AV.d (DV.v (Value.int IntKind.u8 b6)), AV.d (DV.v (Value.int IntKind.u8 b7))] : List AV).length := Nat.le_refl 8
  have q3 : (List.take 8 (List.drop 0 [AV.d (DV.v (Value.int IntKind.u8 b0)), AV.d (DV.v (Value.int IntKind.u8 b1)), AV.d (DV.v (Value.int IntKind.u8 b2)), AV.d (DV.v (Value.int IntKind.u8 b3)), AV.d (DV.v (Value.int IntKind.u8 b4)), AV.d (DV.v (Value.int IntKind.u8 b5)), AV.d (DV.v (Value.int IntKind.u8 b6)), AV.d (DV.v (Value.int IntKind.u8 b7))])) = [AV.d (DV.v (Value.int IntKind.u8 b0)), AV.d (DV.v (Value.int IntKind.u8 b1)), AV.d (DV.v (Value.int IntKind.u8 b2)), AV.d (DV.v (Value.int IntKind.u8 b3)), AV.d (DV.v (Value.int IntKind.u8 b4)), AV.d (DV.v (Value.int IntKind.u8 b5)), AV.d (DV.v (Value.int IntKind.u8 b6)), AV.d (DV.v (Value.int IntKind.u8 b7))] := rfl
  have g0 : dI (celA [AV.d (DV.v (Value.int IntKind.u8 b0)), AV.d (DV.v (Value.int IntKind.u8 b1)), AV.d (DV.v (Value.int IntKind.u8 b2)), AV.d (DV.v (Value.int IntKind.u8 b3)), AV.d (DV.v (Value.int IntKind.u8 b4)), AV.d (DV.v (Value.int IntKind.u8 b5)), AV.d (DV.v (Value.int IntKind.u8 b6)), AV.d (DV.v (Value.int IntKind.u8 b7))] 0) = b0 := rfl
  have g1 : dI (celA [AV.d (DV.v (Value.int IntKind.u8 b0)), AV.d (DV.v (Value.int IntKind.u8 b1)), AV.d (DV.v (Value.int IntKind.u8 b2)), AV.d (DV.v (Value.int IntKind.u8 b3)), AV.d (DV.v (Value.int IntKind.u8 b4)), AV.d (DV.v (Value.int IntKind.u8 b5)), AV.d (DV.v (Value.int IntKind.u8 b6)), AV.d (DV.v (Value.int IntKind.u8 b7))] 1) = b1 := rfl
  have g2 : dI (celA [AV.d (DV.v (Value.int IntKind.u8 b0)), AV.d (DV.v (Value.int IntKind.u8 b1)), AV.d (DV.v (Value.int IntKind.u8 b2)), AV.d (DV.v (Value.int IntKind.u8 b3)), AV.d (DV.v (Value.int IntKind.u8 b4)), AV.d (DV.v (Value.int IntKind.u8 b5)), AV.d (DV.v (Value.int IntKind.u8 b6)), AV.d (DV.v (Value.int IntKind.u8 b7))] 2) = b2 := rfl
  have g3 : dI (celA [AV.d (DV.v (Value.int IntKind.u8 b0)), AV.d (DV.v (Value.int IntKind.u8 b1)), AV.d (DV.v (Value.int IntKind.u8 b2)), AV.d (DV.v (Value.int IntKind.u8 b3)), AV.d (DV.v (Value.int IntKind.u8 b4)), AV.d (DV.v (Value.int IntKind.u8 b5)), AV.d (DV.v (Value.int IntKind.u8 b6)), AV.d (DV.v (Value.int IntKind.u8 b7))] 3) = b3 := rfl
  have g4 : dI (celA [AV.d (DV.v (Value.int IntKind.u8 b0)), AV.d (DV.v (Value.int IntKind.u8 b1)), AV.d (DV.v (Value.int IntKind.u8 b2)), AV.d (DV.v (Value.int IntKind.u8 b3)), AV.d (DV.v (Value.int IntKind.u8 b4)), AV.d (DV.v (Value.int IntKind.u8 b5)), AV.d (DV.v (Value.int IntKind.u8 b6)), AV.d (DV.v (Value.int IntKind.u8 b7))] 4) = b4 := rfl
  have g5 : dI (celA [AV.d (DV.v (Value.int IntKind.u8 b0)), AV.d (DV.v (Value.int IntKind.u8 b1)), AV.d (DV.v (Value.int IntKind.u8 b2)), AV.d (DV.v (Value.int IntKind.u8 b3)), AV.d (DV.v (Value.int IntKind.u8 b4)), AV.d (DV.v (Value.int IntKind.u8 b5)), AV.d (DV.v (Value.int IntKind.u8 b6)), AV.d (DV.v (Value.int IntKind.u8 b7))] 5) = b5 := rfl
  have g6 : dI (celA [AV.d (DV.v (Value.int IntKind.u8 b0)), AV.d (DV.v (Value.int IntKind.u8 b1)), AV.d (DV.v (Value.int IntKind.u8 b2)), AV.d (DV.v (Value.int IntKind.u8 b3)), AV.d (DV.v (Value.int IntKind.u8 b4)), AV.d (DV.v (Value.int IntKind.u8 b5)), AV.d (DV.v (Value.int IntKind.u8 b6)), AV.d (DV.v (Value.int IntKind.u8 b7))] 6) = b6 := rfl
  have g7 : dI (celA [AV.d (DV.v (Value.int IntKind.u8 b0)), AV.d (DV.v (Value.int IntKind.u8 b1)), AV.d (DV.v (Value.int IntKind.u8 b2)), AV.d (DV.v (Value.int IntKind.u8 b3)), AV.d (DV.v (Value.int IntKind.u8 b4)), AV.d (DV.v (Value.int IntKind.u8 b5)), AV.d (DV.v (Value.int IntKind.u8 b6)), AV.d (DV.v (Value.int IntKind.u8 b7))] 7) = b7 := rfl
  rw [res_eq]
  simp only [B82, sem_br, sem_ask, sem_nxt, sem_triv, sem_ret, PC.holds, need_true, stepO_nxt, stepO_ret, q1, q2, q3, g0, g1, g2, g3, g4, g5, g6, g7, decide_false, Bool.false_eq_true, if_false]
theorem F82_eq (hd : ∀ b ∈ ds, ByteI b) (hl : ds.length ≤ 1000) {a0 a1 a2 a3 a4 a5 a6 a7 : Int} (h0 : ByteI a0) (h1 : ByteI a1) (h2 : ByteI a2) (h3 : ByteI a3) (h4 : ByteI a4) (h5 : ByteI a5) (h6 : ByteI a6) (h7 : ByteI a7) : F82 a0 a1 a2 a3 a4 a5 a6 a7 ds.length (ds.map vB) = some (seal8 (a0, a1, a2, a3, a4, a5, a6, a7) ds) := by
  unfold F82; rw [res_eq]
  simp only [B82, sem_br, sem_ask, sem_nxt, sem_triv, sem_ret, PC.holds, need_true, stepO_nxt, stepO_ret]
  refine Eq.trans (s143_0 hd hl a0 a1 a2 a3 a4 a5 a6 a7 h0) ?_
  refine Eq.trans (s143_1 hd hl a0 a1 a2 a3 a4 a5 a6 a7 (fS 0 a0 ds) a1 a2 a3 a4 a5 a6 a7 h1) ?_
  refine Eq.trans (s143_2 hd hl a0 a1 a2 a3 a4 a5 a6 a7 (fS 0 a0 ds) (fS 1 a1 ds) a2 a3 a4 a5 a6 a7 h2) ?_
  refine Eq.trans (s143_3 hd hl a0 a1 a2 a3 a4 a5 a6 a7 (fS 0 a0 ds) (fS 1 a1 ds) (fS 2 a2 ds) a3 a4 a5 a6 a7 h3) ?_
  refine Eq.trans (s143_4 hd hl a0 a1 a2 a3 a4 a5 a6 a7 (fS 0 a0 ds) (fS 1 a1 ds) (fS 2 a2 ds) (fS 3 a3 ds) a4 a5 a6 a7 h4) ?_
  refine Eq.trans (s143_5 hd hl a0 a1 a2 a3 a4 a5 a6 a7 (fS 0 a0 ds) (fS 1 a1 ds) (fS 2 a2 ds) (fS 3 a3 ds) (fS 4 a4 ds) a5 a6 a7 h5) ?_
  refine Eq.trans (s143_6 hd hl a0 a1 a2 a3 a4 a5 a6 a7 (fS 0 a0 ds) (fS 1 a1 ds) (fS 2 a2 ds) (fS 3 a3 ds) (fS 4 a4 ds) (fS 5 a5 ds) a6 a7 h6) ?_
  refine Eq.trans (s143_7 hd hl a0 a1 a2 a3 a4 a5 a6 a7 (fS 0 a0 ds) (fS 1 a1 ds) (fS 2 a2 ds) (fS 3 a3 ds) (fS 4 a4 ds) (fS 5 a5 ds) (fS 6 a6 ds) a7 h7) ?_
  refine Eq.trans (s143_8 a0 a1 a2 a3 a4 a5 a6 a7 (fS 0 a0 ds) (fS 1 a1 ds) (fS 2 a2 ds) (fS 3 a3 ds) (fS 4 a4 ds) (fS 5 a5 ds) (fS 6 a6 ds) (fS 7 a7 ds)) ?_
  rfl
theorem rk105 (b0 b1 b2 b3 b4 b5 b6 b7 : Int) : refK 3 (ABlk.cells [AV.d (DV.v (Value.int IntKind.u8 b0)), AV.d (DV.v (Value.int IntKind.u8 b1)), AV.d (DV.v (Value.int IntKind.u8 b2)), AV.d (DV.v (Value.int IntKind.u8 b3)), AV.d (DV.v (Value.int IntKind.u8 b4)), AV.d (DV.v (Value.int IntKind.u8 b5)), AV.d (DV.v (Value.int IntKind.u8 b6)), AV.d (DV.v (Value.int IntKind.u8 b7))] 23) = true := rfl
end
end
section
open Go Go.RowKit
theorem stS_inj {j x y b : Int} (hj : 0 ≤ j ∧ j ≤ 7) (hx : ByteI x) (hy : ByteI y) (h : stS j x b = stS j y b) : x = y := by
  unfold stS at h
  unfold ByteI at hx hy
  have : j = 0 ∨ j = 1 ∨ j = 2 ∨ j = 3 ∨ j = 4 ∨ j = 5 ∨ j = 6 ∨ j = 7 := by omega
  rcases this with rfl | rfl | rfl | rfl | rfl | rfl | rfl | rfl <;> omega
theorem stS_inj_b {j x b c : Int} (hb : ByteI b) (hc : ByteI c) (h : stS j x b = stS j x c) : b = c := by
  unfold stS at h
  unfold ByteI at hb hc
  generalize (2 * j + 3) * x = m at h
  omega
theorem fS_inj {j : Int} (hj : 0 ≤ j ∧ j ≤ 7) : ∀ (ds : List Int) {x y : Int}, ByteI x → ByteI y → fS j x ds = fS j y ds → x = y
  | [], _, _, _, _, h => h
  | b :: ds, x, y, hx, hy, h => stS_inj hj hx hy (fS_inj hj ds (stS_b j x b) (stS_b j y b) h)
theorem fS_app (j x : Int) (us ws : List Int) : fS j x (us ++ ws) = fS j (fS j x us) ws := by unfold fS; rw [List.foldl_append]
theorem fS_byte {j : Int} (hj : 0 ≤ j ∧ j ≤ 7) {ds : List Int} {i : Nat} (hi : i < ds.length) {c : Int} (hd : ByteI ds[i]) (hc : ByteI c) {x : Int} (h : fS j x (ds.set i c) = fS j x ds) : c = ds[i] := by
  have e1 : ds.set i c = ds.take i ++ (c :: ds.drop (i + 1)) := List.set_eq_take_append_cons_drop ▸ by rw [if_pos hi]
  have e2 : ds = ds.take i ++ (ds[i] :: ds.drop (i + 1)) := by rw [← List.drop_eq_getElem_cons hi, List.take_append_drop]
  rw [e1, fS_app] at h
  have h2 : fS j x ds = fS j (fS j x (ds.take i)) (ds[i] :: ds.drop (i + 1)) := by rw [← fS_app, ← e2]
  rw [h2] at h
  exact stS_inj_b hc hd (fS_inj hj _ (stS_b _ _ _) (stS_b _ _ _) h)
end
section
open Go Go.RowKit
def e8 (x : T8) : List DV := [vB x.1, vB x.2.1, vB x.2.2.1, vB x.2.2.2.1, vB x.2.2.2.2.1, vB x.2.2.2.2.2.1, vB x.2.2.2.2.2.2.1, vB x.2.2.2.2.2.2.2]
theorem e8_len (x : T8) : (e8 x).length = 8 := rfl
def at8 (l : List T8) (i : Nat) : T8 := l.getD i (0, 0, 0, 0, 0, 0, 0, 0)
theorem at8_get {l : List T8} {i : Nat} (hi : i < l.length) : at8 l i = l[i] := by simp [at8, List.getD_eq_getElem?_getD, hi]
structure At8 (L : List DV) (x : T8) (i : Nat) : Prop where
  c0 : dI (cel L (i * 8)) = x.1
  c1 : dI (cel L (i * 8 + 1)) = x.2.1
  c2 : dI (cel L (i * 8 + 2)) = x.2.2.1
  c3 : dI (cel L (i * 8 + 3)) = x.2.2.2.1
  c4 : dI (cel L (i * 8 + 4)) = x.2.2.2.2.1
  c5 : dI (cel L (i * 8 + 5)) = x.2.2.2.2.2.1
  c6 : dI (cel L (i * 8 + 6)) = x.2.2.2.2.2.2.1
  c7 : dI (cel L (i * 8 + 7)) = x.2.2.2.2.2.2.2
  le : i * 8 ≤ L.length
  rm : 8 ≤ (L.drop (i * 8)).length
  row : ((L.drop (i * 8)).take 8).map AV.d = [AV.d (DV.v (Value.int IntKind.u8 x.1)), AV.d (DV.v (Value.int IntKind.u8 x.2.1)), AV.d (DV.v (Value.int IntKind.u8 x.2.2.1)), AV.d (DV.v (Value.int IntKind.u8 x.2.2.2.1)), AV.d (DV.v (Value.int IntKind.u8 x.2.2.2.2.1)), AV.d (DV.v (Value.int IntKind.u8 x.2.2.2.2.2.1)), AV.d (DV.v (Value.int IntKind.u8 x.2.2.2.2.2.2.1)), AV.d (DV.v (Value.int IntKind.u8 x.2.2.2.2.2.2.2))]
theorem k_at {l : List T8} {i : Nat} (hi : i < l.length) : At8 (l.flatMap e8) (at8 l i) i := by
  have hk (k : Nat) (h : k < 8) := fm_cel (enc := e8) e8_len hi h
  obtain ⟨r1, r2⟩ := fm_room (enc := e8) e8_len hi
  rw [at8_get hi]
  have h0 := hk 0 (by decide)
  rw [Nat.add_zero] at h0
  exact ⟨by rw [h0]; rfl, by rw [hk 1 (by decide)]; rfl, by rw [hk 2 (by decide)]; rfl, by rw [hk 3 (by decide)]; rfl, by rw [hk 4 (by decide)]; rfl, by rw [hk 5 (by decide)]; rfl, by rw [hk 6 (by decide)]; rfl, by rw [hk 7 (by decide)]; rfl, r1, r2, by rw [fm_at e8_len hi]; rfl⟩
def blkE (x : E5) : T15 := blk x.1 x.2.1 x.2.2.1 x.2.2.2.1 x.2.2.2.2
def bD (x : T15) : List Int := [x.1, x.2.1, x.2.2.1, x.2.2.2.1, x.2.2.2.2.1, x.2.2.2.2.2.1, x.2.2.2.2.2.2.1, x.2.2.2.2.2.2.2.1, x.2.2.2.2.2.2.2.2.1, x.2.2.2.2.2.2.2.2.2.1, x.2.2.2.2.2.2.2.2.2.2.1, x.2.2.2.2.2.2.2.2.2.2.2.1, x.2.2.2.2.2.2.2.2.2.2.2.2.1, x.2.2.2.2.2.2.2.2.2.2.2.2.2.1, x.2.2.2.2.2.2.2.2.2.2.2.2.2.2, 0]
def eB (x : E5) : List DV := (bD (blkE x)).map vB
theorem eB_len (x : E5) : (eB x).length = 16 := rfl
structure At16 (L : List DV) (x : T15) (i : Nat) : Prop where
  c0 : dI (cel L (i * 16)) = x.1
  c1 : dI (cel L (i * 16 + 1)) = x.2.1
  c2 : dI (cel L (i * 16 + 2)) = x.2.2.1
  c3 : dI (cel L (i * 16 + 3)) = x.2.2.2.1
  c4 : dI (cel L (i * 16 + 4)) = x.2.2.2.2.1
  c5 : dI (cel L (i * 16 + 5)) = x.2.2.2.2.2.1
  c6 : dI (cel L (i * 16 + 6)) = x.2.2.2.2.2.2.1
  c7 : dI (cel L (i * 16 + 7)) = x.2.2.2.2.2.2.2.1
  c8 : dI (cel L (i * 16 + 8)) = x.2.2.2.2.2.2.2.2.1
  c9 : dI (cel L (i * 16 + 9)) = x.2.2.2.2.2.2.2.2.2.1
  c10 : dI (cel L (i * 16 + 10)) = x.2.2.2.2.2.2.2.2.2.2.1
  c11 : dI (cel L (i * 16 + 11)) = x.2.2.2.2.2.2.2.2.2.2.2.1
  c12 : dI (cel L (i * 16 + 12)) = x.2.2.2.2.2.2.2.2.2.2.2.2.1
  c13 : dI (cel L (i * 16 + 13)) = x.2.2.2.2.2.2.2.2.2.2.2.2.2.1
  c14 : dI (cel L (i * 16 + 14)) = x.2.2.2.2.2.2.2.2.2.2.2.2.2.2
  c15 : dI (cel L (i * 16 + 15)) = 0
  le : i * 16 ≤ L.length
  rm : 16 ≤ (L.drop (i * 16)).length
  row : ((L.drop (i * 16)).take 16).map AV.d = [AV.d (DV.v (Value.int IntKind.u8 x.1)), AV.d (DV.v (Value.int IntKind.u8 x.2.1)), AV.d (DV.v (Value.int IntKind.u8 x.2.2.1)), AV.d (DV.v (Value.int IntKind.u8 x.2.2.2.1)), AV.d (DV.v (Value.int IntKind.u8 x.2.2.2.2.1)), AV.d (DV.v (Value.int IntKind.u8 x.2.2.2.2.2.1)), AV.d (DV.v (Value.int IntKind.u8 x.2.2.2.2.2.2.1)), AV.d (DV.v (Value.int IntKind.u8 x.2.2.2.2.2.2.2.1)), AV.d (DV.v (Value.int IntKind.u8 x.2.2.2.2.2.2.2.2.1)), AV.d (DV.v (Value.int IntKind.u8 x.2.2.2.2.2.2.2.2.2.1)), AV.d (DV.v (Value.int IntKind.u8 x.2.2.2.2.2.2.2.2.2.2.1)), AV.d (DV.v (Value.int IntKind.u8 x.2.2.2.2.2.2.2.2.2.2.2.1)), AV.d (DV.v (Value.int IntKind.u8 x.2.2.2.2.2.2.2.2.2.2.2.2.1)), AV.d (DV.v (Value.int IntKind.u8 x.2.2.2.2.2.2.2.2.2.2.2.2.2.1)), AV.d (DV.v (Value.int IntKind.u8 x.2.2.2.2.2.2.2.2.2.2.2.2.2.2)), AV.d (DV.v (Value.int IntKind.u8 0))]
theorem bl_at {l : List E5} {i : Nat} (hi : i < l.length) : At16 (l.flatMap eB) (blkE (at5 l i)) i := by
  have hk (k : Nat) (h : k < 16) := fm_cel (enc := eB) eB_len hi h
  obtain ⟨r1, r2⟩ := fm_room (enc := eB) eB_len hi
  rw [at5_get hi]
  have h0 := hk 0 (by decide)
  rw [Nat.add_zero] at h0
  exact ⟨by rw [h0]; rfl, by rw [hk 1 (by decide)]; rfl, by rw [hk 2 (by decide)]; rfl, by rw [hk 3 (by decide)]; rfl, by rw [hk 4 (by decide)]; rfl, by rw [hk 5 (by decide)]; rfl, by rw [hk 6 (by decide)]; rfl, by rw [hk 7 (by decide)]; rfl, by rw [hk 8 (by decide)]; rfl, by rw [hk 9 (by decide)]; rfl, by rw [hk 10 (by decide)]; rfl, by rw [hk 11 (by decide)]; rfl, by rw [hk 12 (by decide)]; rfl, by rw [hk 13 (by decide)]; rfl, by rw [hk 14 (by decide)]; rfl, by rw [hk 15 (by decide)]; rfl, r1, r2, by rw [fm_at eB_len hi]; rfl⟩
theorem mb (x : Int) : ByteI (x % 256) := by unfold ByteI; omega
theorem bD_b (x : E5) : ∀ b ∈ bD (blkE x), ByteI b := by
  unfold bD blkE blk
  refine List.forall_mem_cons.2 ⟨mb _, ?_⟩
  refine List.forall_mem_cons.2 ⟨mb _, ?_⟩
  refine List.forall_mem_cons.2 ⟨mb _, ?_⟩
  refine List.forall_mem_cons.2 ⟨mb _, ?_⟩
  refine List.forall_mem_cons.2 ⟨mb _, ?_⟩
  refine List.forall_mem_cons.2 ⟨mb _, ?_⟩
  refine List.forall_mem_cons.2 ⟨mb _, ?_⟩
  refine List.forall_mem_cons.2 ⟨mb _, ?_⟩
  refine List.forall_mem_cons.2 ⟨mb _, ?_⟩
  refine List.forall_mem_cons.2 ⟨mb _, ?_⟩
  refine List.forall_mem_cons.2 ⟨mb _, ?_⟩
  refine List.forall_mem_cons.2 ⟨mb _, ?_⟩
  refine List.forall_mem_cons.2 ⟨mb _, ?_⟩
  refine List.forall_mem_cons.2 ⟨mb _, ?_⟩
  refine List.forall_mem_cons.2 ⟨mb _, ?_⟩
  refine List.forall_mem_cons.2 ⟨⟨by decide, by decide⟩, ?_⟩
  intro b hb; cases hb
theorem snocG {enc : E5 → List DV} {l : List E5} {i : Nat} (hi : i < l.length) : (l.take (i + 1)).flatMap enc = (l.take i).flatMap enc ++ enc (at5 l i) := by
  rw [List.take_add_one, at5_get hi, List.getElem?_eq_getElem hi, List.flatMap_append]
  simp only [Option.toList, List.flatMap_cons, List.flatMap_nil, List.append_nil]
theorem F41_E {x : E5} (h : entE x = 0) : F41 x.1 x.2.1 x.2.2.1 x.2.2.2.1 x.2.2.2.2 = some (blkE x) := F41_eq h
def eV (x : E5) : List DV := [vI (entE x)]
def sealE (l : List E5) : Int := if (l.length : Int) > 64 then 5 else firstI (l.map entE)
theorem eV_map : ∀ l : List E5, l.flatMap eV = (l.map entE).map vI
  | [] => rfl
  | x :: l => by simp only [List.flatMap_cons, List.map_cons, eV_map l]; rfl
theorem firstE_drop {l : List E5} {i : Nat} (h : i < l.length) : firstI ((l.drop i).map entE) = if entE (at5 l i) = 0 then firstI ((l.drop (i + 1)).map entE) else entE (at5 l i) := by
  rw [List.drop_eq_getElem_cons h, at5_get h]; rfl
theorem sealE_zero {l : List E5} (h : sealE l = 0) : (l.length : Int) ≤ 64 ∧ ∀ j, j < l.length → entE (at5 l j) = 0 := by
  unfold sealE at h
  split at h
  · contradiction
  · rename_i h64
    refine ⟨by omega, fun j hj => ?_⟩
    have : ∀ (n i : Nat), l.length = i + n → firstI ((l.drop i).map entE) = 0 → ∀ j, i ≤ j → j < l.length → entE (at5 l j) = 0 := by
      intro n
      induction n with
      | zero => intro i hn _ j h1 h2; omega
      | succ n ih =>
        intro i hn hz j h1 h2
        rw [firstE_drop (by omega)] at hz
        split at hz
        · rename_i hx
          by_cases hj : j = i
          · subst hj; exact hx
          · exact ih (i + 1) (by omega) hz j (by omega) h2
        · contradiction
    exact this l.length 0 (by omega) h j (by omega) hj
theorem F98_c2 (l : List E5) (hl : l.length ≤ 1000) (hz : ∀ j, j < l.length → entE (at5 l j) = 0) : ∀ (k i e : Nat), l.length = i + k → res B98 (.c2 e i ((l.take i).flatMap eB) l.length (l.flatMap eE) (l.length : Int) (i : Int) e) = some (l.length, l.flatMap eB)
  | 0, i, e, hk => by
    rw [res_eq]
    have : ¬ ((i : Int) < (l.length : Int)) := by omega
    have h2 : i = l.length := by omega
    subst h2
    simp only [B98, sem_br, sem_ret, this, decide_false, Bool.false_eq_true, if_false, stepO_ret, List.take_length]
  | k + 1, i, e, hk => by
    have hi : i < l.length := by omega
    have h1 : (i : Int) < (l.length : Int) := by omega
    have ih := F98_c2 l hl hz k (i + 1) (e + 1) (by omega)
    have hin : inI64 ((i : Int) + 1) := by unfold inI64; omega
    have hf : fitsN (i + 1) 16 := by unfold fitsN; omega
    have A := ent_at hi
    rw [snocG hi] at ih
    rw [res_eq]
    simp only [B98, sem_br, sem_ask, sem_nxt, sem_triv, sem_sees, sem_ret, sem_bind_some, PC.holds, need_true, Int.toNat_natCast, Int.toNat_zero, A.c0, A.c1, A.c2, A.c3, A.c4, A.le, A.rm, A.row, map_eE, h1, decide_true, if_true, Int.natCast_nonneg, Int.le_refl, stepO_nxt, stepO_ret, hin, hf, F41_E (hz i hi)]
    exact ih
theorem F98_eq (l : List E5) (hl : l.length ≤ 1000) (hz : ∀ j, j < l.length → entE (at5 l j) = 0) : F98 l.length (l.flatMap eE) = some (l.length, l.flatMap eB) := by
  unfold F98; rw [res_eq]
  simp only [B98, sem_nxt, stepO_nxt]
  rw [res_eq]
  by_cases h0 : l = []
  · subst h0; rfl
  · have hi : 0 < l.length := List.length_pos_iff.2 h0
    have h1 : (0 : Int) < (l.length : Int) := by omega
    have hin : inI64 ((0 : Int) + 1) := by unfold inI64; omega
    have A := ent_at hi
    have ih := F98_c2 l hl hz (l.length - 1) 1 0 (by omega)
    rw [snocG hi] at ih
    simp only [B98, sem_br, sem_ask, sem_nxt, sem_triv, sem_sees, sem_ret, sem_bind_some, PC.holds, need_true, Int.toNat_natCast, Int.toNat_zero, A.c0, A.c1, A.c2, A.c3, A.c4, A.le, A.rm, A.row, map_eE, h1, decide_true, if_true, Int.natCast_nonneg, Int.le_refl, stepO_nxt, stepO_ret, hin, F41_E (hz 0 hi)]
    exact ih
def keyB (x : T8) : Prop := ByteI x.1 ∧ ByteI x.2.1 ∧ ByteI x.2.2.1 ∧ ByteI x.2.2.2.1 ∧ ByteI x.2.2.2.2.1 ∧ ByteI x.2.2.2.2.2.1 ∧ ByteI x.2.2.2.2.2.2.1 ∧ ByteI x.2.2.2.2.2.2.2
def keyAt (key : T8) (l : List E5) : Nat → T8
  | 0 => key
  | i + 1 => seal8 (keyAt key l i) (bD (blkE (at5 l i)))
def outs (key : T8) (l : List E5) : Nat → List T8
  | 0 => []
  | i + 1 => outs key l i ++ [keyAt key l (i + 1)]
theorem outs_len (key : T8) (l : List E5) : ∀ i, (outs key l i).length = i
  | 0 => rfl
  | i + 1 => by simp only [outs, List.length_append, outs_len key l i, List.length_singleton]
theorem outs_at (key : T8) (l : List E5) : ∀ (n i : Nat), i < n → at8 (outs key l n) i = keyAt key l (i + 1)
  | 0, i, h => by omega
  | n + 1, i, h => by
    have e := outs_len key l n
    unfold at8 outs
    by_cases hi : i < n
    · rw [List.getD_eq_getElem?_getD, List.getElem?_append_left (by omega), ← List.getD_eq_getElem?_getD]
      exact outs_at key l n i hi
    · have : i = n := by omega
      subst this
      rw [List.getD_eq_getElem?_getD, List.getElem?_append_right (by omega), e, Nat.sub_self]; rfl
theorem outs_snoc (key : T8) (l : List E5) (i : Nat) : (outs key l (i + 1)).flatMap e8 = (outs key l i).flatMap e8 ++ e8 (keyAt key l (i + 1)) := by
  show (outs key l i ++ [keyAt key l (i + 1)]).flatMap e8 = _
  rw [List.flatMap_append, List.flatMap_singleton]
theorem seal8_b {x : T8} (h : keyB x) (ds : List Int) : keyB (seal8 x ds) := by
  obtain ⟨h0, h1, h2, h3, h4, h5, h6, h7⟩ := h
  exact ⟨fS_b _ _ _ h0, fS_b _ _ _ h1, fS_b _ _ _ h2, fS_b _ _ _ h3, fS_b _ _ _ h4, fS_b _ _ _ h5, fS_b _ _ _ h6, fS_b _ _ _ h7⟩
theorem keyAt_b {key : T8} (h : keyB key) (l : List E5) : ∀ i, keyB (keyAt key l i)
  | 0 => h
  | i + 1 => seal8_b (keyAt_b h l i) _
theorem F82_K {k : T8} (h : keyB k) {x : T15} (hd : ∀ b ∈ bD x, ByteI b) : F82 k.1 k.2.1 k.2.2.1 k.2.2.2.1 k.2.2.2.2.1 k.2.2.2.2.2.1 k.2.2.2.2.2.2.1 k.2.2.2.2.2.2.2 16 [DV.v (Value.int IntKind.u8 x.1), DV.v (Value.int IntKind.u8 x.2.1), DV.v (Value.int IntKind.u8 x.2.2.1), DV.v (Value.int IntKind.u8 x.2.2.2.1), DV.v (Value.int IntKind.u8 x.2.2.2.2.1), DV.v (Value.int IntKind.u8 x.2.2.2.2.2.1), DV.v (Value.int IntKind.u8 x.2.2.2.2.2.2.1), DV.v (Value.int IntKind.u8 x.2.2.2.2.2.2.2.1), DV.v (Value.int IntKind.u8 x.2.2.2.2.2.2.2.2.1), DV.v (Value.int IntKind.u8 x.2.2.2.2.2.2.2.2.2.1), DV.v (Value.int IntKind.u8 x.2.2.2.2.2.2.2.2.2.2.1), DV.v (Value.int IntKind.u8 x.2.2.2.2.2.2.2.2.2.2.2.1), DV.v (Value.int IntKind.u8 x.2.2.2.2.2.2.2.2.2.2.2.2.1), DV.v (Value.int IntKind.u8 x.2.2.2.2.2.2.2.2.2.2.2.2.2.1), DV.v (Value.int IntKind.u8 x.2.2.2.2.2.2.2.2.2.2.2.2.2.2), DV.v (Value.int IntKind.u8 0)] = some (seal8 k (bD x)) := by
  obtain ⟨h0, h1, h2, h3, h4, h5, h6, h7⟩ := h
  exact F82_eq (ds := bD x) hd (Nat.le_of_ble_eq_true rfl) h0 h1 h2 h3 h4 h5 h6 h7
theorem F97_c2 {key : T8} (hkey : keyB key) (l : List E5) (hl : l.length ≤ 1000) : ∀ (k i e : Nat) (x : T8), l.length = i + k → x = keyAt key l i → res B97 (.c2 e i ((outs key l i).flatMap e8) l.length (l.flatMap eB) (l.length : Int) (i : Int) x.1 x.2.1 x.2.2.1 x.2.2.2.1 x.2.2.2.2.1 x.2.2.2.2.2.1 x.2.2.2.2.2.2.1 x.2.2.2.2.2.2.2 e) = some (l.length, (outs key l l.length).flatMap e8, 0)
  | 0, i, e, x, hk, _ => by
    rw [res_eq]
    have : ¬ ((i : Int) < (l.length : Int)) := by omega
    have h2 : i = l.length := by omega
    subst h2
    simp only [B97, sem_br, sem_ret, this, decide_false, Bool.false_eq_true, if_false, stepO_ret]
  | k + 1, i, e, x, hk, hx => by
    have hi : i < l.length := by omega
    have h1 : (i : Int) < (l.length : Int) := by omega
    have ih := F97_c2 hkey l hl k (i + 1) (e + 1) _ (by omega) rfl
    have hin : inI64 ((i : Int) + 1) := by unfold inI64; omega
    have hf : fitsN (i + 1) 8 := by unfold fitsN; omega
    have A := bl_at hi
    have hb := keyAt_b hkey l i
    rw [← hx] at hb
    have f := F82_K hb (bD_b (at5 l i))
    have e1 : seal8 x (bD (blkE (at5 l i))) = keyAt key l (i + 1) := by rw [hx]; rfl
    rw [e1] at f
    rw [outs_snoc] at ih
    rw [res_eq]
    simp only [B97, sem_br, sem_ask, sem_nxt, sem_triv, sem_sees, sem_ret, sem_bind_some, PC.holds, need_true, Int.toNat_natCast, Int.toNat_zero, A.c0, A.c1, A.c2, A.c3, A.c4, A.c5, A.c6, A.c7, A.c8, A.c9, A.c10, A.c11, A.c12, A.c13, A.c14, A.c15, A.le, A.rm, A.row, h1, decide_true, if_true, Int.natCast_nonneg, Int.le_refl, stepO_nxt, stepO_ret, hin, hf, f]
    exact ih
theorem F97_eq {key : T8} (hkey : keyB key) (l : List E5) (hl : l.length ≤ 256) : F97 key.1 key.2.1 key.2.2.1 key.2.2.2.1 key.2.2.2.2.1 key.2.2.2.2.2.1 key.2.2.2.2.2.2.1 key.2.2.2.2.2.2.2 l.length (l.flatMap eB) = some (l.length, (outs key l l.length).flatMap e8, 0) := by
  have hl' : ¬ (l.length : Int) > 256 := by omega
  unfold F97; rw [res_eq]
  simp only [B97, sem_br, sem_nxt, hl', decide_false, Bool.false_eq_true, if_false, stepO_nxt]
  rw [res_eq]
  by_cases h0 : l = []
  · subst h0; rfl
  · have hi : 0 < l.length := List.length_pos_iff.2 h0
    have h1 : (0 : Int) < (l.length : Int) := by omega
    have hin : inI64 ((0 : Int) + 1) := by unfold inI64; omega
    have A := bl_at hi
    have f := F82_K hkey (bD_b (at5 l 0))
    have e1 : seal8 key (bD (blkE (at5 l 0))) = keyAt key l 1 := rfl
    rw [e1] at f
    have ih := F97_c2 hkey l (by omega) (l.length - 1) 1 0 _ (by omega) rfl
    rw [outs_snoc] at ih
    simp only [B97, sem_br, sem_ask, sem_nxt, sem_triv, sem_sees, sem_ret, sem_bind_some, PC.holds, need_true, Int.toNat_natCast, Int.toNat_zero, A.c0, A.c1, A.c2, A.c3, A.c4, A.c5, A.c6, A.c7, A.c8, A.c9, A.c10, A.c11, A.c12, A.c13, A.c14, A.c15, A.le, A.rm, A.row, h1, decide_true, if_true, Int.natCast_nonneg, Int.le_refl, stepO_nxt, stepO_ret, hin, f]
    exact ih
theorem F57_eq {key : T8} (hkey : keyB key) (l : List E5) (hl : l.length ≤ 256) (hz : ∀ j, j < l.length → entE (at5 l j) = 0) : F57 key.1 key.2.1 key.2.2.1 key.2.2.2.1 key.2.2.2.2.1 key.2.2.2.2.2.1 key.2.2.2.2.2.2.1 key.2.2.2.2.2.2.2 l.length (l.flatMap eE) = some (l.length, (outs key l l.length).flatMap e8) := by
  unfold F57; rw [res_eq]
  simp only [B57, F98_eq l (by omega) hz, F97_eq hkey l hl, sem_bind_some, sem_sees, sem_ret, stepO_ret]
end
section
open Go Go.RowKit
abbrev or8 (x c : Int) : Int := IntKind.i64.wrap (↑(BitVec.ofInt 64 (IntKind.i64.wrap (x * 256)) ||| BitVec.ofInt 64 (IntKind.i64.wrap c)).toNat : Int)
abbrev or0 (c : Int) : Int := IntKind.i64.wrap (↑(BitVec.ofInt 64 0 ||| BitVec.ofInt 64 (IntKind.i64.wrap c)).toNat : Int)
theorem bv_nat {n : Int} (h0 : 0 ≤ n) (h1 : n < 9223372036854775808) : (BitVec.ofInt 64 n).toNat = n.toNat := by
  rw [BitVec.toNat_ofInt]
  have : n % (2 ^ 64 : Nat) = n := Int.emod_eq_of_lt h0 (by omega)
  rw [this]
theorem or0_eq {c : Int} (h0 : 0 ≤ c) (h1 : c ≤ 255) : or0 c = c := by
  have e1 : IntKind.i64.wrap c = c := wrap_in (by unfold inI64; omega)
  have e2 : (BitVec.ofInt 64 0 ||| BitVec.ofInt 64 c) = BitVec.ofInt 64 c := by
    rw [show BitVec.ofInt 64 0 = 0#64 from rfl, BitVec.zero_or]
  unfold or0
  rw [e1, e2, bv_nat h0 (by omega), Int.toNat_of_nonneg h0, e1]
theorem or8_eq {x c : Int} (x0 : 0 ≤ x) (x1 : x ≤ 4294967296) (h0 : 0 ≤ c) (h1 : c ≤ 255) : or8 x c = 256 * x + c := by
  have e1 : IntKind.i64.wrap c = c := wrap_in (by unfold inI64; omega)
  have e2 : IntKind.i64.wrap (x * 256) = x * 256 := wrap_in (by unfold inI64; omega)
  unfold or8
  rw [e1, e2, BitVec.toNat_or, bv_nat (by omega) (by omega), bv_nat h0 (by omega)]
  have e3 : (x * 256).toNat = 2 ^ 8 * x.toNat := by omega
  have e4 : c.toNat < 2 ^ 8 := by omega
  rw [e3, ← Nat.two_pow_add_eq_or_of_lt e4]
  have e5 : ((2 ^ 8 * x.toNat + c.toNat : Nat) : Int) = 256 * x + c := by omega
  rw [e5]
  exact wrap_in (by unfold inI64; omega)
def by4 (a b c d : Int) : Int := 256 * (256 * (256 * a + b) + c) + d
def by3 (a b c : Int) : Int := 256 * (256 * a + b) + c
theorem or_4 {a b c d : Int} (ha : ByteI a) (hb : ByteI b) (hc : ByteI c) (hd : ByteI d) : or8 (or8 (or8 (or0 a) b) c) d = by4 a b c d := by
  unfold ByteI at *
  rw [or0_eq ha.1 ha.2, or8_eq (x := a) ha.1 (by omega) hb.1 hb.2, or8_eq (by omega) (by omega) hc.1 hc.2, or8_eq (by omega) (by omega) hd.1 hd.2]
  rfl
theorem or_3 {a b c : Int} (ha : ByteI a) (hb : ByteI b) (hc : ByteI c) : or8 (or8 (or0 a) b) c = by3 a b c := by
  unfold ByteI at *
  rw [or0_eq ha.1 ha.2, or8_eq (x := a) ha.1 (by omega) hb.1 hb.2, or8_eq (by omega) (by omega) hc.1 hc.2]
  rfl
def unbE (a b c d e f g h i j k l m n o p : Int) : Int := if p = 0 then entI (by4 a b c d) (by4 e f g h) (by3 i j k) (by3 l m n) o else 1
def unbI (a b c d e f g h i j k l m n o p : Int) : Int × Int × Int × Int × Int × Int := if unbE a b c d e f g h i j k l m n o p = 0 then (by4 a b c d, by4 e f g h, by3 i j k, by3 l m n, o, 0) else (0, 0, 0, 0, 0, unbE a b c d e f g h i j k l m n o p)
theorem F16_eq {a b c d e f g h i j k l m n o p : Int} (ha : ByteI a) (hb : ByteI b) (hc : ByteI c) (hd : ByteI d) (he : ByteI e) (hf : ByteI f) (hg : ByteI g) (hh : ByteI h) (hi : ByteI i) (hj : ByteI j) (hk : ByteI k) (hl : ByteI l) (hm : ByteI m) (hn : ByteI n) (ho : ByteI o) : F16 a b c d e f g h i j k l m n o p = some (unbI a b c d e f g h i j k l m n o p) := by
  have e1 := or_4 ha hb hc hd
  have e2 := or_4 he hf hg hh
  have e3 := or_3 hi hj hk
  have e4 := or_3 hl hm hn
  have e5 := or0_eq ho.1 ho.2
  simp only [or8, or0] at e1 e2 e3 e4 e5
  unfold F16; rw [res_eq]
  have hE : firstI [whenI (p != 0) 1, entI (by4 a b c d) (by4 e f g h) (by3 i j k) (by3 l m n) o] = unbE a b c d e f g h i j k l m n o p := by
    unfold unbE whenI
    simp only [firstI]
    by_cases hp : p = 0
    · simp [hp]; intro hh; exact hh.symm
    · simp [hp]
  unfold unbI
  simp only [B16, e1, e2, e3, e4, e5, F55_eq, F43_eq, F54_eq, F42_2, hE, sem_bind_some, sem_sees, sem_br, sem_ret]
  by_cases h0 : unbE a b c d e f g h i j k l m n o p = 0
  · simp only [h0, bne_self_eq_false, Bool.false_eq_true, if_false, if_true, stepO_ret]
  · have h0' : (unbE a b c d e f g h i j k l m n o p != 0) = true := by simpa using h0
    simp only [h0, h0', if_true, if_false, stepO_ret]
end
end Go.Kv
