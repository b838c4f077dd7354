/- MeterRings, in plain Lean. -/
import Derived.Test.YtalhonodbajndaaDoorK4
namespace Go.Kv
set_option linter.unusedVariables false
set_option linter.unusedSimpArgs false
open Go Go.RowKit
set_option maxRecDepth 100000
abbrev U4 : Type := Int × Int × Int × Int
def eU (x : U4) : List DV := [.v (.int .u16 x.1), .v (.int .u16 x.2.1), .v (.int .u16 x.2.2.1), .v (.int .u16 x.2.2.2)]
theorem eU_len (x : U4) : (eU x).length = 4 := rfl
def U16 (n : Int) : Prop := 0 ≤ n ∧ n ≤ 65535
def okU (x : U4) : Prop := U16 x.1 ∧ U16 x.2.1 ∧ U16 x.2.2.1 ∧ U16 x.2.2.2
def atU (l : List U4) (i : Nat) : U4 := l.getD i (0, 0, 0, 0)
structure AtU (L : List DV) (x : U4) (i : Nat) : Prop where
  c0 : dI (cel L (i * 4)) = x.1
  c1 : dI (cel L (i * 4 + 1)) = x.2.1
  c2 : dI (cel L (i * 4 + 2)) = x.2.2.1
  c3 : dI (cel L (i * 4 + 3)) = x.2.2.2
  le : i * 4 ≤ L.length
  rm : 4 ≤ (L.drop (i * 4)).length
  row : ((L.drop (i * 4)).take 4).map AV.d = [AV.d (DV.v (Value.int IntKind.u16 x.1)), AV.d (DV.v (Value.int IntKind.u16 x.2.1)), AV.d (DV.v (Value.int IntKind.u16 x.2.2.1)), AV.d (DV.v (Value.int IntKind.u16 x.2.2.2))]
theorem u_at {l : List U4} {i : Nat} (hi : i < l.length) : AtU (l.flatMap eU) (atU l i) i := by
  have hk (k : Nat) (h : k < 4) := fm_cel (enc := eU) eU_len hi h
  obtain ⟨r1, r2⟩ := fm_room (enc := eU) eU_len hi
  have hg : atU l i = l[i] := by simp [atU, List.getD_eq_getElem?_getD, hi]
  rw [hg]
  refine ⟨?_, ?_, ?_, ?_, r1, r2, ?_⟩
  · have := hk 0 (by decide); rw [Nat.add_zero] at this; rw [this]; rfl
  · rw [hk 1 (by decide)]; rfl
  · rw [hk 2 (by decide)]; rfl
  · rw [hk 3 (by decide)]; rfl
  · rw [fm_at eU_len hi]; rfl

/-- Entries each of which is valid and follows the one before. -/
structure Good (f : Int) (l : List E5) : Prop where
  ent : ∀ j, j < l.length → entE (at5 l j) = 0
  fol : ∀ j, 0 < j → j < l.length → fol (at5 l j) (at5 l (j - 1)) = true
  num : ∀ j, j < l.length → (at5 l j).1 = f + j
theorem at5_drop (l : List E5) (k j : Nat) : at5 (l.drop k) j = at5 l (k + j) := by
  unfold at5; simp [List.getD_eq_getElem?_getD, List.getElem?_drop]
theorem at5_left {l : List E5} {e : E5} {j : Nat} (h : j < l.length) : at5 (l ++ [e]) j = at5 l j := by
  unfold at5; simp [List.getD_eq_getElem?_getD, List.getElem?_append_left h]
theorem at5_right (l : List E5) (e : E5) : at5 (l ++ [e]) l.length = e := by
  unfold at5; simp [List.getD_eq_getElem?_getD]
theorem Good.drop {f : Int} {l : List E5} (h : Good f l) (k : Nat) : Good (f + k) (l.drop k) := by
  refine ⟨fun j hj => ?_, fun j h0 hj => ?_, fun j hj => ?_⟩
  · rw [at5_drop]; rw [List.length_drop] at hj; exact h.ent _ (by omega)
  · rw [List.length_drop] at hj
    have := h.fol (k + j) (by omega) (by omega)
    rw [at5_drop, at5_drop]
    rwa [show k + (j - 1) = k + j - 1 by omega]
  · rw [at5_drop]; rw [List.length_drop] at hj
    have := h.num (k + j) (by omega)
    rw [this]; omega
theorem Good.snoc {f : Int} {l : List E5} (h : Good f l) {e : E5} (he : entE e = 0) (hn : e.1 = f + l.length) (hf : 0 < l.length → Kv.fol e (at5 l (l.length - 1)) = true) : Good f (l ++ [e]) := by
  have hl : (l ++ [e]).length = l.length + 1 := by simp
  refine ⟨fun j hj => ?_, fun j h0 hj => ?_, fun j hj => ?_⟩
  · rw [hl] at hj
    by_cases hx : j < l.length
    · rw [at5_left hx]; exact h.ent j hx
    · have : j = l.length := by omega
      subst this; rw [at5_right]; exact he
  · rw [hl] at hj
    by_cases hx : j < l.length
    · rw [at5_left hx, at5_left (by omega)]; exact h.fol j h0 hx
    · have : j = l.length := by omega
      subst this; rw [at5_right, at5_left (by omega)]; exact hf h0
  · rw [hl] at hj
    by_cases hx : j < l.length
    · rw [at5_left hx]; exact h.num j hx
    · have : j = l.length := by omega
      subst this; rw [at5_right]; exact hn
theorem Good.errAt {f : Int} {l : List E5} (h : Good f l) {j : Nat} (hj : j < l.length) : Kv.errAt l j = 0 := by
  unfold Kv.errAt
  refine firstI_zero .. |>.2 ⟨h.ent j hj, firstI_zero .. |>.2 ⟨?_, rfl⟩⟩
  by_cases h0 : j = 0
  · rw [if_pos h0]
  · rw [if_neg h0, h.fol j (by omega) hj]; rfl
theorem Good.scan {f : Int} {l : List E5} (h : Good f l) : ∀ (k i : Nat), l.length = i + k → Kv.scan l k i = 0
  | 0, _, _ => rfl
  | k + 1, i, hk => by
    unfold Kv.scan
    rw [h.errAt (by omega), if_pos rfl]
    exact h.scan k (i + 1) (by omega)
theorem Good.prof {f : Int} {l : List E5} (h : Good f l) {r : Int} (hr : 1 ≤ r ∧ r ≤ 64) (hl : (l.length : Int) ≤ r) : profI r l = 0 := by
  have h1 : rangeI r 1 64 = 0 := rangeI_zero.2 hr
  have h2 : whenI (decide ((l.length : Int) > r)) 5 = 0 := by
    have : ¬ (l.length : Int) > r := by omega
    simp [whenI, this]
  unfold profI
  rw [if_pos (firstI_zero .. |>.2 ⟨h1, firstI_zero .. |>.2 ⟨h2, rfl⟩⟩)]
  exact h.scan l.length 0 (by omega)
/-- The last ones, as many as there is room for. -/
def lastR (r : Nat) (l : List E5) : List E5 := l.drop (l.length - r)
theorem lastR_len (r : Nat) (l : List E5) : (lastR r l).length = min r l.length := by unfold lastR; simp; omega
theorem lastR_at {r : Nat} {l : List E5} (hr : 1 ≤ r) (hl : 0 < l.length) : at5 (lastR r l) ((lastR r l).length - 1) = at5 l (l.length - 1) := by
  rw [lastR_len]; unfold lastR; rw [at5_drop]; congr 1; omega
theorem st_last (r : Nat) (hr : 1 ≤ r) (l : List E5) (e : E5) : stI (r : Int) (lastR r l) e = lastR r (l ++ [e]) := by
  have hl := lastR_len r l
  unfold stI
  split
  · rename_i h
    have h1 : r ≤ l.length := by omega
    unfold lastR
    rw [List.length_append, List.length_singleton, List.drop_append_of_le_length (by simp; omega), List.drop_drop, show l.length - r + 1 = l.length + 1 - r by omega]
    rw [List.drop_append_of_le_length (by omega)]
  · rename_i h
    have h1 : l.length < r := by omega
    unfold lastR
    rw [List.length_append, List.length_singleton, show l.length - r = 0 by omega, show l.length + 1 - r = 0 by omega]
    rfl
theorem fol_self (e : E5) : fol e e = false := by
  unfold fol
  have : (e.1 == e.1 + 1) = false := by
    have h : ¬ e.1 = e.1 + 1 := by omega
    simpa using h
  rw [this]; rfl
theorem ring_store {f : Int} {all : List E5} (hG : Good f all) {r : Nat} (hr : 1 ≤ r ∧ r ≤ 8) (hl : all.length ≤ 20) {e : E5} (he : entE e = 0) (hn : e.1 = f + all.length) (hf : 0 < all.length → fol e (at5 all (all.length - 1)) = true) :
    F13 (r : Int) (lastR r all).length ((lastR r all).flatMap eE) e.1 e.2.1 e.2.2.1 e.2.2.2.1 e.2.2.2.2 = some ((r : Int), (lastR r (all ++ [e])).length, (lastR r (all ++ [e])).flatMap eE, 0) ∧
    F13 (r : Int) (lastR r (all ++ [e])).length ((lastR r (all ++ [e])).flatMap eE) e.1 e.2.1 e.2.2.1 e.2.2.2.1 e.2.2.2.2 = some (0, 0, [], 11) ∧ Good f (all ++ [e]) := by
  have hG' := hG.snoc he hn hf
  have g1 : profI (r : Int) (lastR r all) = 0 := (hG.drop (all.length - r)).prof (l := lastR r all) ⟨by omega, by omega⟩ (by rw [lastR_len]; omega)
  have g2 : profI (r : Int) (lastR r (all ++ [e])) = 0 := (hG'.drop ((all ++ [e]).length - r)).prof (l := lastR r (all ++ [e])) ⟨by omega, by omega⟩ (by rw [lastR_len]; omega)
  have s1 : storeE (r : Int) (lastR r all) e = 0 := firstI_zero .. |>.2 ⟨g1, firstI_zero .. |>.2 ⟨he, rfl⟩⟩
  have s2 : storeE (r : Int) (lastR r (all ++ [e])) e = 0 := firstI_zero .. |>.2 ⟨g2, firstI_zero .. |>.2 ⟨he, rfl⟩⟩
  have l1 := lastR_len r all
  have l2 := lastR_len r (all ++ [e])
  have hla : (all ++ [e]).length = all.length + 1 := by simp
  have o1 : okF (lastR r all) e = true := by
    unfold okF
    split
    · rename_i h
      rw [lastR_at hr.1 (by omega)]; exact hf (by omega)
    · rfl
  have o2 : ¬ okF (lastR r (all ++ [e])) e = true := by
    unfold okF
    rw [if_pos (by omega), lastR_at hr.1 (by omega), hla, Nat.add_sub_cancel, at5_right, fol_self]
    decide
  refine ⟨?_, ?_, hG'⟩
  · rw [F13_eq _ _ _ (by omega), if_pos s1, if_pos o1, st_last r hr.1]
  · rw [F13_eq _ _ _ (by omega), if_pos s2, if_neg o2]

/-! the greatest -/
def Inv (l : List E5) (w i : Nat) (b n : Int) : Prop := (i = 0 ∧ b = -1) ∨ ∃ i0, i0 < i ∧ n = (at5 l i0).1 ∧ b = sumI l i0 w ∧ (∀ j, j < i → sumI l j w ≤ b) ∧ ∀ j, j < i0 → sumI l j w < b
theorem great_inv {l : List E5} {w : Nat} (hs : ∀ j, 0 ≤ sumI l j w ∨ l.length < j + w) : ∀ (k i : Nat) (b n : Int), i + k + w ≤ l.length + 1 → Inv l w i b n → Inv l w (i + k) (great l w k i b n).1 (great l w k i b n).2
  | 0, i, b, n, _, h => h
  | k + 1, i, b, n, hk, h => by
    have h0 : 0 ≤ sumI l i w := by rcases hs i with h1 | h1 <;> omega
    unfold great
    split
    · rename_i hb
      have := great_inv hs k (i + 1) (sumI l i w) (at5 l i).1 (by omega) (.inr ⟨i, by omega, rfl, rfl, fun j hj => by
        by_cases hji : j = i
        · subst hji; exact Int.le_refl _
        · rcases h with ⟨rfl, _⟩ | ⟨i0, _, _, _, h4, _⟩
          · omega
          · have := h4 j (by omega); omega, fun j hj => by
        rcases h with ⟨rfl, _⟩ | ⟨i0, _, _, _, h4, _⟩
        · omega
        · have := h4 j hj; omega⟩)
      rwa [show i + (k + 1) = i + 1 + k by omega]
    · rename_i hb
      have := great_inv hs k (i + 1) b n (by omega) (by
        rcases h with ⟨rfl, hb1⟩ | ⟨i0, h1, h2, h3, h4, h5⟩
        · omega
        · exact .inr ⟨i0, by omega, h2, h3, fun j hj => by
            by_cases hji : j = i
            · subst hji; omega
            · exact h4 j (by omega), h5⟩)
      rwa [show i + (k + 1) = i + 1 + k by omega]
theorem sum_split (l : List E5) (i a : Nat) : ∀ b, sumI l i (a + b) = sumI l i a + sumI l (i + a) b
  | 0 => by simp [sumI]
  | b + 1 => by
    have := sum_split l i a b
    rw [show a + (b + 1) = (a + b) + 1 by omega]
    simp only [sumI, this]
    rw [show i + (a + b) = i + a + b by omega]
    omega
theorem sum_part {l : List E5} (h : ∀ j, j < l.length → entE (at5 l j) = 0) {i w : Nat} (hw : i + w ≤ l.length) : sumI l i w ≤ sumI l 0 l.length := by
  have e1 := sum_split l 0 i (l.length - i)
  have e2 := sum_split l i w (l.length - i - w)
  rw [show i + (l.length - i) = l.length by omega, Nat.zero_add] at e1
  rw [show w + (l.length - i - w) = l.length - i by omega] at e2
  have b1 := sum_bd h 0 i (by omega)
  have b2 := sum_bd h (i + w) (l.length - i - w) (by omega)
  omega
section
variable {p : List E5} {f : Int} {r : Nat} {n0 n1 n2 : Int}
theorem ring_c5 (hG : Good f p) (hl : p.length ≤ 20) (w i : Nat) (hw : i + w ≤ p.length) (e e' : Nat) (fr sm wh : Int) : ∀ (k j : Nat), w = j + k →
    res B4 (.c5 e p.length (p.flatMap eE) fr (w : Int) sm wh (i : Int) (sumI p i j) w (((p.drop i).take w).flatMap eE) (w : Int) (j : Int) e') =
    res B4 (.c5 e p.length (p.flatMap eE) fr (w : Int) sm wh (i : Int) (sumI p i w) w (((p.drop i).take w).flatMap eE) (w : Int) (w : Int) e')
  | 0, j, hk => by
    have : j = w := by omega
    subst this; rfl
  | k + 1, j, hk => by
    have hj : j < w := by omega
    have hs : ((p.drop i).take w).length = w := by simp; omega
    have h1 : (j : Int) < (w : Int) := by omega
    have hin : inI64 ((j : Int) + 1) := by unfold inI64; omega
    have A := ent_at (l := (p.drop i).take w) (i := j) (by omega)
    have ih := ring_c5 hG hl w i hw e e' fr sm wh k (j + 1) (by omega)
    have hv : (at5 ((p.drop i).take w) j).2.2.1 = imp p (i + j) := by rw [at5_sub hj hw]; rfl
    have hb := sum_bd hG.ent i (j + 1) (by omega)
    have e1 : sumI p i (j + 1) = sumI p i j + imp p (i + j) := rfl
    have hin2 : inI64 (sumI p i j + imp p (i + j)) := by
      rw [← e1]; unfold inI64
      have : ((j + 1 : Nat) : Int) * 999999 ≤ 100 * 999999 := by omega
      omega
    rw [res_eq]
    simp only [B4, sem_br, sem_ask, sem_nxt, PC.holds, need_true, Int.toNat_natCast, A.c0, A.c1, A.c2, A.c3, A.c4, A.le, A.rm, A.row, map_eE, hv, h1, hin, hin2, decide_true, if_true, Int.natCast_nonneg, stepO_nxt]
    rw [← e1]
    exact ih
theorem ring_c4 (hG : Good f p) (hf : 0 ≤ f ∧ f ≤ 100000) (hl : p.length ≤ 20) (w : Nat) (hw : 1 ≤ w ∧ w ≤ p.length) (e e' : Nat) {sm wh : Int} {i0 : Nat} (hwh : wh = f + i0) (hsm : sm = sumI p i0 w) (h1 : ∀ j, j + w ≤ p.length → sumI p j w ≤ sm) (h2 : ∀ j, j < i0 → sumI p j w < sm) : ∀ (k i : Nat), p.length - w + 1 = i + k →
    res B4 (.c4 e p.length (p.flatMap eE) f (w : Int) sm wh (i : Int) e') = some true
  | 0, i, hk => by
    have h7 : F7 = some true := rfl
    have g1 : inI64 ((i : Int) + (w : Int)) := by unfold inI64; omega
    have g2 : ¬ (i : Int) + (w : Int) ≤ (p.length : Int) := by omega
    rw [res_eq]
    simp only [B4, h7, sem_br, sem_ask, sem_bind_some, sem_sees, sem_ret, PC.holds, need_true, g1, g2, decide_false, Bool.false_eq_true, if_false, stepO_ret]
  | k + 1, i, hk => by
    have ih := ring_c4 hG hf hl w hw e e' hwh hsm h1 h2 k (i + 1) (by omega)
    have g1 : inI64 ((i : Int) + (w : Int)) := by unfold inI64; omega
    have g2 : (i : Int) + (w : Int) ≤ (p.length : Int) := by omega
    have g3 : (i : Int) ≤ (i : Int) + (w : Int) := by omega
    have g4 : ((i : Int) + (w : Int)).toNat - i = w := by omega
    have g5 : inI64 ((i : Int) + 1) := by unfold inI64; omega
    have g6 : inI64 (f + (i : Int)) := by unfold inI64; omega
    obtain ⟨s1, s2⟩ := sub_sl p i w (by omega)
    have hc5 := ring_c5 hG hl w i (by omega) e e' f sm wh w 0 (by omega)
    rw [res_eq]
    simp only [B4, sem_br, sem_ask, sem_nxt, PC.holds, need_true, Int.toNat_natCast, g1, g2, g3, g4, s2, fm_len eE_len, Int.natCast_nonneg, decide_true, if_true, stepO_nxt]
    refine Eq.trans hc5 ?_
    have u1 := h1 i (by omega)
    have v1 : ¬ sumI p i w > sm := by omega
    rw [res_eq]
    by_cases heq : sumI p i w = sm
    · have v2 : (sumI p i w == sm) = true := by simpa using heq
      have hge : i0 ≤ i := by
        apply Classical.byContradiction; intro hn
        have := h2 i (by omega); omega
      have v3 : ¬ f + (i : Int) < wh := by omega
      have v4 : (sumI p i w != sm) = false := by simpa using heq
      simp only [B4, sem_triv, sem_br, sem_ask, sem_nxt, PC.holds, need_true, Int.lt_irrefl, v1, v2, v3, v4, g5, g6, decide_false, Bool.false_eq_true, if_false, if_true, beq_self_eq_true, ite_self, stepO_nxt]
      exact ih
    · have v2 : (sumI p i w == sm) = false := by simpa using heq
      have v3 : (f + (i : Int) == wh) = false := by
        have : i ≠ i0 := by intro hn; subst hn; exact heq hsm.symm
        have : ¬ f + (i : Int) = wh := by omega
        simpa using this
      simp only [B4, sem_triv, sem_br, sem_ask, sem_nxt, PC.holds, need_true, Int.lt_irrefl, v1, v2, v3, g5, g6, decide_false, Bool.false_eq_true, if_false, beq_self_eq_true, stepO_nxt]
      exact ih
theorem ring_c3s (hG : Good f p) (hl : p.length ≤ 20) (e e' : Nat) (fr to rm : Int) (q : Nat) (qs : List DV) : ∀ (k j : Nat), p.length = j + k →
    res B4 (.c3 e p.length (p.flatMap eE) fr to (sumI p 0 j) (p.length : Int) (j : Int) n0 n1 n2 rm q qs e') =
    res B4 (.c3 e p.length (p.flatMap eE) fr to (sumI p 0 p.length) (p.length : Int) (p.length : Int) n0 n1 n2 rm q qs e')
  | 0, j, hk => by
    have : j = p.length := by omega
    subst this; rfl
  | k + 1, j, hk => by
    have hj : j < p.length := by omega
    have h1 : (j : Int) < (p.length : Int) := by omega
    have hin : inI64 ((j : Int) + 1) := by unfold inI64; omega
    have A := ent_at hj
    have ih := ring_c3s hG hl e e' fr to rm q qs k (j + 1) (by omega)
    have hb := sum_bd hG.ent 0 (j + 1) (by omega)
    have e1 : sumI p 0 (j + 1) = sumI p 0 j + (at5 p j).2.2.1 := by show sumI p 0 j + imp p (0 + j) = _; rw [Nat.zero_add]; rfl
    have hin2 : inI64 (sumI p 0 j + (at5 p j).2.2.1) := by
      rw [← e1]; unfold inI64
      have : ((j + 1 : Nat) : Int) * 999999 ≤ 100 * 999999 := by omega
      omega
    rw [res_eq]
    simp only [B4, sem_br, sem_ask, sem_nxt, PC.holds, need_true, Int.toNat_natCast, A.c0, A.c1, A.c2, A.c3, A.c4, A.le, A.rm, A.row, map_eE, h1, hin, hin2, decide_true, if_true, Int.natCast_nonneg, stepO_nxt]
    rw [← e1]
    exact ih
theorem ring_c3 (hG : Good f p) (hf : 0 ≤ f ∧ f ≤ 100000) (hr : 1 ≤ r ∧ r ≤ 8) (hp : 1 ≤ p.length ∧ p.length ≤ r) (hn2 : U16 n2) (e e' : Nat) :
    res B4 (.c3 e p.length (p.flatMap eE) f (f + p.length) 0 (p.length : Int) 0 n0 n1 n2 (r : Int) p.length (p.flatMap eE) e') = some true := by
  have hc := ring_c3s (n0 := n0) (n1 := n1) (n2 := n2) hG (by omega) e e' f (f + p.length) (r : Int) p.length (p.flatMap eE) p.length 0 (by omega)
  have z0 : sumI p 0 0 = 0 := rfl
  rw [z0] at hc
  refine Eq.trans hc ?_
  have hP : profI (r : Int) p = 0 := hG.prof ⟨by omega, by omega⟩ (by omega)
  have f14 : F14 (r : Int) p.length (p.flatMap eE) = some ((r : Int), p.length, p.flatMap eE) := F14_eq _ _ (by omega)
  have hw2 : (IntKind.i64.wrap n2).tmod (p.length : Int) = n2 % (p.length : Int) := by
    unfold U16 at hn2
    rw [wrap_in (by unfold inI64; omega), Int.tmod_eq_emod_of_nonneg hn2.1]
  have hm0 := Int.emod_nonneg n2 (show (p.length : Int) ≠ 0 by omega)
  have hm1 := Int.emod_lt_of_pos n2 (show 0 < (p.length : Int) by omega)
  obtain ⟨w, hw, hw1⟩ : ∃ w : Nat, 1 + n2 % (p.length : Int) = (w : Int) ∧ (1 ≤ w ∧ w ≤ p.length) := ⟨(1 + n2 % (p.length : Int)).toNat, by omega, by omega, by omega⟩
  have gE : ∀ v : Nat, 1 ≤ v → v ≤ p.length → grE (r : Int) (v : Int) p = 0 := by
    intro v v1 v2
    refine firstI_zero .. |>.2 ⟨hP, firstI_zero .. |>.2 ⟨rangeI_zero.2 ⟨by omega, by omega⟩, firstI_zero .. |>.2 ⟨?_, rfl⟩⟩⟩
    have : ¬ (p.length : Int) < (v : Int) := by omega
    simp [whenI, this]
  have nonneg : ∀ v j, 0 ≤ sumI p j v ∨ p.length < j + v := by
    intro v j
    by_cases h : j + v ≤ p.length
    · exact .inl (sum_bd hG.ent j v h).1
    · exact .inr (by omega)
  have spec : ∀ v : Nat, 1 ≤ v → v ≤ p.length → ∃ i0, i0 + v ≤ p.length ∧ (grI p (v : Int)).2 = f + (i0 : Int) ∧ (grI p (v : Int)).1 = sumI p i0 v ∧ (∀ j, j + v ≤ p.length → sumI p j v ≤ (grI p (v : Int)).1) ∧ ∀ j, j < i0 → sumI p j v < (grI p (v : Int)).1 := by
    intro v v1 v2
    have hi := great_inv (l := p) (w := v) (nonneg v) (p.length - v + 1) 0 (-1) 0 (by omega) (.inl ⟨rfl, rfl⟩)
    have hgr : grI p (v : Int) = great p v (p.length - v + 1) 0 (-1) 0 := by unfold grI; rw [Int.toNat_natCast]
    rw [hgr]
    rcases hi with ⟨h, _⟩ | ⟨i0, h1, h2, h3, h4, h5⟩
    · omega
    · exact ⟨i0, by omega, by rw [h2, hG.num i0 (by omega)], h3, fun j hj => h4 j (by omega), h5⟩
  obtain ⟨i1, a1, a2, a3, _, _⟩ := spec p.length (by omega) (Nat.le_refl _)
  have hi1 : i1 = 0 := by omega
  subst hi1
  obtain ⟨i0, b1, b2, b3, b4, b5⟩ := spec w hw1.1 hw1.2
  have f19 : F19 (r : Int) p.length (p.flatMap eE) (p.length : Int) = some ((grI p (p.length : Int)).1, (grI p (p.length : Int)).2, 0) := by
    rw [F19_eq _ _ _ (by omega), if_pos (gE p.length (by omega) (Nat.le_refl _))]
  have f19w : F19 (r : Int) p.length (p.flatMap eE) (w : Int) = some ((grI p (w : Int)).1, (grI p (w : Int)).2, 0) := by
    rw [F19_eq _ _ _ (by omega), if_pos (gE w hw1.1 hw1.2)]
  have hc4 := ring_c4 hG hf (by omega) w hw1 e e' b2 b3 b4 b5 (p.length - w + 1) 0 (by omega)
  have hpart := sum_part hG.ent b1
  have g0 : (p.length : Int) ≠ 0 := by omega
  have g1 : inI64 (w : Int) := by unfold inI64; omega
  have c1 : ((grI p (p.length : Int)).1 != sumI p 0 p.length) = false := by rw [a3]; simp
  have c2 : ((grI p (p.length : Int)).2 != f) = false := by rw [a2]; simp
  have c3 : ¬ (grI p (w : Int)).2 < f := by rw [b2]; omega
  have c4 : inI64 ((grI p (w : Int)).2 + (w : Int)) := by rw [b2]; unfold inI64; omega
  have c5 : ¬ (grI p (w : Int)).2 + (w : Int) > f + (p.length : Int) := by rw [b2]; omega
  have c6 : ¬ (grI p (w : Int)).1 > sumI p 0 p.length := by rw [b3]; omega
  rw [res_eq]
  simp only [B4, f14, f19, f19w, hw2, hw, g0, g1, c1, c2, c3, c4, c5, c6, sem_bind_some, sem_sees, sem_triv, sem_br, sem_ask, sem_nxt, PC.holds, need_true, Int.lt_irrefl, ne_eq, not_false_eq_true, bne_self_eq_false, decide_false, Bool.false_eq_true, if_false, beq_self_eq_true, stepO_nxt]
  exact hc4
end
/-- What is read of the last entries. -/
theorem rd_all {f : Int} {p : List E5} (hG : Good f p) (hf : 0 ≤ f) (hp : 1 ≤ p.length) : rdI p f (f + p.length) = (p, 0) ∧ rdI p f (f + p.length + 1) = ([], 7) ∧ (f > 0 → rdI p (f - 1) (f + p.length) = ([], 35)) := by
  have hfst : (at5 p 0).1 = f := by have := hG.num 0 (by omega); simpa using this
  have hne : ¬ (p.length : Int) = 0 := by omega
  refine ⟨?_, ?_, fun h0 => ?_⟩
  · have hs : spE f (f + p.length) = 0 := by unfold spE; rw [if_neg (by omega)]
    unfold rdI
    rw [if_neg (by rw [hs]; simp), if_neg (by omega), if_neg hne, hfst, if_neg (by omega), if_neg (by omega), show f - f = 0 by omega]
    rw [show (f + (p.length : Int) - f).toNat - (0 : Int).toNat = p.length by omega]
    simp
  · have hs : spE f (f + p.length + 1) = 0 := by unfold spE; rw [if_neg (by omega)]
    unfold rdI
    rw [if_neg (by rw [hs]; simp), if_neg (by omega), if_neg hne, hfst, if_neg (by omega), if_pos (by omega)]
  · have hs : spE (f - 1) (f + p.length) = 0 := by unfold spE; rw [if_neg (by omega)]
    unfold rdI
    rw [if_neg (by rw [hs]; simp), if_neg (by omega), if_neg hne, hfst, if_pos (by omega)]
section
variable {f : Int} {r : Nat} {n0 n1 n2 : Int}
/-- Behind the loop. -/
theorem ring_end {all : List E5} (hG : Good f all) (hf : 0 ≤ f ∧ f ≤ 70000) (hr : 1 ≤ r ∧ r ≤ 8) (hl : 1 ≤ all.length ∧ all.length ≤ 12) (hn2 : U16 n2) (e : Nat) (tk : Int) (D : List DV) :
    res B4 (.c2 (r : Int) f e all.length (all.flatMap eE) tk all.length D (all.length : Int) (all.length : Int) n0 n1 n2 (r : Int) (lastR r all).length ((lastR r all).flatMap eE) e) = some true := by
  obtain ⟨p, hp⟩ : ∃ p, p = lastR r all := ⟨_, rfl⟩
  have hpl : p.length = min r all.length := by rw [hp]; exact lastR_len r all
  have hGp : Good (f + ((all.length - r : Nat) : Int)) p := by rw [hp]; exact hG.drop (all.length - r)
  obtain ⟨g, hg⟩ : ∃ g, g = f + ((all.length - r : Nat) : Int) := ⟨_, rfl⟩
  rw [← hg] at hGp
  have hg1 : 0 ≤ g ∧ g ≤ 100000 := by omega
  have hlo : (if (all.length : Int) - (r : Int) > 0 then (all.length : Int) - (r : Int) else 0) = ((all.length - r : Nat) : Int) := by split <;> omega
  have hd : List.drop ((all.length - r) * 5) (all.flatMap eE) = p.flatMap eE := by rw [fm_drop eE_len, hp]; rfl
  have hn : all.length - (all.length - r) = p.length := by omega
  have hp1 : 1 ≤ p.length := by omega
  have hfst : dI (cel (p.flatMap eE) 0) = g := by
    have := (ent_at (l := p) (i := 0) (by omega)).c0
    rw [Nat.zero_mul] at this
    rw [this, hGp.num 0 (by omega)]; omega
  have hask0 := at_k (l := p) (i := 0) (by omega) 0 g (by decide) (by
    have := hGp.num 0 (by omega)
    show some (vI (at5 p 0).1) = some (vI g)
    rw [this]; simp)
  rw [Nat.zero_mul, List.drop_zero, List.drop_zero] at hask0
  have hlst : (at5 p (p.length - 1)).1 = g + ((p.length - 1 : Nat) : Int) := hGp.num _ (by omega)
  have A := ent_at (l := p) (i := p.length - 1) (by omega)
  have hcl : dI (cel (List.drop ((p.length - 1) * 5) (p.flatMap eE)) 0) = g + ((p.length - 1 : Nat) : Int) := by rw [cel_drop, Nat.add_zero, A.c0, hlst]
  have haskl := at_k (l := p) (i := p.length - 1) (by omega) 0 (g + ((p.length - 1 : Nat) : Int)) (by decide) (by
    show some (vI (at5 p (p.length - 1)).1) = _
    rw [hlst])
  rw [List.drop_zero] at haskl
  have e1 : (p.length : Int) - 1 = ((p.length - 1 : Nat) : Int) := by omega
  have e2 : g + ((p.length - 1 : Nat) : Int) + 1 = g + (p.length : Int) := by omega
  have hP : profI (r : Int) p = 0 := hGp.prof ⟨by omega, by omega⟩ (by omega)
  obtain ⟨r1, r2, r3⟩ := rd_all hGp hg1.1 hp1
  have rE : ∀ a b, spE a b = 0 → readE (r : Int) a b p = 0 := fun a b h => firstI_zero .. |>.2 ⟨hP, firstI_zero .. |>.2 ⟨h, rfl⟩⟩
  have f17 : F17 (r : Int) p.length (p.flatMap eE) g (g + (p.length : Int)) = some (p.length, p.flatMap eE, 0) := by
    have h0 := rE g (g + (p.length : Int)) (by unfold spE; rw [if_neg (by omega)])
    rw [F17_eq _ _ _ _ (by omega), if_neg (by rw [h0]; simp), r1]; rfl
  have f17b : F17 (r : Int) p.length (p.flatMap eE) g (g + (p.length : Int) + 1) = some (0, [], 7) := by
    have h0 := rE g (g + (p.length : Int) + 1) (by unfold spE; rw [if_neg (by omega)])
    rw [F17_eq _ _ _ _ (by omega), if_neg (by rw [h0]; simp), r2]; rfl
  have f14 : F14 (r : Int) p.length (p.flatMap eE) = some ((r : Int), p.length, p.flatMap eE) := F14_eq _ _ (by omega)
  have f16 := F16_same p (by omega)
  have f18 := F18_eq p (by omega)
  have hc3 := ring_c3 (n0 := n0) (n1 := n1) (n2 := n2) hGp hg1 hr ⟨hp1, by omega⟩ hn2 e e
  have i1 : inI64 ((all.length : Int) - (r : Int)) := by unfold inI64; omega
  have i2 : ((all.length - r : Nat) : Int) ≤ (all.length : Int) := by omega
  have i3 : (0 : Int) < (p.length : Int) := by omega
  have i4 : inI64 ((p.length - 1 : Nat) : Int) := by unfold inI64; omega
  have i5 : ((p.length - 1 : Nat) : Int) < (p.length : Int) := by omega
  have i6 : inI64 (g + (p.length : Int)) := by unfold inI64; omega
  have i7 : inI64 (g + (p.length : Int) + 1) := by unfold inI64; omega
  have le1 := A.le
  rw [← hp]
  rw [res_eq]
  by_cases hz : g > 0
  · have f17c : F17 (r : Int) p.length (p.flatMap eE) (g - 1) (g + (p.length : Int)) = some (0, [], 35) := by
      have h0 := rE (g - 1) (g + (p.length : Int)) (by unfold spE; rw [if_neg (by omega)])
      rw [F17_eq _ _ _ _ (by omega), if_neg (by rw [h0]; simp), r3 hz]; rfl
    have i8 : inI64 (g - 1) := by unfold inI64; omega
    simp only [B4, hlo, Int.toNat_natCast, hd, hn, List.drop_zero, hfst, hask0, hcl, haskl, e1, e2, f14, f16, f17, f17b, f17c, f18, hz, i1, i2, i3, i4, i5, i6, i7, i8, le1, Nat.zero_le, sem_bind_some, sem_sees, sem_triv, sem_br, sem_ask, sem_nxt, PC.holds, need_true, Int.lt_irrefl, Int.natCast_nonneg, bne_self_eq_false, Bool.not_true, decide_false, decide_true, Bool.false_eq_true, if_false, if_true, beq_self_eq_true, stepO_nxt]
    exact hc3
  · simp only [B4, hlo, Int.toNat_natCast, hd, hn, List.drop_zero, hfst, hask0, hcl, haskl, e1, e2, f14, f16, f17, f17b, f18, hz, i1, i2, i3, i4, i5, i6, i7, le1, Nat.zero_le, sem_bind_some, sem_sees, sem_triv, sem_br, sem_ask, sem_nxt, PC.holds, need_true, Int.lt_irrefl, Int.natCast_nonneg, bne_self_eq_false, Bool.not_true, decide_false, Bool.false_eq_true, if_false, beq_self_eq_true, stepO_nxt]
    exact hc3
/-- The next entry. -/
def mkE (f tk : Int) (i : Nat) (x : U4) : E5 := (f + i, tk + (1 + x.1), x.2.1, x.2.2.1, x.2.2.2 % 8)
theorem mkE_ok {tk : Int} {i : Nat} {x : U4} (hf : 0 ≤ f ∧ f ≤ 70000) (hi : i ≤ 12) (ht : 0 ≤ tk ∧ tk ≤ 12 * 65536) (hx : okU x) : entE (mkE f tk i x) = 0 := by
  obtain ⟨⟨a1, a2⟩, ⟨b1, b2⟩, ⟨c1, c2⟩, ⟨d1, d2⟩⟩ := hx
  exact entI_zero.2 ⟨⟨by show 0 ≤ f + (i : Int); omega, by show f + (i : Int) ≤ _; omega⟩, ⟨by show 0 ≤ tk + (1 + x.1); omega, by show tk + (1 + x.1) ≤ _; omega⟩, ⟨b1, by show x.2.1 ≤ _; omega⟩, ⟨c1, by show x.2.2.1 ≤ _; omega⟩, ⟨by show 0 ≤ x.2.2.2 % 8; omega, by show x.2.2.2 % 8 ≤ 7; omega⟩⟩
theorem ring_c2 (L : List U4) (hL : L.length ≤ 12) (hok : ∀ x ∈ L, okU x) (hf : 0 ≤ f ∧ f ≤ 70000) (hr : 1 ≤ r ∧ r ≤ 8) (hn2 : U16 n2) : ∀ (k : Nat) (all : List E5) (tk : Int) (e : Nat), L.length = all.length + k → 1 ≤ all.length → Good f all → (at5 all (all.length - 1)).2.1 = tk → 0 ≤ tk → tk ≤ all.length * 65536 →
    res B4 (.c2 (r : Int) f e all.length (all.flatMap eE) tk L.length (L.flatMap eU) (L.length : Int) (all.length : Int) n0 n1 n2 (r : Int) (lastR r all).length ((lastR r all).flatMap eE) e) = some true := by
  intro k
  induction k with
  | zero =>
    intro all tk e hk h1 hG _ _ _
    have : L.length = all.length := by omega
    rw [this]
    exact ring_end hG hf hr ⟨h1, by omega⟩ hn2 e tk _
  | succ k IH =>
    intro all tk e hk h1 hG ht ht0 ht1
    have hi : all.length < L.length := by omega
    have A := u_at hi
    have hx : okU (atU L all.length) := hok _ (by unfold atU; simp [List.getD_eq_getElem?_getD, hi])
    generalize atU L all.length = x at A hx
    obtain ⟨⟨x1, x2⟩, ⟨x3, x4⟩, ⟨x5, x6⟩, ⟨x7, x8⟩⟩ := hx
    have htb : tk ≤ 12 * 65536 := by omega
    have he : entE (mkE f tk all.length x) = 0 := mkE_ok hf (by omega) ⟨ht0, htb⟩ ⟨⟨x1, x2⟩, ⟨x3, x4⟩, ⟨x5, x6⟩, ⟨x7, x8⟩⟩
    have hfol : 0 < all.length → fol (mkE f tk all.length x) (at5 all (all.length - 1)) = true := by
      intro h0
      have hn := hG.num (all.length - 1) (by omega)
      unfold fol
      have e1 : ((mkE f tk all.length x).1 == (at5 all (all.length - 1)).1 + 1) = true := by
        rw [hn]
        have : f + (all.length : Int) = f + ((all.length - 1 : Nat) : Int) + 1 := by omega
        show (f + (all.length : Int) == f + ((all.length - 1 : Nat) : Int) + 1) = true
        simpa using this
      have e2 : (mkE f tk all.length x).2.1 > (at5 all (all.length - 1)).2.1 := by
        rw [ht]; show tk + (1 + x.1) > tk; omega
      rw [if_pos e1]; simpa using e2
    obtain ⟨q1, q2, q3⟩ := ring_store hG hr (by omega) he rfl hfol
    have w1 : IntKind.i64.wrap x.1 = x.1 := wrap_in (by unfold inI64; omega)
    have w2 : IntKind.i64.wrap x.2.1 = x.2.1 := wrap_in (by unfold inI64; omega)
    have w3 : IntKind.i64.wrap x.2.2.1 = x.2.2.1 := wrap_in (by unfold inI64; omega)
    have w4 : (IntKind.i64.wrap x.2.2.2).tmod 8 = x.2.2.2 % 8 := by rw [wrap_in (by unfold inI64; omega), Int.tmod_eq_emod_of_nonneg x7]
    have q1' : F13 (r : Int) (lastR r all).length ((lastR r all).flatMap eE) (f + (all.length : Int)) (tk + (1 + x.1)) x.2.1 x.2.2.1 (x.2.2.2 % 8) = some ((r : Int), (lastR r (all ++ [mkE f tk all.length x])).length, (lastR r (all ++ [mkE f tk all.length x])).flatMap eE, 0) := q1
    have q2' : F13 (r : Int) (lastR r (all ++ [mkE f tk all.length x])).length ((lastR r (all ++ [mkE f tk all.length x])).flatMap eE) (f + (all.length : Int)) (tk + (1 + x.1)) x.2.1 x.2.2.1 (x.2.2.2 % 8) = some (0, 0, [], 11) := q2
    have hle := lastR_len r (all ++ [mkE f tk all.length x])
    have hle0 := lastR_len r all
    have f14 := F14_eq (r : Int) (lastR r all) (by omega)
    have f14' := F14_eq (r : Int) (lastR r (all ++ [mkE f tk all.length x])) (by rw [hle]; omega)
    have f15' := F15_eq (r : Int) (lastR r (all ++ [mkE f tk all.length x])) (by rw [hle]; omega)
    have g0 : (all.length : Int) < (L.length : Int) := by omega
    have g1 : inI64 (1 + x.1) := by unfold inI64; omega
    have g2 : inI64 (tk + (1 + x.1)) := by unfold inI64; omega
    have g3 : inI64 (f + (all.length : Int)) := by unfold inI64; omega
    have g4 : fitsN (all.length + 1) 40 := by unfold fitsN; omega
    have g5 : ¬ ((lastR r (all ++ [mkE f tk all.length x])).length : Int) > (r : Int) := by omega
    have g6 : inI64 ((all.length : Int) + 1) := by unfold inI64; omega
    have hla : (all ++ [mkE f tk all.length x]).length = all.length + 1 := by simp
    have hfl : (all ++ [mkE f tk all.length x]).flatMap eE = all.flatMap eE ++ [DV.v (Value.int IntKind.i64 (f + (all.length : Int))), DV.v (Value.int IntKind.i64 (tk + (1 + x.1))), DV.v (Value.int IntKind.i64 x.2.1), DV.v (Value.int IntKind.i64 x.2.2.1), DV.v (Value.int IntKind.i64 (x.2.2.2 % 8))] := by
      rw [List.flatMap_append]; simp [eE, mkE]
    have ih := IH (all ++ [mkE f tk all.length x]) (tk + (1 + x.1)) (e + 1) (by rw [hla]; omega) (by rw [hla]; omega) q3 (by rw [hla, Nat.add_sub_cancel, at5_right]; rfl) (by omega) (by rw [hla]; push_cast; omega)
    rw [hla, hfl] at ih
    rw [res_eq]
    simp only [B4, Int.toNat_natCast, A.c0, A.c1, A.c2, A.c3, A.le, A.rm, A.row, w1, w2, w3, w4, q1', q2', f14, f14', f15', g0, g1, g2, g3, g4, g5, g6, sem_bind_some, sem_sees, sem_br, sem_ask, sem_nxt, PC.holds, need_true, Int.natCast_nonneg, bne_self_eq_false, decide_true, decide_false, Bool.false_eq_true, if_false, if_true, stepO_nxt]
    exact ih
theorem ring_c1 (L : List U4) (hL : 1 ≤ L.length ∧ L.length ≤ 12) (hok : ∀ x ∈ L, okU x) (hf : 0 ≤ f ∧ f ≤ 70000) (hr : 1 ≤ r ∧ r ≤ 8) (hn2 : U16 n2) :
    res B4 (.c1 (r : Int) f 0 L.length (L.flatMap eU) (L.length : Int) 0 n0 n1 n2) = some true := by
  have hi : 0 < L.length := by omega
  have A := u_at hi
  have hx : okU (atU L 0) := hok _ (by unfold atU; simp [List.getD_eq_getElem?_getD, hi])
  generalize atU L 0 = x at A hx
  obtain ⟨⟨x1, x2⟩, ⟨x3, x4⟩, ⟨x5, x6⟩, ⟨x7, x8⟩⟩ := hx
  have hG0 : Good f [] := ⟨fun j hj => by simp at hj, fun j _ hj => by simp at hj, fun j hj => by simp at hj⟩
  have he : entE (mkE f 0 0 x) = 0 := mkE_ok hf (by omega) ⟨by omega, by omega⟩ ⟨⟨x1, x2⟩, ⟨x3, x4⟩, ⟨x5, x6⟩, ⟨x7, x8⟩⟩
  obtain ⟨q1, q2, q3⟩ := ring_store hG0 hr (by simp) he rfl (fun h => by simp at h)
  have l0 : lastR r ([] : List E5) = [] := by simp [lastR]
  have l1 : lastR r ([] ++ [mkE f 0 0 x]) = [mkE f 0 0 x] := by
    show List.drop (1 - r) [mkE f 0 0 x] = [mkE f 0 0 x]
    rw [show 1 - r = 0 by omega]; rfl
  rw [l0, l1] at q1
  rw [l1] at q2
  have w1 : IntKind.i64.wrap x.1 = x.1 := wrap_in (by unfold inI64; omega)
  have w2 : IntKind.i64.wrap x.2.1 = x.2.1 := wrap_in (by unfold inI64; omega)
  have w3 : IntKind.i64.wrap x.2.2.1 = x.2.2.1 := wrap_in (by unfold inI64; omega)
  have w4 : (IntKind.i64.wrap x.2.2.2).tmod 8 = x.2.2.2 % 8 := by rw [wrap_in (by unfold inI64; omega), Int.tmod_eq_emod_of_nonneg x7]
  have q1' : F13 (r : Int) 0 [] (f + 0) (0 + (1 + x.1)) x.2.1 x.2.2.1 (x.2.2.2 % 8) = some ((r : Int), 1, [mkE f 0 0 x].flatMap eE, 0) := q1
  have q2' : F13 (r : Int) 1 ([mkE f 0 0 x].flatMap eE) (f + 0) (0 + (1 + x.1)) x.2.1 x.2.2.1 (x.2.2.2 % 8) = some (0, 0, [], 11) := q2
  have f14 : F14 (r : Int) 0 [] = some ((r : Int), 0, []) := F14_eq (r : Int) [] (by simp)
  have f14' : F14 (r : Int) 1 ([mkE f 0 0 x].flatMap eE) = some ((r : Int), 1, [mkE f 0 0 x].flatMap eE) := F14_eq (r : Int) [mkE f 0 0 x] (by simp)
  have f15' : F15 (r : Int) 1 ([mkE f 0 0 x].flatMap eE) = some ((r : Int), 1, [mkE f 0 0 x].flatMap eE) := F15_eq (r : Int) [mkE f 0 0 x] (by simp)
  have g0 : (0 : Int) < (L.length : Int) := by omega
  have g1 : inI64 (1 + x.1) := by unfold inI64; omega
  have g2 : inI64 (0 + (1 + x.1)) := by unfold inI64; omega
  have g3 : inI64 (f + 0) := by unfold inI64; omega
  have g5 : ¬ ((1 : Nat) : Int) > (r : Int) := by omega
  have g6 : inI64 ((0 : Int) + 1) := by unfold inI64; omega
  have ih := ring_c2 (n0 := n0) (n1 := n1) (n2 := n2) L hL.2 hok hf hr hn2 (L.length - 1) [mkE f 0 0 x] (0 + (1 + x.1)) 0 (by simp; omega) (by simp) q3 rfl (by omega) (by simp; omega)
  have l1' : lastR r [mkE f 0 0 x] = [mkE f 0 0 x] := l1
  rw [l1'] at ih
  have A0 := A.c0
  rw [res_eq]
  simp only [B4, Int.toNat_zero, A.c0, A.c1, A.c2, A.c3, A.le, A.rm, A.row, w1, w2, w3, w4, q1', q2', f14, f14', f15', g0, g1, g2, g3, g5, g6, sem_bind_some, sem_sees, sem_br, sem_ask, sem_nxt, PC.holds, need_true, Int.le_refl, bne_self_eq_false, decide_true, decide_false, Bool.false_eq_true, if_false, if_true, stepO_nxt]
  exact ih
end
theorem rings_true (L : List U4) (n0 n1 n2 : Int) (hok : ∀ x ∈ L, okU x) (h0 : U16 n0) (h1 : U16 n1) (h2 : U16 n2) : F4 L.length (L.flatMap eU) n0 n1 n2 = some true := by
  have h7 : F7 = some true := rfl
  unfold F4; rw [res_eq]
  by_cases hl : (if decide ((L.length : Int) < 1) = true then true else decide ((L.length : Int) > 12)) = true
  · simp only [B4, hl, h7, sem_triv, sem_br, sem_bind_some, sem_sees, sem_ret, if_true, stepO_ret]
  · have hl' : (if decide ((L.length : Int) < 1) = true then true else decide ((L.length : Int) > 12)) = false := by simpa using hl
    have hL : 1 ≤ L.length ∧ L.length ≤ 12 := by
      by_cases a : (L.length : Int) < 1
      · simp [a] at hl
      · by_cases b : (L.length : Int) > 12
        · simp [b] at hl
        · omega
    unfold U16 at h0 h1
    have e0 : (IntKind.i64.wrap n0).tmod 8 = n0 % 8 := by rw [wrap_in (by unfold inI64; omega), Int.tmod_eq_emod_of_nonneg h0.1]
    have e1 : IntKind.i64.wrap n1 = n1 := wrap_in (by unfold inI64; omega)
    obtain ⟨r, hr, hr1⟩ : ∃ r : Nat, 1 + n0 % 8 = (r : Int) ∧ (1 ≤ r ∧ r ≤ 8) := ⟨(1 + n0 % 8).toNat, by omega, by omega, by omega⟩
    have i1 : inI64 (r : Int) := by unfold inI64; omega
    have hc := ring_c1 (n0 := n0) (n1 := n1) (n2 := n2) (f := n1) L hL hok ⟨by omega, by omega⟩ hr1 h2
    simp only [B4, hl', e0, e1, hr, i1, sem_triv, sem_br, sem_ask, sem_nxt, PC.holds, need_true, Bool.false_eq_true, if_false, stepO_nxt]
    exact hc
end Go.Kv
