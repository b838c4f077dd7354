/- MeterReads, in plain Lean. -/
import Derived.Test.YtalhonodbajndaaDoorKE5
namespace Go.Kv
set_option linter.unusedVariables false
set_option linter.unusedSimpArgs false
open Go Go.RowKit
set_option maxRecDepth 100000
def sl5 (l : List E5) : Nat × List DV := (l.length, l.flatMap eE)
def spE (f t : Int) : Int := if f < 0 ∨ f > t then 14 else 0
/-- What Read hands back of a valid profile. -/
def rdI (l : List E5) (f t : Int) : List E5 × Int :=
  if spE f t ≠ 0 then ([], 14) else if f = t then ([], 0) else if (l.length : Int) = 0 then ([], 7) else
  if f < (at5 l 0).1 then ([], 35) else if t > (at5 l 0).1 + (l.length : Int) then ([], 7) else
  ((l.drop (f - (at5 l 0).1).toNat).take ((t - (at5 l 0).1).toNat - (f - (at5 l 0).1).toNat), 0)
theorem rd_len (l : List E5) (f t : Int) : (rdI l f t).1.length ≤ l.length := by
  unfold rdI
  repeat' split
  all_goals simp
  all_goals omega
section
variable {l : List E5}
theorem first_at (h : 0 < l.length) : dI (cel (List.drop 0 (l.flatMap eE)) 0) = (at5 l 0).1 := by
  have := (ent_at h).c0
  rw [Nat.zero_mul] at this
  exact this
theorem first_ask (h : 0 < l.length) : Option.map AV.d (List.drop 0 (List.drop 0 (l.flatMap eE)))[0]? = some (AV.d (DV.v (Value.int IntKind.i64 (at5 l 0).1))) := by
  have := fm_at (enc := eE) eE_len h
  rw [Nat.zero_mul, ← at5_get h] at this
  have h2 : (l.flatMap eE)[0]? = ((l.flatMap eE).take 5)[0]? := by rw [List.getElem?_take]; simp
  simp only [List.drop_zero] at this ⊢
  rw [h2, this]; rfl
end
theorem F48_eq (l : List E5) (h : 0 < l.length) (hl : l.length ≤ 1000) : F48 l.length (l.flatMap eE) = some (sl5 l) := by
  unfold F48; rw [res_eq]
  have h0 : l.length.beq 0 = false := by
    cases hh : l.length with
    | zero => omega
    | succ n => rfl
  have h1 : fitsN l.length 40 := by unfold fitsN; omega
  simp only [B48, sem_ask, sem_br, sem_ret, PC.holds, need_true, h, h0, h1, fm_len eE_len, Bool.false_eq_true, if_false, stepO_ret, Nat.zero_add, List.nil_append, sl5]
/-- The slice between two numbers. -/
theorem sub_sl (l : List E5) (i n : Nat) (h : i + n ≤ l.length) : ((l.drop i).take n).length = n ∧ List.take (n * 5) (List.drop (i * 5) (l.flatMap eE)) = ((l.drop i).take n).flatMap eE := by
  refine ⟨by simp; omega, ?_⟩
  rw [fm_drop eE_len, fm_take eE_len]
def readE (r f t : Int) (l : List E5) : Int := firstI [profI r l, spE f t]
theorem F17_eq (r f t : Int) (l : List E5) (hl : l.length ≤ 100) : F17 r l.length (l.flatMap eE) f t = some (if readE r f t l ≠ 0 then (0, [], readE r f t l) else ((sl5 (rdI l f t).1).1, (sl5 (rdI l f t).1).2, (rdI l f t).2)) := by
  unfold F17; rw [res_eq]
  by_cases hE : readE r f t l = 0
  · rw [if_neg (by simpa using hE)]
    obtain ⟨hP, hs⟩ := firstI_zero .. |>.1 hE
    obtain ⟨hs, _⟩ := firstI_zero .. |>.1 hs
    obtain ⟨_, _, hent⟩ := prof_zero hP
    have h12 : ¬ f < 0 ∧ ¬ f > t := by unfold spE at hs; split at hs <;> omega
    obtain ⟨h1, h2⟩ := h12
    have hE' : firstI [profI r l, whenI false 14] = 0 := by rw [hP]; rfl
    unfold rdI
    rw [if_neg (by rw [hs]; simp)]
    by_cases h3 : f = t
    · subst h3
      simp only [B17, F44_eq r l (by omega), F38_eq, F35_2, sem_bind_some, sem_sees, sem_ask, sem_br, sem_ret, PC.holds, need_true, h1, h2, hE', bne_self_eq_false, decide_false, Bool.false_eq_true, if_false, beq_self_eq_true, if_true, stepO_ret]
      rfl
    · have h3' : (f == t) = false := by simpa using h3
      by_cases h4 : (l.length : Int) = 0
      · have h4' : ((l.length : Int) == 0) = true := by simpa using h4
        simp only [B17, F44_eq r l (by omega), F38_eq, F35_2, sem_bind_some, sem_sees, sem_ask, sem_br, sem_ret, PC.holds, need_true, h1, h2, h3, h3', h4, h4', hE', bne_self_eq_false, decide_false, Bool.false_eq_true, if_false, if_true, stepO_ret]
        rfl
      · have h4' : ((l.length : Int) == 0) = false := by simpa using h4
        have hp : 0 < l.length := by omega
        have hp' : (0 : Int) < (l.length : Int) := by omega
        obtain ⟨⟨b1, b2⟩, _⟩ := entI_zero.1 (hent 0 hp)
        have hb : dI (cel (l.flatMap eE) 0) = (at5 l 0).1 := by have := first_at hp; rwa [List.drop_zero] at this
        have hasks := first_ask hp
        simp only [List.drop_zero] at hasks
        have i1 : inI64 ((at5 l 0).1 + (l.length : Int)) := by unfold inI64; omega
        generalize hbb : (at5 l 0).1 = b at *
        by_cases h5 : f < b
        · have e5 : ∀ x, firstI [whenI true 35, x] = 35 := fun x => rfl
          simp only [B17, F44_eq r l (by omega), F38_eq, F35_2, sem_bind_some, sem_sees, sem_ask, sem_br, sem_ret, PC.holds, need_true, List.drop_zero, hb, hasks, h1, h2, h3, h3', h4, h4', h5, i1, hp', e5, hE', Nat.zero_le, bne_self_eq_false, decide_false, decide_true, Bool.false_eq_true, if_false, if_true, stepO_ret, show ((35 : Int) != 0) = true from rfl]
          rfl
        · by_cases h6 : t > b + (l.length : Int)
          · have e6 : firstI [whenI false 35, whenI true 7] = 7 := rfl
            simp only [B17, F44_eq r l (by omega), F38_eq, F35_2, sem_bind_some, sem_sees, sem_ask, sem_br, sem_ret, PC.holds, need_true, List.drop_zero, hb, hasks, h1, h2, h3, h3', h4, h4', h5, h6, i1, hp', e6, hE', Nat.zero_le, bne_self_eq_false, decide_false, decide_true, Bool.false_eq_true, if_false, if_true, stepO_ret, show ((7 : Int) != 0) = true from rfl]
            rfl
          · have j1 : inI64 (f - b) := by unfold inI64; omega
            have j2 : inI64 (t - b) := by unfold inI64; omega
            have j3 : 0 ≤ f - b := by omega
            have j4 : f - b ≤ t - b := by omega
            have j5 : t - b ≤ (l.length : Int) := by omega
            obtain ⟨s1, s2⟩ := sub_sl l (f - b).toNat ((t - b).toNat - (f - b).toNat) (by omega)
            have e7 : firstI [whenI false 35, whenI false 7] = 0 := rfl
            have hF : F48 ((t - b).toNat - (f - b).toNat) (((l.drop (f - b).toNat).take ((t - b).toNat - (f - b).toNat)).flatMap eE) = some (sl5 ((l.drop (f - b).toNat).take ((t - b).toNat - (f - b).toNat))) := by
              have := F48_eq ((l.drop (f - b).toNat).take ((t - b).toNat - (f - b).toNat)) (by rw [s1]; omega) (by rw [s1]; omega)
              rwa [s1] at this
            simp only [B17, F44_eq r l (by omega), F38_eq, F35_2, sem_bind_some, sem_sees, sem_ask, sem_br, sem_ret, PC.holds, need_true, List.drop_zero, hb, hasks, h1, h2, h3, h3', h4, h4', h5, h6, i1, hp', j1, j2, j3, j4, j5, s2, hF, fm_len eE_len, e7, hE', Nat.zero_le, bne_self_eq_false, decide_false, Bool.false_eq_true, if_false, stepO_ret]
  · rw [if_pos hE]
    have hE' : (readE r f t l != 0) = true := by simpa using hE
    by_cases h1 : f < 0
    · have hs : spE f t = whenI true 14 := by unfold spE whenI; simp [h1]
      unfold readE at hE' ⊢
      rw [hs] at hE' ⊢
      simp only [B17, F44_eq r l (by omega), F38_eq, F35_2, sem_bind_some, sem_sees, sem_ask, sem_br, sem_ret, PC.holds, need_true, h1, hE', decide_true, if_true, stepO_ret]
    · have hs : spE f t = whenI (decide (f > t)) 14 := by unfold spE whenI; simp [h1]
      unfold readE at hE' ⊢
      rw [hs] at hE' ⊢
      simp only [B17, F44_eq r l (by omega), F38_eq, F35_2, sem_bind_some, sem_sees, sem_ask, sem_br, sem_ret, PC.holds, need_true, h1, hE', decide_false, Bool.false_eq_true, if_false, if_true, stepO_ret]

/-! the greatest sum -/
def imp (l : List E5) (i : Nat) : Int := (at5 l i).2.2.1
def sumI (l : List E5) (i : Nat) : Nat → Int
  | 0 => 0
  | n + 1 => sumI l i n + imp l (i + n)
def great (l : List E5) (w : Nat) : Nat → Nat → Int → Int → Int × Int
  | 0, _, b, n => (b, n)
  | k + 1, i, b, n => if sumI l i w > b then great l w k (i + 1) (sumI l i w) (at5 l i).1 else great l w k (i + 1) b n
theorem sum_bd {l : List E5} (h : ∀ j, j < l.length → entE (at5 l j) = 0) (i : Nat) : ∀ n, i + n ≤ l.length → 0 ≤ sumI l i n ∧ sumI l i n ≤ n * 999999
  | 0, _ => by simp [sumI]
  | n + 1, hn => by
    obtain ⟨h1, h2⟩ := sum_bd h i n (by omega)
    obtain ⟨_, _, ⟨h3, h4⟩, _⟩ := entI_zero.1 (h (i + n) (by omega))
    have e : sumI l i (n + 1) = sumI l i n + (at5 l (i + n)).2.2.1 := rfl
    rw [e]
    constructor
    · omega
    · have : ((n + 1 : Nat) : Int) * 999999 = (n : Int) * 999999 + 999999 := by push_cast; omega
      omega
theorem cel_drop (L : List DV) (i k : Nat) : cel (L.drop i) k = cel L (i + k) := by
  unfold cel
  simp [List.getD_eq_getElem?_getD, List.getElem?_drop]
theorem at_k {l : List E5} {i : Nat} (hi : i < l.length) (k : Nat) (v : Int) (hk : k < 5) (hv : (eE (at5 l i))[k]? = some (vI v)) : Option.map AV.d (List.drop k (List.drop (i * 5) (l.flatMap eE)))[0]? = some (AV.d (DV.v (Value.int IntKind.i64 v))) := by
  have A := (ent_at hi).row
  have : (List.drop k (List.drop (i * 5) (l.flatMap eE)))[0]? = ((List.drop (i * 5) (l.flatMap eE)).take 5)[k]? := by
    rw [List.getElem?_drop, List.getElem?_take, if_pos hk, Nat.add_zero]
  rw [this, A, hv]; rfl
theorem at5_sub {l : List E5} {i n j : Nat} (hj : j < n) (hn : i + n ≤ l.length) : at5 ((l.drop i).take n) j = at5 l (i + j) := by
  unfold at5
  simp only [List.getD_eq_getElem?_getD, List.getElem?_take, List.getElem?_drop, if_pos hj]
section
variable {l : List E5} {r : Int}
theorem F19_c2 (hent : ∀ j, j < l.length → entE (at5 l j) = 0) (hl : l.length ≤ 100) (w i : Nat) (hw : i + w ≤ l.length) (b n cnt : Int) : ∀ (k j : Nat), w = j + k →
    res B19 (.c2 (w : Int) b n (i : Int) (sumI l i j) cnt w (((l.drop i).take w).flatMap eE) (w : Int) (j : Int) r l.length (l.flatMap eE)) =
    res B19 (.c2 (w : Int) b n (i : Int) (sumI l i w) cnt w (((l.drop i).take w).flatMap eE) (w : Int) (w : Int) r l.length (l.flatMap eE))
  | 0, j, hk => by
    have : j = w := by omega
    subst this; rfl
  | k + 1, j, hk => by
    have hj : j < w := by omega
    have hs : ((l.drop i).take w).length = w := by simp; omega
    have h1 : (j : Int) < (w : Int) := by omega
    have hin : inI64 ((j : Int) + 1) := by unfold inI64; omega
    have A := ent_at (l := (l.drop i).take w) (i := j) (by omega)
    have ih := F19_c2 hent hl w i hw b n cnt k (j + 1) (by omega)
    have hv : (at5 ((l.drop i).take w) j).2.2.1 = imp l (i + j) := by rw [at5_sub hj hw]; rfl
    have hb := sum_bd hent i (j + 1) (by omega)
    have e : sumI l i (j + 1) = sumI l i j + imp l (i + j) := rfl
    have hin2 : inI64 (sumI l i j + imp l (i + j)) := by
      rw [← e]; unfold inI64
      have : ((j + 1 : Nat) : Int) * 999999 ≤ 100 * 999999 := by omega
      omega
    rw [res_eq]
    simp only [B19, sem_br, sem_ask, sem_nxt, PC.holds, need_true, Int.toNat_natCast, A.c0, A.c1, A.c2, A.c3, A.c4, A.le, A.rm, A.row, map_eE, hv, h1, hin, hin2, decide_true, if_true, Int.natCast_nonneg, stepO_nxt]
    rw [← e]
    exact ih
theorem F19_c1 (hent : ∀ j, j < l.length → entE (at5 l j) = 0) (hl : l.length ≤ 100) (w : Nat) (hw : 1 ≤ w ∧ w ≤ l.length) : ∀ (k i : Nat) (b n : Int), l.length - w + 1 = i + k →
    res B19 (.c1 (w : Int) b n ((l.length : Int) - (w : Int) + 1) (i : Int) r l.length (l.flatMap eE)) = some ((great l w k i b n).1, (great l w k i b n).2, 0)
  | 0, i, b, n, hk => by
    have : ¬ ((i : Int) < (l.length : Int) - (w : Int) + 1) := by omega
    rw [res_eq]
    simp only [B19, sem_br, sem_ret, this, decide_false, Bool.false_eq_true, if_false, stepO_ret, great]
  | k + 1, i, b, n, hk => by
    have h1 : (i : Int) < (l.length : Int) - (w : Int) + 1 := by omega
    have g1 : inI64 ((i : Int) + (w : Int)) := by unfold inI64; omega
    have g2 : (i : Int) ≤ (i : Int) + (w : Int) := by omega
    have g3 : (i : Int) + (w : Int) ≤ (l.length : Int) := by omega
    have g4 : ((i : Int) + (w : Int)).toNat - i = w := by omega
    have g5 : inI64 ((i : Int) + 1) := by unfold inI64; omega
    obtain ⟨s1, s2⟩ := sub_sl l i w (by omega)
    have hi : i < l.length := by omega
    have A := ent_at hi
    have hlt : (i : Int) < (l.length : Int) := by omega
    have hin := F19_c2 (r := r) hent hl w i (by omega) b n ((l.length : Int) - (w : Int) + 1) w 0 (by omega)
    have a0 := at_k hi 0 (at5 l i).1 (by decide) rfl
    have c0 : dI (cel (List.drop (i * 5) (l.flatMap eE)) 0) = (at5 l i).1 := by rw [cel_drop]; exact A.c0
    rw [res_eq]
    simp only [B19, sem_br, sem_ask, sem_nxt, PC.holds, need_true, Int.toNat_natCast, h1, g1, g2, g3, g4, s2, fm_len eE_len, decide_true, if_true, Int.natCast_nonneg, stepO_nxt]
    have e0 : sumI l i 0 = 0 := rfl
    rw [e0] at hin
    refine Eq.trans hin ?_
    rw [res_eq]
    by_cases hb : sumI l i w > b
    · have ih := F19_c1 hent hl w hw k (i + 1) (sumI l i w) (at5 l i).1 (by omega)
      simp only [B19, sem_br, sem_ask, sem_nxt, PC.holds, need_true, Int.toNat_natCast, Int.lt_irrefl, hb, hlt, A.le, a0, c0, g5, Nat.zero_le, decide_true, decide_false, Bool.false_eq_true, if_false, if_true, Int.natCast_nonneg, stepO_nxt, great]
      exact ih
    · have ih := F19_c1 hent hl w hw k (i + 1) b n (by omega)
      simp only [B19, sem_br, sem_ask, sem_nxt, PC.holds, need_true, Int.toNat_natCast, Int.lt_irrefl, hb, g5, decide_false, Bool.false_eq_true, if_false, stepO_nxt, great]
      exact ih
end
def grI (l : List E5) (w : Int) : Int × Int := great l w.toNat (l.length - w.toNat + 1) 0 (-1) 0
def grE (r w : Int) (l : List E5) : Int := firstI [profI r l, rangeI w 1 16, whenI (decide ((l.length : Int) < w)) 16]
theorem F19_eq (r w : Int) (l : List E5) (hl : l.length ≤ 100) : F19 r l.length (l.flatMap eE) w = some (if grE r w l = 0 then ((grI l w).1, (grI l w).2, 0) else (0, 0, grE r w l)) := by
  unfold F19; rw [res_eq]
  have hE : firstI [profI r l, rangeI w 1 16, whenI (decide ((l.length : Int) < w)) 16] = grE r w l := rfl
  by_cases h0 : grE r w l = 0
  · obtain ⟨hP, h2⟩ := firstI_zero .. |>.1 h0
    obtain ⟨hr, h3⟩ := firstI_zero .. |>.1 h2
    obtain ⟨h3, _⟩ := firstI_zero .. |>.1 h3
    obtain ⟨w1, w2⟩ := rangeI_zero.1 hr
    have hw : w ≤ (l.length : Int) := by
      unfold whenI at h3
      by_cases hx : (l.length : Int) < w
      · simp [hx] at h3
      · omega
    obtain ⟨_, _, hent⟩ := prof_zero hP
    obtain ⟨v, rfl⟩ : ∃ v : Nat, w = (v : Int) := ⟨w.toNat, by omega⟩
    have g1 : inI64 ((l.length : Int) - (v : Int)) := by unfold inI64; omega
    have g2 : inI64 ((l.length : Int) - (v : Int) + 1) := by unfold inI64; omega
    have hc := F19_c1 (r := r) hent hl v ⟨by omega, by omega⟩ (l.length - v + 1) 0 (-1) 0 (by omega)
    rw [if_pos h0]
    simp only [B19, F44_eq r l (by omega), F49_eq, F38_eq, F35_3, hE, h0, sem_bind_some, sem_sees, sem_ask, sem_br, sem_nxt, PC.holds, need_true, g1, g2, bne_self_eq_false, Bool.false_eq_true, if_false, stepO_nxt]
    unfold grI
    rw [Int.toNat_natCast]
    exact hc
  · have h0' : (grE r w l != 0) = true := by simpa using h0
    rw [if_neg h0]
    simp only [B19, F44_eq r l (by omega), F49_eq, F38_eq, F35_3, hE, h0', sem_bind_some, sem_sees, sem_br, sem_ret, if_true, stepO_ret]
end Go.Kv
