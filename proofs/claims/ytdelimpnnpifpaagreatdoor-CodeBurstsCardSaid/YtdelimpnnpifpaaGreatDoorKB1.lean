/- CodeBursts' law. -/
import Derived.Test.YtdelimpnnpifpaaGreatDoorGB7
namespace Go.Kv
set_option linter.all false
def cntN (r k a : Nat) : Nat → Nat
  | 0 => 0
  | w + 1 => cntN r k a w + if (a + w) % r = k then 1 else 0
def before (r k x : Nat) : Nat := (x + (r - 1 - k)) / r
theorem before_succ {r k : Nat} (hk : k < r) (x : Nat) : before r k (x + 1) = before r k x + if x % r = k then 1 else 0 := by
  unfold before
  have e : x + 1 + (r - 1 - k) = (x + (r - 1 - k)) + 1 := by omega
  rw [e, Nat.succ_div]
  have hr : 0 < r := by omega
  have hm := Nat.mod_lt x hr
  have hx := Nat.div_add_mod x r
  have key : (r ∣ x + (r - 1 - k) + 1) ↔ x % r = k := by
    have e2 : x + (r - 1 - k) + 1 = r * (x / r) + (x % r + (r - k)) := by omega
    rw [e2]
    constructor
    · intro h
      have h2 : r ∣ x % r + (r - k) := (Nat.dvd_add_right (Nat.dvd_mul_right r (x / r))).1 h
      obtain ⟨c, hc⟩ := h2
      have : c = 1 := by
        rcases c with _ | _ | c
        · omega
        · rfl
        · have : r * (c + 1 + 1) = r * c + r + r := by rw [Nat.mul_add, Nat.mul_add]; omega
          omega
      subst this
      omega
    · intro h
      rw [h, show k + (r - k) = r by omega]
      exact Nat.dvd_add (Nat.dvd_mul_right r _) (Nat.dvd_refl r)
  by_cases h : x % r = k
  · rw [if_pos h, if_pos (key.2 h)]
  · rw [if_neg h, if_neg (fun hh => h (key.1 hh))]
theorem cnt_before {r k : Nat} (hk : k < r) (a : Nat) : ∀ w, cntN r k a w + before r k a = before r k (a + w)
  | 0 => by simp [cntN]
  | w + 1 => by
    have := cnt_before hk a w
    rw [show a + (w + 1) = (a + w) + 1 by omega, before_succ hk]
    unfold cntN; omega
def upDiv (w r : Nat) : Nat := (w + r - 1) / r
theorem cnt_le {r k : Nat} (hk : k < r) (a w : Nat) : cntN r k a w ≤ upDiv w r := by
  have h := cnt_before hk a w
  have hr : 0 < r := by omega
  have key : before r k (a + w) ≤ before r k a + upDiv w r := by
    unfold before upDiv
    have h1 := Nat.div_add_mod (a + (r - 1 - k)) r
    have h2 := Nat.mod_lt (a + (r - 1 - k)) hr
    have h3 := Nat.div_add_mod (w + r - 1) r
    have h4 := Nat.mod_lt (w + r - 1) hr
    generalize hq : (a + (r - 1 - k)) / r = q at *
    generalize hc : (w + r - 1) / r = c at *
    have : (a + w + (r - 1 - k)) / r < q + c + 1 := by
      rw [Nat.div_lt_iff_lt_mul hr]
      have e : (q + c + 1) * r = r * q + r * c + r := by rw [Nat.add_mul, Nat.add_mul, Nat.mul_comm q, Nat.mul_comm c]; omega
      rw [e]; omega
    omega
  omega
theorem cnt_zero {r : Nat} (hr : 0 < r) (w : Nat) : cntN r 0 0 w = upDiv w r := by
  have h := cnt_before (r := r) (k := 0) hr 0 w
  have e0 : before r 0 0 = 0 := by unfold before; exact Nat.div_eq_of_lt (by omega)
  rw [e0] at h
  unfold before at h
  unfold upDiv
  rw [show w + r - 1 = 0 + w + (r - 1 - 0) by omega]
  omega
end Go.Kv
namespace Go.Kv
set_option linter.all false
open Go Go.RowKit
set_option maxRecDepth 100000
def brI (r n m : Nat) : Nat := upDiv (min m (r * n)) r
theorem up_le {w r : Nat} (hr : 0 < r) : upDiv w r ≤ w := by
  unfold upDiv
  rw [Nat.div_le_iff_le_mul_add_pred hr]
  have : w ≤ r * w := Nat.le_mul_of_pos_left _ hr
  omega
theorem F106_eq {r n m : Nat} (hr : 1 ≤ r ∧ r ≤ 16) (hn : 1 ≤ n ∧ n ≤ 16) (hm : m ≤ 256) : F106 (r : Int) (n : Int) (m : Int) = some ((brI r n m : Nat) : Int) := by
  have hrn : r * n ≤ 16 * 16 := Nat.mul_le_mul hr.2 hn.2
  have e : (r : Int) * (n : Int) = ((r * n : Nat) : Int) := by simp
  have e2 : (if ((r * n : Nat) : Int) < (m : Int) then ((r * n : Nat) : Int) else (m : Int)) = ((min m (r * n) : Nat) : Int) := by
    by_cases h : r * n < m
    · rw [if_pos (by omega)]; omega
    · rw [if_neg (by omega)]; omega
  have e3 : ((min m (r * n) : Nat) : Int) + (r : Int) - 1 = ((min m (r * n) + r - 1 : Nat) : Int) := by omega
  have e4 : (((min m (r * n) + r - 1 : Nat) : Int)).tdiv (r : Int) = ((brI r n m : Nat) : Int) := by
    rw [Int.tdiv_eq_ediv_of_nonneg (by omega)]
    unfold brI upDiv
    simp
  have hb : brI r n m ≤ 256 := by unfold brI; have := up_le (w := min m (r * n)) (r := r) (by omega); omega
  unfold F106; rw [res_eq]
  simp only [B106, sem_ask, PC.holds, sem_ret, e, e2, e3, e4]
  rw [need_of (by unfold inI64; omega), need_of (by unfold inI64; omega), need_of (by unfold inI64; omega), need_of (by omega), need_of (by unfold inI64; omega), stepO_ret]
def burI (r n m : Int) : Int := firstI [rangeI r 1 16, rangeI n 1 16, rangeI m 0 256]
theorem burI_zero {r n m : Int} : burI r n m = 0 ↔ (1 ≤ r ∧ r ≤ 16) ∧ (1 ≤ n ∧ n ≤ 16) ∧ (0 ≤ m ∧ m ≤ 256) := by
  unfold burI
  rw [firstI_zero, firstI_zero, firstI_zero, rangeI_zero, rangeI_zero, rangeI_zero]
  have : firstI [] = 0 := rfl
  simp only [this, and_true]
theorem F51_bad {r n m : Int} (h : burI r n m ≠ 0) : F51 r n m = some (0, burI r n m) := by
  unfold F51; rw [res_eq]
  have hb : (firstI [rangeI r 1 16, rangeI n 1 16, rangeI m 0 256] != 0) = true := bne_iff_ne.2 h
  simp only [B51, F91_eq, F82_3, sem_bind_some, sem_sees, sem_br, hb, if_true, sem_ret, stepO_ret]; rfl
theorem F51_ok {r n m : Nat} (hr : 1 ≤ r ∧ r ≤ 16) (hn : 1 ≤ n ∧ n ≤ 16) (hm : m ≤ 256) : F51 (r : Int) (n : Int) (m : Int) = some (((brI r n m : Nat) : Int), 0) := by
  have h0 : burI (r : Int) (n : Int) (m : Int) = 0 := burI_zero.2 (by omega)
  have hb : (firstI [rangeI (r : Int) 1 16, rangeI (n : Int) 1 16, rangeI (m : Int) 0 256] != 0) = false := by
    have h0 : firstI [rangeI (r : Int) 1 16, rangeI (n : Int) 1 16, rangeI (m : Int) 0 256] = 0 := h0
    rw [h0]; rfl
  unfold F51; rw [res_eq]
  simp only [B51, F91_eq, F82_3, sem_bind_some, sem_sees, sem_br, hb, Bool.false_eq_true, if_false, F106_eq hr hn hm, sem_ret, stepO_ret]
def surI (n k r m : Int) : Int := firstI [codeI n k, rangeI r 1 16, rangeI m 0 256]
theorem surI_zero {n k r m : Int} : surI n k r m = 0 ↔ codeI n k = 0 ∧ (1 ≤ r ∧ r ≤ 16) ∧ (0 ≤ m ∧ m ≤ 256) := by
  unfold surI
  rw [firstI_zero, firstI_zero, firstI_zero, rangeI_zero, rangeI_zero]
  have : firstI [] = 0 := rfl
  simp only [this, and_true]
theorem F52_bad {n k r m : Int} (t : Bool) (h : surI n k r m ≠ 0) : F52 n k r m t = some (false, surI n k r m) := by
  unfold F52; rw [res_eq]
  have hb : (firstI [codeI n k, rangeI r 1 16, rangeI m 0 256] != 0) = true := bne_iff_ne.2 h
  simp only [B52, F27_eq, F91_eq, F82_3, sem_bind_some, sem_sees, sem_br, hb, if_true, sem_ret, stepO_ret]; rfl
theorem F52_ok {n r m : Nat} {k : Int} (hc : codeI (n : Int) k = 0) (hr : 1 ≤ r ∧ r ≤ 16) (hm : m ≤ 256) (t : Bool) :
    F52 (n : Int) k (r : Int) (m : Int) t = some (decide ((if t = true then 1 else 2) * ((brI r n m : Nat) : Int) ≤ k), 0) := by
  have hn := (codeI_zero.1 hc).1
  have hb : (firstI [codeI (n : Int) k, rangeI (r : Int) 1 16, rangeI (m : Int) 0 256] != 0) = false := by
    have h0 : firstI [codeI (n : Int) k, rangeI (r : Int) 1 16, rangeI (m : Int) 0 256] = 0 := surI_zero.2 ⟨hc, by omega, by omega⟩
    rw [h0]; rfl
  have hb2 : brI r n m ≤ 256 := by unfold brI; have := up_le (w := min m (r * n)) (r := r) (by omega); omega
  have hmin : ∀ x : Int, (x == if k < x then k else x) = decide (x ≤ k) := by
    intro x
    by_cases h : k < x
    · rw [if_pos h, decide_eq_false (by omega)]; simp; omega
    · rw [if_neg h, decide_eq_true (by omega)]; simp
  have h106 := F106_eq (n := n) hr (by omega) hm
  unfold F52; rw [res_eq]
  cases t
  · have hin : inI64 (2 * ((brI r n m : Nat) : Int)) := by unfold inI64; omega
    simp only [B52, F27_eq, F91_eq, F82_3, sem_bind_some, sem_sees, sem_br, hb, Bool.false_eq_true, if_false, h106, Bool.not_false, if_true, sem_ask, PC.holds, hin, need_true, sem_ret, stepO_ret, hmin, beq_self_eq_true, Bool.true_and, Bool.and_true, Int.mul_comm]
  · simp only [B52, F27_eq, F91_eq, F82_3, sem_bind_some, sem_sees, sem_br, hb, Bool.false_eq_true, if_false, h106, Bool.not_true, if_true, sem_ret, stepO_ret, hmin, beq_self_eq_true, Bool.true_and, Bool.and_true, Int.one_mul]
/-! the reference's burst -/
theorem c3_run {r w all m most a k : Nat} (hr : 1 ≤ r ∧ r ≤ 16) (hall : all ≤ 256) (hm : m ≤ 256) (hw : w = min m all) (ha : a ≤ 256) (hk : k < r) (hmost : most ≤ 256) :
    ∀ (d i : Nat), w = i + d → res B57 (.c3 (r : Int) (m : Int) (all : Int) (most : Int) (a : Int) (k : Int) ((cntN r k a i : Nat) : Int) ((a + i : Nat) : Int)) = res B57 (.c2 (r : Int) (m : Int) (all : Int) ((max most (cntN r k a w) : Nat) : Int) (a : Int) ((k + 1 : Nat) : Int)) := by
  have e2 : (if (all : Int) < (m : Int) then (all : Int) else (m : Int)) = ((w : Nat) : Int) := by
    by_cases h : all < m
    · rw [if_pos (by omega)]; omega
    · rw [if_neg (by omega)]; omega
  have hc : ∀ i, cntN r k a i ≤ i := by
    intro i
    induction i with
    | zero => simp [cntN]
    | succ i ih => rw [cntN]; split <;> omega
  intro d
  induction d with
  | zero =>
    intro i hi
    have hi : i = w := by omega
    subst hi
    have h1 : ¬ ((a + i : Nat) : Int) < (a : Int) + (i : Int) := by omega
    have hin : inI64 ((a : Int) + (i : Int)) := by unfold inI64; omega
    have hin2 : inI64 ((k : Int) + 1) := by unfold inI64; omega
    have h3 : (if ((cntN r k a i : Nat) : Int) > (most : Int) then ((cntN r k a i : Nat) : Int) else (most : Int)) = ((max most (cntN r k a i) : Nat) : Int) := by
      split <;> omega
    rw [res_eq]
    simp only [B57, sem_ask, PC.holds, e2, hin, need_true, sem_br, h1, decide_false, Bool.false_eq_true, if_false, hin2, sem_nxt, stepO_nxt, h3]
    rw [show (k : Int) + 1 = ((k + 1 : Nat) : Int) by omega]
  | succ d ih =>
    intro i hi
    have ih := ih (i + 1) (by omega)
    have h1 : ((a + i : Nat) : Int) < (a : Int) + (w : Int) := by omega
    have hin : inI64 ((a : Int) + (w : Int)) := by unfold inI64; omega
    have hin2 : inI64 (((a + i : Nat) : Int) + 1) := by unfold inI64; omega
    have hin3 : inI64 (((cntN r k a i : Nat) : Int) + 1) := by unfold inI64; have := hc i; omega
    have hne : (r : Int) ≠ 0 := by omega
    have ht : (((a + i : Nat) : Int)).tmod (r : Int) = (((a + i) % r : Nat) : Int) := by
      rw [Int.tmod_eq_emod_of_nonneg (by omega)]; simp
    rw [res_eq]
    by_cases hq : (a + i) % r = k
    · have hb : ((((a + i) % r : Nat) : Int) == (k : Int)) = true := by simp [hq]
      simp only [B57, sem_ask, PC.holds, e2, hin, need_true, sem_br, h1, decide_true, if_true, hne, ne_eq, not_false_eq_true, ht, hb, hin2, hin3, sem_nxt, stepO_nxt]
      rw [cntN, if_pos hq] at ih
      exact ih
    · have hb : ((((a + i) % r : Nat) : Int) == (k : Int)) = false := by
        rw [beq_eq_false_iff_ne]; omega
      simp only [B57, sem_ask, PC.holds, e2, hin, need_true, sem_br, h1, decide_true, if_true, hne, ne_eq, not_false_eq_true, ht, hb, Bool.false_eq_true, if_false, hin2, sem_nxt, stepO_nxt]
      rw [cntN, if_neg hq] at ih
      exact ih
theorem c2_run {r w all m a : Nat} (hr : 1 ≤ r ∧ r ≤ 16) (hall : all ≤ 256) (hm : m ≤ 256) (hw : w = min m all) (ha : a ≤ 256) :
    ∀ (d k most : Nat), r = k + d → most ≤ upDiv w r → ((a = 0 ∧ k = 0) ∨ most = upDiv w r) → res B57 (.c2 (r : Int) (m : Int) (all : Int) (most : Int) (a : Int) (k : Int)) = res B57 (.c1 (r : Int) (m : Int) (all : Int) ((upDiv w r : Nat) : Int) ((a + 1 : Nat) : Int)) := by
  have hu := up_le (w := w) (r := r) (by omega)
  intro d
  induction d with
  | zero =>
    intro k most hk hm1 hm2
    have hm2 : most = upDiv w r := by omega
    subst hm2
    have h1 : ¬ ((k : Int) < (r : Int)) := by omega
    have hin : inI64 ((a : Int) + 1) := by unfold inI64; omega
    rw [res_eq]
    simp only [B57, sem_br, h1, decide_false, Bool.false_eq_true, if_false, sem_ask, PC.holds, hin, need_true, sem_nxt, stepO_nxt]
    rw [show (a : Int) + 1 = ((a + 1 : Nat) : Int) by omega]
  | succ d ih =>
    intro k most hk hm1 hm2
    have h1 : (k : Int) < (r : Int) := by omega
    have hr3 := c3_run (most := most) hr hall hm hw ha (show k < r by omega) (by omega) w 0 (by omega)
    have hcle := cnt_le (r := r) (k := k) (by omega) a w
    rw [res_eq]
    simp only [B57, sem_br, h1, decide_true, if_true, sem_nxt, stepO_nxt]
    have e0 : ((cntN r k a 0 : Nat) : Int) = 0 := rfl
    rw [e0, Nat.add_zero] at hr3
    rw [hr3]
    refine ih (k + 1) (max most (cntN r k a w)) (by omega) (by omega) (.inr ?_)
    rcases hm2 with ⟨rfl, rfl⟩ | h
    · rw [cnt_zero (by omega)]; omega
    · omega
theorem c1_run {r w all m : Nat} (hr : 1 ≤ r ∧ r ≤ 16) (hall : all ≤ 256) (hm : m ≤ 256) (hw : w = min m all) :
    ∀ (d a : Nat), all + 1 = a + w + d → 0 < a → res B57 (.c1 (r : Int) (m : Int) (all : Int) ((upDiv w r : Nat) : Int) (a : Int)) = some ((upDiv w r : Nat) : Int) := by
  have e2 : (if (all : Int) < (m : Int) then (all : Int) else (m : Int)) = ((w : Nat) : Int) := by
    by_cases h : all < m
    · rw [if_pos (by omega)]; omega
    · rw [if_neg (by omega)]; omega
  intro d
  induction d with
  | zero =>
    intro a hd h0
    have hin : inI64 ((a : Int) + (w : Int)) := by unfold inI64; omega
    have h1 : ¬ ((a : Int) + (w : Int) ≤ (all : Int)) := by omega
    rw [res_eq]
    simp only [B57, sem_ask, PC.holds, e2, hin, need_true, sem_br, h1, decide_false, Bool.false_eq_true, if_false, sem_ret, stepO_ret]
  | succ d ih =>
    intro a hd h0
    have hin : inI64 ((a : Int) + (w : Int)) := by unfold inI64; omega
    have h1 : (a : Int) + (w : Int) ≤ (all : Int) := by omega
    rw [res_eq]
    simp only [B57, sem_ask, PC.holds, e2, hin, need_true, sem_br, h1, decide_true, if_true, sem_nxt, stepO_nxt]
    have := c2_run (a := a) hr hall hm hw (by omega) r 0 (upDiv w r) (by omega) (Nat.le_refl _) (.inr rfl)
    have e0 : ((0 : Nat) : Int) = 0 := rfl
    rw [e0] at this
    rw [this]
    exact ih (a + 1) (by omega) (by omega)
theorem F57_eq {r n m : Nat} (hr : 1 ≤ r ∧ r ≤ 16) (hn : 1 ≤ n ∧ n ≤ 16) (hm : m ≤ 256) : F57 (r : Int) (n : Int) (m : Int) = some ((brI r n m : Nat) : Int) := by
  have hrn : r * n ≤ 16 * 16 := Nat.mul_le_mul hr.2 hn.2
  have e : (r : Int) * (n : Int) = ((r * n : Nat) : Int) := by simp
  have hin0 : inI64 ((r * n : Nat) : Int) := by unfold inI64; omega
  generalize hall : r * n = all at *
  generalize hw : min m all = w
  have e2 : (if (all : Int) < (m : Int) then (all : Int) else (m : Int)) = ((w : Nat) : Int) := by
    by_cases h : all < m
    · rw [if_pos (by omega)]; omega
    · rw [if_neg (by omega)]; omega
  have hin : inI64 ((0 : Int) + (w : Int)) := by unfold inI64; omega
  have h1 : (0 : Int) + (w : Int) ≤ (all : Int) := by omega
  unfold F57; rw [res_eq]
  simp only [B57, sem_ask, PC.holds, e, hin0, need_true, sem_nxt, stepO_nxt]
  rw [res_eq]
  simp only [B57, sem_ask, PC.holds, e2, hin, need_true, sem_br, h1, decide_true, if_true, sem_nxt, stepO_nxt]
  have := c2_run (a := 0) hr (by omega) hm hw.symm (by omega) r 0 0 (by omega) (Nat.zero_le _) (.inl ⟨rfl, rfl⟩)
  have e0 : ((0 : Nat) : Int) = 0 := rfl
  rw [e0] at this
  rw [this]
  unfold brI
  rw [hall, hw]
  by_cases hz : all + 1 = 1 + w
  · exact c1_run hr (by omega) hm hw.symm 0 1 (by omega) (by omega)
  · exact c1_run hr (by omega) hm hw.symm (all - w) 1 (by omega) (by omega)
theorem F58_eq {n r m : Nat} {k : Int} (hc : codeI (n : Int) k = 0) (hr : 1 ≤ r ∧ r ≤ 16) (hm : m ≤ 256) (t : Bool) :
    F58 (n : Int) k (r : Int) (m : Int) t = some (decide ((if t = true then 1 else 2) * ((brI r n m : Nat) : Int) ≤ k)) := by
  have hn := (codeI_zero.1 hc).1
  have hb2 : brI r n m ≤ 256 := by unfold brI; have := up_le (w := min m (r * n)) (r := r) (by omega); omega
  have h57 := F57_eq (n := n) hr (by omega) hm
  unfold F58; rw [res_eq]
  cases t
  · have hin : inI64 (2 * ((brI r n m : Nat) : Int)) := by unfold inI64; omega
    simp only [B58, h57, sem_bind_some, sem_sees, sem_br, Bool.false_eq_true, if_false, sem_ask, PC.holds, hin, need_true, sem_ret, stepO_ret]
  · simp only [B58, h57, sem_bind_some, sem_sees, sem_br, if_true, sem_ret, stepO_ret, Int.one_mul]
/-! distances -/
def dist : List Int → List Int → Nat
  | a :: l, b :: m => (if a != b then 1 else 0) + dist l m
  | _, _ => 0
theorem dist_drop {a b : List Int} {i : Nat} (ha : i < a.length) (hb : i < b.length) : dist (a.drop i) (b.drop i) = (if a.getD i 0 != b.getD i 0 then 1 else 0) + dist (a.drop (i + 1)) (b.drop (i + 1)) := by
  rw [dropD 0 ha, dropD 0 hb]; rfl
theorem F59_loop {a b : List Int} (hl : a.length = b.length) (h3 : a.length ≤ 300) : ∀ (d i n : Nat), a.length = i + d → n ≤ i → res B59 (.c1 a.length (a.map vI) b.length (b.map vI) (n : Int) (i : Int)) = some ((n + dist (a.drop i) (b.drop i) : Nat) : Int) := by
  intro d
  induction d with
  | zero =>
    intro i n hd hn
    have h1 : ¬ ((i : Int) < (a.length : Int)) := by omega
    rw [res_eq, List.drop_eq_nil_of_le (by omega)]
    simp only [B59, sem_br, h1, decide_false, Bool.false_eq_true, if_false, sem_ret, stepO_ret, dist, Nat.add_zero]
  | succ d ih =>
    intro i n hd hn
    have hi : i < a.length := by omega
    have hi2 : i < b.length := by omega
    have h1 : (i : Int) < (a.length : Int) := by omega
    have h2 : (i : Int) < (b.length : Int) := by omega
    have hin : inI64 ((i : Int) + 1) := by unfold inI64; omega
    have hin2 : inI64 ((n : Int) + 1) := by unfold inI64; omega
    rw [res_eq, dist_drop hi hi2]
    simp only [B59, sem_br, sem_ask, PC.holds, need_true, Int.toNat_natCast, Nat.mul_one, dI_cel_map, at_map hi, at_map hi2, h1, h2, hin, hin2, decide_true, if_true, Int.natCast_nonneg, List.length_map, Nat.le_of_lt hi, Nat.le_of_lt hi2, sem_nxt]
    by_cases hz : (a.getD i 0 != b.getD i 0) = true
    · simp only [hz, if_true, stepO_nxt]
      have := ih (i + 1) (n + 1) (by omega) (by omega)
      rw [show (n : Int) + 1 = ((n + 1 : Nat) : Int) by omega, show (i : Int) + 1 = ((i + 1 : Nat) : Int) by omega, this, Nat.add_assoc]
    · have hz : (a.getD i 0 != b.getD i 0) = false := by simpa using hz
      simp only [hz, Bool.false_eq_true, if_false, stepO_nxt]
      have := ih (i + 1) n (by omega) (by omega)
      rw [show (i : Int) + 1 = ((i + 1 : Nat) : Int) by omega, this, Nat.zero_add]
theorem F59_eq {a b : List Int} (hl : a.length = b.length) (h3 : a.length ≤ 300) : F59 a.length (a.map vI) b.length (b.map vI) = some ((dist a b : Nat) : Int) := by
  unfold F59; rw [res_eq]
  simp only [B59, sem_nxt, stepO_nxt]
  have := F59_loop hl h3 a.length 0 0 (by omega) (by omega)
  simpa using this
/-- The program's list of the places at which two lists differ has this length. -/
theorem F94_2 {a b : List Int} (hl : a.length = b.length) (h3 : a.length ≤ 300) : ∀ (d i n : Nat) (X : List DV), a.length = i + d → n < i → ∃ X', res B94 (.c2 b.length (b.map vI) n (n + 1) X a.length (a.map vI) (a.length : Int) (i : Int) n) = some (n + 1 + dist (a.drop i) (b.drop i), X') := by
  intro d
  induction d with
  | zero =>
    intro i n X hd hn
    have h1 : ¬ ((i : Int) < (a.length : Int)) := by omega
    refine ⟨X, ?_⟩
    rw [res_eq, List.drop_eq_nil_of_le (by omega)]
    simp only [B94, sem_br, h1, decide_false, Bool.false_eq_true, if_false, sem_ret, stepO_ret, dist, Nat.add_zero]
  | succ d ih =>
    intro i n X hd hn
    have hi : i < a.length := by omega
    have hi2 : i < b.length := by omega
    have h1 : (i : Int) < (a.length : Int) := by omega
    have h2 : (i : Int) < (b.length : Int) := by omega
    have hin : inI64 ((i : Int) + 1) := by unfold inI64; omega
    have hf := fits_1 (n := n + 1 + 1) (by omega)
    rw [res_eq, dist_drop hi hi2]
    simp only [B94, sem_br, sem_ask, PC.holds, need_true, Int.toNat_natCast, Nat.mul_one, dI_cel_map, at_map hi, at_map hi2, h1, h2, hin, hf, decide_true, if_true, Int.natCast_nonneg, List.length_map, Nat.le_of_lt hi, Nat.le_of_lt hi2, sem_nxt]
    by_cases hz : (a.getD i 0 != b.getD i 0) = true
    · simp only [hz, if_true, stepO_nxt]
      obtain ⟨X', h⟩ := ih (i + 1) (n + 1) (X ++ [vI (i : Int)]) (by omega) (by omega)
      refine ⟨X', ?_⟩
      rw [show (i : Int) + 1 = ((i + 1 : Nat) : Int) by omega]
      rw [show n + 1 + (1 + dist (a.drop (i + 1)) (b.drop (i + 1))) = n + 1 + 1 + dist (a.drop (i + 1)) (b.drop (i + 1)) by omega]
      exact h
    · have hz : (a.getD i 0 != b.getD i 0) = false := by simpa using hz
      simp only [hz, Bool.false_eq_true, if_false, stepO_nxt]
      obtain ⟨X', h⟩ := ih (i + 1) n X (by omega) (by omega)
      refine ⟨X', ?_⟩
      rw [show (i : Int) + 1 = ((i + 1 : Nat) : Int) by omega, Nat.zero_add]
      exact h
theorem F94_1 {a b : List Int} (hl : a.length = b.length) (h3 : a.length ≤ 300) : ∀ (d i : Nat), a.length = i + d → ∃ X', res B94 (.c1 b.length (b.map vI) a.length (a.map vI) (a.length : Int) (i : Int)) = some (dist (a.drop i) (b.drop i), X') := by
  intro d
  induction d with
  | zero =>
    intro i hd
    have h1 : ¬ ((i : Int) < (a.length : Int)) := by omega
    refine ⟨[], ?_⟩
    rw [res_eq, List.drop_eq_nil_of_le (by omega)]
    simp only [B94, sem_br, h1, decide_false, Bool.false_eq_true, if_false, sem_ret, stepO_ret, dist]
  | succ d ih =>
    intro i hd
    have hi : i < a.length := by omega
    have hi2 : i < b.length := by omega
    have h1 : (i : Int) < (a.length : Int) := by omega
    have h2 : (i : Int) < (b.length : Int) := by omega
    have hin : inI64 ((i : Int) + 1) := by unfold inI64; omega
    rw [res_eq, dist_drop hi hi2]
    simp only [B94, sem_br, sem_ask, PC.holds, need_true, Int.toNat_natCast, Nat.mul_one, dI_cel_map, at_map hi, at_map hi2, h1, h2, hin, decide_true, if_true, Int.natCast_nonneg, List.length_map, Nat.le_of_lt hi, Nat.le_of_lt hi2, sem_nxt]
    by_cases hz : (a.getD i 0 != b.getD i 0) = true
    · simp only [hz, if_true, stepO_nxt]
      obtain ⟨X', h⟩ := F94_2 hl h3 d (i + 1) 0 [vI (i : Int)] (by omega) (by omega)
      refine ⟨X', ?_⟩
      rw [show (i : Int) + 1 = ((i + 1 : Nat) : Int) by omega]
      rw [Nat.zero_add] at h
      exact h
    · have hz : (a.getD i 0 != b.getD i 0) = false := by simpa using hz
      simp only [hz, Bool.false_eq_true, if_false, stepO_nxt]
      obtain ⟨X', h⟩ := ih (i + 1) (by omega)
      refine ⟨X', ?_⟩
      rw [show (i : Int) + 1 = ((i + 1 : Nat) : Int) by omega, Nat.zero_add]
      exact h
theorem F94_eq {a b : List Int} (hl : a.length = b.length) (h3 : a.length ≤ 300) : ∃ X', F94 a.length (a.map vI) b.length (b.map vI) = some (dist a b, X') := by
  unfold F94; rw [res_eq]
  simp only [B94, sem_nxt, stepO_nxt]
  exact F94_1 hl h3 a.length 0 (by omega)
def disI (a b : List Int) : Int := firstI [looseI a, looseI b, whenI ((a.length : Int) != (b.length : Int)) 2]
theorem disI_zero {a b : List Int} (h : disI a b = 0) : a.length = b.length := by
  unfold disI at h
  rw [firstI_zero, firstI_zero, firstI_zero, whenI_zero (by decide)] at h
  have := h.2.2.1
  simp only [bne_eq_false_iff_eq] at this
  omega
def disV (a b : List Int) : Int := if disI a b = 0 then ((dist a b : Nat) : Int) else 0
theorem F53_eq {a b : List Int} (ha : a.length ≤ 300) (hb : b.length ≤ 300) : F53 a.length (a.map vI) b.length (b.map vI) = some (disV a b, disI a b) := by
  unfold F53; rw [res_eq]
  by_cases h : disI a b = 0
  · obtain ⟨X', h94⟩ := F94_eq (disI_zero h) ha
    have hz : (firstI [looseI a, looseI b, whenI ((a.length : Int) != (b.length : Int)) 2] != 0) = false := by
      have h0 : firstI [looseI a, looseI b, whenI ((a.length : Int) != (b.length : Int)) 2] = 0 := h
      rw [h0]; rfl
    simp only [B53, F105_eq a ha, F105_eq b hb, F83_eq, F82_3, sem_bind_some, sem_sees, sem_br, hz, Bool.false_eq_true, if_false, h94, sem_ret, stepO_ret]
    rw [disV, if_pos h, h]
  · have hz : (firstI [looseI a, looseI b, whenI ((a.length : Int) != (b.length : Int)) 2] != 0) = true := bne_iff_ne.2 h
    simp only [B53, F105_eq a ha, F105_eq b hb, F83_eq, F82_3, sem_bind_some, sem_sees, sem_br, hz, if_true, sem_ret, stepO_ret]
    rw [disV, if_neg h]; rfl
theorem andB (a b : Bool) : (if a = true then b else false) = (a && b) := by cases a <;> rfl
theorem bursts_true (n k r m' n' : Int) (a b : List Int) : F7 n k r n' m' a.length (a.map vI) b.length (b.map vI) = some true := by
  have h15 : F15 = some true := f15_eq
  unfold F7; rw [res_eq]
  by_cases sa : shortL a.length
  rotate_left
  · simp only [B7, F14_eq, sa, decide_false, Bool.not_false, sem_bind_some, sem_sees, sem_br, if_true, h15, sem_ret, stepO_ret]
  by_cases sb : shortL b.length
  rotate_left
  · simp only [B7, F14_eq, sa, sb, decide_true, decide_false, Bool.not_false, Bool.not_true, Bool.false_eq_true, if_false, sem_bind_some, sem_sees, sem_br, if_true, h15, sem_ret, stepO_ret]
  have ha : a.length ≤ 300 := by unfold shortL at sa; omega
  have hb : b.length ≤ 300 := by unfold shortL at sb; omega
  -- what the two come to
  obtain ⟨bv, e51, e57⟩ : ∃ bv : Int, F51 r n' m' = some (bv, burI r n' m') ∧ (burI r n' m' = 0 → F57 r n' m' = some bv) ∧ (burI r n' m' ≠ 0 → bv = 0) := by
    by_cases h : burI r n' m' = 0
    · have hh := burI_zero.1 h
      obtain ⟨r0, rfl⟩ := Int.eq_ofNat_of_zero_le (show 0 ≤ r by omega)
      obtain ⟨n0, rfl⟩ := Int.eq_ofNat_of_zero_le (show 0 ≤ n' by omega)
      obtain ⟨m0, rfl⟩ := Int.eq_ofNat_of_zero_le (show 0 ≤ m' by omega)
      refine ⟨_, ?_, fun _ => F57_eq (by omega) (by omega) (by omega), fun hn => absurd h hn⟩
      rw [h]
      exact F51_ok (by omega) (by omega) (by omega)
    · exact ⟨0, F51_bad h, fun hn => absurd hn h, fun _ => rfl⟩
  have key : ∀ t : Bool, ∃ sv : Bool, F52 n k r m' t = some (sv, surI n k r m') ∧ (surI n k r m' = 0 → F58 n k r m' t = some sv) ∧ (surI n k r m' ≠ 0 → sv = false) := by
    intro t
    by_cases h : surI n k r m' = 0
    · have hh := surI_zero.1 h
      have hc := (codeI_zero.1 hh.1).1
      obtain ⟨r0, rfl⟩ := Int.eq_ofNat_of_zero_le (show 0 ≤ r by omega)
      obtain ⟨n0, rfl⟩ := Int.eq_ofNat_of_zero_le (show 0 ≤ n by omega)
      obtain ⟨m0, rfl⟩ := Int.eq_ofNat_of_zero_le (show 0 ≤ m' by omega)
      refine ⟨_, ?_, fun _ => F58_eq hh.1 (by omega) (by omega) t, fun hn => absurd h hn⟩
      rw [h]
      exact F52_ok hh.1 (by omega) (by omega) t
    · exact ⟨false, F52_bad t h, fun hn => absurd hn h, fun _ => rfl⟩
  obtain ⟨s1, e52, f1, g1⟩ := key false
  obtain ⟨s2, e52', f2, g2⟩ := key true
  have eb : firstI [rangeI r 1 16, rangeI n' 1 16, rangeI m' 0 256] = burI r n' m' := rfl
  have es : firstI [codeI n k, rangeI r 1 16, rangeI m' 0 256] = surI n k r m' := rfl
  have ed : firstI [looseI a, looseI b, whenI ((a.length : Int) != (b.length : Int)) 2] = disI a b := rfl
  -- the last comparison
  have c3 : ∀ x0 x2 x3 x4 x6 : Int, ∀ y0 y2 : Bool, ∀ z : Int, res B7 (.c3 x0 x2 y0 x3 y2 x3 x4 x6 x2 x3 x6 x0 x4 y0 y2) = some true := by
    intro x0 x2 x3 x4 x6 y0 y2 z
    rw [res_eq]
    simp only [B7, sem_triv, sem_bind_some, sem_sees, sem_br, h15, beq_self_eq_true, if_true, sem_ret, stepO_ret]
  have c2 : ∀ x0 x2 x3 : Int, ∀ y0 y2 : Bool, res B7 (.c2 x0 x2 y0 x3 y2 x3 (disV a b) (disI a b) x2 x3 (disI a b) x0 0 y0 y2 a.length (a.map vI) b.length (b.map vI)) = some true := by
    intro x0 x2 x3 y0 y2
    rw [res_eq]
    by_cases hd : disI a b = 0
    · have hv : disV a b = ((dist a b : Nat) : Int) := by rw [disV, if_pos hd]
      simp only [B7, sem_br, hd, beq_self_eq_true, if_true, F59_eq (disI_zero hd) ha, sem_bind_some, sem_sees, sem_nxt, stepO_nxt, hv]
      exact c3 _ _ _ _ _ _ _ 0
    · have hv : disV a b = 0 := by rw [disV, if_neg hd]
      have hq : (disI a b == 0) = false := by simpa using hd
      simp only [B7, sem_br, hq, Bool.false_eq_true, if_false, sem_nxt, stepO_nxt, hv]
      exact c3 _ _ _ _ _ _ _ 0
  have c1 : ∀ x0 x2 : Int, res B7 (.c1 x0 x2 s1 (surI n k r m') s2 (surI n k r m') (disV a b) (disI a b) x2 (surI n k r m') (disI a b) x0 0 false false n k r n' m' a.length (a.map vI) b.length (b.map vI)) = some true := by
    intro x0 x2
    rw [res_eq]
    by_cases hs : surI n k r m' = 0
    · simp only [B7, sem_br, hs, beq_self_eq_true, if_true, f1 hs, f2 hs, sem_bind_some, sem_sees, sem_nxt, stepO_nxt]
      exact c2 _ _ _ _ _
    · have hq : (surI n k r m' == 0) = false := by simpa using hs
      simp only [B7, sem_br, hq, Bool.false_eq_true, if_false, sem_nxt, stepO_nxt, g1 hs, g2 hs]
      exact c2 _ _ _ _ _
  by_cases hb0 : burI r n' m' = 0
  · simp only [B7, F14_eq, sa, sb, decide_true, Bool.not_true, Bool.false_eq_true, if_false, sem_bind_some, sem_sees, sem_br, e51, e52, e52', F17_eq a ha, F17_eq b hb, F53_eq ha hb, F54_eq, F55_eq, F39_3, F28_eq, F56_eq a ha, F56_eq b hb, F25_eq, eb, es, ed, hb0, beq_self_eq_true, if_true, e57.1 hb0, sem_nxt, stepO_nxt]
    exact c1 _ _
  · have hq : (burI r n' m' == 0) = false := by simpa using hb0
    simp only [B7, F14_eq, sa, sb, decide_true, Bool.not_true, Bool.false_eq_true, if_false, sem_bind_some, sem_sees, sem_br, e51, e52, e52', F17_eq a ha, F17_eq b hb, F53_eq ha hb, F54_eq, F55_eq, F39_3, F28_eq, F56_eq a ha, F56_eq b hb, F25_eq, eb, es, ed, hq, sem_nxt, stepO_nxt, e57.2 hb0]
    exact c1 _ _
end Go.Kv
