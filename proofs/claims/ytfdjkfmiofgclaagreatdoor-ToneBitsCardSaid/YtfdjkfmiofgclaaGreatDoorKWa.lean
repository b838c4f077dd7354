/- ToneBits: parts. -/
import Derived.Test.YtfdjkfmiofgclaaGreatDoorGT5
import Derived.Test.YtfdjkfmiofgclaaGreatDoorKEb
namespace Go.Kv
set_option linter.unusedVariables false
set_option linter.unusedSimpArgs false
set_option linter.unnecessarySimpa false
open Go Go.RowKit
set_option maxRecDepth 100000
def eS (l : List Int) : DV := .sl l.length (l.map vI)
def vB (b : Bool) : DV := .v (.bool b)
theorem dN_eS {ls : List (List Int)} {i : Nat} (hi : i < ls.length) : dN (cel (ls.map eS) i) = (ls.getD i []).length := by
  unfold cel; simp only [List.getD_eq_getElem?_getD, List.getElem?_map, List.getElem?_eq_getElem hi]; rfl
theorem dL_eS {ls : List (List Int)} {i : Nat} (hi : i < ls.length) : dL (cel (ls.map eS) i) = (ls.getD i []).map vI := by
  unfold cel; simp only [List.getD_eq_getElem?_getD, List.getElem?_map, List.getElem?_eq_getElem hi]; rfl
theorem atS {ls : List (List Int)} {i : Nat} (hi : i < ls.length) : Option.map AV.d (List.drop i (ls.map eS))[0]? = some (AV.d (DV.sl (ls.getD i []).length ((ls.getD i []).map vI))) := by
  simp only [List.getElem?_drop, Nat.add_zero, List.getElem?_map, List.getElem?_eq_getElem hi, List.getD_eq_getElem?_getD]; rfl
theorem getD_memS {ls : List (List Int)} {i : Nat} (hi : i < ls.length) : ls.getD i [] ∈ ls := by
  simp only [List.getD_eq_getElem?_getD, List.getElem?_eq_getElem hi, Option.getD_some]; exact List.getElem_mem hi
theorem getD_memI {l : List Int} {i : Nat} (hi : i < l.length) : l.getD i 0 ∈ l := by
  simp only [List.getD_eq_getElem?_getD, List.getElem?_eq_getElem hi, Option.getD_some]; exact List.getElem_mem hi
def sumW : Int → List Int → Int
  | a, [] => a
  | a, x :: r => sumW (IntKind.i64.wrap (a + x)) r
theorem wrap_i {i : Nat} (h : i ≤ 1000000) : IntKind.i64.wrap ((i : Int) + 1) = (i : Int) + 1 := wrap_n ⟨by omega, by omega⟩
theorem F170_loop (l : List Int) (hl : l.length ≤ 1025) : ∀ (k i : Nat) (a : Int), l.length = i + k → res B170 (.c1 a l.length (l.map vI) (l.length : Int) (i : Int)) = some (sumW a (l.drop i))
  | 0, i, a, hk => by
    have h1 : ¬ ((i : Int) < (l.length : Int)) := by omega
    rw [List.drop_of_length_le (by omega), res_eq]
    simp only [B170, sem_br, sem_ret, h1, decide_false, Bool.false_eq_true, if_false, stepO_ret, sumW]
  | k + 1, i, a, hk => by
    have hi : i < l.length := by omega
    have h1 : (i : Int) < (l.length : Int) := by omega
    have ih := F170_loop l hl k (i + 1) (IntKind.i64.wrap (a + l.getD i 0)) (by omega)
    rw [dropD 0 hi, res_eq]
    simp only [B170, sem_br, sem_ask, sem_nxt, PC.holds, need_true, Int.toNat_natCast, Nat.mul_one, dI_cel_map, at_map hi, h1, decide_true, if_true, Int.natCast_nonneg, List.length_map, Nat.le_of_lt hi, wrap_i (show i ≤ 1000000 by omega), stepO_nxt, sumW]
    rw [← ih]; rfl
theorem F170_eq (l : List Int) (hl : l.length ≤ 1025) : F170 l.length (l.map vI) = some (sumW 0 l) := by
  unfold F170
  rw [res_eq]
  simp only [B170, sem_nxt, stepO_nxt]
  have := F170_loop l hl l.length 0 0 (by omega)
  rw [List.drop_zero] at this
  exact this
theorem F123_loop (l : List Int) (hl : l.length ≤ 1025) : ∀ (k i : Nat) (a : Int), l.length = i + k → res B123 (.c1 l.length (l.map vI) a (i : Int)) = some (sumW a (l.drop i))
  | 0, i, a, hk => by
    have h1 : ¬ ((i : Int) < (l.length : Int)) := by omega
    rw [List.drop_of_length_le (by omega), res_eq]
    simp only [B123, sem_br, sem_ret, h1, decide_false, Bool.false_eq_true, if_false, stepO_ret, sumW]
  | k + 1, i, a, hk => by
    have hi : i < l.length := by omega
    have h1 : (i : Int) < (l.length : Int) := by omega
    have ih := F123_loop l hl k (i + 1) (IntKind.i64.wrap (a + l.getD i 0)) (by omega)
    rw [dropD 0 hi, res_eq]
    simp only [B123, sem_br, sem_ask, sem_nxt, PC.holds, need_true, Int.toNat_natCast, Nat.mul_one, dI_cel_map, at_map hi, h1, decide_true, if_true, Int.natCast_nonneg, List.length_map, Nat.le_of_lt hi, wrap_i (show i ≤ 1000000 by omega), stepO_nxt, sumW]
    rw [← ih]; rfl
theorem F123_eq (l : List Int) (hl : l.length ≤ 1025) : F123 l.length (l.map vI) = some (sumW 0 l) := by
  unfold F123
  rw [res_eq]
  simp only [B123, sem_nxt, stepO_nxt]
  have := F123_loop l hl l.length 0 0 (by omega)
  rw [List.drop_zero] at this
  exact this
def bearE (l : List Int) : Int := firstI [ckM l, whenI (sumW 0 l == 0) 6]
theorem F121_eq (l : List Int) (hl : l.length ≤ 1025) : F121 l.length (l.map vI) = some (bearE l) := by
  unfold F121 bearE
  rw [res_eq]
  simp only [B121, F169_g hl, F170_eq l hl, F109_eq, F107_2, sem_bind_some, sem_sees, sem_ret, stepO_ret]
theorem F36_eq (l : List Int) (hl : l.length ≤ 1025) : F36 l.length (l.map vI) = some (bearE l) := by
  unfold F36 bearE
  rw [res_eq]
  simp only [B36, F71_eq l (by omega), F123_eq l hl, F37_eq, F20_2, sem_bind_some, sem_sees, sem_ret, stepO_ret]
structure BM (l : List Int) : Prop where
  n1 : 1 ≤ l.length
  n8 : l.length ≤ 8
  e : ∀ x ∈ l, 0 ≤ x ∧ x ≤ 6
  s : ∃ x ∈ l, x ≠ 0
theorem sumW_0 : ∀ {l : List Int}, (∀ x ∈ l, x = 0) → sumW 0 l = 0
  | [], _ => rfl
  | x :: r, h => by
    obtain rfl := h x (by simp)
    unfold sumW
    rw [show IntKind.i64.wrap (0 + 0) = 0 from by decide]
    exact sumW_0 fun y hy => h y (by simp [hy])
theorem bm_of {l : List Int} (h : bearE l = 0) : BM l := by
  unfold bearE at h
  by_cases h0 : ckM l = 0
  · have v := ckM_vm h0
    rw [h0, first_z] at h
    refine ⟨v.l1, v.l8, v.bd, ?_⟩
    apply Classical.byContradiction
    intro hn
    have hz : ∀ x ∈ l, x = 0 := fun x hx => Classical.byContradiction fun hx0 => hn ⟨x, hx, hx0⟩
    rw [sumW_0 hz] at h
    exact absurd h (by decide)
  · rw [first_pos h0] at h; exact absurd h h0
theorem two_le : ∀ b < 7, 1 ≤ ((2 ^ b : Nat) : Int) ∧ ((2 ^ b : Nat) : Int) ≤ 64 := by decide
theorem F124_b : ∀ b < 7, F124 ((b : Nat) : Int) = some (((2 ^ b : Nat) : Int)) := by
  have lp : ∀ (k i b : Nat), b < 7 → b = i + k → res B124 (.c1 (b : Int) (((2 ^ i : Nat) : Int)) (i : Int)) = some (((2 ^ b : Nat) : Int)) := by
    intro k
    induction k with
    | zero =>
      intro i b hb hk
      obtain rfl : b = i := by omega
      rw [res_eq]
      have : ¬ ((b : Int) < (b : Int)) := by omega
      simp only [B124, sem_br, sem_ret, this, decide_false, Bool.false_eq_true, if_false, stepO_ret]
    | succ k ih =>
      intro i b hb hk
      have h1 : (i : Int) < (b : Int) := by omega
      have h2 := two_le i (by omega)
      have i1 : inI64 (2 * ((2 ^ i : Nat) : Int)) := by unfold inI64; omega
      have i2 : inI64 ((i : Int) + 1) := by unfold inI64; omega
      have ih' := ih (i + 1) b hb (by omega)
      rw [res_eq]
      simp only [B124, sem_br, sem_ask, sem_nxt, PC.holds, h1, i1, i2, need_true, decide_true, if_true, stepO_nxt]
      rw [← ih', show (2 : Int) * ((2 ^ i : Nat) : Int) = ((2 ^ (i + 1) : Nat) : Int) by rw [Nat.pow_succ]; omega]
      rfl
  intro b hb
  unfold F124
  rw [res_eq]
  simp only [B124, sem_nxt, stepO_nxt]
  exact lp b 0 b hb (by omega)
def gx (a b : Int) : Int := IntKind.i64.wrap (((BitVec.ofInt 64 a ^^^ BitVec.ofInt 64 b).toNat : Nat) : Int)
def lv : Nat → Nat → Int → Int
  | 0, _, out => out
  | k + 1, n, out => if 0 < n then lv k (n / 2) (gx out n) else out
def fl : Nat → Nat → Int → Int
  | 0, _, _ => -1
  | k + 1, i, n => if gx (i : Int) ((i / 2 : Nat) : Int) = n then (i : Int) else fl k (i + 1) n
theorem lv_fl : ∀ n : Nat, n < 64 → fl 64 0 (n : Int) = lv 7 n 0 := by decide +kernel
theorem lv_in : ∀ n : Nat, n < 64 → inI64 (lv 7 n 0) := by
  unfold inI64
  decide +kernel
theorem tdiv2 (n : Nat) : ((n : Int)).tdiv 2 = ((n / 2 : Nat) : Int) := by
  rw [Int.tdiv_eq_ediv_of_nonneg (by omega)]; omega
theorem F122_loop : ∀ (k n : Nat) (out : Int), n < 2 ^ k → n < 64 → res B122 (.c1 (n : Int) out) = some (lv k n out)
  | 0, n, out, h, h64 => by
    obtain rfl : n = 0 := by simpa using h
    have : ¬ (((0 : Nat) : Int) > 0) := by omega
    rw [res_eq]
    simp only [B122, sem_br, sem_ret, this, decide_false, Bool.false_eq_true, if_false, stepO_ret, lv]
  | k + 1, n, out, h, h64 => by
    unfold lv
    by_cases h0 : 0 < n
    · have h1 : ((n : Int) > 0) := by omega
      have h2 : n / 2 < 2 ^ k := by rw [Nat.pow_succ] at h; omega
      have hin : inI64 ((n / 2 : Nat) : Int) := by unfold inI64; omega
      have ih := F122_loop k (n / 2) (gx out n) h2 (by omega)
      rw [res_eq, if_pos h0]
      simp only [B122, tdiv2, sem_br, sem_ask, sem_nxt, PC.holds, h1, hin, need_true, decide_true, if_true, stepO_nxt]
      rw [← ih]; rfl
    · have h1 : ¬ ((n : Int) > 0) := by omega
      rw [res_eq, if_neg h0]
      simp only [B122, sem_br, sem_ret, h1, decide_false, Bool.false_eq_true, if_false, stepO_ret]
theorem F122_eq {n : Nat} (h : n < 64) : F122 (n : Int) = some (lv 7 n 0) := by
  unfold F122
  rw [res_eq]
  simp only [B122, sem_nxt, stepO_nxt]
  exact F122_loop 7 n 0 (by omega) h
theorem F125_loop (n : Int) : ∀ (k i : Nat), i + k = 64 → res B125 (.c1 n (i : Int)) = some (fl k i n)
  | 0, i, hk => by
    have h6 : F124 6 = some 64 := F124_b 6 (by omega)
    have h1 : ¬ ((i : Int) < 64) := by omega
    rw [res_eq]
    simp only [B125, h6, sem_bind_some, sem_sees, sem_br, sem_ret, h1, decide_false, Bool.false_eq_true, if_false, stepO_ret, fl]
  | k + 1, i, hk => by
    have h6 : F124 6 = some 64 := F124_b 6 (by omega)
    have h1 : (i : Int) < 64 := by omega
    have i1 : inI64 ((i / 2 : Nat) : Int) := by unfold inI64; omega
    have i2 : inI64 ((i : Int) + 1) := by unfold inI64; omega
    have ih := F125_loop n k (i + 1) (by omega)
    rw [res_eq]
    unfold fl
    simp only [B125, h6, tdiv2, sem_bind_some, sem_sees, sem_br, sem_ask, sem_ret, sem_nxt, PC.holds, h1, i1, i2, need_true, decide_true, if_true]
    rw [show IntKind.i64.wrap (((BitVec.ofInt 64 (i : Int) ^^^ BitVec.ofInt 64 ((i / 2 : Nat) : Int)).toNat : Nat) : Int) = gx (i : Int) ((i / 2 : Nat) : Int) from rfl]
    by_cases h0 : gx (i : Int) ((i / 2 : Nat) : Int) = n
    · simp only [h0, beq_self_eq_true, if_true, stepO_ret]
    · have hb : (gx (i : Int) ((i / 2 : Nat) : Int) == n) = false := by simpa using h0
      simp only [h0, hb, Bool.false_eq_true, if_false, stepO_nxt]
      rw [← ih]; rfl
theorem F125_eq {n : Nat} (h : n < 64) : F125 (n : Int) = some (lv 7 n 0) := by
  unfold F125
  rw [res_eq]
  simp only [B125, sem_nxt, stepO_nxt]
  have := F125_loop (n : Int) 64 0 rfl
  rw [lv_fl n h] at this
  exact this
def inn : Nat → Nat → List Bool → Nat × List Bool
  | 0, n, r => (n, r)
  | k + 1, n, [] => inn k (n * 2) []
  | k + 1, n, x :: r => inn k (n * 2 + (if x then 1 else 0)) r
theorem inn_lt : ∀ (k j n : Nat) (r : List Bool), n < 2 ^ j → (inn k n r).1 < 2 ^ (j + k)
  | 0, j, n, r, h => h
  | k + 1, j, n, [], h => by
    unfold inn
    have := inn_lt k (j + 1) (n * 2) [] (by rw [Nat.pow_succ]; omega)
    rw [show j + (k + 1) = j + 1 + k by omega]; exact this
  | k + 1, j, n, x :: r, h => by
    unfold inn
    have := inn_lt k (j + 1) (n * 2 + (if x then 1 else 0)) r (by rw [Nat.pow_succ]; split <;> omega)
    rw [show j + (k + 1) = j + 1 + k by omega]; exact this
theorem pow_64 {j : Nat} (h : j ≤ 6) : 2 ^ j ≤ 64 := Nat.pow_le_pow_right (by omega) h
theorem cons_take (x : Bool) (r : List Bool) : List.take ((((x :: r).length : Int).toNat - 1) * 1) (List.drop 1 ((x :: r).map vB)) = r.map vB := by
  simp only [List.map_cons, List.drop_succ_cons, List.drop_zero, List.length_cons, Int.toNat_natCast, Nat.add_sub_cancel, Nat.mul_one]
  exact List.take_of_length_le (by simp)
theorem cons_take2 (x : Bool) (r : List Bool) : List.take r.length (List.drop 1 ((x :: r).map vB)) = r.map vB := by
  simp only [List.map_cons, List.drop_succ_cons, List.drop_zero]
  exact List.take_of_length_le (by simp)
theorem cons_n (x : Bool) (r : List Bool) : ((x :: r).length : Int).toNat - 1 = r.length := by simp
theorem cons_b (x : Bool) (r : List Bool) : dB (cel ((x :: r).map vB) 0) = x := rfl
theorem cons_at (x : Bool) (r : List Bool) : Option.map AV.d (List.drop 0 ((x :: r).map vB))[0]? = some (AV.d (DV.v (Value.bool x))) := rfl
theorem cons_pos (x : Bool) (r : List Bool) : (0 : Int) < ((x :: r).length : Int) := by simp only [List.length_cons]; omega
theorem cons_pos' (x : Bool) (r : List Bool) : ((x :: r).length : Int) > 0 := cons_pos x r
theorem cons_le (x : Bool) (r : List Bool) : (1 : Int) ≤ ((x :: r).length : Int) := by simp only [List.length_cons]; omega
theorem nil_pos : ¬ ((([] : List Bool).length : Int) > 0) := by simp
theorem i32_3 {bl : List Int} {i b : Nat} {len : Int} (hb : b ≤ 6) (hi : i ≤ 8) : ∀ (k j n : Nat) (r : List Bool), b = j + k → n < 2 ^ j →
    res B32 (.c3 bl.length (bl.map vI) r.length (r.map vB) (n : Int) len (i : Int) (b : Int) (j : Int)) = res B32 (.c5 bl.length (bl.map vI) (inn k n r).2.length ((inn k n r).2.map vB) 0 1 [vI (lv 7 (inn k n r).1 0)] len ((i + 1 : Nat) : Int) 0)
  | 0, j, n, r, hk, hn => by
    have h1 : ¬ ((j : Int) < (b : Int)) := by omega
    have h64 : n < 64 := Nat.lt_of_lt_of_le hn (pow_64 (by omega))
    have hin : inI64 ((i : Int) + 1) := by unfold inI64; omega
    rw [res_eq]
    simp only [B32, F122_eq h64, sem_br, sem_ask, sem_nxt, sem_bind_some, sem_sees, PC.holds, h1, hin, need_true, decide_false, Bool.false_eq_true, if_false, stepO_nxt]
    rfl
  | k + 1, j, n, r, hk, hn => by
    have h1 : (j : Int) < (b : Int) := by omega
    have h64 : n < 64 := Nat.lt_of_lt_of_le hn (pow_64 (by omega))
    have i1 : inI64 ((n : Int) * 2) := by unfold inI64; omega
    have i2 : inI64 ((j : Int) + 1) := by unfold inI64; omega
    have i3 : inI64 ((n : Int) * 2 + 1) := by unfold inI64; omega
    cases r with
    | nil =>
      have ih := i32_3 (bl := bl) (len := len) hb hi  k (j + 1) (n * 2) [] (by omega) (by rw [Nat.pow_succ]; omega)
      rw [res_eq]
      simp only [B32, sem_br, sem_ask, sem_nxt, PC.holds, h1, i1, i2, nil_pos, need_true, decide_true, decide_false, if_true, Bool.false_eq_true, if_false, stepO_nxt, inn]
      rw [← ih]; rfl
    | cons x r =>
      have ih := i32_3 (bl := bl) (len := len) hb hi  k (j + 1) (n * 2 + (if x then 1 else 0)) r (by omega) (by rw [Nat.pow_succ]; split <;> omega)
      rw [res_eq]
      cases x <;> simp only [Bool.false_eq_true, if_false, if_true] at ih <;> simp only [B32, cons_take, cons_take2, cons_n, cons_b, cons_at, cons_pos, cons_pos', cons_le, sem_br, sem_ask, sem_nxt, PC.holds, h1, i1, i2, i3, need_true, decide_true, if_true, Bool.false_eq_true, if_false, Int.le_refl, Nat.zero_le, List.length_map, Nat.mul_one, stepO_nxt, inn] <;> exact ih
theorem i32_7 {bl : List Int} {i b : Nat} {len : Int} {e cnt : Nat} {lst : List DV} (hb : b ≤ 6) (hi : i ≤ 8) (hc : cnt ≤ 8) : ∀ (k j n : Nat) (r : List Bool), b = j + k → n < 2 ^ j →
    res B32 (.c7 bl.length (bl.map vI) r.length (r.map vB) e cnt lst (n : Int) len (i : Int) (b : Int) (j : Int) e) = res B32 (.c5 bl.length (bl.map vI) (inn k n r).2.length ((inn k n r).2.map vB) (e + 1) (cnt + 1) (lst ++ [vI (lv 7 (inn k n r).1 0)]) len ((i + 1 : Nat) : Int) (e + 1))
  | 0, j, n, r, hk, hn => by
    have h1 : ¬ ((j : Int) < (b : Int)) := by omega
    have h64 : n < 64 := Nat.lt_of_lt_of_le hn (pow_64 (by omega))
    have hin : inI64 ((i : Int) + 1) := by unfold inI64; omega
    rw [res_eq]
    simp only [B32, F122_eq h64, sem_br, sem_ask, sem_nxt, sem_bind_some, sem_sees, PC.holds, h1, hin, show fitsN (cnt + 1) 8 from ⟨by omega, by omega⟩, need_true, decide_false, Bool.false_eq_true, if_false, stepO_nxt]
    rfl
  | k + 1, j, n, r, hk, hn => by
    have h1 : (j : Int) < (b : Int) := by omega
    have h64 : n < 64 := Nat.lt_of_lt_of_le hn (pow_64 (by omega))
    have i1 : inI64 ((n : Int) * 2) := by unfold inI64; omega
    have i2 : inI64 ((j : Int) + 1) := by unfold inI64; omega
    have i3 : inI64 ((n : Int) * 2 + 1) := by unfold inI64; omega
    cases r with
    | nil =>
      have ih := i32_7 (bl := bl) (len := len) (e := e) (lst := lst) hb hi hc k (j + 1) (n * 2) [] (by omega) (by rw [Nat.pow_succ]; omega)
      rw [res_eq]
      simp only [B32, sem_br, sem_ask, sem_nxt, PC.holds, h1, i1, i2, nil_pos, need_true, decide_true, decide_false, if_true, Bool.false_eq_true, if_false, stepO_nxt, inn]
      rw [← ih]; rfl
    | cons x r =>
      have ih := i32_7 (bl := bl) (len := len) (e := e) (lst := lst) hb hi hc k (j + 1) (n * 2 + (if x then 1 else 0)) r (by omega) (by rw [Nat.pow_succ]; split <;> omega)
      rw [res_eq]
      cases x <;> simp only [Bool.false_eq_true, if_false, if_true] at ih <;> simp only [B32, cons_take, cons_take2, cons_n, cons_b, cons_at, cons_pos, cons_pos', cons_le, sem_br, sem_ask, sem_nxt, PC.holds, h1, i1, i2, i3, need_true, decide_true, if_true, Bool.false_eq_true, if_false, Int.le_refl, Nat.zero_le, List.length_map, Nat.mul_one, stepO_nxt, inn] <;> exact ih
theorem i32_12 {bl : List Int} {i b : Nat} {len : Int} {o1 o2 : Nat} {ol : List DV} {g1 g2 : Nat} (hb : b ≤ 6) (hi : i ≤ 8) : ∀ (k j n : Nat) (r : List Bool), b = j + k → n < 2 ^ j →
    res B32 (.c12 bl.length (bl.map vI) o1 o2 ol r.length (r.map vB) (n : Int) len (i : Int) (b : Int) (j : Int) g1 g2) = res B32 (.c14 bl.length (bl.map vI) o1 o2 ol (inn k n r).2.length ((inn k n r).2.map vB) 0 1 [vI (lv 7 (inn k n r).1 0)] len ((i + 1 : Nat) : Int) g1 g2 0)
  | 0, j, n, r, hk, hn => by
    have h1 : ¬ ((j : Int) < (b : Int)) := by omega
    have h64 : n < 64 := Nat.lt_of_lt_of_le hn (pow_64 (by omega))
    have hin : inI64 ((i : Int) + 1) := by unfold inI64; omega
    rw [res_eq]
    simp only [B32, F122_eq h64, sem_br, sem_ask, sem_nxt, sem_bind_some, sem_sees, PC.holds, h1, hin, need_true, decide_false, Bool.false_eq_true, if_false, stepO_nxt]
    rfl
  | k + 1, j, n, r, hk, hn => by
    have h1 : (j : Int) < (b : Int) := by omega
    have h64 : n < 64 := Nat.lt_of_lt_of_le hn (pow_64 (by omega))
    have i1 : inI64 ((n : Int) * 2) := by unfold inI64; omega
    have i2 : inI64 ((j : Int) + 1) := by unfold inI64; omega
    have i3 : inI64 ((n : Int) * 2 + 1) := by unfold inI64; omega
    cases r with
    | nil =>
      have ih := i32_12 (bl := bl) (len := len) (o1 := o1) (o2 := o2) (ol := ol) (g1 := g1) (g2 := g2) hb hi  k (j + 1) (n * 2) [] (by omega) (by rw [Nat.pow_succ]; omega)
      rw [res_eq]
      simp only [B32, sem_br, sem_ask, sem_nxt, PC.holds, h1, i1, i2, nil_pos, need_true, decide_true, decide_false, if_true, Bool.false_eq_true, if_false, stepO_nxt, inn]
      rw [← ih]; rfl
    | cons x r =>
      have ih := i32_12 (bl := bl) (len := len) (o1 := o1) (o2 := o2) (ol := ol) (g1 := g1) (g2 := g2) hb hi  k (j + 1) (n * 2 + (if x then 1 else 0)) r (by omega) (by rw [Nat.pow_succ]; split <;> omega)
      rw [res_eq]
      cases x <;> simp only [Bool.false_eq_true, if_false, if_true] at ih <;> simp only [B32, cons_take, cons_take2, cons_n, cons_b, cons_at, cons_pos, cons_pos', cons_le, sem_br, sem_ask, sem_nxt, PC.holds, h1, i1, i2, i3, need_true, decide_true, if_true, Bool.false_eq_true, if_false, Int.le_refl, Nat.zero_le, List.length_map, Nat.mul_one, stepO_nxt, inn] <;> exact ih
theorem i32_15 {bl : List Int} {i b : Nat} {len : Int} {o1 o2 : Nat} {ol : List DV} {g1 g2 : Nat} {e cnt : Nat} {lst : List DV} (hb : b ≤ 6) (hi : i ≤ 8) (hc : cnt ≤ 8) : ∀ (k j n : Nat) (r : List Bool), b = j + k → n < 2 ^ j →
    res B32 (.c15 bl.length (bl.map vI) o1 o2 ol r.length (r.map vB) e cnt lst (n : Int) len (i : Int) (b : Int) (j : Int) g1 g2 e) = res B32 (.c14 bl.length (bl.map vI) o1 o2 ol (inn k n r).2.length ((inn k n r).2.map vB) (e + 1) (cnt + 1) (lst ++ [vI (lv 7 (inn k n r).1 0)]) len ((i + 1 : Nat) : Int) g1 g2 (e + 1))
  | 0, j, n, r, hk, hn => by
    have h1 : ¬ ((j : Int) < (b : Int)) := by omega
    have h64 : n < 64 := Nat.lt_of_lt_of_le hn (pow_64 (by omega))
    have hin : inI64 ((i : Int) + 1) := by unfold inI64; omega
    rw [res_eq]
    simp only [B32, F122_eq h64, sem_br, sem_ask, sem_nxt, sem_bind_some, sem_sees, PC.holds, h1, hin, show fitsN (cnt + 1) 8 from ⟨by omega, by omega⟩, need_true, decide_false, Bool.false_eq_true, if_false, stepO_nxt]
    rfl
  | k + 1, j, n, r, hk, hn => by
    have h1 : (j : Int) < (b : Int) := by omega
    have h64 : n < 64 := Nat.lt_of_lt_of_le hn (pow_64 (by omega))
    have i1 : inI64 ((n : Int) * 2) := by unfold inI64; omega
    have i2 : inI64 ((j : Int) + 1) := by unfold inI64; omega
    have i3 : inI64 ((n : Int) * 2 + 1) := by unfold inI64; omega
    cases r with
    | nil =>
      have ih := i32_15 (bl := bl) (len := len) (o1 := o1) (o2 := o2) (ol := ol) (g1 := g1) (g2 := g2) (e := e) (lst := lst) hb hi hc k (j + 1) (n * 2) [] (by omega) (by rw [Nat.pow_succ]; omega)
      rw [res_eq]
      simp only [B32, sem_br, sem_ask, sem_nxt, PC.holds, h1, i1, i2, nil_pos, need_true, decide_true, decide_false, if_true, Bool.false_eq_true, if_false, stepO_nxt, inn]
      rw [← ih]; rfl
    | cons x r =>
      have ih := i32_15 (bl := bl) (len := len) (o1 := o1) (o2 := o2) (ol := ol) (g1 := g1) (g2 := g2) (e := e) (lst := lst) hb hi hc k (j + 1) (n * 2 + (if x then 1 else 0)) r (by omega) (by rw [Nat.pow_succ]; split <;> omega)
      rw [res_eq]
      cases x <;> simp only [Bool.false_eq_true, if_false, if_true] at ih <;> simp only [B32, cons_take, cons_take2, cons_n, cons_b, cons_at, cons_pos, cons_pos', cons_le, sem_br, sem_ask, sem_nxt, PC.holds, h1, i1, i2, i3, need_true, decide_true, if_true, Bool.false_eq_true, if_false, Int.le_refl, Nat.zero_le, List.length_map, Nat.mul_one, stepO_nxt, inn] <;> exact ih
theorem dB_cel_map (l : List Bool) (i : Nat) : dB (cel (l.map vB) i) = l.getD i false := by
  unfold cel
  simp only [List.getD_eq_getElem?_getD, List.getElem?_map]
  cases l[i]? <;> rfl
theorem at_mapB {l : List Bool} {i : Nat} (h : i < l.length) : Option.map AV.d (List.drop i (l.map vB))[0]? = some (AV.d (DV.v (Value.bool (l.getD i false)))) := by
  simp [List.getElem?_drop, h, List.getD_eq_getElem?_getD, vB]
theorem i40_3 {bl : List Int} {dt : List Bool} {i b : Nat}  (hl : bl.length ≤ 8) (hi : i < bl.length) (hv : bl.getD i 0 = (b : Int)) (hb : b ≤ 6) : ∀ (k j n at' : Nat), b = j + k → n < 2 ^ j → at' + k ≤ 1000000 →
    res B40 (.c3 bl.length (bl.map vI) dt.length (dt.map vB) (at' : Int) (i : Int) (n : Int) (j : Int)) = res B40 (.c5 bl.length (bl.map vI) dt.length (dt.map vB) ((at' + k : Nat) : Int) 0 1 [vI (lv 7 (inn k n (dt.drop at')).1 0)] ((i + 1 : Nat) : Int) 0)
  | 0, j, n, at', hk, hn, ha => by
    have h1 : ¬ ((j : Int) < (b : Int)) := by omega
    have hi1 : (i : Int) < (bl.length : Int) := by omega
    have h64 : n < 64 := Nat.lt_of_lt_of_le hn (pow_64 (by omega))
    have hin : inI64 ((i : Int) + 1) := by unfold inI64; omega
    rw [res_eq]
    simp only [B40, F125_eq h64, sem_br, sem_ask, sem_nxt, sem_bind_some, sem_sees, PC.holds, Int.toNat_natCast, Nat.mul_one, dI_cel_map, at_map hi, hi1, Int.natCast_nonneg, List.length_map, Nat.le_of_lt hi, hv, h1, hin, need_true, decide_false, Bool.false_eq_true, if_false, stepO_nxt]
    rfl
  | k + 1, j, n, at', hk, hn, ha => by
    have h1 : (j : Int) < (b : Int) := by omega
    have hi1 : (i : Int) < (bl.length : Int) := by omega
    have h64 : n < 64 := Nat.lt_of_lt_of_le hn (pow_64 (by omega))
    have e2 : 2 * (n : Int) = ((n * 2 : Nat) : Int) := by omega
    have i1 : inI64 ((n * 2 : Nat) : Int) := by unfold inI64; omega
    have i2 : inI64 ((j : Int) + 1) := by unfold inI64; omega
    have i3 : inI64 (((n * 2 : Nat) : Int) + 1) := by unfold inI64; omega
    have i4 : inI64 ((at' : Int) + 1) := by unfold inI64; omega
    by_cases hd : at' < dt.length
    · have hd1 : (at' : Int) < (dt.length : Int) := by omega
      have ih := i40_3 (bl := bl) (dt := dt)  hl hi hv hb  k (j + 1) (n * 2 + (if dt.getD at' false then 1 else 0)) (at' + 1) (by omega) (by rw [Nat.pow_succ]; split <;> omega) (by omega)
      rw [dropD false hd, show at' + (k + 1) = at' + 1 + k by omega, res_eq]
      cases hx : dt.getD at' false <;> rw [hx] at ih <;> simp only [Bool.false_eq_true, if_false, if_true] at ih <;> simp only [B40, e2, sem_br, sem_ask, sem_nxt, PC.holds, Int.toNat_natCast, Nat.mul_one, dI_cel_map, at_map hi, dB_cel_map, at_mapB hd, hx, hi1, hd1, Int.natCast_nonneg, List.length_map, Nat.le_of_lt hi, Nat.le_of_lt hd, hv, h1, i1, i2, i3, i4, beq_self_eq_true, need_true, decide_true, if_true, Bool.false_eq_true, if_false, stepO_nxt, inn] <;> exact ih
    · have hd1 : ¬ ((at' : Int) < (dt.length : Int)) := by omega
      have ih := i40_3 (bl := bl) (dt := dt)  hl hi hv hb  k (j + 1) (n * 2) (at' + 1) (by omega) (by rw [Nat.pow_succ]; omega) (by omega)
      rw [List.drop_of_length_le (show dt.length ≤ at' + 1 by omega)] at ih
      rw [List.drop_of_length_le (show dt.length ≤ at' by omega), show at' + (k + 1) = at' + 1 + k by omega, res_eq]
      simp only [B40, e2, sem_br, sem_ask, sem_nxt, PC.holds, Int.toNat_natCast, Nat.mul_one, dI_cel_map, at_map hi, hi1, hd1, Int.natCast_nonneg, List.length_map, Nat.le_of_lt hi, hv, h1, i1, i2, i4, need_true, decide_true, decide_false, if_true, Bool.false_eq_true, if_false, stepO_nxt, inn]
      exact ih
theorem i40_7 {bl : List Int} {dt : List Bool} {i b : Nat} {e cnt : Nat} {lst : List DV} (hl : bl.length ≤ 8) (hi : i < bl.length) (hv : bl.getD i 0 = (b : Int)) (hb : b ≤ 6) (hc : cnt ≤ 8) : ∀ (k j n at' : Nat), b = j + k → n < 2 ^ j → at' + k ≤ 1000000 →
    res B40 (.c7 bl.length (bl.map vI) dt.length (dt.map vB) (at' : Int) e cnt lst (i : Int) (n : Int) (j : Int) e) = res B40 (.c5 bl.length (bl.map vI) dt.length (dt.map vB) ((at' + k : Nat) : Int) (e + 1) (cnt + 1) (lst ++ [vI (lv 7 (inn k n (dt.drop at')).1 0)]) ((i + 1 : Nat) : Int) (e + 1))
  | 0, j, n, at', hk, hn, ha => by
    have h1 : ¬ ((j : Int) < (b : Int)) := by omega
    have hi1 : (i : Int) < (bl.length : Int) := by omega
    have h64 : n < 64 := Nat.lt_of_lt_of_le hn (pow_64 (by omega))
    have hin : inI64 ((i : Int) + 1) := by unfold inI64; omega
    rw [res_eq]
    simp only [B40, F125_eq h64, sem_br, sem_ask, sem_nxt, sem_bind_some, sem_sees, PC.holds, Int.toNat_natCast, Nat.mul_one, dI_cel_map, at_map hi, hi1, Int.natCast_nonneg, List.length_map, Nat.le_of_lt hi, hv, h1, hin, show fitsN (cnt + 1) 8 from ⟨by omega, by omega⟩, need_true, decide_false, Bool.false_eq_true, if_false, stepO_nxt]
    rfl
  | k + 1, j, n, at', hk, hn, ha => by
    have h1 : (j : Int) < (b : Int) := by omega
    have hi1 : (i : Int) < (bl.length : Int) := by omega
    have h64 : n < 64 := Nat.lt_of_lt_of_le hn (pow_64 (by omega))
    have e2 : 2 * (n : Int) = ((n * 2 : Nat) : Int) := by omega
    have i1 : inI64 ((n * 2 : Nat) : Int) := by unfold inI64; omega
    have i2 : inI64 ((j : Int) + 1) := by unfold inI64; omega
    have i3 : inI64 (((n * 2 : Nat) : Int) + 1) := by unfold inI64; omega
    have i4 : inI64 ((at' : Int) + 1) := by unfold inI64; omega
    by_cases hd : at' < dt.length
    · have hd1 : (at' : Int) < (dt.length : Int) := by omega
      have ih := i40_7 (bl := bl) (dt := dt) (e := e) (lst := lst) hl hi hv hb hc k (j + 1) (n * 2 + (if dt.getD at' false then 1 else 0)) (at' + 1) (by omega) (by rw [Nat.pow_succ]; split <;> omega) (by omega)
      rw [dropD false hd, show at' + (k + 1) = at' + 1 + k by omega, res_eq]
      cases hx : dt.getD at' false <;> rw [hx] at ih <;> simp only [Bool.false_eq_true, if_false, if_true] at ih <;> simp only [B40, e2, sem_br, sem_ask, sem_nxt, PC.holds, Int.toNat_natCast, Nat.mul_one, dI_cel_map, at_map hi, dB_cel_map, at_mapB hd, hx, hi1, hd1, Int.natCast_nonneg, List.length_map, Nat.le_of_lt hi, Nat.le_of_lt hd, hv, h1, i1, i2, i3, i4, beq_self_eq_true, need_true, decide_true, if_true, Bool.false_eq_true, if_false, stepO_nxt, inn] <;> exact ih
    · have hd1 : ¬ ((at' : Int) < (dt.length : Int)) := by omega
      have ih := i40_7 (bl := bl) (dt := dt) (e := e) (lst := lst) hl hi hv hb hc k (j + 1) (n * 2) (at' + 1) (by omega) (by rw [Nat.pow_succ]; omega) (by omega)
      rw [List.drop_of_length_le (show dt.length ≤ at' + 1 by omega)] at ih
      rw [List.drop_of_length_le (show dt.length ≤ at' by omega), show at' + (k + 1) = at' + 1 + k by omega, res_eq]
      simp only [B40, e2, sem_br, sem_ask, sem_nxt, PC.holds, Int.toNat_natCast, Nat.mul_one, dI_cel_map, at_map hi, hi1, hd1, Int.natCast_nonneg, List.length_map, Nat.le_of_lt hi, hv, h1, i1, i2, i4, need_true, decide_true, decide_false, if_true, Bool.false_eq_true, if_false, stepO_nxt, inn]
      exact ih
theorem i40_12 {bl : List Int} {dt : List Bool} {i b : Nat} {o1 o2 : Nat} {ol : List DV} {g1 g2 : Nat} (hl : bl.length ≤ 8) (hi : i < bl.length) (hv : bl.getD i 0 = (b : Int)) (hb : b ≤ 6) : ∀ (k j n at' : Nat), b = j + k → n < 2 ^ j → at' + k ≤ 1000000 →
    res B40 (.c12 bl.length (bl.map vI) dt.length (dt.map vB) o1 o2 ol (at' : Int) (i : Int) (n : Int) (j : Int) g1 g2) = res B40 (.c14 bl.length (bl.map vI) dt.length (dt.map vB) o1 o2 ol ((at' + k : Nat) : Int) 0 1 [vI (lv 7 (inn k n (dt.drop at')).1 0)] ((i + 1 : Nat) : Int) g1 g2 0)
  | 0, j, n, at', hk, hn, ha => by
    have h1 : ¬ ((j : Int) < (b : Int)) := by omega
    have hi1 : (i : Int) < (bl.length : Int) := by omega
    have h64 : n < 64 := Nat.lt_of_lt_of_le hn (pow_64 (by omega))
    have hin : inI64 ((i : Int) + 1) := by unfold inI64; omega
    rw [res_eq]
    simp only [B40, F125_eq h64, sem_br, sem_ask, sem_nxt, sem_bind_some, sem_sees, PC.holds, Int.toNat_natCast, Nat.mul_one, dI_cel_map, at_map hi, hi1, Int.natCast_nonneg, List.length_map, Nat.le_of_lt hi, hv, h1, hin, need_true, decide_false, Bool.false_eq_true, if_false, stepO_nxt]
    rfl
  | k + 1, j, n, at', hk, hn, ha => by
    have h1 : (j : Int) < (b : Int) := by omega
    have hi1 : (i : Int) < (bl.length : Int) := by omega
    have h64 : n < 64 := Nat.lt_of_lt_of_le hn (pow_64 (by omega))
    have e2 : 2 * (n : Int) = ((n * 2 : Nat) : Int) := by omega
    have i1 : inI64 ((n * 2 : Nat) : Int) := by unfold inI64; omega
    have i2 : inI64 ((j : Int) + 1) := by unfold inI64; omega
    have i3 : inI64 (((n * 2 : Nat) : Int) + 1) := by unfold inI64; omega
    have i4 : inI64 ((at' : Int) + 1) := by unfold inI64; omega
    by_cases hd : at' < dt.length
    · have hd1 : (at' : Int) < (dt.length : Int) := by omega
      have ih := i40_12 (bl := bl) (dt := dt) (o1 := o1) (o2 := o2) (ol := ol) (g1 := g1) (g2 := g2) hl hi hv hb  k (j + 1) (n * 2 + (if dt.getD at' false then 1 else 0)) (at' + 1) (by omega) (by rw [Nat.pow_succ]; split <;> omega) (by omega)
      rw [dropD false hd, show at' + (k + 1) = at' + 1 + k by omega, res_eq]
      cases hx : dt.getD at' false <;> rw [hx] at ih <;> simp only [Bool.false_eq_true, if_false, if_true] at ih <;> simp only [B40, e2, sem_br, sem_ask, sem_nxt, PC.holds, Int.toNat_natCast, Nat.mul_one, dI_cel_map, at_map hi, dB_cel_map, at_mapB hd, hx, hi1, hd1, Int.natCast_nonneg, List.length_map, Nat.le_of_lt hi, Nat.le_of_lt hd, hv, h1, i1, i2, i3, i4, beq_self_eq_true, need_true, decide_true, if_true, Bool.false_eq_true, if_false, stepO_nxt, inn] <;> exact ih
    · have hd1 : ¬ ((at' : Int) < (dt.length : Int)) := by omega
      have ih := i40_12 (bl := bl) (dt := dt) (o1 := o1) (o2 := o2) (ol := ol) (g1 := g1) (g2 := g2) hl hi hv hb  k (j + 1) (n * 2) (at' + 1) (by omega) (by rw [Nat.pow_succ]; omega) (by omega)
      rw [List.drop_of_length_le (show dt.length ≤ at' + 1 by omega)] at ih
      rw [List.drop_of_length_le (show dt.length ≤ at' by omega), show at' + (k + 1) = at' + 1 + k by omega, res_eq]
      simp only [B40, e2, sem_br, sem_ask, sem_nxt, PC.holds, Int.toNat_natCast, Nat.mul_one, dI_cel_map, at_map hi, hi1, hd1, Int.natCast_nonneg, List.length_map, Nat.le_of_lt hi, hv, h1, i1, i2, i4, need_true, decide_true, decide_false, if_true, Bool.false_eq_true, if_false, stepO_nxt, inn]
      exact ih
theorem i40_15 {bl : List Int} {dt : List Bool} {i b : Nat} {o1 o2 : Nat} {ol : List DV} {g1 g2 : Nat} {e cnt : Nat} {lst : List DV} (hl : bl.length ≤ 8) (hi : i < bl.length) (hv : bl.getD i 0 = (b : Int)) (hb : b ≤ 6) (hc : cnt ≤ 8) : ∀ (k j n at' : Nat), b = j + k → n < 2 ^ j → at' + k ≤ 1000000 →
    res B40 (.c15 bl.length (bl.map vI) dt.length (dt.map vB) o1 o2 ol (at' : Int) e cnt lst (i : Int) (n : Int) (j : Int) g1 g2 e) = res B40 (.c14 bl.length (bl.map vI) dt.length (dt.map vB) o1 o2 ol ((at' + k : Nat) : Int) (e + 1) (cnt + 1) (lst ++ [vI (lv 7 (inn k n (dt.drop at')).1 0)]) ((i + 1 : Nat) : Int) g1 g2 (e + 1))
  | 0, j, n, at', hk, hn, ha => by
    have h1 : ¬ ((j : Int) < (b : Int)) := by omega
    have hi1 : (i : Int) < (bl.length : Int) := by omega
    have h64 : n < 64 := Nat.lt_of_lt_of_le hn (pow_64 (by omega))
    have hin : inI64 ((i : Int) + 1) := by unfold inI64; omega
    rw [res_eq]
    simp only [B40, F125_eq h64, sem_br, sem_ask, sem_nxt, sem_bind_some, sem_sees, PC.holds, Int.toNat_natCast, Nat.mul_one, dI_cel_map, at_map hi, hi1, Int.natCast_nonneg, List.length_map, Nat.le_of_lt hi, hv, h1, hin, show fitsN (cnt + 1) 8 from ⟨by omega, by omega⟩, need_true, decide_false, Bool.false_eq_true, if_false, stepO_nxt]
    rfl
  | k + 1, j, n, at', hk, hn, ha => by
    have h1 : (j : Int) < (b : Int) := by omega
    have hi1 : (i : Int) < (bl.length : Int) := by omega
    have h64 : n < 64 := Nat.lt_of_lt_of_le hn (pow_64 (by omega))
    have e2 : 2 * (n : Int) = ((n * 2 : Nat) : Int) := by omega
    have i1 : inI64 ((n * 2 : Nat) : Int) := by unfold inI64; omega
    have i2 : inI64 ((j : Int) + 1) := by unfold inI64; omega
    have i3 : inI64 (((n * 2 : Nat) : Int) + 1) := by unfold inI64; omega
    have i4 : inI64 ((at' : Int) + 1) := by unfold inI64; omega
    by_cases hd : at' < dt.length
    · have hd1 : (at' : Int) < (dt.length : Int) := by omega
      have ih := i40_15 (bl := bl) (dt := dt) (o1 := o1) (o2 := o2) (ol := ol) (g1 := g1) (g2 := g2) (e := e) (lst := lst) hl hi hv hb hc k (j + 1) (n * 2 + (if dt.getD at' false then 1 else 0)) (at' + 1) (by omega) (by rw [Nat.pow_succ]; split <;> omega) (by omega)
      rw [dropD false hd, show at' + (k + 1) = at' + 1 + k by omega, res_eq]
      cases hx : dt.getD at' false <;> rw [hx] at ih <;> simp only [Bool.false_eq_true, if_false, if_true] at ih <;> simp only [B40, e2, sem_br, sem_ask, sem_nxt, PC.holds, Int.toNat_natCast, Nat.mul_one, dI_cel_map, at_map hi, dB_cel_map, at_mapB hd, hx, hi1, hd1, Int.natCast_nonneg, List.length_map, Nat.le_of_lt hi, Nat.le_of_lt hd, hv, h1, i1, i2, i3, i4, beq_self_eq_true, need_true, decide_true, if_true, Bool.false_eq_true, if_false, stepO_nxt, inn] <;> exact ih
    · have hd1 : ¬ ((at' : Int) < (dt.length : Int)) := by omega
      have ih := i40_15 (bl := bl) (dt := dt) (o1 := o1) (o2 := o2) (ol := ol) (g1 := g1) (g2 := g2) (e := e) (lst := lst) hl hi hv hb hc k (j + 1) (n * 2) (at' + 1) (by omega) (by rw [Nat.pow_succ]; omega) (by omega)
      rw [List.drop_of_length_le (show dt.length ≤ at' + 1 by omega)] at ih
      rw [List.drop_of_length_le (show dt.length ≤ at' by omega), show at' + (k + 1) = at' + 1 + k by omega, res_eq]
      simp only [B40, e2, sem_br, sem_ask, sem_nxt, PC.holds, Int.toNat_natCast, Nat.mul_one, dI_cel_map, at_map hi, hi1, hd1, Int.natCast_nonneg, List.length_map, Nat.le_of_lt hi, hv, h1, i1, i2, i4, need_true, decide_true, decide_false, if_true, Bool.false_eq_true, if_false, stepO_nxt, inn]
      exact ih
def sym : List Int → List Bool → List Int × List Bool
  | [], r => ([], r)
  | b :: bs, r => (lv 7 (inn b.toNat 0 r).1 0 :: (sym bs (inn b.toNat 0 r).2).1, (sym bs (inn b.toNat 0 r).2).2)
def tot : List Int → Nat
  | [] => 0
  | b :: bs => b.toNat + tot bs
theorem inn_rest : ∀ (k n : Nat) (r : List Bool), (inn k n r).2 = r.drop k
  | 0, n, r => rfl
  | k + 1, n, [] => by unfold inn; rw [inn_rest k]; simp
  | k + 1, n, x :: r => by unfold inn; rw [inn_rest k]; simp
theorem sym_rest : ∀ (bl : List Int) (r : List Bool), (sym bl r).2 = r.drop (tot bl)
  | [], r => by simp [sym, tot]
  | b :: bs, r => by
    unfold sym tot
    simp only
    rw [sym_rest bs, inn_rest, List.drop_drop]
theorem tot_pos : ∀ {bl : List Int}, (∀ x ∈ bl, 0 ≤ x) → (∃ x ∈ bl, x ≠ 0) → 1 ≤ tot bl
  | [], _, ⟨x, hx, _⟩ => by simp at hx
  | b :: bs, h, ⟨x, hx, hx0⟩ => by
    unfold tot
    by_cases hb : b = 0
    · rcases List.mem_cons.1 hx with rfl | hx
      · exact absurd hb hx0
      · have := tot_pos (bl := bs) (fun y hy => h y (by simp [hy])) ⟨x, hx, hx0⟩
        omega
    · have := h b (by simp)
      omega
theorem sym_len : ∀ (bl : List Int) (r : List Bool), (sym bl r).1.length = bl.length
  | [], r => rfl
  | b :: bs, r => by unfold sym; simp only [List.length_cons, sym_len bs]
def loads (bl : List Int) : Nat → List Bool → List (List Int)
  | 0, _ => []
  | f + 1, r => if r.length = 0 then [] else (sym bl r).1 :: loads bl f (r.drop (tot bl))
section
variable {bl : List Int}
theorem BM.b (h : BM bl) {i : Nat} (hi : i < bl.length) : ∃ b : Nat, bl.getD i 0 = (b : Int) ∧ b ≤ 6 ∧ (bl.getD i 0).toNat = b := by
  have := h.e _ (getD_memI hi)
  exact ⟨(bl.getD i 0).toNat, by omega, by omega, rfl⟩
theorem sym_drop {i : Nat} (hi : i < bl.length) (r : List Bool) {b : Nat} (hb : bl.getD i 0 = (b : Int)) : sym (bl.drop i) r = (lv 7 (inn b 0 r).1 0 :: (sym (bl.drop (i + 1)) (inn b 0 r).2).1, (sym (bl.drop (i + 1)) (inn b 0 r).2).2) := by
  rw [dropD 0 hi, hb]
  simp only [sym, Int.toNat_natCast]
theorem s32_5 (h : BM bl) : ∀ (k i e cnt : Nat) (lst : List DV) (r : List Bool), bl.length = i + k → cnt + k ≤ 8 →
    res B32 (.c5 bl.length (bl.map vI) r.length (r.map vB) e cnt lst (bl.length : Int) (i : Int) e) = res B32 (.c8 bl.length (bl.map vI) 0 1 [.sl (cnt + k) (lst ++ (sym (bl.drop i) r).1.map vI)] (sym (bl.drop i) r).2.length ((sym (bl.drop i) r).2.map vB) (e + k) 0)
  | 0, i, e, cnt, lst, r, hk, hc => by
    have h1 : ¬ ((i : Int) < (bl.length : Int)) := by omega
    rw [List.drop_of_length_le (show bl.length ≤ i by omega), res_eq]
    simp only [B32, sem_br, sem_nxt, h1, decide_false, Bool.false_eq_true, if_false, stepO_nxt, sym, List.map_nil, List.append_nil, Nat.add_zero]
  | k + 1, i, e, cnt, lst, r, hk, hc => by
    have hi : i < bl.length := by omega
    have h1 : (i : Int) < (bl.length : Int) := by omega
    have h8 := h.n8
    obtain ⟨b, hb, hb6, _⟩ := h.b hi
    have hin := i32_7 (bl := bl) (len := (bl.length : Int)) (e := e) (lst := lst) (cnt := cnt) hb6 (show i ≤ 8 by omega) (by omega) b 0 0 r (by omega) (by decide)
    have ih := s32_5 h k (i + 1) (e + 1) (cnt + 1) (lst ++ [vI (lv 7 (inn b 0 r).1 0)]) (inn b 0 r).2 (by omega) (by omega)
    rw [sym_drop hi r hb, res_eq]
    simp only [B32, sem_br, sem_ask, sem_nxt, PC.holds, need_true, Int.toNat_natCast, Nat.mul_one, dI_cel_map, at_map hi, hb, h1, decide_true, if_true, Int.natCast_nonneg, List.length_map, Nat.le_of_lt hi, stepO_nxt]
    refine Eq.trans (show _ = _ from hin) ?_
    rw [ih]
    simp only [List.map_cons, List.append_assoc, List.singleton_append]
    rw [show cnt + 1 + k = cnt + (k + 1) by omega, show e + 1 + k = e + (k + 1) by omega]
theorem s32_14 (h : BM bl) {o o2 g1 : Nat} {ol : List DV} (ho : o2 ≤ 100000) : ∀ (k i e cnt : Nat) (lst : List DV) (r : List Bool), bl.length = i + k → cnt + k ≤ 8 →
    res B32 (.c14 bl.length (bl.map vI) o o2 ol r.length (r.map vB) e cnt lst (bl.length : Int) (i : Int) g1 o e) = res B32 (.c8 bl.length (bl.map vI) (o + 1) (o2 + 1) (ol ++ [.sl (cnt + k) (lst ++ (sym (bl.drop i) r).1.map vI)]) (sym (bl.drop i) r).2.length ((sym (bl.drop i) r).2.map vB) g1 (o + 1))
  | 0, i, e, cnt, lst, r, hk, hc => by
    have h1 : ¬ ((i : Int) < (bl.length : Int)) := by omega
    have hf : fitsN (o2 + 1) 24 := ⟨by omega, by omega⟩
    rw [List.drop_of_length_le (show bl.length ≤ i by omega), res_eq]
    simp only [B32, sem_br, sem_ask, sem_nxt, PC.holds, hf, need_true, h1, decide_false, Bool.false_eq_true, if_false, stepO_nxt, sym, List.map_nil, List.append_nil, Nat.add_zero]
  | k + 1, i, e, cnt, lst, r, hk, hc => by
    have hi : i < bl.length := by omega
    have h1 : (i : Int) < (bl.length : Int) := by omega
    have h8 := h.n8
    obtain ⟨b, hb, hb6, _⟩ := h.b hi
    have hin := i32_15 (bl := bl) (len := (bl.length : Int)) (o1 := o) (o2 := o2) (ol := ol) (g1 := g1) (g2 := o) (e := e) (lst := lst) (cnt := cnt) hb6 (show i ≤ 8 by omega) (by omega) b 0 0 r (by omega) (by decide)
    have ih := s32_14 (o := o) (g1 := g1) (ol := ol) h ho k (i + 1) (e + 1) (cnt + 1) (lst ++ [vI (lv 7 (inn b 0 r).1 0)]) (inn b 0 r).2 (by omega) (by omega)
    rw [sym_drop hi r hb, res_eq]
    simp only [B32, sem_br, sem_ask, sem_nxt, PC.holds, need_true, Int.toNat_natCast, Nat.mul_one, dI_cel_map, at_map hi, hb, h1, decide_true, if_true, Int.natCast_nonneg, List.length_map, Nat.le_of_lt hi, stepO_nxt]
    refine Eq.trans (show _ = _ from hin) ?_
    rw [ih]
    simp only [List.map_cons, List.append_assoc, List.singleton_append]
    rw [show cnt + 1 + k = cnt + (k + 1) by omega]
end
section
variable {bl : List Int}
theorem nil_pos0 : ¬ (((0 : Nat) : Int) > 0) := by omega
theorem loads_nil (f : Nat) : loads bl f [] = [] := by
  cases f <;> rfl
theorem loads_cons {f : Nat} {r : List Bool} (h : 0 < r.length) : loads bl (f + 1) r = (sym bl r).1 :: loads bl f (r.drop (tot bl)) := by
  unfold loads
  rw [if_neg (by omega)]
  cases f <;> rfl
theorem BM.pos (h : BM bl) : 1 ≤ tot bl := tot_pos (fun x hx => (h.e x hx).1) h.s
theorem sym_whole (h : BM bl) (r : List Bool) {b : Nat} (hb : bl.getD 0 0 = (b : Int)) : sym bl r = (lv 7 (inn b 0 r).1 0 :: (sym (bl.drop 1) (inn b 0 r).2).1, (sym (bl.drop 1) (inn b 0 r).2).2) := by
  have := sym_drop (bl := bl) (i := 0) h.n1 r hb
  rw [List.drop_zero] at this
  exact this
theorem s32_8 (h : BM bl) {g1 : Nat} : ∀ (f o o2 : Nat) (ol : List DV) (r : List Bool), r.length ≤ f → o2 + f ≤ 100000 →
    res B32 (.c8 bl.length (bl.map vI) o o2 ol r.length (r.map vB) g1 o) = some (o2 + (loads bl f r).length, ol ++ (loads bl f r).map eS, 0)
  | f, o, o2, ol, [], hf, ho => by
    rw [loads_nil, res_eq]
    simp only [B32, sem_br, sem_ret, nil_pos, nil_pos0, decide_false, Bool.false_eq_true, if_false, stepO_ret, List.length_nil, List.map_nil, List.append_nil, Nat.add_zero]
  | 0, o, o2, ol, x :: r, hf, ho => by simp at hf
  | f + 1, o, o2, ol, x :: r, hf, ho => by
    have h8 := h.n8
    have h1 := h.n1
    have hi : 0 < bl.length := h.n1
    have hi1 : ((0 : Nat) : Int) < (bl.length : Int) := by omega
    have hp := h.pos
    obtain ⟨b, hb, hb6, _⟩ := h.b hi
    have hin := i32_12 (bl := bl) (len := (bl.length : Int)) (o1 := o) (o2 := o2) (ol := ol) (g1 := g1) (g2 := o) hb6 (show 0 ≤ 8 by omega) b 0 0 (x :: r) (by omega) (by decide)
    have h14 := s32_14 (o := o) (g1 := g1) (ol := ol) (o2 := o2) h (by omega) (bl.length - 1) 1 0 1 [vI (lv 7 (inn b 0 (x :: r)).1 0)] (inn b 0 (x :: r)).2 (by omega) (by omega)
    have hs := sym_whole h (x :: r) hb
    have hrest := sym_rest bl (x :: r)
    have hlen := sym_len bl (x :: r)
    have ih := s32_8 h (g1 := g1) f (o + 1) (o2 + 1) (ol ++ [eS (sym bl (x :: r)).1]) ((x :: r).drop (tot bl)) (by rw [List.length_drop]; simp only [List.length_cons] at hf ⊢; omega) (by omega)
    rw [loads_cons (by simp), res_eq]
    simp only [B32, sem_br, sem_nxt, cons_pos', decide_true, if_true, stepO_nxt]
    rw [res_eq]
    rw [show (0 : Int) = ((0 : Nat) : Int) from rfl]
    simp only [B32, sem_br, sem_ask, sem_nxt, PC.holds, need_true, Int.toNat_natCast, Nat.mul_one, dI_cel_map, at_map hi, hb, hi1, decide_true, if_true, Int.natCast_nonneg, Int.le_refl, List.length_map, Nat.zero_le, Nat.le_of_lt hi, stepO_nxt]
    refine Eq.trans (show _ = _ from hin) ?_
    rw [show ((0 + 1 : Nat) : Int) = ((1 : Nat) : Int) from rfl, h14]
    have e1 : DV.sl (1 + (bl.length - 1)) ([vI (lv 7 (inn b 0 (x :: r)).1 0)] ++ (sym (bl.drop 1) (inn b 0 (x :: r)).2).1.map vI) = eS (sym bl (x :: r)).1 := by
      unfold eS
      rw [hlen, hs]
      rw [show 1 + (bl.length - 1) = bl.length by omega]
      rfl
    have e2 : (sym (bl.drop 1) (inn b 0 (x :: r)).2).2 = (x :: r).drop (tot bl) := by rw [← hrest, hs]
    rw [e1, e2, ih]
    simp only [List.length_cons, List.map_cons, List.append_assoc, List.singleton_append]
    rw [show o2 + 1 + (loads bl f ((x :: r).drop (tot bl))).length = o2 + ((loads bl f ((x :: r).drop (tot bl))).length + 1) by omega]
    rfl
def oneE (bl : List Int) (n : Nat) : Int := firstI [bearE bl, whenI (decide ((n : Int) > 1024)) 5]
theorem F32_valid (h : BM bl) {r : List Bool} (hr : r.length ≤ 1024) : res B32 (.c1 bl.length (bl.map vI) r.length (r.map vB)) = some ((loads bl r.length r).length, (loads bl r.length r).map eS, 0) := by
  cases r with
  | nil =>
    rw [loads_nil, res_eq]
    simp only [B32, sem_br, sem_ret, nil_pos, nil_pos0, decide_false, Bool.false_eq_true, if_false, stepO_ret, List.length_nil, List.map_nil]
  | cons x r =>
    have h8 := h.n8
    have h1 := h.n1
    have hi : 0 < bl.length := h.n1
    have hi1 : ((0 : Nat) : Int) < (bl.length : Int) := by omega
    have hp := h.pos
    obtain ⟨b, hb, hb6, _⟩ := h.b hi
    have hin := i32_3 (bl := bl) (len := (bl.length : Int)) hb6 (show 0 ≤ 8 by omega) b 0 0 (x :: r) (by omega) (by decide)
    have h5 := s32_5 h (bl.length - 1) 1 0 1 [vI (lv 7 (inn b 0 (x :: r)).1 0)] (inn b 0 (x :: r)).2 (by omega) (by omega)
    have hs := sym_whole h (x :: r) hb
    have hrest := sym_rest bl (x :: r)
    have hlen := sym_len bl (x :: r)
    have ih := s32_8 h (g1 := 0 + (bl.length - 1)) r.length 0 1 [eS (sym bl (x :: r)).1] ((x :: r).drop (tot bl)) (by rw [List.length_drop]; simp only [List.length_cons]; omega) (by simp only [List.length_cons] at hr; omega)
    rw [show (x :: r).length = r.length + 1 from rfl, loads_cons (by simp), res_eq]
    rw [show r.length + 1 = (x :: r).length from rfl]
    simp only [B32, sem_br, sem_nxt, cons_pos', decide_true, if_true, stepO_nxt]
    rw [res_eq]
    rw [show (0 : Int) = ((0 : Nat) : Int) from rfl]
    simp only [B32, sem_br, sem_ask, sem_nxt, PC.holds, need_true, Int.toNat_natCast, Nat.mul_one, dI_cel_map, at_map hi, hb, hi1, decide_true, if_true, Int.natCast_nonneg, Int.le_refl, List.length_map, Nat.zero_le, Nat.le_of_lt hi, stepO_nxt]
    refine Eq.trans (show _ = _ from hin) ?_
    rw [show ((0 + 1 : Nat) : Int) = ((1 : Nat) : Int) from rfl, h5]
    have e1 : DV.sl (1 + (bl.length - 1)) ([vI (lv 7 (inn b 0 (x :: r)).1 0)] ++ (sym (bl.drop 1) (inn b 0 (x :: r)).2).1.map vI) = eS (sym bl (x :: r)).1 := by
      unfold eS
      rw [hlen, hs]
      rw [show 1 + (bl.length - 1) = bl.length by omega]
      rfl
    have e2 : (sym (bl.drop 1) (inn b 0 (x :: r)).2).2 = (x :: r).drop (tot bl) := by rw [← hrest, hs]
    rw [e1, e2, ih]
    simp only [List.length_cons, List.map_cons, List.singleton_append]
    rw [show 1 + (loads bl r.length ((x :: r).drop (tot bl))).length = (loads bl r.length ((x :: r).drop (tot bl))).length + 1 by omega]
    rfl
theorem F32_eq {r : List Bool} (hl : bl.length ≤ 1025) : F32 bl.length (bl.map vI) r.length (r.map vB) = some (if oneE bl r.length = 0 then ((loads bl r.length r).length, (loads bl r.length r).map eS, 0) else (0, [], oneE bl r.length)) := by
  unfold F32
  rw [res_eq]
  simp only [B32, F121_eq bl hl, F109_eq, F107_2, sem_bind_some, sem_sees, sem_br, sem_ret, sem_nxt]
  rw [show firstI [bearE bl, whenI (decide ((r.length : Int) > 1024)) 5] = oneE bl r.length from rfl]
  by_cases h0 : oneE bl r.length = 0
  · have hb : bearE bl = 0 := Classical.byContradiction fun hn => by
      unfold oneE at h0; rw [first_pos hn] at h0; exact hn h0
    have hr : r.length ≤ 1024 := Classical.byContradiction fun hn => by
      have : ((r.length : Int) > 1024) := by omega
      unfold oneE at h0; rw [hb, first_z, decide_eq_true this, whenT] at h0; exact absurd h0 (by decide)
    simp only [h0, bne_self_eq_false, Bool.false_eq_true, if_false, if_true, stepO_nxt]
    exact F32_valid (bm_of hb) hr
  · have hb : (oneE bl r.length != 0) = true := bne_iff_ne.2 h0
    simp only [h0, hb, if_true, if_false, stepO_ret]
end
section
variable {bl : List Int} {dt : List Bool}
theorem tot_drop {i : Nat} (hi : i < bl.length) {b : Nat} (hb : bl.getD i 0 = (b : Int)) : tot (bl.drop i) = b + tot (bl.drop (i + 1)) := by
  rw [dropD 0 hi, hb]
  simp only [tot, Int.toNat_natCast]
theorem sym_at {i at' : Nat} (hi : i < bl.length) {b : Nat} (hb : bl.getD i 0 = (b : Int)) : (sym (bl.drop i) (dt.drop at')).1 = lv 7 (inn b 0 (dt.drop at')).1 0 :: (sym (bl.drop (i + 1)) (dt.drop (at' + b))).1 := by
  rw [sym_drop hi _ hb]
  simp only
  rw [inn_rest, List.drop_drop]
theorem s40_5 (h : BM bl) : ∀ (k i e cnt at' : Nat) (lst : List DV), bl.length = i + k → cnt + k ≤ 8 → at' + 6 * k ≤ 900000 →
    res B40 (.c5 bl.length (bl.map vI) dt.length (dt.map vB) (at' : Int) e cnt lst (i : Int) e) = res B40 (.c8 bl.length (bl.map vI) dt.length (dt.map vB) 0 1 [.sl (cnt + k) (lst ++ (sym (bl.drop i) (dt.drop at')).1.map vI)] ((at' + tot (bl.drop i) : Nat) : Int) (e + k) 0)
  | 0, i, e, cnt, at', lst, hk, hc, ha => by
    have h1 : ¬ ((i : Int) < (bl.length : Int)) := by omega
    rw [List.drop_of_length_le (show bl.length ≤ i by omega), res_eq]
    simp only [B40, sem_br, sem_nxt, h1, decide_false, Bool.false_eq_true, if_false, stepO_nxt, sym, tot, List.map_nil, List.append_nil, Nat.add_zero]
  | k + 1, i, e, cnt, at', lst, hk, hc, ha => by
    have hi : i < bl.length := by omega
    have h1 : (i : Int) < (bl.length : Int) := by omega
    obtain ⟨b, hb, hb6, _⟩ := h.b hi
    have hin := i40_7 (bl := bl) (dt := dt) (e := e) (lst := lst) (cnt := cnt) h.n8 hi hb hb6 (by omega) b 0 0 at' (by omega) (by decide) (by omega)
    have ih := s40_5 h k (i + 1) (e + 1) (cnt + 1) (at' + b) (lst ++ [vI (lv 7 (inn b 0 (dt.drop at')).1 0)]) (by omega) (by omega) (by omega)
    rw [sym_at hi hb, tot_drop hi hb, res_eq]
    simp only [B40, sem_br, sem_nxt, h1, decide_true, if_true, stepO_nxt]
    refine Eq.trans (show _ = _ from hin) ?_
    rw [ih]
    simp only [List.map_cons, List.append_assoc, List.singleton_append]
    rw [show cnt + 1 + k = cnt + (k + 1) by omega, show e + 1 + k = e + (k + 1) by omega, show at' + b + tot (bl.drop (i + 1)) = at' + (b + tot (bl.drop (i + 1))) by omega]
theorem s40_14 (h : BM bl) {o o2 g1 : Nat} {ol : List DV} (ho : o2 ≤ 100000) : ∀ (k i e cnt at' : Nat) (lst : List DV), bl.length = i + k → cnt + k ≤ 8 → at' + 6 * k ≤ 900000 →
    res B40 (.c14 bl.length (bl.map vI) dt.length (dt.map vB) o o2 ol (at' : Int) e cnt lst (i : Int) g1 o e) = res B40 (.c8 bl.length (bl.map vI) dt.length (dt.map vB) (o + 1) (o2 + 1) (ol ++ [.sl (cnt + k) (lst ++ (sym (bl.drop i) (dt.drop at')).1.map vI)]) ((at' + tot (bl.drop i) : Nat) : Int) g1 (o + 1))
  | 0, i, e, cnt, at', lst, hk, hc, ha => by
    have h1 : ¬ ((i : Int) < (bl.length : Int)) := by omega
    have hf : fitsN (o2 + 1) 24 := ⟨by omega, by omega⟩
    rw [List.drop_of_length_le (show bl.length ≤ i by omega), res_eq]
    simp only [B40, sem_br, sem_ask, sem_nxt, PC.holds, hf, need_true, h1, decide_false, Bool.false_eq_true, if_false, stepO_nxt, sym, tot, List.map_nil, List.append_nil, Nat.add_zero]
  | k + 1, i, e, cnt, at', lst, hk, hc, ha => by
    have hi : i < bl.length := by omega
    have h1 : (i : Int) < (bl.length : Int) := by omega
    obtain ⟨b, hb, hb6, _⟩ := h.b hi
    have hin := i40_15 (bl := bl) (dt := dt) (o1 := o) (o2 := o2) (ol := ol) (g1 := g1) (g2 := o) (e := e) (lst := lst) (cnt := cnt) h.n8 hi hb hb6 (by omega) b 0 0 at' (by omega) (by decide) (by omega)
    have ih := s40_14 (o := o) (g1 := g1) (ol := ol) h ho k (i + 1) (e + 1) (cnt + 1) (at' + b) (lst ++ [vI (lv 7 (inn b 0 (dt.drop at')).1 0)]) (by omega) (by omega) (by omega)
    rw [sym_at hi hb, tot_drop hi hb, res_eq]
    simp only [B40, sem_br, sem_nxt, h1, decide_true, if_true, stepO_nxt]
    refine Eq.trans (show _ = _ from hin) ?_
    rw [ih]
    simp only [List.map_cons, List.append_assoc, List.singleton_append]
    rw [show cnt + 1 + k = cnt + (k + 1) by omega, show at' + b + tot (bl.drop (i + 1)) = at' + (b + tot (bl.drop (i + 1))) by omega]
theorem tot_le : ∀ {l : List Int}, (∀ x ∈ l, x ≤ 6) → tot l ≤ 6 * l.length
  | [], _ => by simp [tot]
  | b :: bs, h => by
    unfold tot
    have h1 := h b (by simp)
    have := tot_le (l := bs) fun x hx => h x (by simp [hx])
    simp only [List.length_cons]
    omega
theorem s40_8 (h : BM bl) (hd : dt.length ≤ 1024) {g1 : Nat} : ∀ (f o o2 at' : Nat) (ol : List DV), dt.length - at' ≤ f → o2 + f ≤ 100000 → at' ≤ 2000 →
    res B40 (.c8 bl.length (bl.map vI) dt.length (dt.map vB) o o2 ol (at' : Int) g1 o) = some (o2 + (loads bl f (dt.drop at')).length, ol ++ (loads bl f (dt.drop at')).map eS) := by
  intro f
  induction f with
  | zero =>
    intro o o2 at' ol hf ho ha
    have h1 : ¬ ((at' : Int) < (dt.length : Int)) := by omega
    rw [res_eq]
    simp only [B40, sem_br, sem_ret, h1, decide_false, Bool.false_eq_true, if_false, stepO_ret, loads, List.length_nil, List.map_nil, List.append_nil, Nat.add_zero]
  | succ f ih =>
    intro o o2 at' ol hf ho ha
    by_cases hl : at' < dt.length
    · have h1 : (at' : Int) < (dt.length : Int) := by omega
      have h8 := h.n8
      have hi : 0 < bl.length := h.n1
      have hi1 : ((0 : Nat) : Int) < (bl.length : Int) := by omega
      have hp := h.pos
      have ht := tot_le (l := bl) fun x hx => (h.e x hx).2
      obtain ⟨b, hb, hb6, _⟩ := h.b hi
      have hin := i40_12 (bl := bl) (dt := dt) (o1 := o) (o2 := o2) (ol := ol) (g1 := g1) (g2 := o) h.n8 hi hb hb6 b 0 0 at' (by omega) (by decide) (by omega)
      have h14 := s40_14 (dt := dt) (o := o) (g1 := g1) (ol := ol) (o2 := o2) h (by omega) (bl.length - 1) 1 0 1 (at' + b) [vI (lv 7 (inn b 0 (dt.drop at')).1 0)] (by omega) (by omega) (by omega)
      have hsy := sym_at (bl := bl) (dt := dt) (i := 0) (at' := at') hi hb
      have hto : tot bl = b + tot (bl.drop 1) := by
        have h9 := tot_drop (bl := bl) (i := 0) hi hb
        rw [List.drop_zero] at h9; exact h9
      rw [List.drop_zero] at hsy
      have hlen := sym_len bl (dt.drop at')
      have ih' := ih (o + 1) (o2 + 1) (at' + tot bl) (ol ++ [eS (sym bl (dt.drop at')).1]) (by omega) (by omega) (by omega)
      rw [loads_cons (by rw [List.length_drop]; omega), res_eq]
      simp only [B40, sem_br, sem_nxt, h1, decide_true, if_true, stepO_nxt]
      rw [res_eq]
      rw [show (0 : Int) = ((0 : Nat) : Int) from rfl]
      simp only [B40, sem_br, sem_nxt, hi1, decide_true, if_true, stepO_nxt]
      refine Eq.trans (show _ = _ from hin) ?_
      rw [show ((0 + 1 : Nat) : Int) = ((1 : Nat) : Int) from rfl, h14]
      have e1 : DV.sl (1 + (bl.length - 1)) ([vI (lv 7 (inn b 0 (dt.drop at')).1 0)] ++ (sym (bl.drop 1) (dt.drop (at' + b))).1.map vI) = eS (sym bl (dt.drop at')).1 := by
        unfold eS
        rw [hlen, hsy, show 1 + (bl.length - 1) = bl.length by omega]
        rfl
      rw [e1, show at' + b + tot (bl.drop 1) = at' + tot bl by rw [hto]; omega, ih', List.drop_drop]
      simp only [List.length_cons, List.map_cons, List.append_assoc, List.singleton_append]
      rw [show o2 + 1 + (loads bl f (dt.drop (at' + tot bl))).length = o2 + ((loads bl f (dt.drop (at' + tot bl))).length + 1) by omega]
    · have h1 : ¬ ((at' : Int) < (dt.length : Int)) := by omega
      rw [List.drop_of_length_le (show dt.length ≤ at' by omega), loads_nil, res_eq]
      simp only [B40, sem_br, sem_ret, h1, decide_false, Bool.false_eq_true, if_false, stepO_ret, List.length_nil, List.map_nil, List.append_nil, Nat.add_zero]
theorem F40_eq (h : BM bl) (hd : dt.length ≤ 1024) : F40 bl.length (bl.map vI) dt.length (dt.map vB) = some ((loads bl dt.length dt).length, (loads bl dt.length dt).map eS) := by
  unfold F40
  rw [res_eq]
  simp only [B40, sem_nxt, stepO_nxt]
  by_cases hl : 0 < dt.length
  · have h1 : ((0 : Nat) : Int) < (dt.length : Int) := by omega
    have h8 := h.n8
    have hi : 0 < bl.length := h.n1
    have hi1 : ((0 : Nat) : Int) < (bl.length : Int) := by omega
    have hp := h.pos
    have ht := tot_le (l := bl) fun x hx => (h.e x hx).2
    obtain ⟨b, hb, hb6, _⟩ := h.b hi
    have hin := i40_3 (bl := bl) (dt := dt) h.n8 hi hb hb6 b 0 0 0 (by omega) (by decide) (by omega)
    have h5 := s40_5 (dt := dt) h (bl.length - 1) 1 0 1 (0 + b) [vI (lv 7 (inn b 0 (dt.drop 0)).1 0)] (by omega) (by omega) (by omega)
    have hsy := sym_at (bl := bl) (dt := dt) (i := 0) (at' := 0) hi hb
    have hto : tot bl = b + tot (bl.drop 1) := by
        have h9 := tot_drop (bl := bl) (i := 0) hi hb
        rw [List.drop_zero] at h9; exact h9
    rw [List.drop_zero] at hsy
    rw [List.drop_zero] at hsy
    have hlen := sym_len bl dt
    have h8' := s40_8 h hd (g1 := 0 + (bl.length - 1)) (dt.length - 1) 0 1 (tot bl) [eS (sym bl dt).1] (by omega) (by omega) (by omega)
    have hL : loads bl dt.length dt = (sym bl dt).1 :: loads bl (dt.length - 1) (dt.drop (tot bl)) := by
      have := loads_cons (bl := bl) (f := dt.length - 1) hl
      rw [show dt.length - 1 + 1 = dt.length by omega] at this
      exact this
    rw [hL, res_eq]
    rw [show (0 : Int) = ((0 : Nat) : Int) from rfl]
    simp only [B40, sem_br, sem_nxt, h1, decide_true, if_true, stepO_nxt]
    rw [res_eq]
    rw [show (0 : Int) = ((0 : Nat) : Int) from rfl]
    simp only [B40, sem_br, sem_nxt, hi1, decide_true, if_true, stepO_nxt]
    refine Eq.trans (show _ = _ from hin) ?_
    rw [show ((0 + 1 : Nat) : Int) = ((1 : Nat) : Int) from rfl, h5]
    have e1 : DV.sl (1 + (bl.length - 1)) ([vI (lv 7 (inn b 0 (dt.drop 0)).1 0)] ++ (sym (bl.drop 1) (dt.drop (0 + b))).1.map vI) = eS (sym bl dt).1 := by
      unfold eS
      rw [hlen, hsy, List.drop_zero, show 1 + (bl.length - 1) = bl.length by omega]
      rfl
    rw [e1, show 0 + b + tot (bl.drop 1) = tot bl by rw [hto]; omega, h8']
    simp only [List.length_cons, List.map_cons, List.singleton_append]
    rw [show 1 + (loads bl (dt.length - 1) (dt.drop (tot bl))).length = (loads bl (dt.length - 1) (dt.drop (tot bl))).length + 1 by omega]
  · obtain rfl : dt = [] := List.eq_nil_of_length_eq_zero (by omega)
    have h1 : ¬ ((0 : Int) < ((([] : List Bool).length : Nat) : Int)) := by simp
    rw [res_eq, loads_nil]
    simp only [B40, sem_br, sem_ret, h1, decide_false, Bool.false_eq_true, if_false, stepO_ret]
    rfl
end
end Go.Kv
