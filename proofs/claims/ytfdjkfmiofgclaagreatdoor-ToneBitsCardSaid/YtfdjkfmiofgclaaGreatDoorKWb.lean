/- ToneBits: parts. -/
import Derived.Test.YtfdjkfmiofgclaaGreatDoorKWa
namespace Go.Kv
set_option linter.unusedVariables false
set_option linter.unusedSimpArgs false
set_option linter.unnecessarySimpa false
open Go Go.RowKit
set_option maxRecDepth 100000
def bts (x : Nat) : Nat → List Bool
  | 0 => []
  | m + 1 => (x / 2 ^ m % 2 == 1) :: bts x m
def gy (x : Nat) : Nat := (gx (x : Int) ((x / 2 : Nat) : Int)).toNat
theorem gy_eq : ∀ x : Nat, x < 64 → gx (x : Int) ((x / 2 : Nat) : Int) = ((gy x : Nat) : Int) ∧ gy x < 64 := by decide +kernel
def bit34 (x m : Nat) : Bool := IntKind.i64.wrap (((BitVec.ofInt 64 ((x : Int).fdiv (2 ^ min m 64)) &&& BitVec.ofInt 64 1).toNat : Nat) : Int) == 1
theorem bit34_eq : ∀ x : Nat, x < 64 → ∀ m : Nat, m < 6 → bit34 x m = (x / 2 ^ m % 2 == 1) := by decide +kernel
theorem bit41_eq : ∀ x : Nat, x < 64 → ∀ m : Nat, m < 6 → (((x : Int).tdiv ((2 ^ m : Nat) : Int)).tmod 2 == 1) = (x / 2 ^ m % 2 == 1) := by decide +kernel
section
variable {bl : List Int} {lev : List (List Int)}
def S2 (bl : List Int) (lev : List (List Int)) (n : Int) (row : List Int) (i j : Nat) : List Bool → S34
  | [] => .c2 bl.length (bl.map vI) n lev.length (lev.map eS) (lev.length : Int) (i : Int) row.length (row.map vI) (row.length : Int) (j : Int)
  | y :: ys => .c5 bl.length (bl.map vI) n ys.length (ys.length + 1) ((y :: ys).map vB) lev.length (lev.map eS) (lev.length : Int) (i : Int) row.length (row.map vI) (row.length : Int) (j : Int) ys.length
def S3 (bl : List Int) (lev : List (List Int)) (n : Int) (row : List Int) (i j x b k : Nat) : List Bool → S34
  | [] => .c3 bl.length (bl.map vI) n (j : Int) (x : Int) lev.length (lev.map eS) (lev.length : Int) (i : Int) row.length (row.map vI) (row.length : Int) (b : Int) (k : Int)
  | y :: ys => .c4 bl.length (bl.map vI) n ys.length (ys.length + 1) ((y :: ys).map vB) (j : Int) (x : Int) lev.length (lev.map eS) (lev.length : Int) (i : Int) row.length (row.map vI) (row.length : Int) (b : Int) (k : Int) ys.length
theorem bits34 {n : Int} {row : List Int} {i j x b : Nat} (hl : bl.length ≤ 8) (hj : j < bl.length) (hv : bl.getD j 0 = (b : Int)) (hb : b ≤ 6) (hx : x < 64) : ∀ (m k : Nat) (o : List Bool), b = k + m → o.length + m ≤ 100000 →
    res B34 (S3 bl lev n row i j x b k o) = res B34 (S2 bl lev n row i (j + 1) (o ++ bts x m))
  | 0, k, o, hk, ho => by
    have h1 : ¬ ((k : Int) < (b : Int)) := by omega
    have hin : inI64 ((j : Int) + 1) := by unfold inI64; omega
    rw [res_eq]
    cases o with
    | nil =>
      simp only [S3, B34, sem_br, sem_ask, sem_nxt, PC.holds, h1, hin, need_true, decide_false, Bool.false_eq_true, if_false, stepO_nxt, bts, List.append_nil, S2]
      rfl
    | cons y ys =>
      simp only [S3, B34, sem_br, sem_ask, sem_nxt, PC.holds, h1, hin, need_true, decide_false, Bool.false_eq_true, if_false, stepO_nxt, bts, List.append_nil, S2]
      rfl
  | m + 1, k, o, hk, ho => by
    have h1 : (k : Int) < (b : Int) := by omega
    have hj1 : (j : Int) < (bl.length : Int) := by omega
    have e1 : (b : Int) - 1 - (k : Int) = (m : Int) := by omega
    have i1 : inI64 ((b : Int) - 1) := by unfold inI64; omega
    have i2 : inI64 (m : Int) := by unfold inI64; omega
    have i3 : inI64 ((k : Int) + 1) := by unfold inI64; omega
    have hm : ¬ ((m : Int) < 0) := by omega
    have hbit := bit34_eq x hx m (by omega)
    have ih := bits34 (n := n) (row := row) (i := i) hl hj hv hb hx m (k + 1) (o ++ [x / 2 ^ m % 2 == 1]) (by omega) (by rw [List.length_append]; simp only [List.length_cons, List.length_nil]; omega)
    rw [show o ++ bts x (m + 1) = (o ++ [x / 2 ^ m % 2 == 1]) ++ bts x m by simp [bts], ← ih, res_eq]
    unfold bit34 at hbit
    cases o with
    | nil =>
      simp only [S3, B34, sem_br, sem_ask, sem_nxt, PC.holds, need_true, Int.toNat_natCast, Nat.mul_one, dI_cel_map, at_map hj, hv, e1, h1, hj1, i1, i2, i3, hm, not_false_eq_true, Int.natCast_nonneg, List.length_map, Nat.le_of_lt hj, decide_true, if_true, hbit, stepO_nxt]
      rfl
    | cons y ys =>
      simp only [List.length_cons] at ho
      have hf : fitsN (ys.length + 1 + 1) 1 := ⟨by omega, by omega⟩
      simp only [S3, B34, sem_br, sem_ask, sem_nxt, PC.holds, need_true, Int.toNat_natCast, Nat.mul_one, dI_cel_map, at_map hj, hv, e1, h1, hj1, i1, i2, i3, hm, not_false_eq_true, Int.natCast_nonneg, List.length_map, Nat.le_of_lt hj, decide_true, if_true, hbit, hf, stepO_nxt, List.cons_append, List.length_append, List.length_cons, List.length_nil, List.map_cons, List.map_append]
      rfl
end
theorem two_b : ∀ b < 7, IntKind.i64.wrap (1 * 2 ^ min b 64) = ((2 ^ b : Nat) : Int) := by decide
def hiB (b : Int) : Int := ((2 ^ b.toNat : Nat) : Int) - 1
def chR : List Int → List Int → Int
  | b :: bs, x :: xs => if rangeI x 0 (hiB b) = 0 then chR bs xs else rangeI x 0 (hiB b)
  | _, _ => 0
def rowU : List Int → List Int → List Bool
  | b :: bs, x :: xs => bts (gy x.toNat) b.toNat ++ rowU bs xs
  | _, _ => []
def chLv (bl : List Int) : List (List Int) → Int
  | [] => 0
  | l :: r => if (l.length : Int) ≠ (bl.length : Int) then 2 else if chR bl l = 0 then chLv bl r else chR bl l
def unl (bl : List Int) : List (List Int) → List Bool
  | [] => []
  | l :: r => rowU bl l ++ unl bl r
theorem bts_len (x : Nat) : ∀ m, (bts x m).length = m
  | 0 => rfl
  | m + 1 => by simp [bts, bts_len x m]
theorem rowU_len : ∀ (bl l : List Int), (∀ x ∈ bl, x ≤ 6) → (rowU bl l).length ≤ 6 * bl.length
  | [], _, _ => by simp [rowU]
  | b :: bs, [], _ => by simp [rowU]
  | b :: bs, x :: xs, h => by
    have h1 := h b (by simp)
    have := rowU_len bs xs fun y hy => h y (by simp [hy])
    unfold rowU
    rw [List.length_append, bts_len, List.length_cons]
    omega
section
variable {bl : List Int} {lev : List (List Int)}
theorem chR_drop {row : List Int} {j : Nat} (hj : j < bl.length) (hr : j < row.length) : chR (bl.drop j) (row.drop j) = if rangeI (row.getD j 0) 0 (hiB (bl.getD j 0)) = 0 then chR (bl.drop (j + 1)) (row.drop (j + 1)) else rangeI (row.getD j 0) 0 (hiB (bl.getD j 0)) := by
  rw [dropD 0 hj, dropD 0 hr]; rfl
theorem rowU_drop {row : List Int} {j : Nat} (hj : j < bl.length) (hr : j < row.length) : rowU (bl.drop j) (row.drop j) = bts (gy (row.getD j 0).toNat) (bl.getD j 0).toNat ++ rowU (bl.drop (j + 1)) (row.drop (j + 1)) := by
  rw [dropD 0 hj, dropD 0 hr]; rfl
def S1 (bl : List Int) (lev : List (List Int)) (n : Int) (i : Nat) : List Bool → S34
  | [] => .c1 bl.length (bl.map vI) n lev.length (lev.map eS) (lev.length : Int) (i : Int)
  | y :: ys => .c6 bl.length (bl.map vI) n ys.length (ys.length + 1) ((y :: ys).map vB) lev.length (lev.map eS) (lev.length : Int) (i : Int) ys.length
theorem cols34 (h : BM bl) {n : Int} {row : List Int} (hrl : row.length = bl.length) {i : Nat} (hi : i ≤ 1000000) : ∀ (k j : Nat) (o : List Bool), bl.length = j + k → o.length + 6 * k ≤ 100000 →
    res B34 (S2 bl lev n row i j o) = if chR (bl.drop j) (row.drop j) = 0 then res B34 (S1 bl lev n (i + 1) (o ++ rowU (bl.drop j) (row.drop j))) else some (0, [], chR (bl.drop j) (row.drop j))
  | 0, j, o, hk, ho => by
    have h1 : ¬ ((j : Int) < (row.length : Int)) := by omega
    have hin : inI64 ((i : Int) + 1) := by unfold inI64; omega
    rw [List.drop_of_length_le (show bl.length ≤ j by omega)]
    rw [show chR [] (row.drop j) = 0 from rfl, show rowU [] (row.drop j) = [] from rfl, if_pos rfl, List.append_nil, res_eq]
    cases o <;> simp only [S2, S1, B34, sem_br, sem_ask, sem_nxt, PC.holds, h1, hin, need_true, decide_false, Bool.false_eq_true, if_false, stepO_nxt] <;> rfl
  | k + 1, j, o, hk, ho => by
    have hj : j < bl.length := by omega
    have hr : j < row.length := by omega
    have h8 := h.n8
    have hj1 : (j : Int) < (bl.length : Int) := by omega
    have hr1 : (j : Int) < (row.length : Int) := by omega
    obtain ⟨b, hb, hb6, hbt⟩ := h.b hj
    have h2 := two_le b (by omega)
    have hb0 : ¬ ((b : Int) < 0) := by omega
    have i1 : inI64 (((2 ^ b : Nat) : Int) - 1) := by unfold inI64; omega
    have hB : hiB (bl.getD j 0) = ((2 ^ b : Nat) : Int) - 1 := by unfold hiB; rw [hbt]
    rw [chR_drop hj hr, rowU_drop hj hr, hB, hbt]
    by_cases h0 : rangeI (row.getD j 0) 0 (((2 ^ b : Nat) : Int) - 1) = 0
    · have hx := rangeI_zero.1 h0
      obtain ⟨x, hxn⟩ : ∃ x : Nat, row.getD j 0 = (x : Int) := ⟨(row.getD j 0).toNat, by omega⟩
      have hx64 : x < 64 := by omega
      obtain ⟨hg, hg64⟩ := gy_eq x hx64
      have i2 : inI64 ((x / 2 : Nat) : Int) := by unfold inI64; omega
      rw [hxn] at h0
      have hbits := bits34 (lev := lev) (n := n) (row := row) (i := i) h8 hj hb hb6 hg64 b 0 o (by omega) (by omega)
      have ih := cols34 h (n := n) hrl hi k (j + 1) (o ++ bts (gy x) b) (by omega) (by rw [List.length_append, bts_len]; omega)
      rw [hxn, h0, if_pos rfl, Int.toNat_natCast, ← List.append_assoc, ← ih, ← hbits, res_eq]
      cases o <;> simp only [S2, S3, B34, two_b b (show b < 7 by omega), F106_eq, tdiv2, sem_bind_some, sem_sees, sem_br, sem_ask, sem_nxt, PC.holds, need_true, Int.toNat_natCast, Nat.mul_one, dI_cel_map, at_map hj, at_map hr, hxn, hb, hb0, h0, hj1, hr1, i1, i2, not_false_eq_true, Int.natCast_nonneg, List.length_map, Nat.le_of_lt hj, Nat.le_of_lt hr, decide_true, if_true, bne_self_eq_false, Bool.false_eq_true, if_false, stepO_nxt] <;> rw [← hg] <;> rfl
    · have hne : (rangeI (row.getD j 0) 0 (((2 ^ b : Nat) : Int) - 1) != 0) = true := bne_iff_ne.2 h0
      rw [if_neg h0, if_neg h0, res_eq]
      cases o <;> simp only [S2, B34, two_b b (show b < 7 by omega), F106_eq, sem_bind_some, sem_sees, sem_br, sem_ask, sem_ret, PC.holds, need_true, Int.toNat_natCast, Nat.mul_one, dI_cel_map, at_map hj, at_map hr, hb, hb0, hne, hj1, hr1, i1, not_false_eq_true, Int.natCast_nonneg, List.length_map, Nat.le_of_lt hj, Nat.le_of_lt hr, decide_true, if_true, stepO_ret]
end
def finE (n : Int) (m : Nat) : Int := firstI [rangeI n 0 1024, whenI (decide ((m : Int) < n)) 16]
def finN (n : Int) (o : List Bool) : Nat × List DV × Int := if finE n o.length = 0 then (n.toNat, (o.take n.toNat).map vB, 0) else (0, [], finE n o.length)
theorem finE_0 {n : Int} {m : Nat} (h : finE n m = 0) : 0 ≤ n ∧ n ≤ (m : Int) := by
  unfold finE at h
  by_cases h0 : rangeI n 0 1024 = 0
  · have hr := rangeI_zero.1 h0
    rw [h0, first_z] at h
    refine ⟨hr.1, ?_⟩
    apply Classical.byContradiction
    intro hn
    rw [decide_eq_true (show (m : Int) < n by omega), whenT] at h
    exact absurd h (by decide)
  · rw [first_pos h0] at h; exact absurd h h0
section
variable {bl : List Int} {lev : List (List Int)}
theorem chLv_drop {i : Nat} (hi : i < lev.length) : chLv bl (lev.drop i) = if ((lev.getD i []).length : Int) ≠ (bl.length : Int) then 2 else if chR bl (lev.getD i []) = 0 then chLv bl (lev.drop (i + 1)) else chR bl (lev.getD i []) := by
  rw [dropD [] hi]; rfl
theorem unl_drop {i : Nat} (hi : i < lev.length) : unl bl (lev.drop i) = rowU bl (lev.getD i []) ++ unl bl (lev.drop (i + 1)) := by
  rw [dropD [] hi]; rfl
theorem rows34 (h : BM bl) (hv : lev.length ≤ 1024) {n : Int} : ∀ (k i : Nat) (o : List Bool), lev.length = i + k → o.length + 48 * k ≤ 60000 →
    res B34 (S1 bl lev n i o) = some (if chLv bl (lev.drop i) = 0 then finN n (o ++ unl bl (lev.drop i)) else (0, [], chLv bl (lev.drop i)))
  | 0, i, o, hk, ho => by
    have h1 : ¬ ((i : Int) < (lev.length : Int)) := by omega
    rw [List.drop_of_length_le (show lev.length ≤ i by omega)]
    rw [show chLv bl [] = 0 from rfl, show unl bl [] = [] from rfl, if_pos rfl, List.append_nil, res_eq]
    unfold finN
    cases o with
    | nil =>
      simp only [S1, B34, F106_eq, F109_eq, F107_2, sem_bind_some, sem_sees, sem_br, sem_ask, sem_ret, PC.holds, h1, decide_false, Bool.false_eq_true, if_false]
      rw [show firstI [rangeI n 0 1024, whenI (decide (0 < n)) 16] = finE n ([] : List Bool).length from rfl]
      by_cases h0 : finE n ([] : List Bool).length = 0
      · have h3 := finE_0 h0
        obtain rfl : n = 0 := by simp only [List.length_nil] at h3; omega
        simp only [h0, bne_self_eq_false, Bool.false_eq_true, if_false, if_true, need_true, stepO_ret]
        rfl
      · have hb : (finE n ([] : List Bool).length != 0) = true := bne_iff_ne.2 h0
        simp only [h0, hb, if_true, if_false, stepO_ret]
    | cons y ys =>
      simp only [S1, B34, F106_eq, F109_eq, F107_2, sem_bind_some, sem_sees, sem_br, sem_ask, sem_ret, PC.holds, h1, decide_false, Bool.false_eq_true, if_false]
      rw [show firstI [rangeI n 0 1024, whenI (decide (((ys.length + 1 : Nat) : Int) < n)) 16] = finE n (y :: ys).length from rfl]
      by_cases h0 : finE n (y :: ys).length = 0
      · have h3 := finE_0 h0
        have h4 : n ≤ ((ys.length + 1 : Nat) : Int) := h3.2
        simp only [h0, h3.1, h4, bne_self_eq_false, Bool.false_eq_true, if_false, if_true, need_true, stepO_ret, Nat.sub_zero, Nat.mul_one, List.drop_zero, List.map_take]
      · have hb : (finE n (y :: ys).length != 0) = true := bne_iff_ne.2 h0
        simp only [h0, hb, if_true, if_false, stepO_ret]
  | k + 1, i, o, hk, ho => by
    have hi : i < lev.length := by omega
    have hi1 : (i : Int) < (lev.length : Int) := by omega
    have h8 := h.n8
    rw [chLv_drop hi, unl_drop hi]
    by_cases hn : ((lev.getD i []).length : Int) = (bl.length : Int)
    · have hne : (((lev.getD i []).length : Int) != (bl.length : Int)) = false := by simpa using hn
      have hrl := rowU_len bl (lev.getD i []) fun x hx => (h.e x hx).2
      have hc := cols34 (lev := lev) h (n := n) (row := lev.getD i []) (by omega) (i := i) (by omega) bl.length 0 o (by omega) (by omega)
      rw [List.drop_zero, List.drop_zero] at hc
      have ih := rows34 h hv (n := n) k (i + 1) (o ++ rowU bl (lev.getD i [])) (by omega) (by rw [List.length_append]; omega)
      have hst : res B34 (S1 bl lev n i o) = res B34 (S2 bl lev n (lev.getD i []) i 0 o) := by
        rw [res_eq]
        cases o <;> simp only [S1, S2, B34, sem_br, sem_ask, sem_nxt, PC.holds, need_true, Int.toNat_natCast, Nat.mul_one, dN_eS hi, dL_eS hi, atS hi, hi1, hne, Int.natCast_nonneg, List.length_map, Nat.le_of_lt hi, decide_true, if_true, Bool.false_eq_true, if_false, stepO_nxt] <;> rfl
      rw [hst, hc, if_neg (show ¬ ((lev.getD i []).length : Int) ≠ (bl.length : Int) from fun hx => hx hn)]
      by_cases h0 : chR bl (lev.getD i []) = 0
      · rw [if_pos h0, if_pos h0, ih, List.append_assoc]
      · rw [if_neg h0, if_neg h0, if_neg h0]
    · have hne : (((lev.getD i []).length : Int) != (bl.length : Int)) = true := bne_iff_ne.2 hn
      rw [if_pos hn, if_neg (by decide), res_eq]
      cases o <;> simp only [S1, B34, sem_br, sem_ask, sem_ret, PC.holds, need_true, Int.toNat_natCast, Nat.mul_one, dN_eS hi, dL_eS hi, atS hi, hi1, hne, Int.natCast_nonneg, List.length_map, Nat.le_of_lt hi, decide_true, if_true, stepO_ret]
def manE (bl : List Int) (m : Nat) : Int := firstI [bearE bl, whenI (decide ((m : Int) > 1024)) 5]
def unlR (bl : List Int) (lev : List (List Int)) (n : Int) : Nat × List DV × Int :=
  if manE bl lev.length = 0 then (if chLv bl lev = 0 then finN n (unl bl lev) else (0, [], chLv bl lev)) else (0, [], manE bl lev.length)
theorem F34_eq {n : Int} (hl : bl.length ≤ 1025) : F34 bl.length (bl.map vI) lev.length (lev.map eS) n = some (unlR bl lev n) := by
  unfold F34 unlR
  rw [res_eq]
  simp only [B34, F121_eq bl hl, F109_eq, F107_2, sem_bind_some, sem_sees, sem_br, sem_ret, sem_nxt]
  rw [show firstI [bearE bl, whenI (decide ((lev.length : Int) > 1024)) 5] = manE bl lev.length from rfl]
  by_cases h0 : manE bl lev.length = 0
  · have hb : bearE bl = 0 := Classical.byContradiction fun hn => by
      unfold manE at h0; rw [first_pos hn] at h0; exact hn h0
    have hr : lev.length ≤ 1024 := Classical.byContradiction fun hn => by
      have : ((lev.length : Int) > 1024) := by omega
      unfold manE at h0; rw [hb, first_z, decide_eq_true this, whenT] at h0; exact absurd h0 (by decide)
    simp only [h0, bne_self_eq_false, Bool.false_eq_true, if_false, if_true, stepO_nxt]
    have := rows34 (lev := lev) (bm_of hb) hr (n := n) lev.length 0 [] (by omega) (by simp only [List.length_nil]; omega)
    rw [List.drop_zero, List.nil_append] at this
    exact this
  · have hb : (manE bl lev.length != 0) = true := bne_iff_ne.2 h0
    simp only [h0, hb, if_true, if_false, stepO_ret]
end
theorem bit_in : ∀ x : Nat, x < 64 → ∀ m : Nat, m < 6 → inI64 ((x : Int).tdiv ((2 ^ m : Nat) : Int)) := by
  unfold inI64
  decide +kernel
theorem firstI_1' (a : Int) : firstI [a] = a := by
  by_cases ha : a = 0
  · subst ha; rfl
  · exact first_pos ha []
section
variable {bl : List Int} {lev : List (List Int)}
theorem cols38 (h : BM bl) {i : Nat} (hi : i < lev.length) (hl : lev.length ≤ 1024) (hrl : (lev.getD i []).length = bl.length) : ∀ (k j : Nat), bl.length = j + k →
    res B38 (.c2 bl.length (bl.map vI) lev.length (lev.map eS) (i : Int) (j : Int)) = if chR (bl.drop j) ((lev.getD i []).drop j) = 0 then res B38 (.c1 bl.length (bl.map vI) lev.length (lev.map eS) ((i + 1 : Nat) : Int)) else some (chR (bl.drop j) ((lev.getD i []).drop j))
  | 0, j, hk => by
    have h1 : ¬ ((j : Int) < (bl.length : Int)) := by omega
    have hin : inI64 ((i : Int) + 1) := by unfold inI64; omega
    rw [List.drop_of_length_le (show bl.length ≤ j by omega), show chR [] ((lev.getD i []).drop j) = 0 from rfl, if_pos rfl, res_eq]
    simp only [B38, sem_br, sem_ask, sem_nxt, PC.holds, h1, hin, need_true, decide_false, Bool.false_eq_true, if_false, stepO_nxt]
    rfl
  | k + 1, j, hk => by
    have hj : j < bl.length := by omega
    have hr : j < (lev.getD i []).length := by omega
    have h8 := h.n8
    have hj1 : (j : Int) < (bl.length : Int) := by omega
    have hr1 : (j : Int) < ((lev.getD i []).length : Int) := by omega
    have hi1 : (i : Int) < (lev.length : Int) := by omega
    obtain ⟨b, hb, hb6, hbt⟩ := h.b hj
    have h2 := two_le b (by omega)
    have i1 : inI64 (((2 ^ b : Nat) : Int) - 1) := by unfold inI64; omega
    have i2 : inI64 ((j : Int) + 1) := by unfold inI64; omega
    have hB : hiB (bl.getD j 0) = ((2 ^ b : Nat) : Int) - 1 := by unfold hiB; rw [hbt]
    have ih := cols38 h hi hl hrl k (j + 1) (by omega)
    rw [chR_drop hj hr, hB, res_eq]
    simp only [B38, F124_b b (show b < 7 by omega), F39_eq, sem_bind_some, sem_sees, sem_br, sem_ask, sem_ret, sem_nxt, PC.holds, need_true, Int.toNat_natCast, Nat.mul_one, dN_eS hi, dL_eS hi, atS hi, dI_cel_map, at_map hj, at_map hr, hb, hj1, hr1, hi1, i1, i2, Int.natCast_nonneg, List.length_map, Nat.le_of_lt hi, Nat.le_of_lt hj, Nat.le_of_lt hr, decide_true, if_true]
    by_cases h0 : rangeI ((lev.getD i []).getD j 0) 0 (((2 ^ b : Nat) : Int) - 1) = 0
    · simp only [h0, bne_self_eq_false, Bool.false_eq_true, if_false, if_true, stepO_nxt]
      rw [← ih]; rfl
    · have hne : (rangeI ((lev.getD i []).getD j 0) 0 (((2 ^ b : Nat) : Int) - 1) != 0) = true := bne_iff_ne.2 h0
      simp only [h0, hne, if_true, if_false, stepO_ret]
theorem rows38 (h : BM bl) (hl : lev.length ≤ 1024) : ∀ (k i : Nat), lev.length = i + k →
    res B38 (.c1 bl.length (bl.map vI) lev.length (lev.map eS) (i : Int)) = some (chLv bl (lev.drop i))
  | 0, i, hk => by
    have h1 : ¬ ((i : Int) < (lev.length : Int)) := by omega
    rw [List.drop_of_length_le (show lev.length ≤ i by omega), res_eq]
    simp only [B38, sem_br, sem_ret, h1, decide_false, Bool.false_eq_true, if_false, stepO_ret, chLv]
  | k + 1, i, hk => by
    have hi : i < lev.length := by omega
    have hi1 : (i : Int) < (lev.length : Int) := by omega
    have ih := rows38 h hl k (i + 1) (by omega)
    rw [chLv_drop hi, res_eq]
    by_cases hn : ((lev.getD i []).length : Int) = (bl.length : Int)
    · have hne : (((lev.getD i []).length : Int) != (bl.length : Int)) = false := by simpa using hn
      have hc := cols38 h hi hl (by omega) bl.length 0 (by omega)
      rw [List.drop_zero, List.drop_zero] at hc
      simp only [B38, sem_br, sem_ask, sem_nxt, PC.holds, need_true, Int.toNat_natCast, Nat.mul_one, dN_eS hi, dL_eS hi, atS hi, hi1, hne, Int.natCast_nonneg, List.length_map, Nat.le_of_lt hi, decide_true, if_true, Bool.false_eq_true, if_false, stepO_nxt]
      rw [if_neg (show ¬ ((lev.getD i []).length : Int) ≠ (bl.length : Int) from fun hx => hx hn)]
      refine Eq.trans (show _ = _ from hc) ?_
      by_cases h0 : chR bl (lev.getD i []) = 0
      · rw [if_pos h0, if_pos h0, ih]
      · rw [if_neg h0, if_neg h0]
    · have hne : (((lev.getD i []).length : Int) != (bl.length : Int)) = true := bne_iff_ne.2 hn
      rw [if_pos hn]
      simp only [B38, sem_br, sem_ask, sem_ret, PC.holds, need_true, Int.toNat_natCast, Nat.mul_one, dN_eS hi, dL_eS hi, atS hi, hi1, hne, Int.natCast_nonneg, List.length_map, Nat.le_of_lt hi, decide_true, if_true, stepO_ret]
theorem F38_eq (h : BM bl) : F38 bl.length (bl.map vI) lev.length (lev.map eS) = some (if (lev.length : Int) > 1024 then 5 else chLv bl lev) := by
  unfold F38
  rw [res_eq]
  by_cases hm : (lev.length : Int) > 1024
  · simp only [B38, sem_br, sem_ret, hm, decide_true, if_true, stepO_ret]
  · simp only [B38, sem_br, sem_nxt, hm, decide_false, Bool.false_eq_true, if_false, stepO_nxt]
    have := rows38 (lev := lev) h (by omega) lev.length 0 (by omega)
    rw [List.drop_zero] at this
    exact this
def T2 (bl : List Int) (lev : List (List Int)) (n : Int) (i j : Nat) : List Bool → S41
  | [] => .c2 bl.length (bl.map vI) lev.length (lev.map eS) n (i : Int) (j : Int)
  | y :: ys => .c5 bl.length (bl.map vI) lev.length (lev.map eS) n ys.length (ys.length + 1) ((y :: ys).map vB) (i : Int) (j : Int) ys.length
def T3 (bl : List Int) (lev : List (List Int)) (n : Int) (i j x : Nat) (k : Int) : List Bool → S41
  | [] => .c3 bl.length (bl.map vI) lev.length (lev.map eS) n (i : Int) (j : Int) (x : Int) k
  | y :: ys => .c4 bl.length (bl.map vI) lev.length (lev.map eS) n ys.length (ys.length + 1) ((y :: ys).map vB) (i : Int) (j : Int) (x : Int) k ys.length
def T1 (bl : List Int) (lev : List (List Int)) (n : Int) (i : Nat) : List Bool → S41
  | [] => .c1 bl.length (bl.map vI) lev.length (lev.map eS) n (i : Int)
  | y :: ys => .c6 bl.length (bl.map vI) lev.length (lev.map eS) n ys.length (ys.length + 1) ((y :: ys).map vB) (i : Int) ys.length
theorem bits41 {n : Int} {i j x : Nat} (hj : j ≤ 8) (hx : x < 64) : ∀ (m : Nat) (o : List Bool), m ≤ 6 → o.length + m ≤ 100000 →
    res B41 (T3 bl lev n i j x ((m : Int) - 1) o) = res B41 (T2 bl lev n i (j + 1) (o ++ bts x m))
  | 0, o, hm, ho => by
    have h1 : ¬ ((((0 : Nat) : Int) - 1) ≥ 0) := by omega
    have hin : inI64 ((j : Int) + 1) := by unfold inI64; omega
    rw [res_eq, show bts x 0 = [] from rfl, List.append_nil]
    cases o <;> simp only [T3, T2, B41, sem_br, sem_ask, sem_nxt, PC.holds, h1, hin, need_true, decide_false, Bool.false_eq_true, if_false, stepO_nxt] <;> rfl
  | m + 1, o, hm, ho => by
    have e1 : (((m + 1 : Nat) : Int) - 1) = (m : Int) := by omega
    have h1 : ((m : Int) ≥ 0) := by omega
    have h2 := two_le m (by omega)
    have hne : ((2 ^ m : Nat) : Int) ≠ 0 := by omega
    have i1 := bit_in x hx m (by omega)
    have i2 : inI64 ((m : Int) - 1) := by unfold inI64; omega
    have hbit := bit41_eq x hx m (by omega)
    have ih := bits41 (n := n) (i := i) hj hx m (o ++ [x / 2 ^ m % 2 == 1]) (by omega) (by rw [List.length_append]; simp only [List.length_cons, List.length_nil]; omega)
    rw [e1, show o ++ bts x (m + 1) = (o ++ [x / 2 ^ m % 2 == 1]) ++ bts x m by simp [bts], ← ih, res_eq]
    cases o with
    | nil =>
      simp only [T3, B41, F124_b m (show m < 7 by omega), sem_bind_some, sem_sees, sem_br, sem_ask, sem_nxt, PC.holds, need_true, h1, hne, i1, i2, ne_eq, not_false_eq_true, decide_true, if_true, hbit, stepO_nxt]
      rfl
    | cons y ys =>
      simp only [List.length_cons] at ho
      have hf : fitsN (ys.length + 1 + 1) 1 := ⟨by omega, by omega⟩
      simp only [T3, B41, F124_b m (show m < 7 by omega), sem_bind_some, sem_sees, sem_br, sem_ask, sem_nxt, PC.holds, need_true, h1, hne, i1, i2, hf, ne_eq, not_false_eq_true, decide_true, if_true, hbit, stepO_nxt, List.cons_append, List.length_append, List.length_cons, List.length_nil, List.map_cons, List.map_append]
      rfl
theorem cols41 (h : BM bl) {n : Int} {i : Nat} (hi : i < lev.length) (hl : lev.length ≤ 1024) (hrl : (lev.getD i []).length = bl.length) : ∀ (k j : Nat) (o : List Bool), bl.length = j + k → o.length + 6 * k ≤ 100000 → chR (bl.drop j) ((lev.getD i []).drop j) = 0 →
    res B41 (T2 bl lev n i j o) = res B41 (T1 bl lev n (i + 1) (o ++ rowU (bl.drop j) ((lev.getD i []).drop j)))
  | 0, j, o, hk, ho, hc => by
    have h1 : ¬ ((j : Int) < (bl.length : Int)) := by omega
    have hin : inI64 ((i : Int) + 1) := by unfold inI64; omega
    rw [List.drop_of_length_le (show bl.length ≤ j by omega), show rowU [] ((lev.getD i []).drop j) = [] from rfl, List.append_nil, res_eq]
    cases o <;> simp only [T2, T1, B41, sem_br, sem_ask, sem_nxt, PC.holds, h1, hin, need_true, decide_false, Bool.false_eq_true, if_false, stepO_nxt] <;> rfl
  | k + 1, j, o, hk, ho, hc => by
    have hj : j < bl.length := by omega
    have hr : j < (lev.getD i []).length := by omega
    have h8 := h.n8
    have hj1 : (j : Int) < (bl.length : Int) := by omega
    have hr1 : (j : Int) < ((lev.getD i []).length : Int) := by omega
    have hi1 : (i : Int) < (lev.length : Int) := by omega
    obtain ⟨b, hb, hb6, hbt⟩ := h.b hj
    have h2 := two_le b (by omega)
    have hB : hiB (bl.getD j 0) = ((2 ^ b : Nat) : Int) - 1 := by unfold hiB; rw [hbt]
    rw [chR_drop hj hr, hB] at hc
    by_cases h0 : rangeI ((lev.getD i []).getD j 0) 0 (((2 ^ b : Nat) : Int) - 1) = 0
    · rw [if_pos h0] at hc
      have hx := rangeI_zero.1 h0
      obtain ⟨x, hxn⟩ : ∃ x : Nat, (lev.getD i []).getD j 0 = (x : Int) := ⟨((lev.getD i []).getD j 0).toNat, by omega⟩
      have hx64 : x < 64 := by omega
      obtain ⟨hg, hg64⟩ := gy_eq x hx64
      have i1 : inI64 ((x / 2 : Nat) : Int) := by unfold inI64; omega
      have i2 : inI64 ((b : Int) - 1) := by unfold inI64; omega
      have hbits := bits41 (bl := bl) (lev := lev) (n := n) (i := i) (j := j) (by omega) hg64 b o hb6 (by omega)
      have ih := cols41 h (n := n) hi hl hrl k (j + 1) (o ++ bts (gy x) b) (by omega) (by rw [List.length_append, bts_len]; omega) hc
      rw [rowU_drop hj hr, hbt, hxn, Int.toNat_natCast, ← List.append_assoc, ← ih, ← hbits, res_eq]
      cases o <;> simp only [T2, T3, B41, tdiv2, sem_br, sem_ask, sem_nxt, PC.holds, need_true, Int.toNat_natCast, Nat.mul_one, dN_eS hi, dL_eS hi, atS hi, dI_cel_map, at_map hj, at_map hr, hxn, hb, hj1, hr1, hi1, i1, i2, Int.natCast_nonneg, List.length_map, Nat.le_of_lt hi, Nat.le_of_lt hj, Nat.le_of_lt hr, decide_true, if_true, stepO_nxt] <;> rw [← hg] <;> rfl
    · rw [if_neg h0] at hc; exact absurd hc h0
theorem rows41 (h : BM bl) (hv : lev.length ≤ 1024) {n : Int} (hn0 : 0 ≤ n) (hn1 : n ≤ 1024) : ∀ (k i : Nat) (o : List Bool), lev.length = i + k → o.length + 48 * k ≤ 60000 → chLv bl (lev.drop i) = 0 →
    res B41 (T1 bl lev n i o) = some (finN n (o ++ unl bl (lev.drop i)))
  | 0, i, o, hk, ho, hc => by
    have h1 : ¬ ((i : Int) < (lev.length : Int)) := by omega
    have hr0 : rangeI n 0 1024 = 0 := rangeI_zero.2 ⟨hn0, hn1⟩
    rw [List.drop_of_length_le (show lev.length ≤ i by omega), show unl bl [] = [] from rfl, List.append_nil, res_eq]
    unfold finN finE
    rw [hr0, first_z, firstI_1']
    cases o with
    | nil =>
      by_cases h2 : 0 < n
      · have h3 : (((([] : List Bool).length : Nat) : Int) < n) := by simpa using h2
        simp only [T1, B41, sem_br, sem_ask, sem_ret, PC.holds, h1, h2, h3, decide_true, decide_false, whenT, Bool.false_eq_true, if_false, if_true, stepO_ret]
        rfl
      · obtain rfl : n = 0 := by omega
        have h3 : ¬ (((([] : List Bool).length : Nat) : Int) < 0) := by simp
        simp only [T1, B41, sem_br, sem_ask, sem_ret, PC.holds, h1, h2, h3, need_true, decide_false, whenF, Bool.false_eq_true, if_false, if_true, stepO_ret]
        rfl
    | cons y ys =>
      have e3 : (((y :: ys).length : Nat) : Int) = ((ys.length + 1 : Nat) : Int) := rfl
      by_cases h2 : ((ys.length + 1 : Nat) : Int) < n
      · simp only [T1, B41, e3, sem_br, sem_ask, sem_ret, PC.holds, h1, h2, decide_true, decide_false, whenT, Bool.false_eq_true, if_false, if_true, stepO_ret]
        rfl
      · have h4 : n ≤ ((ys.length + 1 : Nat) : Int) := by omega
        simp only [T1, B41, e3, sem_br, sem_ask, sem_ret, PC.holds, h1, h2, h4, hn0, need_true, decide_false, whenF, Bool.false_eq_true, if_false, if_true, stepO_ret, Nat.sub_zero, Nat.mul_one, List.drop_zero, List.map_take]
  | k + 1, i, o, hk, ho, hc => by
    have hi : i < lev.length := by omega
    have hi1 : (i : Int) < (lev.length : Int) := by omega
    have h8 := h.n8
    have hrl := rowU_len bl (lev.getD i []) fun x hx => (h.e x hx).2
    rw [chLv_drop hi] at hc
    by_cases hn : ((lev.getD i []).length : Int) = (bl.length : Int)
    · rw [if_neg (show ¬ ((lev.getD i []).length : Int) ≠ (bl.length : Int) from fun hx => hx hn)] at hc
      by_cases h0 : chR bl (lev.getD i []) = 0
      · rw [if_pos h0] at hc
        have hcol := cols41 (lev := lev) h (n := n) hi hv (by omega) bl.length 0 o (by omega) (by omega) (by rw [List.drop_zero, List.drop_zero]; exact h0)
        rw [List.drop_zero, List.drop_zero] at hcol
        have ih := rows41 h hv hn0 hn1 k (i + 1) (o ++ rowU bl (lev.getD i [])) (by omega) (by rw [List.length_append]; omega) hc
        have hst : res B41 (T1 bl lev n i o) = res B41 (T2 bl lev n i 0 o) := by
          rw [res_eq]
          cases o <;> simp only [T1, T2, B41, sem_br, sem_nxt, hi1, decide_true, if_true, stepO_nxt] <;> rfl
        rw [hst, hcol, unl_drop hi, ih, List.append_assoc]
      · rw [if_neg h0] at hc; exact absurd hc h0
    · rw [if_pos hn] at hc; exact absurd hc (by decide)
theorem F41_eq (h : BM bl) (hv : lev.length ≤ 1024) {n : Int} (hn0 : 0 ≤ n) (hn1 : n ≤ 1024) (hc : chLv bl lev = 0) : F41 bl.length (bl.map vI) lev.length (lev.map eS) n = some (finN n (unl bl lev)) := by
  unfold F41
  rw [res_eq]
  simp only [B41, sem_nxt, stepO_nxt]
  have := rows41 (lev := lev) h hv hn0 hn1 lev.length 0 [] (by omega) (by simp only [List.length_nil]; omega) (by rw [List.drop_zero]; exact hc)
  rw [List.drop_zero, List.nil_append] at this
  exact this
end
theorem F35_loop {ls : List (List Int)} (hb : ∀ l ∈ ls, l.length ≤ 1025) (hl : ls.length ≤ 1025) : ∀ (k i e : Nat), ls.length = i + k →
    res B35 (.c2 e i ((ls.take i).map eS) ls.length (ls.map eS) (ls.length : Int) (i : Int) e) = some (ls.length, ls.map eS)
  | 0, i, e, hk => by
    have : ¬ ((i : Int) < (ls.length : Int)) := by omega
    rw [res_eq]
    simp only [B35, sem_br, sem_ret, this, decide_false, Bool.false_eq_true, if_false, stepO_ret]
    rw [List.take_of_length_le (by omega), show i = ls.length by omega]
  | k + 1, i, e, hk => by
    have hi : i < ls.length := by omega
    have h1 : (i : Int) < (ls.length : Int) := by omega
    have ih := F35_loop hb hl k (i + 1) (e + 1) (by omega)
    have hin : inI64 ((i : Int) + 1) := by unfold inI64; omega
    have hf : fitsN (i + 1) 24 := ⟨by omega, by omega⟩
    rw [res_eq]
    simp only [B35, sem_br, sem_ask, sem_ret, sem_nxt, sem_bind_some, sem_sees, PC.holds, need_true, Int.toNat_natCast, Nat.mul_one, dN_eS hi, dL_eS hi, atS hi, h1, hin, decide_true, if_true, Int.natCast_nonneg, List.length_map, Nat.le_of_lt hi, F33_eq (hb _ (getD_memS hi)), hf, stepO_nxt]
    rw [← ih, takeS [] hi]; rfl
theorem F35_eq {ls : List (List Int)} (hb : ∀ l ∈ ls, l.length ≤ 1025) (hl : ls.length ≤ 1025) : F35 ls.length (ls.map eS) = some (ls.length, ls.map eS) := by
  unfold F35; rw [res_eq]
  simp only [B35, sem_nxt, stepO_nxt]
  rw [res_eq]
  by_cases h0 : ls.length = 0
  · obtain rfl : ls = [] := List.eq_nil_of_length_eq_zero h0
    simp [B35, sem_br, sem_ret, stepO_ret]
  · have hi : 0 < ls.length := by omega
    have h1 : (0 : Int) < (ls.length : Int) := by omega
    have := F35_loop hb hl (ls.length - 1) 1 0 (by omega)
    have hin : inI64 ((0 : Int) + 1) := by unfold inI64; omega
    have t1 := takeS (l := ls) (i := 0) [] hi eS
    have a0 := atS hi; have d0 := dN_eS hi; have l0 := dL_eS hi
    simp only [B35, sem_br, sem_ask, sem_ret, sem_nxt, sem_bind_some, sem_sees, PC.holds, need_true, Int.toNat_zero, Nat.zero_mul, d0, l0, a0, h1, hin, decide_true, if_true, Int.le_refl, Nat.zero_le, F33_eq (hb _ (getD_memS hi)), stepO_nxt]
    rw [← this, t1]; rfl
theorem F42_loop {ls : List (List Int)} (hb : ∀ l ∈ ls, l.length ≤ 1025) (hl : ls.length ≤ 100000) : ∀ (k i : Nat), ls.length = i + k →
    res B42 (.c1 ls.length (ls.map eS) ls.length (ls.map eS) (i : Int)) = some true
  | 0, i, hk => by
    have h1 : ¬ ((i : Int) < (ls.length : Int)) := by omega
    rw [res_eq]
    simp only [B42, sem_br, sem_ret, h1, decide_false, Bool.false_eq_true, if_false, stepO_ret]
  | k + 1, i, hk => by
    have hi : i < ls.length := by omega
    have h1 : (i : Int) < (ls.length : Int) := by omega
    have hin : inI64 ((i : Int) + 1) := by unfold inI64; omega
    have ih := F42_loop hb hl k (i + 1) (by omega)
    rw [res_eq]
    simp only [B42, F65_eq _ (hb _ (getD_memS hi)), sem_bind_some, sem_sees, sem_br, sem_ask, sem_nxt, PC.holds, need_true, Int.toNat_natCast, Nat.mul_one, dN_eS hi, dL_eS hi, atS hi, h1, hin, Int.natCast_nonneg, List.length_map, Nat.le_of_lt hi, decide_true, if_true, Bool.not_true, Bool.false_eq_true, if_false, stepO_nxt]
    rw [← ih]; rfl
theorem F42_refl {ls : List (List Int)} (hb : ∀ l ∈ ls, l.length ≤ 1025) (hl : ls.length ≤ 100000) : F42 ls.length (ls.map eS) ls.length (ls.map eS) = some true := by
  unfold F42
  rw [res_eq]
  simp only [B42, sem_br, sem_nxt, bne_self_eq_false, Bool.false_eq_true, if_false, stepO_nxt]
  exact F42_loop hb hl ls.length 0 (by omega)
theorem F43_loop {l : List Bool} (hl : l.length ≤ 100000) : ∀ (k i : Nat), l.length = i + k →
    res B43 (.c1 l.length (l.map vB) l.length (l.map vB) (i : Int)) = some true
  | 0, i, hk => by
    have h1 : ¬ ((i : Int) < (l.length : Int)) := by omega
    rw [res_eq]
    simp only [B43, sem_br, sem_ret, h1, decide_false, Bool.false_eq_true, if_false, stepO_ret]
  | k + 1, i, hk => by
    have hi : i < l.length := by omega
    have h1 : (i : Int) < (l.length : Int) := by omega
    have hin : inI64 ((i : Int) + 1) := by unfold inI64; omega
    have ih := F43_loop hl k (i + 1) (by omega)
    have hx : (!(l.getD i false)) = l.getD i false ↔ False := by cases l.getD i false <;> simp
    rw [res_eq]
    simp only [B43, sem_br, sem_ask, sem_nxt, PC.holds, need_true, Int.toNat_natCast, Nat.mul_one, dB_cel_map, at_mapB hi, h1, hin, Int.natCast_nonneg, List.length_map, Nat.le_of_lt hi, decide_true, if_true, beq_self_eq_true, Bool.not_true, Bool.false_eq_true, if_false, stepO_nxt]
    first
      | (rw [← ih]; rfl)
      | (cases hc : l.getD i false <;> simp only [Bool.not_true, Bool.not_false, beq_self_eq_true, Bool.false_eq_true, if_false, stepO_nxt] <;> (rw [← ih]; rfl))
theorem F43_refl {l : List Bool} (hl : l.length ≤ 100000) : F43 l.length (l.map vB) l.length (l.map vB) = some true := by
  unfold F43
  rw [res_eq]
  simp only [B43, sem_br, sem_nxt, bne_self_eq_false, Bool.false_eq_true, if_false, stepO_nxt]
  exact F43_loop hl l.length 0 (by omega)
def shB (ls : List (List Int)) : Bool := if decide ((ls.length : Int) ≤ 24) = true then true else (ls.length : Int) == 1025
theorem F31_loop {ls : List (List Int)} (hl : ls.length ≤ 9223372036854775807) : ∀ (k i : Nat), ls.length = i + k →
    ∃ b, res B31 (.c1 ls.length (ls.map eS) (i : Int)) = some b ∧ (b = true → (∀ l ∈ ls.drop i, l.length ≤ 9) ∧ shB ls = true)
  | 0, i, hk => by
    have h1 : ¬ ((i : Int) < (ls.length : Int)) := by omega
    refine ⟨shB ls, ?_, fun hb => ⟨?_, hb⟩⟩
    · rw [res_eq]
      simp only [B31, sem_br, sem_triv, sem_ret, h1, decide_false, Bool.false_eq_true, if_false, stepO_ret]
      rfl
    · rw [List.drop_of_length_le (by omega)]; simp
  | k + 1, i, hk => by
    have hi : i < ls.length := by omega
    have h1 : (i : Int) < (ls.length : Int) := by omega
    have hin : inI64 ((i : Int) + 1) := by unfold inI64; omega
    obtain ⟨b, hb, hB⟩ := F31_loop hl k (i + 1) (by omega)
    by_cases h9 : (((ls.getD i []).length : Int) > 9)
    · refine ⟨false, ?_, fun h => absurd h (by decide)⟩
      rw [res_eq]
      simp only [B31, sem_br, sem_ask, sem_ret, PC.holds, need_true, Int.toNat_natCast, Nat.mul_one, dN_eS hi, dL_eS hi, atS hi, h1, h9, Int.natCast_nonneg, List.length_map, Nat.le_of_lt hi, decide_true, if_true, stepO_ret]
    · refine ⟨b, ?_, fun h => ⟨?_, (hB h).2⟩⟩
      · rw [res_eq]
        simp only [B31, sem_br, sem_ask, sem_nxt, PC.holds, need_true, Int.toNat_natCast, Nat.mul_one, dN_eS hi, dL_eS hi, atS hi, h1, h9, hin, Int.natCast_nonneg, List.length_map, Nat.le_of_lt hi, decide_true, decide_false, if_true, Bool.false_eq_true, if_false, stepO_nxt]
        rw [← hb]; rfl
      · intro l hm
        rw [dropD [] hi] at hm
        rcases List.mem_cons.1 hm with rfl | hm
        · omega
        · exact (hB h).1 l hm
theorem F31_ex {ls : List (List Int)} (hl : ls.length ≤ 9223372036854775807) : ∃ b, F31 ls.length (ls.map eS) = some b ∧ (b = true → (∀ l ∈ ls, l.length ≤ 9) ∧ ls.length ≤ 1025) := by
  obtain ⟨b, hb, hB⟩ := F31_loop hl ls.length 0 (by omega)
  refine ⟨b, ?_, fun h => ?_⟩
  · unfold F31
    rw [res_eq]
    simp only [B31, sem_nxt, stepO_nxt]
    exact hb
  · have := hB h
    rw [List.drop_zero] at this
    refine ⟨this.1, ?_⟩
    have h2 := this.2
    unfold shB at h2
    by_cases h3 : ((ls.length : Int) ≤ 24)
    · omega
    · simp [h3] at h2; omega
theorem F30_eq (l : List Int) : F30 l.length (l.map vI) = some (decide ((l.length : Int) ≤ 9)) := by
  unfold F30; rw [res_eq]; simp only [B30, sem_ret, stepO_ret]
section
variable {bl : List Int} {dt : List Bool} {lev : List (List Int)} {n : Int}
def twoE (bl : List Int) (lev : List (List Int)) (n : Int) : Int := if bearE bl = 0 then firstI [if (lev.length : Int) > 1024 then 5 else chLv bl lev, rangeI n 0 1024] else bearE bl
theorem two_z (h : twoE bl lev n = 0) : bearE bl = 0 ∧ lev.length ≤ 1024 ∧ chLv bl lev = 0 ∧ rangeI n 0 1024 = 0 := by
  unfold twoE at h
  by_cases h0 : bearE bl = 0
  · rw [if_pos h0] at h
    by_cases hm : (lev.length : Int) > 1024
    · rw [if_pos hm, first_pos (by decide)] at h; exact absurd h (by decide)
    · rw [if_neg hm] at h
      by_cases hc : chLv bl lev = 0
      · rw [hc, first_z, firstI_1'] at h
        exact ⟨h0, by omega, hc, h⟩
      · rw [first_pos hc] at h; exact absurd h hc
  · rw [if_neg h0] at h; exact absurd h h0
theorem unlR_z (h : twoE bl lev n = 0) : unlR bl lev n = finN n (unl bl lev) := by
  obtain ⟨h1, h2, h3, _⟩ := two_z h
  have hm : manE bl lev.length = 0 := by
    unfold manE
    rw [h1, first_z, firstI_1', decide_eq_false (show ¬ ((lev.length : Int) > 1024) by omega), whenF]
  unfold unlR
  rw [if_pos hm, if_pos h3]
theorem unlR_e (h : twoE bl lev n ≠ 0) : unlR bl lev n = (0, [], twoE bl lev n) := by
  by_cases h0 : bearE bl = 0
  · have e : twoE bl lev n = firstI [if (lev.length : Int) > 1024 then 5 else chLv bl lev, rangeI n 0 1024] := by unfold twoE; rw [if_pos h0]
    by_cases hm : (lev.length : Int) > 1024
    · have e5 : twoE bl lev n = 5 := by rw [e, if_pos hm, first_pos (by decide)]
      have hman : manE bl lev.length = 5 := by unfold manE; rw [h0, first_z, firstI_1', decide_eq_true hm, whenT]
      unfold unlR
      rw [if_neg (by rw [hman]; decide), hman, e5]
    · have hman : manE bl lev.length = 0 := by unfold manE; rw [h0, first_z, firstI_1', decide_eq_false hm, whenF]
      by_cases hc : chLv bl lev = 0
      · have er : twoE bl lev n = rangeI n 0 1024 := by rw [e, if_neg hm, hc, first_z, firstI_1']
        have hr : rangeI n 0 1024 ≠ 0 := by rw [← er]; exact h
        have hf : finE n (unl bl lev).length = rangeI n 0 1024 := by unfold finE; rw [first_pos hr]
        unfold unlR finN
        rw [if_pos hman, if_pos hc, hf, if_neg hr, er]
      · have er : twoE bl lev n = chLv bl lev := by rw [e, if_neg hm, first_pos hc]
        unfold unlR
        rw [if_pos hman, if_neg hc, er]
  · have e : twoE bl lev n = bearE bl := by unfold twoE; rw [if_neg h0]
    have hman : manE bl lev.length = bearE bl := by unfold manE; rw [first_pos h0]
    unfold unlR
    rw [if_neg (by rw [hman]; exact h0), hman, e]
theorem loads_mem : ∀ (f : Nat) (r : List Bool), (∀ l ∈ loads bl f r, l.length = bl.length) ∧ (loads bl f r).length ≤ f
  | 0, r => by simp [loads]
  | f + 1, r => by
    obtain ⟨h1, h2⟩ := loads_mem f (r.drop (tot bl))
    unfold loads
    by_cases h0 : r.length = 0
    · rw [if_pos h0]; simp
    · rw [if_neg h0]
      refine ⟨fun l hl => ?_, by simp only [List.length_cons]; omega⟩
      rcases List.mem_cons.1 hl with rfl | hl
      · exact sym_len bl r
      · exact h1 l hl
theorem fin_same (hlen : (unl bl lev).length ≤ 100000) : F43 (finN n (unl bl lev)).1 (finN n (unl bl lev)).2.1 (finN n (unl bl lev)).1 (finN n (unl bl lev)).2.1 = some true := by
  unfold finN
  by_cases h0 : finE n (unl bl lev).length = 0
  · rw [if_pos h0]
    have h1 := finE_0 h0
    have hl : ((unl bl lev).take n.toNat).length = n.toNat := by rw [List.length_take]; omega
    have := F43_refl (l := (unl bl lev).take n.toNat) (by omega)
    rw [hl] at this
    exact this
  · rw [if_neg h0]; exact F43_refl (l := []) (by simp)
theorem unl_len (hb : ∀ x ∈ bl, x ≤ 6) : ∀ lev : List (List Int), (unl bl lev).length ≤ 6 * bl.length * lev.length
  | [] => by simp [unl]
  | l :: r => by
    have h1 := rowU_len bl l hb
    have h2 := unl_len hb r
    unfold unl
    rw [List.length_append, List.length_cons, Nat.mul_add, Nat.mul_one]
    omega
theorem e4 {ln un : Nat} {ll ul : List DV} {a b : Int} (h1 : F42 ln ll ln ll = some true) (h2 : F43 un ul un ul = some true) : res B5 (.c4 ln ll a un ul b a b ln ll un ul) = some true := by
  rw [res_eq]
  simp only [B5, h1, h2, sem_bind_some, sem_sees, sem_triv, sem_ret, beq_self_eq_true, if_true, stepO_ret]
theorem e5 {ln : Nat} {ll : List DV} {a b : Int} (h1 : F42 ln ll ln ll = some true) (h2 : F43 0 [] 0 [] = some true) : res B5 (.c5 ln ll a 0 [] b a b ln ll) = some true := by
  rw [res_eq]
  simp only [B5, h1, h2, sem_bind_some, sem_sees, sem_triv, sem_ret, beq_self_eq_true, if_true, stepO_ret]
theorem e6 {un : Nat} {ul : List DV} {a b : Int} (h1 : F42 0 [] 0 [] = some true) (h2 : F43 un ul un ul = some true) : res B5 (.c6 0 [] a un ul b a b un ul) = some true := by
  rw [res_eq]
  simp only [B5, h1, h2, sem_bind_some, sem_sees, sem_triv, sem_ret, beq_self_eq_true, if_true, stepO_ret]
theorem e7 {a b : Int} (h1 : F42 0 [] 0 [] = some true) (h2 : F43 0 [] 0 [] = some true) : res B5 (.c7 0 [] a 0 [] b a b) = some true := by
  rw [res_eq]
  simp only [B5, h1, h2, sem_bind_some, sem_sees, sem_triv, sem_ret, beq_self_eq_true, if_true, stepO_ret]
def ldR (bl : List Int) (dt : List Bool) : Nat × List DV × Int := if oneE bl dt.length = 0 then ((loads bl dt.length dt).length, (loads bl dt.length dt).map eS, 0) else (0, [], oneE bl dt.length)
theorem tail_ok : res B5 (.c1 bl.length (bl.map vI) dt.length (dt.map vB) (ldR bl dt).1 (ldR bl dt).2.1 (ldR bl dt).2.2 (unlR bl lev n).1 (unlR bl lev n).2.1 (unlR bl lev n).2.2 (oneE bl dt.length) (twoE bl lev n) lev.length (lev.map eS) n) = some true := by
  have n42 : F42 0 [] 0 [] = some true := F42_refl (ls := []) (by simp) (by simp)
  have n43 : F43 0 [] 0 [] = some true := F43_refl (l := []) (by simp)
  have two : bearE bl = 0 → twoE bl lev n = 0 → (F41 bl.length (bl.map vI) lev.length (lev.map eS) n = some (finN n (unl bl lev)) ∧ F43 (finN n (unl bl lev)).1 (finN n (unl bl lev)).2.1 (finN n (unl bl lev)).1 (finN n (unl bl lev)).2.1 = some true) := by
    intro hE hT
    obtain ⟨_, h2, h3, h4⟩ := two_z hT
    have bm := bm_of hE
    have hr := rangeI_zero.1 h4
    refine ⟨F41_eq bm h2 hr.1 hr.2 h3, fin_same ?_⟩
    have hl := unl_len (fun x hx => (bm.e x hx).2) lev
    have h8 := bm.n8
    have : 6 * bl.length * lev.length ≤ 48 * 1024 := Nat.mul_le_mul (by omega) h2
    omega
  by_cases h1 : oneE bl dt.length = 0
  · have hE : bearE bl = 0 := Classical.byContradiction fun hn => by
      unfold oneE at h1; rw [first_pos hn] at h1; exact hn h1
    have hd : dt.length ≤ 1024 := Classical.byContradiction fun hn => by
      have : ((dt.length : Int) > 1024) := by omega
      unfold oneE at h1; rw [hE, first_z, decide_eq_true this, whenT] at h1; exact absurd h1 (by decide)
    have bm := bm_of hE
    have h8 := bm.n8
    obtain ⟨m1, m2⟩ := loads_mem (bl := bl) dt.length dt
    have L42 : F42 (loads bl dt.length dt).length ((loads bl dt.length dt).map eS) (loads bl dt.length dt).length ((loads bl dt.length dt).map eS) = some true := F42_refl (fun l hl => by rw [m1 l hl]; omega) (by omega)
    have eL : ldR bl dt = ((loads bl dt.length dt).length, (loads bl dt.length dt).map eS, 0) := by unfold ldR; rw [if_pos h1]
    rw [eL, h1, res_eq]
    simp only [B5, F40_eq bm hd, sem_br, sem_bind_some, sem_sees, sem_nxt, beq_self_eq_true, if_true, stepO_nxt]
    rw [res_eq]
    by_cases h2 : twoE bl lev n = 0
    · obtain ⟨a1, a2⟩ := two hE h2
      rw [unlR_z h2, h2]
      simp only [B5, a1, sem_br, sem_bind_some, sem_sees, sem_nxt, beq_self_eq_true, if_true, stepO_nxt]
      exact e4 L42 a2
    · have hb : (twoE bl lev n == 0) = false := by simpa using h2
      rw [unlR_e h2]
      simp only [B5, hb, sem_br, sem_nxt, Bool.false_eq_true, if_false, stepO_nxt]
      exact e5 L42 n43
  · have hb1 : (oneE bl dt.length == 0) = false := by simpa using h1
    have eL : ldR bl dt = (0, [], oneE bl dt.length) := by unfold ldR; rw [if_neg h1]
    rw [eL, res_eq]
    simp only [B5, hb1, sem_br, sem_nxt, Bool.false_eq_true, if_false, stepO_nxt]
    rw [res_eq]
    by_cases h2 : twoE bl lev n = 0
    · obtain ⟨a1, a2⟩ := two (two_z h2).1 h2
      rw [unlR_z h2, h2]
      simp only [B5, a1, sem_br, sem_bind_some, sem_sees, sem_nxt, beq_self_eq_true, if_true, stepO_nxt]
      exact e6 n42 a2
    · have hb : (twoE bl lev n == 0) = false := by simpa using h2
      rw [unlR_e h2]
      simp only [B5, hb, sem_br, sem_nxt, Bool.false_eq_true, if_false, stepO_nxt]
      exact e7 n42 n43
end
theorem bits_true (bl : List Int) (dt : List Bool) (lev : List (List Int)) (n : Int) (hv : lev.length ≤ 9223372036854775807) : F5 bl.length (bl.map vI) dt.length (dt.map vB) lev.length (lev.map eS) n = some true := by
  unfold F5; rw [res_eq]
  simp only [B5, F15_eq, F30_eq, sem_bind_some, sem_sees, sem_triv, sem_br, sem_ret, Bool.not_true, Bool.false_eq_true, if_false]
  by_cases hl : (bl.length : Int) ≤ 9
  rotate_left
  · simp only [hl, decide_false, Bool.not_false, if_true, stepO_ret]
  simp only [hl, decide_true, Bool.not_true, Bool.false_eq_true, if_false, sem_ask, sem_triv, sem_br, sem_sees, sem_ret, PC.holds, beq_self_eq_true, need_true]
  by_cases hd : (if decide ((dt.length : Int) > 64) = true then (dt.length : Int) != 1025 else false) = true
  · simp only [hd, if_true, stepO_ret]
  have hdl : dt.length ≤ 1025 := by
    by_cases h64 : ((dt.length : Int) > 64)
    · simp only [h64, decide_true, if_true] at hd
      simp at hd
      omega
    · omega
  simp only [hd, if_false]
  obtain ⟨b, hb, hB⟩ := F31_ex hv
  rw [hb]
  simp only [sem_bind_some, sem_sees, sem_br]
  cases b with
  | false =>
    simp only [Bool.not_false, if_true, sem_ret, Bool.false_eq_true, if_false, stepO_ret]
  | true =>
    obtain ⟨h9, hlv⟩ := hB rfl
    have hbl : bl.length ≤ 1025 := by omega
    have hone : firstI [bearE bl, whenI (decide ((dt.length : Int) > 1024)) 5] = oneE bl dt.length := rfl
    have hld : F32 bl.length (bl.map vI) dt.length (dt.map vB) = some (ldR bl dt) := F32_eq hbl
    have fin : ∀ t, t = twoE bl lev n → res B5 (.c1 bl.length (bl.map vI) dt.length (dt.map vB) (ldR bl dt).1 (ldR bl dt).2.1 (ldR bl dt).2.2 (unlR bl lev n).1 (unlR bl lev n).2.1 (unlR bl lev n).2.2 (oneE bl dt.length) t lev.length (lev.map eS) n) = some true := by
      intro t ht; rw [ht]; exact tail_ok
    simp only [Bool.not_true, Bool.false_eq_true, if_false, F33_eq hbl, F34_eq (lev := lev) (n := n) hbl, F35_eq (fun l hm => Nat.le_trans (h9 l hm) (by omega)) hlv, F36_eq bl hbl, F37_eq, F20_2, hone, sem_bind_some, sem_sees, sem_br, sem_ask, sem_nxt, PC.holds]
    by_cases h0 : dt.length = 0
    · obtain rfl : dt = [] := List.eq_nil_of_length_eq_zero h0
      have hld' : F32 bl.length (bl.map vI) 0 [] = some (ldR bl []) := hld
      simp only [List.length_nil, show (Nat.beq 0 0) = true from rfl, if_true, need_true, hld', F34_eq (lev := lev) (n := n) hbl, F35_eq (fun l hm => Nat.le_trans (h9 l hm) (by omega)) hlv, F36_eq bl hbl, F37_eq, F20_2, sem_bind_some, sem_sees, sem_br, sem_nxt]
      by_cases hE : bearE bl = 0
      · have hEb : (bearE bl == 0) = true := by simp [hE]
        simp only [hEb, if_true, F38_eq (lev := lev) (bm_of hE), F39_eq, F20_2, sem_bind_some, sem_sees, sem_nxt, stepO_nxt]
        exact fin _ (by unfold twoE; rw [if_pos hE])
      · have hEb : (bearE bl == 0) = false := by simpa using hE
        simp only [hEb, Bool.false_eq_true, if_false, stepO_nxt]
        exact fin _ (by unfold twoE; rw [if_neg hE])
    · have hz : dt.length.beq 0 = false := by
        cases hn : dt.length with
        | zero => exact absurd hn h0
        | succ n => rfl
      have hf : fitsN dt.length 1 := ⟨by omega, by omega⟩
      simp only [hz, Bool.false_eq_true, if_false, Nat.pos_of_ne_zero h0, List.length_map, Nat.mul_one, hf, need_true, hld, F34_eq (lev := lev) (n := n) hbl, F35_eq (fun l hm => Nat.le_trans (h9 l hm) (by omega)) hlv, F36_eq bl hbl, F37_eq, F20_2, sem_bind_some, sem_sees, sem_br, sem_nxt]
      by_cases hE : bearE bl = 0
      · have hEb : (bearE bl == 0) = true := by simp [hE]
        simp only [hEb, if_true, F38_eq (lev := lev) (bm_of hE), F39_eq, F20_2, sem_bind_some, sem_sees, sem_nxt, stepO_nxt]
        exact fin _ (by unfold twoE; rw [if_pos hE])
      · have hEb : (bearE bl == 0) = false := by simpa using hE
        simp only [hEb, Bool.false_eq_true, if_false, stepO_nxt]
        exact fin _ (by unfold twoE; rw [if_neg hE])
end Go.Kv
