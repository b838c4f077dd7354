import Derived.Test.YtfdjkfmiofgclaaGreatDoorGT12
import Derived.Test.YtfdjkfmiofgclaaGreatDoorKEb
namespace Go.Kv
set_option linter.unusedVariables false
set_option linter.unusedSimpArgs false
set_option linter.unnecessarySimpa false
open Go Go.RowKit
set_option maxRecDepth 100000
def eS (l : List Int) : DV := .sl l.length (l.map vI)
theorem dN_eS {ls : List (List Int)} {i : Nat} (hi : i < ls.length) : dN (cel (ls.map eS) i) = (ls.getD i []).length := by
  unfold cel; simp only [List.getD_eq_getElem?_getD, List.getElem?_map, List.getElem?_eq_getElem hi]; rfl
theorem dL_eS {ls : List (List Int)} {i : Nat} (hi : i < ls.length) : dL (cel (ls.map eS) i) = (ls.getD i []).map vI := by
  unfold cel; simp only [List.getD_eq_getElem?_getD, List.getElem?_map, List.getElem?_eq_getElem hi]; rfl
theorem atS {ls : List (List Int)} {i : Nat} (hi : i < ls.length) : Option.map AV.d (List.drop i (ls.map eS))[0]? = some (AV.d (DV.sl (ls.getD i []).length ((ls.getD i []).map vI))) := by
  simp only [List.getElem?_drop, Nat.add_zero, List.getElem?_map, List.getElem?_eq_getElem hi, List.getD_eq_getElem?_getD]; rfl
theorem getD_memS {ls : List (List Int)} {i : Nat} (hi : i < ls.length) : ls.getD i [] ∈ ls := by
  simp only [List.getD_eq_getElem?_getD, List.getElem?_eq_getElem hi, Option.getD_some]; exact List.getElem_mem hi
theorem getD_memI {l : List Int} {i : Nat} (hi : i < l.length) : l.getD i 0 ∈ l := by
  simp only [List.getD_eq_getElem?_getD, List.getElem?_eq_getElem hi, Option.getD_some]; exact List.getElem_mem hi
structure Sh (sg : List Int) (ns : List (List Int)) (nt : List Int) : Prop where
  s : sg.length ≤ 9
  n : ns.length ≤ 9
  r : ∀ l ∈ ns, l.length ≤ 9
  t : nt.length ≤ 9
def sigE (sg : List Int) (m : Nat) : Int := firstI [whenI ((sg.length : Int) == 0) 12, whenI (decide ((sg.length : Int) > 8)) 5, firstI (rgs sg 0 1000000000), whenI ((m : Int) == 0) 12, whenI (decide ((m : Int) > 8)) 5]
def rowE (n : Nat) (l : List Int) : Int := firstI [whenI ((l.length : Int) != (n : Int)) 2, firstI (rgs l 1 1000000)]
def rowsE (n : Nat) : List (List Int) → Int
  | [] => 0
  | l :: r => if rowE n l = 0 then rowsE n r else rowE n l
def notE1 (n : Nat) (last x : Int) : Int := firstI [whenI (decide (x < 0 ∨ x ≥ (n : Int))) 10, whenI (decide (x ≤ last)) 11]
def notE (n : Nat) : Int → List Int → Int
  | _, [] => 0
  | last, x :: r => if notE1 n last x = 0 then notE n x r else notE1 n last x
def mmE (mg mk : Int) : Int := firstI [rangeI mg 1 100, rangeI mk 1 1000000]
def tonesE (sg : List Int) (ns : List (List Int)) (mg mk : Int) (nt : List Int) : Int :=
  if sigE sg ns.length ≠ 0 then sigE sg ns.length else if rowsE sg.length ns ≠ 0 then rowsE sg.length ns else if mmE mg mk ≠ 0 then mmE mg mk else notE sg.length (-1) nt
theorem rowsE_drop {n : Nat} {ls : List (List Int)} {i : Nat} (hi : i < ls.length) : rowsE n (ls.drop i) = if rowE n (ls.getD i []) = 0 then rowsE n (ls.drop (i + 1)) else rowE n (ls.getD i []) := by
  rw [dropD [] hi]; rfl
theorem notE_drop {n : Nat} {l : List Int} {i : Nat} (a : Int) (hi : i < l.length) : notE n a (l.drop i) = if notE1 n a (l.getD i 0) = 0 then notE n (l.getD i 0) (l.drop (i + 1)) else notE1 n a (l.getD i 0) := by
  rw [dropD 0 hi]; rfl
theorem F107_5 (a b c d e : Int) : F107 5 [vI a, vI b, vI c, vI d, vI e] = some (firstI [a, b, c, d, e]) := F107_eq [a, b, c, d, e] (by simp)
theorem F82_not {sg : List Int} {ns : List (List Int)} {mg mk : Int} {nt : List Int} (h : Sh sg ns nt) : ∀ (k i : Nat) (a : Int), nt.length = i + k →
    res B82 (.c2 a nt.length (nt.map vI) (nt.length : Int) (i : Int) sg.length (sg.map vI) ns.length (ns.map eS) mg mk) = some (notE sg.length a (nt.drop i))
  | 0, i, a, hk => by
    have h1 : ¬ ((i : Int) < (nt.length : Int)) := by omega
    rw [List.drop_of_length_le (by omega), res_eq]
    simp only [B82, sem_br, sem_ret, h1, decide_false, Bool.false_eq_true, if_false, stepO_ret, notE]
  | k + 1, i, a, hk => by
    have hi : i < nt.length := by omega
    have h1 : (i : Int) < (nt.length : Int) := by omega
    have hin : inI64 ((i : Int) + 1) := by have := h.t; unfold inI64; omega
    have ih := F82_not (mg := mg) (mk := mk) h k (i + 1) (nt.getD i 0) (by omega)
    rw [notE_drop a hi, res_eq]
    by_cases hx : nt.getD i 0 < 0
    · have e1 : notE1 sg.length a (nt.getD i 0) = firstI [whenI true 10, whenI (decide (nt.getD i 0 ≤ a)) 11] := by
        unfold notE1; simp only [hx, true_or, decide_true]
      have e2 : notE1 sg.length a (nt.getD i 0) = 10 := by rw [e1, whenT, first_pos (by decide)]
      simp only [B82, F109_eq, F107_2, sem_br, sem_ask, sem_ret, sem_nxt, sem_bind_some, sem_sees, PC.holds, need_true, Int.toNat_natCast, Nat.mul_one, dI_cel_map, at_map hi, h1, hx, decide_true, if_true, Int.natCast_nonneg, List.length_map, Nat.le_of_lt hi]
      rw [← e1, e2]
      simp only [show ((10 : Int) != 0) = true from rfl, if_true, stepO_ret, show ¬ ((10 : Int) = 0) from by decide, if_false]
    · have e1 : notE1 sg.length a (nt.getD i 0) = firstI [whenI (decide (nt.getD i 0 ≥ (sg.length : Int))) 10, whenI (decide (nt.getD i 0 ≤ a)) 11] := by
        unfold notE1; simp only [hx, false_or]
      simp only [B82, F109_eq, F107_2, sem_br, sem_ask, sem_ret, sem_nxt, sem_bind_some, sem_sees, PC.holds, need_true, Int.toNat_natCast, Nat.mul_one, dI_cel_map, at_map hi, h1, hx, decide_true, decide_false, if_true, Bool.false_eq_true, if_false, Int.natCast_nonneg, List.length_map, Nat.le_of_lt hi, beq_self_eq_true, hin]
      rw [← e1]
      by_cases h0 : notE1 sg.length a (nt.getD i 0) = 0
      · simp only [h0, bne_self_eq_false, if_true, Bool.false_eq_true, if_false, stepO_nxt]
        rw [← ih]; rfl
      · have hb : (notE1 sg.length a (nt.getD i 0) != 0) = true := bne_iff_ne.2 h0
        simp only [h0, hb, if_false, if_true, stepO_ret]
theorem F82_rows {sg : List Int} {ns : List (List Int)} {mg mk : Int} {nt : List Int} (h : Sh sg ns nt) : ∀ (k i : Nat), ns.length = i + k →
    res B82 (.c1 ns.length (ns.map eS) (ns.length : Int) (i : Int) sg.length (sg.map vI) mg mk nt.length (nt.map vI)) = some (if rowsE sg.length (ns.drop i) ≠ 0 then rowsE sg.length (ns.drop i) else if mmE mg mk ≠ 0 then mmE mg mk else notE sg.length (-1) nt)
  | 0, i, hk => by
    have h1 : ¬ ((i : Int) < (ns.length : Int)) := by omega
    rw [List.drop_of_length_le (by omega), res_eq]
    simp only [B82, F106_eq, F107_2, sem_br, sem_ask, sem_ret, sem_nxt, sem_bind_some, sem_sees, h1, decide_false, Bool.false_eq_true, if_false]
    rw [show firstI [rangeI mg 1 100, rangeI mk 1 1000000] = mmE mg mk from rfl]
    simp only [rowsE, ne_eq, not_true_eq_false, if_false]
    by_cases h0 : mmE mg mk = 0
    · simp only [h0, bne_self_eq_false, Bool.false_eq_true, if_false, stepO_nxt, not_true_eq_false]
      have := F82_not (mg := mg) (mk := mk) h nt.length 0 (-1) (by omega)
      simpa using this
    · have hb : (mmE mg mk != 0) = true := bne_iff_ne.2 h0
      simp only [h0, hb, if_true, stepO_ret, not_false_eq_true]
  | k + 1, i, hk => by
    have hi : i < ns.length := by omega
    have h1 : (i : Int) < (ns.length : Int) := by omega
    have hin : inI64 ((i : Int) + 1) := by have := h.n; unfold inI64; omega
    have hr := h.r _ (getD_memS hi)
    have ih := F82_rows (mg := mg) (mk := mk) h k (i + 1) (by omega)
    rw [rowsE_drop hi, res_eq]
    simp only [B82, F109_eq, F126_eq _ _ _ (show (ns.getD i []).length ≤ 1025 by omega), F107_2, sem_br, sem_ask, sem_ret, sem_nxt, sem_bind_some, sem_sees, PC.holds, need_true, Int.toNat_natCast, Nat.mul_one, dN_eS hi, dL_eS hi, atS hi, h1, decide_true, if_true, Int.natCast_nonneg, List.length_map, Nat.le_of_lt hi, hin]
    rw [show firstI [whenI (((ns.getD i []).length : Int) != (sg.length : Int)) 2, firstI (rgs (ns.getD i []) 1 1000000)] = rowE sg.length (ns.getD i []) from rfl]
    by_cases h0 : rowE sg.length (ns.getD i []) = 0
    · simp only [h0, bne_self_eq_false, if_true, Bool.false_eq_true, if_false, stepO_nxt]
      rw [← ih]; rfl
    · have hb : (rowE sg.length (ns.getD i []) != 0) = true := bne_iff_ne.2 h0
      simp only [h0, hb, if_false, if_true, stepO_ret, ne_eq, not_false_eq_true]
theorem F82_eq {sg : List Int} {ns : List (List Int)} {mg mk : Int} {nt : List Int} (h : Sh sg ns nt) : F82 sg.length (sg.map vI) ns.length (ns.map eS) mg mk nt.length (nt.map vI) = some (tonesE sg ns mg mk nt) := by
  unfold F82 tonesE
  rw [res_eq]
  have hs := h.s
  simp only [B82, F109_eq, F126_eq _ _ _ (show sg.length ≤ 1025 by omega), F107_5, sem_br, sem_ret, sem_nxt, sem_bind_some, sem_sees]
  rw [show firstI [whenI ((sg.length : Int) == 0) 12, whenI (decide ((sg.length : Int) > 8)) 5, firstI (rgs sg 0 1000000000), whenI ((ns.length : Int) == 0) 12, whenI (decide ((ns.length : Int) > 8)) 5] = sigE sg ns.length from rfl]
  by_cases h0 : sigE sg ns.length = 0
  · simp only [h0, bne_self_eq_false, Bool.false_eq_true, if_false, stepO_nxt, ne_eq, not_true_eq_false]
    have := F82_rows (mg := mg) (mk := mk) h ns.length 0 (by omega)
    simpa using this
  · have hb : (sigE sg ns.length != 0) = true := bne_iff_ne.2 h0
    simp only [h0, hb, if_true, stepO_ret, ne_eq, not_false_eq_true]
theorem firstI_app (a b : Int) (l : List Int) : firstI (a :: b :: l) = if firstI [a, b] = 0 then firstI l else firstI [a, b] := by
  by_cases ha : a = 0
  · subst ha
    rw [first_z, first_z]
    by_cases hb : b = 0
    · subst hb; rw [first_z, first_z]; rfl
    · rw [first_pos hb, first_pos hb, if_neg hb]
  · rw [first_pos ha, first_pos ha, if_neg ha]
theorem firstI_1 (a : Int) : firstI [a] = a := by
  by_cases ha : a = 0
  · subst ha; rfl
  · exact first_pos ha []
theorem F78_eq (n x : Int) : F78 n x = some (whenI (decide (x < 0 ∨ x ≥ n)) 10) := by
  unfold F78
  rw [res_eq]
  simp only [B78, F37_eq, sem_triv, sem_bind_some, sem_sees, sem_ret, stepO_ret]
  by_cases h1 : x < 0 <;> by_cases h2 : x ≥ n <;> simp [h1, h2]
theorem F77_not {sg : List Int} {ns : List (List Int)} {mg mk : Int} {nt : List Int} (h : Sh sg ns nt) : ∀ (k i : Nat) (a : Int), nt.length = i + k → (i = 0 → a = -1) → (0 < i → a = nt.getD (i - 1) 0) →
    res B77 (.c4 (i : Int) sg.length (sg.map vI) ns.length (ns.map eS) mg mk nt.length (nt.map vI)) = some (notE sg.length a (nt.drop i))
  | 0, i, a, hk, h0, hp => by
    have h1 : ¬ ((i : Int) < (nt.length : Int)) := by omega
    rw [List.drop_of_length_le (by omega), res_eq]
    simp only [B77, sem_br, sem_ret, h1, decide_false, Bool.false_eq_true, if_false, stepO_ret, notE]
  | k + 1, i, a, hk, h0, hp => by
    have hi : i < nt.length := by omega
    have h1 : (i : Int) < (nt.length : Int) := by omega
    have ht := h.t
    have hin : inI64 ((i : Int) + 1) := by unfold inI64; omega
    have ih := F77_not (mg := mg) (mk := mk) h k (i + 1) (nt.getD i 0) (by omega) (by omega) (by intro _; rfl)
    rw [notE_drop a hi, res_eq]
    cases i with
    | zero =>
      obtain rfl := h0 rfl
      have hgt : ¬ (((0 : Nat) : Int) > 0) := by omega
      have hE : notE1 sg.length (-1) (nt.getD 0 0) = firstI [whenI (decide (nt.getD 0 0 < 0 ∨ nt.getD 0 0 ≥ (sg.length : Int))) 10, 0] := by
        unfold notE1
        by_cases hx : nt.getD 0 0 < 0
        · simp only [hx, true_or, decide_true, whenT]
          rw [first_pos (by decide), first_pos (by decide)]
        · have hx2 : ¬ nt.getD 0 0 ≤ -1 := by omega
          simp only [hx2, decide_false, whenF]
      simp only [B77, F78_eq, F37_eq, whenF, F20_2, sem_br, sem_ask, sem_ret, sem_nxt, sem_bind_some, sem_sees, PC.holds, need_true, Int.toNat_natCast, Nat.mul_one, dI_cel_map, at_map hi, h1, hgt, decide_true, decide_false, if_true, Bool.false_eq_true, if_false, Int.natCast_nonneg, List.length_map, Nat.le_of_lt hi, hin]
      rw [← hE]
      by_cases hz : notE1 sg.length (-1) (nt.getD 0 0) = 0
      · simp only [hz, bne_self_eq_false, if_true, Bool.false_eq_true, if_false, stepO_nxt]
        rw [← ih]; rfl
      · have hb : (notE1 sg.length (-1) (nt.getD 0 0) != 0) = true := bne_iff_ne.2 hz
        simp only [hz, hb, if_false, if_true, stepO_ret]
    | succ i' =>
      have ha := hp (by omega)
      rw [show i' + 1 - 1 = i' by omega] at ha
      have hgt : (((i' + 1 : Nat) : Int) > 0) := by omega
      have hm : (if ((i' + 1 : Nat) : Int) - 1 > 0 then ((i' + 1 : Nat) : Int) - 1 else 0) = (i' : Int) := by split <;> omega
      have hi' : i' < nt.length := by omega
      have h1' : (i' : Int) < (nt.length : Int) := by omega
      have hin2 : inI64 (((i' + 1 : Nat) : Int) - 1) := by unfold inI64; omega
      have hE : notE1 sg.length a (nt.getD (i' + 1) 0) = firstI [whenI (decide (nt.getD (i' + 1) 0 < 0 ∨ nt.getD (i' + 1) 0 ≥ (sg.length : Int))) 10, whenI (decide (nt.getD (i' + 1) 0 ≤ nt.getD i' 0)) 11] := by
        unfold notE1; rw [ha]
      simp only [B77, hm, F78_eq, F37_eq, F20_2, sem_br, sem_ask, sem_ret, sem_nxt, sem_bind_some, sem_sees, PC.holds, need_true, Int.toNat_natCast, Nat.mul_one, dI_cel_map, at_map hi, at_map hi', h1, h1', hgt, decide_true, if_true, Int.natCast_nonneg, List.length_map, Nat.le_of_lt hi, Nat.le_of_lt hi', hin, hin2]
      rw [← hE]
      by_cases hz : notE1 sg.length a (nt.getD (i' + 1) 0) = 0
      · simp only [hz, bne_self_eq_false, if_true, Bool.false_eq_true, if_false, stepO_nxt]
        rw [← ih]; rfl
      · have hb : (notE1 sg.length a (nt.getD (i' + 1) 0) != 0) = true := bne_iff_ne.2 hz
        simp only [hz, hb, if_false, if_true, stepO_ret]
theorem F77_row {sg : List Int} {ns : List (List Int)} {mg mk : Int} {nt : List Int} (h : Sh sg ns nt) {i : Nat} (hi : i < ns.length) : ∀ (k j : Nat), (ns.getD i []).length = j + k →
    res B77 (.c3 (i : Int) (j : Int) sg.length (sg.map vI) ns.length (ns.map eS) mg mk nt.length (nt.map vI)) = if firstI (rgs ((ns.getD i []).drop j) 1 1000000) = 0 then res B77 (.c2 ((i + 1 : Nat) : Int) sg.length (sg.map vI) ns.length (ns.map eS) mg mk nt.length (nt.map vI)) else some (firstI (rgs ((ns.getD i []).drop j) 1 1000000))
  | 0, j, hk => by
    have h1 : (i : Int) < (ns.length : Int) := by omega
    have hn : ¬ ((j : Int) < ((ns.getD i []).length : Int)) := by omega
    have hin : inI64 ((i : Int) + 1) := by have := h.n; unfold inI64; omega
    rw [List.drop_of_length_le (by omega), res_eq]
    simp only [B77, sem_br, sem_ask, sem_nxt, PC.holds, need_true, Int.toNat_natCast, Nat.mul_one, dN_eS hi, dL_eS hi, atS hi, h1, hn, hin, decide_true, decide_false, Bool.false_eq_true, if_false, if_true, Int.natCast_nonneg, List.length_map, Nat.le_of_lt hi, stepO_nxt]
    simp only [rgs, List.map_nil, firstI, if_true]
    rfl
  | k + 1, j, hk => by
    have hj : j < (ns.getD i []).length := by omega
    have h1 : (i : Int) < (ns.length : Int) := by omega
    have h2 : (j : Int) < ((ns.getD i []).length : Int) := by omega
    have hr := h.r _ (getD_memS hi)
    have hin : inI64 ((j : Int) + 1) := by unfold inI64; omega
    have ih := F77_row (mg := mg) (mk := mk) h hi k (j + 1) (by omega)
    have hd : rgs ((ns.getD i []).drop j) 1 1000000 = rangeI ((ns.getD i []).getD j 0) 1 1000000 :: rgs ((ns.getD i []).drop (j + 1)) 1 1000000 := by
      unfold rgs; rw [dropD 0 hj]; rfl
    rw [hd, res_eq]
    simp only [B77, F39_eq, sem_br, sem_ask, sem_ret, sem_nxt, sem_bind_some, sem_sees, PC.holds, need_true, Int.toNat_natCast, Nat.mul_one, dN_eS hi, dL_eS hi, atS hi, dI_cel_map, at_map hj, h1, h2, hin, decide_true, if_true, Int.natCast_nonneg, List.length_map, Nat.le_of_lt hi, Nat.le_of_lt hj]
    by_cases h0 : rangeI ((ns.getD i []).getD j 0) 1 1000000 = 0
    · rw [h0, first_z]
      simp only [bne_self_eq_false, Bool.false_eq_true, if_false, stepO_nxt]
      rw [← ih]; rfl
    · have hb : (rangeI ((ns.getD i []).getD j 0) 1 1000000 != 0) = true := bne_iff_ne.2 h0
      rw [first_pos h0]
      simp only [h0, hb, if_false, if_true, stepO_ret]
theorem F77_rows {sg : List Int} {ns : List (List Int)} {mg mk : Int} {nt : List Int} (h : Sh sg ns nt) : ∀ (k i : Nat), ns.length = i + k →
    res B77 (.c2 (i : Int) sg.length (sg.map vI) ns.length (ns.map eS) mg mk nt.length (nt.map vI)) = some (if rowsE sg.length (ns.drop i) ≠ 0 then rowsE sg.length (ns.drop i) else if mmE mg mk ≠ 0 then mmE mg mk else notE sg.length (-1) nt)
  | 0, i, hk => by
    have h1 : ¬ ((i : Int) < (ns.length : Int)) := by omega
    rw [List.drop_of_length_le (by omega), res_eq]
    simp only [B77, F39_eq, F20_2, sem_br, sem_ask, sem_ret, sem_nxt, sem_bind_some, sem_sees, h1, decide_false, Bool.false_eq_true, if_false]
    rw [show firstI [rangeI mg 1 100, rangeI mk 1 1000000] = mmE mg mk from rfl]
    simp only [rowsE, ne_eq, not_true_eq_false, if_false]
    by_cases h0 : mmE mg mk = 0
    · simp only [h0, bne_self_eq_false, Bool.false_eq_true, if_false, stepO_nxt, not_true_eq_false]
      have := F77_not (mg := mg) (mk := mk) h nt.length 0 (-1) (by omega) (fun _ => rfl) (by omega)
      simpa using this
    · have hb : (mmE mg mk != 0) = true := bne_iff_ne.2 h0
      simp only [h0, hb, if_true, stepO_ret, not_false_eq_true]
  | k + 1, i, hk => by
    have hi : i < ns.length := by omega
    have h1 : (i : Int) < (ns.length : Int) := by omega
    have ih := F77_rows (mg := mg) (mk := mk) h k (i + 1) (by omega)
    have hrow := F77_row (mg := mg) (mk := mk) h hi (ns.getD i []).length 0 (by omega)
    rw [rowsE_drop hi, res_eq]
    simp only [B77, sem_br, sem_ask, sem_ret, sem_nxt, PC.holds, need_true, Int.toNat_natCast, Nat.mul_one, dN_eS hi, dL_eS hi, atS hi, h1, decide_true, if_true, Int.natCast_nonneg, List.length_map, Nat.le_of_lt hi]
    unfold rowE
    by_cases hn : ((ns.getD i []).length : Int) = (sg.length : Int)
    · have hb : (((ns.getD i []).length : Int) != (sg.length : Int)) = false := by simpa using hn
      simp only [hb, Bool.false_eq_true, if_false, stepO_nxt, whenF, first_z, firstI_1]
      rw [show ((0 : Int)) = ((0 : Nat) : Int) from rfl, hrow, List.drop_zero]
      by_cases h0 : firstI (rgs (ns.getD i []) 1 1000000) = 0
      · rw [if_pos h0, ih]; simp only [h0, Int.ofNat_zero, if_true]
      · rw [if_neg h0]; simp only [h0, Int.ofNat_zero, if_false, ne_eq, not_false_eq_true, if_true]
    · have hb : (((ns.getD i []).length : Int) != (sg.length : Int)) = true := bne_iff_ne.2 hn
      simp only [hb, if_true, stepO_ret, whenT]
      rw [first_pos (by decide)]
      rfl
theorem F77_sig {sg : List Int} {ns : List (List Int)} {mg mk : Int} {nt : List Int} (h : Sh sg ns nt) : ∀ (k i : Nat), sg.length = i + k →
    res B77 (.c1 (i : Int) sg.length (sg.map vI) ns.length (ns.map eS) mg mk nt.length (nt.map vI)) = some (if firstI (rgs (sg.drop i) 0 1000000000) ≠ 0 then firstI (rgs (sg.drop i) 0 1000000000) else
      if firstI [whenI ((ns.length : Int) == 0) 12, whenI (decide ((ns.length : Int) > 8)) 5] ≠ 0 then firstI [whenI ((ns.length : Int) == 0) 12, whenI (decide ((ns.length : Int) > 8)) 5] else
      if rowsE sg.length ns ≠ 0 then rowsE sg.length ns else if mmE mg mk ≠ 0 then mmE mg mk else notE sg.length (-1) nt)
  | 0, i, hk => by
    have h1 : ¬ ((i : Int) < (sg.length : Int)) := by omega
    rw [List.drop_of_length_le (by omega), res_eq]
    simp only [B77, F37_eq, F20_2, sem_br, sem_ask, sem_ret, sem_nxt, sem_bind_some, sem_sees, h1, decide_false, Bool.false_eq_true, if_false]
    rw [show firstI (rgs [] 0 1000000000) = 0 from rfl]
    simp only [ne_eq, not_true_eq_false, if_false]
    by_cases h0 : firstI [whenI ((ns.length : Int) == 0) 12, whenI (decide ((ns.length : Int) > 8)) 5] = 0
    · simp only [h0, bne_self_eq_false, Bool.false_eq_true, if_false, stepO_nxt, not_true_eq_false]
      have := F77_rows (mg := mg) (mk := mk) h ns.length 0 (by omega)
      simpa using this
    · have hb : (firstI [whenI ((ns.length : Int) == 0) 12, whenI (decide ((ns.length : Int) > 8)) 5] != 0) = true := bne_iff_ne.2 h0
      simp only [h0, hb, if_true, stepO_ret, not_false_eq_true]
  | k + 1, i, hk => by
    have hi : i < sg.length := by omega
    have h1 : (i : Int) < (sg.length : Int) := by omega
    have hs := h.s
    have hin : inI64 ((i : Int) + 1) := by unfold inI64; omega
    have ih := F77_sig (mg := mg) (mk := mk) h k (i + 1) (by omega)
    have hd : rgs (sg.drop i) 0 1000000000 = rangeI (sg.getD i 0) 0 1000000000 :: rgs (sg.drop (i + 1)) 0 1000000000 := by
      unfold rgs; rw [dropD 0 hi]; rfl
    rw [hd, res_eq]
    simp only [B77, F39_eq, sem_br, sem_ask, sem_ret, sem_nxt, sem_bind_some, sem_sees, PC.holds, need_true, Int.toNat_natCast, Nat.mul_one, dI_cel_map, at_map hi, h1, hin, decide_true, if_true, Int.natCast_nonneg, List.length_map, Nat.le_of_lt hi]
    by_cases h0 : rangeI (sg.getD i 0) 0 1000000000 = 0
    · rw [h0, first_z]
      simp only [bne_self_eq_false, Bool.false_eq_true, if_false, stepO_nxt]
      rw [← ih]; rfl
    · have hb : (rangeI (sg.getD i 0) 0 1000000000 != 0) = true := bne_iff_ne.2 h0
      rw [first_pos h0]
      simp only [h0, hb, if_true, stepO_ret, ne_eq, not_false_eq_true]
theorem F77_eq {sg : List Int} {ns : List (List Int)} {mg mk : Int} {nt : List Int} (h : Sh sg ns nt) : F77 sg.length (sg.map vI) ns.length (ns.map eS) mg mk nt.length (nt.map vI) = some (tonesE sg ns mg mk nt) := by
  unfold F77 tonesE
  rw [res_eq]
  simp only [B77, F37_eq, F20_2, sem_br, sem_ret, sem_nxt, sem_bind_some, sem_sees]
  have hS : sigE sg ns.length = if firstI [whenI ((sg.length : Int) == 0) 12, whenI (decide ((sg.length : Int) > 8)) 5] = 0 then (if firstI (rgs sg 0 1000000000) = 0 then firstI [whenI ((ns.length : Int) == 0) 12, whenI (decide ((ns.length : Int) > 8)) 5] else firstI (rgs sg 0 1000000000)) else firstI [whenI ((sg.length : Int) == 0) 12, whenI (decide ((sg.length : Int) > 8)) 5] := by
    unfold sigE
    rw [firstI_app]
    congr 1
  by_cases h0 : firstI [whenI ((sg.length : Int) == 0) 12, whenI (decide ((sg.length : Int) > 8)) 5] = 0
  · rw [hS, if_pos h0, h0]
    simp only [bne_self_eq_false, Bool.false_eq_true, if_false, stepO_nxt]
    have := F77_sig (mg := mg) (mk := mk) h sg.length 0 (by omega)
    rw [List.drop_zero] at this
    rw [show ((0 : Int)) = ((0 : Nat) : Int) from rfl, this]
    by_cases h1 : firstI (rgs sg 0 1000000000) = 0
    · simp only [h1, Int.ofNat_zero, ne_eq, not_true_eq_false, if_false, if_true]
    · simp only [h1, Int.ofNat_zero, ne_eq, not_false_eq_true, if_false, if_true]
  · rw [hS, if_neg h0]
    have hb : (firstI [whenI ((sg.length : Int) == 0) 12, whenI (decide ((sg.length : Int) > 8)) 5] != 0) = true := bne_iff_ne.2 h0
    simp only [h0, hb, if_true, stepO_ret, ne_eq, not_false_eq_true]
structure VT (sg : List Int) (ns : List (List Int)) (mg mk : Int) (nt : List Int) : Prop where
  sh : Sh sg ns nt
  s1 : ∀ x ∈ sg, 0 ≤ x ∧ x ≤ 1000000000
  r1 : ∀ l ∈ ns, l.length = sg.length
  r2 : ∀ l ∈ ns, ∀ x ∈ l, 1 ≤ x ∧ x ≤ 1000000
  n0 : 0 < ns.length
  m1 : 1 ≤ mg ∧ mg ≤ 100
  k1 : 1 ≤ mk ∧ mk ≤ 1000000
theorem firstI_0 : ∀ {l : List Int}, firstI l = 0 → ∀ x ∈ l, x = 0
  | a :: l, h, x, hx => by
    by_cases ha : a = 0
    · subst ha
      rw [first_z] at h
      rcases List.mem_cons.1 hx with rfl | hx
      · rfl
      · exact firstI_0 h x hx
    · rw [first_pos ha] at h; exact absurd h ha
theorem rgs_0 {l : List Int} {a b : Int} (h : firstI (rgs l a b) = 0) : ∀ x ∈ l, a ≤ x ∧ x ≤ b := by
  intro x hx
  exact rangeI_zero.1 (firstI_0 h _ (List.mem_map.2 ⟨x, hx, rfl⟩))
theorem rowsE_0 {n : Nat} : ∀ {ls : List (List Int)}, rowsE n ls = 0 → ∀ l ∈ ls, rowE n l = 0
  | a :: r, h, l, hl => by
    unfold rowsE at h
    by_cases h0 : rowE n a = 0
    · rw [if_pos h0] at h
      rcases List.mem_cons.1 hl with rfl | hl
      · exact h0
      · exact rowsE_0 h l hl
    · rw [if_neg h0] at h; exact absurd h h0
theorem vt_of {sg : List Int} {ns : List (List Int)} {mg mk : Int} {nt : List Int} (sh : Sh sg ns nt) (h : tonesE sg ns mg mk nt = 0) : VT sg ns mg mk nt := by
  unfold tonesE at h
  by_cases h1 : sigE sg ns.length = 0
  · by_cases h2 : rowsE sg.length ns = 0
    · by_cases h3 : mmE mg mk = 0
      · have e1 := firstI_0 h1
        have e3 := firstI_0 h3
        have er := rowsE_0 h2
        have rr : ∀ l ∈ ns, l.length = sg.length ∧ ∀ x ∈ l, 1 ≤ x ∧ x ≤ 1000000 := by
          intro l hl
          have := firstI_0 (er l hl)
          refine ⟨?_, rgs_0 (this _ (by simp))⟩
          have h0 := this (whenI ((l.length : Int) != (sg.length : Int)) 2) (by simp)
          by_cases hn : (l.length : Int) = (sg.length : Int)
          · omega
          · rw [show ((l.length : Int) != (sg.length : Int)) = true from bne_iff_ne.2 hn, whenT] at h0
            exact absurd h0 (by decide)
        refine ⟨sh, rgs_0 (e1 _ (by simp)), fun l hl => (rr l hl).1, fun l hl => (rr l hl).2, ?_, rangeI_zero.1 (e3 _ (by simp)), rangeI_zero.1 (e3 _ (by simp))⟩
        have h0 := e1 (whenI ((ns.length : Int) == 0) 12) (by simp)
        apply Nat.pos_of_ne_zero
        intro hz
        rw [hz] at h0
        exact absurd h0 (by decide)
      · rw [if_neg (by simpa using h1), if_neg (by simpa using h2), if_pos h3] at h; exact absurd h h3
    · rw [if_neg (by simpa using h1), if_pos h2] at h; exact absurd h h2
  · rw [if_pos h1] at h; exact absurd h h1
def needP (ns : List (List Int)) (mg : Int) (p c b : Nat) : Int := mg * (((2 ^ b : Nat) : Int) - 1) * (ns.getD p []).getD c 0
def pwr (sg : List Int) (ns : List (List Int)) (mg : Int) (p c b : Nat) : Int × Bool :=
  if needP ns mg p c b = 0 then (0, true) else if sg.getD c 0 = 0 then (0, false) else ((needP ns mg p c b + sg.getD c 0 - 1).tdiv (sg.getD c 0), true)
theorem two_b : ∀ b < 7, IntKind.i64.wrap (1 * 2 ^ min b 64) = ((2 ^ b : Nat) : Int) := by decide
theorem two_le : ∀ b < 7, 1 ≤ ((2 ^ b : Nat) : Int) ∧ ((2 ^ b : Nat) : Int) ≤ 64 := by decide
theorem need_b {sg : List Int} {ns : List (List Int)} {mg mk : Int} {nt : List Int} (v : VT sg ns mg mk nt) {p c b : Nat} (hp : p < ns.length) (hc : c < sg.length) (hb : b < 7) :
    0 ≤ mg * (((2 ^ b : Nat) : Int) - 1) ∧ mg * (((2 ^ b : Nat) : Int) - 1) ≤ 6300 ∧ 0 ≤ needP ns mg p c b ∧ needP ns mg p c b ≤ 6300000000 := by
  have hr := v.r1 _ (getD_memS hp)
  have hx := v.r2 _ (getD_memS hp) _ (getD_memI (i := c) (by omega))
  have h2 := two_le b hb
  have hm := v.m1
  have a1 : 0 ≤ mg * (((2 ^ b : Nat) : Int) - 1) := Int.mul_nonneg (by omega) (by omega)
  have a2 : mg * (((2 ^ b : Nat) : Int) - 1) ≤ 100 * 63 := Int.mul_le_mul hm.2 (by omega) (by omega) (by omega)
  refine ⟨a1, by omega, Int.mul_nonneg a1 (by omega), ?_⟩
  have := Int.mul_le_mul (show mg * (((2 ^ b : Nat) : Int) - 1) ≤ 6300 by omega) hx.2 (by omega) (by omega)
  unfold needP
  omega
theorem tdiv_le {n s : Int} (h0 : 0 ≤ n) (hn : n ≤ 10000000000) (hs : 0 < s) : inI64 (n.tdiv s) := by
  have e : n.tdiv s = n / s := Int.tdiv_eq_ediv_of_nonneg h0
  have h1 : 0 ≤ n / s := Int.ediv_nonneg h0 (by omega)
  have h2 : n / s ≤ n := Int.ediv_le_self s h0
  rw [e]; unfold inI64; omega
theorem F139_eq {sg : List Int} {ns : List (List Int)} {mg mk : Int} {nt : List Int} (v : VT sg ns mg mk nt) {p c b : Nat} (hp : p < ns.length) (hc : c < sg.length) (hb : b < 7) :
    F139 sg.length (sg.map vI) ns.length (ns.map eS) mg mk nt.length (nt.map vI) (p : Int) (c : Int) (b : Int) = some (pwr sg ns mg p c b) := by
  have hr := v.r1 _ (getD_memS hp)
  have hs := v.s1 _ (getD_memI hc)
  obtain ⟨b1, b2, b3, b4⟩ := need_b v hp hc hb
  have h2 := two_le b hb
  have hp1 : (p : Int) < (ns.length : Int) := by omega
  have hc1 : (c : Int) < (sg.length : Int) := by omega
  have hc2 : c < (ns.getD p []).length := by omega
  have hc3 : (c : Int) < ((ns.getD p []).length : Int) := by omega
  have hb0 : ¬ ((b : Int) < 0) := by omega
  have i1 : inI64 (((2 ^ b : Nat) : Int) - 1) := by unfold inI64; omega
  have i2 : inI64 (mg * (((2 ^ b : Nat) : Int) - 1)) := by unfold inI64; omega
  have i3 : inI64 (needP ns mg p c b) := by unfold inI64; omega
  unfold F139 pwr
  rw [res_eq]
  simp only [B139, two_b b hb, sem_br, sem_ask, sem_ret, PC.holds, need_true, Int.toNat_natCast, Nat.mul_one, dN_eS hp, dL_eS hp, atS hp, dI_cel_map, at_map hc, at_map hc2, hp1, hc1, hc3, hb0, not_false_eq_true, i1, i2, Int.natCast_nonneg, List.length_map, Nat.le_of_lt hp, Nat.le_of_lt hc, Nat.le_of_lt hc2]
  rw [show mg * (((2 ^ b : Nat) : Int) - 1) * (ns.getD p []).getD c 0 = needP ns mg p c b from rfl]
  simp only [i3, need_true]
  by_cases h0 : needP ns mg p c b = 0
  · simp only [h0, beq_self_eq_true, if_true, stepO_ret]
  · have e0 : (needP ns mg p c b == 0) = false := by simpa using h0
    simp only [h0, e0, Bool.false_eq_true, if_false]
    by_cases hz : sg.getD c 0 = 0
    · simp only [hz, beq_self_eq_true, if_true, stepO_ret]
    · have ez : (sg.getD c 0 == 0) = false := by simpa using hz
      have j1 : inI64 (needP ns mg p c b + sg.getD c 0) := by unfold inI64; omega
      have j2 : inI64 (needP ns mg p c b + sg.getD c 0 - 1) := by unfold inI64; omega
      have j3 : inI64 ((needP ns mg p c b + sg.getD c 0 - 1).tdiv (sg.getD c 0)) := tdiv_le (by omega) (by omega) (by omega)
      simp only [hz, ez, Bool.false_eq_true, if_false, j1, j2, j3, need_true, ne_eq, not_false_eq_true, stepO_ret]
theorem F124_b : ∀ b < 7, F124 ((b : Nat) : Int) = some (((2 ^ b : Nat) : Int)) := by
  have lp : ∀ (k i b : Nat), b < 7 → b = i + k → res B124 (.c1 (b : Int) (((2 ^ i : Nat) : Int)) (i : Int)) = some (((2 ^ b : Nat) : Int)) := by
    intro k
    induction k with
    | zero =>
      intro i b hb hk
      obtain rfl : b = i := by omega
      rw [res_eq]
      have : ¬ ((b : Int) < (b : Int)) := by omega
      simp only [B124, sem_br, sem_ret, this, decide_false, Bool.false_eq_true, if_false, stepO_ret]
    | succ k ih =>
      intro i b hb hk
      have h1 : (i : Int) < (b : Int) := by omega
      have h2 := two_le i (by omega)
      have i1 : inI64 (2 * ((2 ^ i : Nat) : Int)) := by unfold inI64; omega
      have i2 : inI64 ((i : Int) + 1) := by unfold inI64; omega
      have ih' := ih (i + 1) b hb (by omega)
      rw [res_eq]
      simp only [B124, sem_br, sem_ask, sem_nxt, PC.holds, h1, i1, i2, need_true, decide_true, if_true, stepO_nxt]
      rw [← ih', show (2 : Int) * ((2 ^ i : Nat) : Int) = ((2 ^ (i + 1) : Nat) : Int) by rw [Nat.pow_succ]; omega]
      rfl
  intro b hb
  unfold F124
  rw [res_eq]
  simp only [B124, sem_nxt, stepO_nxt]
  exact lp b 0 b hb (by omega)
theorem F79_eq {sg : List Int} {ns : List (List Int)} {mg mk : Int} {nt : List Int} (v : VT sg ns mg mk nt) {p c b : Nat} (hp : p < ns.length) (hc : c < sg.length) (hb : b < 7) :
    F79 sg.length (sg.map vI) ns.length (ns.map eS) mg mk nt.length (nt.map vI) (p : Int) (c : Int) (b : Int) = some ((pwr sg ns mg p c b).1, whenI (!(pwr sg ns mg p c b).2) 7) := by
  have hr := v.r1 _ (getD_memS hp)
  have hs := v.s1 _ (getD_memI hc)
  obtain ⟨b1, b2, b3, b4⟩ := need_b v hp hc hb
  have h2 := two_le b hb
  have hp1 : (p : Int) < (ns.length : Int) := by omega
  have hc1 : (c : Int) < (sg.length : Int) := by omega
  have hc2 : c < (ns.getD p []).length := by omega
  have hc3 : (c : Int) < ((ns.getD p []).length : Int) := by omega
  have i1 : inI64 (((2 ^ b : Nat) : Int) - 1) := by unfold inI64; omega
  have i2 : inI64 (mg * (((2 ^ b : Nat) : Int) - 1)) := by unfold inI64; omega
  have i3 : inI64 (needP ns mg p c b) := by unfold inI64; omega
  unfold F79 pwr
  rw [res_eq]
  simp only [B79, F124_b b hb, sem_bind_some, sem_sees, sem_br, sem_ask, sem_ret, PC.holds, need_true, Int.toNat_natCast, Nat.mul_one, dN_eS hp, dL_eS hp, atS hp, dI_cel_map, at_map hc, at_map hc2, hp1, hc1, hc3, i1, i2, Int.natCast_nonneg, List.length_map, Nat.le_of_lt hp, Nat.le_of_lt hc, Nat.le_of_lt hc2]
  rw [show mg * (((2 ^ b : Nat) : Int) - 1) * (ns.getD p []).getD c 0 = needP ns mg p c b from rfl]
  simp only [i3, need_true]
  by_cases h0 : needP ns mg p c b = 0
  · simp only [h0, beq_self_eq_true, if_true, stepO_ret, Bool.not_true, whenF]
  · have e0 : (needP ns mg p c b == 0) = false := by simpa using h0
    simp only [h0, e0, Bool.false_eq_true, if_false]
    by_cases hz : sg.getD c 0 = 0
    · simp only [hz, beq_self_eq_true, if_true, stepO_ret, Bool.not_false, whenT]
    · have ez : (sg.getD c 0 == 0) = false := by simpa using hz
      have j1 : inI64 (needP ns mg p c b + sg.getD c 0) := by unfold inI64; omega
      have j2 : inI64 (needP ns mg p c b + sg.getD c 0 - 1) := by unfold inI64; omega
      have j3 : inI64 ((needP ns mg p c b + sg.getD c 0 - 1).tdiv (sg.getD c 0)) := tdiv_le (by omega) (by omega) (by omega)
      simp only [hz, ez, Bool.false_eq_true, if_false, j1, j2, j3, need_true, ne_eq, not_false_eq_true, stepO_ret, Bool.not_true, whenF]
theorem mem_drop {l : List Int} {x : Int} {i : Nat} (hi : i < l.length) : decide (x ∈ l.drop i) = (decide (x = l.getD i 0) || decide (x ∈ l.drop (i + 1))) := by
  rw [dropD 0 hi]
  by_cases h1 : x = l.getD i 0 <;> by_cases h2 : x ∈ l.drop (i + 1) <;> simp [h1, h2]
theorem F158_loop (l : List Int) (x : Int) (hl : l.length ≤ 1025) : ∀ (k i : Nat), l.length = i + k → ∃ r, res B158 (.c1 l.length (l.map vI) x (l.length : Int) (i : Int)) = some r ∧ decide (r ≥ 0) = decide (x ∈ l.drop i)
  | 0, i, hk => by
    have h1 : ¬ ((i : Int) < (l.length : Int)) := by omega
    refine ⟨-1, ?_, ?_⟩
    · rw [res_eq]
      simp only [B158, sem_br, sem_ret, h1, decide_false, Bool.false_eq_true, if_false, stepO_ret]
    · rw [List.drop_of_length_le (by omega)]; rfl
  | k + 1, i, hk => by
    have hi : i < l.length := by omega
    have h1 : (i : Int) < (l.length : Int) := by omega
    have hin : inI64 ((i : Int) + 1) := by unfold inI64; omega
    obtain ⟨r, hr, he⟩ := F158_loop l x hl k (i + 1) (by omega)
    rw [mem_drop hi]
    by_cases hx : x = l.getD i 0
    · refine ⟨(i : Int), ?_, ?_⟩
      · rw [res_eq]
        have hb : (x == l.getD i 0) = true := by simpa using hx
        simp only [B158, sem_br, sem_ask, sem_ret, PC.holds, need_true, Int.toNat_natCast, Nat.mul_one, dI_cel_map, at_map hi, h1, hb, decide_true, if_true, Int.natCast_nonneg, List.length_map, Nat.le_of_lt hi, stepO_ret]
      · have : ((i : Int) ≥ 0) := by omega
        simp only [hx, this, decide_true, Bool.true_or]
    · refine ⟨r, ?_, ?_⟩
      · rw [res_eq]
        have hb : (x == l.getD i 0) = false := by simpa using hx
        simp only [B158, sem_br, sem_ask, sem_nxt, PC.holds, need_true, Int.toNat_natCast, Nat.mul_one, dI_cel_map, at_map hi, h1, hb, hin, decide_true, if_true, Bool.false_eq_true, if_false, Int.natCast_nonneg, List.length_map, Nat.le_of_lt hi, stepO_nxt]
        rw [← hr]; rfl
      · rw [he]; simp only [hx, decide_false, Bool.false_or]
theorem F157_eq (l : List Int) (x : Int) (hl : l.length ≤ 1025) : F157 l.length (l.map vI) x = some (decide (x ∈ l)) := by
  obtain ⟨r, hr, he⟩ := F158_loop l x hl l.length 0 (by omega)
  have h : F158 l.length (l.map vI) x = some r := by
    unfold F158
    rw [res_eq]
    simp only [B158, sem_nxt, stepO_nxt]
    exact hr
  unfold F157
  rw [res_eq]
  simp only [B157, h, sem_bind_some, sem_sees, sem_ret, stepO_ret]
  rw [he, List.drop_zero]
theorem F66_loop (l : List Int) (x : Int) (hl : l.length ≤ 1025) : ∀ (k i : Nat), l.length = i + k → res B66 (.c1 l.length (l.map vI) x (i : Int)) = some (decide (x ∈ l.drop i))
  | 0, i, hk => by
    have h1 : ¬ ((i : Int) < (l.length : Int)) := by omega
    rw [List.drop_of_length_le (by omega), res_eq]
    simp only [B66, sem_br, sem_ret, h1, decide_false, Bool.false_eq_true, if_false, stepO_ret]
    rfl
  | k + 1, i, hk => by
    have hi : i < l.length := by omega
    have h1 : (i : Int) < (l.length : Int) := by omega
    have hin : inI64 ((i : Int) + 1) := by unfold inI64; omega
    have ih := F66_loop l x hl k (i + 1) (by omega)
    rw [mem_drop hi, res_eq]
    by_cases hx : x = l.getD i 0
    · have hb : (l.getD i 0 == x) = true := by simpa using hx.symm
      simp only [B66, sem_br, sem_ask, sem_ret, PC.holds, need_true, Int.toNat_natCast, Nat.mul_one, dI_cel_map, at_map hi, h1, hb, decide_true, if_true, Int.natCast_nonneg, List.length_map, Nat.le_of_lt hi, stepO_ret]
      rw [decide_eq_true hx, Bool.true_or]
    · have hb : (l.getD i 0 == x) = false := by simpa using fun h => hx h.symm
      simp only [B66, sem_br, sem_ask, sem_nxt, PC.holds, need_true, Int.toNat_natCast, Nat.mul_one, dI_cel_map, at_map hi, h1, hb, hin, decide_true, if_true, Bool.false_eq_true, if_false, Int.natCast_nonneg, List.length_map, Nat.le_of_lt hi, stepO_nxt]
      rw [decide_eq_false hx, Bool.false_or, ← ih]; rfl
theorem F66_eq (l : List Int) (x : Int) (hl : l.length ≤ 1025) : F66 l.length (l.map vI) x = some (decide (x ∈ l)) := by
  unfold F66
  rw [res_eq]
  simp only [B66, sem_nxt, stepO_nxt]
  have := F66_loop l x hl l.length 0 (by omega)
  rw [List.drop_zero] at this
  exact this
def crr (ok : Nat → Bool) : Nat → Nat → Nat → Nat
  | 0, _, out => out
  | k + 1, b, out => crr ok k (b + 1) (if ok b then b else out)
theorem crr_congr {f g : Nat → Bool} : ∀ (k b out : Nat), (∀ j, f j = g j) → crr f k b out = crr g k b out
  | 0, _, _, _ => rfl
  | k + 1, b, out, h => by unfold crr; rw [h b]; exact crr_congr k _ _ h
theorem crr_none {f : Nat → Bool} (h : ∀ j, f j = false) : ∀ (k b out : Nat), crr f k b out = out
  | 0, _, _ => rfl
  | k + 1, b, out => by unfold crr; rw [h b]; exact crr_none h k _ _
theorem crr_le {f : Nat → Bool} : ∀ (k b out : Nat), out ≤ 6 → b + k ≤ 7 → crr f k b out ≤ 6
  | 0, _, _, h, _ => h
  | k + 1, b, out, h, hb => by
    unfold crr
    exact crr_le k (b + 1) _ (by split <;> omega) (by omega)
def fit (sg : List Int) (ns : List (List Int)) (mg mk : Int) (p c b : Nat) : Bool := (pwr sg ns mg p c b).2 && decide ((pwr sg ns mg p c b).1 ≤ mk)
def carry (sg : List Int) (ns : List (List Int)) (mg mk : Int) (nt : List Int) (p c : Nat) : Nat := if (c : Int) ∈ nt then 0 else crr (fit sg ns mg mk p c) 6 1 0
section
variable {sg : List Int} {ns : List (List Int)} {mg mk : Int} {nt : List Int}
theorem F142_loop (v : VT sg ns mg mk nt) {p c : Nat} (hp : p < ns.length) (hc : c < sg.length) {g : Nat → Bool} (hg : ∀ j, g j = (fit sg ns mg mk p c j && !decide ((c : Int) ∈ nt))) : ∀ (k b out : Nat), b + k = 7 →
    res B142 (.c1 (p : Int) (c : Int) (out : Int) (b : Int) sg.length (sg.map vI) ns.length (ns.map eS) mg mk nt.length (nt.map vI)) = some ((crr g k b out : Nat) : Int)
  | 0, b, out, hk => by
    have h1 : ¬ ((b : Int) < 7) := by omega
    rw [res_eq]
    simp only [B142, sem_br, sem_ret, h1, decide_false, Bool.false_eq_true, if_false, stepO_ret, crr]
  | k + 1, b, out, hk => by
    have hb : b < 7 := by omega
    have h1 : (b : Int) < 7 := by omega
    have hin : inI64 ((b : Int) + 1) := by unfold inI64; omega
    have ht := v.sh.t
    have ih1 := F142_loop v hp hc hg k (b + 1) b (by omega)
    have ih2 := F142_loop v hp hc hg k (b + 1) out (by omega)
    rw [res_eq]
    unfold crr
    simp only [B142, F139_eq v hp hc hb, F157_eq nt (c : Int) (by omega), sem_bind_some, sem_sees, sem_br, sem_ask, sem_nxt, PC.holds, h1, hin, need_true, decide_true, if_true]
    cases h2 : (pwr sg ns mg p c b).2 with
    | false =>
      have hf : g b = false := by rw [hg]; unfold fit; rw [h2]; rfl
      simp only [hf, Bool.false_eq_true, if_false, stepO_nxt]
      rw [show ((b : Int) + 1) = ((b + 1 : Nat) : Int) from rfl, ih2]
    | true =>
      by_cases h3 : (pwr sg ns mg p c b).1 ≤ mk
      · by_cases h4 : (c : Int) ∈ nt
        · have hf : g b = false := by rw [hg, decide_eq_true h4]; simp
          simp only [hf, h3, h4, decide_true, beq_self_eq_true, if_true, need_true, Bool.not_true, Bool.false_eq_true, if_false, stepO_nxt]
          rw [show ((b : Int) + 1) = ((b + 1 : Nat) : Int) from rfl, ih2]
        · have hf : g b = true := by rw [hg, decide_eq_false h4]; unfold fit; rw [h2, decide_eq_true h3]; rfl
          simp only [hf, h3, h4, decide_true, decide_false, beq_self_eq_true, if_true, need_true, Bool.not_false, stepO_nxt]
          rw [show ((b : Int) + 1) = ((b + 1 : Nat) : Int) from rfl, ih1]
      · have hf : g b = false := by rw [hg]; unfold fit; rw [h2, decide_eq_false h3]; rfl
        simp only [hf, h3, decide_false, beq_self_eq_true, if_true, need_true, Bool.false_eq_true, if_false, stepO_nxt]
        rw [show ((b : Int) + 1) = ((b + 1 : Nat) : Int) from rfl, ih2]
theorem F142_eq (v : VT sg ns mg mk nt) {p c : Nat} (hp : p < ns.length) (hc : c < sg.length) :
    F142 sg.length (sg.map vI) ns.length (ns.map eS) mg mk nt.length (nt.map vI) (p : Int) (c : Int) = some ((carry sg ns mg mk nt p c : Nat) : Int) := by
  unfold F142
  rw [res_eq]
  simp only [B142, sem_nxt, stepO_nxt]
  have := F142_loop v hp hc (g := fun j => fit sg ns mg mk p c j && !decide ((c : Int) ∈ nt)) (fun _ => rfl) 7 0 0 rfl
  rw [show ((0 : Nat) : Int) = 0 from rfl] at this
  rw [this]
  unfold carry
  by_cases h4 : (c : Int) ∈ nt
  · rw [if_pos h4, crr_none (fun j => by simp only [h4, decide_true, Bool.not_true, Bool.and_false])]
  · rw [if_neg h4, crr_congr (g := fit sg ns mg mk p c) _ _ _ (fun j => by simp only [h4, decide_false, Bool.not_false, Bool.and_true])]
    rw [show crr (fit sg ns mg mk p c) 7 0 0 = crr (fit sg ns mg mk p c) 6 1 (if fit sg ns mg mk p c 0 then 0 else 0) from rfl, ite_self]
theorem F141_loop (v : VT sg ns mg mk nt) {p c : Nat} (hp : p < ns.length) (hc : c < sg.length) : ∀ (k b out : Nat), b + k = 7 →
    res B141 (.c1 (p : Int) (c : Int) (out : Int) (b : Int) sg.length (sg.map vI) ns.length (ns.map eS) mg mk nt.length (nt.map vI)) = some ((crr (fit sg ns mg mk p c) k b out : Nat) : Int)
  | 0, b, out, hk => by
    have h1 : ¬ ((b : Int) ≤ 6) := by omega
    rw [res_eq]
    simp only [B141, sem_br, sem_ret, h1, decide_false, Bool.false_eq_true, if_false, stepO_ret, crr]
  | k + 1, b, out, hk => by
    have hb : b < 7 := by omega
    have h1 : (b : Int) ≤ 6 := by omega
    have hin : inI64 ((b : Int) + 1) := by unfold inI64; omega
    have ih1 := F141_loop v hp hc k (b + 1) b (by omega)
    have ih2 := F141_loop v hp hc k (b + 1) out (by omega)
    rw [res_eq]
    unfold crr
    simp only [B141, F79_eq v hp hc hb, sem_bind_some, sem_sees, sem_br, sem_ask, sem_nxt, PC.holds, h1, hin, need_true, decide_true, if_true]
    cases h2 : (pwr sg ns mg p c b).2 with
    | false =>
      have hf : fit sg ns mg mk p c b = false := by unfold fit; rw [h2]; rfl
      simp only [hf, Bool.not_false, whenT, show ((7 : Int) == 0) = false from rfl, Bool.false_eq_true, if_false, stepO_nxt]
      rw [show ((b : Int) + 1) = ((b + 1 : Nat) : Int) from rfl, ih2]
    | true =>
      by_cases h3 : (pwr sg ns mg p c b).1 ≤ mk
      · have hf : fit sg ns mg mk p c b = true := by unfold fit; rw [h2, decide_eq_true h3]; rfl
        simp only [hf, h3, Bool.not_true, whenF, beq_self_eq_true, decide_true, if_true, need_true, stepO_nxt]
        rw [show ((b : Int) + 1) = ((b + 1 : Nat) : Int) from rfl, ih1]
      · have hf : fit sg ns mg mk p c b = false := by unfold fit; rw [h2, decide_eq_false h3]; rfl
        simp only [hf, h3, Bool.not_true, whenF, beq_self_eq_true, decide_false, if_true, need_true, Bool.false_eq_true, if_false, stepO_nxt]
        rw [show ((b : Int) + 1) = ((b + 1 : Nat) : Int) from rfl, ih2]
theorem F141_eq (v : VT sg ns mg mk nt) {p c : Nat} (hp : p < ns.length) (hc : c < sg.length) :
    F141 sg.length (sg.map vI) ns.length (ns.map eS) mg mk nt.length (nt.map vI) (p : Int) (c : Int) = some ((carry sg ns mg mk nt p c : Nat) : Int) := by
  have ht := v.sh.t
  unfold F141 carry
  rw [res_eq]
  simp only [B141, F66_eq nt (c : Int) (by omega), sem_bind_some, sem_sees, sem_br, sem_ret, sem_nxt]
  by_cases h4 : (c : Int) ∈ nt
  · simp only [h4, decide_true, if_true, stepO_ret]; rfl
  · simp only [h4, decide_false, Bool.false_eq_true, if_false, stepO_nxt]
    exact F141_loop v hp hc 6 1 0 rfl
end
end Go.Kv
