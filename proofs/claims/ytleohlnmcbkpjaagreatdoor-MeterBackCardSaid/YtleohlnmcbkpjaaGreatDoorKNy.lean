import Derived.Test.YtleohlnmcbkpjaaGreatDoorGM4
namespace Go.Kv
set_option linter.all false
open Go Go.RowKit Go.Proofs
set_option maxRecDepth 100000
section
open Go Go.RowKit
theorem eqS_iff {a b : ByteArray} : eqS a b = true ↔ a = b := by
  unfold eqS
  rw [beq_iff_eq, ByteArray.toList_eq, ByteArray.toList_eq]
  exact ⟨fun h => ByteArray.ext (Array.toList_inj.1 h), fun h => by rw [h]⟩
theorem eqS_data {a b : ByteArray} : eqS a b = decide (a.data.toList = b.data.toList) := by
  rw [Bool.eq_iff_iff, eqS_iff, decide_eq_true_iff]
  exact ⟨fun h => by rw [h], fun h => ByteArray.ext (Array.toList_inj.1 h)⟩
theorem wrap32 {n : Int} (h : 0 ≤ n ∧ n ≤ 1000000) : IntKind.i32.wrap n = n := by rw [IntKind.wrap_i32]; omega
theorem wrap64 {n : Int} (h : 0 ≤ n ∧ n ≤ 1000000000000) : IntKind.i64.wrap n = n := wrap_in (by unfold inI64; omega)
def bt (s : ByteArray) (i : Nat) : Nat := (s.data.toList.getD i 0).toNat
theorem bt_get {s : ByteArray} {i : Nat} (hi : i < s.size) : (s.get! i).toNat = bt s i := by
  unfold bt
  have h2 : i < s.data.toList.length := by simpa using hi
  have : s.get! i = s.data.toList[i] := by
    have : s.get! i = s.data[i]! := rfl
    rw [this, getElem!_pos s.data i hi]; simp
  rw [this, List.getD_eq_getElem?_getD, List.getElem?_eq_getElem h2]; rfl
theorem dec_lo {s : ByteArray} {i : Nat} (hi : i < s.size) (h : bt s i < 128) : Utf8.decode s i = (bt s i, 1) := by
  unfold Utf8.decode
  simp only [Nat.add_zero, bt_get hi]
  rw [if_pos h]
theorem dec_hi {s : ByteArray} {i : Nat} (hi : i < s.size) (h : ¬ bt s i < 128) : 128 ≤ (Utf8.decode s i).1 := by
  unfold Utf8.decode
  simp only [Nat.add_zero, bt_get hi]
  rw [if_neg h]
  have he : 128 ≤ Utf8.runeError := by decide
  repeat' split
  all_goals first | exact he | (rename_i hc; first | (simp only [Bool.and_eq_true, decide_eq_true_eq] at hc; omega) | omega) | skip
  all_goals (simp only; omega)
def isD (b : UInt8) : Bool := decide (48 ≤ b.toNat) && decide (b.toNat ≤ 57)
def dvL : List UInt8 → Nat → Nat
  | [], n => n
  | b :: l, n => dvL l (10 * n + b.toNat % 48)
def hdD (l : List UInt8) : Bool := decide (l = [48]) || (!l.isEmpty && l.getD 0 0 != 48)
def okD (l : List UInt8) : Bool := l.all isD && decide (l.length ≤ 9) && hdD l
theorem drop_bt {s : ByteArray} {i : Nat} (hi : i < s.size) : s.data.toList.drop i = s.data.toList.getD i 0 :: s.data.toList.drop (i + 1) := by
  have h2 : i < s.data.toList.length := by simpa using hi
  rw [List.drop_eq_getElem_cons h2, List.getD_eq_getElem?_getD, List.getElem?_eq_getElem h2]; rfl
theorem pow9 {k : Nat} (h : k ≤ 9) : 10 ^ k ≤ 1000000000 := by
  have := Nat.pow_le_pow_right (n := 10) (by decide) h
  simpa using this
theorem hd_prog {s : ByteArray} : (if eqS s (ByteArray.mk #[48]) = true then true else if (!eqS s (ByteArray.mk #[])) = true then ((s.data.toList.getD 0 0).toNat : Int) != 48 else false) = hdD s.data.toList := by
  unfold hdD
  rw [eqS_data, eqS_data]
  show (if decide (s.data.toList = [48]) = true then true else if (!decide (s.data.toList = [])) = true then ((s.data.toList.getD 0 0).toNat : Int) != 48 else false) = _
  generalize s.data.toList = l
  cases l with
  | nil => simp
  | cons b l =>
    by_cases h : b :: l = [48]
    · simp [h]
    · simp only [h, decide_false, Bool.false_eq_true, if_false, List.cons_ne_nil, Bool.not_false, if_true, List.isEmpty_cons, Bool.true_and, Bool.false_or]
      show ((b.toNat : Int) != 48) = (b != 48)
      rw [Bool.eq_iff_iff, bne_iff_ne, bne_iff_ne]
      constructor
      · intro h e; subst e; exact h rfl
      · intro h e
        apply h
        apply UInt8.toNat_inj.1
        show b.toNat = 48
        omega
theorem F74_loop (s : ByteArray) (h9 : s.size ≤ 9) : ∀ (k i acc : Nat), s.size = i + k → acc < 10 ^ i →
    res B74 (.c1 s (acc : Int) i) = some (if (s.data.toList.drop i).all isD = true then ((dvL (s.data.toList.drop i) acc : Int), hdD s.data.toList) else (0, false)) := by
  intro k
  induction k with
  | zero =>
    intro i acc hk h0
    have h1 : i.blt s.size = false := by
      rw [Bool.eq_false_iff]; intro h; rw [Nat.blt_eq] at h; omega
    have h2 : s.size ≤ i := by omega
    rw [res_eq, List.drop_eq_nil_of_le (by simpa using h2), ← hd_prog]
    simp only [B74, sem_br, sem_triv, sem_ask, sem_ret, PC.holds, h1, h2, need_true, Bool.false_eq_true, if_false, List.all_nil, if_true, dvL]
    by_cases e1 : eqS s (ByteArray.mk #[48]) = true
    · simp [e1, need_true, stepO_ret]
    · have e1 : eqS s (ByteArray.mk #[48]) = false := by simpa using e1
      by_cases e2 : eqS s (ByteArray.mk #[]) = true
      · simp [e1, e2, need_true, stepO_ret]
      · have e2 : eqS s (ByteArray.mk #[]) = false := by simpa using e2
        have hs : 0 < s.size := by
          rcases Nat.eq_zero_or_pos s.size with h | h
          · exfalso
            have : s = ByteArray.mk #[] := ByteArray.ext (Array.eq_empty_of_size_eq_zero h)
            rw [this] at e2
            exact absurd e2 (by rw [eqS_iff.2 rfl]; decide)
          · exact h
        simp [e1, e2, hs, need_true, stepO_ret]
  | succ k IH =>
    intro i acc hk ha
    have hi : i < s.size := by omega
    have h1 : i.blt s.size = true := by rw [Nat.blt_eq]; exact hi
    have h99 : ¬ ((s.size : Int) > 9) := by omega
    have hp := pow9 (k := i) (by omega)
    rw [res_eq, drop_bt hi, List.all_cons]
    have hbt : (s.data.toList.getD i 0).toNat = bt s i := rfl
    by_cases h8 : bt s i < 128
    · by_cases hd : 48 ≤ bt s i ∧ bt s i ≤ 57
      · have ih := IH (i + 1) (10 * acc + bt s i % 48) (by omega) (by rw [Nat.pow_succ]; omega)
        have hD : isD (s.data.toList.getD i 0) = true := by unfold isD; rw [hbt]; simp [hd]
        have l1 : ¬ ((bt s i : Int) < 48) := by omega
        have l2 : ¬ ((bt s i : Int) > 57) := by omega
        have w1 : IntKind.i32.wrap ((bt s i : Int) - 48) = ((bt s i % 48 : Nat) : Int) := by rw [wrap32 (by omega)]; omega
        have w2 : IntKind.i64.wrap ((bt s i % 48 : Nat) : Int) = ((bt s i % 48 : Nat) : Int) := wrap64 (by omega)
        have i1 : inI64 (10 * (acc : Int)) := by unfold inI64; omega
        have i2 : inI64 (10 * (acc : Int) + ((bt s i % 48 : Nat) : Int)) := by unfold inI64; omega
        have e3 : 10 * (acc : Int) + ((bt s i % 48 : Nat) : Int) = ((10 * acc + bt s i % 48 : Nat) : Int) := by omega
        simp only [B74, dec_lo hi h8, h1, hi, hD, l1, l2, h99, w1, w2, i1, i2, decide_false, Bool.false_eq_true, if_false, Bool.true_and, sem_br, sem_ask, sem_triv, sem_nxt, PC.holds, need_true, if_true, stepO_nxt]
        rw [e3, ih]
        rfl
      · have hD : isD (s.data.toList.getD i 0) = false := by
          unfold isD; rw [hbt, Bool.and_eq_false_iff]; simp only [decide_eq_false_iff_not]; omega
        have hor : (if (if decide ((bt s i : Int) < 48) = true then true else decide ((bt s i : Int) > 57)) = true then true else decide ((s.size : Int) > 9)) = true := by
          by_cases l1 : (bt s i : Int) < 48
          · simp [l1]
          · have l2 : (bt s i : Int) > 57 := by omega
            simp [l2]
        simp only [B74, dec_lo hi h8, h1, hi, hD, hor, Bool.false_and, Bool.false_eq_true, if_false, sem_br, sem_ask, sem_triv, sem_ret, PC.holds, need_true, if_true, stepO_ret]
    · have hx := dec_hi hi h8
      have hD : isD (s.data.toList.getD i 0) = false := by
        unfold isD; rw [hbt, Bool.and_eq_false_iff]; simp only [decide_eq_false_iff_not]; omega
      have hor : (if (if decide (((Utf8.decode s i).1 : Int) < 48) = true then true else decide (((Utf8.decode s i).1 : Int) > 57)) = true then true else decide ((s.size : Int) > 9)) = true := by
        have l2 : ((Utf8.decode s i).1 : Int) > 57 := by omega
        simp [l2]
      simp only [B74, h1, hi, hD, hor, Bool.false_and, Bool.false_eq_true, if_false, sem_br, sem_ask, sem_triv, sem_ret, PC.holds, need_true, if_true, stepO_ret]
theorem okD_nil (s : ByteArray) : okD s.data.toList = (s.data.toList.all isD && decide (s.size ≤ 9) && hdD s.data.toList) := by
  unfold okD; rw [show s.data.toList.length = s.size by simp]
theorem F74_eq (s : ByteArray) : F74 s = some (if s.data.toList.all isD = true ∧ s.size ≤ 9 then ((dvL s.data.toList 0 : Int), hdD s.data.toList) else (0, false)) := by
  unfold F74; rw [res_eq]
  simp only [B74, sem_nxt, stepO_nxt]
  by_cases h9 : s.size ≤ 9
  · have := F74_loop s h9 s.size 0 0 (by omega) (by decide)
    rw [List.drop_zero] at this
    refine Eq.trans this ?_
    simp [h9]
  · have hi : 0 < s.size := by omega
    have h1 : Nat.blt 0 s.size = true := by rw [Nat.blt_eq]; exact hi
    have hor : (if (if decide (((Utf8.decode s 0).1 : Int) < 48) = true then true else decide (((Utf8.decode s 0).1 : Int) > 57)) = true then true else decide ((s.size : Int) > 9)) = true := by
      have : (s.size : Int) > 9 := by omega
      simp [this]
    rw [res_eq]
    simp only [B74, h1, hi, hor, sem_br, sem_ask, sem_triv, sem_ret, PC.holds, need_true, if_true, stepO_ret]
    simp [h9]
theorem F74_ok {s : ByteArray} (h : okD s.data.toList = true) : F74 s = some ((dvL s.data.toList 0 : Int), true) := by
  rw [okD_nil, Bool.and_eq_true, Bool.and_eq_true, decide_eq_true_eq] at h
  rw [F74_eq, if_pos ⟨h.1.1, h.1.2⟩, h.2]
theorem F74_bad {s : ByteArray} (h : okD s.data.toList = false) : ∃ x, F74 s = some (x, false) := by
  rw [F74_eq]
  split
  · rename_i hh
    rw [okD_nil, hh.1] at h
    simp [hh.2] at h
    exact ⟨_, by rw [h]⟩
  · exact ⟨_, rfl⟩
end
section
open Go Go.RowKit
end
section
open Go Go.RowKit
def ba (l : List UInt8) : ByteArray := ⟨l.toArray⟩
theorem ba_data (l : List UInt8) : (ba l).data.toList = l := by simp [ba]
theorem ba_size (l : List UInt8) : (ba l).size = l.length := by
  show l.toArray.size = l.length
  simp
theorem ba_of (s : ByteArray) : ba s.data.toList = s := by
  unfold ba; exact ByteArray.ext (by simp)
theorem ba_app (a b : List UInt8) : ba a ++ ba b = ba (a ++ b) := by
  apply ByteArray.ext
  apply Array.toList_inj.1
  rw [ByteArray.data_append, Array.toList_append, ba_data, ba_data, ba_data]
theorem ba_inj {a b : List UInt8} : ba a = ba b ↔ a = b := ⟨fun h => by rw [← ba_data a, h, ba_data], fun h => by rw [h]⟩
theorem F32_eq {n : Nat} (h : n ≤ 999999) : F32 (n : Int) = some (ba (Lib.decDigits n)) := by
  unfold F32
  rw [if_pos (by omega)]
  unfold Lib.itoa
  rw [if_neg (by omega)]; rfl
end
section
open Go Go.RowKit
def sD (l : List UInt8) : DV := .v (.string (ba l))
theorem beq_byte (x c : UInt8) : ((x.toNat : Int) == (c.toNat : Int)) = decide (x = c) := by
  rw [Bool.eq_iff_iff, beq_iff_eq, decide_eq_true_iff]
  constructor
  · intro h; apply UInt8.toNat_inj.1; omega
  · intro h; rw [h]
theorem ext_ba (s : ByteArray) (a b : Nat) : s.extract a b = ba ((s.data.toList.take b).drop a) := by
  rw [← ext_to, ba_of]
theorem cur_next {l : List UInt8} {i fr : Nat} (hi : i < l.length) (hf : fr ≤ i) : (l.take (i + 1)).drop fr = (l.take i).drop fr ++ [l.getD i 0] := by
  rw [List.take_succ_eq_append_getElem hi, List.drop_append_of_le_length (by rw [List.length_take]; omega)]
  simp [List.getD_eq_getElem?_getD, hi]
theorem cur_nil {l : List UInt8} {i : Nat} : (l.take i).drop i = [] := List.drop_eq_nil_of_le (by simp; omega)
theorem F13_c2 (s : ByteArray) (c : UInt8) (h5 : s.size ≤ 5000) : ∀ (k i fr n e : Nat) (ds : List DV), s.size = i + k → fr ≤ i → n ≤ i →
    res B13 (.c2 s (c.toNat : Int) e n ds (fr : Int) (i : Int) e) = some (n + (spl c ((s.data.toList.take i).drop fr) (s.data.toList.drop i)).length, ds ++ (spl c ((s.data.toList.take i).drop fr) (s.data.toList.drop i)).map sD) := by
  intro k
  have hl : s.data.toList.length = s.size := by simp
  induction k with
  | zero =>
    intro i fr n e ds hk hf hn
    have h1 : ¬ ((i : Int) < (s.size : Int)) := by omega
    have hfi : fitsN (n + 1) 16 := ⟨by omega, by omega⟩
    have q1 : (fr : Int) ≤ (s.size : Int) := by omega
    have hd : s.data.toList.drop i = [] := List.drop_eq_nil_of_le (by omega)
    rw [res_eq, hd]
    simp only [B13, sem_br, sem_ask, sem_ret, PC.holds, need_true, h1, hfi, q1, Int.natCast_nonneg, Int.le_refl, decide_false, Bool.false_eq_true, if_false, stepO_ret, Int.toNat_natCast, spl, List.length_singleton, List.map_cons, List.map_nil]
    rw [ext_ba, show i = s.size by omega]
    rfl
  | succ k IH =>
    intro i fr n e ds hk hf hn
    have hi : i < s.size := by omega
    have h1 : (i : Int) < (s.size : Int) := by omega
    have hin : inI64 ((i : Int) + 1) := by unfold inI64; omega
    have ei : (i : Int) + 1 = ((i + 1 : Nat) : Int) := by omega
    rw [res_eq, drop_bt hi, spl]
    by_cases hc : s.data.toList.getD i 0 = c
    · have ih := IH (i + 1) (i + 1) (n + 1) (e + 1) (ds ++ [sD ((s.data.toList.take i).drop fr)]) (by omega) (by omega) (by omega)
      have hfi : fitsN (n + 1) 16 := ⟨by omega, by omega⟩
      have q1 : (fr : Int) ≤ (i : Int) := by omega
      have q2 : (i : Int) ≤ (s.size : Int) := by omega
      rw [cur_nil] at ih
      simp only [B13, sem_br, sem_ask, sem_nxt, PC.holds, need_true, beq_byte, Int.toNat_natCast, hc, h1, hi, hin, hfi, q1, q2, Int.natCast_nonneg, decide_true, if_true, stepO_nxt]
      rw [ei, show DV.v (Value.string (s.extract fr i)) = sD ((s.data.toList.take i).drop fr) by rw [ext_ba]; rfl, ih]
      simp only [List.length_cons, List.map_cons, List.append_assoc, List.singleton_append, Option.some.injEq, Prod.mk.injEq, and_true]
      omega
    · have ih := IH (i + 1) fr n e ds (by omega) (by omega) (by omega)
      rw [cur_next (by omega) hf] at ih
      simp only [B13, sem_br, sem_ask, sem_nxt, PC.holds, need_true, beq_byte, Int.toNat_natCast, hc, h1, hi, hin, Int.natCast_nonneg, decide_true, decide_false, Bool.false_eq_true, if_true, if_false, stepO_nxt]
      rw [ei, ih]
theorem F13_c1 (s : ByteArray) (c : UInt8) (h5 : s.size ≤ 5000) : ∀ (k i : Nat), s.size = i + k →
    res B13 (.c1 s (c.toNat : Int) 0 (i : Int)) = some ((spl c (s.data.toList.take i) (s.data.toList.drop i)).length, (spl c (s.data.toList.take i) (s.data.toList.drop i)).map sD) := by
  intro k
  have hl : s.data.toList.length = s.size := by simp
  induction k with
  | zero =>
    intro i hk
    have h1 : ¬ ((i : Int) < (s.size : Int)) := by omega
    have q1 : (0 : Int) ≤ (s.size : Int) := by omega
    have hd : s.data.toList.drop i = [] := List.drop_eq_nil_of_le (by omega)
    rw [res_eq, hd]
    simp only [B13, sem_br, sem_ask, sem_ret, PC.holds, need_true, h1, q1, Int.le_refl, decide_false, Bool.false_eq_true, if_false, stepO_ret, Int.toNat_natCast, Int.toNat_zero, spl, List.length_singleton, List.map_cons, List.map_nil]
    rw [ext_ba, show i = s.size by omega]
    rfl
  | succ k IH =>
    intro i hk
    have hi : i < s.size := by omega
    have h1 : (i : Int) < (s.size : Int) := by omega
    have hin : inI64 ((i : Int) + 1) := by unfold inI64; omega
    have ei : (i : Int) + 1 = ((i + 1 : Nat) : Int) := by omega
    rw [res_eq, drop_bt hi, spl]
    by_cases hc : s.data.toList.getD i 0 = c
    · have ih := F13_c2 s c h5 k (i + 1) (i + 1) 1 0 [sD (s.data.toList.take i)] (by omega) (by omega) (by omega)
      have q2 : (i : Int) ≤ (s.size : Int) := by omega
      rw [cur_nil] at ih
      simp only [B13, sem_br, sem_ask, sem_nxt, PC.holds, need_true, beq_byte, Int.toNat_natCast, Int.toNat_zero, hc, h1, hi, hin, q2, Int.natCast_nonneg, Int.le_refl, decide_true, if_true, stepO_nxt]
      rw [ei, show (Value.string (s.extract 0 i)) = Value.string (ba (s.data.toList.take i)) by rw [ext_ba]; rfl]
      refine Eq.trans ih ?_
      simp only [List.length_cons, List.map_cons, List.singleton_append, Option.some.injEq, Prod.mk.injEq, and_true]
      omega
    · have ih := IH (i + 1) (by omega)
      have e1 := cur_next (l := s.data.toList) (fr := 0) (i := i) (by omega) (by omega)
      rw [List.drop_zero, List.drop_zero] at e1
      rw [e1] at ih
      simp only [B13, sem_br, sem_ask, sem_nxt, PC.holds, need_true, beq_byte, Int.toNat_natCast, hc, h1, hi, hin, Int.natCast_nonneg, decide_true, decide_false, Bool.false_eq_true, if_true, if_false, stepO_nxt]
      rw [ei, ih]
theorem F13_eq (s : ByteArray) (c : UInt8) (h5 : s.size ≤ 5000) : F13 s (c.toNat : Int) = some ((spl c [] s.data.toList).length, (spl c [] s.data.toList).map sD) := by
  unfold F13; rw [res_eq]
  simp only [B13, sem_nxt, stepO_nxt]
  have := F13_c1 s c h5 s.size 0 (by omega)
  rw [List.take_zero, List.drop_zero] at this
  exact this
theorem map_ba : ∀ (bs : List ByteArray), bs.map strD = (bs.map (·.data.toList)).map sD
  | [] => rfl
  | b :: bs => by
    rw [List.map_cons, List.map_cons, List.map_cons, map_ba bs]
    unfold strD sD; rw [ba_of]
theorem countB_eq (s : ByteArray) (c : UInt8) : Lib.countB s ⟨#[c]⟩ = s.data.toList.count c := Lib.count_one c _
theorem F35_eq (s : ByteArray) (c : UInt8) (h5 : s.size ≤ 5000) : F35 s ⟨#[c]⟩ = some ((spl c [] s.data.toList).length, (spl c [] s.data.toList).map sD) := by
  unfold F35
  rw [if_pos ⟨by omega, rfl⟩]
  show some ((splitS c s).length, (splitS c s).map strD) = _
  have e := splitB_one c (Lib.countB s ⟨#[c]⟩) s (by rw [countB_eq]; exact Nat.le_refl _)
  have e2 : (splitS c s).map (·.data.toList) = spl c [] s.data.toList := e
  rw [map_ba, e2, ← e2, List.length_map]
end
section
open Go Go.RowKit
def firstI : List Int → Int
  | [] => 0
  | x :: xs => if x = 0 then firstI xs else x
def rangeI (n a b : Int) : Int := if n < a ∨ n > b then 3 else 0
theorem dI_cel_map (l : List Int) (i : Nat) : dI (cel (l.map vI) i) = l.getD i 0 := by
  unfold cel
  simp only [List.getD_eq_getElem?_getD, List.getElem?_map]
  cases l[i]? <;> rfl
theorem at_map {l : List Int} {i : Nat} (h : i < l.length) : Option.map AV.d (List.drop i (l.map vI))[0]? = some (AV.d (vI (l.getD i 0))) := by
  simp [List.getElem?_drop, h, List.getD_eq_getElem?_getD]
theorem dropD {α : Type} {l : List α} {i : Nat} (d : α) (h : i < l.length) : l.drop i = l.getD i d :: l.drop (i + 1) := by
  rw [List.drop_eq_getElem_cons h]; simp [List.getD_eq_getElem?_getD, h]
theorem firstI_drop {l : List Int} {i : Nat} (h : i < l.length) : firstI (l.drop i) = if l.getD i 0 = 0 then firstI (l.drop (i + 1)) else l.getD i 0 := by
  rw [dropD 0 h]; rfl
theorem F37_loop (l : List Int) (hl : l.length ≤ 100) : ∀ (k i : Nat), l.length = i + k → res B37 (.c1 l.length (l.map vI) (l.length : Int) (i : Int)) = some (firstI (l.drop i)) := by
  intro k
  induction k with
  | zero =>
    intro i hk
    rw [List.drop_eq_nil_of_le (by omega), res_eq]
    have : ¬ ((i : Int) < (l.length : Int)) := by omega
    simp [B37, sem_br, sem_ret, this, stepO_ret, firstI]
  | succ k IH =>
    intro i hk
    have hi : i < l.length := by omega
    have h1 : (i : Int) < (l.length : Int) := by omega
    have hin : inI64 ((i : Int) + 1) := by unfold inI64; omega
    have ih := IH (i + 1) (by omega)
    rw [firstI_drop hi, res_eq]
    simp only [B37, sem_br, sem_ask, sem_ret, sem_nxt, PC.holds, need_true, Int.toNat_natCast, Nat.mul_one, dI_cel_map, at_map hi, h1, hin, decide_true, if_true, Int.natCast_nonneg, List.length_map, Nat.le_of_lt hi]
    by_cases hz : l.getD i 0 = 0
    · simp only [hz, bne_self_eq_false, Bool.false_eq_true, if_false, if_true, need_true, sem_nxt, stepO_nxt]
      rw [show ((i : Int) + 1) = ((i + 1 : Nat) : Int) by omega, ih]
    · simp only [bne_iff_ne.2 hz, hz, if_true, if_false, stepO_ret]
theorem F37_eq (l : List Int) (hl : l.length ≤ 100) : F37 l.length (l.map vI) = some (firstI l) := by
  unfold F37; rw [res_eq]
  simp only [B37, sem_nxt, stepO_nxt]
  exact F37_loop l hl l.length 0 (by omega)
theorem F39_loop (l : List Int) (hl : l.length ≤ 100) : ∀ (k i : Nat), l.length = i + k → res B39 (.c1 l.length (l.map vI) (i : Int)) = some (firstI (l.drop i)) := by
  intro k
  induction k with
  | zero =>
    intro i hk
    rw [List.drop_eq_nil_of_le (by omega), res_eq]
    have : ¬ ((i : Int) < (l.length : Int)) := by omega
    simp [B39, sem_br, sem_ret, this, stepO_ret, firstI]
  | succ k IH =>
    intro i hk
    have hi : i < l.length := by omega
    have h1 : (i : Int) < (l.length : Int) := by omega
    have hin : inI64 ((i : Int) + 1) := by unfold inI64; omega
    have ih := IH (i + 1) (by omega)
    rw [firstI_drop hi, res_eq]
    simp only [B39, sem_br, sem_ask, sem_ret, sem_nxt, PC.holds, need_true, Int.toNat_natCast, Nat.mul_one, dI_cel_map, at_map hi, h1, hin, decide_true, if_true, Int.natCast_nonneg, List.length_map, Nat.le_of_lt hi]
    by_cases hz : l.getD i 0 = 0
    · simp only [hz, bne_self_eq_false, Bool.false_eq_true, if_false, if_true, need_true, sem_nxt, stepO_nxt]
      rw [show ((i : Int) + 1) = ((i + 1 : Nat) : Int) by omega, ih]
    · simp only [bne_iff_ne.2 hz, hz, if_true, if_false, stepO_ret]
theorem F39_eq (l : List Int) (hl : l.length ≤ 100) : F39 l.length (l.map vI) = some (firstI l) := by
  unfold F39; rw [res_eq]
  simp only [B39, sem_nxt, stepO_nxt]
  exact F39_loop l hl l.length 0 (by omega)
theorem F38_eq (b : Bool) (e : Int) : F38 b e = some (if b = true then e else 0) := by
  unfold F38; rw [res_eq]
  cases b <;> simp [B38, sem_br, sem_ret, stepO_ret]
theorem F75_eq (b : Bool) (e : Int) : F75 b e = some (if b = true then e else 0) := by
  unfold F75; rw [res_eq]
  cases b <;> simp [B75, sem_br, sem_ret, stepO_ret]
theorem rng (n a b : Int) : (if (if decide (n < a) = true then true else decide (n > b)) = true then (3 : Int) else 0) = rangeI n a b := by
  unfold rangeI
  by_cases h1 : n < a <;> by_cases h2 : n > b <;> simp [h1, h2]
theorem F60_eq (n a b : Int) : F60 n a b = some (rangeI n a b) := by
  unfold F60; rw [res_eq]
  simp only [B60, F38_eq, sem_triv, sem_bind_some, sem_sees, sem_ret, stepO_ret, rng]
theorem F40_eq (n a b : Int) : F40 n a b = some (rangeI n a b) := by
  unfold F40; rw [res_eq]
  simp only [B40, F75_eq, sem_triv, sem_bind_some, sem_sees, sem_ret, stepO_ret, rng]
def regE (u r : Int) : Int := firstI [rangeI u 0 999999, rangeI r 0 999999]
theorem F54_eq (u r : Int) : F54 u r = some (regE u r) := by
  unfold F54; rw [res_eq]
  have h := F37_eq [rangeI u 0 999999, rangeI r 0 999999] (by simp)
  simp only [List.length_cons, List.length_nil, List.map_cons, List.map_nil, Nat.zero_add, Nat.reduceAdd] at h
  simp only [B54, F60_eq, h, sem_triv, sem_bind_some, sem_sees, sem_ret, stepO_ret, regE]
def chk (a0 a1 a2 a3 a4 a5 a6 a7 a8 a9 a10 a11 : Int) : Int := firstI [regE a0 a1, regE a2 a3, regE a4 a5, regE a6 a7, regE a8 a9, regE a10 a11]
theorem F31_eq (a0 a1 a2 a3 a4 a5 a6 a7 a8 a9 a10 a11 : Int) : F31 a0 a1 a2 a3 a4 a5 a6 a7 a8 a9 a10 a11 = some (chk a0 a1 a2 a3 a4 a5 a6 a7 a8 a9 a10 a11) := by
  unfold F31; rw [res_eq]
  have h := F37_eq [regE a0 a1, regE a2 a3, regE a4 a5, regE a6 a7, regE a8 a9, regE a10 a11] (by simp)
  simp only [List.length_cons, List.length_nil, List.map_cons, List.map_nil, Nat.zero_add, Nat.reduceAdd] at h
  simp only [B31, F54_eq, h, sem_triv, sem_bind_some, sem_sees, sem_ret, stepO_ret, chk]
theorem F39_2 (u r : Int) : F39 2 [vI (rangeI u 0 999999), vI (rangeI r 0 999999)] = some (regE u r) := by
  have h := F39_eq [rangeI u 0 999999, rangeI r 0 999999] (by simp)
  simp only [List.length_cons, List.length_nil, List.map_cons, List.map_nil, Nat.zero_add, Nat.reduceAdd] at h
  exact h
theorem F9_eq (a0 a1 a2 a3 a4 a5 a6 a7 a8 a9 a10 a11 : Int) : F9 a0 a1 a2 a3 a4 a5 a6 a7 a8 a9 a10 a11 = some (chk a0 a1 a2 a3 a4 a5 a6 a7 a8 a9 a10 a11) := by
  unfold F9; rw [res_eq]
  simp only [B9, F40_eq, F39_2, sem_triv, sem_bind_some, sem_sees, sem_br, sem_ret, chk, firstI]
  by_cases h0 : regE a0 a1 = 0 <;> simp only [h0, bne_self_eq_false, bne_iff_ne.2, ne_eq, not_false_iff, Bool.false_eq_true, if_false, if_true, stepO_ret]
  by_cases h1 : regE a2 a3 = 0 <;> simp only [h1, bne_self_eq_false, bne_iff_ne.2, ne_eq, not_false_iff, Bool.false_eq_true, if_false, if_true, stepO_ret]
  by_cases h2 : regE a4 a5 = 0 <;> simp only [h2, bne_self_eq_false, bne_iff_ne.2, ne_eq, not_false_iff, Bool.false_eq_true, if_false, if_true, stepO_ret]
  by_cases h3 : regE a6 a7 = 0 <;> simp only [h3, bne_self_eq_false, bne_iff_ne.2, ne_eq, not_false_iff, Bool.false_eq_true, if_false, if_true, stepO_ret]
  by_cases h4 : regE a8 a9 = 0 <;> simp only [h4, bne_self_eq_false, bne_iff_ne.2, ne_eq, not_false_iff, Bool.false_eq_true, if_false, if_true, stepO_ret]
  by_cases h5 : regE a10 a11 = 0 <;> simp only [h5, bne_self_eq_false, bne_iff_ne.2, ne_eq, not_false_iff, Bool.false_eq_true, if_false, if_true, stepO_ret]
end
section
open Go Go.RowKit
theorem F71_eq (s : ByteArray) : F71 s 10 = some (Lib.indexByte s.data.toList 10) := by
  have h : F85 s 10 = some (Lib.indexByte s.data.toList 10) := rfl
  unfold F71; rw [res_eq]
  simp only [B71, h, sem_bind_some, sem_sees, sem_ret, stepO_ret]
theorem F86_yes (q : List UInt8) (h : q.length ≤ 5000) : F86 (ba (q ++ [10])) (ByteArray.mk #[10]) = some true := by
  unfold F86; rw [res_eq]
  have hs : (ba (q ++ [10])).size = q.length + 1 := by rw [ba_size]; simp
  have h1 : (ByteArray.mk #[10]).size = 1 := rfl
  have c1 : ((q.length + 1 : Nat) : Int) ≥ ((1 : Nat) : Int) := by omega
  have e1 : ((q.length + 1 : Nat) : Int) - ((1 : Nat) : Int) = (q.length : Int) := by omega
  have i1 : inI64 (q.length : Int) := by unfold inI64; omega
  have l1 : (q.length : Int) ≤ ((q.length + 1 : Nat) : Int) := by omega
  have e2 : (ba (q ++ [10])).extract q.length (q.length + 1) = ByteArray.mk #[10] := by
    rw [ext_ba, ba_data, List.take_of_length_le (by simp), List.drop_left]; rfl
  simp only [B86, hs, h1, c1, e1, i1, l1, e2, decide_true, BEq.rfl, if_true, sem_br, sem_triv, sem_ask, sem_ret, PC.holds, need_true, Int.natCast_nonneg, Int.le_refl, Int.toNat_natCast, stepO_ret]
  rw [eqS_iff.2 rfl]
theorem F86_no (r : List UInt8) (h : r.length ≤ 5000) (hn : 10 ∉ r) : F86 (ba r) (ByteArray.mk #[10]) = some false := by
  unfold F86; rw [res_eq]
  have hs : (ba r).size = r.length := ba_size r
  have h1 : (ByteArray.mk #[10]).size = 1 := rfl
  by_cases h0 : r.length = 0
  · have c1 : ¬ (((r.length : Nat) : Int) ≥ ((1 : Nat) : Int)) := by omega
    simp only [B86, hs, h1, c1, decide_false, Bool.false_eq_true, if_false, sem_br, sem_triv, sem_ask, sem_ret, stepO_ret]
  · have c1 : ((r.length : Nat) : Int) ≥ ((1 : Nat) : Int) := by omega
    have e1 : ((r.length : Nat) : Int) - ((1 : Nat) : Int) = ((r.length - 1 : Nat) : Int) := by omega
    have i1 : inI64 ((r.length - 1 : Nat) : Int) := by unfold inI64; omega
    have l1 : ((r.length - 1 : Nat) : Int) ≤ ((r.length : Nat) : Int) := by omega
    have e2 : eqS ((ba r).extract (r.length - 1) r.length) (ByteArray.mk #[10]) = false := by
      rw [ext_ba, ba_data, List.take_length, Bool.eq_false_iff]
      intro he
      rw [eqS_iff] at he
      have : r.drop (r.length - 1) = [10] := ba_inj.1 he
      exact hn (List.mem_of_mem_drop (i := r.length - 1) (by rw [this]; simp))
    simp only [B86, hs, h1, c1, e1, i1, l1, e2, decide_true, BEq.rfl, if_true, sem_br, sem_triv, sem_ask, sem_ret, PC.holds, need_true, Int.natCast_nonneg, Int.le_refl, Int.toNat_natCast, stepO_ret]
theorem F34_yes (q : List UInt8) (h : q.length ≤ 5000) : F34 (ba (q ++ [10])) (ByteArray.mk #[10]) = some (ba q, true) := by
  have hs : (ba (q ++ [10])).size = q.length + 1 := by rw [ba_size]; simp
  have h1 : (ByteArray.mk #[10]).size = 1 := rfl
  have e1 : ((q.length + 1 : Nat) : Int) - ((1 : Nat) : Int) = (q.length : Int) := by omega
  have i1 : inI64 (q.length : Int) := by unfold inI64; omega
  have l1 : (q.length : Int) ≤ ((q.length + 1 : Nat) : Int) := by omega
  have e2 : (ba (q ++ [10])).extract 0 q.length = ba q := by
    rw [ext_ba, ba_data, List.drop_zero, List.take_left]
  have h72 : F72 (ba (q ++ [10])) (ByteArray.mk #[10]) = some (ba q, true) := by
    unfold F72; rw [res_eq]
    simp only [B72, F86_yes q h, hs, h1, e1, i1, l1, e2, Bool.not_true, Bool.false_eq_true, if_false, sem_bind_some, sem_sees, sem_br, sem_triv, sem_ask, sem_ret, PC.holds, need_true, Int.natCast_nonneg, Int.toNat_natCast, Int.toNat_zero, stepO_ret]
  unfold F34; rw [res_eq]
  simp only [B34, h72, sem_bind_some, sem_sees, sem_ret, stepO_ret]
theorem F34_no (r : List UInt8) (h : r.length ≤ 5000) (hn : 10 ∉ r) : F34 (ba r) (ByteArray.mk #[10]) = some (ba r, false) := by
  have h72 : F72 (ba r) (ByteArray.mk #[10]) = some (ba r, false) := by
    unfold F72; rw [res_eq]
    simp only [B72, F86_no r h hn, Bool.not_false, if_true, sem_bind_some, sem_sees, sem_br, sem_triv, sem_ask, sem_ret, PC.holds, need_true, stepO_ret]
  unfold F34; rw [res_eq]
  simp only [B34, h72, sem_bind_some, sem_sees, sem_ret, stepO_ret]
def nameL : Nat → List UInt8
  | 0 => [105, 109, 112, 111, 114, 116]
  | 1 => [101, 120, 112, 111, 114, 116]
  | 2 => [113, 49]
  | 3 => [113, 50]
  | 4 => [113, 51]
  | _ => [113, 52]
theorem nm_prog {n : Nat} (h : n < 6) : Option.map AV.d (List.drop ((if 5 < (n : Int) then 5 else (n : Int)).toNat * 1) gl0)[0]? = some (AV.d (DV.v (Value.string (dS (cel gl0 ((if 5 < (n : Int) then 5 else (n : Int)).toNat * 1)))))) ∧
    dS (cel gl0 ((if 5 < (n : Int) then 5 else (n : Int)).toNat * 1)) = ba (nameL n) := by
  match n, h with
  | 0, _ => exact ⟨rfl, rfl⟩
  | 1, _ => exact ⟨rfl, rfl⟩
  | 2, _ => exact ⟨rfl, rfl⟩
  | 3, _ => exact ⟨rfl, rfl⟩
  | 4, _ => exact ⟨rfl, rfl⟩
  | 5, _ => exact ⟨rfl, rfl⟩
theorem eqS_ba (a b : List UInt8) : eqS (ba a) (ba b) = decide (a = b) := by
  rw [eqS_data, ba_data, ba_data]
theorem refBs_map (k : Nat) : ∀ l : List Int, refBs k (l.map aI) = true
  | [] => rfl
  | x :: l => by rw [List.map_cons]; unfold refBs; rw [refBs_map k l]; rfl
def setM (m : List Int) (n : Nat) (a b : Int) : List Int := m.take (n * 2) ++ [a, b] ++ m.drop (n * 2 + 2)
theorem splice_map (m : List Int) (n : Nat) (a b : Int) : spliceA (m.map aI) (0 + n * 2) [aI a, aI b] = (setM m n a b).map aI := by
  unfold spliceA setM
  rw [Nat.zero_add, List.map_append, List.map_append, ← List.map_take, ← List.map_drop]; rfl
theorem setM_len {m : List Int} {n : Nat} {a b : Int} (h : m.length = 12) (hn : n < 6) : (setM m n a b).length = 12 := by
  unfold setM; simp; omega
theorem celA_map (m : List Int) (i : Nat) : dI (celA (m.map aI) i) = m.getD i 0 := by
  unfold celA
  simp only [List.getD_eq_getElem?_getD, List.getElem?_map]
  cases m[i]? <;> rfl
end
section
open Go Go.RowKit
theorem idx_at {c : UInt8} : ∀ (p q : List UInt8), c ∉ p → Lib.indexByte (p ++ c :: q) c = (p.length : Int)
  | [], q, _ => by rw [List.nil_append, Lib.indexByte, if_pos (by simp)]; rfl
  | b :: p, q, h => by
    simp only [List.mem_cons, not_or] at h
    have hb : (b == c) = false := by rw [beq_eq_false_iff_ne]; exact fun e => h.1 e.symm
    rw [List.cons_append, Lib.indexByte, if_neg (by rw [hb]; decide), idx_at p q h.2, if_neg (by rw [beq_iff_eq]; omega), List.length_cons]
    omega
def zs (n : Nat) (e : Int) : Int × Int × Int × Int × Int × Int × Int × Int × Int × Int × Int × Int × Int × Int := (0, 0, 0, 0, 0, 0, 0, 0, 0, 0, 0, 0, (n : Int), e)
def wordsOk (n : Nat) : List (List UInt8) → Bool
  | [w0, w1, w2] => decide (n < 6) && decide (w0 = nameL n) && okD w1 && okD w2
  | _ => false
def wordsV : List (List UInt8) → Int × Int
  | [_, w1, w2] => ((dvL w1 0 : Nat), (dvL w2 0 : Nat))
  | _ => (0, 0)
theorem wordsOk_6 {n : Nat} (h : ¬ n < 6) (W : List (List UInt8)) : wordsOk n W = false := by
  unfold wordsOk
  split
  · simp [h]
  · rfl
theorem wordsOk_b1 {n : Nat} {w0 w1 w2 : List UInt8} {W : List (List UInt8)} (o : okD w1 = false) : wordsOk n (w0 :: w1 :: w2 :: W) = false := by
  cases W <;> simp [wordsOk, o]
theorem wordsOk_b2 {n : Nat} {w0 w1 w2 : List UInt8} {W : List (List UInt8)} (o : okD w2 = false) : wordsOk n (w0 :: w1 :: w2 :: W) = false := by
  cases W <;> simp [wordsOk, o]
theorem F74_cases (w : List UInt8) : (okD w = true ∧ F74 (ba w) = some ((dvL w 0 : Int), true)) ∨ (okD w = false ∧ ∃ x, F74 (ba w) = some (x, false)) := by
  cases h : okD w with
  | true => exact .inl ⟨rfl, by have := F74_ok (s := ba w) (by rw [ba_data]; exact h); rw [ba_data] at this; exact this⟩
  | false => exact .inr ⟨rfl, F74_bad (s := ba w) (by rw [ba_data]; exact h)⟩
theorem celS0 (w : List UInt8) (r : List DV) : dS (cel (sD w :: r) 0) = ba w := rfl
theorem opS0 (w : List UInt8) (r : List DV) : (Option.map AV.d (sD w :: r)[0]? = some (AV.d (DV.v (Value.string (ba w))))) = True := eq_true rfl
theorem nmE {n : Nat} (h : n < 6) : dS (cel gl0 (if 5 < (n : Int) then 5 else (n : Int)).toNat) = ba (nameL n) := by
  have := (nm_prog h).2
  rw [Nat.mul_one] at this; exact this
theorem opN {n : Nat} (h : n < 6) : (Option.map AV.d (List.drop (if 5 < (n : Int) then 5 else (n : Int)).toNat gl0)[0]? = some (AV.d (DV.v (Value.string (ba (nameL n)))))) = True := by
  have := (nm_prog h).1
  rw [(nm_prog h).2, Nat.mul_one] at this
  exact eq_true this
theorem le_ix {n : Nat} (h : n < 6) : (0 : Int) ≤ (if 5 < (n : Int) then 5 else (n : Int)) ∧ (if 5 < (n : Int) then 5 else (n : Int)) < 6 ∧ (if 5 < (n : Int) then 5 else (n : Int)).toNat ≤ 6 := by
  rw [if_neg (by omega)]; omega
def z12 : List Int := [0, 0, 0, 0, 0, 0, 0, 0, 0, 0, 0, 0]
theorem splice_z (n : Nat) (a b : Int) : spliceA [AV.d (DV.v (Value.int IntKind.i64 0)), AV.d (DV.v (Value.int IntKind.i64 0)), AV.d (DV.v (Value.int IntKind.i64 0)), AV.d (DV.v (Value.int IntKind.i64 0)), AV.d (DV.v (Value.int IntKind.i64 0)), AV.d (DV.v (Value.int IntKind.i64 0)), AV.d (DV.v (Value.int IntKind.i64 0)), AV.d (DV.v (Value.int IntKind.i64 0)), AV.d (DV.v (Value.int IntKind.i64 0)), AV.d (DV.v (Value.int IntKind.i64 0)), AV.d (DV.v (Value.int IntKind.i64 0)), AV.d (DV.v (Value.int IntKind.i64 0))] (0 + n * 2) [aI a, aI b] = (setM z12 n a b).map aI := splice_map z12 n a b
theorem refK_map (k t : Nat) (l : List Int) : (refK k (ABlk.cells (l.map aI) t) = true) = True := eq_true (refBs_map k l)
theorem c2_line {m : List Int} (hm : m.length = 12) {n : Nat} (hn : n ≤ 6) {p q : List UInt8} (hp : 10 ∉ p) (hl : (p ++ 10 :: q).length ≤ 5000) (a b : ByteArray) (c : Int) (d : ByteArray) :
    res B8 (.c2 (m.map aI) (n : Int) (ba (p ++ 10 :: q)) a b c d) = if wordsOk n (spl 32 [] p) = true then res B8 (.c2 ((setM m n (wordsV (spl 32 [] p)).1 (wordsV (spl 32 [] p)).2).map aI) ((n + 1 : Nat) : Int) (ba q) a b c d) else some (zs n 25) := by
  have hlen : (p ++ 10 :: q).length = p.length + 1 + q.length := by simp; omega
  have hs : (ba (p ++ 10 :: q)).size = p.length + 1 + q.length := by rw [ba_size, hlen]
  have hidx := idx_at p q hp
  have c0 : ((p.length + 1 + q.length : Nat) : Int) > 0 := by omega
  have c1 : (p.length : Int) ≥ 0 := by omega
  have e0 : (p.length : Int) + 1 = ((p.length + 1 : Nat) : Int) := by omega
  have i0 : inI64 ((p.length + 1 : Nat) : Int) := by unfold inI64; omega
  have l0 : (0 : Int) ≤ ((p.length + 1 : Nat) : Int) := by omega
  have l1 : ((p.length + 1 : Nat) : Int) ≤ ((p.length + 1 + q.length : Nat) : Int) := by omega
  have e1 : (ba (p ++ 10 :: q)).extract 0 (p.length + 1) = ba (p ++ [10]) := by
    rw [ext_ba, ba_data, List.drop_zero]
    congr 1
    rw [List.take_append]
    rw [List.take_of_length_le (by omega), show p.length + 1 - p.length = 1 by omega]; rfl
  have e2 : (ba (p ++ 10 :: q)).extract (p.length + 1) (p.length + 1 + q.length) = ba q := by
    rw [ext_ba, ba_data, List.take_of_length_le (by omega)]
    congr 1
    rw [List.drop_append, List.drop_eq_nil_of_le (by omega), show p.length + 1 - p.length = 1 by omega]; rfl
  have h34 := F34_yes p (by omega)
  have h35 := F35_eq (ba p) 32 (by rw [ba_size]; omega)
  rw [ba_data] at h35
  have hne := spl_ne (c := 32) p []
  have hwl := spl_length (c := 32) p []
  generalize spl 32 [] p = W at h35 hne hwl
  have c2 : True := trivial
  rw [res_eq]
  by_cases h6 : n < 6
  · have c6 : ¬ ((n : Int) ≥ 6) := by omega
    match W with
    | [] => exact absurd rfl hne
    | w0 :: Wt =>
      have k0 : ((w0 :: Wt).length : Int) > 0 := by rw [List.length_cons]; omega
      have k1 : (0 : Int) < ((Wt.length + 1 : Nat) : Int) := by omega
      have k2 : (1 : Int) ≤ ((Wt.length + 1 : Nat) : Int) := by omega
      have k3 : Wt.length + 1 - 1 = Wt.length := by omega
      have k4 : (Wt.map sD).length = Wt.length := List.length_map ..
      have k5 : (Wt.map sD).take Wt.length = Wt.map sD := List.take_of_length_le (by omega)
      by_cases hw : w0 = nameL n
      · match Wt with
        | [] =>
          have z0 : (((([] : List (List UInt8)).length : Nat) : Int) == 0) = true := rfl
          simp only [B8, F71_eq, ba_data, hidx, c0, c1, c2, e0, i0, l0, l1, e1, e2, h34, h35, hs, decide_true, decide_false, Bool.not_true, Bool.not_false, Bool.false_eq_true, BEq.rfl, if_true, if_false, sem_bind_some, sem_sees, sem_br, sem_triv, sem_ask, sem_ret, sem_nxt, PC.holds, need_true, stepO_ret, stepO_nxt, Int.natCast_nonneg, Int.le_refl, Nat.le_refl, Int.toNat_natCast, Int.toNat_zero, c6, opN h6, nmE h6, (le_ix h6).1, (le_ix h6).2.1, (le_ix h6).2.2, List.drop_zero, celS0, opS0, eqS_ba, Nat.zero_le, hw, k1, k2, k3, k4, k5, z0, List.map_cons, List.length_cons, Nat.mul_one]
          rfl
        | w1 :: Wu =>
          have z0 : ((((w1 :: Wu).length : Nat) : Int) == 0) = false := by rw [beq_eq_false_iff_ne, List.length_cons]; omega
          have z1 : (((Wu.length + 1 : Nat) : Int) == 0) = false := by rw [beq_eq_false_iff_ne]; omega
          have g1 : (0 : Int) < ((Wu.length + 1 : Nat) : Int) := by omega
          have g2 : (1 : Int) ≤ ((Wu.length + 1 : Nat) : Int) := by omega
          have g3 : Wu.length + 1 - 1 = Wu.length := by omega
          have g4 : (Wu.map sD).length = Wu.length := List.length_map ..
          have g5 : (Wu.map sD).take Wu.length = Wu.map sD := List.take_of_length_le (by omega)
          have g6 : (sD w1 :: Wu.map sD).take (Wu.length + 1) = sD w1 :: Wu.map sD := by rw [List.take_succ_cons, g5]
          have g7 : Wu.length + 1 + 1 - 1 = Wu.length + 1 := by omega
          have g8 : (0 : Int) < ((Wu.length + 1 + 1 : Nat) : Int) := by omega
          have g9 : (1 : Int) ≤ ((Wu.length + 1 + 1 : Nat) : Int) := by omega
          obtain ⟨x1, b1, f1, o1⟩ : ∃ x b, F74 (ba w1) = some (x, b) ∧ okD w1 = b := by
            rcases F74_cases w1 with ⟨h1, h2⟩ | ⟨h1, x, h2⟩
            · exact ⟨_, _, h2, h1⟩
            · exact ⟨_, _, h2, h1⟩
          match Wu with
          | [] =>
            have z2 : (((([] : List (List UInt8)).length : Nat) : Int) == 0) = true := rfl
            simp only [B8, F71_eq, ba_data, hidx, c0, c1, c2, e0, i0, l0, l1, e1, e2, h34, h35, hs, decide_true, decide_false, Bool.not_true, Bool.not_false, Bool.false_eq_true, BEq.rfl, if_true, if_false, sem_bind_some, sem_sees, sem_br, sem_triv, sem_ask, sem_ret, sem_nxt, PC.holds, need_true, stepO_ret, stepO_nxt, Int.natCast_nonneg, Int.le_refl, Nat.le_refl, Int.toNat_natCast, Int.toNat_zero, c6, opN h6, nmE h6, (le_ix h6).1, (le_ix h6).2.1, (le_ix h6).2.2, List.drop_zero, celS0, opS0, eqS_ba, Nat.zero_le, hw, f1, z1, g1, g2, g3, g4, g5, g6, g7, g8, g9, z2, List.map_cons, List.length_cons, Nat.mul_one, List.drop_succ_cons]
            rfl
          | w2 :: Wv =>
            have u1 : (0 : Int) < ((Wv.length + 1 : Nat) : Int) := by omega
            have u2 : (1 : Int) ≤ ((Wv.length + 1 : Nat) : Int) := by omega
            have u3 : Wv.length + 1 - 1 = Wv.length := by omega
            have u4 : (Wv.map sD).length = Wv.length := List.length_map ..
            have u5 : (Wv.map sD).take Wv.length = Wv.map sD := List.take_of_length_le (by omega)
            have u6 : (sD w2 :: Wv.map sD).take (Wv.length + 1) = sD w2 :: Wv.map sD := by rw [List.take_succ_cons, u5]
            have u7 : (sD w1 :: sD w2 :: Wv.map sD).take (Wv.length + 1 + 1) = sD w1 :: sD w2 :: Wv.map sD := by rw [List.take_succ_cons, u6]
            have u8 : Wv.length + 1 + 1 - 1 = Wv.length + 1 := by omega
            have u9 : Wv.length + 1 + 1 + 1 - 1 = Wv.length + 1 + 1 := by omega
            have v1 : (0 : Int) < ((Wv.length + 1 + 1 : Nat) : Int) := by omega
            have v2 : (1 : Int) ≤ ((Wv.length + 1 + 1 : Nat) : Int) := by omega
            have v3 : (0 : Int) < ((Wv.length + 1 + 1 + 1 : Nat) : Int) := by omega
            have v4 : (1 : Int) ≤ ((Wv.length + 1 + 1 + 1 : Nat) : Int) := by omega
            have y0 : (((Wv.length + 1 + 1 : Nat) : Int) == 0) = false := by rw [beq_eq_false_iff_ne]; omega
            have y1 : (((Wv.length + 1 : Nat) : Int) == 0) = false := by rw [beq_eq_false_iff_ne]; omega
            obtain ⟨x2, b2, f2, o2⟩ : ∃ x b, F74 (ba w2) = some (x, b) ∧ okD w2 = b := by
              rcases F74_cases w2 with ⟨h1, h2⟩ | ⟨h1, x, h2⟩
              · exact ⟨_, _, h2, h1⟩
              · exact ⟨_, _, h2, h1⟩
            have T := True.intro
            simp only [B8, F71_eq, ba_data, hidx, c0, c1, c2, e0, i0, l0, l1, e1, e2, h34, h35, hs, decide_true, decide_false, Bool.not_true, Bool.not_false, Bool.false_eq_true, BEq.rfl, if_true, if_false, sem_bind_some, sem_sees, sem_br, sem_triv, sem_ask, sem_ret, sem_nxt, PC.holds, need_true, stepO_ret, stepO_nxt, Int.natCast_nonneg, Int.le_refl, Nat.le_refl, Int.toNat_natCast, Int.toNat_zero, c6, opN h6, nmE h6, (le_ix h6).1, (le_ix h6).2.1, (le_ix h6).2.2, List.drop_zero, celS0, opS0, eqS_ba, Nat.zero_le, hw, f1, f2, y0, y1, u1, u2, u3, u4, u5, u6, u7, u8, u9, v1, v2, v3, v4, List.map_cons, List.length_cons, Nat.mul_one, List.drop_succ_cons]
            cases b1 with
            | false =>
              simp only [Bool.not_false, if_true, sem_ret, stepO_ret]
              rw [wordsOk_b1 o1]
              rfl
            | true =>
              cases b2 with
              | false =>
                simp only [Bool.not_true, Bool.not_false, Bool.false_eq_true, if_true, if_false, sem_ret, stepO_ret]
                rw [wordsOk_b2 o2]
                rfl
              | true =>
                match Wv with
                | [] =>
                  have ok : wordsOk n [nameL n, w1, w2] = true := by unfold wordsOk; simp [o1, o2, h6]
                  have x1e : x1 = (dvL w1 0 : Int) := by
                    rcases F74_cases w1 with ⟨h1, h2⟩ | ⟨h1, x, h2⟩
                    · rw [f1] at h2; simpa using h2
                    · rw [f1] at h2; simp at h2
                  have x2e : x2 = (dvL w2 0 : Int) := by
                    rcases F74_cases w2 with ⟨h1, h2⟩ | ⟨h1, x, h2⟩
                    · rw [f2] at h2; simpa using h2
                    · rw [f2] at h2; simp at h2
                  have r1 : ¬ (((([] : List (List UInt8)).length : Nat) : Int) > 0) := by simp
                  have r2 : (n : Int) < 6 := by omega
                  have r3 : 0 + n * 2 + 2 ≤ 12 := by omega
                  have r4 : inI64 ((n : Int) + 1) := by unfold inI64; omega
                  simp only [Bool.not_true, Bool.false_eq_true, if_true, if_false, sem_br, sem_ask, sem_triv, sem_nxt, PC.holds, need_true, r1, r2, r3, r4, decide_false, List.length_map, hm, splice_map, refK_map, e2, stepO_nxt, ok, wordsV, x1e, x2e]
                  rfl
                | w3 :: Wz =>
                  have r1 : (((w3 :: Wz).length : Nat) : Int) > 0 := by rw [List.length_cons]; omega
                  simp only [Bool.not_true, Bool.false_eq_true, if_true, if_false, sem_br, sem_ret, r1, decide_true, stepO_ret]
                  rfl
      · have nw : wordsOk n (w0 :: Wt) = false := by
          unfold wordsOk
          split
          · rename_i heq
            simp only [List.cons.injEq] at heq
            obtain ⟨rfl, _⟩ := heq
            simp [hw]
          · rfl
        simp only [B8, F71_eq, ba_data, hidx, c0, c1, c2, e0, i0, l0, l1, e1, e2, h34, h35, hs, decide_true, decide_false, Bool.not_true, Bool.not_false, Bool.false_eq_true, BEq.rfl, if_true, if_false, sem_bind_some, sem_sees, sem_br, sem_triv, sem_ask, sem_ret, sem_nxt, PC.holds, need_true, stepO_ret, stepO_nxt, Int.natCast_nonneg, Int.le_refl, Nat.le_refl, Int.toNat_natCast, Int.toNat_zero, c6, opN h6, nmE h6, (le_ix h6).1, (le_ix h6).2.1, (le_ix h6).2.2, List.drop_zero, celS0, opS0, eqS_ba, Nat.zero_le, hw, k1, k2, k3, k4, k5, List.map_cons, List.length_cons, Nat.mul_one, nw]
        rfl
  · have c6 : (n : Int) ≥ 6 := by omega
    have nw := wordsOk_6 h6 W
    simp only [B8, F71_eq, ba_data, hidx, c0, c1, c2, e0, i0, l0, l1, e1, e2, h34, h35, hs, decide_true, decide_false, Bool.not_true, Bool.not_false, Bool.false_eq_true, BEq.rfl, if_true, if_false, sem_bind_some, sem_sees, sem_br, sem_triv, sem_ask, sem_ret, sem_nxt, PC.holds, need_true, stepO_ret, stepO_nxt, Int.natCast_nonneg, Int.le_refl, Nat.le_refl, Int.toNat_natCast, Int.toNat_zero, c6, nw]
    rfl
theorem c1_line {n : Nat} (hn : n ≤ 6) {p q : List UInt8} (hp : 10 ∉ p) (hl : (p ++ 10 :: q).length ≤ 5000) (a b : ByteArray) (c : Int) (d : ByteArray) :
    res B8 (.c1 0 0 (n : Int) (ba (p ++ 10 :: q)) a b c d) = if wordsOk n (spl 32 [] p) = true then res B8 (.c2 ((setM z12 n (wordsV (spl 32 [] p)).1 (wordsV (spl 32 [] p)).2).map aI) ((n + 1 : Nat) : Int) (ba q) a b c d) else some (zs n 25) := by
  have hlen : (p ++ 10 :: q).length = p.length + 1 + q.length := by simp; omega
  have hs : (ba (p ++ 10 :: q)).size = p.length + 1 + q.length := by rw [ba_size, hlen]
  have hidx := idx_at p q hp
  have c0 : ((p.length + 1 + q.length : Nat) : Int) > 0 := by omega
  have c1 : (p.length : Int) ≥ 0 := by omega
  have e0 : (p.length : Int) + 1 = ((p.length + 1 : Nat) : Int) := by omega
  have i0 : inI64 ((p.length + 1 : Nat) : Int) := by unfold inI64; omega
  have l0 : (0 : Int) ≤ ((p.length + 1 : Nat) : Int) := by omega
  have l1 : ((p.length + 1 : Nat) : Int) ≤ ((p.length + 1 + q.length : Nat) : Int) := by omega
  have e1 : (ba (p ++ 10 :: q)).extract 0 (p.length + 1) = ba (p ++ [10]) := by
    rw [ext_ba, ba_data, List.drop_zero]
    congr 1
    rw [List.take_append]
    rw [List.take_of_length_le (by omega), show p.length + 1 - p.length = 1 by omega]; rfl
  have e2 : (ba (p ++ 10 :: q)).extract (p.length + 1) (p.length + 1 + q.length) = ba q := by
    rw [ext_ba, ba_data, List.take_of_length_le (by omega)]
    congr 1
    rw [List.drop_append, List.drop_eq_nil_of_le (by omega), show p.length + 1 - p.length = 1 by omega]; rfl
  have h34 := F34_yes p (by omega)
  have h35 := F35_eq (ba p) 32 (by rw [ba_size]; omega)
  rw [ba_data] at h35
  have hne := spl_ne (c := 32) p []
  have hwl := spl_length (c := 32) p []
  generalize spl 32 [] p = W at h35 hne hwl
  have c2 : True := trivial
  rw [res_eq]
  by_cases h6 : n < 6
  · have c6 : ¬ ((n : Int) ≥ 6) := by omega
    match W with
    | [] => exact absurd rfl hne
    | w0 :: Wt =>
      have k0 : ((w0 :: Wt).length : Int) > 0 := by rw [List.length_cons]; omega
      have k1 : (0 : Int) < ((Wt.length + 1 : Nat) : Int) := by omega
      have k2 : (1 : Int) ≤ ((Wt.length + 1 : Nat) : Int) := by omega
      have k3 : Wt.length + 1 - 1 = Wt.length := by omega
      have k4 : (Wt.map sD).length = Wt.length := List.length_map ..
      have k5 : (Wt.map sD).take Wt.length = Wt.map sD := List.take_of_length_le (by omega)
      by_cases hw : w0 = nameL n
      · match Wt with
        | [] =>
          have z0 : (((([] : List (List UInt8)).length : Nat) : Int) == 0) = true := rfl
          simp only [B8, F71_eq, ba_data, hidx, c0, c1, c2, e0, i0, l0, l1, e1, e2, h34, h35, hs, decide_true, decide_false, Bool.not_true, Bool.not_false, Bool.false_eq_true, BEq.rfl, if_true, if_false, sem_bind_some, sem_sees, sem_br, sem_triv, sem_ask, sem_ret, sem_nxt, PC.holds, need_true, stepO_ret, stepO_nxt, Int.natCast_nonneg, Int.le_refl, Nat.le_refl, Int.toNat_natCast, Int.toNat_zero, c6, opN h6, nmE h6, (le_ix h6).1, (le_ix h6).2.1, (le_ix h6).2.2, List.drop_zero, celS0, opS0, eqS_ba, Nat.zero_le, hw, k1, k2, k3, k4, k5, z0, List.map_cons, List.length_cons, Nat.mul_one]
          rfl
        | w1 :: Wu =>
          have z0 : ((((w1 :: Wu).length : Nat) : Int) == 0) = false := by rw [beq_eq_false_iff_ne, List.length_cons]; omega
          have z1 : (((Wu.length + 1 : Nat) : Int) == 0) = false := by rw [beq_eq_false_iff_ne]; omega
          have g1 : (0 : Int) < ((Wu.length + 1 : Nat) : Int) := by omega
          have g2 : (1 : Int) ≤ ((Wu.length + 1 : Nat) : Int) := by omega
          have g3 : Wu.length + 1 - 1 = Wu.length := by omega
          have g4 : (Wu.map sD).length = Wu.length := List.length_map ..
          have g5 : (Wu.map sD).take Wu.length = Wu.map sD := List.take_of_length_le (by omega)
          have g6 : (sD w1 :: Wu.map sD).take (Wu.length + 1) = sD w1 :: Wu.map sD := by rw [List.take_succ_cons, g5]
          have g7 : Wu.length + 1 + 1 - 1 = Wu.length + 1 := by omega
          have g8 : (0 : Int) < ((Wu.length + 1 + 1 : Nat) : Int) := by omega
          have g9 : (1 : Int) ≤ ((Wu.length + 1 + 1 : Nat) : Int) := by omega
          obtain ⟨x1, b1, f1, o1⟩ : ∃ x b, F74 (ba w1) = some (x, b) ∧ okD w1 = b := by
            rcases F74_cases w1 with ⟨h1, h2⟩ | ⟨h1, x, h2⟩
            · exact ⟨_, _, h2, h1⟩
            · exact ⟨_, _, h2, h1⟩
          match Wu with
          | [] =>
            have z2 : (((([] : List (List UInt8)).length : Nat) : Int) == 0) = true := rfl
            simp only [B8, F71_eq, ba_data, hidx, c0, c1, c2, e0, i0, l0, l1, e1, e2, h34, h35, hs, decide_true, decide_false, Bool.not_true, Bool.not_false, Bool.false_eq_true, BEq.rfl, if_true, if_false, sem_bind_some, sem_sees, sem_br, sem_triv, sem_ask, sem_ret, sem_nxt, PC.holds, need_true, stepO_ret, stepO_nxt, Int.natCast_nonneg, Int.le_refl, Nat.le_refl, Int.toNat_natCast, Int.toNat_zero, c6, opN h6, nmE h6, (le_ix h6).1, (le_ix h6).2.1, (le_ix h6).2.2, List.drop_zero, celS0, opS0, eqS_ba, Nat.zero_le, hw, f1, z1, g1, g2, g3, g4, g5, g6, g7, g8, g9, z2, List.map_cons, List.length_cons, Nat.mul_one, List.drop_succ_cons]
            rfl
          | w2 :: Wv =>
            have u1 : (0 : Int) < ((Wv.length + 1 : Nat) : Int) := by omega
            have u2 : (1 : Int) ≤ ((Wv.length + 1 : Nat) : Int) := by omega
            have u3 : Wv.length + 1 - 1 = Wv.length := by omega
            have u4 : (Wv.map sD).length = Wv.length := List.length_map ..
            have u5 : (Wv.map sD).take Wv.length = Wv.map sD := List.take_of_length_le (by omega)
            have u6 : (sD w2 :: Wv.map sD).take (Wv.length + 1) = sD w2 :: Wv.map sD := by rw [List.take_succ_cons, u5]
            have u7 : (sD w1 :: sD w2 :: Wv.map sD).take (Wv.length + 1 + 1) = sD w1 :: sD w2 :: Wv.map sD := by rw [List.take_succ_cons, u6]
            have u8 : Wv.length + 1 + 1 - 1 = Wv.length + 1 := by omega
            have u9 : Wv.length + 1 + 1 + 1 - 1 = Wv.length + 1 + 1 := by omega
            have v1 : (0 : Int) < ((Wv.length + 1 + 1 : Nat) : Int) := by omega
            have v2 : (1 : Int) ≤ ((Wv.length + 1 + 1 : Nat) : Int) := by omega
            have v3 : (0 : Int) < ((Wv.length + 1 + 1 + 1 : Nat) : Int) := by omega
            have v4 : (1 : Int) ≤ ((Wv.length + 1 + 1 + 1 : Nat) : Int) := by omega
            have y0 : (((Wv.length + 1 + 1 : Nat) : Int) == 0) = false := by rw [beq_eq_false_iff_ne]; omega
            have y1 : (((Wv.length + 1 : Nat) : Int) == 0) = false := by rw [beq_eq_false_iff_ne]; omega
            obtain ⟨x2, b2, f2, o2⟩ : ∃ x b, F74 (ba w2) = some (x, b) ∧ okD w2 = b := by
              rcases F74_cases w2 with ⟨h1, h2⟩ | ⟨h1, x, h2⟩
              · exact ⟨_, _, h2, h1⟩
              · exact ⟨_, _, h2, h1⟩
            have T := True.intro
            simp only [B8, F71_eq, ba_data, hidx, c0, c1, c2, e0, i0, l0, l1, e1, e2, h34, h35, hs, decide_true, decide_false, Bool.not_true, Bool.not_false, Bool.false_eq_true, BEq.rfl, if_true, if_false, sem_bind_some, sem_sees, sem_br, sem_triv, sem_ask, sem_ret, sem_nxt, PC.holds, need_true, stepO_ret, stepO_nxt, Int.natCast_nonneg, Int.le_refl, Nat.le_refl, Int.toNat_natCast, Int.toNat_zero, c6, opN h6, nmE h6, (le_ix h6).1, (le_ix h6).2.1, (le_ix h6).2.2, List.drop_zero, celS0, opS0, eqS_ba, Nat.zero_le, hw, f1, f2, y0, y1, u1, u2, u3, u4, u5, u6, u7, u8, u9, v1, v2, v3, v4, List.map_cons, List.length_cons, Nat.mul_one, List.drop_succ_cons]
            cases b1 with
            | false =>
              simp only [Bool.not_false, if_true, sem_ret, stepO_ret]
              rw [wordsOk_b1 o1]
              rfl
            | true =>
              cases b2 with
              | false =>
                simp only [Bool.not_true, Bool.not_false, Bool.false_eq_true, if_true, if_false, sem_ret, stepO_ret]
                rw [wordsOk_b2 o2]
                rfl
              | true =>
                match Wv with
                | [] =>
                  have ok : wordsOk n [nameL n, w1, w2] = true := by unfold wordsOk; simp [o1, o2, h6]
                  have x1e : x1 = (dvL w1 0 : Int) := by
                    rcases F74_cases w1 with ⟨h1, h2⟩ | ⟨h1, x, h2⟩
                    · rw [f1] at h2; simpa using h2
                    · rw [f1] at h2; simp at h2
                  have x2e : x2 = (dvL w2 0 : Int) := by
                    rcases F74_cases w2 with ⟨h1, h2⟩ | ⟨h1, x, h2⟩
                    · rw [f2] at h2; simpa using h2
                    · rw [f2] at h2; simp at h2
                  have r1 : ¬ (((([] : List (List UInt8)).length : Nat) : Int) > 0) := by simp
                  have r2 : (n : Int) < 6 := by omega
                  have r3 : 0 + n * 2 + 2 ≤ 12 := by omega
                  have r4 : inI64 ((n : Int) + 1) := by unfold inI64; omega
                  simp only [Bool.not_true, Bool.false_eq_true, if_true, if_false, sem_br, sem_ask, sem_triv, sem_nxt, PC.holds, need_true, r1, r2, r3, r4, decide_false, splice_z, refK_map, e2, stepO_nxt, ok, wordsV, x1e, x2e]
                  rfl
                | w3 :: Wz =>
                  have r1 : (((w3 :: Wz).length : Nat) : Int) > 0 := by rw [List.length_cons]; omega
                  simp only [Bool.not_true, Bool.false_eq_true, if_true, if_false, sem_br, sem_ret, r1, decide_true, stepO_ret]
                  rfl
      · have nw : wordsOk n (w0 :: Wt) = false := by
          unfold wordsOk
          split
          · rename_i heq
            simp only [List.cons.injEq] at heq
            obtain ⟨rfl, _⟩ := heq
            simp [hw]
          · rfl
        simp only [B8, F71_eq, ba_data, hidx, c0, c1, c2, e0, i0, l0, l1, e1, e2, h34, h35, hs, decide_true, decide_false, Bool.not_true, Bool.not_false, Bool.false_eq_true, BEq.rfl, if_true, if_false, sem_bind_some, sem_sees, sem_br, sem_triv, sem_ask, sem_ret, sem_nxt, PC.holds, need_true, stepO_ret, stepO_nxt, Int.natCast_nonneg, Int.le_refl, Nat.le_refl, Int.toNat_natCast, Int.toNat_zero, c6, opN h6, nmE h6, (le_ix h6).1, (le_ix h6).2.1, (le_ix h6).2.2, List.drop_zero, celS0, opS0, eqS_ba, Nat.zero_le, hw, k1, k2, k3, k4, k5, List.map_cons, List.length_cons, Nat.mul_one, nw]
        rfl
  · have c6 : (n : Int) ≥ 6 := by omega
    have nw := wordsOk_6 h6 W
    simp only [B8, F71_eq, ba_data, hidx, c0, c1, c2, e0, i0, l0, l1, e1, e2, h34, h35, hs, decide_true, decide_false, Bool.not_true, Bool.not_false, Bool.false_eq_true, BEq.rfl, if_true, if_false, sem_bind_some, sem_sees, sem_br, sem_triv, sem_ask, sem_ret, sem_nxt, PC.holds, need_true, stepO_ret, stepO_nxt, Int.natCast_nonneg, Int.le_refl, Nat.le_refl, Int.toNat_natCast, Int.toNat_zero, c6, nw]
    rfl
end
section
open Go Go.RowKit
def chkM (m : List Int) : Int := chk (m.getD 0 0) (m.getD 1 0) (m.getD 2 0) (m.getD 3 0) (m.getD 4 0) (m.getD 5 0) (m.getD 6 0) (m.getD 7 0) (m.getD 8 0) (m.getD 9 0) (m.getD 10 0) (m.getD 11 0)
def mt (m : List Int) : Int × Int × Int × Int × Int × Int × Int × Int × Int × Int × Int × Int × Int × Int := (m.getD 0 0, m.getD 1 0, m.getD 2 0, m.getD 3 0, m.getD 4 0, m.getD 5 0, m.getD 6 0, m.getD 7 0, m.getD 8 0, m.getD 9 0, m.getD 10 0, m.getD 11 0, 0, 0)
def fin (n : Nat) (m : List Int) : Int × Int × Int × Int × Int × Int × Int × Int × Int × Int × Int × Int × Int × Int :=
  if n < 6 then zs n 16 else if chkM m = 0 then mt m else zs n (chkM m)
def pars : List (List UInt8) → Nat → List Int → Int × Int × Int × Int × Int × Int × Int × Int × Int × Int × Int × Int × Int × Int
  | [], n, _ => zs n 25
  | p :: P, n, m => match P with
    | [] => if p = [] then fin n m else zs n 25
    | _ :: _ => if wordsOk n (spl 32 [] p) = true then pars P (n + 1) (setM m n (wordsV (spl 32 [] p)).1 (wordsV (spl 32 [] p)).2) else zs n 25
theorem list12 {m : List Int} (h : m.length = 12) : ∃ a0 a1 a2 a3 a4 a5 a6 a7 a8 a9 a10 a11, m = [a0, a1, a2, a3, a4, a5, a6, a7, a8, a9, a10, a11] := by
  match m, h with
  | [a0, a1, a2, a3, a4, a5, a6, a7, a8, a9, a10, a11], _ => exact ⟨_, _, _, _, _, _, _, _, _, _, _, _, rfl⟩
theorem take12 {m : List Int} (h : m.length = 12) : (List.take 12 (m.map aI) = [AV.d (DV.v (Value.int IntKind.i64 (m.getD 0 0))), AV.d (DV.v (Value.int IntKind.i64 (m.getD 1 0))), AV.d (DV.v (Value.int IntKind.i64 (m.getD 2 0))), AV.d (DV.v (Value.int IntKind.i64 (m.getD 3 0))), AV.d (DV.v (Value.int IntKind.i64 (m.getD 4 0))), AV.d (DV.v (Value.int IntKind.i64 (m.getD 5 0))), AV.d (DV.v (Value.int IntKind.i64 (m.getD 6 0))), AV.d (DV.v (Value.int IntKind.i64 (m.getD 7 0))), AV.d (DV.v (Value.int IntKind.i64 (m.getD 8 0))), AV.d (DV.v (Value.int IntKind.i64 (m.getD 9 0))), AV.d (DV.v (Value.int IntKind.i64 (m.getD 10 0))), AV.d (DV.v (Value.int IntKind.i64 (m.getD 11 0)))]) = True := by
  obtain ⟨a0, a1, a2, a3, a4, a5, a6, a7, a8, a9, a10, a11, rfl⟩ := list12 h
  exact eq_true rfl
theorem F37_2 (a b : Int) : F37 2 [vI a, vI b] = some (firstI [a, b]) := F37_eq [a, b] (by simp)
theorem first2 (n : Nat) (e : Int) : firstI [if decide ((n : Int) < 6) = true then 16 else 0, e] = if n < 6 then 16 else e := by
  by_cases h : n < 6
  · have : (n : Int) < 6 := by omega
    simp [this, h, firstI]
  · have : ¬ ((n : Int) < 6) := by omega
    simp only [this, h, decide_false, Bool.false_eq_true, if_false, firstI, if_true]
    split
    · rename_i h0; rw [h0]
    · rfl
theorem chk_z : chkM z12 = 0 := by decide
theorem c2_end {m : List Int} (hm : m.length = 12) (n : Nat) (a b : ByteArray) (c : Int) (d : ByteArray) : res B8 (.c2 (m.map aI) (n : Int) (ba []) a b c d) = some (fin n m) := by
  have hs : ¬ (((ba []).size : Int) > 0) := by rw [ba_size]; simp
  have hl : 12 ≤ 12 := Nat.le_refl 12
  rw [res_eq]
  simp only [B8, hs, celA_map, F38_eq, F31_eq, F37_2, first2, take12 hm, hl, List.length_map, hm, List.drop_zero, decide_false, Bool.false_eq_true, if_false, sem_bind_some, sem_sees, sem_br, sem_ask, sem_ret, PC.holds, need_true, Nat.le_refl]
  unfold fin
  by_cases h6 : n < 6
  · simp only [h6, if_true, show ((16 : Int) != 0) = true from rfl, stepO_ret]; rfl
  · simp only [h6, if_false]
    show stepO _ (if (chkM m != 0) = true then _ else _) = _
    by_cases h0 : chkM m = 0
    · simp only [h0, bne_self_eq_false, Bool.false_eq_true, if_false, if_true, stepO_ret]; rfl
    · simp only [bne_iff_ne.2 h0, h0, if_true, if_false, stepO_ret]; rfl
theorem c1_end (n : Nat) (a b : ByteArray) (c : Int) (d : ByteArray) : res B8 (.c1 0 0 (n : Int) (ba []) a b c d) = some (fin n z12) := by
  have hs : ¬ (((ba []).size : Int) > 0) := by rw [ba_size]; simp
  rw [res_eq]
  simp only [B8, hs, F38_eq, F31_eq, F37_2, first2, decide_false, Bool.false_eq_true, if_false, sem_bind_some, sem_sees, sem_br, sem_ask, sem_ret, PC.holds, need_true]
  unfold fin
  by_cases h6 : n < 6
  · simp only [h6, if_true, show ((16 : Int) != 0) = true from rfl, stepO_ret]; rfl
  · simp only [h6, if_false]
    show stepO _ (if (chkM z12 != 0) = true then _ else _) = _
    simp only [chk_z, bne_self_eq_false, Bool.false_eq_true, if_false, if_true, stepO_ret]; rfl
theorem c2_last {m : List Int} (n : Nat) {r : List UInt8} (h0 : r ≠ []) (hn : 10 ∉ r) (hl : r.length ≤ 5000) (a b : ByteArray) (c : Int) (d : ByteArray) : res B8 (.c2 (m.map aI) (n : Int) (ba r) a b c d) = some (zs n 25) := by
  have hpos : 0 < r.length := List.length_pos_iff.2 h0
  have hs : ((ba r).size : Int) > 0 := by rw [ba_size]; omega
  have hi : ∃ i, F71 (ba r) 10 = some i ∧ ¬ (i ≥ 0) := by
    refine ⟨_, F71_eq _, ?_⟩
    rw [ba_data]
    intro hge
    obtain ⟨j, hj⟩ : ∃ j : Nat, Lib.indexByte r 10 = (j : Int) := ⟨(Lib.indexByte r 10).toNat, by omega⟩
    obtain ⟨q1, q2, q3⟩ := idx_some r j hj
    apply hn
    rw [q2]; simp
  obtain ⟨i, h71, hi⟩ := hi
  have h34 := F34_no r hl hn
  have h35 := F35_eq (ba r) 32 (by rw [ba_size]; omega)
  rw [res_eq]
  simp only [B8, hs, h71, hi, h34, h35, decide_true, decide_false, Bool.not_false, Bool.false_eq_true, if_true, if_false, sem_bind_some, sem_sees, sem_br, sem_triv, sem_ask, sem_ret, PC.holds, need_true, stepO_ret]
  rfl
theorem c1_last (n : Nat) {r : List UInt8} (h0 : r ≠ []) (hn : 10 ∉ r) (hl : r.length ≤ 5000) (a b : ByteArray) (c : Int) (d : ByteArray) : res B8 (.c1 0 0 (n : Int) (ba r) a b c d) = some (zs n 25) := by
  have hpos : 0 < r.length := List.length_pos_iff.2 h0
  have hs : ((ba r).size : Int) > 0 := by rw [ba_size]; omega
  have hi : ∃ i, F71 (ba r) 10 = some i ∧ ¬ (i ≥ 0) := by
    refine ⟨_, F71_eq _, ?_⟩
    rw [ba_data]
    intro hge
    obtain ⟨j, hj⟩ : ∃ j : Nat, Lib.indexByte r 10 = (j : Int) := ⟨(Lib.indexByte r 10).toNat, by omega⟩
    obtain ⟨q1, q2, q3⟩ := idx_some r j hj
    apply hn
    rw [q2]; simp
  obtain ⟨i, h71, hi⟩ := hi
  have h34 := F34_no r hl hn
  have h35 := F35_eq (ba r) 32 (by rw [ba_size]; omega)
  rw [res_eq]
  simp only [B8, hs, h71, hi, h34, h35, decide_true, decide_false, Bool.not_false, Bool.false_eq_true, if_true, if_false, sem_bind_some, sem_sees, sem_br, sem_triv, sem_ask, sem_ret, PC.holds, need_true, stepO_ret]
  rfl
theorem spl_split {c : UInt8} {r p : List UInt8} {P : List (List UInt8)} (h : spl c [] r = p :: P) : (P = [] ∧ r = p ∧ c ∉ r) ∨ ∃ q, r = p ++ c :: q ∧ c ∉ p ∧ spl c [] q = P := by
  by_cases hm : c ∈ r
  · obtain ⟨a, b, rfl, ha⟩ : ∃ a b, r = a ++ c :: b ∧ c ∉ a := by
      clear h
      induction r with
      | nil => simp at hm
      | cons x r ih =>
        by_cases hx : x = c
        · exact ⟨[], r, by rw [hx]; rfl, by simp⟩
        · have : c ∈ r := by
            rcases List.mem_cons.1 hm with h | h
            · exact absurd h.symm hx
            · exact h
          obtain ⟨a, b, e, ha⟩ := ih this
          exact ⟨x :: a, b, by rw [e]; rfl, by simp only [List.mem_cons, not_or]; exact ⟨fun e => hx e.symm, ha⟩⟩
    rw [spl_app a [] b ha, List.nil_append, List.cons.injEq] at h
    exact .inr ⟨b, by rw [h.1], by rw [← h.1]; exact ha, h.2⟩
  · rw [spl_none r [] hm, List.nil_append, List.cons.injEq] at h
    exact .inl ⟨h.2.symm, h.1, hm⟩
theorem c2_all (P : List (List UInt8)) : ∀ (n : Nat) (m : List Int) (r : List UInt8), m.length = 12 → n ≤ 6 → r.length ≤ 5000 → spl 10 [] r = P → ∀ (a b : ByteArray) (c : Int) (d : ByteArray),
    res B8 (.c2 (m.map aI) (n : Int) (ba r) a b c d) = some (pars P n m) := by
  induction P with
  | nil => intro n m r _ _ _ h; exact absurd h (spl_ne r [])
  | cons p P ih =>
    intro n m r hm hn hl h a b c d
    rcases spl_split h with ⟨rfl, rfl, h10⟩ | ⟨q, rfl, hp, hq⟩
    · by_cases h0 : r = []
      · subst h0
        rw [c2_end hm]; unfold pars; simp
      · rw [c2_last n h0 h10 hl]; unfold pars; simp [h0]
    · have hP : P ≠ [] := by rw [← hq]; exact spl_ne q []
      rw [c2_line hm hn hp hl]
      obtain ⟨x, Q, rfl⟩ : ∃ x Q, P = x :: Q := by
        cases P with
        | nil => exact absurd rfl hP
        | cons x Q => exact ⟨x, Q, rfl⟩
      rw [pars]
      by_cases hw : wordsOk n (spl 32 [] p) = true
      · have h6 : n < 6 := by
          apply Classical.byContradiction
          intro h6
          rw [wordsOk_6 h6] at hw; simp at hw
        rw [if_pos hw, if_pos hw]
        exact ih (n + 1) _ q (setM_len hm h6) (by omega) (by simp at hl; omega) hq a b c d
      · rw [if_neg hw, if_neg hw]
theorem F8_eq (s : ByteArray) : F8 s = some (if s.size > 4096 then zs 0 26 else pars (spl 10 [] s.data.toList) 0 z12) := by
  unfold F8; rw [res_eq]
  have hlen : s.data.toList.length = s.size := by simp
  by_cases h : s.size > 4096
  · have h' : (s.size : Int) > 4096 := by omega
    simp only [B8, h, h', decide_true, if_true, sem_br, sem_ret, stepO_ret]; rfl
  · have h' : ¬ ((s.size : Int) > 4096) := by omega
    simp only [B8, h, h', decide_false, Bool.false_eq_true, if_false, sem_br, sem_nxt, stepO_nxt]
    have main : ∀ (a b : ByteArray) (c : Int) (d : ByteArray), res B8 (.c1 0 0 ((0 : Nat) : Int) (ba s.data.toList) a b c d) = some (pars (spl 10 [] s.data.toList) 0 z12) := by
      intro a b c d
      generalize hP : spl 10 [] s.data.toList = P
      generalize s.data.toList = r at hP hlen
      cases P with
      | nil => exact absurd hP (spl_ne r [])
      | cons p P =>
        rcases spl_split hP with ⟨rfl, rfl, h10⟩ | ⟨q, rfl, hp, hq⟩
        · by_cases h0 : r = []
          · subst h0
            rw [c1_end]; unfold pars; simp
          · rw [c1_last 0 h0 h10 (by omega)]; unfold pars; simp [h0]
        · have hP : P ≠ [] := by rw [← hq]; exact spl_ne q []
          rw [c1_line (by omega) hp (by omega)]
          obtain ⟨x, Q, rfl⟩ : ∃ x Q, P = x :: Q := by
            cases P with
            | nil => exact absurd rfl hP
            | cons x Q => exact ⟨x, Q, rfl⟩
          rw [pars]
          by_cases hw : wordsOk 0 (spl 32 [] p) = true
          · rw [if_pos hw, if_pos hw]
            exact c2_all _ 1 _ q (setM_len rfl (by omega)) (by omega) (by simp at hlen; omega) hq a b c d
          · rw [if_neg hw, if_neg hw]
    rw [ba_of] at main
    exact main _ _ _ _
end
section
open Go Go.RowKit
theorem cel_sD {P : List (List UInt8)} {i : Nat} (h : i < P.length) : dS (cel (P.map sD) i) = ba (P.getD i []) := by
  unfold cel
  simp [List.getD_eq_getElem?_getD, h, sD, dS]
theorem op_sD {P : List (List UInt8)} {i : Nat} (h : i < P.length) : (Option.map AV.d (List.drop i (P.map sD))[0]? = some (AV.d (DV.v (Value.string (ba (P.getD i [])))))) = True := by
  apply eq_true
  simp [List.getElem?_drop, h, sD, List.getD_eq_getElem?_getD]
theorem pars_cons {p q : List UInt8} {Q : List (List UInt8)} {n : Nat} {m : List Int} : pars (p :: q :: Q) n m = if wordsOk n (spl 32 [] p) = true then pars (q :: Q) (n + 1) (setM m n (wordsV (spl 32 [] p)).1 (wordsV (spl 32 [] p)).2) else zs n 25 := rfl
theorem pars_one {p : List UInt8} {n : Nat} {m : List Int} : pars [p] n m = if p = [] then fin n m else zs n 25 := rfl
end
section
open Go Go.RowKit
theorem need_p {α : Type} {p : Prop} (h : p) (x : Option α) : need p x = x := if_pos h
theorem dd_len (n : Nat) : (Lib.decDigits n).length ≤ n + 1 := by
  induction n using Nat.strongRecOn with
  | ind n ih =>
    rw [Lib.decDigits]
    split
    · simp
    · rename_i h
      have := ih (n / 10) (by omega)
      rw [List.length_append, List.length_singleton]
      omega
def lineL (k a b : Nat) : List UInt8 := nameL k ++ 32 :: (Lib.decDigits a ++ 32 :: (Lib.decDigits b ++ [10]))
def printL (a0 a1 a2 a3 a4 a5 a6 a7 a8 a9 a10 a11 : Nat) : List UInt8 := lineL 0 a0 a1 ++ lineL 1 a2 a3 ++ lineL 2 a4 a5 ++ lineL 3 a6 a7 ++ lineL 4 a8 a9 ++ lineL 5 a10 a11
theorem regE_z {u r : Int} (h : regE u r = 0) : (0 ≤ u ∧ u ≤ 999999) ∧ 0 ≤ r ∧ r ≤ 999999 := by
  unfold regE firstI rangeI at h
  by_cases h1 : u < 0 ∨ u > 999999
  · rw [if_pos h1] at h; simp at h
  · rw [if_neg h1, if_pos rfl] at h
    unfold firstI at h
    by_cases h2 : r < 0 ∨ r > 999999
    · rw [if_pos h2] at h; simp at h
    · omega
theorem first_z {x : Int} {l : List Int} (h : firstI (x :: l) = 0) : x = 0 ∧ firstI l = 0 := by
  unfold firstI at h
  by_cases hx : x = 0
  · rw [if_pos hx] at h; exact ⟨hx, h⟩
  · rw [if_neg hx] at h; exact absurd h hx
theorem chk_nat {b0 b1 b2 b3 b4 b5 b6 b7 b8 b9 b10 b11 : Int} (h : chk b0 b1 b2 b3 b4 b5 b6 b7 b8 b9 b10 b11 = 0) :
    ∃ a0 a1 a2 a3 a4 a5 a6 a7 a8 a9 a10 a11 : Nat, (b0 = (a0 : Int) ∧ b1 = (a1 : Int) ∧ b2 = (a2 : Int) ∧ b3 = (a3 : Int) ∧ b4 = (a4 : Int) ∧ b5 = (a5 : Int) ∧ b6 = (a6 : Int) ∧ b7 = (a7 : Int) ∧ b8 = (a8 : Int) ∧ b9 = (a9 : Int) ∧ b10 = (a10 : Int) ∧ b11 = (a11 : Int)) ∧ (a0 ≤ 999999 ∧ a1 ≤ 999999 ∧ a2 ≤ 999999 ∧ a3 ≤ 999999 ∧ a4 ≤ 999999 ∧ a5 ≤ 999999 ∧ a6 ≤ 999999 ∧ a7 ≤ 999999 ∧ a8 ≤ 999999 ∧ a9 ≤ 999999 ∧ a10 ≤ 999999 ∧ a11 ≤ 999999) := by
  unfold chk at h
  obtain ⟨e0, h⟩ := first_z h
  obtain ⟨e1, h⟩ := first_z h
  obtain ⟨e2, h⟩ := first_z h
  obtain ⟨e3, h⟩ := first_z h
  obtain ⟨e4, h⟩ := first_z h
  obtain ⟨e5, h⟩ := first_z h
  have e0 := regE_z e0
  have e1 := regE_z e1
  have e2 := regE_z e2
  have e3 := regE_z e3
  have e4 := regE_z e4
  have e5 := regE_z e5
  exact ⟨b0.toNat, b1.toNat, b2.toNat, b3.toNat, b4.toNat, b5.toNat, b6.toNat, b7.toNat, b8.toNat, b9.toNat, b10.toNat, b11.toNat, by omega, by omega⟩
theorem lit_e : (ByteArray.mk #[]) = ba [] := rfl
theorem lit_s : (ByteArray.mk #[32]) = ba [32] := rfl
theorem lit_n : (ByteArray.mk #[10]) = ba [10] := rfl
theorem lit_0 : (ByteArray.mk #[105, 109, 112, 111, 114, 116]) = ba [105, 109, 112, 111, 114, 116] := rfl
theorem lit_1 : (ByteArray.mk #[101, 120, 112, 111, 114, 116]) = ba [101, 120, 112, 111, 114, 116] := rfl
theorem lit_2 : (ByteArray.mk #[113, 49]) = ba [113, 49] := rfl
theorem lit_3 : (ByteArray.mk #[113, 50]) = ba [113, 50] := rfl
theorem lit_4 : (ByteArray.mk #[113, 51]) = ba [113, 51] := rfl
theorem lit_5 : (ByteArray.mk #[113, 52]) = ba [113, 52] := rfl
set_option maxHeartbeats 4000000 in
theorem F6_ok {a0 a1 a2 a3 a4 a5 a6 a7 a8 a9 a10 a11 : Nat} (h0 : a0 ≤ 999999) (h1 : a1 ≤ 999999) (h2 : a2 ≤ 999999) (h3 : a3 ≤ 999999) (h4 : a4 ≤ 999999) (h5 : a5 ≤ 999999) (h6 : a6 ≤ 999999) (h7 : a7 ≤ 999999) (h8 : a8 ≤ 999999) (h9 : a9 ≤ 999999) (h10 : a10 ≤ 999999) (h11 : a11 ≤ 999999) (hc : chk (a0 : Int) (a1 : Int) (a2 : Int) (a3 : Int) (a4 : Int) (a5 : Int) (a6 : Int) (a7 : Int) (a8 : Int) (a9 : Int) (a10 : Int) (a11 : Int) = 0) : F6 (a0 : Int) (a1 : Int) (a2 : Int) (a3 : Int) (a4 : Int) (a5 : Int) (a6 : Int) (a7 : Int) (a8 : Int) (a9 : Int) (a10 : Int) (a11 : Int) = some (ba (printL a0 a1 a2 a3 a4 a5 a6 a7 a8 a9 a10 a11), 0) := by
  have l0 := dd_len a0
  have l1 := dd_len a1
  have l2 := dd_len a2
  have l3 := dd_len a3
  have l4 := dd_len a4
  have l5 := dd_len a5
  have l6 := dd_len a6
  have l7 := dd_len a7
  have l8 := dd_len a8
  have l9 := dd_len a9
  have l10 := dd_len a10
  have l11 := dd_len a11
  unfold F6; rw [res_eq]
  simp (disch := omega) only [B6, F31_eq, hc, F32_eq h0, F32_eq h1, F32_eq h2, F32_eq h3, F32_eq h4, F32_eq h5, F32_eq h6, F32_eq h7, F32_eq h8, F32_eq h9, F32_eq h10, F32_eq h11, sem_bind_some, sem_sees, sem_br, sem_triv, sem_ask, sem_ret, PC.holds, bne_self_eq_false, Bool.false_eq_true, if_false, lit_e, lit_s, lit_n, lit_0, lit_1, lit_2, lit_3, lit_4, lit_5, ba_app, ba_size, List.nil_append, List.length_append, List.length_cons, List.length_nil, need_p, stepO_ret]
  unfold printL lineL nameL
  simp only [List.append_assoc, List.cons_append, List.nil_append]
set_option maxHeartbeats 4000000 in
end
section
open Go Go.RowKit
theorem F5_eq : F5 = some true := rfl
theorem F7_eq (a0 a1 a2 a3 a4 a5 a6 a7 a8 a9 a10 a11 : Int) : F7 a0 a1 a2 a3 a4 a5 a6 a7 a8 a9 a10 a11 = some (a0, a1, a2, a3, a4, a5, a6, a7, a8, a9, a10, a11) := by
  unfold F7; rw [res_eq]
  simp only [B7, sem_ret, stepO_ret]
theorem F12_eq (a0 a1 a2 a3 a4 a5 a6 a7 a8 a9 a10 a11 : Int) : F12 a0 a1 a2 a3 a4 a5 a6 a7 a8 a9 a10 a11 = some (a0, a1, a2, a3, a4, a5, a6, a7, a8, a9, a10, a11) := by
  unfold F12; rw [res_eq]
  simp only [B12, sem_ret, stepO_ret]
end
section
open Go Go.RowKit
theorem dig_nat {d : Nat} (h : d < 10) : (UInt8.ofNat (48 + d)).toNat = 48 + d := by
  rw [UInt8.toNat_ofNat']; exact Nat.mod_eq_of_lt (by omega)
theorem dig_isD {d : Nat} (h : d < 10) : isD (UInt8.ofNat (48 + d)) = true := by
  unfold isD; rw [dig_nat h]; simp; omega
theorem dd_all (n : Nat) : (Lib.decDigits n).all isD = true := by
  induction n using Nat.strongRecOn with
  | ind n ih =>
    rw [Lib.decDigits]
    split
    · rename_i h; rw [List.all_cons, dig_isD h]; rfl
    · rw [List.all_append, ih (n / 10) (by omega)]
      rw [List.all_cons, dig_isD (Nat.mod_lt n (by decide))]; rfl
theorem dvL_app : ∀ (x y : List UInt8) (a : Nat), dvL (x ++ y) a = dvL y (dvL x a)
  | [], _, _ => rfl
  | b :: x, y, a => by rw [List.cons_append, dvL, dvL, dvL_app x y]
theorem dd_val (n : Nat) : dvL (Lib.decDigits n) 0 = n := by
  induction n using Nat.strongRecOn with
  | ind n ih =>
    rw [Lib.decDigits]
    split
    · rename_i h
      rw [dvL, dvL, dig_nat h]; omega
    · rw [dvL_app, ih (n / 10) (by omega), dvL, dvL, dig_nat (Nat.mod_lt n (by decide))]; omega
theorem dd_lt (k : Nat) : ∀ n, n < 10 ^ (k + 1) → (Lib.decDigits n).length ≤ k + 1 := by
  induction k with
  | zero =>
    intro n h
    rw [Lib.decDigits_one (by simpa using h)]; simp
  | succ k ih =>
    intro n h
    rw [Lib.decDigits]
    split
    · simp
    · rw [List.length_append, List.length_singleton]
      have := ih (n / 10) (by rw [Nat.pow_succ] at h; omega)
      omega
theorem dd_6 {n : Nat} (h : n ≤ 999999) : (Lib.decDigits n).length ≤ 6 := dd_lt 5 n (by omega)
theorem dd_head (n : Nat) (h0 : 0 < n) : ∃ b r, Lib.decDigits n = b :: r ∧ b ≠ 48 := by
  induction n using Nat.strongRecOn with
  | ind n ih =>
    rw [Lib.decDigits]
    split
    · rename_i h
      refine ⟨_, _, rfl, ?_⟩
      intro e
      have := congrArg UInt8.toNat e
      rw [dig_nat h] at this
      have h48 : (48 : UInt8).toNat = 48 := rfl
      omega
    · obtain ⟨b, r, e, hb⟩ := ih (n / 10) (by omega) (by omega)
      rw [e]
      exact ⟨b, _, rfl, hb⟩
theorem dd_ok {n : Nat} (h : n ≤ 999999) : okD (Lib.decDigits n) = true := by
  unfold okD
  rw [dd_all, Bool.true_and]
  have := dd_6 h
  have h9 : decide ((Lib.decDigits n).length ≤ 9) = true := by rw [decide_eq_true_iff]; omega
  rw [h9, Bool.true_and]
  unfold hdD
  by_cases h0 : n = 0
  · subst h0; rw [Lib.decDigits_one (by decide)]; rfl
  · obtain ⟨b, r, e, hb⟩ := dd_head n (by omega)
    rw [e]
    have : ((b :: r).getD 0 0 != 48) = true := by rw [bne_iff_ne]; exact hb
    rw [this]; simp
theorem dd_inv (k : Nat) : ∀ (w : List UInt8), w.length = k → w.all isD = true → (∃ b r, w = b :: r ∧ b ≠ 48) → Lib.decDigits (dvL w 0) = w ∧ 0 < dvL w 0 := by
  induction k with
  | zero => intro w hk _ hb; obtain ⟨b, r, rfl, _⟩ := hb; simp at hk
  | succ k ih =>
    intro w hk hd hb
    obtain ⟨x, c, rfl⟩ : ∃ x c, w = x ++ [c] := by
      rcases List.eq_nil_or_concat w with h | ⟨x, c, h⟩
      · rw [h] at hk; simp at hk
      · exact ⟨x, c, by rw [h, List.concat_eq_append]⟩
    rw [List.all_append, Bool.and_eq_true] at hd
    have hc : isD c = true := by simpa using hd.2
    unfold isD at hc
    simp only [Bool.and_eq_true, decide_eq_true_eq] at hc
    have hcc : UInt8.ofNat (48 + (c.toNat - 48)) = c := by
      apply UInt8.toNat_inj.1
      rw [dig_nat (by omega)]; omega
    rw [dvL_app, dvL, dvL]
    have hm : c.toNat % 48 = c.toNat - 48 := by omega
    rw [hm]
    by_cases hx : x = []
    · subst hx
      obtain ⟨b, r, e, hb⟩ := hb
      simp only [List.nil_append, List.cons.injEq] at e
      obtain ⟨rfl, _⟩ := e
      have hne : c.toNat ≠ 48 := by
        intro e; apply hb; apply UInt8.toNat_inj.1; rw [e]; rfl
      rw [dvL, Nat.mul_zero, Nat.zero_add, Lib.decDigits_one (by omega), hcc]
      exact ⟨rfl, by omega⟩
    · obtain ⟨h1, h2⟩ := ih x (by simp at hk; omega) hd.1 (by
        obtain ⟨b, r, e, hb⟩ := hb
        cases x with
        | nil => exact absurd rfl hx
        | cons y x =>
          simp only [List.cons_append, List.cons.injEq] at e
          exact ⟨y, x, rfl, by rw [e.1]; exact hb⟩)
      rw [Lib.decDigits]
      split
      · omega
      · rw [show (10 * dvL x 0 + (c.toNat - 48)) / 10 = dvL x 0 by omega, h1, show (10 * dvL x 0 + (c.toNat - 48)) % 10 = c.toNat - 48 by omega, hcc]
        exact ⟨rfl, by omega⟩
theorem dd_back {w : List UInt8} (h : okD w = true) : Lib.decDigits (dvL w 0) = w := by
  unfold okD hdD at h
  simp only [Bool.and_eq_true, Bool.or_eq_true, decide_eq_true_eq] at h
  obtain ⟨⟨h1, _⟩, h3⟩ := h
  rcases h3 with h3 | ⟨h3, h4⟩
  · rw [h3, show dvL [48] 0 = 0 from rfl, Lib.decDigits_one (by decide)]; rfl
  · refine (dd_inv w.length w rfl h1 ?_).1
    cases w with
    | nil => simp at h3
    | cons b r => exact ⟨b, r, rfl, by rw [bne_iff_ne] at h4; exact h4⟩
def lb (k a b : Nat) : List UInt8 := nameL k ++ 32 :: (Lib.decDigits a ++ 32 :: Lib.decDigits b)
theorem lineL_eq (k a b : Nat) : lineL k a b = lb k a b ++ [10] := by
  unfold lineL lb
  simp only [List.append_assoc, List.cons_append]
theorem nodig {c : UInt8} (hc : c.toNat < 48) (n : Nat) : c ∉ Lib.decDigits n := by
  intro h
  have := dd_all n
  rw [List.all_eq_true] at this
  have := this c h
  unfold isD at this
  simp only [Bool.and_eq_true, decide_eq_true_eq] at this
  omega
theorem noname (k : Nat) : (10 : UInt8) ∉ nameL k ∧ (32 : UInt8) ∉ nameL k := by
  unfold nameL
  split <;> decide
theorem lb_10 (k a b : Nat) : (10 : UInt8) ∉ lb k a b := by
  unfold lb
  simp only [List.mem_append, List.mem_cons, not_or]
  exact ⟨(noname k).1, by decide, nodig (by decide) a, by decide, nodig (by decide) b⟩
theorem lb_32 (k a b : Nat) : spl 32 [] (lb k a b) = [nameL k, Lib.decDigits a, Lib.decDigits b] := by
  unfold lb
  rw [spl_app _ _ _ (noname k).2, spl_app _ _ _ (nodig (by decide) a), spl_none _ _ (nodig (by decide) b)]; rfl
theorem lb_ok {k a b : Nat} (hk : k < 6) (ha : a ≤ 999999) (hb : b ≤ 999999) : wordsOk k (spl 32 [] (lb k a b)) = true := by
  rw [lb_32]; unfold wordsOk
  simp [hk, dd_ok ha, dd_ok hb]
theorem lb_v (k a b : Nat) : wordsV (spl 32 [] (lb k a b)) = ((a : Int), (b : Int)) := by
  rw [lb_32]
  show ((dvL (Lib.decDigits a) 0 : Int), (dvL (Lib.decDigits b) 0 : Int)) = _
  rw [dd_val, dd_val]
theorem lb_ne (k a b : Nat) : lb k a b ≠ [] := by unfold lb; intro h; have := congrArg List.length h; simp at this
theorem line_back {n : Nat} {p : List UInt8} (h : wordsOk n (spl 32 [] p) = true) : ∃ a b : Nat, p = lb n a b ∧ wordsV (spl 32 [] p) = ((a : Int), (b : Int)) := by
  generalize hW : spl 32 [] p = W at h
  unfold wordsOk at h
  split at h
  · rename_i w0 w1 w2
    simp only [Bool.and_eq_true, decide_eq_true_eq] at h
    obtain ⟨⟨⟨_, rfl⟩, o1⟩, o2⟩ := h
    rcases spl_split hW with ⟨h, _⟩ | ⟨q, rfl, _, hq⟩
    · simp at h
    · rcases spl_split hq with ⟨h, _⟩ | ⟨r, rfl, _, hr⟩
      · simp at h
      · rcases spl_split hr with ⟨_, rfl, _⟩ | ⟨t, _, _, ht⟩
        · refine ⟨dvL w1 0, dvL r 0, ?_, rfl⟩
          unfold lb
          rw [dd_back o1, dd_back o2]
        · exact absurd ht (spl_ne t [])
  · simp at h
end
section
open Go Go.RowKit
theorem sm0 (b0 b1 : Int) : setM z12 0 b0 b1 = [b0, b1, 0, 0, 0, 0, 0, 0, 0, 0, 0, 0] := rfl
theorem sm1 (b0 b1 b2 b3 : Int) : setM [b0, b1, 0, 0, 0, 0, 0, 0, 0, 0, 0, 0] 1 b2 b3 = [b0, b1, b2, b3, 0, 0, 0, 0, 0, 0, 0, 0] := rfl
theorem sm2 (b0 b1 b2 b3 b4 b5 : Int) : setM [b0, b1, b2, b3, 0, 0, 0, 0, 0, 0, 0, 0] 2 b4 b5 = [b0, b1, b2, b3, b4, b5, 0, 0, 0, 0, 0, 0] := rfl
theorem sm3 (b0 b1 b2 b3 b4 b5 b6 b7 : Int) : setM [b0, b1, b2, b3, b4, b5, 0, 0, 0, 0, 0, 0] 3 b6 b7 = [b0, b1, b2, b3, b4, b5, b6, b7, 0, 0, 0, 0] := rfl
theorem sm4 (b0 b1 b2 b3 b4 b5 b6 b7 b8 b9 : Int) : setM [b0, b1, b2, b3, b4, b5, b6, b7, 0, 0, 0, 0] 4 b8 b9 = [b0, b1, b2, b3, b4, b5, b6, b7, b8, b9, 0, 0] := rfl
theorem sm5 (b0 b1 b2 b3 b4 b5 b6 b7 b8 b9 b10 b11 : Int) : setM [b0, b1, b2, b3, b4, b5, b6, b7, b8, b9, 0, 0] 5 b10 b11 = [b0, b1, b2, b3, b4, b5, b6, b7, b8, b9, b10, b11] := rfl
theorem mt12 (b0 b1 b2 b3 b4 b5 b6 b7 b8 b9 b10 b11 : Int) : mt [b0, b1, b2, b3, b4, b5, b6, b7, b8, b9, b10, b11] = (b0, b1, b2, b3, b4, b5, b6, b7, b8, b9, b10, b11, 0, 0) := rfl
theorem chk12 (b0 b1 b2 b3 b4 b5 b6 b7 b8 b9 b10 b11 : Int) : chkM [b0, b1, b2, b3, b4, b5, b6, b7, b8, b9, b10, b11] = chk b0 b1 b2 b3 b4 b5 b6 b7 b8 b9 b10 b11 := rfl
theorem printL_cut (a0 a1 a2 a3 a4 a5 a6 a7 a8 a9 a10 a11 : Nat) : printL a0 a1 a2 a3 a4 a5 a6 a7 a8 a9 a10 a11 = lb 0 a0 a1 ++ 10 :: (lb 1 a2 a3 ++ 10 :: (lb 2 a4 a5 ++ 10 :: (lb 3 a6 a7 ++ 10 :: (lb 4 a8 a9 ++ 10 :: (lb 5 a10 a11 ++ 10 :: ([])))))) := by
  unfold printL
  simp only [lineL_eq, List.append_assoc, List.cons_append, List.nil_append]
def cut1 (a0 a1 a2 a3 a4 a5 a6 a7 a8 a9 a10 a11 : Nat) : List UInt8 := lb 0 a0 a1 ++ 10 :: (lb 1 a2 a3 ++ 10 :: (lb 2 a4 a5 ++ 10 :: (lb 3 a6 a7 ++ 10 :: (lb 4 a8 a9 ++ 10 :: (lb 5 a10 a11)))))
def cut2 (a0 a1 a2 a3 a4 a5 a6 a7 a8 a9 a10 a11 : Nat) : List UInt8 := lb 0 a0 a1 ++ 10 :: (lb 1 a2 a3 ++ 10 :: (lb 2 a4 a5 ++ 10 :: (lb 3 a6 a7 ++ 10 :: (lb 4 a8 a9 ++ 10 :: ([])))))
theorem print_1 (a0 a1 a2 a3 a4 a5 a6 a7 a8 a9 a10 a11 : Nat) : printL a0 a1 a2 a3 a4 a5 a6 a7 a8 a9 a10 a11 = cut1 a0 a1 a2 a3 a4 a5 a6 a7 a8 a9 a10 a11 ++ [10] := by
  rw [printL_cut]; unfold cut1
  simp only [List.append_assoc, List.cons_append, List.nil_append]
theorem print_2 (a0 a1 a2 a3 a4 a5 a6 a7 a8 a9 a10 a11 : Nat) : printL a0 a1 a2 a3 a4 a5 a6 a7 a8 a9 a10 a11 = cut2 a0 a1 a2 a3 a4 a5 a6 a7 a8 a9 a10 a11 ++ (lb 5 a10 a11 ++ [10]) := by
  rw [printL_cut]; unfold cut2
  simp only [List.append_assoc, List.cons_append, List.nil_append]
theorem spl_print (a0 a1 a2 a3 a4 a5 a6 a7 a8 a9 a10 a11 : Nat) : spl 10 [] (printL a0 a1 a2 a3 a4 a5 a6 a7 a8 a9 a10 a11) = [lb 0 a0 a1, lb 1 a2 a3, lb 2 a4 a5, lb 3 a6 a7, lb 4 a8 a9, lb 5 a10 a11, []] := by
  rw [printL_cut]
  rw [spl_app _ _ _ (lb_10 _ _ _), spl_app _ _ _ (lb_10 _ _ _), spl_app _ _ _ (lb_10 _ _ _), spl_app _ _ _ (lb_10 _ _ _), spl_app _ _ _ (lb_10 _ _ _), spl_app _ _ _ (lb_10 _ _ _)]; rfl
theorem spl_cut1 (a0 a1 a2 a3 a4 a5 a6 a7 a8 a9 a10 a11 : Nat) : spl 10 [] (cut1 a0 a1 a2 a3 a4 a5 a6 a7 a8 a9 a10 a11) = [lb 0 a0 a1, lb 1 a2 a3, lb 2 a4 a5, lb 3 a6 a7, lb 4 a8 a9, lb 5 a10 a11] := by
  unfold cut1
  rw [spl_app _ _ _ (lb_10 _ _ _), spl_app _ _ _ (lb_10 _ _ _), spl_app _ _ _ (lb_10 _ _ _), spl_app _ _ _ (lb_10 _ _ _), spl_app _ _ _ (lb_10 _ _ _), spl_none _ _ (lb_10 _ _ _)]; rfl
theorem spl_cut2 (a0 a1 a2 a3 a4 a5 a6 a7 a8 a9 a10 a11 : Nat) : spl 10 [] (cut2 a0 a1 a2 a3 a4 a5 a6 a7 a8 a9 a10 a11) = [lb 0 a0 a1, lb 1 a2 a3, lb 2 a4 a5, lb 3 a6 a7, lb 4 a8 a9, []] := by
  unfold cut2
  rw [spl_app _ _ _ (lb_10 _ _ _), spl_app _ _ _ (lb_10 _ _ _), spl_app _ _ _ (lb_10 _ _ _), spl_app _ _ _ (lb_10 _ _ _), spl_app _ _ _ (lb_10 _ _ _)]; rfl
theorem pars_print {a0 a1 a2 a3 a4 a5 a6 a7 a8 a9 a10 a11 : Nat} (h0 : a0 ≤ 999999) (h1 : a1 ≤ 999999) (h2 : a2 ≤ 999999) (h3 : a3 ≤ 999999) (h4 : a4 ≤ 999999) (h5 : a5 ≤ 999999) (h6 : a6 ≤ 999999) (h7 : a7 ≤ 999999) (h8 : a8 ≤ 999999) (h9 : a9 ≤ 999999) (h10 : a10 ≤ 999999) (h11 : a11 ≤ 999999) (hc : chk (a0 : Int) (a1 : Int) (a2 : Int) (a3 : Int) (a4 : Int) (a5 : Int) (a6 : Int) (a7 : Int) (a8 : Int) (a9 : Int) (a10 : Int) (a11 : Int) = 0) : pars (spl 10 [] (printL a0 a1 a2 a3 a4 a5 a6 a7 a8 a9 a10 a11)) 0 z12 = ((a0 : Int), (a1 : Int), (a2 : Int), (a3 : Int), (a4 : Int), (a5 : Int), (a6 : Int), (a7 : Int), (a8 : Int), (a9 : Int), (a10 : Int), (a11 : Int), 0, 0) := by
  rw [spl_print]
  rw [pars_cons, if_pos (lb_ok (by decide) h0 h1), lb_v, sm0, show 0 + 1 = 1 from rfl]
  rw [pars_cons, if_pos (lb_ok (by decide) h2 h3), lb_v, sm1, show 1 + 1 = 2 from rfl]
  rw [pars_cons, if_pos (lb_ok (by decide) h4 h5), lb_v, sm2, show 2 + 1 = 3 from rfl]
  rw [pars_cons, if_pos (lb_ok (by decide) h6 h7), lb_v, sm3, show 3 + 1 = 4 from rfl]
  rw [pars_cons, if_pos (lb_ok (by decide) h8 h9), lb_v, sm4, show 4 + 1 = 5 from rfl]
  rw [pars_cons, if_pos (lb_ok (by decide) h10 h11), lb_v, sm5, show 5 + 1 = 6 from rfl]
  rw [pars_one, if_pos rfl]
  unfold fin
  rw [if_neg (by decide)]
  have e : ∀ b0 b1 b2 b3 b4 b5 b6 b7 b8 b9 b10 b11 : Int, chkM [b0, b1, b2, b3, b4, b5, b6, b7, b8, b9, b10, b11] = chk b0 b1 b2 b3 b4 b5 b6 b7 b8 b9 b10 b11 := fun _ _ _ _ _ _ _ _ _ _ _ _ => rfl
  rw [e, if_pos hc, mt12]
theorem pars_cut1 {a0 a1 a2 a3 a4 a5 a6 a7 a8 a9 a10 a11 : Nat} (h0 : a0 ≤ 999999) (h1 : a1 ≤ 999999) (h2 : a2 ≤ 999999) (h3 : a3 ≤ 999999) (h4 : a4 ≤ 999999) (h5 : a5 ≤ 999999) (h6 : a6 ≤ 999999) (h7 : a7 ≤ 999999) (h8 : a8 ≤ 999999) (h9 : a9 ≤ 999999) (h10 : a10 ≤ 999999) (h11 : a11 ≤ 999999) : pars (spl 10 [] (cut1 a0 a1 a2 a3 a4 a5 a6 a7 a8 a9 a10 a11)) 0 z12 = zs 5 25 := by
  rw [spl_cut1]
  rw [pars_cons, if_pos (lb_ok (by decide) h0 h1), lb_v, sm0, show 0 + 1 = 1 from rfl]
  rw [pars_cons, if_pos (lb_ok (by decide) h2 h3), lb_v, sm1, show 1 + 1 = 2 from rfl]
  rw [pars_cons, if_pos (lb_ok (by decide) h4 h5), lb_v, sm2, show 2 + 1 = 3 from rfl]
  rw [pars_cons, if_pos (lb_ok (by decide) h6 h7), lb_v, sm3, show 3 + 1 = 4 from rfl]
  rw [pars_cons, if_pos (lb_ok (by decide) h8 h9), lb_v, sm4, show 4 + 1 = 5 from rfl]
  rw [pars_one, if_neg (lb_ne _ _ _)]
theorem pars_cut2 {a0 a1 a2 a3 a4 a5 a6 a7 a8 a9 a10 a11 : Nat} (h0 : a0 ≤ 999999) (h1 : a1 ≤ 999999) (h2 : a2 ≤ 999999) (h3 : a3 ≤ 999999) (h4 : a4 ≤ 999999) (h5 : a5 ≤ 999999) (h6 : a6 ≤ 999999) (h7 : a7 ≤ 999999) (h8 : a8 ≤ 999999) (h9 : a9 ≤ 999999) (h10 : a10 ≤ 999999) (h11 : a11 ≤ 999999) : pars (spl 10 [] (cut2 a0 a1 a2 a3 a4 a5 a6 a7 a8 a9 a10 a11)) 0 z12 = zs 5 16 := by
  rw [spl_cut2]
  rw [pars_cons, if_pos (lb_ok (by decide) h0 h1), lb_v, sm0, show 0 + 1 = 1 from rfl]
  rw [pars_cons, if_pos (lb_ok (by decide) h2 h3), lb_v, sm1, show 1 + 1 = 2 from rfl]
  rw [pars_cons, if_pos (lb_ok (by decide) h4 h5), lb_v, sm2, show 2 + 1 = 3 from rfl]
  rw [pars_cons, if_pos (lb_ok (by decide) h6 h7), lb_v, sm3, show 3 + 1 = 4 from rfl]
  rw [pars_cons, if_pos (lb_ok (by decide) h8 h9), lb_v, sm4, show 4 + 1 = 5 from rfl]
  rw [pars_one, if_pos rfl]
  rfl
def eR (X : Int × Int × Int × Int × Int × Int × Int × Int × Int × Int × Int × Int × Int × Int) : Int := X.2.2.2.2.2.2.2.2.2.2.2.2.2
theorem eR_zs (n : Nat) (e : Int) : eR (zs n e) = e := rfl
theorem back_step {n : Nat} (hn : n < 6) {m : List Int} {r : List UInt8} (h : eR (pars (spl 10 [] r) n m) = 0) : ∃ a b : Nat, ∃ r', r = lb n a b ++ 10 :: r' ∧ pars (spl 10 [] r) n m = pars (spl 10 [] r') (n + 1) (setM m n (a : Int) (b : Int)) := by
  generalize hP : spl 10 [] r = P at h
  match P with
  | [] => exact absurd hP (spl_ne r [])
  | [p] =>
    rw [pars_one] at h
    exfalso
    by_cases h0 : p = []
    · rw [if_pos h0] at h; unfold fin at h; rw [if_pos hn] at h
      rw [eR_zs] at h; exact absurd h (by decide)
    · rw [if_neg h0, eR_zs] at h
      exact absurd h (by decide)
  | p :: q :: Q =>
    rw [pars_cons] at h ⊢
    by_cases hw : wordsOk n (spl 32 [] p) = true
    · obtain ⟨a, b, rfl, hv⟩ := line_back hw
      rcases spl_split hP with ⟨hh, _⟩ | ⟨r', rfl, _, hq⟩
      · cases hh
      · exact ⟨a, b, r', rfl, by rw [if_pos hw, hv, hq]⟩
    · rw [if_neg hw, eR_zs] at h
      exact absurd h (by decide)
theorem back_last {m : List Int} {r : List UInt8} (h : eR (pars (spl 10 [] r) 6 m) = 0) : r = [] ∧ chkM m = 0 ∧ pars (spl 10 [] r) 6 m = mt m := by
  generalize hP : spl 10 [] r = P at h
  match P with
  | [] => exact absurd hP (spl_ne r [])
  | [p] =>
    rw [pars_one] at h ⊢
    by_cases h0 : p = []
    · rw [if_pos h0] at h ⊢
      unfold fin at h ⊢
      rw [if_neg (by decide)] at h ⊢
      rcases spl_split hP with ⟨_, hr, _⟩ | ⟨q, _, _, hq⟩
      · by_cases hz : chkM m = 0
        · rw [if_pos hz]; exact ⟨by rw [hr, h0], hz, rfl⟩
        · rw [if_neg hz, eR_zs] at h; exact absurd h hz
      · exact absurd hq (spl_ne q [])
    · rw [if_neg h0, eR_zs] at h
      exact absurd h (by decide)
  | p :: q :: Q =>
    rw [pars_cons, wordsOk_6 (by decide), if_neg (by decide), eR_zs] at h
    exact absurd h (by decide)
theorem pars_back {r : List UInt8} (h : eR (pars (spl 10 [] r) 0 z12) = 0) : ∃ a0 a1 a2 a3 a4 a5 a6 a7 a8 a9 a10 a11 : Nat, r = printL a0 a1 a2 a3 a4 a5 a6 a7 a8 a9 a10 a11 ∧ pars (spl 10 [] r) 0 z12 = ((a0 : Int), (a1 : Int), (a2 : Int), (a3 : Int), (a4 : Int), (a5 : Int), (a6 : Int), (a7 : Int), (a8 : Int), (a9 : Int), (a10 : Int), (a11 : Int), 0, 0) ∧ chk (a0 : Int) (a1 : Int) (a2 : Int) (a3 : Int) (a4 : Int) (a5 : Int) (a6 : Int) (a7 : Int) (a8 : Int) (a9 : Int) (a10 : Int) (a11 : Int) = 0 := by
  obtain ⟨a0, a1, r1, e0, k0⟩ := back_step (by decide) h
  rw [k0] at h
  obtain ⟨a2, a3, r2, e1, k1⟩ := back_step (by decide) h
  rw [k1] at h
  obtain ⟨a4, a5, r3, e2, k2⟩ := back_step (by decide) h
  rw [k2] at h
  obtain ⟨a6, a7, r4, e3, k3⟩ := back_step (by decide) h
  rw [k3] at h
  obtain ⟨a8, a9, r5, e4, k4⟩ := back_step (by decide) h
  rw [k4] at h
  obtain ⟨a10, a11, r6, e5, k5⟩ := back_step (by decide) h
  rw [k5] at h
  rw [sm0, show 0 + 1 = 1 from rfl, sm1, show 1 + 1 = 2 from rfl, sm2, show 2 + 1 = 3 from rfl, sm3, show 3 + 1 = 4 from rfl, sm4, show 4 + 1 = 5 from rfl, sm5, show 5 + 1 = 6 from rfl] at h
  obtain ⟨e6, hz, k6⟩ := back_last h
  rw [chk12] at hz
  refine ⟨a0, a1, a2, a3, a4, a5, a6, a7, a8, a9, a10, a11, ?_, ?_, hz⟩
  · rw [printL_cut, e0, e1, e2, e3, e4, e5, e6]
  · rw [k0, k1, k2, k3, k4, k5, sm0, show 0 + 1 = 1 from rfl, sm1, show 1 + 1 = 2 from rfl, sm2, show 2 + 1 = 3 from rfl, sm3, show 3 + 1 = 4 from rfl, sm4, show 4 + 1 = 5 from rfl, sm5, show 5 + 1 = 6 from rfl, k6, mt12]
theorem nat_le {a0 a1 a2 a3 a4 a5 a6 a7 a8 a9 a10 a11 : Nat} (h : chk (a0 : Int) (a1 : Int) (a2 : Int) (a3 : Int) (a4 : Int) (a5 : Int) (a6 : Int) (a7 : Int) (a8 : Int) (a9 : Int) (a10 : Int) (a11 : Int) = 0) : a0 ≤ 999999 ∧ a1 ≤ 999999 ∧ a2 ≤ 999999 ∧ a3 ≤ 999999 ∧ a4 ≤ 999999 ∧ a5 ≤ 999999 ∧ a6 ≤ 999999 ∧ a7 ≤ 999999 ∧ a8 ≤ 999999 ∧ a9 ≤ 999999 ∧ a10 ≤ 999999 ∧ a11 ≤ 999999 := by
  obtain ⟨c0, c1, c2, c3, c4, c5, c6, c7, c8, c9, c10, c11, e, l⟩ := chk_nat h
  omega
theorem nameL_len (k : Nat) : (nameL k).length ≤ 6 := by
  unfold nameL
  split <;> decide
theorem lb_len {k a b : Nat} (ha : a ≤ 999999) (hb : b ≤ 999999) : (lb k a b).length ≤ 20 := by
  have h1 := nameL_len k; have h2 := dd_6 ha; have h3 := dd_6 hb
  unfold lb
  simp only [List.length_append, List.length_cons]; omega
theorem print_len {a0 a1 a2 a3 a4 a5 a6 a7 a8 a9 a10 a11 : Nat} (h0 : a0 ≤ 999999) (h1 : a1 ≤ 999999) (h2 : a2 ≤ 999999) (h3 : a3 ≤ 999999) (h4 : a4 ≤ 999999) (h5 : a5 ≤ 999999) (h6 : a6 ≤ 999999) (h7 : a7 ≤ 999999) (h8 : a8 ≤ 999999) (h9 : a9 ≤ 999999) (h10 : a10 ≤ 999999) (h11 : a11 ≤ 999999) : (printL a0 a1 a2 a3 a4 a5 a6 a7 a8 a9 a10 a11).length ≤ 126 := by
  have l0 := lb_len (k := 0) h0 h1
  have l1 := lb_len (k := 1) h2 h3
  have l2 := lb_len (k := 2) h4 h5
  have l3 := lb_len (k := 3) h6 h7
  have l4 := lb_len (k := 4) h8 h9
  have l5 := lb_len (k := 5) h10 h11
  rw [printL_cut]
  simp only [List.length_append, List.length_cons, List.length_nil]; omega
end
section
open Go Go.RowKit
theorem F8_ba {r : List UInt8} (h : r.length ≤ 4096) : F8 (ba r) = some (pars (spl 10 [] r) 0 z12) := by
  rw [F8_eq, ba_size, ba_data, if_neg (by omega)]
set_option maxHeartbeats 4000000 in
theorem back_true (b0 b1 b2 b3 b4 b5 b6 b7 b8 b9 b10 b11 : Int) (s : ByteArray) : F4 b0 b1 b2 b3 b4 b5 b6 b7 b8 b9 b10 b11 s = some true := by
  unfold F4; rw [res_eq]
  by_cases hs : (if (chk b0 b1 b2 b3 b4 b5 b6 b7 b8 b9 b10 b11 != 0) = true then true else decide ((s.size : Int) > 300)) = true
  · simp only [B4, F9_eq, hs, F5_eq, sem_triv, sem_br, sem_bind_some, sem_sees, sem_ret, if_true, stepO_ret]
  · have hc : chk b0 b1 b2 b3 b4 b5 b6 b7 b8 b9 b10 b11 = 0 := by
      apply Classical.byContradiction
      intro h; apply hs; rw [bne_iff_ne.2 h]; rfl
    have hsz : s.size ≤ 300 := by
      rw [hc] at hs
      simp at hs; omega
    obtain ⟨a0, a1, a2, a3, a4, a5, a6, a7, a8, a9, a10, a11, ⟨rfl, rfl, rfl, rfl, rfl, rfl, rfl, rfl, rfl, rfl, rfl, rfl⟩, q0, q1, q2, q3, q4, q5, q6, q7, q8, q9, q10, q11⟩ := chk_nat hc
    have hN := print_len q0 q1 q2 q3 q4 q5 q6 q7 q8 q9 q10 q11
    have hp1 : printL a0 a1 a2 a3 a4 a5 a6 a7 a8 a9 a10 a11 = cut1 a0 a1 a2 a3 a4 a5 a6 a7 a8 a9 a10 a11 ++ [10] := print_1 a0 a1 a2 a3 a4 a5 a6 a7 a8 a9 a10 a11
    have hp2 : printL a0 a1 a2 a3 a4 a5 a6 a7 a8 a9 a10 a11 = cut2 a0 a1 a2 a3 a4 a5 a6 a7 a8 a9 a10 a11 ++ (lb 5 a10 a11 ++ [10]) := print_2 a0 a1 a2 a3 a4 a5 a6 a7 a8 a9 a10 a11
    have n1 : (printL a0 a1 a2 a3 a4 a5 a6 a7 a8 a9 a10 a11).length = (cut1 a0 a1 a2 a3 a4 a5 a6 a7 a8 a9 a10 a11).length + 1 := by rw [hp1]; simp
    have n2 : (printL a0 a1 a2 a3 a4 a5 a6 a7 a8 a9 a10 a11).length = (cut2 a0 a1 a2 a3 a4 a5 a6 a7 a8 a9 a10 a11).length + (lb 5 a10 a11).length + 1 := by rw [hp2]; simp; omega
    have t1 : (ba (printL a0 a1 a2 a3 a4 a5 a6 a7 a8 a9 a10 a11)).extract 0 (cut1 a0 a1 a2 a3 a4 a5 a6 a7 a8 a9 a10 a11).length = ba (cut1 a0 a1 a2 a3 a4 a5 a6 a7 a8 a9 a10 a11) := by
      rw [ext_ba, ba_data, List.drop_zero, hp1, List.take_left]
    have t2 : (ba (printL a0 a1 a2 a3 a4 a5 a6 a7 a8 a9 a10 a11)).extract 0 (cut2 a0 a1 a2 a3 a4 a5 a6 a7 a8 a9 a10 a11).length = ba (cut2 a0 a1 a2 a3 a4 a5 a6 a7 a8 a9 a10 a11) := by
      rw [ext_ba, ba_data, List.drop_zero, hp2, List.take_left]
    have f0 : F8 (ba (printL a0 a1 a2 a3 a4 a5 a6 a7 a8 a9 a10 a11)) = some ((a0 : Int), (a1 : Int), (a2 : Int), (a3 : Int), (a4 : Int), (a5 : Int), (a6 : Int), (a7 : Int), (a8 : Int), (a9 : Int), (a10 : Int), (a11 : Int), 0, 0) := by
      rw [F8_ba (by omega), pars_print q0 q1 q2 q3 q4 q5 q6 q7 q8 q9 q10 q11 hc]
    have f1 : F8 (ba (cut1 a0 a1 a2 a3 a4 a5 a6 a7 a8 a9 a10 a11)) = some (0, 0, 0, 0, 0, 0, 0, 0, 0, 0, 0, 0, 5, 25) := by
      rw [F8_ba (by omega), pars_cut1 q0 q1 q2 q3 q4 q5 q6 q7 q8 q9 q10 q11]; rfl
    have f2 : F8 (ba (cut2 a0 a1 a2 a3 a4 a5 a6 a7 a8 a9 a10 a11)) = some (0, 0, 0, 0, 0, 0, 0, 0, 0, 0, 0, 0, 5, 16) := by
      rw [F8_ba (by omega), pars_cut2 q0 q1 q2 q3 q4 q5 q6 q7 q8 q9 q10 q11]; rfl
    have h13 := F13_eq (ba (printL a0 a1 a2 a3 a4 a5 a6 a7 a8 a9 a10 a11)) 10 (by rw [ba_size]; omega)
    rw [ba_data, spl_print, show ((UInt8.toNat 10 : Nat) : Int) = 10 from rfl] at h13
    have hz : (ba (printL a0 a1 a2 a3 a4 a5 a6 a7 a8 a9 a10 a11)).size = (printL a0 a1 a2 a3 a4 a5 a6 a7 a8 a9 a10 a11).length := ba_size _
    have g1 : ((printL a0 a1 a2 a3 a4 a5 a6 a7 a8 a9 a10 a11).length : Int) - 1 = ((cut1 a0 a1 a2 a3 a4 a5 a6 a7 a8 a9 a10 a11).length : Int) := by omega
    have g2 : ((cut1 a0 a1 a2 a3 a4 a5 a6 a7 a8 a9 a10 a11).length : Int) - ((lb 5 a10 a11).length : Int) = ((cut2 a0 a1 a2 a3 a4 a5 a6 a7 a8 a9 a10 a11).length : Int) := by omega
    have i1 : inI64 ((cut1 a0 a1 a2 a3 a4 a5 a6 a7 a8 a9 a10 a11).length : Int) := by unfold inI64; omega
    have i2 : inI64 ((cut2 a0 a1 a2 a3 a4 a5 a6 a7 a8 a9 a10 a11).length : Int) := by unfold inI64; omega
    have l1 : ((cut1 a0 a1 a2 a3 a4 a5 a6 a7 a8 a9 a10 a11).length : Int) ≤ ((printL a0 a1 a2 a3 a4 a5 a6 a7 a8 a9 a10 a11).length : Int) := by omega
    have l2 : ((cut2 a0 a1 a2 a3 a4 a5 a6 a7 a8 a9 a10 a11).length : Int) ≤ ((printL a0 a1 a2 a3 a4 a5 a6 a7 a8 a9 a10 a11).length : Int) := by omega
    have hc5 : dS (cel (([lb 0 a0 a1, lb 1 a2 a3, lb 2 a4 a5, lb 3 a6 a7, lb 4 a8 a9, lb 5 a10 a11, []] : List (List UInt8)).map sD) 5) = ba (lb 5 a10 a11) := cel_sD (i := 5) (P := [lb 0 a0 a1, lb 1 a2 a3, lb 2 a4 a5, lb 3 a6 a7, lb 4 a8 a9, lb 5 a10 a11, []]) (by simp)
    have o5 := op_sD (i := 5) (P := [lb 0 a0 a1, lb 1 a2 a3, lb 2 a4 a5, lb 3 a6 a7, lb 4 a8 a9, lb 5 a10 a11, []]) (by simp)
    have o5 : (Option.map AV.d (List.drop 5 (([lb 0 a0 a1, lb 1 a2 a3, lb 2 a4 a5, lb 3 a6 a7, lb 4 a8 a9, lb 5 a10 a11, []] : List (List UInt8)).map sD))[0]? = some (AV.d (DV.v (Value.string (ba (lb 5 a10 a11)))))) = True := o5
    have k7 : (([lb 0 a0 a1, lb 1 a2 a3, lb 2 a4 a5, lb 3 a6 a7, lb 4 a8 a9, lb 5 a10 a11, []] : List (List UInt8)).length : Int) = 7 := rfl
    have k8 : (([lb 0 a0 a1, lb 1 a2 a3, lb 2 a4 a5, lb 3 a6 a7, lb 4 a8 a9, lb 5 a10 a11, []] : List (List UInt8)).map sD).length = 7 := rfl
    have x5 : (5 : Int) < 7 := by decide
    have x6 : (5 : Nat) ≤ 7 := by decide
    have bz : (lb 5 a10 a11).length = (ba (lb 5 a10 a11)).size := (ba_size _).symm
    have bs : (ba (lb 5 a10 a11)).size = (lb 5 a10 a11).length := ba_size _
    have e7 : ((7 : Int) != 7) = false := rfl
    have hs' : F8 s = some (pars (spl 10 [] s.data.toList) 0 z12) := by
      rw [F8_eq, if_neg (by omega)]
    have y1 : ((0 : Int) != 0) = false := rfl
    have y2 : ((25 : Int) == 25) = true := rfl
    have y3 : ((5 : Int) == 5) = true := rfl
    have y4 : ((16 : Int) == 16) = true := rfl
    have y5 : ((0 : Int) == 0) = true := rfl
    by_cases hX : eR (pars (spl 10 [] s.data.toList) 0 z12) = 0
    · obtain ⟨c0, c1, c2, c3, c4, c5, c6, c7, c8, c9, c10, c11, e1, e2, e3⟩ := pars_back hX
      rw [e2] at hs'
      have es : s = ba (printL c0 c1 c2 c3 c4 c5 c6 c7 c8 c9 c10 c11) := by rw [← e1, ba_of]
      obtain ⟨u0, u1, u2, u3, u4, u5, u6, u7, u8, u9, u10, u11⟩ := nat_le e3
      have h6 := F6_ok u0 u1 u2 u3 u4 u5 u6 u7 u8 u9 u10 u11 e3
      have he : eqS (ba (printL c0 c1 c2 c3 c4 c5 c6 c7 c8 c9 c10 c11)) s = true := eqS_iff.2 es.symm
      simp only [B4, hs, F5_eq, F7_eq, F9_eq, F12_eq, F6_ok q0 q1 q2 q3 q4 q5 q6 q7 q8 q9 q10 q11 hc, h6, hs', f0, f1, f2, h13, hz, g1, g2, i1, i2, l1, l2, hc5, o5, k7, k8, x5, x6, bs, e7, y1, y2, y3, y4, y5, t1, t2, he, BEq.rfl, decide_true, Bool.not_true, Bool.and_self, Bool.true_and, Bool.and_true, Bool.false_eq_true, if_true, if_false, sem_triv, sem_br, sem_bind_some, sem_sees, sem_ask, sem_ret, PC.holds, need_true, Int.natCast_nonneg, Int.toNat_natCast, Int.toNat_zero, stepO_ret]
    · obtain ⟨X, hXe⟩ : ∃ X, X = pars (spl 10 [] s.data.toList) 0 z12 := ⟨_, rfl⟩
      rw [← hXe] at hs' hX
      have hb : (X.2.2.2.2.2.2.2.2.2.2.2.2.2 == 0) = false := by rw [beq_eq_false_iff_ne]; exact hX
      simp only [B4, hs, F5_eq, F7_eq, F9_eq, F12_eq, F6_ok q0 q1 q2 q3 q4 q5 q6 q7 q8 q9 q10 q11 hc, hs', hb, f0, f1, f2, h13, hz, g1, g2, i1, i2, l1, l2, hc5, o5, k7, k8, x5, x6, bs, e7, y1, y2, y3, y4, y5, t1, t2, BEq.rfl, decide_true, Bool.not_true, Bool.and_self, Bool.true_and, Bool.and_true, Bool.false_eq_true, if_true, if_false, sem_triv, sem_br, sem_bind_some, sem_sees, sem_ask, sem_ret, PC.holds, need_true, Int.natCast_nonneg, Int.toNat_natCast, Int.toNat_zero, stepO_ret]
end
end Go.Kv
