import Derived.Test.YtleohlnmcbkpjaaGreatDoorGM3
namespace Go.Kv
set_option linter.all false
open Go Go.RowKit Go.Proofs
set_option maxRecDepth 100000
section
open Go Go.RowKit
theorem eqS_iff {a b : ByteArray} : eqS a b = true ↔ a = b := by
  unfold eqS
  rw [beq_iff_eq, ByteArray.toList_eq, ByteArray.toList_eq]
  exact ⟨fun h => ByteArray.ext (Array.toList_inj.1 h), fun h => by rw [h]⟩
theorem eqS_data {a b : ByteArray} : eqS a b = decide (a.data.toList = b.data.toList) := by
  rw [Bool.eq_iff_iff, eqS_iff, decide_eq_true_iff]
  exact ⟨fun h => by rw [h], fun h => ByteArray.ext (Array.toList_inj.1 h)⟩
theorem wrap32 {n : Int} (h : 0 ≤ n ∧ n ≤ 1000000) : IntKind.i32.wrap n = n := by rw [IntKind.wrap_i32]; omega
theorem wrap8 {n : Int} (h : 0 ≤ n ∧ n ≤ 255) : IntKind.u8.wrap n = n := by rw [IntKind.wrap_u8]; omega
theorem wrap64 {n : Int} (h : 0 ≤ n ∧ n ≤ 1000000000000) : IntKind.i64.wrap n = n := wrap_in (by unfold inI64; omega)
def bt (s : ByteArray) (i : Nat) : Nat := (s.data.toList.getD i 0).toNat
theorem bt_get {s : ByteArray} {i : Nat} (hi : i < s.size) : (s.get! i).toNat = bt s i := by
  unfold bt
  have h2 : i < s.data.toList.length := by simpa using hi
  have : s.get! i = s.data.toList[i] := by
    have : s.get! i = s.data[i]! := rfl
    rw [this, getElem!_pos s.data i hi]; simp
  rw [this, List.getD_eq_getElem?_getD, List.getElem?_eq_getElem h2]; rfl
theorem dec_lo {s : ByteArray} {i : Nat} (hi : i < s.size) (h : bt s i < 128) : Utf8.decode s i = (bt s i, 1) := by
  unfold Utf8.decode
  simp only [Nat.add_zero, bt_get hi]
  rw [if_pos h]
theorem dec_hi {s : ByteArray} {i : Nat} (hi : i < s.size) (h : ¬ bt s i < 128) : 128 ≤ (Utf8.decode s i).1 := by
  unfold Utf8.decode
  simp only [Nat.add_zero, bt_get hi]
  rw [if_neg h]
  have he : 128 ≤ Utf8.runeError := by decide
  repeat' split
  all_goals first | exact he | (rename_i hc; first | (simp only [Bool.and_eq_true, decide_eq_true_eq] at hc; omega) | omega) | skip
  all_goals (simp only; omega)
def isD (b : UInt8) : Bool := decide (48 ≤ b.toNat) && decide (b.toNat ≤ 57)
def dvL : List UInt8 → Nat → Nat
  | [], n => n
  | b :: l, n => dvL l (10 * n + b.toNat % 48)
def hdD (l : List UInt8) : Bool := decide (l = [48]) || (!l.isEmpty && l.getD 0 0 != 48)
def okD (l : List UInt8) : Bool := l.all isD && decide (l.length ≤ 9) && hdD l
theorem drop_bt {s : ByteArray} {i : Nat} (hi : i < s.size) : s.data.toList.drop i = s.data.toList.getD i 0 :: s.data.toList.drop (i + 1) := by
  have h2 : i < s.data.toList.length := by simpa using hi
  rw [List.drop_eq_getElem_cons h2, List.getD_eq_getElem?_getD, List.getElem?_eq_getElem h2]; rfl
theorem pow9 {k : Nat} (h : k ≤ 9) : 10 ^ k ≤ 1000000000 := by
  have := Nat.pow_le_pow_right (n := 10) (by decide) h
  simpa using this
theorem hd_prog {s : ByteArray} : (if eqS s (ByteArray.mk #[48]) = true then true else if (!eqS s (ByteArray.mk #[])) = true then ((s.data.toList.getD 0 0).toNat : Int) != 48 else false) = hdD s.data.toList := by
  unfold hdD
  rw [eqS_data, eqS_data]
  show (if decide (s.data.toList = [48]) = true then true else if (!decide (s.data.toList = [])) = true then ((s.data.toList.getD 0 0).toNat : Int) != 48 else false) = _
  generalize s.data.toList = l
  cases l with
  | nil => simp
  | cons b l =>
    by_cases h : b :: l = [48]
    · simp [h]
    · simp only [h, decide_false, Bool.false_eq_true, if_false, List.cons_ne_nil, Bool.not_false, if_true, List.isEmpty_cons, Bool.true_and, Bool.false_or]
      show ((b.toNat : Int) != 48) = (b != 48)
      rw [Bool.eq_iff_iff, bne_iff_ne, bne_iff_ne]
      constructor
      · intro h e; subst e; exact h rfl
      · intro h e
        apply h
        apply UInt8.toNat_inj.1
        show b.toNat = 48
        omega
theorem F74_loop (s : ByteArray) (h9 : s.size ≤ 9) : ∀ (k i acc : Nat), s.size = i + k → acc < 10 ^ i →
    res B74 (.c1 s (acc : Int) i) = some (if (s.data.toList.drop i).all isD = true then ((dvL (s.data.toList.drop i) acc : Int), hdD s.data.toList) else (0, false)) := by
  intro k
  induction k with
  | zero =>
    intro i acc hk h0
    have h1 : i.blt s.size = false := by
      rw [Bool.eq_false_iff]; intro h; rw [Nat.blt_eq] at h; omega
    have h2 : s.size ≤ i := by omega
    rw [res_eq, List.drop_eq_nil_of_le (by simpa using h2), ← hd_prog]
    simp only [B74, sem_br, sem_triv, sem_ask, sem_ret, PC.holds, h1, h2, need_true, Bool.false_eq_true, if_false, List.all_nil, if_true, dvL]
    by_cases e1 : eqS s (ByteArray.mk #[48]) = true
    · simp [e1, need_true, stepO_ret]
    · have e1 : eqS s (ByteArray.mk #[48]) = false := by simpa using e1
      by_cases e2 : eqS s (ByteArray.mk #[]) = true
      · simp [e1, e2, need_true, stepO_ret]
      · have e2 : eqS s (ByteArray.mk #[]) = false := by simpa using e2
        have hs : 0 < s.size := by
          rcases Nat.eq_zero_or_pos s.size with h | h
          · exfalso
            have : s = ByteArray.mk #[] := ByteArray.ext (Array.eq_empty_of_size_eq_zero h)
            rw [this] at e2
            exact absurd e2 (by rw [eqS_iff.2 rfl]; decide)
          · exact h
        simp [e1, e2, hs, need_true, stepO_ret]
  | succ k IH =>
    intro i acc hk ha
    have hi : i < s.size := by omega
    have h1 : i.blt s.size = true := by rw [Nat.blt_eq]; exact hi
    have h99 : ¬ ((s.size : Int) > 9) := by omega
    have hp := pow9 (k := i) (by omega)
    rw [res_eq, drop_bt hi, List.all_cons]
    have hbt : (s.data.toList.getD i 0).toNat = bt s i := rfl
    by_cases h8 : bt s i < 128
    · by_cases hd : 48 ≤ bt s i ∧ bt s i ≤ 57
      · have ih := IH (i + 1) (10 * acc + bt s i % 48) (by omega) (by rw [Nat.pow_succ]; omega)
        have hD : isD (s.data.toList.getD i 0) = true := by unfold isD; rw [hbt]; simp [hd]
        have l1 : ¬ ((bt s i : Int) < 48) := by omega
        have l2 : ¬ ((bt s i : Int) > 57) := by omega
        have w1 : IntKind.i32.wrap ((bt s i : Int) - 48) = ((bt s i % 48 : Nat) : Int) := by rw [wrap32 (by omega)]; omega
        have w2 : IntKind.i64.wrap ((bt s i % 48 : Nat) : Int) = ((bt s i % 48 : Nat) : Int) := wrap64 (by omega)
        have i1 : inI64 (10 * (acc : Int)) := by unfold inI64; omega
        have i2 : inI64 (10 * (acc : Int) + ((bt s i % 48 : Nat) : Int)) := by unfold inI64; omega
        have e3 : 10 * (acc : Int) + ((bt s i % 48 : Nat) : Int) = ((10 * acc + bt s i % 48 : Nat) : Int) := by omega
        simp only [B74, dec_lo hi h8, h1, hi, hD, l1, l2, h99, w1, w2, i1, i2, decide_false, Bool.false_eq_true, if_false, Bool.true_and, sem_br, sem_ask, sem_triv, sem_nxt, PC.holds, need_true, if_true, stepO_nxt]
        rw [e3, ih]
        rfl
      · have hD : isD (s.data.toList.getD i 0) = false := by
          unfold isD; rw [hbt, Bool.and_eq_false_iff]; simp only [decide_eq_false_iff_not]; omega
        have hor : (if (if decide ((bt s i : Int) < 48) = true then true else decide ((bt s i : Int) > 57)) = true then true else decide ((s.size : Int) > 9)) = true := by
          by_cases l1 : (bt s i : Int) < 48
          · simp [l1]
          · have l2 : (bt s i : Int) > 57 := by omega
            simp [l2]
        simp only [B74, dec_lo hi h8, h1, hi, hD, hor, Bool.false_and, Bool.false_eq_true, if_false, sem_br, sem_ask, sem_triv, sem_ret, PC.holds, need_true, if_true, stepO_ret]
    · have hx := dec_hi hi h8
      have hD : isD (s.data.toList.getD i 0) = false := by
        unfold isD; rw [hbt, Bool.and_eq_false_iff]; simp only [decide_eq_false_iff_not]; omega
      have hor : (if (if decide (((Utf8.decode s i).1 : Int) < 48) = true then true else decide (((Utf8.decode s i).1 : Int) > 57)) = true then true else decide ((s.size : Int) > 9)) = true := by
        have l2 : ((Utf8.decode s i).1 : Int) > 57 := by omega
        simp [l2]
      simp only [B74, h1, hi, hD, hor, Bool.false_and, Bool.false_eq_true, if_false, sem_br, sem_ask, sem_triv, sem_ret, PC.holds, need_true, if_true, stepO_ret]
theorem okD_nil (s : ByteArray) : okD s.data.toList = (s.data.toList.all isD && decide (s.size ≤ 9) && hdD s.data.toList) := by
  unfold okD; rw [show s.data.toList.length = s.size by simp]
theorem F74_eq (s : ByteArray) : F74 s = some (if s.data.toList.all isD = true ∧ s.size ≤ 9 then ((dvL s.data.toList 0 : Int), hdD s.data.toList) else (0, false)) := by
  unfold F74; rw [res_eq]
  simp only [B74, sem_nxt, stepO_nxt]
  by_cases h9 : s.size ≤ 9
  · have := F74_loop s h9 s.size 0 0 (by omega) (by decide)
    rw [List.drop_zero] at this
    refine Eq.trans this ?_
    simp [h9]
  · have hi : 0 < s.size := by omega
    have h1 : Nat.blt 0 s.size = true := by rw [Nat.blt_eq]; exact hi
    have hor : (if (if decide (((Utf8.decode s 0).1 : Int) < 48) = true then true else decide (((Utf8.decode s 0).1 : Int) > 57)) = true then true else decide ((s.size : Int) > 9)) = true := by
      have : (s.size : Int) > 9 := by omega
      simp [this]
    rw [res_eq]
    simp only [B74, h1, hi, hor, sem_br, sem_ask, sem_triv, sem_ret, PC.holds, need_true, if_true, stepO_ret]
    simp [h9]
theorem F74_ok {s : ByteArray} (h : okD s.data.toList = true) : F74 s = some ((dvL s.data.toList 0 : Int), true) := by
  rw [okD_nil, Bool.and_eq_true, Bool.and_eq_true, decide_eq_true_eq] at h
  rw [F74_eq, if_pos ⟨h.1.1, h.1.2⟩, h.2]
theorem F74_bad {s : ByteArray} (h : okD s.data.toList = false) : ∃ x, F74 s = some (x, false) := by
  rw [F74_eq]
  split
  · rename_i hh
    rw [okD_nil, hh.1] at h
    simp [hh.2] at h
    exact ⟨_, by rw [h]⟩
  · exact ⟨_, rfl⟩
end
section
open Go Go.RowKit
theorem F43_loop (s : ByteArray) (h9 : s.size ≤ 9) : ∀ (k i acc : Nat), s.size = i + k → acc < 10 ^ i →
    res B43 (.c1 s (acc : Int) (i : Int)) = some (if (s.data.toList.drop i).all isD = true then ((dvL (s.data.toList.drop i) acc : Int), true) else (0, false)) := by
  intro k
  induction k with
  | zero =>
    intro i acc hk h0
    have h1 : ¬ ((i : Int) < (s.size : Int)) := by omega
    have h2 : s.size ≤ i := by omega
    rw [res_eq, List.drop_eq_nil_of_le (by simpa using h2)]
    simp only [B43, sem_br, sem_ret, h1, decide_false, Bool.false_eq_true, if_false, List.all_nil, if_true, dvL, stepO_ret]
  | succ k IH =>
    intro i acc hk ha
    have hi : i < s.size := by omega
    have h1 : (i : Int) < (s.size : Int) := by omega
    have hp := pow9 (k := i) (by omega)
    rw [res_eq, drop_bt hi, List.all_cons]
    have hbt : (s.data.toList.getD i 0).toNat = bt s i := rfl
    have hin : inI64 ((i : Int) + 1) := by unfold inI64; omega
    by_cases hd : 48 ≤ bt s i ∧ bt s i ≤ 57
    · have ih := IH (i + 1) (10 * acc + bt s i % 48) (by omega) (by rw [Nat.pow_succ]; omega)
      have hD : isD (s.data.toList.getD i 0) = true := by unfold isD; rw [hbt]; simp [hd]
      have l1 : ¬ ((bt s i : Int) < 48) := by omega
      have l2 : ¬ ((bt s i : Int) > 57) := by omega
      have w1 : IntKind.u8.wrap ((bt s i : Int) - 48) = ((bt s i % 48 : Nat) : Int) := by rw [wrap8 (by omega)]; omega
      have w2 : IntKind.i64.wrap ((bt s i % 48 : Nat) : Int) = ((bt s i % 48 : Nat) : Int) := wrap64 (by omega)
      have i1 : inI64 (10 * (acc : Int)) := by unfold inI64; omega
      have i2 : inI64 (10 * (acc : Int) + ((bt s i % 48 : Nat) : Int)) := by unfold inI64; omega
      have e3 : 10 * (acc : Int) + ((bt s i % 48 : Nat) : Int) = ((10 * acc + bt s i % 48 : Nat) : Int) := by omega
      simp only [B43, Int.toNat_natCast, hbt, h1, hi, hD, l1, l2, w1, w2, i1, i2, hin, Int.natCast_nonneg, decide_true, decide_false, Bool.false_eq_true, if_false, Bool.true_and, sem_br, sem_ask, sem_triv, sem_nxt, PC.holds, need_true, if_true, BEq.rfl, stepO_nxt]
      rw [e3, show ((i : Int) + 1) = ((i + 1 : Nat) : Int) by omega, ih]
      rfl
    · have hD : isD (s.data.toList.getD i 0) = false := by
        unfold isD; rw [hbt, Bool.and_eq_false_iff]; simp only [decide_eq_false_iff_not]; omega
      by_cases l1 : (bt s i : Int) < 48
      · simp only [B43, Int.toNat_natCast, hbt, h1, hi, hD, l1, Int.natCast_nonneg, decide_true, Bool.false_and, Bool.false_eq_true, if_false, sem_br, sem_ask, sem_triv, sem_ret, PC.holds, need_true, if_true, stepO_ret]
      · have l2 : (bt s i : Int) > 57 := by omega
        simp only [B43, Int.toNat_natCast, hbt, h1, hi, hD, l1, l2, Int.natCast_nonneg, decide_true, decide_false, Bool.false_and, Bool.false_eq_true, if_false, sem_br, sem_ask, sem_triv, sem_ret, PC.holds, need_true, if_true, BEq.rfl, stepO_ret]
theorem F43_eq (s : ByteArray) : F43 s = some (if okD s.data.toList = true then ((dvL s.data.toList 0 : Int), true) else (0, false)) := by
  unfold F43; rw [res_eq, okD_nil]
  unfold hdD
  have e0 : eqS s (ByteArray.mk #[]) = decide (s.data.toList = []) := by rw [eqS_data]
  have hl : s.data.toList.length = s.size := by simp
  by_cases h0 : s.data.toList = []
  · have h0' : eqS s (ByteArray.mk #[]) = true := by rw [e0]; simp [h0]
    simp only [B43, h0', if_true, sem_triv, sem_br, sem_ret, stepO_ret]
    rw [h0]; simp
  · have h0' : eqS s (ByteArray.mk #[]) = false := by rw [e0]; simp [h0]
    have hpos : 0 < s.size := by
      rw [← hl]; exact List.length_pos_iff.2 h0
    by_cases h9 : s.size ≤ 9
    · have h9' : ¬ ((s.size : Int) > 9) := by omega
      have hne : s.data.toList.isEmpty = false := by
        cases hm : s.data.toList with
        | nil => exact absurd hm h0
        | cons => rfl
      by_cases h48 : s.data.toList.getD 0 0 = 48
      · by_cases h1 : s.size > 1
        · have h1' : (s.size : Int) > 1 := by omega
          have hx : ¬ s.data.toList = [48] := by intro e; rw [e] at hl; simp at hl; omega
          have hz : (((UInt8.toNat 48 : Nat) : Int) == 48) = true := rfl
          simp only [B43, h0', h9', hz, h1', hpos, Int.toNat_zero, hx, hne, h48, decide_true, decide_false, Bool.false_eq_true, if_false, if_true, BEq.rfl, bne_self_eq_false, Bool.and_false, Bool.or_false, sem_br, sem_ask, sem_triv, sem_ret, PC.holds, need_true, Bool.or_self, stepO_ret, Int.le_refl]
        · have h1' : ¬ ((s.size : Int) > 1) := by omega
          have hx : s.data.toList = [48] := by
            match hm : s.data.toList with
            | [] => exact absurd hm h0
            | [b] => rw [hm] at h48; simp at h48; rw [h48]
            | a :: b :: l => rw [hm] at hl; simp at hl; omega
          have hz : ((s.data.toList.getD 0 0).toNat : Int) = 48 := by rw [h48]; rfl
          have lp := F43_loop s h9 s.size 0 0 (by omega) (by decide)
          rw [List.drop_zero] at lp
          simp only [B43, h0', h9', hz, h1', hpos, Int.toNat_zero, decide_true, decide_false, Bool.false_eq_true, if_false, if_true, BEq.rfl, sem_br, sem_ask, sem_triv, sem_nxt, PC.holds, need_true, stepO_nxt, Int.le_refl]
          refine Eq.trans lp ?_
          simp [hx, h9]
      · have hz : ¬ (((s.data.toList.getD 0 0).toNat : Int) = 48) := by
          intro e; apply h48; apply UInt8.toNat_inj.1; show _ = 48; omega
        have hz' : (((s.data.toList.getD 0 0).toNat : Int) == 48) = false := by rw [beq_eq_false_iff_ne]; exact hz
        have hb : (s.data.toList.getD 0 0 != 48) = true := by rw [bne_iff_ne]; exact h48
        have lp := F43_loop s h9 s.size 0 0 (by omega) (by decide)
        rw [List.drop_zero] at lp
        simp only [B43, h0', h9', hz', hpos, Int.toNat_zero, decide_true, decide_false, Bool.false_eq_true, if_false, if_true, BEq.rfl, sem_br, sem_ask, sem_triv, sem_nxt, PC.holds, need_true, stepO_nxt, Int.le_refl]
        refine Eq.trans lp ?_
        simp only [hne, hb, h9, decide_true, Bool.not_false, Bool.and_true, Bool.or_true]
    · have h9' : (s.size : Int) > 9 := by omega
      simp only [B43, h0', h9', h9, decide_true, decide_false, Bool.false_eq_true, if_true, if_false, Bool.and_false, Bool.false_and, sem_triv, sem_br, sem_ret, stepO_ret]
end
section
open Go Go.RowKit
def ba (l : List UInt8) : ByteArray := ⟨l.toArray⟩
theorem ba_data (l : List UInt8) : (ba l).data.toList = l := by simp [ba]
theorem ba_size (l : List UInt8) : (ba l).size = l.length := by
  show l.toArray.size = l.length
  simp
theorem ba_of (s : ByteArray) : ba s.data.toList = s := by
  unfold ba; exact ByteArray.ext (by simp)
theorem ba_app (a b : List UInt8) : ba a ++ ba b = ba (a ++ b) := by
  apply ByteArray.ext
  apply Array.toList_inj.1
  rw [ByteArray.data_append, Array.toList_append, ba_data, ba_data, ba_data]
theorem ba_inj {a b : List UInt8} : ba a = ba b ↔ a = b := ⟨fun h => by rw [← ba_data a, h, ba_data], fun h => by rw [h]⟩
def tx (r : Nat) : List UInt8 := if r = 0 then [] else Lib.decDigits r
theorem tx_step {r : Nat} (h : r ≠ 0) : tx r = tx (r / 10) ++ [UInt8.ofNat (48 + r % 10)] := by
  unfold tx
  rw [if_neg h, Lib.decDigits]
  split
  · rename_i h1
    rw [if_pos (by omega), Nat.mod_eq_of_lt h1]; rfl
  · rw [if_neg (by omega)]
theorem F42_loop (n : Int) (hn : ¬ n < 0) (r : Nat) : ∀ (o : List UInt8), r + o.length ≤ 1000000000000 → res B42 (.c1 n (ba o) (r : Int)) = some (ba (tx r ++ o)) := by
  induction r using Nat.strongRecOn with
  | ind r ih =>
    intro o ho
    rw [res_eq]
    by_cases h0 : r = 0
    · subst h0
      simp only [B42, hn, sem_br, sem_ret, decide_false, Bool.false_eq_true, if_false, stepO_ret, Int.natCast_zero, bne_self_eq_false]
      rfl
    · have h1 : ((r : Int) != 0) = true := by rw [bne_iff_ne]; omega
      have h2 : ¬ ((r : Int).tmod 10 < 0) := by rw [Int.tmod_eq_emod_of_nonneg (by omega)]; omega
      have e1 : 48 + (r : Int).tmod 10 = ((48 + r % 10 : Nat) : Int) := by rw [Int.tmod_eq_emod_of_nonneg (by omega)]; omega
      have e2 : (r : Int).tdiv 10 = ((r / 10 : Nat) : Int) := by rw [Int.tdiv_eq_ediv_of_nonneg (by omega)]; omega
      have w1 : IntKind.i32.wrap ((48 + r % 10 : Nat) : Int) = ((48 + r % 10 : Nat) : Int) := wrap32 (by omega)
      have i1 : inI64 ((48 + r % 10 : Nat) : Int) := by unfold inI64; omega
      have i2 : inI64 ((r / 10 : Nat) : Int) := by unfold inI64; omega
      have l1 : (0 : Int) ≤ ((48 + r % 10 : Nat) : Int) := by omega
      have l2 : ((48 + r % 10 : Nat) : Int) < 128 := by omega
      have l3 : ((1 + (ba o).size : Nat) : Int) ≤ 9223372036854775807 := by rw [ba_size]; omega
      have ep : pushAll [((48 + r % 10 : Nat) : Int)] ByteArray.empty = ba [UInt8.ofNat (48 + r % 10)] := rfl
      have := ih (r / 10) (by omega) (UInt8.ofNat (48 + r % 10) :: o) (by rw [List.length_cons]; omega)
      simp only [B42, h1, h2, e1, e2, w1, i1, i2, l1, l2, l3, sem_br, sem_ask, sem_triv, sem_nxt, PC.holds, need_true, if_true, decide_false, Bool.false_eq_true, if_false, stepO_nxt, ep, ba_app]
      rw [show [UInt8.ofNat (48 + r % 10)] ++ o = UInt8.ofNat (48 + r % 10) :: o from rfl, this, tx_step h0, List.append_assoc]; rfl
theorem F42_eq {n : Nat} (h : n ≤ 999999) : F42 (n : Int) = some (ba (Lib.decDigits n)) := by
  unfold F42; rw [res_eq]
  by_cases h0 : n = 0
  · subst h0
    simp only [B42, sem_br, sem_ret, Int.natCast_zero, BEq.rfl, if_true, stepO_ret]
    rw [Lib.decDigits_one (by decide)]; rfl
  · have h1 : ((n : Int) == 0) = false := by rw [beq_eq_false_iff_ne]; omega
    have := F42_loop (n : Int) (by omega) n [] (by simp; omega)
    simp only [B42, h1, sem_br, sem_nxt, Bool.false_eq_true, if_false, stepO_nxt]
    refine Eq.trans this ?_
    rw [List.append_nil]; unfold tx; rw [if_neg h0]
theorem F32_eq {n : Nat} (h : n ≤ 999999) : F32 (n : Int) = some (ba (Lib.decDigits n)) := by
  unfold F32
  rw [if_pos (by omega)]
  unfold Lib.itoa
  rw [if_neg (by omega)]; rfl
end
section
open Go Go.RowKit
def sD (l : List UInt8) : DV := .v (.string (ba l))
theorem beq_byte (x c : UInt8) : ((x.toNat : Int) == (c.toNat : Int)) = decide (x = c) := by
  rw [Bool.eq_iff_iff, beq_iff_eq, decide_eq_true_iff]
  constructor
  · intro h; apply UInt8.toNat_inj.1; omega
  · intro h; rw [h]
theorem ext_ba (s : ByteArray) (a b : Nat) : s.extract a b = ba ((s.data.toList.take b).drop a) := by
  rw [← ext_to, ba_of]
theorem cur_next {l : List UInt8} {i fr : Nat} (hi : i < l.length) (hf : fr ≤ i) : (l.take (i + 1)).drop fr = (l.take i).drop fr ++ [l.getD i 0] := by
  rw [List.take_succ_eq_append_getElem hi, List.drop_append_of_le_length (by rw [List.length_take]; omega)]
  simp [List.getD_eq_getElem?_getD, hi]
theorem cur_nil {l : List UInt8} {i : Nat} : (l.take i).drop i = [] := List.drop_eq_nil_of_le (by simp; omega)
theorem F13_c2 (s : ByteArray) (c : UInt8) (h5 : s.size ≤ 5000) : ∀ (k i fr n e : Nat) (ds : List DV), s.size = i + k → fr ≤ i → n ≤ i →
    res B13 (.c2 s (c.toNat : Int) e n ds (fr : Int) (i : Int) e) = some (n + (spl c ((s.data.toList.take i).drop fr) (s.data.toList.drop i)).length, ds ++ (spl c ((s.data.toList.take i).drop fr) (s.data.toList.drop i)).map sD) := by
  intro k
  have hl : s.data.toList.length = s.size := by simp
  induction k with
  | zero =>
    intro i fr n e ds hk hf hn
    have h1 : ¬ ((i : Int) < (s.size : Int)) := by omega
    have hfi : fitsN (n + 1) 16 := ⟨by omega, by omega⟩
    have q1 : (fr : Int) ≤ (s.size : Int) := by omega
    have hd : s.data.toList.drop i = [] := List.drop_eq_nil_of_le (by omega)
    rw [res_eq, hd]
    simp only [B13, sem_br, sem_ask, sem_ret, PC.holds, need_true, h1, hfi, q1, Int.natCast_nonneg, Int.le_refl, decide_false, Bool.false_eq_true, if_false, stepO_ret, Int.toNat_natCast, spl, List.length_singleton, List.map_cons, List.map_nil]
    rw [ext_ba, show i = s.size by omega]
    rfl
  | succ k IH =>
    intro i fr n e ds hk hf hn
    have hi : i < s.size := by omega
    have h1 : (i : Int) < (s.size : Int) := by omega
    have hin : inI64 ((i : Int) + 1) := by unfold inI64; omega
    have ei : (i : Int) + 1 = ((i + 1 : Nat) : Int) := by omega
    rw [res_eq, drop_bt hi, spl]
    by_cases hc : s.data.toList.getD i 0 = c
    · have ih := IH (i + 1) (i + 1) (n + 1) (e + 1) (ds ++ [sD ((s.data.toList.take i).drop fr)]) (by omega) (by omega) (by omega)
      have hfi : fitsN (n + 1) 16 := ⟨by omega, by omega⟩
      have q1 : (fr : Int) ≤ (i : Int) := by omega
      have q2 : (i : Int) ≤ (s.size : Int) := by omega
      rw [cur_nil] at ih
      simp only [B13, sem_br, sem_ask, sem_nxt, PC.holds, need_true, beq_byte, Int.toNat_natCast, hc, h1, hi, hin, hfi, q1, q2, Int.natCast_nonneg, decide_true, if_true, stepO_nxt]
      rw [ei, show DV.v (Value.string (s.extract fr i)) = sD ((s.data.toList.take i).drop fr) by rw [ext_ba]; rfl, ih]
      simp only [List.length_cons, List.map_cons, List.append_assoc, List.singleton_append, Option.some.injEq, Prod.mk.injEq, and_true]
      omega
    · have ih := IH (i + 1) fr n e ds (by omega) (by omega) (by omega)
      rw [cur_next (by omega) hf] at ih
      simp only [B13, sem_br, sem_ask, sem_nxt, PC.holds, need_true, beq_byte, Int.toNat_natCast, hc, h1, hi, hin, Int.natCast_nonneg, decide_true, decide_false, Bool.false_eq_true, if_true, if_false, stepO_nxt]
      rw [ei, ih]
theorem F13_c1 (s : ByteArray) (c : UInt8) (h5 : s.size ≤ 5000) : ∀ (k i : Nat), s.size = i + k →
    res B13 (.c1 s (c.toNat : Int) 0 (i : Int)) = some ((spl c (s.data.toList.take i) (s.data.toList.drop i)).length, (spl c (s.data.toList.take i) (s.data.toList.drop i)).map sD) := by
  intro k
  have hl : s.data.toList.length = s.size := by simp
  induction k with
  | zero =>
    intro i hk
    have h1 : ¬ ((i : Int) < (s.size : Int)) := by omega
    have q1 : (0 : Int) ≤ (s.size : Int) := by omega
    have hd : s.data.toList.drop i = [] := List.drop_eq_nil_of_le (by omega)
    rw [res_eq, hd]
    simp only [B13, sem_br, sem_ask, sem_ret, PC.holds, need_true, h1, q1, Int.le_refl, decide_false, Bool.false_eq_true, if_false, stepO_ret, Int.toNat_natCast, Int.toNat_zero, spl, List.length_singleton, List.map_cons, List.map_nil]
    rw [ext_ba, show i = s.size by omega]
    rfl
  | succ k IH =>
    intro i hk
    have hi : i < s.size := by omega
    have h1 : (i : Int) < (s.size : Int) := by omega
    have hin : inI64 ((i : Int) + 1) := by unfold inI64; omega
    have ei : (i : Int) + 1 = ((i + 1 : Nat) : Int) := by omega
    rw [res_eq, drop_bt hi, spl]
    by_cases hc : s.data.toList.getD i 0 = c
    · have ih := F13_c2 s c h5 k (i + 1) (i + 1) 1 0 [sD (s.data.toList.take i)] (by omega) (by omega) (by omega)
      have q2 : (i : Int) ≤ (s.size : Int) := by omega
      rw [cur_nil] at ih
      simp only [B13, sem_br, sem_ask, sem_nxt, PC.holds, need_true, beq_byte, Int.toNat_natCast, Int.toNat_zero, hc, h1, hi, hin, q2, Int.natCast_nonneg, Int.le_refl, decide_true, if_true, stepO_nxt]
      rw [ei, show (Value.string (s.extract 0 i)) = Value.string (ba (s.data.toList.take i)) by rw [ext_ba]; rfl]
      refine Eq.trans ih ?_
      simp only [List.length_cons, List.map_cons, List.singleton_append, Option.some.injEq, Prod.mk.injEq, and_true]
      omega
    · have ih := IH (i + 1) (by omega)
      have e1 := cur_next (l := s.data.toList) (fr := 0) (i := i) (by omega) (by omega)
      rw [List.drop_zero, List.drop_zero] at e1
      rw [e1] at ih
      simp only [B13, sem_br, sem_ask, sem_nxt, PC.holds, need_true, beq_byte, Int.toNat_natCast, hc, h1, hi, hin, Int.natCast_nonneg, decide_true, decide_false, Bool.false_eq_true, if_true, if_false, stepO_nxt]
      rw [ei, ih]
theorem F13_eq (s : ByteArray) (c : UInt8) (h5 : s.size ≤ 5000) : F13 s (c.toNat : Int) = some ((spl c [] s.data.toList).length, (spl c [] s.data.toList).map sD) := by
  unfold F13; rw [res_eq]
  simp only [B13, sem_nxt, stepO_nxt]
  have := F13_c1 s c h5 s.size 0 (by omega)
  rw [List.take_zero, List.drop_zero] at this
  exact this
theorem map_ba : ∀ (bs : List ByteArray), bs.map strD = (bs.map (·.data.toList)).map sD
  | [] => rfl
  | b :: bs => by
    rw [List.map_cons, List.map_cons, List.map_cons, map_ba bs]
    unfold strD sD; rw [ba_of]
theorem countB_eq (s : ByteArray) (c : UInt8) : Lib.countB s ⟨#[c]⟩ = s.data.toList.count c := Lib.count_one c _
theorem F35_eq (s : ByteArray) (c : UInt8) (h5 : s.size ≤ 5000) : F35 s ⟨#[c]⟩ = some ((spl c [] s.data.toList).length, (spl c [] s.data.toList).map sD) := by
  unfold F35
  rw [if_pos ⟨by omega, rfl⟩]
  show some ((splitS c s).length, (splitS c s).map strD) = _
  have e := splitB_one c (Lib.countB s ⟨#[c]⟩) s (by rw [countB_eq]; exact Nat.le_refl _)
  have e2 : (splitS c s).map (·.data.toList) = spl c [] s.data.toList := e
  rw [map_ba, e2, ← e2, List.length_map]
end
section
open Go Go.RowKit
def firstI : List Int → Int
  | [] => 0
  | x :: xs => if x = 0 then firstI xs else x
def rangeI (n a b : Int) : Int := if n < a ∨ n > b then 3 else 0
theorem dI_cel_map (l : List Int) (i : Nat) : dI (cel (l.map vI) i) = l.getD i 0 := by
  unfold cel
  simp only [List.getD_eq_getElem?_getD, List.getElem?_map]
  cases l[i]? <;> rfl
theorem at_map {l : List Int} {i : Nat} (h : i < l.length) : Option.map AV.d (List.drop i (l.map vI))[0]? = some (AV.d (vI (l.getD i 0))) := by
  simp [List.getElem?_drop, h, List.getD_eq_getElem?_getD]
theorem dropD {α : Type} {l : List α} {i : Nat} (d : α) (h : i < l.length) : l.drop i = l.getD i d :: l.drop (i + 1) := by
  rw [List.drop_eq_getElem_cons h]; simp [List.getD_eq_getElem?_getD, h]
theorem firstI_drop {l : List Int} {i : Nat} (h : i < l.length) : firstI (l.drop i) = if l.getD i 0 = 0 then firstI (l.drop (i + 1)) else l.getD i 0 := by
  rw [dropD 0 h]; rfl
theorem F37_loop (l : List Int) (hl : l.length ≤ 100) : ∀ (k i : Nat), l.length = i + k → res B37 (.c1 l.length (l.map vI) (l.length : Int) (i : Int)) = some (firstI (l.drop i)) := by
  intro k
  induction k with
  | zero =>
    intro i hk
    rw [List.drop_eq_nil_of_le (by omega), res_eq]
    have : ¬ ((i : Int) < (l.length : Int)) := by omega
    simp [B37, sem_br, sem_ret, this, stepO_ret, firstI]
  | succ k IH =>
    intro i hk
    have hi : i < l.length := by omega
    have h1 : (i : Int) < (l.length : Int) := by omega
    have hin : inI64 ((i : Int) + 1) := by unfold inI64; omega
    have ih := IH (i + 1) (by omega)
    rw [firstI_drop hi, res_eq]
    simp only [B37, sem_br, sem_ask, sem_ret, sem_nxt, PC.holds, need_true, Int.toNat_natCast, Nat.mul_one, dI_cel_map, at_map hi, h1, hin, decide_true, if_true, Int.natCast_nonneg, List.length_map, Nat.le_of_lt hi]
    by_cases hz : l.getD i 0 = 0
    · simp only [hz, bne_self_eq_false, Bool.false_eq_true, if_false, if_true, need_true, sem_nxt, stepO_nxt]
      rw [show ((i : Int) + 1) = ((i + 1 : Nat) : Int) by omega, ih]
    · simp only [bne_iff_ne.2 hz, hz, if_true, if_false, stepO_ret]
theorem F37_eq (l : List Int) (hl : l.length ≤ 100) : F37 l.length (l.map vI) = some (firstI l) := by
  unfold F37; rw [res_eq]
  simp only [B37, sem_nxt, stepO_nxt]
  exact F37_loop l hl l.length 0 (by omega)
theorem F39_loop (l : List Int) (hl : l.length ≤ 100) : ∀ (k i : Nat), l.length = i + k → res B39 (.c1 l.length (l.map vI) (i : Int)) = some (firstI (l.drop i)) := by
  intro k
  induction k with
  | zero =>
    intro i hk
    rw [List.drop_eq_nil_of_le (by omega), res_eq]
    have : ¬ ((i : Int) < (l.length : Int)) := by omega
    simp [B39, sem_br, sem_ret, this, stepO_ret, firstI]
  | succ k IH =>
    intro i hk
    have hi : i < l.length := by omega
    have h1 : (i : Int) < (l.length : Int) := by omega
    have hin : inI64 ((i : Int) + 1) := by unfold inI64; omega
    have ih := IH (i + 1) (by omega)
    rw [firstI_drop hi, res_eq]
    simp only [B39, sem_br, sem_ask, sem_ret, sem_nxt, PC.holds, need_true, Int.toNat_natCast, Nat.mul_one, dI_cel_map, at_map hi, h1, hin, decide_true, if_true, Int.natCast_nonneg, List.length_map, Nat.le_of_lt hi]
    by_cases hz : l.getD i 0 = 0
    · simp only [hz, bne_self_eq_false, Bool.false_eq_true, if_false, if_true, need_true, sem_nxt, stepO_nxt]
      rw [show ((i : Int) + 1) = ((i + 1 : Nat) : Int) by omega, ih]
    · simp only [bne_iff_ne.2 hz, hz, if_true, if_false, stepO_ret]
theorem F39_eq (l : List Int) (hl : l.length ≤ 100) : F39 l.length (l.map vI) = some (firstI l) := by
  unfold F39; rw [res_eq]
  simp only [B39, sem_nxt, stepO_nxt]
  exact F39_loop l hl l.length 0 (by omega)
theorem F38_eq (b : Bool) (e : Int) : F38 b e = some (if b = true then e else 0) := by
  unfold F38; rw [res_eq]
  cases b <;> simp [B38, sem_br, sem_ret, stepO_ret]
theorem F75_eq (b : Bool) (e : Int) : F75 b e = some (if b = true then e else 0) := by
  unfold F75; rw [res_eq]
  cases b <;> simp [B75, sem_br, sem_ret, stepO_ret]
theorem rng (n a b : Int) : (if (if decide (n < a) = true then true else decide (n > b)) = true then (3 : Int) else 0) = rangeI n a b := by
  unfold rangeI
  by_cases h1 : n < a <;> by_cases h2 : n > b <;> simp [h1, h2]
theorem F60_eq (n a b : Int) : F60 n a b = some (rangeI n a b) := by
  unfold F60; rw [res_eq]
  simp only [B60, F38_eq, sem_triv, sem_bind_some, sem_sees, sem_ret, stepO_ret, rng]
theorem F40_eq (n a b : Int) : F40 n a b = some (rangeI n a b) := by
  unfold F40; rw [res_eq]
  simp only [B40, F75_eq, sem_triv, sem_bind_some, sem_sees, sem_ret, stepO_ret, rng]
def regE (u r : Int) : Int := firstI [rangeI u 0 999999, rangeI r 0 999999]
theorem F54_eq (u r : Int) : F54 u r = some (regE u r) := by
  unfold F54; rw [res_eq]
  have h := F37_eq [rangeI u 0 999999, rangeI r 0 999999] (by simp)
  simp only [List.length_cons, List.length_nil, List.map_cons, List.map_nil, Nat.zero_add, Nat.reduceAdd] at h
  simp only [B54, F60_eq, h, sem_triv, sem_bind_some, sem_sees, sem_ret, stepO_ret, regE]
def chk (a0 a1 a2 a3 a4 a5 a6 a7 a8 a9 a10 a11 : Int) : Int := firstI [regE a0 a1, regE a2 a3, regE a4 a5, regE a6 a7, regE a8 a9, regE a10 a11]
theorem F31_eq (a0 a1 a2 a3 a4 a5 a6 a7 a8 a9 a10 a11 : Int) : F31 a0 a1 a2 a3 a4 a5 a6 a7 a8 a9 a10 a11 = some (chk a0 a1 a2 a3 a4 a5 a6 a7 a8 a9 a10 a11) := by
  unfold F31; rw [res_eq]
  have h := F37_eq [regE a0 a1, regE a2 a3, regE a4 a5, regE a6 a7, regE a8 a9, regE a10 a11] (by simp)
  simp only [List.length_cons, List.length_nil, List.map_cons, List.map_nil, Nat.zero_add, Nat.reduceAdd] at h
  simp only [B31, F54_eq, h, sem_triv, sem_bind_some, sem_sees, sem_ret, stepO_ret, chk]
theorem F39_2 (u r : Int) : F39 2 [vI (rangeI u 0 999999), vI (rangeI r 0 999999)] = some (regE u r) := by
  have h := F39_eq [rangeI u 0 999999, rangeI r 0 999999] (by simp)
  simp only [List.length_cons, List.length_nil, List.map_cons, List.map_nil, Nat.zero_add, Nat.reduceAdd] at h
  exact h
theorem F9_eq (a0 a1 a2 a3 a4 a5 a6 a7 a8 a9 a10 a11 : Int) : F9 a0 a1 a2 a3 a4 a5 a6 a7 a8 a9 a10 a11 = some (chk a0 a1 a2 a3 a4 a5 a6 a7 a8 a9 a10 a11) := by
  unfold F9; rw [res_eq]
  simp only [B9, F40_eq, F39_2, sem_triv, sem_bind_some, sem_sees, sem_br, sem_ret, chk, firstI]
  by_cases h0 : regE a0 a1 = 0 <;> simp only [h0, bne_self_eq_false, bne_iff_ne.2, ne_eq, not_false_iff, Bool.false_eq_true, if_false, if_true, stepO_ret]
  by_cases h1 : regE a2 a3 = 0 <;> simp only [h1, bne_self_eq_false, bne_iff_ne.2, ne_eq, not_false_iff, Bool.false_eq_true, if_false, if_true, stepO_ret]
  by_cases h2 : regE a4 a5 = 0 <;> simp only [h2, bne_self_eq_false, bne_iff_ne.2, ne_eq, not_false_iff, Bool.false_eq_true, if_false, if_true, stepO_ret]
  by_cases h3 : regE a6 a7 = 0 <;> simp only [h3, bne_self_eq_false, bne_iff_ne.2, ne_eq, not_false_iff, Bool.false_eq_true, if_false, if_true, stepO_ret]
  by_cases h4 : regE a8 a9 = 0 <;> simp only [h4, bne_self_eq_false, bne_iff_ne.2, ne_eq, not_false_iff, Bool.false_eq_true, if_false, if_true, stepO_ret]
  by_cases h5 : regE a10 a11 = 0 <;> simp only [h5, bne_self_eq_false, bne_iff_ne.2, ne_eq, not_false_iff, Bool.false_eq_true, if_false, if_true, stepO_ret]
end
section
open Go Go.RowKit
theorem F71_eq (s : ByteArray) : F71 s 10 = some (Lib.indexByte s.data.toList 10) := by
  have h : F85 s 10 = some (Lib.indexByte s.data.toList 10) := rfl
  unfold F71; rw [res_eq]
  simp only [B71, h, sem_bind_some, sem_sees, sem_ret, stepO_ret]
theorem F86_yes (q : List UInt8) (h : q.length ≤ 5000) : F86 (ba (q ++ [10])) (ByteArray.mk #[10]) = some true := by
  unfold F86; rw [res_eq]
  have hs : (ba (q ++ [10])).size = q.length + 1 := by rw [ba_size]; simp
  have h1 : (ByteArray.mk #[10]).size = 1 := rfl
  have c1 : ((q.length + 1 : Nat) : Int) ≥ ((1 : Nat) : Int) := by omega
  have e1 : ((q.length + 1 : Nat) : Int) - ((1 : Nat) : Int) = (q.length : Int) := by omega
  have i1 : inI64 (q.length : Int) := by unfold inI64; omega
  have l1 : (q.length : Int) ≤ ((q.length + 1 : Nat) : Int) := by omega
  have e2 : (ba (q ++ [10])).extract q.length (q.length + 1) = ByteArray.mk #[10] := by
    rw [ext_ba, ba_data, List.take_of_length_le (by simp), List.drop_left]; rfl
  simp only [B86, hs, h1, c1, e1, i1, l1, e2, decide_true, BEq.rfl, if_true, sem_br, sem_triv, sem_ask, sem_ret, PC.holds, need_true, Int.natCast_nonneg, Int.le_refl, Int.toNat_natCast, stepO_ret]
  rw [eqS_iff.2 rfl]
theorem F86_no (r : List UInt8) (h : r.length ≤ 5000) (hn : 10 ∉ r) : F86 (ba r) (ByteArray.mk #[10]) = some false := by
  unfold F86; rw [res_eq]
  have hs : (ba r).size = r.length := ba_size r
  have h1 : (ByteArray.mk #[10]).size = 1 := rfl
  by_cases h0 : r.length = 0
  · have c1 : ¬ (((r.length : Nat) : Int) ≥ ((1 : Nat) : Int)) := by omega
    simp only [B86, hs, h1, c1, decide_false, Bool.false_eq_true, if_false, sem_br, sem_triv, sem_ask, sem_ret, stepO_ret]
  · have c1 : ((r.length : Nat) : Int) ≥ ((1 : Nat) : Int) := by omega
    have e1 : ((r.length : Nat) : Int) - ((1 : Nat) : Int) = ((r.length - 1 : Nat) : Int) := by omega
    have i1 : inI64 ((r.length - 1 : Nat) : Int) := by unfold inI64; omega
    have l1 : ((r.length - 1 : Nat) : Int) ≤ ((r.length : Nat) : Int) := by omega
    have e2 : eqS ((ba r).extract (r.length - 1) r.length) (ByteArray.mk #[10]) = false := by
      rw [ext_ba, ba_data, List.take_length, Bool.eq_false_iff]
      intro he
      rw [eqS_iff] at he
      have : r.drop (r.length - 1) = [10] := ba_inj.1 he
      exact hn (List.mem_of_mem_drop (i := r.length - 1) (by rw [this]; simp))
    simp only [B86, hs, h1, c1, e1, i1, l1, e2, decide_true, BEq.rfl, if_true, sem_br, sem_triv, sem_ask, sem_ret, PC.holds, need_true, Int.natCast_nonneg, Int.le_refl, Int.toNat_natCast, stepO_ret]
theorem F34_yes (q : List UInt8) (h : q.length ≤ 5000) : F34 (ba (q ++ [10])) (ByteArray.mk #[10]) = some (ba q, true) := by
  have hs : (ba (q ++ [10])).size = q.length + 1 := by rw [ba_size]; simp
  have h1 : (ByteArray.mk #[10]).size = 1 := rfl
  have e1 : ((q.length + 1 : Nat) : Int) - ((1 : Nat) : Int) = (q.length : Int) := by omega
  have i1 : inI64 (q.length : Int) := by unfold inI64; omega
  have l1 : (q.length : Int) ≤ ((q.length + 1 : Nat) : Int) := by omega
  have e2 : (ba (q ++ [10])).extract 0 q.length = ba q := by
    rw [ext_ba, ba_data, List.drop_zero, List.take_left]
  have h72 : F72 (ba (q ++ [10])) (ByteArray.mk #[10]) = some (ba q, true) := by
    unfold F72; rw [res_eq]
    simp only [B72, F86_yes q h, hs, h1, e1, i1, l1, e2, Bool.not_true, Bool.false_eq_true, if_false, sem_bind_some, sem_sees, sem_br, sem_triv, sem_ask, sem_ret, PC.holds, need_true, Int.natCast_nonneg, Int.toNat_natCast, Int.toNat_zero, stepO_ret]
  unfold F34; rw [res_eq]
  simp only [B34, h72, sem_bind_some, sem_sees, sem_ret, stepO_ret]
theorem F34_no (r : List UInt8) (h : r.length ≤ 5000) (hn : 10 ∉ r) : F34 (ba r) (ByteArray.mk #[10]) = some (ba r, false) := by
  have h72 : F72 (ba r) (ByteArray.mk #[10]) = some (ba r, false) := by
    unfold F72; rw [res_eq]
    simp only [B72, F86_no r h hn, Bool.not_false, if_true, sem_bind_some, sem_sees, sem_br, sem_triv, sem_ask, sem_ret, PC.holds, need_true, stepO_ret]
  unfold F34; rw [res_eq]
  simp only [B34, h72, sem_bind_some, sem_sees, sem_ret, stepO_ret]
def nameL : Nat → List UInt8
  | 0 => [105, 109, 112, 111, 114, 116]
  | 1 => [101, 120, 112, 111, 114, 116]
  | 2 => [113, 49]
  | 3 => [113, 50]
  | 4 => [113, 51]
  | _ => [113, 52]
theorem nm_prog {n : Nat} (h : n < 6) : Option.map AV.d (List.drop ((if 5 < (n : Int) then 5 else (n : Int)).toNat * 1) gl0)[0]? = some (AV.d (DV.v (Value.string (dS (cel gl0 ((if 5 < (n : Int) then 5 else (n : Int)).toNat * 1)))))) ∧
    dS (cel gl0 ((if 5 < (n : Int) then 5 else (n : Int)).toNat * 1)) = ba (nameL n) := by
  match n, h with
  | 0, _ => exact ⟨rfl, rfl⟩
  | 1, _ => exact ⟨rfl, rfl⟩
  | 2, _ => exact ⟨rfl, rfl⟩
  | 3, _ => exact ⟨rfl, rfl⟩
  | 4, _ => exact ⟨rfl, rfl⟩
  | 5, _ => exact ⟨rfl, rfl⟩
theorem eqS_ba (a b : List UInt8) : eqS (ba a) (ba b) = decide (a = b) := by
  rw [eqS_data, ba_data, ba_data]
theorem refBs_map (k : Nat) : ∀ l : List Int, refBs k (l.map aI) = true
  | [] => rfl
  | x :: l => by rw [List.map_cons]; unfold refBs; rw [refBs_map k l]; rfl
def setM (m : List Int) (n : Nat) (a b : Int) : List Int := m.take (n * 2) ++ [a, b] ++ m.drop (n * 2 + 2)
theorem splice_map (m : List Int) (n : Nat) (a b : Int) : spliceA (m.map aI) (0 + n * 2) [aI a, aI b] = (setM m n a b).map aI := by
  unfold spliceA setM
  rw [Nat.zero_add, List.map_append, List.map_append, ← List.map_take, ← List.map_drop]; rfl
theorem setM_len {m : List Int} {n : Nat} {a b : Int} (h : m.length = 12) (hn : n < 6) : (setM m n a b).length = 12 := by
  unfold setM; simp; omega
theorem celA_map (m : List Int) (i : Nat) : dI (celA (m.map aI) i) = m.getD i 0 := by
  unfold celA
  simp only [List.getD_eq_getElem?_getD, List.getElem?_map]
  cases m[i]? <;> rfl
end
section
open Go Go.RowKit
theorem idx_at {c : UInt8} : ∀ (p q : List UInt8), c ∉ p → Lib.indexByte (p ++ c :: q) c = (p.length : Int)
  | [], q, _ => by rw [List.nil_append, Lib.indexByte, if_pos (by simp)]; rfl
  | b :: p, q, h => by
    simp only [List.mem_cons, not_or] at h
    have hb : (b == c) = false := by rw [beq_eq_false_iff_ne]; exact fun e => h.1 e.symm
    rw [List.cons_append, Lib.indexByte, if_neg (by rw [hb]; decide), idx_at p q h.2, if_neg (by rw [beq_iff_eq]; omega), List.length_cons]
    omega
def zs (n : Nat) (e : Int) : Int × Int × Int × Int × Int × Int × Int × Int × Int × Int × Int × Int × Int × Int := (0, 0, 0, 0, 0, 0, 0, 0, 0, 0, 0, 0, (n : Int), e)
def wordsOk (n : Nat) : List (List UInt8) → Bool
  | [w0, w1, w2] => decide (n < 6) && decide (w0 = nameL n) && okD w1 && okD w2
  | _ => false
def wordsV : List (List UInt8) → Int × Int
  | [_, w1, w2] => ((dvL w1 0 : Nat), (dvL w2 0 : Nat))
  | _ => (0, 0)
theorem wordsOk_6 {n : Nat} (h : ¬ n < 6) (W : List (List UInt8)) : wordsOk n W = false := by
  unfold wordsOk
  split
  · simp [h]
  · rfl
theorem wordsOk_b1 {n : Nat} {w0 w1 w2 : List UInt8} {W : List (List UInt8)} (o : okD w1 = false) : wordsOk n (w0 :: w1 :: w2 :: W) = false := by
  cases W <;> simp [wordsOk, o]
theorem wordsOk_b2 {n : Nat} {w0 w1 w2 : List UInt8} {W : List (List UInt8)} (o : okD w2 = false) : wordsOk n (w0 :: w1 :: w2 :: W) = false := by
  cases W <;> simp [wordsOk, o]
theorem F74_cases (w : List UInt8) : (okD w = true ∧ F74 (ba w) = some ((dvL w 0 : Int), true)) ∨ (okD w = false ∧ ∃ x, F74 (ba w) = some (x, false)) := by
  cases h : okD w with
  | true => exact .inl ⟨rfl, by have := F74_ok (s := ba w) (by rw [ba_data]; exact h); rw [ba_data] at this; exact this⟩
  | false => exact .inr ⟨rfl, F74_bad (s := ba w) (by rw [ba_data]; exact h)⟩
theorem celS0 (w : List UInt8) (r : List DV) : dS (cel (sD w :: r) 0) = ba w := rfl
theorem opS0 (w : List UInt8) (r : List DV) : (Option.map AV.d (sD w :: r)[0]? = some (AV.d (DV.v (Value.string (ba w))))) = True := eq_true rfl
theorem nmE {n : Nat} (h : n < 6) : dS (cel gl0 (if 5 < (n : Int) then 5 else (n : Int)).toNat) = ba (nameL n) := by
  have := (nm_prog h).2
  rw [Nat.mul_one] at this; exact this
theorem opN {n : Nat} (h : n < 6) : (Option.map AV.d (List.drop (if 5 < (n : Int) then 5 else (n : Int)).toNat gl0)[0]? = some (AV.d (DV.v (Value.string (ba (nameL n)))))) = True := by
  have := (nm_prog h).1
  rw [(nm_prog h).2, Nat.mul_one] at this
  exact eq_true this
theorem le_ix {n : Nat} (h : n < 6) : (0 : Int) ≤ (if 5 < (n : Int) then 5 else (n : Int)) ∧ (if 5 < (n : Int) then 5 else (n : Int)) < 6 ∧ (if 5 < (n : Int) then 5 else (n : Int)).toNat ≤ 6 := by
  rw [if_neg (by omega)]; omega
def z12 : List Int := [0, 0, 0, 0, 0, 0, 0, 0, 0, 0, 0, 0]
theorem splice_z (n : Nat) (a b : Int) : spliceA [AV.d (DV.v (Value.int IntKind.i64 0)), AV.d (DV.v (Value.int IntKind.i64 0)), AV.d (DV.v (Value.int IntKind.i64 0)), AV.d (DV.v (Value.int IntKind.i64 0)), AV.d (DV.v (Value.int IntKind.i64 0)), AV.d (DV.v (Value.int IntKind.i64 0)), AV.d (DV.v (Value.int IntKind.i64 0)), AV.d (DV.v (Value.int IntKind.i64 0)), AV.d (DV.v (Value.int IntKind.i64 0)), AV.d (DV.v (Value.int IntKind.i64 0)), AV.d (DV.v (Value.int IntKind.i64 0)), AV.d (DV.v (Value.int IntKind.i64 0))] (0 + n * 2) [aI a, aI b] = (setM z12 n a b).map aI := splice_map z12 n a b
theorem refK_map (k t : Nat) (l : List Int) : (refK k (ABlk.cells (l.map aI) t) = true) = True := eq_true (refBs_map k l)
theorem c2_line {m : List Int} (hm : m.length = 12) {n : Nat} (hn : n ≤ 6) {p q : List UInt8} (hp : 10 ∉ p) (hl : (p ++ 10 :: q).length ≤ 5000) (a b : ByteArray) (c : Int) (d : ByteArray) :
    res B8 (.c2 (m.map aI) (n : Int) (ba (p ++ 10 :: q)) a b c d) = if wordsOk n (spl 32 [] p) = true then res B8 (.c2 ((setM m n (wordsV (spl 32 [] p)).1 (wordsV (spl 32 [] p)).2).map aI) ((n + 1 : Nat) : Int) (ba q) a b c d) else some (zs n 25) := by
  have hlen : (p ++ 10 :: q).length = p.length + 1 + q.length := by simp; omega
  have hs : (ba (p ++ 10 :: q)).size = p.length + 1 + q.length := by rw [ba_size, hlen]
  have hidx := idx_at p q hp
  have c0 : ((p.length + 1 + q.length : Nat) : Int) > 0 := by omega
  have c1 : (p.length : Int) ≥ 0 := by omega
  have e0 : (p.length : Int) + 1 = ((p.length + 1 : Nat) : Int) := by omega
  have i0 : inI64 ((p.length + 1 : Nat) : Int) := by unfold inI64; omega
  have l0 : (0 : Int) ≤ ((p.length + 1 : Nat) : Int) := by omega
  have l1 : ((p.length + 1 : Nat) : Int) ≤ ((p.length + 1 + q.length : Nat) : Int) := by omega
  have e1 : (ba (p ++ 10 :: q)).extract 0 (p.length + 1) = ba (p ++ [10]) := by
    rw [ext_ba, ba_data, List.drop_zero]
    congr 1
    rw [List.take_append]
    rw [List.take_of_length_le (by omega), show p.length + 1 - p.length = 1 by omega]; rfl
  have e2 : (ba (p ++ 10 :: q)).extract (p.length + 1) (p.length + 1 + q.length) = ba q := by
    rw [ext_ba, ba_data, List.take_of_length_le (by omega)]
    congr 1
    rw [List.drop_append, List.drop_eq_nil_of_le (by omega), show p.length + 1 - p.length = 1 by omega]; rfl
  have h34 := F34_yes p (by omega)
  have h35 := F35_eq (ba p) 32 (by rw [ba_size]; omega)
  rw [ba_data] at h35
  have hne := spl_ne (c := 32) p []
  have hwl := spl_length (c := 32) p []
  generalize spl 32 [] p = W at h35 hne hwl
  have c2 : True := trivial
  rw [res_eq]
  by_cases h6 : n < 6
  · have c6 : ¬ ((n : Int) ≥ 6) := by omega
    match W with
    | [] => exact absurd rfl hne
    | w0 :: Wt =>
      have k0 : ((w0 :: Wt).length : Int) > 0 := by rw [List.length_cons]; omega
      have k1 : (0 : Int) < ((Wt.length + 1 : Nat) : Int) := by omega
      have k2 : (1 : Int) ≤ ((Wt.length + 1 : Nat) : Int) := by omega
      have k3 : Wt.length + 1 - 1 = Wt.length := by omega
      have k4 : (Wt.map sD).length = Wt.length := List.length_map ..
      have k5 : (Wt.map sD).take Wt.length = Wt.map sD := List.take_of_length_le (by omega)
      by_cases hw : w0 = nameL n
      · match Wt with
        | [] =>
          have z0 : (((([] : List (List UInt8)).length : Nat) : Int) == 0) = true := rfl
          simp only [B8, F71_eq, ba_data, hidx, c0, c1, c2, e0, i0, l0, l1, e1, e2, h34, h35, hs, decide_true, decide_false, Bool.not_true, Bool.not_false, Bool.false_eq_true, BEq.rfl, if_true, if_false, sem_bind_some, sem_sees, sem_br, sem_triv, sem_ask, sem_ret, sem_nxt, PC.holds, need_true, stepO_ret, stepO_nxt, Int.natCast_nonneg, Int.le_refl, Nat.le_refl, Int.toNat_natCast, Int.toNat_zero, c6, opN h6, nmE h6, (le_ix h6).1, (le_ix h6).2.1, (le_ix h6).2.2, List.drop_zero, celS0, opS0, eqS_ba, Nat.zero_le, hw, k1, k2, k3, k4, k5, z0, List.map_cons, List.length_cons, Nat.mul_one]
          rfl
        | w1 :: Wu =>
          have z0 : ((((w1 :: Wu).length : Nat) : Int) == 0) = false := by rw [beq_eq_false_iff_ne, List.length_cons]; omega
          have z1 : (((Wu.length + 1 : Nat) : Int) == 0) = false := by rw [beq_eq_false_iff_ne]; omega
          have g1 : (0 : Int) < ((Wu.length + 1 : Nat) : Int) := by omega
          have g2 : (1 : Int) ≤ ((Wu.length + 1 : Nat) : Int) := by omega
          have g3 : Wu.length + 1 - 1 = Wu.length := by omega
          have g4 : (Wu.map sD).length = Wu.length := List.length_map ..
          have g5 : (Wu.map sD).take Wu.length = Wu.map sD := List.take_of_length_le (by omega)
          have g6 : (sD w1 :: Wu.map sD).take (Wu.length + 1) = sD w1 :: Wu.map sD := by rw [List.take_succ_cons, g5]
          have g7 : Wu.length + 1 + 1 - 1 = Wu.length + 1 := by omega
          have g8 : (0 : Int) < ((Wu.length + 1 + 1 : Nat) : Int) := by omega
          have g9 : (1 : Int) ≤ ((Wu.length + 1 + 1 : Nat) : Int) := by omega
          obtain ⟨x1, b1, f1, o1⟩ : ∃ x b, F74 (ba w1) = some (x, b) ∧ okD w1 = b := by
            rcases F74_cases w1 with ⟨h1, h2⟩ | ⟨h1, x, h2⟩
            · exact ⟨_, _, h2, h1⟩
            · exact ⟨_, _, h2, h1⟩
          match Wu with
          | [] =>
            have z2 : (((([] : List (List UInt8)).length : Nat) : Int) == 0) = true := rfl
            simp only [B8, F71_eq, ba_data, hidx, c0, c1, c2, e0, i0, l0, l1, e1, e2, h34, h35, hs, decide_true, decide_false, Bool.not_true, Bool.not_false, Bool.false_eq_true, BEq.rfl, if_true, if_false, sem_bind_some, sem_sees, sem_br, sem_triv, sem_ask, sem_ret, sem_nxt, PC.holds, need_true, stepO_ret, stepO_nxt, Int.natCast_nonneg, Int.le_refl, Nat.le_refl, Int.toNat_natCast, Int.toNat_zero, c6, opN h6, nmE h6, (le_ix h6).1, (le_ix h6).2.1, (le_ix h6).2.2, List.drop_zero, celS0, opS0, eqS_ba, Nat.zero_le, hw, f1, z1, g1, g2, g3, g4, g5, g6, g7, g8, g9, z2, List.map_cons, List.length_cons, Nat.mul_one, List.drop_succ_cons]
            rfl
          | w2 :: Wv =>
            have u1 : (0 : Int) < ((Wv.length + 1 : Nat) : Int) := by omega
            have u2 : (1 : Int) ≤ ((Wv.length + 1 : Nat) : Int) := by omega
            have u3 : Wv.length + 1 - 1 = Wv.length := by omega
            have u4 : (Wv.map sD).length = Wv.length := List.length_map ..
            have u5 : (Wv.map sD).take Wv.length = Wv.map sD := List.take_of_length_le (by omega)
            have u6 : (sD w2 :: Wv.map sD).take (Wv.length + 1) = sD w2 :: Wv.map sD := by rw [List.take_succ_cons, u5]
            have u7 : (sD w1 :: sD w2 :: Wv.map sD).take (Wv.length + 1 + 1) = sD w1 :: sD w2 :: Wv.map sD := by rw [List.take_succ_cons, u6]
            have u8 : Wv.length + 1 + 1 - 1 = Wv.length + 1 := by omega
            have u9 : Wv.length + 1 + 1 + 1 - 1 = Wv.length + 1 + 1 := by omega
            have v1 : (0 : Int) < ((Wv.length + 1 + 1 : Nat) : Int) := by omega
            have v2 : (1 : Int) ≤ ((Wv.length + 1 + 1 : Nat) : Int) := by omega
            have v3 : (0 : Int) < ((Wv.length + 1 + 1 + 1 : Nat) : Int) := by omega
            have v4 : (1 : Int) ≤ ((Wv.length + 1 + 1 + 1 : Nat) : Int) := by omega
            have y0 : (((Wv.length + 1 + 1 : Nat) : Int) == 0) = false := by rw [beq_eq_false_iff_ne]; omega
            have y1 : (((Wv.length + 1 : Nat) : Int) == 0) = false := by rw [beq_eq_false_iff_ne]; omega
            obtain ⟨x2, b2, f2, o2⟩ : ∃ x b, F74 (ba w2) = some (x, b) ∧ okD w2 = b := by
              rcases F74_cases w2 with ⟨h1, h2⟩ | ⟨h1, x, h2⟩
              · exact ⟨_, _, h2, h1⟩
              · exact ⟨_, _, h2, h1⟩
            have T := True.intro
            simp only [B8, F71_eq, ba_data, hidx, c0, c1, c2, e0, i0, l0, l1, e1, e2, h34, h35, hs, decide_true, decide_false, Bool.not_true, Bool.not_false, Bool.false_eq_true, BEq.rfl, if_true, if_false, sem_bind_some, sem_sees, sem_br, sem_triv, sem_ask, sem_ret, sem_nxt, PC.holds, need_true, stepO_ret, stepO_nxt, Int.natCast_nonneg, Int.le_refl, Nat.le_refl, Int.toNat_natCast, Int.toNat_zero, c6, opN h6, nmE h6, (le_ix h6).1, (le_ix h6).2.1, (le_ix h6).2.2, List.drop_zero, celS0, opS0, eqS_ba, Nat.zero_le, hw, f1, f2, y0, y1, u1, u2, u3, u4, u5, u6, u7, u8, u9, v1, v2, v3, v4, List.map_cons, List.length_cons, Nat.mul_one, List.drop_succ_cons]
            cases b1 with
            | false =>
              simp only [Bool.not_false, if_true, sem_ret, stepO_ret]
              rw [wordsOk_b1 o1]
              rfl
            | true =>
              cases b2 with
              | false =>
                simp only [Bool.not_true, Bool.not_false, Bool.false_eq_true, if_true, if_false, sem_ret, stepO_ret]
                rw [wordsOk_b2 o2]
                rfl
              | true =>
                match Wv with
                | [] =>
                  have ok : wordsOk n [nameL n, w1, w2] = true := by unfold wordsOk; simp [o1, o2, h6]
                  have x1e : x1 = (dvL w1 0 : Int) := by
                    rcases F74_cases w1 with ⟨h1, h2⟩ | ⟨h1, x, h2⟩
                    · rw [f1] at h2; simpa using h2
                    · rw [f1] at h2; simp at h2
                  have x2e : x2 = (dvL w2 0 : Int) := by
                    rcases F74_cases w2 with ⟨h1, h2⟩ | ⟨h1, x, h2⟩
                    · rw [f2] at h2; simpa using h2
                    · rw [f2] at h2; simp at h2
                  have r1 : ¬ (((([] : List (List UInt8)).length : Nat) : Int) > 0) := by simp
                  have r2 : (n : Int) < 6 := by omega
                  have r3 : 0 + n * 2 + 2 ≤ 12 := by omega
                  have r4 : inI64 ((n : Int) + 1) := by unfold inI64; omega
                  simp only [Bool.not_true, Bool.false_eq_true, if_true, if_false, sem_br, sem_ask, sem_triv, sem_nxt, PC.holds, need_true, r1, r2, r3, r4, decide_false, List.length_map, hm, splice_map, refK_map, e2, stepO_nxt, ok, wordsV, x1e, x2e]
                  rfl
                | w3 :: Wz =>
                  have r1 : (((w3 :: Wz).length : Nat) : Int) > 0 := by rw [List.length_cons]; omega
                  simp only [Bool.not_true, Bool.false_eq_true, if_true, if_false, sem_br, sem_ret, r1, decide_true, stepO_ret]
                  rfl
      · have nw : wordsOk n (w0 :: Wt) = false := by
          unfold wordsOk
          split
          · rename_i heq
            simp only [List.cons.injEq] at heq
            obtain ⟨rfl, _⟩ := heq
            simp [hw]
          · rfl
        simp only [B8, F71_eq, ba_data, hidx, c0, c1, c2, e0, i0, l0, l1, e1, e2, h34, h35, hs, decide_true, decide_false, Bool.not_true, Bool.not_false, Bool.false_eq_true, BEq.rfl, if_true, if_false, sem_bind_some, sem_sees, sem_br, sem_triv, sem_ask, sem_ret, sem_nxt, PC.holds, need_true, stepO_ret, stepO_nxt, Int.natCast_nonneg, Int.le_refl, Nat.le_refl, Int.toNat_natCast, Int.toNat_zero, c6, opN h6, nmE h6, (le_ix h6).1, (le_ix h6).2.1, (le_ix h6).2.2, List.drop_zero, celS0, opS0, eqS_ba, Nat.zero_le, hw, k1, k2, k3, k4, k5, List.map_cons, List.length_cons, Nat.mul_one, nw]
        rfl
  · have c6 : (n : Int) ≥ 6 := by omega
    have nw := wordsOk_6 h6 W
    simp only [B8, F71_eq, ba_data, hidx, c0, c1, c2, e0, i0, l0, l1, e1, e2, h34, h35, hs, decide_true, decide_false, Bool.not_true, Bool.not_false, Bool.false_eq_true, BEq.rfl, if_true, if_false, sem_bind_some, sem_sees, sem_br, sem_triv, sem_ask, sem_ret, sem_nxt, PC.holds, need_true, stepO_ret, stepO_nxt, Int.natCast_nonneg, Int.le_refl, Nat.le_refl, Int.toNat_natCast, Int.toNat_zero, c6, nw]
    rfl
theorem c1_line {n : Nat} (hn : n ≤ 6) {p q : List UInt8} (hp : 10 ∉ p) (hl : (p ++ 10 :: q).length ≤ 5000) (a b : ByteArray) (c : Int) (d : ByteArray) :
    res B8 (.c1 0 0 (n : Int) (ba (p ++ 10 :: q)) a b c d) = if wordsOk n (spl 32 [] p) = true then res B8 (.c2 ((setM z12 n (wordsV (spl 32 [] p)).1 (wordsV (spl 32 [] p)).2).map aI) ((n + 1 : Nat) : Int) (ba q) a b c d) else some (zs n 25) := by
  have hlen : (p ++ 10 :: q).length = p.length + 1 + q.length := by simp; omega
  have hs : (ba (p ++ 10 :: q)).size = p.length + 1 + q.length := by rw [ba_size, hlen]
  have hidx := idx_at p q hp
  have c0 : ((p.length + 1 + q.length : Nat) : Int) > 0 := by omega
  have c1 : (p.length : Int) ≥ 0 := by omega
  have e0 : (p.length : Int) + 1 = ((p.length + 1 : Nat) : Int) := by omega
  have i0 : inI64 ((p.length + 1 : Nat) : Int) := by unfold inI64; omega
  have l0 : (0 : Int) ≤ ((p.length + 1 : Nat) : Int) := by omega
  have l1 : ((p.length + 1 : Nat) : Int) ≤ ((p.length + 1 + q.length : Nat) : Int) := by omega
  have e1 : (ba (p ++ 10 :: q)).extract 0 (p.length + 1) = ba (p ++ [10]) := by
    rw [ext_ba, ba_data, List.drop_zero]
    congr 1
    rw [List.take_append]
    rw [List.take_of_length_le (by omega), show p.length + 1 - p.length = 1 by omega]; rfl
  have e2 : (ba (p ++ 10 :: q)).extract (p.length + 1) (p.length + 1 + q.length) = ba q := by
    rw [ext_ba, ba_data, List.take_of_length_le (by omega)]
    congr 1
    rw [List.drop_append, List.drop_eq_nil_of_le (by omega), show p.length + 1 - p.length = 1 by omega]; rfl
  have h34 := F34_yes p (by omega)
  have h35 := F35_eq (ba p) 32 (by rw [ba_size]; omega)
  rw [ba_data] at h35
  have hne := spl_ne (c := 32) p []
  have hwl := spl_length (c := 32) p []
  generalize spl 32 [] p = W at h35 hne hwl
  have c2 : True := trivial
  rw [res_eq]
  by_cases h6 : n < 6
  · have c6 : ¬ ((n : Int) ≥ 6) := by omega
    match W with
    | [] => exact absurd rfl hne
    | w0 :: Wt =>
      have k0 : ((w0 :: Wt).length : Int) > 0 := by rw [List.length_cons]; omega
      have k1 : (0 : Int) < ((Wt.length + 1 : Nat) : Int) := by omega
      have k2 : (1 : Int) ≤ ((Wt.length + 1 : Nat) : Int) := by omega
      have k3 : Wt.length + 1 - 1 = Wt.length := by omega
      have k4 : (Wt.map sD).length = Wt.length := List.length_map ..
      have k5 : (Wt.map sD).take Wt.length = Wt.map sD := List.take_of_length_le (by omega)
      by_cases hw : w0 = nameL n
      · match Wt with
        | [] =>
          have z0 : (((([] : List (List UInt8)).length : Nat) : Int) == 0) = true := rfl
          simp only [B8, F71_eq, ba_data, hidx, c0, c1, c2, e0, i0, l0, l1, e1, e2, h34, h35, hs, decide_true, decide_false, Bool.not_true, Bool.not_false, Bool.false_eq_true, BEq.rfl, if_true, if_false, sem_bind_some, sem_sees, sem_br, sem_triv, sem_ask, sem_ret, sem_nxt, PC.holds, need_true, stepO_ret, stepO_nxt, Int.natCast_nonneg, Int.le_refl, Nat.le_refl, Int.toNat_natCast, Int.toNat_zero, c6, opN h6, nmE h6, (le_ix h6).1, (le_ix h6).2.1, (le_ix h6).2.2, List.drop_zero, celS0, opS0, eqS_ba, Nat.zero_le, hw, k1, k2, k3, k4, k5, z0, List.map_cons, List.length_cons, Nat.mul_one]
          rfl
        | w1 :: Wu =>
          have z0 : ((((w1 :: Wu).length : Nat) : Int) == 0) = false := by rw [beq_eq_false_iff_ne, List.length_cons]; omega
          have z1 : (((Wu.length + 1 : Nat) : Int) == 0) = false := by rw [beq_eq_false_iff_ne]; omega
          have g1 : (0 : Int) < ((Wu.length + 1 : Nat) : Int) := by omega
          have g2 : (1 : Int) ≤ ((Wu.length + 1 : Nat) : Int) := by omega
          have g3 : Wu.length + 1 - 1 = Wu.length := by omega
          have g4 : (Wu.map sD).length = Wu.length := List.length_map ..
          have g5 : (Wu.map sD).take Wu.length = Wu.map sD := List.take_of_length_le (by omega)
          have g6 : (sD w1 :: Wu.map sD).take (Wu.length + 1) = sD w1 :: Wu.map sD := by rw [List.take_succ_cons, g5]
          have g7 : Wu.length + 1 + 1 - 1 = Wu.length + 1 := by omega
          have g8 : (0 : Int) < ((Wu.length + 1 + 1 : Nat) : Int) := by omega
          have g9 : (1 : Int) ≤ ((Wu.length + 1 + 1 : Nat) : Int) := by omega
          obtain ⟨x1, b1, f1, o1⟩ : ∃ x b, F74 (ba w1) = some (x, b) ∧ okD w1 = b := by
            rcases F74_cases w1 with ⟨h1, h2⟩ | ⟨h1, x, h2⟩
            · exact ⟨_, _, h2, h1⟩
            · exact ⟨_, _, h2, h1⟩
          match Wu with
          | [] =>
            have z2 : (((([] : List (List UInt8)).length : Nat) : Int) == 0) = true := rfl
            simp only [B8, F71_eq, ba_data, hidx, c0, c1, c2, e0, i0, l0, l1, e1, e2, h34, h35, hs, decide_true, decide_false, Bool.not_true, Bool.not_false, Bool.false_eq_true, BEq.rfl, if_true, if_false, sem_bind_some, sem_sees, sem_br, sem_triv, sem_ask, sem_ret, sem_nxt, PC.holds, need_true, stepO_ret, stepO_nxt, Int.natCast_nonneg, Int.le_refl, Nat.le_refl, Int.toNat_natCast, Int.toNat_zero, c6, opN h6, nmE h6, (le_ix h6).1, (le_ix h6).2.1, (le_ix h6).2.2, List.drop_zero, celS0, opS0, eqS_ba, Nat.zero_le, hw, f1, z1, g1, g2, g3, g4, g5, g6, g7, g8, g9, z2, List.map_cons, List.length_cons, Nat.mul_one, List.drop_succ_cons]
            rfl
          | w2 :: Wv =>
            have u1 : (0 : Int) < ((Wv.length + 1 : Nat) : Int) := by omega
            have u2 : (1 : Int) ≤ ((Wv.length + 1 : Nat) : Int) := by omega
            have u3 : Wv.length + 1 - 1 = Wv.length := by omega
            have u4 : (Wv.map sD).length = Wv.length := List.length_map ..
            have u5 : (Wv.map sD).take Wv.length = Wv.map sD := List.take_of_length_le (by omega)
            have u6 : (sD w2 :: Wv.map sD).take (Wv.length + 1) = sD w2 :: Wv.map sD := by rw [List.take_succ_cons, u5]
            have u7 : (sD w1 :: sD w2 :: Wv.map sD).take (Wv.length + 1 + 1) = sD w1 :: sD w2 :: Wv.map sD := by rw [List.take_succ_cons, u6]
            have u8 : Wv.length + 1 + 1 - 1 = Wv.length + 1 := by omega
            have u9 : Wv.length + 1 + 1 + 1 - 1 = Wv.length + 1 + 1 := by omega
            have v1 : (0 : Int) < ((Wv.length + 1 + 1 : Nat) : Int) := by omega
            have v2 : (1 : Int) ≤ ((Wv.length + 1 + 1 : Nat) : Int) := by omega
            have v3 : (0 : Int) < ((Wv.length + 1 + 1 + 1 : Nat) : Int) := by omega
            have v4 : (1 : Int) ≤ ((Wv.length + 1 + 1 + 1 : Nat) : Int) := by omega
            have y0 : (((Wv.length + 1 + 1 : Nat) : Int) == 0) = false := by rw [beq_eq_false_iff_ne]; omega
            have y1 : (((Wv.length + 1 : Nat) : Int) == 0) = false := by rw [beq_eq_false_iff_ne]; omega
            obtain ⟨x2, b2, f2, o2⟩ : ∃ x b, F74 (ba w2) = some (x, b) ∧ okD w2 = b := by
              rcases F74_cases w2 with ⟨h1, h2⟩ | ⟨h1, x, h2⟩
              · exact ⟨_, _, h2, h1⟩
              · exact ⟨_, _, h2, h1⟩
            have T := True.intro
            simp only [B8, F71_eq, ba_data, hidx, c0, c1, c2, e0, i0, l0, l1, e1, e2, h34, h35, hs, decide_true, decide_false, Bool.not_true, Bool.not_false, Bool.false_eq_true, BEq.rfl, if_true, if_false, sem_bind_some, sem_sees, sem_br, sem_triv, sem_ask, sem_ret, sem_nxt, PC.holds, need_true, stepO_ret, stepO_nxt, Int.natCast_nonneg, Int.le_refl, Nat.le_refl, Int.toNat_natCast, Int.toNat_zero, c6, opN h6, nmE h6, (le_ix h6).1, (le_ix h6).2.1, (le_ix h6).2.2, List.drop_zero, celS0, opS0, eqS_ba, Nat.zero_le, hw, f1, f2, y0, y1, u1, u2, u3, u4, u5, u6, u7, u8, u9, v1, v2, v3, v4, List.map_cons, List.length_cons, Nat.mul_one, List.drop_succ_cons]
            cases b1 with
            | false =>
              simp only [Bool.not_false, if_true, sem_ret, stepO_ret]
              rw [wordsOk_b1 o1]
              rfl
            | true =>
              cases b2 with
              | false =>
                simp only [Bool.not_true, Bool.not_false, Bool.false_eq_true, if_true, if_false, sem_ret, stepO_ret]
                rw [wordsOk_b2 o2]
                rfl
              | true =>
                match Wv with
                | [] =>
                  have ok : wordsOk n [nameL n, w1, w2] = true := by unfold wordsOk; simp [o1, o2, h6]
                  have x1e : x1 = (dvL w1 0 : Int) := by
                    rcases F74_cases w1 with ⟨h1, h2⟩ | ⟨h1, x, h2⟩
                    · rw [f1] at h2; simpa using h2
                    · rw [f1] at h2; simp at h2
                  have x2e : x2 = (dvL w2 0 : Int) := by
                    rcases F74_cases w2 with ⟨h1, h2⟩ | ⟨h1, x, h2⟩
                    · rw [f2] at h2; simpa using h2
                    · rw [f2] at h2; simp at h2
                  have r1 : ¬ (((([] : List (List UInt8)).length : Nat) : Int) > 0) := by simp
                  have r2 : (n : Int) < 6 := by omega
                  have r3 : 0 + n * 2 + 2 ≤ 12 := by omega
                  have r4 : inI64 ((n : Int) + 1) := by unfold inI64; omega
                  simp only [Bool.not_true, Bool.false_eq_true, if_true, if_false, sem_br, sem_ask, sem_triv, sem_nxt, PC.holds, need_true, r1, r2, r3, r4, decide_false, splice_z, refK_map, e2, stepO_nxt, ok, wordsV, x1e, x2e]
                  rfl
                | w3 :: Wz =>
                  have r1 : (((w3 :: Wz).length : Nat) : Int) > 0 := by rw [List.length_cons]; omega
                  simp only [Bool.not_true, Bool.false_eq_true, if_true, if_false, sem_br, sem_ret, r1, decide_true, stepO_ret]
                  rfl
      · have nw : wordsOk n (w0 :: Wt) = false := by
          unfold wordsOk
          split
          · rename_i heq
            simp only [List.cons.injEq] at heq
            obtain ⟨rfl, _⟩ := heq
            simp [hw]
          · rfl
        simp only [B8, F71_eq, ba_data, hidx, c0, c1, c2, e0, i0, l0, l1, e1, e2, h34, h35, hs, decide_true, decide_false, Bool.not_true, Bool.not_false, Bool.false_eq_true, BEq.rfl, if_true, if_false, sem_bind_some, sem_sees, sem_br, sem_triv, sem_ask, sem_ret, sem_nxt, PC.holds, need_true, stepO_ret, stepO_nxt, Int.natCast_nonneg, Int.le_refl, Nat.le_refl, Int.toNat_natCast, Int.toNat_zero, c6, opN h6, nmE h6, (le_ix h6).1, (le_ix h6).2.1, (le_ix h6).2.2, List.drop_zero, celS0, opS0, eqS_ba, Nat.zero_le, hw, k1, k2, k3, k4, k5, List.map_cons, List.length_cons, Nat.mul_one, nw]
        rfl
  · have c6 : (n : Int) ≥ 6 := by omega
    have nw := wordsOk_6 h6 W
    simp only [B8, F71_eq, ba_data, hidx, c0, c1, c2, e0, i0, l0, l1, e1, e2, h34, h35, hs, decide_true, decide_false, Bool.not_true, Bool.not_false, Bool.false_eq_true, BEq.rfl, if_true, if_false, sem_bind_some, sem_sees, sem_br, sem_triv, sem_ask, sem_ret, sem_nxt, PC.holds, need_true, stepO_ret, stepO_nxt, Int.natCast_nonneg, Int.le_refl, Nat.le_refl, Int.toNat_natCast, Int.toNat_zero, c6, nw]
    rfl
end
section
open Go Go.RowKit
def chkM (m : List Int) : Int := chk (m.getD 0 0) (m.getD 1 0) (m.getD 2 0) (m.getD 3 0) (m.getD 4 0) (m.getD 5 0) (m.getD 6 0) (m.getD 7 0) (m.getD 8 0) (m.getD 9 0) (m.getD 10 0) (m.getD 11 0)
def mt (m : List Int) : Int × Int × Int × Int × Int × Int × Int × Int × Int × Int × Int × Int × Int × Int := (m.getD 0 0, m.getD 1 0, m.getD 2 0, m.getD 3 0, m.getD 4 0, m.getD 5 0, m.getD 6 0, m.getD 7 0, m.getD 8 0, m.getD 9 0, m.getD 10 0, m.getD 11 0, 0, 0)
def fin (n : Nat) (m : List Int) : Int × Int × Int × Int × Int × Int × Int × Int × Int × Int × Int × Int × Int × Int :=
  if n < 6 then zs n 16 else if chkM m = 0 then mt m else zs n (chkM m)
def pars : List (List UInt8) → Nat → List Int → Int × Int × Int × Int × Int × Int × Int × Int × Int × Int × Int × Int × Int × Int
  | [], n, _ => zs n 25
  | p :: P, n, m => match P with
    | [] => if p = [] then fin n m else zs n 25
    | _ :: _ => if wordsOk n (spl 32 [] p) = true then pars P (n + 1) (setM m n (wordsV (spl 32 [] p)).1 (wordsV (spl 32 [] p)).2) else zs n 25
theorem list12 {m : List Int} (h : m.length = 12) : ∃ a0 a1 a2 a3 a4 a5 a6 a7 a8 a9 a10 a11, m = [a0, a1, a2, a3, a4, a5, a6, a7, a8, a9, a10, a11] := by
  match m, h with
  | [a0, a1, a2, a3, a4, a5, a6, a7, a8, a9, a10, a11], _ => exact ⟨_, _, _, _, _, _, _, _, _, _, _, _, rfl⟩
theorem take12 {m : List Int} (h : m.length = 12) : (List.take 12 (m.map aI) = [AV.d (DV.v (Value.int IntKind.i64 (m.getD 0 0))), AV.d (DV.v (Value.int IntKind.i64 (m.getD 1 0))), AV.d (DV.v (Value.int IntKind.i64 (m.getD 2 0))), AV.d (DV.v (Value.int IntKind.i64 (m.getD 3 0))), AV.d (DV.v (Value.int IntKind.i64 (m.getD 4 0))), AV.d (DV.v (Value.int IntKind.i64 (m.getD 5 0))), AV.d (DV.v (Value.int IntKind.i64 (m.getD 6 0))), AV.d (DV.v (Value.int IntKind.i64 (m.getD 7 0))), AV.d (DV.v (Value.int IntKind.i64 (m.getD 8 0))), AV.d (DV.v (Value.int IntKind.i64 (m.getD 9 0))), AV.d (DV.v (Value.int IntKind.i64 (m.getD 10 0))), AV.d (DV.v (Value.int IntKind.i64 (m.getD 11 0)))]) = True := by
  obtain ⟨a0, a1, a2, a3, a4, a5, a6, a7, a8, a9, a10, a11, rfl⟩ := list12 h
  exact eq_true rfl
theorem F37_2 (a b : Int) : F37 2 [vI a, vI b] = some (firstI [a, b]) := F37_eq [a, b] (by simp)
theorem first2 (n : Nat) (e : Int) : firstI [if decide ((n : Int) < 6) = true then 16 else 0, e] = if n < 6 then 16 else e := by
  by_cases h : n < 6
  · have : (n : Int) < 6 := by omega
    simp [this, h, firstI]
  · have : ¬ ((n : Int) < 6) := by omega
    simp only [this, h, decide_false, Bool.false_eq_true, if_false, firstI, if_true]
    split
    · rename_i h0; rw [h0]
    · rfl
theorem chk_z : chkM z12 = 0 := by decide
theorem c2_end {m : List Int} (hm : m.length = 12) (n : Nat) (a b : ByteArray) (c : Int) (d : ByteArray) : res B8 (.c2 (m.map aI) (n : Int) (ba []) a b c d) = some (fin n m) := by
  have hs : ¬ (((ba []).size : Int) > 0) := by rw [ba_size]; simp
  have hl : 12 ≤ 12 := Nat.le_refl 12
  rw [res_eq]
  simp only [B8, hs, celA_map, F38_eq, F31_eq, F37_2, first2, take12 hm, hl, List.length_map, hm, List.drop_zero, decide_false, Bool.false_eq_true, if_false, sem_bind_some, sem_sees, sem_br, sem_ask, sem_ret, PC.holds, need_true, Nat.le_refl]
  unfold fin
  by_cases h6 : n < 6
  · simp only [h6, if_true, show ((16 : Int) != 0) = true from rfl, stepO_ret]; rfl
  · simp only [h6, if_false]
    show stepO _ (if (chkM m != 0) = true then _ else _) = _
    by_cases h0 : chkM m = 0
    · simp only [h0, bne_self_eq_false, Bool.false_eq_true, if_false, if_true, stepO_ret]; rfl
    · simp only [bne_iff_ne.2 h0, h0, if_true, if_false, stepO_ret]; rfl
theorem c1_end (n : Nat) (a b : ByteArray) (c : Int) (d : ByteArray) : res B8 (.c1 0 0 (n : Int) (ba []) a b c d) = some (fin n z12) := by
  have hs : ¬ (((ba []).size : Int) > 0) := by rw [ba_size]; simp
  rw [res_eq]
  simp only [B8, hs, F38_eq, F31_eq, F37_2, first2, decide_false, Bool.false_eq_true, if_false, sem_bind_some, sem_sees, sem_br, sem_ask, sem_ret, PC.holds, need_true]
  unfold fin
  by_cases h6 : n < 6
  · simp only [h6, if_true, show ((16 : Int) != 0) = true from rfl, stepO_ret]; rfl
  · simp only [h6, if_false]
    show stepO _ (if (chkM z12 != 0) = true then _ else _) = _
    simp only [chk_z, bne_self_eq_false, Bool.false_eq_true, if_false, if_true, stepO_ret]; rfl
theorem c2_last {m : List Int} (n : Nat) {r : List UInt8} (h0 : r ≠ []) (hn : 10 ∉ r) (hl : r.length ≤ 5000) (a b : ByteArray) (c : Int) (d : ByteArray) : res B8 (.c2 (m.map aI) (n : Int) (ba r) a b c d) = some (zs n 25) := by
  have hpos : 0 < r.length := List.length_pos_iff.2 h0
  have hs : ((ba r).size : Int) > 0 := by rw [ba_size]; omega
  have hi : ∃ i, F71 (ba r) 10 = some i ∧ ¬ (i ≥ 0) := by
    refine ⟨_, F71_eq _, ?_⟩
    rw [ba_data]
    intro hge
    obtain ⟨j, hj⟩ : ∃ j : Nat, Lib.indexByte r 10 = (j : Int) := ⟨(Lib.indexByte r 10).toNat, by omega⟩
    obtain ⟨q1, q2, q3⟩ := idx_some r j hj
    apply hn
    rw [q2]; simp
  obtain ⟨i, h71, hi⟩ := hi
  have h34 := F34_no r hl hn
  have h35 := F35_eq (ba r) 32 (by rw [ba_size]; omega)
  rw [res_eq]
  simp only [B8, hs, h71, hi, h34, h35, decide_true, decide_false, Bool.not_false, Bool.false_eq_true, if_true, if_false, sem_bind_some, sem_sees, sem_br, sem_triv, sem_ask, sem_ret, PC.holds, need_true, stepO_ret]
  rfl
theorem c1_last (n : Nat) {r : List UInt8} (h0 : r ≠ []) (hn : 10 ∉ r) (hl : r.length ≤ 5000) (a b : ByteArray) (c : Int) (d : ByteArray) : res B8 (.c1 0 0 (n : Int) (ba r) a b c d) = some (zs n 25) := by
  have hpos : 0 < r.length := List.length_pos_iff.2 h0
  have hs : ((ba r).size : Int) > 0 := by rw [ba_size]; omega
  have hi : ∃ i, F71 (ba r) 10 = some i ∧ ¬ (i ≥ 0) := by
    refine ⟨_, F71_eq _, ?_⟩
    rw [ba_data]
    intro hge
    obtain ⟨j, hj⟩ : ∃ j : Nat, Lib.indexByte r 10 = (j : Int) := ⟨(Lib.indexByte r 10).toNat, by omega⟩
    obtain ⟨q1, q2, q3⟩ := idx_some r j hj
    apply hn
    rw [q2]; simp
  obtain ⟨i, h71, hi⟩ := hi
  have h34 := F34_no r hl hn
  have h35 := F35_eq (ba r) 32 (by rw [ba_size]; omega)
  rw [res_eq]
  simp only [B8, hs, h71, hi, h34, h35, decide_true, decide_false, Bool.not_false, Bool.false_eq_true, if_true, if_false, sem_bind_some, sem_sees, sem_br, sem_triv, sem_ask, sem_ret, PC.holds, need_true, stepO_ret]
  rfl
theorem spl_split {c : UInt8} {r p : List UInt8} {P : List (List UInt8)} (h : spl c [] r = p :: P) : (P = [] ∧ r = p ∧ c ∉ r) ∨ ∃ q, r = p ++ c :: q ∧ c ∉ p ∧ spl c [] q = P := by
  by_cases hm : c ∈ r
  · obtain ⟨a, b, rfl, ha⟩ : ∃ a b, r = a ++ c :: b ∧ c ∉ a := by
      clear h
      induction r with
      | nil => simp at hm
      | cons x r ih =>
        by_cases hx : x = c
        · exact ⟨[], r, by rw [hx]; rfl, by simp⟩
        · have : c ∈ r := by
            rcases List.mem_cons.1 hm with h | h
            · exact absurd h.symm hx
            · exact h
          obtain ⟨a, b, e, ha⟩ := ih this
          exact ⟨x :: a, b, by rw [e]; rfl, by simp only [List.mem_cons, not_or]; exact ⟨fun e => hx e.symm, ha⟩⟩
    rw [spl_app a [] b ha, List.nil_append, List.cons.injEq] at h
    exact .inr ⟨b, by rw [h.1], by rw [← h.1]; exact ha, h.2⟩
  · rw [spl_none r [] hm, List.nil_append, List.cons.injEq] at h
    exact .inl ⟨h.2.symm, h.1, hm⟩
theorem c2_all (P : List (List UInt8)) : ∀ (n : Nat) (m : List Int) (r : List UInt8), m.length = 12 → n ≤ 6 → r.length ≤ 5000 → spl 10 [] r = P → ∀ (a b : ByteArray) (c : Int) (d : ByteArray),
    res B8 (.c2 (m.map aI) (n : Int) (ba r) a b c d) = some (pars P n m) := by
  induction P with
  | nil => intro n m r _ _ _ h; exact absurd h (spl_ne r [])
  | cons p P ih =>
    intro n m r hm hn hl h a b c d
    rcases spl_split h with ⟨rfl, rfl, h10⟩ | ⟨q, rfl, hp, hq⟩
    · by_cases h0 : r = []
      · subst h0
        rw [c2_end hm]; unfold pars; simp
      · rw [c2_last n h0 h10 hl]; unfold pars; simp [h0]
    · have hP : P ≠ [] := by rw [← hq]; exact spl_ne q []
      rw [c2_line hm hn hp hl]
      obtain ⟨x, Q, rfl⟩ : ∃ x Q, P = x :: Q := by
        cases P with
        | nil => exact absurd rfl hP
        | cons x Q => exact ⟨x, Q, rfl⟩
      rw [pars]
      by_cases hw : wordsOk n (spl 32 [] p) = true
      · have h6 : n < 6 := by
          apply Classical.byContradiction
          intro h6
          rw [wordsOk_6 h6] at hw; simp at hw
        rw [if_pos hw, if_pos hw]
        exact ih (n + 1) _ q (setM_len hm h6) (by omega) (by simp at hl; omega) hq a b c d
      · rw [if_neg hw, if_neg hw]
theorem F8_eq (s : ByteArray) : F8 s = some (if s.size > 4096 then zs 0 26 else pars (spl 10 [] s.data.toList) 0 z12) := by
  unfold F8; rw [res_eq]
  have hlen : s.data.toList.length = s.size := by simp
  by_cases h : s.size > 4096
  · have h' : (s.size : Int) > 4096 := by omega
    simp only [B8, h, h', decide_true, if_true, sem_br, sem_ret, stepO_ret]; rfl
  · have h' : ¬ ((s.size : Int) > 4096) := by omega
    simp only [B8, h, h', decide_false, Bool.false_eq_true, if_false, sem_br, sem_nxt, stepO_nxt]
    have main : ∀ (a b : ByteArray) (c : Int) (d : ByteArray), res B8 (.c1 0 0 ((0 : Nat) : Int) (ba s.data.toList) a b c d) = some (pars (spl 10 [] s.data.toList) 0 z12) := by
      intro a b c d
      generalize hP : spl 10 [] s.data.toList = P
      generalize s.data.toList = r at hP hlen
      cases P with
      | nil => exact absurd hP (spl_ne r [])
      | cons p P =>
        rcases spl_split hP with ⟨rfl, rfl, h10⟩ | ⟨q, rfl, hp, hq⟩
        · by_cases h0 : r = []
          · subst h0
            rw [c1_end]; unfold pars; simp
          · rw [c1_last 0 h0 h10 (by omega)]; unfold pars; simp [h0]
        · have hP : P ≠ [] := by rw [← hq]; exact spl_ne q []
          rw [c1_line (by omega) hp (by omega)]
          obtain ⟨x, Q, rfl⟩ : ∃ x Q, P = x :: Q := by
            cases P with
            | nil => exact absurd rfl hP
            | cons x Q => exact ⟨x, Q, rfl⟩
          rw [pars]
          by_cases hw : wordsOk 0 (spl 32 [] p) = true
          · rw [if_pos hw, if_pos hw]
            exact c2_all _ 1 _ q (setM_len rfl (by omega)) (by omega) (by simp at hlen; omega) hq a b c d
          · rw [if_neg hw, if_neg hw]
    rw [ba_of] at main
    exact main _ _ _ _
end
section
open Go Go.RowKit
theorem F41_eq : F41 = some () := by
  unfold F41; rw [res_eq]; rfl
theorem nmR {n : Nat} (h : n < 6) : ([AV.d (DV.v (Value.string (ByteArray.mk #[105, 109, 112, 111, 114, 116]))), AV.d (DV.v (Value.string (ByteArray.mk #[101, 120, 112, 111, 114, 116]))), AV.d (DV.v (Value.string (ByteArray.mk #[113, 49]))), AV.d (DV.v (Value.string (ByteArray.mk #[113, 50]))), AV.d (DV.v (Value.string (ByteArray.mk #[113, 51]))), AV.d (DV.v (Value.string (ByteArray.mk #[113, 52])))][n]? = some (AV.d (DV.v (Value.string (ba (nameL n)))))) = True := by
  match n, h with
  | 0, _ => exact eq_true rfl
  | 1, _ => exact eq_true rfl
  | 2, _ => exact eq_true rfl
  | 3, _ => exact eq_true rfl
  | 4, _ => exact eq_true rfl
  | 5, _ => exact eq_true rfl
theorem nmC {n : Nat} (h : n < 6) : dS (celA [AV.d (DV.v (Value.string (ByteArray.mk #[105, 109, 112, 111, 114, 116]))), AV.d (DV.v (Value.string (ByteArray.mk #[101, 120, 112, 111, 114, 116]))), AV.d (DV.v (Value.string (ByteArray.mk #[113, 49]))), AV.d (DV.v (Value.string (ByteArray.mk #[113, 50]))), AV.d (DV.v (Value.string (ByteArray.mk #[113, 51]))), AV.d (DV.v (Value.string (ByteArray.mk #[113, 52])))] n) = ba (nameL n) := by
  match n, h with
  | 0, _ => rfl
  | 1, _ => rfl
  | 2, _ => rfl
  | 3, _ => rfl
  | 4, _ => rfl
  | 5, _ => rfl
theorem wordsOk_len {n : Nat} {W : List (List UInt8)} (h : W.length ≠ 3) : wordsOk n W = false := by
  unfold wordsOk
  split
  · exact absurd rfl h
  · rfl
theorem cel_sD {P : List (List UInt8)} {i : Nat} (h : i < P.length) : dS (cel (P.map sD) i) = ba (P.getD i []) := by
  unfold cel
  simp [List.getD_eq_getElem?_getD, h, sD, dS]
theorem op_sD {P : List (List UInt8)} {i : Nat} (h : i < P.length) : (Option.map AV.d (List.drop i (P.map sD))[0]? = some (AV.d (DV.v (Value.string (ba (P.getD i [])))))) = True := by
  apply eq_true
  simp [List.getElem?_drop, h, sD, List.getD_eq_getElem?_getD]
theorem celS (w0 w1 w2 : List UInt8) : dS (cel [sD w0, sD w1, sD w2] 0) = ba w0 ∧ dS (cel [sD w0, sD w1, sD w2] 1) = ba w1 ∧ dS (cel [sD w0, sD w1, sD w2] 2) = ba w2 := ⟨rfl, rfl, rfl⟩
theorem opS (w0 w1 w2 : List UInt8) : (Option.map AV.d (List.drop 0 [sD w0, sD w1, sD w2])[0]? = some (AV.d (DV.v (Value.string (ba w0))))) = True ∧ (Option.map AV.d (List.drop 1 [sD w0, sD w1, sD w2])[0]? = some (AV.d (DV.v (Value.string (ba w1))))) = True ∧ (Option.map AV.d (List.drop 2 [sD w0, sD w1, sD w2])[0]? = some (AV.d (DV.v (Value.string (ba w2))))) = True := ⟨eq_true rfl, eq_true rfl, eq_true rfl⟩
theorem F43_ba (w : List UInt8) : F43 (ba w) = some (if okD w = true then ((dvL w 0 : Int), true) else (0, false)) := by
  have := F43_eq (ba w)
  rw [ba_data] at this; exact this
theorem pars_cons {p q : List UInt8} {Q : List (List UInt8)} {n : Nat} {m : List Int} : pars (p :: q :: Q) n m = if wordsOk n (spl 32 [] p) = true then pars (q :: Q) (n + 1) (setM m n (wordsV (spl 32 [] p)).1 (wordsV (spl 32 [] p)).2) else zs n 25 := rfl
theorem pars_one {p : List UInt8} {n : Nat} {m : List Int} : pars [p] n m = if p = [] then fin n m else zs n 25 := rfl
theorem rc2_line {m : List Int} (hm : m.length = 12) {P : List (List UInt8)} {e i : Nat} (hP : P.length = e + 1) (hi : i < e) (hn : i ≤ 6) (hl : (P.getD i []).length ≤ 5000) :
    res B11 (.c2 P.length (P.map sD) (e : Int) (i : Int) ((m).map aI)) = if wordsOk i (spl 32 [] (P.getD i [])) = true then res B11 (.c2 P.length (P.map sD) (e : Int) ((i + 1 : Nat) : Int) ((setM m i (wordsV (spl 32 [] (P.getD i []))).1 (wordsV (spl 32 [] (P.getD i []))).2).map aI)) else some (zs i 25) := by
  have hi1 : i < P.length := by omega
  have h13 := F13_eq (ba (P.getD i [])) 32 (by rw [ba_size]; omega)
  rw [ba_data, show ((UInt8.toNat 32 : Nat) : Int) = 32 from rfl] at h13
  have c0 : (i : Int) < (e : Int) := by omega
  have l0 : (i : Int) < ((P.length : Nat) : Int) := by omega
  have l1 : i ≤ P.length := by omega
  have q1 : True := trivial
  generalize spl 32 [] (P.getD i []) = W at h13
  rw [res_eq]
  by_cases h6 : i < 6
  · have c6 : ¬ ((i : Int) ≥ 6) := by omega
    by_cases h3 : W.length = 3
    · obtain ⟨w0, w1, w2, rfl⟩ : ∃ w0 w1 w2, W = [w0, w1, w2] := by
        match W, h3 with
        | [w0, w1, w2], _ => exact ⟨_, _, _, rfl⟩
      have f3 : ((([w0, w1, w2] : List (List UInt8)).length : Int) != 3) = false := rfl
      have g0 : (0 : Int) < (([w0, w1, w2] : List (List UInt8)).length : Int) := by simp
      have g1 : (1 : Int) < (([w0, w1, w2] : List (List UInt8)).length : Int) := by simp
      have g2 : (2 : Int) < (([w0, w1, w2] : List (List UInt8)).length : Int) := by simp
      have g3 : 1 ≤ ([w0, w1, w2] : List (List UInt8)).length := by simp
      have g4 : 2 ≤ ([w0, w1, w2] : List (List UInt8)).length := by simp
      have i6 : (i : Int) < 6 := by omega
      have g5 : List.map sD [w0, w1, w2] = [sD w0, sD w1, sD w2] := rfl
      have g6 : ([sD w0, sD w1, sD w2] : List DV).length = 3 := rfl
      have g7 : (1 : Nat) ≤ 3 := by decide
      have g8 : (2 : Nat) ≤ 3 := by decide
      simp only [B11, F41_eq, h13, c0, l0, l1, q1, op_sD hi1, cel_sD hi1, decide_true, decide_false, Bool.not_true, Bool.not_false, Bool.false_eq_true, BEq.rfl, if_true, if_false, sem_bind_some, sem_sees, sem_br, sem_triv, sem_ask, sem_ret, sem_nxt, PC.holds, need_true, stepO_ret, stepO_nxt, Int.natCast_nonneg, Int.le_refl, Nat.le_refl, Nat.zero_le, Int.toNat_natCast, Nat.mul_one, List.length_map, c6, f3, g0, g1, g2, g3, g4, g5, g6, g7, g8, i6, nmR h6, nmC h6, (celS w0 w1 w2).1, (celS w0 w1 w2).2.1, (celS w0 w1 w2).2.2, (opS w0 w1 w2).1, (opS w0 w1 w2).2.1, (opS w0 w1 w2).2.2, eqS_ba, F43_ba]
      by_cases hw : w0 = nameL i
      · by_cases o1 : okD w1 = true
        · by_cases o2 : okD w2 = true
          · have ok : wordsOk i [w0, w1, w2] = true := by unfold wordsOk; simp [o1, o2, h6, hw]
            have r3 : 0 + i * 2 + 2 ≤ 12 := by omega
            have r4 : inI64 ((i : Int) + 1) := by unfold inI64; omega
            simp only [hw, o1, o2, decide_true, Bool.not_true, Bool.false_eq_true, if_true, if_false, sem_br, sem_ask, sem_triv, sem_nxt, PC.holds, need_true, r3, r4, List.length_map, hm, splice_map, refK_map, stepO_nxt]
            rw [← hw, ok]
            rfl
          · have nw : wordsOk i [w0, w1, w2] = false := by unfold wordsOk; simp [o2]
            simp only [hw, o1, o2, decide_true, Bool.not_true, Bool.not_false, Bool.false_eq_true, if_true, if_false, sem_br, sem_ret, stepO_ret]
            rw [← hw, nw]
            rfl
        · have nw : wordsOk i [w0, w1, w2] = false := by unfold wordsOk; simp [o1]
          simp only [hw, o1, decide_true, Bool.not_true, Bool.not_false, Bool.false_eq_true, if_true, if_false, sem_br, sem_ret, stepO_ret]
          rw [← hw, nw]
          rfl
      · have nw : wordsOk i [w0, w1, w2] = false := by unfold wordsOk; simp [hw]
        simp only [hw, decide_false, Bool.not_false, if_true, sem_ret, stepO_ret, nw]
        rfl
    · have f3 : ((W.length : Int) != 3) = true := by rw [bne_iff_ne]; omega
      simp only [B11, F41_eq, h13, c0, l0, l1, q1, op_sD hi1, cel_sD hi1, decide_true, decide_false, Bool.not_true, Bool.not_false, Bool.false_eq_true, BEq.rfl, if_true, if_false, sem_bind_some, sem_sees, sem_br, sem_triv, sem_ask, sem_ret, sem_nxt, PC.holds, need_true, stepO_ret, stepO_nxt, Int.natCast_nonneg, Int.le_refl, Nat.le_refl, Nat.zero_le, Int.toNat_natCast, Nat.mul_one, List.length_map, c6, f3, wordsOk_len h3]
      rfl
  · have c6 : (i : Int) ≥ 6 := by omega
    have nw := wordsOk_6 h6 W
    simp only [B11, F41_eq, h13, c0, l0, l1, q1, op_sD hi1, cel_sD hi1, decide_true, decide_false, Bool.not_true, Bool.not_false, Bool.false_eq_true, BEq.rfl, if_true, if_false, sem_bind_some, sem_sees, sem_br, sem_triv, sem_ask, sem_ret, sem_nxt, PC.holds, need_true, stepO_ret, stepO_nxt, Int.natCast_nonneg, Int.le_refl, Nat.le_refl, Nat.zero_le, Int.toNat_natCast, Nat.mul_one, List.length_map, c6, nw]
    rfl
theorem rc2_end {m : List Int} (hm : m.length = 12) {P : List (List UInt8)} {e : Nat} (hP : P.length = e + 1) (hn : e ≤ 6) : res B11 (.c2 P.length (P.map sD) (e : Int) (e : Int) ((m).map aI)) = some (if P.getD e [] = [] then fin e m else zs e 25) := by
  have hi1 : e < P.length := by omega
  have c0 : ¬ ((e : Int) < (e : Int)) := by omega
  have l0 : (e : Int) < ((P.length : Nat) : Int) := by omega
  have l1 : e ≤ P.length := by omega
  have e0 : (ByteArray.mk #[]) = ba [] := rfl
  rw [res_eq]
  simp only [B11, e0, c0, l0, l1, op_sD hi1, cel_sD hi1, eqS_ba, decide_false, Bool.false_eq_true, if_false, sem_br, sem_ask, PC.holds, need_true, Int.natCast_nonneg, Int.toNat_natCast, Nat.mul_one, List.length_map]
  by_cases hz : P.getD e [] = []
  · rw [if_pos hz]
    unfold fin
    by_cases h6 : e < 6
    · have c6 : (e : Int) < 6 := by omega
      simp only [hz, h6, c6, decide_true, Bool.not_true, Bool.false_eq_true, if_false, if_true, sem_br, sem_ret, stepO_ret]; rfl
    · have c6 : ¬ ((e : Int) < 6) := by omega
      have he : e = 6 := by omega
      have hl : 12 ≤ 12 := Nat.le_refl 12
      simp only [hz, h6, c6, celA_map, F9_eq, take12 hm, hl, List.length_map, hm, List.drop_zero, decide_true, decide_false, Bool.not_true, Bool.false_eq_true, if_false, if_true, sem_bind_some, sem_sees, sem_br, sem_ask, sem_ret, PC.holds, need_true, Nat.le_refl]
      show stepO _ (if (chkM m != 0) = true then _ else _) = _
      by_cases h0 : chkM m = 0
      · simp only [h0, bne_self_eq_false, Bool.false_eq_true, if_false, if_true, stepO_ret]; rfl
      · simp only [bne_iff_ne.2 h0, h0, if_true, if_false, stepO_ret]
        subst he; rfl
  · rw [if_neg hz]
    simp only [hz, decide_false, Bool.not_false, if_true, sem_ret, stepO_ret]; rfl
theorem rc1_line {P : List (List UInt8)} {e i : Nat} (hP : P.length = e + 1) (hi : i < e) (hn : i ≤ 6) (hl : (P.getD i []).length ≤ 5000) :
    res B11 (.c1 P.length (P.map sD) (e : Int) (i : Int)) = if wordsOk i (spl 32 [] (P.getD i [])) = true then res B11 (.c2 P.length (P.map sD) (e : Int) ((i + 1 : Nat) : Int) ((setM z12 i (wordsV (spl 32 [] (P.getD i []))).1 (wordsV (spl 32 [] (P.getD i []))).2).map aI)) else some (zs i 25) := by
  have hi1 : i < P.length := by omega
  have h13 := F13_eq (ba (P.getD i [])) 32 (by rw [ba_size]; omega)
  rw [ba_data, show ((UInt8.toNat 32 : Nat) : Int) = 32 from rfl] at h13
  have c0 : (i : Int) < (e : Int) := by omega
  have l0 : (i : Int) < ((P.length : Nat) : Int) := by omega
  have l1 : i ≤ P.length := by omega
  have q1 : True := trivial
  generalize spl 32 [] (P.getD i []) = W at h13
  rw [res_eq]
  by_cases h6 : i < 6
  · have c6 : ¬ ((i : Int) ≥ 6) := by omega
    by_cases h3 : W.length = 3
    · obtain ⟨w0, w1, w2, rfl⟩ : ∃ w0 w1 w2, W = [w0, w1, w2] := by
        match W, h3 with
        | [w0, w1, w2], _ => exact ⟨_, _, _, rfl⟩
      have f3 : ((([w0, w1, w2] : List (List UInt8)).length : Int) != 3) = false := rfl
      have g0 : (0 : Int) < (([w0, w1, w2] : List (List UInt8)).length : Int) := by simp
      have g1 : (1 : Int) < (([w0, w1, w2] : List (List UInt8)).length : Int) := by simp
      have g2 : (2 : Int) < (([w0, w1, w2] : List (List UInt8)).length : Int) := by simp
      have g3 : 1 ≤ ([w0, w1, w2] : List (List UInt8)).length := by simp
      have g4 : 2 ≤ ([w0, w1, w2] : List (List UInt8)).length := by simp
      have i6 : (i : Int) < 6 := by omega
      have g5 : List.map sD [w0, w1, w2] = [sD w0, sD w1, sD w2] := rfl
      have g6 : ([sD w0, sD w1, sD w2] : List DV).length = 3 := rfl
      have g7 : (1 : Nat) ≤ 3 := by decide
      have g8 : (2 : Nat) ≤ 3 := by decide
      simp only [B11, F41_eq, h13, c0, l0, l1, q1, op_sD hi1, cel_sD hi1, decide_true, decide_false, Bool.not_true, Bool.not_false, Bool.false_eq_true, BEq.rfl, if_true, if_false, sem_bind_some, sem_sees, sem_br, sem_triv, sem_ask, sem_ret, sem_nxt, PC.holds, need_true, stepO_ret, stepO_nxt, Int.natCast_nonneg, Int.le_refl, Nat.le_refl, Nat.zero_le, Int.toNat_natCast, Nat.mul_one, List.length_map, c6, f3, g0, g1, g2, g3, g4, g5, g6, g7, g8, i6, nmR h6, nmC h6, (celS w0 w1 w2).1, (celS w0 w1 w2).2.1, (celS w0 w1 w2).2.2, (opS w0 w1 w2).1, (opS w0 w1 w2).2.1, (opS w0 w1 w2).2.2, eqS_ba, F43_ba]
      by_cases hw : w0 = nameL i
      · by_cases o1 : okD w1 = true
        · by_cases o2 : okD w2 = true
          · have ok : wordsOk i [w0, w1, w2] = true := by unfold wordsOk; simp [o1, o2, h6, hw]
            have r3 : 0 + i * 2 + 2 ≤ 12 := by omega
            have r4 : inI64 ((i : Int) + 1) := by unfold inI64; omega
            simp only [hw, o1, o2, decide_true, Bool.not_true, Bool.false_eq_true, if_true, if_false, sem_br, sem_ask, sem_triv, sem_nxt, PC.holds, need_true, r3, r4, splice_z, refK_map, stepO_nxt]
            rw [← hw, ok]
            rfl
          · have nw : wordsOk i [w0, w1, w2] = false := by unfold wordsOk; simp [o2]
            simp only [hw, o1, o2, decide_true, Bool.not_true, Bool.not_false, Bool.false_eq_true, if_true, if_false, sem_br, sem_ret, stepO_ret]
            rw [← hw, nw]
            rfl
        · have nw : wordsOk i [w0, w1, w2] = false := by unfold wordsOk; simp [o1]
          simp only [hw, o1, decide_true, Bool.not_true, Bool.not_false, Bool.false_eq_true, if_true, if_false, sem_br, sem_ret, stepO_ret]
          rw [← hw, nw]
          rfl
      · have nw : wordsOk i [w0, w1, w2] = false := by unfold wordsOk; simp [hw]
        simp only [hw, decide_false, Bool.not_false, if_true, sem_ret, stepO_ret, nw]
        rfl
    · have f3 : ((W.length : Int) != 3) = true := by rw [bne_iff_ne]; omega
      simp only [B11, F41_eq, h13, c0, l0, l1, q1, op_sD hi1, cel_sD hi1, decide_true, decide_false, Bool.not_true, Bool.not_false, Bool.false_eq_true, BEq.rfl, if_true, if_false, sem_bind_some, sem_sees, sem_br, sem_triv, sem_ask, sem_ret, sem_nxt, PC.holds, need_true, stepO_ret, stepO_nxt, Int.natCast_nonneg, Int.le_refl, Nat.le_refl, Nat.zero_le, Int.toNat_natCast, Nat.mul_one, List.length_map, c6, f3, wordsOk_len h3]
      rfl
  · have c6 : (i : Int) ≥ 6 := by omega
    have nw := wordsOk_6 h6 W
    simp only [B11, F41_eq, h13, c0, l0, l1, q1, op_sD hi1, cel_sD hi1, decide_true, decide_false, Bool.not_true, Bool.not_false, Bool.false_eq_true, BEq.rfl, if_true, if_false, sem_bind_some, sem_sees, sem_br, sem_triv, sem_ask, sem_ret, sem_nxt, PC.holds, need_true, stepO_ret, stepO_nxt, Int.natCast_nonneg, Int.le_refl, Nat.le_refl, Nat.zero_le, Int.toNat_natCast, Nat.mul_one, List.length_map, c6, nw]
    rfl
theorem rc1_end {P : List (List UInt8)} {e : Nat} (hP : P.length = e + 1) (hn : e ≤ 6) : res B11 (.c1 P.length (P.map sD) (e : Int) (e : Int)) = some (if P.getD e [] = [] then fin e z12 else zs e 25) := by
  have hi1 : e < P.length := by omega
  have c0 : ¬ ((e : Int) < (e : Int)) := by omega
  have l0 : (e : Int) < ((P.length : Nat) : Int) := by omega
  have l1 : e ≤ P.length := by omega
  have e0 : (ByteArray.mk #[]) = ba [] := rfl
  rw [res_eq]
  simp only [B11, e0, c0, l0, l1, op_sD hi1, cel_sD hi1, eqS_ba, decide_false, Bool.false_eq_true, if_false, sem_br, sem_ask, PC.holds, need_true, Int.natCast_nonneg, Int.toNat_natCast, Nat.mul_one, List.length_map]
  by_cases hz : P.getD e [] = []
  · rw [if_pos hz]
    unfold fin
    by_cases h6 : e < 6
    · have c6 : (e : Int) < 6 := by omega
      simp only [hz, h6, c6, decide_true, Bool.not_true, Bool.false_eq_true, if_false, if_true, sem_br, sem_ret, stepO_ret]; rfl
    · have c6 : ¬ ((e : Int) < 6) := by omega
      have he : e = 6 := by omega
      have hl : 12 ≤ 12 := Nat.le_refl 12
      simp only [hz, h6, c6, F9_eq, decide_true, decide_false, Bool.not_true, Bool.false_eq_true, if_false, if_true, sem_bind_some, sem_sees, sem_br, sem_ask, sem_ret, PC.holds, need_true]
      show stepO _ (if (chkM z12 != 0) = true then _ else _) = _
      simp only [chk_z, bne_self_eq_false, Bool.false_eq_true, if_false, if_true, stepO_ret]; rfl
  · rw [if_neg hz]
    simp only [hz, decide_false, Bool.not_false, if_true, sem_ret, stepO_ret]; rfl
theorem drop_two {P : List (List UInt8)} {i : Nat} (h : i + 1 < P.length) : ∃ Q, P.drop i = P.getD i [] :: P.getD (i + 1) [] :: Q ∧ P.drop (i + 1) = P.getD (i + 1) [] :: Q :=
  ⟨P.drop (i + 2), by rw [dropD [] (by omega), dropD [] h], dropD [] h⟩
theorem rc2_all {P : List (List UInt8)} {e : Nat} (hP : P.length = e + 1) (hl : ∀ p ∈ P, p.length ≤ 5000) : ∀ (k i : Nat) (m : List Int), e = i + k → i ≤ 6 → m.length = 12 →
    res B11 (.c2 P.length (P.map sD) (e : Int) (i : Int) (m.map aI)) = some (pars (P.drop i) i m) := by
  have hg : ∀ i, i < P.length → (P.getD i []).length ≤ 5000 := fun i hi => hl _ (by rw [List.getD_eq_getElem?_getD, List.getElem?_eq_getElem hi]; exact List.getElem_mem hi)
  intro k
  induction k with
  | zero =>
    intro i m hk hn hm
    obtain rfl : e = i := by omega
    rw [rc2_end hm hP hn, dropD [] (by omega), List.drop_eq_nil_of_le (by omega), pars_one]
  | succ k ih =>
    intro i m hk hn hm
    obtain ⟨Q, h1, h2⟩ := drop_two (P := P) (i := i) (by omega)
    rw [rc2_line hm hP (by omega) hn (hg i (by omega)), h1, pars_cons]
    by_cases hw : wordsOk i (spl 32 [] (P.getD i [])) = true
    · have h6 : i < 6 := by
        apply Classical.byContradiction
        intro h6
        rw [wordsOk_6 h6] at hw; simp at hw
      rw [if_pos hw, if_pos hw, ih (i + 1) _ (by omega) (by omega) (setM_len hm h6), h2]
    · rw [if_neg hw, if_neg hw]
theorem spl_mem {c : UInt8} : ∀ (l cur p : List UInt8), p ∈ spl c cur l → p.length ≤ cur.length + l.length
  | [], cur, p, h => by simp [spl] at h; simp [h]
  | b :: l, cur, p, h => by
    rw [spl] at h
    split at h
    · rcases List.mem_cons.1 h with h | h
      · rw [h]; omega
      · have := spl_mem l [] p h
        simp at this ⊢; omega
    · have := spl_mem l _ p h
      simp at this ⊢; omega
theorem F11_eq (s : ByteArray) : F11 s = some (if s.size > 4096 then zs 0 26 else pars (spl 10 [] s.data.toList) 0 z12) := by
  unfold F11; rw [res_eq]
  have hlen : s.data.toList.length = s.size := by simp
  by_cases h : s.size > 4096
  · have h' : (s.size : Int) > 4096 := by omega
    simp only [B11, h, h', decide_true, if_true, sem_br, sem_ret, stepO_ret]; rfl
  · have h' : ¬ ((s.size : Int) > 4096) := by omega
    have h13 := F13_eq s 10 (by omega)
    rw [show ((UInt8.toNat 10 : Nat) : Int) = 10 from rfl] at h13
    have hL := spl_length (c := 10) s.data.toList []
    have hne := spl_ne (c := 10) s.data.toList []
    have hmem : ∀ p ∈ spl 10 [] s.data.toList, p.length ≤ 5000 := fun p hp => by have := spl_mem _ _ _ hp; simp at this; omega
    generalize spl 10 [] s.data.toList = P at h13 hL hne hmem
    obtain ⟨e, he⟩ : ∃ e, P.length = e + 1 := ⟨P.length - 1, by have := List.length_pos_iff.2 hne; omega⟩
    have e1 : ((P.length : Nat) : Int) - 1 = (e : Int) := by omega
    have i1 : inI64 (e : Int) := by unfold inI64; omega
    simp only [B11, h, h', h13, e1, i1, decide_false, Bool.false_eq_true, if_false, sem_br, sem_bind_some, sem_sees, sem_ask, sem_nxt, PC.holds, need_true, stepO_nxt]
    show res B11 (.c1 P.length (P.map sD) (e : Int) ((0 : Nat) : Int)) = _
    have hg : ∀ i, i < P.length → (P.getD i []).length ≤ 5000 := fun i hi => hmem _ (by rw [List.getD_eq_getElem?_getD, List.getElem?_eq_getElem hi]; exact List.getElem_mem hi)
    by_cases e0 : e = 0
    · subst e0
      rw [rc1_end he (by omega)]
      have : P.drop 0 = [P.getD 0 []] := by rw [dropD [] (by omega), List.drop_eq_nil_of_le (by omega)]
      rw [List.drop_zero] at this
      rw [this, pars_one]; rfl
    · obtain ⟨Q, h1, h2⟩ := drop_two (P := P) (i := 0) (by omega)
      rw [List.drop_zero] at h1
      rw [rc1_line he (by omega) (by omega) (hg 0 (by omega))]
      conv => rhs; rw [h1, pars_cons]
      by_cases hw : wordsOk 0 (spl 32 [] (P.getD 0 [])) = true
      · rw [if_pos hw, if_pos hw, rc2_all he hmem (e - 1) 1 _ (by omega) (by omega) (setM_len rfl (by omega)), h2]
      · rw [if_neg hw, if_neg hw]
theorem parse_same (s : ByteArray) : F8 s = F11 s := by rw [F8_eq, F11_eq]
end
section
open Go Go.RowKit
theorem need_p {α : Type} {p : Prop} (h : p) (x : Option α) : need p x = x := if_pos h
theorem dd_len (n : Nat) : (Lib.decDigits n).length ≤ n + 1 := by
  induction n using Nat.strongRecOn with
  | ind n ih =>
    rw [Lib.decDigits]
    split
    · simp
    · rename_i h
      have := ih (n / 10) (by omega)
      rw [List.length_append, List.length_singleton]
      omega
def lineL (k a b : Nat) : List UInt8 := nameL k ++ 32 :: (Lib.decDigits a ++ 32 :: (Lib.decDigits b ++ [10]))
def printL (a0 a1 a2 a3 a4 a5 a6 a7 a8 a9 a10 a11 : Nat) : List UInt8 := lineL 0 a0 a1 ++ lineL 1 a2 a3 ++ lineL 2 a4 a5 ++ lineL 3 a6 a7 ++ lineL 4 a8 a9 ++ lineL 5 a10 a11
theorem regE_z {u r : Int} (h : regE u r = 0) : (0 ≤ u ∧ u ≤ 999999) ∧ 0 ≤ r ∧ r ≤ 999999 := by
  unfold regE firstI rangeI at h
  by_cases h1 : u < 0 ∨ u > 999999
  · rw [if_pos h1] at h; simp at h
  · rw [if_neg h1, if_pos rfl] at h
    unfold firstI at h
    by_cases h2 : r < 0 ∨ r > 999999
    · rw [if_pos h2] at h; simp at h
    · omega
theorem first_z {x : Int} {l : List Int} (h : firstI (x :: l) = 0) : x = 0 ∧ firstI l = 0 := by
  unfold firstI at h
  by_cases hx : x = 0
  · rw [if_pos hx] at h; exact ⟨hx, h⟩
  · rw [if_neg hx] at h; exact absurd h hx
theorem chk_nat {b0 b1 b2 b3 b4 b5 b6 b7 b8 b9 b10 b11 : Int} (h : chk b0 b1 b2 b3 b4 b5 b6 b7 b8 b9 b10 b11 = 0) :
    ∃ a0 a1 a2 a3 a4 a5 a6 a7 a8 a9 a10 a11 : Nat, (b0 = (a0 : Int) ∧ b1 = (a1 : Int) ∧ b2 = (a2 : Int) ∧ b3 = (a3 : Int) ∧ b4 = (a4 : Int) ∧ b5 = (a5 : Int) ∧ b6 = (a6 : Int) ∧ b7 = (a7 : Int) ∧ b8 = (a8 : Int) ∧ b9 = (a9 : Int) ∧ b10 = (a10 : Int) ∧ b11 = (a11 : Int)) ∧ (a0 ≤ 999999 ∧ a1 ≤ 999999 ∧ a2 ≤ 999999 ∧ a3 ≤ 999999 ∧ a4 ≤ 999999 ∧ a5 ≤ 999999 ∧ a6 ≤ 999999 ∧ a7 ≤ 999999 ∧ a8 ≤ 999999 ∧ a9 ≤ 999999 ∧ a10 ≤ 999999 ∧ a11 ≤ 999999) := by
  unfold chk at h
  obtain ⟨e0, h⟩ := first_z h
  obtain ⟨e1, h⟩ := first_z h
  obtain ⟨e2, h⟩ := first_z h
  obtain ⟨e3, h⟩ := first_z h
  obtain ⟨e4, h⟩ := first_z h
  obtain ⟨e5, h⟩ := first_z h
  have e0 := regE_z e0
  have e1 := regE_z e1
  have e2 := regE_z e2
  have e3 := regE_z e3
  have e4 := regE_z e4
  have e5 := regE_z e5
  exact ⟨b0.toNat, b1.toNat, b2.toNat, b3.toNat, b4.toNat, b5.toNat, b6.toNat, b7.toNat, b8.toNat, b9.toNat, b10.toNat, b11.toNat, by omega, by omega⟩
theorem lit_e : (ByteArray.mk #[]) = ba [] := rfl
theorem lit_s : (ByteArray.mk #[32]) = ba [32] := rfl
theorem lit_n : (ByteArray.mk #[10]) = ba [10] := rfl
theorem lit_0 : (ByteArray.mk #[105, 109, 112, 111, 114, 116]) = ba [105, 109, 112, 111, 114, 116] := rfl
theorem lit_1 : (ByteArray.mk #[101, 120, 112, 111, 114, 116]) = ba [101, 120, 112, 111, 114, 116] := rfl
theorem lit_2 : (ByteArray.mk #[113, 49]) = ba [113, 49] := rfl
theorem lit_3 : (ByteArray.mk #[113, 50]) = ba [113, 50] := rfl
theorem lit_4 : (ByteArray.mk #[113, 51]) = ba [113, 51] := rfl
theorem lit_5 : (ByteArray.mk #[113, 52]) = ba [113, 52] := rfl
set_option maxHeartbeats 4000000 in
theorem F6_ok {a0 a1 a2 a3 a4 a5 a6 a7 a8 a9 a10 a11 : Nat} (h0 : a0 ≤ 999999) (h1 : a1 ≤ 999999) (h2 : a2 ≤ 999999) (h3 : a3 ≤ 999999) (h4 : a4 ≤ 999999) (h5 : a5 ≤ 999999) (h6 : a6 ≤ 999999) (h7 : a7 ≤ 999999) (h8 : a8 ≤ 999999) (h9 : a9 ≤ 999999) (h10 : a10 ≤ 999999) (h11 : a11 ≤ 999999) (hc : chk (a0 : Int) (a1 : Int) (a2 : Int) (a3 : Int) (a4 : Int) (a5 : Int) (a6 : Int) (a7 : Int) (a8 : Int) (a9 : Int) (a10 : Int) (a11 : Int) = 0) : F6 (a0 : Int) (a1 : Int) (a2 : Int) (a3 : Int) (a4 : Int) (a5 : Int) (a6 : Int) (a7 : Int) (a8 : Int) (a9 : Int) (a10 : Int) (a11 : Int) = some (ba (printL a0 a1 a2 a3 a4 a5 a6 a7 a8 a9 a10 a11), 0) := by
  have l0 := dd_len a0
  have l1 := dd_len a1
  have l2 := dd_len a2
  have l3 := dd_len a3
  have l4 := dd_len a4
  have l5 := dd_len a5
  have l6 := dd_len a6
  have l7 := dd_len a7
  have l8 := dd_len a8
  have l9 := dd_len a9
  have l10 := dd_len a10
  have l11 := dd_len a11
  unfold F6; rw [res_eq]
  simp (disch := omega) only [B6, F31_eq, hc, F32_eq h0, F32_eq h1, F32_eq h2, F32_eq h3, F32_eq h4, F32_eq h5, F32_eq h6, F32_eq h7, F32_eq h8, F32_eq h9, F32_eq h10, F32_eq h11, sem_bind_some, sem_sees, sem_br, sem_triv, sem_ask, sem_ret, PC.holds, bne_self_eq_false, Bool.false_eq_true, if_false, lit_e, lit_s, lit_n, lit_0, lit_1, lit_2, lit_3, lit_4, lit_5, ba_app, ba_size, List.nil_append, List.length_append, List.length_cons, List.length_nil, need_p, stepO_ret]
  unfold printL lineL nameL
  simp only [List.append_assoc, List.cons_append, List.nil_append]
theorem F6_bad {b0 b1 b2 b3 b4 b5 b6 b7 b8 b9 b10 b11 : Int} (hc : chk b0 b1 b2 b3 b4 b5 b6 b7 b8 b9 b10 b11 ≠ 0) : F6 b0 b1 b2 b3 b4 b5 b6 b7 b8 b9 b10 b11 = some (ba [], chk b0 b1 b2 b3 b4 b5 b6 b7 b8 b9 b10 b11) := by
  unfold F6; rw [res_eq]
  simp only [B6, F31_eq, bne_iff_ne.2 hc, sem_bind_some, sem_sees, sem_br, sem_ret, if_true, stepO_ret]
  rfl
set_option maxHeartbeats 4000000 in
theorem F10_ok {a0 a1 a2 a3 a4 a5 a6 a7 a8 a9 a10 a11 : Nat} (h0 : a0 ≤ 999999) (h1 : a1 ≤ 999999) (h2 : a2 ≤ 999999) (h3 : a3 ≤ 999999) (h4 : a4 ≤ 999999) (h5 : a5 ≤ 999999) (h6 : a6 ≤ 999999) (h7 : a7 ≤ 999999) (h8 : a8 ≤ 999999) (h9 : a9 ≤ 999999) (h10 : a10 ≤ 999999) (h11 : a11 ≤ 999999) : F10 (a0 : Int) (a1 : Int) (a2 : Int) (a3 : Int) (a4 : Int) (a5 : Int) (a6 : Int) (a7 : Int) (a8 : Int) (a9 : Int) (a10 : Int) (a11 : Int) = some (ba (printL a0 a1 a2 a3 a4 a5 a6 a7 a8 a9 a10 a11)) := by
  have l0 := dd_len a0
  have l1 := dd_len a1
  have l2 := dd_len a2
  have l3 := dd_len a3
  have l4 := dd_len a4
  have l5 := dd_len a5
  have l6 := dd_len a6
  have l7 := dd_len a7
  have l8 := dd_len a8
  have l9 := dd_len a9
  have l10 := dd_len a10
  have l11 := dd_len a11
  unfold F10; rw [res_eq]
  simp (disch := omega) only [B10, F41_eq, F42_eq h0, F42_eq h1, F42_eq h2, F42_eq h3, F42_eq h4, F42_eq h5, F42_eq h6, F42_eq h7, F42_eq h8, F42_eq h9, F42_eq h10, F42_eq h11, sem_bind_some, sem_sees, sem_br, sem_triv, sem_ask, sem_ret, PC.holds, lit_e, lit_s, lit_n, lit_0, lit_1, lit_2, lit_3, lit_4, lit_5, ba_app, ba_size, List.nil_append, List.length_append, List.length_cons, List.length_nil, need_p, stepO_ret]
  unfold printL lineL nameL
  simp only [List.append_assoc, List.cons_append, List.nil_append]
end
section
open Go Go.RowKit
theorem F5_eq : F5 = some true := rfl
theorem F7_eq (a0 a1 a2 a3 a4 a5 a6 a7 a8 a9 a10 a11 : Int) : F7 a0 a1 a2 a3 a4 a5 a6 a7 a8 a9 a10 a11 = some (a0, a1, a2, a3, a4, a5, a6, a7, a8, a9, a10, a11) := by
  unfold F7; rw [res_eq]
  simp only [B7, sem_ret, stepO_ret]
theorem F12_eq (a0 a1 a2 a3 a4 a5 a6 a7 a8 a9 a10 a11 : Int) : F12 a0 a1 a2 a3 a4 a5 a6 a7 a8 a9 a10 a11 = some (a0, a1, a2, a3, a4, a5, a6, a7, a8, a9, a10, a11) := by
  unfold F12; rw [res_eq]
  simp only [B12, sem_ret, stepO_ret]
theorem texts_true (b0 b1 b2 b3 b4 b5 b6 b7 b8 b9 b10 b11 : Int) (s : ByteArray) : F3 b0 b1 b2 b3 b4 b5 b6 b7 b8 b9 b10 b11 s = some true := by
  unfold F3; rw [res_eq]
  by_cases hs : (if decide ((s.size : Int) > 300) = true then (s.size : Int) != 4097 else false) = true
  · simp only [B3, hs, F5_eq, sem_triv, sem_br, sem_bind_some, sem_sees, sem_ret, if_true, stepO_ret]
  · obtain ⟨X, h8⟩ : ∃ X, F8 s = some X := ⟨_, F8_eq s⟩
    have h11 : F11 s = some X := by rw [← parse_same]; exact h8
    by_cases hc : chk b0 b1 b2 b3 b4 b5 b6 b7 b8 b9 b10 b11 = 0
    · obtain ⟨a0, a1, a2, a3, a4, a5, a6, a7, a8, a9, a10, a11, ⟨rfl, rfl, rfl, rfl, rfl, rfl, rfl, rfl, rfl, rfl, rfl, rfl⟩, q0, q1, q2, q3, q4, q5, q6, q7, q8, q9, q10, q11⟩ := chk_nat hc
      simp only [B3, hs, F5_eq, F7_eq, F9_eq, F12_eq, F6_ok q0 q1 q2 q3 q4 q5 q6 q7 q8 q9 q10 q11 hc, F10_ok q0 q1 q2 q3 q4 q5 q6 q7 q8 q9 q10 q11, h8, h11, hc, eqS_ba, decide_true, BEq.rfl, Bool.and_self, Bool.true_and, Bool.and_true, sem_triv, sem_br, sem_bind_some, sem_sees, sem_ret, if_true, if_false, Bool.false_eq_true, stepO_ret]
    · have hz : (chk b0 b1 b2 b3 b4 b5 b6 b7 b8 b9 b10 b11 == 0) = false := by rw [beq_eq_false_iff_ne]; exact hc
      simp only [B3, hs, lit_e, F5_eq, F7_eq, F9_eq, F12_eq, F6_bad hc, h8, h11, hz, eqS_ba, decide_true, BEq.rfl, Bool.and_self, Bool.true_and, Bool.and_true, sem_triv, sem_br, sem_bind_some, sem_sees, sem_ret, if_true, if_false, Bool.false_eq_true, stepO_ret]
end
end Go.Kv
