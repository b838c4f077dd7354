/- Texts of numbers and lists. -/
import Derived.Test.YtdelimpnnpifpaaGreatDoorGX1
import Derived.Test.YtdelimpnnpifpaaGreatDoorKCk
set_option linter.all false
namespace Go.Kv
open Go Go.RowKit
set_option maxRecDepth 100000
theorem eqS_iff {a b : ByteArray} : eqS a b = true ↔ a = b := by
  unfold eqS
  rw [beq_iff_eq, ByteArray.toList_eq, ByteArray.toList_eq]
  exact ⟨fun h => ByteArray.ext (Array.toList_inj.1 h), fun h => by rw [h]⟩
theorem eqS_data {a b : ByteArray} : eqS a b = decide (a.data.toList = b.data.toList) := by
  rw [Bool.eq_iff_iff, eqS_iff, decide_eq_true_iff]
  exact ⟨fun h => by rw [h], fun h => ByteArray.ext (Array.toList_inj.1 h)⟩
theorem wrap32 {n : Int} (h : 0 ≤ n ∧ n ≤ 1000000) : IntKind.i32.wrap n = n := by rw [IntKind.wrap_i32]; omega
theorem wrap8 {n : Int} (h : 0 ≤ n ∧ n ≤ 255) : IntKind.u8.wrap n = n := by rw [IntKind.wrap_u8]; omega
theorem wrap64 {n : Int} (h : 0 ≤ n ∧ n ≤ 1000000000000) : IntKind.i64.wrap n = n := wrap_in (by unfold inI64; omega)
def bt (s : ByteArray) (i : Nat) : Nat := (s.data.toList.getD i 0).toNat
theorem bt_get {s : ByteArray} {i : Nat} (hi : i < s.size) : (s.get! i).toNat = bt s i := by
  unfold bt
  have h2 : i < s.data.toList.length := by simpa using hi
  have : s.get! i = s.data.toList[i] := by
    have : s.get! i = s.data[i]! := rfl
    rw [this, getElem!_pos s.data i hi]; simp
  rw [this, List.getD_eq_getElem?_getD, List.getElem?_eq_getElem h2]; rfl
theorem dec_lo {s : ByteArray} {i : Nat} (hi : i < s.size) (h : bt s i < 128) : Utf8.decode s i = (bt s i, 1) := by
  unfold Utf8.decode
  simp only [Nat.add_zero, bt_get hi]
  rw [if_pos h]
theorem dec_hi {s : ByteArray} {i : Nat} (hi : i < s.size) (h : ¬ bt s i < 128) : 128 ≤ (Utf8.decode s i).1 := by
  unfold Utf8.decode
  simp only [Nat.add_zero, bt_get hi]
  rw [if_neg h]
  have he : 128 ≤ Utf8.runeError := by decide
  repeat' split
  all_goals first | exact he | (rename_i hc; first | (simp only [Bool.and_eq_true, decide_eq_true_eq] at hc; omega) | omega) | skip
  all_goals (simp only; omega)
def isD (b : UInt8) : Bool := decide (48 ≤ b.toNat) && decide (b.toNat ≤ 57)
def dvL : List UInt8 → Nat → Nat
  | [], n => n
  | b :: l, n => dvL l (10 * n + b.toNat % 48)
theorem dvL_lt (l : List UInt8) : ∀ (n k : Nat), n < 10 ^ k → l.all isD = true → dvL l n < 10 ^ (k + l.length) := by
  induction l with
  | nil =>
    intro n k h h0
    rw [dvL]; exact h
  | cons b l ih =>
    intro n k h hd
    rw [List.all_cons, Bool.and_eq_true] at hd
    have hb := hd.1
    unfold isD at hb
    simp only [Bool.and_eq_true, decide_eq_true_eq] at hb
    have := ih (10 * n + b.toNat % 48) (k + 1) (by rw [Nat.pow_succ]; omega) hd.2
    rw [dvL, List.length_cons, show k + (l.length + 1) = k + 1 + l.length by omega]
    exact this
/-- The first byte is a digit that may stand there. -/
def hdD (l : List UInt8) : Bool := decide (l = [48]) || (!l.isEmpty && l.getD 0 0 != 48)
def okD (l : List UInt8) : Bool := l.all isD && decide (l.length ≤ 9) && hdD l
theorem bt_list (s : ByteArray) (i : Nat) : bt s i = (s.data.toList.getD i 0).toNat := rfl
theorem drop_bt {s : ByteArray} {i : Nat} (hi : i < s.size) : s.data.toList.drop i = s.data.toList.getD i 0 :: s.data.toList.drop (i + 1) := by
  have h2 : i < s.data.toList.length := by simpa using hi
  rw [List.drop_eq_getElem_cons h2, List.getD_eq_getElem?_getD, List.getElem?_eq_getElem h2]; rfl
theorem pow9 {k : Nat} (h : k ≤ 9) : 10 ^ k ≤ 1000000000 := by
  have := Nat.pow_le_pow_right (n := 10) (by decide) h
  simpa using this
theorem okD_nil (s : ByteArray) : okD s.data.toList = (s.data.toList.all isD && decide (s.size ≤ 9) && hdD s.data.toList) := by
  unfold okD; rw [show s.data.toList.length = s.size by simp]
end Go.Kv
namespace Go.Kv
open Go Go.RowKit
set_option maxRecDepth 100000
theorem F121_loop (s : ByteArray) (h9 : s.size ≤ 9) : ∀ (k i acc : Nat), s.size = i + k → acc < 10 ^ i →
    res B121 (.c1 s (acc : Int) (i : Int)) = some (if (s.data.toList.drop i).all isD = true then ((dvL (s.data.toList.drop i) acc : Int), true) else (0, false)) := by
  intro k
  induction k with
  | zero =>
    intro i acc hk h0
    have h1 : ¬ ((i : Int) < (s.size : Int)) := by omega
    have h2 : s.size ≤ i := by omega
    rw [res_eq, List.drop_eq_nil_of_le (by simpa using h2)]
    simp only [B121, sem_br, sem_ret, h1, decide_false, Bool.false_eq_true, if_false, List.all_nil, if_true, dvL, stepO_ret]
  | succ k IH =>
    intro i acc hk ha
    have hi : i < s.size := by omega
    have h1 : (i : Int) < (s.size : Int) := by omega
    have hp := pow9 (k := i) (by omega)
    rw [res_eq, drop_bt hi, List.all_cons]
    have hbt : (s.data.toList.getD i 0).toNat = bt s i := rfl
    have hin : inI64 ((i : Int) + 1) := by unfold inI64; omega
    by_cases hd : 48 ≤ bt s i ∧ bt s i ≤ 57
    · have ih := IH (i + 1) (10 * acc + bt s i % 48) (by omega) (by rw [Nat.pow_succ]; omega)
      have hD : isD (s.data.toList.getD i 0) = true := by unfold isD; rw [hbt]; simp [hd]
      have l1 : ¬ ((bt s i : Int) < 48) := by omega
      have l2 : ¬ ((bt s i : Int) > 57) := by omega
      have w1 : IntKind.u8.wrap ((bt s i : Int) - 48) = ((bt s i % 48 : Nat) : Int) := by rw [wrap8 (by omega)]; omega
      have w2 : IntKind.i64.wrap ((bt s i % 48 : Nat) : Int) = ((bt s i % 48 : Nat) : Int) := wrap64 (by omega)
      have i1 : inI64 (10 * (acc : Int)) := by unfold inI64; omega
      have i2 : inI64 (10 * (acc : Int) + ((bt s i % 48 : Nat) : Int)) := by unfold inI64; omega
      have e3 : 10 * (acc : Int) + ((bt s i % 48 : Nat) : Int) = ((10 * acc + bt s i % 48 : Nat) : Int) := by omega
      simp only [B121, Int.toNat_natCast, hbt, h1, hi, hD, l1, l2, w1, w2, i1, i2, hin, Int.natCast_nonneg, decide_true, decide_false, Bool.false_eq_true, if_false, Bool.true_and, sem_br, sem_ask, sem_triv, sem_nxt, PC.holds, need_true, if_true, BEq.rfl, stepO_nxt]
      rw [e3, show ((i : Int) + 1) = ((i + 1 : Nat) : Int) by omega, ih]
      rfl
    · have hD : isD (s.data.toList.getD i 0) = false := by
        unfold isD; rw [hbt, Bool.and_eq_false_iff]; simp only [decide_eq_false_iff_not]; omega
      by_cases l1 : (bt s i : Int) < 48
      · simp only [B121, Int.toNat_natCast, hbt, h1, hi, hD, l1, Int.natCast_nonneg, decide_true, Bool.false_and, Bool.false_eq_true, if_false, sem_br, sem_ask, sem_triv, sem_ret, PC.holds, need_true, if_true, stepO_ret]
      · have l2 : (bt s i : Int) > 57 := by omega
        simp only [B121, Int.toNat_natCast, hbt, h1, hi, hD, l1, l2, Int.natCast_nonneg, decide_true, decide_false, Bool.false_and, Bool.false_eq_true, if_false, sem_br, sem_ask, sem_triv, sem_ret, PC.holds, need_true, if_true, BEq.rfl, stepO_ret]
theorem F121_eq (s : ByteArray) : F121 s = some (if okD s.data.toList = true then ((dvL s.data.toList 0 : Int), true) else (0, false)) := by
  unfold F121; rw [res_eq, okD_nil]
  unfold hdD
  have e0 : eqS s (ByteArray.mk #[]) = decide (s.data.toList = []) := by rw [eqS_data]
  have hl : s.data.toList.length = s.size := by simp
  by_cases h0 : s.data.toList = []
  · have h0' : eqS s (ByteArray.mk #[]) = true := by rw [e0]; simp [h0]
    simp only [B121, h0', if_true, sem_triv, sem_br, sem_ret, stepO_ret]
    rw [h0]; simp
  · have h0' : eqS s (ByteArray.mk #[]) = false := by rw [e0]; simp [h0]
    have hpos : 0 < s.size := by
      rw [← hl]; exact List.length_pos_iff.2 h0
    by_cases h9 : s.size ≤ 9
    · have h9' : ¬ ((s.size : Int) > 9) := by omega
      have hne : s.data.toList.isEmpty = false := by
        cases hm : s.data.toList with
        | nil => exact absurd hm h0
        | cons => rfl
      by_cases h48 : s.data.toList.getD 0 0 = 48
      · by_cases h1 : s.size > 1
        · have h1' : (s.size : Int) > 1 := by omega
          have hx : ¬ s.data.toList = [48] := by intro e; rw [e] at hl; simp at hl; omega
          have hz : (((UInt8.toNat 48 : Nat) : Int) == 48) = true := rfl
          simp only [B121, h0', h9', hz, h1', hpos, Int.toNat_zero, hx, hne, h48, decide_true, decide_false, Bool.false_eq_true, if_false, if_true, BEq.rfl, bne_self_eq_false, Bool.and_false, Bool.or_false, sem_br, sem_ask, sem_triv, sem_ret, PC.holds, need_true, Bool.or_self, stepO_ret, Int.le_refl]
        · have h1' : ¬ ((s.size : Int) > 1) := by omega
          have hx : s.data.toList = [48] := by
            match hm : s.data.toList with
            | [] => exact absurd hm h0
            | [b] => rw [hm] at h48; simp at h48; rw [h48]
            | a :: b :: l => rw [hm] at hl; simp at hl; omega
          have hz : ((s.data.toList.getD 0 0).toNat : Int) = 48 := by rw [h48]; rfl
          have lp := F121_loop s h9 s.size 0 0 (by omega) (by decide)
          rw [List.drop_zero] at lp
          simp only [B121, h0', h9', hz, h1', hpos, Int.toNat_zero, decide_true, decide_false, Bool.false_eq_true, if_false, if_true, BEq.rfl, sem_br, sem_ask, sem_triv, sem_nxt, PC.holds, need_true, stepO_nxt, Int.le_refl]
          refine Eq.trans lp ?_
          simp [hx, h9]
      · have hz : ¬ (((s.data.toList.getD 0 0).toNat : Int) = 48) := by
          intro e; apply h48; apply UInt8.toNat_inj.1; show _ = 48; omega
        have hz' : (((s.data.toList.getD 0 0).toNat : Int) == 48) = false := by rw [beq_eq_false_iff_ne]; exact hz
        have hb : (s.data.toList.getD 0 0 != 48) = true := by rw [bne_iff_ne]; exact h48
        have lp := F121_loop s h9 s.size 0 0 (by omega) (by decide)
        rw [List.drop_zero] at lp
        simp only [B121, h0', h9', hz', hpos, Int.toNat_zero, decide_true, decide_false, Bool.false_eq_true, if_false, if_true, BEq.rfl, sem_br, sem_ask, sem_triv, sem_nxt, PC.holds, need_true, stepO_nxt, Int.le_refl]
        refine Eq.trans lp ?_
        simp only [hne, hb, h9, decide_true, Bool.not_false, Bool.and_true, Bool.or_true]
    · have h9' : (s.size : Int) > 9 := by omega
      simp only [B121, h0', h9', h9, decide_true, decide_false, Bool.false_eq_true, if_true, if_false, Bool.and_false, Bool.false_and, sem_triv, sem_br, sem_ret, stepO_ret]
end Go.Kv
namespace Go.Kv
open Go Go.RowKit
set_option maxRecDepth 100000
def ba (l : List UInt8) : ByteArray := ⟨l.toArray⟩
theorem ba_data (l : List UInt8) : (ba l).data.toList = l := by simp [ba]
theorem ba_size (l : List UInt8) : (ba l).size = l.length := by
  show l.toArray.size = l.length
  simp
theorem ba_of (s : ByteArray) : ba s.data.toList = s := by
  unfold ba; exact ByteArray.ext (by simp)
theorem ba_app (a b : List UInt8) : ba a ++ ba b = ba (a ++ b) := by
  apply ByteArray.ext
  apply Array.toList_inj.1
  rw [ByteArray.data_append, Array.toList_append, ba_data, ba_data, ba_data]
theorem ba_inj {a b : List UInt8} : ba a = ba b ↔ a = b := ⟨fun h => by rw [← ba_data a, h, ba_data], fun h => by rw [h]⟩
def tx (r : Nat) : List UInt8 := if r = 0 then [] else Lib.decDigits r
theorem tx_step {r : Nat} (h : r ≠ 0) : tx r = tx (r / 10) ++ [UInt8.ofNat (48 + r % 10)] := by
  unfold tx
  rw [if_neg h, Lib.decDigits]
  split
  · rename_i h1
    rw [if_pos (by omega), Nat.mod_eq_of_lt h1]; rfl
  · rw [if_neg (by omega)]
theorem F119_loop (n : Int) (hn : ¬ n < 0) (r : Nat) : ∀ (o : List UInt8), r + o.length ≤ 1000000000000 → res B119 (.c1 n (ba o) (r : Int)) = some (ba (tx r ++ o)) := by
  induction r using Nat.strongRecOn with
  | ind r ih =>
    intro o ho
    rw [res_eq]
    by_cases h0 : r = 0
    · subst h0
      simp only [B119, hn, sem_br, sem_ret, decide_false, Bool.false_eq_true, if_false, stepO_ret, Int.natCast_zero, bne_self_eq_false]
      rfl
    · have h1 : ((r : Int) != 0) = true := by rw [bne_iff_ne]; omega
      have h2 : ¬ ((r : Int).tmod 10 < 0) := by rw [Int.tmod_eq_emod_of_nonneg (by omega)]; omega
      have e1 : 48 + (r : Int).tmod 10 = ((48 + r % 10 : Nat) : Int) := by rw [Int.tmod_eq_emod_of_nonneg (by omega)]; omega
      have e2 : (r : Int).tdiv 10 = ((r / 10 : Nat) : Int) := by rw [Int.tdiv_eq_ediv_of_nonneg (by omega)]; omega
      have w1 : IntKind.i32.wrap ((48 + r % 10 : Nat) : Int) = ((48 + r % 10 : Nat) : Int) := wrap32 (by omega)
      have i1 : inI64 ((48 + r % 10 : Nat) : Int) := by unfold inI64; omega
      have i2 : inI64 ((r / 10 : Nat) : Int) := by unfold inI64; omega
      have l1 : (0 : Int) ≤ ((48 + r % 10 : Nat) : Int) := by omega
      have l2 : ((48 + r % 10 : Nat) : Int) < 128 := by omega
      have l3 : ((1 + (ba o).size : Nat) : Int) ≤ 9223372036854775807 := by rw [ba_size]; omega
      have ep : pushAll [((48 + r % 10 : Nat) : Int)] ByteArray.empty = ba [UInt8.ofNat (48 + r % 10)] := rfl
      have := ih (r / 10) (by omega) (UInt8.ofNat (48 + r % 10) :: o) (by rw [List.length_cons]; omega)
      simp only [B119, h1, h2, e1, e2, w1, i1, i2, l1, l2, l3, sem_br, sem_ask, sem_triv, sem_nxt, PC.holds, need_true, if_true, decide_false, Bool.false_eq_true, if_false, stepO_nxt, ep, ba_app]
      rw [show [UInt8.ofNat (48 + r % 10)] ++ o = UInt8.ofNat (48 + r % 10) :: o from rfl, this, tx_step h0, List.append_assoc]; rfl
theorem F119_eq {n : Nat} (h : n ≤ 999999) : F119 (n : Int) = some (ba (Lib.decDigits n)) := by
  unfold F119; rw [res_eq]
  by_cases h0 : n = 0
  · subst h0
    simp only [B119, sem_br, sem_ret, Int.natCast_zero, BEq.rfl, if_true, stepO_ret]
    rw [Lib.decDigits_one (by decide)]; rfl
  · have h1 : ((n : Int) == 0) = false := by rw [beq_eq_false_iff_ne]; omega
    have := F119_loop (n : Int) (by omega) n [] (by simp; omega)
    simp only [B119, h1, sem_br, sem_nxt, Bool.false_eq_true, if_false, stepO_nxt]
    refine Eq.trans this ?_
    rw [List.append_nil]; unfold tx; rw [if_neg h0]
theorem F114_eq {n : Nat} (h : n ≤ 999999) : F114 (n : Int) = some (ba (Lib.decDigits n)) := by
  unfold F114
  rw [if_pos (by omega)]
  unfold Lib.itoa
  rw [if_neg (by omega)]; rfl
end Go.Kv
namespace Go.Kv
open Go Go.RowKit
set_option maxRecDepth 100000
def sD (l : List UInt8) : DV := .v (.string (ba l))
theorem beq_byte (x c : UInt8) : ((x.toNat : Int) == (c.toNat : Int)) = decide (x = c) := by
  rw [Bool.eq_iff_iff, beq_iff_eq, decide_eq_true_iff]
  constructor
  · intro h; apply UInt8.toNat_inj.1; omega
  · intro h; rw [h]
theorem ext_ba (s : ByteArray) (a b : Nat) : s.extract a b = ba ((s.data.toList.take b).drop a) := by
  rw [← ext_to, ba_of]
theorem cur_next {l : List UInt8} {i fr : Nat} (hi : i < l.length) (hf : fr ≤ i) : (l.take (i + 1)).drop fr = (l.take i).drop fr ++ [l.getD i 0] := by
  rw [List.take_succ_eq_append_getElem hi, List.drop_append_of_le_length (by rw [List.length_take]; omega)]
  simp [List.getD_eq_getElem?_getD, hi]
theorem cur_nil {l : List UInt8} {i : Nat} : (l.take i).drop i = [] := List.drop_eq_nil_of_le (by simp; omega)
theorem F120_c2 (s : ByteArray) (c : UInt8) (h5 : s.size ≤ 5000) : ∀ (k i fr n e : Nat) (ds : List DV), s.size = i + k → fr ≤ i → n ≤ i →
    res B120 (.c2 s (c.toNat : Int) e n ds (fr : Int) (i : Int) e) = some (n + (spl c ((s.data.toList.take i).drop fr) (s.data.toList.drop i)).length, ds ++ (spl c ((s.data.toList.take i).drop fr) (s.data.toList.drop i)).map sD) := by
  intro k
  have hl : s.data.toList.length = s.size := by simp
  induction k with
  | zero =>
    intro i fr n e ds hk hf hn
    have h1 : ¬ ((i : Int) < (s.size : Int)) := by omega
    have hfi : fitsN (n + 1) 16 := ⟨by omega, by omega⟩
    have q1 : (fr : Int) ≤ (s.size : Int) := by omega
    have hd : s.data.toList.drop i = [] := List.drop_eq_nil_of_le (by omega)
    rw [res_eq, hd]
    simp only [B120, sem_br, sem_ask, sem_ret, PC.holds, need_true, h1, hfi, q1, Int.natCast_nonneg, Int.le_refl, decide_false, Bool.false_eq_true, if_false, stepO_ret, Int.toNat_natCast, spl, List.length_singleton, List.map_cons, List.map_nil]
    rw [ext_ba, show i = s.size by omega]
    rfl
  | succ k IH =>
    intro i fr n e ds hk hf hn
    have hi : i < s.size := by omega
    have h1 : (i : Int) < (s.size : Int) := by omega
    have hin : inI64 ((i : Int) + 1) := by unfold inI64; omega
    have ei : (i : Int) + 1 = ((i + 1 : Nat) : Int) := by omega
    rw [res_eq, drop_bt hi, spl]
    by_cases hc : s.data.toList.getD i 0 = c
    · have ih := IH (i + 1) (i + 1) (n + 1) (e + 1) (ds ++ [sD ((s.data.toList.take i).drop fr)]) (by omega) (by omega) (by omega)
      have hfi : fitsN (n + 1) 16 := ⟨by omega, by omega⟩
      have q1 : (fr : Int) ≤ (i : Int) := by omega
      have q2 : (i : Int) ≤ (s.size : Int) := by omega
      rw [cur_nil] at ih
      simp only [B120, sem_br, sem_ask, sem_nxt, PC.holds, need_true, beq_byte, Int.toNat_natCast, hc, h1, hi, hin, hfi, q1, q2, Int.natCast_nonneg, decide_true, if_true, stepO_nxt]
      rw [ei, show DV.v (Value.string (s.extract fr i)) = sD ((s.data.toList.take i).drop fr) by rw [ext_ba]; rfl, ih]
      simp only [List.length_cons, List.map_cons, List.append_assoc, List.singleton_append, Option.some.injEq, Prod.mk.injEq, and_true]
      omega
    · have ih := IH (i + 1) fr n e ds (by omega) (by omega) (by omega)
      rw [cur_next (by omega) hf] at ih
      simp only [B120, sem_br, sem_ask, sem_nxt, PC.holds, need_true, beq_byte, Int.toNat_natCast, hc, h1, hi, hin, Int.natCast_nonneg, decide_true, decide_false, Bool.false_eq_true, if_true, if_false, stepO_nxt]
      rw [ei, ih]
theorem F120_c1 (s : ByteArray) (c : UInt8) (h5 : s.size ≤ 5000) : ∀ (k i : Nat), s.size = i + k →
    res B120 (.c1 s (c.toNat : Int) 0 (i : Int)) = some ((spl c (s.data.toList.take i) (s.data.toList.drop i)).length, (spl c (s.data.toList.take i) (s.data.toList.drop i)).map sD) := by
  intro k
  have hl : s.data.toList.length = s.size := by simp
  induction k with
  | zero =>
    intro i hk
    have h1 : ¬ ((i : Int) < (s.size : Int)) := by omega
    have q1 : (0 : Int) ≤ (s.size : Int) := by omega
    have hd : s.data.toList.drop i = [] := List.drop_eq_nil_of_le (by omega)
    rw [res_eq, hd]
    simp only [B120, sem_br, sem_ask, sem_ret, PC.holds, need_true, h1, q1, Int.le_refl, decide_false, Bool.false_eq_true, if_false, stepO_ret, Int.toNat_natCast, Int.toNat_zero, spl, List.length_singleton, List.map_cons, List.map_nil]
    rw [ext_ba, show i = s.size by omega]
    rfl
  | succ k IH =>
    intro i hk
    have hi : i < s.size := by omega
    have h1 : (i : Int) < (s.size : Int) := by omega
    have hin : inI64 ((i : Int) + 1) := by unfold inI64; omega
    have ei : (i : Int) + 1 = ((i + 1 : Nat) : Int) := by omega
    rw [res_eq, drop_bt hi, spl]
    by_cases hc : s.data.toList.getD i 0 = c
    · have ih := F120_c2 s c h5 k (i + 1) (i + 1) 1 0 [sD (s.data.toList.take i)] (by omega) (by omega) (by omega)
      have q2 : (i : Int) ≤ (s.size : Int) := by omega
      rw [cur_nil] at ih
      simp only [B120, sem_br, sem_ask, sem_nxt, PC.holds, need_true, beq_byte, Int.toNat_natCast, Int.toNat_zero, hc, h1, hi, hin, q2, Int.natCast_nonneg, Int.le_refl, decide_true, if_true, stepO_nxt]
      rw [ei, show (Value.string (s.extract 0 i)) = Value.string (ba (s.data.toList.take i)) by rw [ext_ba]; rfl]
      refine Eq.trans ih ?_
      simp only [List.length_cons, List.map_cons, List.singleton_append, Option.some.injEq, Prod.mk.injEq, and_true]
      omega
    · have ih := IH (i + 1) (by omega)
      have e1 := cur_next (l := s.data.toList) (fr := 0) (i := i) (by omega) (by omega)
      rw [List.drop_zero, List.drop_zero] at e1
      rw [e1] at ih
      simp only [B120, sem_br, sem_ask, sem_nxt, PC.holds, need_true, beq_byte, Int.toNat_natCast, hc, h1, hi, hin, Int.natCast_nonneg, decide_true, decide_false, Bool.false_eq_true, if_true, if_false, stepO_nxt]
      rw [ei, ih]
theorem F120_eq (s : ByteArray) (c : UInt8) (h5 : s.size ≤ 5000) : F120 s (c.toNat : Int) = some ((spl c [] s.data.toList).length, (spl c [] s.data.toList).map sD) := by
  unfold F120; rw [res_eq]
  simp only [B120, sem_nxt, stepO_nxt]
  have := F120_c1 s c h5 s.size 0 (by omega)
  rw [List.take_zero, List.drop_zero] at this
  exact this
theorem map_ba : ∀ (bs : List ByteArray), bs.map strD = (bs.map (·.data.toList)).map sD
  | [] => rfl
  | b :: bs => by
    rw [List.map_cons, List.map_cons, List.map_cons, map_ba bs]
    unfold strD sD; rw [ba_of]
theorem countB_eq (s : ByteArray) (c : UInt8) : Lib.countB s ⟨#[c]⟩ = s.data.toList.count c := Lib.count_one c _
theorem F116_eq (s : ByteArray) (c : UInt8) (h5 : s.size ≤ 5000) : F116 s ⟨#[c]⟩ = some ((spl c [] s.data.toList).length, (spl c [] s.data.toList).map sD) := by
  unfold F116
  rw [if_pos ⟨by omega, rfl⟩]
  show some ((splitS c s).length, (splitS c s).map strD) = _
  have e := splitB_one c (Lib.countB s ⟨#[c]⟩) s (by rw [countB_eq]; exact Nat.le_refl _)
  have e2 : (splitS c s).map (·.data.toList) = spl c [] s.data.toList := e
  rw [map_ba, e2, ← e2, List.length_map]
end Go.Kv
namespace Go.Kv
open Go Go.RowKit
set_option maxRecDepth 100000
theorem F164_yes (q : List UInt8) (h : q.length ≤ 5000) : F164 (ba (q ++ [10])) (ByteArray.mk #[10]) = some true := by
  unfold F164; rw [res_eq]
  have hs : (ba (q ++ [10])).size = q.length + 1 := by rw [ba_size]; simp
  have h1 : (ByteArray.mk #[10]).size = 1 := rfl
  have c1 : ((q.length + 1 : Nat) : Int) ≥ ((1 : Nat) : Int) := by omega
  have e1 : ((q.length + 1 : Nat) : Int) - ((1 : Nat) : Int) = (q.length : Int) := by omega
  have i1 : inI64 (q.length : Int) := by unfold inI64; omega
  have l1 : (q.length : Int) ≤ ((q.length + 1 : Nat) : Int) := by omega
  have e2 : (ba (q ++ [10])).extract q.length (q.length + 1) = ByteArray.mk #[10] := by
    rw [ext_ba, ba_data, List.take_of_length_le (by simp), List.drop_left]; rfl
  simp only [B164, hs, h1, c1, e1, i1, l1, e2, decide_true, BEq.rfl, if_true, sem_br, sem_triv, sem_ask, sem_ret, PC.holds, need_true, Int.natCast_nonneg, Int.le_refl, Int.toNat_natCast, stepO_ret]
  rw [eqS_iff.2 rfl]
theorem F164_no (r : List UInt8) (h : r.length ≤ 5000) (hn : ∀ q, r ≠ q ++ [10]) : F164 (ba r) (ByteArray.mk #[10]) = some false := by
  unfold F164; rw [res_eq]
  have hs : (ba r).size = r.length := ba_size r
  have h1 : (ByteArray.mk #[10]).size = 1 := rfl
  by_cases h0 : r.length = 0
  · have c1 : ¬ (((r.length : Nat) : Int) ≥ ((1 : Nat) : Int)) := by omega
    simp only [B164, hs, h1, c1, decide_false, Bool.false_eq_true, if_false, sem_br, sem_triv, sem_ask, sem_ret, stepO_ret]
  · have c1 : ((r.length : Nat) : Int) ≥ ((1 : Nat) : Int) := by omega
    have e1 : ((r.length : Nat) : Int) - ((1 : Nat) : Int) = ((r.length - 1 : Nat) : Int) := by omega
    have i1 : inI64 ((r.length - 1 : Nat) : Int) := by unfold inI64; omega
    have l1 : ((r.length - 1 : Nat) : Int) ≤ ((r.length : Nat) : Int) := by omega
    have e2 : eqS ((ba r).extract (r.length - 1) r.length) (ByteArray.mk #[10]) = false := by
      rw [ext_ba, ba_data, List.take_length, Bool.eq_false_iff]
      intro he
      rw [eqS_iff] at he
      have : r.drop (r.length - 1) = [10] := ba_inj.1 he
      exact hn (r.take (r.length - 1)) (by rw [← this, List.take_append_drop])
    simp only [B164, hs, h1, c1, e1, i1, l1, e2, decide_true, BEq.rfl, if_true, sem_br, sem_triv, sem_ask, sem_ret, PC.holds, need_true, Int.natCast_nonneg, Int.le_refl, Int.toNat_natCast, stepO_ret]
theorem F115_yes (q : List UInt8) (h : q.length ≤ 5000) : F115 (ba (q ++ [10])) (ByteArray.mk #[10]) = some (ba q, true) := by
  have hs : (ba (q ++ [10])).size = q.length + 1 := by rw [ba_size]; simp
  have h1 : (ByteArray.mk #[10]).size = 1 := rfl
  have e1 : ((q.length + 1 : Nat) : Int) - ((1 : Nat) : Int) = (q.length : Int) := by omega
  have i1 : inI64 (q.length : Int) := by unfold inI64; omega
  have l1 : (q.length : Int) ≤ ((q.length + 1 : Nat) : Int) := by omega
  have e2 : (ba (q ++ [10])).extract 0 q.length = ba q := by
    rw [ext_ba, ba_data, List.drop_zero, List.take_left]
  have h72 : F152 (ba (q ++ [10])) (ByteArray.mk #[10]) = some (ba q, true) := by
    unfold F152; rw [res_eq]
    simp only [B152, F164_yes q h, hs, h1, e1, i1, l1, e2, Bool.not_true, Bool.false_eq_true, if_false, sem_bind_some, sem_sees, sem_br, sem_triv, sem_ask, sem_ret, PC.holds, need_true, Int.natCast_nonneg, Int.toNat_natCast, Int.toNat_zero, stepO_ret]
  unfold F115; rw [res_eq]
  simp only [B115, h72, sem_bind_some, sem_sees, sem_ret, stepO_ret]
theorem F115_no (r : List UInt8) (h : r.length ≤ 5000) (hn : ∀ q, r ≠ q ++ [10]) : F115 (ba r) (ByteArray.mk #[10]) = some (ba r, false) := by
  have h72 : F152 (ba r) (ByteArray.mk #[10]) = some (ba r, false) := by
    unfold F152; rw [res_eq]
    simp only [B152, F164_no r h hn, Bool.not_false, if_true, sem_bind_some, sem_sees, sem_br, sem_triv, sem_ask, sem_ret, PC.holds, need_true, stepO_ret]
  unfold F115; rw [res_eq]
  simp only [B115, h72, sem_bind_some, sem_sees, sem_ret, stepO_ret]
theorem eqS_ba (a b : List UInt8) : eqS (ba a) (ba b) = decide (a = b) := by
  rw [eqS_data, ba_data, ba_data]
end Go.Kv
namespace Go.Kv
open Go Go.RowKit
set_option maxRecDepth 100000
def listI (n k : Int) (l : List Int) : Int := firstI [codeI n k, whenI ((l.length : Int) != n) 2, symI l]
theorem F29_eq (n k : Int) (l : List Int) (hl : l.length ≤ 300) : F29 n k l.length (l.map vI) = some (listI n k l) := by
  unfold F29; rw [res_eq]
  simp only [B29, F27_eq, F83_eq, F84_eq l hl, sem_bind_some, sem_sees, F82_3, sem_ret, stepO_ret]; rfl
theorem F21_eq (n k : Int) (l : List Int) (hl : l.length ≤ 300) : F21 n k l.length (l.map vI) = some (listI n k l) := by
  unfold F21; rw [res_eq]
  simp only [B21, F28_eq, F25_eq, F78_eq l hl, sem_bind_some, sem_sees, F87_3, sem_ret, stepO_ret]; rfl
theorem listI_zero {n k : Int} {l : List Int} : listI n k l = 0 ↔ codeI n k = 0 ∧ (l.length : Int) = n ∧ okS l := by
  unfold listI
  rw [firstI_zero, firstI_zero, firstI_zero, whenI_zero (by decide), symI_zero]
  have : firstI [] = 0 := rfl
  simp [this]
theorem F30_loop (a b : List Int) (hl : a.length ≤ 1000) (he : a.length = b.length) : ∀ (m i : Nat), a.length = i + m → res B30 (.c1 a.length (a.map vI) b.length (b.map vI) (i : Int)) = some (decide (a.drop i = b.drop i)) := by
  intro m
  induction m with
  | zero =>
    intro i h
    rw [res_eq, List.drop_eq_nil_of_le (by omega), List.drop_eq_nil_of_le (by omega)]
    have h1 : ¬ ((i : Int) < (a.length : Int)) := by omega
    simp only [B30, sem_br, h1, decide_false, Bool.false_eq_true, if_false, sem_ret, stepO_ret]
    simp
  | succ m ih =>
    intro i h
    have hi : i < a.length := by omega
    have hj : i < b.length := by omega
    have g1 := at_map hi
    have g2 := at_map hj
    have h1 : (i : Int) < (a.length : Int) := by omega
    have h2 : (i : Int) < (b.length : Int) := by omega
    have h4 : 0 ≤ (i : Int) := by omega
    have h3 : inI64 (((i + 1 : Nat)) : Int) := by unfold inI64; omega
    have h12 : (i : Int) + 1 = ((i + 1 : Nat) : Int) := by omega
    rw [res_eq, dropD 0 hi, dropD 0 hj]
    by_cases hz : a.getD i 0 = b.getD i 0
    · have h5 : (a.getD i 0 != b.getD i 0) = false := by rw [hz]; simp
      simp only [B30, sem_br, h1, h2, decide_true, if_true, sem_ask, need_true, PC.holds, h4, Int.toNat_natCast, Nat.mul_one, dI_cel_map, g1, g2, sem_nxt, h5, h12, h3, Bool.false_eq_true, if_false]
      rw [need_of (by simp; omega), need_of (by simp; omega), stepO_nxt, ih (i + 1) (by omega)]
      congr 1
      exact decide_eq_decide.2 ⟨fun e => by rw [hz, e], fun e => (List.cons.inj e).2⟩
    · have h5 : (a.getD i 0 != b.getD i 0) = true := by simpa using hz
      simp only [B30, sem_br, h1, h2, decide_true, if_true, sem_ask, need_true, PC.holds, h4, Int.toNat_natCast, Nat.mul_one, dI_cel_map, g1, g2, sem_ret, h5]
      rw [need_of (by simp; omega), need_of (by simp; omega), stepO_ret]
      congr 1
      exact (decide_eq_false fun e => hz (List.cons.inj e).1).symm
theorem F30_eq (a b : List Int) (hl : a.length ≤ 1000) : F30 a.length (a.map vI) b.length (b.map vI) = some (decide (a = b)) := by
  unfold F30; rw [res_eq]
  by_cases he : a.length = b.length
  · have hb : ((a.length : Int) != (b.length : Int)) = false := by rw [he]; simp
    simp only [B30, sem_br, hb, Bool.false_eq_true, if_false, sem_nxt, stepO_nxt]
    have h := F30_loop a b hl he a.length 0 (by omega)
    rw [List.drop_zero, List.drop_zero] at h
    exact h
  · have hb : ((a.length : Int) != (b.length : Int)) = true := by rw [bne_iff_ne]; omega
    simp only [B30, sem_br, hb, if_true, sem_ret, stepO_ret]
    congr 1
    exact (decide_eq_false fun e => he (by rw [e])).symm

def dgs (x : Int) : List UInt8 := Lib.decDigits x.toNat
theorem F113_loop (l : List Int) (hl : l.length ≤ 300) (hb : ∀ x ∈ l, 0 ≤ x ∧ x ≤ 999999) : ∀ (k i : Nat), l.length = i + k → 0 < i →
    res B113 (.c2 (i - 1) i ((l.take i).map fun x => sD (dgs x)) l.length (l.map vI) (l.length : Int) (i : Int) (i - 1)) = some (l.length, (l.map fun x => sD (dgs x))) := by
  intro k
  induction k with
  | zero =>
    intro i hk h0
    rw [res_eq, List.take_of_length_le (by omega)]
    have h1 : ¬ ((i : Int) < (l.length : Int)) := by omega
    have h2 : i = l.length := by omega
    simp only [B113, sem_br, sem_ret, h1, decide_false, Bool.false_eq_true, if_false, stepO_ret]
    rw [h2]
  | succ k IH =>
    intro i hk h0
    have hi : i < l.length := by omega
    have h1 : (i : Int) < (l.length : Int) := by omega
    have hin : inI64 ((i : Int) + 1) := by unfold inI64; omega
    have ih := IH (i + 1) (by omega) (by omega)
    have hf : fitsN (i + 1) 16 := ⟨by omega, by omega⟩
    have hx := hb (l.getD i 0) (by rw [List.getD_eq_getElem?_getD, List.getElem?_eq_getElem hi]; exact List.getElem_mem hi)
    have h114 : F114 (l.getD i 0) = some (ba (dgs (l.getD i 0))) := by
      have := F114_eq (n := (l.getD i 0).toNat) (by omega)
      rw [Int.toNat_of_nonneg hx.1] at this
      exact this
    have hle : (i : Nat) ≤ (l.map vI).length := by simp; omega
    rw [res_eq]
    simp only [B113, sem_br, sem_ask, sem_ret, sem_nxt, PC.holds, need_true, Int.toNat_natCast, Nat.mul_one, dI_cel_map, at_map hi, h1, hin, decide_true, if_true, Int.natCast_nonneg, hle, h114, sem_bind_some, sem_sees, hf, stepO_nxt]
    have e : (l.take (i + 1)).map (fun x => sD (dgs x)) = (l.take i).map (fun x => sD (dgs x)) ++ [sD (dgs (l.getD i 0))] := by
      rw [List.take_succ, List.map_append, List.getElem?_eq_getElem hi]
      simp [List.getD_eq_getElem?_getD, hi]
    rw [e] at ih
    rw [show ((i : Int) + 1) = ((i + 1 : Nat) : Int) by omega, show i - 1 + 1 = i by omega]
    exact ih
theorem F113_eq (l : List Int) (hl : l.length ≤ 300) (h0 : 0 < l.length) (hb : ∀ x ∈ l, 0 ≤ x ∧ x ≤ 999999) : F113 l.length (l.map vI) = some (l.length, l.map fun x => sD (dgs x)) := by
  unfold F113; rw [res_eq]
  simp only [B113, sem_nxt, stepO_nxt]
  rw [res_eq]
  have h1 : (0 : Int) < (l.length : Int) := by omega
  have hin : inI64 ((0 : Int) + 1) := by unfold inI64; omega
  have ha := at_map h0
  have hx := hb (l.getD 0 0) (by rw [List.getD_eq_getElem?_getD, List.getElem?_eq_getElem h0]; exact List.getElem_mem h0)
  have h114 : F114 (l.getD 0 0) = some (ba (dgs (l.getD 0 0))) := by
    have := F114_eq (n := (l.getD 0 0).toNat) (by omega)
    rw [Int.toNat_of_nonneg hx.1] at this
    exact this
  have hle : (0 : Nat) ≤ (l.map vI).length := Nat.zero_le _
  simp only [B113, sem_br, sem_ask, sem_ret, sem_nxt, PC.holds, need_true, show (0 : Int).toNat = 0 from rfl, Nat.zero_mul, dI_cel_map, ha, h1, hin, decide_true, if_true, Int.le_refl, hle, h114, sem_bind_some, sem_sees, stepO_nxt]
  have hh := F113_loop l hl hb (l.length - 1) 1 (by omega) (by omega)
  have e : (l.take 1).map (fun x => sD (dgs x)) = [sD (dgs (l.getD 0 0))] := by
    match l, h0 with
    | x :: l, _ => rfl
  rw [e] at hh
  exact hh
/-- The words of a line, each behind a blank. -/
def wds (l : List Int) : List UInt8 := l.flatMap fun x => 32 :: dgs x
theorem join_wds (w : List UInt8) (l : List Int) : Lib.join (w :: l.map dgs) [32] = w ++ wds l := by
  rw [Lib.join_cons]
  congr 1
  induction l with
  | nil => rfl
  | cons x l ih => simp only [List.map_cons, wds, List.flatMap_cons]; rw [← wds, ← ih]; rfl
theorem dd_lt (k : Nat) : ∀ n, n < 10 ^ (k + 1) → (Lib.decDigits n).length ≤ k + 1 := by
  induction k with
  | zero =>
    intro n h
    rw [Lib.decDigits_one (by simpa using h)]; simp
  | succ k ih =>
    intro n h
    rw [Lib.decDigits]
    split
    · simp
    · have := ih (n / 10) (by rw [Nat.div_lt_iff_lt_mul (by decide)]; rw [Nat.pow_succ] at h; exact h)
      simp only [List.length_append, List.length_cons, List.length_nil]
      omega
theorem dgs_len {x : Int} (h : 0 ≤ x ∧ x ≤ 99) : (dgs x).length ≤ 2 := dd_lt 1 _ (by omega)
theorem wds_len : ∀ {l : List Int}, (∀ x ∈ l, 0 ≤ x ∧ x ≤ 99) → (wds l).length ≤ 3 * l.length
  | [], _ => by simp [wds]
  | x :: l, h => by
    have := wds_len (l := l) (fun y hy => h y (by simp [hy]))
    have h2 := dgs_len (h x (by simp))
    simp only [wds, List.flatMap_cons, List.length_append, List.length_cons] at this ⊢
    omega
end Go.Kv
namespace Go.Kv
open Go Go.RowKit
set_option maxRecDepth 100000
theorem strs_sD (ws : List (List UInt8)) : strsOf (ws.map sD) = ws.map ba := by
  unfold strsOf
  rw [List.map_map]
  rfl
theorem F112_eq (ws : List (List UInt8)) (h : ws.length ≤ 1000) (hj : (Lib.join ws [32]).length ≤ 100000) : F112 ws.length (ws.map sD) (ByteArray.mk #[32]) = some (ba (Lib.join ws [32])) := by
  have e1 : ((ws.map ba).map (·.data.toList)) = ws := by
    rw [List.map_map]
    have : ((fun (x : ByteArray) => x.data.toList) ∘ ba) = id := by funext w; exact ba_data w
    rw [this, List.map_id]
  unfold F112
  rw [if_pos]
  · rw [strs_sD]
    unfold joinB
    rw [e1]; rfl
  · refine ⟨by simp, ?_, by simpa using h, ?_⟩
    · rw [strs_sD, List.map_map]; rfl
    · rw [strs_sD, e1]; exact hj
def textL (n k : Int) (l : List Int) : List UInt8 := [119, 111, 114, 100] ++ wds (n :: k :: l) ++ [10]
theorem okS_mem {l : List Int} (h : okS l) : ∀ x ∈ l, 0 ≤ x ∧ x ≤ 99 := fun x hx => by have := h x hx; omega
theorem bnd_of {n k : Int} {l : List Int} (h : listI n k l = 0) : ((2 ≤ n ∧ n ≤ 16) ∧ (1 ≤ k ∧ k ≤ 8)) ∧ (l.length : Int) = n ∧ (∀ x ∈ n :: k :: l, 0 ≤ x ∧ x ≤ 99) := by
  obtain ⟨h1, h2, h3⟩ := listI_zero.1 h
  obtain ⟨g1, g2, _⟩ := codeI_zero.1 h1
  refine ⟨⟨g1, g2⟩, h2, ?_⟩
  intro x hx
  simp only [List.mem_cons] at hx
  rcases hx with rfl | rfl | hx
  · omega
  · omega
  · exact okS_mem h3 x hx
theorem F74_bad {n k : Int} {l : List Int} (hl : l.length ≤ 300) (h : listI n k l ≠ 0) : F74 n k l.length (l.map vI) = some (ba [], listI n k l) := by
  unfold F74; rw [res_eq]
  have hb : (listI n k l != 0) = true := bne_iff_ne.2 h
  simp only [B74, F29_eq n k l hl, sem_bind_some, sem_sees, sem_br, hb, if_true, sem_ret, stepO_ret]; rfl
theorem F74_ok {n k : Int} {l : List Int} (hl : l.length ≤ 300) (h : listI n k l = 0) : F74 n k l.length (l.map vI) = some (ba (textL n k l), 0) := by
  obtain ⟨hnk, hln, hb⟩ := bnd_of h
  have hl16 : l.length ≤ 16 := by omega
  unfold F74; rw [res_eq]
  have hb0 : (listI n k l != 0) = false := by rw [h]; rfl
  have h1 : l.length.beq 0 = false := by
    cases hl0 : l.length with
    | zero => omega
    | succ m => rfl
  have h2 : (2 + l.length).beq 0 = false := by rw [show 2 + l.length = l.length + 1 + 1 by omega]; rfl
  have hf1 : fitsN (2 + l.length) 8 := ⟨by omega, by omega⟩
  have hf2 : fitsN (1 + (2 + l.length)) 16 := ⟨by omega, by omega⟩
  have h113 : F113 (2 + l.length) ([vI n, vI k] ++ l.map vI) = some (2 + l.length, (n :: k :: l).map fun x => sD (dgs x)) := by
    have := F113_eq (n :: k :: l) (by simp; omega) (by simp) (fun x hx => by have := hb x hx; omega)
    rw [show (n :: k :: l).length = 2 + l.length by simp; omega] at this
    exact this
  have hw := wds_len hb
  have h112 : F112 (1 + (2 + l.length)) ([DV.v (Value.string (ByteArray.mk #[119, 111, 114, 100]))] ++ (n :: k :: l).map fun x => sD (dgs x)) (ByteArray.mk #[32]) = some (ba ([119, 111, 114, 100] ++ wds (n :: k :: l))) := by
    have e := join_wds [119, 111, 114, 100] (n :: k :: l)
    have := F112_eq ([119, 111, 114, 100] :: (n :: k :: l).map dgs) (by simp; omega) (by rw [e]; simp only [List.length_append, List.length_cons, List.length_nil] at hw ⊢; omega)
    rw [e, show ([119, 111, 114, 100] :: (n :: k :: l).map dgs).length = 1 + (2 + l.length) by simp; omega] at this
    rw [List.map_cons, List.map_map] at this
    exact this
  have hm : (l.map vI).length = l.length * 1 := by simp
  have h0l : 0 < l.length := by omega
  have h02 : 0 < 2 + l.length := by omega
  have hm2 : ((n :: k :: l).map fun x => sD (dgs x)).length = (2 + l.length) * 1 := by simp; omega
  have hsz : (((ba ([119, 111, 114, 100] ++ wds (n :: k :: l))).size + 1 : Nat) : Int) ≤ 9223372036854775807 := by
    rw [ba_size]
    simp only [List.length_append, List.length_cons, List.length_nil] at hw ⊢
    omega
  simp only [B74, F29_eq n k l hl, sem_bind_some, sem_sees, sem_br, hb0, h1, h2, Bool.false_eq_true, if_false, sem_ask, PC.holds, need_true, h0l, h02, hm, hm2, hf1, hf2, h113, h112, hsz, sem_ret, stepO_ret]
  have e : ba ([119, 111, 114, 100] ++ wds (n :: k :: l)) ++ ByteArray.mk #[10] = ba (textL n k l) := ba_app _ [10]
  rw [e]
theorem F119_dgs {x : Int} (h : 0 ≤ x ∧ x ≤ 99) : F119 x = some (ba (dgs x)) := by
  have := F119_eq (n := x.toNat) (by omega)
  rw [Int.toNat_of_nonneg h.1] at this
  exact this
theorem F76_loop (l : List Int) (hl : l.length ≤ 16) (hb : ∀ x ∈ l, 0 ≤ x ∧ x ≤ 99) : ∀ (k i : Nat) (acc : List UInt8), l.length = i + k → acc.length ≤ 100 + 10 * i → res B76 (.c1 l.length (l.map vI) (ba acc) (i : Int)) = some (ba (acc ++ wds (l.drop i) ++ [10])) := by
  intro k
  induction k with
  | zero =>
    intro i acc hk ha
    rw [res_eq, List.drop_eq_nil_of_le (by omega)]
    have h1 : ¬ ((i : Int) < (l.length : Int)) := by omega
    have hs : (((ba acc).size + 1 : Nat) : Int) ≤ 9223372036854775807 := by rw [ba_size]; omega
    simp only [B76, sem_br, sem_ask, PC.holds, need_true, hs, sem_ret, h1, decide_false, Bool.false_eq_true, if_false, stepO_ret]
    rw [show ByteArray.mk #[10] = ba [10] from rfl, ba_app]
    simp [wds]
  | succ k IH =>
    intro i acc hk ha
    have hi : i < l.length := by omega
    have h1 : (i : Int) < (l.length : Int) := by omega
    have hin : inI64 ((i : Int) + 1) := by unfold inI64; omega
    have hx := hb (l.getD i 0) (by rw [List.getD_eq_getElem?_getD, List.getElem?_eq_getElem hi]; exact List.getElem_mem hi)
    have hd := dgs_len hx
    have hs : (((ba acc).size + 1 : Nat) : Int) ≤ 9223372036854775807 := by rw [ba_size]; omega
    have e1 : ba acc ++ ByteArray.mk #[32] = ba (acc ++ [32]) := by rw [show ByteArray.mk #[32] = ba [32] from rfl, ba_app]
    have hs2 : (((ba (acc ++ [32])).size + (ba (dgs (l.getD i 0))).size : Nat) : Int) ≤ 9223372036854775807 := by rw [ba_size, ba_size]; simp only [List.length_append, List.length_cons, List.length_nil]; omega
    have hle : (i : Nat) ≤ (l.map vI).length := by simp; omega
    rw [res_eq]
    simp only [B76, sem_br, sem_ask, sem_nxt, PC.holds, need_true, Int.toNat_natCast, Nat.mul_one, dI_cel_map, at_map hi, h1, hin, decide_true, if_true, Int.natCast_nonneg, hle, hs, e1, hs2, F119_dgs hx, sem_bind_some, sem_sees, stepO_nxt, ba_app]
    have ih := IH (i + 1) (acc ++ [32] ++ dgs (l.getD i 0)) (by omega) (by simp only [List.length_append, List.length_cons, List.length_nil]; omega)
    rw [show ((i : Int) + 1) = ((i + 1 : Nat) : Int) by omega, ih]
    rw [dropD 0 hi]
    simp [wds]
theorem F76_ok {n k : Int} {l : List Int} (h : listI n k l = 0) : F76 n k l.length (l.map vI) = some (ba (textL n k l)) := by
  obtain ⟨hnk, hln, hb⟩ := bnd_of h
  have hl16 : l.length ≤ 16 := by omega
  have hbn := hb n (by simp)
  have hbk := hb k (by simp)
  have hdn := dgs_len hbn
  have hdk := dgs_len hbk
  unfold F76; rw [res_eq]
  have e5 : ByteArray.mk #[119, 111, 114, 100, 32] = ba [119, 111, 114, 100, 32] := rfl
  have e6 : ByteArray.mk #[32] = ba [32] := rfl
  have h1 : ((5 + (ba (dgs n)).size : Nat) : Int) ≤ 9223372036854775807 := by rw [ba_size]; omega
  have h2 : (((ba ([119, 111, 114, 100, 32] ++ dgs n)).size + 1 : Nat) : Int) ≤ 9223372036854775807 := by rw [ba_size]; simp only [List.length_append, List.length_cons, List.length_nil]; omega
  have h3 : (((ba ([119, 111, 114, 100, 32] ++ dgs n ++ [32])).size + (ba (dgs k)).size : Nat) : Int) ≤ 9223372036854775807 := by rw [ba_size, ba_size]; simp only [List.length_append, List.length_cons, List.length_nil]; omega
  simp only [B76, F119_dgs hbn, F119_dgs hbk, sem_bind_some, sem_sees, sem_ask, PC.holds, need_true, e5, e6, ba_app, h1, h2, h3, sem_nxt, stepO_nxt]
  have := F76_loop l hl16 (fun x hx => hb x (by simp [hx])) l.length 0 ([119, 111, 114, 100, 32] ++ dgs n ++ [32] ++ dgs k) (by omega) (by simp only [List.length_append, List.length_cons, List.length_nil]; omega)
  refine Eq.trans this ?_
  simp [textL, wds]
end Go.Kv
namespace Go.Kv
open Go Go.RowKit
set_option maxRecDepth 100000
def dv (u : List UInt8) : Int := (dvL u 0 : Int)
def badP (e : Int) : Int × Int × Nat × List DV × Int := (0, 0, 0, [], e)
def resP (n k : Int) (l : List Int) : Int × Int × Nat × List DV × Int := if listI n k l = 0 then (n, k, l.length, l.map vI, 0) else badP (listI n k l)
def finP (a : List Int) : Int × Int × Nat × List DV × Int := resP (a.getD 0 0) (a.getD 1 0) (a.drop 2)
def wordL : List UInt8 := [119, 111, 114, 100]
def lineP (w : List (List UInt8)) : Int × Int × Nat × List DV × Int := if w.length < 3 ∨ w.getD 0 [] ≠ wordL ∨ (w.drop 1).all okD = false then badP 25 else finP ((w.drop 1).map dv)
def textP (L : List UInt8) : Int × Int × Nat × List DV × Int :=
  if L.length > 4096 then badP 26 else
  if (spl 10 [] L).length ≠ 2 ∨ (spl 10 [] L).getD 1 [] ≠ [] then badP 25 else lineP (spl 32 [] ((spl 10 [] L).getD 0 []))
theorem cel_sD {w : List (List UInt8)} {i : Nat} (h : i < w.length) : dS (cel (w.map sD) i) = ba (w.getD i []) := by
  unfold cel
  simp [List.getD_eq_getElem?_getD, h, sD, dS]
theorem at_sD {w : List (List UInt8)} {i : Nat} (h : i < w.length) : Option.map AV.d (List.drop i (w.map sD))[0]? = some (AV.d (DV.v (Value.string (ba (w.getD i []))))) := by
  simp [List.getElem?_drop, List.getElem?_map, List.getD_eq_getElem?_getD, h, sD]
theorem F121_ba (u : List UInt8) : F121 (ba u) = some (if okD u = true then (dv u, true) else (0, false)) := by
  rw [F121_eq, ba_data]; rfl
theorem spl_mem_le {c : UInt8} : ∀ (l cur u : List UInt8), u ∈ spl c cur l → u.length ≤ cur.length + l.length
  | [], cur, u, h => by
    simp only [spl, List.mem_singleton] at h
    subst h; simp
  | b :: l, cur, u, h => by
    rw [spl] at h
    split at h
    · rcases List.mem_cons.1 h with rfl | h
      · simp
      · have := spl_mem_le l [] u h
        simp only [List.length_nil, List.length_cons] at this ⊢; omega
    · have := spl_mem_le l (cur ++ [b]) u h
      simp only [List.length_append, List.length_cons, List.length_nil] at this ⊢; omega
theorem spl_get_le {c : UInt8} (l : List UInt8) (i : Nat) : ((spl c [] l).getD i []).length ≤ l.length := by
  rw [List.getD_eq_getElem?_getD]
  cases h : (spl c [] l)[i]? with
  | none => simp
  | some u =>
    have := spl_mem_le l [] u (List.mem_of_getElem? h)
    simpa using this
theorem F77_loop (w : List (List UInt8)) (h3 : 3 ≤ w.length) (hm : w.length ≤ 300) : ∀ (k i : Nat) (acc : List Int), w.length = i + k → 2 ≤ i → acc.length = i - 1 →
    res B77 (.c2 w.length (w.map sD) (i - 2) (i - 1) (acc.map vI) (i : Int) (i - 2)) = some (if (w.drop i).all okD = true then finP (acc ++ (w.drop i).map dv) else badP 25) := by
  intro k
  induction k with
  | zero =>
    intro i acc hk h2 ha
    have h1 : ¬ ((i : Int) < (w.length : Int)) := by omega
    rw [res_eq, List.drop_eq_nil_of_le (by omega)]
    have g0 := at_map (l := acc) (i := 0) (by omega)
    have g1 := at_map (l := acc) (i := 1) (by omega)
    have l0 : (0 : Int) < ((i - 1 : Nat) : Int) := by omega
    have l1 : (1 : Int) < ((i - 1 : Nat) : Int) := by omega
    have l2 : (2 : Int) ≤ ((i - 1 : Nat) : Int) := by omega
    have m0 : 0 ≤ (acc.map vI).length := Nat.zero_le _
    have m1 : 1 ≤ (acc.map vI).length := by simp; omega
    have hF : F21 (acc.getD 0 0) (acc.getD 1 0) (i - 1 - 2) (List.drop 2 (acc.map vI)) = some (listI (acc.getD 0 0) (acc.getD 1 0) (acc.drop 2)) := by
      have := F21_eq (acc.getD 0 0) (acc.getD 1 0) (acc.drop 2) (by simp; omega)
      rw [List.length_drop, ha] at this
      rw [← List.map_drop]; exact this
    simp only [B77, sem_br, h1, decide_false, Bool.false_eq_true, if_false, sem_ask, PC.holds, need_true, l0, l1, l2, m0, m1, dI_cel_map, g0, g1, hF, sem_bind_some, sem_sees]
    rw [List.map_nil, List.append_nil, List.all_nil, if_pos rfl]
    unfold finP resP
    by_cases hz : listI (acc.getD 0 0) (acc.getD 1 0) (acc.drop 2) = 0
    · have hb : (listI (acc.getD 0 0) (acc.getD 1 0) (acc.drop 2) != 0) = false := by rw [hz]; rfl
      simp only [hb, Bool.false_eq_true, if_false, sem_ret, stepO_ret, if_pos hz]
      rw [List.length_drop, ha, List.map_drop]
    · have hb : (listI (acc.getD 0 0) (acc.getD 1 0) (acc.drop 2) != 0) = true := bne_iff_ne.2 hz
      simp only [hb, if_true, sem_ret, stepO_ret, if_neg hz]; rfl
  | succ k IH =>
    intro i acc hk h2 ha
    have hi : i < w.length := by omega
    have h1 : (i : Int) < (w.length : Int) := by omega
    have hin : inI64 ((i : Int) + 1) := by unfold inI64; omega
    have hf : fitsN (i - 1 + 1) 8 := ⟨by omega, by omega⟩
    have hle : (i : Nat) ≤ (w.map sD).length := by simp; omega
    rw [res_eq, dropD [] hi]
    simp only [B77, sem_br, h1, decide_true, if_true, sem_ask, PC.holds, need_true, Int.natCast_nonneg, Int.toNat_natCast, Nat.mul_one, cel_sD hi, at_sD hi, hle, F121_ba, sem_bind_some, sem_sees, sem_ret, sem_nxt, hin, hf]
    by_cases hok : okD (w.getD i []) = true
    · simp only [hok, if_true, Bool.not_true, Bool.false_eq_true, if_false, stepO_nxt, List.all_cons, Bool.true_and, List.map_cons]
      have ih := IH (i + 1) (acc ++ [dv (w.getD i [])]) (by omega) (by omega) (by simp; omega)
      rw [show ((i : Int) + 1) = ((i + 1 : Nat) : Int) by omega, show i - 2 + 1 = i + 1 - 2 by omega, show i - 1 + 1 = i + 1 - 1 by omega]
      rw [List.map_append, List.map_cons, List.map_nil] at ih
      rw [show acc ++ dv (w.getD i []) :: List.map dv (List.drop (i + 1) w) = acc ++ [dv (w.getD i [])] ++ List.map dv (List.drop (i + 1) w) by simp]
      exact ih
    · have hok' : okD (w.getD i []) = false := by simpa using hok
      simp only [hok', Bool.false_eq_true, if_false, Bool.not_false, if_true, stepO_ret, List.all_cons, Bool.false_and]; rfl
theorem F77_eq (s : ByteArray) (hs : s.size ≤ 200 ∨ s.size > 4096) (h5 : s.size ≤ 5000) : F77 s = some (textP s.data.toList) := by
  have hsz : s.data.toList.length = s.size := by simp
  unfold F77; rw [res_eq]
  by_cases hb : s.size > 4096
  · have h1 : (s.size : Int) > 4096 := by omega
    have hT : textP s.data.toList = badP 26 := by unfold textP; rw [if_pos (by omega)]
    rw [hT]
    simp only [B77, sem_br, h1, decide_true, if_true, sem_ret, stepO_ret]; rfl
  · have h1 : ¬ ((s.size : Int) > 4096) := by omega
    have hF : F120 s 10 = some ((spl 10 [] s.data.toList).length, (spl 10 [] s.data.toList).map sD) := F120_eq s 10 h5
    have hT0 : textP s.data.toList = if (spl 10 [] s.data.toList).length ≠ 2 ∨ (spl 10 [] s.data.toList).getD 1 [] ≠ [] then badP 25 else lineP (spl 32 [] ((spl 10 [] s.data.toList).getD 0 [])) := by
      unfold textP; rw [if_neg (by omega)]
    have hsplen : ((spl 10 [] s.data.toList).getD 0 []).length ≤ s.data.toList.length := spl_get_le _ _
    rw [hT0]
    clear hT0
    simp only [B77, sem_br, h1, decide_false, Bool.false_eq_true, if_false, hF, sem_bind_some, sem_sees]
    generalize spl 10 [] s.data.toList = ls at hsplen ⊢
    by_cases h2 : ls.length = 2
    · have hn : ((ls.length : Int) != 2) = false := by rw [h2]; rfl
      have l1 : (1 : Int) < (ls.length : Int) := by omega
      have l0 : (0 : Int) < (ls.length : Int) := by omega
      have m1 : 1 ≤ (ls.map sD).length := by simp; omega
      have m0 : 0 ≤ (ls.map sD).length := Nat.zero_le _
      have g1 := at_sD (w := ls) (i := 1) (by omega)
      have g0 := at_sD (w := ls) (i := 0) (by omega)
      have c1 := cel_sD (w := ls) (i := 1) (by omega)
      have c0 := cel_sD (w := ls) (i := 0) (by omega)
      have e0 : ByteArray.mk #[] = ba [] := rfl
      by_cases he : ls.getD 1 [] = []
      · have hd : (!decide (ls.getD 1 [] = [])) = false := by rw [decide_eq_true he]; rfl
        have hF2 : F120 (ba (ls.getD 0 [])) 32 = some ((spl 32 [] (ls.getD 0 [])).length, (spl 32 [] (ls.getD 0 [])).map sD) := by
          have := F120_eq (ba (ls.getD 0 [])) 32 (by rw [ba_size]; omega)
          rw [ba_data] at this
          exact this
        have hwl := spl_length (c := 32) (ls.getD 0 []) []
        have hR : (if ls.length ≠ 2 ∨ ls.getD 1 [] ≠ [] then badP 25 else lineP (spl 32 [] (ls.getD 0 []))) = lineP (spl 32 [] (ls.getD 0 [])) := if_neg (fun hh => hh.elim (fun a => a h2) (fun a => a he))
        rw [hR]
        simp only [hn, Bool.false_eq_true, if_false, sem_ask, PC.holds, need_true, BEq.rfl, l1, m1, g1, c1, e0, eqS_ba, sem_br, hd, l0, m0, g0, c0, hF2, sem_bind_some, sem_sees]
        generalize spl 32 [] (ls.getD 0 []) = w at hwl ⊢
        by_cases h3 : w.length < 3
        · have h3' : (w.length : Int) < 3 := by omega
          have hL : lineP w = badP 25 := if_pos (.inl h3)
          rw [hL]
          simp only [h3', decide_true, if_true, sem_ret, stepO_ret]; rfl
        · have h3' : ¬ ((w.length : Int) < 3) := by omega
          have k0 : (0 : Int) < (w.length : Int) := by omega
          have k1 : (1 : Int) < (w.length : Int) := by omega
          have n0 : 0 ≤ (w.map sD).length := Nat.zero_le _
          have q0 := at_sD (w := w) (i := 0) (by omega)
          have d0 := cel_sD (w := w) (i := 0) (by omega)
          have e1 : ByteArray.mk #[119, 111, 114, 100] = ba wordL := rfl
          by_cases hh : w.getD 0 [] = wordL
          · have hd2 : (!decide (w.getD 0 [] = wordL)) = false := by rw [decide_eq_true hh]; rfl
            simp only [h3', decide_false, Bool.false_eq_true, if_false, BEq.rfl, sem_ask, PC.holds, need_true, k0, n0, q0, d0, e1, eqS_ba, sem_br, hd2, sem_nxt, stepO_nxt]
            rw [res_eq]
            have q1 := at_sD (w := w) (i := 1) (by omega)
            have d1 := cel_sD (w := w) (i := 1) (by omega)
            have n1 : 1 ≤ (w.map sD).length := by simp; omega
            have hin : inI64 ((1 : Int) + 1) := by unfold inI64; omega
            have hdr : w.drop 1 = w.getD 1 [] :: w.drop 2 := dropD [] (by omega)
            have hL : lineP w = if (w.drop 1).all okD = false then badP 25 else finP ((w.drop 1).map dv) := by
              unfold lineP
              by_cases hx : (w.drop 1).all okD = false
              · rw [if_pos hx, if_pos (.inr (.inr hx))]
              · rw [if_neg hx, if_neg (fun hz => hz.elim h3 (fun hz => hz.elim (fun a => a hh) hx))]
            rw [hL, hdr]
            by_cases hok : okD (w.getD 1 []) = true
            · simp only [B77, sem_br, k1, decide_true, sem_ask, PC.holds, need_true, show (0 : Int) ≤ 1 by omega, show (1 : Int).toNat = 1 from rfl, Nat.mul_one, n1, q1, d1, BEq.rfl, F121_ba, sem_bind_some, sem_sees, sem_ret, sem_nxt, hin, hok, if_true, Bool.not_true, Bool.false_eq_true, if_false, stepO_nxt, List.all_cons, Bool.true_and, List.map_cons]
              have := F77_loop w (by omega) (by omega) (w.length - 2) 2 [dv (w.getD 1 [])] (by omega) (by omega) rfl
              refine Eq.trans this ?_
              by_cases ha : (w.drop 2).all okD = true
              · rw [if_pos ha, if_neg (by rw [ha]; decide)]; rfl
              · have ha' : (w.drop 2).all okD = false := by simpa using ha
                rw [if_neg ha, if_pos ha']
            · have hok' : okD (w.getD 1 []) = false := by simpa using hok
              simp only [B77, sem_br, k1, decide_true, sem_ask, PC.holds, need_true, show (0 : Int) ≤ 1 by omega, show (1 : Int).toNat = 1 from rfl, Nat.mul_one, n1, q1, d1, BEq.rfl, F121_ba, sem_bind_some, sem_sees, sem_ret, sem_nxt, hok', Bool.false_eq_true, if_false, Bool.not_false, if_true, stepO_ret, List.all_cons, Bool.false_and]; rfl
          · have hd2 : (!decide (w.getD 0 [] = wordL)) = true := by rw [decide_eq_false hh]; rfl
            have hL : lineP w = badP 25 := if_pos (.inr (.inl hh))
            rw [hL]
            simp only [h3', decide_false, Bool.false_eq_true, if_false, BEq.rfl, sem_ask, PC.holds, need_true, k0, n0, q0, d0, e1, eqS_ba, sem_br, hd2, if_true, sem_ret, stepO_ret]; rfl
      · have hd : (!decide (ls.getD 1 [] = [])) = true := by rw [decide_eq_false he]; rfl
        have hR : (if ls.length ≠ 2 ∨ ls.getD 1 [] ≠ [] then badP 25 else lineP (spl 32 [] (ls.getD 0 []))) = badP 25 := if_pos (.inr he)
        rw [hR]
        simp only [hn, Bool.false_eq_true, if_false, sem_ask, PC.holds, need_true, BEq.rfl, l1, m1, g1, c1, e0, eqS_ba, sem_br, hd, if_true, sem_ret, stepO_ret]; rfl
    · have hn : ((ls.length : Int) != 2) = true := by rw [bne_iff_ne]; omega
      have hR : (if ls.length ≠ 2 ∨ ls.getD 1 [] ≠ [] then badP 25 else lineP (spl 32 [] (ls.getD 0 []))) = badP 25 := if_pos (.inl h2)
      rw [hR]
      simp only [hn, if_true, sem_ret, stepO_ret]; rfl
end Go.Kv
