/- A text's list, by the program. -/
import Derived.Test.YtdelimpnnpifpaaGreatDoorKTa
set_option linter.all false
namespace Go.Kv
open Go Go.RowKit
set_option maxRecDepth 100000
def bA (w : Bool) (u : List UInt8) : Bool := w || decide (u = []) || decide (u.length > 9)
def bad0 (w : Bool) (u : List UInt8) : Bool := bA w u || (decide (u.length > 1) && decide (u.getD 0 0 = 48))
theorem okD_bad0 (u : List UInt8) : okD u = (!bad0 false u && u.all isD) := by
  unfold okD bad0 bA hdD
  cases u with
  | nil => rfl
  | cons b u =>
    have e1 : (decide (b :: u = [])) = false := rfl
    simp only [e1, Bool.false_or, List.isEmpty_cons, Bool.not_false, Bool.true_and, List.getD_cons_zero]
    by_cases h9 : (b :: u).length ≤ 9
    · have h9' : ¬ ((b :: u).length > 9) := by omega
      rw [decide_eq_true h9, decide_eq_false h9']
      simp only [Bool.and_true, Bool.false_or]
      by_cases hb : b = 48
      · subst hb
        cases u with
        | nil => simp
        | cons c u => simp
      · have : (b != 48) = true := by simpa using hb
        simp [this, hb]
    · have h9' : (b :: u).length > 9 := by omega
      rw [decide_eq_false h9, decide_eq_true h9']
      simp
theorem num_run {α : Type} (u : List UInt8) (w : Bool) (R E : Bool → Int → Nat → α)
    (hok : ∀ (acc i : Nat), i < (ba u).size → acc ≤ 1000000000 → isD ((ba u).data.toList.getD i 0) = true → R false (acc : Int) i = R false ((10 * acc + bt (ba u) i % 48 : Nat) : Int) (i + 1))
    (hbad : ∀ (f : Bool) (acc i : Nat), i < (ba u).size → (f = true ∨ isD ((ba u).data.toList.getD i 0) = false) → ∃ q, R f (acc : Int) i = E true (acc : Int) q)
    (hend : ∀ (f : Bool) (acc i : Nat), (ba u).size ≤ i → R f (acc : Int) i = E f (acc : Int) i) :
    ∃ (y : Int) (q : Nat), R (bad0 w u) 0 0 = E (w || !okD u) y q ∧ (w = false → okD u = true → y = dv u) := by
  by_cases hb : bad0 w u = true
  · have hw : (w || !okD u) = true := by
      cases w with
      | true => rfl
      | false => rw [okD_bad0, hb]; rfl
    have key : ∃ q, R true ((0 : Nat) : Int) 0 = E true ((0 : Nat) : Int) q := by
      by_cases hs : (ba u).size ≤ 0
      · exact ⟨0, hend true 0 0 hs⟩
      · exact hbad true 0 0 (by omega) (.inl rfl)
    obtain ⟨q, hq⟩ := key
    refine ⟨0, q, by rw [hb, hw]; exact hq, ?_⟩
    intro h1 h2
    rw [h1, h2] at hw
    cases hw
  · have hb : bad0 w u = false := by simpa using hb
    have hw : w = false := by
      cases w with
      | false => rfl
      | true => exact absurd hb (by unfold bad0 bA; simp)
    subst hw
    have h9 : (ba u).size ≤ 9 := by
      rw [ba_size]
      unfold bad0 bA at hb
      simp only [Bool.or_eq_false_iff, decide_eq_false_iff_not] at hb
      omega
    have hoku : okD u = u.all isD := by rw [okD_bad0, hb]; rfl
    have run : ∀ (k i acc : Nat), (ba u).size = i + k → acc < 10 ^ i → ∃ (y : Int) (q : Nat), R false (acc : Int) i = E (!((ba u).data.toList.drop i).all isD) y q ∧ (((ba u).data.toList.drop i).all isD = true → y = (dvL ((ba u).data.toList.drop i) acc : Int)) := by
      intro k
      induction k with
      | zero =>
        intro i acc hk ha
        rw [List.drop_eq_nil_of_le (by simp; omega)]
        exact ⟨acc, i, hend false acc i (by omega), fun _ => rfl⟩
      | succ k ih =>
        intro i acc hk ha
        have hi : i < (ba u).size := by omega
        have hp := pow9 (k := i) (by omega)
        rw [drop_bt hi, List.all_cons]
        by_cases hD : isD ((ba u).data.toList.getD i 0) = true
        · have hlt : bt (ba u) i % 48 < 10 := by
            unfold isD at hD
            have : ((ba u).data.toList.getD i 0).toNat = bt (ba u) i := rfl
            simp only [this, Bool.and_eq_true, decide_eq_true_eq] at hD
            omega
          obtain ⟨y, q, h1, h2⟩ := ih (i + 1) (10 * acc + bt (ba u) i % 48) (by omega) (by rw [Nat.pow_succ]; omega)
          rw [hD, Bool.true_and, hok acc i hi (by omega) hD]
          exact ⟨y, q, h1, h2⟩
        · have hD : isD ((ba u).data.toList.getD i 0) = false := by simpa using hD
          obtain ⟨q, hq⟩ := hbad false acc i hi (.inr hD)
          rw [hD, Bool.false_and]
          exact ⟨acc, q, hq, fun h => nomatch h⟩
    obtain ⟨y, q, h1, h2⟩ := run (ba u).size 0 0 (by omega) (by decide)
    rw [List.drop_zero, ba_data] at h1 h2
    rw [hb]
    refine ⟨y, q, by rw [hoku]; exact h1, ?_⟩
    intro _ h
    rw [hoku] at h
    exact h2 h
theorem hor_bad (s : ByteArray) (f : Bool) (i : Nat) (hi : i < s.size) (hD : f = true ∨ isD (s.data.toList.getD i 0) = false) :
    (if (if f = true then true else decide (((Utf8.decode s i).1 : Int) < 48)) = true then true else decide (((Utf8.decode s i).1 : Int) > 57)) = true := by
  rcases hD with rfl | hD
  · simp
  · unfold isD at hD
    have hbt : (s.data.toList.getD i 0).toNat = bt s i := rfl
    rw [hbt, Bool.and_eq_false_iff] at hD
    simp only [decide_eq_false_iff_not] at hD
    by_cases h8 : bt s i < 128
    · rw [dec_lo hi h8]
      by_cases l1 : (bt s i : Int) < 48
      · simp [l1]
      · have l2 : (bt s i : Int) > 57 := by omega
        simp [l2]
    · have := dec_hi hi h8
      have l2 : ((Utf8.decode s i).1 : Int) > 57 := by omega
      simp [l2]
theorem hA_eq (f : Bool) (u : List UInt8) : (if (if f = true then true else eqS (ba u) (ByteArray.mk #[])) = true then true else decide (((ba u).size : Int) > 9)) = bA f u := by
  rw [show ByteArray.mk #[] = ba [] from rfl, eqS_ba, ba_size]
  unfold bA
  have : decide ((u.length : Int) > 9) = decide (u.length > 9) := decide_eq_decide.2 (by omega)
  rw [this]
  cases f <;> cases decide (u = []) <;> simp
theorem h1_eq (u : List UInt8) : decide (((ba u).size : Int) > 1) = decide (u.length > 1) := by
  rw [ba_size]; exact decide_eq_decide.2 (by omega)
theorem h0_eq (u : List UInt8) : ((((ba u).data.toList.getD 0 0).toNat : Int) == 48) = decide (u.getD 0 0 = 48) := by
  rw [ba_data]
  exact beq_byte (u.getD 0 0) 48
theorem c4_ok (e : Bool) (N : Nat) (ws : List DV) (T i0 : Int) (m : Nat) (rest : List DV) (n1 n2 : Int) (s : ByteArray) (acc i : Nat) (hi : i < s.size) (ha : acc ≤ 1000000000) (hD : isD (s.data.toList.getD i 0) = true) :
    res B75 (.c4 (acc : Int) e N ws T i0 m rest false n1 n2 s i) = res B75 (.c4 ((10 * acc + bt s i % 48 : Nat) : Int) e N ws T i0 m rest false n1 n2 s (i + 1)) := by
  have h1 : i.blt s.size = true := by rw [Nat.blt_eq]; exact hi
  unfold isD at hD
  have hbt : (s.data.toList.getD i 0).toNat = bt s i := rfl
  simp only [hbt, Bool.and_eq_true, decide_eq_true_eq] at hD
  have l1 : ¬ ((bt s i : Int) < 48) := by omega
  have l2 : ¬ ((bt s i : Int) > 57) := by omega
  have w1 : IntKind.i32.wrap ((bt s i : Int) - 48) = ((bt s i % 48 : Nat) : Int) := by rw [wrap32 (by omega)]; omega
  have w2 : IntKind.i64.wrap ((bt s i % 48 : Nat) : Int) = ((bt s i % 48 : Nat) : Int) := wrap64 (by omega)
  have i1 : inI64 (10 * (acc : Int)) := by unfold inI64; omega
  have i2 : inI64 (10 * (acc : Int) + ((bt s i % 48 : Nat) : Int)) := by unfold inI64; omega
  have e3 : 10 * (acc : Int) + ((bt s i % 48 : Nat) : Int) = ((10 * acc + bt s i % 48 : Nat) : Int) := by omega
  rw [res_eq]
  simp only [B75, dec_lo hi (by omega : bt s i < 128), h1, hi, l1, l2, w1, w2, i1, i2, decide_false, Bool.false_eq_true, if_false, sem_br, sem_ask, sem_triv, sem_nxt, PC.holds, need_true, if_true, stepO_nxt]
  rw [e3]
theorem c4_num (e : Bool) (N : Nat) (ws : List DV) (T i0 : Int) (m : Nat) (rest : List DV) (n1 n2 : Int) (hT : inI64 (i0 + 1)) (u : List UInt8) (w : Bool) : ∃ (y : Int) (q : Nat), res B75 (.c4 0 e N ws T i0 m rest (bad0 w u) n1 n2 (ba u) 0) = res B75 (.c7 e N ws 0 1 [vI y] T (i0 + 1) m rest (w || !okD u) n1 n2 (ba u) q 0) ∧ (w = false → okD u = true → y = dv u) := by
  refine num_run u w (fun f acc i => res B75 (.c4 acc e N ws T i0 m rest f n1 n2 (ba u) i)) (fun f acc q => res B75 (.c7 e N ws 0 1 [vI acc] T (i0 + 1) m rest f n1 n2 (ba u) q 0)) (fun acc i hi ha hD => c4_ok _ _ _ _ _ _ _ _ _ _ acc i hi ha hD) ?_ ?_
  · intro f acc i hi hD
    have h1 : i.blt (ba u).size = true := by rw [Nat.blt_eq]; exact hi
    have hor := hor_bad _ f i hi hD
    refine ⟨i + (Utf8.decode (ba u) i).2, ?_⟩
    rw [res_eq]
    simp only [B75, h1, hi, hor, sem_br, sem_ask, sem_triv, sem_nxt, PC.holds, need_true, if_true, stepO_nxt, hT]
  · intro f acc i hi
    have h1 : i.blt (ba u).size = false := by
      rw [Bool.eq_false_iff]; intro h; rw [Nat.blt_eq] at h; omega
    rw [res_eq]
    simp only [B75, h1, hi, Bool.false_eq_true, if_false, sem_br, sem_ask, sem_triv, sem_nxt, PC.holds, need_true, stepO_nxt, hT]
theorem c5_ok (e : Bool) (N : Nat) (ws : List DV) (m : Nat) (rest : List DV) (n1 : Int) (xs : ByteArray) (xi : Nat) (s : ByteArray) (acc i : Nat) (hi : i < s.size) (ha : acc ≤ 1000000000) (hD : isD (s.data.toList.getD i 0) = true) :
    res B75 (.c5 (acc : Int) e N ws m rest false n1 xs xi s i) = res B75 (.c5 ((10 * acc + bt s i % 48 : Nat) : Int) e N ws m rest false n1 xs xi s (i + 1)) := by
  have h1 : i.blt s.size = true := by rw [Nat.blt_eq]; exact hi
  unfold isD at hD
  have hbt : (s.data.toList.getD i 0).toNat = bt s i := rfl
  simp only [hbt, Bool.and_eq_true, decide_eq_true_eq] at hD
  have l1 : ¬ ((bt s i : Int) < 48) := by omega
  have l2 : ¬ ((bt s i : Int) > 57) := by omega
  have w1 : IntKind.i32.wrap ((bt s i : Int) - 48) = ((bt s i % 48 : Nat) : Int) := by rw [wrap32 (by omega)]; omega
  have w2 : IntKind.i64.wrap ((bt s i % 48 : Nat) : Int) = ((bt s i % 48 : Nat) : Int) := wrap64 (by omega)
  have i1 : inI64 (10 * (acc : Int)) := by unfold inI64; omega
  have i2 : inI64 (10 * (acc : Int) + ((bt s i % 48 : Nat) : Int)) := by unfold inI64; omega
  have e3 : 10 * (acc : Int) + ((bt s i % 48 : Nat) : Int) = ((10 * acc + bt s i % 48 : Nat) : Int) := by omega
  rw [res_eq]
  simp only [B75, dec_lo hi (by omega : bt s i < 128), h1, hi, l1, l2, w1, w2, i1, i2, decide_false, Bool.false_eq_true, if_false, sem_br, sem_ask, sem_triv, sem_nxt, PC.holds, need_true, if_true, stepO_nxt]
  rw [e3]
theorem c5_num (e : Bool) (N : Nat) (ws : List DV) (m : Nat) (rest : List DV) (n1 : Int) (xs : ByteArray) (xi : Nat) (u : List UInt8) (w : Bool) : ∃ (y : Int) (q : Nat), res B75 (.c5 0 e N ws m rest (bad0 w u) n1 xs xi (ba u) 0) = res B75 (.c1 e N ws (m : Int) 0 m rest (w || !okD u) n1 y) ∧ (w = false → okD u = true → y = dv u) := by
  refine num_run u w (fun f acc i => res B75 (.c5 acc e N ws m rest f n1 xs xi (ba u) i)) (fun f acc q => res B75 (.c1 e N ws (m : Int) 0 m rest f n1 acc)) (fun acc i hi ha hD => c5_ok _ _ _ _ _ _ _ _ _ acc i hi ha hD) ?_ ?_
  · intro f acc i hi hD
    have h1 : i.blt (ba u).size = true := by rw [Nat.blt_eq]; exact hi
    have hor := hor_bad _ f i hi hD
    refine ⟨i + (Utf8.decode (ba u) i).2, ?_⟩
    rw [res_eq]
    simp only [B75, h1, hi, hor, sem_br, sem_ask, sem_triv, sem_nxt, PC.holds, need_true, if_true, stepO_nxt]
  · intro f acc i hi
    have h1 : i.blt (ba u).size = false := by
      rw [Bool.eq_false_iff]; intro h; rw [Nat.blt_eq] at h; omega
    rw [res_eq]
    simp only [B75, h1, hi, Bool.false_eq_true, if_false, sem_br, sem_ask, sem_triv, sem_nxt, PC.holds, need_true, stepO_nxt]
theorem c8_ok (e : Bool) (N : Nat) (ws : List DV) (T i0 : Int) (j c : Nat) (l : List DV) (m : Nat) (rest : List DV) (n1 n2 : Int) (xs : ByteArray) (xi : Nat) (s : ByteArray) (acc i : Nat) (hi : i < s.size) (ha : acc ≤ 1000000000) (hD : isD (s.data.toList.getD i 0) = true) :
    res B75 (.c8 (acc : Int) e N ws T i0 j c l m rest false n1 n2 xs xi j s i) = res B75 (.c8 ((10 * acc + bt s i % 48 : Nat) : Int) e N ws T i0 j c l m rest false n1 n2 xs xi j s (i + 1)) := by
  have h1 : i.blt s.size = true := by rw [Nat.blt_eq]; exact hi
  unfold isD at hD
  have hbt : (s.data.toList.getD i 0).toNat = bt s i := rfl
  simp only [hbt, Bool.and_eq_true, decide_eq_true_eq] at hD
  have l1 : ¬ ((bt s i : Int) < 48) := by omega
  have l2 : ¬ ((bt s i : Int) > 57) := by omega
  have w1 : IntKind.i32.wrap ((bt s i : Int) - 48) = ((bt s i % 48 : Nat) : Int) := by rw [wrap32 (by omega)]; omega
  have w2 : IntKind.i64.wrap ((bt s i % 48 : Nat) : Int) = ((bt s i % 48 : Nat) : Int) := wrap64 (by omega)
  have i1 : inI64 (10 * (acc : Int)) := by unfold inI64; omega
  have i2 : inI64 (10 * (acc : Int) + ((bt s i % 48 : Nat) : Int)) := by unfold inI64; omega
  have e3 : 10 * (acc : Int) + ((bt s i % 48 : Nat) : Int) = ((10 * acc + bt s i % 48 : Nat) : Int) := by omega
  rw [res_eq]
  simp only [B75, dec_lo hi (by omega : bt s i < 128), h1, hi, l1, l2, w1, w2, i1, i2, decide_false, Bool.false_eq_true, if_false, sem_br, sem_ask, sem_triv, sem_nxt, PC.holds, need_true, if_true, stepO_nxt]
  rw [e3]
theorem c8_num (e : Bool) (N : Nat) (ws : List DV) (T i0 : Int) (j c : Nat) (l : List DV) (m : Nat) (rest : List DV) (n1 n2 : Int) (xs : ByteArray) (xi : Nat) (hT : inI64 (i0 + 1)) (hc : fitsN (c + 1) 8) (u : List UInt8) (w : Bool) : ∃ (y : Int) (q : Nat), res B75 (.c8 0 e N ws T i0 j c l m rest (bad0 w u) n1 n2 xs xi j (ba u) 0) = res B75 (.c7 e N ws (j + 1) (c + 1) (l ++ [vI y]) T (i0 + 1) m rest (w || !okD u) n1 n2 xs xi (j + 1)) ∧ (w = false → okD u = true → y = dv u) := by
  refine num_run u w (fun f acc i => res B75 (.c8 acc e N ws T i0 j c l m rest f n1 n2 xs xi j (ba u) i)) (fun f acc q => res B75 (.c7 e N ws (j + 1) (c + 1) (l ++ [vI acc]) T (i0 + 1) m rest f n1 n2 xs xi (j + 1))) (fun acc i hi ha hD => c8_ok _ _ _ _ _ _ _ _ _ _ _ _ _ _ _ acc i hi ha hD) ?_ ?_
  · intro f acc i hi hD
    have h1 : i.blt (ba u).size = true := by rw [Nat.blt_eq]; exact hi
    have hor := hor_bad _ f i hi hD
    refine ⟨i + (Utf8.decode (ba u) i).2, ?_⟩
    rw [res_eq]
    simp only [B75, h1, hi, hor, sem_br, sem_ask, sem_triv, sem_nxt, PC.holds, need_true, if_true, stepO_nxt, hT, hc]
  · intro f acc i hi
    have h1 : i.blt (ba u).size = false := by
      rw [Bool.eq_false_iff]; intro h; rw [Nat.blt_eq] at h; omega
    rw [res_eq]
    simp only [B75, h1, hi, Bool.false_eq_true, if_false, sem_br, sem_ask, sem_triv, sem_nxt, PC.holds, need_true, stepO_nxt, hT, hc]
theorem c2_ok (e : Bool) (N : Nat) (ws : List DV) (m : Nat) (rest : List DV) (s : ByteArray) (acc i : Nat) (hi : i < s.size) (ha : acc ≤ 1000000000) (hD : isD (s.data.toList.getD i 0) = true) :
    res B75 (.c2 (acc : Int) e N ws m rest false s i) = res B75 (.c2 ((10 * acc + bt s i % 48 : Nat) : Int) e N ws m rest false s (i + 1)) := by
  have h1 : i.blt s.size = true := by rw [Nat.blt_eq]; exact hi
  unfold isD at hD
  have hbt : (s.data.toList.getD i 0).toNat = bt s i := rfl
  simp only [hbt, Bool.and_eq_true, decide_eq_true_eq] at hD
  have l1 : ¬ ((bt s i : Int) < 48) := by omega
  have l2 : ¬ ((bt s i : Int) > 57) := by omega
  have w1 : IntKind.i32.wrap ((bt s i : Int) - 48) = ((bt s i % 48 : Nat) : Int) := by rw [wrap32 (by omega)]; omega
  have w2 : IntKind.i64.wrap ((bt s i % 48 : Nat) : Int) = ((bt s i % 48 : Nat) : Int) := wrap64 (by omega)
  have i1 : inI64 (10 * (acc : Int)) := by unfold inI64; omega
  have i2 : inI64 (10 * (acc : Int) + ((bt s i % 48 : Nat) : Int)) := by unfold inI64; omega
  have e3 : 10 * (acc : Int) + ((bt s i % 48 : Nat) : Int) = ((10 * acc + bt s i % 48 : Nat) : Int) := by omega
  rw [res_eq]
  simp only [B75, dec_lo hi (by omega : bt s i < 128), h1, hi, l1, l2, w1, w2, i1, i2, decide_false, Bool.false_eq_true, if_false, sem_br, sem_ask, sem_triv, sem_nxt, PC.holds, need_true, if_true, stepO_nxt]
  rw [e3]
end Go.Kv
namespace Go.Kv
open Go Go.RowKit
set_option maxRecDepth 100000
def endP (e : Bool) (w0 : List UInt8) (w : Bool) (n1 n2 : Int) (l : List Int) : Int × Int × Nat × List DV × Int :=
  if firstI [whenI (!e || !decide (w0 = wordL) || w) 25, whenI (n1 == 0 && n2 == 0) 3, listI n1 n2 l] = 0 then (n1, n2, l.length, l.map vI, 0)
  else badP (firstI [whenI (!e || !decide (w0 = wordL) || w) 25, whenI (n1 == 0 && n2 == 0) 3, listI n1 n2 l])
theorem endP_wrong (e : Bool) (w0 : List UInt8) (n1 n2 : Int) (l : List Int) : endP e w0 true n1 n2 l = badP 25 := by
  have : firstI [whenI (!e || !decide (w0 = wordL) || true) 25, whenI (n1 == 0 && n2 == 0) 3, listI n1 n2 l] = 25 := by
    rw [Bool.or_true]; rfl
  unfold endP
  rw [this]; rfl
theorem w25 (e : Bool) (w0 : List UInt8) (w : Bool) (a b : Int) (h : (!e) = true ∨ (!decide (w0 = wordL)) = true) : firstI [whenI (!e || !decide (w0 = wordL) || w) 25, a, b] = firstI [whenI true 25, a, b] := by
  rcases h with h | h
  · rw [h]; rfl
  · rw [h]; simp
theorem c7_end (e : Bool) (W : List (List UInt8)) (hW : 0 < W.length) (w : Bool) (n1 n2 : Int) (l : List Int) (hl : l.length ≤ 300) (T : Int) (j j2 m : Nat) (rest : List DV) (xs : ByteArray) (xi : Nat) :
    res B75 (.c7 e W.length (W.map sD) j l.length (l.map vI) T T m rest w n1 n2 xs xi j2) = some (endP e (W.getD 0 []) w n1 n2 l) := by
  have h1 : ¬ (T < T) := by omega
  have k0 : (0 : Int) < (W.length : Int) := by omega
  have n0 : 0 ≤ (W.map sD).length := Nat.zero_le _
  have q0 := at_sD (w := W) (i := 0) hW
  have d0 := cel_sD (w := W) (i := 0) hW
  have e1 : ByteArray.mk #[119, 111, 114, 100] = ba wordL := rfl
  have fin : ∀ (b : Bool), firstI [whenI (!e || !decide (W.getD 0 [] = wordL) || w) 25, whenI (n1 == 0 && n2 == 0) 3, listI n1 n2 l] = firstI [whenI b 25, whenI (n1 == 0 && n2 == 0) 3, listI n1 n2 l] →
      (if (firstI [whenI b 25, whenI (n1 == 0 && n2 == 0) 3, listI n1 n2 l] != 0) = true then some (0, 0, 0, ([] : List DV), firstI [whenI b 25, whenI (n1 == 0 && n2 == 0) 3, listI n1 n2 l]) else some (n1, n2, l.length, l.map vI, 0)) = some (endP e (W.getD 0 []) w n1 n2 l) := by
    intro b hb
    unfold endP
    rw [hb]
    by_cases hz : firstI [whenI b 25, whenI (n1 == 0 && n2 == 0) 3, listI n1 n2 l] = 0
    · rw [if_pos hz, hz]; rfl
    · rw [if_neg hz, if_pos (bne_iff_ne.2 hz)]; rfl
  rw [res_eq]
  cases he : e with
  | false =>
    have hw := fin true (w25 e (W.getD 0 []) w _ _ (.inl (by rw [he]; rfl)))
    rw [he] at hw
    rw [← hw]
    simp only [B75, sem_br, h1, decide_false, Bool.false_eq_true, if_false, Bool.not_false, if_true, F83_eq, F29_eq n1 n2 l hl, F82_3, Bool.and_true, sem_bind_some, sem_sees, sem_ask, PC.holds, need_true, sem_ret]
    split <;> rfl
  | true =>
    by_cases hh : W.getD 0 [] = wordL
    · have hd2 : (!decide (W.getD 0 [] = wordL)) = false := by rw [decide_eq_true hh]; rfl
      have hw := fin w (by rw [he, hd2]; rfl)
      rw [he] at hw
      rw [← hw]
      simp only [B75, sem_br, h1, decide_false, Bool.false_eq_true, if_false, Bool.not_true, if_true, BEq.rfl, k0, n0, q0, d0, e1, eqS_ba, hd2, F83_eq, F29_eq n1 n2 l hl, F82_3, Bool.and_true, sem_bind_some, sem_sees, sem_ask, PC.holds, need_true, sem_ret]
      split <;> rfl
    · have hd2 : (!decide (W.getD 0 [] = wordL)) = true := by rw [decide_eq_false hh]; rfl
      have hw := fin true (w25 e (W.getD 0 []) w _ _ (.inr hd2))
      rw [he] at hw
      rw [← hw]
      simp only [B75, sem_br, h1, decide_false, Bool.false_eq_true, if_false, Bool.not_true, if_true, BEq.rfl, k0, n0, q0, d0, e1, eqS_ba, hd2, F83_eq, F29_eq n1 n2 l hl, F82_3, Bool.and_true, sem_bind_some, sem_sees, sem_ask, PC.holds, need_true, sem_ret]
      split <;> rfl
theorem c1_end (e : Bool) (W : List (List UInt8)) (hW : 0 < W.length) (w : Bool) (n1 n2 : Int) (T : Int) (m : Nat) (rest : List DV) :
    res B75 (.c1 e W.length (W.map sD) T T m rest w n1 n2) = some (endP e (W.getD 0 []) w n1 n2 []) := by
  have h1 : ¬ (T < T) := by omega
  have k0 : (0 : Int) < (W.length : Int) := by omega
  have n0 : 0 ≤ (W.map sD).length := Nat.zero_le _
  have q0 := at_sD (w := W) (i := 0) hW
  have d0 := cel_sD (w := W) (i := 0) hW
  have e1 : ByteArray.mk #[119, 111, 114, 100] = ba wordL := rfl
  have f29 : F29 n1 n2 0 [] = some (listI n1 n2 []) := F29_eq n1 n2 [] (by simp)
  have fin : ∀ (b : Bool), firstI [whenI (!e || !decide (W.getD 0 [] = wordL) || w) 25, whenI (n1 == 0 && n2 == 0) 3, listI n1 n2 []] = firstI [whenI b 25, whenI (n1 == 0 && n2 == 0) 3, listI n1 n2 []] →
      (if (firstI [whenI b 25, whenI (n1 == 0 && n2 == 0) 3, listI n1 n2 []] != 0) = true then some (0, 0, 0, ([] : List DV), firstI [whenI b 25, whenI (n1 == 0 && n2 == 0) 3, listI n1 n2 []]) else some (n1, n2, 0, [], 0)) = some (endP e (W.getD 0 []) w n1 n2 []) := by
    intro b hb
    unfold endP
    rw [hb]
    by_cases hz : firstI [whenI b 25, whenI (n1 == 0 && n2 == 0) 3, listI n1 n2 []] = 0
    · rw [if_pos hz, hz]; rfl
    · rw [if_neg hz, if_pos (bne_iff_ne.2 hz)]; rfl
  rw [res_eq]
  cases he : e with
  | false =>
    have hw := fin true (w25 e (W.getD 0 []) w _ _ (.inl (by rw [he]; rfl)))
    rw [he] at hw
    rw [← hw]
    simp only [B75, sem_br, h1, decide_false, Bool.false_eq_true, if_false, Bool.not_false, if_true, F83_eq, f29, F82_3, Bool.and_true, sem_bind_some, sem_sees, sem_ask, PC.holds, need_true, sem_ret]
    split <;> rfl
  | true =>
    by_cases hh : W.getD 0 [] = wordL
    · have hd2 : (!decide (W.getD 0 [] = wordL)) = false := by rw [decide_eq_true hh]; rfl
      have hw := fin w (by rw [he, hd2]; rfl)
      rw [he] at hw
      rw [← hw]
      simp only [B75, sem_br, h1, decide_false, Bool.false_eq_true, if_false, Bool.not_true, if_true, BEq.rfl, k0, n0, q0, d0, e1, eqS_ba, hd2, F83_eq, f29, F82_3, Bool.and_true, sem_bind_some, sem_sees, sem_ask, PC.holds, need_true, sem_ret]
      split <;> rfl
    · have hd2 : (!decide (W.getD 0 [] = wordL)) = true := by rw [decide_eq_false hh]; rfl
      have hw := fin true (w25 e (W.getD 0 []) w _ _ (.inr hd2))
      rw [he] at hw
      rw [← hw]
      simp only [B75, sem_br, h1, decide_false, Bool.false_eq_true, if_false, Bool.not_true, if_true, BEq.rfl, k0, n0, q0, d0, e1, eqS_ba, hd2, F83_eq, f29, F82_3, Bool.and_true, sem_bind_some, sem_sees, sem_ask, PC.holds, need_true, sem_ret]
      split <;> rfl
/-- The next word is begun. -/
theorem c7_next (e : Bool) (N : Nat) (ws : List DV) (w : Bool) (n1 n2 : Int) (l : List DV) (T i : Int) (hT : i < T) (j c j2 : Nat) (u : List UInt8) (r : List (List UInt8)) (xs : ByteArray) (xi : Nat) :
    res B75 (.c7 e N ws j c l T i (u :: r).length ((u :: r).map sD) w n1 n2 xs xi j2) = res B75 (.c8 0 e N ws T i j c l r.length (r.map sD) (bad0 w u) n1 n2 xs xi j2 (ba u) 0) := by
  have z1 : (((r.length + 1 : Nat) : Int) == 0) = false := by rw [beq_eq_false_iff_ne]; omega
  have z2 : (0 : Int) < ((r.length + 1 : Nat) : Int) := by omega
  have z3 : (1 : Int) ≤ ((r.length + 1 : Nat) : Int) := by omega
  have c0 : dS (cel ((u :: r).map sD) 0) = ba u := cel_sD (w := u :: r) (i := 0) (by simp)
  have a0 := at_sD (w := u :: r) (i := 0) (by simp)
  rw [List.getD_cons_zero] at a0
  have hlen : ((u :: r).map sD).length = (r.length + 1) * 1 := by simp
  have htk : List.take (r.length * 1) (List.drop 1 ((u :: r).map sD)) = r.map sD := by
    rw [Nat.mul_one, List.map_cons, List.drop_succ_cons, List.drop_zero, List.take_of_length_le (by simp)]
  have htn : (((r.length + 1 : Nat) : Int)).toNat - 1 = r.length := by omega
  rw [res_eq, List.length_cons]
  by_cases hA : bA w u = true
  · have hb : bad0 w u = true := by unfold bad0; rw [hA]; rfl
    simp only [B75, sem_br, hT, decide_true, if_true, z1, Bool.false_eq_true, if_false, sem_ask, sem_triv, PC.holds, need_true, z2, z3, Nat.zero_le, c0, a0, Int.le_refl, hlen, hA_eq, hA, htk, htn, hb, sem_nxt, stepO_nxt]
  · have hA : bA w u = false := by simpa using hA
    by_cases hg : u.length > 1
    · have hb : bad0 w u = decide (u.getD 0 0 = 48) := by unfold bad0; rw [hA, decide_eq_true hg]; simp
      have hsz : 0 < (ba u).size := by rw [ba_size]; omega
      simp only [B75, sem_br, hT, decide_true, if_true, z1, Bool.false_eq_true, if_false, sem_ask, sem_triv, PC.holds, need_true, z2, z3, Nat.zero_le, c0, a0, Int.le_refl, hlen, hA_eq, hA, htk, htn, hb, BEq.rfl, h1_eq, h0_eq, hg, hsz, sem_nxt, stepO_nxt]
    · have hb : bad0 w u = false := by unfold bad0; rw [hA, decide_eq_false hg]; rfl
      simp only [B75, sem_br, hT, decide_true, if_true, z1, Bool.false_eq_true, if_false, sem_ask, sem_triv, PC.holds, need_true, z2, z3, Nat.zero_le, c0, a0, Int.le_refl, hlen, hA_eq, hA, htk, htn, hb, BEq.rfl, h1_eq, hg, decide_false, sem_nxt, stepO_nxt]
theorem c1_next (e : Bool) (N : Nat) (ws : List DV) (w : Bool) (n1 n2 : Int) (T i : Int) (hT : i < T) (u : List UInt8) (r : List (List UInt8)) :
    res B75 (.c1 e N ws T i (u :: r).length ((u :: r).map sD) w n1 n2) = res B75 (.c4 0 e N ws T i r.length (r.map sD) (bad0 w u) n1 n2 (ba u) 0) := by
  have z1 : (((r.length + 1 : Nat) : Int) == 0) = false := by rw [beq_eq_false_iff_ne]; omega
  have z2 : (0 : Int) < ((r.length + 1 : Nat) : Int) := by omega
  have z3 : (1 : Int) ≤ ((r.length + 1 : Nat) : Int) := by omega
  have c0 : dS (cel ((u :: r).map sD) 0) = ba u := cel_sD (w := u :: r) (i := 0) (by simp)
  have a0 := at_sD (w := u :: r) (i := 0) (by simp)
  rw [List.getD_cons_zero] at a0
  have hlen : ((u :: r).map sD).length = (r.length + 1) * 1 := by simp
  have htk : List.take (r.length * 1) (List.drop 1 ((u :: r).map sD)) = r.map sD := by
    rw [Nat.mul_one, List.map_cons, List.drop_succ_cons, List.drop_zero, List.take_of_length_le (by simp)]
  have htn : (((r.length + 1 : Nat) : Int)).toNat - 1 = r.length := by omega
  rw [res_eq, List.length_cons]
  by_cases hA : bA w u = true
  · have hb : bad0 w u = true := by unfold bad0; rw [hA]; rfl
    simp only [B75, sem_br, hT, decide_true, if_true, z1, Bool.false_eq_true, if_false, sem_ask, sem_triv, PC.holds, need_true, z2, z3, Nat.zero_le, c0, a0, Int.le_refl, hlen, hA_eq, hA, htk, htn, hb, sem_nxt, stepO_nxt]
  · have hA : bA w u = false := by simpa using hA
    by_cases hg : u.length > 1
    · have hb : bad0 w u = decide (u.getD 0 0 = 48) := by unfold bad0; rw [hA, decide_eq_true hg]; simp
      have hsz : 0 < (ba u).size := by rw [ba_size]; omega
      simp only [B75, sem_br, hT, decide_true, if_true, z1, Bool.false_eq_true, if_false, sem_ask, sem_triv, PC.holds, need_true, z2, z3, Nat.zero_le, c0, a0, Int.le_refl, hlen, hA_eq, hA, htk, htn, hb, BEq.rfl, h1_eq, h0_eq, hg, hsz, sem_nxt, stepO_nxt]
    · have hb : bad0 w u = false := by unfold bad0; rw [hA, decide_eq_false hg]; rfl
      simp only [B75, sem_br, hT, decide_true, if_true, z1, Bool.false_eq_true, if_false, sem_ask, sem_triv, PC.holds, need_true, z2, z3, Nat.zero_le, c0, a0, Int.le_refl, hlen, hA_eq, hA, htk, htn, hb, BEq.rfl, h1_eq, hg, decide_false, sem_nxt, stepO_nxt]
end Go.Kv
namespace Go.Kv
open Go Go.RowKit
set_option maxRecDepth 100000
theorem c7_run (e : Bool) (W : List (List UInt8)) (hW : 0 < W.length) (n1 n2 T : Int) (hT : T ≤ 1000000) : ∀ (r : List (List UInt8)) (w : Bool) (l : List Int) (i : Int) (xs : ByteArray) (xi : Nat), 0 < l.length → l.length + r.length ≤ 300 → 0 ≤ i → i + r.length = T →
    res B75 (.c7 e W.length (W.map sD) (l.length - 1) l.length (l.map vI) T i r.length (r.map sD) w n1 n2 xs xi (l.length - 1)) =
      some (if w = false ∧ r.all okD = true then endP e (W.getD 0 []) false n1 n2 (l ++ r.map dv) else badP 25)
  | [], w, l, i, xs, xi, h0, h3, hi, hiT => by
    have : i = T := by simpa using hiT
    subst this
    have := c7_end e W hW w n1 n2 l (by simpa using h3) i (l.length - 1) (l.length - 1) 0 [] xs xi
    refine Eq.trans this ?_
    cases w with
    | false => rw [if_pos ⟨rfl, rfl⟩, List.map_nil, List.append_nil]
    | true => rw [if_neg (fun h => nomatch h.1), endP_wrong]
  | u :: r, w, l, i, xs, xi, h0, h3, hi, hiT => by
    rw [List.length_cons] at hiT h3
    have hlt : i < T := by omega
    have hin : inI64 (i + 1) := by unfold inI64; omega
    have hf : fitsN (l.length + 1) 8 := ⟨by omega, by omega⟩
    rw [c7_next e W.length (W.map sD) w n1 n2 (l.map vI) T i hlt (l.length - 1) l.length (l.length - 1) u r xs xi]
    obtain ⟨y, q, h1, h2⟩ := c8_num e W.length (W.map sD) T i (l.length - 1) l.length (l.map vI) r.length (r.map sD) n1 n2 xs xi hin hf u w
    rw [h1]
    have ih := c7_run e W hW n1 n2 T hT r (w || !okD u) (l ++ [y]) (i + 1) xs xi (by simp) (by simp; omega) (by omega) (by omega)
    rw [List.length_append, List.map_append, List.length_singleton, show l.length + 1 - 1 = l.length - 1 + 1 by omega] at ih
    refine Eq.trans ih ?_
    congr 1
    cases w with
    | true => rw [if_neg (fun h => nomatch h.1), if_neg (fun h => nomatch h.1)]
    | false =>
      cases hok : okD u with
      | false => rw [if_neg (fun h => nomatch h.1), if_neg (fun h => by have := h.2; rw [List.all_cons, hok] at this; exact nomatch this)]
      | true =>
        have hy := h2 rfl hok
        subst hy
        rw [List.all_cons, hok, Bool.true_and, List.map_cons, List.append_assoc]
        rfl
theorem c1_run (e : Bool) (W : List (List UInt8)) (hW : 0 < W.length) (n1 n2 : Int) (R : List (List UInt8)) (hR : R.length ≤ 300) (w : Bool) :
    res B75 (.c1 e W.length (W.map sD) (R.length : Int) 0 R.length (R.map sD) w n1 n2) = some (if w = false ∧ R.all okD = true then endP e (W.getD 0 []) false n1 n2 (R.map dv) else badP 25) := by
  cases R with
  | nil =>
    have := c1_end e W hW w n1 n2 0 0 []
    refine Eq.trans this ?_
    cases w with
    | false => rw [if_pos ⟨rfl, rfl⟩, List.map_nil]
    | true => rw [if_neg (fun h => nomatch h.1), endP_wrong]
  | cons u r =>
    rw [List.length_cons] at hR
    have hT : (0 : Int) < ((u :: r).length : Int) := by simp
    rw [c1_next e W.length (W.map sD) w n1 n2 ((u :: r).length : Int) 0 hT u r]
    obtain ⟨y, q, h1, h2⟩ := c4_num e W.length (W.map sD) ((u :: r).length : Int) 0 r.length (r.map sD) n1 n2 (by unfold inI64; omega) u w
    rw [h1]
    have ih := c7_run e W hW n1 n2 ((u :: r).length : Int) (by rw [List.length_cons]; omega) r (w || !okD u) [y] (0 + 1) (ba u) q (by simp) (by simp; omega) (by omega) (by rw [List.length_cons]; omega)
    refine Eq.trans ih ?_
    congr 1
    cases w with
    | true => rw [if_neg (fun h => nomatch h.1), if_neg (fun h => nomatch h.1)]
    | false =>
      cases hok : okD u with
      | false => rw [if_neg (fun h => nomatch h.1), if_neg (fun h => by have := h.2; rw [List.all_cons, hok] at this; exact nomatch this)]
      | true =>
        have hy := h2 rfl hok
        subst hy
        rw [List.all_cons, hok, Bool.true_and, List.map_cons]
        rfl
theorem c2_num0 (e : Bool) (N : Nat) (ws : List DV) (u : List UInt8) (w : Bool) : ∃ (y : Int) (q : Nat), res B75 (.c2 0 e N ws 0 [] (bad0 w u) (ba u) 0) = res B75 (.c1 e N ws 0 0 0 [] true y 0) ∧ (w = false → okD u = true → y = dv u) := by
  have z1 : (((0 : Nat) : Int) == 0) = true := rfl
  refine num_run u w (fun f acc i => res B75 (.c2 acc e N ws 0 [] f (ba u) i)) (fun _ acc _ => res B75 (.c1 e N ws 0 0 0 [] true acc 0)) (fun acc i hi ha hD => c2_ok _ _ _ _ _ _ acc i hi ha hD) ?_ ?_
  · intro f acc i hi hD
    have h1 : i.blt (ba u).size = true := by rw [Nat.blt_eq]; exact hi
    have hor := hor_bad _ f i hi hD
    refine ⟨i, ?_⟩
    rw [res_eq]
    simp only [B75, h1, hi, hor, z1, sem_br, sem_ask, sem_triv, sem_nxt, PC.holds, need_true, if_true, stepO_nxt]
    rfl
  · intro f acc i hi
    have h1 : i.blt (ba u).size = false := by
      rw [Bool.eq_false_iff]; intro h; rw [Nat.blt_eq] at h; omega
    rw [res_eq]
    simp only [B75, h1, hi, z1, Bool.false_eq_true, if_false, if_true, sem_br, sem_ask, sem_triv, sem_nxt, PC.holds, need_true, stepO_nxt]
    rfl
theorem c2_num1 (e : Bool) (N : Nat) (ws : List DV) (v : List UInt8) (r : List (List UInt8)) (u : List UInt8) (w : Bool) : ∃ (y : Int) (q : Nat), res B75 (.c2 0 e N ws (v :: r).length ((v :: r).map sD) (bad0 w u) (ba u) 0) = res B75 (.c5 0 e N ws r.length (r.map sD) (bad0 (w || !okD u) v) y (ba u) q (ba v) 0) ∧ (w = false → okD u = true → y = dv u) := by
  have z1 : (((r.length + 1 : Nat) : Int) == 0) = false := by rw [beq_eq_false_iff_ne]; omega
  have z2 : (0 : Int) < ((r.length + 1 : Nat) : Int) := by omega
  have z3 : (1 : Int) ≤ ((r.length + 1 : Nat) : Int) := by omega
  have c0 : dS (cel ((v :: r).map sD) 0) = ba v := cel_sD (w := v :: r) (i := 0) (by simp)
  have a0 := at_sD (w := v :: r) (i := 0) (by simp)
  rw [List.getD_cons_zero] at a0
  have hlen : ((v :: r).map sD).length = (r.length + 1) * 1 := by simp
  have htk : List.take (r.length * 1) (List.drop 1 ((v :: r).map sD)) = r.map sD := by
    rw [Nat.mul_one, List.map_cons, List.drop_succ_cons, List.drop_zero, List.take_of_length_le (by simp)]
  have htn : (((r.length + 1 : Nat) : Int)).toNat - 1 = r.length := by omega
  rw [List.length_cons]
  refine num_run u w (fun f acc i => res B75 (.c2 acc e N ws (r.length + 1) ((v :: r).map sD) f (ba u) i)) (fun f acc q => res B75 (.c5 0 e N ws r.length (r.map sD) (bad0 f v) acc (ba u) q (ba v) 0)) (fun acc i hi ha hD => c2_ok _ _ _ _ _ _ acc i hi ha hD) ?_ ?_
  · intro f acc i hi hD
    have h1 : i.blt (ba u).size = true := by rw [Nat.blt_eq]; exact hi
    have hor := hor_bad _ f i hi hD
    refine ⟨i + (Utf8.decode (ba u) i).2, ?_⟩
    rw [res_eq]
    have hb : bad0 true v = true := rfl
    simp only [B75, h1, hi, hor, z1, z2, z3, c0, a0, hlen, htk, htn, hb, Nat.zero_le, Int.le_refl, sem_br, sem_ask, sem_triv, sem_nxt, PC.holds, need_true, if_true, Bool.false_eq_true, if_false, stepO_nxt]
  · intro f acc i hi
    have h1 : i.blt (ba u).size = false := by
      rw [Bool.eq_false_iff]; intro h; rw [Nat.blt_eq] at h; omega
    rw [res_eq]
    by_cases hA : bA f v = true
    · have hb : bad0 f v = true := by unfold bad0; rw [hA]; rfl
      simp only [B75, h1, hi, z1, z2, z3, c0, a0, hlen, htk, htn, hb, hA_eq, hA, Nat.zero_le, Int.le_refl, sem_br, sem_ask, sem_triv, sem_nxt, PC.holds, need_true, if_true, Bool.false_eq_true, if_false, stepO_nxt]
    · have hA : bA f v = false := by simpa using hA
      by_cases hg : v.length > 1
      · have hb : bad0 f v = decide (v.getD 0 0 = 48) := by unfold bad0; rw [hA, decide_eq_true hg]; simp
        have hsz : 0 < (ba v).size := by rw [ba_size]; omega
        simp only [B75, h1, hi, z1, z2, z3, c0, a0, hlen, htk, htn, hb, hA_eq, hA, BEq.rfl, h1_eq, h0_eq, hg, hsz, decide_true, Nat.zero_le, Int.le_refl, sem_br, sem_ask, sem_triv, sem_nxt, PC.holds, need_true, if_true, Bool.false_eq_true, if_false, stepO_nxt]
      · have hb : bad0 f v = false := by unfold bad0; rw [hA, decide_eq_false hg]; rfl
        simp only [B75, h1, hi, z1, z2, z3, c0, a0, hlen, htk, htn, hb, hA_eq, hA, BEq.rfl, h1_eq, hg, decide_false, Nat.zero_le, Int.le_refl, sem_br, sem_ask, sem_triv, sem_nxt, PC.holds, need_true, if_true, Bool.false_eq_true, if_false, stepO_nxt]
def lineC (e : Bool) (w : List (List UInt8)) : Int × Int × Nat × List DV × Int :=
  if 3 ≤ w.length ∧ (w.drop 1).all okD = true then endP e (w.getD 0 []) false (dv (w.getD 1 [])) (dv (w.getD 2 [])) ((w.drop 3).map dv) else badP 25
theorem hA0_eq (u : List UInt8) : (if eqS (ba u) (ByteArray.mk #[]) = true then true else decide (((ba u).size : Int) > 9)) = bA false u := by
  have := hA_eq false u
  simpa using this
theorem F75_line (s : ByteArray) (b : List UInt8) (e : Bool) (h115 : F115 s (ByteArray.mk #[10]) = some (ba b, e)) (hb : b.length ≤ 200) (hs : s.size ≤ 4096) : F75 s = some (lineC e (spl 32 [] b)) := by
  have h1 : ¬ ((s.size : Int) > 4096) := by omega
  have h116 : F116 (ba b) (ByteArray.mk #[32]) = some ((spl 32 [] b).length, (spl 32 [] b).map sD) := by
    have := F116_eq (ba b) 32 (by rw [ba_size]; omega)
    rw [ba_data] at this
    exact this
  have h118 : F118 = some () := by unfold F118; rw [res_eq]; simp only [B118, sem_ret, stepO_ret]
  have hln := spl_length (c := 32) b []
  have hne := spl_ne (c := 32) b []
  unfold F75; rw [res_eq]
  generalize spl 32 [] b = W at h116 hln hne ⊢
  cases W with
  | nil => exact absurd rfl hne
  | cons w0 R =>
    have y1 : (1 : Int) ≤ ((w0 :: R).length : Int) := by simp; omega
    have ym : ((w0 :: R).map sD).length = (w0 :: R).length * 1 := by simp
    have yn : (((w0 :: R).length : Nat) : Int).toNat - 1 = R.length := by simp
    have ytk : List.take (R.length * 1) (List.drop 1 ((w0 :: R).map sD)) = R.map sD := by
      rw [Nat.mul_one, List.map_cons, List.drop_succ_cons, List.drop_zero, List.take_of_length_le (by simp)]
    have hR : R.length ≤ 300 := by simp only [List.length_cons] at hln; omega
    cases R with
    | nil =>
      have z0 : ((([] : List (List UInt8)).length : Int) == 0) = true := rfl
      simp only [B75, sem_br, h1, decide_false, Bool.false_eq_true, if_false, h115, h116, h118, sem_bind_some, sem_sees, sem_ask, PC.holds, need_true, y1, Int.le_refl, ym, yn, ytk, z0, BEq.rfl, if_true, sem_nxt, stepO_nxt]
      have := c1_run e [w0] (by simp) 0 0 [] (by simp) true
      refine Eq.trans this ?_
      unfold lineC
      rw [if_neg (fun h => nomatch h.1), if_neg (fun h => by have := h.1; simp at this)]
    | cons u R =>
      have z0 : (((u :: R).length : Int) == 0) = false := by rw [beq_eq_false_iff_ne]; simp; omega
      have z1 : (0 : Int) < ((u :: R).length : Int) := by simp
      have z3 : (1 : Int) ≤ ((u :: R).length : Int) := by simp; omega
      have c0 : dS (cel ((u :: R).map sD) 0) = ba u := cel_sD (w := u :: R) (i := 0) (by simp)
      have a0 := at_sD (w := u :: R) (i := 0) (by simp)
      rw [List.getD_cons_zero] at a0
      have hlen : ((u :: R).map sD).length = (u :: R).length * 1 := by simp
      have htk : List.take (R.length * 1) (List.drop 1 ((u :: R).map sD)) = R.map sD := by
        rw [Nat.mul_one, List.map_cons, List.drop_succ_cons, List.drop_zero, List.take_of_length_le (by simp)]
      have htn : (((u :: R).length : Nat) : Int).toNat - 1 = R.length := by simp
      have start : stepO (res B75) ((B75 (.c0 s)).sem) = res B75 (.c2 0 e (w0 :: u :: R).length ((w0 :: u :: R).map sD) R.length (R.map sD) (bad0 false u) (ba u) 0) := by
        by_cases hA : bA false u = true
        · have hb : bad0 false u = true := by unfold bad0; rw [hA]; rfl
          simp only [B75, sem_br, h1, decide_false, Bool.false_eq_true, if_false, h115, h116, h118, sem_bind_some, sem_sees, sem_ask, sem_triv, PC.holds, need_true, y1, Int.le_refl, Nat.zero_le, ym, yn, ytk, z0, z1, z3, c0, a0, hlen, htk, htn, hA0_eq, hA, hb, if_true, sem_nxt, stepO_nxt]
        · have hA : bA false u = false := by simpa using hA
          by_cases hg : u.length > 1
          · have hb : bad0 false u = decide (u.getD 0 0 = 48) := by unfold bad0; rw [hA, decide_eq_true hg]; simp
            have hsz : 0 < (ba u).size := by rw [ba_size]; omega
            simp only [B75, sem_br, h1, decide_false, Bool.false_eq_true, if_false, h115, h116, h118, sem_bind_some, sem_sees, sem_ask, sem_triv, PC.holds, need_true, y1, Int.le_refl, Nat.zero_le, ym, yn, ytk, z0, z1, z3, c0, a0, hlen, htk, htn, hA0_eq, hA, hb, BEq.rfl, h1_eq, h0_eq, hg, hsz, decide_true, if_true, sem_nxt, stepO_nxt]
          · have hb : bad0 false u = false := by unfold bad0; rw [hA, decide_eq_false hg]; rfl
            simp only [B75, sem_br, h1, decide_false, Bool.false_eq_true, if_false, h115, h116, h118, sem_bind_some, sem_sees, sem_ask, sem_triv, PC.holds, need_true, y1, Int.le_refl, Nat.zero_le, ym, yn, ytk, z0, z1, z3, c0, a0, hlen, htk, htn, hA0_eq, hA, hb, BEq.rfl, h1_eq, hg, if_true, sem_nxt, stepO_nxt]
      rw [start]
      cases R with
      | nil =>
        obtain ⟨y, q, h2, _⟩ := c2_num0 e (w0 :: u :: []).length ((w0 :: u :: []).map sD) u false
        refine Eq.trans h2 ?_
        have := c1_run e [w0, u] (by simp) y 0 [] (by simp) true
        refine Eq.trans this ?_
        unfold lineC
        rw [if_neg (fun h => nomatch h.1), if_neg (fun h => by have := h.1; simp at this)]
      | cons v R =>
        obtain ⟨y, q, h2, hy⟩ := c2_num1 e (w0 :: u :: v :: R).length ((w0 :: u :: v :: R).map sD) v R u false
        rw [h2]
        obtain ⟨y2, q2, h3, hy2⟩ := c5_num e (w0 :: u :: v :: R).length ((w0 :: u :: v :: R).map sD) R.length (R.map sD) y (ba u) q v (false || !okD u)
        rw [h3]
        have := c1_run e (w0 :: u :: v :: R) (by simp) y y2 R (by simp only [List.length_cons] at hR; omega) ((false || !okD u) || !okD v)
        refine Eq.trans this ?_
        congr 1
        unfold lineC
        have h3l : 3 ≤ (w0 :: u :: v :: R).length := by simp
        have hdr : (w0 :: u :: v :: R).drop 1 = u :: v :: R := rfl
        rw [hdr, List.all_cons, List.all_cons]
        cases hok : okD u with
        | false => rw [if_neg (fun h => nomatch h.1), if_neg (fun h => nomatch h.2)]
        | true =>
          cases hok2 : okD v with
          | false => rw [if_neg (fun h => nomatch h.1), if_neg (fun h => nomatch h.2)]
          | true =>
            have e1 := hy rfl hok
            have e2 := hy2 (by rw [hok]; rfl) hok2
            subst e1; subst e2
            rw [Bool.true_and, Bool.true_and]
            by_cases ha : R.all okD = true
            · rw [if_pos ⟨rfl, ha⟩, if_pos ⟨h3l, ha⟩]; rfl
            · rw [if_neg (fun h => ha h.2), if_neg (fun h => ha h.2)]
end Go.Kv
namespace Go.Kv
open Go Go.RowKit
set_option maxRecDepth 100000
theorem spl_count (c : UInt8) : ∀ (l cur : List UInt8), (spl c cur l).length = l.count c + 1
  | [], cur => by simp [spl]
  | b :: l, cur => by
    rw [spl, List.count_cons]
    split
    · rename_i h; subst h; simp [spl_count b l []]
    · rename_i h
      rw [spl_count c l _]
      have : (b == c) = false := by rw [beq_eq_false_iff_ne]; exact h
      simp [this]
theorem spl_two {c : UInt8} : ∀ (l cur : List UInt8) {a b : List UInt8}, spl c cur l = [a, b] → cur ++ l = a ++ c :: b
  | [], cur, a, b, h => by simp [spl] at h
  | x :: l, cur, a, b, h => by
    rw [spl] at h
    split at h
    · rename_i hx
      subst hx
      simp only [List.cons.injEq] at h
      obtain ⟨rfl, h⟩ := h
      have hl := spl_count x l []
      rw [h] at hl
      have h0 : x ∉ l := fun hm => by have := List.count_pos_iff.2 hm; simp at hl; omega
      rw [spl_none l [] h0] at h
      simp at h
      rw [h]
    · have := spl_two l (cur ++ [x]) h
      simpa using this
theorem mem_spl {c b : UInt8} (hbc : b ≠ c) : ∀ (l cur : List UInt8), b ∈ l ∨ b ∈ cur → ∃ u ∈ spl c cur l, b ∈ u
  | [], cur, h => ⟨cur, by simp [spl], by simpa using h⟩
  | x :: l, cur, h => by
    rw [spl]
    split
    · rename_i hx
      subst hx
      rcases h with h | h
      · rcases List.mem_cons.1 h with h | h
        · exact absurd h hbc
        · obtain ⟨u, hu, hb⟩ := mem_spl hbc l [] (.inl h)
          exact ⟨u, by simp [hu], hb⟩
      · exact ⟨cur, by simp, h⟩
    · refine mem_spl hbc l (cur ++ [x]) ?_
      rcases h with h | h
      · rcases List.mem_cons.1 h with h | h
        · right; simp [h]
        · exact .inl h
      · right; simp [h]
theorem endP_ok (n1 n2 : Int) (l : List Int) : endP true wordL false n1 n2 l = resP n1 n2 l := by
  have e0 : whenI (!true || !decide (wordL = wordL) || false) 25 = 0 := by rw [decide_eq_true rfl]; rfl
  unfold endP resP
  rw [e0]
  have f0 : ∀ x : Int, firstI [0, x, listI n1 n2 l] = if x = 0 then listI n1 n2 l else x := by
    intro x
    have : firstI [listI n1 n2 l] = listI n1 n2 l := by
      simp only [firstI]
      split
      · rename_i h; exact h.symm
      · rfl
    rw [firstI, if_pos rfl, firstI, this]
  rw [f0]
  by_cases hz : n1 = 0 ∧ n2 = 0
  · obtain ⟨rfl, rfl⟩ := hz
    have e3 : listI 0 0 l = 3 := rfl
    rw [e3]
    rfl
  · have : (n1 == 0 && n2 == 0) = false := by
      rw [Bool.and_eq_false_iff, beq_eq_false_iff_ne, beq_eq_false_iff_ne]
      omega
    rw [this]
    rfl
theorem endP_head {w0 : List UInt8} (h : w0 ≠ wordL) (e w : Bool) (n1 n2 : Int) (l : List Int) : endP e w0 w n1 n2 l = badP 25 := by
  have e0 : whenI (!e || !decide (w0 = wordL) || w) 25 = 25 := by rw [decide_eq_false h]; cases e <;> rfl
  unfold endP
  rw [e0]; rfl
theorem endP_open (w0 : List UInt8) (w : Bool) (n1 n2 : Int) (l : List Int) : endP false w0 w n1 n2 l = badP 25 := by
  have e0 : whenI (!false || !decide (w0 = wordL) || w) 25 = 25 := rfl
  unfold endP
  rw [e0]; rfl
theorem lineC_open (w : List (List UInt8)) : lineC false w = badP 25 := by
  unfold lineC
  split
  · exact endP_open _ _ _ _ _
  · rfl
theorem lineC_eq (w : List (List UInt8)) : lineC true w = lineP w := by
  unfold lineC lineP
  by_cases h3 : 3 ≤ w.length
  · by_cases ha : (w.drop 1).all okD = true
    · rw [if_pos ⟨h3, ha⟩]
      by_cases hh : w.getD 0 [] = wordL
      · rw [if_neg (fun h => h.elim (fun a => by omega) (fun h => h.elim (fun a => a hh) (fun a => by rw [ha] at a; exact nomatch a))), hh, endP_ok]
        match w, h3 with
        | w0 :: u :: v :: R, _ => rfl
      · rw [endP_head hh, if_pos (.inr (.inl hh))]
    · have ha' : (w.drop 1).all okD = false := by simpa using ha
      rw [if_neg (fun h => ha h.2), if_pos (.inr (.inr ha'))]
  · rw [if_neg (fun h => h3 h.1), if_pos (.inl (by omega))]
theorem lineP_nl {q : List UInt8} (h : 10 ∈ q) : lineP (spl 32 [] q) = badP 25 := by
  obtain ⟨u, hu, hb⟩ := mem_spl (c := 32) (b := 10) (by decide) q [] (.inl h)
  unfold lineP
  generalize spl 32 [] q = w at hu
  refine if_pos ?_
  cases w with
  | nil => simp at hu
  | cons w0 R =>
    rcases List.mem_cons.1 hu with rfl | hu
    · right; left
      intro he
      rw [List.getD_cons_zero] at he
      rw [he] at hb
      revert hb; decide
    · right; right
      rw [List.drop_succ_cons, List.drop_zero, Bool.eq_false_iff]
      intro ha
      rw [List.all_eq_true] at ha
      have := ha u hu
      unfold okD at this
      simp only [Bool.and_eq_true] at this
      have h2 := List.all_eq_true.1 this.1.1 10 hb
      exact absurd h2 (by decide)
theorem F75_eq (s : ByteArray) (hs : s.size ≤ 200 ∨ s.size > 4096) : F75 s = some (textP s.data.toList) := by
  have hsz : s.data.toList.length = s.size := by simp
  by_cases hb : s.size > 4096
  · have h1 : (s.size : Int) > 4096 := by omega
    have hT : textP s.data.toList = badP 26 := by unfold textP; rw [if_pos (by omega)]
    rw [hT]
    unfold F75; rw [res_eq]
    simp only [B75, sem_br, h1, decide_true, if_true, sem_ret, stepO_ret]; rfl
  · have h2 : s.size ≤ 200 := by omega
    have hT0 : textP s.data.toList = if (spl 10 [] s.data.toList).length ≠ 2 ∨ (spl 10 [] s.data.toList).getD 1 [] ≠ [] then badP 25 else lineP (spl 32 [] ((spl 10 [] s.data.toList).getD 0 [])) := by
      unfold textP; rw [if_neg (by omega)]
    rw [hT0]
    by_cases hq : ∃ q, s.data.toList = q ++ [10]
    · obtain ⟨q, hq⟩ := hq
      have hql : q.length ≤ 200 := by rw [hq] at hsz; simp at hsz; omega
      have h115 : F115 s (ByteArray.mk #[10]) = some (ba q, true) := by
        have := F115_yes q (by omega)
        rw [← hq, ba_of] at this
        exact this
      rw [F75_line s q true h115 hql (by omega), lineC_eq, hq]
      by_cases h10 : 10 ∈ q
      · rw [lineP_nl h10, if_pos]
        left
        rw [spl_count, List.count_append]
        have := List.count_pos_iff.2 h10
        simp; omega
      · have : spl 10 [] (q ++ [10]) = [q, []] := by
          rw [spl_app q [] [] h10]
          simp [spl]
        rw [this, if_neg (by simp)]
        rfl
    · have hq' : ∀ q, s.data.toList ≠ q ++ [10] := fun q h => hq ⟨q, h⟩
      have h115 : F115 s (ByteArray.mk #[10]) = some (ba s.data.toList, false) := by
        have := F115_no s.data.toList (by omega) hq'
        rw [ba_of] at this
        rw [ba_of]
        exact this
      rw [F75_line s s.data.toList false h115 (by omega) (by omega), lineC_open, if_pos]
      by_cases hl : (spl 10 [] s.data.toList).length = 2
      · right
        intro he
        match hsp : spl 10 [] s.data.toList, hl with
        | [a, b], _ =>
          rw [hsp] at he
          have hbn : b = [] := he
          have := spl_two _ _ hsp
          rw [hbn] at this
          exact hq' a this
      · exact .inl hl
theorem textP_list (L : List UInt8) : ∃ l : List Int, (textP L).2.2.1 = l.length ∧ (textP L).2.2.2.1 = l.map vI ∧ (L.length ≤ 200 ∨ L.length > 4096 → l.length ≤ 300) := by
  have hbad : ∀ e, ∃ l : List Int, (badP e).2.2.1 = l.length ∧ (badP e).2.2.2.1 = l.map vI ∧ (L.length ≤ 200 ∨ L.length > 4096 → l.length ≤ 300) := fun e => ⟨[], rfl, rfl, fun _ => by simp⟩
  unfold textP
  split
  · exact hbad _
  · rename_i h4
    split
    · exact hbad _
    · have hw : (spl 32 [] ((spl 10 [] L).getD 0 [])).length ≤ L.length + 1 := by
        have h1 := spl_length (c := 32) ((spl 10 [] L).getD 0 []) []
        have h2 := spl_get_le (c := 10) L 0
        omega
      generalize spl 32 [] ((spl 10 [] L).getD 0 []) = w at hw
      unfold lineP
      split
      · exact hbad _
      · unfold finP resP
        split
        · refine ⟨_, rfl, rfl, fun h => ?_⟩
          simp only [List.length_drop, List.length_map]
          omega
        · exact hbad _
end Go.Kv
