/- MeterIntervals, in plain Lean. -/
import Derived.Test.YtalhonodbajndaaDoorKzP
namespace Go.Kv
set_option linter.unusedVariables false
set_option linter.unusedSimpArgs false
open Go Go.RowKit
set_option maxRecDepth 100000

def floorI (n m : Int) : Int := if n.tdiv m * m > n then n.tdiv m - 1 else n.tdiv m
theorem tdiv_abs (n : Int) {m : Int} (hm : 1 ≤ m) : -(n.natAbs : Int) ≤ n.tdiv m ∧ n.tdiv m ≤ (n.natAbs : Int) := by
  have h := Int.natAbs_tdiv_le_natAbs n m
  omega
theorem tdiv_mul_bd (n : Int) {m : Int} (hm : 1 ≤ m) : n - m < n.tdiv m * m ∧ n.tdiv m * m < n + m := by
  have e := Int.mul_tdiv_add_tmod n m
  have h1 := Int.tmod_lt_of_pos n (show 0 < m by omega)
  have h2 := Int.lt_tmod_of_pos n (show 0 < m by omega)
  rw [Int.mul_comm] at e
  omega
theorem F54_eq {n m : Int} (hm : 2 ≤ m ∧ m ≤ 100000) (hn : -1000000000 ≤ n ∧ n ≤ 1000000000) : F54 n m = some (floorI n m) := by
  obtain ⟨a1, a2⟩ := tdiv_abs n (show 1 ≤ m by omega)
  obtain ⟨b1, b2⟩ := tdiv_mul_bd n (show 1 ≤ m by omega)
  unfold F54 floorI; rw [res_eq]
  have e1 : m ≠ 0 := by omega
  have e2 : inI64 (n.tdiv m) := by unfold inI64; omega
  have e3 : inI64 (n.tdiv m * m) := by unfold inI64; omega
  have e4 : inI64 (n.tdiv m - 1) := by unfold inI64; omega
  by_cases h : n.tdiv m * m > n
  · simp only [B54, sem_ask, sem_br, sem_ret, PC.holds, need_true, e1, e2, e3, e4, h, ne_eq, not_false_eq_true, if_true, decide_true, stepO_ret]
  · simp only [B54, sem_ask, sem_br, sem_ret, PC.holds, need_true, e1, e2, e3, e4, h, ne_eq, not_false_eq_true, if_true, if_false, decide_false, Bool.false_eq_true, stepO_ret]
theorem clockI_zero {a b c d : Int} : clockI a b c d = 0 ↔ (0 ≤ a ∧ a ≤ 100000000) ∧ (-1000000 ≤ b ∧ b ≤ 1000000) ∧ (-1000 ≤ c ∧ c ≤ 1000) ∧ (2 ≤ d ∧ d ≤ 1000) := by
  unfold clockI
  simp only [firstI_zero, rangeI_zero, show firstI [] = 0 from rfl, and_true]
theorem quot2 {a d t : Int} (ha : 0 ≤ a ∧ a ≤ 100000000) (hd : 2 ≤ d) (ht : -1 ≤ t ∧ t ≤ 100000000) : -100000001 ≤ (t - a).tdiv d ∧ (t - a).tdiv d ≤ 100000001 := by
  obtain ⟨a1, a2⟩ := tdiv_abs (t - a) (show 1 ≤ d by omega)
  omega
theorem timeI_bd2 {a b c d t : Int} (h : clockI a b c d = 0) (ht : -1 ≤ t ∧ t ≤ 100000000) : -1000000000 ≤ timeI a b c d t ∧ timeI a b c d t ≤ 1000000000 := by
  obtain ⟨h1, h3, h5, h7, h8⟩ := clockI_zero.1 h
  obtain ⟨q1, q2⟩ := quot2 h1 h7 ht
  unfold timeI
  generalize (t - a).tdiv d = q at q1 q2
  split <;> split <;> omega
theorem F51_eq2 {a b c d t : Int} (h : clockI a b c d = 0) (ht : -1 ≤ t ∧ t ≤ 100000000) : F51 a b c d t = some (timeI a b c d t) := by
  obtain ⟨⟨h1, h2⟩, ⟨h3, h4⟩, ⟨h5, h6⟩, ⟨h7, h8⟩⟩ := clockI_zero.1 h
  obtain ⟨q1, q2⟩ := quot2 ⟨h1, h2⟩ h7 ht
  unfold F51 timeI; rw [res_eq]
  generalize hq : (t - a).tdiv d = q at q1 q2
  generalize hM : (if -c > c then -c else c) = M
  have hM1 : M = (if c < 0 then 0 - c else c) := by rw [← hM]; split <;> split <;> omega
  have e1 : inI64 (t - a) := by unfold inI64; omega
  have e2 : d ≠ 0 := by omega
  have e3 : inI64 q := by unfold inI64; omega
  have e4 : inI64 (t + b) := by unfold inI64; omega
  have e5 : inI64 (-c) := by unfold inI64; omega
  by_cases hc : c < 0
  · have hM2 : M = 0 - c := by rw [hM1, if_pos hc]
    have e6 : inI64 (-if M < q then M else q) := by unfold inI64; split <;> omega
    have e7 : inI64 (t + b + -if M < q then M else q) := by unfold inI64; split <;> omega
    simp only [B51, sem_ask, sem_br, sem_ret, PC.holds, need_true, hq, hM, e1, e2, e3, e4, e5, e6, e7, hc, ne_eq, not_false_eq_true, if_true, decide_true, stepO_ret, stepO_nxt, Option.some.injEq]
    rw [hM2]; split <;> split <;> omega
  · have hM2 : M = c := by rw [hM1, if_neg hc]
    have e7 : inI64 (t + b + if M < q then M else q) := by unfold inI64; split <;> omega
    simp only [B51, sem_ask, sem_br, sem_ret, PC.holds, need_true, hq, hM, e1, e2, e3, e4, e5, e7, hc, ne_eq, not_false_eq_true, if_true, if_false, decide_false, Bool.false_eq_true, stepO_ret, stepO_nxt, Option.some.injEq]
    rw [hM2]; split <;> split <;> omega

/-- Which of some successive integers hold. -/
def ticks (p : Int → Bool) : Nat → Int → List Int
  | 0, _ => []
  | n + 1, t => if p t then t :: ticks p n (t + 1) else ticks p n (t + 1)
theorem ticks_len (p : Int → Bool) : ∀ n t, (ticks p n t).length ≤ n
  | 0, _ => Nat.le_refl _
  | n + 1, t => by
    have := ticks_len p n (t + 1)
    unfold ticks; split
    · simp; exact this
    · omega
theorem ticks_congr {p q : Int → Bool} : ∀ (n : Nat) (t : Int), (∀ s, t ≤ s → s < t + (n : Int) → p s = q s) → ticks p n t = ticks q n t
  | 0, _, _ => rfl
  | n + 1, t, h => by
    have h1 := h t (by omega) (by omega)
    have h2 := ticks_congr n (t + 1) fun s a b => h s (by omega) (by omega)
    simp only [ticks, h1, h2]
theorem ticks_skip {p : Int → Bool} : ∀ (k n : Nat) (t : Int), (∀ s, t ≤ s → s < t + (k : Int) → p s = false) → ticks p (k + n) t = ticks p n (t + k)
  | 0, n, t, _ => by simp
  | k + 1, n, t, h => by
    have h1 := h t (by omega) (by omega)
    have h2 := ticks_skip k n (t + 1) fun s a b => h s (by omega) (by omega)
    rw [show k + 1 + n = (k + n) + 1 by omega, ticks, h1, h2]
    simp only [Bool.false_eq_true, if_false]
    congr 1
    omega
theorem ticks_none {p : Int → Bool} (n : Nat) (t : Int) (h : ∀ s, t ≤ s → s < t + (n : Int) → p s = false) : ticks p n t = [] := by
  have := ticks_skip (p := p) n 0 t h
  simpa [ticks] using this
def begins (a b c d m : Int) (t : Int) : Bool := decide (floorI (timeI a b c d t) m > floorI (timeI a b c d (t - 1)) m)

theorem F55_eq (xs : List Int) : F55 xs.length (xs.map vI) = some (xs.length, xs.map vI) := by
  unfold F55; rw [res_eq]
  have h0 : (0 : Int) ≤ (xs.length : Int) := by omega
  simp only [B55, sem_ask, sem_ret, PC.holds, need_true, h0, Int.le_refl, List.length_map, Nat.mul_one, stepO_ret, Int.toNat_natCast, Nat.sub_zero, List.drop_zero]
  rw [List.take_of_length_le (by simp)]
theorem F55_nil : F55 0 [] = some (0, []) := F55_eq []
def hit (a b c d m t : Int) : Bool := decide (t > a) && begins a b c d m t
theorem F23_c2 {a b c d m : Int} (hc : clockI a b c d = 0) (hm : 2 ≤ m ∧ m ≤ 100000) (f to cnt : Int) (hf : 0 ≤ f) (hto : f + cnt ≤ 100000000) : ∀ (n : Nat) (k : Int) (xs : List Int) (e : Nat), cnt = k + n → 0 ≤ k → xs.length + n ≤ 10000 →
    res B23 (.c2 m e xs.length (xs.map vI) cnt k a b c d f to e) = some ((xs ++ ticks (hit a b c d m) n (f + k)).length, (xs ++ ticks (hit a b c d m) n (f + k)).map vI, 0)
  | 0, k, xs, e, h1, h2, h3 => by
    rw [res_eq]
    have : ¬ k < cnt := by omega
    simp only [B23, sem_br, sem_ret, sem_bind_some, sem_sees, F55_eq, this, decide_false, Bool.false_eq_true, if_false, stepO_ret, ticks, List.append_nil]
  | n + 1, k, xs, e, h1, h2, h3 => by
    have hlt : k < cnt := by omega
    have hb1 := timeI_bd2 (t := f + k) hc ⟨by omega, by omega⟩
    have hb2 := timeI_bd2 (t := f + k - 1) hc ⟨by omega, by omega⟩
    have w1 : IntKind.i64.wrap (f + k) = f + k := wrap_in (by unfold inI64; omega)
    have w2 : IntKind.i64.wrap (f + k - 1) = f + k - 1 := wrap_in (by unfold inI64; omega)
    have w3 : IntKind.i64.wrap (k + 1) = k + 1 := wrap_in (by unfold inI64; omega)
    have e3 : fitsN (xs.length + 1) 8 := by unfold fitsN; omega
    rw [res_eq]
    simp only [B23, sem_br, sem_bind_some, sem_sees, sem_triv, sem_ask, sem_nxt, PC.holds, need_true, w1, w2, w3, F51_eq2 hc (t := f + k) ⟨by omega, by omega⟩, F51_eq2 hc (t := f + k - 1) ⟨by omega, by omega⟩, F54_eq hm hb1, F54_eq hm hb2, hlt, e3, decide_true, if_true]
    have hcond : (if decide (f + k > a) = true then decide (floorI (timeI a b c d (f + k)) m > floorI (timeI a b c d (f + k - 1)) m) else false) = hit a b c d m (f + k) := by
      unfold hit begins
      by_cases hg : f + k > a <;> simp [hg]
    rw [hcond]
    by_cases hb : hit a b c d m (f + k) = true
    · have ih := F23_c2 hc hm f to cnt hf hto n (k + 1) (xs ++ [f + k]) (e + 1) (by omega) (by omega) (by simp; omega)
      simp only [List.length_append, List.length_cons, List.length_nil, List.map_append, List.map_cons, List.map_nil, Nat.zero_add, List.append_assoc, List.cons_append, List.nil_append, ← Int.add_assoc] at ih
      simp only [hb, if_true, stepO_nxt, ticks]
      rw [ih]
      simp
    · have hb' : hit a b c d m (f + k) = false := by simpa using hb
      have ih := F23_c2 hc hm f to cnt hf hto n (k + 1) xs e (by omega) (by omega) (by omega)
      simp only [← Int.add_assoc] at ih
      simp only [hb', if_false, Bool.false_eq_true, stepO_nxt, ticks]
      exact ih
theorem F23_c1 {a b c d m : Int} (hc : clockI a b c d = 0) (hm : 2 ≤ m ∧ m ≤ 100000) (f to cnt : Int) (hf : 0 ≤ f) (hto : f + cnt ≤ 100000000) : ∀ (n : Nat) (k : Int), cnt = k + n → 0 ≤ k → n ≤ 5000 →
    res B23 (.c1 m cnt k a b c d f to) = some ((ticks (hit a b c d m) n (f + k)).length, (ticks (hit a b c d m) n (f + k)).map vI, 0)
  | 0, k, h1, h2, h3 => by
    rw [res_eq]
    have : ¬ k < cnt := by omega
    simp only [B23, sem_br, sem_ret, sem_bind_some, sem_sees, F55_nil, this, decide_false, Bool.false_eq_true, if_false, stepO_ret, ticks]
    rfl
  | n + 1, k, h1, h2, h3 => by
    have hlt : k < cnt := by omega
    have hb1 := timeI_bd2 (t := f + k) hc ⟨by omega, by omega⟩
    have hb2 := timeI_bd2 (t := f + k - 1) hc ⟨by omega, by omega⟩
    have w1 : IntKind.i64.wrap (f + k) = f + k := wrap_in (by unfold inI64; omega)
    have w2 : IntKind.i64.wrap (f + k - 1) = f + k - 1 := wrap_in (by unfold inI64; omega)
    have w3 : IntKind.i64.wrap (k + 1) = k + 1 := wrap_in (by unfold inI64; omega)
    rw [res_eq]
    simp only [B23, sem_br, sem_bind_some, sem_sees, sem_triv, sem_ask, sem_nxt, PC.holds, need_true, w1, w2, w3, F51_eq2 hc (t := f + k) ⟨by omega, by omega⟩, F51_eq2 hc (t := f + k - 1) ⟨by omega, by omega⟩, F54_eq hm hb1, F54_eq hm hb2, hlt, decide_true, if_true]
    have hcond : (if decide (f + k > a) = true then decide (floorI (timeI a b c d (f + k)) m > floorI (timeI a b c d (f + k - 1)) m) else false) = hit a b c d m (f + k) := by
      unfold hit begins
      by_cases hg : f + k > a <;> simp [hg]
    rw [hcond]
    by_cases hb : hit a b c d m (f + k) = true
    · have ih := F23_c2 hc hm f to cnt hf hto n (k + 1) [f + k] 0 (by omega) (by omega) (by simp; omega)
      simp only [← Int.add_assoc] at ih
      simp only [hb, if_true, stepO_nxt, ticks]
      exact ih
    · have hb' : hit a b c d m (f + k) = false := by simpa using hb
      have ih := F23_c1 hc hm f to cnt hf hto n (k + 1) (by omega) (by omega) (by omega)
      simp only [← Int.add_assoc] at ih
      simp only [hb', if_false, Bool.false_eq_true, stepO_nxt, ticks]
      exact ih
def spanI (f to : Int) : Int := if f < 0 ∨ f > to ∨ to > 100000000 then 14 else 0
def manyI (f to : Int) : Int := whenI (decide (IntKind.i64.wrap (to - f) > 4096)) 5
def ticksL (a b c d f to m : Int) : List Int := ticks (hit a b c d m) (to - f).toNat f
theorem spanI_zero {f to : Int} : spanI f to = 0 ↔ 0 ≤ f ∧ f ≤ to ∧ to ≤ 100000000 := by
  unfold spanI; split <;> omega
theorem manyI_zero {f to : Int} (h : spanI f to = 0) : manyI f to = 0 ↔ to - f ≤ 4096 := by
  obtain ⟨h1, h2, h3⟩ := spanI_zero.1 h
  unfold manyI whenI
  rw [wrap_in (by unfold inI64; omega)]
  by_cases hx : to - f > 4096 <;> simp [hx] <;> omega
def inner (a b c d f to m : Int) : Nat × List DV × Int := if firstI [manyI f to, rangeI m 2 100000] = 0 then ((ticksL a b c d f to m).length, (ticksL a b c d f to m).map vI, 0) else (0, [], firstI [manyI f to, rangeI m 2 100000])
def outer (a b c d f to m : Int) : Nat × List DV × Int := if firstI [clockI a b c d, spanI f to] = 0 then inner a b c d f to m else (0, [], firstI [clockI a b c d, spanI f to])
theorem F23_in {a b c d f to m : Int} (h : firstI [clockI a b c d, spanI f to] = 0) :
    stepO (res B23) ((Tr.bind (F38 (decide (IntKind.i64.wrap (to - f) > 4096)) 5) fun v39 => .bind (F49 m 2 100000) fun v40 => .bind (F35 2 [(.v (.int .i64 v39)), (.v (.int .i64 v40))]) fun v41 => .br (v41 != 0) (.ret (0, [], v41)) (.nxt (.c1 m (IntKind.i64.wrap (to - f)) 0 a b c d f to))) : Tr S23 (Nat × List DV × Int)).sem = some (inner a b c d f to m) := by
  obtain ⟨h1, h2⟩ := firstI_zero .. |>.1 h
  obtain ⟨h2, _⟩ := firstI_zero .. |>.1 h2
  obtain ⟨s1, s2, s3⟩ := spanI_zero.1 h2
  have hw : whenI (decide (IntKind.i64.wrap (to - f) > 4096)) 5 = manyI f to := rfl
  simp only [F38_eq, F49_eq, F35_2, sem_bind_some, hw, sem_br]
  unfold inner
  by_cases hz : firstI [manyI f to, rangeI m 2 100000] = 0
  · obtain ⟨z1, z2⟩ := firstI_zero .. |>.1 hz
    obtain ⟨z2, _⟩ := firstI_zero .. |>.1 z2
    have z1 := (manyI_zero h2).1 z1
    have z2 := rangeI_zero.1 z2
    rw [if_pos hz]
    simp only [hz, bne_self_eq_false, Bool.false_eq_true, if_false, sem_nxt, stepO_nxt]
    rw [wrap_in (by unfold inI64; omega), F23_c1 h1 z2 f to (to - f) s1 (by omega) (to - f).toNat 0 (by omega) (by omega) (by omega), Int.add_zero]
    rfl
  · have hz' : (firstI [manyI f to, rangeI m 2 100000] != 0) = true := by simpa using hz
    rw [if_neg hz]
    simp only [hz', if_true, sem_ret, stepO_ret]
theorem F23_eq (a b c d f to m : Int) : F23 a b c d f to m = some (outer a b c d f to m) := by
  unfold F23 outer; rw [res_eq]
  have key : ∀ x, x = spanI f to → firstI [clockI a b c d, x] = firstI [clockI a b c d, spanI f to] := fun x h => by rw [h]
  by_cases hz : firstI [clockI a b c d, spanI f to] = 0
  · have hin := F23_in hz (m := m)
    have h2 := (firstI_zero .. |>.1 (firstI_zero .. |>.1 hz).2).1
    obtain ⟨s1, s2, s3⟩ := spanI_zero.1 h2
    have e1 : ¬ f < 0 := by omega
    have e2 : ¬ f > to := by omega
    have e3 : ¬ to > 100000000 := by omega
    have hs : firstI [clockI a b c d, whenI false 14] = 0 := by rw [show whenI false 14 = spanI f to from h2.symm]; exact hz
    rw [if_pos hz, ← hin]
    simp only [B23, F53_eq, F38_eq, F35_2, F49_eq, sem_bind_some, sem_sees, sem_ask, sem_br, PC.holds, need_true, e1, e2, e3, decide_false, Bool.false_eq_true, if_false, hs, bne_self_eq_false]
  · have hz' : (firstI [clockI a b c d, spanI f to] != 0) = true := by simpa using hz
    rw [if_neg hz]
    by_cases e1 : f < 0
    · have hs : spanI f to = whenI true 14 := by unfold spanI whenI; simp [e1]
      rw [hs] at hz' ⊢
      simp only [B23, F53_eq, F38_eq, F35_2, sem_bind_some, sem_sees, sem_ask, sem_br, PC.holds, need_true, e1, decide_true, if_true, hz', sem_ret, stepO_ret]
    · by_cases e2 : f > to
      · have hs : spanI f to = whenI true 14 := by unfold spanI whenI; simp [e2]
        rw [hs] at hz' ⊢
        simp only [B23, F53_eq, F38_eq, F35_2, sem_bind_some, sem_sees, sem_ask, sem_br, PC.holds, need_true, e1, e2, decide_true, decide_false, Bool.false_eq_true, if_false, if_true, hz', sem_ret, stepO_ret]
      · have hs : spanI f to = whenI (decide (to > 100000000)) 14 := by unfold spanI whenI; simp [e1, e2]
        rw [hs] at hz' ⊢
        simp only [B23, F53_eq, F38_eq, F35_2, sem_bind_some, sem_sees, sem_ask, sem_br, PC.holds, need_true, e1, e2, decide_false, Bool.false_eq_true, if_false, if_true, hz', sem_ret, stepO_ret]
end Go.Kv
