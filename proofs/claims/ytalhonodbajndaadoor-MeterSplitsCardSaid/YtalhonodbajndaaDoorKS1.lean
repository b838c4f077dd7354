/- What each register of a meter has counted after its cycles, in plain Lean. -/
import Derived.Test.YtalhonodbajndaaDoorKD3
namespace Go.Kv
set_option linter.unusedVariables false
set_option linter.unusedSimpArgs false
open Go Go.RowKit
set_option maxRecDepth 100000
/-- What a cycle adds to a register. -/
def ctr (p q : Int) (k : Nat) : Int := (if k = sideN p then absI p else 0) + (if q ≠ 0 ∧ k = 1 + qd p q then absI q else 0)
def rgT (A : List Int) (k : Nat) : Int := A.getD (k * 2) 0 * 1000000 + A.getD (k * 2 + 1) 0
/-- B is A after energies S. -/
def Adv (A : List Int) (S : Nat → Int) (B : List Int) : Prop := ∀ k, k < 6 → B.getD (k * 2) 0 = (rgT A k + S k) / 1000000 % 1000000 ∧ B.getD (k * 2 + 1) 0 = (rgT A k + S k) % 1000000
theorem updL_get {A : List Int} (hl : A.length = 12) {k j : Nat} (hj : j < 6) (e : Int) :
    (updL A k e).getD (j * 2) 0 = (if j = k then upU (A.getD (j * 2) 0) (A.getD (j * 2 + 1) 0) e else A.getD (j * 2) 0) ∧
    (updL A k e).getD (j * 2 + 1) 0 = (if j = k then upV (A.getD (j * 2 + 1) 0) e else A.getD (j * 2 + 1) 0) := by
  unfold updL
  simp only [List.getD_eq_getElem?_getD, List.getElem?_set, List.length_set, hl]
  by_cases hk : k = j
  · subst hk
    simp only [show ¬ (k * 2 + 1 = k * 2) by omega, if_false, if_true, show k * 2 < 12 by omega, show k * 2 + 1 < 12 by omega, Option.getD_some]
    exact ⟨trivial, trivial⟩
  · simp only [show ¬ (k * 2 + 1 = j * 2) by omega, show ¬ (k * 2 = j * 2) by omega, show ¬ (k * 2 + 1 = j * 2 + 1) by omega, show ¬ (k * 2 = j * 2 + 1) by omega, show ¬ (j = k) from fun h => hk h.symm, if_false]
    exact ⟨trivial, trivial⟩
theorem adv0 {A : List Int} (hA : okM A) : Adv A (fun _ => 0) A := by
  intro k hk
  obtain ⟨h1, h2⟩ := hA k hk
  show _ = (rgT A k + 0) / 1000000 % 1000000 ∧ _ = (rgT A k + 0) % 1000000
  unfold rgT; omega
theorem adv_congr {A B : List Int} {S S' : Nat → Int} (h : Adv A S B) (e : ∀ k, S k = S' k) : Adv A S' B := by
  intro k hk
  rw [← e k]; exact h k hk
theorem adv_upd {A B : List Int} {S : Nat → Int} (hA : okM A) (hl : B.length = 12) (h : Adv A S B) (hS : ∀ k, 0 ≤ S k) (n : Nat) (e : Int) : Adv A (fun k => S k + (if k = n then e else 0)) (updL B n e) := by
  intro k hk
  obtain ⟨h1, h2⟩ := h k hk
  obtain ⟨g1, g2⟩ := updL_get (k := n) hl hk e
  obtain ⟨a1, a2⟩ := hA k hk
  have := hS k
  rw [g1, g2, h1, h2]
  by_cases hkn : k = n
  · simp only [hkn, if_true]
    subst hkn
    unfold upU upV
    unfold rgT
    omega
  · simp only [hkn, if_false, Int.add_zero]
    exact ⟨trivial, trivial⟩
theorem absI_nn (x : Int) : 0 ≤ absI x := by unfold absI; split <;> omega
theorem ctr_nn (p q : Int) (k : Nat) : 0 ≤ ctr p q k := by
  have h1 := absI_nn p
  have h2 := absI_nn q
  unfold ctr; split <;> split <;> omega
theorem adv_cyc {A B : List Int} {S : Nat → Int} (hA : okM A) (hl : B.length = 12) (h : Adv A S B) (hS : ∀ k, 0 ≤ S k) (p q : Int) : Adv A (fun k => S k + ctr p q k) (cyc B p q) := by
  have u := adv_upd hA hl h hS (sideN p) (absI p)
  unfold cyc
  by_cases hq : q = 0
  · rw [if_pos hq]
    exact adv_congr u fun k => by simp only [ctr, hq, ne_eq, not_true_eq_false, false_and, if_false, Int.add_zero]
  · rw [if_neg hq]
    have hn : ∀ k, 0 ≤ S k + (if k = sideN p then absI p else 0) := fun k => by
      have h1 := hS k
      have h2 := absI_nn p
      split <;> omega
    have u2 := adv_upd hA (by rw [updL_len, hl]) u hn (1 + qd p q) (absI q)
    exact adv_congr u2 fun k => by simp only [ctr, hq, ne_eq, not_false_eq_true, true_and, ← Int.add_assoc]
def ctrS (v i : List Int) : Nat → Nat → Nat → Int
  | 0, _, _ => 0
  | m + 1, j, k => ctr (pI (wn v j) (wn i j)) (qI (wn v j) (wn i j)) k + ctrS v i m (j + 1) k
theorem adv_run {A : List Int} (hA : okM A) (v i : List Int) : ∀ (m j : Nat) {B : List Int} {S : Nat → Int}, B.length = 12 → Adv A S B → (∀ k, 0 ≤ S k) → Adv A (fun k => S k + ctrS v i m j k) (runC v i m j B)
  | 0, j, B, S, _, h, _ => adv_congr h fun k => by rw [ctrS, Int.add_zero]
  | m + 1, j, B, S, hl, h, hS => by
    have c := adv_cyc hA hl h hS (pI (wn v j) (wn i j)) (qI (wn v j) (wn i j))
    have hn : ∀ k, 0 ≤ S k + ctr (pI (wn v j) (wn i j)) (qI (wn v j) (wn i j)) k := fun k => by
      have h1 := hS k
      have h2 := ctr_nn (pI (wn v j) (wn i j)) (qI (wn v j) (wn i j)) k
      omega
    have r := adv_run hA v i m (j + 1) (by rw [cyc_len, hl]) c hn
    exact adv_congr r fun k => by rw [ctrS, Int.add_assoc]
/-! the difference of the readings -/
def difI (u r u' r' : Int) : Int := (u' * 1000000 + r' - (u * 1000000 + r) + 1000000000000) % 1000000000000
theorem adv_dif {A B : List Int} {S : Nat → Int} (hA : okM A) (h : Adv A S B) {k : Nat} (hk : k < 6) (h0 : 0 ≤ S k) (h1 : S k < 1000000000000) :
    difI (A.getD (k * 2) 0) (A.getD (k * 2 + 1) 0) (B.getD (k * 2) 0) (B.getD (k * 2 + 1) 0) = S k := by
  obtain ⟨g1, g2⟩ := h k hk
  obtain ⟨a1, a2⟩ := hA k hk
  rw [g1, g2]
  unfold difI rgT
  omega
/-! two parts -/
theorem wn_drop (v : List Int) (a j : Nat) : wn (v.drop (4 * a)) j = wn v (a + j) := by
  unfold wn; rw [List.drop_drop, show 4 * a + 4 * j = 4 * (a + j) by omega]
theorem run_drop (v i : List Int) (a : Nat) : ∀ (m j : Nat) (B : List Int), runC (v.drop (4 * a)) (i.drop (4 * a)) m j B = runC v i m (a + j) B
  | 0, _, _ => rfl
  | m + 1, j, B => by
    unfold runC
    rw [wn_drop, wn_drop, run_drop v i a m (j + 1)]
    rfl
theorem wn_take {v : List Int} {a j : Nat} (hj : j < a) : wn (v.take (4 * a)) j = wn v j := by
  unfold wn; rw [List.drop_take, List.take_take, show min 4 (4 * a - 4 * j) = 4 by omega]
theorem run_take (v i : List Int) (a : Nat) : ∀ (m j : Nat) (B : List Int), j + m ≤ a → runC (v.take (4 * a)) (i.take (4 * a)) m j B = runC v i m j B
  | 0, _, _, _ => rfl
  | m + 1, j, B, h => by
    unfold runC
    rw [wn_take (by omega), wn_take (by omega), run_take v i a m (j + 1) _ (by omega)]
theorem run_add (v i : List Int) : ∀ (m n j : Nat) (B : List Int), runC v i n (j + m) (runC v i m j B) = runC v i (m + n) j B
  | 0, n, j, B => by rw [Nat.zero_add]; rfl
  | m + 1, n, j, B => by
    have ih := run_add v i m n (j + 1) (cyc B (pI (wn v j) (wn i j)) (qI (wn v j) (wn i j)))
    rw [show j + (m + 1) = j + 1 + m by omega, show m + 1 + n = (m + n) + 1 by omega]
    exact ih
/-- Counted in two parts as at once. -/
theorem run_parts (v i : List Int) {a n : Nat} (h : a ≤ n) (B : List Int) : runC (v.drop (4 * a)) (i.drop (4 * a)) (n - a) 0 (runC (v.take (4 * a)) (i.take (4 * a)) a 0 B) = runC v i n 0 B := by
  rw [run_drop, run_take v i a a 0 B (by omega)]
  have := run_add v i a (n - a) 0 B
  rw [Nat.zero_add] at this
  rw [Nat.add_zero, this, show a + (n - a) = n by omega]
/-! the opposite current -/
theorem qd_neg {p q : Int} (hp : p ≠ 0) (hq : q ≠ 0) : qd (-p) (-q) = if qd p q = 1 then 3 else if qd p q = 2 then 4 else if qd p q = 3 then 1 else 2 := by
  unfold qd
  by_cases h1 : p ≥ 0 <;> by_cases h2 : q ≥ 0
  · rw [if_neg (by omega), if_neg (by omega), if_pos h1, if_pos h2]; rfl
  · rw [if_neg (by omega), if_pos (by omega), if_pos h1, if_neg h2]; rfl
  · rw [if_pos (by omega), if_neg (by omega), if_neg h1, if_pos h2]; rfl
  · rw [if_pos (by omega), if_pos (by omega), if_neg h1, if_neg h2]; rfl
theorem absI_neg (x : Int) : absI (-x) = absI x := by unfold absI; split <;> split <;> omega
theorem side_neg {p : Int} (hp : p ≠ 0) : sideN (-p) = 1 - sideN p := by unfold sideN; split <;> split <;> omega
def sw (k : Nat) : Nat := if k = 0 then 1 else if k = 1 then 0 else 2 + (k - 2 + 2) % 4
theorem qd_cases (p q : Int) : qd p q = 1 ∨ qd p q = 2 ∨ qd p q = 3 ∨ qd p q = 4 := by
  have := qd_bd p q; omega
theorem side_cases (p : Int) : sideN p = 0 ∨ sideN p = 1 := by unfold sideN; split <;> simp
theorem ctr_neg {p q : Int} (hp : p ≠ 0) (hq : q ≠ 0) {k : Nat} (hk : k < 6) : ctr (-p) (-q) k = ctr p q (sw k) := by
  have hq' : -q ≠ 0 := by omega
  unfold ctr
  rw [absI_neg, absI_neg, side_neg hp, qd_neg hp hq]
  simp only [ne_eq, hq, hq', not_false_eq_true, true_and]
  rcases side_cases p with e | e <;> rcases qd_cases p q with f | f | f | f <;> rw [e, f] <;> unfold sw <;>
    (match k, hk with
     | 0, _ => simp
     | 1, _ => simp
     | 2, _ => simp
     | 3, _ => simp
     | 4, _ => simp
     | 5, _ => simp)
theorem ctr_le {p q c : Int} (hp : absI p ≤ c) (hq : absI q ≤ c) (k : Nat) : ctr p q k ≤ c := by
  have h1 := absI_nn p
  have h2 := absI_nn q
  unfold ctr
  rcases side_cases p with e | e <;> rcases qd_cases p q with f | f | f | f <;> rw [e, f] <;> (split <;> split <;> omega)
theorem pI_neg (W a b c d) : pI W [-a, -b, -c, -d] = - pI W [a, b, c, d] := by
  show 0 + 16 * W.getD 0 0 * (16 * -a) + 16 * W.getD 1 0 * (16 * -b) + 16 * W.getD 2 0 * (16 * -c) + 16 * W.getD 3 0 * (16 * -d) = -(0 + 16 * W.getD 0 0 * (16 * a) + 16 * W.getD 1 0 * (16 * b) + 16 * W.getD 2 0 * (16 * c) + 16 * W.getD 3 0 * (16 * d))
  simp only [Int.mul_neg]
  omega
theorem qI_neg (W a b c d) : qI W [-a, -b, -c, -d] = - qI W [a, b, c, d] := by
  show 0 + 16 * W.getD 3 0 * (16 * -a) + 16 * W.getD 0 0 * (16 * -b) + 16 * W.getD 1 0 * (16 * -c) + 16 * W.getD 2 0 * (16 * -d) = -(0 + 16 * W.getD 3 0 * (16 * a) + 16 * W.getD 0 0 * (16 * b) + 16 * W.getD 1 0 * (16 * c) + 16 * W.getD 2 0 * (16 * d))
  simp only [Int.mul_neg]
  omega
abbrev X8 := Int × Int × Int × Int × Int × Int × Int × Int
def m32 (n : Int) : Int := n.tmod 32
theorem m32_bd (n : Int) : -31 ≤ m32 n ∧ m32 n ≤ 31 := by
  unfold m32
  have h1 := Int.tmod_lt_of_pos n (show (0 : Int) < 32 by decide)
  have h2 : -32 < n.tmod 32 := by
    have := Int.tmod_lt_of_pos (-n) (show (0 : Int) < 32 by decide)
    rw [Int.neg_tmod] at this; omega
  omega
def v4 (x : X8) : List Int := [m32 x.1, m32 x.2.1, m32 x.2.2.1, m32 x.2.2.2.1]
def i4 (x : X8) : List Int := [m32 x.2.2.2.2.1, m32 x.2.2.2.2.2.1, m32 x.2.2.2.2.2.2.1, m32 x.2.2.2.2.2.2.2]
def n4 (x : X8) : List Int := [-m32 x.2.2.2.2.1, -m32 x.2.2.2.2.2.1, -m32 x.2.2.2.2.2.2.1, -m32 x.2.2.2.2.2.2.2]
theorem f4_len {E : Type} {f : E → List Int} (hf : ∀ c, (f c).length = 4) : ∀ l : List E, (l.flatMap f).length = 4 * l.length
  | [] => rfl
  | x :: l => by rw [List.flatMap_cons, List.length_append, hf, f4_len hf l, List.length_cons]; omega
theorem f4_wn {E : Type} {f : E → List Int} (hf : ∀ c, (f c).length = 4) : ∀ (l : List E) (j : Nat) (hj : j < l.length), wn (l.flatMap f) j = f l[j]
  | x :: l, 0, _ => by
    unfold wn
    rw [Nat.mul_zero, List.drop_zero, List.flatMap_cons, List.take_append_of_le_length (by rw [hf]; exact Nat.le_refl _), List.take_of_length_le (by rw [hf]; exact Nat.le_refl _)]
    rfl
  | x :: l, j + 1, hj => by
    have ih := f4_wn hf l j (by simpa using hj)
    unfold wn at ih ⊢
    rw [List.flatMap_cons, show 4 * (j + 1) = (f x).length + 4 * j by rw [hf]; omega, List.drop_append, List.drop_of_length_le (by omega), List.nil_append, Nat.add_sub_cancel_left, ih]
    rfl
theorem smp {a : Int} (h : -31 ≤ a ∧ a ≤ 31) : Smp a := ⟨flOk h, by omega⟩
theorem v4_smp (l : List X8) : Smps (l.flatMap v4) := by
  intro a ha
  rw [List.mem_flatMap] at ha
  obtain ⟨x, _, hx⟩ := ha
  simp only [v4, List.mem_cons, List.not_mem_nil, or_false] at hx
  rcases hx with rfl | rfl | rfl | rfl <;> exact smp (m32_bd _)
theorem i4_smp (l : List X8) : Smps (l.flatMap i4) := by
  intro a ha
  rw [List.mem_flatMap] at ha
  obtain ⟨x, _, hx⟩ := ha
  simp only [i4, List.mem_cons, List.not_mem_nil, or_false] at hx
  rcases hx with rfl | rfl | rfl | rfl <;> exact smp (m32_bd _)
theorem n4_smp (l : List X8) : Smps (l.flatMap n4) := by
  intro a ha
  rw [List.mem_flatMap] at ha
  obtain ⟨x, _, hx⟩ := ha
  simp only [n4, List.mem_cons, List.not_mem_nil, or_false] at hx
  have (n : Int) : -31 ≤ -m32 n ∧ -m32 n ≤ 31 := by have := m32_bd n; omega
  rcases hx with rfl | rfl | rfl | rfl <;> exact smp (this _)
theorem Smps.take {L : List Int} (h : Smps L) (k : Nat) : Smps (L.take k) := fun a ha => h a (List.mem_of_mem_take ha)
theorem Smps.drop {L : List Int} (h : Smps L) (k : Nat) : Smps (L.drop k) := fun a ha => h a (List.mem_of_mem_drop ha)
/-- The powers of a cycle. -/
def pX (x : X8) : Int := pI (v4 x) (i4 x)
def qX (x : X8) : Int := qI (v4 x) (i4 x)
theorem pX_neg (x : X8) : pI (v4 x) (n4 x) = - pX x := pI_neg _ _ _ _ _
theorem qX_neg (x : X8) : qI (v4 x) (n4 x) = - qX x := qI_neg _ _ _ _ _
def sumX (f : X8 → Int) (l : List X8) : Int := (l.map f).sum
theorem sumX_cons (f : X8 → Int) (x : X8) (l : List X8) : sumX f (x :: l) = f x + sumX f l := by simp [sumX]
theorem sumX_snoc (f : X8 → Int) (l : List X8) (x : X8) : sumX f (l ++ [x]) = sumX f l + f x := by simp [sumX]
theorem ctrS_v (l : List X8) (k : Nat) : ∀ (m j : Nat), l.length = j + m → ctrS (l.flatMap v4) (l.flatMap i4) m j k = sumX (fun x => ctr (pX x) (qX x) k) (l.drop j)
  | 0, j, h => by rw [List.drop_eq_nil_of_le (by omega)]; rfl
  | m + 1, j, h => by
    have hj : j < l.length := by omega
    rw [List.drop_eq_getElem_cons hj, sumX_cons, ctrS, ctrS_v l k m (j + 1) (by omega), f4_wn (fun _ => rfl) l j hj, f4_wn (fun _ => rfl) l j hj]
    rfl
theorem ctrS_n (l : List X8) (hn : ∀ x ∈ l, pX x ≠ 0 ∧ qX x ≠ 0) {k : Nat} (hk : k < 6) : ∀ (m j : Nat), l.length = j + m → ctrS (l.flatMap v4) (l.flatMap n4) m j k = sumX (fun x => ctr (pX x) (qX x) (sw k)) (l.drop j)
  | 0, j, h => by rw [List.drop_eq_nil_of_le (by omega)]; rfl
  | m + 1, j, h => by
    have hj : j < l.length := by omega
    obtain ⟨h1, h2⟩ := hn _ (List.getElem_mem hj)
    rw [List.drop_eq_getElem_cons hj, sumX_cons, ctrS, ctrS_n l hn hk m (j + 1) (by omega), f4_wn (fun _ => rfl) l j hj, f4_wn (fun _ => rfl) l j hj, pX_neg, qX_neg, ctr_neg h1 h2 hk]
theorem pqX_bd (x : X8) : absI (pX x) ≤ 20000000000 ∧ absI (qX x) ≤ 20000000000 := by
  have hv : Smps (v4 x) := by have := v4_smp [x]; simpa using this
  have hi : Smps (i4 x) := by have := i4_smp [x]; simpa using this
  obtain ⟨h1, h2⟩ := pq_bd hv hi (Nat.le_refl _) (Nat.le_refl _)
  unfold pX qX absI
  constructor <;> split <;> omega
theorem sumX_bd (k : Nat) : ∀ l : List X8, 0 ≤ sumX (fun x => ctr (pX x) (qX x) k) l ∧ sumX (fun x => ctr (pX x) (qX x) k) l ≤ 20000000000 * l.length
  | [] => by simp [sumX]
  | x :: l => by
    have h1 := ctr_nn (pX x) (qX x) k
    have h2 := ctr_le (pqX_bd x).1 (pqX_bd x).2 k
    have h3 := sumX_bd k l
    rw [sumX_cons, List.length_cons]
    omega
theorem len12 {R : List Int} (h : R.length = 12) : [R.getD 0 0, R.getD 1 0, R.getD 2 0, R.getD 3 0, R.getD 4 0, R.getD 5 0, R.getD 6 0, R.getD 7 0, R.getD 8 0, R.getD 9 0, R.getD 10 0, R.getD 11 0] = R := by
  match R, h with
  | [a0, a1, a2, a3, a4, a5, a6, a7, a8, a9, a10, a11], _ => rfl
/-- Counted, of a meter that is a list. -/
theorem F8_R {v i R : List Int} {n : Nat} (hv : v.length = 4 * n) (hi : i.length = 4 * n) (hn : n ≤ 1024) (sv : Smps v) (si : Smps i) (hl : R.length = 12) (hA : okM R) :
    F8 (R.getD 0 0) (R.getD 1 0) (R.getD 2 0) (R.getD 3 0) (R.getD 4 0) (R.getD 5 0) (R.getD 6 0) (R.getD 7 0) (R.getD 8 0) (R.getD 9 0) (R.getD 10 0) (R.getD 11 0) v.length (v.map vF) i.length (i.map vF) = some (tup (runC v i n 0 R)) := by
  have e := len12 hl
  have := F8_eq hv hi hn sv si (R.getD 0 0) (R.getD 1 0) (R.getD 2 0) (R.getD 3 0) (R.getD 4 0) (R.getD 5 0) (R.getD 6 0) (R.getD 7 0) (R.getD 8 0) (R.getD 9 0) (R.getD 10 0) (R.getD 11 0) (by rw [e]; exact hA)
  rw [e] at this
  exact this
section
variable {l : List X8} {A : List Int}
def whole (l : List X8) (A : List Int) : List Int := runC (l.flatMap v4) (l.flatMap i4) l.length 0 A
def turned (l : List X8) (A : List Int) : List Int := runC (l.flatMap v4) (l.flatMap n4) l.length 0 A
def prtA (l : List X8) (a : Nat) (A : List Int) : List Int := runC ((l.flatMap v4).take (4 * a)) ((l.flatMap i4).take (4 * a)) a 0 A
theorem whole_ok (hA : okM A) (hl : A.length = 12) : okM (whole l A) ∧ (whole l A).length = 12 := runC_ok _ _ hA hl
theorem turned_ok (hA : okM A) (hl : A.length = 12) : okM (turned l A) ∧ (turned l A).length = 12 := runC_ok _ _ hA hl
theorem prtA_ok (a : Nat) (hA : okM A) (hl : A.length = 12) : okM (prtA l a A) ∧ (prtA l a A).length = 12 := runC_ok _ _ hA hl
theorem whole_F (hl : A.length = 12) (hA : okM A) (hm : l.length ≤ 10) : F8 (A.getD 0 0) (A.getD 1 0) (A.getD 2 0) (A.getD 3 0) (A.getD 4 0) (A.getD 5 0) (A.getD 6 0) (A.getD 7 0) (A.getD 8 0) (A.getD 9 0) (A.getD 10 0) (A.getD 11 0)
    (l.flatMap v4).length ((l.flatMap v4).map vF) (l.flatMap i4).length ((l.flatMap i4).map vF) = some (tup (whole l A)) :=
  F8_R (f4_len (fun _ => rfl) l) (f4_len (fun _ => rfl) l) (by omega) (v4_smp l) (i4_smp l) hl hA
theorem turned_F (hl : A.length = 12) (hA : okM A) (hm : l.length ≤ 10) : F8 (A.getD 0 0) (A.getD 1 0) (A.getD 2 0) (A.getD 3 0) (A.getD 4 0) (A.getD 5 0) (A.getD 6 0) (A.getD 7 0) (A.getD 8 0) (A.getD 9 0) (A.getD 10 0) (A.getD 11 0)
    (l.flatMap v4).length ((l.flatMap v4).map vF) (l.flatMap n4).length ((l.flatMap n4).map vF) = some (tup (turned l A)) :=
  F8_R (f4_len (fun _ => rfl) l) (f4_len (fun _ => rfl) l) (by omega) (v4_smp l) (n4_smp l) hl hA
theorem part_F (hl : A.length = 12) (hA : okM A) (hm : l.length ≤ 10) {a : Nat} (ha : a ≤ l.length) : F8 (A.getD 0 0) (A.getD 1 0) (A.getD 2 0) (A.getD 3 0) (A.getD 4 0) (A.getD 5 0) (A.getD 6 0) (A.getD 7 0) (A.getD 8 0) (A.getD 9 0) (A.getD 10 0) (A.getD 11 0)
    ((l.flatMap v4).take (4 * a)).length (((l.flatMap v4).take (4 * a)).map vF) ((l.flatMap i4).take (4 * a)).length (((l.flatMap i4).take (4 * a)).map vF) = some (tup (prtA l a A)) :=
  F8_R (by rw [List.length_take, f4_len (fun _ => rfl) l]; omega) (by rw [List.length_take, f4_len (fun _ => rfl) l]; omega) (by omega) ((v4_smp l).take _) ((i4_smp l).take _) hl hA
theorem both_F (hl : A.length = 12) (hA : okM A) (hm : l.length ≤ 10) {a : Nat} (ha : a ≤ l.length) {P : List Int} (hP : P = prtA l a A) : F8 (P.getD 0 0) (P.getD 1 0) (P.getD 2 0) (P.getD 3 0) (P.getD 4 0) (P.getD 5 0) (P.getD 6 0) (P.getD 7 0) (P.getD 8 0) (P.getD 9 0) (P.getD 10 0) (P.getD 11 0)
    ((l.flatMap v4).drop (4 * a)).length (((l.flatMap v4).drop (4 * a)).map vF) ((l.flatMap i4).drop (4 * a)).length (((l.flatMap i4).drop (4 * a)).map vF) = some (tup (whole l A)) := by
  subst hP
  obtain ⟨o1, o2⟩ := prtA_ok (l := l) a hA hl
  have := F8_R (n := l.length - a) (v := (l.flatMap v4).drop (4 * a)) (i := (l.flatMap i4).drop (4 * a)) (by rw [List.length_drop, f4_len (fun _ => rfl) l]; omega) (by rw [List.length_drop, f4_len (fun _ => rfl) l]; omega) (by omega) ((v4_smp l).drop _) ((i4_smp l).drop _) o2 o1
  rw [this]
  unfold prtA whole
  rw [run_parts _ _ ha]
def regS (l : List X8) (k : Nat) : Int := sumX (fun x => ctr (pX x) (qX x) k) l
theorem whole_dif (hl : A.length = 12) (hA : okM A) (hm : l.length ≤ 10) {k : Nat} (hk : k < 6) :
    difI (A.getD (k * 2) 0) (A.getD (k * 2 + 1) 0) ((whole l A).getD (k * 2) 0) ((whole l A).getD (k * 2 + 1) 0) = regS l k := by
  have h := adv_run hA (l.flatMap v4) (l.flatMap i4) l.length 0 hl (adv0 hA) (fun _ => Int.le_refl 0)
  obtain ⟨b0, b1⟩ := sumX_bd k l
  have e : 0 + ctrS (l.flatMap v4) (l.flatMap i4) l.length 0 k = regS l k := by
    rw [ctrS_v l k l.length 0 (by omega), List.drop_zero, Int.zero_add]; rfl
  have := adv_dif hA h hk (by rw [e]; exact b0) (by rw [e]; unfold regS; omega)
  exact this.trans e
theorem turned_dif (hl : A.length = 12) (hA : okM A) (hm : l.length ≤ 10) (hn : ∀ x ∈ l, pX x ≠ 0 ∧ qX x ≠ 0) {k : Nat} (hk : k < 6) :
    difI (A.getD (k * 2) 0) (A.getD (k * 2 + 1) 0) ((turned l A).getD (k * 2) 0) ((turned l A).getD (k * 2 + 1) 0) = regS l (sw k) := by
  have h := adv_run hA (l.flatMap v4) (l.flatMap n4) l.length 0 hl (adv0 hA) (fun _ => Int.le_refl 0)
  obtain ⟨b0, b1⟩ := sumX_bd (sw k) l
  have e : 0 + ctrS (l.flatMap v4) (l.flatMap n4) l.length 0 k = regS l (sw k) := by
    rw [ctrS_n l hn hk l.length 0 (by omega), List.drop_zero, Int.zero_add]; rfl
  have := adv_dif hA h hk (by rw [e]; exact b0) (by rw [e]; unfold regS; omega)
  exact this.trans e
end
end Go.Kv
