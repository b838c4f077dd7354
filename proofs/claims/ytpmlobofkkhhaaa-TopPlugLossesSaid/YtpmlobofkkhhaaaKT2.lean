/- What a house's meter counts here: one register, in plain Lean. -/
import Derived.Test.YtpmlobofkkhhaaaKT1
namespace Go.Kv
set_option linter.unusedVariables false
set_option linter.unusedSimpArgs false
open Go Go.RowKit
set_option maxRecDepth 100000
theorem fmI {f : Nat → List Int} (hf : ∀ c, (f c).length = 4) : ∀ (l : List Nat) (j : Nat) (hj : j < l.length), List.take 4 (List.drop (4 * j) (l.flatMap f)) = f l[j]
  | x :: l, 0, _ => by
    rw [Nat.mul_zero, List.drop_zero, List.flatMap_cons, List.take_append_of_le_length (by rw [hf]; exact Nat.le_refl _), List.take_of_length_le (by rw [hf]; exact Nat.le_refl _)]
    rfl
  | x :: l, j + 1, hj => by
    have ih := fmI hf l j (by simpa using hj)
    rw [List.flatMap_cons, show 4 * (j + 1) = (f x).length + 4 * j by rw [hf]; omega, List.drop_append, List.drop_of_length_le (by omega), List.nil_append, Nat.add_sub_cancel_left, ih]
    rfl
theorem fmI_len {f : Nat → List Int} (hf : ∀ c, (f c).length = 4) : ∀ l : List Nat, (l.flatMap f).length = 4 * l.length
  | [] => rfl
  | x :: l => by rw [List.flatMap_cons, List.length_append, hf, fmI_len hf l, List.length_cons]; omega
def vL (a : Int) (n : Nat) : List Int := (List.range n).flatMap fun (c : Nat) => [a, 0, (c : Int), 0]
def iL (b h : Int) (n : Nat) : List Int := (List.range n).flatMap fun _ => [b, 0, h, 0]
theorem vL_len (a : Int) (n : Nat) : (vL a n).length = 4 * n := by unfold vL; rw [fmI_len (fun _ => rfl), List.length_range]
theorem iL_len (b h : Int) (n : Nat) : (iL b h n).length = 4 * n := by unfold iL; rw [fmI_len (fun _ => rfl), List.length_range]
theorem vL_wn {a : Int} {n j : Nat} (hj : j < n) : wn (vL a n) j = [a, 0, (j : Int), 0] := by
  unfold wn vL
  rw [fmI (fun _ => rfl) _ j (by rw [List.length_range]; exact hj), List.getElem_range]
theorem iL_wn {b h : Int} {n j : Nat} (hj : j < n) : wn (iL b h n) j = [b, 0, h, 0] := by
  unfold wn iL
  rw [fmI (fun _ => rfl) _ j (by rw [List.length_range]; exact hj)]
theorem vL_snoc (a : Int) (n : Nat) : vL a (n + 1) = vL a n ++ [a, 0, (n : Int), 0] := by unfold vL; rw [List.range_succ, List.flatMap_append]; rfl
theorem iL_snoc (b h : Int) (n : Nat) : iL b h (n + 1) = iL b h n ++ [b, 0, h, 0] := by unfold iL; rw [List.range_succ, List.flatMap_append]; rfl
theorem smp {a : Int} (h : 0 ≤ a ∧ a ≤ 127) : Smp a := ⟨flOk (by omega), by omega⟩
theorem vL_smp {a : Int} (ha : 0 ≤ a ∧ a ≤ 127) {n : Nat} (hn : n ≤ 100) : Smps (vL a n) := by
  intro x hx
  unfold vL at hx
  rw [List.mem_flatMap] at hx
  obtain ⟨c, hc, hx⟩ := hx
  rw [List.mem_range] at hc
  simp only [List.mem_cons, List.not_mem_nil, or_false] at hx
  rcases hx with rfl | rfl | rfl | rfl <;> exact smp (by omega)
theorem iL_smp {b h : Int} (hb : 0 ≤ b ∧ b ≤ 127) (hh : 0 ≤ h ∧ h ≤ 127) {n : Nat} : Smps (iL b h n) := by
  intro x hx
  unfold iL at hx
  rw [List.mem_flatMap] at hx
  obtain ⟨c, hc, hx⟩ := hx
  simp only [List.mem_cons, List.not_mem_nil, or_false] at hx
  rcases hx with rfl | rfl | rfl | rfl <;> exact smp (by omega)
def ec (a b h : Int) (c : Nat) : Int := 256 * (a * b) + 256 * ((c : Int) * h)
def en (a b h : Int) : Nat → Nat → Int
  | 0, _ => 0
  | m + 1, j => ec a b h j + en a b h m (j + 1)
theorem prod_bd {a b k l : Int} (ha : 0 ≤ a ∧ a ≤ k) (hb : 0 ≤ b ∧ b ≤ l) : 0 ≤ a * b ∧ a * b ≤ k * l :=
  ⟨Int.mul_nonneg ha.1 hb.1, Int.mul_le_mul ha.2 hb.2 hb.1 (by omega)⟩
theorem ec_bd {a b h : Int} (ha : 0 ≤ a ∧ a ≤ 127) (hb : 0 ≤ b ∧ b ≤ 127) (hh : 0 ≤ h ∧ h ≤ 5) {c : Nat} (hc : c < 4) : 0 ≤ ec a b h c ∧ ec a b h c ≤ 4200000 := by
  have h1 := prod_bd ha hb
  have h2 := prod_bd (a := (c : Int)) (k := 3) (by omega) hh
  unfold ec; omega
theorem en_bd {a b h : Int} (ha : 0 ≤ a ∧ a ≤ 127) (hb : 0 ≤ b ∧ b ≤ 127) (hh : 0 ≤ h ∧ h ≤ 5) : ∀ (m j : Nat), j + m ≤ 4 → 0 ≤ en a b h m j ∧ en a b h m j ≤ 4200000 * m
  | 0, j, _ => by unfold en; omega
  | m + 1, j, hm => by
    have h1 := ec_bd ha hb hh (c := j) (by omega)
    have h2 := en_bd ha hb hh m (j + 1) (by omega)
    unfold en; omega
theorem pI_eq (a b h : Int) (c : Nat) : pI [a, 0, (c : Int), 0] [b, 0, h, 0] = ec a b h c := by
  show 0 + 16 * a * (16 * b) + 16 * 0 * (16 * 0) + 16 * (c : Int) * (16 * h) + 16 * 0 * (16 * 0) = _
  have e (x y : Int) : 16 * x * (16 * y) = 256 * (x * y) := by rw [Int.mul_assoc, Int.mul_left_comm x 16 y, ← Int.mul_assoc]; rfl
  rw [e, e, e]
  unfold ec; omega
theorem qI_eq (a b h : Int) (c : Nat) : qI [a, 0, (c : Int), 0] [b, 0, h, 0] = 0 := by
  show 0 + 16 * 0 * (16 * b) + 16 * a * (16 * 0) + 16 * 0 * (16 * h) + 16 * (c : Int) * (16 * 0) = 0
  simp
/-- A meter of which only the first register has counted. -/
def regT (T : Int) : List Int := [T / 1000000 % 1000000, T % 1000000, 0, 0, 0, 0, 0, 0, 0, 0, 0, 0]
theorem cyc_T {T p : Int} (hT : 0 ≤ T) (hp : 0 ≤ p) : cyc (regT T) p 0 = regT (T + p) := by
  have ha : absI p = p := by unfold absI; split <;> omega
  have hs : sideN p = 0 := by unfold sideN; rw [if_neg (by omega)]
  unfold cyc
  rw [if_pos rfl, ha, hs]
  show [upU (T / 1000000 % 1000000) (T % 1000000) p, upV (T % 1000000) p, 0, 0, 0, 0, 0, 0, 0, 0, 0, 0] = _
  unfold regT upU upV
  have e1 : (T / 1000000 % 1000000 + (T % 1000000 + p) / 1000000) % 1000000 = (T + p) / 1000000 % 1000000 := by omega
  have e2 : (T % 1000000 + p) % 1000000 = (T + p) % 1000000 := by omega
  rw [e1, e2]
theorem run_T {a b h : Int} (ha : 0 ≤ a ∧ a ≤ 127) (hb : 0 ≤ b ∧ b ≤ 127) (hh : 0 ≤ h ∧ h ≤ 5) {n : Nat} (hn : n ≤ 4) : ∀ (m j : Nat) (T : Int), n = j + m → 0 ≤ T →
    runC (vL a n) (iL b h n) m j (regT T) = regT (T + en a b h m j)
  | 0, j, T, _, _ => by unfold runC en; rw [Int.add_zero]
  | m + 1, j, T, hm, hT => by
    have h1 := ec_bd ha hb hh (c := j) (by omega)
    unfold runC en
    rw [vL_wn (by omega), iL_wn (by omega), pI_eq, qI_eq, cyc_T hT h1.1, run_T ha hb hh hn m (j + 1) _ (by omega) (by omega), Int.add_assoc]
theorem okM_T (T : Int) : okM (regT T) := by
  intro k hk
  have h0 : (0 ≤ T / 1000000 % 1000000 ∧ T / 1000000 % 1000000 ≤ 999999) ∧ 0 ≤ T % 1000000 ∧ T % 1000000 ≤ 999999 := by omega
  have hz : ((0 : Int) ≤ 0 ∧ (0 : Int) ≤ 999999) ∧ (0 : Int) ≤ 0 ∧ (0 : Int) ≤ 999999 := by omega
  match k, hk with
  | 0, _ => exact h0
  | 1, _ => exact hz
  | 2, _ => exact hz
  | 3, _ => exact hz
  | 4, _ => exact hz
  | 5, _ => exact hz
/-- Counted: a house's cycles. -/
theorem F5_T {a b h : Int} (ha : 0 ≤ a ∧ a ≤ 127) (hb : 0 ≤ b ∧ b ≤ 127) (hh : 0 ≤ h ∧ h ≤ 5) {n : Nat} (hn : n ≤ 4) {u r : Int} (hu : 0 ≤ u ∧ u ≤ 999999) (hr : 0 ≤ r ∧ r ≤ 999999) :
    F5 u r 0 0 0 0 0 0 0 0 0 0 (4 * n) ((vL a n).map vF) (4 * n) ((iL b h n).map vF) = some (tup (regT (u * 1000000 + r + en a b h n 0))) := by
  have e0 : regT (u * 1000000 + r) = [u, r, 0, 0, 0, 0, 0, 0, 0, 0, 0, 0] := by
    unfold regT
    rw [show (u * 1000000 + r) / 1000000 % 1000000 = u by omega, show (u * 1000000 + r) % 1000000 = r by omega]
  have hA : okM [u, r, 0, 0, 0, 0, 0, 0, 0, 0, 0, 0] := e0 ▸ okM_T _
  have := F5_eq (vL_len a n) (iL_len b h n) (by omega) (vL_smp ha (by omega)) (iL_smp hb (by omega)) u r 0 0 0 0 0 0 0 0 0 0 hA
  rw [← e0, run_T ha hb hh hn n 0 _ (by omega) (by omega), vL_len, iL_len] at this
  exact this
/-! what the differences are -/
theorem dif_T {u r E : Int} (hu : 0 ≤ u ∧ u ≤ 999999) (hr : 0 ≤ r ∧ r ≤ 999999) (hE : 0 ≤ E ∧ E ≤ 100000000) : difI u r ((u * 1000000 + r + E) / 1000000 % 1000000) ((u * 1000000 + r + E) % 1000000) = E := by
  unfold difI; omega
theorem dif_U {u r E : Int} (hu : 0 ≤ u ∧ u ≤ 999999) (hr : 0 ≤ r ∧ r ≤ 999999) (hE : 0 ≤ E ∧ E ≤ 100000000) : difI u 0 ((u * 1000000 + r + E) / 1000000 % 1000000) 0 = (r + E) / 1000000 * 1000000 := by
  unfold difI; omega
end Go.Kv
