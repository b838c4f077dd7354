/- What a meter counts of a use, in plain Lean. -/
import Derived.Test.YtnafdaccamncdaaKD3
namespace Go.Kv
set_option linter.unusedVariables false
set_option linter.unusedSimpArgs false
open Go Go.RowKit
set_option maxRecDepth 100000
theorem first00 : firstI [0, 0] = 0 := rfl
def regT (T : Int) : List Int := [T / 1000000 % 1000000, T % 1000000, 0, 0, 0, 0, 0, 0, 0, 0, 0, 0]
theorem cyc_T {T p : Int} (hT : 0 ≤ T) (hp : 0 ≤ p) : cyc (regT T) p 0 = regT (T + p) := by
  have ha : absI p = p := by unfold absI; split <;> omega
  have hs : sideN p = 0 := by unfold sideN; rw [if_neg (by omega)]
  unfold cyc
  rw [if_pos rfl, ha, hs]
  show [upU (T / 1000000 % 1000000) (T % 1000000) p, upV (T % 1000000) p, 0, 0, 0, 0, 0, 0, 0, 0, 0, 0] = _
  unfold regT upU upV
  have e1 : (T / 1000000 % 1000000 + (T % 1000000 + p) / 1000000) % 1000000 = (T + p) / 1000000 % 1000000 := by omega
  have e2 : (T % 1000000 + p) % 1000000 = (T + p) % 1000000 := by omega
  rw [e1, e2]
theorem okM_T (T : Int) : okM (regT T) := by
  intro k hk
  have h0 : (0 ≤ T / 1000000 % 1000000 ∧ T / 1000000 % 1000000 ≤ 999999) ∧ 0 ≤ T % 1000000 ∧ T % 1000000 ≤ 999999 := by omega
  have hz : ((0 : Int) ≤ 0 ∧ (0 : Int) ≤ 999999) ∧ (0 : Int) ≤ 0 ∧ (0 : Int) ≤ 999999 := by omega
  match k, hk with
  | 0, _ => exact h0
  | 1, _ => exact hz
  | 2, _ => exact hz
  | 3, _ => exact hz
  | 4, _ => exact hz
  | 5, _ => exact hz
/-! the difference of two registers -/
def difI (u r u' r' : Int) : Int := (u' * 1000000 + r' - (u * 1000000 + r) + 1000000000000) % 1000000000000
theorem F46_eq {u r : Int} (h : (0 ≤ u ∧ u ≤ 999999) ∧ (0 ≤ r ∧ r ≤ 999999)) : F46 u r = some (u * 1000000 + r) := by
  have i1 : inI64 (u * 1000000) := by unfold inI64; omega
  have i2 : inI64 (u * 1000000 + r) := by unfold inI64; omega
  unfold F46; rw [res_eq]
  simp only [B46, sem_ask, sem_ret, PC.holds, i1, i2, need_true, stepO_ret]
theorem F7_eq {u r u' r' : Int} (h : (0 ≤ u ∧ u ≤ 999999) ∧ (0 ≤ r ∧ r ≤ 999999)) (h' : (0 ≤ u' ∧ u' ≤ 999999) ∧ (0 ≤ r' ∧ r' ≤ 999999)) : F7 u r u' r' = some (difI u r u' r', 0) := by
  have i1 : inI64 (u' * 1000000 + r' - (u * 1000000 + r)) := by unfold inI64; omega
  have i2 : inI64 (u' * 1000000 + r' - (u * 1000000 + r) + 1000000000000) := by unfold inI64; omega
  have tm : (u' * 1000000 + r' - (u * 1000000 + r) + 1000000000000).tmod 1000000000000 = difI u r u' r' := Int.tmod_eq_emod_of_nonneg (by omega)
  have e18 : F22 u' r' u r = some (difI u r u' r') := by
    unfold F22; rw [res_eq]
    simp only [B22, F46_eq h, F46_eq h', sem_bind_some, sem_sees, sem_ask, sem_ret, PC.holds, i1, i2, need_true, tm, stepO_ret]
  unfold F7; rw [res_eq]
  simp only [B7, F21_eq, regI_zero.2 h, regI_zero.2 h', F14_2, first00, e18, sem_br, sem_bind_some, sem_sees, sem_ret, bne_self_eq_false, Bool.false_eq_true, if_false, stepO_ret]
theorem dif_T {u r E : Int} (hu : 0 ≤ u ∧ u ≤ 999999) (hr : 0 ≤ r ∧ r ≤ 999999) (hE : 0 ≤ E ∧ E ≤ 100000000) : difI u r ((u * 1000000 + r + E) / 1000000 % 1000000) ((u * 1000000 + r + E) % 1000000) = E := by
  unfold difI; omega
theorem smp_k {k : Nat} (h : k ≤ 7) : Smp (1000 * (k : Int)) := ⟨flOk h, by omega⟩
theorem smps_k {k : Nat} (h : k ≤ 7) : Smps [1000 * (k : Int), 0, 0, 0] := by
  intro a ha
  simp only [List.mem_cons, List.not_mem_nil, or_false] at ha
  rcases ha with rfl | rfl | rfl | rfl
  · exact smp_k h
  all_goals exact smp_k (k := 0) (by omega)
/-- Counted: a cycle of a use. -/
theorem F6_T {k : Nat} (hk : k ≤ 7) {u r : Int} (hu : 0 ≤ u ∧ u ≤ 999999) (hr : 0 ≤ r ∧ r ≤ 999999) :
    F6 u r 0 0 0 0 0 0 0 0 0 0 4 ([1000, 0, 0, 0].map vF) 4 ([1000 * (k : Int), 0, 0, 0].map vF) = some (tup (regT (u * 1000000 + r + (k : Int) * 1000000))) := by
  have e0 : regT (u * 1000000 + r) = [u, r, 0, 0, 0, 0, 0, 0, 0, 0, 0, 0] := by
    unfold regT
    rw [show (u * 1000000 + r) / 1000000 % 1000000 = u by omega, show (u * 1000000 + r) % 1000000 = r by omega]
  have hA : okM [u, r, 0, 0, 0, 0, 0, 0, 0, 0, 0, 0] := e0 ▸ okM_T _
  have := F6_eq (v := [1000, 0, 0, 0]) (i := [1000 * (k : Int), 0, 0, 0]) (n := 1) rfl rfl (by omega) (smps_k (k := 1) (by omega)) (smps_k hk) u r 0 0 0 0 0 0 0 0 0 0 hA
  rw [← e0] at this
  have hp : pI (wn [1000, 0, 0, 0] 0) (wn [1000 * (k : Int), 0, 0, 0] 0) = (k : Int) * 1000000 := by
    show 0 + 1000 * (1000 * (k : Int)) + 0 * 0 + 0 * 0 + 0 * 0 = _
    omega
  have hq : qI (wn [1000, 0, 0, 0] 0) (wn [1000 * (k : Int), 0, 0, 0] 0) = 0 := by
    show 0 + 0 * (1000 * (k : Int)) + 1000 * 0 + 0 * 0 + 0 * 0 = 0
    omega
  have hrun : runC [1000, 0, 0, 0] [1000 * (k : Int), 0, 0, 0] 1 0 (regT (u * 1000000 + r)) = regT (u * 1000000 + r + (k : Int) * 1000000) := by
    unfold runC
    rw [hp, hq, cyc_T (by omega) (by omega)]
    rfl
  rw [hrun] at this
  exact this
theorem F7_T {k : Nat} (hk : k ≤ 7) {u r : Int} (hu : 0 ≤ u ∧ u ≤ 999999) (hr : 0 ≤ r ∧ r ≤ 999999) :
    F7 u r ((u * 1000000 + r + (k : Int) * 1000000) / 1000000 % 1000000) ((u * 1000000 + r + (k : Int) * 1000000) % 1000000) = some ((k : Int) * 1000000, 0) := by
  rw [F7_eq ⟨hu, hr⟩ ⟨by omega, by omega⟩, dif_T hu hr (by omega)]
/-- The samples of a use. -/
theorem use_fl {k : Nat} (h : k ≤ 7) : fval .mul .f32 1115291648 (floatOfInt .f32 (k : Int)) = fl (1000 * (k : Int)) := by
  have hall : ((List.range 8).all fun k => decide (fval .mul .f32 1115291648 (floatOfInt .f32 ((k : Nat) : Int)) = fl (1000 * (k : Int)))) = true := by kernel_rfl
  exact of_decide_eq_true (List.all_eq_true.1 hall k (List.mem_range.2 (by omega)))
theorem use_fok {k : Nat} (h : k ≤ 7) : fok .mul .f32 1115291648 (floatOfInt .f32 (k : Int)) = true := by
  have hall : ((List.range 8).all fun k => fok .mul .f32 1115291648 (floatOfInt .f32 ((k : Nat) : Int))) = true := by kernel_rfl
  exact List.all_eq_true.1 hall k (List.mem_range.2 (by omega))
theorem fl_1000 : fl 1000 = 1115291648 := by kernel_rfl
end Go.Kv
