/- The law of the counts holds, in plain Lean. -/
import Derived.Test.YtalhonodbajndaaGreatDoorKY5
import Derived.Test.YtalhonodbajndaaGreatDoorGZ3
namespace Go.Kv
set_option linter.unusedVariables false
set_option linter.unusedSimpArgs false
open Go Go.RowKit
set_option maxRecDepth 100000
def shortB (n : Nat) : Bool := if decide ((n : Int) ≤ 40) = true then true else (n : Int) == 4097
theorem F11_eq (n : Nat) (l : List DV) : F11 n l = some (shortB n) := by
  unfold F11; rw [res_eq]
  simp only [B11, sem_triv, sem_ret, stepO_ret]
  rfl
theorem short_le {n : Nat} (h : shortB n = true) : n ≤ 4097 := by
  unfold shortB at h
  split at h
  · rename_i h1; have := of_decide_eq_true h1; omega
  · have : (n : Int) = 4097 := by simpa using h
    omega
theorem F14_eq (a0 a1 a2 a3 a4 a5 a6 a7 a8 a9 a10 a11 : Int) : F14 a0 a1 a2 a3 a4 a5 a6 a7 a8 a9 a10 a11 = some (a0, a1, a2, a3, a4, a5, a6, a7, a8, a9, a10, a11) := by
  unfold F14; rw [res_eq]; simp only [B14, sem_ret, stepO_ret]
theorem F20_eq (a0 a1 a2 a3 a4 a5 a6 a7 a8 a9 a10 a11 : Int) : F20 a0 a1 a2 a3 a4 a5 a6 a7 a8 a9 a10 a11 = some (a0, a1, a2, a3, a4, a5, a6, a7, a8, a9, a10, a11) := by
  unfold F20; rw [res_eq]; simp only [B20, sem_ret, stepO_ret]
theorem F15_eq {v : List Nat} (h : v.length ≤ 4097) : F15 v.length (v.map vB) = some (v.length, v.map vB) := by
  unfold F15; rw [res_eq]
  cases v with
  | nil => simp only [B15, List.length_nil, List.map_nil, sem_br, sem_ask, sem_ret, PC.holds, need_true, if_true, stepO_ret, show (Nat.beq 0 0) = true from rfl]
  | cons x L =>
    have h1 : ((x :: L).length.beq 0) = false := rfl
    have h2 : 0 < (x :: L).length := by simp
    have h3 : ((x :: L).map vB).length = (x :: L).length * 1 := by simp
    have h4 : fitsN (x :: L).length 4 := by unfold fitsN; omega
    simp only [B15, h1, h2, h3, h4, sem_br, sem_ask, sem_ret, PC.holds, need_true, Bool.false_eq_true, if_false, stepO_ret]
theorem wd_of {v : List Nat} (h : ∀ a ∈ v, (Lit.float .f32 a).wf = true) : Wd v := fun a ha => by
  have := h a ha
  simpa [Lit.wf] using this
theorem F12_t : F12 = some true := rfl
theorem counts_true (a0 a1 a2 a3 a4 a5 a6 a7 a8 a9 a10 a11 : Int) (v : List Nat) (hv : v.length ≤ maxLen ∧ ∀ a ∈ v, (Lit.float .f32 a).wf = true) (i : List Nat) (hi : i.length ≤ maxLen ∧ ∀ a ∈ i, (Lit.float .f32 a).wf = true) :
    F3 a0 a1 a2 a3 a4 a5 a6 a7 a8 a9 a10 a11 v.length (v.map vB) i.length (i.map vB) = some true := by
  have wv := wd_of hv.2
  have wi := wd_of hi.2
  unfold F3; rw [res_eq]
  by_cases hs : shortB v.length = true ∧ shortB i.length = true
  · obtain ⟨h1, h2⟩ := hs
    have f1 := F15_eq (short_le h1)
    have f2 := F15_eq (short_le h2)
    by_cases hb : badI [a0, a1, a2, a3, a4, a5, a6, a7, a8, a9, a10, a11] v i = 0
    · obtain ⟨hA, ⟨_, sv⟩, ⟨_, si⟩, n, l1, l2, l3⟩ := bad_ok hb
      have e13 := F13_ok wv wi hb l1
      have e17 := F17_eq l1 l2 l3 sv si hA
      generalize runC v i n 0 [a0, a1, a2, a3, a4, a5, a6, a7, a8, a9, a10, a11] = R at *
      simp only [B3, F11_eq, h1, h2, f1, f2, F14_eq, e13, F16_eq wv wi, hb, e17, F18_eq, F19_eq, F20_eq, F12_t, Bool.not_true, beq_self_eq_true, Bool.and_self, Bool.and_true, sem_br, sem_ask, sem_triv, sem_sees, sem_nxt, sem_ret, sem_bind_some, PC.holds, need_true, decide_true, decide_false, if_true, if_false, Bool.false_eq_true, stepO_nxt, stepO_ret]
    · have e13 := F13_bad wv wi hb
      have hbb : (badI [a0, a1, a2, a3, a4, a5, a6, a7, a8, a9, a10, a11] v i == 0) = false := by simp [hb]
      simp only [B3, F11_eq, h1, h2, f1, f2, F14_eq, e13, F16_eq wv wi, hbb, F18_eq, F19_eq, F20_eq, F12_t, Bool.not_true, beq_self_eq_true, Bool.and_self, Bool.and_true, sem_br, sem_ask, sem_triv, sem_sees, sem_nxt, sem_ret, sem_bind_some, PC.holds, need_true, decide_true, decide_false, if_true, if_false, Bool.false_eq_true, stepO_nxt, stepO_ret]
  · have hc : (if (!shortB v.length) = true then true else !shortB i.length) = true := by
      cases h1 : shortB v.length
      · rfl
      · cases h2 : shortB i.length
        · rfl
        · exact absurd ⟨h1, h2⟩ hs
    simp only [B3, F11_eq, hc, F12_t, sem_br, sem_ask, sem_triv, sem_sees, sem_nxt, sem_ret, sem_bind_some, PC.holds, need_true, decide_true, decide_false, if_true, if_false, Bool.false_eq_true, stepO_nxt, stepO_ret]
end Go.Kv
