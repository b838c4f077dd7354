/- The sums of the meters' intervals, and what is told at the end, in plain Lean. -/
import Derived.Test.YtpmlobofkkhhaaaKT2
namespace Go.Kv
set_option linter.unusedVariables false
set_option linter.unusedSimpArgs false
open Go Go.RowKit
set_option maxRecDepth 100000
theorem sLo_snoc (M : List Itv) (x : Itv) : sLo (M ++ [x]) = sLo M + x.1 := by simp [sLo]
theorem sHi_snoc (M : List Itv) (x : Itv) : sHi (M ++ [x]) = sHi M + x.2 := by simp [sHi]
theorem eI_snoc (M : List Itv) (a b : Int) : (M ++ [(a, b)]).flatMap eI = M.flatMap eI ++ [vI a, vI b] := by rw [List.flatMap_append]; rfl
/-- What is known of the meters that were read. -/
structure Good (k : Nat) (M : List Itv) (t : Int) : Prop where
  len : M.length = k
  ok : ∀ x ∈ M, okI x
  lo : sLo M ≤ t
  hi : t ≤ sHi M
  t0 : 0 ≤ t
  t1 : t ≤ 17000000 * k
theorem good0 : Good 0 [] 0 := ⟨rfl, by simp, by simp [sLo], by simp [sHi], by decide, by decide⟩
theorem good_snoc {k : Nat} {M : List Itv} {t E r : Int} (g : Good k M t) (hr : 0 ≤ r ∧ r ≤ 999999) (hE : 0 ≤ E ∧ E ≤ 16800000) {lo hi : Int}
    (hlo : lo = max 0 ((r + E) / 1000000 * 1000000 - 999999)) (hhi : hi = (r + E) / 1000000 * 1000000 + 999999) : (lo ≤ E ∧ E ≤ hi) ∧ Good (k + 1) (M ++ [(lo, hi)]) (t + E) := by
  have h1 := g.lo; have h2 := g.hi; have h3 := g.t0; have h4 := g.t1; have h5 := g.len
  have h6 : lo ≤ E ∧ E ≤ hi := by omega
  refine ⟨h6, by rw [List.length_append, h5]; rfl, ?_, by rw [sLo_snoc]; simp only; omega, by rw [sHi_snoc]; simp only; omega, by omega, by omega⟩
  intro x hx
  rw [List.mem_append] at hx
  rcases hx with hx | hx
  · exact g.ok x hx
  · simp only [List.mem_cons, List.not_mem_nil, or_false] at hx
    subst hx
    refine ⟨?_, ?_, ?_⟩ <;> simp only <;> omega
end Go.Kv
