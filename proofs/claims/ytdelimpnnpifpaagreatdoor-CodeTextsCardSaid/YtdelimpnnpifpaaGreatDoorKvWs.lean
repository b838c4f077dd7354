/- Long closed runs: the state is written out at every m-th step alone. -/
import Derived.Test.YtdelimpnnpifpaaGreatDoorKvW
set_option linter.all false
namespace Go.Kv
open Go Go.RowKit
def fStB {β : Type} (b : Bool) (s : ASt) (k : ASt → β) : β := match b with
  | true => fSt s k
  | false => k s
theorem fStB_eq {β : Type} (b : Bool) (s : ASt) (k : ASt → β) : fStB b s k = k s := by
  cases b
  · rfl
  · exact fSt_eq s k
def arunS (cf : Cfg) (m : Nat) : Nat → ASt → List Dec → SR
  | 0, s, ds => fSt s fun s => some (s, ds, [])
  | n + 1, s, ds => match astep cf s ds with
    | some (s', ds', ps) => fStB (Nat.beq (n % m) 0) s' fun s' => match arunS cf m n s' ds' with
      | some (s'', ds'', qs) => some (s'', ds'', ps ++ qs)
      | none => none
    | none => none
theorem arunS_eq (cf : Cfg) (m : Nat) : ∀ (n : Nat) (s : ASt) (ds : List Dec), arunS cf m n s ds = arun cf n s ds
  | 0, s, _ => by unfold arunS; rw [fSt_eq]; rfl
  | n + 1, s, ds => by
    simp only [arunS, arun, fStB_eq]
    cases astep cf s ds with
    | none => rfl
    | some x =>
      obtain ⟨s', ds', ps⟩ := x
      simp only [arunS_eq cf m n]
      cases arun cf n s' ds' with
      | none => rfl
      | some y => rfl
def crunS (cf : Cfg) (m : Nat) (f : FuncId) : CT cf → List Kn → ASt → Option (AV × List PC)
  | .run n ds d, K, s => match arunS { cf with K := K } m n s ds with
    | some (s', [], ps) => match crunS cf m f d K s' with
      | some (v, qs) => some (v, openP ps ++ qs)
      | none => none
    | _ => none
  | .use (g := g) (args := args) (r := r) _ d, K, s => crunS cf m f d (K ++ [⟨g, args, r, false, false⟩]) s
  | .fin, _, s => match outA cf f s with
    | some v => some (weakA v, [])
    | none => none
  | .finE, _, s => match outA cf f s with
    | some v => some (v, [])
    | none => none
theorem crunS_eq (cf : Cfg) (m : Nat) (f : FuncId) : ∀ (d : CT cf) (K : List Kn) (s : ASt), crunS cf m f d K s = crun cf f d K s
  | .run n ds d, K, s => by
    simp only [crunS, crun, arunS_eq, arunF_eq]
    simp only [crunS_eq cf m f d]
    cases arun { cf with K := K } n s ds with
    | none => rfl
    | some x =>
      obtain ⟨s', ds', ps⟩ := x
      cases ds' with
      | nil => rfl
      | cons => rfl
  | .use _ d, K, s => by simp only [crunS, crun]; exact crunS_eq cf m f d _ s
  | .fin, K, s => rfl
  | .finE, K, s => rfl
end Go.Kv
