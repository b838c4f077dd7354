import Derived.Test.YtfdjkfmiofgclaaGreatDoorKzR
namespace Go.Kv
set_option linter.all false
open Go Go.RowKit
theorem list_of {E : Type} {enc : E → List DV} {R : E → Prop} : ∀ {ys : List (List DV)}, (∀ y ∈ ys, ∃ e, y = enc e ∧ R e) → ∃ l : List E, ys = l.map enc ∧ ∀ e ∈ l, R e
 | [], _ => ⟨[], rfl, by simp⟩
 | y :: ys, h => by
  obtain ⟨e, rfl, he⟩ := h y (by simp)
  obtain ⟨l, rfl, hl⟩ := list_of (ys := ys) fun z hz => h z (by simp [hz])
  exact ⟨e :: l, rfl, by simpa using ⟨he, hl⟩⟩
theorem flat_one {E : Type} {f : E → DV} : ∀ l : List E, (l.map fun x => [f x]).flatten = l.map f
 | [] => rfl
 | x :: l => by simp [flat_one l]
end Go.Kv
