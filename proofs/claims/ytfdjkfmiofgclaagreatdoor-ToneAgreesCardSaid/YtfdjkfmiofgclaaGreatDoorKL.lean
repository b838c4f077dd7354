import Derived.Test.YtfdjkfmiofgclaaGreatDoorKvU
namespace Go.Kv
set_option linter.all false
open Go Go.RowKit
section
variable {E : Type} {enc : E → List DV} {m : Nat}
theorem fm_len (h : ∀ x, (enc x).length = m) : ∀ l : List E, (l.flatMap enc).length = l.length * m
 | [] => by simp
 | x :: l => by
  have := fm_len h l
  simp only [List.flatMap_cons, List.length_append, h x, this, List.length_cons]
  rw [Nat.add_mul]; omega
theorem fm_drop (h : ∀ x, (enc x).length = m) : ∀ (i : Nat) (l : List E), (l.flatMap enc).drop (i * m) = (l.drop i).flatMap enc
 | 0, l => by simp
 | i + 1, [] => by simp
 | i + 1, x :: l => by
  have := fm_drop h i l
  have e : (i + 1) * m = (enc x).length + i * m := by rw [Nat.add_mul, h x]; omega
  rw [List.flatMap_cons, e, List.drop_append, List.drop_of_length_le (by omega)]
  simpa using this
end
end Go.Kv
