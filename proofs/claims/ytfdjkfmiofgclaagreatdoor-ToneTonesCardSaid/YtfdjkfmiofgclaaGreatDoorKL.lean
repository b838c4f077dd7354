import Derived.Test.YtfdjkfmiofgclaaGreatDoorKvU
namespace Go.Kv
set_option linter.unusedVariables false
set_option linter.unusedSimpArgs false
set_option linter.unnecessarySimpa false
open Go Go.RowKit
section
variable {E : Type} {enc : E → List DV} {m : Nat}
theorem fm_len (h : ∀ x, (enc x).length = m) : ∀ l : List E, (l.flatMap enc).length = l.length * m
  | [] => by simp
  | x :: l => by
    have := fm_len h l
    simp only [List.flatMap_cons, List.length_append, h x, this, List.length_cons]
    rw [Nat.add_mul]; omega
theorem fm_drop (h : ∀ x, (enc x).length = m) : ∀ (i : Nat) (l : List E), (l.flatMap enc).drop (i * m) = (l.drop i).flatMap enc
  | 0, l => by simp
  | i + 1, [] => by simp
  | i + 1, x :: l => by
    have := fm_drop h i l
    have e : (i + 1) * m = (enc x).length + i * m := by rw [Nat.add_mul, h x]; omega
    rw [List.flatMap_cons, e, List.drop_append, List.drop_of_length_le (by omega)]
    simpa using this
theorem fm_take (h : ∀ x, (enc x).length = m) : ∀ (i : Nat) (l : List E), (l.flatMap enc).take (i * m) = (l.take i).flatMap enc
  | 0, l => by simp
  | i + 1, [] => by simp
  | i + 1, x :: l => by
    have := fm_take h i l
    have e : (i + 1) * m = (enc x).length + i * m := by rw [Nat.add_mul, h x]; omega
    rw [List.flatMap_cons, e, List.take_append, List.take_of_length_le (by omega)]
    simp [this]
theorem fm_cel (h : ∀ x, (enc x).length = m) {l : List E} {i k : Nat} (hi : i < l.length) (hk : k < m) : cel (l.flatMap enc) (i * m + k) = cel (enc l[i]) k := by
  unfold cel
  have h1 : (l.flatMap enc).getD (i * m + k) (.v .nilIface) = ((l.flatMap enc).drop (i * m)).getD k (.v .nilIface) := by
    simp [List.getD_eq_getElem?_getD, List.getElem?_drop]
  rw [h1, fm_drop h, List.drop_eq_getElem_cons hi, List.flatMap_cons]
  rw [List.getD_eq_getElem?_getD, List.getD_eq_getElem?_getD, List.getElem?_append_left (by rw [h]; exact hk)]
theorem fm_at (h : ∀ x, (enc x).length = m) {l : List E} {i : Nat} (hi : i < l.length) : ((l.flatMap enc).drop (i * m)).take m = enc l[i] := by
  rw [fm_drop h, List.drop_eq_getElem_cons hi, List.flatMap_cons, List.take_append_of_le_length (by rw [h]; exact Nat.le_refl _), List.take_of_length_le (by rw [h]; exact Nat.le_refl _)]
theorem fm_room (h : ∀ x, (enc x).length = m) {l : List E} {i : Nat} (hi : i < l.length) : i * m ≤ (l.flatMap enc).length ∧ m ≤ ((l.flatMap enc).drop (i * m)).length := by
  rw [fm_drop h, fm_len h, fm_len h, List.length_drop]
  have h1 : (l.length - i) * m ≥ 1 * m := Nat.mul_le_mul_right _ (by omega)
  have h2 : i * m ≤ l.length * m := Nat.mul_le_mul_right _ (by omega)
  omega
end
end Go.Kv
