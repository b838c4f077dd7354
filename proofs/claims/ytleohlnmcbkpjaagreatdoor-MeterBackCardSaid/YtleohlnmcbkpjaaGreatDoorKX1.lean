import Derived.Lib.Split
import Derived.Lib.SplitLaws
import Derived.Lib.ItoaNum
namespace Go.Kv
set_option linter.all false
open Go
def spl (c : UInt8) : List UInt8 → List UInt8 → List (List UInt8)
  | cur, [] => [cur]
  | cur, b :: l => if b = c then cur :: spl c [] l else spl c (cur ++ [b]) l
theorem spl_none {c : UInt8} : ∀ (l cur : List UInt8), c ∉ l → spl c cur l = [cur ++ l]
  | [], cur, _ => by simp [spl]
  | b :: l, cur, h => by
    simp only [List.mem_cons, not_or] at h
    rw [spl, if_neg (fun e => h.1 e.symm), spl_none l _ h.2]; simp
theorem spl_app {c : UInt8} : ∀ (a cur b : List UInt8), c ∉ a → spl c cur (a ++ c :: b) = (cur ++ a) :: spl c [] b
  | [], cur, b, _ => by simp [spl]
  | x :: a, cur, b, h => by
    simp only [List.mem_cons, not_or] at h
    rw [List.cons_append, spl, if_neg (fun e => h.1 e.symm), spl_app a _ b h.2]; simp
theorem spl_ne {c : UInt8} : ∀ (l cur : List UInt8), spl c cur l ≠ []
  | [], _ => by simp [spl]
  | b :: l, cur => by
    rw [spl]; split
    · simp
    · exact spl_ne l _
theorem spl_length {c : UInt8} : ∀ (l cur : List UInt8), (spl c cur l).length ≤ l.length + 1
  | [], _ => by simp [spl]
  | b :: l, cur => by
    rw [spl]; split
    · have := spl_length (c := c) l []; simp only [List.length_cons]; omega
    · have := spl_length (c := c) l (cur ++ [b]); simp only [List.length_cons]; omega
theorem idx_none {c : UInt8} : ∀ (l : List UInt8), Lib.indexByte l c = -1 → c ∉ l
  | [], _ => by simp
  | b :: l, h => by
    rw [Lib.indexByte] at h
    split at h
    · omega
    · rename_i hb
      split at h
      · rename_i hl
        have := idx_none l (by simpa using hl)
        simp only [List.mem_cons, not_or]
        exact ⟨fun e => hb (by simp [e]), this⟩
      · have := Lib.indexByte_ge l c; omega
theorem idx_some {c : UInt8} : ∀ (l : List UInt8) (i : Nat), Lib.indexByte l c = (i : Int) → i < l.length ∧ l = l.take i ++ c :: l.drop (i + 1) ∧ c ∉ l.take i
  | [], i, h => by rw [Lib.indexByte] at h; omega
  | b :: l, i, h => by
    rw [Lib.indexByte] at h
    split at h
    · rename_i hb
      have : i = 0 := by omega
      subst this
      have hb : b = c := by simpa using hb
      simp [hb]
    · rename_i hb
      split at h
      · omega
      · rename_i hl
        have g1 := Lib.indexByte_ge l c
        have g2 : ¬ Lib.indexByte l c = -1 := by simpa using hl
        obtain ⟨j, rfl⟩ : ∃ j, i = j + 1 := ⟨i - 1, by omega⟩
        obtain ⟨h1, h2, h3⟩ := idx_some (c := c) l j (by omega)
        refine ⟨by simp; omega, ?_, ?_⟩
        · simp only [List.take_succ_cons, List.drop_succ_cons, List.cons_append]
          exact congrArg _ h2
        · simp only [List.take_succ_cons, List.mem_cons, not_or]
          exact ⟨fun e => hb (by simp [e]), h3⟩
theorem ext_to (s : ByteArray) (a b : Nat) : (s.extract a b).data.toList = (s.data.toList.take b).drop a := by
  rw [ByteArray.data_extract, Array.toList_extract, List.extract_eq_take_drop, List.take_drop]
  by_cases h : a ≤ b
  · rw [Nat.add_sub_cancel' h]
  · rw [show a + (b - a) = a by omega, List.drop_eq_nil_of_le (by simp; exact Nat.min_le_left _ _), List.drop_eq_nil_of_le (by simp; omega)]
theorem ext_drop (s : ByteArray) (a b : Nat) (hb : s.size ≤ b) : (s.extract a b).data.toList = s.data.toList.drop a := by
  rw [ext_to, List.take_of_length_le (by simpa using hb)]
theorem ext_take (s : ByteArray) (b : Nat) : (s.extract 0 b).data.toList = s.data.toList.take b := by
  rw [ext_to]; rfl
theorem splitB_one (c : UInt8) : ∀ (k : Nat) (s : ByteArray), s.data.toList.count c ≤ k → (Lib.splitB ⟨#[c]⟩ 0 k s).map (·.data.toList) = spl c [] s.data.toList
  | 0, s, h => by
    rw [Lib.splitB_zero]
    have : c ∉ s.data.toList := fun hm => by have := List.count_pos_iff.2 hm; omega
    rw [spl_none _ _ this]; rfl
  | k + 1, s, h => by
    have e : Lib.indexB s ⟨#[c]⟩ = Lib.indexByte s.data.toList c := Lib.index_one _ _
    rcases Lib.indexB_cases s ⟨#[c]⟩ with h1 | ⟨i, h1, h2⟩
    · rw [Lib.splitB_miss _ _ _ _ h1]
      rw [e] at h1
      rw [spl_none _ _ (idx_none _ h1)]; rfl
    · rw [Lib.splitB_hit _ _ _ _ _ h1]
      rw [e] at h1
      obtain ⟨q1, q2, q3⟩ := idx_some _ _ h1
      have hz : (⟨#[c]⟩ : ByteArray).size = 1 := rfl
      have hc : (s.data.toList.drop (i + 1)).count c ≤ k := by
        have := congrArg (List.count c) q2
        rw [List.count_append, List.count_cons_self] at this
        omega
      have ih := splitB_one c k (s.extract (i + 1) s.size) (by rw [ext_drop _ _ _ (Nat.le_refl _)]; exact hc)
      rw [hz, List.map_cons, ih, ext_drop _ _ _ (Nat.le_refl _)]
      conv => rhs; rw [q2]
      rw [spl_app _ _ _ q3, Nat.add_zero, ext_take]; rfl
end Go.Kv
