/- ToneReceivers: Taken, and the law. -/
import Derived.Test.YtfdjkfmiofgclaaGreatDoorKR1
namespace Go.Kv
set_option linter.unusedVariables false
set_option linter.unusedSimpArgs false
set_option linter.unnecessarySimpa false
open Go Go.RowKit
set_option maxRecDepth 100000
/-- Taken. -/
theorem taken_ok {n a : Int} {l m : List Int} (hl : l.length ≤ 9) (hm : m.length ≤ 9) :
    ∃ r : RT, F59 n l.length (l.map vI) m.length (m.map vI) a = some r ∧
      ((firstI [endE n l m, rangeI a 0 1000000] = 0 ∧ F62 n l.length (l.map vI) m.length (m.map vI) a = some r ∧ F64 r.1 r.2.1 r.2.2.1 r.2.2.2.1 r.2.2.2.2.1 r.2.2.2.2.2.2.2 r.2.2.2.2.2.2.2 r.1 r.2.1 r.2.2.1 r.2.2.2.1 r.2.2.2.2.1 = some true ∧ F65 r.2.2.2.2.2.1 r.2.2.2.2.2.2.1 r.2.2.2.2.2.1 r.2.2.2.2.2.2.1 = some true) ∨
       (firstI [endE n l m, rangeI a 0 1000000] ≠ 0 ∧ F64 r.1 r.2.1 r.2.2.1 r.2.2.2.1 r.2.2.2.2.1 r.2.2.2.2.2.2.2 (firstI [endE n l m, rangeI a 0 1000000]) 0 0 [] 0 [] = some true ∧ F65 r.2.2.2.2.2.1 r.2.2.2.2.2.2.1 0 [] = some true)) := by
  have f1 := F63_g (n := n) (show l.length ≤ 1025 by omega) (show m.length ≤ 1025 by omega)
  have f2 := F132_g (n := n) (show l.length ≤ 1000 by omega) (show m.length ≤ 1000 by omega)
  have f3 := F129_m (show m.length ≤ 1000 by omega)
  have f4 := F129_m (show l.length ≤ 1000 by omega)
  by_cases h1 : firstI [endE n l m, rangeI a 0 1000000] = 0
  · have hz := h1
    have he := first_0l h1
    rw [he, first_z] at h1
    have ha := first_0l h1
    have hn := endE_n he
    have hw := wrap_n hn
    have hin : inI64 (n + 1) := by unfold inI64; omega
    by_cases c1 : a < n
    · have b1 : ¬ (a > n + 1) := by omega
      have b2 : ¬ (a > n) := by omega
      refine ⟨zT 35, ?_, .inl ⟨hz, ?_, q_bad (by decide) _ _ _ _ _, F65_nil⟩⟩
      · unfold F59; rw [res_eq]
        simp only [B59, f1, f2, f3, f4, he, ha, hw, F106_eq, F109_eq, F107_4, c1, b1, b2, decide_true, decide_false, beq_self_eq_true, whenT, whenF, sem_bind_some, sem_sees, sem_br, sem_ask, sem_ret, PC.holds, need_true, Bool.false_eq_true, if_false, if_true, show firstI [0, 0, 35, 0] = 35 from rfl, show ((35 : Int) != 0) = true from rfl, stepO_ret]
        rfl
      · unfold F62; rw [res_eq]
        simp only [B62, c1, decide_true, sem_br, sem_ret, if_true, stepO_ret]
        rfl
    · by_cases c2 : a = n
      · have b1 : ¬ (a > n + 1) := by omega
        have b2 : ¬ (a > n) := by omega
        have b3 : (a == n) = true := by simpa using c2
        refine ⟨rT n l m l, ?_, .inl ⟨hz, ?_, q_ok (by omega) (by omega), F65_eq l (by omega)⟩⟩
        · unfold F59; rw [res_eq]
          simp only [B59, f1, f2, f3, f4, he, ha, hw, F106_eq, F109_eq, F107_4, c1, b1, b2, decide_true, decide_false, beq_self_eq_true, whenT, whenF, sem_bind_some, sem_sees, sem_br, sem_ask, sem_ret, PC.holds, need_true, Bool.false_eq_true, if_false, if_true, show firstI [0, 0, 0, 0] = 0 from rfl, show ((0 : Int) != 0) = false from rfl, stepO_ret]
          rfl
        · unfold F62; rw [res_eq]
          simp only [B62, c1, b3, decide_false, sem_br, sem_ret, Bool.false_eq_true, if_false, if_true, stepO_ret]
          rfl
      · have b2 : a > n := by omega
        have b3 : (a == n) = false := by simpa using c2
        by_cases c3 : a > n + 1
        · refine ⟨zT 7, ?_, .inl ⟨hz, ?_, q_bad (by decide) _ _ _ _ _, F65_nil⟩⟩
          · unfold F59; rw [res_eq]
            simp only [B59, f1, f2, f3, f4, he, ha, hw, F106_eq, F109_eq, F107_4, c1, c3, b2, decide_true, decide_false, beq_self_eq_true, whenT, whenF, sem_bind_some, sem_sees, sem_br, sem_ask, sem_ret, PC.holds, need_true, Bool.false_eq_true, if_false, if_true, show firstI [0, 0, 0, 7] = 7 from rfl, show ((7 : Int) != 0) = true from rfl, stepO_ret]
            rfl
          · unfold F62; rw [res_eq]
            simp only [B62, c1, b3, c3, hin, decide_true, decide_false, sem_br, sem_ask, sem_ret, PC.holds, need_true, Bool.false_eq_true, if_false, if_true, stepO_ret]
            rfl
        · by_cases c4 : m.length = 0
          · have d2 : ((m.length : Int) == 0) = true := by rw [c4]; rfl
            refine ⟨zT 7, ?_, .inl ⟨hz, ?_, q_bad (by decide) _ _ _ _ _, F65_nil⟩⟩
            · unfold F59; rw [res_eq]
              simp only [B59, f1, f2, f3, f4, he, ha, hw, F106_eq, F109_eq, F107_4, c1, c3, b2, d2, decide_true, decide_false, beq_self_eq_true, whenT, whenF, sem_bind_some, sem_sees, sem_br, sem_ask, sem_ret, PC.holds, need_true, Bool.false_eq_true, if_false, if_true, show firstI [0, 0, 0, 7] = 7 from rfl, show ((7 : Int) != 0) = true from rfl, stepO_ret]
              rfl
            · unfold F62; rw [res_eq]
              simp only [B62, c1, b3, c3, d2, hin, decide_true, decide_false, sem_br, sem_ask, sem_ret, PC.holds, need_true, Bool.false_eq_true, if_false, if_true, stepO_ret]
              rfl
          · have d2 : ((m.length : Int) == 0) = false := by simp; exact fun h => c4 (by rw [h]; rfl)
            refine ⟨rT a m [] m, ?_, .inl ⟨hz, ?_, q_ok (by omega) (by simp), F65_eq m (by omega)⟩⟩
            · unfold F59; rw [res_eq]
              simp only [B59, f1, f2, f3, f4, he, ha, hw, F106_eq, F109_eq, F107_4, c1, c3, b2, d2, decide_true, decide_false, beq_self_eq_true, whenT, whenF, sem_bind_some, sem_sees, sem_br, sem_ask, sem_ret, PC.holds, need_true, Bool.false_eq_true, if_false, if_true, show firstI [0, 0, 0, 0] = 0 from rfl, show ((0 : Int) != 0) = false from rfl, stepO_ret]
              rfl
            · unfold F62; rw [res_eq]
              simp only [B62, c1, b3, c3, d2, hin, decide_true, decide_false, sem_br, sem_ask, sem_ret, PC.holds, need_true, Bool.false_eq_true, if_false, if_true, stepO_ret]
              rfl
  · refine ⟨zT (firstI [endE n l m, rangeI a 0 1000000]), ?_, .inr ⟨h1, q_bad h1 _ _ _ _ _, F65_nil⟩⟩
    have hf : ∀ x y : Int, firstI [endE n l m, rangeI a 0 1000000, x, y] = firstI [endE n l m, rangeI a 0 1000000] := by
      intro x y; rw [firstI_4, if_neg h1]
    unfold F59; rw [res_eq]
    by_cases c1 : a > IntKind.i64.wrap (n + 1)
    · simp only [B59, f1, F106_eq, F109_eq, F107_4, hf, c1, bne_iff_ne.2 h1, decide_true, sem_bind_some, sem_sees, sem_br, sem_ask, sem_ret, PC.holds, need_true, if_true, stepO_ret]
      rfl
    · by_cases c2 : a > n
      · simp only [B59, f1, F106_eq, F109_eq, F107_4, hf, c1, c2, bne_iff_ne.2 h1, decide_true, decide_false, beq_self_eq_true, sem_bind_some, sem_sees, sem_br, sem_ask, sem_ret, PC.holds, need_true, Bool.false_eq_true, if_false, if_true, stepO_ret]
        rfl
      · simp only [B59, f1, F106_eq, F109_eq, F107_4, hf, c1, c2, bne_iff_ne.2 h1, decide_true, decide_false, beq_self_eq_true, sem_bind_some, sem_sees, sem_br, sem_ask, sem_ret, PC.holds, need_true, Bool.false_eq_true, if_false, if_true, stepO_ret]
        rfl
theorem F30_eq (l : List Int) : F30 l.length (l.map vI) = some (decide ((l.length : Int) ≤ 9)) := by
  unfold F30; rw [res_eq]; simp only [B30, sem_ret, stepO_ret]
/-- The law's truth. -/
theorem receivers_true (n : Int) (l m b : List Int) (a : Int) : F8 n l.length (l.map vI) m.length (m.map vI) b.length (b.map vI) a = some true := by
  unfold F8; rw [res_eq]
  simp only [B8, F15_eq, F30_eq, sem_bind_some, sem_sees, sem_triv, sem_br, sem_ret, Bool.not_true, Bool.false_eq_true, if_false]
  by_cases hl : (l.length : Int) ≤ 9
  rotate_left
  · simp only [hl, decide_false, Bool.not_false, if_true, stepO_ret]
  simp only [hl, decide_true, Bool.not_true, Bool.false_eq_true, if_false]
  by_cases hm : (m.length : Int) ≤ 9
  rotate_left
  · simp only [hm, decide_false, Bool.not_false, if_true, stepO_ret]
  simp only [hm, decide_true, Bool.not_true, Bool.false_eq_true, if_false]
  by_cases hb : (b.length : Int) ≤ 9
  rotate_left
  · simp only [hb, decide_false, Bool.not_false, if_true, stepO_ret]
  simp only [hb, decide_true, Bool.not_true, Bool.false_eq_true, if_false]
  have hl : l.length ≤ 9 := by omega
  have hm : m.length ≤ 9 := by omega
  have hb : b.length ≤ 9 := by omega
  obtain ⟨r1, e1, c1⟩ := heard_ok (n := n) (a := a) hl hm hb
  obtain ⟨r2, e2, c2⟩ := taken_ok (n := n) (a := a) hl hm
  simp only [F58_g (n := n) (show l.length ≤ 1000 by omega) (show m.length ≤ 1000 by omega), F33_eq (show b.length ≤ 1025 by omega), e1, e2, F60_g (n := n) (show l.length ≤ 1025 by omega) (show m.length ≤ 1025 by omega), F51_g (l := l) (show b.length ≤ 1025 by omega), F52_eq, F20_2, F63_g (n := n) (show l.length ≤ 1025 by omega) (show m.length ≤ 1025 by omega), firstI_21, sem_bind_some, sem_sees, sem_br]
  rcases c1 with ⟨z1, f1, g1⟩ | ⟨z1, g1, an⟩
  · rcases c2 with ⟨z2, f2, g2, k2⟩ | ⟨z2, g2, k2⟩
    · simp only [z1, z2, f1, f2, g1, g2, k2, beq_self_eq_true, sem_br, sem_bind_some, sem_sees, sem_triv, sem_ret, if_true, stepO_ret]
    · have b2 : (firstI [endE n l m, rangeI a 0 1000000] == 0) = false := by simpa using z2
      simp only [z1, b2, f1, g1, g2, k2, beq_self_eq_true, sem_br, sem_bind_some, sem_sees, sem_triv, sem_ret, Bool.false_eq_true, if_true, if_false, stepO_ret]
  · have b1 : (firstI [endE n l m, rangeI a 0 1000000, othE l b] == 0) = false := by simpa using z1
    rcases c2 with ⟨z2, f2, g2, k2⟩ | ⟨z2, g2, k2⟩
    · simp only [b1, z2, f2, g1, g2, k2, an, beq_self_eq_true, sem_br, sem_bind_some, sem_sees, sem_triv, sem_ret, Bool.false_eq_true, if_true, if_false, stepO_ret]
    · have b2 : (firstI [endE n l m, rangeI a 0 1000000] == 0) = false := by simpa using z2
      simp only [b1, b2, g1, g2, k2, an, beq_self_eq_true, sem_br, sem_bind_some, sem_sees, sem_triv, sem_ret, Bool.false_eq_true, if_true, if_false, stepO_ret]
end Go.Kv
