/- ToneSenders: the law. -/
import Derived.Test.YtfdjkfmiofgclaaGreatDoorKE2
import Derived.Test.YtfdjkfmiofgclaaGreatDoorGW7
namespace Go.Kv
set_option linter.unusedVariables false
set_option linter.unusedSimpArgs false
set_option linter.unnecessarySimpa false
open Go Go.RowKit
set_option maxRecDepth 100000
abbrev RS := Int × Nat × List DV × Nat × List DV × Int
def zS (e : Int) : RS := (0, 0, [], 0, [], e)
def rS (n : Int) (l m : List Int) : RS := (n, l.length, l.map vI, m.length, m.map vI, 0)
def GS (r w : RS) : Prop := F56 r.1 r.2.1 r.2.2.1 r.2.2.2.1 r.2.2.2.2.1 r.2.2.2.2.2 w.2.2.2.2.2 w.1 w.2.1 w.2.2.1 w.2.2.2.1 w.2.2.2.2.1 = some true
theorem gs_bad {e : Int} (h : e ≠ 0) (w : RS) (hw : w.2.2.2.2.2 = e) : GS (zS e) w := by
  unfold GS
  rw [hw]
  have b : (e != 0) = true := bne_iff_ne.2 h
  unfold F56; rw [res_eq]
  simp only [zS, B56, F65_nil, b, beq_self_eq_true, sem_br, sem_bind_some, sem_sees, sem_ret, if_true, stepO_ret]
theorem gs_ok {n : Int} {l m : List Int} (hl : l.length ≤ 1025) (hm : m.length ≤ 1025) : GS (rS n l m) (rS n l m) := by
  unfold GS F56; rw [res_eq]
  simp only [rS, B56, F65_eq l hl, F65_eq m hm, bne_self_eq_false, beq_self_eq_true, sem_br, sem_bind_some, sem_sees, sem_ret, Bool.false_eq_true, if_false, if_true, stepO_ret]
theorem F55_g {n : Int} {l m : List Int} (hl : l.length ≤ 1025) (hm : m.length ≤ 1025) : F55 n l.length (l.map vI) m.length (m.map vI) = some (endE n l m) := by
  unfold F55; rw [res_eq]
  simp only [B55, F131_g hl hm, sem_bind_some, sem_sees, sem_ret, stepO_ret]
theorem F50_g {n : Int} {l m : List Int} (hl : l.length ≤ 1025) (hm : m.length ≤ 1025) : F50 n l.length (l.map vI) m.length (m.map vI) = some (endE n l m) := by
  unfold F50; rw [res_eq]
  simp only [B50, F130_g hl hm, sem_bind_some, sem_sees, sem_ret, stepO_ret]
theorem F128_g {n : Int} {l m : List Int} (hl : l.length ≤ 1000) (hm : m.length ≤ 1000) : F128 n l.length (l.map vI) m.length (m.map vI) = some (n, l.length, l.map vI, m.length, m.map vI) := by
  unfold F128; rw [res_eq]
  simp only [B128, F129_m hl, F129_m hm, sem_bind_some, sem_sees, sem_triv, sem_ask, sem_ret, PC.holds, need_true, stepO_ret]
theorem F48_g {n : Int} {l m : List Int} (hl : l.length ≤ 1000) (hm : m.length ≤ 1000) : F48 n l.length (l.map vI) m.length (m.map vI) = some (n, l.length, l.map vI, m.length, m.map vI) := by
  unfold F48; rw [res_eq]
  simp only [B48, F33_eq (show l.length ≤ 1025 by omega), F33_eq (show m.length ≤ 1025 by omega), sem_bind_some, sem_sees, sem_triv, sem_ask, sem_ret, PC.holds, need_true, stepO_ret]
def propE (n : Int) (m : List Int) : Int := firstI [whenI (decide ((m.length : Int) > 0)) 31, whenI (n == 1000000) 20]
/-- Proposed. -/
theorem prop_ok {n : Int} {l m b : List Int} (hl : l.length ≤ 9) (hm : m.length ≤ 9) (hb : b.length ≤ 9) :
    ∃ r : RS, F47 n l.length (l.map vI) m.length (m.map vI) b.length (b.map vI) = some r ∧
      ((firstI [endE n l m, othE l b] = 0 ∧ F53 n l.length (l.map vI) m.length (m.map vI) b.length (b.map vI) = some r ∧ GS r r) ∨ (firstI [endE n l m, othE l b] ≠ 0 ∧ GS r (zS (firstI [endE n l m, othE l b])))) := by
  have e47 : F47 n l.length (l.map vI) m.length (m.map vI) b.length (b.map vI) = some (if firstI [endE n l m, othE l b, whenI (decide ((m.length : Int) > 0)) 31, whenI (n == 1000000) 20] ≠ 0 then zS (firstI [endE n l m, othE l b, whenI (decide ((m.length : Int) > 0)) 31, whenI (n == 1000000) 20]) else rS n l b) := by
    unfold F47; rw [res_eq]
    simp only [B47, F55_g (show l.length ≤ 1025 by omega) (show m.length ≤ 1025 by omega), F127_g (show b.length ≤ 1025 by omega), F109_eq, F107_4, F128_g (show l.length ≤ 1000 by omega) (show m.length ≤ 1000 by omega), F129_m (show b.length ≤ 1000 by omega), sem_bind_some, sem_sees, sem_br, sem_ret]
    by_cases h : firstI [endE n l m, othE l b, whenI (decide ((m.length : Int) > 0)) 31, whenI (n == 1000000) 20] = 0
    · simp only [h, bne_self_eq_false, Bool.false_eq_true, if_false, ne_eq, not_true_eq_false, stepO_ret]
      rfl
    · simp only [bne_iff_ne.2 h, h, if_true, ne_eq, not_false_eq_true, stepO_ret]
      rfl
  have e53 : F53 n l.length (l.map vI) m.length (m.map vI) b.length (b.map vI) = some (if propE n m ≠ 0 then zS (propE n m) else rS n l b) := by
    unfold F53 propE; rw [res_eq]
    simp only [B53, F37_eq, F20_2, sem_bind_some, sem_sees, sem_br, sem_ret]
    by_cases h : firstI [whenI (decide ((m.length : Int) > 0)) 31, whenI (n == 1000000) 20] = 0
    · simp only [h, bne_self_eq_false, Bool.false_eq_true, if_false, ne_eq, not_true_eq_false, stepO_ret]
      rfl
    · simp only [bne_iff_ne.2 h, h, if_true, ne_eq, not_false_eq_true, stepO_ret]
      rfl
  refine ⟨_, e47, ?_⟩
  rw [firstI_4]
  by_cases h1 : firstI [endE n l m, othE l b] = 0
  · left
    refine ⟨h1, ?_, ?_⟩
    · rw [if_pos h1, e53]; rfl
    · rw [if_pos h1]
      by_cases h2 : firstI [whenI (decide ((m.length : Int) > 0)) 31, whenI (n == 1000000) 20] = 0
      · rw [if_neg (by simpa using h2)]
        exact gs_ok (by omega) (by omega)
      · rw [if_pos h2]
        exact gs_bad h2 _ rfl
  · right
    refine ⟨h1, ?_⟩
    rw [if_neg h1, if_pos h1]
    exact gs_bad h1 _ rfl
/-- Confirmed. -/
theorem conf_ok {n a : Int} {l m : List Int} (hl : l.length ≤ 9) (hm : m.length ≤ 9) :
    ∃ r : RS, F49 n l.length (l.map vI) m.length (m.map vI) a = some r ∧
      ((firstI [endE n l m, rangeI a 0 1000000] = 0 ∧ F54 n l.length (l.map vI) m.length (m.map vI) a = some r ∧ GS r r) ∨ (firstI [endE n l m, rangeI a 0 1000000] ≠ 0 ∧ GS r (zS (firstI [endE n l m, rangeI a 0 1000000])))) := by
  have f1 := F55_g (n := n) (show l.length ≤ 1025 by omega) (show m.length ≤ 1025 by omega)
  have f2 := F128_g (n := n) (show l.length ≤ 1000 by omega) (show m.length ≤ 1000 by omega)
  have f3 := F129_m (show m.length ≤ 1000 by omega)
  by_cases h1 : firstI [endE n l m, rangeI a 0 1000000] = 0
  · have he : endE n l m = 0 := by
      by_cases h : endE n l m = 0
      · exact h
      · rw [first_pos h] at h1; exact absurd h1 h
    have ha : rangeI a 0 1000000 = 0 := by
      rw [he, first_z] at h1
      by_cases h : rangeI a 0 1000000 = 0
      · exact h
      · rw [first_pos h] at h1; exact absurd h1 h
    have hn := endE_n he
    have hw := wrap_n hn
    have hin : inI64 (n + 1) := by unfold inI64; omega
    by_cases c1 : a = n + 1
    · have b1 : (a == n + 1) = true := by simpa using c1
      have b2 : ¬ (a > n + 1) := by omega
      have b3 : ¬ (a ≤ n) := by omega
      by_cases c2 : m.length = 0
      · have d2 : ((m.length : Int) == 0) = true := by rw [c2]; rfl
        refine ⟨zS 7, ?_, .inl ⟨h1, ?_, gs_bad (by decide) _ rfl⟩⟩
        · unfold F49; rw [res_eq]
          simp only [B49, f1, f2, f3, he, ha, hw, F106_eq, F109_eq, F107_4, b1, b2, d2, decide_false, whenT, whenF, sem_bind_some, sem_sees, sem_br, sem_ask, sem_ret, PC.holds, need_true, if_true, show firstI [0, 0, 0, 7] = 7 from rfl, show ((7 : Int) != 0) = true from rfl, stepO_ret]
          rfl
        · unfold F54; rw [res_eq]
          simp only [B54, b2, b3, d2, hin, decide_false, sem_br, sem_ask, sem_ret, PC.holds, need_true, Bool.false_eq_true, if_false, if_true, stepO_ret]
          rfl
      · have d2 : ((m.length : Int) == 0) = false := by simp; exact fun h => c2 (by rw [h]; rfl)
        refine ⟨rS a m [], ?_, .inl ⟨h1, ?_, gs_ok (by omega) (by simp)⟩⟩
        · unfold F49; rw [res_eq]
          simp only [B49, f1, f2, f3, he, ha, hw, F106_eq, F109_eq, F107_4, b1, b2, d2, decide_false, whenT, whenF, sem_bind_some, sem_sees, sem_br, sem_ask, sem_ret, PC.holds, need_true, if_true, show firstI [0, 0, 0, 0] = 0 from rfl, show ((0 : Int) != 0) = false from rfl, Bool.false_eq_true, if_false, stepO_ret]
          rfl
        · unfold F54; rw [res_eq]
          simp only [B54, b2, b3, d2, hin, decide_false, sem_br, sem_ask, sem_ret, PC.holds, need_true, Bool.false_eq_true, if_false, if_true, stepO_ret]
          rfl
    · have b1 : (a == n + 1) = false := by simpa using c1
      by_cases c2 : a > n + 1
      · have b3 : ¬ (a ≤ n) := by omega
        refine ⟨zS 24, ?_, .inl ⟨h1, ?_, gs_bad (by decide) _ rfl⟩⟩
        · unfold F49; rw [res_eq]
          simp only [B49, f1, f2, f3, he, ha, hw, F106_eq, F109_eq, F107_4, b1, c2, decide_true, whenT, whenF, sem_bind_some, sem_sees, sem_br, sem_ask, sem_ret, PC.holds, need_true, Bool.false_eq_true, if_false, if_true, show firstI [0, 0, 24, 0] = 24 from rfl, show ((24 : Int) != 0) = true from rfl, stepO_ret]
          rfl
        · unfold F54; rw [res_eq]
          simp only [B54, c2, b3, hin, decide_false, decide_true, sem_br, sem_ask, sem_ret, PC.holds, need_true, Bool.false_eq_true, if_false, if_true, stepO_ret]
          rfl
      · have b3 : a ≤ n := by omega
        refine ⟨rS n l m, ?_, .inl ⟨h1, ?_, gs_ok (by omega) (by omega)⟩⟩
        · unfold F49; rw [res_eq]
          simp only [B49, f1, f2, f3, he, ha, hw, F106_eq, F109_eq, F107_4, b1, c2, decide_false, whenT, whenF, sem_bind_some, sem_sees, sem_br, sem_ask, sem_ret, PC.holds, need_true, Bool.false_eq_true, if_false, if_true, show firstI [0, 0, 0, 0] = 0 from rfl, show ((0 : Int) != 0) = false from rfl, stepO_ret]
          rfl
        · unfold F54; rw [res_eq]
          simp only [B54, b3, decide_true, sem_br, sem_ret, if_true, stepO_ret]
          rfl
  · refine ⟨zS (firstI [endE n l m, rangeI a 0 1000000]), ?_, .inr ⟨h1, gs_bad h1 _ rfl⟩⟩
    have hf : ∀ x y : Int, firstI [endE n l m, rangeI a 0 1000000, x, y] = firstI [endE n l m, rangeI a 0 1000000] := by
      intro x y; rw [firstI_4, if_neg h1]
    unfold F49; rw [res_eq]
    by_cases c1 : (a == IntKind.i64.wrap (n + 1)) = true
    · simp only [B49, f1, F106_eq, F109_eq, F107_4, hf, c1, bne_iff_ne.2 h1, sem_bind_some, sem_sees, sem_br, sem_ask, sem_ret, PC.holds, need_true, if_true, stepO_ret]
      rfl
    · have c1 : (a == IntKind.i64.wrap (n + 1)) = false := by simpa using c1
      simp only [B49, f1, F106_eq, F109_eq, F107_4, hf, c1, bne_iff_ne.2 h1, sem_bind_some, sem_sees, sem_br, sem_ask, sem_ret, PC.holds, need_true, Bool.false_eq_true, if_false, if_true, stepO_ret]
      rfl
theorem F30_eq (l : List Int) : F30 l.length (l.map vI) = some (decide ((l.length : Int) ≤ 9)) := by
  unfold F30; rw [res_eq]; simp only [B30, sem_ret, stepO_ret]
/-- The law's truth. -/
theorem senders_true (n : Int) (l m b : List Int) (a : Int) : F7 n l.length (l.map vI) m.length (m.map vI) b.length (b.map vI) a = some true := by
  unfold F7; rw [res_eq]
  simp only [B7, F15_eq, F30_eq, sem_bind_some, sem_sees, sem_triv, sem_br, sem_ret, Bool.not_true, Bool.false_eq_true, if_false]
  by_cases hl : (l.length : Int) ≤ 9
  rotate_left
  · simp only [hl, decide_false, Bool.not_false, if_true, stepO_ret]
  simp only [hl, decide_true, Bool.not_true, Bool.false_eq_true, if_false]
  by_cases hm : (m.length : Int) ≤ 9
  rotate_left
  · simp only [hm, decide_false, Bool.not_false, if_true, stepO_ret]
  simp only [hm, decide_true, Bool.not_true, Bool.false_eq_true, if_false]
  by_cases hb : (b.length : Int) ≤ 9
  rotate_left
  · simp only [hb, decide_false, Bool.not_false, if_true, stepO_ret]
  simp only [hb, decide_true, Bool.not_true, Bool.false_eq_true, if_false]
  have hl : l.length ≤ 9 := by omega
  have hm : m.length ≤ 9 := by omega
  have hb : b.length ≤ 9 := by omega
  obtain ⟨r1, e1, c1⟩ := prop_ok (n := n) hl hm hb
  obtain ⟨r2, e2, c2⟩ := conf_ok (n := n) (a := a) hl hm
  simp only [F48_g (n := n) (show l.length ≤ 1000 by omega) (show m.length ≤ 1000 by omega), F33_eq (show b.length ≤ 1025 by omega), e1, e2, F50_g (n := n) (show l.length ≤ 1025 by omega) (show m.length ≤ 1025 by omega), F51_g (l := l) (show b.length ≤ 1025 by omega), F52_eq, F20_2, F55_g (n := n) (show l.length ≤ 1025 by omega) (show m.length ≤ 1025 by omega), sem_bind_some, sem_sees, sem_br]
  rcases c1 with ⟨z1, f1, g1⟩ | ⟨z1, g1⟩
  · have g1 : F56 _ _ _ _ _ _ _ _ _ _ _ _ = some true := g1
    rcases c2 with ⟨z2, f2, g2⟩ | ⟨z2, g2⟩
    · have g2 : F56 _ _ _ _ _ _ _ _ _ _ _ _ = some true := g2
      simp only [z1, z2, f1, f2, g1, g2, beq_self_eq_true, sem_br, sem_bind_some, sem_sees, sem_triv, sem_ret, if_true, stepO_ret]
    · have b2 : (firstI [endE n l m, rangeI a 0 1000000] == 0) = false := by simpa using z2
      unfold GS at g2
      simp only [zS] at g2
      simp only [z1, b2, f1, g1, g2, beq_self_eq_true, sem_br, sem_bind_some, sem_sees, sem_triv, sem_ret, Bool.false_eq_true, if_true, if_false, stepO_ret]
  · have b1 : (firstI [endE n l m, othE l b] == 0) = false := by simpa using z1
    unfold GS at g1
    simp only [zS] at g1
    rcases c2 with ⟨z2, f2, g2⟩ | ⟨z2, g2⟩
    · have g2 : F56 _ _ _ _ _ _ _ _ _ _ _ _ = some true := g2
      simp only [b1, z2, f2, g1, g2, beq_self_eq_true, sem_br, sem_bind_some, sem_sees, sem_triv, sem_ret, Bool.false_eq_true, if_true, if_false, stepO_ret]
    · have b2 : (firstI [endE n l m, rangeI a 0 1000000] == 0) = false := by simpa using z2
      unfold GS at g2
      simp only [zS] at g2
      simp only [b1, b2, g1, g2, beq_self_eq_true, sem_br, sem_bind_some, sem_sees, sem_triv, sem_ret, Bool.false_eq_true, if_true, if_false, stepO_ret]
end Go.Kv
