/- ToneReceivers: the law. -/
import Derived.Test.YtfdjkfmiofgclaaGreatDoorKE2
import Derived.Test.YtfdjkfmiofgclaaGreatDoorGW8
namespace Go.Kv
set_option linter.unusedVariables false
set_option linter.unusedSimpArgs false
set_option linter.unnecessarySimpa false
open Go Go.RowKit
set_option maxRecDepth 100000
theorem eq_drop {l m : List Int} (h : l.length = m.length) {i : Nat} (hi : i < l.length) : decide (l.drop i = m.drop i) = if l.getD i 0 = m.getD i 0 then decide (l.drop (i + 1) = m.drop (i + 1)) else false := by
  rw [dropD 0 hi, dropD (l := m) 0 (by omega)]
  by_cases hx : l.getD i 0 = m.getD i 0
  · rw [if_pos hx, hx]; simp
  · rw [if_neg hx]; exact decide_eq_false (fun hh => hx (List.cons.inj hh).1)
theorem F65_lp {l m : List Int} (hl : l.length ≤ 1025) (h : l.length = m.length) : ∀ (k i : Nat), l.length = i + k → res B65 (.c1 l.length (l.map vI) m.length (m.map vI) (i : Int)) = some (decide (l.drop i = m.drop i))
  | 0, i, hk => by
    have : ¬ ((i : Int) < (l.length : Int)) := by omega
    rw [List.drop_of_length_le (by omega), List.drop_of_length_le (by omega), res_eq]
    simp only [B65, sem_br, sem_ret, this, decide_false, decide_true, Bool.false_eq_true, if_false, stepO_ret]
  | k + 1, i, hk => by
    have hi : i < l.length := by omega
    have hj : i < m.length := by omega
    have h1 : (i : Int) < (l.length : Int) := by omega
    have h2 : (i : Int) < (m.length : Int) := by omega
    have ih := F65_lp hl h k (i + 1) (by omega)
    have hin : inI64 ((i : Int) + 1) := by unfold inI64; omega
    rw [eq_drop h hi, res_eq]
    simp only [B65, sem_br, sem_ask, sem_ret, sem_nxt, PC.holds, need_true, Int.toNat_natCast, Nat.mul_one, dI_cel_map, at_map hi, at_map hj, h1, h2, hin, decide_true, if_true, Int.natCast_nonneg, List.length_map, Nat.le_of_lt hi, Nat.le_of_lt hj]
    by_cases hx : l.getD i 0 = m.getD i 0
    · simp only [hx, bne_self_eq_false, Bool.false_eq_true, if_false, if_true, stepO_nxt]
      rw [← ih]; rfl
    · simp only [bne_iff_ne.2 hx, hx, if_true, if_false, stepO_ret]
theorem F65_g {l m : List Int} (hl : l.length ≤ 1025) : F65 l.length (l.map vI) m.length (m.map vI) = some (decide (l = m)) := by
  unfold F65; rw [res_eq]
  by_cases h : l.length = m.length
  · have hb : ((l.length : Int) != (m.length : Int)) = false := by rw [h]; simp
    simp only [B65, sem_br, sem_nxt, hb, Bool.false_eq_true, if_false, stepO_nxt]
    exact F65_lp hl h l.length 0 (by omega)
  · have hb : ((l.length : Int) != (m.length : Int)) = true := bne_iff_ne.2 (by omega)
    have : ¬ l = m := fun e => h (by rw [e])
    simp only [B65, sem_br, sem_ret, hb, if_true, this, decide_false, stepO_ret]
theorem F133_lp {l m : List Int} (hl : l.length ≤ 1025) (h : l.length = m.length) : ∀ (k i : Nat), l.length = i + k → res B133 (.c1 l.length (l.map vI) m.length (m.map vI) (l.length : Int) (i : Int)) = some (decide (l.drop i = m.drop i))
  | 0, i, hk => by
    have : ¬ ((i : Int) < (l.length : Int)) := by omega
    rw [List.drop_of_length_le (by omega), List.drop_of_length_le (by omega), res_eq]
    simp only [B133, sem_br, sem_ret, this, decide_false, decide_true, Bool.false_eq_true, if_false, stepO_ret]
  | k + 1, i, hk => by
    have hi : i < l.length := by omega
    have hj : i < m.length := by omega
    have h1 : (i : Int) < (l.length : Int) := by omega
    have h2 : (i : Int) < (m.length : Int) := by omega
    have ih := F133_lp hl h k (i + 1) (by omega)
    have hin : inI64 ((i : Int) + 1) := by unfold inI64; omega
    rw [eq_drop h hi, res_eq]
    simp only [B133, sem_br, sem_ask, sem_ret, sem_nxt, PC.holds, need_true, Int.toNat_natCast, Nat.mul_one, dI_cel_map, at_map hi, at_map hj, h1, h2, hin, decide_true, if_true, Int.natCast_nonneg, List.length_map, Nat.le_of_lt hi, Nat.le_of_lt hj]
    by_cases hx : l.getD i 0 = m.getD i 0
    · simp only [hx, bne_self_eq_false, Bool.false_eq_true, if_false, if_true, stepO_nxt]
      rw [← ih]; rfl
    · simp only [bne_iff_ne.2 hx, hx, if_true, if_false, stepO_ret]
theorem F133_g {l m : List Int} (hl : l.length ≤ 1025) : F133 l.length (l.map vI) m.length (m.map vI) = some (decide (l = m)) := by
  unfold F133; rw [res_eq]
  by_cases h : l.length = m.length
  · have hb : ((l.length : Int) != (m.length : Int)) = false := by rw [h]; simp
    simp only [B133, sem_br, sem_nxt, hb, Bool.false_eq_true, if_false, stepO_nxt]
    exact F133_lp hl h l.length 0 (by omega)
  · have hb : ((l.length : Int) != (m.length : Int)) = true := bne_iff_ne.2 (by omega)
    have : ¬ l = m := fun e => h (by rw [e])
    simp only [B133, sem_br, sem_ret, hb, if_true, this, decide_false, stepO_ret]
abbrev RR := Int × Nat × List DV × Nat × List DV × Int × Int
abbrev RT := Int × Nat × List DV × Nat × List DV × Nat × List DV × Int
def zR (e : Int) : RR := (0, 0, [], 0, [], 0, e)
def rR (n : Int) (l m : List Int) (a : Int) : RR := (n, l.length, l.map vI, m.length, m.map vI, a, 0)
def zT (e : Int) : RT := (0, 0, [], 0, [], 0, [], e)
def rT (n : Int) (l m b : List Int) : RT := (n, l.length, l.map vI, m.length, m.map vI, b.length, b.map vI, 0)
theorem q_bad {e : Int} (h : e ≠ 0) (w1 : Int) (w2 : Nat) (w3 : List DV) (w4 : Nat) (w5 : List DV) : F64 0 0 [] 0 [] e e w1 w2 w3 w4 w5 = some true := by
  have b : (e != 0) = true := bne_iff_ne.2 h
  unfold F64; rw [res_eq]
  simp only [B64, F65_nil, b, beq_self_eq_true, sem_br, sem_bind_some, sem_sees, sem_ret, if_true, stepO_ret]
theorem q_ok {n : Int} {l m : List Int} (hl : l.length ≤ 1025) (hm : m.length ≤ 1025) : F64 n l.length (l.map vI) m.length (m.map vI) 0 0 n l.length (l.map vI) m.length (m.map vI) = some true := by
  unfold F64; rw [res_eq]
  simp only [B64, F65_eq l hl, F65_eq m hm, bne_self_eq_false, beq_self_eq_true, sem_br, sem_bind_some, sem_sees, sem_ret, Bool.false_eq_true, if_false, if_true, stepO_ret]
theorem F63_g {n : Int} {l m : List Int} (hl : l.length ≤ 1025) (hm : m.length ≤ 1025) : F63 n l.length (l.map vI) m.length (m.map vI) = some (endE n l m) := by
  unfold F63; rw [res_eq]
  simp only [B63, F131_g hl hm, sem_bind_some, sem_sees, sem_ret, stepO_ret]
theorem F60_g {n : Int} {l m : List Int} (hl : l.length ≤ 1025) (hm : m.length ≤ 1025) : F60 n l.length (l.map vI) m.length (m.map vI) = some (endE n l m) := by
  unfold F60; rw [res_eq]
  simp only [B60, F130_g hl hm, sem_bind_some, sem_sees, sem_ret, stepO_ret]
theorem F132_g {n : Int} {l m : List Int} (hl : l.length ≤ 1000) (hm : m.length ≤ 1000) : F132 n l.length (l.map vI) m.length (m.map vI) = some (n, l.length, l.map vI, m.length, m.map vI) := by
  unfold F132; rw [res_eq]
  simp only [B132, F129_m hl, F129_m hm, sem_bind_some, sem_sees, sem_triv, sem_ask, sem_ret, PC.holds, need_true, stepO_ret]
theorem F58_g {n : Int} {l m : List Int} (hl : l.length ≤ 1000) (hm : m.length ≤ 1000) : F58 n l.length (l.map vI) m.length (m.map vI) = some (n, l.length, l.map vI, m.length, m.map vI) := by
  unfold F58; rw [res_eq]
  simp only [B58, F33_eq (show l.length ≤ 1025 by omega), F33_eq (show m.length ≤ 1025 by omega), sem_bind_some, sem_sees, sem_triv, sem_ask, sem_ret, PC.holds, need_true, stepO_ret]
theorem firstI_21 (a b c : Int) : firstI [firstI [a, b], c] = firstI [a, b, c] := by
  rw [firstI_3]
  by_cases h : firstI [a, b] = 0
  · rw [if_pos h, h, first_z]
    by_cases hc : c = 0
    · rw [hc]; rfl
    · rw [first_pos hc]
  · rw [if_neg h, first_pos h]
theorem first_0l {a : Int} {r : List Int} (h : firstI (a :: r) = 0) : a = 0 := by
  by_cases h0 : a = 0
  · exact h0
  · rw [first_pos h0] at h; exact absurd h h0
/-- Heard. -/
theorem heard_ok {n a : Int} {l m b : List Int} (hl : l.length ≤ 9) (hm : m.length ≤ 9) (hb : b.length ≤ 9) :
    ∃ r : RR, F57 n l.length (l.map vI) m.length (m.map vI) a b.length (b.map vI) = some r ∧
      ((firstI [endE n l m, rangeI a 0 1000000, othE l b] = 0 ∧ F61 n l.length (l.map vI) m.length (m.map vI) a b.length (b.map vI) = some r ∧ F64 r.1 r.2.1 r.2.2.1 r.2.2.2.1 r.2.2.2.2.1 r.2.2.2.2.2.2 r.2.2.2.2.2.2 r.1 r.2.1 r.2.2.1 r.2.2.2.1 r.2.2.2.2.1 = some true) ∨
       (firstI [endE n l m, rangeI a 0 1000000, othE l b] ≠ 0 ∧ F64 r.1 r.2.1 r.2.2.1 r.2.2.2.1 r.2.2.2.2.1 r.2.2.2.2.2.2 (firstI [endE n l m, rangeI a 0 1000000, othE l b]) 0 0 [] 0 [] = some true ∧ r.2.2.2.2.2.1 = 0)) := by
  have f1 := F63_g (n := n) (show l.length ≤ 1025 by omega) (show m.length ≤ 1025 by omega)
  have f2 := F132_g (n := n) (show l.length ≤ 1000 by omega) (show m.length ≤ 1000 by omega)
  have f3 := F129_m (show b.length ≤ 1000 by omega)
  have f4 := F127_g (l := l) (show b.length ≤ 1025 by omega)
  by_cases h1 : firstI [endE n l m, rangeI a 0 1000000, othE l b] = 0
  · have he := first_0l h1
    rw [he, first_z] at h1
    have ha := first_0l h1
    rw [ha, first_z] at h1
    have ho := first_0l h1
    have hn := endE_n he
    have hw := wrap_n hn
    have hin : inI64 (n + 1) := by unfold inI64; omega
    have hz : firstI [endE n l m, rangeI a 0 1000000, othE l b] = 0 := by rw [he, ha, ho]; rfl
    by_cases c2 : a > n + 1
    · have b3 : ¬ (a ≤ n) := by omega
      refine ⟨zR 7, ?_, .inl ⟨hz, ?_, q_bad (by decide) _ _ _ _ _⟩⟩
      · unfold F57; rw [res_eq]
        simp only [B57, f1, f2, f3, f4, he, ha, ho, hw, F106_eq, F109_eq, F107_4, c2, decide_true, whenT, whenF, sem_bind_some, sem_sees, sem_br, sem_ask, sem_ret, PC.holds, need_true, if_true, show firstI [0, 0, 0, 7] = 7 from rfl, show ((7 : Int) != 0) = true from rfl, stepO_ret]
        rfl
      · unfold F61; rw [res_eq]
        simp only [B61, c2, b3, hin, decide_false, decide_true, sem_br, sem_ask, sem_ret, PC.holds, need_true, Bool.false_eq_true, if_false, if_true, stepO_ret]
        rfl
    · by_cases c3 : a ≤ n
      · refine ⟨rR n l m n, ?_, .inl ⟨hz, ?_, q_ok (by omega) (by omega)⟩⟩
        · unfold F57; rw [res_eq]
          simp only [B57, f1, f2, f3, f4, he, ha, ho, hw, F106_eq, F109_eq, F107_4, c2, c3, decide_true, decide_false, whenT, whenF, sem_bind_some, sem_sees, sem_br, sem_ask, sem_ret, PC.holds, need_true, Bool.false_eq_true, if_false, if_true, show firstI [0, 0, 0, 0] = 0 from rfl, show ((0 : Int) != 0) = false from rfl, stepO_ret]
          rfl
        · unfold F61; rw [res_eq]
          simp only [B61, c3, decide_true, sem_br, sem_ret, if_true, stepO_ret]
          rfl
      · by_cases c4 : m.length = 0
        · have d2 : ((m.length : Int) == 0) = true := by rw [c4]; rfl
          have d3 : ¬ ((m.length : Int) > 0) := by omega
          refine ⟨rR n l b a, ?_, .inl ⟨hz, ?_, q_ok (by omega) (by omega)⟩⟩
          · unfold F57; rw [res_eq]
            simp only [B57, f1, f2, f3, f4, he, ha, ho, hw, F106_eq, F109_eq, F107_4, c2, c3, d2, decide_false, whenT, whenF, sem_bind_some, sem_sees, sem_br, sem_ask, sem_ret, PC.holds, need_true, Bool.false_eq_true, if_false, if_true, show firstI [0, 0, 0, 0] = 0 from rfl, show ((0 : Int) != 0) = false from rfl, stepO_ret]
            rfl
          · unfold F61; rw [res_eq]
            simp only [B61, c2, c3, d3, hin, decide_false, sem_br, sem_ask, sem_ret, PC.holds, need_true, Bool.false_eq_true, if_false, if_true, stepO_ret]
            rfl
        · have d2 : ((m.length : Int) == 0) = false := by simp; exact fun h => c4 (by rw [h]; rfl)
          have d3 : (m.length : Int) > 0 := by omega
          by_cases c5 : m = b
          · subst c5
            refine ⟨rR n l m a, ?_, .inl ⟨hz, ?_, q_ok (by omega) (by omega)⟩⟩
            · unfold F57; rw [res_eq]
              simp only [B57, f1, f2, f3, f4, he, ha, ho, hw, F106_eq, F109_eq, F107_4, F133_g (show m.length ≤ 1025 by omega), c2, c3, d2, decide_true, decide_false, Bool.not_true, whenT, whenF, sem_bind_some, sem_sees, sem_br, sem_ask, sem_ret, PC.holds, need_true, Bool.false_eq_true, if_false, if_true, show firstI [0, 0, 0, 0] = 0 from rfl, show ((0 : Int) != 0) = false from rfl, stepO_ret]
              rfl
            · unfold F61; rw [res_eq]
              simp only [B61, F65_g (show m.length ≤ 1025 by omega), c2, c3, d3, hin, decide_true, decide_false, Bool.not_true, sem_bind_some, sem_sees, sem_br, sem_ask, sem_ret, PC.holds, need_true, Bool.false_eq_true, if_false, if_true, stepO_ret]
              rfl
          · refine ⟨zR 24, ?_, .inl ⟨hz, ?_, q_bad (by decide) _ _ _ _ _⟩⟩
            · unfold F57; rw [res_eq]
              simp only [B57, f1, f2, f3, f4, he, ha, ho, hw, F106_eq, F109_eq, F107_4, F133_g (show m.length ≤ 1025 by omega), c2, c3, c5, d2, decide_true, decide_false, Bool.not_false, whenT, whenF, sem_bind_some, sem_sees, sem_br, sem_ask, sem_ret, PC.holds, need_true, Bool.false_eq_true, if_false, if_true, show firstI [0, 0, 0, 0] = 0 from rfl, show ((0 : Int) != 0) = false from rfl, stepO_ret]
              rfl
            · unfold F61; rw [res_eq]
              simp only [B61, F65_g (show m.length ≤ 1025 by omega), c2, c3, c5, d3, hin, decide_true, decide_false, Bool.not_false, sem_bind_some, sem_sees, sem_br, sem_ask, sem_ret, PC.holds, need_true, Bool.false_eq_true, if_false, if_true, stepO_ret]
              rfl
  · refine ⟨zR (firstI [endE n l m, rangeI a 0 1000000, othE l b]), ?_, .inr ⟨h1, q_bad h1 _ _ _ _ _, rfl⟩⟩
    have hf : ∀ x : Int, firstI [endE n l m, rangeI a 0 1000000, othE l b, x] = firstI [endE n l m, rangeI a 0 1000000, othE l b] := by
      intro x
      rw [firstI_4, firstI_3]
      by_cases hh : firstI [endE n l m, rangeI a 0 1000000] = 0
      · rw [if_pos hh, if_pos hh]
        rw [firstI_3, if_pos hh] at h1
        rw [first_pos h1]
      · rw [if_neg hh, if_neg hh]
    unfold F57; rw [res_eq]
    simp only [B57, f1, f2, f3, f4, F106_eq, F109_eq, F107_4, hf, bne_iff_ne.2 h1, sem_bind_some, sem_sees, sem_br, sem_ask, sem_ret, PC.holds, need_true, if_true, stepO_ret]
    rfl
end Go.Kv
