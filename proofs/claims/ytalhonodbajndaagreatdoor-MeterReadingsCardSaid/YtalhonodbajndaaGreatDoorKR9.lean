/- MeterReadings, in plain Lean. -/
import Derived.Test.YtalhonodbajndaaGreatDoorKzP
namespace Go.Kv
set_option linter.unusedVariables false
set_option linter.unusedSimpArgs false
open Go Go.RowKit
set_option maxRecDepth 100000
theorem fnil : firstI [] = 0 := rfl
def regI (u r : Int) : Int := firstI [rangeI u 0 999999, rangeI r 0 999999]
theorem regI_zero {u r : Int} : regI u r = 0 ↔ (0 ≤ u ∧ u ≤ 999999) ∧ (0 ≤ r ∧ r ≤ 999999) := by
  unfold regI
  simp only [firstI_zero, rangeI_zero, fnil, and_true]
theorem F75_6 (a b c d e f : Int) : F75 6 [vI a, vI b, vI c, vI d, vI e, vI f] = some (firstI [a, b, c, d, e, f]) := F75_eq [a, b, c, d, e, f] (by simp)
theorem F86_eq (u r : Int) : F86 u r = some (regI u r) := by
  unfold F86; rw [res_eq]
  simp only [B86, F89_eq, F75_2, sem_bind_some, sem_sees, sem_ret, stepO_ret, regI]
theorem F57_eq (u r : Int) : F57 u r = some (regI u r) := by
  unfold F57; rw [res_eq]
  simp only [B57, F34_eq, F24_2, sem_bind_some, sem_sees, sem_ret, stepO_ret, regI]
def metI (A : List Int) : Int := firstI [regI (A.getD 0 0) (A.getD 1 0), regI (A.getD 2 0) (A.getD 3 0), regI (A.getD 4 0) (A.getD 5 0), regI (A.getD 6 0) (A.getD 7 0), regI (A.getD 8 0) (A.getD 9 0), regI (A.getD 10 0) (A.getD 11 0)]
theorem F18_eq (a0 a1 a2 a3 a4 a5 a6 a7 a8 a9 a10 a11 : Int) : F18 a0 a1 a2 a3 a4 a5 a6 a7 a8 a9 a10 a11 = some (metI [a0, a1, a2, a3, a4, a5, a6, a7, a8, a9, a10, a11]) := by
  unfold F18; rw [res_eq]
  simp only [B18, F86_eq, F75_6, sem_bind_some, sem_sees, sem_ret, stepO_ret]
  rfl
theorem F19_eq (a0 a1 a2 a3 a4 a5 a6 a7 a8 a9 a10 a11 : Int) : F19 a0 a1 a2 a3 a4 a5 a6 a7 a8 a9 a10 a11 = some (metI [a0, a1, a2, a3, a4, a5, a6, a7, a8, a9, a10, a11]) := by
  have e (x y : Int) : firstI [rangeI x 0 999999, rangeI y 0 999999] = regI x y := rfl
  have hm : metI [a0, a1, a2, a3, a4, a5, a6, a7, a8, a9, a10, a11] = firstI [regI a0 a1, regI a2 a3, regI a4 a5, regI a6 a7, regI a8 a9, regI a10 a11] := rfl
  unfold F19; rw [res_eq, hm]
  simp only [B19, F34_eq, F24_2, e, sem_bind_some, sem_sees, sem_br, sem_ret]

  by_cases h0 : regI a0 a1 = 0
  · skip
    by_cases h1 : regI a2 a3 = 0
    · skip
      by_cases h2 : regI a4 a5 = 0
      · skip
        by_cases h3 : regI a6 a7 = 0
        · skip
          by_cases h4 : regI a8 a9 = 0
          · skip
            by_cases h5 : regI a10 a11 = 0
            · skip
              simp only [h0, h1, h2, h3, h4, h5, bne_self_eq_false, Bool.false_eq_true, if_false, if_true, firstI, stepO_ret]
            · have g : (regI a10 a11 != 0) = true := by simpa using h5
              simp only [h0, h1, h2, h3, h4, h5, g, bne_self_eq_false, Bool.false_eq_true, if_false, if_true, firstI, stepO_ret]
          · have g : (regI a8 a9 != 0) = true := by simpa using h4
            simp only [h0, h1, h2, h3, h4, g, bne_self_eq_false, Bool.false_eq_true, if_false, if_true, firstI, stepO_ret]
        · have g : (regI a6 a7 != 0) = true := by simpa using h3
          simp only [h0, h1, h2, h3, g, bne_self_eq_false, Bool.false_eq_true, if_false, if_true, firstI, stepO_ret]
      · have g : (regI a4 a5 != 0) = true := by simpa using h2
        simp only [h0, h1, h2, g, bne_self_eq_false, Bool.false_eq_true, if_false, if_true, firstI, stepO_ret]
    · have g : (regI a2 a3 != 0) = true := by simpa using h1
      simp only [h0, h1, g, bne_self_eq_false, Bool.false_eq_true, if_false, if_true, firstI, stepO_ret]
  · have g : (regI a0 a1 != 0) = true := by simpa using h0
    simp only [h0, g, bne_self_eq_false, Bool.false_eq_true, if_false, if_true, firstI, stepO_ret]

def okM (A : List Int) : Prop := ∀ k, k < 6 → (0 ≤ A.getD (k * 2) 0 ∧ A.getD (k * 2) 0 ≤ 999999) ∧ (0 ≤ A.getD (k * 2 + 1) 0 ∧ A.getD (k * 2 + 1) 0 ≤ 999999)
theorem metI_ok {A : List Int} (h : metI A = 0) : okM A := by
  unfold metI at h
  simp only [firstI_zero, regI_zero, fnil, and_true] at h
  obtain ⟨h0, h1, h2, h3, h4, h5⟩ := h
  intro k hk
  match k, hk with
  | 0, _ => exact h0
  | 1, _ => exact h1
  | 2, _ => exact h2
  | 3, _ => exact h3
  | 4, _ => exact h4
  | 5, _ => exact h5
def difR (ub rb ua ra : Int) : Int := (ua * 1000000 + ra - (ub * 1000000 + rb)) % 1000000000000
def difI (A B : List Int) (k : Nat) : Int := difR (A.getD (k * 2) 0) (A.getD (k * 2 + 1) 0) (B.getD (k * 2) 0) (B.getD (k * 2 + 1) 0)
theorem F101_eq {ub rb ua ra : Int} (h1 : (0 ≤ ub ∧ ub ≤ 999999) ∧ (0 ≤ rb ∧ rb ≤ 999999)) (h2 : (0 ≤ ua ∧ ua ≤ 999999) ∧ (0 ≤ ra ∧ ra ≤ 999999)) : F101 ua ra ub rb = some (difR ub rb ua ra) := by
  have e130 {u r : Int} (h : (0 ≤ u ∧ u ≤ 999999) ∧ (0 ≤ r ∧ r ≤ 999999)) : F130 u r = some (u * 1000000 + r) := by
    unfold F130; rw [res_eq]
    simp only [B130, sem_ask, sem_ret, PC.holds]
    rw [need_of (by unfold inI64; omega), need_of (by unfold inI64; omega)]
    rfl
  unfold F101; rw [res_eq]
  simp only [B101, e130 h1, e130 h2, sem_bind_some, sem_sees, sem_ask, sem_ret, PC.holds]
  rw [need_of (by unfold inI64; omega), need_of (by unfold inI64; omega)]
  have : (ua * 1000000 + ra - (ub * 1000000 + rb) + 1000000000000).tmod 1000000000000 = difR ub rb ua ra := by
    rw [Int.tmod_eq_emod_of_nonneg (by omega), Int.add_emod_right]; rfl
  rw [this]
  rfl
theorem F58_eq {ub rb ua ra : Int} (h1 : (0 ≤ ub ∧ ub ≤ 999999) ∧ (0 ≤ rb ∧ rb ≤ 999999)) (h2 : (0 ≤ ua ∧ ua ≤ 999999) ∧ (0 ≤ ra ∧ ra ≤ 999999)) : F58 ub rb ua ra = some (difR ub rb ua ra) := by
  have e102 {u r : Int} (h : (0 ≤ u ∧ u ≤ 999999) ∧ (0 ≤ r ∧ r ≤ 999999)) : F102 u r = some (u * 1000000 + r) := by
    unfold F102; rw [res_eq]
    simp only [B102, sem_ask, sem_ret, PC.holds]
    rw [need_of (by unfold inI64; omega), need_of (by unfold inI64; omega)]
    rfl
  unfold F58; rw [res_eq]
  simp only [B58, e102 h1, e102 h2, sem_bind_some, sem_sees, sem_ask, sem_br, sem_ret, PC.holds]
  rw [need_of (by unfold inI64; omega)]
  by_cases hn : ua * 1000000 + ra - (ub * 1000000 + rb) < 0
  · have : ua * 1000000 + ra - (ub * 1000000 + rb) + 1000000000000 = difR ub rb ua ra := by unfold difR; omega
    simp only [hn, decide_true, if_true]
    rw [need_of (by unfold inI64; omega), this]
    rfl
  · have : ua * 1000000 + ra - (ub * 1000000 + rb) = difR ub rb ua ra := by unfold difR; omega
    simp only [hn, decide_false, Bool.false_eq_true, if_false]
    rw [this]
    rfl
theorem celA_aI (A : List Int) (i : Nat) : dI (celA (A.map aI) i) = A.getD i 0 := by
  unfold celA
  simp only [List.getD_eq_getElem?_getD, List.getElem?_map]
  cases A[i]? <;> rfl
theorem rowAI {A : List Int} {i : Nat} (h : i + 2 ≤ A.length) : List.take 2 (List.drop i (A.map aI)) = [AV.d (DV.v (Value.int IntKind.i64 (A.getD i 0))), AV.d (DV.v (Value.int IntKind.i64 (A.getD (i + 1) 0)))] := by
  rw [List.drop_eq_getElem_cons (by rw [List.length_map]; omega), List.drop_eq_getElem_cons (by rw [List.length_map]; omega)]
  simp [List.getD_eq_getElem?_getD, show i < A.length by omega, show i + 1 < A.length by omega]
/-! which are implausible -/
def badI (A B : List Int) (t : Int) (k : Nat) : Bool := decide (difI A B k > t)
def mapI (A B : List Int) (t : Int) : Nat → MIB
  | 0 => []
  | k + 1 => if badI A B t k = true then mset (mapI A B t k) (k : Int) true else mapI A B t k
theorem mgetB_mset (es : MIB) (a b : Int) (v : Bool) : mgetB (mset es a v) b = if b = a then v else mgetB es b := by
  unfold mgetB
  by_cases h : b = a
  · subst h; rw [mfind_mset_same, if_pos rfl]; rfl
  · rw [mfind_mset_ne es v (by simpa using h), if_neg h]
theorem mapI_get (A B : List Int) (t : Int) (j : Nat) : ∀ k, mgetB (mapI A B t k) (j : Int) = (decide (j < k) && badI A B t j)
  | 0 => by simp [mapI]; rfl
  | k + 1 => by
    unfold mapI
    have ih := mapI_get A B t j k
    split
    · rename_i hb
      rw [mgetB_mset]
      by_cases h : j = k
      · subst h; simp [hb]
      · rw [if_neg (by omega), ih]
        congr 1
        by_cases h2 : j < k
        · simp [h2, show j < k + 1 by omega]
        · simp [h2, show ¬ j < k + 1 by omega]
    · rename_i hb
      have hb : badI A B t k = false := by simpa using hb
      rw [ih]
      by_cases h : j = k
      · subst h; simp [hb]
      · congr 1
        by_cases h2 : j < k
        · simp [h2, show j < k + 1 by omega]
        · simp [h2, show ¬ j < k + 1 by omega]
def outN (A B : List Int) (t : Int) (k : Nat) : List Int := ((List.range k).filter (badI A B t)).map (fun i : Nat => (i : Int))
theorem outN_succ (A B : List Int) (t : Int) (k : Nat) : outN A B t (k + 1) = if badI A B t k = true then outN A B t k ++ [(k : Int)] else outN A B t k := by
  unfold outN
  rw [List.range_succ, List.filter_append]
  split
  · rename_i h; simp [List.filter, h]
  · rename_i h
    have h : badI A B t k = false := by simpa using h
    simp [List.filter, h]
theorem outN_len (A B : List Int) (t : Int) (k : Nat) : (outN A B t k).length ≤ k := by
  unfold outN
  rw [List.length_map]
  exact Nat.le_trans (List.length_filter_le _ _) (by simp)
section
variable (a0 a1 a2 a3 a4 a5 a6 a7 a8 a9 a10 a11 b0 b1 b2 b3 b4 b5 b6 b7 b8 b9 b10 b11 t m : Int)
theorem F56_l2 (es : MIB) (A B : List Int) (tt : Int) (hes : ∀ j : Nat, j < 6 → mgetB es (j : Int) = badI A B tt j) : ∀ (mm k : Nat), 6 = k + mm →
    (outN A B tt k = [] → res B56 (.c6 (k : Int) es) = some ((outN A B tt 6).length, (outN A B tt 6).map vI, 0)) ∧
    (∀ e, res B56 (.c5 e (outN A B tt k).length ((outN A B tt k).map vI) (k : Int) es e) = some ((outN A B tt 6).length, (outN A B tt 6).map vI, 0))
  | 0, k, hk => by
    have : k = 6 := by omega
    subst this
    have h1 : ¬ (((6 : Nat) : Int) < 6) := by decide
    refine ⟨fun h0 => ?_, fun e => ?_⟩
    · rw [res_eq, h0]
      simp only [B56, sem_br, sem_ret, h1, decide_false, Bool.false_eq_true, if_false, stepO_ret]
      rfl
    · rw [res_eq]
      simp only [B56, sem_br, sem_ret, h1, decide_false, Bool.false_eq_true, if_false, stepO_ret]
  | mm + 1, k, hk => by
    have hlt : k < 6 := by omega
    have h1 : ((k : Int) < 6) := by omega
    have hg := hes k hlt
    have hin : inI64 ((k : Int) + 1) := by unfold inI64; omega
    have ih := F56_l2 es A B tt hes mm (k + 1) (by omega)
    have hlen := outN_len A B tt k
    have hf : fitsN ((outN A B tt k).length + 1) 8 := by unfold fitsN; omega
    have hs := outN_succ A B tt k
    refine ⟨fun h0 => ?_, fun e => ?_⟩
    · rw [res_eq]
      simp only [B56, sem_br, sem_nxt, h1, hg, decide_true, if_true]
      cases hb : badI A B tt k
      · rw [hb] at hs
        simp only [Bool.false_eq_true, if_false] at hs ⊢
        rw [stepO_nxt, res_eq]
        simp only [B56, sem_ask, sem_nxt, PC.holds, need_of hin, stepO_nxt]
        exact ih.1 (hs.trans h0)
      · rw [hb] at hs
        simp only [if_true] at hs ⊢
        rw [stepO_nxt, res_eq]
        simp only [B56, sem_ask, sem_nxt, PC.holds, need_of hin, stepO_nxt]
        have := ih.2 0
        rw [hs, h0] at this
        exact this
    · rw [res_eq]
      simp only [B56, sem_br, sem_ask, sem_nxt, PC.holds, h1, hg, hf, need_true, decide_true, if_true]
      cases hb : badI A B tt k
      · rw [hb] at hs
        simp only [Bool.false_eq_true, if_false] at hs ⊢
        rw [stepO_nxt, res_eq]
        simp only [B56, sem_ask, sem_nxt, PC.holds, need_of hin, stepO_nxt]
        have := ih.2 e
        rw [hs] at this
        exact this
      · rw [hb] at hs
        simp only [if_true] at hs ⊢
        rw [stepO_nxt, res_eq]
        simp only [B56, sem_ask, sem_nxt, PC.holds, need_of hin, stepO_nxt]
        have := ih.2 (e + 1)
        rw [hs, List.map_append, List.length_append] at this
        exact this
theorem F56_l1 (hA : okM [a0, a1, a2, a3, a4, a5, a6, a7, a8, a9, a10, a11]) (hB : okM [b0, b1, b2, b3, b4, b5, b6, b7, b8, b9, b10, b11]) (hin : inI64 (t * m)) : ∀ (mm k : Nat), 6 = k + mm → 0 < k →
    res B56 (.c2 t m (k : Int) a0 a1 a2 a3 a4 a5 a6 a7 a8 a9 a10 a11 b0 b1 b2 b3 b4 b5 b6 b7 b8 b9 b10 b11 (mapI [a0, a1, a2, a3, a4, a5, a6, a7, a8, a9, a10, a11] [b0, b1, b2, b3, b4, b5, b6, b7, b8, b9, b10, b11] (t * m) k)) = some ((outN [a0, a1, a2, a3, a4, a5, a6, a7, a8, a9, a10, a11] [b0, b1, b2, b3, b4, b5, b6, b7, b8, b9, b10, b11] (t * m) 6).length, (outN [a0, a1, a2, a3, a4, a5, a6, a7, a8, a9, a10, a11] [b0, b1, b2, b3, b4, b5, b6, b7, b8, b9, b10, b11] (t * m) 6).map vI, 0)
  | 0, k, hk, _ => by
    have : k = 6 := by omega
    subst this
    have h1 : ¬ (((6 : Nat) : Int) < 6) := by decide
    have hg : ∀ j : Nat, j < 6 → mgetB (mapI [a0, a1, a2, a3, a4, a5, a6, a7, a8, a9, a10, a11] [b0, b1, b2, b3, b4, b5, b6, b7, b8, b9, b10, b11] (t * m) 6) (j : Int) = badI [a0, a1, a2, a3, a4, a5, a6, a7, a8, a9, a10, a11] [b0, b1, b2, b3, b4, b5, b6, b7, b8, b9, b10, b11] (t * m) j := by
      intro j hj; rw [mapI_get]; simp [hj]
    have h0 : mgetB (mapI [a0, a1, a2, a3, a4, a5, a6, a7, a8, a9, a10, a11] [b0, b1, b2, b3, b4, b5, b6, b7, b8, b9, b10, b11] (t * m) 6) 0 = badI [a0, a1, a2, a3, a4, a5, a6, a7, a8, a9, a10, a11] [b0, b1, b2, b3, b4, b5, b6, b7, b8, b9, b10, b11] (t * m) 0 := hg 0 (by decide)
    have L := F56_l2 _ [a0, a1, a2, a3, a4, a5, a6, a7, a8, a9, a10, a11] [b0, b1, b2, b3, b4, b5, b6, b7, b8, b9, b10, b11] (t * m) hg 5 1 (by decide)
    have hs := outN_succ [a0, a1, a2, a3, a4, a5, a6, a7, a8, a9, a10, a11] [b0, b1, b2, b3, b4, b5, b6, b7, b8, b9, b10, b11] (t * m) 0
    have hin1 : inI64 (0 + 1) := by unfold inI64; omega
    rw [res_eq]
    simp only [B56, sem_br, sem_nxt, h1, h0, decide_false, Bool.false_eq_true, if_false]
    cases hb : badI [a0, a1, a2, a3, a4, a5, a6, a7, a8, a9, a10, a11] [b0, b1, b2, b3, b4, b5, b6, b7, b8, b9, b10, b11] (t * m) 0
    · rw [hb] at hs
      simp only [Bool.false_eq_true, if_false] at hs ⊢
      rw [stepO_nxt, res_eq]
      simp only [B56, sem_ask, sem_nxt, PC.holds, need_of hin1, stepO_nxt]
      exact L.1 (hs.trans rfl)
    · rw [hb] at hs
      simp only [if_true] at hs ⊢
      rw [stepO_nxt, res_eq]
      simp only [B56, sem_ask, sem_nxt, PC.holds, need_of hin1, stepO_nxt]
      have := L.2 0
      rw [hs] at this
      exact this
  | mm + 1, k, hk, hk0 => by
    have hlt : k < 6 := by omega
    have h1 : ((k : Int) < 6) := by omega
    have hin1 : inI64 ((k : Int) + 1) := by unfold inI64; omega
    have ih := F56_l1 hA hB hin mm (k + 1) (by omega) (by omega)
    have eA : [AV.d (DV.v (Value.int IntKind.i64 a0)), AV.d (DV.v (Value.int IntKind.i64 a1)), AV.d (DV.v (Value.int IntKind.i64 a2)), AV.d (DV.v (Value.int IntKind.i64 a3)), AV.d (DV.v (Value.int IntKind.i64 a4)), AV.d (DV.v (Value.int IntKind.i64 a5)), AV.d (DV.v (Value.int IntKind.i64 a6)), AV.d (DV.v (Value.int IntKind.i64 a7)), AV.d (DV.v (Value.int IntKind.i64 a8)), AV.d (DV.v (Value.int IntKind.i64 a9)), AV.d (DV.v (Value.int IntKind.i64 a10)), AV.d (DV.v (Value.int IntKind.i64 a11))] = ([a0, a1, a2, a3, a4, a5, a6, a7, a8, a9, a10, a11] : List Int).map aI := rfl
    have eB : [AV.d (DV.v (Value.int IntKind.i64 b0)), AV.d (DV.v (Value.int IntKind.i64 b1)), AV.d (DV.v (Value.int IntKind.i64 b2)), AV.d (DV.v (Value.int IntKind.i64 b3)), AV.d (DV.v (Value.int IntKind.i64 b4)), AV.d (DV.v (Value.int IntKind.i64 b5)), AV.d (DV.v (Value.int IntKind.i64 b6)), AV.d (DV.v (Value.int IntKind.i64 b7)), AV.d (DV.v (Value.int IntKind.i64 b8)), AV.d (DV.v (Value.int IntKind.i64 b9)), AV.d (DV.v (Value.int IntKind.i64 b10)), AV.d (DV.v (Value.int IntKind.i64 b11))] = ([b0, b1, b2, b3, b4, b5, b6, b7, b8, b9, b10, b11] : List Int).map aI := rfl
    have hr : k * 2 + 2 ≤ 12 := by omega
    have hrA : k * 2 + 2 ≤ ([a0, a1, a2, a3, a4, a5, a6, a7, a8, a9, a10, a11] : List Int).length := by simp; omega
    have hrB : k * 2 + 2 ≤ ([b0, b1, b2, b3, b4, b5, b6, b7, b8, b9, b10, b11] : List Int).length := by simp; omega
    have hF := F101_eq (hA k hlt) (hB k hlt)
    rw [res_eq]
    simp only [B56, eA, eB, celA_aI, sem_br, sem_ask, sem_triv, sem_sees, sem_nxt, sem_bind_some, PC.holds, need_true, Int.toNat_natCast, Nat.zero_add, rowAI hrA, rowAI hrB, hF, hr, hin, h1, decide_true, if_true, Int.natCast_nonneg]
    unfold mapI at ih
    cases hb : badI [a0, a1, a2, a3, a4, a5, a6, a7, a8, a9, a10, a11] [b0, b1, b2, b3, b4, b5, b6, b7, b8, b9, b10, b11] (t * m) k
    · rw [hb] at ih
      have hb' : decide (difR (([a0, a1, a2, a3, a4, a5, a6, a7, a8, a9, a10, a11] : List Int).getD (k * 2) 0) (([a0, a1, a2, a3, a4, a5, a6, a7, a8, a9, a10, a11] : List Int).getD (k * 2 + 1) 0) (([b0, b1, b2, b3, b4, b5, b6, b7, b8, b9, b10, b11] : List Int).getD (k * 2) 0) (([b0, b1, b2, b3, b4, b5, b6, b7, b8, b9, b10, b11] : List Int).getD (k * 2 + 1) 0) > t * m) = false := hb
      simp only [hb', Bool.false_eq_true, if_false] at ih ⊢
      rw [stepO_nxt, res_eq]
      simp only [B56, sem_ask, sem_nxt, PC.holds, need_of hin1, stepO_nxt]
      exact ih
    · rw [hb] at ih
      have hb' : decide (difR (([a0, a1, a2, a3, a4, a5, a6, a7, a8, a9, a10, a11] : List Int).getD (k * 2) 0) (([a0, a1, a2, a3, a4, a5, a6, a7, a8, a9, a10, a11] : List Int).getD (k * 2 + 1) 0) (([b0, b1, b2, b3, b4, b5, b6, b7, b8, b9, b10, b11] : List Int).getD (k * 2) 0) (([b0, b1, b2, b3, b4, b5, b6, b7, b8, b9, b10, b11] : List Int).getD (k * 2 + 1) 0) > t * m) = true := hb
      simp only [hb', if_true] at ih ⊢
      rw [stepO_nxt, res_eq]
      simp only [B56, sem_ask, sem_nxt, PC.holds, need_of hin1, stepO_nxt]
      exact ih
def impE (A B : List Int) (t m : Int) : Int := firstI [metI A, metI B, rangeI t 1 100000000, rangeI m 1 100000000]
theorem prod_in {t m : Int} (h1 : 1 ≤ t ∧ t ≤ 100000000) (h2 : 1 ≤ m ∧ m ≤ 100000000) : inI64 (t * m) := by
  have a : 0 ≤ t * m := Int.mul_nonneg (by omega) (by omega)
  have b : t * m ≤ 100000000 * 100000000 := Int.mul_le_mul h1.2 h2.2 (by omega) (by omega)
  unfold inI64; omega
theorem impE_zero {A B : List Int} {t m : Int} (h : impE A B t m = 0) : metI A = 0 ∧ metI B = 0 ∧ inI64 (t * m) := by
  unfold impE at h
  simp only [firstI_zero, rangeI_zero, fnil, and_true] at h
  exact ⟨h.1, h.2.1, prod_in h.2.2.1 h.2.2.2⟩
theorem F56_eq : F56 a0 a1 a2 a3 a4 a5 a6 a7 a8 a9 a10 a11 b0 b1 b2 b3 b4 b5 b6 b7 b8 b9 b10 b11 t m = some (if impE [a0, a1, a2, a3, a4, a5, a6, a7, a8, a9, a10, a11] [b0, b1, b2, b3, b4, b5, b6, b7, b8, b9, b10, b11] t m = 0 then ((outN [a0, a1, a2, a3, a4, a5, a6, a7, a8, a9, a10, a11] [b0, b1, b2, b3, b4, b5, b6, b7, b8, b9, b10, b11] (t * m) 6).length, (outN [a0, a1, a2, a3, a4, a5, a6, a7, a8, a9, a10, a11] [b0, b1, b2, b3, b4, b5, b6, b7, b8, b9, b10, b11] (t * m) 6).map vI, 0) else (0, [], impE [a0, a1, a2, a3, a4, a5, a6, a7, a8, a9, a10, a11] [b0, b1, b2, b3, b4, b5, b6, b7, b8, b9, b10, b11] t m)) := by
  unfold F56; rw [res_eq]
  have hE : firstI [metI [a0, a1, a2, a3, a4, a5, a6, a7, a8, a9, a10, a11], metI [b0, b1, b2, b3, b4, b5, b6, b7, b8, b9, b10, b11], rangeI t 1 100000000, rangeI m 1 100000000] = impE [a0, a1, a2, a3, a4, a5, a6, a7, a8, a9, a10, a11] [b0, b1, b2, b3, b4, b5, b6, b7, b8, b9, b10, b11] t m := rfl
  by_cases h : impE [a0, a1, a2, a3, a4, a5, a6, a7, a8, a9, a10, a11] [b0, b1, b2, b3, b4, b5, b6, b7, b8, b9, b10, b11] t m = 0
  · rw [if_pos h]
    obtain ⟨h1, h2, h3⟩ := impE_zero h
    have hA := metI_ok h1
    have hB := metI_ok h2
    have hF : F101 b0 b1 a0 a1 = some (difI [a0, a1, a2, a3, a4, a5, a6, a7, a8, a9, a10, a11] [b0, b1, b2, b3, b4, b5, b6, b7, b8, b9, b10, b11] 0) := F101_eq (hA 0 (by decide)) (hB 0 (by decide))
    have hin1 : inI64 (0 + 1) := by unfold inI64; omega
    have L := F56_l1 a0 a1 a2 a3 a4 a5 a6 a7 a8 a9 a10 a11 b0 b1 b2 b3 b4 b5 b6 b7 b8 b9 b10 b11 t m hA hB h3 5 1 (by decide) (by decide)
    simp only [B56, F18_eq, F89_eq, F75_4, hE, h, hF, sem_br, sem_ask, sem_sees, sem_triv, sem_nxt, sem_bind_some, PC.holds, need_of h3, bne_self_eq_false, Bool.false_eq_true, if_false]
    unfold mapI at L
    cases hb : badI [a0, a1, a2, a3, a4, a5, a6, a7, a8, a9, a10, a11] [b0, b1, b2, b3, b4, b5, b6, b7, b8, b9, b10, b11] (t * m) 0
    · rw [hb] at L
      have hb' : decide (difI [a0, a1, a2, a3, a4, a5, a6, a7, a8, a9, a10, a11] [b0, b1, b2, b3, b4, b5, b6, b7, b8, b9, b10, b11] 0 > t * m) = false := hb
      simp only [hb', Bool.false_eq_true, if_false] at L ⊢
      rw [stepO_nxt, res_eq]
      simp only [B56, sem_ask, sem_nxt, PC.holds, need_of hin1, stepO_nxt]
      exact L
    · rw [hb] at L
      have hb' : decide (difI [a0, a1, a2, a3, a4, a5, a6, a7, a8, a9, a10, a11] [b0, b1, b2, b3, b4, b5, b6, b7, b8, b9, b10, b11] 0 > t * m) = true := hb
      simp only [hb', if_true] at L ⊢
      rw [stepO_nxt, res_eq]
      simp only [B56, sem_ask, sem_nxt, PC.holds, need_of hin1, stepO_nxt]
      exact L
  · rw [if_neg h]
    have hne : (impE [a0, a1, a2, a3, a4, a5, a6, a7, a8, a9, a10, a11] [b0, b1, b2, b3, b4, b5, b6, b7, b8, b9, b10, b11] t m != 0) = true := by simpa using h
    simp only [B56, F18_eq, F89_eq, F75_4, hE, hne, sem_br, sem_sees, sem_triv, sem_bind_some, sem_ret, if_true, stepO_ret]
/-! the reference -/
theorem F59_l (hA : okM [a0, a1, a2, a3, a4, a5, a6, a7, a8, a9, a10, a11]) (hB : okM [b0, b1, b2, b3, b4, b5, b6, b7, b8, b9, b10, b11]) (hin : inI64 (t * m)) : ∀ (mm k : Nat), 6 = k + mm →
    (outN [a0, a1, a2, a3, a4, a5, a6, a7, a8, a9, a10, a11] [b0, b1, b2, b3, b4, b5, b6, b7, b8, b9, b10, b11] (t * m) k = [] → res B59 (.c4 t m (k : Int) a0 a1 a2 a3 a4 a5 a6 a7 a8 a9 a10 a11 b0 b1 b2 b3 b4 b5 b6 b7 b8 b9 b10 b11) = some ((outN [a0, a1, a2, a3, a4, a5, a6, a7, a8, a9, a10, a11] [b0, b1, b2, b3, b4, b5, b6, b7, b8, b9, b10, b11] (t * m) 6).length, (outN [a0, a1, a2, a3, a4, a5, a6, a7, a8, a9, a10, a11] [b0, b1, b2, b3, b4, b5, b6, b7, b8, b9, b10, b11] (t * m) 6).map vI)) ∧
    (∀ e, res B59 (.c3 t m e (outN [a0, a1, a2, a3, a4, a5, a6, a7, a8, a9, a10, a11] [b0, b1, b2, b3, b4, b5, b6, b7, b8, b9, b10, b11] (t * m) k).length ((outN [a0, a1, a2, a3, a4, a5, a6, a7, a8, a9, a10, a11] [b0, b1, b2, b3, b4, b5, b6, b7, b8, b9, b10, b11] (t * m) k).map vI) (k : Int) a0 a1 a2 a3 a4 a5 a6 a7 a8 a9 a10 a11 b0 b1 b2 b3 b4 b5 b6 b7 b8 b9 b10 b11 e) = some ((outN [a0, a1, a2, a3, a4, a5, a6, a7, a8, a9, a10, a11] [b0, b1, b2, b3, b4, b5, b6, b7, b8, b9, b10, b11] (t * m) 6).length, (outN [a0, a1, a2, a3, a4, a5, a6, a7, a8, a9, a10, a11] [b0, b1, b2, b3, b4, b5, b6, b7, b8, b9, b10, b11] (t * m) 6).map vI))
  | 0, k, hk => by
    have : k = 6 := by omega
    subst this
    have h1 : ¬ (((6 : Nat) : Int) < 6) := by decide
    refine ⟨fun h0 => ?_, fun e => ?_⟩
    · rw [res_eq, h0]
      simp only [B59, sem_br, sem_ret, h1, decide_false, Bool.false_eq_true, if_false, stepO_ret]
      rfl
    · rw [res_eq]
      simp only [B59, sem_br, sem_ret, h1, decide_false, Bool.false_eq_true, if_false, stepO_ret]
  | mm + 1, k, hk => by
    have hlt : k < 6 := by omega
    have h1 : ((k : Int) < 6) := by omega
    have hin1 : inI64 ((k : Int) + 1) := by unfold inI64; omega
    have ih := F59_l hA hB hin mm (k + 1) (by omega)
    have hlen := outN_len [a0, a1, a2, a3, a4, a5, a6, a7, a8, a9, a10, a11] [b0, b1, b2, b3, b4, b5, b6, b7, b8, b9, b10, b11] (t * m) k
    have hf : fitsN ((outN [a0, a1, a2, a3, a4, a5, a6, a7, a8, a9, a10, a11] [b0, b1, b2, b3, b4, b5, b6, b7, b8, b9, b10, b11] (t * m) k).length + 1) 8 := by unfold fitsN; omega
    have hs := outN_succ [a0, a1, a2, a3, a4, a5, a6, a7, a8, a9, a10, a11] [b0, b1, b2, b3, b4, b5, b6, b7, b8, b9, b10, b11] (t * m) k
    have eA : [AV.d (DV.v (Value.int IntKind.i64 a0)), AV.d (DV.v (Value.int IntKind.i64 a1)), AV.d (DV.v (Value.int IntKind.i64 a2)), AV.d (DV.v (Value.int IntKind.i64 a3)), AV.d (DV.v (Value.int IntKind.i64 a4)), AV.d (DV.v (Value.int IntKind.i64 a5)), AV.d (DV.v (Value.int IntKind.i64 a6)), AV.d (DV.v (Value.int IntKind.i64 a7)), AV.d (DV.v (Value.int IntKind.i64 a8)), AV.d (DV.v (Value.int IntKind.i64 a9)), AV.d (DV.v (Value.int IntKind.i64 a10)), AV.d (DV.v (Value.int IntKind.i64 a11))] = ([a0, a1, a2, a3, a4, a5, a6, a7, a8, a9, a10, a11] : List Int).map aI := rfl
    have eB : [AV.d (DV.v (Value.int IntKind.i64 b0)), AV.d (DV.v (Value.int IntKind.i64 b1)), AV.d (DV.v (Value.int IntKind.i64 b2)), AV.d (DV.v (Value.int IntKind.i64 b3)), AV.d (DV.v (Value.int IntKind.i64 b4)), AV.d (DV.v (Value.int IntKind.i64 b5)), AV.d (DV.v (Value.int IntKind.i64 b6)), AV.d (DV.v (Value.int IntKind.i64 b7)), AV.d (DV.v (Value.int IntKind.i64 b8)), AV.d (DV.v (Value.int IntKind.i64 b9)), AV.d (DV.v (Value.int IntKind.i64 b10)), AV.d (DV.v (Value.int IntKind.i64 b11))] = ([b0, b1, b2, b3, b4, b5, b6, b7, b8, b9, b10, b11] : List Int).map aI := rfl
    have hr : k * 2 + 2 ≤ 12 := by omega
    have hrA : k * 2 + 2 ≤ ([a0, a1, a2, a3, a4, a5, a6, a7, a8, a9, a10, a11] : List Int).length := by simp; omega
    have hrB : k * 2 + 2 ≤ ([b0, b1, b2, b3, b4, b5, b6, b7, b8, b9, b10, b11] : List Int).length := by simp; omega
    have hF := F58_eq (hA k hlt) (hB k hlt)
    refine ⟨fun h0 => ?_, fun e => ?_⟩
    · rw [res_eq]
      simp only [B59, eA, eB, celA_aI, sem_br, sem_ask, sem_triv, sem_sees, sem_nxt, sem_bind_some, PC.holds, need_true, Int.toNat_natCast, Nat.zero_add, rowAI hrA, rowAI hrB, hF, hr, hin, h1, decide_true, if_true, Int.natCast_nonneg]
      cases hb : badI [a0, a1, a2, a3, a4, a5, a6, a7, a8, a9, a10, a11] [b0, b1, b2, b3, b4, b5, b6, b7, b8, b9, b10, b11] (t * m) k
      · rw [hb] at hs
        have hb' : decide (difR (([a0, a1, a2, a3, a4, a5, a6, a7, a8, a9, a10, a11] : List Int).getD (k * 2) 0) (([a0, a1, a2, a3, a4, a5, a6, a7, a8, a9, a10, a11] : List Int).getD (k * 2 + 1) 0) (([b0, b1, b2, b3, b4, b5, b6, b7, b8, b9, b10, b11] : List Int).getD (k * 2) 0) (([b0, b1, b2, b3, b4, b5, b6, b7, b8, b9, b10, b11] : List Int).getD (k * 2 + 1) 0) > t * m) = false := hb
        simp only [hb', Bool.false_eq_true, if_false] at hs ⊢
        rw [stepO_nxt, res_eq]
        simp only [B59, sem_ask, sem_nxt, PC.holds, need_of hin1, stepO_nxt]
        exact ih.1 (hs.trans h0)
      · rw [hb] at hs
        have hb' : decide (difR (([a0, a1, a2, a3, a4, a5, a6, a7, a8, a9, a10, a11] : List Int).getD (k * 2) 0) (([a0, a1, a2, a3, a4, a5, a6, a7, a8, a9, a10, a11] : List Int).getD (k * 2 + 1) 0) (([b0, b1, b2, b3, b4, b5, b6, b7, b8, b9, b10, b11] : List Int).getD (k * 2) 0) (([b0, b1, b2, b3, b4, b5, b6, b7, b8, b9, b10, b11] : List Int).getD (k * 2 + 1) 0) > t * m) = true := hb
        simp only [hb', if_true] at hs ⊢
        rw [stepO_nxt, res_eq]
        simp only [B59, sem_ask, sem_nxt, PC.holds, need_of hin1, stepO_nxt]
        have := ih.2 0
        rw [hs, h0] at this
        exact this
    · rw [res_eq]
      simp only [B59, eA, eB, celA_aI, sem_br, sem_ask, sem_triv, sem_sees, sem_nxt, sem_bind_some, PC.holds, need_true, Int.toNat_natCast, Nat.zero_add, rowAI hrA, rowAI hrB, hF, hr, hf, hin, h1, decide_true, if_true, Int.natCast_nonneg]
      cases hb : badI [a0, a1, a2, a3, a4, a5, a6, a7, a8, a9, a10, a11] [b0, b1, b2, b3, b4, b5, b6, b7, b8, b9, b10, b11] (t * m) k
      · rw [hb] at hs
        have hb' : decide (difR (([a0, a1, a2, a3, a4, a5, a6, a7, a8, a9, a10, a11] : List Int).getD (k * 2) 0) (([a0, a1, a2, a3, a4, a5, a6, a7, a8, a9, a10, a11] : List Int).getD (k * 2 + 1) 0) (([b0, b1, b2, b3, b4, b5, b6, b7, b8, b9, b10, b11] : List Int).getD (k * 2) 0) (([b0, b1, b2, b3, b4, b5, b6, b7, b8, b9, b10, b11] : List Int).getD (k * 2 + 1) 0) > t * m) = false := hb
        simp only [hb', Bool.false_eq_true, if_false] at hs ⊢
        rw [stepO_nxt, res_eq]
        simp only [B59, sem_ask, sem_nxt, PC.holds, need_of hin1, stepO_nxt]
        have := ih.2 e
        rw [hs] at this
        exact this
      · rw [hb] at hs
        have hb' : decide (difR (([a0, a1, a2, a3, a4, a5, a6, a7, a8, a9, a10, a11] : List Int).getD (k * 2) 0) (([a0, a1, a2, a3, a4, a5, a6, a7, a8, a9, a10, a11] : List Int).getD (k * 2 + 1) 0) (([b0, b1, b2, b3, b4, b5, b6, b7, b8, b9, b10, b11] : List Int).getD (k * 2) 0) (([b0, b1, b2, b3, b4, b5, b6, b7, b8, b9, b10, b11] : List Int).getD (k * 2 + 1) 0) > t * m) = true := hb
        simp only [hb', if_true] at hs ⊢
        rw [stepO_nxt, res_eq]
        simp only [B59, sem_ask, sem_nxt, PC.holds, need_of hin1, stepO_nxt]
        have := ih.2 (e + 1)
        rw [hs, List.map_append, List.length_append] at this
        exact this
theorem F59_eq (h : impE [a0, a1, a2, a3, a4, a5, a6, a7, a8, a9, a10, a11] [b0, b1, b2, b3, b4, b5, b6, b7, b8, b9, b10, b11] t m = 0) : F59 a0 a1 a2 a3 a4 a5 a6 a7 a8 a9 a10 a11 b0 b1 b2 b3 b4 b5 b6 b7 b8 b9 b10 b11 t m = some ((outN [a0, a1, a2, a3, a4, a5, a6, a7, a8, a9, a10, a11] [b0, b1, b2, b3, b4, b5, b6, b7, b8, b9, b10, b11] (t * m) 6).length, (outN [a0, a1, a2, a3, a4, a5, a6, a7, a8, a9, a10, a11] [b0, b1, b2, b3, b4, b5, b6, b7, b8, b9, b10, b11] (t * m) 6).map vI) := by
  obtain ⟨h1, h2, h3⟩ := impE_zero h
  have hA := metI_ok h1
  have hB := metI_ok h2
  have hF : F58 a0 a1 b0 b1 = some (difI [a0, a1, a2, a3, a4, a5, a6, a7, a8, a9, a10, a11] [b0, b1, b2, b3, b4, b5, b6, b7, b8, b9, b10, b11] 0) := F58_eq (hA 0 (by decide)) (hB 0 (by decide))
  have hin1 : inI64 (0 + 1) := by unfold inI64; omega
  have L := F59_l a0 a1 a2 a3 a4 a5 a6 a7 a8 a9 a10 a11 b0 b1 b2 b3 b4 b5 b6 b7 b8 b9 b10 b11 t m hA hB h3 5 1 (by decide)
  have hs := outN_succ [a0, a1, a2, a3, a4, a5, a6, a7, a8, a9, a10, a11] [b0, b1, b2, b3, b4, b5, b6, b7, b8, b9, b10, b11] (t * m) 0
  unfold F59; rw [res_eq]
  simp only [B59, hF, sem_br, sem_ask, sem_sees, sem_triv, sem_nxt, sem_bind_some, PC.holds, need_of h3]
  cases hb : badI [a0, a1, a2, a3, a4, a5, a6, a7, a8, a9, a10, a11] [b0, b1, b2, b3, b4, b5, b6, b7, b8, b9, b10, b11] (t * m) 0
  · rw [hb] at hs
    have hb' : decide (difI [a0, a1, a2, a3, a4, a5, a6, a7, a8, a9, a10, a11] [b0, b1, b2, b3, b4, b5, b6, b7, b8, b9, b10, b11] 0 > t * m) = false := hb
    simp only [hb', Bool.false_eq_true, if_false] at hs ⊢
    rw [stepO_nxt, res_eq]
    simp only [B59, sem_ask, sem_nxt, PC.holds, need_of hin1, stepO_nxt]
    exact L.1 (hs.trans rfl)
  · rw [hb] at hs
    have hb' : decide (difI [a0, a1, a2, a3, a4, a5, a6, a7, a8, a9, a10, a11] [b0, b1, b2, b3, b4, b5, b6, b7, b8, b9, b10, b11] 0 > t * m) = true := hb
    simp only [hb', if_true] at hs ⊢
    rw [stepO_nxt, res_eq]
    simp only [B59, sem_ask, sem_nxt, PC.holds, need_of hin1, stepO_nxt]
    have := L.2 0
    rw [hs] at this
    exact this
end
theorem F43_loop (l : List Int) (hl : l.length ≤ 1000) : ∀ (k i : Nat), l.length = i + k → res B43 (.c1 l.length (l.map vI) l.length (l.map vI) (i : Int)) = some true
  | 0, i, hk => by
    rw [res_eq]
    have : ¬ ((i : Int) < (l.length : Int)) := by omega
    simp only [B43, sem_br, sem_ret, this, decide_false, Bool.false_eq_true, if_false, stepO_ret]
  | k + 1, i, hk => by
    have hi : i < l.length := by omega
    have h1 : (i : Int) < (l.length : Int) := by omega
    have ih := F43_loop l hl k (i + 1) (by omega)
    have hin : inI64 ((i : Int) + 1) := by unfold inI64; omega
    rw [res_eq]
    simp only [B43, sem_br, sem_ask, sem_ret, sem_nxt, PC.holds, need_true, Int.toNat_natCast, Nat.mul_one, dI_cel_map, at_map hi, h1, hin, decide_true, if_true, Int.natCast_nonneg, List.length_map, Nat.le_of_lt hi, bne_self_eq_false, Bool.false_eq_true, if_false, stepO_nxt]
    exact ih
theorem F43_same (l : List Int) (hl : l.length ≤ 1000) : F43 l.length (l.map vI) l.length (l.map vI) = some true := by
  unfold F43; rw [res_eq]
  simp only [B43, sem_br, sem_nxt, bne_self_eq_false, Bool.false_eq_true, if_false, stepO_nxt]
  exact F43_loop l hl l.length 0 (by omega)
theorem F14_eq (a0 a1 a2 a3 a4 a5 a6 a7 a8 a9 a10 a11 : Int) : F14 a0 a1 a2 a3 a4 a5 a6 a7 a8 a9 a10 a11 = some (a0, a1, a2, a3, a4, a5, a6, a7, a8, a9, a10, a11) := by
  unfold F14; rw [res_eq]
  simp only [B14, sem_triv, sem_sees, sem_ret, stepO_ret]
def difE (u r u' r' : Int) : Int := firstI [regI u r, regI u' r']
theorem F55_eq (u r u' r' : Int) : F55 u r u' r' = some (if difE u r u' r' = 0 then (difR u r u' r', 0) else (0, difE u r u' r')) := by
  unfold F55; rw [res_eq]
  have hE : firstI [regI u r, regI u' r'] = difE u r u' r' := rfl
  by_cases h : difE u r u' r' = 0
  · have h' := h
    unfold difE at h'
    simp only [firstI_zero, regI_zero, fnil, and_true] at h'
    simp only [B55, F86_eq, F75_2, hE, h, F101_eq h'.1 h'.2, sem_br, sem_sees, sem_bind_some, sem_ret, bne_self_eq_false, Bool.false_eq_true, if_false, if_true, stepO_ret]
  · have hne : (difE u r u' r' != 0) = true := by simpa using h
    simp only [B55, F86_eq, F75_2, hE, h, hne, sem_br, sem_sees, sem_bind_some, sem_ret, if_true, if_false, stepO_ret]
theorem F12_eq : F12 = some true := rfl
theorem readings_true (a0 a1 a2 a3 a4 a5 a6 a7 a8 a9 a10 a11 b0 b1 b2 b3 b4 b5 b6 b7 b8 b9 b10 b11 t m : Int) : F9 a0 a1 a2 a3 a4 a5 a6 a7 a8 a9 a10 a11 b0 b1 b2 b3 b4 b5 b6 b7 b8 b9 b10 b11 t m = some true := by
  have hE : firstI [metI [a0, a1, a2, a3, a4, a5, a6, a7, a8, a9, a10, a11], metI [b0, b1, b2, b3, b4, b5, b6, b7, b8, b9, b10, b11], rangeI t 1 100000000, rangeI m 1 100000000] = impE [a0, a1, a2, a3, a4, a5, a6, a7, a8, a9, a10, a11] [b0, b1, b2, b3, b4, b5, b6, b7, b8, b9, b10, b11] t m := rfl
  have hD : firstI [regI a0 a1, regI b0 b1] = difE a0 a1 b0 b1 := rfl
  have hnil : F43 0 [] 0 [] = some true := F43_same [] (by simp)
  have hsame := F43_same (outN [a0, a1, a2, a3, a4, a5, a6, a7, a8, a9, a10, a11] [b0, b1, b2, b3, b4, b5, b6, b7, b8, b9, b10, b11] (t * m) 6) (Nat.le_trans (outN_len _ _ _ _) (by decide))
  unfold F9; rw [res_eq]
  by_cases hd : difE a0 a1 b0 b1 = 0
  · have hd' := hd
    unfold difE at hd'
    simp only [firstI_zero, regI_zero, fnil, and_true] at hd'
    by_cases he : impE [a0, a1, a2, a3, a4, a5, a6, a7, a8, a9, a10, a11] [b0, b1, b2, b3, b4, b5, b6, b7, b8, b9, b10, b11] t m = 0
    · simp only [B9, F55_eq, F14_eq, F56_eq, F57_eq, F19_eq, F34_eq, F24_2, F24_4, F12_eq, F58_eq hd'.1 hd'.2, F59_eq a0 a1 a2 a3 a4 a5 a6 a7 a8 a9 a10 a11 b0 b1 b2 b3 b4 b5 b6 b7 b8 b9 b10 b11 t m he, hsame, hE, hD, hd, he, sem_br, sem_sees, sem_triv, sem_bind_some, sem_ret, beq_self_eq_true, if_true, stepO_ret]
    · have he' : (impE [a0, a1, a2, a3, a4, a5, a6, a7, a8, a9, a10, a11] [b0, b1, b2, b3, b4, b5, b6, b7, b8, b9, b10, b11] t m == 0) = false := by simpa using he
      simp only [B9, F55_eq, F14_eq, F56_eq, F57_eq, F19_eq, F34_eq, F24_2, F24_4, F12_eq, F58_eq hd'.1 hd'.2, hnil, hE, hD, hd, he, he', sem_br, sem_sees, sem_triv, sem_bind_some, sem_ret, beq_self_eq_true, Bool.false_eq_true, if_false, if_true, stepO_ret]
  · have hd' : (difE a0 a1 b0 b1 == 0) = false := by simpa using hd
    by_cases he : impE [a0, a1, a2, a3, a4, a5, a6, a7, a8, a9, a10, a11] [b0, b1, b2, b3, b4, b5, b6, b7, b8, b9, b10, b11] t m = 0
    · simp only [B9, F55_eq, F14_eq, F56_eq, F57_eq, F19_eq, F34_eq, F24_2, F24_4, F12_eq, F59_eq a0 a1 a2 a3 a4 a5 a6 a7 a8 a9 a10 a11 b0 b1 b2 b3 b4 b5 b6 b7 b8 b9 b10 b11 t m he, hsame, hE, hD, hd, hd', he, sem_br, sem_sees, sem_triv, sem_bind_some, sem_ret, beq_self_eq_true, Bool.false_eq_true, if_false, if_true, stepO_ret]
    · have he' : (impE [a0, a1, a2, a3, a4, a5, a6, a7, a8, a9, a10, a11] [b0, b1, b2, b3, b4, b5, b6, b7, b8, b9, b10, b11] t m == 0) = false := by simpa using he
      simp only [B9, F55_eq, F14_eq, F56_eq, F57_eq, F19_eq, F34_eq, F24_2, F24_4, F12_eq, hnil, hE, hD, hd, hd', he, he', sem_br, sem_sees, sem_triv, sem_bind_some, sem_ret, beq_self_eq_true, Bool.false_eq_true, if_false, if_true, stepO_ret]
end Go.Kv
