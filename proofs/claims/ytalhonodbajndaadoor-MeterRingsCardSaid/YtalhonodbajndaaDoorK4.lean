/- MeterProfiles, in plain Lean. -/
import Derived.Test.YtalhonodbajndaaDoorK5

namespace Go.Kv
set_option linter.unusedVariables false
set_option linter.unusedSimpArgs false
open Go Go.RowKit
set_option maxRecDepth 100000
theorem zeros_len {Z : List AV} : ∀ n, (zerosA Z n).length = n * Z.length
  | 0 => by simp [zerosA]
  | n + 1 => by
    simp only [zerosA, List.length_append, zeros_len n]
    rw [Nat.add_mul]; omega
theorem toDs_map : ∀ xs : List DV, toDs (xs.map AV.d) = some xs
  | [] => rfl
  | x :: xs => by simp only [List.map_cons, toDs, toD, toDs_map xs]
theorem aD_map : ∀ xs : List DV, (xs.map AV.d).map aD = xs
  | [] => rfl
  | x :: xs => by simp only [List.map_cons, aD, aD_map xs]
abbrev Z5 : List AV := List.map (fun (x : Value) => AV.d (DV.v x)) (Value.agg #[Value.int IntKind.i64 0, Value.int IntKind.i64 0, Value.int IntKind.i64 0, Value.int IntKind.i64 0, Value.int IntKind.i64 0]).cells.toList
theorem Z5_len : Z5.length = 5 := rfl
/-- Room made, the old entries copied, the new one behind them. -/
theorem made (L e : List DV) (n : Nat) (hL : L.length = n * 5) (he : e.length = 5) :
    (spliceA (zerosA Z5 (n + 1)) 0 (L.map AV.d)).length = (n + 1) * 5 ∧ spliceA (spliceA (zerosA Z5 (n + 1)) 0 (L.map AV.d)) (n * 5) (e.map AV.d) = (L ++ e).map AV.d := by
  have hz : (zerosA Z5 (n + 1)).length = (n + 1) * 5 := by rw [zeros_len, Z5_len]
  have h5 : (n + 1) * 5 = n * 5 + 5 := Nat.add_mul n 1 5
  have h1 : spliceA (zerosA Z5 (n + 1)) 0 (L.map AV.d) = L.map AV.d ++ (zerosA Z5 (n + 1)).drop (n * 5) := by
    unfold spliceA; simp [hL]
  have h2 : (spliceA (zerosA Z5 (n + 1)) 0 (L.map AV.d)).length = (n + 1) * 5 := by
    rw [h1, List.length_append, List.length_map, List.length_drop, hz, hL]; omega
  refine ⟨h2, ?_⟩
  unfold spliceA at h1 ⊢
  rw [h1]
  have t1 : (L.map AV.d ++ (zerosA Z5 (n + 1)).drop (n * 5)).take (n * 5) = L.map AV.d := by
    rw [List.take_append_of_le_length (by simp [hL]), List.take_of_length_le (by simp [hL])]
  have t2 : (L.map AV.d ++ (zerosA Z5 (n + 1)).drop (n * 5)).drop (n * 5 + (e.map AV.d).length) = [] := by
    apply List.drop_of_length_le
    rw [List.length_append, List.length_map, List.length_drop, hz, hL, List.length_map, he]; omega
  rw [t1, t2]; simp
/-- The profile with one more entry. -/
def stI (r : Int) (l : List E5) (x : E5) : List E5 := if (l.length : Int) + 1 > r then (l ++ [x]).drop 1 else l ++ [x]
def okF (l : List E5) (x : E5) : Bool := if (l.length : Int) > 0 then fol x (at5 l (l.length - 1)) else true
theorem st_len (r : Int) (l : List E5) (x : E5) : (stI r l x).length ≤ l.length + 1 := by
  unfold stI; split <;> simp
def storeE (r : Int) (l : List E5) (x : E5) : Int := firstI [profI r l, entE x]
theorem F13_eq (r : Int) (l : List E5) (x : E5) (hl : l.length ≤ 100) :
    F13 r l.length (l.flatMap eE) x.1 x.2.1 x.2.2.1 x.2.2.2.1 x.2.2.2.2 = some (if storeE r l x = 0 then (if okF l x = true then (r, (stI r l x).length, (stI r l x).flatMap eE, 0) else (0, 0, [], 11)) else (0, 0, [], storeE r l x)) := by
  have hE : firstI [profI r l, entE x] = storeE r l x := rfl
  have hx : entI x.1 x.2.1 x.2.2.1 x.2.2.2.1 x.2.2.2.2 = entE x := rfl
  unfold F13; rw [res_eq]
  by_cases h0 : storeE r l x = 0
  · obtain ⟨hP, _⟩ := firstI_zero .. |>.1 h0
    obtain ⟨⟨r1, r2⟩, hlr, hent⟩ := prof_zero hP
    rw [if_pos h0]
    -- the store itself
    obtain ⟨m1, m2⟩ := made (l.flatMap eE) (eE x) l.length (fm_len eE_len l) rfl
    have hcast : (((l.length + 1 : Nat)) : Int) = (l.length : Int) + 1 := by omega
    have htn : ((l.length : Int) + 1).toNat = l.length + 1 := by omega
    obtain ⟨lo, hlo, hlo1, hst⟩ : ∃ lo : Nat, (if ((l.length + 1 : Nat) : Int) - r > 0 then ((l.length + 1 : Nat) : Int) - r else 0) = (lo : Int) ∧ lo ≤ 1 ∧ stI r l x = (l ++ [x]).drop lo := by
      unfold stI
      by_cases hg : (l.length : Int) + 1 > r
      · exact ⟨1, by rw [if_pos (by omega)]; omega, by omega, by rw [if_pos hg]⟩
      · exact ⟨0, by rw [if_neg (by omega)]; rfl, by omega, by rw [if_neg hg]; rfl⟩
    have i1 : inI64 ((l.length : Int) + 1) := by unfold inI64; omega
    have i2 : inI64 (((l.length + 1 : Nat) : Int) - r) := by unfold inI64; omega
    have z1 : (zerosA Z5 (l.length + 1)).length = (l.length + 1) * 5 := by rw [zeros_len, Z5_len]
    have a1 : (l.length : Int) ≤ (l.length : Int) + 1 := by omega
    have a2 : 40 * ((l.length : Int) + 1) ≤ 281474976710656 := by omega
    have a3 : (l.length : Int) + 1 ≤ 9223372036854775807 := by omega
    have a4 : l.length * 5 ≤ (l.length + 1) * 5 := Nat.mul_le_mul_right _ (by omega)
    have a5 : (lo : Int) ≤ ((l.length + 1 : Nat) : Int) := by omega
    have a6 : (lo : Int) < ((l.length + 1 : Nat) : Int) ∨ (lo : Int) = 0 := by omega
    have hjn : (l ++ [x]).flatMap eE = l.flatMap eE ++ eE x := by simp
    have hcl : ((l.flatMap eE ++ eE x).map AV.d).length = (l.length + 1) * 5 := by rw [List.length_map, ← hjn, fm_len eE_len]; simp
    have a7 : lo * 5 + (l.length + 1 - lo) * 5 ≤ (l.length + 1) * 5 := by rw [← Nat.add_mul]; exact Nat.mul_le_mul_right _ (by omega)
    have hrow : List.take ((l.length + 1 - lo) * 5) (List.drop (lo * 5) ((l.flatMap eE ++ eE x).map AV.d)) = ((stI r l x).flatMap eE).map AV.d := by
      rw [← hjn, ← List.map_drop, ← List.map_take, fm_drop eE_len, hst]
      congr 1
      apply List.take_of_length_le
      rw [fm_len eE_len]; simp
    have hn1 : l.length + 1 - lo = (stI r l x).length := by rw [hst]; simp
    have ht : List.take (l.length * 5) (l.flatMap eE) = l.flatMap eE := List.take_of_length_le (by rw [fm_len eE_len]; exact Nat.le_refl _)
    have hm : List.map AV.d [DV.v (Value.int IntKind.i64 x.1), DV.v (Value.int IntKind.i64 x.2.1), DV.v (Value.int IntKind.i64 x.2.2.1), DV.v (Value.int IntKind.i64 x.2.2.2.1), DV.v (Value.int IntKind.i64 x.2.2.2.2)] = [AV.d (DV.v (Value.int IntKind.i64 x.1)), AV.d (DV.v (Value.int IntKind.i64 x.2.1)), AV.d (DV.v (Value.int IntKind.i64 x.2.2.1)), AV.d (DV.v (Value.int IntKind.i64 x.2.2.2.1)), AV.d (DV.v (Value.int IntKind.i64 x.2.2.2.2))] := rfl
    rw [map_eE] at m2
    rw [hn1] at hrow a7
    have a8 : (l.length - 1) * 5 ≤ l.length * 5 := Nat.mul_le_mul_right _ (by omega)
    have hE0 : firstI [profI r l, entE x] = 0 := h0
    by_cases hz : (l.length : Int) > 0
    · have hp : l.length - 1 < l.length := by omega
      have P := ent_at hp
      have hpe := hent _ hp
      have g1 : (l.length : Int) - 1 = ((l.length - 1 : Nat) : Int) := by omega
      have g2 : inI64 ((l.length - 1 : Nat) : Int) := by unfold inI64; omega
      have g3 : ((l.length - 1 : Nat) : Int) < (l.length : Int) := by omega
      have hok : okF l x = fol x (at5 l (l.length - 1)) := by unfold okF; rw [if_pos hz]
      rw [hok]
      by_cases hf : fol x (at5 l (l.length - 1)) = true
      · rw [if_pos hf]
        simp only [B13, F44_eq r l (by omega), F45_eq, F35_2, hx, hE0, F46_eq _ _ hpe, hf, sem_br, sem_ask, sem_bind_some, sem_sees, sem_ret, PC.holds, need_true, g1, Int.toNat_natCast, P.c0, P.c1, P.c2, P.c3, P.c4, P.le, P.rm, P.row, map_eE, hz, g2, g3, bne_self_eq_false, decide_true, if_true, Int.natCast_nonneg, Bool.not_true, Bool.false_eq_true, if_false, beq_self_eq_true, htn, hlo, Nat.min_self, Nat.zero_add, ht, hm, m1, m2, z1, i1, i2, a1, a2, a3, a4, a5, a6, hcl, a7, a8, fm_len eE_len, hrow, hn1, toDs_map, aD_map, Nat.le_refl, Int.le_refl, stepO_ret]
      · have hf' : fol x (at5 l (l.length - 1)) = false := by simpa using hf
        rw [if_neg hf]
        simp only [B13, F44_eq r l (by omega), F45_eq, F35_2, hx, hE0, F46_eq _ _ hpe, hf', sem_br, sem_ask, sem_bind_some, sem_sees, sem_ret, PC.holds, need_true, g1, Int.toNat_natCast, P.c0, P.c1, P.c2, P.c3, P.c4, P.le, P.rm, P.row, map_eE, hz, g2, g3, bne_self_eq_false, decide_true, if_true, Int.natCast_nonneg, Bool.not_false, Bool.false_eq_true, if_false, beq_self_eq_true, stepO_ret]
    · have hok : okF l x = true := by unfold okF; rw [if_neg hz]
      rw [if_pos hok]
      simp only [B13, F44_eq r l (by omega), F45_eq, F35_2, hx, hE0, sem_br, sem_ask, sem_bind_some, sem_sees, sem_ret, PC.holds, need_true, Int.toNat_natCast, hz, bne_self_eq_false, decide_false, Int.natCast_nonneg, Bool.false_eq_true, if_false, beq_self_eq_true, htn, hlo, Nat.min_self, Nat.zero_add, ht, hm, m1, m2, z1, i1, i2, a1, a2, a3, a4, a5, a6, hcl, a7, a8, fm_len eE_len, hrow, hn1, toDs_map, aD_map, Nat.le_refl, Int.le_refl, stepO_ret]
  · have h0' : (storeE r l x != 0) = true := by simpa using h0
    rw [if_neg h0]
    simp only [B13, F44_eq r l (by omega), F45_eq, F35_2, hx, hE, h0', sem_br, sem_bind_some, sem_sees, sem_ret, if_true, stepO_ret]
theorem F15_eq (r : Int) (l : List E5) (hl : l.length ≤ 1000) : F15 r l.length (l.flatMap eE) = some (r, l.length, l.flatMap eE) := by
  unfold F15; rw [res_eq]
  simp only [B15, F18_eq l hl, sem_bind_some, sem_sees, sem_ret, stepO_ret]
end Go.Kv
