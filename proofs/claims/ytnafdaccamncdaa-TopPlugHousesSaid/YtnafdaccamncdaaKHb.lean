/- What is known of the uses of houses from sums of them, in plain Lean. -/
import Derived.Test.YtnafdaccamncdaaKHa
import Derived.Test.YtnafdaccamncdaaKD1
import Derived.Test.YtnafdaccamncdaaGC
namespace Go.Kv
set_option linter.unusedVariables false
set_option linter.unusedSimpArgs false
open Go Go.RowKit Go.Proofs
set_option maxRecDepth 100000
section
open Go Go.RowKit
theorem spl_one (A : List Int) (i : Nat) (u : Int) (h : i + 1 ≤ A.length) : spliceA (A.map aI) i [AV.d (DV.v (Value.int IntKind.i64 u))] = (A.set i u).map aI := by
  unfold spliceA
  apply List.ext_getElem?
  intro j
  simp only [List.length_cons, List.length_nil, List.getElem?_map, List.getElem?_set, List.length_set]
  by_cases h1 : j < i
  · rw [List.append_assoc, List.getElem?_append_left (by simp; omega), List.getElem?_take_of_lt h1]
    simp [show ¬ (i = j) by omega]
  · by_cases h3 : j = i
    · subst h3
      rw [List.getElem?_append_left (by simp; omega), List.getElem?_append_right (by simp; omega)]
      rw [List.length_take, List.length_map, show min j A.length = j by omega]
      simp [show j < A.length by omega]
    · rw [List.getElem?_append_right (by simp; omega)]
      simp only [List.length_append, List.length_take, List.length_map, List.length_cons, List.length_nil, List.getElem?_drop]
      rw [show i + (0 + 1) + (j - (min i A.length + (0 + 1))) = j by omega]
      simp [show ¬ (i = j) by omega]
theorem row5 {U : List Int} (h : U.length = 5) : List.take 5 (List.drop 0 (U.map aI)) = [AV.d (DV.v (Value.int IntKind.i64 (U.getD 0 0))), AV.d (DV.v (Value.int IntKind.i64 (U.getD 1 0))), AV.d (DV.v (Value.int IntKind.i64 (U.getD 2 0))), AV.d (DV.v (Value.int IntKind.i64 (U.getD 3 0))), AV.d (DV.v (Value.int IntKind.i64 (U.getD 4 0)))] := by
  match U, h with
  | [_, _, _, _, _], _ => rfl
theorem toDs_aI : ∀ U : List Int, toDs (U.map aI) = some (U.map vI)
  | [] => rfl
  | x :: xs => by
    rw [List.map_cons, List.map_cons]
    unfold toDs
    rw [toDs_aI xs]; rfl
theorem aD_aI (U : List Int) : List.map aD (U.map aI) = U.map vI := by rw [List.map_map]; rfl
theorem take5 {U : List Int} (h : U.length = 5) : List.take 5 (List.drop 0 (U.map aI)) = U.map aI := by
  rw [List.drop_zero, List.take_of_length_le (by simp [h])]
def fits (A : List Ans) (U : List Int) : Bool := A.all fun a => tot U a.1 == a.2
def mn (u l : Int) : Int := if u < l then u else l
def mx (u l : Int) : Int := if u > l then u else l
theorem mn_eq {u l : Int} (h : u = l) : mn u l = l := by unfold mn; split <;> omega
theorem mx_eq {u l : Int} (h : u = l) : mx u l = l := by unfold mx; split <;> omega
/-- What was found up to now. -/
structure Acc where
  f : Bool
  lo : Nat → Int
  hi : Nat → Int
def Acc.upd (a : Acc) (U : List Int) : Acc := if a.f then ⟨true, fun i => mn (U.getD i 0) (a.lo i), fun i => mx (U.getD i 0) (a.hi i)⟩ else ⟨true, fun i => U.getD i 0, fun i => U.getD i 0⟩
def digs : Nat → Nat → Int → List Int → List Int
  | 0, _, _, U => U
  | k + 1, i, n, U => digs k (i + 1) (n / 8) (U.set i (n % 8))
theorem digs_len : ∀ (k i : Nat) (n : Int) (U : List Int), (digs k i n U).length = U.length
  | 0, _, _, _ => rfl
  | k + 1, i, n, U => by unfold digs; rw [digs_len k, List.length_set]
theorem digs_use : ∀ (k i : Nat) (n : Int) (U : List Int), Use U → Use (digs k i n U)
  | 0, _, _, _, h => h
  | k + 1, i, n, U, h => by
    unfold digs
    refine digs_use k _ _ _ ?_
    intro x hx
    rcases List.mem_or_eq_of_mem_set hx with hx | rfl
    · exact h x hx
    · omega
def uv (h : Nat) (n : Int) : List Int := digs h 0 n [0, 0, 0, 0, 0]
theorem uv_len (h : Nat) (n : Int) : (uv h n).length = 5 := digs_len _ _ _ _
theorem uv_use (h : Nat) (n : Int) : Use (uv h n) := digs_use _ _ _ _ (by
  intro x hx
  simp at hx
  omega)
section
structure KH (h : Nat) (A : List Ans) : Prop where
  hh : 1 ≤ h ∧ h ≤ 5
  hA : ∀ a ∈ A, VA (h : Int) a
  hN : A.length ≤ 16
variable {h : Nat} {A : List Ans}
abbrev s2 (h : Nat) (A : List Ans) (T : Int) (a : Acc) (M : Int) : S37 := .c2 (h : Int) 7 A.length (A.flatMap eA) a.f T M (a.lo 0) (a.lo 1) (a.lo 2) (a.lo 3) (a.lo 4) (a.hi 0) (a.hi 1) (a.hi 2) (a.hi 3) (a.hi 4)
abbrev s7 (h : Nat) (A : List Ans) (T : Int) (a : Acc) (M : Int) (U : List Int) (i : Nat) : S37 := .c7 A.length (A.flatMap eA) (A.length : Int) (i : Int) (h : Int) 7 a.f T M (a.lo 0) (a.lo 1) (a.lo 2) (a.lo 3) (a.lo 4) (a.hi 0) (a.hi 1) (a.hi 2) (a.hi 3) (a.hi 4) (U.map aI)
theorem c7_loop (K : KH h A) {U : List Int} (hU : Use U) (lU : U.length = 5) {T M : Int} (hM : 0 ≤ M ∧ M ≤ 1000000) (a : Acc) : ∀ (k i : Nat), A.length = i + k →
    res B37 (s7 h A T a M U i) = res B37 (s2 h A T (if fits (A.drop i) U then a.upd U else a) (M + 1))
  | 0, i, hk => by
    obtain rfl : i = A.length := by omega
    have h1 : ¬ ((A.length : Int) < (A.length : Int)) := by omega
    have hin : inI64 (M + 1) := by unfold inI64; omega
    rw [List.drop_eq_nil_of_le (Nat.le_refl _), res_eq]
    simp only [B37, s7, s2, fits, List.all_nil, if_true, h1, decide_false, Bool.false_eq_true, if_false, row5 lU, celA_aI, sem_br, sem_ask, sem_nxt, sem_triv, PC.holds, need_true, List.length_map, lU, Nat.le_refl, hin, Acc.upd, beq_self_eq_true, Bool.and_true]
    cases hf : a.f with
    | false => simp only [Bool.not_false, if_true, stepO_nxt, Bool.false_eq_true, if_false]
    | true =>
      simp only [Bool.not_true, Bool.false_eq_true, if_false, if_true]
      split
      · rename_i e1
        split
        · rename_i e2
          simp only [Bool.and_eq_true, beq_iff_eq] at e1 e2
          obtain ⟨p0, p1, p2, p3, p4⟩ := e1
          obtain ⟨q0, q1, q2, q3, q4⟩ := e2
          simp only [mn_eq p0, mn_eq p1, mn_eq p2, mn_eq p3, mn_eq p4, mx_eq q0, mx_eq q1, mx_eq q2, mx_eq q3, mx_eq q4, stepO_nxt]
        · simp only [stepO_nxt, mn, mx]
      · simp only [stepO_nxt, mn, mx]
  | k + 1, i, hk => by
    have hi : i < A.length := by omega
    have hN := K.hN
    have hh := K.hh
    have h1 : (i : Int) < (A.length : Int) := by omega
    have ih := c7_loop K hU lU (T := T) hM a k (i + 1) (by omega)
    have hin : inI64 (M + 1) := by unfold inI64; omega
    have hin2 : inI64 ((i : Int) + 1) := by unfold inI64; omega
    have at2 := atA hi
    have va := getA hi K.hA
    have e35 := F35_eq (U := U) (s := (A.getD i ([], 0)).1) hU (by omega) va.2.2.2 (fun x hx => ⟨(va.1.bd x hx).1, by have := (va.1.bd x hx).2; omega⟩)
    rw [lU] at e35
    have hd : A.drop i = A.getD i ([], 0) :: A.drop (i + 1) := dropD _ hi
    rw [hd, res_eq]
    simp only [B37, s7, s2, at2.c0, at2.c1, at2.r1, at2.r2, at2.t, dN_eS, dL_eS, e35, take5 lU, toDs_aI, aD_aI, h1, decide_true, if_true, sem_br, sem_ask, sem_nxt, sem_triv, sem_bind_some, sem_sees, PC.holds, need_true, List.length_map, lU, Nat.le_refl, hin, hin2, refK_aI, Int.toNat_natCast, Int.natCast_nonneg, fits, List.all_cons, ge_iff_le]
    by_cases h0 : tot U (A.getD i ([], 0)).1 = (A.getD i ([], 0)).2
    · simp only [h0, bne_self_eq_false, Bool.false_eq_true, if_false, beq_self_eq_true, Bool.true_and, stepO_nxt]
      exact ih
    · simp only [bne_iff_ne.2 h0, if_true, beq_eq_false_iff_ne.2 h0, Bool.false_and, Bool.false_eq_true, if_false, stepO_nxt]
theorem c5_loop (K : KH h A) {T M : Int} (a : Acc) : ∀ (k i : Nat) (n : Int) (U : List Int), h = i + k → 0 ≤ n ∧ n ≤ 1000000 → U.length = 5 →
    res B37 (.c5 (h : Int) 7 A.length (A.flatMap eA) a.f n T M (i : Int) (a.lo 0) (a.lo 1) (a.lo 2) (a.lo 3) (a.lo 4) (a.hi 0) (a.hi 1) (a.hi 2) (a.hi 3) (a.hi 4) (U.map aI)) = res B37 (s7 h A T a M (digs k i n U) 0)
  | 0, i, n, U, hk, hn, lU => by
    obtain rfl : h = i := by omega
    have h1 : ¬ ((h : Int) < (h : Int)) := by omega
    rw [res_eq]
    simp only [B37, s7, digs, h1, decide_false, Bool.false_eq_true, if_false, sem_br, sem_ask, sem_nxt, sem_triv, PC.holds, need_true, refK_aI, stepO_nxt]
    rfl
  | k + 1, i, n, U, hk, hn, lU => by
    have h1 : (i : Int) < (h : Int) := by omega
    have h5 : (i : Int) < 5 := by have := K.hh; omega
    have d1 : n.tdiv 8 = n / 8 := Int.tdiv_eq_ediv_of_nonneg hn.1
    have d2 : n.tmod 8 = n % 8 := Int.tmod_eq_emod_of_nonneg hn.1
    have hh := K.hh
    have ih := c5_loop K (T := T) (M := M) a k (i + 1) (n / 8) (U.set i (n % 8)) (by omega) (by omega) (by rw [List.length_set, lU])
    have hin : inI64 ((i : Int) + 1) := by unfold inI64; omega
    have hin2 : inI64 (n / 8) := by unfold inI64; omega
    have hin3 : inI64 8 := by unfold inI64; omega
    have hs := spl_one U i (n % 8) (by omega)
    rw [res_eq]
    unfold digs
    simp only [B37, show (7 : Int) + 1 = 8 from rfl, d1, d2, h1, h5, hin, hin2, hin3, decide_true, if_true, Nat.zero_add, Nat.mul_one, Int.toNat_natCast, hs, refK_aI, List.length_map, lU, sem_br, sem_ask, sem_nxt, sem_triv, PC.holds, need_true, Int.natCast_nonneg, ne_eq, show ¬ ((8 : Int) = 0) by omega, not_false_eq_true, show i + 1 ≤ 5 by omega, stepO_nxt]
    rw [← ih]; rfl
theorem c2_step (K : KH h A) {T M : Int} (hM : 0 ≤ M ∧ M < T) (hT : T ≤ 1000000) (a : Acc) : res B37 (s2 h A T a M) = res B37 (s2 h A T (if fits A (uv h M) then a.upd (uv h M) else a) (M + 1)) := by
  have hh := K.hh
  have h1 : (0 : Int) < (h : Int) := by omega
  have d1 : M.tdiv 8 = M / 8 := Int.tdiv_eq_ediv_of_nonneg hM.1
  have d2 : M.tmod 8 = M % 8 := Int.tmod_eq_emod_of_nonneg hM.1
  have hin : inI64 ((0 : Int) + 1) := by unfold inI64; omega
  have hin2 : inI64 (M / 8) := by unfold inI64; omega
  have hin3 : inI64 8 := by unfold inI64; omega
  have hs := spl_one [0, 0, 0, 0, 0] 0 (M % 8) (by simp)
  have hs' : spliceA [AV.d (DV.v (Value.int IntKind.i64 0)), AV.d (DV.v (Value.int IntKind.i64 0)), AV.d (DV.v (Value.int IntKind.i64 0)), AV.d (DV.v (Value.int IntKind.i64 0)), AV.d (DV.v (Value.int IntKind.i64 0))] 0 [AV.d (DV.v (Value.int IntKind.i64 (M % 8)))] = ([0, 0, 0, 0, 0].set 0 (M % 8)).map aI := hs
  have l5 := c5_loop K (T := T) (M := M) a (h - 1) 1 (M / 8) ([0, 0, 0, 0, 0].set 0 (M % 8)) (by omega) (by omega) rfl
  have l7 := c7_loop K (uv_use h M) (uv_len h M) (T := T) (M := M) (by omega) a A.length 0 (by omega)
  rw [List.drop_zero] at l7
  rw [← l7]
  have hu : uv h M = digs (h - 1) 1 (M / 8) ([0, 0, 0, 0, 0].set 0 (M % 8)) := by
    unfold uv
    obtain ⟨k, rfl⟩ : ∃ k, h = k + 1 := ⟨h - 1, by omega⟩
    rfl
  rw [hu, ← l5, res_eq]
  simp only [s2, B37, hM.2, decide_true, if_true, sem_br, sem_nxt, stepO_nxt]
  rw [res_eq]
  simp only [B37, show (7 : Int) + 1 = 8 from rfl, d1, d2, h1, hin, hin2, hin3, decide_true, if_true, Nat.zero_add, Nat.mul_one, Nat.zero_mul, Int.toNat_zero, hs', refK_aI, sem_br, sem_ask, sem_nxt, sem_triv, PC.holds, need_true, Int.le_refl, ne_eq, show ¬ ((8 : Int) = 0) by omega, not_false_eq_true, show (0 : Int) < 5 by omega, show 1 ≤ 5 by omega, stepO_nxt]
  rfl
/-- What is found from a number on. -/
def accs (h : Nat) (A : List Ans) : Nat → Int → Acc → Acc
  | 0, _, a => a
  | k + 1, M, a => accs h A k (M + 1) (if fits A (uv h M) then a.upd (uv h M) else a)
theorem c2_loop (K : KH h A) {T : Int} (hT : T ≤ 1000000) : ∀ (k : Nat) (M : Int) (a : Acc), T = M + k → 0 ≤ M → res B37 (s2 h A T a M) = res B37 (s2 h A T (accs h A k M a) T)
  | 0, M, a, hk, h0 => by
    obtain rfl : T = M := by omega
    rfl
  | k + 1, M, a, hk, h0 => by
    rw [c2_step K ⟨h0, by omega⟩ hT a]
    exact c2_loop K hT k (M + 1) _ (by omega) (by omega)
/-- The intervals that were found. -/
def ivs (a : Acc) (n : Nat) : List DV := (List.range n).flatMap fun i => [vI (a.lo i), vI (a.hi i)]
theorem ivs_succ (a : Acc) (n : Nat) : ivs a (n + 1) = ivs a n ++ [vI (a.lo n), vI (a.hi n)] := by
  unfold ivs; rw [List.range_succ, List.flatMap_append]; rfl
theorem c6_loop (K : KH h A) (a : Acc) : ∀ (k i e : Nat), h = i + k → 0 < i →
    res B37 (.c6 a.f e i (ivs a i) (h : Int) (i : Int) (a.lo 0) (a.lo 1) (a.lo 2) (a.lo 3) (a.lo 4) (a.hi 0) (a.hi 1) (a.hi 2) (a.hi 3) (a.hi 4) e) = some (h, ivs a h, a.f)
  | 0, i, e, hk, h0 => by
    obtain rfl : h = i := by omega
    have h1 : ¬ ((h : Int) < (h : Int)) := by omega
    rw [res_eq]
    simp only [B37, h1, decide_false, Bool.false_eq_true, if_false, sem_br, sem_ask, sem_ret, PC.holds, need_true, stepO_ret]
  | k + 1, i, e, hk, h0 => by
    have h1 : (i : Int) < (h : Int) := by omega
    have h5 : (i : Int) < 5 := by have := K.hh; omega
    have ih := c6_loop K a k (i + 1) (e + 1) (by omega) (by omega)
    have hin : inI64 ((i : Int) + 1) := by unfold inI64; omega
    have hf : fitsN (i + 1) 16 := by unfold fitsN; omega
    rw [ivs_succ] at ih
    rw [res_eq]
    obtain rfl | rfl | rfl | rfl : i = 1 ∨ i = 2 ∨ i = 3 ∨ i = 4 := by have := K.hh; omega
    all_goals
      simp only [B37, h1, h5, hin, hf, decide_true, if_true, sem_br, sem_ask, sem_nxt, sem_triv, PC.holds, need_true, Int.natCast_nonneg, Int.toNat_natCast, Nat.zero_add, Nat.mul_one, stepO_nxt]
      rw [need_of (by rfl), need_of (by rfl)]
      simp only [stepO_nxt]
      exact ih
end
end
section
open Go Go.RowKit
section
variable {h : Nat} {A : List Ans}
theorem c1_loop (K : KH h A) : ∀ (k i p : Nat), h = i + k → 1 ≤ p ∧ p * 8 ^ k ≤ 32768 →
    res B37 (.c1 (h : Int) 7 A.length (A.flatMap eA) (p : Int) (i : Int)) = res B37 (s2 h A ((p * 8 ^ k : Nat) : Int) ⟨false, fun _ => 0, fun _ => 0⟩ 0)
  | 0, i, p, hk, hp => by
    obtain rfl : h = i := by omega
    have h1 : ¬ ((h : Int) < (h : Int)) := by omega
    rw [res_eq, Nat.pow_zero, Nat.mul_one]
    simp only [B37, h1, decide_false, Bool.false_eq_true, if_false, sem_br, sem_nxt, stepO_nxt, s2]
  | k + 1, i, p, hk, hp => by
    have hh := K.hh
    have h1 : (i : Int) < (h : Int) := by omega
    have e8 : p * 8 ^ (k + 1) = p * 8 * 8 ^ k := by rw [Nat.pow_succ, Nat.mul_comm (8 ^ k) 8, ← Nat.mul_assoc]
    have hp8 : p * 8 ≤ p * 8 * 8 ^ k := Nat.le_mul_of_pos_right _ (Nat.pow_pos (by omega))
    have ih := c1_loop K k (i + 1) (p * 8) (by omega) (by omega)
    have hin : inI64 ((i : Int) + 1) := by unfold inI64; omega
    have hin3 : inI64 8 := by unfold inI64; omega
    have e : (p : Int) * 8 = ((p * 8 : Nat) : Int) := by omega
    have hin2 : inI64 ((p * 8 : Nat) : Int) := by unfold inI64; omega
    rw [e8, ← ih, res_eq]
    simp only [B37, show (7 : Int) + 1 = 8 from rfl, e, h1, hin, hin2, hin3, decide_true, if_true, sem_br, sem_ask, sem_triv, sem_nxt, PC.holds, need_true, stepO_nxt]
    rfl
theorem c4_out (K : KH h A) (a : Acc) : res B37 (.c4 a.f (h : Int) 0 (a.lo 0) (a.lo 1) (a.lo 2) (a.lo 3) (a.lo 4) (a.hi 0) (a.hi 1) (a.hi 2) (a.hi 3) (a.hi 4)) = some (h, ivs a h, a.f) := by
  have hh := K.hh
  have h1 : (0 : Int) < (h : Int) := by omega
  have hin : inI64 ((0 : Int) + 1) := by unfold inI64; omega
  have l6 := c6_loop K a (h - 1) 1 0 (by omega) (by omega)
  rw [res_eq]
  simp only [B37, h1, hin, decide_true, if_true, sem_br, sem_ask, sem_triv, sem_nxt, PC.holds, need_true, Int.le_refl, Int.toNat_zero, Nat.zero_add, Nat.zero_mul, Nat.mul_one, show (0 : Int) < 5 by omega, stepO_nxt]
  rw [need_of (by rfl), need_of (by rfl)]
  simp only [stepO_nxt]
  exact l6
/-- What is known at the end. -/
def kn (h : Nat) (A : List Ans) : Acc := accs h A (8 ^ h) 0 ⟨false, fun _ => 0, fun _ => 0⟩
theorem pow_bd (K : KH h A) : 8 ^ h ≤ 32768 := by
  have hh := K.hh
  obtain rfl | rfl | rfl | rfl | rfl : h = 1 ∨ h = 2 ∨ h = 3 ∨ h = 4 ∨ h = 5 := by omega
  all_goals decide
theorem F37_eq (K : KH h A) : F37 (h : Int) 7 A.length (A.flatMap eA) = some (h, ivs (kn h A) h, (kn h A).f) := by
  have hp := pow_bd K
  have l1 := c1_loop K h 0 1 (by omega) (by omega)
  rw [Nat.one_mul] at l1
  have l2 := c2_loop K (T := ((8 ^ h : Nat) : Int)) (by omega) (8 ^ h) 0 ⟨false, fun _ => 0, fun _ => 0⟩ (by omega) (by omega)
  have l4 := c4_out K (kn h A)
  unfold F37
  rw [res_eq]
  simp only [B37, sem_nxt, stepO_nxt]
  refine l1.trans (l2.trans ?_)
  rw [← l4, res_eq]
  have h1 : ¬ (((8 ^ h : Nat) : Int) < ((8 ^ h : Nat) : Int)) := by omega
  simp only [s2, B37, h1, decide_false, Bool.false_eq_true, if_false, sem_br, sem_nxt, stepO_nxt]
  rfl
theorem mn_le (u l : Int) : mn u l ≤ u ∧ mn u l ≤ l := by unfold mn; split <;> omega
theorem mx_ge (u l : Int) : u ≤ mx u l ∧ l ≤ mx u l := by unfold mx; split <;> omega
theorem upd_f (a : Acc) (U : List Int) : (a.upd U).f = true := by unfold Acc.upd; split <;> rfl
theorem upd_u (a : Acc) (U : List Int) (i : Nat) : (a.upd U).lo i ≤ U.getD i 0 ∧ U.getD i 0 ≤ (a.upd U).hi i := by
  unfold Acc.upd; split
  · exact ⟨(mn_le _ _).1, (mx_ge _ _).1⟩
  · exact ⟨Int.le_refl _, Int.le_refl _⟩
theorem upd_a {a : Acc} (hf : a.f = true) (U : List Int) (i : Nat) : (a.upd U).lo i ≤ a.lo i ∧ a.hi i ≤ (a.upd U).hi i := by
  unfold Acc.upd; rw [if_pos hf]
  exact ⟨(mn_le _ _).2, (mx_ge _ _).2⟩
theorem upd_att (a : Acc) (U : List Int) (i : Nat) : ((a.upd U).lo i = U.getD i 0 ∨ (a.f = true ∧ (a.upd U).lo i = a.lo i)) ∧ ((a.upd U).hi i = U.getD i 0 ∨ (a.f = true ∧ (a.upd U).hi i = a.hi i)) := by
  unfold Acc.upd
  cases hf : a.f with
  | false => exact ⟨.inl rfl, .inl rfl⟩
  | true =>
    simp only [if_true, true_and]
    constructor
    · unfold mn; split
      · exact .inl rfl
      · exact .inr rfl
    · unfold mx; split
      · exact .inl rfl
      · exact .inr rfl
theorem accs_keep : ∀ (k : Nat) (M : Int) (a : Acc), a.f = true → (accs h A k M a).f = true ∧ ∀ i, (accs h A k M a).lo i ≤ a.lo i ∧ a.hi i ≤ (accs h A k M a).hi i
  | 0, M, a, hf => ⟨hf, fun i => ⟨Int.le_refl _, Int.le_refl _⟩⟩
  | k + 1, M, a, hf => by
    unfold accs
    by_cases h0 : fits A (uv h M) = true
    · rw [if_pos h0]
      obtain ⟨h1, h2⟩ := accs_keep k (M + 1) (a.upd (uv h M)) (upd_f a _)
      exact ⟨h1, fun i => ⟨Int.le_trans (h2 i).1 (upd_a hf _ i).1, Int.le_trans (upd_a hf _ i).2 (h2 i).2⟩⟩
    · rw [if_neg h0]
      exact accs_keep k (M + 1) a hf
theorem accs_in : ∀ (k : Nat) (M : Int) (a : Acc) (n : Int), M ≤ n ∧ n < M + k → fits A (uv h n) = true →
    (accs h A k M a).f = true ∧ ∀ i, (accs h A k M a).lo i ≤ (uv h n).getD i 0 ∧ (uv h n).getD i 0 ≤ (accs h A k M a).hi i
  | 0, M, a, n, hn, hf => by omega
  | k + 1, M, a, n, hn, hf => by
    unfold accs
    by_cases e : n = M
    · subst e
      rw [if_pos hf]
      obtain ⟨h1, h2⟩ := accs_keep (h := h) (A := A) k (n + 1) (a.upd (uv h n)) (upd_f a _)
      exact ⟨h1, fun i => ⟨Int.le_trans (h2 i).1 (upd_u a _ i).1, Int.le_trans (upd_u a _ i).2 (h2 i).2⟩⟩
    · exact accs_in k (M + 1) _ n (by omega) hf
theorem accs_att : ∀ (k : Nat) (M : Int) (a : Acc), (accs h A k M a).f = true → ∀ i,
    ((∃ n, (M ≤ n ∧ n < M + k) ∧ fits A (uv h n) = true ∧ (accs h A k M a).lo i = (uv h n).getD i 0) ∨ (a.f = true ∧ (accs h A k M a).lo i = a.lo i)) ∧
    ((∃ n, (M ≤ n ∧ n < M + k) ∧ fits A (uv h n) = true ∧ (accs h A k M a).hi i = (uv h n).getD i 0) ∨ (a.f = true ∧ (accs h A k M a).hi i = a.hi i))
  | 0, M, a, hf, i => ⟨.inr ⟨hf, rfl⟩, .inr ⟨hf, rfl⟩⟩
  | k + 1, M, a, hf, i => by
    unfold accs at hf ⊢
    by_cases h0 : fits A (uv h M) = true
    · rw [if_pos h0] at hf ⊢
      obtain ⟨h1, h2⟩ := accs_att k (M + 1) (a.upd (uv h M)) hf i
      obtain ⟨u1, u2⟩ := upd_att a (uv h M) i
      constructor
      · rcases h1 with ⟨n, hn, hfit, he⟩ | ⟨_, he⟩
        · exact .inl ⟨n, by omega, hfit, he⟩
        · rcases u1 with u | ⟨u, v⟩
          · exact .inl ⟨M, by omega, h0, he.trans u⟩
          · exact .inr ⟨u, he.trans v⟩
      · rcases h2 with ⟨n, hn, hfit, he⟩ | ⟨_, he⟩
        · exact .inl ⟨n, by omega, hfit, he⟩
        · rcases u2 with u | ⟨u, v⟩
          · exact .inl ⟨M, by omega, h0, he.trans u⟩
          · exact .inr ⟨u, he.trans v⟩
    · rw [if_neg h0] at hf ⊢
      obtain ⟨h1, h2⟩ := accs_att k (M + 1) a hf i
      constructor
      · rcases h1 with ⟨n, hn, hfit, he⟩ | h1
        · exact .inl ⟨n, by omega, hfit, he⟩
        · exact .inr h1
      · rcases h2 with ⟨n, hn, hfit, he⟩ | h2
        · exact .inl ⟨n, by omega, hfit, he⟩
        · exact .inr h2
/-! the uses have a number -/
def num : List Int → Int
  | [] => 0
  | x :: xs => x + 8 * num xs
theorem num_bd : ∀ {U : List Int}, Use U → 0 ≤ num U ∧ num U < ((8 ^ U.length : Nat) : Int)
  | [], _ => by simp [num]
  | x :: xs, hU => by
    have h1 := hU x (by simp)
    have h2 := num_bd (U := xs) fun y hy => hU y (by simp [hy])
    unfold num
    rw [List.length_cons, Nat.pow_succ]
    omega
def setAll : Nat → List Int → List Int → List Int
  | _, [], U => U
  | i, x :: xs, U => setAll (i + 1) xs (U.set i x)
theorem digs_num : ∀ (R : List Int) (i : Nat) (U : List Int), Use R → digs R.length i (num R) U = setAll i R U
  | [], i, U, _ => rfl
  | x :: xs, i, U, hR => by
    have h1 := hR x (by simp)
    have h2 := num_bd (U := xs) fun y hy => hR y (by simp [hy])
    rw [List.length_cons]
    unfold digs setAll num
    rw [show (x + 8 * num xs) / 8 = num xs by omega, show (x + 8 * num xs) % 8 = x by omega]
    exact digs_num xs (i + 1) _ fun y hy => hR y (by simp [hy])
theorem uv_num {R : List Int} (hR : Use R) (hl : 1 ≤ R.length ∧ R.length ≤ 5) (i : Nat) : (uv R.length (num R)).getD i 0 = R.getD i 0 := by
  unfold uv
  rw [digs_num R 0 _ hR]
  have z : ∀ n : Nat, ([] : List Int).getD n 0 = 0 := fun n => rfl
  match R, hl with
  | [a], _ => match i with
    | 0 => rfl
    | 1 => rfl
    | 2 => rfl
    | 3 => rfl
    | 4 => rfl
    | n + 5 => rfl
  | [a, b], _ => match i with
    | 0 => rfl
    | 1 => rfl
    | 2 => rfl
    | 3 => rfl
    | 4 => rfl
    | n + 5 => rfl
  | [a, b, c], _ => match i with
    | 0 => rfl
    | 1 => rfl
    | 2 => rfl
    | 3 => rfl
    | 4 => rfl
    | n + 5 => rfl
  | [a, b, c, d], _ => match i with
    | 0 => rfl
    | 1 => rfl
    | 2 => rfl
    | 3 => rfl
    | 4 => rfl
    | n + 5 => rfl
  | [a, b, c, d, e], _ => match i with
    | 0 => rfl
    | 1 => rfl
    | 2 => rfl
    | 3 => rfl
    | 4 => rfl
    | n + 5 => rfl
  | a :: b :: c :: d :: e :: f :: g, h => simp at h
theorem tot_congr {U V : List Int} (e : ∀ i, U.getD i 0 = V.getD i 0) (s : List Int) : tot U s = tot V s := by
  unfold tot; congr 1; exact List.map_congr_left fun x _ => e _
theorem fits_congr {U V : List Int} (e : ∀ i, U.getD i 0 = V.getD i 0) (A : List Ans) : fits A U = fits A V := by
  unfold fits; congr 1; funext a; rw [tot_congr e]
/-- The real uses are in what is known. -/
theorem kn_in {R : List Int} (hR : Use R) (hl : 1 ≤ R.length ∧ R.length ≤ 5) {A : List Ans} (hf : fits A R = true) : (kn R.length A).f = true ∧ ∀ i, (kn R.length A).lo i ≤ R.getD i 0 ∧ R.getD i 0 ≤ (kn R.length A).hi i := by
  have e := uv_num hR hl
  have b := num_bd hR
  have := accs_in (h := R.length) (A := A) (8 ^ R.length) 0 ⟨false, fun _ => 0, fun _ => 0⟩ (num R) ⟨b.1, by omega⟩ (by rw [fits_congr e]; exact hf)
  refine ⟨this.1, fun i => ?_⟩
  have h2 := this.2 i
  rw [e i] at h2
  exact h2
/-- More answers do not widen what is known. -/
theorem kn_mono {A A' : List Ans} (hs : ∀ U, fits A' U = true → fits A U = true) (hf : (kn h A').f = true) (i : Nat) : (kn h A).lo i ≤ (kn h A').lo i ∧ (kn h A').hi i ≤ (kn h A).hi i := by
  obtain ⟨h1, h2⟩ := accs_att (h := h) (A := A') (8 ^ h) 0 ⟨false, fun _ => 0, fun _ => 0⟩ hf i
  constructor
  · rcases h1 with ⟨n, hn, hfit, he⟩ | ⟨h1, _⟩
    · have := (accs_in (h := h) (A := A) (8 ^ h) 0 ⟨false, fun _ => 0, fun _ => 0⟩ n hn (hs _ hfit)).2 i
      unfold kn; rw [he]; exact this.1
    · cases h1
  · rcases h2 with ⟨n, hn, hfit, he⟩ | ⟨h2, _⟩
    · have := (accs_in (h := h) (A := A) (8 ^ h) 0 ⟨false, fun _ => 0, fun _ => 0⟩ n hn (hs _ hfit)).2 i
      unfold kn; rw [he]; exact this.2
    · cases h2
/-- Known: what the answers lead to. -/
theorem F12_eq (K : KH h A) (h0 : 0 < A.length) (hf : (kn h A).f = true) : F12 (h : Int) 7 A.length (A.flatMap eA) = some (h, ivs (kn h A) h, 0) := by
  have hh := K.hh
  have e36 := F36_eq (h := (h : Int)) (A := A) ⟨by omega, by omega⟩ K.hA K.hN h0
  unfold F12; rw [res_eq]
  simp only [B12, e36, F37_eq K, hf, sem_bind_some, sem_sees, sem_ask, sem_triv, sem_br, sem_ret, PC.holds, bne_self_eq_false, Bool.not_true, Bool.false_eq_true, if_false, stepO_ret]
end
end
section
open Go Go.RowKit
def b2 (b : Bool) : Int := if b then 1 else 0
def ci (p : Int → Bool) : Nat → Int
  | 0 => 0
  | t + 1 => ci p t + b2 (p (t : Int))
theorem ci_lin {p q r : Int → Bool} (h : ∀ i, b2 (p i) = b2 (q i) + b2 (r i)) : ∀ t, ci p t = ci q t + ci r t
  | 0 => rfl
  | t + 1 => by unfold ci; rw [ci_lin h t, h]; omega
theorem ci_xor {p q r s : Int → Bool} (h : ∀ i, b2 (p i) = b2 (q i) + b2 (r i) - 2 * b2 (s i)) : ∀ t, ci p t = ci q t + ci r t - 2 * ci s t
  | 0 => rfl
  | t + 1 => by unfold ci; rw [ci_xor h t, h]; omega
theorem ci_none {p : Int → Bool} (h : ∀ i, p i = false) : ∀ t, ci p t = 0
  | 0 => rfl
  | t + 1 => by unfold ci; rw [ci_none h t, h]; rfl
theorem ci_one (x : Int) (b : Bool) : ∀ t : Nat, ci (fun i => decide (i = x) && b) t = if (0 ≤ x ∧ x < (t : Int)) ∧ b = true then 1 else 0
  | 0 => by unfold ci; rw [if_neg (by omega)]
  | t + 1 => by
    unfold ci
    rw [ci_one x b t]
    cases b with
    | false => simp [b2]
    | true =>
      simp only [Bool.and_true, and_true, b2]
      by_cases e : (t : Int) = x
      · simp only [e, decide_true, if_true]
        rw [if_neg (by omega), if_pos (by omega)]; rfl
      · simp only [e, decide_false, Bool.false_eq_true, if_false]
        by_cases c : 0 ≤ x ∧ x < (t : Int)
        · rw [if_pos c, if_pos (by omega)]; rfl
        · rw [if_neg c, if_neg (by omega)]; rfl
theorem ci_mem (q : Int → Bool) (h : Nat) : ∀ {a : List Int}, (∀ x ∈ a, 0 ≤ x ∧ x < (h : Int)) → a.Pairwise (· < ·) → ci (fun i => decide (i ∈ a) && q i) h = ((a.filter q).length : Int)
  | [], _, _ => by rw [ci_none (fun i => by simp)]; rfl
  | x :: xs, hb, hp => by
    obtain ⟨p1, p2⟩ := List.pairwise_cons.1 hp
    have ih := ci_mem q h (a := xs) (fun y hy => hb y (by simp [hy])) p2
    have hx := hb x (by simp)
    rw [ci_lin (q := fun i => decide (i = x) && q x) (r := fun i => decide (i ∈ xs) && q i), ci_one, ih, List.filter_cons]
    · cases hq : q x with
      | false => simp
      | true =>
        rw [if_pos ⟨hx, rfl⟩]
        simp
        omega
    · intro i
      by_cases e : i = x
      · subst e
        have hn : i ∉ xs := fun hm => by have := p1 i hm; omega
        simp [hn, b2]
      · simp [e, b2]
/-- At how many houses two sets differ. -/
def xc (a b : List Int) : Nat → Int := ci fun i => !(decide (i ∈ a)) == decide (i ∈ b)
theorem xc_succ (a b : List Int) (t : Nat) : xc a b (t + 1) = xc a b t + b2 (!(decide ((t : Int) ∈ a)) == decide ((t : Int) ∈ b)) := rfl
theorem xc_apart {h : Nat} {a b : List Int} (ha : VS (h : Int) a) (hb : VS (h : Int) b) : xc a b h = apart a b := by
  have e1 := ci_mem (fun _ => true) h ha.bd ha.inc
  have e2 := ci_mem (fun _ => true) h hb.bd hb.inc
  have e3 := ci_mem (fun i => decide (i ∈ b)) h ha.bd ha.inc
  have f1 : a.filter (fun _ => true) = a := List.filter_eq_self.2 fun _ _ => rfl
  have f2 : b.filter (fun _ => true) = b := List.filter_eq_self.2 fun _ _ => rfl
  rw [f1] at e1
  rw [f2] at e2
  unfold xc apart cm
  rw [ci_xor (q := fun i => decide (i ∈ a) && true) (r := fun i => decide (i ∈ b) && true) (s := fun i => decide (i ∈ a) && decide (i ∈ b)), e1, e2, e3]
  intro i
  by_cases x : i ∈ a <;> by_cases y : i ∈ b <;> simp [x, y, b2]
theorem xc_bd (a b : List Int) : ∀ t : Nat, 0 ≤ xc a b t ∧ xc a b t ≤ t
  | 0 => by unfold xc ci; omega
  | t + 1 => by
    have := xc_bd a b t
    rw [xc_succ]
    unfold b2
    split <;> omega
/-! intervals in memory -/
structure AtI (l : List DV) (i : Nat) (x y : Int) : Prop where
  c0 : dI (cel l (i * 2)) = x
  c1 : dI (cel l (i * 2 + 1)) = y
  r1 : i * 2 ≤ l.length
  r2 : 2 ≤ (l.drop (i * 2)).length
  t : List.map AV.d (List.take 2 (List.drop (i * 2) l)) = [AV.d (DV.v (Value.int IntKind.i64 x)), AV.d (DV.v (Value.int IntKind.i64 y))]
  d0 : dI (cel (List.drop (i * 2) l) 0) = x
  d1 : dI (cel (List.drop (i * 2) l) 1) = y
  p0 : Option.map AV.d (List.drop 0 (List.drop (i * 2) l))[0]? = some (AV.d (DV.v (Value.int IntKind.i64 x)))
  p1 : Option.map AV.d (List.drop 1 (List.drop (i * 2) l))[0]? = some (AV.d (DV.v (Value.int IntKind.i64 y)))
theorem atI {a : Acc} {n i : Nat} (hi : i < n) : AtI (ivs a n) i (a.lo i) (a.hi i) := by
  have hl : i < (List.range n).length := by rw [List.length_range]; exact hi
  let enc : Nat → List DV := fun i => [vI (a.lo i), vI (a.hi i)]
  have el : ∀ x, (enc x).length = 2 := fun _ => rfl
  have hk (k : Nat) (h : k < 2) := fm_cel (enc := enc) el hl h
  obtain ⟨r1, r2⟩ := fm_room (enc := enc) el hl
  have at2 := fm_at (enc := enc) el hl
  rw [List.getElem_range] at at2
  have hd : List.take 2 (List.drop (i * 2) (ivs a n)) = [vI (a.lo i), vI (a.hi i)] := at2
  obtain ⟨x, y, r, hr⟩ : ∃ x y r, List.drop (i * 2) (ivs a n) = x :: y :: r := by
    match hm : List.drop (i * 2) (ivs a n) with
    | [] => rw [hm] at hd; simp at hd
    | [_] => rw [hm] at hd; simp at hd
    | x :: y :: r => exact ⟨x, y, r, rfl⟩
  rw [hr] at hd
  simp only [List.take_succ_cons, List.take_zero, List.cons.injEq, and_true] at hd
  obtain ⟨rfl, rfl⟩ := hd
  refine ⟨?_, ?_, r1, r2, ?_, ?_, ?_, ?_, ?_⟩
  · have := hk 0 (by decide)
    rw [Nat.add_zero, List.getElem_range] at this
    show dI (cel ((List.range n).flatMap enc) (i * 2)) = _
    rw [this]; rfl
  · have := hk 1 (by decide)
    rw [List.getElem_range] at this
    show dI (cel ((List.range n).flatMap enc) (i * 2 + 1)) = _
    rw [this]; rfl
  · rw [hr]; rfl
  · rw [hr]; rfl
  · rw [hr]; rfl
  · rw [hr]; rfl
  · rw [hr]; rfl
/-! what the law's answers say -/
def ans (R : List Int) (As : List (List Int)) : List Ans := As.map fun s => (s, tot R s)
theorem ans_len (R : List Int) (As : List (List Int)) : (ans R As).length = As.length := List.length_map ..
theorem ans_snoc (R : List Int) (As : List (List Int)) (s : List Int) : ans R (As ++ [s]) = ans R As ++ [(s, tot R s)] := by unfold ans; rw [List.map_append]; rfl
theorem ans_fits (R : List Int) (As : List (List Int)) : fits (ans R As) R = true := by
  unfold fits ans
  rw [List.all_map]
  exact List.all_eq_true.2 fun s _ => by simp
theorem fits_snoc {R : List Int} {As : List (List Int)} {s U : List Int} (h : fits (ans R (As ++ [s])) U = true) : fits (ans R As) U = true := by
  unfold fits at *
  rw [ans_snoc, List.all_append, Bool.and_eq_true] at h
  exact h.1
theorem ans_kh {R : List Int} (hR : Use R) (lR : 1 ≤ R.length ∧ R.length ≤ 5) {As : List (List Int)} (hA : ∀ s ∈ As, VS (R.length : Int) s) (lA : As.length ≤ 16) : KH R.length (ans R As) := by
  refine ⟨lR, ?_, by rw [ans_len]; exact lA⟩
  intro a ha
  obtain ⟨s, hs, rfl⟩ := List.mem_map.1 ha
  have v := hA s hs
  have l := v.len (by omega)
  have t := tot_bd hR s
  exact ⟨v, t.1, by simp only; omega, by simp only; omega⟩
theorem F12_R {R : List Int} (hR : Use R) (lR : 1 ≤ R.length ∧ R.length ≤ 5) {As : List (List Int)} (hA : ∀ s ∈ As, VS (R.length : Int) s) (lA : As.length ≤ 16) (h0 : 0 < As.length) :
    F12 (R.length : Int) 7 As.length ((ans R As).flatMap eA) = some (R.length, ivs (kn R.length (ans R As)) R.length, 0) := by
  have := F12_eq (ans_kh hR lR hA lA) (by rw [ans_len]; exact h0) (kn_in hR lR (ans_fits R As)).1
  rw [ans_len] at this
  exact this
end
end Go.Kv
