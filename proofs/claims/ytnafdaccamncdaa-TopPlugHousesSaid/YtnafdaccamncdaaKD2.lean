/- What a meter counts, cycle by cycle, in plain Lean. -/
import Derived.Test.YtnafdaccamncdaaKD1
namespace Go.Kv
set_option linter.unusedVariables false
set_option linter.unusedSimpArgs false
open Go Go.RowKit
set_option maxRecDepth 100000
abbrev vF (a : Int) : DV := .v (.float .f32 (fl a))
theorem fl_zero : fl 0 = 0 := by kernel_rfl
theorem dF_F (S : List Int) (i : Nat) : dF (cel (S.map vF) i) = fl (S.getD i 0) := by
  unfold cel
  simp only [List.getD_eq_getElem?_getD, List.getElem?_map]
  cases S[i]? with
  | none => exact fl_zero.symm
  | some x => rfl
theorem at_mapF {S : List Int} {i : Nat} (h : i < S.length) : Option.map AV.d (List.drop i (S.map vF))[0]? = some (AV.d (DV.v (Value.float FloatKind.f32 (fl (S.getD i 0))))) := by
  simp [List.getElem?_drop, h, List.getD_eq_getElem?_getD]
theorem row4F {S : List Int} (h : S.length = 4) : List.map AV.d (List.take 4 (S.map vF)) = [AV.d (DV.v (Value.float FloatKind.f32 (fl (S.getD 0 0)))), AV.d (DV.v (Value.float FloatKind.f32 (fl (S.getD 1 0)))), AV.d (DV.v (Value.float FloatKind.f32 (fl (S.getD 2 0)))), AV.d (DV.v (Value.float FloatKind.f32 (fl (S.getD 3 0))))] := by
  match S, h with
  | [a, b, c, d], _ => rfl
def wn (v : List Int) (j : Nat) : List Int := (v.drop (4 * j)).take 4
theorem wn_map (v : List Int) (j : Nat) : List.take 4 (List.drop (4 * j) (v.map vF)) = (wn v j).map vF := by
  unfold wn; rw [List.map_take, List.map_drop]
theorem wn_len {v : List Int} {j : Nat} (h : 4 * j + 4 ≤ v.length) : (wn v j).length = 4 := by
  unfold wn; rw [List.length_take, List.length_drop]; omega
theorem wn_smp {v : List Int} (h : Smps v) (j : Nat) : Smps (wn v j) := fun a ha => h a (List.mem_of_mem_drop (List.mem_of_mem_take ha))
def runC (v i : List Int) : Nat → Nat → List Int → List Int
  | 0, _, A => A
  | m + 1, j, A => runC v i m (j + 1) (cyc A (pI (wn v j) (wn i j)) (qI (wn v j) (wn i j)))
abbrev tup (A : List Int) : Int × Int × Int × Int × Int × Int × Int × Int × Int × Int × Int × Int × Int := (A.getD 0 0, A.getD 1 0, A.getD 2 0, A.getD 3 0, A.getD 4 0, A.getD 5 0, A.getD 6 0, A.getD 7 0, A.getD 8 0, A.getD 9 0, A.getD 10 0, A.getD 11 0, 0)
theorem zero_toN (d : Nat) : (1 + (d : Int)).toNat = 1 + d := by omega
section
variable {v i : List Int} {n : Nat}
theorem F6_l (hv : v.length = 4 * n) (hi : i.length = 4 * n) (hn : n ≤ 1024) (sv : Smps v) (si : Smps i) : ∀ (m j : Nat) (A : List Int), n = j + m → okM A → A.length = 12 →
    (∀ (z0 z1 z2 z3 z4 z5 z6 z7 z8 z9 z10 z11 z12 z13 z14 z15 z16 z17 z18 z19 z20 z21 : Int) (z22 : Bool) (z23 z24 : Int) (z25 : Bool) (z26 : Int) (z27 : List DV), res B6 (.c2 ((4 * j : Nat) : Int) (A.map aI) v.length (v.map vF) i.length (i.map vF) z0 z1 z2 z3 z4 z5 z6 z7 z8 z9 z10 z11 z12 z13 z14 z15 z16 z17 z18 z19 z20 z21 z22 z23 z24 z25 z26 z27) = some (tup (runC v i m j A))) ∧
    (∀ (a0 a1 a2 a3 a4 a5 a6 a7 a8 a9 a10 a11 : Int) (y0 y1 y2 y3 y4 y5 y6 y7 y8 y9 y10 y11 y12 y13 : Int) (y14 : Bool) (y15 y16 : Int) (y17 : Bool) (y18 : Int) (y19 : List DV), A = [a0, a1, a2, a3, a4, a5, a6, a7, a8, a9, a10, a11] → res B6 (.c1 ((4 * j : Nat) : Int) a0 a1 a2 a3 a4 a5 a6 a7 a8 a9 a10 a11 v.length (v.map vF) i.length (i.map vF) y0 y1 y2 y3 y4 y5 y6 y7 y8 y9 y10 y11 y12 y13 y14 y15 y16 y17 y18 y19) = some (tup (runC v i m j A)))
  | 0, j, A, hm, hA, hL => by
    have hin : inI64 (((4 * j : Nat) : Int) + 4) := by unfold inI64; omega
    have h1 : ¬ (((4 * j : Nat) : Int) + 4 ≤ (v.length : Int)) := by omega
    refine ⟨fun z0 z1 z2 z3 z4 z5 z6 z7 z8 z9 z10 z11 z12 z13 z14 z15 z16 z17 z18 z19 z20 z21 z22 z23 z24 z25 z26 z27 => ?_, fun a0 a1 a2 a3 a4 a5 a6 a7 a8 a9 a10 a11 y0 y1 y2 y3 y4 y5 y6 y7 y8 y9 y10 y11 y12 y13 y14 y15 y16 y17 y18 y19 he => ?_⟩
    · rw [res_eq]
      simp only [B6, sem_br, sem_ask, sem_triv, sem_ret, PC.holds, need_of hin, need_true, h1, decide_false, Bool.false_eq_true, if_false, List.length_map, hL, Nat.le_refl, celA_aI, row12 hL, stepO_ret]
      rfl
    · subst he
      rw [res_eq]
      simp only [B6, sem_br, sem_ask, sem_triv, sem_ret, PC.holds, need_of hin, need_true, h1, decide_false, Bool.false_eq_true, if_false, stepO_ret]
      rfl
  | m + 1, j, A, hm, hA, hL => by
    have hin : inI64 (((4 * j : Nat) : Int) + 4) := by unfold inI64; omega
    have h1 : ((4 * j : Nat) : Int) + 4 ≤ (v.length : Int) := by omega
    have h1' : ((4 * j : Nat) : Int) + 4 ≤ (i.length : Int) := by omega
    have h2 : ((4 * j : Nat) : Int) ≤ ((4 * j : Nat) : Int) + 4 := by omega
    have t4 : (((4 * j : Nat) : Int) + 4).toNat = 4 * j + 4 := by omega
    have hs : 4 * j + 4 - 4 * j = 4 := by omega
    have lW := wn_len (v := v) (j := j) (by omega)
    have lU := wn_len (v := i) (j := j) (by omega)
    have hF := F44_fl (wn_smp sv j) (wn_smp si j) (by omega) (by omega)
    obtain ⟨bp, bq⟩ := pq_bd (wn_smp sv j) (wn_smp si j) (by omega) (by omega)
    have hr : runC v i (m + 1) j A = runC v i m (j + 1) (cyc A (pI (wn v j) (wn i j)) (qI (wn v j) (wn i j))) := rfl
    rw [hr]
    generalize hp : pI (wn v j) (wn i j) = p at *
    generalize hq : qI (wn v j) (wn i j) = q at *
    have ap := absI_bd bp
    have aq := absI_bd bq
    have ih := F6_l hv hi hn sv si m (j + 1) (cyc A p q) (by omega) (cyc_ok hA hL p q) (by rw [cyc_len, hL])
    have ip : inI64 (-p) := by unfold inI64; omega
    have iq : inI64 (-q) := by unfold inI64; omega
    have hd := qd_bd p q
    have id1 : inI64 (1 + (qd p q : Int)) := by unfold inI64; omega
    have ld0 : (0 : Int) ≤ 1 + (qd p q : Int) := by omega
    have ld6 : 1 + (qd p q : Int) < 6 := by omega
    have ld12 : (1 + qd p q) * 2 + 2 ≤ 12 := by omega
    have h4 : 4 ≤ 12 := by decide
    have h2' : 2 ≤ 12 := by decide

    refine ⟨fun z0 z1 z2 z3 z4 z5 z6 z7 z8 z9 z10 z11 z12 z13 z14 z15 z16 z17 z18 z19 z20 z21 z22 z23 z24 z25 z26 z27 => ?_, fun a0 a1 a2 a3 a4 a5 a6 a7 a8 a9 a10 a11 y0 y1 y2 y3 y4 y5 y6 y7 y8 y9 y10 y11 y12 y13 y14 y15 y16 y17 y18 y19 he => ?_⟩
    · rw [res_eq]
      by_cases hq0 : q = 0
      · have hqb : (q != 0) = false := by simpa using hq0
        by_cases hp0 : p < 0
        · skip
          have f1 : F19 (A.getD 2 0) (A.getD 3 0) (if -p > p then -p else p) = some (upU (A.getD 2 0) (A.getD 3 0) (absI p), upV (A.getD 3 0) (absI p)) := F19_eq (hA 1 (by decide)) ap
          have s1 : spliceA (A.map aI) 2 [AV.d (DV.v (Value.int IntKind.i64 (upU (A.getD 2 0) (A.getD 3 0) (absI p)))), AV.d (DV.v (Value.int IntKind.i64 (upV (A.getD 3 0) (absI p))))] = (updL A 1 (absI p)).map aI := spl_upd (k := 1) (absI p) (by rw [hL]; decide)
          have r1 : List.take 2 (List.drop 2 (A.map aI)) = [AV.d (DV.v (Value.int IntKind.i64 (A.getD 2 0))), AV.d (DV.v (Value.int IntKind.i64 (A.getD 3 0)))] := rowAI (by rw [hL]; decide)
          have hc : cyc A p q = (updL A 1 (absI p)) := by unfold cyc sideN; rw [if_pos hq0]; simp only [hp0, if_true, if_false]
          rw [hc] at ih ⊢
          simp only [B6, sem_br, sem_ask, sem_triv, sem_sees, sem_nxt, sem_bind_some, PC.holds, need_true, need_of hin, Int.toNat_natCast, Nat.mul_one, Nat.zero_add, t4, hs, h1, h1', h2, hin, wn_map, lW, lU, row4F lW, row4F lU, dF_F, hF, List.length_map, Int.natCast_nonneg, Int.le_refl, Nat.le_refl, ip, decide_true, if_true, if_false, decide_false, Bool.false_eq_true, hp0, f1, s1, r1, celA_aI, hL, h4, h2', refK_aI, hqb, stepO_nxt]
          exact ih.1 ..
        · skip
          have f1 : F19 (A.getD 0 0) (A.getD 1 0) (if -p > p then -p else p) = some (upU (A.getD 0 0) (A.getD 1 0) (absI p), upV (A.getD 1 0) (absI p)) := F19_eq (hA 0 (by decide)) ap
          have s1 : spliceA (A.map aI) 0 [AV.d (DV.v (Value.int IntKind.i64 (upU (A.getD 0 0) (A.getD 1 0) (absI p)))), AV.d (DV.v (Value.int IntKind.i64 (upV (A.getD 1 0) (absI p))))] = (updL A 0 (absI p)).map aI := spl_upd (k := 0) (absI p) (by rw [hL]; decide)
          have r1 : List.take 2 (List.drop 0 (A.map aI)) = [AV.d (DV.v (Value.int IntKind.i64 (A.getD 0 0))), AV.d (DV.v (Value.int IntKind.i64 (A.getD 1 0)))] := rowAI (by rw [hL]; decide)
          have hc : cyc A p q = (updL A 0 (absI p)) := by unfold cyc sideN; rw [if_pos hq0]; simp only [hp0, if_true, if_false]
          rw [hc] at ih ⊢
          simp only [B6, sem_br, sem_ask, sem_triv, sem_sees, sem_nxt, sem_bind_some, PC.holds, need_true, need_of hin, Int.toNat_natCast, Nat.mul_one, Nat.zero_add, t4, hs, h1, h1', h2, hin, wn_map, lW, lU, row4F lW, row4F lU, dF_F, hF, List.length_map, Int.natCast_nonneg, Int.le_refl, Nat.le_refl, ip, decide_true, if_true, if_false, decide_false, Bool.false_eq_true, hp0, f1, s1, r1, celA_aI, hL, h4, h2', refK_aI, hqb, stepO_nxt]
          exact ih.1 ..
      · have hqb : (q != 0) = true := by simpa using hq0
        by_cases hp0 : p < 0
        · skip
          have f1 : F19 (A.getD 2 0) (A.getD 3 0) (if -p > p then -p else p) = some (upU (A.getD 2 0) (A.getD 3 0) (absI p), upV (A.getD 3 0) (absI p)) := F19_eq (hA 1 (by decide)) ap
          have s1 : spliceA (A.map aI) 2 [AV.d (DV.v (Value.int IntKind.i64 (upU (A.getD 2 0) (A.getD 3 0) (absI p)))), AV.d (DV.v (Value.int IntKind.i64 (upV (A.getD 3 0) (absI p))))] = (updL A 1 (absI p)).map aI := spl_upd (k := 1) (absI p) (by rw [hL]; decide)
          have r1 : List.take 2 (List.drop 2 (A.map aI)) = [AV.d (DV.v (Value.int IntKind.i64 (A.getD 2 0))), AV.d (DV.v (Value.int IntKind.i64 (A.getD 3 0)))] := rowAI (by rw [hL]; decide)
          have l1 : (updL A 1 (absI p)).length = 12 := by rw [updL_len]; first | exact hL | rfl
          have o1 := updL_ok hA hL 1 (absI p)
          have f2 : F19 ((updL A 1 (absI p)).getD ((1 + qd p q) * 2) 0) ((updL A 1 (absI p)).getD ((1 + qd p q) * 2 + 1) 0) (if -q > q then -q else q) = some (upU ((updL A 1 (absI p)).getD ((1 + qd p q) * 2) 0) ((updL A 1 (absI p)).getD ((1 + qd p q) * 2 + 1) 0) (absI q), upV ((updL A 1 (absI p)).getD ((1 + qd p q) * 2 + 1) 0) (absI q)) := F19_eq (o1 (1 + qd p q) (by omega)) aq
          have s2 := spl_upd (A := (updL A 1 (absI p))) (k := 1 + qd p q) (absI q) (by rw [l1]; omega)
          have r2 := rowAI (A := (updL A 1 (absI p))) (i := (1 + qd p q) * 2) (by rw [l1]; omega)
          have hc : cyc A p q = updL (updL A 1 (absI p)) (1 + qd p q) (absI q) := by unfold cyc sideN; rw [if_neg hq0]; simp only [hp0, if_true, if_false]
          rw [hc] at ih ⊢
          simp only [B6, sem_br, sem_ask, sem_triv, sem_sees, sem_nxt, sem_bind_some, PC.holds, need_true, need_of hin, Int.toNat_natCast, Nat.mul_one, Nat.zero_add, t4, hs, h1, h1', h2, hin, wn_map, lW, lU, row4F lW, row4F lU, dF_F, hF, List.length_map, Int.natCast_nonneg, Int.le_refl, Nat.le_refl, ip, decide_true, if_true, if_false, decide_false, Bool.false_eq_true, hp0, f1, s1, r1, celA_aI, hL, h4, h2', refK_aI, l1, f2, s2, r2, F20_eq p q hq0, hqb, zero_toN, id1, ld0, ld6, ld12, iq, stepO_nxt]
          exact ih.1 ..
        · skip
          have f1 : F19 (A.getD 0 0) (A.getD 1 0) (if -p > p then -p else p) = some (upU (A.getD 0 0) (A.getD 1 0) (absI p), upV (A.getD 1 0) (absI p)) := F19_eq (hA 0 (by decide)) ap
          have s1 : spliceA (A.map aI) 0 [AV.d (DV.v (Value.int IntKind.i64 (upU (A.getD 0 0) (A.getD 1 0) (absI p)))), AV.d (DV.v (Value.int IntKind.i64 (upV (A.getD 1 0) (absI p))))] = (updL A 0 (absI p)).map aI := spl_upd (k := 0) (absI p) (by rw [hL]; decide)
          have r1 : List.take 2 (List.drop 0 (A.map aI)) = [AV.d (DV.v (Value.int IntKind.i64 (A.getD 0 0))), AV.d (DV.v (Value.int IntKind.i64 (A.getD 1 0)))] := rowAI (by rw [hL]; decide)
          have l1 : (updL A 0 (absI p)).length = 12 := by rw [updL_len]; first | exact hL | rfl
          have o1 := updL_ok hA hL 0 (absI p)
          have f2 : F19 ((updL A 0 (absI p)).getD ((1 + qd p q) * 2) 0) ((updL A 0 (absI p)).getD ((1 + qd p q) * 2 + 1) 0) (if -q > q then -q else q) = some (upU ((updL A 0 (absI p)).getD ((1 + qd p q) * 2) 0) ((updL A 0 (absI p)).getD ((1 + qd p q) * 2 + 1) 0) (absI q), upV ((updL A 0 (absI p)).getD ((1 + qd p q) * 2 + 1) 0) (absI q)) := F19_eq (o1 (1 + qd p q) (by omega)) aq
          have s2 := spl_upd (A := (updL A 0 (absI p))) (k := 1 + qd p q) (absI q) (by rw [l1]; omega)
          have r2 := rowAI (A := (updL A 0 (absI p))) (i := (1 + qd p q) * 2) (by rw [l1]; omega)
          have hc : cyc A p q = updL (updL A 0 (absI p)) (1 + qd p q) (absI q) := by unfold cyc sideN; rw [if_neg hq0]; simp only [hp0, if_true, if_false]
          rw [hc] at ih ⊢
          simp only [B6, sem_br, sem_ask, sem_triv, sem_sees, sem_nxt, sem_bind_some, PC.holds, need_true, need_of hin, Int.toNat_natCast, Nat.mul_one, Nat.zero_add, t4, hs, h1, h1', h2, hin, wn_map, lW, lU, row4F lW, row4F lU, dF_F, hF, List.length_map, Int.natCast_nonneg, Int.le_refl, Nat.le_refl, ip, decide_true, if_true, if_false, decide_false, Bool.false_eq_true, hp0, f1, s1, r1, celA_aI, hL, h4, h2', refK_aI, l1, f2, s2, r2, F20_eq p q hq0, hqb, zero_toN, id1, ld0, ld6, ld12, iq, stepO_nxt]
          exact ih.1 ..
    · subst he
      rw [res_eq]
      by_cases hq0 : q = 0
      · have hqb : (q != 0) = false := by simpa using hq0
        by_cases hp0 : p < 0
        · skip
          have f1 : F19 a2 a3 (if -p > p then -p else p) = some (upU a2 a3 (absI p), upV a3 (absI p)) := F19_eq (hA 1 (by decide)) ap
          have s1 : [AV.d (DV.v (Value.int IntKind.i64 a0)), AV.d (DV.v (Value.int IntKind.i64 a1)), AV.d (DV.v (Value.int IntKind.i64 (upU a2 a3 (absI p)))), AV.d (DV.v (Value.int IntKind.i64 (upV a3 (absI p)))), AV.d (DV.v (Value.int IntKind.i64 a4)), AV.d (DV.v (Value.int IntKind.i64 a5)), AV.d (DV.v (Value.int IntKind.i64 a6)), AV.d (DV.v (Value.int IntKind.i64 a7)), AV.d (DV.v (Value.int IntKind.i64 a8)), AV.d (DV.v (Value.int IntKind.i64 a9)), AV.d (DV.v (Value.int IntKind.i64 a10)), AV.d (DV.v (Value.int IntKind.i64 a11))] = (updL [a0, a1, a2, a3, a4, a5, a6, a7, a8, a9, a10, a11] 1 (absI p)).map aI := rfl
          have hc : cyc [a0, a1, a2, a3, a4, a5, a6, a7, a8, a9, a10, a11] p q = (updL [a0, a1, a2, a3, a4, a5, a6, a7, a8, a9, a10, a11] 1 (absI p)) := by unfold cyc sideN; rw [if_pos hq0]; simp only [hp0, if_true, if_false]
          rw [hc] at ih ⊢
          simp only [B6, sem_br, sem_ask, sem_triv, sem_sees, sem_nxt, sem_bind_some, PC.holds, need_true, need_of hin, Int.toNat_natCast, Nat.mul_one, Nat.zero_add, t4, hs, h1, h1', h2, hin, wn_map, lW, lU, row4F lW, row4F lU, dF_F, hF, List.length_map, Int.natCast_nonneg, Int.le_refl, Nat.le_refl, ip, decide_true, if_true, if_false, decide_false, Bool.false_eq_true, hp0, f1, s1, celA_aI, refK_aI, hqb, stepO_nxt]
          exact ih.2 _ _ _ _ _ _ _ _ _ _ _ _ _ _ _ _ _ _ _ _ _ _ _ _ _ _ _ _ _ _ _ _ rfl
        · skip
          have f1 : F19 a0 a1 (if -p > p then -p else p) = some (upU a0 a1 (absI p), upV a1 (absI p)) := F19_eq (hA 0 (by decide)) ap
          have s1 : [AV.d (DV.v (Value.int IntKind.i64 (upU a0 a1 (absI p)))), AV.d (DV.v (Value.int IntKind.i64 (upV a1 (absI p)))), AV.d (DV.v (Value.int IntKind.i64 a2)), AV.d (DV.v (Value.int IntKind.i64 a3)), AV.d (DV.v (Value.int IntKind.i64 a4)), AV.d (DV.v (Value.int IntKind.i64 a5)), AV.d (DV.v (Value.int IntKind.i64 a6)), AV.d (DV.v (Value.int IntKind.i64 a7)), AV.d (DV.v (Value.int IntKind.i64 a8)), AV.d (DV.v (Value.int IntKind.i64 a9)), AV.d (DV.v (Value.int IntKind.i64 a10)), AV.d (DV.v (Value.int IntKind.i64 a11))] = (updL [a0, a1, a2, a3, a4, a5, a6, a7, a8, a9, a10, a11] 0 (absI p)).map aI := rfl
          have hc : cyc [a0, a1, a2, a3, a4, a5, a6, a7, a8, a9, a10, a11] p q = (updL [a0, a1, a2, a3, a4, a5, a6, a7, a8, a9, a10, a11] 0 (absI p)) := by unfold cyc sideN; rw [if_pos hq0]; simp only [hp0, if_true, if_false]
          rw [hc] at ih ⊢
          simp only [B6, sem_br, sem_ask, sem_triv, sem_sees, sem_nxt, sem_bind_some, PC.holds, need_true, need_of hin, Int.toNat_natCast, Nat.mul_one, Nat.zero_add, t4, hs, h1, h1', h2, hin, wn_map, lW, lU, row4F lW, row4F lU, dF_F, hF, List.length_map, Int.natCast_nonneg, Int.le_refl, Nat.le_refl, ip, decide_true, if_true, if_false, decide_false, Bool.false_eq_true, hp0, f1, s1, celA_aI, refK_aI, hqb, stepO_nxt]
          exact ih.2 _ _ _ _ _ _ _ _ _ _ _ _ _ _ _ _ _ _ _ _ _ _ _ _ _ _ _ _ _ _ _ _ rfl
      · have hqb : (q != 0) = true := by simpa using hq0
        by_cases hp0 : p < 0
        · skip
          have f1 : F19 a2 a3 (if -p > p then -p else p) = some (upU a2 a3 (absI p), upV a3 (absI p)) := F19_eq (hA 1 (by decide)) ap
          have s1 : [AV.d (DV.v (Value.int IntKind.i64 a0)), AV.d (DV.v (Value.int IntKind.i64 a1)), AV.d (DV.v (Value.int IntKind.i64 (upU a2 a3 (absI p)))), AV.d (DV.v (Value.int IntKind.i64 (upV a3 (absI p)))), AV.d (DV.v (Value.int IntKind.i64 a4)), AV.d (DV.v (Value.int IntKind.i64 a5)), AV.d (DV.v (Value.int IntKind.i64 a6)), AV.d (DV.v (Value.int IntKind.i64 a7)), AV.d (DV.v (Value.int IntKind.i64 a8)), AV.d (DV.v (Value.int IntKind.i64 a9)), AV.d (DV.v (Value.int IntKind.i64 a10)), AV.d (DV.v (Value.int IntKind.i64 a11))] = (updL [a0, a1, a2, a3, a4, a5, a6, a7, a8, a9, a10, a11] 1 (absI p)).map aI := rfl
          have l1 : (updL [a0, a1, a2, a3, a4, a5, a6, a7, a8, a9, a10, a11] 1 (absI p)).length = 12 := by rw [updL_len]; first | exact hL | rfl
          have o1 := updL_ok hA hL 1 (absI p)
          have f2 : F19 ((updL [a0, a1, a2, a3, a4, a5, a6, a7, a8, a9, a10, a11] 1 (absI p)).getD ((1 + qd p q) * 2) 0) ((updL [a0, a1, a2, a3, a4, a5, a6, a7, a8, a9, a10, a11] 1 (absI p)).getD ((1 + qd p q) * 2 + 1) 0) (if -q > q then -q else q) = some (upU ((updL [a0, a1, a2, a3, a4, a5, a6, a7, a8, a9, a10, a11] 1 (absI p)).getD ((1 + qd p q) * 2) 0) ((updL [a0, a1, a2, a3, a4, a5, a6, a7, a8, a9, a10, a11] 1 (absI p)).getD ((1 + qd p q) * 2 + 1) 0) (absI q), upV ((updL [a0, a1, a2, a3, a4, a5, a6, a7, a8, a9, a10, a11] 1 (absI p)).getD ((1 + qd p q) * 2 + 1) 0) (absI q)) := F19_eq (o1 (1 + qd p q) (by omega)) aq
          have s2 := spl_upd (A := (updL [a0, a1, a2, a3, a4, a5, a6, a7, a8, a9, a10, a11] 1 (absI p))) (k := 1 + qd p q) (absI q) (by rw [l1]; omega)
          have r2 := rowAI (A := (updL [a0, a1, a2, a3, a4, a5, a6, a7, a8, a9, a10, a11] 1 (absI p))) (i := (1 + qd p q) * 2) (by rw [l1]; omega)
          have hc : cyc [a0, a1, a2, a3, a4, a5, a6, a7, a8, a9, a10, a11] p q = updL (updL [a0, a1, a2, a3, a4, a5, a6, a7, a8, a9, a10, a11] 1 (absI p)) (1 + qd p q) (absI q) := by unfold cyc sideN; rw [if_neg hq0]; simp only [hp0, if_true, if_false]
          rw [hc] at ih ⊢
          simp only [B6, sem_br, sem_ask, sem_triv, sem_sees, sem_nxt, sem_bind_some, PC.holds, need_true, need_of hin, Int.toNat_natCast, Nat.mul_one, Nat.zero_add, t4, hs, h1, h1', h2, hin, wn_map, lW, lU, row4F lW, row4F lU, dF_F, hF, List.length_map, Int.natCast_nonneg, Int.le_refl, Nat.le_refl, ip, decide_true, if_true, if_false, decide_false, Bool.false_eq_true, hp0, f1, s1, celA_aI, refK_aI, l1, f2, s2, r2, F20_eq p q hq0, hqb, zero_toN, id1, ld0, ld6, ld12, iq, stepO_nxt]
          exact ih.1 ..
        · skip
          have f1 : F19 a0 a1 (if -p > p then -p else p) = some (upU a0 a1 (absI p), upV a1 (absI p)) := F19_eq (hA 0 (by decide)) ap
          have s1 : [AV.d (DV.v (Value.int IntKind.i64 (upU a0 a1 (absI p)))), AV.d (DV.v (Value.int IntKind.i64 (upV a1 (absI p)))), AV.d (DV.v (Value.int IntKind.i64 a2)), AV.d (DV.v (Value.int IntKind.i64 a3)), AV.d (DV.v (Value.int IntKind.i64 a4)), AV.d (DV.v (Value.int IntKind.i64 a5)), AV.d (DV.v (Value.int IntKind.i64 a6)), AV.d (DV.v (Value.int IntKind.i64 a7)), AV.d (DV.v (Value.int IntKind.i64 a8)), AV.d (DV.v (Value.int IntKind.i64 a9)), AV.d (DV.v (Value.int IntKind.i64 a10)), AV.d (DV.v (Value.int IntKind.i64 a11))] = (updL [a0, a1, a2, a3, a4, a5, a6, a7, a8, a9, a10, a11] 0 (absI p)).map aI := rfl
          have l1 : (updL [a0, a1, a2, a3, a4, a5, a6, a7, a8, a9, a10, a11] 0 (absI p)).length = 12 := by rw [updL_len]; first | exact hL | rfl
          have o1 := updL_ok hA hL 0 (absI p)
          have f2 : F19 ((updL [a0, a1, a2, a3, a4, a5, a6, a7, a8, a9, a10, a11] 0 (absI p)).getD ((1 + qd p q) * 2) 0) ((updL [a0, a1, a2, a3, a4, a5, a6, a7, a8, a9, a10, a11] 0 (absI p)).getD ((1 + qd p q) * 2 + 1) 0) (if -q > q then -q else q) = some (upU ((updL [a0, a1, a2, a3, a4, a5, a6, a7, a8, a9, a10, a11] 0 (absI p)).getD ((1 + qd p q) * 2) 0) ((updL [a0, a1, a2, a3, a4, a5, a6, a7, a8, a9, a10, a11] 0 (absI p)).getD ((1 + qd p q) * 2 + 1) 0) (absI q), upV ((updL [a0, a1, a2, a3, a4, a5, a6, a7, a8, a9, a10, a11] 0 (absI p)).getD ((1 + qd p q) * 2 + 1) 0) (absI q)) := F19_eq (o1 (1 + qd p q) (by omega)) aq
          have s2 := spl_upd (A := (updL [a0, a1, a2, a3, a4, a5, a6, a7, a8, a9, a10, a11] 0 (absI p))) (k := 1 + qd p q) (absI q) (by rw [l1]; omega)
          have r2 := rowAI (A := (updL [a0, a1, a2, a3, a4, a5, a6, a7, a8, a9, a10, a11] 0 (absI p))) (i := (1 + qd p q) * 2) (by rw [l1]; omega)
          have hc : cyc [a0, a1, a2, a3, a4, a5, a6, a7, a8, a9, a10, a11] p q = updL (updL [a0, a1, a2, a3, a4, a5, a6, a7, a8, a9, a10, a11] 0 (absI p)) (1 + qd p q) (absI q) := by unfold cyc sideN; rw [if_neg hq0]; simp only [hp0, if_true, if_false]
          rw [hc] at ih ⊢
          simp only [B6, sem_br, sem_ask, sem_triv, sem_sees, sem_nxt, sem_bind_some, PC.holds, need_true, need_of hin, Int.toNat_natCast, Nat.mul_one, Nat.zero_add, t4, hs, h1, h1', h2, hin, wn_map, lW, lU, row4F lW, row4F lU, dF_F, hF, List.length_map, Int.natCast_nonneg, Int.le_refl, Nat.le_refl, ip, decide_true, if_true, if_false, decide_false, Bool.false_eq_true, hp0, f1, s1, celA_aI, refK_aI, l1, f2, s2, r2, F20_eq p q hq0, hqb, zero_toN, id1, ld0, ld6, ld12, iq, stepO_nxt]
          exact ih.1 ..
end
end Go.Kv
