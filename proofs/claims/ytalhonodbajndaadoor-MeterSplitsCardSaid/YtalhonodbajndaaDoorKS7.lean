/- The law's rounds over the cycles, and its end, in plain Lean. -/
import Derived.Test.YtalhonodbajndaaDoorKS6
import Derived.Test.YtalhonodbajndaaDoorGD3
import Derived.Test.YtalhonodbajndaaDoorKL
namespace Go.Kv
set_option linter.unusedVariables false
set_option linter.unusedSimpArgs false
open Go Go.RowKit
set_option maxRecDepth 100000
def e8 (x : X8) : List DV := [.v (.int .i8 x.1), .v (.int .i8 x.2.1), .v (.int .i8 x.2.2.1), .v (.int .i8 x.2.2.2.1), .v (.int .i8 x.2.2.2.2.1), .v (.int .i8 x.2.2.2.2.2.1), .v (.int .i8 x.2.2.2.2.2.2.1), .v (.int .i8 x.2.2.2.2.2.2.2)]
theorem e8_len (x : X8) : (e8 x).length = 8 := rfl
def okX8 (x : X8) : Prop := (-128 ≤ x.1 ∧ x.1 ≤ 127) ∧ (-128 ≤ x.2.1 ∧ x.2.1 ≤ 127) ∧ (-128 ≤ x.2.2.1 ∧ x.2.2.1 ≤ 127) ∧ (-128 ≤ x.2.2.2.1 ∧ x.2.2.2.1 ≤ 127) ∧ (-128 ≤ x.2.2.2.2.1 ∧ x.2.2.2.2.1 ≤ 127) ∧ (-128 ≤ x.2.2.2.2.2.1 ∧ x.2.2.2.2.2.1 ≤ 127) ∧ (-128 ≤ x.2.2.2.2.2.2.1 ∧ x.2.2.2.2.2.2.1 ≤ 127) ∧ (-128 ≤ x.2.2.2.2.2.2.2 ∧ x.2.2.2.2.2.2.2 ≤ 127)
theorem m32w {n : Int} (h : -128 ≤ n ∧ n ≤ 127) : (IntKind.i64.wrap n).tmod 32 = m32 n := by rw [wrap_in (by unfold inI64; omega)]; rfl
structure At8 (l : List DV) (i : Nat) (x : X8) : Prop where
  c0 : (IntKind.i64.wrap (dI (cel l (i * 8)))).tmod 32 = m32 x.1
  c1 : (IntKind.i64.wrap (dI (cel l (i * 8 + 1)))).tmod 32 = m32 x.2.1
  c2 : (IntKind.i64.wrap (dI (cel l (i * 8 + 2)))).tmod 32 = m32 x.2.2.1
  c3 : (IntKind.i64.wrap (dI (cel l (i * 8 + 3)))).tmod 32 = m32 x.2.2.2.1
  c4 : (IntKind.i64.wrap (dI (cel l (i * 8 + 4)))).tmod 32 = m32 x.2.2.2.2.1
  c5 : (IntKind.i64.wrap (dI (cel l (i * 8 + 5)))).tmod 32 = m32 x.2.2.2.2.2.1
  c6 : (IntKind.i64.wrap (dI (cel l (i * 8 + 6)))).tmod 32 = m32 x.2.2.2.2.2.2.1
  c7 : (IntKind.i64.wrap (dI (cel l (i * 8 + 7)))).tmod 32 = m32 x.2.2.2.2.2.2.2
  r1 : i * 8 ≤ l.length
  r2 : 8 ≤ (l.drop (i * 8)).length
  t : List.map AV.d (List.take 8 (List.drop (i * 8) l)) = [AV.d (DV.v (Value.int IntKind.i8 (dI (cel l (i * 8))))), AV.d (DV.v (Value.int IntKind.i8 (dI (cel l (i * 8 + 1))))), AV.d (DV.v (Value.int IntKind.i8 (dI (cel l (i * 8 + 2))))), AV.d (DV.v (Value.int IntKind.i8 (dI (cel l (i * 8 + 3))))), AV.d (DV.v (Value.int IntKind.i8 (dI (cel l (i * 8 + 4))))), AV.d (DV.v (Value.int IntKind.i8 (dI (cel l (i * 8 + 5))))), AV.d (DV.v (Value.int IntKind.i8 (dI (cel l (i * 8 + 6))))), AV.d (DV.v (Value.int IntKind.i8 (dI (cel l (i * 8 + 7)))))]
theorem at8 {X : List X8} {i : Nat} (hi : i < X.length) (ok : okX8 X[i]) : At8 (X.flatMap e8) i X[i] := by
  have hk (k : Nat) (h : k < 8) := fm_cel (enc := e8) e8_len hi h
  obtain ⟨r1, r2⟩ := fm_room (enc := e8) e8_len hi
  obtain ⟨o0, o1, o2, o3, o4, o5, o6, o7⟩ := ok
  have d0 : dI (cel (X.flatMap e8) (i * 8)) = X[i].1 := by have := hk 0 (by decide); rw [Nat.add_zero] at this; rw [this]; rfl
  have d1 : dI (cel (X.flatMap e8) (i * 8 + 1)) = X[i].2.1 := by rw [hk 1 (by decide)]; rfl
  have d2 : dI (cel (X.flatMap e8) (i * 8 + 2)) = X[i].2.2.1 := by rw [hk 2 (by decide)]; rfl
  have d3 : dI (cel (X.flatMap e8) (i * 8 + 3)) = X[i].2.2.2.1 := by rw [hk 3 (by decide)]; rfl
  have d4 : dI (cel (X.flatMap e8) (i * 8 + 4)) = X[i].2.2.2.2.1 := by rw [hk 4 (by decide)]; rfl
  have d5 : dI (cel (X.flatMap e8) (i * 8 + 5)) = X[i].2.2.2.2.2.1 := by rw [hk 5 (by decide)]; rfl
  have d6 : dI (cel (X.flatMap e8) (i * 8 + 6)) = X[i].2.2.2.2.2.2.1 := by rw [hk 6 (by decide)]; rfl
  have d7 : dI (cel (X.flatMap e8) (i * 8 + 7)) = X[i].2.2.2.2.2.2.2 := by rw [hk 7 (by decide)]; rfl
  refine ⟨by rw [d0]; exact m32w o0, by rw [d1]; exact m32w o1, by rw [d2]; exact m32w o2, by rw [d3]; exact m32w o3, by rw [d4]; exact m32w o4, by rw [d5]; exact m32w o5, by rw [d6]; exact m32w o6, by rw [d7]; exact m32w o7, r1, r2, ?_⟩
  rw [fm_at e8_len hi, d0, d1, d2, d3, d4, d5, d6, d7]; rfl
theorem mulB {a b : Int} (ha : -31 ≤ a ∧ a ≤ 31) (hb : -31 ≤ b ∧ b ≤ 31) : -246016 ≤ 256 * a * b ∧ 256 * a * b ≤ 246016 := by
  have h1 : (a * b).natAbs ≤ 31 * 31 := by rw [Int.natAbs_mul]; exact Nat.mul_le_mul (by omega) (by omega)
  rw [Int.mul_assoc]
  omega
structure Sm (a0 a1 a2 a3 b0 b1 b2 b3 : Int) : Prop where
  n0 : inI64 (-b0)
  n1 : inI64 (-b1)
  n2 : inI64 (-b2)
  n3 : inI64 (-b3)
  s0 : inI64 (256 * a0)
  s1 : inI64 (256 * a1)
  s2 : inI64 (256 * a2)
  s3 : inI64 (256 * a3)
  p0 : inI64 (256 * a0 * b0)
  q0 : inI64 (256 * a3 * b0)
  p1 : inI64 (256 * a1 * b1)
  q1 : inI64 (256 * a0 * b1)
  p2 : inI64 (256 * a2 * b2)
  q2 : inI64 (256 * a1 * b2)
  p3 : inI64 (256 * a3 * b3)
  q3 : inI64 (256 * a2 * b3)
  u0 : inI64 (0 + 256 * a0 * b0)
  v0 : inI64 (0 + 256 * a3 * b0)
  u1 : inI64 (0 + 256 * a0 * b0 + 256 * a1 * b1)
  v1 : inI64 (0 + 256 * a3 * b0 + 256 * a0 * b1)
  u2 : inI64 (0 + 256 * a0 * b0 + 256 * a1 * b1 + 256 * a2 * b2)
  v2 : inI64 (0 + 256 * a3 * b0 + 256 * a0 * b1 + 256 * a1 * b2)
  u3 : inI64 (0 + 256 * a0 * b0 + 256 * a1 * b1 + 256 * a2 * b2 + 256 * a3 * b3)
  v3 : inI64 (0 + 256 * a3 * b0 + 256 * a0 * b1 + 256 * a1 * b2 + 256 * a2 * b3)
theorem sm {a0 a1 a2 a3 b0 b1 b2 b3 : Int} (ha0 : -31 ≤ a0 ∧ a0 ≤ 31) (ha1 : -31 ≤ a1 ∧ a1 ≤ 31) (ha2 : -31 ≤ a2 ∧ a2 ≤ 31) (ha3 : -31 ≤ a3 ∧ a3 ≤ 31) (hb0 : -31 ≤ b0 ∧ b0 ≤ 31) (hb1 : -31 ≤ b1 ∧ b1 ≤ 31) (hb2 : -31 ≤ b2 ∧ b2 ≤ 31) (hb3 : -31 ≤ b3 ∧ b3 ≤ 31) : Sm a0 a1 a2 a3 b0 b1 b2 b3 := by
  have x0 := mulB ha0 hb0
  have y0 := mulB ha3 hb0
  have x1 := mulB ha1 hb1
  have y1 := mulB ha0 hb1
  have x2 := mulB ha2 hb2
  have y2 := mulB ha1 hb2
  have x3 := mulB ha3 hb3
  have y3 := mulB ha2 hb3
  constructor <;> (unfold inI64; omega)
theorem m256 (a b : Int) : 16 * a * (16 * b) = 256 * a * b := by rw [Int.mul_assoc, Int.mul_left_comm a 16 b, Int.mul_assoc 256]; omega
theorem act_eq (x : X8) : 0 + 256 * m32 x.1 * m32 x.2.2.2.2.1 + 256 * m32 x.2.1 * m32 x.2.2.2.2.2.1 + 256 * m32 x.2.2.1 * m32 x.2.2.2.2.2.2.1 + 256 * m32 x.2.2.2.1 * m32 x.2.2.2.2.2.2.2 = pX x := by
  have : pX x = 0 + 16 * m32 x.1 * (16 * m32 x.2.2.2.2.1) + 16 * m32 x.2.1 * (16 * m32 x.2.2.2.2.2.1) + 16 * m32 x.2.2.1 * (16 * m32 x.2.2.2.2.2.2.1) + 16 * m32 x.2.2.2.1 * (16 * m32 x.2.2.2.2.2.2.2) := rfl
  rw [this, m256, m256, m256, m256]
theorem rea_eq (x : X8) : 0 + 256 * m32 x.2.2.2.1 * m32 x.2.2.2.2.1 + 256 * m32 x.1 * m32 x.2.2.2.2.2.1 + 256 * m32 x.2.1 * m32 x.2.2.2.2.2.2.1 + 256 * m32 x.2.2.1 * m32 x.2.2.2.2.2.2.2 = qX x := by
  have : qX x = 0 + 16 * m32 x.2.2.2.1 * (16 * m32 x.2.2.2.2.1) + 16 * m32 x.1 * (16 * m32 x.2.2.2.2.2.1) + 16 * m32 x.2.1 * (16 * m32 x.2.2.2.2.2.2.1) + 16 * m32 x.2.2.1 * (16 * m32 x.2.2.2.2.2.2.2) := rfl
  rw [this, m256, m256, m256, m256]
theorem smX (x : X8) : Sm (m32 x.1) (m32 x.2.1) (m32 x.2.2.1) (m32 x.2.2.2.1) (m32 x.2.2.2.2.1) (m32 x.2.2.2.2.2.1) (m32 x.2.2.2.2.2.2.1) (m32 x.2.2.2.2.2.2.2) := sm (m32_bd _) (m32_bd _) (m32_bd _) (m32_bd _) (m32_bd _) (m32_bd _) (m32_bd _) (m32_bd _)
theorem F7_t : F7 = some true := rfl
def rowF (f : X8 → List Int) (X : List X8) (h : Nat) : List DV := ((X.take h).flatMap f).map vF
theorem row_step {f : X8 → List Int} {X : List X8} {h : Nat} (hh : h < X.length) {a b c d : Int} (e : f X[h] = [a, b, c, d]) : rowF f X h ++ [vF a] ++ [vF b] ++ [vF c] ++ [vF d] = rowF f X (h + 1) := by
  unfold rowF
  rw [List.take_succ_eq_append_getElem hh, List.flatMap_append, List.map_append, List.flatMap_cons, List.flatMap_nil, List.append_nil, e]
  simp only [List.map_cons, List.map_nil, List.append_assoc, List.cons_append, List.nil_append]
theorem bF {p : Int} (h : p ≠ 0) : (p == 0) = false := by simp [h]
section
variable {X : List X8} {cut m0 m1 m2 m3 m4 m5 m6 m7 m8 m9 m10 m11 : Int} {S O : List Int} {h n t t1 t2 : Nat} {V I M : List DV}
theorem c4_zero (hh : h < X.length) (ok : okX8 X[h]) (hn : n ≤ 40) (hz : pX X[h] = 0 ∨ qX X[h] = 0) : res B3 (.c4 X.length (X.flatMap e8) cut t n V t1 n I t2 n M (X.length : Int) (h : Int) m0 m1 m2 m3 m4 m5 m6 m7 m8 m9 m10 m11 (aiL S) (aiL O) t t1 t2) = some true := by
  have a := at8 hh ok
  have s := smX X[h]
  have ac := act_eq X[h]
  have re := rea_eq X[h]
  have pb : inI64 (pX X[h]) := by have := (pqX_bd X[h]).1; unfold absI at this; unfold inI64; split at this <;> omega
  have qb : inI64 (qX X[h]) := by have := (pqX_bd X[h]).2; unfold absI at this; unfold inI64; split at this <;> omega
  have hlt : (h : Int) < (X.length : Int) := by omega
  have f1 : fitsN (n + 1) 4 := by unfold fitsN; omega
  have f2 : fitsN (n + 1 + 1) 4 := by unfold fitsN; omega
  have f3 : fitsN (n + 1 + 1 + 1) 4 := by unfold fitsN; omega
  have f4 : fitsN (n + 1 + 1 + 1 + 1) 4 := by unfold fitsN; omega
  have hc : (if (pX X[h] == 0) = true then true else qX X[h] == 0) = true := by
    rcases hz with e | e
    · rw [e]; rfl
    · rw [e]; split <;> rfl
  rw [res_eq]
  simp only [B3, hlt, Int.toNat_natCast, Int.natCast_nonneg, a.r1, a.r2, a.t, f1, f2, f3, f4, a.c0, a.c1, a.c2, a.c3, a.c4, a.c5, a.c6, a.c7, s.n0, s.n1, s.n2, s.n3, s.s0, s.s1, s.s2, s.s3, s.p0, s.q0, s.p1, s.q1, s.p2, s.q2, s.p3, s.q3, s.u0, s.v0, s.u1, s.v1, s.u2, s.v2, s.u3, s.v3, ac, re, pb, qb, hc, F7_t, sem_br, sem_ask, sem_triv, sem_sees, sem_nxt, sem_ret, sem_bind_some, PC.holds, need_true, decide_true, decide_false, if_true, if_false, Bool.false_eq_true, stepO_nxt, stepO_ret]
theorem c4_go (hh : h < X.length) (ok : okX8 X[h]) (hn : n ≤ 40) (hp : pX X[h] ≠ 0) (hq : qX X[h] ≠ 0) : res B3 (.c4 X.length (X.flatMap e8) cut t n V t1 n I t2 n M (X.length : Int) (h : Int) m0 m1 m2 m3 m4 m5 m6 m7 m8 m9 m10 m11 (aiL S) (aiL O) t t1 t2) = res B3 (.c5 X.length (X.flatMap e8) cut (t + 1 + 1 + 1 + 1) (n + 1 + 1 + 1 + 1) (V ++ [vF (m32 X[h].1)] ++ [vF (m32 X[h].2.1)] ++ [vF (m32 X[h].2.2.1)] ++ [vF (m32 X[h].2.2.2.1)]) (t1 + 1 + 1 + 1 + 1) (n + 1 + 1 + 1 + 1) (I ++ [vF (m32 X[h].2.2.2.2.1)] ++ [vF (m32 X[h].2.2.2.2.2.1)] ++ [vF (m32 X[h].2.2.2.2.2.2.1)] ++ [vF (m32 X[h].2.2.2.2.2.2.2)]) (t2 + 1 + 1 + 1 + 1) (n + 1 + 1 + 1 + 1) (M ++ [vF (-m32 X[h].2.2.2.2.1)] ++ [vF (-m32 X[h].2.2.2.2.2.1)] ++ [vF (-m32 X[h].2.2.2.2.2.2.1)] ++ [vF (-m32 X[h].2.2.2.2.2.2.2)]) (pX X[h]) (qX X[h]) ((sideN (pX X[h]) : Nat) : Int) ((sw (sideN (pX X[h])) : Nat) : Int) (X.length : Int) (h : Int) m0 m1 m2 m3 m4 m5 m6 m7 m8 m9 m10 m11 (aiL S) (aiL O) (t + 1 + 1 + 1 + 1) (t1 + 1 + 1 + 1 + 1) (t2 + 1 + 1 + 1 + 1)) := by
  have a := at8 hh ok
  have s := smX X[h]
  have ac := act_eq X[h]
  have re := rea_eq X[h]
  have pb : inI64 (pX X[h]) := by have := (pqX_bd X[h]).1; unfold absI at this; unfold inI64; split at this <;> omega
  have qb : inI64 (qX X[h]) := by have := (pqX_bd X[h]).2; unfold absI at this; unfold inI64; split at this <;> omega
  have hlt : (h : Int) < (X.length : Int) := by omega
  have f1 : fitsN (n + 1) 4 := by unfold fitsN; omega
  have f2 : fitsN (n + 1 + 1) 4 := by unfold fitsN; omega
  have f3 : fitsN (n + 1 + 1 + 1) 4 := by unfold fitsN; omega
  have f4 : fitsN (n + 1 + 1 + 1 + 1) 4 := by unfold fitsN; omega
  have b1 := bF hp
  have b2 := bF hq
  have rf (L : List Int) : refK 10 (ABlk.cells (aiL L) 30) = true := aiL_refK 10 30 L
  rw [res_eq]
  by_cases hneg : pX X[h] < 0
  · have e1 : sideN (pX X[h]) = 1 := if_pos hneg
    rw [e1]
    simp only [B3, hlt, Int.toNat_natCast, Int.natCast_nonneg, a.r1, a.r2, a.t, f1, f2, f3, f4, a.c0, a.c1, a.c2, a.c3, a.c4, a.c5, a.c6, a.c7, s.n0, s.n1, s.n2, s.n3, s.s0, s.s1, s.s2, s.s3, s.p0, s.q0, s.p1, s.q1, s.p2, s.q2, s.p3, s.q3, s.u0, s.v0, s.u1, s.v1, s.u2, s.v2, s.u3, s.v3, ac, re, pb, qb, b1, b2, rf, hneg, sem_br, sem_ask, sem_triv, sem_sees, sem_nxt, sem_ret, sem_bind_some, PC.holds, need_true, decide_true, decide_false, if_true, if_false, Bool.false_eq_true, stepO_nxt, stepO_ret]
    rfl
  · have e1 : sideN (pX X[h]) = 0 := if_neg hneg
    rw [e1]
    simp only [B3, hlt, Int.toNat_natCast, Int.natCast_nonneg, a.r1, a.r2, a.t, f1, f2, f3, f4, a.c0, a.c1, a.c2, a.c3, a.c4, a.c5, a.c6, a.c7, s.n0, s.n1, s.n2, s.n3, s.s0, s.s1, s.s2, s.s3, s.p0, s.q0, s.p1, s.q1, s.p2, s.q2, s.p3, s.q3, s.u0, s.v0, s.u1, s.v1, s.u2, s.v2, s.u3, s.v3, ac, re, pb, qb, b1, b2, rf, hneg, sem_br, sem_ask, sem_triv, sem_sees, sem_nxt, sem_ret, sem_bind_some, PC.holds, need_true, decide_true, decide_false, if_true, if_false, Bool.false_eq_true, stepO_nxt, stepO_ret]
    rfl
/-- The first quadrant branch. -/
theorem here_eq (p q : Int) : 1 + qd p q = (if p < 0 then (if q > 0 then 3 else if q = 0 then 3 else 4) else (if q < 0 then 5 else 2)) := by
  unfold qd
  by_cases h1 : p < 0
  · rw [if_neg (by omega), if_pos h1]
    by_cases h2 : q > 0
    · rw [if_pos (by omega), if_pos h2]
    · by_cases h3 : q = 0
      · rw [if_pos (by omega), if_neg h2, if_pos h3]
      · rw [if_neg (by omega), if_neg h2, if_neg h3]
  · rw [if_pos (by omega), if_neg h1]
    by_cases h2 : q < 0
    · rw [if_neg (by omega), if_pos h2]
    · rw [if_pos (by omega), if_neg h2]
theorem c5_go {p q : Int} (hp : absI p ≤ 20000000000) (hq : q ≠ 0) (hl : S.length = 6) (hm : O.length = 6) (hS : ∀ j, j < 6 → (0 ≤ S.getD j 0 ∧ S.getD j 0 ≤ 1000000000000) ∧ (0 ≤ O.getD j 0 ∧ O.getD j 0 ≤ 1000000000000)) : res B3 (.c5 X.length (X.flatMap e8) cut t n V t1 n I t2 n M p q ((sideN p : Nat) : Int) ((sw (sideN p) : Nat) : Int) (X.length : Int) (h : Int) m0 m1 m2 m3 m4 m5 m6 m7 m8 m9 m10 m11 (aiL S) (aiL O) t t1 t2) = res B3 (.c3 X.length (X.flatMap e8) cut t n V t1 n I t2 n M q ((1 + qd p q : Nat) : Int) (X.length : Int) (h : Int) m0 m1 m2 m3 m4 m5 m6 m7 m8 m9 m10 m11 (aiL (addAt S (sideN p) (absI p))) (aiL (addAt O (sw (sideN p)) (absI p))) t t1 t2) := by
  have k1 : sideN p < 6 := by rcases side_cases p with e | e <;> omega
  have k2 : sw (sideN p) < 6 := by rcases side_cases p with e | e <;> rw [e] <;> decide
  generalize e1 : sideN p = k at *
  generalize e2 : sw k = k' at *
  have a1 := absI_nn p
  obtain ⟨s1, s2⟩ := (hS k k1).1
  obtain ⟨s3, s4⟩ := (hS k' k2).2
  have hab : (if -p > p then -p else p) = absI p := rfl
  have l1 : ((k : Nat) : Int) < 6 := by omega
  have l2 : ((k' : Nat) : Int) < 6 := by omega
  have l3 : k + 1 ≤ 6 := by omega
  have l4 : k' + 1 ≤ 6 := by omega
  have g1 : (aiL S)[k]? = some (AV.d (DV.v (Value.int IntKind.i64 (S.getD k 0)))) := aiL_get (by omega)
  have g2 : (aiL O)[k']? = some (AV.d (DV.v (Value.int IntKind.i64 (O.getD k' 0)))) := aiL_get (by omega)
  have c1 : dI (celA (aiL S) k) = S.getD k 0 := aiL_cel (by omega)
  have c2 : dI (celA (aiL O) k') = O.getD k' 0 := aiL_cel (by omega)
  have i0 : inI64 (-p) := by have := hp; unfold absI at this; unfold inI64; split at this <;> omega
  have i1 : inI64 (S.getD k 0 + absI p) := by unfold inI64; omega
  have i2 : inI64 (O.getD k' 0 + absI p) := by unfold inI64; omega
  have sp1 : spliceA (aiL S) k [AV.d (DV.v (Value.int IntKind.i64 (S.getD k 0 + absI p)))] = aiL (addAt S k (absI p)) := aiL_splice (by omega) _
  have sp2 : spliceA (aiL O) k' [AV.d (DV.v (Value.int IntKind.i64 (O.getD k' 0 + absI p)))] = aiL (addAt O k' (absI p)) := aiL_splice (by omega) _
  have rf (L : List Int) : refK 10 (ABlk.cells (aiL L) 30) = true := aiL_refK 10 30 L
  have ln1 : (aiL S).length = 6 := by rw [aiL_len, hl]
  have ln2 : (aiL O).length = 6 := by rw [aiL_len, hm]
  rw [res_eq, here_eq]
  by_cases h1 : p < 0
  · by_cases h2 : q > 0
    · simp only [B3, h1, h2, Int.toNat_natCast, Int.natCast_nonneg, Nat.zero_add, Nat.mul_one, hab, l1, l2, l3, l4, g1, g2, c1, c2, i0, i1, i2, sp1, sp2, rf, ln1, ln2, sem_br, sem_ask, sem_triv, sem_sees, sem_nxt, sem_ret, sem_bind_some, PC.holds, need_true, decide_true, decide_false, if_true, if_false, Bool.false_eq_true, stepO_nxt, stepO_ret]
      rfl
    · simp only [B3, h1, h2, hq, Int.toNat_natCast, Int.natCast_nonneg, Nat.zero_add, Nat.mul_one, hab, l1, l2, l3, l4, g1, g2, c1, c2, i0, i1, i2, sp1, sp2, rf, ln1, ln2, sem_br, sem_ask, sem_triv, sem_sees, sem_nxt, sem_ret, sem_bind_some, PC.holds, need_true, decide_true, decide_false, if_true, if_false, Bool.false_eq_true, stepO_nxt, stepO_ret]
      rfl
  · by_cases h2 : q < 0
    · simp only [B3, h1, h2, Int.toNat_natCast, Int.natCast_nonneg, Nat.zero_add, Nat.mul_one, hab, l1, l2, l3, l4, g1, g2, c1, c2, i0, i1, i2, sp1, sp2, rf, ln1, ln2, sem_br, sem_ask, sem_triv, sem_sees, sem_nxt, sem_ret, sem_bind_some, PC.holds, need_true, decide_true, decide_false, if_true, if_false, Bool.false_eq_true, stepO_nxt, stepO_ret]
      rfl
    · simp only [B3, h1, h2, Int.toNat_natCast, Int.natCast_nonneg, Nat.zero_add, Nat.mul_one, hab, l1, l2, l3, l4, g1, g2, c1, c2, i0, i1, i2, sp1, sp2, rf, ln1, ln2, sem_br, sem_ask, sem_triv, sem_sees, sem_nxt, sem_ret, sem_bind_some, PC.holds, need_true, decide_true, decide_false, if_true, if_false, Bool.false_eq_true, stepO_nxt, stepO_ret]
      rfl
def zs : List Int := [0, 0, 0, 0, 0, 0]
theorem c2_go {p q : Int} (hp : absI p ≤ 20000000000) (hq : q ≠ 0) : res B3 (.c2 X.length (X.flatMap e8) cut V I M p q ((sideN p : Nat) : Int) ((sw (sideN p) : Nat) : Int) (X.length : Int) (h : Int) m0 m1 m2 m3 m4 m5 m6 m7 m8 m9 m10 m11) = res B3 (.c3 X.length (X.flatMap e8) cut 3 4 V 3 4 I 3 4 M q ((1 + qd p q : Nat) : Int) (X.length : Int) (h : Int) m0 m1 m2 m3 m4 m5 m6 m7 m8 m9 m10 m11 (aiL (addAt zs (sideN p) (absI p))) (aiL (addAt zs (sw (sideN p)) (absI p))) 3 3 3) := by
  obtain ⟨S, hSz⟩ : ∃ S, zs = S := ⟨_, rfl⟩
  have hz : [AV.d (DV.v (Value.int IntKind.i64 0)), AV.d (DV.v (Value.int IntKind.i64 0)), AV.d (DV.v (Value.int IntKind.i64 0)), AV.d (DV.v (Value.int IntKind.i64 0)), AV.d (DV.v (Value.int IntKind.i64 0)), AV.d (DV.v (Value.int IntKind.i64 0))] = aiL S := by rw [← hSz]; rfl
  have hl : S.length = 6 := by rw [← hSz]; rfl
  have hS : ∀ j, j < 6 → (0 ≤ S.getD j 0 ∧ S.getD j 0 ≤ 1000000000000) ∧ (0 ≤ S.getD j 0 ∧ S.getD j 0 ≤ 1000000000000) := by
    rw [← hSz]; intro j hj; match j, hj with | 0, _ => decide | 1, _ => decide | 2, _ => decide | 3, _ => decide | 4, _ => decide | 5, _ => decide
  rw [hSz]
  have k1 : sideN p < 6 := by rcases side_cases p with e | e <;> omega
  have k2 : sw (sideN p) < 6 := by rcases side_cases p with e | e <;> rw [e] <;> decide
  generalize e1 : sideN p = k at *
  generalize e2 : sw k = k' at *
  have a1 := absI_nn p
  obtain ⟨s1, s2⟩ := (hS k k1).1
  obtain ⟨s3, s4⟩ := (hS k' k2).2
  have hab : (if -p > p then -p else p) = absI p := rfl
  have l1 : ((k : Nat) : Int) < 6 := by omega
  have l2 : ((k' : Nat) : Int) < 6 := by omega
  have l3 : k + 1 ≤ 6 := by omega
  have l4 : k' + 1 ≤ 6 := by omega
  have g1 : (aiL S)[k]? = some (AV.d (DV.v (Value.int IntKind.i64 (S.getD k 0)))) := aiL_get (by omega)
  have g2 : (aiL S)[k']? = some (AV.d (DV.v (Value.int IntKind.i64 (S.getD k' 0)))) := aiL_get (by omega)
  have c1 : dI (celA (aiL S) k) = S.getD k 0 := aiL_cel (by omega)
  have c2 : dI (celA (aiL S) k') = S.getD k' 0 := aiL_cel (by omega)
  have i0 : inI64 (-p) := by have := hp; unfold absI at this; unfold inI64; split at this <;> omega
  have i1 : inI64 (S.getD k 0 + absI p) := by unfold inI64; omega
  have i2 : inI64 (S.getD k' 0 + absI p) := by unfold inI64; omega
  have sp1 : spliceA (aiL S) k [AV.d (DV.v (Value.int IntKind.i64 (S.getD k 0 + absI p)))] = aiL (addAt S k (absI p)) := aiL_splice (by omega) _
  have sp2 : spliceA (aiL S) k' [AV.d (DV.v (Value.int IntKind.i64 (S.getD k' 0 + absI p)))] = aiL (addAt S k' (absI p)) := aiL_splice (by omega) _
  have rf (L : List Int) : refK 10 (ABlk.cells (aiL L) 30) = true := aiL_refK 10 30 L
  have ln1 : (aiL S).length = 6 := by rw [aiL_len, hl]
  have ln2 : (aiL S).length = 6 := by rw [aiL_len, hl]
  rw [res_eq, here_eq]
  by_cases h1 : p < 0
  · by_cases h2 : q > 0
    · simp only [B3, hz, h1, h2, Int.toNat_natCast, Int.natCast_nonneg, Nat.zero_add, Nat.mul_one, hab, l1, l2, l3, l4, g1, g2, c1, c2, i0, i1, i2, sp1, sp2, rf, ln1, ln2, sem_br, sem_ask, sem_triv, sem_sees, sem_nxt, sem_ret, sem_bind_some, PC.holds, need_true, decide_true, decide_false, if_true, if_false, Bool.false_eq_true, stepO_nxt, stepO_ret]
      rfl
    · simp only [B3, hz, h1, h2, hq, Int.toNat_natCast, Int.natCast_nonneg, Nat.zero_add, Nat.mul_one, hab, l1, l2, l3, l4, g1, g2, c1, c2, i0, i1, i2, sp1, sp2, rf, ln1, ln2, sem_br, sem_ask, sem_triv, sem_sees, sem_nxt, sem_ret, sem_bind_some, PC.holds, need_true, decide_true, decide_false, if_true, if_false, Bool.false_eq_true, stepO_nxt, stepO_ret]
      rfl
  · by_cases h2 : q < 0
    · simp only [B3, hz, h1, h2, Int.toNat_natCast, Int.natCast_nonneg, Nat.zero_add, Nat.mul_one, hab, l1, l2, l3, l4, g1, g2, c1, c2, i0, i1, i2, sp1, sp2, rf, ln1, ln2, sem_br, sem_ask, sem_triv, sem_sees, sem_nxt, sem_ret, sem_bind_some, PC.holds, need_true, decide_true, decide_false, if_true, if_false, Bool.false_eq_true, stepO_nxt, stepO_ret]
      rfl
    · simp only [B3, hz, h1, h2, Int.toNat_natCast, Int.natCast_nonneg, Nat.zero_add, Nat.mul_one, hab, l1, l2, l3, l4, g1, g2, c1, c2, i0, i1, i2, sp1, sp2, rf, ln1, ln2, sem_br, sem_ask, sem_triv, sem_sees, sem_nxt, sem_ret, sem_bind_some, PC.holds, need_true, decide_true, decide_false, if_true, if_false, Bool.false_eq_true, stepO_nxt, stepO_ret]
      rfl
theorem c3_go {p q : Int} (hqb : absI q ≤ 20000000000) (hh : h ≤ 100) (hl : S.length = 6) (hm : O.length = 6) (hS : ∀ j, j < 6 → (0 ≤ S.getD j 0 ∧ S.getD j 0 ≤ 1000000000000) ∧ (0 ≤ O.getD j 0 ∧ O.getD j 0 ≤ 1000000000000)) : res B3 (.c3 X.length (X.flatMap e8) cut t n V t1 n I t2 n M q ((1 + qd p q : Nat) : Int) (X.length : Int) (h : Int) m0 m1 m2 m3 m4 m5 m6 m7 m8 m9 m10 m11 (aiL S) (aiL O) t t1 t2) = res B3 (.c4 X.length (X.flatMap e8) cut t n V t1 n I t2 n M (X.length : Int) ((h : Int) + 1) m0 m1 m2 m3 m4 m5 m6 m7 m8 m9 m10 m11 (aiL (addAt S (1 + qd p q) (absI q))) (aiL (addAt O (sw (1 + qd p q)) (absI q))) t t1 t2) := by
  have hw : (2 : Int) + (((1 + qd p q : Nat) : Int) - 2 + 2).tmod 4 = ((sw (1 + qd p q) : Nat) : Int) := by rcases qd_cases p q with e | e | e | e <;> rw [e] <;> decide
  have hw2 : inI64 (((1 + qd p q : Nat) : Int) - 2) ∧ inI64 (((1 + qd p q : Nat) : Int) - 2 + 2) := by have := qd_bd p q; unfold inI64; omega
  have k1 : 1 + qd p q < 6 := by have := qd_bd p q; omega
  have k2 : sw (1 + qd p q) < 6 := by rcases qd_cases p q with e | e | e | e <;> rw [e] <;> decide
  generalize e1 : 1 + qd p q = k at *
  generalize e2 : sw k = k' at *
  have a1 := absI_nn q
  obtain ⟨s1, s2⟩ := (hS k k1).1
  obtain ⟨s3, s4⟩ := (hS k' k2).2
  have hab : (if -q > q then -q else q) = absI q := rfl
  have l1 : ((k : Nat) : Int) < 6 := by omega
  have l2 : ((k' : Nat) : Int) < 6 := by omega
  have l3 : k + 1 ≤ 6 := by omega
  have l4 : k' + 1 ≤ 6 := by omega
  have g1 : (aiL S)[k]? = some (AV.d (DV.v (Value.int IntKind.i64 (S.getD k 0)))) := aiL_get (by omega)
  have g2 : (aiL O)[k']? = some (AV.d (DV.v (Value.int IntKind.i64 (O.getD k' 0)))) := aiL_get (by omega)
  have c1 : dI (celA (aiL S) k) = S.getD k 0 := aiL_cel (by omega)
  have c2 : dI (celA (aiL O) k') = O.getD k' 0 := aiL_cel (by omega)
  have i0 : inI64 (-q) := by have := hqb; unfold absI at this; unfold inI64; split at this <;> omega
  have i1 : inI64 (S.getD k 0 + absI q) := by unfold inI64; omega
  have i2 : inI64 (O.getD k' 0 + absI q) := by unfold inI64; omega
  have i3 : inI64 ((k' : Nat) : Int) := by unfold inI64; omega
  have i4 : inI64 ((h : Int) + 1) := by unfold inI64; omega
  have sp1 : spliceA (aiL S) k [AV.d (DV.v (Value.int IntKind.i64 (S.getD k 0 + absI q)))] = aiL (addAt S k (absI q)) := aiL_splice (by omega) _
  have sp2 : spliceA (aiL O) k' [AV.d (DV.v (Value.int IntKind.i64 (O.getD k' 0 + absI q)))] = aiL (addAt O k' (absI q)) := aiL_splice (by omega) _
  have rf (L : List Int) : refK 10 (ABlk.cells (aiL L) 30) = true := aiL_refK 10 30 L
  have ln1 : (aiL S).length = 6 := by rw [aiL_len, hl]
  have ln2 : (aiL O).length = 6 := by rw [aiL_len, hm]
  obtain ⟨w1, w2⟩ := hw2
  rw [res_eq]
  simp only [B3, hw, w1, w2, Int.toNat_natCast, Int.natCast_nonneg, Nat.zero_add, Nat.mul_one, hab, l1, l2, l3, l4, g1, g2, c1, c2, i0, i1, i2, i3, i4, sp1, sp2, rf, ln1, ln2, sem_br, sem_ask, sem_triv, sem_sees, sem_nxt, sem_ret, sem_bind_some, PC.holds, need_true, decide_true, decide_false, if_true, if_false, Bool.false_eq_true, stepO_nxt, stepO_ret]
end
end Go.Kv
