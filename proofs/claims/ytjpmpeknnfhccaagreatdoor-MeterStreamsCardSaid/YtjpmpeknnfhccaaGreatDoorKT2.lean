/- Streams that are taken apart, in plain Lean: the program's function. -/
import Derived.Test.YtjpmpeknnfhccaaGreatDoorKT1
namespace Go.Kv
set_option linter.unusedVariables false
set_option linter.unusedSimpArgs false
open Go Go.RowKit
set_option maxRecDepth 100000
theorem dI_B (S : List Int) (i : Nat) : dI (cel (S.map vB) i) = S.getD i 0 := by
  unfold cel
  simp only [List.getD_eq_getElem?_getD, List.getElem?_map]
  cases S[i]? <;> rfl
theorem at_mapB {S : List Int} {i : Nat} (h : i < S.length) : Option.map AV.d (List.drop i (S.map vB))[0]? = some (AV.d (DV.v (Value.int IntKind.u8 (S.getD i 0)))) := by
  simp [List.getElem?_drop, h, List.getD_eq_getElem?_getD]
theorem rowN {S : List Int} {n : Nat} (h : n ≤ S.length) : List.map AV.d (List.take n (S.map vB)) = (List.range n).map fun k => AV.d (vB (S.getD k 0)) := by
  apply List.ext_getElem
  · simp; omega
  · intro i h1 h2
    have hi : i < S.length := by simp at h1; omega
    simp [List.getD_eq_getElem?_getD, hi]
theorem row16 {S : List Int} (h : 16 ≤ S.length) : List.map AV.d (List.take 16 (S.map vB)) = [AV.d (DV.v (Value.int IntKind.u8 (S.getD 0 0))), AV.d (DV.v (Value.int IntKind.u8 (S.getD 1 0))), AV.d (DV.v (Value.int IntKind.u8 (S.getD 2 0))), AV.d (DV.v (Value.int IntKind.u8 (S.getD 3 0))), AV.d (DV.v (Value.int IntKind.u8 (S.getD 4 0))), AV.d (DV.v (Value.int IntKind.u8 (S.getD 5 0))), AV.d (DV.v (Value.int IntKind.u8 (S.getD 6 0))), AV.d (DV.v (Value.int IntKind.u8 (S.getD 7 0))), AV.d (DV.v (Value.int IntKind.u8 (S.getD 8 0))), AV.d (DV.v (Value.int IntKind.u8 (S.getD 9 0))), AV.d (DV.v (Value.int IntKind.u8 (S.getD 10 0))), AV.d (DV.v (Value.int IntKind.u8 (S.getD 11 0))), AV.d (DV.v (Value.int IntKind.u8 (S.getD 12 0))), AV.d (DV.v (Value.int IntKind.u8 (S.getD 13 0))), AV.d (DV.v (Value.int IntKind.u8 (S.getD 14 0))), AV.d (DV.v (Value.int IntKind.u8 (S.getD 15 0)))] := rowN h
theorem row8 {S : List Int} (h : 8 ≤ S.length) : List.map AV.d (List.take 8 (S.map vB)) = [AV.d (DV.v (Value.int IntKind.u8 (S.getD 0 0))), AV.d (DV.v (Value.int IntKind.u8 (S.getD 1 0))), AV.d (DV.v (Value.int IntKind.u8 (S.getD 2 0))), AV.d (DV.v (Value.int IntKind.u8 (S.getD 3 0))), AV.d (DV.v (Value.int IntKind.u8 (S.getD 4 0))), AV.d (DV.v (Value.int IntKind.u8 (S.getD 5 0))), AV.d (DV.v (Value.int IntKind.u8 (S.getD 6 0))), AV.d (DV.v (Value.int IntKind.u8 (S.getD 7 0)))] := rowN h
theorem isB_map (S : List Int) : (S.map vB).all isB = true := by
  induction S with
  | nil => rfl
  | cons x S ih => simp only [List.map_cons, List.all_cons, ih]; rfl
theorem bytes_getD {S : List Int} (h : ∀ b ∈ S, ByteI b) (i : Nat) : ByteI (S.getD i 0) := by
  rw [List.getD_eq_getElem?_getD]
  cases e : S[i]? with
  | none => exact ⟨by decide, by decide⟩
  | some x => exact h x (List.mem_of_getElem? e)
def entT (C : List Int) : E5 := (by4 (C.getD 0 0) (C.getD 1 0) (C.getD 2 0) (C.getD 3 0), by4 (C.getD 4 0) (C.getD 5 0) (C.getD 6 0) (C.getD 7 0), by3 (C.getD 8 0) (C.getD 9 0) (C.getD 10 0), by3 (C.getD 11 0) (C.getD 12 0) (C.getD 13 0), C.getD 14 0)
def errT (C : List Int) : Int := if C.getD 15 0 = 0 then entE (entT C) else 1
def unbT (C : List Int) : Int × Int × Int × Int × Int × Int := if errT C = 0 then ((entT C).1, (entT C).2.1, (entT C).2.2.1, (entT C).2.2.2.1, (entT C).2.2.2.2, 0) else (0, 0, 0, 0, 0, errT C)
theorem F16_T {C : List Int} (h : ∀ b ∈ C, ByteI b) : F16 (C.getD 0 0) (C.getD 1 0) (C.getD 2 0) (C.getD 3 0) (C.getD 4 0) (C.getD 5 0) (C.getD 6 0) (C.getD 7 0) (C.getD 8 0) (C.getD 9 0) (C.getD 10 0) (C.getD 11 0) (C.getD 12 0) (C.getD 13 0) (C.getD 14 0) (C.getD 15 0) = some (unbT C) :=
  F16_eq (bytes_getD h _) (bytes_getD h _) (bytes_getD h _) (bytes_getD h _) (bytes_getD h _) (bytes_getD h _) (bytes_getD h _) (bytes_getD h _) (bytes_getD h _) (bytes_getD h _) (bytes_getD h _) (bytes_getD h _) (bytes_getD h _) (bytes_getD h _) (bytes_getD h _)
theorem F53_T {C : List Int} (h : ∀ b ∈ C, ByteI b) : F53 (C.getD 0 0) (C.getD 1 0) (C.getD 2 0) (C.getD 3 0) (C.getD 4 0) (C.getD 5 0) (C.getD 6 0) (C.getD 7 0) (C.getD 8 0) (C.getD 9 0) (C.getD 10 0) (C.getD 11 0) (C.getD 12 0) (C.getD 13 0) (C.getD 14 0) (C.getD 15 0) = some (unbT C) :=
  F53_eq (bytes_getD h _) (bytes_getD h _) (bytes_getD h _) (bytes_getD h _) (bytes_getD h _) (bytes_getD h _) (bytes_getD h _) (bytes_getD h _) (bytes_getD h _) (bytes_getD h _) (bytes_getD h _) (bytes_getD h _) (bytes_getD h _) (bytes_getD h _) (bytes_getD h _)
theorem unbT_ok {C : List Int} (h : errT C = 0) : unbT C = ((entT C).1, (entT C).2.1, (entT C).2.2.1, (entT C).2.2.2.1, (entT C).2.2.2.2, 0) := if_pos h
theorem unbT_no {C : List Int} (h : errT C ≠ 0) : unbT C = (0, 0, 0, 0, 0, errT C) := if_neg h
theorem errT_ent {C : List Int} (h : errT C = 0) : entE (entT C) = 0 := by
  unfold errT at h
  split at h
  · exact h
  · contradiction
def ch (S : List Int) (i : Nat) : List Int := (S.drop (6 + 16 * i)).take 16
theorem ch_len {S : List Int} {n i : Nat} (hS : S.length = 14 + 16 * n) (hi : i < n) : (ch S i).length = 16 := by
  unfold ch; rw [List.length_take, List.length_drop]; omega
theorem ch_b {S : List Int} (h : ∀ b ∈ S, ByteI b) (i : Nat) : ∀ b ∈ ch S i, ByteI b := fun b hb => h b (List.mem_of_mem_drop (List.mem_of_mem_take hb))
def X2 (S : List Int) (n : Nat) : List DV := List.take (16 * n) (List.drop 6 (S.map vB))
theorem X2_len {S : List Int} {n : Nat} (hS : S.length = 14 + 16 * n) : (X2 S n).length = 16 * n := by
  unfold X2; rw [List.length_take, List.length_drop, List.length_map]; omega
theorem X2_ch {S : List Int} {n i : Nat} (hi : i < n) : List.take 16 (List.drop (16 * i) (X2 S n)) = (ch S i).map vB := by
  unfold X2 ch
  rw [List.drop_take, List.drop_drop, List.take_take, List.map_take, List.map_drop, show min 16 (16 * n - 16 * i) = 16 by omega]
def eq8 (a b : T8) : Bool := a.1 == b.1 && (a.2.1 == b.2.1 && (a.2.2.1 == b.2.2.1 && (a.2.2.2.1 == b.2.2.2.1 && (a.2.2.2.2.1 == b.2.2.2.2.1 && (a.2.2.2.2.2.1 == b.2.2.2.2.2.1 && (a.2.2.2.2.2.2.1 == b.2.2.2.2.2.2.1 && (a.2.2.2.2.2.2.2 == b.2.2.2.2.2.2.2 && true)))))))
def tlT (T : List Int) : T8 := (T.getD 0 0, T.getD 1 0, T.getD 2 0, T.getD 3 0, T.getD 4 0, T.getD 5 0, T.getD 6 0, T.getD 7 0)
def tl (S : List Int) (n : Nat) : List Int := (S.drop (6 + 16 * n)).take 8
theorem tl_map (S : List Int) (n : Nat) : List.take 8 (List.drop (6 + 16 * n) (S.map vB)) = (tl S n).map vB := by
  unfold tl; rw [List.map_take, List.map_drop]
theorem tl_len {S : List Int} {n : Nat} (hS : S.length = 14 + 16 * n) : (tl S n).length = 8 := by
  unfold tl; rw [List.length_take, List.length_drop]; omega
/-- What is found behind the blocks. -/
def fin (key : T8) (r : Int) (es : List E5) (t : T8) : Int := firstI [whenI (!eq8 (keyAt key es es.length) t) 27, profI r es]
def finO (r : Int) (es : List E5) (e : Int) : Int × Nat × List DV × Int := if e = 0 then (r, es.length, es.flatMap eE, 0) else (0, 0, [], e)
def unpF (key : T8) (r : Int) (S : List Int) (n : Nat) : Nat → Nat → List E5 → Int × Nat × List DV × Int
  | 0, _, es => finO r es (fin key r es (tlT (tl S n)))
  | m + 1, i, es => if errT (ch S i) = 0 then unpF key r S n m (i + 1) (es ++ [entT (ch S i)]) else (0, 0, [], errT (ch S i))
theorem F45_K {k : T8} (h : keyB k) {x : T15} (hd : ∀ b ∈ bD x, ByteI b) : F45 k.1 k.2.1 k.2.2.1 k.2.2.2.1 k.2.2.2.2.1 k.2.2.2.2.2.1 k.2.2.2.2.2.2.1 k.2.2.2.2.2.2.2 16 [DV.v (Value.int IntKind.u8 x.1), DV.v (Value.int IntKind.u8 x.2.1), DV.v (Value.int IntKind.u8 x.2.2.1), DV.v (Value.int IntKind.u8 x.2.2.2.1), DV.v (Value.int IntKind.u8 x.2.2.2.2.1), DV.v (Value.int IntKind.u8 x.2.2.2.2.2.1), DV.v (Value.int IntKind.u8 x.2.2.2.2.2.2.1), DV.v (Value.int IntKind.u8 x.2.2.2.2.2.2.2.1), DV.v (Value.int IntKind.u8 x.2.2.2.2.2.2.2.2.1), DV.v (Value.int IntKind.u8 x.2.2.2.2.2.2.2.2.2.1), DV.v (Value.int IntKind.u8 x.2.2.2.2.2.2.2.2.2.2.1), DV.v (Value.int IntKind.u8 x.2.2.2.2.2.2.2.2.2.2.2.1), DV.v (Value.int IntKind.u8 x.2.2.2.2.2.2.2.2.2.2.2.2.1), DV.v (Value.int IntKind.u8 x.2.2.2.2.2.2.2.2.2.2.2.2.2.1), DV.v (Value.int IntKind.u8 x.2.2.2.2.2.2.2.2.2.2.2.2.2.2), DV.v (Value.int IntKind.u8 0)] = some ((seal8 k (bD x)).1, (seal8 k (bD x)).2.1, (seal8 k (bD x)).2.2.1, (seal8 k (bD x)).2.2.2.1, (seal8 k (bD x)).2.2.2.2.1, (seal8 k (bD x)).2.2.2.2.2.1, (seal8 k (bD x)).2.2.2.2.2.2.1, (seal8 k (bD x)).2.2.2.2.2.2.2, 0) := by
  unfold F45; rw [res_eq]
  have h1 : ¬ (((16 : Nat) : Int) > 400000) := by decide
  simp only [B45, F82_K h hd, sem_br, sem_bind_some, sem_sees, sem_ret, h1, decide_false, Bool.false_eq_true, if_false, stepO_ret]
theorem at5_snoc (es : List E5) (x : E5) (j : Nat) (h : j < (es ++ [x]).length) : at5 (es ++ [x]) j = if j < es.length then at5 es j else x := by
  unfold at5
  rw [List.getD_eq_getElem?_getD]
  by_cases hj : j < es.length
  · rw [if_pos hj, List.getElem?_append_left hj, ← List.getD_eq_getElem?_getD]
  · have : j = es.length := by simp at h; omega
    subst this
    rw [if_neg hj]; simp
theorem ok_snoc {es : List E5} {x : E5} (h : ∀ j, j < es.length → entE (at5 es j) = 0) (hx : entE x = 0) : ∀ j, j < (es ++ [x]).length → entE (at5 (es ++ [x]) j) = 0 := by
  intro j hj
  rw [at5_snoc es x j hj]
  split
  · rename_i h1; exact h j h1
  · exact hx
section
variable {key : T8} {S : List Int} {n : Nat} {r : Int}
theorem toN (n : Nat) : (6 + 16 * (n : Int)).toNat = 6 + 16 * n := by omega

theorem fin_c3 (hS : S.length = 14 + 16 * n) (hn : n ≤ 255) (es : List E5) (hes : es.length ≤ 256) (k : T8) (e e' : Nat) (j0 j1 j2 j3 : Int) (j4 : Bool) (j5 : Int) (j6 : Bool) (j7 : Int) (j8 j9 : List DV) (j10 j11 j12 : Int) (j13 : List DV) (j14 : ByteArray) (j15 : Bool) (j16 : Int) (j17 : Bool) (j18 : Int) (j19 : Bool) (j20 : Int) (j21 j22 : List DV) (j23 : Int) (i0 : Int) (hk : k = keyAt key es es.length) :
    res B9 (.c3 S.length (S.map vB) (6 + 16 * (n : Int)) e es.length (es.flatMap eE) (es.length : Int) (es.length : Int) r key.1 key.2.1 key.2.2.1 key.2.2.2.1 key.2.2.2.2.1 key.2.2.2.2.2.1 key.2.2.2.2.2.2.1 key.2.2.2.2.2.2.2 j0 j1 j2 j3 j4 j5 j6 j7 j8 j9 j10 j11 j12 j13 j14 j15 j16 j17 j18 j19 j20 j21 j22 j23 (16 * n) (X2 S n) e' k.1 k.2.1 k.2.2.1 k.2.2.2.1 k.2.2.2.2.1 k.2.2.2.2.2.1 k.2.2.2.2.2.2.1 k.2.2.2.2.2.2.2) = some (finO r es (fin key r es (tlT (tl S n)))) := by
    have h8 : S.length - (6 + 16 * n) = 8 := by omega
    have hc1 : (0 : Int) ≤ 6 + 16 * (n : Int) := by omega
    have hc2 : 6 + 16 * (n : Int) ≤ (S.length : Int) := by omega
    have hTl : 8 ≤ (tl S n).length := by rw [tl_len hS]; exact Nat.le_refl 8
    have hc : (!(k.1 == (tl S n).getD 0 0 && (k.2.1 == (tl S n).getD 1 0 && (k.2.2.1 == (tl S n).getD 2 0 && (k.2.2.2.1 == (tl S n).getD 3 0 && (k.2.2.2.2.1 == (tl S n).getD 4 0 && (k.2.2.2.2.2.1 == (tl S n).getD 5 0 && (k.2.2.2.2.2.2.1 == (tl S n).getD 6 0 && (k.2.2.2.2.2.2.2 == (tl S n).getD 7 0 && true))))))))) = !eq8 k (tlT (tl S n)) := rfl
    have hf : firstI [whenI (!eq8 k (tlT (tl S n))) 27, profI r es] = fin key r es (tlT (tl S n)) := by rw [hk]; rfl
    rw [res_eq]
    simp only [B9, sem_br, sem_ask, sem_triv, sem_sees, sem_bind_some, sem_ret, PC.holds, need_true, Bool.false_eq_true, if_false, toN, Int.toNat_natCast, Nat.mul_one, h8, hc1, hc2, Int.le_refl, Nat.le_refl, List.length_map, tl_map, hTl, row8 hTl, dI_B, F43_eq, F42_2, F39_eq r es (show es.length ≤ 1000 by omega), Int.lt_irrefl, decide_false, hc, hf]
    unfold finO
    by_cases h0 : fin key r es (tlT (tl S n)) = 0
    · simp only [h0, bne_self_eq_false, Bool.false_eq_true, if_false, if_true, stepO_ret]
    · have h0' : (fin key r es (tlT (tl S n)) != 0) = true := by simpa using h0
      simp only [h0, h0', if_true, if_false, stepO_ret]
theorem F9_c3 (hS : S.length = 14 + 16 * n) (hn : n ≤ 255) (hkey : keyB key) (es : List E5) (hes : es.length ≤ 256) (hz : ∀ j, j < es.length → entE (at5 es j) = 0) (e e' : Nat) (j0 j1 j2 j3 : Int) (j4 : Bool) (j5 : Int) (j6 : Bool) (j7 : Int) (j8 j9 : List DV) (j10 j11 j12 : Int) (j13 : List DV) (j14 : ByteArray) (j15 : Bool) (j16 : Int) (j17 : Bool) (j18 : Int) (j19 : Bool) (j20 : Int) (j21 j22 : List DV) (j23 : Int) : ∀ (m i : Nat) (k : T8), es.length = i + m → k = keyAt key es i →
    res B9 (.c3 S.length (S.map vB) (6 + 16 * (n : Int)) e es.length (es.flatMap eE) (es.length : Int) (i : Int) r key.1 key.2.1 key.2.2.1 key.2.2.2.1 key.2.2.2.2.1 key.2.2.2.2.2.1 key.2.2.2.2.2.2.1 key.2.2.2.2.2.2.2 j0 j1 j2 j3 j4 j5 j6 j7 j8 j9 j10 j11 j12 j13 j14 j15 j16 j17 j18 j19 j20 j21 j22 j23 (16 * n) (X2 S n) e' k.1 k.2.1 k.2.2.1 k.2.2.2.1 k.2.2.2.2.1 k.2.2.2.2.2.1 k.2.2.2.2.2.2.1 k.2.2.2.2.2.2.2) = some (finO r es (fin key r es (tlT (tl S n))))
  | 0, i, k, hm, hk => by
    have : i = es.length := by omega
    subst this
    exact fin_c3 hS hn es hes k e e' j0 j1 j2 j3 j4 j5 j6 j7 j8 j9 j10 j11 j12 j13 j14 j15 j16 j17 j18 j19 j20 j21 j22 j23 0 hk
  | m + 1, i, k, hm, hk => by
    have hi : i < es.length := by omega
    have h1 : (i : Int) < (es.length : Int) := by omega
    have hb := keyAt_b hkey es i
    rw [← hk] at hb
    have ih := F9_c3 hS hn hkey es hes hz e e' j0 j1 j2 j3 j4 j5 j6 j7 j8 j9 j10 j11 j12 j13 j14 j15 j16 j17 j18 j19 j20 j21 j22 j23 m (i + 1) (seal8 k (bD (blkE (at5 es i)))) (by omega) (by rw [hk]; rfl)
    have hin : inI64 ((i : Int) + 1) := by unfold inI64; omega
    have A := ent_at hi
    rw [res_eq]
    simp only [B9, sem_br, sem_ask, sem_nxt, sem_triv, sem_sees, sem_ret, sem_bind_some, PC.holds, need_true, Int.toNat_natCast, A.c0, A.c1, A.c2, A.c3, A.c4, A.le, A.rm, A.row, map_eE, h1, decide_true, if_true, Int.natCast_nonneg, stepO_nxt, hin, F41_E (hz i hi), F45_K hb (bD_b _)]
    exact ih

theorem F9_c2 (hS : S.length = 14 + 16 * n) (hn : n ≤ 255) (hkey : keyB key) (hB : ∀ b ∈ S, ByteI b) (j0 j1 j2 j3 : Int) (j4 : Bool) (j5 : Int) (j6 : Bool) (j7 : Int) (j8 j9 : List DV) (j10 j11 j12 : Int) (j13 : List DV) (j14 : ByteArray) (j15 : Bool) (j16 : Int) (j17 : Bool) (j18 : Int) (j19 : Bool) (j20 : Int) (j21 j22 : List DV) (j23 : Int) : ∀ (m i e : Nat) (es : List E5), n = i + m → es.length = i → 0 < i → (∀ j, j < es.length → entE (at5 es j) = 0) →
    res B9 (.c2 ((16 * i : Nat) : Int) S.length (S.map vB) (6 + 16 * (n : Int)) key.1 key.2.1 key.2.2.1 key.2.2.2.1 key.2.2.2.2.1 key.2.2.2.2.2.1 key.2.2.2.2.2.2.1 key.2.2.2.2.2.2.2 r e es.length (es.flatMap eE) (16 * n) (X2 S n) j0 j1 j2 j3 j4 j5 j6 j7 j8 j9 j10 j11 j12 j13 j14 j15 j16 j17 j18 j19 j20 j21 j22 j23 e) = some (unpF key r S n m i es)
  | 0, i, e, es, hm, he, h0, hz => by
    have hi : i = n := by omega
    have h1 : ¬ (((16 * i : Nat) : Int) < ((16 * n : Nat) : Int)) := by omega
    have h2 : (es.length : Int) > 0 := by omega
    rw [res_eq]
    simp only [B9, sem_br, sem_nxt, h1, h2, decide_false, decide_true, Bool.false_eq_true, if_false, if_true, stepO_nxt]
    exact F9_c3 hS hn hkey es (by omega) hz e e j0 j1 j2 j3 j4 j5 j6 j7 j8 j9 j10 j11 j12 j13 j14 j15 j16 j17 j18 j19 j20 j21 j22 j23 es.length 0 key (by omega) rfl
  | m + 1, i, e, es, hm, he, h0, hz => by
    have hi : i < n := by omega
    have h1 : ((16 * i : Nat) : Int) < ((16 * n : Nat) : Int) := by omega
    have hc : ¬ (((16 * n - 16 * i : Nat) : Int) < 16) := by omega
    have h16 : (((16 * i : Nat) : Int) + 16).toNat = 16 * i + 16 := by omega
    have hs : 16 * i + 16 - 16 * i = 16 := by omega
    have hl0 : ((16 * i : Nat) : Int) ≤ ((16 * n : Nat) : Int) := by omega
    have hl1 : ((16 * i : Nat) : Int) ≤ ((16 * i : Nat) : Int) + 16 := by omega
    have hl2 : ((16 * i : Nat) : Int) + 16 ≤ ((16 * n : Nat) : Int) := by omega
    have hin : inI64 (((16 * i : Nat) : Int) + 16) := by unfold inI64; omega
    have hX := X2_len hS
    have hch := X2_ch (S := S) hi
    have hlen := ch_len hS hi
    have hlen' : 16 ≤ (ch S i).length := by omega
    have hF := F16_T (ch_b hB i)
    have hf : fitsN (es.length + 1) 40 := by unfold fitsN; omega
    rw [res_eq]
    simp only [B9, sem_br, sem_ask, sem_nxt, sem_triv, sem_sees, sem_ret, sem_bind_some, PC.holds, need_true, Int.toNat_natCast, Nat.mul_one, h1, hc, h16, hs, hl0, hl1, hl2, hin, hX, hch, hlen, row16 hlen', dI_B, List.length_map, decide_true, if_true, if_false, Int.natCast_nonneg, Int.le_refl, Nat.le_refl, hF, hf]
    unfold unpF
    by_cases hE : errT (ch S i) = 0
    · have ih := F9_c2 hS hn hkey hB j0 j1 j2 j3 j4 j5 j6 j7 j8 j9 j10 j11 j12 j13 j14 j15 j16 j17 j18 j19 j20 j21 j22 j23 m (i + 1) (e + 1) (es ++ [entT (ch S i)]) (by omega) (by simp; omega) (by omega) (ok_snoc hz (errT_ent hE))
      rw [if_pos hE, unbT_ok hE]
      simp only [bne_self_eq_false, Bool.false_eq_true, if_false, stepO_nxt]
      rw [← ih, List.flatMap_append, List.flatMap_singleton, List.length_append]
      rfl
    · rw [if_neg hE, unbT_no hE]
      have hE' : (errT (ch S i) != 0) = true := by simpa using hE
      simp only [hE', if_true, stepO_ret]
theorem F9_c1 (hS : S.length = 14 + 16 * n) (hn : n ≤ 255) (hkey : keyB key) (hB : ∀ b ∈ S, ByteI b) (j0 j1 j2 j3 : Int) (j4 : Bool) (j5 : Int) (j6 : Bool) (j7 : Int) (j8 j9 : List DV) (j10 j11 j12 : Int) (j13 : List DV) (j14 : ByteArray) (j15 : Bool) (j16 : Int) (j17 : Bool) (j18 : Int) (j19 : Bool) (j20 : Int) (j21 j22 : List DV) (j23 : Int) :
    res B9 (.c1 0 S.length (S.map vB) (6 + 16 * (n : Int)) key.1 key.2.1 key.2.2.1 key.2.2.2.1 key.2.2.2.2.1 key.2.2.2.2.2.1 key.2.2.2.2.2.2.1 key.2.2.2.2.2.2.2 r (16 * n) (X2 S n) j0 j1 j2 j3 j4 j5 j6 j7 j8 j9 j10 j11 j12 j13 j14 j15 j16 j17 j18 j19 j20 j21 j22 j23) = some (unpF key r S n n 0 []) := by
  rcases n with _ | m
  · have h1 : ¬ ((0 : Int) < ((16 * 0 : Nat) : Int)) := by decide
    have h8 : S.length - (6 + 16 * 0) = 8 := by omega
    have hc1 : (0 : Int) ≤ 6 + 16 * ((0 : Nat) : Int) := by omega
    have hc2 : 6 + 16 * ((0 : Nat) : Int) ≤ (S.length : Int) := by omega
    have hTl : 8 ≤ (tl S 0).length := by rw [tl_len hS]; exact Nat.le_refl 8
    have hc : (!(key.1 == (tl S 0).getD 0 0 && (key.2.1 == (tl S 0).getD 1 0 && (key.2.2.1 == (tl S 0).getD 2 0 && (key.2.2.2.1 == (tl S 0).getD 3 0 && (key.2.2.2.2.1 == (tl S 0).getD 4 0 && (key.2.2.2.2.2.1 == (tl S 0).getD 5 0 && (key.2.2.2.2.2.2.1 == (tl S 0).getD 6 0 && (key.2.2.2.2.2.2.2 == (tl S 0).getD 7 0 && true))))))))) = !eq8 key (tlT (tl S 0)) := rfl
    have hf : firstI [whenI (!eq8 key (tlT (tl S 0))) 27, profI r []] = fin key r [] (tlT (tl S 0)) := rfl
    have h39 := F39_eq r [] (by simp)
    simp only [List.length_nil, List.flatMap_nil] at h39
    rw [res_eq]
    simp only [B9, sem_br, sem_ask, sem_triv, sem_sees, sem_bind_some, sem_ret, PC.holds, need_true, Bool.false_eq_true, if_false, toN, Int.toNat_natCast, Nat.mul_one, h8, hc1, hc2, Int.le_refl, Nat.le_refl, List.length_map, tl_map S 0, hTl, row8 hTl, dI_B, F43_eq, F42_2, toN 0, h39, h1, decide_false, hc, hf]
    unfold unpF finO
    by_cases h0 : fin key r [] (tlT (tl S 0)) = 0
    · simp only [h0, bne_self_eq_false, Bool.false_eq_true, if_false, if_true, stepO_ret, List.length_nil, List.flatMap_nil]
    · have h0' : (fin key r [] (tlT (tl S 0)) != 0) = true := by simpa using h0
      simp only [h0, h0', if_true, if_false, stepO_ret]
  · generalize hnn : m + 1 = n at *
    have hi : 0 < n := by omega
    have ez : (0 : Int) = ((16 * 0 : Nat) : Int) := rfl
    rw [ez]
    generalize hii : (0 : Nat) = i at *
    have h1 : ((16 * i : Nat) : Int) < ((16 * n : Nat) : Int) := by omega
    have hc : ¬ (((16 * n - 16 * i : Nat) : Int) < 16) := by omega
    have h16 : (((16 * i : Nat) : Int) + 16).toNat = 16 * i + 16 := by omega
    have hs : 16 * i + 16 - 16 * i = 16 := by omega
    have hl0 : ((16 * i : Nat) : Int) ≤ ((16 * n : Nat) : Int) := by omega
    have hl1 : ((16 * i : Nat) : Int) ≤ ((16 * i : Nat) : Int) + 16 := by omega
    have hl2 : ((16 * i : Nat) : Int) + 16 ≤ ((16 * n : Nat) : Int) := by omega
    have hin : inI64 (((16 * i : Nat) : Int) + 16) := by unfold inI64; omega
    have hX := X2_len hS
    have hch := X2_ch (S := S) hi
    have hlen := ch_len hS hi
    have hlen' : 16 ≤ (ch S i).length := by omega
    have hF := F16_T (ch_b hB i)
    rw [res_eq]
    simp only [B9, sem_br, sem_ask, sem_nxt, sem_triv, sem_sees, sem_ret, sem_bind_some, PC.holds, need_true, Int.toNat_natCast, Nat.mul_one, h1, hc, h16, hs, hl0, hl1, hl2, hin, hX, hch, hlen, row16 hlen', dI_B, List.length_map, decide_true, if_true, if_false, Int.natCast_nonneg, Int.le_refl, Nat.le_refl, hF]
    rw [← hnn]
    unfold unpF
    rw [hnn]
    by_cases hE : errT (ch S i) = 0
    · have ih := F9_c2 hS hn hkey hB (r := r) j0 j1 j2 j3 j4 j5 j6 j7 j8 j9 j10 j11 j12 j13 j14 j15 j16 j17 j18 j19 j20 j21 j22 j23 m (i + 1) 0 [entT (ch S i)] (by omega) (by simp; omega) (by omega) (ok_snoc (es := []) (by simp) (errT_ent hE))
      rw [if_pos hE, unbT_ok hE]
      simp only [bne_self_eq_false, Bool.false_eq_true, if_false, stepO_nxt]
      rw [List.nil_append, ← ih]
      subst hii
      rfl
    · rw [if_neg hE, unbT_no hE]
      have hE' : (errT (ch S i) != 0) = true := by simpa using hE
      simp only [hE', if_true, stepO_ret]
end
end Go.Kv
