import Derived.Test.YtjpmpeknnfhccaaGreatDoorKM1
namespace Go.Kv
set_option linter.unusedVariables false
set_option linter.unusedSimpArgs false
open Go Go.RowKit Go.Proofs
set_option maxRecDepth 100000
section
open Go Go.RowKit
abbrev retT (k : T8) {α : Type} (f : Int → Int → Int → Int → Int → Int → Int → Int → α) : α := f k.1 k.2.1 k.2.2.1 k.2.2.2.1 k.2.2.2.2.1 k.2.2.2.2.2.1 k.2.2.2.2.2.2.1 k.2.2.2.2.2.2.2
theorem F40_eq {key : T8} (hkey : keyB key) (r : Int) (l : List E5) (hl : l.length ≤ 256) (hz : ∀ j, j < l.length → entE (at5 l j) = 0) : F40 key.1 key.2.1 key.2.2.1 key.2.2.2.1 key.2.2.2.2.1 key.2.2.2.2.2.1 key.2.2.2.2.2.2.1 key.2.2.2.2.2.2.2 r l.length (l.flatMap eE) = some (r, l.length, l.flatMap eE, keyAt key l l.length) := by
  unfold F40; rw [res_eq]
  by_cases h : l.length = 0
  · have h1 : ¬ ((l.length : Int) > 0) := by omega
    have h2 : keyAt key l l.length = key := by rw [h]; rfl
    simp only [B40, F57_eq hkey l hl hz, sem_bind_some, sem_sees, sem_br, sem_ret, h1, decide_false, Bool.false_eq_true, if_false, stepO_ret, h2]
  · obtain ⟨m, hm⟩ : ∃ m, l.length = m + 1 := ⟨l.length - 1, by omega⟩
    have h1 : (l.length : Int) > 0 := by omega
    have hs : ((l.length : Int) - 1) = (m : Int) := by omega
    have hin : inI64 (m : Int) := by unfold inI64; omega
    have hlt : (m : Int) < (l.length : Int) := by omega
    have hlen := outs_len key l l.length
    have A := k_at (l := outs key l l.length) (i := m) (by omega)
    rw [outs_at key l l.length m (by omega)] at A
    rw [show keyAt key l l.length = keyAt key l (m + 1) by rw [hm]]
    simp only [B40, F57_eq hkey l hl hz, sem_bind_some, sem_sees, sem_ask, sem_triv, sem_br, sem_ret, PC.holds, need_true, h1, hs, hin, hlt, decide_true, if_true, stepO_ret, Int.natCast_nonneg, Int.toNat_natCast, A.c0, A.c1, A.c2, A.c3, A.c4, A.c5, A.c6, A.c7, A.le, A.rm, A.row]
def hd6 (r : Int) (n : Int) : List DV := [vB 80, vB 82, vB 79, vB 70, vB (IntKind.u8.wrap r), vB (IntKind.u8.wrap n)]
def packL (r : Int) (key : T8) (l : List E5) : List DV := hd6 r l.length ++ l.flatMap eB ++ e8 (keyAt key l l.length)
theorem F7_c1 (r : Int) (k : T8) (l : List E5) (hl : l.length ≤ 256) (hz : ∀ j, j < l.length → entE (at5 l j) = 0) : ∀ (m i e : Nat), l.length = i + m →
    res B7 (.c1 e (6 + 16 * i) (hd6 r l.length ++ (l.take i).flatMap eB) l.length (l.flatMap eE) (l.length : Int) (i : Int) r k.1 k.2.1 k.2.2.1 k.2.2.2.1 k.2.2.2.2.1 k.2.2.2.2.2.1 k.2.2.2.2.2.2.1 k.2.2.2.2.2.2.2 e) = some (6 + 16 * l.length + 8, hd6 r l.length ++ l.flatMap eB ++ e8 k, 0)
  | 0, i, e, hk => by
    rw [res_eq]
    have : ¬ ((i : Int) < (l.length : Int)) := by omega
    have h2 : i = l.length := by omega
    subst h2
    have hf : fitsN (6 + 16 * l.length + 8) 1 := by unfold fitsN; omega
    simp only [B7, sem_br, sem_ask, sem_ret, PC.holds, need_true, this, hf, decide_false, Bool.false_eq_true, if_false, stepO_ret, List.take_length]
    rfl
  | m + 1, i, e, hk => by
    have hi : i < l.length := by omega
    have h1 : (i : Int) < (l.length : Int) := by omega
    have ih := F7_c1 r k l hl hz m (i + 1) (e + 16) (by omega)
    have hin : inI64 ((i : Int) + 1) := by unfold inI64; omega
    have hf : fitsN (6 + 16 * i + 16) 1 := by unfold fitsN; omega
    have A := ent_at hi
    rw [snocG hi, ← List.append_assoc] at ih
    rw [res_eq]
    simp only [B7, sem_br, sem_ask, sem_nxt, sem_triv, sem_sees, sem_ret, sem_bind_some, PC.holds, need_true, Int.toNat_natCast, Int.toNat_zero, A.c0, A.c1, A.c2, A.c3, A.c4, A.le, A.rm, A.row, map_eE, h1, decide_true, if_true, Int.natCast_nonneg, Int.le_refl, stepO_nxt, stepO_ret, hin, hf, F41_E (hz i hi)]
    exact ih
theorem F7_eq {key : T8} (hkey : keyB key) (r : Int) (l : List E5) (hl : l.length ≤ 256) : F7 key.1 key.2.1 key.2.2.1 key.2.2.2.1 key.2.2.2.2.1 key.2.2.2.2.2.1 key.2.2.2.2.2.2.1 key.2.2.2.2.2.2.2 r l.length (l.flatMap eE) =
    some (if profI r l = 0 then (6 + 16 * l.length + 8, packL r key l, 0) else (0, [], profI r l)) := by
  unfold F7; rw [res_eq]
  by_cases h : profI r l = 0
  · obtain ⟨_, _, hz⟩ := prof_zero h
    have hne : (profI r l != 0) = false := by simpa using h
    have e := F7_c1 r (keyAt key l l.length) l hl hz l.length 0 2 (by omega)
    simp only [B7, F39_eq r l (by omega), F40_eq hkey r l hl hz, sem_br, sem_bind_some, sem_sees, sem_nxt, hne, Bool.false_eq_true, if_false, stepO_nxt]
    rw [if_pos h]
    exact e
  · have hne : (profI r l != 0) = true := by simpa using h
    simp only [B7, F39_eq r l (by omega), sem_br, sem_bind_some, sem_sees, sem_ret, hne, if_true, stepO_ret]
    rw [if_neg h]
end
section
open Go Go.RowKit
theorem dI_B (S : List Int) (i : Nat) : dI (cel (S.map vB) i) = S.getD i 0 := by
  unfold cel
  simp only [List.getD_eq_getElem?_getD, List.getElem?_map]
  cases S[i]? <;> rfl
theorem at_mapB {S : List Int} {i : Nat} (h : i < S.length) : Option.map AV.d (List.drop i (S.map vB))[0]? = some (AV.d (DV.v (Value.int IntKind.u8 (S.getD i 0)))) := by
  simp [List.getElem?_drop, h, List.getD_eq_getElem?_getD]
theorem rowN {S : List Int} {n : Nat} (h : n ≤ S.length) : List.map AV.d (List.take n (S.map vB)) = (List.range n).map fun k => AV.d (vB (S.getD k 0)) := by
  apply List.ext_getElem
  · simp; omega
  · intro i h1 h2
    have hi : i < S.length := by simp at h1; omega
    simp [List.getD_eq_getElem?_getD, hi]
theorem row16 {S : List Int} (h : 16 ≤ S.length) : List.map AV.d (List.take 16 (S.map vB)) = [AV.d (DV.v (Value.int IntKind.u8 (S.getD 0 0))), AV.d (DV.v (Value.int IntKind.u8 (S.getD 1 0))), AV.d (DV.v (Value.int IntKind.u8 (S.getD 2 0))), AV.d (DV.v (Value.int IntKind.u8 (S.getD 3 0))), AV.d (DV.v (Value.int IntKind.u8 (S.getD 4 0))), AV.d (DV.v (Value.int IntKind.u8 (S.getD 5 0))), AV.d (DV.v (Value.int IntKind.u8 (S.getD 6 0))), AV.d (DV.v (Value.int IntKind.u8 (S.getD 7 0))), AV.d (DV.v (Value.int IntKind.u8 (S.getD 8 0))), AV.d (DV.v (Value.int IntKind.u8 (S.getD 9 0))), AV.d (DV.v (Value.int IntKind.u8 (S.getD 10 0))), AV.d (DV.v (Value.int IntKind.u8 (S.getD 11 0))), AV.d (DV.v (Value.int IntKind.u8 (S.getD 12 0))), AV.d (DV.v (Value.int IntKind.u8 (S.getD 13 0))), AV.d (DV.v (Value.int IntKind.u8 (S.getD 14 0))), AV.d (DV.v (Value.int IntKind.u8 (S.getD 15 0)))] := rowN h
theorem row8 {S : List Int} (h : 8 ≤ S.length) : List.map AV.d (List.take 8 (S.map vB)) = [AV.d (DV.v (Value.int IntKind.u8 (S.getD 0 0))), AV.d (DV.v (Value.int IntKind.u8 (S.getD 1 0))), AV.d (DV.v (Value.int IntKind.u8 (S.getD 2 0))), AV.d (DV.v (Value.int IntKind.u8 (S.getD 3 0))), AV.d (DV.v (Value.int IntKind.u8 (S.getD 4 0))), AV.d (DV.v (Value.int IntKind.u8 (S.getD 5 0))), AV.d (DV.v (Value.int IntKind.u8 (S.getD 6 0))), AV.d (DV.v (Value.int IntKind.u8 (S.getD 7 0)))] := rowN h
theorem isB_map (S : List Int) : (S.map vB).all isB = true := by
  induction S with
  | nil => rfl
  | cons x S ih => simp only [List.map_cons, List.all_cons, ih]; rfl
theorem bytes_getD {S : List Int} (h : ∀ b ∈ S, ByteI b) (i : Nat) : ByteI (S.getD i 0) := by
  rw [List.getD_eq_getElem?_getD]
  cases e : S[i]? with
  | none => exact ⟨by decide, by decide⟩
  | some x => exact h x (List.mem_of_getElem? e)
def entT (C : List Int) : E5 := (by4 (C.getD 0 0) (C.getD 1 0) (C.getD 2 0) (C.getD 3 0), by4 (C.getD 4 0) (C.getD 5 0) (C.getD 6 0) (C.getD 7 0), by3 (C.getD 8 0) (C.getD 9 0) (C.getD 10 0), by3 (C.getD 11 0) (C.getD 12 0) (C.getD 13 0), C.getD 14 0)
def errT (C : List Int) : Int := if C.getD 15 0 = 0 then entE (entT C) else 1
def unbT (C : List Int) : Int × Int × Int × Int × Int × Int := if errT C = 0 then ((entT C).1, (entT C).2.1, (entT C).2.2.1, (entT C).2.2.2.1, (entT C).2.2.2.2, 0) else (0, 0, 0, 0, 0, errT C)
theorem F16_T {C : List Int} (h : ∀ b ∈ C, ByteI b) : F16 (C.getD 0 0) (C.getD 1 0) (C.getD 2 0) (C.getD 3 0) (C.getD 4 0) (C.getD 5 0) (C.getD 6 0) (C.getD 7 0) (C.getD 8 0) (C.getD 9 0) (C.getD 10 0) (C.getD 11 0) (C.getD 12 0) (C.getD 13 0) (C.getD 14 0) (C.getD 15 0) = some (unbT C) :=
  F16_eq (bytes_getD h _) (bytes_getD h _) (bytes_getD h _) (bytes_getD h _) (bytes_getD h _) (bytes_getD h _) (bytes_getD h _) (bytes_getD h _) (bytes_getD h _) (bytes_getD h _) (bytes_getD h _) (bytes_getD h _) (bytes_getD h _) (bytes_getD h _) (bytes_getD h _)
theorem unbT_ok {C : List Int} (h : errT C = 0) : unbT C = ((entT C).1, (entT C).2.1, (entT C).2.2.1, (entT C).2.2.2.1, (entT C).2.2.2.2, 0) := if_pos h
theorem unbT_no {C : List Int} (h : errT C ≠ 0) : unbT C = (0, 0, 0, 0, 0, errT C) := if_neg h
theorem errT_ent {C : List Int} (h : errT C = 0) : entE (entT C) = 0 := by
  unfold errT at h
  split at h
  · exact h
  · contradiction
def ch (S : List Int) (i : Nat) : List Int := (S.drop (6 + 16 * i)).take 16
theorem ch_len {S : List Int} {n i : Nat} (hS : S.length = 14 + 16 * n) (hi : i < n) : (ch S i).length = 16 := by
  unfold ch; rw [List.length_take, List.length_drop]; omega
theorem ch_b {S : List Int} (h : ∀ b ∈ S, ByteI b) (i : Nat) : ∀ b ∈ ch S i, ByteI b := fun b hb => h b (List.mem_of_mem_drop (List.mem_of_mem_take hb))
def X2 (S : List Int) (n : Nat) : List DV := List.take (16 * n) (List.drop 6 (S.map vB))
theorem X2_len {S : List Int} {n : Nat} (hS : S.length = 14 + 16 * n) : (X2 S n).length = 16 * n := by
  unfold X2; rw [List.length_take, List.length_drop, List.length_map]; omega
theorem X2_ch {S : List Int} {n i : Nat} (hi : i < n) : List.take 16 (List.drop (16 * i) (X2 S n)) = (ch S i).map vB := by
  unfold X2 ch
  rw [List.drop_take, List.drop_drop, List.take_take, List.map_take, List.map_drop, show min 16 (16 * n - 16 * i) = 16 by omega]
def eq8 (a b : T8) : Bool := a.1 == b.1 && (a.2.1 == b.2.1 && (a.2.2.1 == b.2.2.1 && (a.2.2.2.1 == b.2.2.2.1 && (a.2.2.2.2.1 == b.2.2.2.2.1 && (a.2.2.2.2.2.1 == b.2.2.2.2.2.1 && (a.2.2.2.2.2.2.1 == b.2.2.2.2.2.2.1 && (a.2.2.2.2.2.2.2 == b.2.2.2.2.2.2.2 && true)))))))
def tlT (T : List Int) : T8 := (T.getD 0 0, T.getD 1 0, T.getD 2 0, T.getD 3 0, T.getD 4 0, T.getD 5 0, T.getD 6 0, T.getD 7 0)
def tl (S : List Int) (n : Nat) : List Int := (S.drop (6 + 16 * n)).take 8
theorem tl_map (S : List Int) (n : Nat) : List.take 8 (List.drop (6 + 16 * n) (S.map vB)) = (tl S n).map vB := by
  unfold tl; rw [List.map_take, List.map_drop]
theorem tl_len {S : List Int} {n : Nat} (hS : S.length = 14 + 16 * n) : (tl S n).length = 8 := by
  unfold tl; rw [List.length_take, List.length_drop]; omega
def fin (key : T8) (r : Int) (es : List E5) (t : T8) : Int := firstI [whenI (!eq8 (keyAt key es es.length) t) 27, profI r es]
def finO (r : Int) (es : List E5) (e : Int) : Int × Nat × List DV × Int := if e = 0 then (r, es.length, es.flatMap eE, 0) else (0, 0, [], e)
def unpF (key : T8) (r : Int) (S : List Int) (n : Nat) : Nat → Nat → List E5 → Int × Nat × List DV × Int
  | 0, _, es => finO r es (fin key r es (tlT (tl S n)))
  | m + 1, i, es => if errT (ch S i) = 0 then unpF key r S n m (i + 1) (es ++ [entT (ch S i)]) else (0, 0, [], errT (ch S i))
theorem F45_K {k : T8} (h : keyB k) {x : T15} (hd : ∀ b ∈ bD x, ByteI b) : F45 k.1 k.2.1 k.2.2.1 k.2.2.2.1 k.2.2.2.2.1 k.2.2.2.2.2.1 k.2.2.2.2.2.2.1 k.2.2.2.2.2.2.2 16 [DV.v (Value.int IntKind.u8 x.1), DV.v (Value.int IntKind.u8 x.2.1), DV.v (Value.int IntKind.u8 x.2.2.1), DV.v (Value.int IntKind.u8 x.2.2.2.1), DV.v (Value.int IntKind.u8 x.2.2.2.2.1), DV.v (Value.int IntKind.u8 x.2.2.2.2.2.1), DV.v (Value.int IntKind.u8 x.2.2.2.2.2.2.1), DV.v (Value.int IntKind.u8 x.2.2.2.2.2.2.2.1), DV.v (Value.int IntKind.u8 x.2.2.2.2.2.2.2.2.1), DV.v (Value.int IntKind.u8 x.2.2.2.2.2.2.2.2.2.1), DV.v (Value.int IntKind.u8 x.2.2.2.2.2.2.2.2.2.2.1), DV.v (Value.int IntKind.u8 x.2.2.2.2.2.2.2.2.2.2.2.1), DV.v (Value.int IntKind.u8 x.2.2.2.2.2.2.2.2.2.2.2.2.1), DV.v (Value.int IntKind.u8 x.2.2.2.2.2.2.2.2.2.2.2.2.2.1), DV.v (Value.int IntKind.u8 x.2.2.2.2.2.2.2.2.2.2.2.2.2.2), DV.v (Value.int IntKind.u8 0)] = some ((seal8 k (bD x)).1, (seal8 k (bD x)).2.1, (seal8 k (bD x)).2.2.1, (seal8 k (bD x)).2.2.2.1, (seal8 k (bD x)).2.2.2.2.1, (seal8 k (bD x)).2.2.2.2.2.1, (seal8 k (bD x)).2.2.2.2.2.2.1, (seal8 k (bD x)).2.2.2.2.2.2.2, 0) := by
  unfold F45; rw [res_eq]
  have h1 : ¬ (((16 : Nat) : Int) > 400000) := by decide
  simp only [B45, F82_K h hd, sem_br, sem_bind_some, sem_sees, sem_ret, h1, decide_false, Bool.false_eq_true, if_false, stepO_ret]
theorem at5_snoc (es : List E5) (x : E5) (j : Nat) (h : j < (es ++ [x]).length) : at5 (es ++ [x]) j = if j < es.length then at5 es j else x := by
  unfold at5
  rw [List.getD_eq_getElem?_getD]
  by_cases hj : j < es.length
  · rw [if_pos hj, List.getElem?_append_left hj, ← List.getD_eq_getElem?_getD]
  · have : j = es.length := by simp at h; omega
    subst this
    rw [if_neg hj]; simp
theorem ok_snoc {es : List E5} {x : E5} (h : ∀ j, j < es.length → entE (at5 es j) = 0) (hx : entE x = 0) : ∀ j, j < (es ++ [x]).length → entE (at5 (es ++ [x]) j) = 0 := by
  intro j hj
  rw [at5_snoc es x j hj]
  split
  · rename_i h1; exact h j h1
  · exact hx
section
variable {key : T8} {S : List Int} {n : Nat} {r : Int}
theorem toN (n : Nat) : (6 + 16 * (n : Int)).toNat = 6 + 16 * n := by omega
theorem fin_c3 (hS : S.length = 14 + 16 * n) (hn : n ≤ 255) (es : List E5) (hes : es.length ≤ 256) (k : T8) (e e' : Nat) (j0 j1 j2 j3 : Int) (j4 : Bool) (j5 : Int) (j6 : Bool) (j7 : Int) (j8 j9 : List DV) (j10 j11 j12 : Int) (j13 : List DV) (j14 : ByteArray) (j15 : Bool) (j16 : Int) (j17 : Bool) (j18 : Int) (j19 : Bool) (j20 : Int) (j21 j22 : List DV) (j23 : Int) (i0 : Int) (hk : k = keyAt key es es.length) :
    res B9 (.c3 S.length (S.map vB) (6 + 16 * (n : Int)) e es.length (es.flatMap eE) (es.length : Int) (es.length : Int) r key.1 key.2.1 key.2.2.1 key.2.2.2.1 key.2.2.2.2.1 key.2.2.2.2.2.1 key.2.2.2.2.2.2.1 key.2.2.2.2.2.2.2 j0 j1 j2 j3 j4 j5 j6 j7 j8 j9 j10 j11 j12 j13 j14 j15 j16 j17 j18 j19 j20 j21 j22 j23 (16 * n) (X2 S n) e' k.1 k.2.1 k.2.2.1 k.2.2.2.1 k.2.2.2.2.1 k.2.2.2.2.2.1 k.2.2.2.2.2.2.1 k.2.2.2.2.2.2.2) = some (finO r es (fin key r es (tlT (tl S n)))) := by
    have h8 : S.length - (6 + 16 * n) = 8 := by omega
    have hc1 : (0 : Int) ≤ 6 + 16 * (n : Int) := by omega
    have hc2 : 6 + 16 * (n : Int) ≤ (S.length : Int) := by omega
    have hTl : 8 ≤ (tl S n).length := by rw [tl_len hS]; exact Nat.le_refl 8
    have hc : (!(k.1 == (tl S n).getD 0 0 && (k.2.1 == (tl S n).getD 1 0 && (k.2.2.1 == (tl S n).getD 2 0 && (k.2.2.2.1 == (tl S n).getD 3 0 && (k.2.2.2.2.1 == (tl S n).getD 4 0 && (k.2.2.2.2.2.1 == (tl S n).getD 5 0 && (k.2.2.2.2.2.2.1 == (tl S n).getD 6 0 && (k.2.2.2.2.2.2.2 == (tl S n).getD 7 0 && true))))))))) = !eq8 k (tlT (tl S n)) := rfl
    have hf : firstI [whenI (!eq8 k (tlT (tl S n))) 27, profI r es] = fin key r es (tlT (tl S n)) := by rw [hk]; rfl
    rw [res_eq]
    simp only [B9, sem_br, sem_ask, sem_triv, sem_sees, sem_bind_some, sem_ret, PC.holds, need_true, Bool.false_eq_true, if_false, toN, Int.toNat_natCast, Nat.mul_one, h8, hc1, hc2, Int.le_refl, Nat.le_refl, List.length_map, tl_map, hTl, row8 hTl, dI_B, F43_eq, F42_2, F39_eq r es (show es.length ≤ 1000 by omega), Int.lt_irrefl, decide_false, hc, hf]
    unfold finO
    by_cases h0 : fin key r es (tlT (tl S n)) = 0
    · simp only [h0, bne_self_eq_false, Bool.false_eq_true, if_false, if_true, stepO_ret]
    · have h0' : (fin key r es (tlT (tl S n)) != 0) = true := by simpa using h0
      simp only [h0, h0', if_true, if_false, stepO_ret]
theorem F9_c3 (hS : S.length = 14 + 16 * n) (hn : n ≤ 255) (hkey : keyB key) (es : List E5) (hes : es.length ≤ 256) (hz : ∀ j, j < es.length → entE (at5 es j) = 0) (e e' : Nat) (j0 j1 j2 j3 : Int) (j4 : Bool) (j5 : Int) (j6 : Bool) (j7 : Int) (j8 j9 : List DV) (j10 j11 j12 : Int) (j13 : List DV) (j14 : ByteArray) (j15 : Bool) (j16 : Int) (j17 : Bool) (j18 : Int) (j19 : Bool) (j20 : Int) (j21 j22 : List DV) (j23 : Int) : ∀ (m i : Nat) (k : T8), es.length = i + m → k = keyAt key es i →
    res B9 (.c3 S.length (S.map vB) (6 + 16 * (n : Int)) e es.length (es.flatMap eE) (es.length : Int) (i : Int) r key.1 key.2.1 key.2.2.1 key.2.2.2.1 key.2.2.2.2.1 key.2.2.2.2.2.1 key.2.2.2.2.2.2.1 key.2.2.2.2.2.2.2 j0 j1 j2 j3 j4 j5 j6 j7 j8 j9 j10 j11 j12 j13 j14 j15 j16 j17 j18 j19 j20 j21 j22 j23 (16 * n) (X2 S n) e' k.1 k.2.1 k.2.2.1 k.2.2.2.1 k.2.2.2.2.1 k.2.2.2.2.2.1 k.2.2.2.2.2.2.1 k.2.2.2.2.2.2.2) = some (finO r es (fin key r es (tlT (tl S n))))
  | 0, i, k, hm, hk => by
    have : i = es.length := by omega
    subst this
    exact fin_c3 hS hn es hes k e e' j0 j1 j2 j3 j4 j5 j6 j7 j8 j9 j10 j11 j12 j13 j14 j15 j16 j17 j18 j19 j20 j21 j22 j23 0 hk
  | m + 1, i, k, hm, hk => by
    have hi : i < es.length := by omega
    have h1 : (i : Int) < (es.length : Int) := by omega
    have hb := keyAt_b hkey es i
    rw [← hk] at hb
    have ih := F9_c3 hS hn hkey es hes hz e e' j0 j1 j2 j3 j4 j5 j6 j7 j8 j9 j10 j11 j12 j13 j14 j15 j16 j17 j18 j19 j20 j21 j22 j23 m (i + 1) (seal8 k (bD (blkE (at5 es i)))) (by omega) (by rw [hk]; rfl)
    have hin : inI64 ((i : Int) + 1) := by unfold inI64; omega
    have A := ent_at hi
    rw [res_eq]
    simp only [B9, sem_br, sem_ask, sem_nxt, sem_triv, sem_sees, sem_ret, sem_bind_some, PC.holds, need_true, Int.toNat_natCast, A.c0, A.c1, A.c2, A.c3, A.c4, A.le, A.rm, A.row, map_eE, h1, decide_true, if_true, Int.natCast_nonneg, stepO_nxt, hin, F41_E (hz i hi), F45_K hb (bD_b _)]
    exact ih
theorem F9_c2 (hS : S.length = 14 + 16 * n) (hn : n ≤ 255) (hkey : keyB key) (hB : ∀ b ∈ S, ByteI b) (j0 j1 j2 j3 : Int) (j4 : Bool) (j5 : Int) (j6 : Bool) (j7 : Int) (j8 j9 : List DV) (j10 j11 j12 : Int) (j13 : List DV) (j14 : ByteArray) (j15 : Bool) (j16 : Int) (j17 : Bool) (j18 : Int) (j19 : Bool) (j20 : Int) (j21 j22 : List DV) (j23 : Int) : ∀ (m i e : Nat) (es : List E5), n = i + m → es.length = i → 0 < i → (∀ j, j < es.length → entE (at5 es j) = 0) →
    res B9 (.c2 ((16 * i : Nat) : Int) S.length (S.map vB) (6 + 16 * (n : Int)) key.1 key.2.1 key.2.2.1 key.2.2.2.1 key.2.2.2.2.1 key.2.2.2.2.2.1 key.2.2.2.2.2.2.1 key.2.2.2.2.2.2.2 r e es.length (es.flatMap eE) (16 * n) (X2 S n) j0 j1 j2 j3 j4 j5 j6 j7 j8 j9 j10 j11 j12 j13 j14 j15 j16 j17 j18 j19 j20 j21 j22 j23 e) = some (unpF key r S n m i es)
  | 0, i, e, es, hm, he, h0, hz => by
    have hi : i = n := by omega
    have h1 : ¬ (((16 * i : Nat) : Int) < ((16 * n : Nat) : Int)) := by omega
    have h2 : (es.length : Int) > 0 := by omega
    rw [res_eq]
    simp only [B9, sem_br, sem_nxt, h1, h2, decide_false, decide_true, Bool.false_eq_true, if_false, if_true, stepO_nxt]
    exact F9_c3 hS hn hkey es (by omega) hz e e j0 j1 j2 j3 j4 j5 j6 j7 j8 j9 j10 j11 j12 j13 j14 j15 j16 j17 j18 j19 j20 j21 j22 j23 es.length 0 key (by omega) rfl
  | m + 1, i, e, es, hm, he, h0, hz => by
    have hi : i < n := by omega
    have h1 : ((16 * i : Nat) : Int) < ((16 * n : Nat) : Int) := by omega
    have hc : ¬ (((16 * n - 16 * i : Nat) : Int) < 16) := by omega
    have h16 : (((16 * i : Nat) : Int) + 16).toNat = 16 * i + 16 := by omega
    have hs : 16 * i + 16 - 16 * i = 16 := by omega
    have hl0 : ((16 * i : Nat) : Int) ≤ ((16 * n : Nat) : Int) := by omega
    have hl1 : ((16 * i : Nat) : Int) ≤ ((16 * i : Nat) : Int) + 16 := by omega
    have hl2 : ((16 * i : Nat) : Int) + 16 ≤ ((16 * n : Nat) : Int) := by omega
    have hin : inI64 (((16 * i : Nat) : Int) + 16) := by unfold inI64; omega
    have hX := X2_len hS
    have hch := X2_ch (S := S) hi
    have hlen := ch_len hS hi
    have hlen' : 16 ≤ (ch S i).length := by omega
    have hF := F16_T (ch_b hB i)
    have hf : fitsN (es.length + 1) 40 := by unfold fitsN; omega
    rw [res_eq]
    simp only [B9, sem_br, sem_ask, sem_nxt, sem_triv, sem_sees, sem_ret, sem_bind_some, PC.holds, need_true, Int.toNat_natCast, Nat.mul_one, h1, hc, h16, hs, hl0, hl1, hl2, hin, hX, hch, hlen, row16 hlen', dI_B, List.length_map, decide_true, if_true, if_false, Int.natCast_nonneg, Int.le_refl, Nat.le_refl, hF, hf]
    unfold unpF
    by_cases hE : errT (ch S i) = 0
    · have ih := F9_c2 hS hn hkey hB j0 j1 j2 j3 j4 j5 j6 j7 j8 j9 j10 j11 j12 j13 j14 j15 j16 j17 j18 j19 j20 j21 j22 j23 m (i + 1) (e + 1) (es ++ [entT (ch S i)]) (by omega) (by simp; omega) (by omega) (ok_snoc hz (errT_ent hE))
      rw [if_pos hE, unbT_ok hE]
      simp only [bne_self_eq_false, Bool.false_eq_true, if_false, stepO_nxt]
      rw [← ih, List.flatMap_append, List.flatMap_singleton, List.length_append]
      rfl
    · rw [if_neg hE, unbT_no hE]
      have hE' : (errT (ch S i) != 0) = true := by simpa using hE
      simp only [hE', if_true, stepO_ret]
theorem F9_c1 (hS : S.length = 14 + 16 * n) (hn : n ≤ 255) (hkey : keyB key) (hB : ∀ b ∈ S, ByteI b) (j0 j1 j2 j3 : Int) (j4 : Bool) (j5 : Int) (j6 : Bool) (j7 : Int) (j8 j9 : List DV) (j10 j11 j12 : Int) (j13 : List DV) (j14 : ByteArray) (j15 : Bool) (j16 : Int) (j17 : Bool) (j18 : Int) (j19 : Bool) (j20 : Int) (j21 j22 : List DV) (j23 : Int) :
    res B9 (.c1 0 S.length (S.map vB) (6 + 16 * (n : Int)) key.1 key.2.1 key.2.2.1 key.2.2.2.1 key.2.2.2.2.1 key.2.2.2.2.2.1 key.2.2.2.2.2.2.1 key.2.2.2.2.2.2.2 r (16 * n) (X2 S n) j0 j1 j2 j3 j4 j5 j6 j7 j8 j9 j10 j11 j12 j13 j14 j15 j16 j17 j18 j19 j20 j21 j22 j23) = some (unpF key r S n n 0 []) := by
  rcases n with _ | m
  · have h1 : ¬ ((0 : Int) < ((16 * 0 : Nat) : Int)) := by decide
    have h8 : S.length - (6 + 16 * 0) = 8 := by omega
    have hc1 : (0 : Int) ≤ 6 + 16 * ((0 : Nat) : Int) := by omega
    have hc2 : 6 + 16 * ((0 : Nat) : Int) ≤ (S.length : Int) := by omega
    have hTl : 8 ≤ (tl S 0).length := by rw [tl_len hS]; exact Nat.le_refl 8
    have hc : (!(key.1 == (tl S 0).getD 0 0 && (key.2.1 == (tl S 0).getD 1 0 && (key.2.2.1 == (tl S 0).getD 2 0 && (key.2.2.2.1 == (tl S 0).getD 3 0 && (key.2.2.2.2.1 == (tl S 0).getD 4 0 && (key.2.2.2.2.2.1 == (tl S 0).getD 5 0 && (key.2.2.2.2.2.2.1 == (tl S 0).getD 6 0 && (key.2.2.2.2.2.2.2 == (tl S 0).getD 7 0 && true))))))))) = !eq8 key (tlT (tl S 0)) := rfl
    have hf : firstI [whenI (!eq8 key (tlT (tl S 0))) 27, profI r []] = fin key r [] (tlT (tl S 0)) := rfl
    have h39 := F39_eq r [] (by simp)
    simp only [List.length_nil, List.flatMap_nil] at h39
    rw [res_eq]
    simp only [B9, sem_br, sem_ask, sem_triv, sem_sees, sem_bind_some, sem_ret, PC.holds, need_true, Bool.false_eq_true, if_false, toN, Int.toNat_natCast, Nat.mul_one, h8, hc1, hc2, Int.le_refl, Nat.le_refl, List.length_map, tl_map S 0, hTl, row8 hTl, dI_B, F43_eq, F42_2, toN 0, h39, h1, decide_false, hc, hf]
    unfold unpF finO
    by_cases h0 : fin key r [] (tlT (tl S 0)) = 0
    · simp only [h0, bne_self_eq_false, Bool.false_eq_true, if_false, if_true, stepO_ret, List.length_nil, List.flatMap_nil]
    · have h0' : (fin key r [] (tlT (tl S 0)) != 0) = true := by simpa using h0
      simp only [h0, h0', if_true, if_false, stepO_ret]
  · generalize hnn : m + 1 = n at *
    have hi : 0 < n := by omega
    have ez : (0 : Int) = ((16 * 0 : Nat) : Int) := rfl
    rw [ez]
    generalize hii : (0 : Nat) = i at *
    have h1 : ((16 * i : Nat) : Int) < ((16 * n : Nat) : Int) := by omega
    have hc : ¬ (((16 * n - 16 * i : Nat) : Int) < 16) := by omega
    have h16 : (((16 * i : Nat) : Int) + 16).toNat = 16 * i + 16 := by omega
    have hs : 16 * i + 16 - 16 * i = 16 := by omega
    have hl0 : ((16 * i : Nat) : Int) ≤ ((16 * n : Nat) : Int) := by omega
    have hl1 : ((16 * i : Nat) : Int) ≤ ((16 * i : Nat) : Int) + 16 := by omega
    have hl2 : ((16 * i : Nat) : Int) + 16 ≤ ((16 * n : Nat) : Int) := by omega
    have hin : inI64 (((16 * i : Nat) : Int) + 16) := by unfold inI64; omega
    have hX := X2_len hS
    have hch := X2_ch (S := S) hi
    have hlen := ch_len hS hi
    have hlen' : 16 ≤ (ch S i).length := by omega
    have hF := F16_T (ch_b hB i)
    rw [res_eq]
    simp only [B9, sem_br, sem_ask, sem_nxt, sem_triv, sem_sees, sem_ret, sem_bind_some, PC.holds, need_true, Int.toNat_natCast, Nat.mul_one, h1, hc, h16, hs, hl0, hl1, hl2, hin, hX, hch, hlen, row16 hlen', dI_B, List.length_map, decide_true, if_true, if_false, Int.natCast_nonneg, Int.le_refl, Nat.le_refl, hF]
    rw [← hnn]
    unfold unpF
    rw [hnn]
    by_cases hE : errT (ch S i) = 0
    · have ih := F9_c2 hS hn hkey hB (r := r) j0 j1 j2 j3 j4 j5 j6 j7 j8 j9 j10 j11 j12 j13 j14 j15 j16 j17 j18 j19 j20 j21 j22 j23 m (i + 1) 0 [entT (ch S i)] (by omega) (by simp; omega) (by omega) (ok_snoc (es := []) (by simp) (errT_ent hE))
      rw [if_pos hE, unbT_ok hE]
      simp only [bne_self_eq_false, Bool.false_eq_true, if_false, stepO_nxt]
      rw [List.nil_append, ← ih]
      subst hii
      rfl
    · rw [if_neg hE, unbT_no hE]
      have hE' : (errT (ch S i) != 0) = true := by simpa using hE
      simp only [hE', if_true, stepO_ret]
end
end
section
open Go Go.RowKit
theorem u8_beq {a b : Int} (ha : ByteI a) (hb : ByteI b) : (UInt8.ofNat a.toNat == UInt8.ofNat b.toNat) = (a == b) := by
  unfold ByteI at ha hb
  have e : ∀ x : Int, 0 ≤ x ∧ x ≤ 255 → (UInt8.ofNat x.toNat).toNat = x.toNat := fun x hx => by
    rw [UInt8.toNat_ofNat']; exact Nat.mod_eq_of_lt (by omega)
  rw [Bool.eq_iff_iff, beq_iff_eq, beq_iff_eq]
  constructor
  · intro h
    have := congrArg UInt8.toNat h
    rw [e a ha, e b hb] at this
    omega
  · intro h; rw [h]
theorem pushAll_list : ∀ (ns : List Int) (s : ByteArray), (pushAll ns s).toList = s.toList ++ ns.map fun n => UInt8.ofNat n.toNat
  | [], s => by simp [pushAll]
  | n :: ns, s => by
    rw [pushAll, pushAll_list ns, ByteArray.toList_eq, ByteArray.toList_eq]
    simp [ByteArray.push]
theorem eight {T : List Int} (h : T.length = 8) : T = [T.getD 0 0, T.getD 1 0, T.getD 2 0, T.getD 3 0, T.getD 4 0, T.getD 5 0, T.getD 6 0, T.getD 7 0] := by
  match T, h with
  | [a, b, c, d, e, f, g, i], _ => rfl
theorem byB_map (S : List Int) : (S.map vB).map byB = S := by
  rw [List.map_map]
  exact List.map_id'' (fun x => rfl) S
theorem str_eq8' {k : T8} (hk : keyB k) {t0 t1 t2 t3 t4 t5 t6 t7 : Int} (h0 : ByteI t0) (h1 : ByteI t1) (h2 : ByteI t2) (h3 : ByteI t3) (h4 : ByteI t4) (h5 : ByteI t5) (h6 : ByteI t6) (h7 : ByteI t7) : ((pushAll [k.1, k.2.1, k.2.2.1, k.2.2.2.1, k.2.2.2.2.1, k.2.2.2.2.2.1, k.2.2.2.2.2.2.1, k.2.2.2.2.2.2.2] ByteArray.empty).toList == (pushAll [t0, t1, t2, t3, t4, t5, t6, t7] ByteArray.empty).toList) = eq8 k (t0, t1, t2, t3, t4, t5, t6, t7) := by
  obtain ⟨g0, g1, g2, g3, g4, g5, g6, g7⟩ := hk
  rw [pushAll_list, pushAll_list]
  simp only [ByteArray.toList_empty, List.nil_append, List.map_cons, List.map_nil, List.cons_beq_cons, u8_beq g0 h0, u8_beq g1 h1, u8_beq g2 h2, u8_beq g3 h3, u8_beq g4 h4, u8_beq g5 h5, u8_beq g6 h6, u8_beq g7 h7]
  rfl
theorem str_eq8 {k : T8} (hk : keyB k) {T : List Int} (h : T.length = 8) (hb : ∀ b ∈ T, ByteI b) : ((pushAll [k.1, k.2.1, k.2.2.1, k.2.2.2.1, k.2.2.2.2.1, k.2.2.2.2.2.1, k.2.2.2.2.2.2.1, k.2.2.2.2.2.2.2] ByteArray.empty).toList == (pushAll T ByteArray.empty).toList) = eq8 k (tlT T) := by
  have e := str_eq8' hk (bytes_getD hb 0) (bytes_getD hb 1) (bytes_getD hb 2) (bytes_getD hb 3) (bytes_getD hb 4) (bytes_getD hb 5) (bytes_getD hb 6) (bytes_getD hb 7)
  rw [← eight h] at e
  exact e
theorem splA {L : List DV} (h : L.length = 16) : spliceA [AV.d (DV.v (Value.int IntKind.u8 0)), AV.d (DV.v (Value.int IntKind.u8 0)), AV.d (DV.v (Value.int IntKind.u8 0)), AV.d (DV.v (Value.int IntKind.u8 0)), AV.d (DV.v (Value.int IntKind.u8 0)), AV.d (DV.v (Value.int IntKind.u8 0)), AV.d (DV.v (Value.int IntKind.u8 0)), AV.d (DV.v (Value.int IntKind.u8 0)), AV.d (DV.v (Value.int IntKind.u8 0)), AV.d (DV.v (Value.int IntKind.u8 0)), AV.d (DV.v (Value.int IntKind.u8 0)), AV.d (DV.v (Value.int IntKind.u8 0)), AV.d (DV.v (Value.int IntKind.u8 0)), AV.d (DV.v (Value.int IntKind.u8 0)), AV.d (DV.v (Value.int IntKind.u8 0)), AV.d (DV.v (Value.int IntKind.u8 0))] 0 (List.map AV.d L) = List.map AV.d L := by
  unfold spliceA
  rw [List.take_zero, List.nil_append, List.length_map, h]
  simp
theorem celA_map (L : List DV) (k : Nat) : celA (List.map AV.d L) k = cel L k := by
  unfold celA cel
  simp only [List.getD_eq_getElem?_getD, List.getElem?_map]
  cases L[k]? <;> rfl
theorem rowA16 {S : List Int} (h : S.length = 16) : List.take 16 (List.map AV.d (S.map vB)) = [AV.d (DV.v (Value.int IntKind.u8 (S.getD 0 0))), AV.d (DV.v (Value.int IntKind.u8 (S.getD 1 0))), AV.d (DV.v (Value.int IntKind.u8 (S.getD 2 0))), AV.d (DV.v (Value.int IntKind.u8 (S.getD 3 0))), AV.d (DV.v (Value.int IntKind.u8 (S.getD 4 0))), AV.d (DV.v (Value.int IntKind.u8 (S.getD 5 0))), AV.d (DV.v (Value.int IntKind.u8 (S.getD 6 0))), AV.d (DV.v (Value.int IntKind.u8 (S.getD 7 0))), AV.d (DV.v (Value.int IntKind.u8 (S.getD 8 0))), AV.d (DV.v (Value.int IntKind.u8 (S.getD 9 0))), AV.d (DV.v (Value.int IntKind.u8 (S.getD 10 0))), AV.d (DV.v (Value.int IntKind.u8 (S.getD 11 0))), AV.d (DV.v (Value.int IntKind.u8 (S.getD 12 0))), AV.d (DV.v (Value.int IntKind.u8 (S.getD 13 0))), AV.d (DV.v (Value.int IntKind.u8 (S.getD 14 0))), AV.d (DV.v (Value.int IntKind.u8 (S.getD 15 0)))] := by
  rw [← List.map_take]; exact row16 (by omega)
section
variable {key : T8} {S : List Int} {n : Nat} {r : Int}
theorem chM (S : List Int) (i : Nat) : List.take 16 (List.drop (6 + 16 * i) (S.map vB)) = (ch S i).map vB := by
  unfold ch; rw [List.map_take, List.map_drop]
theorem chT {S : List Int} {i : Nat} (h : (ch S i).length = 16) : List.take 16 ((ch S i).map vB) = (ch S i).map vB := List.take_of_length_le (by rw [List.length_map]; omega)
end
end
section
open Go Go.RowKit
def IsO (m : Nat) (X : Int × Nat × List DV × Int) : Prop := ∃ (r : Int) (es : List E5) (e : Int), es.length ≤ m ∧ X = (r, es.length, es.flatMap eE, e)
theorem isO_err (m : Nat) (e : Int) : IsO m (0, 0, [], e) := ⟨0, [], e, Nat.zero_le _, rfl⟩
theorem finO_is (r : Int) (es : List E5) (e : Int) {m : Nat} (h : es.length ≤ m) : IsO m (finO r es e) := by
  unfold finO
  split
  · exact ⟨r, es, 0, h, rfl⟩
  · exact isO_err m e
theorem unpF_is (key : T8) (r : Int) (S : List Int) (n : Nat) : ∀ (m i : Nat) (es : List E5), IsO (es.length + m) (unpF key r S n m i es)
  | 0, i, es => finO_is r es _ (Nat.le_refl _)
  | m + 1, i, es => by
    unfold unpF
    split
    · have h := unpF_is key r S n m (i + 1) (es ++ [entT (ch S i)])
      rw [List.length_append] at h
      rw [show es.length + (m + 1) = es.length + [entT (ch S i)].length + m by simp; omega]
      exact h
    · exact isO_err _ _
theorem F14_eq (r : Int) (l : List E5) (hl : l.length ≤ 1000) : F14 r l.length (l.flatMap eE) = some (r, l.length, l.flatMap eE) := by
  unfold F14; rw [res_eq]
  simp only [B14, F30_eq l hl, sem_bind_some, sem_sees, sem_ret, stepO_ret]
theorem F13_eq (r : Int) (l : List E5) (hl : l.length ≤ 1000) : F13 r l.length (l.flatMap eE) r l.length (l.flatMap eE) = some true := by
  unfold F13; rw [res_eq]
  simp only [B13, F29_same l hl, sem_br, sem_bind_some, sem_sees, sem_triv, sem_ret, beq_self_eq_true, if_true, stepO_ret]
theorem pack_len (r : Int) (key : T8) (l : List E5) : (packL r key l).length = 6 + 16 * l.length + 8 := by
  unfold packL
  rw [List.length_append, List.length_append, fm_len eB_len]
  show 6 + l.length * 16 + 8 = _
  omega
theorem isB_eB (l : List E5) : (l.flatMap eB).all isB = true := by
  rw [List.all_flatMap, List.all_eq_true]
  intro x _
  exact isB_map _
theorem pack_isB (r : Int) (key : T8) (l : List E5) : (packL r key l).all isB = true := by
  unfold packL
  rw [List.all_append, List.all_append, isB_eB]
  rfl
end
end Go.Kv
