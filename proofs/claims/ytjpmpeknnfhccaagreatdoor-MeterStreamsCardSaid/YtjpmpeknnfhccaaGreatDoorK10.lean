/- MeterSeals, in plain Lean. -/
import Derived.Test.YtjpmpeknnfhccaaGreatDoorK5
import Derived.Test.YtjpmpeknnfhccaaGreatDoorKS10
namespace Go.Kv
set_option linter.unusedVariables false
set_option linter.unusedSimpArgs false
open Go Go.RowKit
set_option maxRecDepth 100000
def e8 (x : T8) : List DV := [vB x.1, vB x.2.1, vB x.2.2.1, vB x.2.2.2.1, vB x.2.2.2.2.1, vB x.2.2.2.2.2.1, vB x.2.2.2.2.2.2.1, vB x.2.2.2.2.2.2.2]
theorem e8_len (x : T8) : (e8 x).length = 8 := rfl
def at8 (l : List T8) (i : Nat) : T8 := l.getD i (0, 0, 0, 0, 0, 0, 0, 0)
theorem at8_get {l : List T8} {i : Nat} (hi : i < l.length) : at8 l i = l[i] := by simp [at8, List.getD_eq_getElem?_getD, hi]
structure At8 (L : List DV) (x : T8) (i : Nat) : Prop where
  c0 : dI (cel L (i * 8)) = x.1
  c1 : dI (cel L (i * 8 + 1)) = x.2.1
  c2 : dI (cel L (i * 8 + 2)) = x.2.2.1
  c3 : dI (cel L (i * 8 + 3)) = x.2.2.2.1
  c4 : dI (cel L (i * 8 + 4)) = x.2.2.2.2.1
  c5 : dI (cel L (i * 8 + 5)) = x.2.2.2.2.2.1
  c6 : dI (cel L (i * 8 + 6)) = x.2.2.2.2.2.2.1
  c7 : dI (cel L (i * 8 + 7)) = x.2.2.2.2.2.2.2
  le : i * 8 ≤ L.length
  rm : 8 ≤ (L.drop (i * 8)).length
  row : ((L.drop (i * 8)).take 8).map AV.d = [AV.d (DV.v (Value.int IntKind.u8 x.1)), AV.d (DV.v (Value.int IntKind.u8 x.2.1)), AV.d (DV.v (Value.int IntKind.u8 x.2.2.1)), AV.d (DV.v (Value.int IntKind.u8 x.2.2.2.1)), AV.d (DV.v (Value.int IntKind.u8 x.2.2.2.2.1)), AV.d (DV.v (Value.int IntKind.u8 x.2.2.2.2.2.1)), AV.d (DV.v (Value.int IntKind.u8 x.2.2.2.2.2.2.1)), AV.d (DV.v (Value.int IntKind.u8 x.2.2.2.2.2.2.2))]
theorem k_at {l : List T8} {i : Nat} (hi : i < l.length) : At8 (l.flatMap e8) (at8 l i) i := by
  have hk (k : Nat) (h : k < 8) := fm_cel (enc := e8) e8_len hi h
  obtain ⟨r1, r2⟩ := fm_room (enc := e8) e8_len hi
  rw [at8_get hi]
  have h0 := hk 0 (by decide)
  rw [Nat.add_zero] at h0
  exact ⟨by rw [h0]; rfl, by rw [hk 1 (by decide)]; rfl, by rw [hk 2 (by decide)]; rfl, by rw [hk 3 (by decide)]; rfl, by rw [hk 4 (by decide)]; rfl, by rw [hk 5 (by decide)]; rfl, by rw [hk 6 (by decide)]; rfl, by rw [hk 7 (by decide)]; rfl, r1, r2, by rw [fm_at e8_len hi]; rfl⟩
def blkE (x : E5) : T15 := blk x.1 x.2.1 x.2.2.1 x.2.2.2.1 x.2.2.2.2
def bD (x : T15) : List Int := [x.1, x.2.1, x.2.2.1, x.2.2.2.1, x.2.2.2.2.1, x.2.2.2.2.2.1, x.2.2.2.2.2.2.1, x.2.2.2.2.2.2.2.1, x.2.2.2.2.2.2.2.2.1, x.2.2.2.2.2.2.2.2.2.1, x.2.2.2.2.2.2.2.2.2.2.1, x.2.2.2.2.2.2.2.2.2.2.2.1, x.2.2.2.2.2.2.2.2.2.2.2.2.1, x.2.2.2.2.2.2.2.2.2.2.2.2.2.1, x.2.2.2.2.2.2.2.2.2.2.2.2.2.2, 0]
def eB (x : E5) : List DV := (bD (blkE x)).map vB
theorem eB_len (x : E5) : (eB x).length = 16 := rfl
structure At16 (L : List DV) (x : T15) (i : Nat) : Prop where
  c0 : dI (cel L (i * 16)) = x.1
  c1 : dI (cel L (i * 16 + 1)) = x.2.1
  c2 : dI (cel L (i * 16 + 2)) = x.2.2.1
  c3 : dI (cel L (i * 16 + 3)) = x.2.2.2.1
  c4 : dI (cel L (i * 16 + 4)) = x.2.2.2.2.1
  c5 : dI (cel L (i * 16 + 5)) = x.2.2.2.2.2.1
  c6 : dI (cel L (i * 16 + 6)) = x.2.2.2.2.2.2.1
  c7 : dI (cel L (i * 16 + 7)) = x.2.2.2.2.2.2.2.1
  c8 : dI (cel L (i * 16 + 8)) = x.2.2.2.2.2.2.2.2.1
  c9 : dI (cel L (i * 16 + 9)) = x.2.2.2.2.2.2.2.2.2.1
  c10 : dI (cel L (i * 16 + 10)) = x.2.2.2.2.2.2.2.2.2.2.1
  c11 : dI (cel L (i * 16 + 11)) = x.2.2.2.2.2.2.2.2.2.2.2.1
  c12 : dI (cel L (i * 16 + 12)) = x.2.2.2.2.2.2.2.2.2.2.2.2.1
  c13 : dI (cel L (i * 16 + 13)) = x.2.2.2.2.2.2.2.2.2.2.2.2.2.1
  c14 : dI (cel L (i * 16 + 14)) = x.2.2.2.2.2.2.2.2.2.2.2.2.2.2
  c15 : dI (cel L (i * 16 + 15)) = 0
  le : i * 16 ≤ L.length
  rm : 16 ≤ (L.drop (i * 16)).length
  row : ((L.drop (i * 16)).take 16).map AV.d = [AV.d (DV.v (Value.int IntKind.u8 x.1)), AV.d (DV.v (Value.int IntKind.u8 x.2.1)), AV.d (DV.v (Value.int IntKind.u8 x.2.2.1)), AV.d (DV.v (Value.int IntKind.u8 x.2.2.2.1)), AV.d (DV.v (Value.int IntKind.u8 x.2.2.2.2.1)), AV.d (DV.v (Value.int IntKind.u8 x.2.2.2.2.2.1)), AV.d (DV.v (Value.int IntKind.u8 x.2.2.2.2.2.2.1)), AV.d (DV.v (Value.int IntKind.u8 x.2.2.2.2.2.2.2.1)), AV.d (DV.v (Value.int IntKind.u8 x.2.2.2.2.2.2.2.2.1)), AV.d (DV.v (Value.int IntKind.u8 x.2.2.2.2.2.2.2.2.2.1)), AV.d (DV.v (Value.int IntKind.u8 x.2.2.2.2.2.2.2.2.2.2.1)), AV.d (DV.v (Value.int IntKind.u8 x.2.2.2.2.2.2.2.2.2.2.2.1)), AV.d (DV.v (Value.int IntKind.u8 x.2.2.2.2.2.2.2.2.2.2.2.2.1)), AV.d (DV.v (Value.int IntKind.u8 x.2.2.2.2.2.2.2.2.2.2.2.2.2.1)), AV.d (DV.v (Value.int IntKind.u8 x.2.2.2.2.2.2.2.2.2.2.2.2.2.2)), AV.d (DV.v (Value.int IntKind.u8 0))]
theorem bl_at {l : List E5} {i : Nat} (hi : i < l.length) : At16 (l.flatMap eB) (blkE (at5 l i)) i := by
  have hk (k : Nat) (h : k < 16) := fm_cel (enc := eB) eB_len hi h
  obtain ⟨r1, r2⟩ := fm_room (enc := eB) eB_len hi
  rw [at5_get hi]
  have h0 := hk 0 (by decide)
  rw [Nat.add_zero] at h0
  exact ⟨by rw [h0]; rfl, by rw [hk 1 (by decide)]; rfl, by rw [hk 2 (by decide)]; rfl, by rw [hk 3 (by decide)]; rfl, by rw [hk 4 (by decide)]; rfl, by rw [hk 5 (by decide)]; rfl, by rw [hk 6 (by decide)]; rfl, by rw [hk 7 (by decide)]; rfl, by rw [hk 8 (by decide)]; rfl, by rw [hk 9 (by decide)]; rfl, by rw [hk 10 (by decide)]; rfl, by rw [hk 11 (by decide)]; rfl, by rw [hk 12 (by decide)]; rfl, by rw [hk 13 (by decide)]; rfl, by rw [hk 14 (by decide)]; rfl, by rw [hk 15 (by decide)]; rfl, r1, r2, by rw [fm_at eB_len hi]; rfl⟩
theorem mb (x : Int) : ByteI (x % 256) := by unfold ByteI; omega
theorem bD_b (x : E5) : ∀ b ∈ bD (blkE x), ByteI b := by
  unfold bD blkE blk
  refine List.forall_mem_cons.2 ⟨mb _, ?_⟩
  refine List.forall_mem_cons.2 ⟨mb _, ?_⟩
  refine List.forall_mem_cons.2 ⟨mb _, ?_⟩
  refine List.forall_mem_cons.2 ⟨mb _, ?_⟩
  refine List.forall_mem_cons.2 ⟨mb _, ?_⟩
  refine List.forall_mem_cons.2 ⟨mb _, ?_⟩
  refine List.forall_mem_cons.2 ⟨mb _, ?_⟩
  refine List.forall_mem_cons.2 ⟨mb _, ?_⟩
  refine List.forall_mem_cons.2 ⟨mb _, ?_⟩
  refine List.forall_mem_cons.2 ⟨mb _, ?_⟩
  refine List.forall_mem_cons.2 ⟨mb _, ?_⟩
  refine List.forall_mem_cons.2 ⟨mb _, ?_⟩
  refine List.forall_mem_cons.2 ⟨mb _, ?_⟩
  refine List.forall_mem_cons.2 ⟨mb _, ?_⟩
  refine List.forall_mem_cons.2 ⟨mb _, ?_⟩
  refine List.forall_mem_cons.2 ⟨⟨by decide, by decide⟩, ?_⟩
  intro b hb; cases hb
theorem snocG {enc : E5 → List DV} {l : List E5} {i : Nat} (hi : i < l.length) : (l.take (i + 1)).flatMap enc = (l.take i).flatMap enc ++ enc (at5 l i) := by
  rw [List.take_add_one, at5_get hi, List.getElem?_eq_getElem hi, List.flatMap_append]
  simp only [Option.toList, List.flatMap_cons, List.flatMap_nil, List.append_nil]
theorem F41_E {x : E5} (h : entE x = 0) : F41 x.1 x.2.1 x.2.2.1 x.2.2.2.1 x.2.2.2.2 = some (blkE x) := F41_eq h
theorem F51_E {x : E5} (h : entE x = 0) : F51 x.1 x.2.1 x.2.2.1 x.2.2.2.1 x.2.2.2.2 = some (blkE x) := F51_eq h
def eV (x : E5) : List DV := [vI (entE x)]
def sealE (l : List E5) : Int := if (l.length : Int) > 64 then 5 else firstI (l.map entE)
theorem eV_map : ∀ l : List E5, l.flatMap eV = (l.map entE).map vI
  | [] => rfl
  | x :: l => by simp only [List.flatMap_cons, List.map_cons, eV_map l]; rfl
theorem firstE_drop {l : List E5} {i : Nat} (h : i < l.length) : firstI ((l.drop i).map entE) = if entE (at5 l i) = 0 then firstI ((l.drop (i + 1)).map entE) else entE (at5 l i) := by
  rw [List.drop_eq_getElem_cons h, at5_get h]; rfl
theorem sealE_zero {l : List E5} (h : sealE l = 0) : (l.length : Int) ≤ 64 ∧ ∀ j, j < l.length → entE (at5 l j) = 0 := by
  unfold sealE at h
  split at h
  · contradiction
  · rename_i h64
    refine ⟨by omega, fun j hj => ?_⟩
    have : ∀ (n i : Nat), l.length = i + n → firstI ((l.drop i).map entE) = 0 → ∀ j, i ≤ j → j < l.length → entE (at5 l j) = 0 := by
      intro n
      induction n with
      | zero => intro i hn _ j h1 h2; omega
      | succ n ih =>
        intro i hn hz j h1 h2
        rw [firstE_drop (by omega)] at hz
        split at hz
        · rename_i hx
          by_cases hj : j = i
          · subst hj; exact hx
          · exact ih (i + 1) (by omega) hz j (by omega) h2
        · contradiction
    exact this l.length 0 (by omega) h j (by omega) hj
theorem F98_c2 (l : List E5) (hl : l.length ≤ 1000) (hz : ∀ j, j < l.length → entE (at5 l j) = 0) : ∀ (k i e : Nat), l.length = i + k → res B98 (.c2 e i ((l.take i).flatMap eB) l.length (l.flatMap eE) (l.length : Int) (i : Int) e) = some (l.length, l.flatMap eB)
  | 0, i, e, hk => by
    rw [res_eq]
    have : ¬ ((i : Int) < (l.length : Int)) := by omega
    have h2 : i = l.length := by omega
    subst h2
    simp only [B98, sem_br, sem_ret, this, decide_false, Bool.false_eq_true, if_false, stepO_ret, List.take_length]
  | k + 1, i, e, hk => by
    have hi : i < l.length := by omega
    have h1 : (i : Int) < (l.length : Int) := by omega
    have ih := F98_c2 l hl hz k (i + 1) (e + 1) (by omega)
    have hin : inI64 ((i : Int) + 1) := by unfold inI64; omega
    have hf : fitsN (i + 1) 16 := by unfold fitsN; omega
    have A := ent_at hi
    rw [snocG hi] at ih
    rw [res_eq]
    simp only [B98, sem_br, sem_ask, sem_nxt, sem_triv, sem_sees, sem_ret, sem_bind_some, PC.holds, need_true, Int.toNat_natCast, Int.toNat_zero, A.c0, A.c1, A.c2, A.c3, A.c4, A.le, A.rm, A.row, map_eE, h1, decide_true, if_true, Int.natCast_nonneg, Int.le_refl, stepO_nxt, stepO_ret, hin, hf, F41_E (hz i hi)]
    exact ih
theorem F98_eq (l : List E5) (hl : l.length ≤ 1000) (hz : ∀ j, j < l.length → entE (at5 l j) = 0) : F98 l.length (l.flatMap eE) = some (l.length, l.flatMap eB) := by
  unfold F98; rw [res_eq]
  simp only [B98, sem_nxt, stepO_nxt]
  rw [res_eq]
  by_cases h0 : l = []
  · subst h0; rfl
  · have hi : 0 < l.length := List.length_pos_iff.2 h0
    have h1 : (0 : Int) < (l.length : Int) := by omega
    have hin : inI64 ((0 : Int) + 1) := by unfold inI64; omega
    have A := ent_at hi
    have ih := F98_c2 l hl hz (l.length - 1) 1 0 (by omega)
    rw [snocG hi] at ih
    simp only [B98, sem_br, sem_ask, sem_nxt, sem_triv, sem_sees, sem_ret, sem_bind_some, PC.holds, need_true, Int.toNat_natCast, Int.toNat_zero, A.c0, A.c1, A.c2, A.c3, A.c4, A.le, A.rm, A.row, map_eE, h1, decide_true, if_true, Int.natCast_nonneg, Int.le_refl, stepO_nxt, stepO_ret, hin, F41_E (hz 0 hi)]
    exact ih
def keyB (x : T8) : Prop := ByteI x.1 ∧ ByteI x.2.1 ∧ ByteI x.2.2.1 ∧ ByteI x.2.2.2.1 ∧ ByteI x.2.2.2.2.1 ∧ ByteI x.2.2.2.2.2.1 ∧ ByteI x.2.2.2.2.2.2.1 ∧ ByteI x.2.2.2.2.2.2.2
def keyAt (key : T8) (l : List E5) : Nat → T8
  | 0 => key
  | i + 1 => seal8 (keyAt key l i) (bD (blkE (at5 l i)))
def outs (key : T8) (l : List E5) : Nat → List T8
  | 0 => []
  | i + 1 => outs key l i ++ [keyAt key l (i + 1)]
theorem outs_len (key : T8) (l : List E5) : ∀ i, (outs key l i).length = i
  | 0 => rfl
  | i + 1 => by simp only [outs, List.length_append, outs_len key l i, List.length_singleton]
theorem outs_at (key : T8) (l : List E5) : ∀ (n i : Nat), i < n → at8 (outs key l n) i = keyAt key l (i + 1)
  | 0, i, h => by omega
  | n + 1, i, h => by
    have e := outs_len key l n
    unfold at8 outs
    by_cases hi : i < n
    · rw [List.getD_eq_getElem?_getD, List.getElem?_append_left (by omega), ← List.getD_eq_getElem?_getD]
      exact outs_at key l n i hi
    · have : i = n := by omega
      subst this
      rw [List.getD_eq_getElem?_getD, List.getElem?_append_right (by omega), e, Nat.sub_self]; rfl
theorem outs_snoc (key : T8) (l : List E5) (i : Nat) : (outs key l (i + 1)).flatMap e8 = (outs key l i).flatMap e8 ++ e8 (keyAt key l (i + 1)) := by
  show (outs key l i ++ [keyAt key l (i + 1)]).flatMap e8 = _
  rw [List.flatMap_append, List.flatMap_singleton]
theorem seal8_b {x : T8} (h : keyB x) (ds : List Int) : keyB (seal8 x ds) := by
  obtain ⟨h0, h1, h2, h3, h4, h5, h6, h7⟩ := h
  exact ⟨fS_b _ _ _ h0, fS_b _ _ _ h1, fS_b _ _ _ h2, fS_b _ _ _ h3, fS_b _ _ _ h4, fS_b _ _ _ h5, fS_b _ _ _ h6, fS_b _ _ _ h7⟩
theorem keyAt_b {key : T8} (h : keyB key) (l : List E5) : ∀ i, keyB (keyAt key l i)
  | 0 => h
  | i + 1 => seal8_b (keyAt_b h l i) _
theorem F82_K {k : T8} (h : keyB k) {x : T15} (hd : ∀ b ∈ bD x, ByteI b) : F82 k.1 k.2.1 k.2.2.1 k.2.2.2.1 k.2.2.2.2.1 k.2.2.2.2.2.1 k.2.2.2.2.2.2.1 k.2.2.2.2.2.2.2 16 [DV.v (Value.int IntKind.u8 x.1), DV.v (Value.int IntKind.u8 x.2.1), DV.v (Value.int IntKind.u8 x.2.2.1), DV.v (Value.int IntKind.u8 x.2.2.2.1), DV.v (Value.int IntKind.u8 x.2.2.2.2.1), DV.v (Value.int IntKind.u8 x.2.2.2.2.2.1), DV.v (Value.int IntKind.u8 x.2.2.2.2.2.2.1), DV.v (Value.int IntKind.u8 x.2.2.2.2.2.2.2.1), DV.v (Value.int IntKind.u8 x.2.2.2.2.2.2.2.2.1), DV.v (Value.int IntKind.u8 x.2.2.2.2.2.2.2.2.2.1), DV.v (Value.int IntKind.u8 x.2.2.2.2.2.2.2.2.2.2.1), DV.v (Value.int IntKind.u8 x.2.2.2.2.2.2.2.2.2.2.2.1), DV.v (Value.int IntKind.u8 x.2.2.2.2.2.2.2.2.2.2.2.2.1), DV.v (Value.int IntKind.u8 x.2.2.2.2.2.2.2.2.2.2.2.2.2.1), DV.v (Value.int IntKind.u8 x.2.2.2.2.2.2.2.2.2.2.2.2.2.2), DV.v (Value.int IntKind.u8 0)] = some (seal8 k (bD x)) := by
  obtain ⟨h0, h1, h2, h3, h4, h5, h6, h7⟩ := h
  exact F82_eq (ds := bD x) hd (Nat.le_of_ble_eq_true rfl) h0 h1 h2 h3 h4 h5 h6 h7
theorem F108_K {k : T8} (h : keyB k) {x : T15} (hd : ∀ b ∈ bD x, ByteI b) : F108 k.1 k.2.1 k.2.2.1 k.2.2.2.1 k.2.2.2.2.1 k.2.2.2.2.2.1 k.2.2.2.2.2.2.1 k.2.2.2.2.2.2.2 16 [DV.v (Value.int IntKind.u8 x.1), DV.v (Value.int IntKind.u8 x.2.1), DV.v (Value.int IntKind.u8 x.2.2.1), DV.v (Value.int IntKind.u8 x.2.2.2.1), DV.v (Value.int IntKind.u8 x.2.2.2.2.1), DV.v (Value.int IntKind.u8 x.2.2.2.2.2.1), DV.v (Value.int IntKind.u8 x.2.2.2.2.2.2.1), DV.v (Value.int IntKind.u8 x.2.2.2.2.2.2.2.1), DV.v (Value.int IntKind.u8 x.2.2.2.2.2.2.2.2.1), DV.v (Value.int IntKind.u8 x.2.2.2.2.2.2.2.2.2.1), DV.v (Value.int IntKind.u8 x.2.2.2.2.2.2.2.2.2.2.1), DV.v (Value.int IntKind.u8 x.2.2.2.2.2.2.2.2.2.2.2.1), DV.v (Value.int IntKind.u8 x.2.2.2.2.2.2.2.2.2.2.2.2.1), DV.v (Value.int IntKind.u8 x.2.2.2.2.2.2.2.2.2.2.2.2.2.1), DV.v (Value.int IntKind.u8 x.2.2.2.2.2.2.2.2.2.2.2.2.2.2), DV.v (Value.int IntKind.u8 0)] = some (seal8 k (bD x)) := by
  obtain ⟨h0, h1, h2, h3, h4, h5, h6, h7⟩ := h
  exact F108_eq (ds := bD x) hd (Nat.le_of_ble_eq_true rfl) h0 h1 h2 h3 h4 h5 h6 h7
theorem F97_c2 {key : T8} (hkey : keyB key) (l : List E5) (hl : l.length ≤ 1000) : ∀ (k i e : Nat) (x : T8), l.length = i + k → x = keyAt key l i → res B97 (.c2 e i ((outs key l i).flatMap e8) l.length (l.flatMap eB) (l.length : Int) (i : Int) x.1 x.2.1 x.2.2.1 x.2.2.2.1 x.2.2.2.2.1 x.2.2.2.2.2.1 x.2.2.2.2.2.2.1 x.2.2.2.2.2.2.2 e) = some (l.length, (outs key l l.length).flatMap e8, 0)
  | 0, i, e, x, hk, _ => by
    rw [res_eq]
    have : ¬ ((i : Int) < (l.length : Int)) := by omega
    have h2 : i = l.length := by omega
    subst h2
    simp only [B97, sem_br, sem_ret, this, decide_false, Bool.false_eq_true, if_false, stepO_ret]
  | k + 1, i, e, x, hk, hx => by
    have hi : i < l.length := by omega
    have h1 : (i : Int) < (l.length : Int) := by omega
    have ih := F97_c2 hkey l hl k (i + 1) (e + 1) _ (by omega) rfl
    have hin : inI64 ((i : Int) + 1) := by unfold inI64; omega
    have hf : fitsN (i + 1) 8 := by unfold fitsN; omega
    have A := bl_at hi
    have hb := keyAt_b hkey l i
    rw [← hx] at hb
    have f := F82_K hb (bD_b (at5 l i))
    have e1 : seal8 x (bD (blkE (at5 l i))) = keyAt key l (i + 1) := by rw [hx]; rfl
    rw [e1] at f
    rw [outs_snoc] at ih
    rw [res_eq]
    simp only [B97, sem_br, sem_ask, sem_nxt, sem_triv, sem_sees, sem_ret, sem_bind_some, PC.holds, need_true, Int.toNat_natCast, Int.toNat_zero, A.c0, A.c1, A.c2, A.c3, A.c4, A.c5, A.c6, A.c7, A.c8, A.c9, A.c10, A.c11, A.c12, A.c13, A.c14, A.c15, A.le, A.rm, A.row, h1, decide_true, if_true, Int.natCast_nonneg, Int.le_refl, stepO_nxt, stepO_ret, hin, hf, f]
    exact ih
theorem F97_eq {key : T8} (hkey : keyB key) (l : List E5) (hl : l.length ≤ 256) : F97 key.1 key.2.1 key.2.2.1 key.2.2.2.1 key.2.2.2.2.1 key.2.2.2.2.2.1 key.2.2.2.2.2.2.1 key.2.2.2.2.2.2.2 l.length (l.flatMap eB) = some (l.length, (outs key l l.length).flatMap e8, 0) := by
  have hl' : ¬ (l.length : Int) > 256 := by omega
  unfold F97; rw [res_eq]
  simp only [B97, sem_br, sem_nxt, hl', decide_false, Bool.false_eq_true, if_false, stepO_nxt]
  rw [res_eq]
  by_cases h0 : l = []
  · subst h0; rfl
  · have hi : 0 < l.length := List.length_pos_iff.2 h0
    have h1 : (0 : Int) < (l.length : Int) := by omega
    have hin : inI64 ((0 : Int) + 1) := by unfold inI64; omega
    have A := bl_at hi
    have f := F82_K hkey (bD_b (at5 l 0))
    have e1 : seal8 key (bD (blkE (at5 l 0))) = keyAt key l 1 := rfl
    rw [e1] at f
    have ih := F97_c2 hkey l (by omega) (l.length - 1) 1 0 _ (by omega) rfl
    rw [outs_snoc] at ih
    simp only [B97, sem_br, sem_ask, sem_nxt, sem_triv, sem_sees, sem_ret, sem_bind_some, PC.holds, need_true, Int.toNat_natCast, Int.toNat_zero, A.c0, A.c1, A.c2, A.c3, A.c4, A.c5, A.c6, A.c7, A.c8, A.c9, A.c10, A.c11, A.c12, A.c13, A.c14, A.c15, A.le, A.rm, A.row, h1, decide_true, if_true, Int.natCast_nonneg, Int.le_refl, stepO_nxt, stepO_ret, hin, f]
    exact ih
theorem F57_eq {key : T8} (hkey : keyB key) (l : List E5) (hl : l.length ≤ 256) (hz : ∀ j, j < l.length → entE (at5 l j) = 0) : F57 key.1 key.2.1 key.2.2.1 key.2.2.2.1 key.2.2.2.2.1 key.2.2.2.2.2.1 key.2.2.2.2.2.2.1 key.2.2.2.2.2.2.2 l.length (l.flatMap eE) = some (l.length, (outs key l l.length).flatMap e8) := by
  unfold F57; rw [res_eq]
  simp only [B57, F98_eq l (by omega) hz, F97_eq hkey l hl, sem_bind_some, sem_sees, sem_ret, stepO_ret]
theorem F84_c2 {key : T8} (hkey : keyB key) (l : List E5) (hl : l.length ≤ 1000) (hz : ∀ j, j < l.length → entE (at5 l j) = 0) : ∀ (k i e : Nat) (x : T8), l.length = i + k → x = keyAt key l i → res B84 (.c2 l.length (l.flatMap eE) e i ((outs key l i).flatMap e8) (i : Int) x.1 x.2.1 x.2.2.1 x.2.2.2.1 x.2.2.2.2.1 x.2.2.2.2.2.1 x.2.2.2.2.2.2.1 x.2.2.2.2.2.2.2 e) = some (l.length, (outs key l l.length).flatMap e8)
  | 0, i, e, x, hk, _ => by
    rw [res_eq]
    have : ¬ ((i : Int) < (l.length : Int)) := by omega
    have h2 : i = l.length := by omega
    subst h2
    simp only [B84, sem_br, sem_ret, this, decide_false, Bool.false_eq_true, if_false, stepO_ret]
  | k + 1, i, e, x, hk, hx => by
    have hi : i < l.length := by omega
    have h1 : (i : Int) < (l.length : Int) := by omega
    have ih := F84_c2 hkey l hl hz k (i + 1) (e + 1) _ (by omega) rfl
    have hin : inI64 ((i : Int) + 1) := by unfold inI64; omega
    have hf : fitsN (i + 1) 8 := by unfold fitsN; omega
    have A := ent_at hi
    have hb := keyAt_b hkey l i
    rw [← hx] at hb
    have f := F108_K hb (bD_b (at5 l i))
    have e1 : seal8 x (bD (blkE (at5 l i))) = keyAt key l (i + 1) := by rw [hx]; rfl
    rw [e1] at f
    rw [outs_snoc] at ih
    rw [res_eq]
    simp only [B84, sem_br, sem_ask, sem_nxt, sem_triv, sem_sees, sem_ret, sem_bind_some, PC.holds, need_true, Int.toNat_natCast, Int.toNat_zero, A.c0, A.c1, A.c2, A.c3, A.c4, A.le, A.rm, A.row, map_eE, h1, decide_true, if_true, Int.natCast_nonneg, Int.le_refl, stepO_nxt, stepO_ret, hin, hf, F51_E (hz i hi), f]
    exact ih
theorem F84_eq {key : T8} (hkey : keyB key) (l : List E5) (hl : l.length ≤ 1000) (hz : ∀ j, j < l.length → entE (at5 l j) = 0) : F84 key.1 key.2.1 key.2.2.1 key.2.2.2.1 key.2.2.2.2.1 key.2.2.2.2.2.1 key.2.2.2.2.2.2.1 key.2.2.2.2.2.2.2 l.length (l.flatMap eE) = some (l.length, (outs key l l.length).flatMap e8) := by
  unfold F84; rw [res_eq]
  simp only [B84, sem_nxt, stepO_nxt]
  rw [res_eq]
  by_cases h0 : l = []
  · subst h0; rfl
  · have hi : 0 < l.length := List.length_pos_iff.2 h0
    have h1 : (0 : Int) < (l.length : Int) := by omega
    have hin : inI64 ((0 : Int) + 1) := by unfold inI64; omega
    have A := ent_at hi
    have f := F108_K hkey (bD_b (at5 l 0))
    have e1 : seal8 key (bD (blkE (at5 l 0))) = keyAt key l 1 := rfl
    rw [e1] at f
    have ih := F84_c2 hkey l hl hz (l.length - 1) 1 0 _ (by omega) rfl
    rw [outs_snoc] at ih
    simp only [B84, sem_br, sem_ask, sem_nxt, sem_triv, sem_sees, sem_ret, sem_bind_some, PC.holds, need_true, Int.toNat_natCast, Int.toNat_zero, A.c0, A.c1, A.c2, A.c3, A.c4, A.le, A.rm, A.row, map_eE, h1, decide_true, if_true, Int.natCast_nonneg, Int.le_refl, stepO_nxt, stepO_ret, hin, F51_E (hz 0 hi), f]
    exact ih
end Go.Kv
