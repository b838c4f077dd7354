import Derived.Test.YtjpmpeknnfhccaaGreatDoorKG4a
import Derived.Test.YtjpmpeknnfhccaaGreatDoorGG4
namespace Go.Kv
set_option linter.unusedVariables false
set_option linter.unusedSimpArgs false
open Go Go.RowKit
set_option maxRecDepth 100000
def rowB (C : List Int) : List AV := C.map fun b => .d (.v (.int .u8 b))
theorem rowB_splice {C : List Int} {i : Nat} (hi : i < C.length) (c : Int) : spliceA (rowB C) i [.d (.v (.int .u8 c))] = rowB (C.set i c) := by
  unfold spliceA rowB
  rw [List.set_eq_take_append_cons_drop, if_pos hi]
  simp [List.map_take, List.map_drop, List.append_assoc]
theorem rowB_len (C : List Int) : (rowB C).length = C.length := by simp [rowB]
theorem rowB_at (C : List Int) {j : Nat} (hj : j < C.length) : dI (celA (rowB C) j) = C.getD j 0 := by
  simp [rowB, celA, List.getD_eq_getElem?_getD, hj, aD, dI]
theorem rowB_get (C : List Int) {j : Nat} (hj : j < C.length) : (rowB C)[j]? = some (.d (.v (.int .u8 (C.getD j 0)))) := by
  simp [rowB, List.getD_eq_getElem?_getD, hj]
theorem refBs_rowB (k : Nat) : ∀ C : List Int, refBs k (rowB C) = true
  | [] => rfl
  | b :: C => by
    have := refBs_rowB k C
    simp only [rowB] at this ⊢
    simp only [List.map_cons, refBs, this, refB, Bool.and_self]
theorem refK_rowB (k : Nat) (C : List Int) (t : TypeId) : refK k (ABlk.cells (rowB C) t) = true := refBs_rowB k C
section
variable {key : T8} {l : List W4} (n0 n1 n2 n3 : Int)
theorem mkE_def (i : Nat) (x : W4) : mkE i x = (300 + (i : Int), 10 * (i : Int) + x.1 % 10, x.2.1, x.2.2.1, x.2.2.2 % 8) := rfl
theorem loop_c2 (hl : l.length ≤ 12) (hw : ∀ x ∈ l, okW x) : ∀ (m i e : Nat), l.length = i + m →
    ∃ e', res B4 (.c2 e i (((mks l).take i).flatMap eE) l.length (l.flatMap wE) (l.length : Int) (i : Int) key.1 key.2.1 key.2.2.1 key.2.2.2.1 key.2.2.2.2.1 key.2.2.2.2.2.1 key.2.2.2.2.2.2.1 key.2.2.2.2.2.2.2 n0 n1 n2 n3 e) =
      res B4 (.c2 e' l.length ((mks l).flatMap eE) l.length (l.flatMap wE) (l.length : Int) (l.length : Int) key.1 key.2.1 key.2.2.1 key.2.2.2.1 key.2.2.2.2.1 key.2.2.2.2.2.1 key.2.2.2.2.2.2.1 key.2.2.2.2.2.2.2 n0 n1 n2 n3 e')
  | 0, i, e, hm => by
    have hi : i = l.length := by omega
    subst hi
    exact ⟨e, by rw [List.take_of_length_le (by rw [mks_len]; exact Nat.le_refl _)]⟩
  | m + 1, i, e, hm => by
    have hi : i < l.length := by omega
    have hi12 : i < 12 := by omega
    have h1 : (i : Int) < (l.length : Int) := by omega
    have W := w_at hi
    have hx := okW_at hw hi
    have M := mk_ok hi12 hx
    have hz := mkE_ok hi12 hx
    have h15 := F15_E hz
    have h16 := F16_E hz
    rw [mkE_def] at h15 h16
    simp only at h15 h16
    obtain ⟨e', ih⟩ := loop_c2 hl hw m (i + 1) (e + 1) (by omega)
    refine ⟨e', ?_⟩
    rw [← ih]
    have hin : inI64 ((i : Int) + 1) := by unfold inI64; omega
    have hf : fitsN (i + 1) 40 := by unfold fitsN; omega
    rw [take_snoc (by rw [mks_len]; exact hi), mks_at hi]
    rw [res_eq]
    simp only [B4, W.c0, W.c1, W.c2, W.c3, W.le, W.rm, W.row, M.i1, M.i2, M.i3, M.w0, M.w1, M.w2, M.w3, M.t0, M.t3, h15, h16, h1, hin, hf, Int.toNat_natCast, Int.natCast_nonneg, bne_self_eq_false, beq_self_eq_true, Bool.and_self, Bool.and_true, Bool.not_true, Bool.false_eq_true, if_false, if_true, decide_true, sem_br, sem_ask, sem_triv, sem_sees, sem_nxt, sem_ret, sem_bind_some, PC.holds, need_true, stepO_nxt]
    rfl
theorem start_c1 (h0 : 0 < l.length) (hl : l.length ≤ 12) (hw : ∀ x ∈ l, okW x) :
    ∃ e', res B4 (.c1 l.length (l.flatMap wE) (l.length : Int) 0 key.1 key.2.1 key.2.2.1 key.2.2.2.1 key.2.2.2.2.1 key.2.2.2.2.2.1 key.2.2.2.2.2.2.1 key.2.2.2.2.2.2.2 n0 n1 n2 n3) =
      res B4 (.c2 e' l.length ((mks l).flatMap eE) l.length (l.flatMap wE) (l.length : Int) (l.length : Int) key.1 key.2.1 key.2.2.1 key.2.2.2.1 key.2.2.2.2.1 key.2.2.2.2.2.1 key.2.2.2.2.2.2.1 key.2.2.2.2.2.2.2 n0 n1 n2 n3 e') := by
  have h1 : (0 : Int) < (l.length : Int) := by omega
  have W := w_at h0
  have hx := okW_at hw h0
  have M := mk_ok (i := 0) (by decide) hx
  have hz := mkE_ok (i := 0) (by decide) hx
  have h15 := F15_E hz
  have h16 := F16_E hz
  rw [mkE_def] at h15 h16
  simp only at h15 h16
  obtain ⟨e', ih⟩ := loop_c2 (key := key) n0 n1 n2 n3 hl hw (l.length - 1) 1 0 (by omega)
  refine ⟨e', ?_⟩
  rw [← ih]
  have hin : inI64 ((0 : Int) + 1) := by unfold inI64; omega
  rw [take_snoc (by rw [mks_len]; exact h0), mks_at h0]
  have M1 := M.i1
  have M2 := M.i2
  have M3 := M.i3
  rw [show ((0 : Nat) : Int) = 0 from rfl] at M1 M2 M3 h15 h16
  rw [res_eq]
  simp only [B4, W.c0, W.c1, W.c2, W.c3, W.le, W.rm, W.row, M1, M2, M3, M.w0, M.w1, M.w2, M.w3, M.t0, M.t3, h15, h16, h1, hin, Int.toNat_zero, Int.le_refl, bne_self_eq_false, beq_self_eq_true, Bool.and_self, Bool.and_true, Bool.not_true, Bool.false_eq_true, if_false, if_true, decide_true, sem_br, sem_ask, sem_triv, sem_sees, sem_nxt, sem_ret, sem_bind_some, PC.holds, need_true, stepO_nxt]
  rfl
end
theorem firstI_all : ∀ {L : List Int}, (∀ x ∈ L, x = 0) → firstI L = 0
  | [], _ => rfl
  | x :: L, h => (firstI_zero x L).2 ⟨h x (List.mem_cons_self ..), firstI_all fun y hy => h y (List.mem_cons_of_mem _ hy)⟩
theorem sealE_of {A : List E5} (hl : A.length ≤ 64) (hz : ∀ j, j < A.length → entE (at5 A j) = 0) : sealE A = 0 := by
  unfold sealE
  rw [if_neg (by omega)]
  refine firstI_all fun x hx => ?_
  obtain ⟨y, hy, rfl⟩ := List.mem_map.1 hx
  obtain ⟨j, hj, rfl⟩ := List.getElem_of_mem hy
  rw [← at5_get hj]; exact hz j hj
structure PickOk (n : Nat) (n0 n1 n2 n3 : Int) (k a q : Nat) (b : Int) : Prop where
  ek : (IntKind.i64.wrap n0).tmod (n : Int) = (k : Int)
  kl : k < n
  ea : (IntKind.i64.wrap n1).tmod 15 = (a : Int)
  al : a < 15
  eb : (IntKind.i64.wrap n2).tmod 255 = b - 1
  bl : 1 ≤ b ∧ b ≤ 255
  eq : (IntKind.i64.wrap n3).tmod 8 = (q : Int)
  ql : q < 8
theorem pick_ok {n : Nat} (hn : 0 < n) {n0 n1 n2 n3 : Int} (h0 : 0 ≤ n0 ∧ n0 ≤ 255) (h1 : 0 ≤ n1 ∧ n1 ≤ 255) (h2 : 0 ≤ n2 ∧ n2 ≤ 255) (h3 : 0 ≤ n3 ∧ n3 ≤ 255) :
    PickOk n n0 n1 n2 n3 (n0 % (n : Int)).toNat (n1 % 15).toNat (n3 % 8).toNat (1 + n2 % 255) := by
  have w0 : IntKind.i64.wrap n0 = n0 := wrap_in (by unfold inI64; omega)
  have w1 : IntKind.i64.wrap n1 = n1 := wrap_in (by unfold inI64; omega)
  have w2 : IntKind.i64.wrap n2 = n2 := wrap_in (by unfold inI64; omega)
  have w3 : IntKind.i64.wrap n3 = n3 := wrap_in (by unfold inI64; omega)
  have p0 : 0 ≤ n0 % (n : Int) := Int.emod_nonneg _ (by omega)
  have p1 : n0 % (n : Int) < n := Int.emod_lt_of_pos _ (by omega)
  refine ⟨?_, ?_, ?_, ?_, ?_, ?_, ?_, ?_⟩
  · rw [w0, Int.tmod_eq_emod_of_nonneg h0.1]; omega
  · omega
  · rw [w1, Int.tmod_eq_emod_of_nonneg h1.1]; omega
  · omega
  · rw [w2, Int.tmod_eq_emod_of_nonneg h2.1]; omega
  · omega
  · rw [w3, Int.tmod_eq_emod_of_nonneg h3.1]; omega
  · omega
section
variable {key : T8} {A : List E5} {n0 n1 n2 n3 : Int} {k a q : Nat} {b : Int}
def newB (C : List Int) (a : Nat) (b : Int) : Int := IntKind.u8.wrap ((IntKind.i64.wrap (C.getD a 0) + b).tmod 256)
theorem bsE_get (x : E5) {a : Nat} (ha : a < 16) : ByteI ((bsE x).getD a 0) := bytes_getD (bD_b x) a
theorem bsE_row (x : E5) : [AV.d (DV.v (Value.int IntKind.u8 (blkE x).1)), AV.d (DV.v (Value.int IntKind.u8 (blkE x).2.1)), AV.d (DV.v (Value.int IntKind.u8 (blkE x).2.2.1)), AV.d (DV.v (Value.int IntKind.u8 (blkE x).2.2.2.1)), AV.d (DV.v (Value.int IntKind.u8 (blkE x).2.2.2.2.1)), AV.d (DV.v (Value.int IntKind.u8 (blkE x).2.2.2.2.2.1)), AV.d (DV.v (Value.int IntKind.u8 (blkE x).2.2.2.2.2.2.1)), AV.d (DV.v (Value.int IntKind.u8 (blkE x).2.2.2.2.2.2.2.1)), AV.d (DV.v (Value.int IntKind.u8 (blkE x).2.2.2.2.2.2.2.2.1)), AV.d (DV.v (Value.int IntKind.u8 (blkE x).2.2.2.2.2.2.2.2.2.1)), AV.d (DV.v (Value.int IntKind.u8 (blkE x).2.2.2.2.2.2.2.2.2.2.1)), AV.d (DV.v (Value.int IntKind.u8 (blkE x).2.2.2.2.2.2.2.2.2.2.2.1)), AV.d (DV.v (Value.int IntKind.u8 (blkE x).2.2.2.2.2.2.2.2.2.2.2.2.1)), AV.d (DV.v (Value.int IntKind.u8 (blkE x).2.2.2.2.2.2.2.2.2.2.2.2.2.1)), AV.d (DV.v (Value.int IntKind.u8 (blkE x).2.2.2.2.2.2.2.2.2.2.2.2.2.2)), AV.d (DV.v (Value.int IntKind.u8 0))] = rowB (bsE x) := rfl
theorem exit_c2 (hkey : keyB key) (h0 : 0 < A.length) (hl : A.length ≤ 12) (hz : ∀ j, j < A.length → entE (at5 A j) = 0) {m0 : Int} (hr : Row m0 A) (P : PickOk A.length n0 n1 n2 n3 k a q b) (e m : Nat) (W : List DV) (z : Int) :
    res B4 (.c2 e A.length (A.flatMap eE) m W z z key.1 key.2.1 key.2.2.1 key.2.2.2.1 key.2.2.2.2.1 key.2.2.2.2.2.1 key.2.2.2.2.2.2.1 key.2.2.2.2.2.2.2 n0 n1 n2 n3 e) =
      res B4 (.c3 e A.length (A.flatMap eE) A.length ((outs key A A.length).flatMap e8) (k : Int) (a : Int) b key.1 key.2.1 key.2.2.1 key.2.2.2.1 key.2.2.2.2.1 key.2.2.2.2.2.1 key.2.2.2.2.2.2.1 key.2.2.2.2.2.2.2 n0 n1 n2 n3 e (rowB ((bsE (at5 A k)).set a (newB (bsE (at5 A k)) a b)))) := by
  have hs : sealE A = 0 := sealE_of (by omega) hz
  have hS : (outs key A A.length).length = A.length := outs_len _ _ _
  have h18 := F18_eq A (by omega)
  have h17 := F17_eq hkey A (by omega)
  rw [if_pos hs] at h17
  have h20 := F20ef_eq (outs key A A.length) (by omega)
  have h19 := F19_eq hkey A (by omega) (outs key A A.length)
  have hL : lenE A (outs key A A.length) = 0 := by unfold lenE; rw [hS, bne_self_eq_false]; rfl
  rw [if_pos (firstI_all (by simp [hs, hL])), find_self hr, hS] at h19
  rw [hS] at h20
  have D := ent_at P.kl
  have h15 := F15_E (hz k P.kl)
  have hn : ((A.length : Int)) ≠ 0 := by omega
  have hkl : (k : Int) < (A.length : Int) := by have := P.kl; omega
  have hk0 : (0 : Int) ≤ (k : Int) := by omega
  have ha0 : (0 : Int) ≤ (a : Int) := by omega
  have hal : (a : Int) < 16 := by have := P.al; omega
  have ha1 : a + 1 ≤ 16 := by have := P.al; omega
  have ha : a < (bsE (at5 A k)).length := by rw [bsE_len]; have := P.al; omega
  have hb1 : inI64 b := by have := P.bl; unfold inI64; omega
  have hby := bsE_get (at5 A k) (a := a) (by omega)
  have hb2 : inI64 (IntKind.i64.wrap ((bsE (at5 A k)).getD a 0) + b) := by
    have := P.bl
    rw [wrap_in (by unfold ByteI at hby; unfold inI64; omega)]
    unfold ByteI at hby; unfold inI64; omega
  have heb : 1 + (b - 1) = b := by omega
  have hcel : dI (celA (rowB (bsE (at5 A k))) a) = (bsE (at5 A k)).getD a 0 := rowB_at _ ha
  have hget := rowB_get (bsE (at5 A k)) ha
  have hspl := rowB_splice ha (newB (bsE (at5 A k)) a b)
  have href (j : Nat) (t : TypeId) := refK_rowB j ((bsE (at5 A k)).set a (newB (bsE (at5 A k)) a b)) t
  have hz1 : decide (z < z) = false := by simp
  have hnb : IntKind.u8.wrap ((IntKind.i64.wrap ((bsE (at5 A k)).getD a 0) + b).tmod 256) = newB (bsE (at5 A k)) a b := rfl
  rw [res_eq]
  simp only [B4, hz1, h18, h17, h20, h19, h15, D.c0, D.c1, D.c2, D.c3, D.c4, D.le, D.rm, D.row, P.ek, P.ea, P.eb, heb, hn, hkl, hk0, ha0, hal, ha1, hb1, bsE_row, hcel, hget, hb2, hnb, hspl, href, Int.toNat_natCast, Nat.zero_add, Nat.mul_one, bne_self_eq_false, beq_self_eq_true, Bool.and_self, Bool.and_true, Bool.not_true, Bool.false_eq_true, if_false, if_true, sem_br, sem_ask, sem_triv, sem_sees, sem_nxt, sem_ret, sem_bind_some, PC.holds, need_true, stepO_nxt, ne_eq, not_false_eq_true]
  rw [need_of (by rfl), stepO_nxt]
end
theorem map_aD (L : List DV) : (L.map AV.d).map aD = L := by rw [List.map_map]; exact List.map_id' L
theorem toDs_map : ∀ L : List DV, toDs (L.map AV.d) = some L
  | [] => rfl
  | x :: L => by rw [List.map_cons, toDs, toDs_map L]; rfl
theorem flat_eE : ∀ A : List E5, flatDs (A.flatMap eE) = true
  | [] => rfl
  | x :: A => by
    have := flat_eE A
    unfold flatDs at this ⊢
    rw [List.flatMap_cons, List.all_append, this]; rfl
theorem eE_len' (x : E5) : (eE x).length = 5 := rfl
theorem e8_len' (x : T8) : (e8 x).length = 8 := rfl
theorem spl_set {A : List E5} {k : Nat} (hk : k < A.length) (e : E5) : spliceA ((A.flatMap eE).map AV.d) (k * 5) [AV.d (DV.v (Value.int IntKind.i64 e.1)), AV.d (DV.v (Value.int IntKind.i64 e.2.1)), AV.d (DV.v (Value.int IntKind.i64 e.2.2.1)), AV.d (DV.v (Value.int IntKind.i64 e.2.2.2.1)), AV.d (DV.v (Value.int IntKind.i64 e.2.2.2.2))] = ((A.set k e).flatMap eE).map AV.d := by
  unfold spliceA
  rw [List.set_eq_take_append_cons_drop, if_pos hk, List.flatMap_append, List.flatMap_cons, ← fm_take eE_len', ← fm_drop eE_len', List.map_append, List.map_append, List.map_take, List.map_drop, List.append_assoc, Nat.succ_mul]
  rfl
theorem rowB_take16 {C : List Int} (hC : C.length = 16) : List.take 16 (List.drop 0 (rowB C)) = [AV.d (DV.v (Value.int IntKind.u8 (C.getD 0 0))), AV.d (DV.v (Value.int IntKind.u8 (C.getD 1 0))), AV.d (DV.v (Value.int IntKind.u8 (C.getD 2 0))), AV.d (DV.v (Value.int IntKind.u8 (C.getD 3 0))), AV.d (DV.v (Value.int IntKind.u8 (C.getD 4 0))), AV.d (DV.v (Value.int IntKind.u8 (C.getD 5 0))), AV.d (DV.v (Value.int IntKind.u8 (C.getD 6 0))), AV.d (DV.v (Value.int IntKind.u8 (C.getD 7 0))), AV.d (DV.v (Value.int IntKind.u8 (C.getD 8 0))), AV.d (DV.v (Value.int IntKind.u8 (C.getD 9 0))), AV.d (DV.v (Value.int IntKind.u8 (C.getD 10 0))), AV.d (DV.v (Value.int IntKind.u8 (C.getD 11 0))), AV.d (DV.v (Value.int IntKind.u8 (C.getD 12 0))), AV.d (DV.v (Value.int IntKind.u8 (C.getD 13 0))), AV.d (DV.v (Value.int IntKind.u8 (C.getD 14 0))), AV.d (DV.v (Value.int IntKind.u8 (C.getD 15 0)))] := by
  match C, hC with
  | [_, _, _, _, _, _, _, _, _, _, _, _, _, _, _, _], _ => rfl
section
variable {key : T8} {A : List E5} {n0 n1 n2 n3 : Int} {k a q : Nat} {b : Int}
theorem newB_b (C : List Int) (a : Nat) (b : Int) : ByteI (newB C a b) := by unfold newB; rw [wrap_u8]; exact mb _
theorem newB_ne {C : List Int} (hC : ∀ x ∈ C, ByteI x) {a : Nat} {b : Int} (hb : 1 ≤ b ∧ b ≤ 255) : newB C a b ≠ C.getD a 0 := by
  have h := bytes_getD hC a
  unfold ByteI at h
  unfold newB
  rw [wrap_in (by unfold inI64; omega), Int.tmod_eq_emod_of_nonneg (by omega), wrap_u8]
  omega
theorem c3_c5 (hkey : keyB key) (h0 : 0 < A.length) (hl : A.length ≤ 12) (hz : ∀ j, j < A.length → entE (at5 A j) = 0) {m0 : Int} (hr : Row m0 A) (P : PickOk A.length n0 n1 n2 n3 k a q b) (e : Nat) :
    res B4 (.c3 e A.length (A.flatMap eE) A.length ((outs key A A.length).flatMap e8) (k : Int) (a : Int) b key.1 key.2.1 key.2.2.1 key.2.2.2.1 key.2.2.2.2.1 key.2.2.2.2.2.1 key.2.2.2.2.2.2.1 key.2.2.2.2.2.2.2 n0 n1 n2 n3 e (rowB ((bsE (at5 A k)).set a (newB (bsE (at5 A k)) a b)))) =
      res B4 (.c5 e A.length (A.flatMap eE) A.length ((outs key A A.length).flatMap e8) (k : Int) (a : Int) b key.1 key.2.1 key.2.2.1 key.2.2.2.1 key.2.2.2.2.1 key.2.2.2.2.2.1 key.2.2.2.2.2.2.1 key.2.2.2.2.2.2.2 n0 n1 n2 n3 e) := by
  generalize hC : (bsE (at5 A k)).set a (newB (bsE (at5 A k)) a b) = C
  have hCl : C.length = 16 := by rw [← hC, List.length_set]; exact bsE_len _
  have hCb : ∀ x ∈ C, ByteI x := by
    intro x hx
    rw [← hC] at hx
    rcases List.mem_or_eq_of_mem_set hx with h | h
    · exact bD_b _ x h
    · rw [h]; exact newB_b _ _ _
  have h16 := F16_T hCb
  have hrow : 16 ≤ (rowB C).length := by rw [rowB_len, hCl]; exact Nat.le_refl _
  have g (j : Nat) (hj : j < 16) : dI (celA (rowB C) j) = C.getD j 0 := rowB_at _ (by omega)
  have ht := rowB_take16 hCl
  rw [res_eq]
  simp only [B4, hrow, g 0 (by decide), g 1 (by decide), g 2 (by decide), g 3 (by decide), g 4 (by decide), g 5 (by decide), g 6 (by decide), g 7 (by decide), g 8 (by decide), g 9 (by decide), g 10 (by decide), g 11 (by decide), g 12 (by decide), g 13 (by decide), g 14 (by decide), g 15 (by decide), ht, h16, sem_br, sem_ask, sem_triv, sem_sees, sem_nxt, sem_ret, sem_bind_some, PC.holds, need_true, stepO_nxt]
  rw [res_eq]
  by_cases he : errT C = 0
  · rw [unbT_ok he]
    have hx := errT_ent he
    have hbl := blk_by hCl hCb he
    generalize hE : entT C = E at *
    have hset := spl_set P.kl E
    have hlen : (A.set k E).length = A.length := by simp
    have h18 := F18f_eq (A.set k E) (by rw [hlen]; omega)
    rw [hlen] at h18
    have h20 := F20ef_eq (outs key A A.length) (by rw [outs_len]; omega)
    rw [outs_len] at h20
    have h19 := F19_eq hkey (A.set k E) (by rw [hlen]; omega) (outs key A A.length)
    have hs : sealE (A.set k E) = 0 := sealE_of (by rw [hlen]; omega) (by
      intro j hj
      rw [hlen] at hj
      rw [at5_set P.kl]
      split
      · exact hx
      · exact hz j hj)
    have hL : lenE (A.set k E) (outs key A A.length) = 0 := by unfold lenE; rw [outs_len, hlen, bne_self_eq_false]; rfl
    have hne : newB (bsE (at5 A k)) a b ≠ (bsE (at5 A k)).getD a 0 := newB_ne (bD_b _) P.bl
    rw [if_pos (firstI_all (by simp [hs, hL])), find_changed hkey hr P.kl P.al (newB_b _ _ _) (by rw [hbl, ← hC]; rfl) hne, hlen, outs_len] at h19
    have hxs : (A.flatMap eE).length = A.length * 5 := fm_len eE_len' A
    have hxs' : ((A.set k E).flatMap eE).length = A.length * 5 := by rw [fm_len eE_len' (A.set k E), hlen]
    have htk : List.take (A.length * 5) (((A.set k E).flatMap eE).map AV.d) = ((A.set k E).flatMap eE).map AV.d := by
      rw [List.take_of_length_le]; rw [List.length_map, hxs']; exact Nat.le_refl _
    have hkl : (k : Int) < (A.length : Int) := by have := P.kl; omega
    have hk0 : (0 : Int) ≤ (k : Int) := by omega
    have hk5 : k * 5 + 5 ≤ ((A.flatMap eE).map AV.d).length := by rw [List.length_map, hxs]; have := P.kl; omega
    have hf : fitsN A.length 40 := by unfold fitsN; omega
    have hle : A.length * 5 ≤ (((A.set k E).flatMap eE).map AV.d).length := by rw [List.length_map, hxs']; exact Nat.le_refl _
    have hb0 : Nat.beq A.length 0 = false := by
      cases hq : A.length with
      | zero => omega
      | succ m => rfl
    simp only [B4, hxs, hkl, hk0, hk5, hf, hle, htk, hset, h18, h20, h19, hb0, h0, ownN, map_aD, toDs_map, flat_eE, List.drop_zero, Int.toNat_natCast, Nat.zero_add, bne_self_eq_false, beq_self_eq_true, Bool.false_eq_true, if_false, if_true, sem_br, sem_ask, sem_triv, sem_sees, sem_nxt, sem_ret, sem_bind_some, PC.holds, need_true, stepO_nxt]
  · rw [unbT_no he]
    have hb : (errT C == 0) = false := by simpa using he
    simp only [B4, hb, Bool.false_eq_true, if_false, sem_br, sem_nxt, stepO_nxt]
end
theorem entE_app {A B : List E5} (hA : ∀ j, j < A.length → entE (at5 A j) = 0) (hB : ∀ j, j < B.length → entE (at5 B j) = 0) : ∀ j, j < (A ++ B).length → entE (at5 (A ++ B) j) = 0 := by
  intro j hj
  rw [List.length_append] at hj
  by_cases h : j < A.length
  · have : at5 (A ++ B) j = at5 A j := by simp [at5, List.getD_eq_getElem?_getD, List.getElem?_append_left h]
    rw [this]; exact hA j h
  · have : at5 (A ++ B) j = at5 B (j - A.length) := by simp [at5, List.getD_eq_getElem?_getD, List.getElem?_append_right (Nat.le_of_not_lt h)]
    rw [this]; exact hB _ (by omega)
theorem entE_take {A : List E5} (hA : ∀ j, j < A.length → entE (at5 A j) = 0) (k : Nat) : ∀ j, j < (A.take k).length → entE (at5 (A.take k) j) = 0 := by
  intro j hj
  have hj' := hj
  rw [List.length_take] at hj'
  have : at5 (A.take k) j = at5 A j := by rw [at5_get hj, at5_get (by omega)]; simp
  rw [this]; exact hA j (by omega)
theorem entE_drop {A : List E5} (hA : ∀ j, j < A.length → entE (at5 A j) = 0) (k : Nat) : ∀ j, j < (A.drop k).length → entE (at5 (A.drop k) j) = 0 := by
  intro j hj
  have hj' := hj
  rw [List.length_drop] at hj'
  have : at5 (A.drop k) j = at5 A (k + j) := by rw [at5_get hj, at5_get (by omega)]; simp
  rw [this]; exact hA _ (by omega)
structure Hd8 (L : List DV) (x : T8) : Prop where
  c0 : dI (cel L 0) = x.1
  c1 : dI (cel L 1) = x.2.1
  c2 : dI (cel L 2) = x.2.2.1
  c3 : dI (cel L 3) = x.2.2.2.1
  c4 : dI (cel L 4) = x.2.2.2.2.1
  c5 : dI (cel L 5) = x.2.2.2.2.2.1
  c6 : dI (cel L 6) = x.2.2.2.2.2.2.1
  c7 : dI (cel L 7) = x.2.2.2.2.2.2.2
  rm : 8 ≤ L.length
  row : (L.take 8).map AV.d = [AV.d (DV.v (Value.int IntKind.u8 x.1)), AV.d (DV.v (Value.int IntKind.u8 x.2.1)), AV.d (DV.v (Value.int IntKind.u8 x.2.2.1)), AV.d (DV.v (Value.int IntKind.u8 x.2.2.2.1)), AV.d (DV.v (Value.int IntKind.u8 x.2.2.2.2.1)), AV.d (DV.v (Value.int IntKind.u8 x.2.2.2.2.2.1)), AV.d (DV.v (Value.int IntKind.u8 x.2.2.2.2.2.2.1)), AV.d (DV.v (Value.int IntKind.u8 x.2.2.2.2.2.2.2))]
theorem hd8 {S : List T8} (h : 0 < S.length) : Hd8 (S.flatMap e8) (at8 S 0) := by
  have K := k_at h
  exact ⟨by simpa using K.c0, by simpa using K.c1, by simpa using K.c2, by simpa using K.c3, by simpa using K.c4, by simpa using K.c5, by simpa using K.c6, by simpa using K.c7, by have := K.rm; rwa [Nat.zero_mul, List.drop_zero] at this, by have := K.row; rwa [Nat.zero_mul, List.drop_zero] at this⟩
section
variable {key : T8} {A : List E5} {n0 n1 n2 n3 : Int} {k a q : Nat} {b : Int}
theorem c5_c6 (hkey : keyB key) (h0 : 0 < A.length) (hl : A.length ≤ 12) (hz : ∀ j, j < A.length → entE (at5 A j) = 0) {m0 : Int} (hr : Row m0 A) (P : PickOk A.length n0 n1 n2 n3 k a q b) (e : Nat) :
    res B4 (.c5 e A.length (A.flatMap eE) A.length ((outs key A A.length).flatMap e8) (k : Int) (a : Int) b key.1 key.2.1 key.2.2.1 key.2.2.2.1 key.2.2.2.2.1 key.2.2.2.2.2.1 key.2.2.2.2.2.2.1 key.2.2.2.2.2.2.2 n0 n1 n2 n3 e) =
      res B4 (.c6 e A.length (A.flatMap eE) A.length ((outs key A A.length).flatMap e8) (k : Int) (a : Int) b key.1 key.2.1 key.2.2.1 key.2.2.2.1 key.2.2.2.2.1 key.2.2.2.2.2.1 key.2.2.2.2.2.2.1 key.2.2.2.2.2.2.2 n0 n1 n2 n3 e) := by
  have hlast := fun h => find_last (key := key) hr (k := k) h
  have hless := fun h => find_less hkey hr (k := k) h
  have hS : (outs key A A.length).length = A.length := outs_len _ _ _
  have hs1 : at8 (outs key A A.length) 0 = keyAt key A 1 := outs_at key A A.length 0 h0
  generalize outs key A A.length = S at *
  have hkl := P.kl
  have hBl : (A.take k ++ A.drop (k + 1)).length = k + (A.length - (k + 1)) := by rw [List.length_append, List.length_take, List.length_drop]; omega
  have hTl : (S.take k ++ S.drop (k + 1)).length = k + (A.length - (k + 1)) := by rw [List.length_append, List.length_take, List.length_drop]; omega
  have hs : sealE (A.take k ++ A.drop (k + 1)) = 0 := sealE_of (by omega) (entE_app (entE_take hz k) (entE_drop hz (k + 1)))
  have hL : lenE (A.take k ++ A.drop (k + 1)) (S.take k ++ S.drop (k + 1)) = 0 := by unfold lenE; rw [hTl, hBl, bne_self_eq_false]; rfl
  have h19 := F19_eq hkey (A.take k ++ A.drop (k + 1)) (by omega) (S.take k ++ S.drop (k + 1))
  rw [if_pos (firstI_all (by simp [hs, hL]))] at h19
  generalize hR : find key (A.take k ++ A.drop (k + 1)) (S.take k ++ S.drop (k + 1)) (A.take k ++ A.drop (k + 1)).length 0 = R at h19 hlast hless
  have h18 := F18_eq (A.take k ++ A.drop (k + 1)) (by omega)
  have h20 := F20ef_eq (S.take k ++ S.drop (k + 1)) (by omega)
  have h20a := F20ef_eq (S.take k) (by rw [List.length_take]; omega)
  have hSk : (S.take k).length = k := by rw [List.length_take]; omega
  have hAk : (A.take k).length = k := by rw [List.length_take]; omega
  have hAd : (A.drop (k + 1)).length = A.length - (k + 1) := by rw [List.length_drop]
  have hSd : (S.drop (k + 1)).length = A.length - (k + 1) := by rw [List.length_drop, hS]
  rw [hBl, List.flatMap_append] at h18
  rw [hTl, List.flatMap_append] at h20
  rw [hBl, hTl, List.flatMap_append, List.flatMap_append] at h19
  rw [hSk] at h20a
  have t1 : List.take (k * 5) (A.flatMap eE) = (A.take k).flatMap eE := fm_take eE_len' k A
  have t2 : List.drop ((k + 1) * 5) (A.flatMap eE) = (A.drop (k + 1)).flatMap eE := fm_drop eE_len' (k + 1) A
  have t3 : List.take (k * 8) (S.flatMap e8) = (S.take k).flatMap e8 := fm_take e8_len' k S
  have t4 : List.drop ((k + 1) * 8) (S.flatMap e8) = (S.drop (k + 1)).flatMap e8 := fm_drop e8_len' (k + 1) S
  have l1 : ((A.take k).flatMap eE).length = k * 5 := by rw [fm_len eE_len', hAk]
  have l2 : ((A.drop (k + 1)).flatMap eE).length = (A.length - (k + 1)) * 5 := by rw [fm_len eE_len', hAd]
  have l3 : (S.flatMap e8).length = A.length * 8 := by rw [fm_len e8_len', hS]
  have l4 : ((S.drop (k + 1)).flatMap e8).length = (A.length - (k + 1)) * 8 := by rw [fm_len e8_len', hSd]
  have t5 : List.take ((A.length - (k + 1)) * 8) ((S.drop (k + 1)).flatMap e8) = (S.drop (k + 1)).flatMap e8 := by rw [List.take_of_length_le]; rw [l4]; exact Nat.le_refl _
  have i0 : (0 : Int) ≤ (k : Int) := by omega
  have i1 : (k : Int) ≤ (A.length : Int) := by omega
  have i2 : inI64 ((k : Int) + 1) := by unfold inI64; omega
  have i3 : (0 : Int) ≤ (k : Int) + 1 := by omega
  have i4 : (k : Int) + 1 ≤ (A.length : Int) := by omega
  have i5 : inI64 ((A.length : Int) - 1) := by unfold inI64; omega
  have i6 : ((k : Int) + 1).toNat = k + 1 := by omega
  have i7 : (0 : Int) < (A.length : Int) := by omega
  have i8 : 8 ≤ A.length * 8 := by omega
  have f1 : fitsN k 40 := by unfold fitsN; omega
  have f2 : fitsN (k + (A.length - (k + 1))) 40 := by unfold fitsN; omega
  have f3 : fitsN (k + (A.length - (k + 1))) 8 := by unfold fitsN; omega
  have H := hd8 (S := S) (by omega)
  rw [hs1] at H
  rw [res_eq]
  have hq8 : ((keyAt key A 1).1 == key.1 && ((keyAt key A 1).2.1 == key.2.1 && ((keyAt key A 1).2.2.1 == key.2.2.1 && ((keyAt key A 1).2.2.2.1 == key.2.2.2.1 && ((keyAt key A 1).2.2.2.2.1 == key.2.2.2.2.1 && ((keyAt key A 1).2.2.2.2.2.1 == key.2.2.2.2.2.1 && ((keyAt key A 1).2.2.2.2.2.2.1 == key.2.2.2.2.2.2.1 && ((keyAt key A 1).2.2.2.2.2.2.2 == key.2.2.2.2.2.2.2 && true)))))))) = eq8 (keyAt key A 1) key := rfl
  by_cases hp : 0 < k
  · have d1 : (k : Int) > 0 := by omega
    by_cases hq : k + 1 < A.length
    · rw [hless hq (.inl hp)] at h19
      have d2 : (k : Int) < (A.length : Int) - 1 := by omega
      have d3 : ((k : Int) == (A.length : Int) - 1) = false := by rw [beq_eq_false_iff_ne]; omega
      simp only [B4, T4_5a, T4_5b, T4_5c, T4_5d, T4_5e, t1, t2, t3, t4, t5, l1, l2, l3, l4, i0, i1, i2, i3, i4, i5, i6, i7, f1, f2, f3, h18, h19, h20, h20a, d1, d2, d3, Nat.sub_zero, Nat.zero_add, List.drop_zero, List.nil_append, Int.le_refl, Int.toNat_natCast, bne_self_eq_false, beq_self_eq_true, decide_true, Bool.false_eq_true, if_false, if_true, sem_br, sem_ask, sem_triv, sem_sees, sem_nxt, sem_ret, sem_bind_some, PC.holds, need_true, stepO_nxt]
    · rw [hlast (by omega)] at h19
      have d2 : ¬ (k : Int) < (A.length : Int) - 1 := by omega
      have d3 : ((k : Int) == (A.length : Int) - 1) = true := by rw [beq_iff_eq]; omega
      simp only [B4, T4_5a, T4_5b, T4_5c, T4_5d, T4_5e, t1, t2, t3, t4, t5, l1, l2, l3, l4, i0, i1, i2, i3, i4, i5, i6, i7, f1, f2, f3, h18, h19, h20, h20a, d1, d2, d3, Nat.sub_zero, Nat.zero_add, List.drop_zero, List.nil_append, Int.le_refl, Int.toNat_natCast, bne_self_eq_false, beq_self_eq_true, decide_true, decide_false, Bool.false_eq_true, if_false, if_true, sem_br, sem_ask, sem_triv, sem_sees, sem_nxt, sem_ret, sem_bind_some, PC.holds, need_true, stepO_nxt]
  · have d1 : ¬ (k : Int) > 0 := by omega
    by_cases hs8 : eq8 (keyAt key A 1) key = true
    · simp only [B4, T4_5a, T4_5b, T4_5c, T4_5d, T4_5e, t1, t2, t3, t4, t5, l1, l2, l3, l4, i0, i1, i2, i3, i4, i5, i6, i7, f1, f2, f3, h18, h19, h20, h20a, d1, H.c0, H.c1, H.c2, H.c3, H.c4, H.c5, H.c6, H.c7, i8, H.row, hq8, hs8, Nat.zero_le, Nat.sub_zero, Nat.zero_add, List.drop_zero, List.nil_append, Int.le_refl, Int.toNat_natCast, bne_self_eq_false, beq_self_eq_true, decide_false, Bool.not_true, Bool.false_eq_true, if_false, if_true, sem_br, sem_ask, sem_triv, sem_sees, sem_nxt, sem_ret, sem_bind_some, PC.holds, need_true, stepO_nxt]
    · have hs9 : eq8 (keyAt key A 1) key = false := by simpa using hs8
      have hne : keyAt key A 1 ≠ key := fun h => hs8 (by rw [h]; exact eq8_self _)
      by_cases hq : k + 1 < A.length
      · rw [hless hq (.inr hne)] at h19
        have d2 : (k : Int) < (A.length : Int) - 1 := by omega
        have d3 : ((k : Int) == (A.length : Int) - 1) = false := by rw [beq_eq_false_iff_ne]; omega
        simp only [B4, T4_5a, T4_5b, T4_5c, T4_5d, T4_5e, t1, t2, t3, t4, t5, l1, l2, l3, l4, i0, i1, i2, i3, i4, i5, i6, i7, f1, f2, f3, h18, h19, h20, h20a, d1, d2, d3, H.c0, H.c1, H.c2, H.c3, H.c4, H.c5, H.c6, H.c7, i8, H.row, hq8, hs9, Nat.zero_le, Nat.sub_zero, Nat.zero_add, List.drop_zero, List.nil_append, Int.le_refl, Int.toNat_natCast, bne_self_eq_false, beq_self_eq_true, decide_true, decide_false, Bool.not_false, Bool.false_eq_true, if_false, if_true, sem_br, sem_ask, sem_triv, sem_sees, sem_nxt, sem_ret, sem_bind_some, PC.holds, need_true, stepO_nxt]
      · rw [hlast (by omega)] at h19
        have d2 : ¬ (k : Int) < (A.length : Int) - 1 := by omega
        have d3 : ((k : Int) == (A.length : Int) - 1) = true := by rw [beq_iff_eq]; omega
        simp only [B4, T4_5a, T4_5b, T4_5c, T4_5d, T4_5e, t1, t2, t3, t4, t5, l1, l2, l3, l4, i0, i1, i2, i3, i4, i5, i6, i7, f1, f2, f3, h18, h19, h20, h20a, d1, d2, d3, H.c0, H.c1, H.c2, H.c3, H.c4, H.c5, H.c6, H.c7, i8, H.row, hq8, hs9, Nat.zero_le, Nat.sub_zero, Nat.zero_add, List.drop_zero, List.nil_append, Int.le_refl, Int.toNat_natCast, bne_self_eq_false, beq_self_eq_true, decide_true, decide_false, Bool.not_false, Bool.false_eq_true, if_false, if_true, sem_br, sem_ask, sem_triv, sem_sees, sem_nxt, sem_ret, sem_bind_some, PC.holds, need_true, stepO_nxt]
end
theorem rowB_take8 {C : List Int} (hC : C.length = 8) : List.take 8 (rowB C) = [AV.d (DV.v (Value.int IntKind.u8 (C.getD 0 0))), AV.d (DV.v (Value.int IntKind.u8 (C.getD 1 0))), AV.d (DV.v (Value.int IntKind.u8 (C.getD 2 0))), AV.d (DV.v (Value.int IntKind.u8 (C.getD 3 0))), AV.d (DV.v (Value.int IntKind.u8 (C.getD 4 0))), AV.d (DV.v (Value.int IntKind.u8 (C.getD 5 0))), AV.d (DV.v (Value.int IntKind.u8 (C.getD 6 0))), AV.d (DV.v (Value.int IntKind.u8 (C.getD 7 0)))] := by
  match C, hC with
  | [_, _, _, _, _, _, _, _], _ => rfl
theorem bsK_tlT {C : List Int} (hC : C.length = 8) : bsK (tlT C) = C := by
  match C, hC with
  | [_, _, _, _, _, _, _, _], _ => rfl
theorem bsK_len (x : T8) : (bsK x).length = 8 := rfl
theorem bsK_b {x : T8} (h : keyB x) : ∀ b ∈ bsK x, ByteI b := by
  intro b hb
  obtain ⟨h0, h1, h2, h3, h4, h5, h6, h7⟩ := h
  simp only [bsK, List.mem_cons, List.not_mem_nil, or_false] at hb
  rcases hb with rfl | rfl | rfl | rfl | rfl | rfl | rfl | rfl <;> assumption
theorem tlT_b {C : List Int} (h : ∀ b ∈ C, ByteI b) : keyB (tlT C) := by
  have g := fun i => bytes_getD h i
  exact ⟨g 0, g 1, g 2, g 3, g 4, g 5, g 6, g 7⟩
theorem bsK_row (x : T8) : [AV.d (DV.v (Value.int IntKind.u8 x.1)), AV.d (DV.v (Value.int IntKind.u8 x.2.1)), AV.d (DV.v (Value.int IntKind.u8 x.2.2.1)), AV.d (DV.v (Value.int IntKind.u8 x.2.2.2.1)), AV.d (DV.v (Value.int IntKind.u8 x.2.2.2.2.1)), AV.d (DV.v (Value.int IntKind.u8 x.2.2.2.2.2.1)), AV.d (DV.v (Value.int IntKind.u8 x.2.2.2.2.2.2.1)), AV.d (DV.v (Value.int IntKind.u8 x.2.2.2.2.2.2.2))] = rowB (bsK x) := rfl
def othK (x : T8) (q : Nat) : List Int := (bsK x).set q (IntKind.u8.wrap ((bsK x).getD q 0 + 1))
theorem othK_len (x : T8) (q : Nat) : (othK x q).length = 8 := by unfold othK; rw [List.length_set]; rfl
theorem othK_b {x : T8} (h : keyB x) (q : Nat) : ∀ b ∈ othK x q, ByteI b := by
  intro b hb
  rcases List.mem_or_eq_of_mem_set hb with hb | hb
  · exact bsK_b h b hb
  · rw [hb, wrap_u8]; exact mb _
theorem othK_ne {x : T8} (h : keyB x) {q : Nat} (hq : q < 8) : tlT (othK x q) ≠ x := by
  intro he
  have e1 : othK x q = bsK x := by rw [← bsK_tlT (othK_len x q), he]
  have e2 : (othK x q).getD q 0 = IntKind.u8.wrap ((bsK x).getD q 0 + 1) := by
    unfold othK
    simp [List.getD_eq_getElem?_getD, bsK_len, hq]
  rw [e1, wrap_u8] at e2
  have := bytes_getD (bsK_b h) q
  unfold ByteI at this
  omega
theorem two_zero {x y : Int} (hx : x = 0) (hy : y = 0) : firstI [x, y] = 0 := by subst hx; subst hy; rfl
section
variable {key : T8} {A : List E5} {n0 n1 n2 n3 : Int} {k a q : Nat} {b : Int}
theorem c6_c7 (hkey : keyB key) (h0 : 0 < A.length) (hl : A.length ≤ 12) (hz : ∀ j, j < A.length → entE (at5 A j) = 0) {m0 : Int} (hr : Row m0 A) (P : PickOk A.length n0 n1 n2 n3 k a q b) (e : Nat) :
    ∃ y1 y2, res B4 (.c6 e A.length (A.flatMap eE) A.length ((outs key A A.length).flatMap e8) (k : Int) (a : Int) b key.1 key.2.1 key.2.2.1 key.2.2.2.1 key.2.2.2.2.1 key.2.2.2.2.2.1 key.2.2.2.2.2.2.1 key.2.2.2.2.2.2.2 n0 n1 n2 n3 e) =
      res B4 (.c7 e A.length (A.flatMap eE) A.length ((outs key A A.length).flatMap e8) (k : Int) (a : Int) b key.1 key.2.1 key.2.2.1 key.2.2.2.1 key.2.2.2.2.1 key.2.2.2.2.2.1 key.2.2.2.2.2.2.1 key.2.2.2.2.2.2.2 e y1 y2 (rowB (othK key q))) := by
  have hmore := find_more (key := key) hr P.kl
  have hS : (outs key A A.length).length = A.length := outs_len _ _ _
  generalize outs key A A.length = S at *
  have hkl := P.kl
  have hBl : (A.take k ++ [at5 A k] ++ A.drop k).length = k + 1 + (A.length - k) := by rw [List.length_append, List.length_append, List.length_take, List.length_drop, List.length_singleton]; omega
  have hTl : (S.take k ++ [at8 S k] ++ S.drop k).length = k + 1 + (A.length - k) := by rw [List.length_append, List.length_append, List.length_take, List.length_drop, List.length_singleton]; omega
  have hone : ∀ j, j < [at5 A k].length → entE (at5 [at5 A k] j) = 0 := by
    intro j hj
    have : j = 0 := by simp at hj; omega
    subst this
    exact hz k hkl
  have hs : sealE (A.take k ++ [at5 A k] ++ A.drop k) = 0 := sealE_of (by omega) (entE_app (entE_app (entE_take hz k) hone) (entE_drop hz k))
  have hL : lenE (A.take k ++ [at5 A k] ++ A.drop k) (S.take k ++ [at8 S k] ++ S.drop k) = 0 := by unfold lenE; rw [hTl, hBl, bne_self_eq_false]; rfl
  have h19 := F19_eq hkey (A.take k ++ [at5 A k] ++ A.drop k) (by omega) (S.take k ++ [at8 S k] ++ S.drop k)
  rw [if_pos (two_zero hs hL), hmore] at h19
  have h18 := F18_eq (A.take k ++ [at5 A k] ++ A.drop k) (by omega)
  have h20a := F20ef_eq (S.take k) (by rw [List.length_take]; omega)
  have hSk : (S.take k).length = k := by rw [List.length_take]; omega
  have hAk : (A.take k).length = k := by rw [List.length_take]; omega
  have hAd : (A.drop k).length = A.length - k := by rw [List.length_drop]
  have hSd : (S.drop k).length = A.length - k := by rw [List.length_drop, hS]
  have oneE : List.flatMap eE [at5 A k] = [DV.v (Value.int IntKind.i64 (at5 A k).1), DV.v (Value.int IntKind.i64 (at5 A k).2.1), DV.v (Value.int IntKind.i64 (at5 A k).2.2.1), DV.v (Value.int IntKind.i64 (at5 A k).2.2.2.1), DV.v (Value.int IntKind.i64 (at5 A k).2.2.2.2)] := rfl
  have one8 : List.flatMap e8 [at8 S k] = [DV.v (Value.int IntKind.u8 (at8 S k).1), DV.v (Value.int IntKind.u8 (at8 S k).2.1), DV.v (Value.int IntKind.u8 (at8 S k).2.2.1), DV.v (Value.int IntKind.u8 (at8 S k).2.2.2.1), DV.v (Value.int IntKind.u8 (at8 S k).2.2.2.2.1), DV.v (Value.int IntKind.u8 (at8 S k).2.2.2.2.2.1), DV.v (Value.int IntKind.u8 (at8 S k).2.2.2.2.2.2.1), DV.v (Value.int IntKind.u8 (at8 S k).2.2.2.2.2.2.2)] := rfl
  rw [hBl, List.flatMap_append, List.flatMap_append, oneE] at h18
  rw [hBl, hTl, List.flatMap_append, List.flatMap_append, List.flatMap_append, List.flatMap_append, oneE, one8] at h19
  rw [hSk] at h20a
  have t1 : List.take (k * 5) (A.flatMap eE) = (A.take k).flatMap eE := fm_take eE_len' k A
  have t2 : List.drop (k * 5) (A.flatMap eE) = (A.drop k).flatMap eE := fm_drop eE_len' k A
  have t3 : List.take (k * 8) (S.flatMap e8) = (S.take k).flatMap e8 := fm_take e8_len' k S
  have t4 : List.drop (k * 8) (S.flatMap e8) = (S.drop k).flatMap e8 := fm_drop e8_len' k S
  have l0 : (A.flatMap eE).length = A.length * 5 := fm_len eE_len' A
  have l1 : ((A.take k).flatMap eE).length = k * 5 := by rw [fm_len eE_len', hAk]
  have l2 : ((A.drop k).flatMap eE).length = (A.length - k) * 5 := by rw [fm_len eE_len', hAd]
  have l3 : (S.flatMap e8).length = A.length * 8 := by rw [fm_len e8_len', hS]
  have l4 : ((S.drop k).flatMap e8).length = (A.length - k) * 8 := by rw [fm_len e8_len', hSd]
  have t5 : List.take ((A.length - k) * 8) ((S.drop k).flatMap e8) = (S.drop k).flatMap e8 := by rw [List.take_of_length_le]; rw [l4]; exact Nat.le_refl _
  have D := ent_at hkl
  have K := k_at (l := S) (i := k) (by omega)
  have Drow := D.row
  have Krow := K.row
  rw [t2] at Drow
  rw [t4] at Krow
  have i0 : (0 : Int) ≤ (k : Int) := by omega
  have i1 : (k : Int) ≤ (A.length : Int) := by omega
  have i2 : inI64 ((k : Int) + 1) := by unfold inI64; omega
  have i3 : (k : Int) < (A.length : Int) := by omega
  have i4 : ((k + 1 : Nat) : Int) = (k : Int) + 1 := by omega
  have i5 : k * 5 ≤ A.length * 5 := by omega
  have i6 : 5 ≤ (A.length - k) * 5 := by omega
  have i7 : k * 8 ≤ A.length * 8 := by omega
  have i8 : 8 ≤ (A.length - k) * 8 := by omega
  have j0 : (0 : Int) ≤ (q : Int) := by omega
  have j1 : (q : Int) < 8 := by have := P.ql; omega
  have j2 : q + 1 ≤ 8 := by have := P.ql; omega
  have f1 : fitsN k 40 := by unfold fitsN; omega
  have f2 : fitsN (k + 1) 40 := by unfold fitsN; omega
  have f3 : fitsN (k + 1 + (A.length - k)) 40 := by unfold fitsN; omega
  have f4 : fitsN (k + 1) 8 := by unfold fitsN; omega
  have f5 : fitsN (k + 1 + (A.length - k)) 8 := by unfold fitsN; omega
  have hq : q < (bsK key).length := by rw [bsK_len]; exact P.ql
  have hcel := rowB_at (bsK key) hq
  have hget := rowB_get (bsK key) hq
  have hspl := rowB_splice hq (IntKind.u8.wrap ((bsK key).getD q 0 + 1))
  have hoth : (bsK key).set q (IntKind.u8.wrap ((bsK key).getD q 0 + 1)) = othK key q := rfl
  have href (j : Nat) (t : TypeId) := refK_rowB j (othK key q) t
  refine ⟨k + 1 + (A.length - k), 1 + (A.length - k), ?_⟩
  rw [res_eq]
  simp only [B4, t1, t2, t3, t4, t5, l0, l1, l2, l3, l4, i0, i1, i2, i3, i4, i5, i6, i7, i8, j0, j1, j2, f1, f2, f3, f4, f5, h18, h19, h20a, D.c0, D.c1, D.c2, D.c3, D.c4, Drow, K.c0, K.c1, K.c2, K.c3, K.c4, K.c5, K.c6, K.c7, Krow, P.eq, bsK_row, hcel, hget, hspl, hoth, href, Nat.sub_zero, Nat.zero_add, Nat.mul_one, List.drop_zero, List.nil_append, Int.le_refl, Int.toNat_natCast, bne_self_eq_false, beq_self_eq_true, Bool.false_eq_true, if_false, if_true, sem_br, sem_ask, sem_triv, sem_sees, sem_nxt, sem_ret, sem_bind_some, PC.holds, need_true, stepO_nxt]
  rw [need_of (by rfl), stepO_nxt]
theorem c7_c9 (hkey : keyB key) (h0 : 0 < A.length) (hl : A.length ≤ 12) (hz : ∀ j, j < A.length → entE (at5 A j) = 0) (hq : q < 8) (e y1 y2 : Nat) :
    res B4 (.c7 e A.length (A.flatMap eE) A.length ((outs key A A.length).flatMap e8) (k : Int) (a : Int) b key.1 key.2.1 key.2.2.1 key.2.2.2.1 key.2.2.2.2.1 key.2.2.2.2.2.1 key.2.2.2.2.2.2.1 key.2.2.2.2.2.2.2 e y1 y2 (rowB (othK key q))) =
      res B4 (.c9 e A.length (A.flatMap eE) (k : Int) (a : Int) b (A.length : Int) 0 key.1 key.2.1 key.2.2.1 key.2.2.2.1 key.2.2.2.2.1 key.2.2.2.2.2.1 key.2.2.2.2.2.2.1 key.2.2.2.2.2.2.2 e) := by
  have hob := tlT_b (othK_b hkey q)
  have hoth := find_other hkey hob (othK_ne hkey hq) h0
  have hS : (outs key A A.length).length = A.length := outs_len _ _ _
  generalize outs key A A.length = S at *
  have hs : sealE A = 0 := sealE_of (by omega) hz
  have hL : lenE A S = 0 := by unfold lenE; rw [hS, bne_self_eq_false]; rfl
  have h19 := F19_eq hob A (by omega) S
  rw [if_pos (two_zero hs hL), hoth, hS] at h19
  have h18 := F18_eq A (by omega)
  have h20 := F20ef_eq S (by omega)
  rw [hS] at h20
  have hCl := othK_len key q
  generalize othK key q = C at *
  simp only [tlT] at h19
  have g (j : Nat) (hj : j < 8) : dI (celA (rowB C) j) = C.getD j 0 := rowB_at _ (by omega)
  have ht := rowB_take8 hCl
  have hr8 : (rowB C).length = 8 := by rw [rowB_len, hCl]
  rw [res_eq]
  simp only [B4, h18, h20, h19, g 0 (by decide), g 1 (by decide), g 2 (by decide), g 3 (by decide), g 4 (by decide), g 5 (by decide), g 6 (by decide), g 7 (by decide), ht, hr8, Nat.le_refl, List.drop_zero, sem_br, sem_ask, sem_triv, sem_sees, sem_nxt, sem_ret, sem_bind_some, PC.holds, need_true, stepO_nxt]
  rw [res_eq]
  simp only [B4, bne_self_eq_false, Bool.false_eq_true, if_false, sem_br, sem_triv, sem_ask, sem_nxt, sem_sees, stepO_nxt]
end
def pE (i : Nat) (x : E5) : E5 := (x.1, 10 * (i : Int) + 5, x.2.2.1, x.2.2.2.1, x.2.2.2.2)
def pQ (A : List E5) : List E5 := (List.range' 0 A.length).map fun i => pE i (at5 A i)
theorem pQ_len (A : List E5) : (pQ A).length = A.length := by simp [pQ]
theorem pQ_at {A : List E5} {i : Nat} (hi : i < A.length) : at5 (pQ A) i = pE i (at5 A i) := at5_range hi
theorem scan_of {l : List E5} : ∀ {k i : Nat}, (∀ j, i ≤ j → j < i + k → errAt l j = 0) → scan l k i = 0
  | 0, _, _ => rfl
  | k + 1, i, h => by
    simp only [scan, h i (Nat.le_refl _) (by omega), if_true]
    exact scan_of fun j h1 h2 => h j (by omega) (by omega)
theorem pQ_prof {A : List E5} (hl : A.length ≤ 12) (hz : ∀ j, j < A.length → entE (at5 A j) = 0) {m0 : Int} (hr : Row m0 A) : profI 20 (pQ A) = 0 := by
  have hq : ∀ j, j < A.length → entE (at5 (pQ A) j) = 0 := by
    intro j hj
    obtain ⟨e1, e2, e3, e4, e5⟩ := entI_zero.1 (hz j hj)
    rw [pQ_at hj]
    exact entI_zero.2 ⟨e1, ⟨by simp only [pE]; omega, by simp only [pE]; omega⟩, e3, e4, e5⟩
  unfold profI
  have h1 : whenI (decide (((pQ A).length : Int) > 20)) 5 = 0 := by
    rw [pQ_len]
    have : ¬ (A.length : Int) > 20 := by omega
    simp only [this, decide_false]; rfl
  rw [if_pos (two_zero (by decide) h1)]
  refine scan_of fun j _ hj => ?_
  rw [pQ_len] at hj
  unfold errAt
  refine two_zero (hq j (by omega)) ?_
  by_cases h0 : j = 0
  · rw [if_pos h0]
  · rw [if_neg h0]
    have hf : fol (at5 (pQ A) j) (at5 (pQ A) (j - 1)) = true := by
      rw [pQ_at (by omega), pQ_at (by omega)]
      have e1 := hr j (by omega)
      have e2 := hr (j - 1) (by omega)
      have e3 : ((at5 A j).1 == (at5 A (j - 1)).1 + 1) = true := by rw [beq_iff_eq, e1, e2]; omega
      have e4 : (10 * (j : Int) + 5) > 10 * ((j - 1 : Nat) : Int) + 5 := by omega
      show (if ((at5 A j).1 == (at5 A (j - 1)).1 + 1) = true then decide ((10 * (j : Int) + 5) > 10 * ((j - 1 : Nat) : Int) + 5) else false) = true
      rw [if_pos e3]
      exact decide_eq_true e4
    rw [hf]; rfl
section
variable {key : T8} {A : List E5} {n0 n1 n2 n3 : Int} {k a q : Nat} {b : Int} (K P Y : Int)
theorem loop_c10 (hl : A.length ≤ 12) : ∀ (m i e y : Nat), A.length = i + m →
    ∃ y', res B4 (.c10 e A.length (A.flatMap eE) K P Y (A.length : Int) (i : Int) key.1 key.2.1 key.2.2.1 key.2.2.2.1 key.2.2.2.2.1 key.2.2.2.2.2.1 key.2.2.2.2.2.2.1 key.2.2.2.2.2.2.2 e y i (((pQ A).take i).flatMap eE) y) =
      res B4 (.c10 e A.length (A.flatMap eE) K P Y (A.length : Int) (A.length : Int) key.1 key.2.1 key.2.2.1 key.2.2.2.1 key.2.2.2.2.1 key.2.2.2.2.2.1 key.2.2.2.2.2.2.1 key.2.2.2.2.2.2.2 e y' A.length ((pQ A).flatMap eE) y')
  | 0, i, e, y, hm => by
    have hi : i = A.length := by omega
    subst hi
    exact ⟨y, by rw [List.take_of_length_le (by rw [pQ_len]; exact Nat.le_refl _)]⟩
  | m + 1, i, e, y, hm => by
    have hi : i < A.length := by omega
    have h1 : (i : Int) < (A.length : Int) := by omega
    have D := ent_at hi
    obtain ⟨y', ih⟩ := loop_c10 hl m (i + 1) e (y + 1) (by omega)
    refine ⟨y', ?_⟩
    rw [← ih]
    have hin : inI64 ((i : Int) + 1) := by unfold inI64; omega
    have hi2 : inI64 (10 * (i : Int)) := by unfold inI64; omega
    have hi3 : inI64 (10 * (i : Int) + 5) := by unfold inI64; omega
    have hf : fitsN (i + 1) 40 := by unfold fitsN; omega
    rw [take_snoc (by rw [pQ_len]; exact hi), pQ_at hi]
    have hrow : List.map AV.d (eE (at5 A i)) = [AV.d (DV.v (Value.int IntKind.i64 (at5 A i).1)), AV.d (DV.v (Value.int IntKind.i64 (at5 A i).2.1)), AV.d (DV.v (Value.int IntKind.i64 (at5 A i).2.2.1)), AV.d (DV.v (Value.int IntKind.i64 (at5 A i).2.2.2.1)), AV.d (DV.v (Value.int IntKind.i64 (at5 A i).2.2.2.2))] := rfl
    rw [res_eq]
    simp only [B4, D.c0, D.c1, D.c2, D.c3, D.c4, D.le, D.rm, D.row, hrow, h1, hin, hi2, hi3, hf, Int.toNat_natCast, Int.natCast_nonneg, decide_true, if_true, sem_br, sem_ask, sem_triv, sem_sees, sem_nxt, sem_ret, sem_bind_some, PC.holds, need_true, stepO_nxt]
    rfl
theorem start_c9 (h0 : 0 < A.length) (hl : A.length ≤ 12) (e : Nat) :
    ∃ y', res B4 (.c9 e A.length (A.flatMap eE) K P Y (A.length : Int) 0 key.1 key.2.1 key.2.2.1 key.2.2.2.1 key.2.2.2.2.1 key.2.2.2.2.2.1 key.2.2.2.2.2.2.1 key.2.2.2.2.2.2.2 e) =
      res B4 (.c10 e A.length (A.flatMap eE) K P Y (A.length : Int) (A.length : Int) key.1 key.2.1 key.2.2.1 key.2.2.2.1 key.2.2.2.2.1 key.2.2.2.2.2.1 key.2.2.2.2.2.2.1 key.2.2.2.2.2.2.2 e y' A.length ((pQ A).flatMap eE) y') := by
  have h1 : (0 : Int) < (A.length : Int) := by omega
  have D := ent_at h0
  obtain ⟨y', ih⟩ := loop_c10 (key := key) (A := A) K P Y hl (A.length - 1) 1 e 0 (by omega)
  refine ⟨y', ?_⟩
  rw [← ih]
  have hin : inI64 ((0 : Int) + 1) := by unfold inI64; omega
  have hi2 : inI64 (10 * (0 : Int)) := by unfold inI64; omega
  have hi3 : inI64 (10 * (0 : Int) + 5) := by unfold inI64; omega
  rw [take_snoc (by rw [pQ_len]; exact h0), pQ_at h0]
  have hrow : List.map AV.d (eE (at5 A 0)) = [AV.d (DV.v (Value.int IntKind.i64 (at5 A 0).1)), AV.d (DV.v (Value.int IntKind.i64 (at5 A 0).2.1)), AV.d (DV.v (Value.int IntKind.i64 (at5 A 0).2.2.1)), AV.d (DV.v (Value.int IntKind.i64 (at5 A 0).2.2.2.1)), AV.d (DV.v (Value.int IntKind.i64 (at5 A 0).2.2.2.2))] := rfl
  rw [res_eq]
  simp only [B4, D.c0, D.c1, D.c2, D.c3, D.c4, D.le, D.rm, D.row, hrow, h1, hin, hi2, hi3, Int.toNat_zero, Int.le_refl, decide_true, if_true, sem_br, sem_ask, sem_triv, sem_sees, sem_nxt, sem_ret, sem_bind_some, PC.holds, need_true, stepO_nxt]
  rfl
end
theorem rowB_map (S : List Int) : (S.map vB).map AV.d = rowB S := by rw [List.map_map]; rfl
theorem rowB_aD (S : List Int) : (rowB S).map aD = S.map vB := by rw [rowB, List.map_map]; rfl
theorem toDs_rowB (S : List Int) : toDs (rowB S) = some (S.map vB) := by rw [← rowB_map, toDs_map]
section
variable {key : T8} {n0 n1 n2 n3 : Int} {k a q : Nat} {b : Int}
structure StrOk (key : T8) (Q : List E5) (S : List Int) (k a : Nat) (b : Int) : Prop where
  len : S.length = 14 + 16 * Q.length
  pack : F7 key.1 key.2.1 key.2.2.1 key.2.2.2.1 key.2.2.2.2.1 key.2.2.2.2.2.1 key.2.2.2.2.2.2.1 key.2.2.2.2.2.2.2 20 Q.length (Q.flatMap eE) = some (S.length, S.map vB, 0)
  unp : F9 key.1 key.2.1 key.2.2.1 key.2.2.2.1 key.2.2.2.2.1 key.2.2.2.2.2.1 key.2.2.2.2.2.2.1 key.2.2.2.2.2.2.2 S.length (S.map vB) = some (20, Q.length, Q.flatMap eE, 0)
  byt : ByteI (S.getD (6 + 16 * k + a) 0)
  brk : ∃ x y z e, e ≠ 0 ∧ F9 key.1 key.2.1 key.2.2.1 key.2.2.2.1 key.2.2.2.2.1 key.2.2.2.2.2.1 key.2.2.2.2.2.2.1 key.2.2.2.2.2.2.2 S.length ((S.set (6 + 16 * k + a) (newB S (6 + 16 * k + a) b)).map vB) = some (x, y, z, e)
theorem str_ok (hkey : keyB key) {Q : List E5} (h12 : Q.length ≤ 12) (hp : profI 20 Q = 0) (hk : k < Q.length) (ha : a < 15) (hb : 1 ≤ b ∧ b ≤ 255) : StrOk key Q (packS 20 key Q) k a b := by
  have hz := (prof_zero hp).2.2
  have hlen := packS_len 20 key Q
  have hB := packS_b 20 hkey Q
  have h5 : (packS 20 key Q).getD 5 0 = (Q.length : Int) := by
    have : (packS 20 key Q).getD 5 0 = IntKind.u8.wrap (Q.length : Int) := rfl
    rw [this, wrap_u8]; omega
  have h4 : (packS 20 key Q).take 4 = [80, 82, 79, 70] := rfl
  have h20 : (packS 20 key Q).getD 4 0 = 20 := by
    have : (packS 20 key Q).getD 4 0 = IntKind.u8.wrap 20 := rfl
    rw [this, wrap_u8]; rfl
  have h7 := F7_eq hkey 20 Q (by omega)
  rw [if_pos hp, ← packS_map, show 6 + 16 * Q.length + 8 = (packS 20 key Q).length by rw [hlen]; omega] at h7
  have h9 := F9_ok hkey hB hlen (by omega) h5 h4
  rw [h20, unp_pack hp] at h9
  have hch := packS_ch 20 key Q hk
  have hget : (packS 20 key Q).getD (6 + 16 * k + a) 0 = (bsE (at5 Q k)).getD a 0 := by
    rw [← hch]
    unfold ch
    rw [List.getD_eq_getElem?_getD, List.getD_eq_getElem?_getD, List.getElem?_take, if_pos (by omega), List.getElem?_drop]
  refine ⟨hlen, h7, h9, bytes_getD hB _, ?_⟩
  generalize hc : newB (packS 20 key Q) (6 + 16 * k + a) b = c
  have hne : c ≠ (bsE (at5 Q k)).getD a 0 := by rw [← hc, ← hget]; exact newB_ne hB hb
  have hcb : ByteI c := by rw [← hc]; exact newB_b _ _ _
  obtain ⟨x, y, z, e, he, hu⟩ := unp_broken (r := 20) hkey hz hk ha hcb hne
  refine ⟨x, y, z, e, he, ?_⟩
  have hB' : ∀ v ∈ (packS 20 key Q).set (6 + 16 * k + a) c, ByteI v := by
    intro v hv
    rcases List.mem_or_eq_of_mem_set hv with hv | hv
    · exact hB v hv
    · rw [hv]; exact hcb
  have hg (j : Nat) (hj : j < 6) : ((packS 20 key Q).set (6 + 16 * k + a) c).getD j 0 = (packS 20 key Q).getD j 0 := by
    rw [List.getD_eq_getElem?_getD, List.getD_eq_getElem?_getD, List.getElem?_set_ne (by omega)]
  have hlen' : ((packS 20 key Q).set (6 + 16 * k + a) c).length = 14 + 16 * Q.length := by rw [List.length_set]; exact hlen
  have h4' : ((packS 20 key Q).set (6 + 16 * k + a) c).take 4 = [80, 82, 79, 70] := by rw [List.take_set_of_le (by omega)]; exact h4
  have h9' := F9_ok hkey hB' hlen' (by omega) (by rw [hg 5 (by decide)]; exact h5) h4'
  rw [hg 4 (by decide), h20, hu, List.length_set] at h9'
  exact h9'
variable {A : List E5}
theorem exit_c10 (hkey : keyB key) (h0 : 0 < A.length) (hl : A.length ≤ 12) (hz : ∀ j, j < A.length → entE (at5 A j) = 0) {m0 : Int} (hr : Row m0 A) (P : PickOk A.length n0 n1 n2 n3 k a q b) (e y : Nat) (X : List DV) (z : Int) (F6t : F6 = some true) :
    res B4 (.c10 e A.length X (k : Int) (a : Int) b z z key.1 key.2.1 key.2.2.1 key.2.2.2.1 key.2.2.2.2.1 key.2.2.2.2.2.1 key.2.2.2.2.2.2.1 key.2.2.2.2.2.2.2 e y A.length ((pQ A).flatMap eE) y) = some true := by
  have hp := pQ_prof hl hz hr
  have hQl := pQ_len A
  have T := str_ok (k := k) (a := a) (b := b) hkey (Q := pQ A) (by omega) hp (by rw [hQl]; exact P.kl) P.al P.bl
  have h8 := F8_eq 20 (pQ A) (by omega)
  have h14 := F14_eq 20 (pQ A) (by omega)
  have h13 := F13_eq 20 (pQ A) (by omega)
  obtain ⟨Tl, T7, T9, Tb, x1, x2, x3, x4, hx4, Tk⟩ := T
  generalize packS 20 key (pQ A) = S at *
  rw [hQl] at h8 h14 h13 Tl T7 T9
  have hkl := P.kl
  have hal := P.al
  have hbl := P.bl
  have p0 : 6 + 16 * (k : Int) + (a : Int) = ((6 + 16 * k + a : Nat) : Int) := by omega
  have hp0 : 6 + 16 * k + a < S.length := by omega
  generalize hpp : 6 + 16 * k + a = p at *
  have i1 : inI64 (16 * (A.length : Int)) := by unfold inI64; omega
  have i2 : inI64 (14 + 16 * (A.length : Int)) := by unfold inI64; omega
  have i3 : inI64 (16 * (k : Int)) := by unfold inI64; omega
  have i4 : inI64 (6 + 16 * (k : Int)) := by unfold inI64; omega
  have i5 : inI64 ((p : Nat) : Int) := by unfold inI64; omega
  have i6 : (0 : Int) ≤ ((p : Nat) : Int) := by omega
  have i7 : ((p : Nat) : Int) < (S.length : Int) := by omega
  have i8 : p + 1 ≤ S.length := by omega
  have i9 : 0 < S.length := by omega
  have ib : inI64 (IntKind.i64.wrap (S.getD p 0) + b) := by
    rw [wrap_in (by unfold ByteI at Tb; unfold inI64; omega)]
    unfold ByteI at Tb; unfold inI64; omega
  have f1 : fitsN S.length 1 := by unfold fitsN; omega
  have hne : ((S.length : Int) != 14 + 16 * (A.length : Int)) = false := by rw [bne_eq_false_iff_eq]; omega
  have hvl : (S.map vB).length = S.length := List.length_map ..
  have hrl : (rowB S).length = S.length := rowB_len S
  have hcel := rowB_at S hp0
  have hget := rowB_get S hp0
  have hspl := rowB_splice hp0 (newB S p b)
  have hnb : IntKind.u8.wrap ((IntKind.i64.wrap (S.getD p 0) + b).tmod 256) = newB S p b := rfl
  have href (j : Nat) (t : TypeId) := refK_rowB j (S.set p (newB S p b)) t
  have hz1 : decide (z < z) = false := by simp
  rw [res_eq]
  simp only [B4, hz1, h8, h14, h13, T7, T9, p0, i1, i2, i3, i4, i5, i6, i7, i8, i9, ib, f1, hne, hvl, hrl, rowB_map, hcel, hget, hspl, hnb, href, Nat.zero_add, Nat.mul_one, List.nil_append, Int.toNat_natCast, bne_self_eq_false, beq_self_eq_true, Bool.not_true, Bool.false_eq_true, if_false, if_true, sem_br, sem_ask, sem_triv, sem_sees, sem_nxt, sem_ret, sem_bind_some, PC.holds, need_true, stepO_nxt]
  have hS' : (S.set p (newB S p b)).length = S.length := List.length_set ..
  generalize S.set p (newB S p b) = C at *
  have htk : List.take S.length (rowB C) = rowB C := by rw [List.take_of_length_le]; rw [rowB_len, hS']; exact Nat.le_refl _
  have hcl : (rowB C).length = S.length := by rw [rowB_len, hS']
  have hx : (x4 != 0) = true := by simpa using hx4
  rw [res_eq]
  simp only [B4, htk, hcl, toDs_rowB, rowB_aD, Nat.le_refl, Nat.zero_add, Nat.mul_one, List.drop_zero, sem_br, sem_ask, sem_triv, sem_sees, sem_nxt, PC.holds, need_true, stepO_nxt]
  rw [res_eq]
  simp only [B4, Tk, F6t, hx, if_true, sem_br, sem_ask, sem_triv, sem_sees, sem_ret, sem_bind_some, stepO_ret]
end
theorem guards_true {key : T8} (hkey : keyB key) (l : List W4) (hl : l.length ≤ maxLen ∧ ∀ x ∈ l, okW x) (n0 n1 n2 n3 : Int) (hn : (0 ≤ n0 ∧ n0 ≤ 255) ∧ (0 ≤ n1 ∧ n1 ≤ 255) ∧ (0 ≤ n2 ∧ n2 ≤ 255) ∧ (0 ≤ n3 ∧ n3 ≤ 255)) :
    F4 key.1 key.2.1 key.2.2.1 key.2.2.2.1 key.2.2.2.2.1 key.2.2.2.2.2.1 key.2.2.2.2.2.2.1 key.2.2.2.2.2.2.2 l.length (l.flatMap wE) n0 n1 n2 n3 = some true := by
  have F6t : F6 = some true := rfl
  unfold F4
  rw [res_eq]
  by_cases hc : 0 < l.length ∧ l.length ≤ 12
  · obtain ⟨h0, h12⟩ := hc
    have c1 : ¬ (l.length : Int) < 1 := by omega
    have c2 : ¬ (l.length : Int) > 12 := by omega
    have hz := mks_ok h12 hl.2
    have hr := mks_row l
    have hA := mks_len l
    simp only [B4, c1, c2, decide_false, Bool.false_eq_true, if_false, sem_br, sem_triv, sem_nxt, stepO_nxt]
    obtain ⟨e, he⟩ := start_c1 (key := key) n0 n1 n2 n3 h0 h12 hl.2
    rw [he, ← hA]
    have P := pick_ok (n := (mks l).length) (by omega) hn.1 hn.2.1 hn.2.2.1 hn.2.2.2
    generalize mks l = A at *
    rw [exit_c2 hkey (by omega) (by omega) hz hr P, c3_c5 hkey (by omega) (by omega) hz hr P, c5_c6 hkey (by omega) (by omega) hz hr P]
    obtain ⟨y1, y2, h67⟩ := c6_c7 hkey (by omega) (by omega) hz hr P e
    rw [h67, c7_c9 hkey (by omega) (by omega) hz P.ql]
    obtain ⟨y, h9⟩ := start_c9 (key := key) (A := A) _ _ _ (by omega) (by omega) e
    rw [h9]
    exact exit_c10 hkey (by omega) (by omega) hz hr P e y _ _ F6t
  · have hb : (if decide ((l.length : Int) < 1) = true then true else decide ((l.length : Int) > 12)) = true := by
      by_cases h : (l.length : Int) < 1
      · simp [h]
      · rw [if_neg (by simpa using h)]
        exact decide_eq_true (by omega)
    simp only [B4, hb, if_true, F6t, sem_br, sem_triv, sem_sees, sem_bind_some, sem_ret, stepO_ret]
end Go.Kv
