/- Streams that are taken apart, in plain Lean: the reference's function. -/
import Derived.Test.YtjpmpeknnfhccaaGreatDoorKT2
namespace Go.Kv
set_option linter.unusedVariables false
set_option linter.unusedSimpArgs false
open Go Go.RowKit
set_option maxRecDepth 100000
theorem u8_beq {a b : Int} (ha : ByteI a) (hb : ByteI b) : (UInt8.ofNat a.toNat == UInt8.ofNat b.toNat) = (a == b) := by
  unfold ByteI at ha hb
  have e : ∀ x : Int, 0 ≤ x ∧ x ≤ 255 → (UInt8.ofNat x.toNat).toNat = x.toNat := fun x hx => by
    rw [UInt8.toNat_ofNat']; exact Nat.mod_eq_of_lt (by omega)
  rw [Bool.eq_iff_iff, beq_iff_eq, beq_iff_eq]
  constructor
  · intro h
    have := congrArg UInt8.toNat h
    rw [e a ha, e b hb] at this
    omega
  · intro h; rw [h]
theorem pushAll_list : ∀ (ns : List Int) (s : ByteArray), (pushAll ns s).toList = s.toList ++ ns.map fun n => UInt8.ofNat n.toNat
  | [], s => by simp [pushAll]
  | n :: ns, s => by
    rw [pushAll, pushAll_list ns, ByteArray.toList_eq, ByteArray.toList_eq]
    simp [ByteArray.push]
theorem eight {T : List Int} (h : T.length = 8) : T = [T.getD 0 0, T.getD 1 0, T.getD 2 0, T.getD 3 0, T.getD 4 0, T.getD 5 0, T.getD 6 0, T.getD 7 0] := by
  match T, h with
  | [a, b, c, d, e, f, g, i], _ => rfl
theorem byB_map (S : List Int) : (S.map vB).map byB = S := by
  rw [List.map_map]
  exact List.map_id'' (fun x => rfl) S
theorem str_eq8' {k : T8} (hk : keyB k) {t0 t1 t2 t3 t4 t5 t6 t7 : Int} (h0 : ByteI t0) (h1 : ByteI t1) (h2 : ByteI t2) (h3 : ByteI t3) (h4 : ByteI t4) (h5 : ByteI t5) (h6 : ByteI t6) (h7 : ByteI t7) : ((pushAll [k.1, k.2.1, k.2.2.1, k.2.2.2.1, k.2.2.2.2.1, k.2.2.2.2.2.1, k.2.2.2.2.2.2.1, k.2.2.2.2.2.2.2] ByteArray.empty).toList == (pushAll [t0, t1, t2, t3, t4, t5, t6, t7] ByteArray.empty).toList) = eq8 k (t0, t1, t2, t3, t4, t5, t6, t7) := by
  obtain ⟨g0, g1, g2, g3, g4, g5, g6, g7⟩ := hk
  rw [pushAll_list, pushAll_list]
  simp only [ByteArray.toList_empty, List.nil_append, List.map_cons, List.map_nil, List.cons_beq_cons, u8_beq g0 h0, u8_beq g1 h1, u8_beq g2 h2, u8_beq g3 h3, u8_beq g4 h4, u8_beq g5 h5, u8_beq g6 h6, u8_beq g7 h7]
  rfl
theorem str_eq8 {k : T8} (hk : keyB k) {T : List Int} (h : T.length = 8) (hb : ∀ b ∈ T, ByteI b) : ((pushAll [k.1, k.2.1, k.2.2.1, k.2.2.2.1, k.2.2.2.2.1, k.2.2.2.2.2.1, k.2.2.2.2.2.2.1, k.2.2.2.2.2.2.2] ByteArray.empty).toList == (pushAll T ByteArray.empty).toList) = eq8 k (tlT T) := by
  have e := str_eq8' hk (bytes_getD hb 0) (bytes_getD hb 1) (bytes_getD hb 2) (bytes_getD hb 3) (bytes_getD hb 4) (bytes_getD hb 5) (bytes_getD hb 6) (bytes_getD hb 7)
  rw [← eight h] at e
  exact e
theorem splA {L : List DV} (h : L.length = 16) : spliceA [AV.d (DV.v (Value.int IntKind.u8 0)), AV.d (DV.v (Value.int IntKind.u8 0)), AV.d (DV.v (Value.int IntKind.u8 0)), AV.d (DV.v (Value.int IntKind.u8 0)), AV.d (DV.v (Value.int IntKind.u8 0)), AV.d (DV.v (Value.int IntKind.u8 0)), AV.d (DV.v (Value.int IntKind.u8 0)), AV.d (DV.v (Value.int IntKind.u8 0)), AV.d (DV.v (Value.int IntKind.u8 0)), AV.d (DV.v (Value.int IntKind.u8 0)), AV.d (DV.v (Value.int IntKind.u8 0)), AV.d (DV.v (Value.int IntKind.u8 0)), AV.d (DV.v (Value.int IntKind.u8 0)), AV.d (DV.v (Value.int IntKind.u8 0)), AV.d (DV.v (Value.int IntKind.u8 0)), AV.d (DV.v (Value.int IntKind.u8 0))] 0 (List.map AV.d L) = List.map AV.d L := by
  unfold spliceA
  rw [List.take_zero, List.nil_append, List.length_map, h]
  simp
theorem celA_map (L : List DV) (k : Nat) : celA (List.map AV.d L) k = cel L k := by
  unfold celA cel
  simp only [List.getD_eq_getElem?_getD, List.getElem?_map]
  cases L[k]? <;> rfl
theorem rowA16 {S : List Int} (h : S.length = 16) : List.take 16 (List.map AV.d (S.map vB)) = [AV.d (DV.v (Value.int IntKind.u8 (S.getD 0 0))), AV.d (DV.v (Value.int IntKind.u8 (S.getD 1 0))), AV.d (DV.v (Value.int IntKind.u8 (S.getD 2 0))), AV.d (DV.v (Value.int IntKind.u8 (S.getD 3 0))), AV.d (DV.v (Value.int IntKind.u8 (S.getD 4 0))), AV.d (DV.v (Value.int IntKind.u8 (S.getD 5 0))), AV.d (DV.v (Value.int IntKind.u8 (S.getD 6 0))), AV.d (DV.v (Value.int IntKind.u8 (S.getD 7 0))), AV.d (DV.v (Value.int IntKind.u8 (S.getD 8 0))), AV.d (DV.v (Value.int IntKind.u8 (S.getD 9 0))), AV.d (DV.v (Value.int IntKind.u8 (S.getD 10 0))), AV.d (DV.v (Value.int IntKind.u8 (S.getD 11 0))), AV.d (DV.v (Value.int IntKind.u8 (S.getD 12 0))), AV.d (DV.v (Value.int IntKind.u8 (S.getD 13 0))), AV.d (DV.v (Value.int IntKind.u8 (S.getD 14 0))), AV.d (DV.v (Value.int IntKind.u8 (S.getD 15 0)))] := by
  rw [← List.map_take]; exact row16 (by omega)
section
variable {key : T8} {S : List Int} {n : Nat} {r : Int}
theorem chM (S : List Int) (i : Nat) : List.take 16 (List.drop (6 + 16 * i) (S.map vB)) = (ch S i).map vB := by
  unfold ch; rw [List.map_take, List.map_drop]
theorem chT {S : List Int} {i : Nat} (h : (ch S i).length = 16) : List.take 16 ((ch S i).map vB) = (ch S i).map vB := List.take_of_length_le (by rw [List.length_map]; omega)
theorem F12_fin (hS : S.length = 14 + 16 * n) (hn : n ≤ 255) (hkey : keyB key) (hB : ∀ b ∈ S, ByteI b) (es : List E5) (hes : es.length ≤ 256) (hz : ∀ j, j < es.length → entE (at5 es j) = 0) (e e' : Nat) :
    res B12 (.c2 S.length (S.map vB) (n : Int) (n : Int) key.1 key.2.1 key.2.2.1 key.2.2.2.1 key.2.2.2.2.1 key.2.2.2.2.2.1 key.2.2.2.2.2.2.1 key.2.2.2.2.2.2.2 r e es.length (es.flatMap eE) e') = some (finO r es (fin key r es (tlT (tl S n)))) := by
  have h8 : S.length - (6 + 16 * n) = 8 := by omega
  have hi1 : inI64 (16 * (n : Int)) := by unfold inI64; omega
  have hi2 : inI64 (6 + 16 * (n : Int)) := by unfold inI64; omega
  have hc1 : (0 : Int) ≤ 6 + 16 * (n : Int) := by omega
  have hc2 : 6 + 16 * (n : Int) ≤ (S.length : Int) := by omega
  have hTl := tl_len hS
  have hTb : ∀ b ∈ tl S n, ByteI b := fun b hb => hB b (List.mem_of_mem_drop (List.mem_of_mem_take hb))
  have hst := str_eq8 (keyAt_b hkey es es.length) hTl hTb
  rw [res_eq]
  simp only [B12, F52_eq' hkey es hes hz, sem_br, sem_ask, sem_triv, sem_sees, sem_bind_some, sem_ret, PC.holds, need_true, Int.lt_irrefl, decide_false, Bool.false_eq_true, if_false, toN, Int.toNat_natCast, Nat.mul_one, h8, hi1, hi2, hc1, hc2, Int.le_refl, List.length_map, tl_map, hTl, isB_map, byB_map, hst, F10_eq r es (show es.length ≤ 1000 by omega)]
  unfold finO fin
  cases hq : eq8 (keyAt key es es.length) (tlT (tl S n))
  · simp only [Bool.not_false, if_true, stepO_ret, whenI, firstI]; rfl
  · have hw : whenI false 27 = 0 := rfl
    simp only [Bool.not_true, Bool.false_eq_true, if_false, hw, firstI, if_true]
    by_cases h0 : profI r es = 0
    · simp only [h0, bne_self_eq_false, Bool.false_eq_true, if_false, if_true, stepO_ret]
    · have h0' : (profI r es != 0) = true := by simpa using h0
      simp only [h0, h0', if_true, if_false, stepO_ret]

theorem F12_c2 (hS : S.length = 14 + 16 * n) (hn : n ≤ 255) (hkey : keyB key) (hB : ∀ b ∈ S, ByteI b) : ∀ (m i e : Nat) (es : List E5), n = i + m → es.length = i → (∀ j, j < es.length → entE (at5 es j) = 0) →
    res B12 (.c2 S.length (S.map vB) (n : Int) (i : Int) key.1 key.2.1 key.2.2.1 key.2.2.2.1 key.2.2.2.2.1 key.2.2.2.2.2.1 key.2.2.2.2.2.2.1 key.2.2.2.2.2.2.2 r e es.length (es.flatMap eE) e) = some (unpF key r S n m i es)
  | 0, i, e, es, hm, he, hz => by
    have hi : i = n := by omega
    subst hi
    exact F12_fin hS hn hkey hB es (by omega) hz e e
  | m + 1, i, e, es, hm, he, hz => by
    have hi : i < n := by omega
    have h1 : (i : Int) < (n : Int) := by omega
    have hin1 : inI64 (16 * (i : Int)) := by unfold inI64; omega
    have hin2 : inI64 (6 + 16 * (i : Int)) := by unfold inI64; omega
    have hin3 : inI64 (22 + 16 * (i : Int)) := by unfold inI64; omega
    have hin4 : inI64 ((i : Int) + 1) := by unfold inI64; omega
    have ha1 : (0 : Int) ≤ 6 + 16 * (i : Int) := by omega
    have ha2 : 6 + 16 * (i : Int) ≤ 22 + 16 * (i : Int) := by omega
    have ha3 : 22 + 16 * (i : Int) ≤ (S.length : Int) := by omega
    have t22 : (22 + 16 * (i : Int)).toNat = 22 + 16 * i := by omega
    have hs : 22 + 16 * i - (6 + 16 * i) = 16 := by omega
    have hlen := ch_len hS hi
    have hlm : ((ch S i).map vB).length = 16 := by rw [List.length_map]; exact hlen
    have hF := F53_T (ch_b hB i)
    have hf : fitsN (es.length + 1) 40 := by unfold fitsN; omega
    rw [res_eq]
    simp only [B12, sem_br, sem_ask, sem_nxt, sem_triv, sem_sees, sem_ret, sem_bind_some, PC.holds, need_true, toN, t22, hs, Nat.min_self, Nat.zero_add, Nat.mul_one, h1, hin1, hin2, hin3, hin4, ha1, ha2, ha3, chM, chT hlen, hlm, splA hlm, List.drop_zero, celA_map, rowA16 hlen, dI_B, List.length_map, hlen, decide_true, if_true, Nat.le_refl, hF, hf]
    unfold unpF
    by_cases hE : errT (ch S i) = 0
    · have ih := F12_c2 hS hn hkey hB m (i + 1) (e + 1) (es ++ [entT (ch S i)]) (by omega) (by simp; omega) (ok_snoc hz (errT_ent hE))
      rw [if_pos hE, unbT_ok hE]
      simp only [bne_self_eq_false, Bool.false_eq_true, if_false, stepO_nxt]
      rw [← ih, List.flatMap_append, List.flatMap_singleton, List.length_append]
      rfl
    · rw [if_neg hE, unbT_no hE]
      have hE' : (errT (ch S i) != 0) = true := by simpa using hE
      simp only [hE', if_true, stepO_ret]
theorem F12_c1 (hS : S.length = 14 + 16 * n) (hn : n ≤ 255) (hkey : keyB key) (hB : ∀ b ∈ S, ByteI b) :
    res B12 (.c1 S.length (S.map vB) (n : Int) 0 key.1 key.2.1 key.2.2.1 key.2.2.2.1 key.2.2.2.2.1 key.2.2.2.2.2.1 key.2.2.2.2.2.2.1 key.2.2.2.2.2.2.2 r) = some (unpF key r S n n 0 []) := by
  rcases n with _ | m
  · have h8 : S.length - 6 = 8 := by omega
    have hi1 : inI64 0 := by unfold inI64; omega
    have hi2 : inI64 6 := by unfold inI64; omega
    have hc2 : (6 : Int) ≤ (S.length : Int) := by omega
    have hTl := tl_len hS
    have hTb : ∀ b ∈ tl S 0, ByteI b := fun b hb => hB b (List.mem_of_mem_drop (List.mem_of_mem_take hb))
    have hst := str_eq8 hkey hTl hTb
    have h39 := F10_eq r [] (by simp)
    have h52 := F52_eq' hkey [] (by simp) (by simp)
    have hk0 : keyAt key [] ([] : List E5).length = key := rfl
    have htm : List.take 8 (List.drop 6 (S.map vB)) = (tl S 0).map vB := tl_map S 0
    have t6 : (6 : Int).toNat = 6 := rfl
    rw [hk0] at h52
    simp only [List.length_nil, List.flatMap_nil] at h39 h52
    rw [res_eq]
    simp only [B12, h52, sem_br, sem_ask, sem_triv, sem_sees, sem_bind_some, sem_ret, PC.holds, need_true, Int.ofNat_zero, Int.natCast_zero, Int.mul_zero, Int.add_zero, t6, Int.lt_irrefl, decide_false, Bool.false_eq_true, if_false, Int.toNat_natCast, Nat.mul_one, h8, hi1, hi2, show (0 : Int) ≤ 6 by decide, hc2, Int.le_refl, List.length_map, htm, hTl, isB_map, byB_map, hst, h39]
    unfold unpF finO fin
    rw [hk0]
    cases hq : eq8 key (tlT (tl S 0))
    · simp only [Bool.not_false, if_true, stepO_ret, whenI, firstI]; rfl
    · have hw : whenI false 27 = 0 := rfl
      simp only [Bool.not_true, Bool.false_eq_true, if_false, hw, firstI, if_true]
      by_cases h0 : profI r [] = 0
      · simp only [h0, bne_self_eq_false, Bool.false_eq_true, if_false, if_true, stepO_ret, List.length_nil, List.flatMap_nil]
      · have h0' : (profI r [] != 0) = true := by simpa using h0
        simp only [h0, h0', if_true, if_false, stepO_ret]
  · generalize hnn : m + 1 = n at *
    have hi : 0 < n := by omega
    have ez : (0 : Int) = ((0 : Nat) : Int) := rfl
    rw [ez]
    generalize hii : (0 : Nat) = i at *
    have h1 : (i : Int) < (n : Int) := by omega
    have hin1 : inI64 (16 * (i : Int)) := by unfold inI64; omega
    have hin2 : inI64 (6 + 16 * (i : Int)) := by unfold inI64; omega
    have hin3 : inI64 (22 + 16 * (i : Int)) := by unfold inI64; omega
    have hin4 : inI64 ((i : Int) + 1) := by unfold inI64; omega
    have ha1 : (0 : Int) ≤ 6 + 16 * (i : Int) := by omega
    have ha2 : 6 + 16 * (i : Int) ≤ 22 + 16 * (i : Int) := by omega
    have ha3 : 22 + 16 * (i : Int) ≤ (S.length : Int) := by omega
    have t22 : (22 + 16 * (i : Int)).toNat = 22 + 16 * i := by omega
    have hs : 22 + 16 * i - (6 + 16 * i) = 16 := by omega
    have hlen := ch_len hS hi
    have hlm : ((ch S i).map vB).length = 16 := by rw [List.length_map]; exact hlen
    have hF := F53_T (ch_b hB i)
    rw [res_eq]
    simp only [B12, sem_br, sem_ask, sem_nxt, sem_triv, sem_sees, sem_ret, sem_bind_some, PC.holds, need_true, toN, t22, hs, Nat.min_self, Nat.zero_add, Nat.mul_one, h1, hin1, hin2, hin3, hin4, ha1, ha2, ha3, chM, chT hlen, hlm, splA hlm, List.drop_zero, celA_map, rowA16 hlen, dI_B, List.length_map, hlen, decide_true, if_true, Nat.le_refl, hF]
    rw [← hnn]
    unfold unpF
    rw [hnn]
    by_cases hE : errT (ch S i) = 0
    · have ih := F12_c2 hS hn hkey hB (r := r) m (i + 1) 0 [entT (ch S i)] (by omega) (by simp; omega) (ok_snoc (es := []) (by simp) (errT_ent hE))
      rw [if_pos hE, unbT_ok hE]
      simp only [bne_self_eq_false, Bool.false_eq_true, if_false, stepO_nxt]
      rw [List.nil_append, ← ih]
      subst hii
      rfl
    · rw [if_neg hE, unbT_no hE]
      have hE' : (errT (ch S i) != 0) = true := by simpa using hE
      simp only [hE', if_true, stepO_ret]
end
end Go.Kv
