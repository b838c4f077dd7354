import Derived.Test.YtjpmpeknnfhccaaGreatDoorKM3
namespace Go.Kv
set_option linter.unusedVariables false
set_option linter.unusedSimpArgs false
open Go Go.RowKit
set_option maxRecDepth 100000
abbrev W4 : Type := Int × Int × Int × Int
def wE (x : W4) : List DV := [.v (.int .u16 x.1), .v (.int .u16 x.2.1), .v (.int .u16 x.2.2.1), .v (.int .u16 x.2.2.2)]
theorem wE_len (x : W4) : (wE x).length = 4 := rfl
def okW (x : W4) : Prop := (0 ≤ x.1 ∧ x.1 ≤ 65535) ∧ (0 ≤ x.2.1 ∧ x.2.1 ≤ 65535) ∧ (0 ≤ x.2.2.1 ∧ x.2.2.1 ≤ 65535) ∧ (0 ≤ x.2.2.2 ∧ x.2.2.2 ≤ 65535)
def at4 (l : List W4) (i : Nat) : W4 := l.getD i (0, 0, 0, 0)
theorem at4_get {l : List W4} {i : Nat} (hi : i < l.length) : at4 l i = l[i] := by simp [at4, List.getD_eq_getElem?_getD, hi]
structure At4 (L : List DV) (x : W4) (i : Nat) : Prop where
  c0 : dI (cel L (i * 4)) = x.1
  c1 : dI (cel L (i * 4 + 1)) = x.2.1
  c2 : dI (cel L (i * 4 + 2)) = x.2.2.1
  c3 : dI (cel L (i * 4 + 3)) = x.2.2.2
  le : i * 4 ≤ L.length
  rm : 4 ≤ (L.drop (i * 4)).length
  row : ((L.drop (i * 4)).take 4).map AV.d = [AV.d (DV.v (Value.int IntKind.u16 x.1)), AV.d (DV.v (Value.int IntKind.u16 x.2.1)), AV.d (DV.v (Value.int IntKind.u16 x.2.2.1)), AV.d (DV.v (Value.int IntKind.u16 x.2.2.2))]
theorem w_at {l : List W4} {i : Nat} (hi : i < l.length) : At4 (l.flatMap wE) (at4 l i) i := by
  have hk (k : Nat) (h : k < 4) := fm_cel (enc := wE) wE_len hi h
  obtain ⟨r1, r2⟩ := fm_room (enc := wE) wE_len hi
  rw [at4_get hi]
  have h0 := hk 0 (by decide)
  rw [Nat.add_zero] at h0
  exact ⟨by rw [h0]; rfl, by rw [hk 1 (by decide)]; rfl, by rw [hk 2 (by decide)]; rfl, by rw [hk 3 (by decide)]; rfl, r1, r2, by rw [fm_at wE_len hi]; rfl⟩
def mkE (i : Nat) (x : W4) : E5 := (300 + (i : Int), 10 * (i : Int) + x.1 % 10, x.2.1, x.2.2.1, x.2.2.2 % 8)
def mks (l : List W4) : List E5 := (List.range' 0 l.length).map fun i => mkE i (at4 l i)
theorem mks_len (l : List W4) : (mks l).length = l.length := by simp [mks]
theorem mks_at {l : List W4} {i : Nat} (hi : i < l.length) : at5 (mks l) i = mkE i (at4 l i) := at5_range hi
theorem mkE_ok {i : Nat} {x : W4} (hi : i < 12) (h : okW x) : entE (mkE i x) = 0 := by
  obtain ⟨h1, h2, h3, h4⟩ := h
  refine entI_zero.2 ⟨⟨?_, ?_⟩, ⟨?_, ?_⟩, ⟨?_, ?_⟩, ⟨?_, ?_⟩, ?_, ?_⟩ <;> simp only [mkE] <;> omega
theorem okW_at {l : List W4} (h : ∀ x ∈ l, okW x) {i : Nat} (hi : i < l.length) : okW (at4 l i) := by rw [at4_get hi]; exact h _ (List.getElem_mem hi)
theorem mks_ok {l : List W4} (hl : l.length ≤ 12) (h : ∀ x ∈ l, okW x) : ∀ j, j < (mks l).length → entE (at5 (mks l) j) = 0 := by
  intro j hj
  rw [mks_len] at hj
  rw [mks_at hj]
  exact mkE_ok (by omega) (okW_at h hj)
theorem mks_row (l : List W4) : Row 300 (mks l) := by
  intro j hj
  rw [mks_len] at hj
  rw [mks_at hj]; rfl
structure MkOk (i : Nat) (x : W4) : Prop where
  i1 : inI64 (300 + (i : Int))
  i2 : inI64 (10 * (i : Int))
  i3 : inI64 (10 * (i : Int) + x.1 % 10)
  w0 : IntKind.i64.wrap x.1 = x.1
  w1 : IntKind.i64.wrap x.2.1 = x.2.1
  w2 : IntKind.i64.wrap x.2.2.1 = x.2.2.1
  w3 : IntKind.i64.wrap x.2.2.2 = x.2.2.2
  t0 : x.1.tmod 10 = x.1 % 10
  t3 : x.2.2.2.tmod 8 = x.2.2.2 % 8
theorem mk_ok {i : Nat} {x : W4} (hi : i < 12) (h : okW x) : MkOk i x := by
  obtain ⟨h1, h2, h3, h4⟩ := h
  refine ⟨?_, ?_, ?_, ?_, ?_, ?_, ?_, ?_, ?_⟩
  · unfold inI64; omega
  · unfold inI64; omega
  · unfold inI64; omega
  · exact wrap_in (by unfold inI64; omega)
  · exact wrap_in (by unfold inI64; omega)
  · exact wrap_in (by unfold inI64; omega)
  · exact wrap_in (by unfold inI64; omega)
  · exact Int.tmod_eq_emod_of_nonneg h1.1
  · exact Int.tmod_eq_emod_of_nonneg h4.1
theorem F16_E {x : E5} (h : entE x = 0) : F16 (blkE x).1 (blkE x).2.1 (blkE x).2.2.1 (blkE x).2.2.2.1 (blkE x).2.2.2.2.1 (blkE x).2.2.2.2.2.1 (blkE x).2.2.2.2.2.2.1 (blkE x).2.2.2.2.2.2.2.1 (blkE x).2.2.2.2.2.2.2.2.1 (blkE x).2.2.2.2.2.2.2.2.2.1 (blkE x).2.2.2.2.2.2.2.2.2.2.1 (blkE x).2.2.2.2.2.2.2.2.2.2.2.1 (blkE x).2.2.2.2.2.2.2.2.2.2.2.2.1 (blkE x).2.2.2.2.2.2.2.2.2.2.2.2.2.1 (blkE x).2.2.2.2.2.2.2.2.2.2.2.2.2.2 0 = some (x.1, x.2.1, x.2.2.1, x.2.2.2.1, x.2.2.2.2, 0) := by
  have e := F16_T (C := bD (blkE x)) (bD_b x)
  simp only [bD, List.getD_cons_zero, List.getD_cons_succ] at e
  rw [e]
  obtain ⟨h1, h2⟩ := by_blk h
  have := unbT_ok h2
  rw [h1] at this
  exact congrArg some this
end Go.Kv
