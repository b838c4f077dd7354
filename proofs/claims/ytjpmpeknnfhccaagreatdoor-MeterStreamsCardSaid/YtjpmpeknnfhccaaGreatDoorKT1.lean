/- Pack, in plain Lean. -/
import Derived.Test.YtjpmpeknnfhccaaGreatDoorK10
import Derived.Test.YtjpmpeknnfhccaaGreatDoorK8
import Derived.Test.YtjpmpeknnfhccaaGreatDoorGE7
import Derived.Test.YtjpmpeknnfhccaaGreatDoorGE9
namespace Go.Kv
set_option linter.unusedVariables false
set_option linter.unusedSimpArgs false
open Go Go.RowKit
set_option maxRecDepth 100000
abbrev retT (k : T8) {α : Type} (f : Int → Int → Int → Int → Int → Int → Int → Int → α) : α := f k.1 k.2.1 k.2.2.1 k.2.2.2.1 k.2.2.2.2.1 k.2.2.2.2.2.1 k.2.2.2.2.2.2.1 k.2.2.2.2.2.2.2
theorem F40_eq {key : T8} (hkey : keyB key) (r : Int) (l : List E5) (hl : l.length ≤ 256) (hz : ∀ j, j < l.length → entE (at5 l j) = 0) : F40 key.1 key.2.1 key.2.2.1 key.2.2.2.1 key.2.2.2.2.1 key.2.2.2.2.2.1 key.2.2.2.2.2.2.1 key.2.2.2.2.2.2.2 r l.length (l.flatMap eE) = some (r, l.length, l.flatMap eE, keyAt key l l.length) := by
  unfold F40; rw [res_eq]
  by_cases h : l.length = 0
  · have h1 : ¬ ((l.length : Int) > 0) := by omega
    have h2 : keyAt key l l.length = key := by rw [h]; rfl
    simp only [B40, F57_eq hkey l hl hz, sem_bind_some, sem_sees, sem_br, sem_ret, h1, decide_false, Bool.false_eq_true, if_false, stepO_ret, h2]
  · obtain ⟨m, hm⟩ : ∃ m, l.length = m + 1 := ⟨l.length - 1, by omega⟩
    have h1 : (l.length : Int) > 0 := by omega
    have hs : ((l.length : Int) - 1) = (m : Int) := by omega
    have hin : inI64 (m : Int) := by unfold inI64; omega
    have hlt : (m : Int) < (l.length : Int) := by omega
    have hlen := outs_len key l l.length
    have A := k_at (l := outs key l l.length) (i := m) (by omega)
    rw [outs_at key l l.length m (by omega)] at A
    rw [show keyAt key l l.length = keyAt key l (m + 1) by rw [hm]]
    simp only [B40, F57_eq hkey l hl hz, sem_bind_some, sem_sees, sem_ask, sem_triv, sem_br, sem_ret, PC.holds, need_true, h1, hs, hin, hlt, decide_true, if_true, stepO_ret, Int.natCast_nonneg, Int.toNat_natCast, A.c0, A.c1, A.c2, A.c3, A.c4, A.c5, A.c6, A.c7, A.le, A.rm, A.row]
theorem F52_eq' {key : T8} (hkey : keyB key) (l : List E5) (hl : l.length ≤ 256) (hz : ∀ j, j < l.length → entE (at5 l j) = 0) : F52 key.1 key.2.1 key.2.2.1 key.2.2.2.1 key.2.2.2.2.1 key.2.2.2.2.2.1 key.2.2.2.2.2.2.1 key.2.2.2.2.2.2.2 l.length (l.flatMap eE) = some (keyAt key l l.length) := by
  unfold F52; rw [res_eq]
  by_cases h : l.length = 0
  · have h1 : ((l.length : Int) == 0) = true := by simpa using h
    have h2 : keyAt key l l.length = key := by rw [h]; rfl
    simp only [B52, F84_eq hkey l (by omega) hz, sem_bind_some, sem_sees, sem_br, sem_ret, h1, if_true, stepO_ret, h2]
  · obtain ⟨m, hm⟩ : ∃ m, l.length = m + 1 := ⟨l.length - 1, by omega⟩
    have h1 : ((l.length : Int) == 0) = false := by simpa using h
    have hs : ((l.length : Int) - 1) = (m : Int) := by omega
    have hin : inI64 (m : Int) := by unfold inI64; omega
    have hlt : (m : Int) < (l.length : Int) := by omega
    have hlen := outs_len key l l.length
    have A := k_at (l := outs key l l.length) (i := m) (by omega)
    rw [outs_at key l l.length m (by omega)] at A
    rw [show keyAt key l l.length = keyAt key l (m + 1) by rw [hm]]
    simp only [B52, F84_eq hkey l (by omega) hz, sem_bind_some, sem_sees, sem_ask, sem_triv, sem_br, sem_ret, PC.holds, need_true, h1, hs, hin, hlt, Bool.false_eq_true, if_false, stepO_ret, Int.natCast_nonneg, Int.toNat_natCast, A.c0, A.c1, A.c2, A.c3, A.c4, A.c5, A.c6, A.c7, A.le, A.rm, A.row]
/-- The beginning of a stream. -/
def hd6 (r : Int) (n : Int) : List DV := [vB 80, vB 82, vB 79, vB 70, vB (IntKind.u8.wrap r), vB (IntKind.u8.wrap n)]
def packL (r : Int) (key : T8) (l : List E5) : List DV := hd6 r l.length ++ l.flatMap eB ++ e8 (keyAt key l l.length)
theorem F7_c1 (r : Int) (k : T8) (l : List E5) (hl : l.length ≤ 256) (hz : ∀ j, j < l.length → entE (at5 l j) = 0) : ∀ (m i e : Nat), l.length = i + m →
    res B7 (.c1 e (6 + 16 * i) (hd6 r l.length ++ (l.take i).flatMap eB) l.length (l.flatMap eE) (l.length : Int) (i : Int) r k.1 k.2.1 k.2.2.1 k.2.2.2.1 k.2.2.2.2.1 k.2.2.2.2.2.1 k.2.2.2.2.2.2.1 k.2.2.2.2.2.2.2 e) = some (6 + 16 * l.length + 8, hd6 r l.length ++ l.flatMap eB ++ e8 k, 0)
  | 0, i, e, hk => by
    rw [res_eq]
    have : ¬ ((i : Int) < (l.length : Int)) := by omega
    have h2 : i = l.length := by omega
    subst h2
    have hf : fitsN (6 + 16 * l.length + 8) 1 := by unfold fitsN; omega
    simp only [B7, sem_br, sem_ask, sem_ret, PC.holds, need_true, this, hf, decide_false, Bool.false_eq_true, if_false, stepO_ret, List.take_length]
    rfl
  | m + 1, i, e, hk => by
    have hi : i < l.length := by omega
    have h1 : (i : Int) < (l.length : Int) := by omega
    have ih := F7_c1 r k l hl hz m (i + 1) (e + 16) (by omega)
    have hin : inI64 ((i : Int) + 1) := by unfold inI64; omega
    have hf : fitsN (6 + 16 * i + 16) 1 := by unfold fitsN; omega
    have A := ent_at hi
    rw [snocG hi, ← List.append_assoc] at ih
    rw [res_eq]
    simp only [B7, sem_br, sem_ask, sem_nxt, sem_triv, sem_sees, sem_ret, sem_bind_some, PC.holds, need_true, Int.toNat_natCast, Int.toNat_zero, A.c0, A.c1, A.c2, A.c3, A.c4, A.le, A.rm, A.row, map_eE, h1, decide_true, if_true, Int.natCast_nonneg, Int.le_refl, stepO_nxt, stepO_ret, hin, hf, F41_E (hz i hi)]
    exact ih
theorem F11_c1 (r : Int) {key : T8} (hkey : keyB key) (l : List E5) (hl : l.length ≤ 256) (hz : ∀ j, j < l.length → entE (at5 l j) = 0) : ∀ (m i e : Nat), l.length = i + m →
    res B11 (.c1 e (6 + 16 * i) (hd6 r l.length ++ (l.take i).flatMap eB) (i : Int) key.1 key.2.1 key.2.2.1 key.2.2.2.1 key.2.2.2.2.1 key.2.2.2.2.2.1 key.2.2.2.2.2.2.1 key.2.2.2.2.2.2.2 r l.length (l.flatMap eE) e) = some (6 + 16 * l.length + 8, packL r key l)
  | 0, i, e, hk => by
    rw [res_eq]
    have : ¬ ((i : Int) < (l.length : Int)) := by omega
    have h2 : i = l.length := by omega
    subst h2
    have hf : fitsN (6 + 16 * l.length + 8) 1 := by unfold fitsN; omega
    simp only [B11, F52_eq' hkey l hl hz, sem_br, sem_ask, sem_sees, sem_bind_some, sem_ret, PC.holds, need_true, this, hf, decide_false, Bool.false_eq_true, if_false, stepO_ret, List.take_length]
    rfl
  | m + 1, i, e, hk => by
    have hi : i < l.length := by omega
    have h1 : (i : Int) < (l.length : Int) := by omega
    have ih := F11_c1 r hkey l hl hz m (i + 1) (e + 16) (by omega)
    have hin : inI64 ((i : Int) + 1) := by unfold inI64; omega
    have hf : fitsN (6 + 16 * i + 16) 1 := by unfold fitsN; omega
    have A := ent_at hi
    rw [snocG hi, ← List.append_assoc] at ih
    rw [res_eq]
    simp only [B11, sem_br, sem_ask, sem_nxt, sem_triv, sem_sees, sem_ret, sem_bind_some, PC.holds, need_true, Int.toNat_natCast, Int.toNat_zero, A.c0, A.c1, A.c2, A.c3, A.c4, A.le, A.rm, A.row, map_eE, h1, decide_true, if_true, Int.natCast_nonneg, Int.le_refl, stepO_nxt, stepO_ret, hin, hf, F51_E (hz i hi)]
    exact ih
theorem F7_eq {key : T8} (hkey : keyB key) (r : Int) (l : List E5) (hl : l.length ≤ 256) : F7 key.1 key.2.1 key.2.2.1 key.2.2.2.1 key.2.2.2.2.1 key.2.2.2.2.2.1 key.2.2.2.2.2.2.1 key.2.2.2.2.2.2.2 r l.length (l.flatMap eE) =
    some (if profI r l = 0 then (6 + 16 * l.length + 8, packL r key l, 0) else (0, [], profI r l)) := by
  unfold F7; rw [res_eq]
  by_cases h : profI r l = 0
  · obtain ⟨_, _, hz⟩ := prof_zero h
    have hne : (profI r l != 0) = false := by simpa using h
    have e := F7_c1 r (keyAt key l l.length) l hl hz l.length 0 2 (by omega)
    simp only [B7, F39_eq r l (by omega), F40_eq hkey r l hl hz, sem_br, sem_bind_some, sem_sees, sem_nxt, hne, Bool.false_eq_true, if_false, stepO_nxt]
    rw [if_pos h]
    exact e
  · have hne : (profI r l != 0) = true := by simpa using h
    simp only [B7, F39_eq r l (by omega), sem_br, sem_bind_some, sem_sees, sem_ret, hne, if_true, stepO_ret]
    rw [if_neg h]
theorem F11_eq {key : T8} (hkey : keyB key) (r : Int) (l : List E5) (hl : l.length ≤ 256) (hz : ∀ j, j < l.length → entE (at5 l j) = 0) : F11 key.1 key.2.1 key.2.2.1 key.2.2.2.1 key.2.2.2.2.1 key.2.2.2.2.2.1 key.2.2.2.2.2.2.1 key.2.2.2.2.2.2.2 r l.length (l.flatMap eE) =
    some (6 + 16 * l.length + 8, packL r key l) := by
  unfold F11; rw [res_eq]
  have e := F11_c1 r hkey l hl hz l.length 0 2 (by omega)
  simp only [B11, sem_nxt, stepO_nxt]
  exact e
end Go.Kv
