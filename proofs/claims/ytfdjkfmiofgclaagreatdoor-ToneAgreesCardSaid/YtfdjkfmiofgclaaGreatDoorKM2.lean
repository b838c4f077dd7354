import Derived.Test.YtfdjkfmiofgclaaGreatDoorGBc
namespace Go.Kv.Bst
set_option linter.all false
open Go Go.RowKit Go.Kv
set_option maxRecDepth 100000
def cmpI (a b : Int) : Int := if a < b then -1 else if a > b then 1 else 0
def cmpL : List Int → List Int → Int
 | [], [] => 0
 | [], _ :: _ => -1
 | _ :: _, [] => 1
 | a :: s, b :: t => if cmpI a b = 0 then cmpL s t else cmpI a b
theorem dI_cel_map (l : List Int) (i : Nat) : dI (cel (l.map vI) i) = l.getD i 0 := by
 unfold cel
 simp only [List.getD_eq_getElem?_getD, List.getElem?_map]
 cases l[i]? <;> rfl
theorem at_map {l : List Int} {i : Nat} (h : i < l.length) : Option.map AV.d (List.drop i (l.map vI))[0]? = some (AV.d (vI (l.getD i 0))) := by
 simp [List.getElem?_drop, h, List.getD_eq_getElem?_getD]
theorem dropD {α : Type} {l : List α} {i : Nat} (d : α) (h : i < l.length) : l.drop i = l.getD i d :: l.drop (i + 1) := by
 rw [List.drop_eq_getElem_cons h]; simp [List.getD_eq_getElem?_getD, h]
theorem F175_eq (a : Int) : F175 a = some false := by
 unfold F175
 rw [res_eq]
 simp only [B175, sem_ret, stepO_ret, bne_self_eq_false]
theorem F137_eq (a b : Int) : F137 a b = some (cmpI a b) := by
 unfold F137 cmpI
 rw [res_eq]
 by_cases h1 : a < b
 ·simp only [B137, F175_eq, sem_bind_some, sem_sees, sem_br, sem_ret, h1, decide_true, if_true, Bool.false_eq_true, if_false, stepO_ret]
 ·by_cases h2 : a > b <;> simp only [B137, F175_eq, sem_bind_some, sem_sees, sem_br, sem_ret, h1, h2, decide_true, decide_false, if_true, Bool.false_eq_true, if_false, stepO_ret]
theorem cmpL_drop {l m : List Int} {i : Nat} (h : i < l.length) (h' : i < m.length) : cmpL (l.drop i) (m.drop i) = if cmpI (l.getD i 0) (m.getD i 0) = 0 then cmpL (l.drop (i + 1)) (m.drop (i + 1)) else cmpI (l.getD i 0) (m.getD i 0) := by
 rw [dropD 0 h, dropD 0 h']; rfl
theorem F198_loop (l m : List Int) (hl : l.length ≤ 9223372036854775807) : ∀ (k i : Nat), l.length = i + k → i ≤ m.length →
  res B198 (.c1 l.length (l.map vI) m.length (m.map vI) (l.length : Int) (i : Int)) = some (cmpL (l.drop i) (m.drop i))
 | 0, i, hk, hm => by
  have h1 : ¬ ((i : Int) < (l.length : Int)) := by omega
  rw [List.drop_of_length_le (by omega), res_eq]
  by_cases h2 : i < m.length
  ·have h3 : (l.length : Int) < (m.length : Int) := by omega
   rw [dropD 0 h2]
   simp only [B198, sem_br, sem_ret, h1, h3, decide_true, decide_false, if_true, Bool.false_eq_true, if_false, stepO_ret, cmpL]
  ·have h3 : ¬ ((l.length : Int) < (m.length : Int)) := by omega
   rw [List.drop_of_length_le (by omega : m.length ≤ i)]
   simp only [B198, sem_br, sem_ret, h1, h3, decide_false, Bool.false_eq_true, if_false, stepO_ret, cmpL]
 | k + 1, i, hk, hm => by
  have hi : i < l.length := by omega
  have h1 : (i : Int) < (l.length : Int) := by omega
  rw [res_eq]
  by_cases h2 : i < m.length
  ·have h3 : ¬ ((i : Int) ≥ (m.length : Int)) := by omega
   have h4 : (i : Int) < (m.length : Int) := by omega
   have hin : inI64 ((i : Int) + 1) := by unfold inI64; omega
   have ih := F198_loop l m hl k (i + 1) (by omega) (by omega)
   rw [cmpL_drop hi h2]
   simp only [B198, F137_eq, sem_br, sem_ask, sem_ret, sem_nxt, sem_bind_some, sem_sees, PC.holds, need_true, Int.toNat_natCast, Nat.mul_one, dI_cel_map, at_map hi, at_map h2, h1, h3, h4, hin, decide_true, decide_false, if_true, Bool.false_eq_true, if_false, Int.natCast_nonneg, List.length_map, Nat.le_of_lt hi, Nat.le_of_lt h2]
   by_cases h0 : cmpI (l.getD i 0) (m.getD i 0) = 0
   ·simp only [h0, bne_self_eq_false, if_true, Bool.false_eq_true, if_false, stepO_nxt]
    rw [← ih]; rfl
   ·have hb : (cmpI (l.getD i 0) (m.getD i 0) != 0) = true := bne_iff_ne.2 h0
    simp only [h0, hb, if_false, if_true, stepO_ret]
  ·have h3 : (i : Int) ≥ (m.length : Int) := by omega
   rw [List.drop_of_length_le (by omega : m.length ≤ i), dropD 0 hi]
   simp only [B198, sem_br, sem_ask, sem_ret, PC.holds, need_true, Int.toNat_natCast, Nat.mul_one, dI_cel_map, at_map hi, h1, h3, decide_true, if_true, Int.natCast_nonneg, List.length_map, Nat.le_of_lt hi, stepO_ret, cmpL]
theorem F198_eq (l m : List Int) (hl : l.length ≤ 9223372036854775807) : F198 l.length (l.map vI) m.length (m.map vI) = some (cmpL l m) := by
 unfold F198
 rw [res_eq]
 simp only [B198, sem_nxt, stepO_nxt]
 exact F198_loop l m hl l.length 0 (by omega) (by omega)
def bef (p : Int) (l : List Int) (q : Int) (m : List Int) : Bool := if p < q then true else if p = q then decide (cmpL l m < 0) else false
theorem F176_eq (a p : Int) (l : List Int) (b q : Int) (m : List Int) (hl : l.length ≤ 9223372036854775807) : F176 a p l.length (l.map vI) b q m.length (m.map vI) = some (bef p l q m) := by
 unfold F176 bef
 rw [res_eq]
 by_cases h1 : p < q
 ·simp only [B176, sem_br, sem_ret, h1, decide_true, if_true, stepO_ret]
 ·by_cases h2 : p = q
  ·subst h2
   simp only [B176, F198_eq l m hl, sem_br, sem_ret, sem_bind_some, sem_sees, h1, decide_false, Bool.false_eq_true, if_false, beq_self_eq_true, if_true, stepO_ret]
  ·have hb : (p == q) = false := by simpa using h2
   simp only [B176, sem_br, sem_ret, h1, h2, hb, decide_false, Bool.false_eq_true, if_false, stepO_ret]
end Go.Kv.Bst
namespace Go.Kv.Bst
open Go Go.RowKit Go.Kv
set_option maxRecDepth 100000
abbrev PV := Int × Int × List Int
abbrev SM := List (Int × PV)
def encP (v : PV) : List DV := [vI v.1, vI v.2.1, .sl v.2.2.length (v.2.2.map vI)]
def encM (S : SM) : MID := S.map fun e => (e.1, encP e.2)
theorem mfind_encM : ∀ (S : SM) (k : Int), mfind (encM S) k = (mfind S k).map encP
 | [], k => rfl
 | e :: r, k => by
  have ih := mfind_encM r k
  unfold encM at ih ⊢
  simp only [List.map_cons, mfind]
  split
  ·rfl
  ·exact ih
theorem mset_encM : ∀ (S : SM) (k : Int) (v : PV), mset (encM S) k (encP v) = encM (mset S k v)
 | [], k, v => rfl
 | e :: r, k, v => by
  have ih := mset_encM r k v
  unfold encM at ih ⊢
  simp only [List.map_cons, mset]
  split
  ·rfl
  ·simp only [List.map_cons, ih]
theorem mhas_encM (S : SM) (k : Int) : mhas (encM S) k = mhas S k := by
 unfold mhas; rw [mfind_encM]; cases mfind S k <;> rfl
theorem mgetD_some {S : SM} {k : Int} {v : PV} (zs : List DV) (h : mfind S k = some v) : mgetD (encM S) k zs = encP v := by
 unfold mgetD; rw [mfind_encM, h]; rfl
theorem mgetD_none {S : SM} {k : Int} (zs : List DV) (h : mfind S k = none) : mgetD (encM S) k zs = zs := by
 unfold mgetD; rw [mfind_encM, h]; rfl
theorem mhas_some {S : SM} {k : Int} {v : PV} (h : mfind S k = some v) : mhas S k = true := by
 unfold mhas; rw [h]; rfl
theorem mhas_none {S : SM} {k : Int} (h : mfind S k = none) : mhas S k = false := by
 unfold mhas; rw [h]; rfl
def beats (S : SM) (x : PV) : Bool := match mfind S x.1 with
 | none => true
 | some o => bef x.2.1 x.2.2 o.2.1 o.2.2
def upd (S : SM) (x : PV) : SM := if beats S x then mset S x.1 x else S
def Eqv (S T : SM) : Prop := ∀ k, mfind S k = mfind T k
theorem upd_congr {S T : SM} (h : Eqv S T) (x : PV) : Eqv (upd S x) (upd T x) := by
 intro k
 have hb : beats S x = beats T x := by unfold beats; rw [h x.1]
 unfold upd
 rw [hb]
 split
 ·by_cases hk : k = x.1
  ·subst hk; rw [mfind_mset_same, mfind_mset_same]
  ·have hk' : (k == x.1) = false := by simpa using hk
   rw [mfind_mset_ne _ _ hk', mfind_mset_ne _ _ hk', h k]
 ·exact h k
def eqvB (S T : SM) : Bool := (S.all fun e => decide (mfind S e.1 = mfind T e.1)) && T.all fun e => decide (mfind S e.1 = mfind T e.1)
theorem mfind_mem : ∀ {S : SM} {k : Int} {v : PV}, mfind S k = some v → ∃ e ∈ S, e.1 = k
 | e :: r, k, v, h => by
  unfold mfind at h
  split at h
  ·rename_i hk
   exact ⟨e, by simp, by have := beq_iff_eq.1 hk; exact this.symm⟩
  ·obtain ⟨e', hm, he⟩ := mfind_mem h
   exact ⟨e', by simp [hm], he⟩
theorem eqv_of {S T : SM} (h : eqvB S T = true) : Eqv S T := by
 unfold eqvB at h
 simp only [Bool.and_eq_true, List.all_eq_true, decide_eq_true_eq] at h
 intro k
 cases hs : mfind S k with
 | some v =>
  obtain ⟨e, hm, rfl⟩ := mfind_mem hs
  rw [← hs]; exact h.1 e hm
 | none =>
  cases ht : mfind T k with
  | none => rfl
  | some v =>
   obtain ⟨e, hm, rfl⟩ := mfind_mem ht
   rw [← hs, ← ht]; exact h.2 e hm
def ents : List PV := [(0, 0, [0, 0]), (1, 1, [1, 0]), (2, 3, [2, 0]), (3, 7, [3, 0]), (4, 15, [4, 0])]
def pw (b : Nat) : Int := [0, 1, 1, 1, 2, 4, 7].getD b 0
def plan (b j : Nat) : PV := ((ents.getD j (0, 0, [])).1 + b, (ents.getD j (0, 0, [])).2.1 + pw b, (b : Int) :: (ents.getD j (0, 0, [])).2.2)
def canon : Nat → SM
 | 0 => []
 | b + 1 => (List.range 5).foldl (fun S j => upd S (plan b j)) (canon b)
def chk (b : Nat) : Nat → List Nat → SM → Bool
 | 0, rs, S => (cands 5 rs).isEmpty && eqvB S (canon (b + 1))
 | n + 1, rs, S => !(cands 5 rs).isEmpty && (cands 5 rs).all fun j => chk b n (j :: rs) (upd S (plan b j))
theorem chk_all : ∀ b < 7, chk b 5 [] (canon b) = true := by decide +kernel
def srch (S : SM) (q : Int) : Nat → Option PV
 | 0 => match mfind S 0 with
  | some x => if x.2.1 ≤ q then some x else none
  | none => none
 | n + 1 => match mfind S ((n + 1 : Nat) : Int) with
  | some x => if x.2.1 ≤ q then some x else srch S q n
  | none => srch S q n
theorem srch10 : srch (canon 7) 10 48 = some (8, 10, [6, 2, 0]) := by decide +kernel
theorem srch9 : srch (canon 7) 9 48 = some (7, 7, [5, 2, 0]) := by decide +kernel
theorem srch_congr {S T : SM} (h : Eqv S T) (q : Int) : ∀ n, srch S q n = srch T q n
 | 0 => by unfold srch; rw [h 0]
 | n + 1 => by unfold srch; rw [h _, srch_congr h q n]
end Go.Kv.Bst
