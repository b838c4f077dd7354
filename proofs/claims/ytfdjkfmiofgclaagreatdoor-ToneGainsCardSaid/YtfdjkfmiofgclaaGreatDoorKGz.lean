import Derived.Test.YtfdjkfmiofgclaaGreatDoorGNb
import Derived.Test.YtfdjkfmiofgclaaGreatDoorKL
namespace Go.Kv
set_option linter.all false
open Go Go.RowKit Go.Proofs
set_option maxRecDepth 100000
theorem bff.{u} : (∀ {α : Sort u} {h : Decidable (false = true)} (t e : α), @ite α (false = true) h t e = e) ∧ ∀ {α : Sort u} {h : Decidable False} (t e : α), @ite α False h t e = e := ⟨fun _ _ => if_neg Bool.false_ne_true, fun t e => if_false t e⟩
theorem sbs {σ ρ : Type} : (∀ {α : Type} (v : α) (k : α → Tr σ ρ), (Tr.bind (some v) k).sem = (k v).sem) ∧ ∀ (a : List AV) (x : Tr σ ρ), (Tr.sees a x).sem = x.sem := ⟨sem_bind_some, sem_sees⟩
theorem tnn : (∀ n : Nat, ((n : Int)).toNat = n) ∧ ∀ n : Nat, (0 : Int) ≤ (n : Int) := ⟨Int.toNat_natCast, Int.natCast_nonneg⟩
section
set_option linter.unusedVariables false
set_option linter.unusedSimpArgs false
set_option linter.unnecessarySimpa false
open Go Go.RowKit
def firstI : List Int → Int
 | [] => 0
 | x :: xs => if x = 0 then firstI xs else x
def whenI (b : Bool) (e : Int) : Int := if b then e else 0
def rangeI (n a b : Int) : Int := if n < a ∨ n > b then 3 else 0
theorem whenT (e : Int) : whenI true e = e := rfl
theorem whenF (e : Int) : whenI false e = 0 := rfl
theorem dI_cel_map (l : List Int) (i : Nat) : dI (cel (l.map vI) i) = l.getD i 0 := by
 unfold cel
 simp only [List.getD_eq_getElem?_getD, List.getElem?_map]
 cases l[i]? <;> rfl
theorem at_map {l : List Int} {i : Nat} (h : i < l.length) : Option.map AV.d (List.drop i (l.map vI))[0]? = some (AV.d (vI (l.getD i 0))) := by
 simp [List.getElem?_drop, h, List.getD_eq_getElem?_getD]
theorem dropD {α : Type} {l : List α} {i : Nat} (d : α) (h : i < l.length) : l.drop i = l.getD i d :: l.drop (i + 1) := by
 rw [List.drop_eq_getElem_cons h]; simp [List.getD_eq_getElem?_getD, h]
theorem firstI_drop {l : List Int} {i : Nat} (h : i < l.length) : firstI (l.drop i) = if l.getD i 0 = 0 then firstI (l.drop (i + 1)) else l.getD i 0 := by
 rw [dropD 0 h]; rfl
theorem F107_loop (l : List Int) (hl : l.length ≤ 9223372036854775807) : ∀ (k i : Nat), l.length = i + k → res B107 (.c1 l.length (l.map vI) (l.length : Int) (i : Int)) = some (firstI (l.drop i))
 | 0, i, hk => by
  rw [List.drop_eq_nil_of_le (by omega), res_eq]
  have : ¬ ((i : Int) < (l.length : Int)) := by omega
  simp [B107, sem_br, sem_ret, this, stepO_ret, stepO_nxt, firstI]
 | k + 1, i, hk => by
  have hi : i < l.length := by omega
  have h1 : (i : Int) < (l.length : Int) := by omega
  have ih := F107_loop l hl k (i + 1) (by omega)
  have hin : inI64 ((i : Int) + 1) := by unfold inI64; omega
  rw [firstI_drop hi, res_eq]
  simp only [B107, sem_br, sem_ask, sem_ret, sem_nxt, PC.holds, need_true, Int.toNat_natCast, Nat.mul_one, dI_cel_map, at_map hi, h1, hin, decide_true, if_true, Int.natCast_nonneg, List.length_map, Nat.le_of_lt hi]
  by_cases h0 : l.getD i 0 = 0
  ·simp only [h0, bne_self_eq_false, if_true, bff, stepO_ret, stepO_nxt]
   rw [← ih]; rfl
  ·simp only [h0, if_false, bne_iff_ne, ne_eq, not_false_eq_true, if_true, stepO_ret, stepO_nxt]
theorem F107_eq (l : List Int) (hl : l.length ≤ 9223372036854775807) : F107 l.length (l.map vI) = some (firstI l) := by
 unfold F107
 rw [res_eq]
 simp only [B107, sem_nxt, stepO_nxt]
 exact F107_loop l hl l.length 0 (by omega)
theorem F107_2 (a b : Int) : F107 2 [vI a, vI b] = some (firstI [a, b]) := F107_eq [a, b] (by simp)
theorem F107_3 (a b c : Int) : F107 3 [vI a, vI b, vI c] = some (firstI [a, b, c]) := F107_eq [a, b, c] (by simp)
theorem F20_loop (l : List Int) (hl : l.length ≤ 9223372036854775807) : ∀ (k i : Nat), l.length = i + k → res B20 (.c1 l.length (l.map vI) (i : Int)) = some (firstI (l.drop i))
 | 0, i, hk => by
  rw [List.drop_eq_nil_of_le (by omega), res_eq]
  have : ¬ ((i : Int) < (l.length : Int)) := by omega
  simp [B20, sem_br, sem_ret, this, stepO_ret, stepO_nxt, firstI]
 | k + 1, i, hk => by
  have hi : i < l.length := by omega
  have h1 : (i : Int) < (l.length : Int) := by omega
  have ih := F20_loop l hl k (i + 1) (by omega)
  have hin : inI64 ((i : Int) + 1) := by unfold inI64; omega
  rw [firstI_drop hi, res_eq]
  simp only [B20, sem_br, sem_ask, sem_ret, sem_nxt, PC.holds, need_true, Int.toNat_natCast, Nat.mul_one, dI_cel_map, at_map hi, h1, hin, decide_true, if_true, Int.natCast_nonneg, List.length_map, Nat.le_of_lt hi]
  by_cases h0 : l.getD i 0 = 0
  ·simp only [h0, bne_self_eq_false, if_true, bff, stepO_ret, stepO_nxt]
   rw [← ih]; rfl
  ·simp only [h0, if_false, bne_iff_ne, ne_eq, not_false_eq_true, if_true, stepO_ret, stepO_nxt]
theorem F20_2 (a b : Int) : F20 2 [vI a, vI b] = some (firstI [a, b]) := by
 unfold F20
 rw [res_eq]
 simp only [B20, sem_nxt, stepO_nxt]
 exact F20_loop [a, b] (by simp) 2 0 (by simp)
theorem F109_eq (b : Bool) (e : Int) : F109 b e = some (whenI b e) := by
 unfold F109; rw [res_eq]; cases b <;> simp [B109, sem_br, sem_ret, stepO_ret, whenI]
theorem F37_eq (b : Bool) (e : Int) : F37 b e = some (whenI b e) := by
 unfold F37; rw [res_eq]; cases b <;> simp [B37, sem_br, sem_ret, stepO_ret, whenI]
theorem whenI_or (n a b e : Int) : whenI (if decide (n < a) = true then true else decide (n > b)) e = if n < a ∨ n > b then e else 0 := by
 unfold whenI
 by_cases h1 : n < a <;> by_cases h2 : n > b <;> simp [h1, h2]
theorem F106_eq (n a b : Int) : F106 n a b = some (rangeI n a b) := by
 unfold F106; rw [res_eq]
 simp only [B106, F109_eq, whenI_or, sbs, sem_triv, sem_ask, sem_ret, PC.holds, stepO_ret, rangeI]
theorem F39_eq (n a b : Int) : F39 n a b = some (rangeI n a b) := by
 unfold F39; rw [res_eq]
 simp only [B39, F37_eq, whenI_or, sbs, sem_triv, sem_ask, sem_ret, PC.holds, stepO_ret, rangeI]
theorem rangeI_zero {n a b : Int} : rangeI n a b = 0 ↔ a ≤ n ∧ n ≤ b := by
 unfold rangeI; split <;> omega
end
section
set_option linter.unusedVariables false
set_option linter.unusedSimpArgs false
set_option linter.unnecessarySimpa false
open Go Go.RowKit
theorem takeS {α β : Type} {l : List α} {i : Nat} (d : α) (hi : i < l.length) (f : α → β) : (l.take (i + 1)).map f = (l.take i).map f ++ [f (l.getD i d)] := by
 rw [List.take_succ_eq_append_getElem hi, List.map_append]
 simp [List.getD_eq_getElem?_getD, hi]
end
section
set_option linter.unusedVariables false
set_option linter.unusedSimpArgs false
set_option linter.unnecessarySimpa false
open Go Go.RowKit
theorem toDs_d : ∀ l : List DV, toDs (l.map AV.d) = some l
 | [] => rfl
 | x :: xs => by
  rw [List.map_cons]; unfold toDs; rw [toDs_d xs]; rfl
theorem aD_d (l : List DV) : List.map aD (l.map AV.d) = l := by
 rw [List.map_map]
 conv => rhs; rw [← List.map_id l]
 rfl
theorem first_pos {a : Int} (h : a ≠ 0) (l : List Int) : firstI (a :: l) = a := by
 unfold firstI; rw [if_neg h]
theorem first_z (l : List Int) : firstI (0 :: l) = firstI l := by
 conv => lhs; unfold firstI
 rw [if_pos rfl]
end
section
open Go Go.RowKit
end
section
open Go Go.RowKit
theorem firstI_1 (a : Int) : firstI [a] = a := by
 by_cases ha : a = 0
 ·subst ha; rfl
 ·exact first_pos ha []
theorem F78_eq (n x : Int) : F78 n x = some (whenI (decide (x < 0 ∨ x ≥ n)) 10) := by
 unfold F78
 rw [res_eq]
 simp only [B78, F37_eq, sem_triv, sbs, sem_ret, stepO_ret]
 by_cases h1 : x < 0 <;> by_cases h2 : x ≥ n <;> simp [h1, h2]
end
section
open Go Go.RowKit
theorem firstI_0 : ∀ {l : List Int}, firstI l = 0 → ∀ x ∈ l, x = 0
 | a :: l, h, x, hx => by
  by_cases ha : a = 0
  ·subst ha
   rw [first_z] at h
   rcases List.mem_cons.1 hx with rfl | hx
   ·rfl
   ·exact firstI_0 h x hx
  ·rw [first_pos ha] at h; exact absurd h ha
end
section
open Go Go.RowKit
theorem mem_drop {l : List Int} {x : Int} {i : Nat} (hi : i < l.length) : decide (x ∈ l.drop i) = (decide (x = l.getD i 0) || decide (x ∈ l.drop (i + 1))) := by
 rw [dropD 0 hi]
 by_cases h1 : x = l.getD i 0 <;> by_cases h2 : x ∈ l.drop (i + 1) <;> simp [h1, h2]
theorem F158_loop (l : List Int) (x : Int) (hl : l.length ≤ 1025) : ∀ (k i : Nat), l.length = i + k → ∃ r, res B158 (.c1 l.length (l.map vI) x (l.length : Int) (i : Int)) = some r ∧ decide (r ≥ 0) = decide (x ∈ l.drop i)
 | 0, i, hk => by
  have h1 : ¬ ((i : Int) < (l.length : Int)) := by omega
  refine ⟨-1, ?_, ?_⟩
  ·rw [res_eq]
   simp only [B158, sem_br, sem_ret, h1, decide_false, bff, stepO_ret]
  ·rw [List.drop_of_length_le (by omega)]; rfl
 | k + 1, i, hk => by
  have hi : i < l.length := by omega
  have h1 : (i : Int) < (l.length : Int) := by omega
  have hin : inI64 ((i : Int) + 1) := by unfold inI64; omega
  obtain ⟨r, hr, he⟩ := F158_loop l x hl k (i + 1) (by omega)
  rw [mem_drop hi]
  by_cases hx : x = l.getD i 0
  ·refine ⟨(i : Int), ?_, ?_⟩
   ·rw [res_eq]
    have hb : (x == l.getD i 0) = true := by simpa using hx
    simp only [B158, sem_br, sem_ask, sem_ret, PC.holds, need_true, Int.toNat_natCast, Nat.mul_one, dI_cel_map, at_map hi, h1, hb, decide_true, if_true, Int.natCast_nonneg, List.length_map, Nat.le_of_lt hi, stepO_ret]
   ·have : ((i : Int) ≥ 0) := by omega
    simp only [hx, this, decide_true, Bool.true_or]
  ·refine ⟨r, ?_, ?_⟩
   ·rw [res_eq]
    have hb : (x == l.getD i 0) = false := by simpa using hx
    simp only [B158, sem_br, sem_ask, sem_nxt, PC.holds, need_true, Int.toNat_natCast, Nat.mul_one, dI_cel_map, at_map hi, h1, hb, hin, decide_true, if_true, bff, Int.natCast_nonneg, List.length_map, Nat.le_of_lt hi, stepO_nxt]
    rw [← hr]; rfl
   ·rw [he]; simp only [hx, decide_false, Bool.false_or]
theorem F157_eq (l : List Int) (x : Int) (hl : l.length ≤ 1025) : F157 l.length (l.map vI) x = some (decide (x ∈ l)) := by
 obtain ⟨r, hr, he⟩ := F158_loop l x hl l.length 0 (by omega)
 have h : F158 l.length (l.map vI) x = some r := by
  unfold F158
  rw [res_eq]
  simp only [B158, sem_nxt, stepO_nxt]
  exact hr
 unfold F157
 rw [res_eq]
 simp only [B157, h, sbs, sem_ret, stepO_ret]
 rw [he, List.drop_zero]
theorem F66_loop (l : List Int) (x : Int) (hl : l.length ≤ 1025) : ∀ (k i : Nat), l.length = i + k → res B66 (.c1 l.length (l.map vI) x (i : Int)) = some (decide (x ∈ l.drop i))
 | 0, i, hk => by
  have h1 : ¬ ((i : Int) < (l.length : Int)) := by omega
  rw [List.drop_of_length_le (by omega), res_eq]
  simp only [B66, sem_br, sem_ret, h1, decide_false, bff, stepO_ret]
  rfl
 | k + 1, i, hk => by
  have hi : i < l.length := by omega
  have h1 : (i : Int) < (l.length : Int) := by omega
  have hin : inI64 ((i : Int) + 1) := by unfold inI64; omega
  have ih := F66_loop l x hl k (i + 1) (by omega)
  rw [mem_drop hi, res_eq]
  by_cases hx : x = l.getD i 0
  ·have hb : (l.getD i 0 == x) = true := by simpa using hx.symm
   simp only [B66, sem_br, sem_ask, sem_ret, PC.holds, need_true, Int.toNat_natCast, Nat.mul_one, dI_cel_map, at_map hi, h1, hb, decide_true, if_true, Int.natCast_nonneg, List.length_map, Nat.le_of_lt hi, stepO_ret]
   rw [decide_eq_true hx, Bool.true_or]
  ·have hb : (l.getD i 0 == x) = false := by simpa using fun h => hx h.symm
   simp only [B66, sem_br, sem_ask, sem_nxt, PC.holds, need_true, Int.toNat_natCast, Nat.mul_one, dI_cel_map, at_map hi, h1, hb, hin, decide_true, if_true, bff, Int.natCast_nonneg, List.length_map, Nat.le_of_lt hi, stepO_nxt]
   rw [decide_eq_false hx, Bool.false_or, ← ih]; rfl
theorem F66_eq (l : List Int) (x : Int) (hl : l.length ≤ 1025) : F66 l.length (l.map vI) x = some (decide (x ∈ l)) := by
 unfold F66
 rw [res_eq]
 simp only [B66, sem_nxt, stepO_nxt]
 have := F66_loop l x hl l.length 0 (by omega)
 rw [List.drop_zero] at this
 exact this
section
variable {sg : List Int} {ns : List (List Int)} {mg mk : Int} {nt : List Int}
end
end
section
open Go Go.RowKit
def eG (g : Int × Int) : List DV := [.v (.int .i64 g.1), .v (.int .i64 g.2)]
abbrev ND : Type := ByteArray × Int × Int × List (Int × Int)
abbrev LD : Type := Int × ByteArray × List (Int × Int)
def eN (x : ND) : List DV := [.v (.string x.1), .v (.int .i64 x.2.1), .v (.int .i64 x.2.2.1), .sl x.2.2.2.length (x.2.2.2.flatMap eG)]
def eL (x : LD) : List DV := [.v (.int .i64 x.1), .v (.string x.2.1), .sl x.2.2.length (x.2.2.flatMap eG)]
def gD (l : List (Int × Int)) (i : Nat) : Int × Int := l.getD i (0, 0)
def nD (l : List ND) (i : Nat) : ND := l.getD i (ByteArray.empty, 0, 0, [])
def lD (l : List LD) (i : Nat) : LD := l.getD i (0, ByteArray.empty, [])
theorem dropE {E : Type} {enc : E → List DV} {m : Nat} (h : ∀ x, (enc x).length = m) {l : List E} {i : Nat} (hi : i < l.length) (d : E) : (l.flatMap enc).drop (i * m) = enc (l.getD i d) ++ (l.drop (i + 1)).flatMap enc := by
 rw [fm_drop h, List.drop_eq_getElem_cons hi, List.flatMap_cons, List.getD_eq_getElem?_getD, List.getElem?_eq_getElem hi]; rfl
theorem cel_add (xs : List DV) (k j : Nat) : cel xs (k + j) = cel (xs.drop k) j := by
 unfold cel; simp [List.getD_eq_getElem?_getD, List.getElem?_drop]
theorem cel_0 (xs : List DV) (k : Nat) : cel xs k = cel (xs.drop k) 0 := by
 rw [← cel_add]; rfl
section
variable {l : List (Int × Int)} {i : Nat}
theorem gE (hi : i < l.length) : (l.flatMap eG).drop (i * 2) = .v (.int .i64 (gD l i).1) :: .v (.int .i64 (gD l i).2) :: (l.drop (i + 1)).flatMap eG := dropE (enc := eG) (m := 2) (fun _ => rfl) hi (0, 0)
theorem g_len (l : List (Int × Int)) : (l.flatMap eG).length = l.length * 2 := fm_len (enc := eG) (m := 2) (fun _ => rfl) l
theorem g0 (hi : i < l.length) : dI (cel (l.flatMap eG) (i * 2)) = (gD l i).1 := by rw [cel_0, gE hi]; rfl
theorem g1 (hi : i < l.length) : dI (cel (l.flatMap eG) (i * 2 + 1)) = (gD l i).2 := by rw [cel_add, gE hi]; rfl
theorem gd0 (hi : i < l.length) : dI (cel (List.drop (i * 2) (l.flatMap eG)) 0) = (gD l i).1 := by rw [gE hi]; rfl
theorem gd1 (hi : i < l.length) : dI (cel (List.drop (i * 2) (l.flatMap eG)) 1) = (gD l i).2 := by rw [gE hi]; rfl
theorem gt (hi : i < l.length) : List.map AV.d (List.take 2 (List.drop (i * 2) (l.flatMap eG))) = [AV.d (vI ((gD l i).1)), AV.d (vI ((gD l i).2))] := by rw [gE hi]; rfl
theorem gr (hi : i < l.length) : i * 2 ≤ (l.flatMap eG).length := by rw [g_len]; omega
theorem gr2 (hi : i < l.length) {k : Nat} (hk : k ≤ 2) : k ≤ (List.drop (i * 2) (l.flatMap eG)).length := by
 rw [gE hi]; simp only [List.length_cons]; omega
def gF (hi : i < l.length) := And.intro (g0 hi) (And.intro (g1 hi) (And.intro (gt hi) (And.intro (gr hi) (gr2 hi (Nat.le_refl 2)))))
theorem gp0 (hi : i < l.length) : Option.map AV.d (List.drop 0 (List.drop (i * 2) (l.flatMap eG)))[0]? = some (AV.d (vI ((gD l i).1))) := by rw [gE hi]; rfl
theorem gp1 (hi : i < l.length) : Option.map AV.d (List.drop 1 (List.drop (i * 2) (l.flatMap eG)))[0]? = some (AV.d (vI ((gD l i).2))) := by rw [gE hi]; rfl
end
section
variable {l : List ND} {i : Nat}
theorem nE (hi : i < l.length) : (l.flatMap eN).drop (i * 4) = .v (.string (nD l i).1) :: .v (.int .i64 (nD l i).2.1) :: .v (.int .i64 (nD l i).2.2.1) :: .sl (nD l i).2.2.2.length ((nD l i).2.2.2.flatMap eG) :: (l.drop (i + 1)).flatMap eN := dropE (enc := eN) (m := 4) (fun _ => rfl) hi _
theorem n_len (l : List ND) : (l.flatMap eN).length = l.length * 4 := fm_len (enc := eN) (m := 4) (fun _ => rfl) l
theorem n0 (hi : i < l.length) : dS (cel (l.flatMap eN) (i * 4)) = (nD l i).1 := by rw [cel_0, nE hi]; rfl
theorem n1 (hi : i < l.length) : dI (cel (l.flatMap eN) (i * 4 + 1)) = (nD l i).2.1 := by rw [cel_add, nE hi]; rfl
theorem n2 (hi : i < l.length) : dI (cel (l.flatMap eN) (i * 4 + 2)) = (nD l i).2.2.1 := by rw [cel_add, nE hi]; rfl
theorem n3 (hi : i < l.length) : dN (cel (l.flatMap eN) (i * 4 + 3)) = (nD l i).2.2.2.length := by rw [cel_add, nE hi]; rfl
theorem n4 (hi : i < l.length) : dL (cel (l.flatMap eN) (i * 4 + 3)) = (nD l i).2.2.2.flatMap eG := by rw [cel_add, nE hi]; rfl
theorem nd0 (hi : i < l.length) : dS (cel (List.drop (i * 4) (l.flatMap eN)) 0) = (nD l i).1 := by rw [nE hi]; rfl
theorem nd1 (hi : i < l.length) : dI (cel (List.drop (i * 4) (l.flatMap eN)) 1) = (nD l i).2.1 := by rw [nE hi]; rfl
theorem nd2 (hi : i < l.length) : dI (cel (List.drop (i * 4) (l.flatMap eN)) 2) = (nD l i).2.2.1 := by rw [nE hi]; rfl
theorem nd3 (hi : i < l.length) : dN (cel (List.drop (i * 4) (l.flatMap eN)) 3) = (nD l i).2.2.2.length := by rw [nE hi]; rfl
theorem nd4 (hi : i < l.length) : dL (cel (List.drop (i * 4) (l.flatMap eN)) 3) = (nD l i).2.2.2.flatMap eG := by rw [nE hi]; rfl
theorem nt (hi : i < l.length) : List.map AV.d (List.take 4 (List.drop (i * 4) (l.flatMap eN))) = [AV.d (DV.v (Value.string (nD l i).1)), AV.d (vI ((nD l i).2.1)), AV.d (vI ((nD l i).2.2.1)), AV.d (DV.sl (nD l i).2.2.2.length ((nD l i).2.2.2.flatMap eG))] := by rw [nE hi]; rfl
theorem nr (hi : i < l.length) : i * 4 ≤ (l.flatMap eN).length := by rw [n_len]; omega
theorem nr4 (hi : i < l.length) {k : Nat} (hk : k ≤ 4) : k ≤ (List.drop (i * 4) (l.flatMap eN)).length := by
 rw [nE hi]; simp only [List.length_cons]; omega
def nF (hi : i < l.length) := And.intro (n0 hi) (And.intro (n1 hi) (And.intro (n2 hi) (And.intro (n3 hi) (And.intro (n4 hi) (And.intro (nt hi) (And.intro (nr hi) (nr4 hi (Nat.le_refl 4))))))))
theorem np0 (hi : i < l.length) : Option.map AV.d (List.drop 0 (List.drop (i * 4) (l.flatMap eN)))[0]? = some (AV.d (DV.v (Value.string (nD l i).1))) := by rw [nE hi]; rfl
theorem np1 (hi : i < l.length) : Option.map AV.d (List.drop 1 (List.drop (i * 4) (l.flatMap eN)))[0]? = some (AV.d (vI ((nD l i).2.1))) := by rw [nE hi]; rfl
theorem np2 (hi : i < l.length) : Option.map AV.d (List.drop 2 (List.drop (i * 4) (l.flatMap eN)))[0]? = some (AV.d (vI ((nD l i).2.2.1))) := by rw [nE hi]; rfl
theorem np3 (hi : i < l.length) : Option.map AV.d (List.drop 3 (List.drop (i * 4) (l.flatMap eN)))[0]? = some (AV.d (DV.sl (nD l i).2.2.2.length ((nD l i).2.2.2.flatMap eG))) := by rw [nE hi]; rfl
end
section
variable {l : List LD} {i : Nat}
theorem lE (hi : i < l.length) : (l.flatMap eL).drop (i * 3) = .v (.int .i64 (lD l i).1) :: .v (.string (lD l i).2.1) :: .sl (lD l i).2.2.length ((lD l i).2.2.flatMap eG) :: (l.drop (i + 1)).flatMap eL := dropE (enc := eL) (m := 3) (fun _ => rfl) hi _
theorem l_len (l : List LD) : (l.flatMap eL).length = l.length * 3 := fm_len (enc := eL) (m := 3) (fun _ => rfl) l
theorem l0 (hi : i < l.length) : dI (cel (l.flatMap eL) (i * 3)) = (lD l i).1 := by rw [cel_0, lE hi]; rfl
theorem l1 (hi : i < l.length) : dS (cel (l.flatMap eL) (i * 3 + 1)) = (lD l i).2.1 := by rw [cel_add, lE hi]; rfl
theorem l2 (hi : i < l.length) : dN (cel (l.flatMap eL) (i * 3 + 2)) = (lD l i).2.2.length := by rw [cel_add, lE hi]; rfl
theorem l3 (hi : i < l.length) : dL (cel (l.flatMap eL) (i * 3 + 2)) = (lD l i).2.2.flatMap eG := by rw [cel_add, lE hi]; rfl
theorem ld0 (hi : i < l.length) : dI (cel (List.drop (i * 3) (l.flatMap eL)) 0) = (lD l i).1 := by rw [lE hi]; rfl
theorem ld1 (hi : i < l.length) : dS (cel (List.drop (i * 3) (l.flatMap eL)) 1) = (lD l i).2.1 := by rw [lE hi]; rfl
theorem ld2 (hi : i < l.length) : dN (cel (List.drop (i * 3) (l.flatMap eL)) 2) = (lD l i).2.2.length := by rw [lE hi]; rfl
theorem ld3 (hi : i < l.length) : dL (cel (List.drop (i * 3) (l.flatMap eL)) 2) = (lD l i).2.2.flatMap eG := by rw [lE hi]; rfl
theorem lt_ (hi : i < l.length) : List.map AV.d (List.take 3 (List.drop (i * 3) (l.flatMap eL))) = [AV.d (vI ((lD l i).1)), AV.d (DV.v (Value.string (lD l i).2.1)), AV.d (DV.sl (lD l i).2.2.length ((lD l i).2.2.flatMap eG))] := by rw [lE hi]; rfl
theorem lr (hi : i < l.length) : i * 3 ≤ (l.flatMap eL).length := by rw [l_len]; omega
theorem lr3 (hi : i < l.length) {k : Nat} (hk : k ≤ 3) : k ≤ (List.drop (i * 3) (l.flatMap eL)).length := by
 rw [lE hi]; simp only [List.length_cons]; omega
def lF (hi : i < l.length) := And.intro (l0 hi) (And.intro (l1 hi) (And.intro (l2 hi) (And.intro (l3 hi) (And.intro (lt_ hi) (And.intro (lr hi) (lr3 hi (Nat.le_refl 3)))))))
theorem lp1 (hi : i < l.length) : Option.map AV.d (List.drop 1 (List.drop (i * 3) (l.flatMap eL)))[0]? = some (AV.d (DV.v (Value.string (lD l i).2.1))) := by rw [lE hi]; rfl
theorem lp2 (hi : i < l.length) : Option.map AV.d (List.drop 2 (List.drop (i * 3) (l.flatMap eL)))[0]? = some (AV.d (DV.sl (lD l i).2.2.length ((lD l i).2.2.flatMap eG))) := by rw [lE hi]; rfl
end
end
section
open Go Go.RowKit
theorem eqS_iff {a b : ByteArray} : eqS a b = true ↔ a = b := by
 unfold eqS
 rw [beq_iff_eq, ByteArray.toList_eq, ByteArray.toList_eq]
 exact ⟨fun h => ByteArray.ext (Array.toList_inj.1 h), fun h => by rw [h]⟩
theorem eqS_beq (a b : ByteArray) : eqS a b = (a == b) := by
 rw [Bool.eq_iff_iff, eqS_iff, beq_iff_eq]
theorem F20_3 (a b c : Int) : F20 3 [vI a, vI b, vI c] = some (firstI [a, b, c]) := by
 have h := F20_loop [a, b, c] (by simp) 3 0 (by simp)
 unfold F20; rw [res_eq]; simp only [B20, sem_nxt, stepO_nxt]
 exact h
def gauE (g : Int × Int) : Int := firstI [rangeI g.1 (-2) 2, rangeI g.2 (-2) 2, whenI (g.1 == 0 && g.2 == 0) 6]
def facE (cr : Int) (l : List (Int × Int)) : Int := if (l.length : Int) = cr then firstI (l.map gauE) else 2
theorem F162_eq (a b : Int) : F162 a b = some (gauE (a, b)) := by
 unfold F162; rw [res_eq]
 simp only [B162, F106_eq, F109_eq, F107_3, sbs, sem_ret, stepO_ret, if_true, Bool.and_true, gauE]
theorem gauE_get {l : List (Int × Int)} {i : Nat} (hi : i < l.length) : (l.map gauE).getD i 0 = gauE (gD l i) := by
 unfold gD
 rw [List.getD_eq_getElem?_getD, List.getElem?_map, List.getElem?_eq_getElem hi, List.getD_eq_getElem?_getD, List.getElem?_eq_getElem hi]; rfl
theorem F161_loop {l : List (Int × Int)} (hl : l.length ≤ 1025) : ∀ (k i e : Nat), l.length = i + k →
  res B161 (.c2 e i (((l.map gauE).take i).map vI) l.length (l.flatMap eG) (l.length : Int) (i : Int) e) = some (l.length, (l.map gauE).map vI)
 | 0, i, e, hk => by
  have : ¬ ((i : Int) < (l.length : Int)) := by omega
  rw [res_eq]
  simp only [B161, sem_br, sem_ret, this, decide_false, bff, stepO_ret]
  rw [List.take_of_length_le (by rw [List.length_map]; omega), show i = l.length by omega]
 | k + 1, i, e, hk => by
  have hi : i < l.length := by omega
  have h1 : (i : Int) < (l.length : Int) := by omega
  have ih := F161_loop hl k (i + 1) (e + 1) (by omega)
  have hin : inI64 ((i : Int) + 1) := by unfold inI64; omega
  have hf : fitsN (i + 1) 8 := ⟨by omega, by omega⟩
  rw [res_eq]
  simp only [B161, F162_eq, gF hi, sem_br, sem_ask, sem_nxt, sbs, PC.holds, need_true, Int.toNat_natCast, h1, hin, hf, decide_true, if_true, Int.natCast_nonneg, stepO_nxt]
  rw [← ih, takeS 0 (by rw [List.length_map]; exact hi), gauE_get hi]; rfl
theorem F161_eq {l : List (Int × Int)} (hl : l.length ≤ 1025) : F161 l.length (l.flatMap eG) = some (l.length, (l.map gauE).map vI) := by
 unfold F161; rw [res_eq]
 simp only [B161, sem_nxt, stepO_nxt]
 rw [res_eq]
 by_cases h0 : l.length = 0
 ·obtain rfl : l = [] := List.eq_nil_of_length_eq_zero h0
  simp [B161, sem_br, sem_ret, stepO_ret]
 ·have hi : 0 < l.length := by omega
  have h1 : (0 : Int) < (l.length : Int) := by omega
  have := F161_loop hl (l.length - 1) 1 0 (by omega)
  have hin : inI64 ((0 : Int) + 1) := by unfold inI64; omega
  have t1 := takeS (l := l.map gauE) (i := 0) 0 (by rw [List.length_map]; exact hi) vI
  have a0 := g0 hi; have a1 := g1 hi; have at' := gt hi; have ar := gr hi; have ar2 := gr2 hi (Nat.le_refl 2)
  simp only [Nat.zero_mul] at a0 a1 at' ar ar2
  simp only [B161, F162_eq, Int.toNat_zero, Nat.zero_mul, a0, a1, at', ar, ar2, sem_br, sem_ask, sem_nxt, sbs, PC.holds, need_true, h1, hin, decide_true, if_true, Int.le_refl, stepO_nxt]
  rw [← this, t1, gauE_get hi]; rfl
theorem F108_eq {cr : Int} {n1 n2 n3 : Nat} {x1 x2 x3 : List DV} {l : List (Int × Int)} (hl : l.length ≤ 1025) : F108 cr n1 x1 n2 x2 n3 x3 l.length (l.flatMap eG) = some (facE cr l) := by
 unfold F108 facE; rw [res_eq]
 have h7 := F107_eq (l.map gauE) (by rw [List.length_map]; omega)
 rw [List.length_map] at h7
 by_cases h : (l.length : Int) = cr
 ·simp only [B108, F161_eq hl, h7, h, bne_self_eq_false, sem_br, sem_ret, sbs, bff, if_true, stepO_ret]
 ·simp only [B108, bne_iff_ne.2 h, h, sem_br, sem_ret, if_true, if_false, stepO_ret]
theorem F103_loop {l : List (Int × Int)} (hl : l.length ≤ 1025) : ∀ (k i : Nat), l.length = i + k → res B103 (.c1 l.length (l.flatMap eG) (i : Int)) = some (firstI ((l.map gauE).drop i))
 | 0, i, hk => by
  have h1 : ¬ ((i : Int) < (l.length : Int)) := by omega
  rw [res_eq, List.drop_of_length_le (by rw [List.length_map]; omega)]
  simp only [B103, sem_br, sem_ret, h1, decide_false, bff, stepO_ret, firstI]
 | k + 1, i, hk => by
  have hi : i < l.length := by omega
  have h1 : (i : Int) < (l.length : Int) := by omega
  have hin : inI64 ((i : Int) + 1) := by unfold inI64; omega
  have ih := F103_loop hl k (i + 1) (by omega)
  have hg : firstI [rangeI (gD l i).1 (-2) 2, rangeI (gD l i).2 (-2) 2, whenI ((gD l i).1 == 0 && (gD l i).2 == 0) 6] = gauE (gD l i) := rfl
  rw [res_eq, dropD 0 (by rw [List.length_map]; exact hi), gauE_get hi]
  simp only [B103, F39_eq, F37_eq, F20_3, g0 hi, g1 hi, gd0 hi, gd1 hi, gt hi, gr hi, gr2 hi (Nat.le_refl 2), gr2 hi (Nat.zero_le 2), gr2 hi (show 1 ≤ 2 by decide), gp0 hi, gp1 hi, sem_br, sem_ask, sem_nxt, sbs, PC.holds, need_true, Int.toNat_natCast, h1, hin, decide_true, if_true, Int.natCast_nonneg, Bool.and_true, hg]
  by_cases hz : gauE (gD l i) = 0
  ·simp only [hz, bne_self_eq_false, bff, sem_nxt, stepO_nxt, first_z]
   rw [← ih]; rfl
  ·simp only [bne_iff_ne.2 hz, if_true, sem_ret, stepO_ret, first_pos hz]
theorem F103_eq {cr : Int} {l : List (Int × Int)} (hl : l.length ≤ 1025) : F103 cr l.length (l.flatMap eG) = some (facE cr l) := by
 unfold F103 facE; rw [res_eq]
 by_cases h : (l.length : Int) = cr
 ·simp only [B103, h, bne_self_eq_false, sem_br, sem_nxt, bff, if_true, stepO_nxt]
  exact F103_loop hl l.length 0 (by omega)
 ·simp only [B103, bne_iff_ne.2 h, h, sem_br, sem_ret, if_true, if_false, stepO_ret]
def bt (s : ByteArray) (i : Nat) : Nat := (s.data.toList.getD i 0).toNat
theorem bt_get {s : ByteArray} {i : Nat} (hi : i < s.size) : (s.get! i).toNat = bt s i := by
 unfold bt
 have h2 : i < s.data.toList.length := by simpa using hi
 have : s.get! i = s.data.toList[i] := by
  have : s.get! i = s.data[i]! := rfl
  rw [this, getElem!_pos s.data i hi]; simp
 rw [this, List.getD_eq_getElem?_getD, List.getElem?_eq_getElem h2]; rfl
theorem dec_lo {s : ByteArray} {i : Nat} (hi : i < s.size) (h : bt s i < 128) : Utf8.decode s i = (bt s i, 1) := by
 unfold Utf8.decode
 simp only [Nat.add_zero, bt_get hi]
 rw [if_pos h]
theorem dec_hi {s : ByteArray} {i : Nat} (hi : i < s.size) (h : ¬ bt s i < 128) : 128 ≤ (Utf8.decode s i).1 := by
 unfold Utf8.decode
 simp only [Nat.add_zero, bt_get hi]
 rw [if_neg h]
 have he : 128 ≤ Utf8.runeError := by decide
 repeat' split
 all_goals first | exact he | (rename_i hc; first | (simp only [Bool.and_eq_true, decide_eq_true_eq] at hc; omega) | omega) | skip
 all_goals (simp only; omega)
def okc (first : Bool) (c : Int) : Bool :=
 (if decide (c ≥ 97) = true then decide (c ≤ 122) else false) || (if decide (c ≥ 65) = true then decide (c ≤ 90) else false) || (!first && (!(c != 95) || !(if decide (c < 48) = true then true else decide (c > 57))))
def allN (s : ByteArray) : Nat → Nat → Bool
 | 0, _ => true
 | k + 1, i => okc ((i : Int) == 0) (bt s i : Int) && allN s k (i + 1)
def isName (s : ByteArray) : Bool := if (if eqS s (ByteArray.mk #[]) = true then true else decide ((s.size : Int) > 24)) = true then false else allN s s.size 0
theorem F110_loop (s : ByteArray) : ∀ (k i : Nat), s.size = i + k → res B110 (.c1 s i) = some (allN s k i && (if (!eqS s (ByteArray.mk #[])) = true then decide ((s.size : Int) ≤ 24) else false))
 | 0, i, hk => by
  have h1 : i.blt s.size = false := by
   rw [Bool.eq_false_iff]; intro h; rw [Nat.blt_eq] at h; omega
  have h2 : s.size ≤ i := by omega
  rw [res_eq]
  simp only [B110, sem_br, sem_triv, sem_ask, sem_ret, PC.holds, h1, h2, need_true, bff, stepO_ret, allN, Bool.true_and]
 | k + 1, i, hk => by
  have hi : i < s.size := by omega
  have h1 : i.blt s.size = true := by rw [Nat.blt_eq]; exact hi
  have ih := F110_loop s k (i + 1) (by omega)
  rw [res_eq]
  unfold allN
  by_cases h8 : bt s i < 128
  ·simp only [B110, dec_lo hi h8, h1, hi, sem_br, sem_ask, sem_triv, sem_nxt, sem_ret, PC.holds, need_true, if_true]
   unfold okc
   generalize (if decide (((bt s i : Nat) : Int) ≥ 97) = true then decide (((bt s i : Nat) : Int) ≤ 122) else false) = a
   generalize (if decide (((bt s i : Nat) : Int) ≥ 65) = true then decide (((bt s i : Nat) : Int) ≤ 90) else false) = b
   generalize (((i : Nat) : Int) == 0) = z
   generalize (((bt s i : Nat) : Int) != 95) = u
   generalize (if decide (((bt s i : Nat) : Int) < 48) = true then true else decide (((bt s i : Nat) : Int) > 57)) = d
   cases a <;> cases b <;> cases z <;> cases u <;> cases d <;> simp [need_true, stepO_ret, stepO_nxt, ih]
  ·have hd := dec_hi hi h8
   have e1 : ∀ c : Nat, 128 ≤ c → (if decide ((c : Int) ≥ 97) = true then decide ((c : Int) ≤ 122) else false) = false := by
    intro c hc; rw [if_pos (decide_eq_true (by omega)), decide_eq_false (by omega)]
   have e2 : ∀ c : Nat, 128 ≤ c → (if decide ((c : Int) ≥ 65) = true then decide ((c : Int) ≤ 90) else false) = false := by
    intro c hc; rw [if_pos (decide_eq_true (by omega)), decide_eq_false (by omega)]
   have e3 : ∀ c : Nat, 128 ≤ c → ((c : Int) != 95) = true := by
    intro c hc; rw [bne_iff_ne]; omega
   have e4 : ∀ c : Nat, 128 ≤ c → (if decide ((c : Int) < 48) = true then true else decide ((c : Int) > 57)) = true := by
    intro c hc; rw [if_neg (by rw [decide_eq_true_iff]; omega), decide_eq_true (by omega)]
   have hk : okc ((i : Int) == 0) (bt s i : Int) = false := by
    unfold okc; rw [e1 _ (by omega), e2 _ (by omega), e3 _ (by omega), e4 _ (by omega)]; cases ((i : Int) == 0) <;> rfl
   rw [hk]
   simp only [B110, e1 _ hd, e2 _ hd, e3 _ hd, e4 _ hd, h1, hi, sem_br, sem_ask, sem_triv, sem_nxt, sem_ret, PC.holds, need_true, if_true]
   generalize (((i : Nat) : Int) == 0) = z
   cases z <;> simp [need_true, stepO_ret]
theorem F110_eq (s : ByteArray) : F110 s = some (isName s) := by
 unfold F110; rw [res_eq]
 simp only [B110, sem_nxt, stepO_nxt]
 rw [F110_loop s s.size 0 (by omega)]
 unfold isName
 cases eqS s (ByteArray.mk #[])
 ·by_cases h : (s.size : Int) ≤ 24
  ·simp [h, show ¬ ((s.size : Int) > 24) by omega]
  ·simp [h, show ((s.size : Int) > 24) by omega]
 ·simp
theorem F185_loop (s : ByteArray) (hs : s.size ≤ 1000) : ∀ (k i : Nat), s.size = i + k → res B185 (.c1 s (i : Int)) = some (allN s k i)
 | 0, i, hk => by
  have h1 : ¬ ((i : Int) < (s.size : Int)) := by omega
  rw [res_eq]
  simp only [B185, sem_br, sem_ret, h1, decide_false, bff, stepO_ret, allN]
 | k + 1, i, hk => by
  have hi : i < s.size := by omega
  have h1 : (i : Int) < (s.size : Int) := by omega
  have hin : inI64 ((i : Int) + 1) := by unfold inI64; omega
  have ih := F185_loop s hs k (i + 1) (by omega)
  have ih : res B185 (.c1 s ((i : Int) + 1)) = some (allN s k (i + 1)) := ih
  rw [res_eq]
  unfold allN
  have hb : ((s.data.toList.getD i 0).toNat : Int) = (bt s i : Int) := rfl
  have e95 : (((bt s i : Nat) : Int) != 95) = !(((bt s i : Nat) : Int) == 95) := rfl
  simp only [B185, sem_br, sem_ask, sem_triv, sem_nxt, sem_ret, PC.holds, need_true, h1, hi, hin, tnn, decide_true, if_true, hb]
  unfold okc
  rw [e95]
  generalize ((bt s i : Nat) : Int) = c
  generalize (((i : Nat) : Int) == 0) = z
  generalize hu : (c == 95) = u
  by_cases a1 : c ≥ 97
  ·have a3 : ¬ c < 48 := by omega
   have a4 : c > 57 := by omega
   have a5 : c ≥ 65 := by omega
   have a6 : c ≥ 48 := by omega
   have a7 : ¬ c ≤ 57 := by omega
   have a8 : ¬ c ≤ 90 := by omega
   by_cases a2 : c ≤ 122
   ·cases z <;> cases u <;> simp [a1, a2, a3, a4, a5, a6, a7, a8, need_true, stepO_ret, stepO_nxt, ih]
   ·cases z <;> cases u <;> simp [a1, a2, a3, a4, a5, a6, a7, a8, need_true, stepO_ret, stepO_nxt, ih]
  ·by_cases a5 : c ≥ 65
   ·have a3 : ¬ c < 48 := by omega
    have a4 : c > 57 := by omega
    have a6 : c ≥ 48 := by omega
    have a7 : ¬ c ≤ 57 := by omega
    by_cases a8 : c ≤ 90
    ·cases z <;> cases u <;> simp [a1, a3, a4, a5, a6, a7, a8, need_true, stepO_ret, stepO_nxt, ih]
    ·cases z <;> cases u <;> simp [a1, a3, a4, a5, a6, a7, a8, need_true, stepO_ret, stepO_nxt, ih]
   ·by_cases a6 : c ≥ 48
    ·have a3 : ¬ c < 48 := by omega
     by_cases a7 : c ≤ 57
     ·have a4 : ¬ c > 57 := by omega
      have : u = false := by rw [← hu]; simp; omega
      cases z <;> simp [a1, a3, a4, a5, a6, a7, this, need_true, stepO_ret, stepO_nxt, ih]
     ·have a4 : c > 57 := by omega
      cases z <;> cases u <;> simp [a1, a3, a4, a5, a6, a7, need_true, stepO_ret, stepO_nxt, ih]
    ·have a3 : c < 48 := by omega
     cases z <;> cases u <;> simp [a1, a3, a5, a6, need_true, stepO_ret, stepO_nxt, ih]
theorem F185_eq (s : ByteArray) : F185 s = some (isName s) := by
 unfold F185 isName; rw [res_eq]
 by_cases h : (if eqS s (ByteArray.mk #[]) = true then true else decide ((s.size : Int) > 24)) = true
 ·simp only [B185, sem_br, sem_triv, sem_ret, h, if_true, stepO_ret]
 ·have hs : s.size ≤ 24 := by
   apply Classical.byContradiction
   intro hn
   apply h
   rw [decide_eq_true (show (s.size : Int) > 24 by omega)]
   split <;> rfl
  simp only [B185, sem_br, sem_triv, sem_nxt, h, if_false, stepO_nxt]
  exact F185_loop s (by omega) s.size 0 (by omega)
theorem F160_eq (s : ByteArray) : F160 s = some (whenI (!isName s) 8) := by
 unfold F160; rw [res_eq]
 simp only [B160, F185_eq, F37_eq, sbs, sem_ret, stepO_ret]
def staE (s : ByteArray) : Int := whenI (if (if (!eqS s (ByteArray.mk #[111, 110])) = true then !eqS s (ByteArray.mk #[111, 102, 102]) else false) = true then !eqS s (ByteArray.mk #[109, 97, 121]) else false) 13
theorem F93_eq (s : ByteArray) : F93 s = some (staE s) := by
 unfold F93 staE; rw [res_eq]
 simp only [B93, F37_eq, sem_triv, sbs, sem_ret, stepO_ret]
abbrev sts : List DV := [.v (.string (ByteArray.mk #[111, 110])), .v (.string (ByteArray.mk #[111, 102, 102])), .v (.string (ByteArray.mk #[109, 97, 121]))]
theorem F113_eq (s : ByteArray) : F113 s = some (staE s) := by
 have l3 : res B186 (.c1 3 sts s 3 3) = some (-1) := by
  rw [res_eq]; simp [B186, sem_br, sem_ret, stepO_ret]
 have c0 : cel sts 0 = .v (.string (ByteArray.mk #[111, 110])) := rfl
 have c1 : cel sts 1 = .v (.string (ByteArray.mk #[111, 102, 102])) := rfl
 have c2 : cel sts 2 = .v (.string (ByteArray.mk #[109, 97, 121])) := rfl
 have i1 : inI64 ((0 : Int) + 1) := by unfold inI64; omega
 have i2 : inI64 ((1 : Int) + 1) := by unfold inI64; omega
 have i3 : inI64 ((2 : Int) + 1) := by unfold inI64; omega
 have l2 : res B186 (.c1 3 sts s 3 2) = some (if eqS s (ByteArray.mk #[109, 97, 121]) = true then 2 else -1) := by
  rw [res_eq]
  simp only [B186, sem_br, sem_ask, sem_nxt, sem_ret, PC.holds, show Int.toNat 2 * 1 = 2 from rfl, c2, show dS (.v (.string (ByteArray.mk #[109, 97, 121]))) = ByteArray.mk #[109, 97, 121] from rfl, show (List.drop 2 sts)[0]? = some (.v (.string (ByteArray.mk #[109, 97, 121]))) from rfl, Option.map_some, need_true, show decide ((2 : Int) < 3) = true from rfl, if_true, show (0 : Int) ≤ 2 from by decide, show (2 : Int) < ((3 : Nat) : Int) from by decide, show 2 ≤ sts.length from by decide, i3]
  cases eqS s (ByteArray.mk #[109, 97, 121])
  ·simp only [bff, stepO_nxt]; exact l3
  ·simp only [if_true, stepO_ret]
 have l1 : res B186 (.c1 3 sts s 3 1) = some (if eqS s (ByteArray.mk #[111, 102, 102]) = true then 1 else if eqS s (ByteArray.mk #[109, 97, 121]) = true then 2 else -1) := by
  rw [res_eq]
  simp only [B186, sem_br, sem_ask, sem_nxt, sem_ret, PC.holds, show Int.toNat 1 * 1 = 1 from rfl, c1, show dS (.v (.string (ByteArray.mk #[111, 102, 102]))) = ByteArray.mk #[111, 102, 102] from rfl, show (List.drop 1 sts)[0]? = some (.v (.string (ByteArray.mk #[111, 102, 102]))) from rfl, Option.map_some, need_true, show decide ((1 : Int) < 3) = true from rfl, if_true, show (0 : Int) ≤ 1 from by decide, show (1 : Int) < ((3 : Nat) : Int) from by decide, show 1 ≤ sts.length from by decide, i2]
  cases eqS s (ByteArray.mk #[111, 102, 102])
  ·simp only [bff, stepO_nxt]; exact l2
  ·simp only [if_true, stepO_ret]
 have l0 : res B186 (.c1 3 sts s 3 0) = some (if eqS s (ByteArray.mk #[111, 110]) = true then 0 else if eqS s (ByteArray.mk #[111, 102, 102]) = true then 1 else if eqS s (ByteArray.mk #[109, 97, 121]) = true then 2 else -1) := by
  rw [res_eq]
  simp only [B186, sem_br, sem_ask, sem_nxt, sem_ret, PC.holds, show Int.toNat 0 * 1 = 0 from rfl, c0, show dS (.v (.string (ByteArray.mk #[111, 110]))) = ByteArray.mk #[111, 110] from rfl, show (List.drop 0 sts)[0]? = some (.v (.string (ByteArray.mk #[111, 110]))) from rfl, Option.map_some, need_true, show decide ((0 : Int) < 3) = true from rfl, if_true, Int.le_refl, show (0 : Int) < ((3 : Nat) : Int) from by decide, Nat.zero_le, i1]
  cases eqS s (ByteArray.mk #[111, 110])
  ·simp only [bff, stepO_nxt]; exact l1
  ·simp only [if_true, stepO_ret]
 have f186 : F186 3 sts s = some (if eqS s (ByteArray.mk #[111, 110]) = true then 0 else if eqS s (ByteArray.mk #[111, 102, 102]) = true then 1 else if eqS s (ByteArray.mk #[109, 97, 121]) = true then 2 else -1) := by
  unfold F186; rw [res_eq]; simp only [B186, sem_nxt, stepO_nxt]; exact l0
 have f163 : F163 3 sts s = some (decide ((if eqS s (ByteArray.mk #[111, 110]) = true then 0 else if eqS s (ByteArray.mk #[111, 102, 102]) = true then 1 else if eqS s (ByteArray.mk #[109, 97, 121]) = true then (2 : Int) else -1) ≥ 0)) := by
  unfold F163; rw [res_eq]; simp only [B163, f186, sbs, sem_ret, stepO_ret]
 unfold F113 staE; rw [res_eq]
 simp only [B113, f163, F109_eq, sbs, sem_ret, stepO_ret]
 cases eqS s (ByteArray.mk #[111, 110]) <;> cases eqS s (ByteArray.mk #[111, 102, 102]) <;> cases eqS s (ByteArray.mk #[109, 97, 121]) <;> rfl
end
section
open Go Go.RowKit
def nodE (cr : Int) (ns : List ND) (i : Nat) : Int :=
 if i = 0 then whenI (decide ((nD ns 0).2.1 ≠ 0 ∨ (nD ns 0).2.2.1 ≠ 0 ∨ 0 < (nD ns 0).2.2.2.length)) 21
 else if (nD ns i).2.1 < 0 ∨ (nD ns i).2.1 ≥ (i : Int) then 10
 else firstI [rangeI (nD ns i).2.2.1 1 3, whenI (decide ((nD ns i).2.1 > 0 ∧ (nD ns (nD ns i).2.1.toNat).2.2.1 ≠ (nD ns i).2.2.1)) 24, facE cr (nD ns i).2.2.2]
theorem nD_mem {ns : List ND} {i : Nat} (hi : i < ns.length) : nD ns i ∈ ns := by
 unfold nD
 rw [List.getD_eq_getElem?_getD, List.getElem?_eq_getElem hi]; exact List.getElem_mem hi
theorem lD_mem {ls : List LD} {i : Nat} (hi : i < ls.length) : lD ls i ∈ ls := by
 unfold lD
 rw [List.getD_eq_getElem?_getD, List.getElem?_eq_getElem hi]; exact List.getElem_mem hi
structure SM (cs : List (Int × Int)) (ns : List ND) (ls : List LD) : Prop where
 c : cs.length ≤ 9
 n : ns.length ≤ 17
 l : ls.length ≤ 17
 nf : ∀ x ∈ ns, x.1.size ≤ 40 ∧ x.2.2.2.length ≤ 9
 lf : ∀ x ∈ ls, x.2.1.size ≤ 40 ∧ x.2.2.length ≤ 9
section
variable {cr : Int} {cs : List (Int × Int)} {ns : List ND} {ls : List LD}
theorem F111_eq (h : SM cs ns ls) {i : Nat} (hi : i < ns.length) : F111 cr cs.length (cs.flatMap eG) ns.length (ns.flatMap eN) ls.length (ls.flatMap eL) (i : Int) = some (nodE cr ns i) := by
 have hf := (h.nf _ (nD_mem hi)).2
 have h1 : (i : Int) < (ns.length : Int) := by omega
 unfold F111 nodE; rw [res_eq]
 simp only [B111, F109_eq, F106_eq, F108_eq (show (nD ns i).2.2.2.length ≤ 1025 by omega), F107_3, nF hi, sem_br, sem_ask, sem_triv, sem_ret, sbs, PC.holds, need_true, tnn, h1]
 by_cases hz : i = 0
 ·subst hz
  simp only [if_true, show (((0 : Nat) : Int) == 0) = true from rfl]
  by_cases a : (nD ns 0).2.1 = 0
  ·by_cases b : (nD ns 0).2.2.1 = 0
   ·simp only [a, b, bne_self_eq_false, bff, ne_eq, not_true_eq_false, false_or, stepO_ret]
    congr 2
    by_cases hl : 0 < (nD ns 0).2.2.2.length
    ·rw [decide_eq_true hl, decide_eq_true (by omega)]
    ·rw [decide_eq_false hl, decide_eq_false (by omega)]
   ·simp only [a, bne_iff_ne.2 b, bne_self_eq_false, bff, if_true, ne_eq, not_true_eq_false, b, not_false_eq_true, false_or, true_or, decide_true, stepO_ret]
  ·simp only [bne_iff_ne.2 a, if_true, ne_eq, a, not_false_eq_true, true_or, decide_true, stepO_ret]
 ·have hb : ((i : Int) == 0) = false := by rw [beq_eq_false_iff_ne]; omega
  simp only [hz, hb, bff]
  by_cases a : (nD ns i).2.1 < 0
  ·simp only [a, decide_true, if_true, true_or, stepO_ret]
  ·by_cases b : (nD ns i).2.1 ≥ (i : Int)
   ·simp only [a, b, decide_true, decide_false, bff, if_true, false_or, stepO_ret]
   ·simp only [a, b, decide_false, bff, false_or]
    by_cases p : (nD ns i).2.1 > 0
    ·obtain ⟨j, hj⟩ : ∃ j : Nat, (nD ns i).2.1 = (j : Int) := ⟨(nD ns i).2.1.toNat, by omega⟩
     rw [hj] at a b p ⊢
     have hjn : j < ns.length := by omega
     have h2 : (j : Int) < (ns.length : Int) := by omega
     simp only [p, Int.toNat_natCast, nd2 hjn, nr hjn, nr4 hjn (show 2 ≤ 4 by decide), np2 hjn, h2, decide_true, if_true, need_true, Int.natCast_nonneg, stepO_ret, true_and]
     congr 4
     by_cases e : (nD ns j).2.2.1 = (nD ns i).2.2.1
     ·simp [e]
     ·rw [bne_iff_ne.2 e]; simp [e]
    ·simp only [p, decide_false, bff, need_true, stepO_ret, false_and]
def dupN (ns : List ND) (nm : ByteArray) : Nat → Nat → Bool
 | 0, _ => false
 | k + 1, j => eqS (nD ns j).1 nm || dupN ns nm k (j + 1)
def kn (ns : List ND) : Nat → MSB
 | 0 => []
 | k + 1 => mset (kn ns k) (nD ns k).1 true
theorem dupN_iff (nm : ByteArray) : ∀ (k j : Nat), dupN ns nm k j = true ↔ ∃ m, j ≤ m ∧ m < j + k ∧ (nD ns m).1 = nm
 | 0, j => by simp [dupN]; omega
 | k + 1, j => by
  unfold dupN
  rw [Bool.or_eq_true, eqS_iff, dupN_iff nm k (j + 1)]
  constructor
  ·rintro (h | ⟨m, h1, h2, h3⟩)
   ·exact ⟨j, Nat.le_refl _, by omega, h⟩
   ·exact ⟨m, by omega, by omega, h3⟩
  ·rintro ⟨m, h1, h2, h3⟩
   by_cases hm : m = j
   ·subst hm; exact .inl h3
   ·exact .inr ⟨m, by omega, by omega, h3⟩
theorem kn_iff (nm : ByteArray) : ∀ k : Nat, mgetS (kn ns k) nm = true ↔ ∃ m, m < k ∧ (nD ns m).1 = nm
 | 0 => by simp [kn, mgetS, mfind]
 | k + 1 => by
  have ih := kn_iff nm k
  unfold mgetS at ih ⊢
  unfold kn
  by_cases h : (nD ns k).1 = nm
  ·subst h
   rw [mfind_mset_same]
   exact ⟨fun _ => ⟨k, by omega, rfl⟩, fun _ => rfl⟩
  ·rw [mfind_mset_ne _ _ (by rw [beq_eq_false_iff_ne]; exact fun e => h e.symm), ih]
   constructor
   ·rintro ⟨m, h1, h2⟩; exact ⟨m, by omega, h2⟩
   ·rintro ⟨m, h1, h2⟩
    refine ⟨m, ?_, h2⟩
    by_cases hm : m = k
    ·subst hm; exact absurd h2 h
    ·omega
theorem kn_dup (nm : ByteArray) (k : Nat) : mgetS (kn ns k) nm = dupN ns nm k 0 := by
 rw [Bool.eq_iff_iff, kn_iff, dupN_iff]
 constructor
 ·rintro ⟨m, h1, h2⟩; exact ⟨m, Nat.zero_le _, by omega, h2⟩
 ·rintro ⟨m, _, h1, h2⟩; exact ⟨m, by omega, h2⟩
def nodF (cr : Int) (ns : List ND) (i : Nat) : Int := firstI [whenI (!isName (nD ns i).1) 8, whenI (dupN ns (nD ns i).1 i 0) 9, nodE cr ns i]
def nodsE (cr : Int) (ns : List ND) : Nat → Nat → Int
 | 0, _ => 0
 | k + 1, i => if nodF cr ns i = 0 then nodsE cr ns k (i + 1) else nodF cr ns i
def lodE (cr : Int) (n : Nat) (x : LD) : Int := firstI [whenI (decide (x.1 < 0 ∨ x.1 ≥ (n : Int))) 10, staE x.2.1, facE cr x.2.2]
def lodsE (cr : Int) (n : Nat) (ls : List LD) : Nat → Nat → Int
 | 0, _ => 0
 | k + 1, i => if lodE cr n (lD ls i) = 0 then lodsE cr n ls k (i + 1) else lodE cr n (lD ls i)
def headE (cr : Int) (cs : List (Int × Int)) (ns : List ND) : Int := firstI [facE cr cs, whenI ((ns.length : Int) == 0) 12, whenI (decide ((ns.length : Int) > 16)) 5]
def mainsE (cr : Int) (cs : List (Int × Int)) (ns : List ND) (ls : List LD) : Int :=
 if rangeI cr 1 8 ≠ 0 then rangeI cr 1 8 else if headE cr cs ns ≠ 0 then headE cr cs ns else if nodsE cr ns ns.length 0 ≠ 0 then nodsE cr ns ns.length 0
 else if (ls.length : Int) > 16 then 5 else lodsE cr ns.length ls ls.length 0
theorem F112_eq {n1 n2 n3 : Nat} {x1 x2 x3 : List DV} (x : Int) : F112 cr n1 x1 n2 x2 n3 x3 x = some (!decide (x < 0 ∨ x ≥ (n2 : Int))) := by
 unfold F112; rw [res_eq]
 by_cases a : x ≥ 0
 ·by_cases b : x < (n2 : Int)
  ·simp [B112, sem_br, sem_ask, sem_ret, PC.holds, need_true, a, b, stepO_ret, show ¬ x < 0 by omega, show ¬ (n2 : Int) ≤ x by omega]
  ·simp [B112, sem_br, sem_ask, sem_ret, PC.holds, need_true, a, b, stepO_ret, show ¬ x < 0 by omega, show (n2 : Int) ≤ x by omega]
 ·simp [B112, sem_br, sem_ask, sem_ret, PC.holds, need_true, a, stepO_ret, show x < 0 by omega]
theorem F23_loads (h : SM cs ns ls) : ∀ (k i : Nat), ls.length = i + k →
  res B23 (.c2 ls.length (ls.flatMap eL) (ls.length : Int) (i : Int) cr cs.length (cs.flatMap eG) ns.length (ns.flatMap eN)) = some (lodsE cr ns.length ls k i)
 | 0, i, hk => by
  have h1 : ¬ ((i : Int) < (ls.length : Int)) := by omega
  rw [res_eq]
  simp only [B23, sem_br, sem_ret, h1, decide_false, bff, stepO_ret, lodsE]
 | k + 1, i, hk => by
  have hi : i < ls.length := by omega
  have h1 : (i : Int) < (ls.length : Int) := by omega
  have hl := h.l
  have hf := (h.lf _ (lD_mem hi)).2
  have hin : inI64 ((i : Int) + 1) := by unfold inI64; omega
  have ih := F23_loads h k (i + 1) (by omega)
  have hE : firstI [whenI (decide ((lD ls i).1 < 0 ∨ (lD ls i).1 ≥ (ns.length : Int))) 10, staE (lD ls i).2.1, facE cr (lD ls i).2.2] = lodE cr ns.length (lD ls i) := rfl
  rw [res_eq]
  unfold lodsE
  simp only [B23, F112_eq, F109_eq, F113_eq, F108_eq (show (lD ls i).2.2.length ≤ 1025 by omega), F107_3, Bool.not_not, hE, lF hi, sem_br, sem_ask, sem_nxt, sbs, PC.holds, need_true, tnn, h1, hin, decide_true, if_true]
  by_cases hz : lodE cr ns.length (lD ls i) = 0
  ·simp only [hz, bne_self_eq_false, bff, if_true, stepO_nxt]
   rw [← ih]; rfl
  ·simp only [bne_iff_ne.2 hz, hz, if_true, if_false, sem_ret, stepO_ret]
theorem F23_nodes (h : SM cs ns ls) : ∀ (k i : Nat), ns.length = i + k →
  res B23 (.c1 ns.length (ns.flatMap eN) (ns.length : Int) (i : Int) cr cs.length (cs.flatMap eG) ls.length (ls.flatMap eL) (kn ns i)) =
   some (if nodsE cr ns k i ≠ 0 then nodsE cr ns k i else if (ls.length : Int) > 16 then 5 else lodsE cr ns.length ls ls.length 0)
 | 0, i, hk => by
  have h1 : ¬ ((i : Int) < (ns.length : Int)) := by omega
  rw [res_eq]
  by_cases hl : (ls.length : Int) > 16
  ·simp only [B23, sem_br, sem_ret, h1, hl, decide_true, decide_false, bff, if_true, stepO_ret, nodsE, ne_eq, not_true_eq_false]
  ·simp only [B23, sem_br, sem_nxt, h1, hl, decide_false, bff, stepO_nxt, nodsE, ne_eq, not_true_eq_false]
   exact F23_loads h ls.length 0 (by omega)
 | k + 1, i, hk => by
  have hi : i < ns.length := by omega
  have h1 : (i : Int) < (ns.length : Int) := by omega
  have hn := h.n
  have hin : inI64 ((i : Int) + 1) := by unfold inI64; omega
  have ih := F23_nodes h k (i + 1) (by omega)
  have hE : firstI [whenI (!isName (nD ns i).1) 8, whenI (dupN ns (nD ns i).1 i 0) 9, nodE cr ns i] = nodF cr ns i := rfl
  rw [res_eq]
  unfold nodsE
  simp only [B23, F110_eq, F109_eq, kn_dup, F111_eq h hi, F107_3, hE, nF hi, sem_br, sem_ask, sem_nxt, sbs, PC.holds, need_true, tnn, h1, hin, decide_true, if_true]
  by_cases hz : nodF cr ns i = 0
  ·simp only [hz, bne_self_eq_false, bff, if_true, stepO_nxt]
   rw [← ih]; rfl
  ·simp only [bne_iff_ne.2 hz, hz, if_true, if_false, sem_ret, stepO_ret, ne_eq, not_false_eq_true]
theorem F23_eq (h : SM cs ns ls) : F23 cr cs.length (cs.flatMap eG) ns.length (ns.flatMap eN) ls.length (ls.flatMap eL) = some (mainsE cr cs ns ls) := by
 have hc := h.c
 have hE : firstI [facE cr cs, whenI ((ns.length : Int) == 0) 12, whenI (decide ((ns.length : Int) > 16)) 5] = headE cr cs ns := rfl
 unfold F23 mainsE; rw [res_eq]
 by_cases h1 : rangeI cr 1 8 = 0
 ·by_cases h2 : headE cr cs ns = 0
  ·simp only [B23, F106_eq, F108_eq (show cs.length ≤ 1025 by omega), F109_eq, F107_3, hE, h1, h2, sem_br, sem_nxt, sbs, bne_self_eq_false, bff, ne_eq, not_true_eq_false, stepO_nxt]
   exact F23_nodes h ns.length 0 (by omega)
  ·simp only [B23, F106_eq, F108_eq (show cs.length ≤ 1025 by omega), F109_eq, F107_3, hE, h1, bne_iff_ne.2 h2, h2, sem_br, sem_ret, sbs, bne_self_eq_false, bff, if_true, ne_eq, not_true_eq_false, not_false_eq_true, stepO_ret]
 ·simp only [B23, F106_eq, bne_iff_ne.2 h1, h1, sem_br, sem_ret, sbs, if_true, ne_eq, not_false_eq_true, stepO_ret]
theorem F104_tail (h : SM cs ns ls) {i : Nat} (hi : i < ns.length) : ∀ (k j : Nat), i = j + k →
  res B104 (.c1 (i : Int) (j : Int) cr cs.length (cs.flatMap eG) ns.length (ns.flatMap eN) ls.length (ls.flatMap eL) (nD ns i).1 (nD ns i).2.1 (nD ns i).2.2.1 (nD ns i).2.2.2.length ((nD ns i).2.2.2.flatMap eG)) =
   some (if dupN ns (nD ns i).1 k j = true then 9 else nodE cr ns i)
 | 0, j, hk => by
  have hij : ¬ ((j : Int) < (i : Int)) := by omega
  have hf := (h.nf _ (nD_mem hi)).2
  rw [res_eq]
  simp only [B104, F37_eq, F39_eq, F103_eq (show (nD ns i).2.2.2.length ≤ 1025 by omega), F20_3, sem_br, sem_ask, sem_triv, sem_ret, sbs, PC.holds, need_true, hij, decide_false, bff, dupN]
  unfold nodE
  by_cases hz : i = 0
  ·subst hz
   simp only [if_true, show (((0 : Nat) : Int) == 0) = true from rfl]
   by_cases a : (nD ns 0).2.1 = 0
   ·by_cases b : (nD ns 0).2.2.1 = 0
    ·simp only [a, b, bne_self_eq_false, bff, ne_eq, not_true_eq_false, false_or, stepO_ret]
     congr 2
     by_cases hl : 0 < (nD ns 0).2.2.2.length
     ·rw [decide_eq_true hl, decide_eq_true (by omega)]
     ·rw [decide_eq_false hl, decide_eq_false (by omega)]
    ·simp only [a, bne_iff_ne.2 b, bne_self_eq_false, bff, if_true, ne_eq, not_true_eq_false, b, not_false_eq_true, false_or, true_or, decide_true, stepO_ret]
   ·simp only [bff, bne_iff_ne.2 a, if_true, ne_eq, a, not_false_eq_true, true_or, decide_true, stepO_ret]
  ·have hb : ((i : Int) == 0) = false := by rw [beq_eq_false_iff_ne]; omega
   simp only [hz, hb, bff]
   by_cases a : (nD ns i).2.1 < 0
   ·simp only [a, decide_true, if_true, true_or, stepO_ret]
   ·by_cases b : (nD ns i).2.1 ≥ (i : Int)
    ·simp only [a, b, decide_true, decide_false, bff, if_true, false_or, stepO_ret]
    ·simp only [a, b, decide_false, bff, false_or]
     by_cases p : (nD ns i).2.1 > 0
     ·obtain ⟨m, hm⟩ : ∃ m : Nat, (nD ns i).2.1 = (m : Int) := ⟨(nD ns i).2.1.toNat, by omega⟩
      rw [hm] at a b p ⊢
      have hjn : m < ns.length := by omega
      have h2 : (m : Int) < (ns.length : Int) := by omega
      simp only [p, Int.toNat_natCast, nd2 hjn, nr hjn, nr4 hjn (show 2 ≤ 4 by decide), np2 hjn, h2, decide_true, if_true, need_true, Int.natCast_nonneg, stepO_ret, true_and]
      congr 4
      by_cases e : (nD ns m).2.2.1 = (nD ns i).2.2.1
      ·simp [e]
      ·rw [bne_iff_ne.2 e]; simp [e]
     ·simp only [p, decide_false, bff, need_true, stepO_ret, false_and]
 | k + 1, j, hk => by
  have hj : j < ns.length := by omega
  have hij : (j : Int) < (i : Int) := by omega
  have hjn : (j : Int) < (ns.length : Int) := by omega
  have hn := h.n
  have hin : inI64 ((j : Int) + 1) := by unfold inI64; omega
  have ih := F104_tail h hi k (j + 1) (by omega)
  rw [res_eq]
  unfold dupN
  simp only [B104, nd0 hj, nr hj, nr4 hj (Nat.zero_le 4), np0 hj, sem_br, sem_ask, sem_nxt, sem_ret, PC.holds, need_true, tnn, hij, hjn, hin, decide_true, if_true]
  cases eqS (nD ns j).1 (nD ns i).1
  ·simp only [bff, Bool.false_or, stepO_nxt]
   rw [← ih]; rfl
  ·simp only [if_true, Bool.true_or, stepO_ret]
theorem whenI_z {b : Bool} {e : Int} (he : e ≠ 0) : whenI b e = 0 ↔ b = false := by
 cases b
 ·rw [whenF]; simp
 ·rw [whenT]; simp [he]
theorem F104_eq (h : SM cs ns ls) {i : Nat} (hi : i < ns.length) : F104 cr cs.length (cs.flatMap eG) ns.length (ns.flatMap eN) ls.length (ls.flatMap eL) (i : Int) = some (nodF cr ns i) := by
 have h1 : (i : Int) < (ns.length : Int) := by omega
 unfold F104 nodF; rw [res_eq]
 simp only [B104, F160_eq, nF hi, sem_br, sem_ask, sem_nxt, sem_ret, sbs, PC.holds, need_true, tnn, h1]
 cases isName (nD ns i).1
 ·simp only [Bool.not_false, whenT, show ((8 : Int) != 0) = true from rfl, if_true, stepO_ret, first_pos (show (8 : Int) ≠ 0 by decide)]
 ·simp only [Bool.not_true, whenF, bne_self_eq_false, bff, stepO_nxt, first_z]
  have := F104_tail (cr := cr) h hi i 0 (by omega)
  rw [show ((0 : Nat) : Int) = 0 from rfl] at this
  rw [this]
  cases dupN ns (nD ns i).1 i 0
  ·simp only [bff, whenF, first_z, firstI_1]
  ·simp only [if_true, whenT, first_pos (show (9 : Int) ≠ 0 by decide)]
theorem F21_eq {n1 n2 n3 : Nat} {x1 x2 x3 : List DV} (x : Int) : F21 cr n1 x1 n2 x2 n3 x3 x = some (whenI (decide (x < 0 ∨ x ≥ (n2 : Int))) 10) := by
 unfold F21; rw [res_eq]
 simp only [B21, F78_eq, sbs, sem_ret, stepO_ret]
theorem F19_loads (h : SM cs ns ls) : ∀ (k i : Nat), ls.length = i + k →
  res B19 (.c2 (i : Int) cr cs.length (cs.flatMap eG) ns.length (ns.flatMap eN) ls.length (ls.flatMap eL)) = some (lodsE cr ns.length ls k i)
 | 0, i, hk => by
  have h1 : ¬ ((i : Int) < (ls.length : Int)) := by omega
  rw [res_eq]
  simp only [B19, sem_br, sem_ret, h1, decide_false, bff, stepO_ret, lodsE]
 | k + 1, i, hk => by
  have hi : i < ls.length := by omega
  have h1 : (i : Int) < (ls.length : Int) := by omega
  have hl := h.l
  have hf := (h.lf _ (lD_mem hi)).2
  have hin : inI64 ((i : Int) + 1) := by unfold inI64; omega
  have ih := F19_loads h k (i + 1) (by omega)
  have hE : firstI [whenI (decide ((lD ls i).1 < 0 ∨ (lD ls i).1 ≥ (ns.length : Int))) 10, staE (lD ls i).2.1, facE cr (lD ls i).2.2] = lodE cr ns.length (lD ls i) := rfl
  rw [res_eq]
  unfold lodsE
  simp only [B19, F21_eq, F93_eq, F103_eq (show (lD ls i).2.2.length ≤ 1025 by omega), F20_3, hE, lF hi, sem_br, sem_ask, sem_nxt, sbs, PC.holds, need_true, tnn, h1, hin, decide_true, if_true]
  by_cases hz : lodE cr ns.length (lD ls i) = 0
  ·simp only [hz, bne_self_eq_false, bff, if_true, stepO_nxt]
   rw [← ih]; rfl
  ·simp only [bne_iff_ne.2 hz, hz, if_true, if_false, sem_ret, stepO_ret]
theorem F19_nodes (h : SM cs ns ls) : ∀ (k i : Nat), ns.length = i + k →
  res B19 (.c1 (i : Int) cr cs.length (cs.flatMap eG) ns.length (ns.flatMap eN) ls.length (ls.flatMap eL)) =
   some (if nodsE cr ns k i ≠ 0 then nodsE cr ns k i else if (ls.length : Int) > 16 then 5 else lodsE cr ns.length ls ls.length 0)
 | 0, i, hk => by
  have h1 : ¬ ((i : Int) < (ns.length : Int)) := by omega
  rw [res_eq]
  by_cases hl : (ls.length : Int) > 16
  ·simp only [B19, sem_br, sem_ret, h1, hl, decide_true, decide_false, bff, if_true, stepO_ret, nodsE, ne_eq, not_true_eq_false]
  ·simp only [B19, sem_br, sem_nxt, h1, hl, decide_false, bff, stepO_nxt, nodsE, ne_eq, not_true_eq_false]
   exact F19_loads h ls.length 0 (by omega)
 | k + 1, i, hk => by
  have hi : i < ns.length := by omega
  have h1 : (i : Int) < (ns.length : Int) := by omega
  have hn := h.n
  have hin : inI64 ((i : Int) + 1) := by unfold inI64; omega
  have ih := F19_nodes h k (i + 1) (by omega)
  rw [res_eq]
  unfold nodsE
  simp only [B19, F104_eq h hi, sem_br, sem_ask, sem_nxt, sbs, PC.holds, need_true, h1, hin, decide_true, if_true]
  by_cases hz : nodF cr ns i = 0
  ·simp only [hz, bne_self_eq_false, bff, if_true, stepO_nxt]
   rw [← ih]; rfl
  ·simp only [bne_iff_ne.2 hz, hz, if_true, if_false, sem_ret, stepO_ret, ne_eq, not_false_eq_true]
theorem F19_eq (h : SM cs ns ls) : F19 cr cs.length (cs.flatMap eG) ns.length (ns.flatMap eN) ls.length (ls.flatMap eL) = some (mainsE cr cs ns ls) := by
 have hc := h.c
 have hE : firstI [facE cr cs, whenI ((ns.length : Int) == 0) 12, whenI (decide ((ns.length : Int) > 16)) 5] = headE cr cs ns := rfl
 unfold F19 mainsE; rw [res_eq]
 by_cases h1 : rangeI cr 1 8 = 0
 ·by_cases h2 : headE cr cs ns = 0
  ·simp only [B19, F39_eq, F103_eq (show cs.length ≤ 1025 by omega), F37_eq, F20_3, hE, h1, h2, sem_br, sem_nxt, sbs, bne_self_eq_false, bff, ne_eq, not_true_eq_false, stepO_nxt]
   exact F19_nodes h ns.length 0 (by omega)
  ·simp only [B19, F39_eq, F103_eq (show cs.length ≤ 1025 by omega), F37_eq, F20_3, hE, h1, bne_iff_ne.2 h2, h2, sem_br, sem_ret, sbs, bne_self_eq_false, bff, if_true, ne_eq, not_true_eq_false, not_false_eq_true, stepO_ret]
 ·simp only [B19, F39_eq, bne_iff_ne.2 h1, h1, sem_br, sem_ret, sbs, if_true, ne_eq, not_false_eq_true, stepO_ret]
end
end
section
open Go Go.RowKit
theorem takeM {E : Type} {enc : E → List DV} {l : List E} {i : Nat} (hi : i < l.length) (d : E) : (l.take (i + 1)).flatMap enc = (l.take i).flatMap enc ++ enc (l.getD i d) := by
 rw [List.take_succ_eq_append_getElem hi, List.flatMap_append, List.getD_eq_getElem?_getD, List.getElem?_eq_getElem hi]; simp
theorem nat_beq0 {n : Nat} (h : n ≠ 0) : n.beq 0 = false := by
 cases n with
 | zero => exact absurd rfl h
 | succ n => rfl
section
variable {cr : Int} {cs : List (Int × Int)} {ns : List ND} {ls : List LD}
theorem L8 (h : SM cs ns ls) : ∀ (k i e : Nat), ls.length = i + k →
  res B18 (.c8 ls.length (ls.flatMap eL) (ls.length : Int) (i : Int) cr e i ((ls.take i).flatMap eL) e) = some (cr, 0, [], 0, [], ls.length, ls.flatMap eL)
 | 0, i, e, hk => by
  have h1 : ¬ ((i : Int) < (ls.length : Int)) := by omega
  rw [res_eq]
  simp only [B18, sem_br, sem_ret, sem_nxt, h1, decide_false, bff, stepO_ret, stepO_nxt]
  rw [List.take_of_length_le (by omega), show i = ls.length by omega]
  try rfl
 | k + 1, i, e, hk => by
  have hi : i < ls.length := by omega
  have h1 : (i : Int) < (ls.length : Int) := by omega
  have hn := h.l
  have hf := h.lf _ (lD_mem hi)
  have hin : inI64 ((i : Int) + 1) := by unfold inI64; omega
  have ft : fitsN (i + 1) 48 := ⟨by omega, by omega⟩
  have ih := L8 h k (i + 1) (e + 1) (by omega)
  rw [← ih, takeM hi (0, ByteArray.empty, []), res_eq]
  rw [show (ls.getD i (0, ByteArray.empty, [])) = lD ls i from rfl]
  by_cases hz : (lD ls i).2.2.length = 0
  ·have hnil : (lD ls i).2.2 = [] := List.eq_nil_of_length_eq_zero hz
   have hb : (lD ls i).2.2.length.beq 0 = true := by rw [hz]; rfl
   have hE : eL (lD ls i) = [.v (.int .i64 (lD ls i).1), .v (.string (lD ls i).2.1), .sl 0 []] := by unfold eL; rw [hnil]; rfl
   simp only [B18, lF hi, hb, sem_br, sem_ask, sem_nxt, PC.holds, need_true, tnn, h1, hin, ft, decide_true, if_true, stepO_nxt]
   rw [need_of hz, hE]; rfl
  ·have hb := nat_beq0 hz
   have f2 : fitsN (lD ls i).2.2.length 16 := ⟨by omega, by omega⟩
   simp only [B18, lF hi, hb, g_len, Nat.pos_of_ne_zero hz, f2, sem_br, sem_ask, sem_nxt, PC.holds, need_true, tnn, h1, hin, ft, decide_true, if_true, bff, stepO_nxt]
   rfl
theorem L10 (h : SM cs ns ls) : ∀ (k i e : Nat), ls.length = i + k →
  res B18 (.c10 ls.length (ls.flatMap eL) (ls.length : Int) (i : Int) cr cs.length (cs.flatMap eG) e i ((ls.take i).flatMap eL) e) = some (cr, cs.length, cs.flatMap eG, 0, [], ls.length, ls.flatMap eL)
 | 0, i, e, hk => by
  have h1 : ¬ ((i : Int) < (ls.length : Int)) := by omega
  rw [res_eq]
  simp only [B18, sem_br, sem_ret, sem_nxt, h1, decide_false, bff, stepO_ret, stepO_nxt]
  rw [List.take_of_length_le (by omega), show i = ls.length by omega]
  try rfl
 | k + 1, i, e, hk => by
  have hi : i < ls.length := by omega
  have h1 : (i : Int) < (ls.length : Int) := by omega
  have hn := h.l
  have hf := h.lf _ (lD_mem hi)
  have hin : inI64 ((i : Int) + 1) := by unfold inI64; omega
  have ft : fitsN (i + 1) 48 := ⟨by omega, by omega⟩
  have ih := L10 h k (i + 1) (e + 1) (by omega)
  rw [← ih, takeM hi (0, ByteArray.empty, []), res_eq]
  rw [show (ls.getD i (0, ByteArray.empty, [])) = lD ls i from rfl]
  by_cases hz : (lD ls i).2.2.length = 0
  ·have hnil : (lD ls i).2.2 = [] := List.eq_nil_of_length_eq_zero hz
   have hb : (lD ls i).2.2.length.beq 0 = true := by rw [hz]; rfl
   have hE : eL (lD ls i) = [.v (.int .i64 (lD ls i).1), .v (.string (lD ls i).2.1), .sl 0 []] := by unfold eL; rw [hnil]; rfl
   simp only [B18, lF hi, hb, sem_br, sem_ask, sem_nxt, PC.holds, need_true, tnn, h1, hin, ft, decide_true, if_true, stepO_nxt]
   rw [need_of hz, hE]; rfl
  ·have hb := nat_beq0 hz
   have f2 : fitsN (lD ls i).2.2.length 16 := ⟨by omega, by omega⟩
   simp only [B18, lF hi, hb, g_len, Nat.pos_of_ne_zero hz, f2, sem_br, sem_ask, sem_nxt, PC.holds, need_true, tnn, h1, hin, ft, decide_true, if_true, bff, stepO_nxt]
   rfl
theorem L11 (h : SM cs ns ls) {q : Nat} {e1 : Nat} {a1 : List DV} : ∀ (k i e : Nat), ls.length = i + k →
  res B18 (.c11 ls.length (ls.flatMap eL) (ls.length : Int) (i : Int) cr e1 q a1 e i ((ls.take i).flatMap eL) e1 e) = some (cr, 0, [], q, a1, ls.length, ls.flatMap eL)
 | 0, i, e, hk => by
  have h1 : ¬ ((i : Int) < (ls.length : Int)) := by omega
  rw [res_eq]
  simp only [B18, sem_br, sem_ret, sem_nxt, h1, decide_false, bff, stepO_ret, stepO_nxt]
  rw [List.take_of_length_le (by omega), show i = ls.length by omega]
  try rfl
 | k + 1, i, e, hk => by
  have hi : i < ls.length := by omega
  have h1 : (i : Int) < (ls.length : Int) := by omega
  have hn := h.l
  have hf := h.lf _ (lD_mem hi)
  have hin : inI64 ((i : Int) + 1) := by unfold inI64; omega
  have ft : fitsN (i + 1) 48 := ⟨by omega, by omega⟩
  have ih := L11 (q := q) (e1 := e1) (a1 := a1) h k (i + 1) (e + 1) (by omega)
  rw [← ih, takeM hi (0, ByteArray.empty, []), res_eq]
  rw [show (ls.getD i (0, ByteArray.empty, [])) = lD ls i from rfl]
  by_cases hz : (lD ls i).2.2.length = 0
  ·have hnil : (lD ls i).2.2 = [] := List.eq_nil_of_length_eq_zero hz
   have hb : (lD ls i).2.2.length.beq 0 = true := by rw [hz]; rfl
   have hE : eL (lD ls i) = [.v (.int .i64 (lD ls i).1), .v (.string (lD ls i).2.1), .sl 0 []] := by unfold eL; rw [hnil]; rfl
   simp only [B18, lF hi, hb, sem_br, sem_ask, sem_nxt, PC.holds, need_true, tnn, h1, hin, ft, decide_true, if_true, stepO_nxt]
   rw [need_of hz, hE]; rfl
  ·have hb := nat_beq0 hz
   have f2 : fitsN (lD ls i).2.2.length 16 := ⟨by omega, by omega⟩
   simp only [B18, lF hi, hb, g_len, Nat.pos_of_ne_zero hz, f2, sem_br, sem_ask, sem_nxt, PC.holds, need_true, tnn, h1, hin, ft, decide_true, if_true, bff, stepO_nxt]
   rfl
theorem L12 (h : SM cs ns ls) {q : Nat} {e1 : Nat} {a1 : List DV} : ∀ (k i e : Nat), ls.length = i + k →
  res B18 (.c12 ls.length (ls.flatMap eL) (ls.length : Int) (i : Int) cr cs.length (cs.flatMap eG) e1 q a1 e i ((ls.take i).flatMap eL) e1 e) = some (cr, cs.length, cs.flatMap eG, q, a1, ls.length, ls.flatMap eL)
 | 0, i, e, hk => by
  have h1 : ¬ ((i : Int) < (ls.length : Int)) := by omega
  rw [res_eq]
  simp only [B18, sem_br, sem_ret, sem_nxt, h1, decide_false, bff, stepO_ret, stepO_nxt]
  rw [List.take_of_length_le (by omega), show i = ls.length by omega]
  try rfl
 | k + 1, i, e, hk => by
  have hi : i < ls.length := by omega
  have h1 : (i : Int) < (ls.length : Int) := by omega
  have hn := h.l
  have hf := h.lf _ (lD_mem hi)
  have hin : inI64 ((i : Int) + 1) := by unfold inI64; omega
  have ft : fitsN (i + 1) 48 := ⟨by omega, by omega⟩
  have ih := L12 (q := q) (e1 := e1) (a1 := a1) h k (i + 1) (e + 1) (by omega)
  rw [← ih, takeM hi (0, ByteArray.empty, []), res_eq]
  rw [show (ls.getD i (0, ByteArray.empty, [])) = lD ls i from rfl]
  by_cases hz : (lD ls i).2.2.length = 0
  ·have hnil : (lD ls i).2.2 = [] := List.eq_nil_of_length_eq_zero hz
   have hb : (lD ls i).2.2.length.beq 0 = true := by rw [hz]; rfl
   have hE : eL (lD ls i) = [.v (.int .i64 (lD ls i).1), .v (.string (lD ls i).2.1), .sl 0 []] := by unfold eL; rw [hnil]; rfl
   simp only [B18, lF hi, hb, sem_br, sem_ask, sem_nxt, PC.holds, need_true, tnn, h1, hin, ft, decide_true, if_true, stepO_nxt]
   rw [need_of hz, hE]; rfl
  ·have hb := nat_beq0 hz
   have f2 : fitsN (lD ls i).2.2.length 16 := ⟨by omega, by omega⟩
   simp only [B18, lF hi, hb, g_len, Nat.pos_of_ne_zero hz, f2, sem_br, sem_ask, sem_nxt, PC.holds, need_true, tnn, h1, hin, ft, decide_true, if_true, bff, stepO_nxt]
   rfl
theorem L4 (h : SM cs ns ls) : res B18 (.c4 ls.length (ls.flatMap eL) (ls.length : Int) 0 cr) = some (cr, 0, [], 0, [], ls.length, ls.flatMap eL) := by
 by_cases h0 : ls.length = 0
 ·obtain rfl : ls = [] := List.eq_nil_of_length_eq_zero h0
  skip
  rw [res_eq]; simp [B18, sem_br, sem_ret, stepO_ret]
 ·have hi : 0 < ls.length := by omega
  have h1 : (0 : Int) < (ls.length : Int) := by omega
  have hn := h.l
  have hf := h.lf _ (lD_mem hi)
  have hin : inI64 ((0 : Int) + 1) := by unfold inI64; omega
  have ih := L8 (cr := cr) h (ls.length - 1) 1 0 (by omega)
  rw [show ((1 : Nat) : Int) = 0 + 1 from rfl, takeM hi (0, ByteArray.empty, [])] at ih
  rw [show (ls.getD 0 (0, ByteArray.empty, [])) = lD ls 0 from rfl, show (ls.take 0).flatMap eL = [] from rfl, List.nil_append] at ih
  have q0 := l0 hi
  have q1 := l1 hi
  have q2 := l2 hi
  have q3 := l3 hi
  have q4 := lt_ hi
  have q5 := lr hi
  have q9 := lr3 hi (Nat.le_refl 3)
  simp only [Nat.zero_mul, Nat.zero_add] at q0 q1 q2 q3 q4 q5 q9
  skip
  rw [← ih, res_eq]
  by_cases hz : (lD ls 0).2.2.length = 0
  ·have hnil : (lD ls 0).2.2 = [] := List.eq_nil_of_length_eq_zero hz
   have hb : (lD ls 0).2.2.length.beq 0 = true := by rw [hz]; rfl
   have hE : eL (lD ls 0) = [.v (.int .i64 (lD ls 0).1), .v (.string (lD ls 0).2.1), .sl 0 []] := by unfold eL; rw [hnil]; rfl
   simp only [B18, Int.toNat_zero, Nat.zero_mul, Nat.zero_add, q0, q1, q2, q3, q4, q5, q9, hb, sem_br, sem_ask, sem_nxt, PC.holds, need_true, Int.le_refl, h1, hin, decide_true, if_true, stepO_nxt]
   rw [need_of hz, hE]; rfl
  ·have hb := nat_beq0 hz
   have f2 : fitsN (lD ls 0).2.2.length 16 := ⟨by omega, by omega⟩
   simp only [B18, Int.toNat_zero, Nat.zero_mul, Nat.zero_add, q0, q1, q2, q3, q4, q5, q9, hb, g_len, Nat.pos_of_ne_zero hz, f2, sem_br, sem_ask, sem_nxt, PC.holds, need_true, Int.le_refl, h1, hin, decide_true, if_true, bff, stepO_nxt]
   rfl
theorem L6 (h : SM cs ns ls) : res B18 (.c6 ls.length (ls.flatMap eL) (ls.length : Int) 0 cr cs.length (cs.flatMap eG)) = some (cr, cs.length, cs.flatMap eG, 0, [], ls.length, ls.flatMap eL) := by
 by_cases h0 : ls.length = 0
 ·obtain rfl : ls = [] := List.eq_nil_of_length_eq_zero h0
  skip
  rw [res_eq]; simp [B18, sem_br, sem_ret, stepO_ret]
 ·have hi : 0 < ls.length := by omega
  have h1 : (0 : Int) < (ls.length : Int) := by omega
  have hn := h.l
  have hf := h.lf _ (lD_mem hi)
  have hin : inI64 ((0 : Int) + 1) := by unfold inI64; omega
  have ih := L10 (cr := cr) h (ls.length - 1) 1 0 (by omega)
  rw [show ((1 : Nat) : Int) = 0 + 1 from rfl, takeM hi (0, ByteArray.empty, [])] at ih
  rw [show (ls.getD 0 (0, ByteArray.empty, [])) = lD ls 0 from rfl, show (ls.take 0).flatMap eL = [] from rfl, List.nil_append] at ih
  have q0 := l0 hi
  have q1 := l1 hi
  have q2 := l2 hi
  have q3 := l3 hi
  have q4 := lt_ hi
  have q5 := lr hi
  have q9 := lr3 hi (Nat.le_refl 3)
  simp only [Nat.zero_mul, Nat.zero_add] at q0 q1 q2 q3 q4 q5 q9
  skip
  rw [← ih, res_eq]
  by_cases hz : (lD ls 0).2.2.length = 0
  ·have hnil : (lD ls 0).2.2 = [] := List.eq_nil_of_length_eq_zero hz
   have hb : (lD ls 0).2.2.length.beq 0 = true := by rw [hz]; rfl
   have hE : eL (lD ls 0) = [.v (.int .i64 (lD ls 0).1), .v (.string (lD ls 0).2.1), .sl 0 []] := by unfold eL; rw [hnil]; rfl
   simp only [B18, Int.toNat_zero, Nat.zero_mul, Nat.zero_add, q0, q1, q2, q3, q4, q5, q9, hb, sem_br, sem_ask, sem_nxt, PC.holds, need_true, Int.le_refl, h1, hin, decide_true, if_true, stepO_nxt]
   rw [need_of hz, hE]; rfl
  ·have hb := nat_beq0 hz
   have f2 : fitsN (lD ls 0).2.2.length 16 := ⟨by omega, by omega⟩
   simp only [B18, Int.toNat_zero, Nat.zero_mul, Nat.zero_add, q0, q1, q2, q3, q4, q5, q9, hb, g_len, Nat.pos_of_ne_zero hz, f2, sem_br, sem_ask, sem_nxt, PC.holds, need_true, Int.le_refl, h1, hin, decide_true, if_true, bff, stepO_nxt]
   rfl
theorem L7 (h : SM cs ns ls) {q : Nat} {e1 : Nat} {a1 : List DV} : res B18 (.c7 ls.length (ls.flatMap eL) (ls.length : Int) 0 cr e1 q a1 e1) = some (cr, 0, [], q, a1, ls.length, ls.flatMap eL) := by
 by_cases h0 : ls.length = 0
 ·obtain rfl : ls = [] := List.eq_nil_of_length_eq_zero h0
  skip
  rw [res_eq]; simp [B18, sem_br, sem_ret, stepO_ret]
 ·have hi : 0 < ls.length := by omega
  have h1 : (0 : Int) < (ls.length : Int) := by omega
  have hn := h.l
  have hf := h.lf _ (lD_mem hi)
  have hin : inI64 ((0 : Int) + 1) := by unfold inI64; omega
  have ih := L11 (q := q) (e1 := e1) (a1 := a1) (cr := cr) h (ls.length - 1) 1 0 (by omega)
  rw [show ((1 : Nat) : Int) = 0 + 1 from rfl, takeM hi (0, ByteArray.empty, [])] at ih
  rw [show (ls.getD 0 (0, ByteArray.empty, [])) = lD ls 0 from rfl, show (ls.take 0).flatMap eL = [] from rfl, List.nil_append] at ih
  have q0 := l0 hi
  have q1 := l1 hi
  have q2 := l2 hi
  have q3 := l3 hi
  have q4 := lt_ hi
  have q5 := lr hi
  have q9 := lr3 hi (Nat.le_refl 3)
  simp only [Nat.zero_mul, Nat.zero_add] at q0 q1 q2 q3 q4 q5 q9
  skip
  rw [← ih, res_eq]
  by_cases hz : (lD ls 0).2.2.length = 0
  ·have hnil : (lD ls 0).2.2 = [] := List.eq_nil_of_length_eq_zero hz
   have hb : (lD ls 0).2.2.length.beq 0 = true := by rw [hz]; rfl
   have hE : eL (lD ls 0) = [.v (.int .i64 (lD ls 0).1), .v (.string (lD ls 0).2.1), .sl 0 []] := by unfold eL; rw [hnil]; rfl
   simp only [B18, Int.toNat_zero, Nat.zero_mul, Nat.zero_add, q0, q1, q2, q3, q4, q5, q9, hb, sem_br, sem_ask, sem_nxt, PC.holds, need_true, Int.le_refl, h1, hin, decide_true, if_true, stepO_nxt]
   rw [need_of hz, hE]; rfl
  ·have hb := nat_beq0 hz
   have f2 : fitsN (lD ls 0).2.2.length 16 := ⟨by omega, by omega⟩
   simp only [B18, Int.toNat_zero, Nat.zero_mul, Nat.zero_add, q0, q1, q2, q3, q4, q5, q9, hb, g_len, Nat.pos_of_ne_zero hz, f2, sem_br, sem_ask, sem_nxt, PC.holds, need_true, Int.le_refl, h1, hin, decide_true, if_true, bff, stepO_nxt]
   rfl
theorem L9 (h : SM cs ns ls) {q : Nat} {e1 : Nat} {a1 : List DV} : res B18 (.c9 ls.length (ls.flatMap eL) (ls.length : Int) 0 cr cs.length (cs.flatMap eG) e1 q a1 e1) = some (cr, cs.length, cs.flatMap eG, q, a1, ls.length, ls.flatMap eL) := by
 by_cases h0 : ls.length = 0
 ·obtain rfl : ls = [] := List.eq_nil_of_length_eq_zero h0
  skip
  rw [res_eq]; simp [B18, sem_br, sem_ret, stepO_ret]
 ·have hi : 0 < ls.length := by omega
  have h1 : (0 : Int) < (ls.length : Int) := by omega
  have hn := h.l
  have hf := h.lf _ (lD_mem hi)
  have hin : inI64 ((0 : Int) + 1) := by unfold inI64; omega
  have ih := L12 (q := q) (e1 := e1) (a1 := a1) (cr := cr) h (ls.length - 1) 1 0 (by omega)
  rw [show ((1 : Nat) : Int) = 0 + 1 from rfl, takeM hi (0, ByteArray.empty, [])] at ih
  rw [show (ls.getD 0 (0, ByteArray.empty, [])) = lD ls 0 from rfl, show (ls.take 0).flatMap eL = [] from rfl, List.nil_append] at ih
  have q0 := l0 hi
  have q1 := l1 hi
  have q2 := l2 hi
  have q3 := l3 hi
  have q4 := lt_ hi
  have q5 := lr hi
  have q9 := lr3 hi (Nat.le_refl 3)
  simp only [Nat.zero_mul, Nat.zero_add] at q0 q1 q2 q3 q4 q5 q9
  skip
  rw [← ih, res_eq]
  by_cases hz : (lD ls 0).2.2.length = 0
  ·have hnil : (lD ls 0).2.2 = [] := List.eq_nil_of_length_eq_zero hz
   have hb : (lD ls 0).2.2.length.beq 0 = true := by rw [hz]; rfl
   have hE : eL (lD ls 0) = [.v (.int .i64 (lD ls 0).1), .v (.string (lD ls 0).2.1), .sl 0 []] := by unfold eL; rw [hnil]; rfl
   simp only [B18, Int.toNat_zero, Nat.zero_mul, Nat.zero_add, q0, q1, q2, q3, q4, q5, q9, hb, sem_br, sem_ask, sem_nxt, PC.holds, need_true, Int.le_refl, h1, hin, decide_true, if_true, stepO_nxt]
   rw [need_of hz, hE]; rfl
  ·have hb := nat_beq0 hz
   have f2 : fitsN (lD ls 0).2.2.length 16 := ⟨by omega, by omega⟩
   simp only [B18, Int.toNat_zero, Nat.zero_mul, Nat.zero_add, q0, q1, q2, q3, q4, q5, q9, hb, g_len, Nat.pos_of_ne_zero hz, f2, sem_br, sem_ask, sem_nxt, PC.holds, need_true, Int.le_refl, h1, hin, decide_true, if_true, bff, stepO_nxt]
   rfl
theorem L3 (h : SM cs ns ls) : ∀ (k i e : Nat), ns.length = i + k →
  res B18 (.c3 ns.length (ns.flatMap eN) (ns.length : Int) (i : Int) cr cs.length (cs.flatMap eG) ls.length (ls.flatMap eL) e i ((ns.take i).flatMap eN) e) = res B18 (.c7 ls.length (ls.flatMap eL) (ls.length : Int) 0 cr (e + k) ns.length (ns.flatMap eN) (e + k))
 | 0, i, e, hk => by
  have h1 : ¬ ((i : Int) < (ns.length : Int)) := by omega
  rw [res_eq]
  simp only [B18, sem_br, sem_ret, sem_nxt, h1, decide_false, bff, stepO_ret, stepO_nxt]
  rw [List.take_of_length_le (by omega), show i = ns.length by omega]
  try rfl
 | k + 1, i, e, hk => by
  have hi : i < ns.length := by omega
  have h1 : (i : Int) < (ns.length : Int) := by omega
  have hn := h.n
  have hf := h.nf _ (nD_mem hi)
  have hin : inI64 ((i : Int) + 1) := by unfold inI64; omega
  have ft : fitsN (i + 1) 56 := ⟨by omega, by omega⟩
  have ih := L3 h k (i + 1) (e + 1) (by omega)
  rw [show e + (k + 1) = e + 1 + k by omega, ← ih, takeM hi (ByteArray.empty, 0, 0, []), res_eq]
  rw [show (ns.getD i (ByteArray.empty, 0, 0, [])) = nD ns i from rfl]
  by_cases hz : (nD ns i).2.2.2.length = 0
  ·have hnil : (nD ns i).2.2.2 = [] := List.eq_nil_of_length_eq_zero hz
   have hb : (nD ns i).2.2.2.length.beq 0 = true := by rw [hz]; rfl
   have hE : eN (nD ns i) = [.v (.string (nD ns i).1), .v (.int .i64 (nD ns i).2.1), .v (.int .i64 (nD ns i).2.2.1), .sl 0 []] := by unfold eN; rw [hnil]; rfl
   simp only [B18, nF hi, hb, sem_br, sem_ask, sem_nxt, PC.holds, need_true, tnn, h1, hin, ft, decide_true, if_true, stepO_nxt]
   rw [need_of hz, hE]; rfl
  ·have hb := nat_beq0 hz
   have f2 : fitsN (nD ns i).2.2.2.length 16 := ⟨by omega, by omega⟩
   simp only [B18, nF hi, hb, g_len, Nat.pos_of_ne_zero hz, f2, sem_br, sem_ask, sem_nxt, PC.holds, need_true, tnn, h1, hin, ft, decide_true, if_true, bff, stepO_nxt]
   rfl
theorem L5 (h : SM cs ns ls) : ∀ (k i e : Nat), ns.length = i + k →
  res B18 (.c5 ns.length (ns.flatMap eN) (ns.length : Int) (i : Int) cr cs.length (cs.flatMap eG) ls.length (ls.flatMap eL) e i ((ns.take i).flatMap eN) e) = res B18 (.c9 ls.length (ls.flatMap eL) (ls.length : Int) 0 cr cs.length (cs.flatMap eG) (e + k) ns.length (ns.flatMap eN) (e + k))
 | 0, i, e, hk => by
  have h1 : ¬ ((i : Int) < (ns.length : Int)) := by omega
  rw [res_eq]
  simp only [B18, sem_br, sem_ret, sem_nxt, h1, decide_false, bff, stepO_ret, stepO_nxt]
  rw [List.take_of_length_le (by omega), show i = ns.length by omega]
  try rfl
 | k + 1, i, e, hk => by
  have hi : i < ns.length := by omega
  have h1 : (i : Int) < (ns.length : Int) := by omega
  have hn := h.n
  have hf := h.nf _ (nD_mem hi)
  have hin : inI64 ((i : Int) + 1) := by unfold inI64; omega
  have ft : fitsN (i + 1) 56 := ⟨by omega, by omega⟩
  have ih := L5 h k (i + 1) (e + 1) (by omega)
  rw [show e + (k + 1) = e + 1 + k by omega, ← ih, takeM hi (ByteArray.empty, 0, 0, []), res_eq]
  rw [show (ns.getD i (ByteArray.empty, 0, 0, [])) = nD ns i from rfl]
  by_cases hz : (nD ns i).2.2.2.length = 0
  ·have hnil : (nD ns i).2.2.2 = [] := List.eq_nil_of_length_eq_zero hz
   have hb : (nD ns i).2.2.2.length.beq 0 = true := by rw [hz]; rfl
   have hE : eN (nD ns i) = [.v (.string (nD ns i).1), .v (.int .i64 (nD ns i).2.1), .v (.int .i64 (nD ns i).2.2.1), .sl 0 []] := by unfold eN; rw [hnil]; rfl
   simp only [B18, nF hi, hb, sem_br, sem_ask, sem_nxt, PC.holds, need_true, tnn, h1, hin, ft, decide_true, if_true, stepO_nxt]
   rw [need_of hz, hE]; rfl
  ·have hb := nat_beq0 hz
   have f2 : fitsN (nD ns i).2.2.2.length 16 := ⟨by omega, by omega⟩
   simp only [B18, nF hi, hb, g_len, Nat.pos_of_ne_zero hz, f2, sem_br, sem_ask, sem_nxt, PC.holds, need_true, tnn, h1, hin, ft, decide_true, if_true, bff, stepO_nxt]
   rfl
theorem L1 (h : SM cs ns ls) (h0 : 0 < ns.length) : res B18 (.c1 ns.length (ns.flatMap eN) (ns.length : Int) 0 cr cs.length (cs.flatMap eG) ls.length (ls.flatMap eL)) = res B18 (.c7 ls.length (ls.flatMap eL) (ls.length : Int) 0 cr (ns.length - 1) ns.length (ns.flatMap eN) (ns.length - 1)) := by
 have hi : 0 < ns.length := h0
 have h1 : (0 : Int) < (ns.length : Int) := by omega
 have hn := h.n
 have hf := h.nf _ (nD_mem hi)
 have hin : inI64 ((0 : Int) + 1) := by unfold inI64; omega
 have ih := L3 (cr := cr) h (ns.length - 1) 1 0 (by omega)
 rw [show (0 : Nat) + (ns.length - 1) = ns.length - 1 by omega, show ((1 : Nat) : Int) = 0 + 1 from rfl, takeM hi (ByteArray.empty, 0, 0, [])] at ih
 rw [show (ns.getD 0 (ByteArray.empty, 0, 0, [])) = nD ns 0 from rfl, show (ns.take 0).flatMap eN = [] from rfl, List.nil_append] at ih
 have q0 := n0 hi; have q1 := n1 hi; have q2 := n2 hi; have q3 := n3 hi; have q4 := n4 hi; have q5 := nt hi; have q6 := nr hi; have q9 := nr4 hi (Nat.le_refl 4)
 simp only [Nat.zero_mul, Nat.zero_add] at q0 q1 q2 q3 q4 q5 q6 q9
 rw [← ih, res_eq]
 by_cases hz : (nD ns 0).2.2.2.length = 0
 ·have hnil : (nD ns 0).2.2.2 = [] := List.eq_nil_of_length_eq_zero hz
  have hb : (nD ns 0).2.2.2.length.beq 0 = true := by rw [hz]; rfl
  have hE : eN (nD ns 0) = [.v (.string (nD ns 0).1), .v (.int .i64 (nD ns 0).2.1), .v (.int .i64 (nD ns 0).2.2.1), .sl 0 []] := by unfold eN; rw [hnil]; rfl
  simp only [B18, Int.toNat_zero, Nat.zero_mul, Nat.zero_add, q0, q1, q2, q3, q4, q5, q6, q9, hb, sem_br, sem_ask, sem_nxt, PC.holds, need_true, Int.le_refl, h1, hin, decide_true, if_true, stepO_nxt]
  rw [need_of hz, hE]; rfl
 ·have hb := nat_beq0 hz
  have f2 : fitsN (nD ns 0).2.2.2.length 16 := ⟨by omega, by omega⟩
  simp only [B18, Int.toNat_zero, Nat.zero_mul, Nat.zero_add, q0, q1, q2, q3, q4, q5, q6, q9, hb, g_len, Nat.pos_of_ne_zero hz, f2, sem_br, sem_ask, sem_nxt, PC.holds, need_true, Int.le_refl, h1, hin, decide_true, if_true, bff, stepO_nxt]
  rfl
theorem L2 (h : SM cs ns ls) (h0 : 0 < ns.length) : res B18 (.c2 ns.length (ns.flatMap eN) (ns.length : Int) 0 cr cs.length (cs.flatMap eG) ls.length (ls.flatMap eL)) = res B18 (.c9 ls.length (ls.flatMap eL) (ls.length : Int) 0 cr cs.length (cs.flatMap eG) (ns.length - 1) ns.length (ns.flatMap eN) (ns.length - 1)) := by
 have hi : 0 < ns.length := h0
 have h1 : (0 : Int) < (ns.length : Int) := by omega
 have hn := h.n
 have hf := h.nf _ (nD_mem hi)
 have hin : inI64 ((0 : Int) + 1) := by unfold inI64; omega
 have ih := L5 (cr := cr) h (ns.length - 1) 1 0 (by omega)
 rw [show (0 : Nat) + (ns.length - 1) = ns.length - 1 by omega, show ((1 : Nat) : Int) = 0 + 1 from rfl, takeM hi (ByteArray.empty, 0, 0, [])] at ih
 rw [show (ns.getD 0 (ByteArray.empty, 0, 0, [])) = nD ns 0 from rfl, show (ns.take 0).flatMap eN = [] from rfl, List.nil_append] at ih
 have q0 := n0 hi; have q1 := n1 hi; have q2 := n2 hi; have q3 := n3 hi; have q4 := n4 hi; have q5 := nt hi; have q6 := nr hi; have q9 := nr4 hi (Nat.le_refl 4)
 simp only [Nat.zero_mul, Nat.zero_add] at q0 q1 q2 q3 q4 q5 q6 q9
 rw [← ih, res_eq]
 by_cases hz : (nD ns 0).2.2.2.length = 0
 ·have hnil : (nD ns 0).2.2.2 = [] := List.eq_nil_of_length_eq_zero hz
  have hb : (nD ns 0).2.2.2.length.beq 0 = true := by rw [hz]; rfl
  have hE : eN (nD ns 0) = [.v (.string (nD ns 0).1), .v (.int .i64 (nD ns 0).2.1), .v (.int .i64 (nD ns 0).2.2.1), .sl 0 []] := by unfold eN; rw [hnil]; rfl
  simp only [B18, Int.toNat_zero, Nat.zero_mul, Nat.zero_add, q0, q1, q2, q3, q4, q5, q6, q9, hb, sem_br, sem_ask, sem_nxt, PC.holds, need_true, Int.le_refl, h1, hin, decide_true, if_true, stepO_nxt]
  rw [need_of hz, hE]; rfl
 ·have hb := nat_beq0 hz
  have f2 : fitsN (nD ns 0).2.2.2.length 16 := ⟨by omega, by omega⟩
  simp only [B18, Int.toNat_zero, Nat.zero_mul, Nat.zero_add, q0, q1, q2, q3, q4, q5, q6, q9, hb, g_len, Nat.pos_of_ne_zero hz, f2, sem_br, sem_ask, sem_nxt, PC.holds, need_true, Int.le_refl, h1, hin, decide_true, if_true, bff, stepO_nxt]
  rfl
theorem F18_eq (h : SM cs ns ls) : F18 cr cs.length (cs.flatMap eG) ns.length (ns.flatMap eN) ls.length (ls.flatMap eL) = some (cr, cs.length, cs.flatMap eG, ns.length, ns.flatMap eN, ls.length, ls.flatMap eL) := by
 unfold F18; rw [res_eq]
 have hc := h.c
 by_cases z : cs.length = 0
 ·have hb : cs.length.beq 0 = true := by rw [z]; rfl
  obtain rfl : cs = [] := List.eq_nil_of_length_eq_zero z
  simp only [B18, sem_br, sem_ask, sem_nxt, PC.holds, hb, need_of z, if_true, stepO_nxt]
  by_cases n0 : ns.length = 0
  ·obtain rfl : ns = [] := List.eq_nil_of_length_eq_zero n0
   have l4 := L4 (cr := cr) h
   rw [res_eq]
   simp only [B18, sem_br, sem_nxt, List.length_nil, Int.natCast_zero, Int.lt_irrefl, show decide ((0 : Int) < 0) = false from rfl, bff, stepO_nxt]
   exact l4
  ·have l7 := L7 (cr := cr) (q := ns.length) (e1 := ns.length - 1) (a1 := ns.flatMap eN) h
   have l1 := L1 (cr := cr) h (by omega)
   rw [l7] at l1
   exact l1
 ·have hb := nat_beq0 z
  have f2 : fitsN cs.length 16 := ⟨by omega, by omega⟩
  simp only [B18, sem_br, sem_ask, sem_nxt, PC.holds, hb, Nat.pos_of_ne_zero z, g_len, f2, need_true, bff, stepO_nxt]
  by_cases n0 : ns.length = 0
  ·obtain rfl : ns = [] := List.eq_nil_of_length_eq_zero n0
   have l6 := L6 (cr := cr) h
   rw [res_eq]
   simp only [B18, sem_br, sem_nxt, List.length_nil, Int.natCast_zero, Int.lt_irrefl, show decide ((0 : Int) < 0) = false from rfl, bff, stepO_nxt]
   exact l6
  ·have l9 := L9 (cr := cr) (q := ns.length) (e1 := ns.length - 1) (a1 := ns.flatMap eN) h
   have l2 := L2 (cr := cr) h (by omega)
   rw [l9] at l2
   exact l2
end
theorem F16_loads {cr : Int} {cs : List (Int × Int)} {ns : List ND} {ls : List LD} (hl : ls.length ≤ 17) : ∀ (k i : Nat), ls.length = i + k →
  ∃ b, res B16 (.c2 (i : Int) cr cs.length (cs.flatMap eG) ns.length (ns.flatMap eN) ls.length (ls.flatMap eL)) = some b ∧ (b = true → ∀ x ∈ ls.drop i, x.2.1.size ≤ 40 ∧ x.2.2.length ≤ 9)
 | 0, i, hk => by
  have h1 : ¬ ((i : Int) < (ls.length : Int)) := by omega
  refine ⟨true, ?_, fun _ => by rw [List.drop_of_length_le (by omega)]; simp⟩
  rw [res_eq]
  simp only [B16, sem_br, sem_ret, h1, decide_false, bff, stepO_ret]
 | k + 1, i, hk => by
  have hi : i < ls.length := by omega
  have h1 : (i : Int) < (ls.length : Int) := by omega
  have hin : inI64 ((i : Int) + 1) := by unfold inI64; omega
  obtain ⟨b, hb, hB⟩ := F16_loads (cr := cr) (cs := cs) (ns := ns) hl k (i + 1) (by omega)
  by_cases a : ((lD ls i).2.1.size : Int) > 40
  ·refine ⟨false, ?_, fun h => absurd h (by decide)⟩
   rw [res_eq]
   simp only [B16, ld0 hi, ld1 hi, lr hi, lr3 hi (show 1 ≤ 3 by decide), lp1 hi, a, sem_br, sem_ask, sem_ret, PC.holds, need_true, tnn, h1, decide_true, if_true, stepO_ret]
  ·by_cases c : ((lD ls i).2.2.length : Int) > 9
   ·refine ⟨false, ?_, fun h => absurd h (by decide)⟩
    rw [res_eq]
    simp only [B16, ld1 hi, ld2 hi, ld3 hi, lr hi, lr3 hi (show 1 ≤ 3 by decide), lr3 hi (show 2 ≤ 3 by decide), lp1 hi, lp2 hi, a, c, sem_br, sem_ask, sem_ret, PC.holds, need_true, tnn, h1, decide_true, decide_false, bff, if_true, stepO_ret]
   ·refine ⟨b, ?_, fun h x hx => ?_⟩
    ·rw [res_eq]
     simp only [B16, ld1 hi, ld2 hi, ld3 hi, lr hi, lr3 hi (show 1 ≤ 3 by decide), lr3 hi (show 2 ≤ 3 by decide), lp1 hi, lp2 hi, a, c, hin, sem_br, sem_ask, sem_nxt, PC.holds, need_true, tnn, h1, decide_true, decide_false, bff, if_true, stepO_nxt]
     rw [← hb]; rfl
    ·rw [dropD (0, ByteArray.empty, []) hi] at hx
     rcases List.mem_cons.1 hx with rfl | hx
     ·exact ⟨by have := a; unfold lD at this; omega, by have := c; unfold lD at this; omega⟩
     ·exact hB h x hx
theorem F16_nodes {cr : Int} {cs : List (Int × Int)} {ns : List ND} {ls : List LD} (hn : ns.length ≤ 17) (hl : ls.length ≤ 17) : ∀ (k i : Nat), ns.length = i + k →
  ∃ b, res B16 (.c1 (i : Int) cr cs.length (cs.flatMap eG) ns.length (ns.flatMap eN) ls.length (ls.flatMap eL)) = some b ∧ (b = true → (∀ x ∈ ns.drop i, x.1.size ≤ 40 ∧ x.2.2.2.length ≤ 9) ∧ ∀ x ∈ ls, x.2.1.size ≤ 40 ∧ x.2.2.length ≤ 9)
 | 0, i, hk => by
  have h1 : ¬ ((i : Int) < (ns.length : Int)) := by omega
  obtain ⟨b, hb, hB⟩ := F16_loads (cr := cr) (cs := cs) (ns := ns) hl ls.length 0 (by omega)
  rw [List.drop_zero] at hB
  refine ⟨b, ?_, fun h => ⟨by rw [List.drop_of_length_le (by omega)]; simp, hB h⟩⟩
  rw [res_eq]
  simp only [B16, sem_br, sem_nxt, h1, decide_false, bff, stepO_nxt]
  exact hb
 | k + 1, i, hk => by
  have hi : i < ns.length := by omega
  have h1 : (i : Int) < (ns.length : Int) := by omega
  have hin : inI64 ((i : Int) + 1) := by unfold inI64; omega
  obtain ⟨b, hb, hB⟩ := F16_nodes (cr := cr) (cs := cs) hn hl k (i + 1) (by omega)
  by_cases a : ((nD ns i).1.size : Int) > 40
  ·refine ⟨false, ?_, fun h => absurd h (by decide)⟩
   rw [res_eq]
   simp only [B16, nd0 hi, nr hi, nr4 hi (Nat.zero_le 4), np0 hi, a, sem_br, sem_ask, sem_ret, PC.holds, need_true, tnn, h1, decide_true, if_true, stepO_ret]
  ·by_cases c : ((nD ns i).2.2.2.length : Int) > 9
   ·refine ⟨false, ?_, fun h => absurd h (by decide)⟩
    rw [res_eq]
    simp only [B16, nd0 hi, nd3 hi, nd4 hi, nr hi, nr4 hi (Nat.zero_le 4), nr4 hi (show 3 ≤ 4 by decide), np0 hi, np3 hi, a, c, sem_br, sem_ask, sem_ret, PC.holds, need_true, tnn, h1, decide_true, decide_false, bff, if_true, stepO_ret]
   ·refine ⟨b, ?_, fun h => ⟨fun x hx => ?_, (hB h).2⟩⟩
    ·rw [res_eq]
     simp only [B16, nd0 hi, nd3 hi, nd4 hi, nr hi, nr4 hi (Nat.zero_le 4), nr4 hi (show 3 ≤ 4 by decide), np0 hi, np3 hi, a, c, hin, sem_br, sem_ask, sem_nxt, PC.holds, need_true, tnn, h1, decide_true, decide_false, bff, if_true, stepO_nxt]
     rw [← hb]; rfl
    ·rw [dropD (ByteArray.empty, 0, 0, []) hi] at hx
     rcases List.mem_cons.1 hx with rfl | hx
     ·exact ⟨by have := a; unfold nD at this; omega, by have := c; unfold nD at this; omega⟩
     ·exact (hB h).1 x hx
theorem F16_ex (cr : Int) (cs : List (Int × Int)) (ns : List ND) (ls : List LD) : ∃ b, F16 cr cs.length (cs.flatMap eG) ns.length (ns.flatMap eN) ls.length (ls.flatMap eL) = some b ∧ (b = true → SM cs ns ls) := by
 unfold F16
 by_cases a : (cs.length : Int) > 9
 ·refine ⟨false, ?_, fun h => absurd h (by decide)⟩
  rw [res_eq]; simp only [B16, sem_br, sem_ret, a, decide_true, if_true, stepO_ret]
 ·by_cases b : (ns.length : Int) > 17
  ·refine ⟨false, ?_, fun h => absurd h (by decide)⟩
   rw [res_eq]; simp only [B16, sem_br, sem_ret, a, b, decide_true, decide_false, bff, if_true, stepO_ret]
  ·by_cases c : (ls.length : Int) > 17
   ·refine ⟨false, ?_, fun h => absurd h (by decide)⟩
    rw [res_eq]; simp only [B16, sem_br, sem_ret, a, b, c, decide_true, decide_false, bff, if_true, stepO_ret]
   ·obtain ⟨r, hr, hR⟩ := F16_nodes (cr := cr) (cs := cs) (ns := ns) (ls := ls) (by omega) (by omega) ns.length 0 (by omega)
    rw [List.drop_zero] at hR
    refine ⟨r, ?_, fun h => ⟨by omega, by omega, by omega, (hR h).1, (hR h).2⟩⟩
    rw [res_eq]
    simp only [B16, sem_br, sem_nxt, a, b, c, decide_false, bff, stepO_nxt]
    exact hr
end
section
open Go Go.RowKit
abbrev AM (l : List Int) : List AV := List.map AV.d (List.map vI l)
theorem AM_len (l : List Int) : (AM l).length = l.length := by simp
theorem refBs_d (k : Nat) : ∀ l : List DV, refBs k (l.map AV.d) = true
 | [] => rfl
 | x :: l => by
  rw [List.map_cons]; unfold refBs; rw [refBs_d k l]; simp [refB]
theorem refK_d (k : Nat) (l : List DV) (t : TypeId) : refK k (.cells (l.map AV.d) t) = true := refBs_d k l
theorem flatC_d : ∀ l : List DV, flatC (l.map AV.d) = true
 | [] => rfl
 | x :: l => by rw [List.map_cons]; unfold flatC; exact flatC_d l
theorem flatK_d (l : List DV) (t : TypeId) : flatK (.cells (l.map AV.d) t) = true := flatC_d l
theorem AM_at {l : List Int} {i : Nat} (hi : i < l.length) : (AM l)[i]? = some (AV.d (vI (l.getD i 0))) := by
 rw [List.getElem?_map, List.getElem?_map, List.getElem?_eq_getElem hi, List.getD_eq_getElem?_getD, List.getElem?_eq_getElem hi]; rfl
theorem AM_cel {l : List Int} {i : Nat} (hi : i < l.length) : dI (celA (AM l) i) = l.getD i 0 := by
 unfold celA
 rw [List.getD_eq_getElem?_getD, AM_at hi]; rfl
theorem AM_spl {l : List Int} {i : Nat} (hi : i < l.length) (v : Int) : spliceA (AM l) i [AV.d (vI v)] = AM (l.set i v) := by
 have e : (AM l).set i (AV.d (vI v)) = AM (l.set i v) := by simp [AM, List.map_set]
 rw [← e, List.set_eq_take_append_cons_drop, if_pos (by rw [AM_len]; exact hi)]
 unfold spliceA
 rw [List.length_singleton, List.append_assoc]; rfl
theorem AM_end (l : List Int) (n : Nat) (hn : n = l.length) : List.take n (List.drop 0 (AM l)) = AM l := by
 rw [List.drop_zero, List.take_of_length_le (by rw [AM_len]; omega)]
theorem extD {a b : List Int} (h : a.length = b.length) (k : ∀ m, m < a.length → a.getD m 0 = b.getD m 0) : a = b := by
 apply List.ext_getElem h
 intro m h1 h2
 have := k m h1
 rw [List.getD_eq_getElem?_getD, List.getD_eq_getElem?_getD, List.getElem?_eq_getElem h1, List.getElem?_eq_getElem h2] at this
 simpa using this
theorem setD (l : List Int) (i m : Nat) (v : Int) (hi : i < l.length) : (l.set i v).getD m 0 = if m = i then v else l.getD m 0 := by
 rw [List.getD_eq_getElem?_getD]
 by_cases h : m = i
 ·subst h; rw [List.getElem?_set_self hi, if_pos rfl]; rfl
 ·rw [List.getElem?_set_ne (Ne.symm h), if_neg h, List.getD_eq_getElem?_getD]
def W (l : List Int) (k : Nat) : List Int := (List.range l.length).map fun m => if m < k ∨ l.length - k ≤ m then l.getD (l.length - 1 - m) 0 else l.getD m 0
theorem W_len (l : List Int) (k : Nat) : (W l k).length = l.length := by simp [W]
theorem W_get {l : List Int} {k m : Nat} (hm : m < l.length) : (W l k).getD m 0 = if m < k ∨ l.length - k ≤ m then l.getD (l.length - 1 - m) 0 else l.getD m 0 := by
 unfold W
 rw [List.getD_eq_getElem?_getD, List.getElem?_map, List.getElem?_range hm]; rfl
theorem W_0 (l : List Int) : W l 0 = l := by
 apply extD (W_len l 0)
 intro m hm
 rw [W_len] at hm
 rw [W_get hm, if_neg (by omega)]
theorem W_step {l : List Int} {k : Nat} (hk : k < l.length - 1 - k) : ((W l k).set k ((W l k).getD (l.length - 1 - k) 0)).set (l.length - 1 - k) ((W l k).getD k 0) = W l (k + 1) := by
 have h1 : k < l.length := by omega
 have h2 : l.length - 1 - k < l.length := by omega
 apply extD (by simp [W_len])
 intro m hm
 simp only [List.length_set, W_len] at hm
 rw [setD _ _ _ _ (by rw [List.length_set, W_len]; exact h2), setD _ _ _ _ (by rw [W_len]; exact h1), W_get h2, W_get h1, W_get hm, W_get hm]
 by_cases a : m = l.length - 1 - k
 ·subst a
  rw [if_pos rfl, if_neg (by omega), if_pos (by omega)]
  congr 1; omega
 ·by_cases b : m = k
  ·subst b
   rw [if_neg a, if_pos rfl, if_neg (by omega), if_pos (by omega)]
  ·rw [if_neg a, if_neg b]
   by_cases c : m < k ∨ l.length - k ≤ m
   ·rw [if_pos c, if_pos (by omega)]
   ·rw [if_neg c, if_neg (by omega)]
theorem W_end {l : List Int} {k : Nat} (hk : ¬ k < l.length - 1 - k) : W l k = l.reverse := by
 apply extD (by simp [W_len])
 intro m hm
 rw [W_len] at hm
 rw [W_get hm]
 have hr : l.reverse.getD m 0 = l.getD (l.length - 1 - m) 0 := by
  rw [List.getD_eq_getElem?_getD, List.getElem?_reverse hm, List.getD_eq_getElem?_getD]
 rw [hr]
 by_cases c : m < k ∨ l.length - k ≤ m
 ·rw [if_pos c]
 ·rw [if_neg c]; congr 1; omega
theorem F144f_eq {n : Nat} {xs : List DV} (h0 : 0 < n) (hl : xs.length = n) (hb : n ≤ 1000) : F144f n xs = some (n, xs) := by
 have hf : fitsN n 8 := ⟨by omega, by omega⟩
 unfold F144f; rw [res_eq]
 simp only [B144f, sem_br, sem_ask, sem_ret, PC.holds, need_true, nat_beq0 (show n ≠ 0 by omega), h0, hl, Nat.mul_one, hf, bff, stepO_ret]
theorem rev_c2 (l : List Int) (h0 : 0 < l.length) (hb : l.length ≤ 100) (a : Nat) (al : List DV) (ha : a ≤ 100) : ∀ (f k : Nat), l.length ≤ 2 * k + f →
  res B102 (.c2 l.length (k : Int) ((l.length : Int) - 1 - (k : Int)) a al (AM (W l k))) = some (a + l.length, al ++ l.reverse.map vI) := by
 have last : ∀ k : Nat, ¬ k < l.length - 1 - k → res B102 (.c2 l.length (k : Int) ((l.length : Int) - 1 - (k : Int)) a al (AM (W l k))) = some (a + l.length, al ++ l.reverse.map vI) := by
  intro k hk
  have h1 : ¬ ((k : Int) < (l.length : Int) - 1 - (k : Int)) := by omega
  have hf : fitsN (a + l.length) 8 := ⟨by omega, by omega⟩
  rw [res_eq, W_end hk]
  simp only [B102, sem_br, sem_ask, sem_ret, PC.holds, need_true, h1, decide_false, bff, Nat.zero_add, Nat.mul_one, AM_end l.reverse l.length (by simp), toDs_d, aD_d, AM_len, List.length_reverse, Nat.le_refl, List.length_map, nat_beq0 (show l.length ≠ 0 by omega), h0, hf, stepO_ret]
 intro f
 induction f with
 | zero =>
  intro k hk
  exact last k (by omega)
 | succ f ih =>
  intro k hk
  by_cases hlt : k < l.length - 1 - k
  ·obtain ⟨j, hj⟩ : ∃ j : Nat, j = l.length - 1 - k := ⟨_, rfl⟩
   have hj2 : (l.length : Int) - 1 - (k : Int) = (j : Int) := by omega
   have h1 : (k : Int) < (j : Int) := by omega
   have hkl : k < (W l k).length := by rw [W_len]; omega
   have hjl : j < (W l k).length := by rw [W_len]; omega
   have hjs : j < ((W l k).set k ((W l k).getD j 0)).length := by rw [List.length_set]; exact hjl
   have i1 : inI64 ((k : Int) + 1) := by unfold inI64; omega
   have i2 : inI64 ((j : Int) - 1) := by unfold inI64; omega
   have hst := W_step hlt
   rw [← hj] at hst
   have ih' := ih (k + 1) (by omega)
   have e1 : ((k + 1 : Nat) : Int) = (k : Int) + 1 := rfl
   have e2 : (l.length : Int) - 1 - ((k + 1 : Nat) : Int) = (j : Int) - 1 := by omega
   rw [e2, e1] at ih'
   rw [hj2, res_eq]
   have jl : (j : Int) < (l.length : Int) := by omega
   have kl : (k : Int) < (l.length : Int) := by omega
   simp only [B102, sem_br, sem_ask, sem_triv, sem_nxt, PC.holds, need_true, h1, jl, kl, i1, i2, decide_true, if_true, tnn, Nat.mul_one, Nat.zero_add, AM_at hjl, AM_at hkl, AM_cel hjl, AM_cel hkl, AM_spl hkl, AM_spl hjs, AM_len, List.length_set, refK_d, show k + 1 ≤ (W l k).length from hkl, show j + 1 ≤ (W l k).length from hjl, hst, stepO_nxt]
   exact ih'
  ·exact last k hlt
def fI (p : Int → Bool) : List Int → Int → Int
 | [], _ => -1
 | x :: r, i => if p x = true then i else fI p r (i + 1)
theorem fI_eq (p : Int → Bool) : ∀ (l : List Int) (i : Int), (∃ x ∈ l, p x = true) → fI p l i = i + (l.findIdx p : Int)
 | [], i, h => by simp at h
 | x :: r, i, h => by
  unfold fI
  rw [List.findIdx_cons]
  cases hx : p x with
  | true => simp
  | false =>
   have hr : ∃ y ∈ r, p y = true := by
    obtain ⟨y, hy, h1⟩ := h
    rcases List.mem_cons.1 hy with rfl | hy
    ·rw [hx] at h1; cases h1
    ·exact ⟨y, hy, h1⟩
   rw [if_neg (by simp), fI_eq p r (i + 1) hr]
   simp only [cond_false]
   omega
theorem F158_fI (l : List Int) (v : Int) (hl : l.length ≤ 1000) : ∀ (k i : Nat), l.length = i + k → res B158 (.c1 l.length (l.map vI) v (l.length : Int) (i : Int)) = some (fI (fun y => v == y) (l.drop i) (i : Int))
 | 0, i, hk => by
  have h1 : ¬ ((i : Int) < (l.length : Int)) := by omega
  rw [res_eq, List.drop_of_length_le (by omega)]
  simp only [B158, sem_br, sem_ret, h1, decide_false, bff, stepO_ret, fI]
 | k + 1, i, hk => by
  have hi : i < l.length := by omega
  have h1 : (i : Int) < (l.length : Int) := by omega
  have hin : inI64 ((i : Int) + 1) := by unfold inI64; omega
  have ih := F158_fI l v hl k (i + 1) (by omega)
  rw [res_eq, dropD 0 hi]
  unfold fI
  simp only [B158, sem_br, sem_ask, sem_nxt, sem_ret, PC.holds, need_true, Int.toNat_natCast, Nat.mul_one, dI_cel_map, at_map hi, h1, hin, Int.natCast_nonneg, List.length_map, Nat.le_of_lt hi, decide_true, if_true]
  cases v == l.getD i 0
  ·simp only [bff, stepO_nxt]
   rw [← show ((i + 1 : Nat) : Int) = (i : Int) + 1 from rfl, ← ih]
  ·simp only [if_true, stepO_ret]
theorem F158_id (l : List Int) (v : Int) (hl : l.length ≤ 1000) : F158 l.length (l.map vI) v = some (fI (fun y => v == y) l 0) := by
 unfold F158; rw [res_eq]
 simp only [B158, sem_nxt, stepO_nxt]
 exact F158_fI l v hl l.length 0 (by omega)
theorem F156_eq (d : List Int) (x : Int) (hd : d.length ≤ 1000) : F156 x [.sl d.length (d.map vI)] = some (decide (x ∈ d)) := by
 unfold F156; rw [res_eq]
 have c1 : dN (cel [.sl d.length (d.map vI)] 0) = d.length := rfl
 have c2 : dL (cel [.sl d.length (d.map vI)] 0) = d.map vI := rfl
 simp only [B156, c1, c2, F157_eq d x (by omega), sem_ask, sbs, sem_ret, PC.holds, stepO_ret]
 rw [need_of (by rfl)]; rfl
theorem F155_1_fI (l d : List Int) (hl : l.length ≤ 1000) (hd : d.length ≤ 1000) : ∀ (k i : Nat), l.length = i + k → res B155_1 (.c1 l.length (l.map vI) [.sl d.length (d.map vI)] (l.length : Int) (i : Int)) = some (fI (fun x => decide (x ∈ d)) (l.drop i) (i : Int))
 | 0, i, hk => by
  have h1 : ¬ ((i : Int) < (l.length : Int)) := by omega
  rw [res_eq, List.drop_of_length_le (by omega)]
  simp only [B155_1, sem_br, sem_ret, h1, decide_false, bff, stepO_ret, fI]
 | k + 1, i, hk => by
  have hi : i < l.length := by omega
  have h1 : (i : Int) < (l.length : Int) := by omega
  have hin : inI64 ((i : Int) + 1) := by unfold inI64; omega
  have ih := F155_1_fI l d hl hd k (i + 1) (by omega)
  rw [res_eq, dropD 0 hi]
  unfold fI
  simp only [B155_1, F156_eq d _ hd, sem_br, sem_ask, sem_nxt, sem_ret, sbs, PC.holds, need_true, Int.toNat_natCast, Nat.mul_one, dI_cel_map, at_map hi, h1, hin, Int.natCast_nonneg, List.length_map, Nat.le_of_lt hi, decide_true, if_true]
  cases decide (l.getD i 0 ∈ d)
  ·simp only [bff, stepO_nxt]
   rw [← show ((i + 1 : Nat) : Int) = (i : Int) + 1 from rfl, ← ih]
  ·simp only [if_true, stepO_ret]
theorem F155_1_id (l d : List Int) (hl : l.length ≤ 1000) (hd : d.length ≤ 1000) : F155_1 l.length (l.map vI) [.sl d.length (d.map vI)] = some (fI (fun x => decide (x ∈ d)) l 0) := by
 unfold F155_1; rw [res_eq]
 simp only [B155_1, sem_nxt, stepO_nxt]
 exact F155_1_fI l d hl hd l.length 0 (by omega)
def upN (ns : List ND) (i : Nat) : Nat := (nD ns i).2.1.toNat
def par (ns : List ND) : Nat → Nat → List Int
 | 0, _ => []
 | f + 1, i => if i = 0 then [] else ((upN ns i : Nat) : Int) :: par ns f (upN ns i)
def abv (ns : List ND) (i : Nat) : List Int := (i : Int) :: par ns i i
structure UP (ns : List ND) : Prop where
 n : ns.length ≤ 17
 z : 0 < ns.length
 u : ∀ i, 0 < i → i < ns.length → (nD ns i).2.1 = (upN ns i : Int) ∧ upN ns i < i
theorem par_len (ns : List ND) : ∀ f i, (par ns f i).length ≤ f
 | 0, i => by simp [par]
 | f + 1, i => by
  unfold par
  split
  ·simp
  ·have := par_len ns f (upN ns i)
   simp only [List.length_cons]; omega
theorem abv_len (ns : List ND) (i : Nat) : (abv ns i).length ≤ i + 1 := by
 unfold abv
 have := par_len ns i i
 simp only [List.length_cons]; omega
section
variable {ns : List ND}
theorem par_z (h : UP ns) : ∀ f i, i ≤ f → 0 < i → i < ns.length → (0 : Int) ∈ par ns f i
 | 0, i, h1, h2, _ => by omega
 | f + 1, i, h1, h2, h3 => by
  unfold par
  rw [if_neg (by omega)]
  have hu := (h.u i h2 h3).2
  by_cases hz : upN ns i = 0
  ·rw [hz]; exact List.mem_cons_self
  ·exact List.mem_cons_of_mem _ (par_z h f _ (by omega) (by omega) (by omega))
theorem abv_z (h : UP ns) {i : Nat} (hi : i < ns.length) : (0 : Int) ∈ abv ns i := by
 unfold abv
 by_cases hz : i = 0
 ·subst hz; exact List.mem_cons_self
 ·exact List.mem_cons_of_mem _ (par_z h i i (Nat.le_refl _) (by omega) hi)
theorem F154_loop (h : UP ns) {cr : Int} {n1 n3 : Nat} {x1 x3 : List DV} : ∀ (f i : Nat), i ≤ f → i < ns.length → ∀ (e : Nat) (acc : List Int), acc.length + i ≤ 17 →
  res B154 (.c1 (i : Int) e acc.length (acc.map vI) cr n1 x1 ns.length (ns.flatMap eN) n3 x3 e) = some ((acc ++ par ns f i).length, (acc ++ par ns f i).map vI)
 | 0, i, h1, h2, e, acc, ha => by
  obtain rfl : i = 0 := by omega
  rw [res_eq]
  simp only [B154, sem_br, sem_ret, show decide (((0 : Nat) : Int) > 0) = false from rfl, bff, stepO_ret, par, List.append_nil]
 | f + 1, i, h1, h2, e, acc, ha => by
  unfold par
  by_cases hz : i = 0
  ·subst hz
   rw [res_eq]
   simp only [B154, sem_br, sem_ret, show decide (((0 : Nat) : Int) > 0) = false from rfl, bff, stepO_ret, if_true, List.append_nil]
  ·obtain ⟨hu1, hu2⟩ := h.u i (by omega) h2
   have ih := F154_loop h (cr := cr) (n1 := n1) (x1 := x1) (n3 := n3) (x3 := x3) f (upN ns i) (by omega) (by omega) (e + 1) (acc ++ [((upN ns i : Nat) : Int)]) (by rw [List.length_append, List.length_singleton]; omega)
   have hp : (i : Int) > 0 := by omega
   have hl : (i : Int) < (ns.length : Int) := by omega
   have hf : fitsN (acc.length + 1) 8 := ⟨by omega, by omega⟩
   rw [if_neg hz, res_eq]
   simp only [B154, sem_br, sem_ask, sem_nxt, PC.holds, need_true, nd1 h2, nr h2, nr4 h2 (show 1 ≤ 4 by decide), np1 h2, hp, hl, hf, hu1, tnn, decide_true, if_true, stepO_nxt]
   rw [show acc ++ ((upN ns i : Nat) : Int) :: par ns f (upN ns i) = acc ++ [((upN ns i : Nat) : Int)] ++ par ns f (upN ns i) by simp, ← ih, List.length_append, List.map_append]
   rfl
theorem F154_eq (h : UP ns) {cr : Int} {n1 n3 : Nat} {x1 x3 : List DV} {i : Nat} (hi : i < ns.length) : F154 cr n1 x1 ns.length (ns.flatMap eN) n3 x3 (i : Int) = some ((abv ns i).length, (abv ns i).map vI) := by
 have hn := h.n
 unfold F154; rw [res_eq]
 simp only [B154, sem_nxt, stepO_nxt]
 exact F154_loop h i i (Nat.le_refl _) hi 0 [(i : Int)] (by simp; omega)
theorem F105_loop (h : UP ns) {cr : Int} {n1 n3 : Nat} {x1 x3 : List DV} : ∀ (f i : Nat), i ≤ f → i < ns.length → ∀ (e : Nat) (acc : List Int), acc.length + i ≤ 17 →
  res B105 (.c1 (i : Int) e acc.length (acc.map vI) cr n1 x1 ns.length (ns.flatMap eN) n3 x3 e) = some ((acc ++ par ns f i).length, (acc ++ par ns f i).map vI)
 | 0, i, h1, h2, e, acc, ha => by
  obtain rfl : i = 0 := by omega
  rw [res_eq]
  simp only [B105, sem_br, sem_ret, show decide (((0 : Nat) : Int) > 0) = false from rfl, bff, stepO_ret, par, List.append_nil]
 | f + 1, i, h1, h2, e, acc, ha => by
  unfold par
  by_cases hz : i = 0
  ·subst hz
   rw [res_eq]
   simp only [B105, sem_br, sem_ret, show decide (((0 : Nat) : Int) > 0) = false from rfl, bff, stepO_ret, if_true, List.append_nil]
  ·obtain ⟨hu1, hu2⟩ := h.u i (by omega) h2
   have ih := F105_loop h (cr := cr) (n1 := n1) (x1 := x1) (n3 := n3) (x3 := x3) f (upN ns i) (by omega) (by omega) (e + 1) (acc ++ [((upN ns i : Nat) : Int)]) (by rw [List.length_append, List.length_singleton]; omega)
   have hp : (i : Int) > 0 := by omega
   have hl : (i : Int) < (ns.length : Int) := by omega
   have hf : fitsN (acc.length + 1) 8 := ⟨by omega, by omega⟩
   rw [if_neg hz, res_eq]
   simp only [B105, sem_br, sem_ask, sem_nxt, PC.holds, need_true, nd1 h2, nr h2, nr4 h2 (show 1 ≤ 4 by decide), np1 h2, hp, hl, hf, hu1, tnn, decide_true, if_true, stepO_nxt]
   rw [show acc ++ ((upN ns i : Nat) : Int) :: par ns f (upN ns i) = acc ++ [((upN ns i : Nat) : Int)] ++ par ns f (upN ns i) by simp, ← ih, List.length_append, List.map_append]
   rfl
theorem F105_eq (h : UP ns) {cr : Int} {n1 n3 : Nat} {x1 x3 : List DV} {i : Nat} (hi : i < ns.length) : F105 cr n1 x1 ns.length (ns.flatMap eN) n3 x3 (i : Int) = some ((abv ns i).length, (abv ns i).map vI) := by
 have hn := h.n
 unfold F105; rw [res_eq]
 simp only [B105, sem_nxt, stepO_nxt]
 exact F105_loop h i i (Nat.le_refl _) hi 0 [(i : Int)] (by simp; omega)
def meetK (u d : List Int) : Nat := u.findIdx fun x => decide (x ∈ d)
def meetJ (u d : List Int) : Nat := d.findIdx fun y => u.getD (meetK u d) 0 == y
def pthL (u d : List Int) : List Int := u.take (meetK u d + 1) ++ (d.take (meetJ u d)).reverse
def pth (ns : List ND) (a b : Nat) : List Int := pthL (abv ns a) (abv ns b)
theorem meet_k {u d : List Int} (h : ∃ x ∈ u, x ∈ d) : meetK u d < u.length ∧ u.getD (meetK u d) 0 ∈ d ∧ ∀ j, j < meetK u d → ¬ u.getD j 0 ∈ d := by
 have h1 : meetK u d < u.length := by
  unfold meetK
  apply List.findIdx_lt_length_of_exists
  obtain ⟨x, hx, hd⟩ := h
  exact ⟨x, hx, decide_eq_true hd⟩
 refine ⟨h1, ?_, ?_⟩
 ·have := List.findIdx_getElem (p := fun x => decide (x ∈ d)) (xs := u) (w := h1)
  rw [List.getD_eq_getElem?_getD, List.getElem?_eq_getElem h1]
  exact of_decide_eq_true this
 ·intro j hj
  have hjl : j < u.length := by omega
  have := List.not_of_lt_findIdx (p := fun x => decide (x ∈ d)) (xs := u) hj
  rw [List.getD_eq_getElem?_getD, List.getElem?_eq_getElem hjl]
  intro hm
  rw [Option.getD_some] at hm
  have e : decide (u[j] ∈ d) = true := decide_eq_true hm
  rw [e] at this
  exact absurd this (by decide)
theorem meet_j {u d : List Int} (h : ∃ x ∈ u, x ∈ d) : meetJ u d < d.length ∧ d.getD (meetJ u d) 0 = u.getD (meetK u d) 0 ∧ ∀ j, j < meetJ u d → ¬ d.getD j 0 = u.getD (meetK u d) 0 := by
 obtain ⟨_, hm, _⟩ := meet_k h
 have h1 : meetJ u d < d.length := by
  unfold meetJ
  apply List.findIdx_lt_length_of_exists
  exact ⟨_, hm, beq_self_eq_true _⟩
 refine ⟨h1, ?_, ?_⟩
 ·have := List.findIdx_getElem (p := fun y => u.getD (meetK u d) 0 == y) (xs := d) (w := h1)
  rw [List.getD_eq_getElem?_getD, List.getElem?_eq_getElem h1]
  exact (eq_of_beq this).symm
 ·intro j hj
  have hjl : j < d.length := by omega
  have := List.not_of_lt_findIdx (p := fun y => u.getD (meetK u d) 0 == y) (xs := d) hj
  rw [List.getD_eq_getElem?_getD, List.getElem?_eq_getElem hjl]
  intro e
  rw [Option.getD_some] at e
  rw [e, beq_self_eq_true] at this
  exact absurd this (by decide)
theorem abv_meet (h : UP ns) {a b : Nat} (ha : a < ns.length) (hb : b < ns.length) : ∃ x ∈ abv ns a, x ∈ abv ns b := ⟨0, abv_z h ha, abv_z h hb⟩
theorem F102_eq (h : UP ns) {cr : Int} {n1 n3 : Nat} {x1 x3 : List DV} {a b : Nat} (ha : a < ns.length) (hb : b < ns.length) : F102 cr n1 x1 ns.length (ns.flatMap eN) n3 x3 (a : Int) (b : Int) = some ((pth ns a b).length, (pth ns a b).map vI) := by
 have hm := abv_meet h ha hb
 have hn := h.n
 have la := abv_len ns a
 have lb := abv_len ns b
 obtain ⟨hk, hkd, _⟩ := meet_k hm
 obtain ⟨hj, _, _⟩ := meet_j hm
 have f1 := F154_eq h (cr := cr) (n1 := n1) (x1 := x1) (n3 := n3) (x3 := x3) ha
 have f2 := F154_eq h (cr := cr) (n1 := n1) (x1 := x1) (n3 := n3) (x3 := x3) hb
 unfold pth pthL
 have e155 : F155_1 (abv ns a).length ((abv ns a).map vI) [.sl (abv ns b).length ((abv ns b).map vI)] = some ((meetK (abv ns a) (abv ns b) : Nat) : Int) := by
  rw [F155_1_id _ _ (by omega) (by omega), fI_eq _ _ _ (by obtain ⟨x, h1, h2⟩ := hm; exact ⟨x, h1, decide_eq_true h2⟩), Int.zero_add]; rfl
 have e158 : F158 (abv ns b).length ((abv ns b).map vI) ((abv ns a).getD (meetK (abv ns a) (abv ns b)) 0) = some ((meetJ (abv ns a) (abv ns b) : Nat) : Int) := by
  rw [F158_id _ _ (by omega), fI_eq _ _ _ ⟨_, hkd, beq_self_eq_true _⟩, Int.zero_add]; rfl
 revert e155 e158 f1 f2 hk hkd hj la lb
 generalize abv ns a = u
 generalize abv ns b = d
 generalize meetK u d = k
 generalize meetJ u d = j
 intro la lb hk hkd hj f1 f2 e155 e158
 have tk : (List.take (k + 1) (List.drop 0 (u.map vI))).length = k + 1 := by rw [List.drop_zero, List.length_take, List.length_map]; omega
 have e144 := F144f_eq (n := k + 1) (xs := List.take (k + 1) (List.drop 0 (u.map vI))) (by omega) tk (by omega)
 have hk1 : ((k : Int) + 1).toNat = k + 1 := by omega
 have i1 : inI64 ((k : Int) + 1) := by unfold inI64; omega
 have p1 : (0 : Int) ≤ (k : Int) + 1 := by omega
 have p2 : (k : Int) + 1 ≤ (u.length : Int) := by omega
 have p3 : (k : Int) < (u.length : Int) := by omega
 have p4 : (j : Int) ≤ (d.length : Int) := by omega
 have tu : List.take (k + 1) (List.drop 0 (u.map vI)) = (u.take (k + 1)).map vI := by rw [List.drop_zero, List.map_take]
 have ul : (u.take (k + 1)).length = k + 1 := by rw [List.length_take]; omega
 unfold F102; rw [res_eq]
 simp only [B102, f1, f2, e155, e158, e144, sbs, sem_ask, sem_br, PC.holds, need_true, hk1, i1, p1, p2, p3, p4, Nat.sub_zero, Nat.mul_one, List.length_map, ownN, nat_beq0 (Nat.succ_ne_zero k), bff, Nat.succ_pos, tnn, dI_cel_map, at_map hk, Nat.le_of_lt hk]
 by_cases hz : j = 0
 ·subst hz
  have ez : F144z 0 [] = some () := by simp [F144z]
  simp only [show Nat.beq 0 0 = true from rfl, if_true, List.take_zero, ez, sbs, sem_ask, sem_ret, PC.holds, need_true, p3, Int.natCast_nonneg, show ((0 : Nat) : Int) ≤ (d.length : Int) by omega, Nat.le_of_lt hk, List.length_map, stepO_ret, tu, List.reverse_nil, List.append_nil, ul]
 ·have tj : (List.take j (List.drop 0 (d.map vI))).length = j := by rw [List.drop_zero, List.length_take, List.length_map]; omega
  have dl : (d.take j).length = j := by rw [List.length_take]; omega
  have ft : fitsN j 8 := ⟨by omega, by omega⟩
  have i2 : inI64 ((j : Int) - 1) := by unfold inI64; omega
  have cells : List.map AV.d (List.take j (List.drop 0 (d.map vI))) = AM (d.take j) := by simp only [AM, List.drop_zero, List.map_take]
  simp only [nat_beq0 hz, bff, sem_ask, sem_sees, sem_nxt, PC.holds, need_true, p3, p4, Int.natCast_nonneg, Nat.le_of_lt hk, List.length_map, Nat.pos_of_ne_zero hz, tj, ft, i2, cells, flatK_d, refK_d, stepO_nxt, tu]
  have := rev_c2 (d.take j) (by omega) (by omega) (k + 1) ((u.take (k + 1)).map vI) (by omega) j 0 (by omega)
  rw [dl, W_0] at this
  rw [show ((0 : Nat) : Int) = 0 from rfl, Int.sub_zero] at this
  rw [this, List.length_append, List.length_reverse, ul, dl, List.map_append]
end
end
section
open Go Go.RowKit
section
variable {cr : Int} {cs : List (Int × Int)} {ns : List ND} {ls : List LD}
theorem nodsE_all : ∀ (k i : Nat), nodsE cr ns k i = 0 → ∀ m, i ≤ m → m < i + k → nodF cr ns m = 0
 | 0, i, _, m, h1, h2 => by omega
 | k + 1, i, h, m, h1, h2 => by
  unfold nodsE at h
  by_cases hz : nodF cr ns i = 0
  ·rw [if_pos hz] at h
   by_cases e : m = i
   ·rw [e]; exact hz
   ·exact nodsE_all k (i + 1) h m (by omega) (by omega)
  ·rw [if_neg hz] at h; exact absurd h hz
theorem up_of (h : mainsE cr cs ns ls = 0) : UP ns := by
 unfold mainsE at h
 by_cases h1 : rangeI cr 1 8 ≠ 0
 ·rw [if_pos h1] at h; exact absurd h h1
 rw [if_neg h1] at h
 by_cases h2 : headE cr cs ns ≠ 0
 ·rw [if_pos h2] at h; exact absurd h h2
 rw [if_neg h2] at h
 by_cases h3 : nodsE cr ns ns.length 0 ≠ 0
 ·rw [if_pos h3] at h; exact absurd h h3
 have h2 : headE cr cs ns = 0 := Classical.not_not.1 h2
 have h3 : nodsE cr ns ns.length 0 = 0 := Classical.not_not.1 h3
 have a1 := firstI_0 h2 (whenI ((ns.length : Int) == 0) 12) (by simp)
 have a2 := firstI_0 h2 (whenI (decide ((ns.length : Int) > 16)) 5) (by simp)
 rw [whenI_z (by decide)] at a1 a2
 have a2 := of_decide_eq_false a2
 rw [beq_eq_false_iff_ne] at a1
 refine ⟨by omega, by omega, ?_⟩
 intro i hi hn
 have b := nodsE_all _ _ h3 i (Nat.zero_le _) (by omega)
 have c := firstI_0 b (nodE cr ns i) (by simp)
 unfold nodE at c
 rw [if_neg (by omega)] at c
 by_cases d : (nD ns i).2.1 < 0 ∨ (nD ns i).2.1 ≥ (i : Int)
 ·rw [if_pos d] at c; exact absurd c (by decide)
 ·unfold upN
  constructor <;> omega
def badE (n : Nat) (x : Int) : Bool := decide (x < 0 ∨ x ≥ (n : Int))
theorem F153_eq {n1 n3 : Nat} {x1 x3 x2 : List DV} {n : Nat} (x : Int) : F153 x [vI cr, .sl n1 x1, .sl n x2, .sl n3 x3] = some (badE n x) := by
 unfold F153 badE; rw [res_eq]
 have c0 : dI (cel [vI cr, .sl n1 x1, .sl n x2, .sl n3 x3] 0) = cr := rfl
 have c1 : dN (cel [vI cr, .sl n1 x1, .sl n x2, .sl n3 x3] 1) = n1 := rfl
 have c2 : dL (cel [vI cr, .sl n1 x1, .sl n x2, .sl n3 x3] 1) = x1 := rfl
 have c3 : dN (cel [vI cr, .sl n1 x1, .sl n x2, .sl n3 x3] 2) = n := rfl
 have c4 : dL (cel [vI cr, .sl n1 x1, .sl n x2, .sl n3 x3] 2) = x2 := rfl
 have c5 : dN (cel [vI cr, .sl n1 x1, .sl n x2, .sl n3 x3] 3) = n3 := rfl
 have c6 : dL (cel [vI cr, .sl n1 x1, .sl n x2, .sl n3 x3] 3) = x3 := rfl
 simp only [B153, c0, c1, c2, c3, c4, c5, c6, F112_eq, sem_ask, sbs, sem_ret, PC.holds, stepO_ret, Bool.not_not]
 rw [need_of (by exact Nat.le_refl 4), need_of (by rfl)]; rfl
theorem F155_2 {n1 n3 : Nat} {x1 x3 x2 : List DV} {n : Nat} (x y : Int) : ∃ i : Int, F155 2 [vI x, vI y] [vI cr, .sl n1 x1, .sl n x2, .sl n3 x3] = some i ∧ decide (i ≥ 0) = (badE n x || badE n y) := by
 have s2 : res B155 (.c1 2 [vI x, vI y] [vI cr, .sl n1 x1, .sl n x2, .sl n3 x3] 2 2) = some (-1) := by
  rw [res_eq]; simp [B155, sem_br, sem_ret, stepO_ret]
 have s1 : res B155 (.c1 2 [vI x, vI y] [vI cr, .sl n1 x1, .sl n x2, .sl n3 x3] 2 1) = some (if badE n y = true then 1 else -1) := by
  rw [res_eq]
  have c : dI (cel [vI x, vI y] 1) = y := rfl
  simp only [B155, sem_br, sem_ask, sbs, PC.holds, show ((1 : Int) < 2) by decide, decide_true, if_true, show (1 : Int).toNat * 1 = 1 from rfl, c, F153_eq]
  rw [need_of (by decide), need_of (by decide), need_of (by exact Nat.le_succ 1), need_of (by rfl)]
  cases badE n y
  ·simp only [bff, sem_ask, PC.holds, sem_nxt, stepO_nxt]
   rw [need_of (by unfold inI64; omega)]
   exact s2
  ·simp only [if_true, sem_ret, stepO_ret]
 have s0 : F155 2 [vI x, vI y] [vI cr, .sl n1 x1, .sl n x2, .sl n3 x3] = some (if badE n x = true then 0 else if badE n y = true then 1 else -1) := by
  unfold F155; rw [res_eq]
  simp only [B155, sem_nxt, stepO_nxt]
  rw [res_eq]
  have c : dI (cel [vI x, vI y] 0) = x := rfl
  simp only [B155, sem_br, sem_ask, sbs, PC.holds, show ((0 : Int) < ((2 : Nat) : Int)) by decide, decide_true, if_true, show (0 : Int).toNat * 1 = 0 from rfl, c, F153_eq]
  rw [need_of (by decide), need_of (by decide), need_of (by exact Nat.zero_le 2), need_of (by rfl)]
  cases badE n x
  ·simp only [bff, sem_ask, PC.holds, sem_nxt, stepO_nxt]
   rw [need_of (by unfold inI64; omega)]
   exact s1
  ·simp only [if_true, sem_ret, stepO_ret]
 refine ⟨_, s0, ?_⟩
 cases badE n x <;> cases badE n y <;> rfl
def askE (cr : Int) (cs : List (Int × Int)) (ns : List ND) (ls : List LD) (x y : Int) : Int := firstI [mainsE cr cs ns ls, whenI (badE ns.length x || badE ns.length y) 10]
theorem F101_eq (h : SM cs ns ls) (x y : Int) : F101 cr cs.length (cs.flatMap eG) ns.length (ns.flatMap eN) ls.length (ls.flatMap eL) 2 [vI x, vI y] = some (askE cr cs ns ls x y) := by
 obtain ⟨i, h1, h2⟩ := F155_2 (cr := cr) (n1 := cs.length) (x1 := cs.flatMap eG) (x2 := ns.flatMap eN) (n3 := ls.length) (x3 := ls.flatMap eL) (n := ns.length) x y
 have e152 : F152 2 [vI x, vI y] [vI cr, .sl cs.length (cs.flatMap eG), .sl ns.length (ns.flatMap eN), .sl ls.length (ls.flatMap eL)] = some (badE ns.length x || badE ns.length y) := by
  unfold F152; rw [res_eq]
  simp only [B152, h1, sbs, sem_ret, stepO_ret, h2]
 unfold F101 askE; rw [res_eq]
 simp only [B101, F23_eq h, e152, F109_eq, F107_2, sbs, sem_ret, stepO_ret]
theorem ask_0 {x y : Int} (h : askE cr cs ns ls x y = 0) : mainsE cr cs ns ls = 0 ∧ (0 ≤ x ∧ x < ns.length) ∧ 0 ≤ y ∧ y < ns.length := by
 have h1 := firstI_0 h (mainsE cr cs ns ls) (by simp)
 have h2 := firstI_0 h (whenI (badE ns.length x || badE ns.length y) 10) (by simp)
 rw [whenI_z (by decide), Bool.or_eq_false_iff] at h2
 have a := of_decide_eq_false h2.1
 have b := of_decide_eq_false h2.2
 exact ⟨h1, by omega, by omega⟩
theorem pthL_len {u d : List Int} (h : ∃ x ∈ u, x ∈ d) : (pthL u d).length = meetK u d + 1 + meetJ u d := by
 obtain ⟨hk, _, _⟩ := meet_k h
 obtain ⟨hj, _, _⟩ := meet_j h
 unfold pthL
 rw [List.length_append, List.length_reverse, List.length_take, List.length_take]; omega
def dwn (d : List Int) (j m : Nat) : List Int := (d.take j).reverse.take m
theorem dwn_step {d : List Int} {j m : Nat} (hj : j < d.length) (hm : m < j) : dwn d j (m + 1) = dwn d j m ++ [d.getD (j - 1 - m) 0] := by
 unfold dwn
 have hl : m < (d.take j).reverse.length := by rw [List.length_reverse, List.length_take]; omega
 rw [List.take_succ_eq_append_getElem hl]
 congr 2
 rw [List.getElem_reverse, List.getElem_take, List.getD_eq_getElem?_getD, List.getElem?_eq_getElem (by omega)]
 simp only [List.length_take, Option.getD_some]
 congr 1; omega
theorem c4_eq {u d : List Int} (hd : d.length ≤ 100) {k j : Nat} (hj : j < d.length) (hk : k < u.length) (hu : u.length ≤ 100) : ∀ (f m e : Nat), j = m + f →
  res B22 (.c4 d.length (d.map vI) e (k + 1 + m) ((u.take (k + 1) ++ dwn d j m).map vI) ((j : Int) - 1 - (m : Int)) e) = some (k + 1 + j, (u.take (k + 1) ++ (d.take j).reverse).map vI)
 | 0, m, e, hm => by
  have h1 : ¬ ((j : Int) - 1 - (m : Int) ≥ 0) := by omega
  rw [res_eq]
  simp only [B22, sem_br, sem_ret, h1, decide_false, bff, stepO_ret]
  have : dwn d j m = (d.take j).reverse := by
   unfold dwn
   rw [List.take_of_length_le (by rw [List.length_reverse, List.length_take]; omega)]
  rw [this, show j = m by omega]
 | f + 1, m, e, hm => by
  have ih := c4_eq hd (u := u) hj hk hu f (m + 1) (e + 1) (by omega)
  obtain ⟨p, hp⟩ : ∃ p : Nat, p = j - 1 - m := ⟨_, rfl⟩
  have hp2 : (j : Int) - 1 - (m : Int) = (p : Int) := by omega
  have hpd : p < d.length := by omega
  have h1 : (p : Int) ≥ 0 := by omega
  have h2 : (p : Int) < (d.length : Int) := by omega
  have hf : fitsN (k + 1 + m + 1) 8 := ⟨by omega, by omega⟩
  have hi : inI64 ((p : Int) - 1) := by unfold inI64; omega
  rw [dwn_step hj (by omega), ← hp, ← List.append_assoc, List.map_append, show (j : Int) - 1 - ((m + 1 : Nat) : Int) = (p : Int) - 1 by omega] at ih
  rw [hp2, res_eq]
  simp only [B22, sem_br, sem_ask, sem_nxt, PC.holds, need_true, Int.toNat_natCast, Nat.mul_one, dI_cel_map, at_map hpd, h1, h2, hf, hi, Int.natCast_nonneg, List.length_map, Nat.le_of_lt hpd, decide_true, if_true, stepO_nxt]
  exact ih
theorem c3_eq {u d : List Int} (hd : d.length ≤ 100) (hu : u.length ≤ 100) (h : ∃ x ∈ u, x ∈ d) : ∀ (f m e : Nat), meetJ u d = m + f →
  res B22 (.c3 u.length (u.map vI) d.length (d.map vI) e (meetK u d + 1) ((u.take (meetK u d + 1)).map vI) (meetK u d : Int) (m : Int) e) = some ((pthL u d).length, (pthL u d).map vI) := by
 obtain ⟨hk, hkd, _⟩ := meet_k h
 obtain ⟨hj, hje, hjn⟩ := meet_j h
 have hk2 : (meetK u d : Int) < (u.length : Int) := by omega
 intro f
 induction f with
 | zero =>
  intro m e hm
  have hmd : m < d.length := by omega
  have h2 : (m : Int) < (d.length : Int) := by omega
  have hi : inI64 ((m : Int) - 1) := by unfold inI64; omega
  have hE : d.getD m 0 = u.getD (meetK u d) 0 := by rw [show m = meetJ u d by omega]; exact hje
  have := c4_eq hd hj hk hu (meetJ u d) 0 e (by omega)
  rw [show dwn d (meetJ u d) 0 = [] from rfl, List.append_nil, Nat.add_zero, show (meetJ u d : Int) - 1 - ((0 : Nat) : Int) = (m : Int) - 1 by omega] at this
  rw [res_eq]
  simp only [B22, sem_br, sem_ask, sem_nxt, PC.holds, need_true, Int.toNat_natCast, Nat.mul_one, dI_cel_map, at_map hmd, at_map hk, h2, hk2, hi, Int.natCast_nonneg, List.length_map, Nat.le_of_lt hmd, Nat.le_of_lt hk, hE, bne_self_eq_false, bff, stepO_nxt]
  rw [this, pthL_len h]; rfl
 | succ f ih =>
  intro m e hm
  have hmd : m < d.length := by omega
  have h2 : (m : Int) < (d.length : Int) := by omega
  have hi : inI64 ((m : Int) + 1) := by unfold inI64; omega
  have hE : d.getD m 0 ≠ u.getD (meetK u d) 0 := hjn m (by omega)
  have ih := ih (m + 1) e (by omega)
  rw [res_eq]
  simp only [B22, sem_br, sem_ask, sem_nxt, PC.holds, need_true, Int.toNat_natCast, Nat.mul_one, dI_cel_map, at_map hmd, at_map hk, h2, hk2, hi, Int.natCast_nonneg, List.length_map, Nat.le_of_lt hmd, Nat.le_of_lt hk, bne_iff_ne.2 hE, if_true, stepO_nxt]
  exact ih
theorem c2_eq {u d : List Int} (hd : d.length ≤ 100) (hu : u.length ≤ 100) (h : ∃ x ∈ u, x ∈ d) : ∀ (f m e : Nat), 0 < m → meetK u d = m + f →
  res B22 (.c2 u.length (u.map vI) d.length (d.map vI) e m ((u.take m).map vI) (m : Int) e) = some ((pthL u d).length, (pthL u d).map vI) := by
 obtain ⟨hk, hkd, hkn⟩ := meet_k h
 intro f
 induction f with
 | zero =>
  intro m e h0 hm
  have hmu : m < u.length := by omega
  have h2 : (m : Int) < (u.length : Int) := by omega
  have hf : fitsN (m + 1) 8 := ⟨by omega, by omega⟩
  have hE : decide (u.getD m 0 ∈ d) = true := by rw [show m = meetK u d by omega]; exact decide_eq_true hkd
  have := c3_eq hd hu h (meetJ u d) 0 (e + 1) (by omega)
  rw [show meetK u d = m by omega, takeS 0 hmu vI] at this
  rw [res_eq]
  simp only [B22, F66_eq d _ (show d.length ≤ 1025 by omega), sem_br, sem_ask, sem_nxt, sbs, PC.holds, need_true, Int.toNat_natCast, Nat.mul_one, dI_cel_map, at_map hmu, h2, hf, Int.natCast_nonneg, List.length_map, Nat.le_of_lt hmu, hE, Bool.not_true, bff, stepO_nxt]
  exact this
 | succ f ih =>
  intro m e h0 hm
  have hmu : m < u.length := by omega
  have h2 : (m : Int) < (u.length : Int) := by omega
  have hf : fitsN (m + 1) 8 := ⟨by omega, by omega⟩
  have hi : inI64 ((m : Int) + 1) := by unfold inI64; omega
  have hE : decide (u.getD m 0 ∈ d) = false := decide_eq_false (hkn m (by omega))
  have ih := ih (m + 1) (e + 1) (by omega) (by omega)
  rw [takeS 0 hmu vI] at ih
  rw [res_eq]
  simp only [B22, F66_eq d _ (show d.length ≤ 1025 by omega), sem_br, sem_ask, sem_nxt, sbs, PC.holds, need_true, Int.toNat_natCast, Nat.mul_one, dI_cel_map, at_map hmu, h2, hf, hi, Int.natCast_nonneg, List.length_map, Nat.le_of_lt hmu, hE, Bool.not_false, if_true, stepO_nxt]
  exact ih
theorem F22_eq (h : UP ns) {n1 n3 : Nat} {x1 x3 : List DV} {a b : Nat} (ha : a < ns.length) (hb : b < ns.length) : F22 cr n1 x1 ns.length (ns.flatMap eN) n3 x3 (a : Int) (b : Int) = some ((pth ns a b).length, (pth ns a b).map vI) := by
 have hm := abv_meet h ha hb
 have hn := h.n
 have la := abv_len ns a
 have lb := abv_len ns b
 have f1 := F105_eq h (cr := cr) (n1 := n1) (x1 := x1) (n3 := n3) (x3 := x3) ha
 have f2 := F105_eq h (cr := cr) (n1 := n1) (x1 := x1) (n3 := n3) (x3 := x3) hb
 unfold F22; rw [res_eq]
 simp only [B22, f1, f2, sbs, sem_nxt, stepO_nxt]
 unfold pth
 revert hm la lb
 generalize abv ns a = u
 generalize abv ns b = d
 intro hm la lb
 obtain ⟨hk, hkd, hkn⟩ := meet_k hm
 have h0 : 0 < u.length := by omega
 have h2 : ((0 : Nat) : Int) < (u.length : Int) := by omega
 have hi : inI64 (((0 : Nat) : Int) + 1) := by unfold inI64; omega
 have t0 := takeS 0 h0 vI
 have a0 := at_map h0
 rw [show ((0 : Int)) = ((0 : Nat) : Int) from rfl, res_eq]
 by_cases hz : meetK u d = 0
 ·have hE : decide (u.getD 0 0 ∈ d) = true := by rw [← hz]; exact decide_eq_true (by rw [hz]; rw [hz] at hkd; exact hkd)
  have := c3_eq (by omega) (by omega) hm (meetJ u d) 0 0 (by omega)
  rw [hz, t0] at this
  simp only [B22, F66_eq d _ (show d.length ≤ 1025 by omega), sem_br, sem_ask, sem_nxt, sbs, PC.holds, need_true, Int.toNat_natCast, Nat.mul_one, dI_cel_map, a0, h2, Int.natCast_nonneg, List.length_map, Nat.le_of_lt h0, hE, Bool.not_true, bff, stepO_nxt]
  exact this
 ·have hE : decide (u.getD 0 0 ∈ d) = false := decide_eq_false (hkn 0 (by omega))
  have := c2_eq (by omega) (by omega) hm (meetK u d - 1) 1 0 (by omega) (by omega)
  rw [t0] at this
  simp only [B22, F66_eq d _ (show d.length ≤ 1025 by omega), sem_br, sem_ask, sem_nxt, sbs, PC.holds, need_true, Int.toNat_natCast, Nat.mul_one, dI_cel_map, a0, h2, hi, Int.natCast_nonneg, List.length_map, Nat.le_of_lt h0, hE, Bool.not_false, if_true, stepO_nxt]
  exact this
end
end
section
open Go Go.RowKit
section
variable {ns : List ND}
theorem getD_app (a b : List Int) (i : Nat) : (a ++ b).getD i 0 = if i < a.length then a.getD i 0 else b.getD (i - a.length) 0 := by
 simp only [List.getD_eq_getElem?_getD, List.getElem?_append]; split <;> rfl
def Adj (ns : List ND) (x y : Int) : Prop := ∃ m : Nat, x = (m : Int) ∧ 0 < m ∧ m < ns.length ∧ y = (upN ns m : Int) ∧ upN ns m < m
theorem par_adj (h : UP ns) : ∀ (f i : Nat), i < ns.length → ∀ q, q + 1 < ((i : Int) :: par ns f i).length → Adj ns (((i : Int) :: par ns f i).getD q 0) (((i : Int) :: par ns f i).getD (q + 1) 0)
 | 0, i, hi, q, hq => by simp [par] at hq
 | f + 1, i, hi, q, hq => by
  unfold par at hq ⊢
  by_cases hz : i = 0
  ·rw [if_pos hz] at hq; simp at hq
  ·rw [if_neg hz] at hq ⊢
   have hu := (h.u i (by omega) hi).2
   cases q with
   | zero => exact ⟨i, rfl, by omega, hi, rfl, hu⟩
   | succ q => exact par_adj h f (upN ns i) (by omega) q (by simpa using hq)
theorem abv_adj (h : UP ns) {a : Nat} (ha : a < ns.length) {q : Nat} (hq : q + 1 < (abv ns a).length) : Adj ns ((abv ns a).getD q 0) ((abv ns a).getD (q + 1) 0) := par_adj h a a ha q hq
def hiI (p : List Int) (i : Nat) : Int := if p.getD (i + 1) 0 > p.getD i 0 then p.getD (i + 1) 0 else p.getD i 0
theorem getD_rev_take {d : List Int} {j q : Nat} (hj : j ≤ d.length) (hq : q < j) : ((d.take j).reverse).getD q 0 = d.getD (j - 1 - q) 0 := by
 have hl : q < (d.take j).length := by rw [List.length_take]; omega
 rw [List.getD_eq_getElem?_getD, List.getElem?_reverse hl, List.length_take, Nat.min_eq_left hj, List.getElem?_take_of_lt (by omega), List.getD_eq_getElem?_getD]
theorem getD_take {d : List Int} {j q : Nat} (hq : q < j) : (d.take j).getD q 0 = d.getD q 0 := by
 rw [List.getD_eq_getElem?_getD, List.getElem?_take_of_lt hq, List.getD_eq_getElem?_getD]
theorem pth_adj (h : UP ns) {a b : Nat} (ha : a < ns.length) (hb : b < ns.length) {i : Nat} (hi : i + 1 < (pth ns a b).length) : Adj ns ((pth ns a b).getD i 0) ((pth ns a b).getD (i + 1) 0) ∨ Adj ns ((pth ns a b).getD (i + 1) 0) ((pth ns a b).getD i 0) := by
 have hm := abv_meet h ha hb
 obtain ⟨hk, _, _⟩ := meet_k hm
 obtain ⟨hj, hje, _⟩ := meet_j hm
 have hu := fun q hq => abv_adj h ha (q := q) hq
 have hd := fun q hq => abv_adj h hb (q := q) hq
 unfold pth at hi ⊢
 rw [pthL_len hm] at hi
 revert hi hk hj hje hu hd
 unfold pthL
 generalize abv ns a = u
 generalize abv ns b = d
 generalize meetK u d = k
 generalize meetJ u d = j
 intro hi hk hj hje hu hd
 have tl : (u.take (k + 1)).length = k + 1 := by rw [List.length_take]; omega
 rw [getD_app, getD_app, tl]
 by_cases c1 : i + 1 < k + 1
 ·left
  rw [if_pos (by omega), if_pos c1, getD_take (by omega), getD_take c1]
  exact hu i (by omega)
 ·right
  rw [if_neg c1, getD_rev_take (by omega) (by omega)]
  by_cases c2 : i < k + 1
  ·rw [if_pos c2, getD_take c2, show i = k by omega]
   have := hd (j - 1) (by omega)
   rw [show j - 1 + 1 = j by omega, hje] at this
   rw [show j - 1 - (k + 1 - (k + 1)) = j - 1 by omega]
   exact this
  ·rw [if_neg c2, getD_rev_take (by omega) (by omega)]
   have := hd (j - 1 - (i + 1 - (k + 1))) (by omega)
   rw [show j - 1 - (i + 1 - (k + 1)) + 1 = j - 1 - (i - (k + 1)) by omega] at this
   exact this
theorem pth_hi (h : UP ns) {a b : Nat} (ha : a < ns.length) (hb : b < ns.length) {i : Nat} (hi : i + 1 < (pth ns a b).length) : ∃ m : Nat, hiI (pth ns a b) i = (m : Int) ∧ 0 < m ∧ m < ns.length := by
 unfold hiI
 rcases pth_adj h ha hb hi with ⟨m, h1, h2, h3, h4, h5⟩ | ⟨m, h1, h2, h3, h4, h5⟩
 ·exact ⟨m, by rw [h1, h4, if_neg (by omega)], h2, h3⟩
 ·exact ⟨m, by rw [h1, h4, if_pos (by omega)], h2, h3⟩
theorem pth_len (h : UP ns) {a b : Nat} (ha : a < ns.length) (hb : b < ns.length) : 0 < (pth ns a b).length ∧ (pth ns a b).length ≤ 40 := by
 have hm := abv_meet h ha hb
 obtain ⟨hk, _, _⟩ := meet_k hm
 obtain ⟨hj, _, _⟩ := meet_j hm
 have := abv_len ns a
 have := abv_len ns b
 have := h.n
 unfold pth
 rw [pthL_len hm]; omega
end
def okG (g : Int × Int) : Prop := (-2 ≤ g.1 ∧ g.1 ≤ 2) ∧ (-2 ≤ g.2 ∧ g.2 ≤ 2) ∧ ¬ (g.1 = 0 ∧ g.2 = 0)
theorem gauE_ok {g : Int × Int} (h : gauE g = 0) : okG g := by
 have a := firstI_0 h (rangeI g.1 (-2) 2) (by simp)
 have b := firstI_0 h (rangeI g.2 (-2) 2) (by simp)
 have c := firstI_0 h (whenI (g.1 == 0 && g.2 == 0) 6) (by simp)
 rw [whenI_z (by decide)] at c
 refine ⟨?_, ?_, ?_⟩
 ·have := rangeI_zero.1 a; omega
 ·have := rangeI_zero.1 b; omega
 ·rintro ⟨h1, h2⟩
  rw [h1, h2] at c; simp at c
theorem facE_ok {cr : Int} {l : List (Int × Int)} (h : facE cr l = 0) : (l.length : Int) = cr ∧ ∀ g ∈ l, okG g := by
 unfold facE at h
 by_cases hl : (l.length : Int) = cr
 ·rw [if_pos hl] at h
  refine ⟨hl, fun g hg => gauE_ok (firstI_0 h _ (List.mem_map_of_mem hg))⟩
 ·rw [if_neg hl] at h; exact absurd h (by decide)
structure VG (cr : Int) (cs : List (Int × Int)) (ns : List ND) (ls : List LD) : Prop where
 up : UP ns
 c0 : 1 ≤ cr ∧ cr ≤ 8
 c1 : (cs.length : Int) = cr ∧ ∀ g ∈ cs, okG g
 nf : ∀ i, 0 < i → i < ns.length → ((nD ns i).2.2.2.length : Int) = cr ∧ ∀ g ∈ (nD ns i).2.2.2, okG g
 lf : ∀ i, i < ls.length → ((lD ls i).2.2.length : Int) = cr ∧ ∀ g ∈ (lD ls i).2.2, okG g
 ll : ls.length ≤ 16
section
variable {cr : Int} {cs : List (Int × Int)} {ns : List ND} {ls : List LD}
theorem lodsE_all (n : Nat) : ∀ (k i : Nat), lodsE cr n ls k i = 0 → ∀ m, i ≤ m → m < i + k → lodE cr n (lD ls m) = 0
 | 0, i, _, m, h1, h2 => by omega
 | k + 1, i, h, m, h1, h2 => by
  unfold lodsE at h
  by_cases hz : lodE cr n (lD ls i) = 0
  ·rw [if_pos hz] at h
   by_cases e : m = i
   ·rw [e]; exact hz
   ·exact lodsE_all n k (i + 1) h m (by omega) (by omega)
  ·rw [if_neg hz] at h; exact absurd h hz
theorem vg_of (h : mainsE cr cs ns ls = 0) : VG cr cs ns ls := by
 have hu := up_of h
 unfold mainsE at h
 by_cases h1 : rangeI cr 1 8 ≠ 0
 ·rw [if_pos h1] at h; exact absurd h h1
 rw [if_neg h1] at h
 by_cases h2 : headE cr cs ns ≠ 0
 ·rw [if_pos h2] at h; exact absurd h h2
 rw [if_neg h2] at h
 by_cases h3 : nodsE cr ns ns.length 0 ≠ 0
 ·rw [if_pos h3] at h; exact absurd h h3
 rw [if_neg h3] at h
 by_cases h4 : (ls.length : Int) > 16
 ·rw [if_pos h4] at h; exact absurd h (by decide)
 rw [if_neg h4] at h
 have h1 := rangeI_zero.1 (Classical.not_not.1 h1)
 have h2 := Classical.not_not.1 h2
 have h3 := Classical.not_not.1 h3
 refine ⟨hu, by omega, facE_ok (firstI_0 h2 (facE cr cs) (by simp)), ?_, ?_, by omega⟩
 ·intro i hi hn
  have b := nodsE_all _ _ h3 i (Nat.zero_le _) (by omega)
  have c := firstI_0 b (nodE cr ns i) (by simp)
  unfold nodE at c
  rw [if_neg (by omega)] at c
  by_cases d : (nD ns i).2.1 < 0 ∨ (nD ns i).2.1 ≥ (i : Int)
  ·rw [if_pos d] at c; exact absurd c (by decide)
  ·rw [if_neg d] at c
   exact facE_ok (firstI_0 c (facE cr (nD ns i).2.2.2) (by simp))
 ·intro i hi
  have b := lodsE_all _ _ _ h i (Nat.zero_le _) (by omega)
  exact facE_ok (firstI_0 b (facE cr (lD ls i).2.2) (by simp))
end
end
section
open Go Go.RowKit
abbrev FA : Type := (Int × Int) × Bool
def eF (x : FA) : List DV := [.v (.int .i64 x.1.1), .v (.int .i64 x.1.2), .v (.bool x.2)]
abbrev ON : ByteArray := ByteArray.mk #[111, 110]
abbrev MAY : ByteArray := ByteArray.mk #[109, 97, 121]
def XM (cr : Int) (cs : List (Int × Int)) (ns : List ND) (ls : List LD) : List DV := [vI cr, .sl cs.length (cs.flatMap eG), .sl ns.length (ns.flatMap eN), .sl ls.length (ls.flatMap eL)]
def X1 (a : Int) : List DV := [vI a]
section
variable {cr : Int} {cs : List (Int × Int)} {ns : List ND} {ls : List LD} {a : Int}
theorem xm_l : (XM cr cs ns ls).length = 4 := rfl
theorem xm0 : dI (cel (XM cr cs ns ls) 0) = cr := rfl
theorem xm1 : dN (cel (XM cr cs ns ls) 1) = cs.length := rfl
theorem xm2 : dL (cel (XM cr cs ns ls) 1) = cs.flatMap eG := rfl
theorem xm3 : dN (cel (XM cr cs ns ls) 2) = ns.length := rfl
theorem xm4 : dL (cel (XM cr cs ns ls) 2) = ns.flatMap eN := rfl
theorem xm5 : dN (cel (XM cr cs ns ls) 3) = ls.length := rfl
theorem xm6 : dL (cel (XM cr cs ns ls) 3) = ls.flatMap eL := rfl
theorem xm_t : List.map AV.d (List.take 4 (XM cr cs ns ls)) = [AV.d (vI cr), AV.d (DV.sl cs.length (cs.flatMap eG)), AV.d (DV.sl ns.length (ns.flatMap eN)), AV.d (DV.sl ls.length (ls.flatMap eL))] := rfl
theorem xm_1 : Option.map AV.d (List.drop 1 (XM cr cs ns ls))[0]? = some (AV.d (DV.sl cs.length (cs.flatMap eG))) := rfl
theorem xm_2 : Option.map AV.d (List.drop 2 (XM cr cs ns ls))[0]? = some (AV.d (DV.sl ns.length (ns.flatMap eN))) := rfl
theorem xm_3 : Option.map AV.d (List.drop 3 (XM cr cs ns ls))[0]? = some (AV.d (DV.sl ls.length (ls.flatMap eL))) := rfl
theorem x10 : dI (cel (X1 a) 0) = a := rfl
theorem x1_ : Option.map AV.d (X1 a)[0]? = some (AV.d (vI a)) := rfl
end
theorem le14 : (1 ≤ 4) = True := by simp
theorem le24 : (2 ≤ 4) = True := by simp
theorem le34 : (3 ≤ 4) = True := by simp
theorem le44 : (4 ≤ 4) = True := by simp
def segF (ns : List ND) (p : List Int) (c i : Nat) : FA := (gD (nD ns (hiI p i).toNat).2.2.2 c, false)
def segs (ns : List ND) (p : List Int) (c : Nat) : Nat → Nat → List FA
 | 0, _ => []
 | k + 1, i => segF ns p c i :: segs ns p c k (i + 1)
theorem segs_len (ns : List ND) (p : List Int) (c : Nat) : ∀ k i, (segs ns p c k i).length = k
 | 0, _ => rfl
 | k + 1, i => by unfold segs; rw [List.length_cons, segs_len ns p c k (i + 1)]
def lodF (p : List Int) (c : Nat) (x : LD) : List FA := if eqS x.2.1 ON = true ∨ eqS x.2.1 MAY = true then (if x.1 ∈ p then [(gD x.2.2 c, eqS x.2.1 MAY)] else []) else []
def crsB (ns : List ND) (a b : Nat) : Bool := if (if ((nD ns a).2.2.1 != (nD ns b).2.2.1) = true then (nD ns a).2.2.1 != 0 else false) = true then (nD ns b).2.2.1 != 0 else false
def crsF (cs : List (Int × Int)) (ns : List ND) (c a b : Nat) : List FA := if crsB ns a b = true then [(gD cs c, false)] else []
theorem eF1 (x : FA) : [x].flatMap eF = [.v (.int .i64 x.1.1), .v (.int .i64 x.1.2), .v (.bool x.2)] := rfl
theorem app1 (acc : List FA) (x : FA) : (acc ++ [x]).flatMap eF = acc.flatMap eF ++ [.v (.int .i64 x.1.1), .v (.int .i64 x.1.2), .v (.bool x.2)] := by rw [List.flatMap_append]; rfl
theorem on_may {s : ByteArray} (h : eqS s ON = true) : eqS s MAY = false := by
 rw [eqS_iff] at h; subst h; rw [eqS_beq]; rfl
section
variable {cr : Int} {cs : List (Int × Int)} {ns : List ND} {ls : List LD} {p : List Int} {c a b : Nat}
theorem lod_len (x : LD) : (lodF p c x).length ≤ 1 := by
 unfold lodF; split
 ·split <;> simp
 ·simp
def restF (cs : List (Int × Int)) (ns : List ND) (ls : List LD) (p : List Int) (c a b i : Nat) : List FA := (ls.drop i).flatMap (lodF p c) ++ crsF cs ns c a b
theorem rest_s {i : Nat} (hi : i < ls.length) : restF cs ns ls p c a b i = lodF p c (lD ls i) ++ restF cs ns ls p c a b (i + 1) := by
 unfold restF lD
 rw [dropD (0, ByteArray.empty, []) hi, List.flatMap_cons, List.append_assoc]
theorem rest_e : restF cs ns ls p c a b ls.length = crsF cs ns c a b := by
 unfold restF; rw [List.drop_length]; rfl
theorem G4 (v : VG cr cs ns ls) (hp : p.length ≤ 40) (hc : (c : Int) < cr) (ha : a < ns.length) (hb : b < ns.length) : ∀ (k i e : Nat) (acc : List FA), ls.length = i + k → acc.length ≤ 50 + i →
  res B116 (.c4 (XM cr cs ns ls) (X1 a) (X1 b) (X1 c) p.length (p.map vI) ls.length (ls.flatMap eL) (ls.length : Int) (i : Int) e acc.length (acc.flatMap eF) e) = some ((acc ++ restF cs ns ls p c a b i).length, (acc ++ restF cs ns ls p c a b i).flatMap eF)
 | 0, i, e, acc, hk, hl => by
  have h1 : ¬ ((i : Int) < (ls.length : Int)) := by omega
  have hll := v.ll
  have hcs : c < cs.length := by have := v.c1.1; omega
  have pa : (a : Int) < (ns.length : Int) := by omega
  have pb : (b : Int) < (ns.length : Int) := by omega
  have pc : (c : Int) < (cs.length : Int) := by omega
  have ft : fitsN (acc.length + 1) 24 := ⟨by omega, by omega⟩
  rw [res_eq, show i = ls.length by omega, rest_e]
  have hl : ¬ ((ls.length : Int) < (ls.length : Int)) := by omega
  simp only [eON, eMY, mxA, B116, xm_l, xm_1, xm_2, xm1, xm2, xm3, xm4, x10, x1_, le14, le24, sem_br, sem_ask, sem_triv, sem_ret, PC.holds, need_true, hl, decide_false, bff, tnn, pa, pb, pc, nr ha, nr hb, nr4 ha (show 2 ≤ 4 by decide), nr4 hb (show 2 ≤ 4 by decide), nd2 ha, nd2 hb, np2 ha, np2 hb, gF hcs, ft]
  unfold crsF
  change stepO _ (if crsB ns a b = true then _ else _) = _
  cases crsB ns a b
  ·simp only [bff, stepO_ret, List.append_nil]
  ·simp only [if_true, stepO_ret, app1, List.length_append, List.length_singleton]
 | k + 1, i, e, acc, hk, hl => by
  have hi : i < ls.length := by omega
  have h1 : (i : Int) < (ls.length : Int) := by omega
  have hll := v.ll
  have hin : inI64 ((i : Int) + 1) := by unfold inI64; omega
  have hf := (v.lf i hi).1
  have hcl : c < (lD ls i).2.2.length := by omega
  have pc : (c : Int) < ((lD ls i).2.2.length : Int) := by omega
  have ft : fitsN (acc.length + 1) 24 := ⟨by omega, by omega⟩
  have ih := G4 v hp hc ha hb k (i + 1) e acc (by omega) (by omega)
  have ih2 := G4 v hp hc ha hb k (i + 1) (e + 1) (acc ++ [(gD (lD ls i).2.2 c, eqS (lD ls i).2.1 MAY)]) (by omega) (by rw [List.length_append, List.length_singleton]; omega)
  rw [app1, List.length_append, List.length_singleton, List.append_assoc] at ih2
  rw [res_eq, rest_s hi]
  unfold lodF
  simp only [eON, eMY, mxA, B116, xm_l, x10, x1_, F157_eq p _ (show p.length ≤ 1025 by omega), lF hi, sem_br, sem_ask, sem_nxt, sbs, PC.holds, need_true, h1, hin, decide_true, if_true, tnn, pc, gF hcl, ft]
  cases ho : eqS (lD ls i).2.1 ON with
  | true =>
   rw [on_may ho] at ih2 ⊢
   by_cases hm : (lD ls i).1 ∈ p
   ·simp only [hm, decide_true, need_true, if_true, true_or, stepO_nxt]
    exact ih2
   ·simp only [hm, decide_false, need_true, Bool.false_eq_true, if_true, if_false, true_or, stepO_nxt, List.nil_append]
    exact ih
  | false =>
   cases hy : eqS (lD ls i).2.1 MAY with
   | true =>
    rw [hy] at ih2
    by_cases hm : (lD ls i).1 ∈ p
    ·simp only [hm, decide_true, need_true, if_true, or_true, bff, beq_self_eq_true, stepO_nxt]
     exact ih2
    ·simp only [hm, decide_false, need_true, Bool.false_eq_true, if_true, if_false, or_true, beq_self_eq_true, stepO_nxt, List.nil_append]
     exact ih
   | false =>
    simp only [need_true, bff, or_self, stepO_nxt, List.nil_append]
    exact ih
theorem G3 (v : VG cr cs ns ls) (hp : p.length ≤ 40) (hc : (c : Int) < cr) (ha : a < ns.length) (hb : b < ns.length) : ∀ (k i : Nat), ls.length = i + k →
  res B116 (.c3 (XM cr cs ns ls) (X1 a) (X1 b) (X1 c) p.length (p.map vI) ls.length (ls.flatMap eL) (ls.length : Int) (i : Int)) = some ((restF cs ns ls p c a b i).length, (restF cs ns ls p c a b i).flatMap eF)
 | 0, i, hk => by
  have hcs : c < cs.length := by have := v.c1.1; omega
  have pa : (a : Int) < (ns.length : Int) := by omega
  have pb : (b : Int) < (ns.length : Int) := by omega
  have pc : (c : Int) < (cs.length : Int) := by omega
  rw [res_eq, show i = ls.length by omega, rest_e]
  have hl : ¬ ((ls.length : Int) < (ls.length : Int)) := by omega
  simp only [eON, eMY, mxA, B116, xm_l, xm_1, xm_2, xm1, xm2, xm3, xm4, x10, x1_, le14, le24, sem_br, sem_ask, sem_triv, sem_ret, PC.holds, need_true, hl, decide_false, bff, tnn, pa, pb, pc, nr ha, nr hb, nr4 ha (show 2 ≤ 4 by decide), nr4 hb (show 2 ≤ 4 by decide), nd2 ha, nd2 hb, np2 ha, np2 hb, gF hcs]
  unfold crsF
  change stepO _ (if crsB ns a b = true then _ else _) = _
  cases crsB ns a b
  ·simp only [bff, stepO_ret]; rfl
  ·simp only [if_true, stepO_ret, eF1, List.length_singleton]
 | k + 1, i, hk => by
  have hi : i < ls.length := by omega
  have h1 : (i : Int) < (ls.length : Int) := by omega
  have hll := v.ll
  have hin : inI64 ((i : Int) + 1) := by unfold inI64; omega
  have hf := (v.lf i hi).1
  have hcl : c < (lD ls i).2.2.length := by omega
  have pc : (c : Int) < ((lD ls i).2.2.length : Int) := by omega
  have ih := G3 v hp hc ha hb k (i + 1) (by omega)
  have ih2 := G4 v hp hc ha hb k (i + 1) 0 [(gD (lD ls i).2.2 c, eqS (lD ls i).2.1 MAY)] (by omega) (by rw [List.length_singleton]; omega)
  rw [eF1, List.length_singleton] at ih2
  rw [res_eq, rest_s hi]
  unfold lodF
  simp only [eON, eMY, mxA, B116, xm_l, x10, x1_, F157_eq p _ (show p.length ≤ 1025 by omega), lF hi, sem_br, sem_ask, sem_nxt, sbs, PC.holds, need_true, h1, hin, decide_true, if_true, tnn, pc, gF hcl]
  cases ho : eqS (lD ls i).2.1 ON with
  | true =>
   rw [on_may ho] at ih2 ⊢
   by_cases hm : (lD ls i).1 ∈ p
   ·simp only [hm, decide_true, need_true, if_true, true_or, stepO_nxt]
    exact ih2
   ·simp only [hm, decide_false, need_true, Bool.false_eq_true, if_true, if_false, true_or, stepO_nxt, List.nil_append]
    exact ih
  | false =>
   cases hy : eqS (lD ls i).2.1 MAY with
   | true =>
    rw [hy] at ih2
    by_cases hm : (lD ls i).1 ∈ p
    ·simp only [hm, decide_true, need_true, if_true, or_true, bff, beq_self_eq_true, stepO_nxt]
     exact ih2
    ·simp only [hm, decide_false, need_true, Bool.false_eq_true, if_true, if_false, or_true, beq_self_eq_true, stepO_nxt, List.nil_append]
     exact ih
   | false =>
    simp only [need_true, bff, or_self, stepO_nxt, List.nil_append]
    exact ih
theorem G2 (v : VG cr cs ns ls) (hp : p.length ≤ 40) (hc : (c : Int) < cr) (ha : a < ns.length) (hb : b < ns.length) (hq : ∀ i, i + 1 < p.length → ∃ m : Nat, hiI p i = (m : Int) ∧ 0 < m ∧ m < ns.length) : ∀ (k i e : Nat) (acc : List FA), p.length = i + k + 1 → acc.length ≤ i →
  res B116 (.c2 (XM cr cs ns ls) (X1 a) (X1 b) (X1 c) p.length (p.map vI) ((p.length : Int) - 1) (i : Int) e acc.length (acc.flatMap eF) e) = some ((acc ++ segs ns p c k i ++ restF cs ns ls p c a b 0).length, (acc ++ segs ns p c k i ++ restF cs ns ls p c a b 0).flatMap eF)
 | 0, i, e, acc, hk, hl => by
  have h1 : ¬ ((i : Int) < (p.length : Int) - 1) := by omega
  have := G4 v hp hc ha hb ls.length 0 e acc (by omega) (by omega)
  rw [res_eq]
  unfold segs
  simp only [eON, eMY, mxA, B116, xm_l, xm_3, xm5, xm6, le34, sem_br, sem_ask, sem_nxt, PC.holds, need_true, h1, decide_false, bff, stepO_nxt, List.append_nil]
  exact this
 | k + 1, i, e, acc, hk, hl => by
  have h1 : (i : Int) < (p.length : Int) - 1 := by omega
  have hi : i < p.length := by omega
  have hi2 : i + 1 < p.length := by omega
  have p1 : (i : Int) < (p.length : Int) := by omega
  have p2 : (i : Int) + 1 < (p.length : Int) := by omega
  have p3 : (0 : Int) ≤ (i : Int) + 1 := by omega
  have tn : ((i : Int) + 1).toNat = i + 1 := by omega
  have hin : inI64 ((i : Int) + 1) := by unfold inI64; omega
  obtain ⟨m, hm, hm0, hmn⟩ := hq i hi2
  have hh : (if p.getD (i + 1) 0 > p.getD i 0 then p.getD (i + 1) 0 else p.getD i 0) = (m : Int) := hm
  have pm : (m : Int) < (ns.length : Int) := by omega
  have hf := (v.nf m hm0 hmn).1
  have hcl : c < (nD ns m).2.2.2.length := by omega
  have pc : (c : Int) < ((nD ns m).2.2.2.length : Int) := by omega
  have ft : fitsN (acc.length + 1) 24 := ⟨by omega, by omega⟩
  have ih := G2 v hp hc ha hb hq k (i + 1) (e + 1) (acc ++ [segF ns p c i]) (by omega) (by rw [List.length_append, List.length_singleton]; omega)
  rw [app1, List.length_append, List.length_singleton] at ih
  have hs : segF ns p c i = (gD (nD ns m).2.2.2 c, false) := by unfold segF; rw [hm, Int.toNat_natCast]
  rw [hs] at ih
  rw [res_eq]
  unfold segs
  rw [hs, show acc ++ (gD (nD ns m).2.2.2 c, false) :: segs ns p c k (i + 1) = acc ++ [(gD (nD ns m).2.2.2 c, false)] ++ segs ns p c k (i + 1) by simp]
  simp only [eON, eMY, mxA, B116, xm_l, xm_2, xm3, xm4, x10, x1_, le24, sem_br, sem_ask, sem_nxt, PC.holds, need_true, h1, hin, decide_true, if_true, Int.toNat_natCast, tn, Nat.mul_one, dI_cel_map, at_map hi, at_map hi2, hh, pm, nr hmn, nr4 hmn (show 3 ≤ 4 by decide), np3 hmn, nd3 hmn, nd4 hmn, Int.natCast_nonneg, List.length_map, Nat.le_of_lt hi, Nat.le_of_lt hi2, p1, p2, p3, pc, gF hcl, ft, stepO_nxt]
  exact ih
def facs (cs : List (Int × Int)) (ns : List ND) (ls : List LD) (c a b : Nat) : List FA := segs ns (pth ns a b) c ((pth ns a b).length - 1) 0 ++ restF cs ns ls (pth ns a b) c a b 0
theorem F116_eq (v : VG cr cs ns ls) (hc : (c : Int) < cr) (ha : a < ns.length) (hb : b < ns.length) : F116 (XM cr cs ns ls) (X1 a) (X1 b) (X1 c) = some ((facs cs ns ls c a b).length, (facs cs ns ls c a b).flatMap eF) := by
 have f1 := F102_eq v.up (cr := cr) (n1 := cs.length) (x1 := cs.flatMap eG) (n3 := ls.length) (x3 := ls.flatMap eL) ha hb
 obtain ⟨l0', l1'⟩ := pth_len v.up ha hb
 have hq := fun i hi => pth_hi v.up ha hb (i := i) hi
 unfold facs
 revert f1 l0' l1' hq
 generalize pth ns a b = p
 intro f1 l0' l1' hq
 have hin : inI64 ((p.length : Int) - 1) := by unfold inI64; omega
 unfold F116; rw [res_eq]
 simp only [eON, eMY, mxA, B116, xm_l, xm_t, xm0, xm1, xm2, xm3, xm4, xm5, xm6, x10, x1_, le44, f1, hin, sem_ask, sbs, sem_nxt, PC.holds, need_true, stepO_nxt]
 rw [show (0 : Int) = ((0 : Nat) : Int) from rfl, res_eq]
 by_cases hz : p.length = 1
 ·have h1 : ¬ (((0 : Nat) : Int) < (p.length : Int) - 1) := by omega
  have := G3 v l1' hc ha hb ls.length 0 (by omega)
  rw [hz]
  rw [hz] at this h1
  simp only [eON, eMY, mxA, B116, xm_l, xm_3, xm5, xm6, le34, sem_br, sem_ask, sem_nxt, PC.holds, need_true, h1, decide_false, bff, stepO_nxt]
  exact this
 ·have h1 : ((0 : Nat) : Int) < (p.length : Int) - 1 := by omega
  have hi2 : 0 + 1 < p.length := by omega
  have p2 : ((0 : Nat) : Int) + 1 < (p.length : Int) := by omega
  have p1 : ((0 : Nat) : Int) < (p.length : Int) := by omega
  have p3 : (0 : Int) ≤ ((0 : Nat) : Int) + 1 := by omega
  have tn : (((0 : Nat) : Int) + 1).toNat = 0 + 1 := by omega
  have hin : inI64 (((0 : Nat) : Int) + 1) := by unfold inI64; omega
  obtain ⟨m, hm, hm0, hmn⟩ := hq 0 hi2
  have hh : (if p.getD (0 + 1) 0 > p.getD 0 0 then p.getD (0 + 1) 0 else p.getD 0 0) = (m : Int) := hm
  have pm : (m : Int) < (ns.length : Int) := by omega
  have hf := (v.nf m hm0 hmn).1
  have hcl : c < (nD ns m).2.2.2.length := by omega
  have pc : (c : Int) < ((nD ns m).2.2.2.length : Int) := by omega
  have hs : segF ns p c 0 = (gD (nD ns m).2.2.2 c, false) := by unfold segF; rw [hm, Int.toNat_natCast]
  obtain ⟨k, hk⟩ : ∃ k, p.length - 1 = k + 1 := ⟨p.length - 2, by omega⟩
  have ih := G2 v l1' hc ha hb hq k 1 0 [segF ns p c 0] (by omega) (by rw [List.length_singleton]; omega)
  rw [eF1, List.length_singleton, hs] at ih
  rw [hk]
  unfold segs
  rw [hs]
  simp only [eON, eMY, mxA, B116, xm_l, xm_2, xm3, xm4, x10, x1_, le24, sem_br, sem_ask, sem_nxt, PC.holds, need_true, h1, hin, decide_true, if_true, Int.toNat_natCast, tn, Nat.mul_one, dI_cel_map, at_map l0', at_map hi2, hh, pm, nr hmn, nr4 hmn (show 3 ≤ 4 by decide), np3 hmn, nd3 hmn, nd4 hmn, Int.natCast_nonneg, List.length_map, Nat.le_of_lt l0', Nat.le_of_lt hi2, p1, p2, p3, pc, gF hcl, stepO_nxt]
  exact ih
end
end
section
open Go Go.RowKit
def stp (z : Int × Int) (f : FA) : Int × Int := (f.1.1 * z.1 - f.1.2 * z.2, f.1.1 * z.2 + f.1.2 * z.1)
def sqr (g : Int × Int) : Int := g.1 * g.1 + g.2 * g.2
theorem mul_bd {f z b : Int} (h1 : -2 ≤ f) (h2 : f ≤ 2) (h3 : -b ≤ z) (h4 : z ≤ b) : -(2 * b) ≤ f * z ∧ f * z ≤ 2 * b := by
 rcases (show f = -2 ∨ f = -1 ∨ f = 0 ∨ f = 1 ∨ f = 2 by omega) with rfl | rfl | rfl | rfl | rfl <;> omega
def Bd (b : Int) (z : Int × Int) : Prop := (-b ≤ z.1 ∧ z.1 ≤ b) ∧ -b ≤ z.2 ∧ z.2 ≤ b
theorem F166_eq {f : FA} {z : Int × Int} {b : Int} (hf : okG f.1) (hz : Bd b z) (hb : b ≤ 16777216) : F166 f.1.1 f.1.2 f.2 z.1 z.2 = some (stp z f) ∧ Bd (4 * b) (stp z f) := by
 obtain ⟨⟨f1, f2⟩, ⟨f3, f4⟩, _⟩ := hf
 obtain ⟨⟨z1, z2⟩, z3, z4⟩ := hz
 have m1 := mul_bd f1 f2 z1 z2
 have m2 := mul_bd f3 f4 z3 z4
 have m3 := mul_bd f1 f2 z3 z4
 have m4 := mul_bd f3 f4 z1 z2
 have i1 : inI64 (f.1.1 * z.1) := by unfold inI64; omega
 have i2 : inI64 (f.1.2 * z.2) := by unfold inI64; omega
 have i3 : inI64 (f.1.1 * z.2) := by unfold inI64; omega
 have i4 : inI64 (f.1.2 * z.1) := by unfold inI64; omega
 have i5 : inI64 (f.1.1 * z.1 - f.1.2 * z.2) := by unfold inI64; omega
 have i6 : inI64 (f.1.1 * z.2 + f.1.2 * z.1) := by unfold inI64; omega
 constructor
 ·unfold F166; rw [res_eq]
  simp only [B166, sem_ask, sem_ret, PC.holds, need_true, i1, i2, i3, i4, i5, i6, stepO_ret]; rfl
 ·refine ⟨?_, ?_⟩ <;> (simp only [stp]; omega)
theorem sq_bd {g : Int × Int} (h : okG g) : 1 ≤ sqr g ∧ sqr g ≤ 8 := by
 obtain ⟨⟨f1, f2⟩, ⟨f3, f4⟩, h0⟩ := h
 unfold sqr
 obtain ⟨a, b⟩ := g
 simp only at f1 f2 f3 f4 h0 ⊢
 rcases (show a = -2 ∨ a = -1 ∨ a = 0 ∨ a = 1 ∨ a = 2 by omega) with rfl | rfl | rfl | rfl | rfl <;>
 rcases (show b = -2 ∨ b = -1 ∨ b = 0 ∨ b = 1 ∨ b = 2 by omega) with rfl | rfl | rfl | rfl | rfl <;> first | (exfalso; exact h0 ⟨rfl, rfl⟩) | decide
theorem F118_eq {g : Int × Int} (h : okG g) : F118 g.1 g.2 = some (sqr g) := by
 obtain ⟨⟨f1, f2⟩, ⟨f3, f4⟩, h0⟩ := h
 have m1 := mul_bd f1 f2 f1 f2
 have m2 := mul_bd f3 f4 f3 f4
 have i1 : inI64 (g.1 * g.1) := by unfold inI64; omega
 have i2 : inI64 (g.2 * g.2) := by unfold inI64; omega
 have i3 : inI64 (g.1 * g.1 + g.2 * g.2) := by unfold inI64; omega
 unfold F118; rw [res_eq]
 simp only [B118, sem_ask, sem_ret, PC.holds, need_true, i1, i2, i3, stepO_ret]; rfl
def fD (l : List FA) (i : Nat) : FA := l.getD i ((0, 0), false)
section
variable {l : List FA} {i : Nat}
theorem fD_mem (hi : i < l.length) : fD l i ∈ l := by
 unfold fD
 rw [List.getD_eq_getElem?_getD, List.getElem?_eq_getElem hi]; exact List.getElem_mem hi
theorem fE (hi : i < l.length) : (l.flatMap eF).drop (i * 3) = .v (.int .i64 (fD l i).1.1) :: .v (.int .i64 (fD l i).1.2) :: .v (.bool (fD l i).2) :: (l.drop (i + 1)).flatMap eF := dropE (enc := eF) (m := 3) (fun _ => rfl) hi _
theorem f_len (l : List FA) : (l.flatMap eF).length = l.length * 3 := fm_len (enc := eF) (m := 3) (fun _ => rfl) l
theorem f0 (hi : i < l.length) : dI (cel (l.flatMap eF) (i * 3)) = (fD l i).1.1 := by rw [cel_0, fE hi]; rfl
theorem f1 (hi : i < l.length) : dI (cel (l.flatMap eF) (i * 3 + 1)) = (fD l i).1.2 := by rw [cel_add, fE hi]; rfl
theorem f2 (hi : i < l.length) : dB (cel (l.flatMap eF) (i * 3 + 2)) = (fD l i).2 := by rw [cel_add, fE hi]; rfl
theorem ft_ (hi : i < l.length) : List.map AV.d (List.take 3 (List.drop (i * 3) (l.flatMap eF))) = [AV.d (vI ((fD l i).1.1)), AV.d (vI ((fD l i).1.2)), AV.d (DV.v (Value.bool (fD l i).2))] := by rw [fE hi]; rfl
theorem fr (hi : i < l.length) : i * 3 ≤ (l.flatMap eF).length := by rw [f_len]; omega
theorem fr3 (hi : i < l.length) {k : Nat} (hk : k ≤ 3) : k ≤ (List.drop (i * 3) (l.flatMap eF)).length := by
 rw [fE hi]; simp only [List.length_cons]; omega
def fF (hi : i < l.length) := And.intro (f0 hi) (And.intro (f1 hi) (And.intro (f2 hi) (And.intro (ft_ hi) (And.intro (fr hi) (fr3 hi (Nat.le_refl 3))))))
end
def fX : List FA → Int → Int
 | [], _ => -1
 | x :: r, i => if x.2 = true then i else fX r (i + 1)
theorem fX_ge : ∀ (l : List FA) (i : Int), 0 ≤ i → decide (fX l i ≥ 0) = l.any (·.2)
 | [], i, _ => rfl
 | x :: r, i, h => by
  unfold fX
  rw [List.any_cons]
  cases x.2
  ·rw [if_neg (by decide), Bool.false_or]; exact fX_ge r (i + 1) (by omega)
  ·rw [if_pos rfl, Bool.true_or]; exact decide_eq_true h
theorem F187_loop (l : List FA) (hl : l.length ≤ 1000) : ∀ (k i : Nat), l.length = i + k → res B187 (.c1 l.length (l.flatMap eF) (l.length : Int) (i : Int)) = some (fX (l.drop i) (i : Int))
 | 0, i, hk => by
  have h1 : ¬ ((i : Int) < (l.length : Int)) := by omega
  rw [res_eq, List.drop_of_length_le (by omega)]
  simp only [B187, sem_br, sem_ret, h1, decide_false, bff, stepO_ret, fX]
 | k + 1, i, hk => by
  have hi : i < l.length := by omega
  have h1 : (i : Int) < (l.length : Int) := by omega
  have hin : inI64 ((i : Int) + 1) := by unfold inI64; omega
  have ih := F187_loop l hl k (i + 1) (by omega)
  have e5 : ∀ a b c, F165 a b c = some c := by intro a b c; unfold F165; rw [res_eq]; simp only [B165, sem_ret, stepO_ret]
  rw [res_eq, dropD ((0, 0), false) hi]
  unfold fX
  rw [show l.getD i ((0, 0), false) = fD l i from rfl]
  simp only [B187, e5, fF hi, sem_br, sem_ask, sem_nxt, sem_ret, sbs, PC.holds, need_true, tnn, h1, hin, decide_true, if_true]
  cases (fD l i).2
  ·simp only [bff, stepO_nxt]
   exact ih
  ·simp only [if_true, stepO_ret]
theorem F164_eq (l : List FA) (hl : l.length ≤ 1000) : F164 l.length (l.flatMap eF) = some (l.any (·.2)) := by
 have h : F187 l.length (l.flatMap eF) = some (fX l 0) := by
  unfold F187; rw [res_eq]
  simp only [B187, sem_nxt, stepO_nxt]
  exact F187_loop l hl l.length 0 (by omega)
 unfold F164; rw [res_eq]
 simp only [B164, h, sbs, sem_ret, stepO_ret, fX_ge l 0 (Int.le_refl 0)]
def OKF (l : List FA) : Prop := ∀ x ∈ l, okG x.1
def prd (l : List FA) (z : Int × Int) : Int × Int := l.foldl stp z
theorem F115_loop {l : List FA} (ho : OKF l) (hl : l.length ≤ 1000) : ∀ (k i b : Nat) (z : Int × Int), l.length = i + k → Bd b z → b * 4 ^ k ≤ 16777216 →
  res B115 (.c1 l.length (l.flatMap eF) (l.length : Int) (i : Int) z.1 z.2) = some ((prd (l.drop i) z).1, (prd (l.drop i) z).2, 0)
 | 0, i, b, z, hk, hz, hb => by
  have h1 : ¬ ((i : Int) < (l.length : Int)) := by omega
  rw [res_eq, List.drop_of_length_le (by omega)]
  simp only [B115, sem_br, sem_ret, h1, decide_false, bff, stepO_ret, prd, List.foldl_nil]
 | k + 1, i, b, z, hk, hz, hb => by
  have hi : i < l.length := by omega
  have h1 : (i : Int) < (l.length : Int) := by omega
  have hin : inI64 ((i : Int) + 1) := by unfold inI64; omega
  have hb1 : b ≤ b * 4 ^ (k + 1) := Nat.le_mul_of_pos_right _ (Nat.pow_pos (by decide))
  obtain ⟨e, hz2⟩ := F166_eq (b := (b : Int)) (ho _ (fD_mem hi)) hz (by omega)
  have hb2 : 4 * b * 4 ^ k ≤ 16777216 := by rw [Nat.pow_succ] at hb; rw [show 4 * b * 4 ^ k = b * (4 ^ k * 4) by rw [Nat.mul_comm 4 b, Nat.mul_assoc, Nat.mul_comm 4]]; exact hb
  have ih := F115_loop ho hl k (i + 1) (4 * b) (stp z (fD l i)) (by omega) (by exact_mod_cast hz2) hb2
  rw [res_eq, dropD ((0, 0), false) hi]
  unfold prd
  rw [List.foldl_cons, show l.getD i ((0, 0), false) = fD l i from rfl]
  simp only [B115, e, fF hi, sem_br, sem_ask, sem_nxt, sbs, PC.holds, need_true, tnn, h1, hin, decide_true, if_true, stepO_nxt]
  exact ih
def gainR (l : List FA) : Int × Int × Int := if l.any (·.2) = true then (0, 0, 32) else if l.length > 12 then (0, 0, 4) else ((prd l (1, 0)).1, (prd l (1, 0)).2, 0)
section
variable {cr : Int} {cs : List (Int × Int)} {ns : List ND} {ls : List LD} {c a b : Nat}
theorem F117_eq (n1 n2 n3 : Nat) (x1 x2 x3 : List DV) (cr a b c : Int) : F117 cr n1 x1 n2 x2 n3 x3 a b c = some ([.v (.int .i64 cr), .sl n1 x1, .sl n2 x2, .sl n3 x3], [vI a], [vI b], [vI c]) := by
 unfold F117; rw [res_eq]; simp only [B117, sem_ret, stepO_ret]
theorem getD_memG {l : List (Int × Int)} {i : Nat} (hi : i < l.length) : gD l i ∈ l := by
 unfold gD
 rw [List.getD_eq_getElem?_getD, List.getElem?_eq_getElem hi]; exact List.getElem_mem hi
theorem segs_ok (v : VG cr cs ns ls) (hc : (c : Int) < cr) {p : List Int} (hq : ∀ i, i + 1 < p.length → ∃ m : Nat, hiI p i = (m : Int) ∧ 0 < m ∧ m < ns.length) : ∀ k i, i + k + 1 ≤ p.length → OKF (segs ns p c k i)
 | 0, i, _ => by intro x hx; simp [segs] at hx
 | k + 1, i, h => by
  intro x hx
  unfold segs at hx
  rcases List.mem_cons.1 hx with rfl | hx
  ·obtain ⟨m, h1, h2, h3⟩ := hq i (by omega)
   have hf := v.nf m h2 h3
   unfold segF
   rw [h1, Int.toNat_natCast]
   exact hf.2 _ (getD_memG (by omega))
  ·exact segs_ok v hc hq k (i + 1) (by omega) x hx
theorem lod_ok (v : VG cr cs ns ls) (hc : (c : Int) < cr) {p : List Int} {i : Nat} (hi : i < ls.length) : OKF (lodF p c (lD ls i)) := by
 intro x hx
 unfold lodF at hx
 have hf := v.lf i hi
 split at hx
 ·split at hx
  ·rw [List.mem_singleton] at hx
   rw [hx]
   exact hf.2 _ (getD_memG (by omega))
  ·simp at hx
 ·simp at hx
theorem rest_ok (v : VG cr cs ns ls) (hc : (c : Int) < cr) {p : List Int} : ∀ k i, ls.length = i + k → OKF (restF cs ns ls p c a b i)
 | 0, i, h => by
  rw [show i = ls.length by omega, rest_e]
  intro x hx
  unfold crsF at hx
  have hf := v.c1
  split at hx
  ·rw [List.mem_singleton] at hx
   rw [hx]
   exact hf.2 _ (getD_memG (by omega))
  ·simp at hx
 | k + 1, i, h => by
  rw [rest_s (by omega)]
  intro x hx
  rcases List.mem_append.1 hx with hx | hx
  ·exact lod_ok v hc (by omega) x hx
  ·exact rest_ok v hc k (i + 1) (by omega) x hx
theorem rest_len {p : List Int} : ∀ k i, ls.length = i + k → (restF cs ns ls p c a b i).length ≤ k + 1
 | 0, i, h => by
  rw [show i = ls.length by omega, rest_e]
  unfold crsF; split <;> simp
 | k + 1, i, h => by
  have : (restF cs ns ls p c a b (i + 1)).length ≤ k + 1 := rest_len k (i + 1) (by omega)
  have h2 := lod_len (p := p) (c := c) (lD ls i)
  rw [rest_s (by omega), List.length_append]; omega
theorem facs_ok (v : VG cr cs ns ls) (hc : (c : Int) < cr) (ha : a < ns.length) (hb : b < ns.length) : OKF (facs cs ns ls c a b) ∧ (facs cs ns ls c a b).length ≤ 100 := by
 have hq := fun i hi => pth_hi v.up ha hb (i := i) hi
 have hl := pth_len v.up ha hb
 have hll := v.ll
 constructor
 ·intro x hx
  unfold facs at hx
  rcases List.mem_append.1 hx with hx | hx
  ·exact segs_ok v hc hq _ 0 (by omega) x hx
  ·exact rest_ok v hc ls.length 0 (by omega) x hx
 ·unfold facs
  have := rest_len (p := pth ns a b) (cs := cs) (ns := ns) (ls := ls) (c := c) (a := a) (b := b) ls.length 0 (by omega)
  rw [List.length_append, segs_len]; omega
theorem F115_eq (v : VG cr cs ns ls) (hc : (c : Int) < cr) (ha : a < ns.length) (hb : b < ns.length) : F115 cr cs.length (cs.flatMap eG) ns.length (ns.flatMap eN) ls.length (ls.flatMap eL) (a : Int) (b : Int) (c : Int) = some (gainR (facs cs ns ls c a b)) := by
 have e := F116_eq v hc ha hb
 obtain ⟨ho, hl⟩ := facs_ok v hc ha hb
 have e : F116 [.v (.int .i64 cr), .sl cs.length (cs.flatMap eG), .sl ns.length (ns.flatMap eN), .sl ls.length (ls.flatMap eL)] [vI a] [vI b] [vI c] = _ := e
 unfold F115; rw [res_eq]
 revert e ho hl
 generalize facs cs ns ls c a b = l
 intro ho hl e
 simp only [B115, F117_eq, e, F164_eq l (by omega), F109_eq, F107_2, sem_br, sem_nxt, sem_ret, sbs]
 unfold gainR
 cases l.any (·.2) with
 | true => simp only [whenT, first_pos (show (32 : Int) ≠ 0 by decide), show ((32 : Int) != 0) = true from rfl, if_true, stepO_ret]
 | false =>
  simp only [whenF, first_z, firstI_1, bff]
  by_cases h : l.length > 12
  ·have h2 : (l.length : Int) > 12 := by omega
   simp only [h, h2, decide_true, whenT, show ((4 : Int) != 0) = true from rfl, if_true, stepO_ret]
  ·have h2 : ¬ (l.length : Int) > 12 := by omega
   simp only [h, h2, decide_false, whenF, bne_self_eq_false, bff, stepO_nxt]
   have := F115_loop ho (by omega) l.length 0 1 (1, 0) (by omega) ⟨⟨by decide, by decide⟩, by decide, by decide⟩ (by
    have : 4 ^ l.length ≤ 4 ^ 12 := Nat.pow_le_pow_right (by decide) (by omega)
    rw [Nat.one_mul]; exact Nat.le_trans this (by decide))
   exact this
end
end
section
open Go Go.RowKit
theorem mul_sq {h s : Int} (h0 : 0 ≤ h) (h1 : 1 ≤ s) (h2 : s ≤ 8) : 0 ≤ h * s ∧ h * s ≤ 8 * h := by
 rcases (show s = 1 ∨ s = 2 ∨ s = 3 ∨ s = 4 ∨ s = 5 ∨ s = 6 ∨ s = 7 ∨ s = 8 by omega) with rfl | rfl | rfl | rfl | rfl | rfl | rfl | rfl <;> omega
def lowF (l : List FA) (z : Int) : Int := l.foldl (fun z f => if f.2 = true then z else z * sqr f.1) z
def higF (l : List FA) (z : Int) : Int := l.foldl (fun z f => z * sqr f.1) z
def encR (l : List FA) : Int × Int × Int := if l.length > 12 then (0, 0, 4) else (lowF l 1, higF l 1, 0)
theorem F26_loop {l : List FA} (ho : OKF l) (hl : l.length ≤ 1000) : ∀ (k i b : Nat) (x y : Int), l.length = i + k → 0 ≤ x → x ≤ b → 0 ≤ y → y ≤ b → b * 8 ^ k ≤ 68719476736 →
  res B26 (.c1 l.length (l.flatMap eF) (l.length : Int) (i : Int) x y) = some (lowF (l.drop i) x, higF (l.drop i) y, 0)
 | 0, i, b, x, y, hk, _, _, _, _, _ => by
  have h1 : ¬ ((i : Int) < (l.length : Int)) := by omega
  rw [res_eq, List.drop_of_length_le (by omega)]
  simp only [B26, sem_br, sem_ret, h1, decide_false, bff, if_true, stepO_ret, lowF, higF, List.foldl_nil, beq_self_eq_true, Bool.true_and, Bool.and_true]
  by_cases h : y = x
  ·rw [if_pos (by rw [h]; simp), h]; rfl
  ·rw [if_neg (by simp [h])]; rfl
 | k + 1, i, b, x, y, hk, hx, hxb, hy, hyb, hb => by
  have hi : i < l.length := by omega
  have h1 : (i : Int) < (l.length : Int) := by omega
  have hin : inI64 ((i : Int) + 1) := by unfold inI64; omega
  have hb1 : b ≤ b * 8 ^ (k + 1) := Nat.le_mul_of_pos_right _ (Nat.pow_pos (by decide))
  have hs := sq_bd (ho _ (fD_mem hi))
  have m1 := mul_sq hx hs.1 hs.2
  have m2 := mul_sq hy hs.1 hs.2
  have i1 : inI64 (x * sqr (fD l i).1) := by unfold inI64; omega
  have i2 : inI64 (y * sqr (fD l i).1) := by unfold inI64; omega
  have hb2 : 8 * b * 8 ^ k ≤ 68719476736 := by rw [Nat.pow_succ] at hb; rw [show 8 * b * 8 ^ k = b * (8 ^ k * 8) by rw [Nat.mul_comm 8 b, Nat.mul_assoc, Nat.mul_comm 8]]; exact hb
  have ih1 := F26_loop ho hl k (i + 1) (8 * b) (x * sqr (fD l i).1) (y * sqr (fD l i).1) (by omega) m1.1 (by omega) m2.1 (by omega) hb2
  have ih2 := F26_loop ho hl k (i + 1) (8 * b) x (y * sqr (fD l i).1) (by omega) hx (by omega) m2.1 (by omega) hb2
  rw [res_eq, dropD ((0, 0), false) hi]
  unfold lowF higF
  rw [List.foldl_cons, List.foldl_cons, show l.getD i ((0, 0), false) = fD l i from rfl]
  simp only [B26, F118_eq (ho _ (fD_mem hi)), fF hi, sem_br, sem_ask, sem_nxt, sbs, PC.holds, need_true, tnn, h1, hin, i1, i2, decide_true, if_true]
  cases (fD l i).2
  ·simp only [Bool.not_false, if_true, bff, stepO_nxt]
   exact ih1
  ·simp only [Bool.not_true, bff, if_true, stepO_nxt]
   exact ih2
theorem F114_eq {cr : Int} {n1 n2 n3 : Nat} {x1 x2 x3 : List DV} (x : Int) : F114 cr n1 x1 n2 x2 n3 x3 x = some (whenI (decide (x < 0 ∨ x ≥ cr)) 10) := by
 unfold F114; rw [res_eq]
 by_cases h : x < 0
 ·simp only [B114, F109_eq, sem_br, sem_ret, sbs, h, decide_true, true_or, if_true, stepO_ret]
 ·simp only [B114, F109_eq, sem_br, sem_ask, sem_ret, sbs, PC.holds, need_true, h, decide_false, false_or, beq_self_eq_true, bff, stepO_ret]
section
variable {cr : Int} {cs : List (Int × Int)} {ns : List ND} {ls : List LD}
def wayE (cr : Int) (cs : List (Int × Int)) (ns : List ND) (ls : List LD) (x y z : Int) : Int := firstI [askE cr cs ns ls x y, whenI (decide (z < 0 ∨ z ≥ cr)) 10]
theorem way_0 {x y z : Int} (h : wayE cr cs ns ls x y z = 0) : VG cr cs ns ls ∧ ∃ a b c : Nat, x = (a : Int) ∧ y = (b : Int) ∧ z = (c : Int) ∧ a < ns.length ∧ b < ns.length ∧ (c : Int) < cr := by
 have h1 := firstI_0 h (askE cr cs ns ls x y) (by simp)
 have h2 := firstI_0 h (whenI (decide (z < 0 ∨ z ≥ cr)) 10) (by simp)
 obtain ⟨m, ⟨x1, x2⟩, y1, y2⟩ := ask_0 h1
 rw [whenI_z (by decide)] at h2
 have h3 := of_decide_eq_false h2
 exact ⟨vg_of m, x.toNat, y.toNat, z.toNat, by omega, by omega, by omega, by omega, by omega, by omega⟩
def gnR (cr : Int) (cs : List (Int × Int)) (ns : List ND) (ls : List LD) (x y z : Int) : Int × Int × Int := if wayE cr cs ns ls x y z = 0 then gainR (facs cs ns ls z.toNat x.toNat y.toNat) else (0, 0, wayE cr cs ns ls x y z)
def enR (cr : Int) (cs : List (Int × Int)) (ns : List ND) (ls : List LD) (x y z : Int) : Int × Int × Int := if wayE cr cs ns ls x y z = 0 then encR (facs cs ns ls z.toNat x.toNat y.toNat) else (0, 0, wayE cr cs ns ls x y z)
theorem F25_eq (h : SM cs ns ls) (x y z : Int) : F25 cr cs.length (cs.flatMap eG) ns.length (ns.flatMap eN) ls.length (ls.flatMap eL) x y z = some (gnR cr cs ns ls x y z) := by
 have hE : firstI [askE cr cs ns ls x y, whenI (decide (z < 0 ∨ z ≥ cr)) 10] = wayE cr cs ns ls x y z := rfl
 unfold F25 gnR; rw [res_eq]
 by_cases h0 : wayE cr cs ns ls x y z = 0
 ·obtain ⟨v, a, b, c, rfl, rfl, rfl, ha, hb, hc⟩ := way_0 h0
  simp only [B25, F101_eq h, F114_eq, F107_2, hE, h0, F115_eq v hc ha hb, sem_br, sem_ret, sbs, bne_self_eq_false, bff, if_true, Int.toNat_natCast, stepO_ret]
 ·simp only [B25, F101_eq h, F114_eq, F107_2, hE, sem_br, sem_ret, sbs, bne_iff_ne.2 h0, if_neg h0, if_true, stepO_ret]
theorem F26_eq (h : SM cs ns ls) (x y z : Int) : F26 cr cs.length (cs.flatMap eG) ns.length (ns.flatMap eN) ls.length (ls.flatMap eL) x y z = some (enR cr cs ns ls x y z) := by
 have hE : firstI [askE cr cs ns ls x y, whenI (decide (z < 0 ∨ z ≥ cr)) 10] = wayE cr cs ns ls x y z := rfl
 unfold F26 enR; rw [res_eq]
 by_cases h0 : wayE cr cs ns ls x y z = 0
 ·obtain ⟨v, a, b, c, rfl, rfl, rfl, ha, hb, hc⟩ := way_0 h0
  have e := F116_eq v hc ha hb
  have e : F116 [.v (.int .i64 cr), .sl cs.length (cs.flatMap eG), .sl ns.length (ns.flatMap eN), .sl ls.length (ls.flatMap eL)] [vI a] [vI b] [vI c] = _ := e
  obtain ⟨ho, hl⟩ := facs_ok v hc ha hb
  simp only [B26, F101_eq h, F114_eq, F107_2, hE, h0, F117_eq, e, sem_br, sem_nxt, sem_ret, sbs, bne_self_eq_false, bff, if_true, Int.toNat_natCast]
  revert ho hl
  generalize facs cs ns ls c a b = l
  intro ho hl
  unfold encR
  by_cases hq : l.length > 12
  ·have h2 : (l.length : Int) > 12 := by omega
   simp only [hq, h2, decide_true, if_true, stepO_ret]
  ·have h2 : ¬ (l.length : Int) > 12 := by omega
   simp only [hq, h2, decide_false, bff, stepO_nxt]
   have := F26_loop ho (by omega) l.length 0 1 1 1 (by omega) (by decide) (by decide) (by decide) (by decide) (by
    have : 8 ^ l.length ≤ 8 ^ 12 := Nat.pow_le_pow_right (by decide) (by omega)
    rw [Nat.one_mul]; exact Nat.le_trans this (by decide))
   exact this
 ·simp only [B26, F101_eq h, F114_eq, F107_2, hE, sem_br, sem_ret, sbs, bne_iff_ne.2 h0, if_neg h0, if_true, stepO_ret]
theorem F27_eq (h : SM cs ns ls) (x y z : Int) : F27 cr cs.length (cs.flatMap eG) ns.length (ns.flatMap eN) ls.length (ls.flatMap eL) x y z = some (wayE cr cs ns ls x y z) := by
 unfold F27 wayE askE; rw [res_eq]
 by_cases h0 : mainsE cr cs ns ls = 0
 ·simp only [B27, F19_eq h, F21_eq, F78_eq, F20_3, h0, sem_br, sem_ret, sbs, bne_self_eq_false, bff, stepO_ret, first_z, firstI_1]
  change some (firstI [whenI (badE ns.length x) 10, whenI (badE ns.length y) 10, _]) = _
  cases badE ns.length x <;> cases badE ns.length y <;> rfl
 ·simp only [B27, F19_eq h, sem_br, sem_ret, sbs, bne_iff_ne.2 h0, if_true, stepO_ret, first_pos h0]
end
end
section
open Go Go.RowKit
def sOf (p : List Int) (c : Nat) (x : LD) : List (Int × Int) := if eqS x.2.1 ON = true ∧ x.1 ∈ p then [gD x.2.2 c] else []
def mOf (p : List Int) (c : Nat) (x : LD) : List (Int × Int) := if eqS x.2.1 MAY = true ∧ x.1 ∈ p then [gD x.2.2 c] else []
def crG (cs : List (Int × Int)) (ns : List ND) (c a b : Nat) : List (Int × Int) := if crsB ns a b = true then [gD cs c] else []
def rS (cs : List (Int × Int)) (ns : List ND) (ls : List LD) (p : List Int) (c a b i : Nat) : List (Int × Int) := (ls.drop i).flatMap (sOf p c) ++ crG cs ns c a b
def rM (ls : List LD) (p : List Int) (c i : Nat) : List (Int × Int) := (ls.drop i).flatMap (mOf p c)
theorem appG (acc : List (Int × Int)) (x : Int × Int) : (acc ++ [x]).flatMap eG = acc.flatMap eG ++ [.v (.int .i64 x.1), .v (.int .i64 x.2)] := by rw [List.flatMap_append]; rfl
theorem eG1 (x : Int × Int) : [x].flatMap eG = [.v (.int .i64 x.1), .v (.int .i64 x.2)] := rfl
theorem eG0 : ([] : List (Int × Int)).flatMap eG = [] := rfl
section
variable {cr : Int} {cs : List (Int × Int)} {ns : List ND} {ls : List LD} {p : List Int} {c a b : Nat}
theorem rS_s {i : Nat} (hi : i < ls.length) : rS cs ns ls p c a b i = sOf p c (lD ls i) ++ rS cs ns ls p c a b (i + 1) := by
 unfold rS lD
 rw [dropD (0, ByteArray.empty, []) hi, List.flatMap_cons, List.append_assoc]
theorem rS_e : rS cs ns ls p c a b ls.length = crG cs ns c a b := by
 unfold rS; rw [List.drop_length]; rfl
theorem rM_s {i : Nat} (hi : i < ls.length) : rM ls p c i = mOf p c (lD ls i) ++ rM ls p c (i + 1) := by
 unfold rM lD
 rw [dropD (0, ByteArray.empty, []) hi, List.flatMap_cons]
theorem rM_e : rM ls p c ls.length = [] := by
 unfold rM; rw [List.drop_length]; rfl
theorem Rc23 (v : VG cr cs ns ls) (hp : p.length ≤ 40) (hc : (c : Int) < cr) (ha : a < ns.length) (hb : b < ns.length) : ∀ (k i : Nat) (e : Nat) (su : List (Int × Int)) (f : Nat) (ma : List (Int × Int)), ls.length = i + k → su.length ≤ 50 + i → ma.length ≤ i →
  res B119 (.c23 (a : Int) (b : Int) (c : Int) p.length (p.map vI) e su.length (su.flatMap eG) f ma.length (ma.flatMap eG) (i : Int) cr cs.length (cs.flatMap eG) ns.length (ns.flatMap eN) ls.length (ls.flatMap eL) f e) = some ((su ++ rS cs ns ls p c a b i).length, (su ++ rS cs ns ls p c a b i).flatMap eG, (ma ++ rM ls p c i).length, (ma ++ rM ls p c i).flatMap eG)
 | 0, i, e, su, f, ma, hk, hs, ht => by
  have hcs : c < cs.length := by have := v.c1.1; omega
  have hll := v.ll
  have pa : (a : Int) < (ns.length : Int) := by omega
  have pb : (b : Int) < (ns.length : Int) := by omega
  have pc : (c : Int) < (cs.length : Int) := by omega
  have fs : True := trivial
  have fs : fitsN (su.length + 1) 16 := ⟨by omega, by omega⟩
  have hl : ¬ ((ls.length : Int) < (ls.length : Int)) := by omega
  rw [res_eq, show i = ls.length by omega, rS_e, rM_e]
  simp only [eON, eMY, mxB, B119, sem_br, sem_ask, sem_triv, sem_nxt, PC.holds, need_true, hl, decide_false, bff, tnn, pa, pb, pc, nr ha, nr hb, nr4 ha (show 2 ≤ 4 by decide), nr4 hb (show 2 ≤ 4 by decide), nd2 ha, nd2 hb, np2 ha, np2 hb, gF hcs, fs]
  unfold crG
  change stepO _ (if crsB ns a b = true then _ else _) = _
  cases crsB ns a b
  ·simp only [bff, stepO_nxt]
   rw [res_eq]
   simp only [eON, eMY, mxB, B119, sem_ret, stepO_ret, List.append_nil, List.length_nil, eG0]
  ·simp only [if_true, stepO_nxt]
   rw [res_eq]
   simp only [eON, eMY, mxB, B119, sem_ret, stepO_ret, List.append_nil, List.length_nil, eG0, appG, eG1, List.length_append, List.length_singleton]
 | k + 1, i, e, su, f, ma, hk, hs, ht => by
  have hi : i < ls.length := by omega
  have h1 : (i : Int) < (ls.length : Int) := by omega
  have hll := v.ll
  have hin : inI64 ((i : Int) + 1) := by unfold inI64; omega
  have hf := (v.lf i hi).1
  have hcl : c < (lD ls i).2.2.length := by omega
  have pc : (c : Int) < ((lD ls i).2.2.length : Int) := by omega
  have fs : True := trivial
  have fm : True := trivial
  have fs : fitsN (su.length + 1) 16 := ⟨by omega, by omega⟩
  have fm : fitsN (ma.length + 1) 16 := ⟨by omega, by omega⟩
  rw [rS_s hi, rM_s hi]
  have ih := Rc23 v hp hc ha hb k (i + 1) e (su) f (ma) (by omega) (by first | omega | (simp; omega) | simp) (by first | omega | (simp; omega) | simp)
  by_cases hm : (lD ls i).1 ∈ p
  ·cases ho : eqS (lD ls i).2.1 ON with
   | true =>
    have hy := on_may ho
    have e1 : sOf p c (lD ls i) = [gD (lD ls i).2.2 c] := by unfold sOf; rw [if_pos ⟨ho, hm⟩]
    have e2 : mOf p c (lD ls i) = [] := by unfold mOf; rw [if_neg (by rw [hy]; simp)]
    have ih2 := Rc23 v hp hc ha hb k (i + 1) (e + 1) (su ++ [(gD (lD ls i).2.2 c)]) f (ma) (by omega) (by first | omega | (simp; omega) | simp) (by first | omega | (simp; omega) | simp)
    rw [appG, List.length_append, List.length_singleton, List.append_assoc] at ih2
    rw [e1, e2, List.nil_append]
    iterate 3 (rw [res_eq]; simp only [eON, eMY, mxB, B119, F66_eq p _ (show p.length ≤ 1025 by omega), lF hi, sem_br, sem_ask, sem_triv, sem_nxt, sem_ret, sbs, PC.holds, need_true, h1, hin, decide_true, if_true, tnn, pc, gF hcl, fs, fm, hm, ho, hy, bff, decide_false, stepO_nxt])
    exact ih2
   | false =>
    have e1 : sOf p c (lD ls i) = [] := by unfold sOf; rw [if_neg (by rw [ho]; simp)]
    cases hy : eqS (lD ls i).2.1 MAY with
    | true =>
     have e2 : mOf p c (lD ls i) = [gD (lD ls i).2.2 c] := by unfold mOf; rw [if_pos ⟨hy, hm⟩]
     have ih2 := Rc23 v hp hc ha hb k (i + 1) e (su) (f + 1) (ma ++ [(gD (lD ls i).2.2 c)]) (by omega) (by first | omega | (simp; omega) | simp) (by first | omega | (simp; omega) | simp)
     rw [appG, List.length_append, List.length_singleton, List.append_assoc] at ih2
     rw [e1, e2, List.nil_append]
     iterate 3 (rw [res_eq]; simp only [eON, eMY, mxB, B119, F66_eq p _ (show p.length ≤ 1025 by omega), lF hi, sem_br, sem_ask, sem_triv, sem_nxt, sem_ret, sbs, PC.holds, need_true, h1, hin, decide_true, if_true, tnn, pc, gF hcl, fs, fm, hm, ho, hy, bff, decide_false, stepO_nxt])
     exact ih2
    | false =>
     have e2 : mOf p c (lD ls i) = [] := by unfold mOf; rw [if_neg (by rw [hy]; simp)]
     rw [e1, e2, List.nil_append, List.nil_append]
     iterate 3 (rw [res_eq]; simp only [eON, eMY, mxB, B119, F66_eq p _ (show p.length ≤ 1025 by omega), lF hi, sem_br, sem_ask, sem_triv, sem_nxt, sem_ret, sbs, PC.holds, need_true, h1, hin, decide_true, if_true, tnn, pc, gF hcl, fs, fm, hm, ho, hy, bff, decide_false, stepO_nxt])
     exact ih
  ·have e1 : sOf p c (lD ls i) = [] := by unfold sOf; rw [if_neg (by simp [hm])]
   have e2 : mOf p c (lD ls i) = [] := by unfold mOf; rw [if_neg (by simp [hm])]
   have ho : True := trivial
   have hy : True := trivial
   rw [e1, e2, List.nil_append, List.nil_append]
   rw [res_eq]; simp only [eON, eMY, mxB, B119, F66_eq p _ (show p.length ≤ 1025 by omega), lF hi, sem_br, sem_ask, sem_triv, sem_nxt, sem_ret, sbs, PC.holds, need_true, h1, hin, decide_true, if_true, tnn, pc, gF hcl, fs, fm, hm, ho, hy, bff, decide_false, stepO_nxt]
   exact ih
theorem Rc14 (v : VG cr cs ns ls) (hp : p.length ≤ 40) (hc : (c : Int) < cr) (ha : a < ns.length) (hb : b < ns.length) : ∀ (k i : Nat) (e : Nat) (su : List (Int × Int)) (f : Nat) (ma : List (Int × Int)), ls.length = i + k → su.length ≤ 50 + i → ma.length ≤ i →
  res B119 (.c14 (a : Int) (b : Int) (c : Int) p.length (p.map vI) e su.length (su.flatMap eG) f ma.length (ma.flatMap eG) (i : Int) cr cs.length (cs.flatMap eG) ns.length (ns.flatMap eN) ls.length (ls.flatMap eL) e f) = some ((su ++ rS cs ns ls p c a b i).length, (su ++ rS cs ns ls p c a b i).flatMap eG, (ma ++ rM ls p c i).length, (ma ++ rM ls p c i).flatMap eG)
 | 0, i, e, su, f, ma, hk, hs, ht => by
  have hcs : c < cs.length := by have := v.c1.1; omega
  have hll := v.ll
  have pa : (a : Int) < (ns.length : Int) := by omega
  have pb : (b : Int) < (ns.length : Int) := by omega
  have pc : (c : Int) < (cs.length : Int) := by omega
  have fs : True := trivial
  have fs : fitsN (su.length + 1) 16 := ⟨by omega, by omega⟩
  have hl : ¬ ((ls.length : Int) < (ls.length : Int)) := by omega
  rw [res_eq, show i = ls.length by omega, rS_e, rM_e]
  simp only [eON, eMY, mxB, B119, sem_br, sem_ask, sem_triv, sem_nxt, PC.holds, need_true, hl, decide_false, bff, tnn, pa, pb, pc, nr ha, nr hb, nr4 ha (show 2 ≤ 4 by decide), nr4 hb (show 2 ≤ 4 by decide), nd2 ha, nd2 hb, np2 ha, np2 hb, gF hcs, fs]
  unfold crG
  change stepO _ (if crsB ns a b = true then _ else _) = _
  cases crsB ns a b
  ·simp only [bff, stepO_nxt]
   rw [res_eq]
   simp only [eON, eMY, mxB, B119, sem_ret, stepO_ret, List.append_nil, List.length_nil, eG0]
  ·simp only [if_true, stepO_nxt]
   rw [res_eq]
   simp only [eON, eMY, mxB, B119, sem_ret, stepO_ret, List.append_nil, List.length_nil, eG0, appG, eG1, List.length_append, List.length_singleton]
 | k + 1, i, e, su, f, ma, hk, hs, ht => by
  have hi : i < ls.length := by omega
  have h1 : (i : Int) < (ls.length : Int) := by omega
  have hll := v.ll
  have hin : inI64 ((i : Int) + 1) := by unfold inI64; omega
  have hf := (v.lf i hi).1
  have hcl : c < (lD ls i).2.2.length := by omega
  have pc : (c : Int) < ((lD ls i).2.2.length : Int) := by omega
  have fs : True := trivial
  have fm : True := trivial
  have fs : fitsN (su.length + 1) 16 := ⟨by omega, by omega⟩
  have fm : fitsN (ma.length + 1) 16 := ⟨by omega, by omega⟩
  rw [rS_s hi, rM_s hi]
  have ih := Rc14 v hp hc ha hb k (i + 1) e (su) f (ma) (by omega) (by first | omega | (simp; omega) | simp) (by first | omega | (simp; omega) | simp)
  by_cases hm : (lD ls i).1 ∈ p
  ·cases ho : eqS (lD ls i).2.1 ON with
   | true =>
    have hy := on_may ho
    have e1 : sOf p c (lD ls i) = [gD (lD ls i).2.2 c] := by unfold sOf; rw [if_pos ⟨ho, hm⟩]
    have e2 : mOf p c (lD ls i) = [] := by unfold mOf; rw [if_neg (by rw [hy]; simp)]
    have ih2 := Rc14 v hp hc ha hb k (i + 1) (e + 1) (su ++ [(gD (lD ls i).2.2 c)]) f (ma) (by omega) (by first | omega | (simp; omega) | simp) (by first | omega | (simp; omega) | simp)
    rw [appG, List.length_append, List.length_singleton, List.append_assoc] at ih2
    rw [e1, e2, List.nil_append]
    iterate 3 (rw [res_eq]; simp only [eON, eMY, mxB, B119, F66_eq p _ (show p.length ≤ 1025 by omega), lF hi, sem_br, sem_ask, sem_triv, sem_nxt, sem_ret, sbs, PC.holds, need_true, h1, hin, decide_true, if_true, tnn, pc, gF hcl, fs, fm, hm, ho, hy, bff, decide_false, stepO_nxt])
    exact ih2
   | false =>
    have e1 : sOf p c (lD ls i) = [] := by unfold sOf; rw [if_neg (by rw [ho]; simp)]
    cases hy : eqS (lD ls i).2.1 MAY with
    | true =>
     have e2 : mOf p c (lD ls i) = [gD (lD ls i).2.2 c] := by unfold mOf; rw [if_pos ⟨hy, hm⟩]
     have ih2 := Rc14 v hp hc ha hb k (i + 1) e (su) (f + 1) (ma ++ [(gD (lD ls i).2.2 c)]) (by omega) (by first | omega | (simp; omega) | simp) (by first | omega | (simp; omega) | simp)
     rw [appG, List.length_append, List.length_singleton, List.append_assoc] at ih2
     rw [e1, e2, List.nil_append]
     iterate 3 (rw [res_eq]; simp only [eON, eMY, mxB, B119, F66_eq p _ (show p.length ≤ 1025 by omega), lF hi, sem_br, sem_ask, sem_triv, sem_nxt, sem_ret, sbs, PC.holds, need_true, h1, hin, decide_true, if_true, tnn, pc, gF hcl, fs, fm, hm, ho, hy, bff, decide_false, stepO_nxt])
     exact ih2
    | false =>
     have e2 : mOf p c (lD ls i) = [] := by unfold mOf; rw [if_neg (by rw [hy]; simp)]
     rw [e1, e2, List.nil_append, List.nil_append]
     iterate 3 (rw [res_eq]; simp only [eON, eMY, mxB, B119, F66_eq p _ (show p.length ≤ 1025 by omega), lF hi, sem_br, sem_ask, sem_triv, sem_nxt, sem_ret, sbs, PC.holds, need_true, h1, hin, decide_true, if_true, tnn, pc, gF hcl, fs, fm, hm, ho, hy, bff, decide_false, stepO_nxt])
     exact ih
  ·have e1 : sOf p c (lD ls i) = [] := by unfold sOf; rw [if_neg (by simp [hm])]
   have e2 : mOf p c (lD ls i) = [] := by unfold mOf; rw [if_neg (by simp [hm])]
   have ho : True := trivial
   have hy : True := trivial
   rw [e1, e2, List.nil_append, List.nil_append]
   rw [res_eq]; simp only [eON, eMY, mxB, B119, F66_eq p _ (show p.length ≤ 1025 by omega), lF hi, sem_br, sem_ask, sem_triv, sem_nxt, sem_ret, sbs, PC.holds, need_true, h1, hin, decide_true, if_true, tnn, pc, gF hcl, fs, fm, hm, ho, hy, bff, decide_false, stepO_nxt]
   exact ih
theorem Rc15 (v : VG cr cs ns ls) (hp : p.length ≤ 40) (hc : (c : Int) < cr) (ha : a < ns.length) (hb : b < ns.length) : ∀ (k i : Nat) (f : Nat) (ma : List (Int × Int)), ls.length = i + k → ma.length ≤ i →
  res B119 (.c15 (a : Int) (b : Int) (c : Int) p.length (p.map vI) f ma.length (ma.flatMap eG) (i : Int) cr cs.length (cs.flatMap eG) ns.length (ns.flatMap eN) ls.length (ls.flatMap eL) f) = some ((rS cs ns ls p c a b i).length, (rS cs ns ls p c a b i).flatMap eG, (ma ++ rM ls p c i).length, (ma ++ rM ls p c i).flatMap eG)
 | 0, i, f, ma, hk, ht => by
  have hcs : c < cs.length := by have := v.c1.1; omega
  have hll := v.ll
  have pa : (a : Int) < (ns.length : Int) := by omega
  have pb : (b : Int) < (ns.length : Int) := by omega
  have pc : (c : Int) < (cs.length : Int) := by omega
  have fs : True := trivial
  have hl : ¬ ((ls.length : Int) < (ls.length : Int)) := by omega
  rw [res_eq, show i = ls.length by omega, rS_e, rM_e]
  simp only [eON, eMY, mxB, B119, sem_br, sem_ask, sem_triv, sem_nxt, PC.holds, need_true, hl, decide_false, bff, tnn, pa, pb, pc, nr ha, nr hb, nr4 ha (show 2 ≤ 4 by decide), nr4 hb (show 2 ≤ 4 by decide), nd2 ha, nd2 hb, np2 ha, np2 hb, gF hcs, fs]
  unfold crG
  change stepO _ (if crsB ns a b = true then _ else _) = _
  cases crsB ns a b
  ·simp only [bff, stepO_nxt]
   rw [res_eq]
   simp only [eON, eMY, mxB, B119, sem_ret, stepO_ret, List.append_nil, List.length_nil, eG0]
  ·simp only [if_true, stepO_nxt]
   rw [res_eq]
   simp only [eON, eMY, mxB, B119, sem_ret, stepO_ret, List.append_nil, List.length_nil, eG0, appG, eG1, List.length_append, List.length_singleton]
 | k + 1, i, f, ma, hk, ht => by
  have hi : i < ls.length := by omega
  have h1 : (i : Int) < (ls.length : Int) := by omega
  have hll := v.ll
  have hin : inI64 ((i : Int) + 1) := by unfold inI64; omega
  have hf := (v.lf i hi).1
  have hcl : c < (lD ls i).2.2.length := by omega
  have pc : (c : Int) < ((lD ls i).2.2.length : Int) := by omega
  have fs : True := trivial
  have fm : True := trivial
  have fm : fitsN (ma.length + 1) 16 := ⟨by omega, by omega⟩
  rw [rS_s hi, rM_s hi]
  have ih := Rc15 v hp hc ha hb k (i + 1) f (ma) (by omega) (by first | omega | (simp; omega) | simp)
  by_cases hm : (lD ls i).1 ∈ p
  ·cases ho : eqS (lD ls i).2.1 ON with
   | true =>
    have hy := on_may ho
    have e1 : sOf p c (lD ls i) = [gD (lD ls i).2.2 c] := by unfold sOf; rw [if_pos ⟨ho, hm⟩]
    have e2 : mOf p c (lD ls i) = [] := by unfold mOf; rw [if_neg (by rw [hy]; simp)]
    have ih2 := Rc23 v hp hc ha hb k (i + 1) 0 ([(gD (lD ls i).2.2 c)]) f (ma) (by omega) (by first | omega | (simp; omega) | simp) (by first | omega | (simp; omega) | simp)
    rw [eG1, List.length_singleton] at ih2
    rw [e1, e2, List.nil_append]
    iterate 3 (rw [res_eq]; simp only [eON, eMY, mxB, B119, F66_eq p _ (show p.length ≤ 1025 by omega), lF hi, sem_br, sem_ask, sem_triv, sem_nxt, sem_ret, sbs, PC.holds, need_true, h1, hin, decide_true, if_true, tnn, pc, gF hcl, fs, fm, hm, ho, hy, bff, decide_false, stepO_nxt])
    exact ih2
   | false =>
    have e1 : sOf p c (lD ls i) = [] := by unfold sOf; rw [if_neg (by rw [ho]; simp)]
    cases hy : eqS (lD ls i).2.1 MAY with
    | true =>
     have e2 : mOf p c (lD ls i) = [gD (lD ls i).2.2 c] := by unfold mOf; rw [if_pos ⟨hy, hm⟩]
     have ih2 := Rc15 v hp hc ha hb k (i + 1) (f + 1) (ma ++ [(gD (lD ls i).2.2 c)]) (by omega) (by first | omega | (simp; omega) | simp)
     rw [appG, List.length_append, List.length_singleton, List.append_assoc] at ih2
     rw [e1, e2, List.nil_append]
     iterate 3 (rw [res_eq]; simp only [eON, eMY, mxB, B119, F66_eq p _ (show p.length ≤ 1025 by omega), lF hi, sem_br, sem_ask, sem_triv, sem_nxt, sem_ret, sbs, PC.holds, need_true, h1, hin, decide_true, if_true, tnn, pc, gF hcl, fs, fm, hm, ho, hy, bff, decide_false, stepO_nxt])
     exact ih2
    | false =>
     have e2 : mOf p c (lD ls i) = [] := by unfold mOf; rw [if_neg (by rw [hy]; simp)]
     rw [e1, e2, List.nil_append, List.nil_append]
     iterate 3 (rw [res_eq]; simp only [eON, eMY, mxB, B119, F66_eq p _ (show p.length ≤ 1025 by omega), lF hi, sem_br, sem_ask, sem_triv, sem_nxt, sem_ret, sbs, PC.holds, need_true, h1, hin, decide_true, if_true, tnn, pc, gF hcl, fs, fm, hm, ho, hy, bff, decide_false, stepO_nxt])
     exact ih
  ·have e1 : sOf p c (lD ls i) = [] := by unfold sOf; rw [if_neg (by simp [hm])]
   have e2 : mOf p c (lD ls i) = [] := by unfold mOf; rw [if_neg (by simp [hm])]
   have ho : True := trivial
   have hy : True := trivial
   rw [e1, e2, List.nil_append, List.nil_append]
   rw [res_eq]; simp only [eON, eMY, mxB, B119, F66_eq p _ (show p.length ≤ 1025 by omega), lF hi, sem_br, sem_ask, sem_triv, sem_nxt, sem_ret, sbs, PC.holds, need_true, h1, hin, decide_true, if_true, tnn, pc, gF hcl, fs, fm, hm, ho, hy, bff, decide_false, stepO_nxt]
   exact ih
theorem Rc4 (v : VG cr cs ns ls) (hp : p.length ≤ 40) (hc : (c : Int) < cr) (ha : a < ns.length) (hb : b < ns.length) : ∀ (k i : Nat) (e : Nat) (su : List (Int × Int)), ls.length = i + k → su.length ≤ 50 + i →
  res B119 (.c4 (a : Int) (b : Int) (c : Int) p.length (p.map vI) e su.length (su.flatMap eG) (i : Int) cr cs.length (cs.flatMap eG) ns.length (ns.flatMap eN) ls.length (ls.flatMap eL) e) = some ((su ++ rS cs ns ls p c a b i).length, (su ++ rS cs ns ls p c a b i).flatMap eG, (rM ls p c i).length, (rM ls p c i).flatMap eG)
 | 0, i, e, su, hk, hs => by
  have hcs : c < cs.length := by have := v.c1.1; omega
  have hll := v.ll
  have pa : (a : Int) < (ns.length : Int) := by omega
  have pb : (b : Int) < (ns.length : Int) := by omega
  have pc : (c : Int) < (cs.length : Int) := by omega
  have fs : True := trivial
  have fs : fitsN (su.length + 1) 16 := ⟨by omega, by omega⟩
  have hl : ¬ ((ls.length : Int) < (ls.length : Int)) := by omega
  rw [res_eq, show i = ls.length by omega, rS_e, rM_e]
  simp only [eON, eMY, mxB, B119, sem_br, sem_ask, sem_triv, sem_nxt, PC.holds, need_true, hl, decide_false, bff, tnn, pa, pb, pc, nr ha, nr hb, nr4 ha (show 2 ≤ 4 by decide), nr4 hb (show 2 ≤ 4 by decide), nd2 ha, nd2 hb, np2 ha, np2 hb, gF hcs, fs]
  unfold crG
  change stepO _ (if crsB ns a b = true then _ else _) = _
  cases crsB ns a b
  ·simp only [bff, stepO_nxt]
   rw [res_eq]
   simp only [eON, eMY, mxB, B119, sem_ret, stepO_ret, List.append_nil, List.length_nil, eG0]
  ·simp only [if_true, stepO_nxt]
   rw [res_eq]
   simp only [eON, eMY, mxB, B119, sem_ret, stepO_ret, List.append_nil, List.length_nil, eG0, appG, eG1, List.length_append, List.length_singleton]
 | k + 1, i, e, su, hk, hs => by
  have hi : i < ls.length := by omega
  have h1 : (i : Int) < (ls.length : Int) := by omega
  have hll := v.ll
  have hin : inI64 ((i : Int) + 1) := by unfold inI64; omega
  have hf := (v.lf i hi).1
  have hcl : c < (lD ls i).2.2.length := by omega
  have pc : (c : Int) < ((lD ls i).2.2.length : Int) := by omega
  have fs : True := trivial
  have fm : True := trivial
  have fs : fitsN (su.length + 1) 16 := ⟨by omega, by omega⟩
  rw [rS_s hi, rM_s hi]
  have ih := Rc4 v hp hc ha hb k (i + 1) e (su) (by omega) (by first | omega | (simp; omega) | simp)
  by_cases hm : (lD ls i).1 ∈ p
  ·cases ho : eqS (lD ls i).2.1 ON with
   | true =>
    have hy := on_may ho
    have e1 : sOf p c (lD ls i) = [gD (lD ls i).2.2 c] := by unfold sOf; rw [if_pos ⟨ho, hm⟩]
    have e2 : mOf p c (lD ls i) = [] := by unfold mOf; rw [if_neg (by rw [hy]; simp)]
    have ih2 := Rc4 v hp hc ha hb k (i + 1) (e + 1) (su ++ [(gD (lD ls i).2.2 c)]) (by omega) (by first | omega | (simp; omega) | simp)
    rw [appG, List.length_append, List.length_singleton, List.append_assoc] at ih2
    rw [e1, e2, List.nil_append]
    iterate 3 (rw [res_eq]; simp only [eON, eMY, mxB, B119, F66_eq p _ (show p.length ≤ 1025 by omega), lF hi, sem_br, sem_ask, sem_triv, sem_nxt, sem_ret, sbs, PC.holds, need_true, h1, hin, decide_true, if_true, tnn, pc, gF hcl, fs, fm, hm, ho, hy, bff, decide_false, stepO_nxt])
    exact ih2
   | false =>
    have e1 : sOf p c (lD ls i) = [] := by unfold sOf; rw [if_neg (by rw [ho]; simp)]
    cases hy : eqS (lD ls i).2.1 MAY with
    | true =>
     have e2 : mOf p c (lD ls i) = [gD (lD ls i).2.2 c] := by unfold mOf; rw [if_pos ⟨hy, hm⟩]
     have ih2 := Rc14 v hp hc ha hb k (i + 1) e (su) 0 ([(gD (lD ls i).2.2 c)]) (by omega) (by first | omega | (simp; omega) | simp) (by first | omega | (simp; omega) | simp)
     rw [eG1, List.length_singleton] at ih2
     rw [e1, e2, List.nil_append]
     iterate 3 (rw [res_eq]; simp only [eON, eMY, mxB, B119, F66_eq p _ (show p.length ≤ 1025 by omega), lF hi, sem_br, sem_ask, sem_triv, sem_nxt, sem_ret, sbs, PC.holds, need_true, h1, hin, decide_true, if_true, tnn, pc, gF hcl, fs, fm, hm, ho, hy, bff, decide_false, stepO_nxt])
     exact ih2
    | false =>
     have e2 : mOf p c (lD ls i) = [] := by unfold mOf; rw [if_neg (by rw [hy]; simp)]
     rw [e1, e2, List.nil_append, List.nil_append]
     iterate 3 (rw [res_eq]; simp only [eON, eMY, mxB, B119, F66_eq p _ (show p.length ≤ 1025 by omega), lF hi, sem_br, sem_ask, sem_triv, sem_nxt, sem_ret, sbs, PC.holds, need_true, h1, hin, decide_true, if_true, tnn, pc, gF hcl, fs, fm, hm, ho, hy, bff, decide_false, stepO_nxt])
     exact ih
  ·have e1 : sOf p c (lD ls i) = [] := by unfold sOf; rw [if_neg (by simp [hm])]
   have e2 : mOf p c (lD ls i) = [] := by unfold mOf; rw [if_neg (by simp [hm])]
   have ho : True := trivial
   have hy : True := trivial
   rw [e1, e2, List.nil_append, List.nil_append]
   rw [res_eq]; simp only [eON, eMY, mxB, B119, F66_eq p _ (show p.length ≤ 1025 by omega), lF hi, sem_br, sem_ask, sem_triv, sem_nxt, sem_ret, sbs, PC.holds, need_true, h1, hin, decide_true, if_true, tnn, pc, gF hcl, fs, fm, hm, ho, hy, bff, decide_false, stepO_nxt]
   exact ih
theorem Rc3 (v : VG cr cs ns ls) (hp : p.length ≤ 40) (hc : (c : Int) < cr) (ha : a < ns.length) (hb : b < ns.length) : ∀ (k i : Nat), ls.length = i + k →
  res B119 (.c3 (a : Int) (b : Int) (c : Int) p.length (p.map vI) (i : Int) cr cs.length (cs.flatMap eG) ns.length (ns.flatMap eN) ls.length (ls.flatMap eL)) = some ((rS cs ns ls p c a b i).length, (rS cs ns ls p c a b i).flatMap eG, (rM ls p c i).length, (rM ls p c i).flatMap eG)
 | 0, i, hk => by
  have hcs : c < cs.length := by have := v.c1.1; omega
  have hll := v.ll
  have pa : (a : Int) < (ns.length : Int) := by omega
  have pb : (b : Int) < (ns.length : Int) := by omega
  have pc : (c : Int) < (cs.length : Int) := by omega
  have fs : True := trivial
  have hl : ¬ ((ls.length : Int) < (ls.length : Int)) := by omega
  rw [res_eq, show i = ls.length by omega, rS_e, rM_e]
  simp only [eON, eMY, mxB, B119, sem_br, sem_ask, sem_triv, sem_nxt, PC.holds, need_true, hl, decide_false, bff, tnn, pa, pb, pc, nr ha, nr hb, nr4 ha (show 2 ≤ 4 by decide), nr4 hb (show 2 ≤ 4 by decide), nd2 ha, nd2 hb, np2 ha, np2 hb, gF hcs, fs]
  unfold crG
  change stepO _ (if crsB ns a b = true then _ else _) = _
  cases crsB ns a b
  ·simp only [bff, stepO_nxt]
   rw [res_eq]
   simp only [eON, eMY, mxB, B119, sem_ret, stepO_ret, List.append_nil, List.length_nil, eG0]
  ·simp only [if_true, stepO_nxt]
   rw [res_eq]
   simp only [eON, eMY, mxB, B119, sem_ret, stepO_ret, List.append_nil, List.length_nil, eG0, appG, eG1, List.length_append, List.length_singleton]
 | k + 1, i, hk => by
  have hi : i < ls.length := by omega
  have h1 : (i : Int) < (ls.length : Int) := by omega
  have hll := v.ll
  have hin : inI64 ((i : Int) + 1) := by unfold inI64; omega
  have hf := (v.lf i hi).1
  have hcl : c < (lD ls i).2.2.length := by omega
  have pc : (c : Int) < ((lD ls i).2.2.length : Int) := by omega
  have fs : True := trivial
  have fm : True := trivial
  rw [rS_s hi, rM_s hi]
  have ih := Rc3 v hp hc ha hb k (i + 1)  (by omega)
  by_cases hm : (lD ls i).1 ∈ p
  ·cases ho : eqS (lD ls i).2.1 ON with
   | true =>
    have hy := on_may ho
    have e1 : sOf p c (lD ls i) = [gD (lD ls i).2.2 c] := by unfold sOf; rw [if_pos ⟨ho, hm⟩]
    have e2 : mOf p c (lD ls i) = [] := by unfold mOf; rw [if_neg (by rw [hy]; simp)]
    have ih2 := Rc4 v hp hc ha hb k (i + 1) 0 ([(gD (lD ls i).2.2 c)]) (by omega) (by first | omega | (simp; omega) | simp)
    rw [eG1, List.length_singleton] at ih2
    rw [e1, e2, List.nil_append]
    iterate 3 (rw [res_eq]; simp only [eON, eMY, mxB, B119, F66_eq p _ (show p.length ≤ 1025 by omega), lF hi, sem_br, sem_ask, sem_triv, sem_nxt, sem_ret, sbs, PC.holds, need_true, h1, hin, decide_true, if_true, tnn, pc, gF hcl, fs, fm, hm, ho, hy, bff, decide_false, stepO_nxt])
    exact ih2
   | false =>
    have e1 : sOf p c (lD ls i) = [] := by unfold sOf; rw [if_neg (by rw [ho]; simp)]
    cases hy : eqS (lD ls i).2.1 MAY with
    | true =>
     have e2 : mOf p c (lD ls i) = [gD (lD ls i).2.2 c] := by unfold mOf; rw [if_pos ⟨hy, hm⟩]
     have ih2 := Rc15 v hp hc ha hb k (i + 1) 0 ([(gD (lD ls i).2.2 c)]) (by omega) (by first | omega | (simp; omega) | simp)
     rw [eG1, List.length_singleton] at ih2
     rw [e1, e2, List.nil_append]
     iterate 3 (rw [res_eq]; simp only [eON, eMY, mxB, B119, F66_eq p _ (show p.length ≤ 1025 by omega), lF hi, sem_br, sem_ask, sem_triv, sem_nxt, sem_ret, sbs, PC.holds, need_true, h1, hin, decide_true, if_true, tnn, pc, gF hcl, fs, fm, hm, ho, hy, bff, decide_false, stepO_nxt])
     exact ih2
    | false =>
     have e2 : mOf p c (lD ls i) = [] := by unfold mOf; rw [if_neg (by rw [hy]; simp)]
     rw [e1, e2, List.nil_append, List.nil_append]
     iterate 3 (rw [res_eq]; simp only [eON, eMY, mxB, B119, F66_eq p _ (show p.length ≤ 1025 by omega), lF hi, sem_br, sem_ask, sem_triv, sem_nxt, sem_ret, sbs, PC.holds, need_true, h1, hin, decide_true, if_true, tnn, pc, gF hcl, fs, fm, hm, ho, hy, bff, decide_false, stepO_nxt])
     exact ih
  ·have e1 : sOf p c (lD ls i) = [] := by unfold sOf; rw [if_neg (by simp [hm])]
   have e2 : mOf p c (lD ls i) = [] := by unfold mOf; rw [if_neg (by simp [hm])]
   have ho : True := trivial
   have hy : True := trivial
   rw [e1, e2, List.nil_append, List.nil_append]
   rw [res_eq]; simp only [eON, eMY, mxB, B119, F66_eq p _ (show p.length ≤ 1025 by omega), lF hi, sem_br, sem_ask, sem_triv, sem_nxt, sem_ret, sbs, PC.holds, need_true, h1, hin, decide_true, if_true, tnn, pc, gF hcl, fs, fm, hm, ho, hy, bff, decide_false, stepO_nxt]
   exact ih
end
end
section
open Go Go.RowKit
def suL (l : List FA) : List (Int × Int) := (l.filter fun x => !x.2).map (·.1)
def maL (l : List FA) : List (Int × Int) := (l.filter fun x => x.2).map (·.1)
theorem suL_app (a b : List FA) : suL (a ++ b) = suL a ++ suL b := by unfold suL; rw [List.filter_append, List.map_append]
theorem maL_app (a b : List FA) : maL (a ++ b) = maL a ++ maL b := by unfold maL; rw [List.filter_append, List.map_append]
theorem su_ma (l : List FA) : l.length = (suL l).length + (maL l).length := by
 induction l with
 | nil => rfl
 | cons x r ih =>
  obtain ⟨g, o⟩ := x
  cases o
  ·rw [show suL ((g, false) :: r) = g :: suL r from rfl, show maL ((g, false) :: r) = maL r from rfl]; simp only [List.length_cons]; omega
  ·rw [show suL ((g, true) :: r) = suL r from rfl, show maL ((g, true) :: r) = g :: maL r from rfl]; simp only [List.length_cons]; omega
theorem any_ma (l : List FA) : l.any (·.2) = decide ((maL l).length > 0) := by
 induction l with
 | nil => rfl
 | cons x r ih =>
  obtain ⟨g, o⟩ := x
  cases o
  ·rw [List.any_cons, ih]; rfl
  ·rw [List.any_cons, show maL ((g, true) :: r) = g :: maL r from rfl]; simp
section
variable {cs : List (Int × Int)} {ns : List ND} {ls : List LD} {p : List Int} {c a b : Nat}
theorem suL_segs : ∀ k i, suL (segs ns p c k i) = (segs ns p c k i).map (·.1)
 | 0, i => rfl
 | k + 1, i => by
  unfold segs
  rw [show suL (segF ns p c i :: segs ns p c k (i + 1)) = (segF ns p c i).1 :: suL (segs ns p c k (i + 1)) from rfl, suL_segs k (i + 1), List.map_cons]
theorem maL_segs : ∀ k i, maL (segs ns p c k i) = []
 | 0, i => rfl
 | k + 1, i => by
  unfold segs
  rw [show maL (segF ns p c i :: segs ns p c k (i + 1)) = maL (segs ns p c k (i + 1)) from rfl, maL_segs k (i + 1)]
theorem suL_lod (x : LD) : suL (lodF p c x) = sOf p c x ∧ maL (lodF p c x) = mOf p c x := by
 unfold lodF sOf mOf
 by_cases hm : x.1 ∈ p
 ·cases ho : eqS x.2.1 ON with
  | true => rw [on_may ho]; simp [hm, suL, maL]
  | false => cases hy : eqS x.2.1 MAY <;> simp [hm, suL, maL]
 ·simp [hm, suL, maL]
theorem su_rest : ∀ k i, ls.length = i + k → suL (restF cs ns ls p c a b i) = rS cs ns ls p c a b i ∧ maL (restF cs ns ls p c a b i) = rM ls p c i
 | 0, i, h => by
  rw [show i = ls.length by omega, rest_e, rS_e, rM_e]
  unfold crsF crG
  cases crsB ns a b <;> exact ⟨rfl, rfl⟩
 | k + 1, i, h => by
  obtain ⟨h1, h2⟩ := su_rest k (i + 1) (by omega)
  obtain ⟨h3, h4⟩ := suL_lod (p := p) (c := c) (lD ls i)
  rw [rest_s (by omega), rS_s (by omega), rM_s (by omega), suL_app, maL_app, h1, h2, h3, h4]
  exact ⟨rfl, rfl⟩
end
def stR (z g : Int × Int) : Int × Int := (z.1 * g.1 - z.2 * g.2, z.1 * g.2 + z.2 * g.1)
theorem stp_stR (z : Int × Int) (f : FA) : stp z f = stR z f.1 := by
 unfold stp stR
 rw [Int.mul_comm f.1.1 z.1, Int.mul_comm f.1.2 z.2, Int.mul_comm f.1.1 z.2, Int.mul_comm f.1.2 z.1, Int.add_comm]
def prG (l : List (Int × Int)) (z : Int × Int) : Int × Int := l.foldl stR z
theorem prd_prG (l : List FA) : ∀ z, l.any (·.2) = false → prd l z = prG (suL l) z := by
 induction l with
 | nil => intro z _; rfl
 | cons x r ih =>
  obtain ⟨g, o⟩ := x
  intro z h
  rw [List.any_cons, Bool.or_eq_false_iff] at h
  obtain ⟨h1, h2⟩ := h
  have h1 : o = false := h1
  subst h1
  rw [show suL ((g, false) :: r) = g :: suL r from rfl]
  unfold prd prG
  rw [List.foldl_cons, List.foldl_cons, stp_stR]
  exact ih _ h2
def pq : List (Int × Int) → Int
 | [] => 1
 | g :: r => sqr g * pq r
theorem low_pq (l : List FA) : ∀ z, lowF l z = z * pq (suL l) := by
 induction l with
 | nil => intro z; exact (Int.mul_one z).symm
 | cons x r ih =>
  obtain ⟨g, o⟩ := x
  intro z
  unfold lowF
  rw [List.foldl_cons]
  cases o
  ·rw [show suL ((g, false) :: r) = g :: suL r from rfl, if_neg (show ¬ (((g, false) : FA).2 = true) from Bool.false_ne_true)]
   have := ih (z * sqr g)
   unfold lowF at this
   rw [this, pq, Int.mul_assoc]
  ·rw [show suL ((g, true) :: r) = suL r from rfl, if_pos rfl]
   exact ih z
theorem hig_pq (l : List FA) : ∀ z, higF l z = z * pq (suL l) * pq (maL l) := by
 induction l with
 | nil => intro z; show z = z * 1 * 1; omega
 | cons x r ih =>
  obtain ⟨g, o⟩ := x
  intro z
  unfold higF
  rw [List.foldl_cons]
  have := ih (z * sqr g)
  unfold higF at this
  rw [this]
  cases o
  ·rw [show suL ((g, false) :: r) = g :: suL r from rfl, show maL ((g, false) :: r) = maL r from rfl, pq, ← Int.mul_assoc]
  ·rw [show suL ((g, true) :: r) = suL r from rfl, show maL ((g, true) :: r) = g :: maL r from rfl, pq]; grind
theorem sq_prG : ∀ (l : List (Int × Int)) (z : Int × Int), sqr (prG l z) = sqr z * pq l
 | [], z => (Int.mul_one _).symm
 | g :: r, z => by
  unfold prG
  rw [List.foldl_cons, pq]
  have := sq_prG r (stR z g)
  unfold prG at this
  rw [this, show sqr (stR z g) = sqr z * sqr g by unfold sqr stR; grind, Int.mul_assoc]
def OKG (l : List (Int × Int)) : Prop := ∀ g ∈ l, okG g
theorem F69_eq {g z : Int × Int} {b : Int} (hf : okG g) (hz : Bd b z) (hb : b ≤ 16777216) : F69 z.1 z.2 g.1 g.2 = some (stR z g) ∧ Bd (4 * b) (stR z g) := by
 obtain ⟨⟨f1, f2⟩, ⟨f3, f4⟩, _⟩ := hf
 obtain ⟨⟨z1, z2⟩, z3, z4⟩ := hz
 have m1 := mul_bd f1 f2 z1 z2
 have m2 := mul_bd f3 f4 z3 z4
 have m3 := mul_bd f1 f2 z3 z4
 have m4 := mul_bd f3 f4 z1 z2
 rw [Int.mul_comm g.1 z.1] at m1
 rw [Int.mul_comm g.2 z.2] at m2
 rw [Int.mul_comm g.1 z.2] at m3
 rw [Int.mul_comm g.2 z.1] at m4
 have i1 : inI64 (z.1 * g.1) := by unfold inI64; omega
 have i2 : inI64 (z.2 * g.2) := by unfold inI64; omega
 have i3 : inI64 (z.2 * g.1) := by unfold inI64; omega
 have i4 : inI64 (z.1 * g.2) := by unfold inI64; omega
 have i5 : inI64 (z.1 * g.1 - z.2 * g.2) := by unfold inI64; omega
 have i6 : inI64 (z.1 * g.2 + z.2 * g.1) := by unfold inI64; omega
 constructor
 ·unfold F69; rw [res_eq]
  simp only [B69, sem_ask, sem_ret, PC.holds, need_true, i1, i2, i3, i4, i5, i6, stepO_ret]; rfl
 ·refine ⟨?_, ?_⟩ <;> (simp only [stR]; omega)
theorem prG_bd : ∀ (l : List (Int × Int)) (b : Nat) (z : Int × Int), OKG l → Bd b z → b * 4 ^ l.length ≤ 16777216 → Bd 16777216 (prG l z)
 | [], b, z, _, hz, hb => by
  have hb : b ≤ 16777216 := by simpa using hb
  obtain ⟨⟨z1, z2⟩, z3, z4⟩ := hz
  exact ⟨⟨by show _ ≤ z.1; omega, by show z.1 ≤ _; omega⟩, by show _ ≤ z.2; omega, by show z.2 ≤ _; omega⟩
 | g :: r, b, z, ho, hz, hb => by
  rw [List.length_cons] at hb
  have hb1 : b ≤ b * 4 ^ (r.length + 1) := Nat.le_mul_of_pos_right _ (Nat.pow_pos (by decide))
  obtain ⟨_, hz2⟩ := F69_eq (b := (b : Int)) (ho g (by simp)) hz (by omega)
  have hb2 : 4 * b * 4 ^ r.length ≤ 16777216 := by rw [Nat.pow_succ] at hb; rw [show 4 * b * 4 ^ r.length = b * (4 ^ r.length * 4) by rw [Nat.mul_comm 4 b, Nat.mul_assoc, Nat.mul_comm 4]]; exact hb
  exact prG_bd r (4 * b) (stR z g) (fun x hx => ho x (by simp [hx])) (by exact_mod_cast hz2) hb2
theorem F120_loop {l : List (Int × Int)} (ho : OKG l) (hl : l.length ≤ 1000) : ∀ (k i b : Nat) (z : Int × Int), l.length = i + k → Bd b z → b * 4 ^ k ≤ 16777216 →
  res B120 (.c1 l.length (l.flatMap eG) (i : Int) z.1 z.2) = some (prG (l.drop i) z)
 | 0, i, b, z, hk, hz, hb => by
  have h1 : ¬ ((i : Int) < (l.length : Int)) := by omega
  rw [res_eq, List.drop_of_length_le (by omega)]
  simp only [B120, sem_br, sem_ret, h1, decide_false, bff, stepO_ret, prG, List.foldl_nil]
 | k + 1, i, b, z, hk, hz, hb => by
  have hi : i < l.length := by omega
  have h1 : (i : Int) < (l.length : Int) := by omega
  have hin : inI64 ((i : Int) + 1) := by unfold inI64; omega
  have hb1 : b ≤ b * 4 ^ (k + 1) := Nat.le_mul_of_pos_right _ (Nat.pow_pos (by decide))
  obtain ⟨e, hz2⟩ := F69_eq (b := (b : Int)) (ho _ (getD_memG hi)) hz (by omega)
  have hb2 : 4 * b * 4 ^ k ≤ 16777216 := by rw [Nat.pow_succ] at hb; rw [show 4 * b * 4 ^ k = b * (4 ^ k * 4) by rw [Nat.mul_comm 4 b, Nat.mul_assoc, Nat.mul_comm 4]]; exact hb
  have ih := F120_loop ho hl k (i + 1) (4 * b) (stR z (gD l i)) (by omega) (by exact_mod_cast hz2) hb2
  rw [res_eq, dropD (0, 0) hi]
  unfold prG
  rw [List.foldl_cons, show l.getD i (0, 0) = gD l i from rfl]
  simp only [B120, e, gF hi, sem_br, sem_ask, sem_nxt, sbs, PC.holds, need_true, tnn, h1, hin, decide_true, if_true, stepO_nxt]
  exact ih
theorem bd1 : Bd ((1 : Nat) : Int) (1, 0) := ⟨⟨by decide, by decide⟩, by decide, by decide⟩
theorem pow12 {l : List (Int × Int)} (h : l.length ≤ 12) : 1 * 4 ^ l.length ≤ 16777216 := by
 have : 4 ^ l.length ≤ 4 ^ 12 := Nat.pow_le_pow_right (by decide) h
 rw [Nat.one_mul]; exact Nat.le_trans this (by decide)
theorem F120_eq {l : List (Int × Int)} (ho : OKG l) (hl : l.length ≤ 12) : F120 l.length (l.flatMap eG) = some (prG l (1, 0)) := by
 unfold F120; rw [res_eq]
 simp only [B120, sem_nxt, stepO_nxt]
 exact F120_loop ho (by omega) l.length 0 1 (1, 0) (by omega) bd1 (pow12 hl)
theorem sq_le {z : Int} (h1 : -16777216 ≤ z) (h2 : z ≤ 16777216) : 0 ≤ z * z ∧ z * z ≤ 281474976710656 := by
 have h : 0 ≤ (16777216 - z) * (16777216 + z) := Int.mul_nonneg (by omega) (by omega)
 constructor
 ·rcases Int.le_total 0 z with h3 | h3
  ·exact Int.mul_nonneg h3 h3
  ·have := Int.mul_nonneg (show 0 ≤ -z by omega) (show 0 ≤ -z by omega)
   rwa [Int.neg_mul_neg] at this
 ·grind
theorem F68_eq {z : Int × Int} (h : Bd 16777216 z) : F68 z.1 z.2 = some (sqr z) := by
 obtain ⟨⟨z1, z2⟩, z3, z4⟩ := h
 have m1 := sq_le z1 z2
 have m2 := sq_le z3 z4
 have i1 : inI64 (z.1 * z.1) := by unfold inI64; omega
 have i2 : inI64 (z.2 * z.2) := by unfold inI64; omega
 have i3 : inI64 (z.1 * z.1 + z.2 * z.2) := by unfold inI64; omega
 unfold F68; rw [res_eq]
 simp only [B68, sem_ask, sem_ret, PC.holds, need_true, i1, i2, i3, stepO_ret]; rfl
theorem okG_bd {g : Int × Int} (h : okG g) : Bd 16777216 g := by
 obtain ⟨⟨f1, f2⟩, ⟨f3, f4⟩, _⟩ := h
 exact ⟨⟨by omega, by omega⟩, by omega, by omega⟩
theorem F29_loop {l : List (Int × Int)} (ho : OKG l) (hl : l.length ≤ 1000) (x : Int) : ∀ (k i b : Nat) (y : Int), l.length = i + k → 0 ≤ y → y ≤ b → b * 8 ^ k ≤ 68719476736 →
  res B29 (.c1 l.length (l.flatMap eG) (i : Int) x y) = some (x, y * pq (l.drop i), 0)
 | 0, i, b, y, hk, _, _, _ => by
  have h1 : ¬ ((i : Int) < (l.length : Int)) := by omega
  rw [res_eq, List.drop_of_length_le (by omega)]
  simp only [B29, sem_br, sem_ret, h1, decide_false, bff, stepO_ret, pq, Int.mul_one]
 | k + 1, i, b, y, hk, hy, hyb, hb => by
  have hi : i < l.length := by omega
  have h1 : (i : Int) < (l.length : Int) := by omega
  have hin : inI64 ((i : Int) + 1) := by unfold inI64; omega
  have hb1 : b ≤ b * 8 ^ (k + 1) := Nat.le_mul_of_pos_right _ (Nat.pow_pos (by decide))
  have hg := ho _ (getD_memG hi)
  have hs := sq_bd hg
  have m2 := mul_sq hy hs.1 hs.2
  have i2 : inI64 (y * sqr (gD l i)) := by unfold inI64; omega
  have hb2 : 8 * b * 8 ^ k ≤ 68719476736 := by rw [Nat.pow_succ] at hb; rw [show 8 * b * 8 ^ k = b * (8 ^ k * 8) by rw [Nat.mul_comm 8 b, Nat.mul_assoc, Nat.mul_comm 8]]; exact hb
  have ih := F29_loop ho hl x k (i + 1) (8 * b) (y * sqr (gD l i)) (by omega) m2.1 (by omega) hb2
  rw [Int.mul_assoc] at ih
  rw [res_eq, dropD (0, 0) hi, pq, show l.getD i (0, 0) = gD l i from rfl]
  simp only [B29, F68_eq (okG_bd hg), gF hi, sem_br, sem_ask, sem_nxt, sbs, PC.holds, need_true, tnn, h1, hin, i2, decide_true, if_true, stepO_nxt]
  exact ih
theorem pq_bd : ∀ (l : List (Int × Int)), OKG l → 1 ≤ pq l ∧ pq l ≤ ((8 ^ l.length : Nat) : Int)
 | [], _ => ⟨by decide, by decide⟩
 | g :: r, ho => by
  obtain ⟨h1, h2⟩ := pq_bd r (fun x hx => ho x (by simp [hx]))
  obtain ⟨h3, h4⟩ := sq_bd (ho g (by simp))
  have := mul_sq (h := pq r) (by omega) h3 h4
  rw [pq, Int.mul_comm, List.length_cons, Nat.pow_succ]
  have h5 : pq r ≤ pq r * sqr g := by
   rcases (show sqr g = 1 ∨ sqr g = 2 ∨ sqr g = 3 ∨ sqr g = 4 ∨ sqr g = 5 ∨ sqr g = 6 ∨ sqr g = 7 ∨ sqr g = 8 by omega) with e | e | e | e | e | e | e | e <;> rw [e] <;> omega
  revert h2
  generalize 8 ^ r.length = q
  intro h2
  omega
end
section
open Go Go.RowKit
section
variable {cr : Int} {cs : List (Int × Int)} {ns : List ND} {ls : List LD} {p : List Int} {c a b : Nat}
theorem Rc2 (v : VG cr cs ns ls) (hp : p.length ≤ 40) (hc : (c : Int) < cr) (ha : a < ns.length) (hb : b < ns.length) (hq : ∀ i, i + 1 < p.length → ∃ m : Nat, hiI p i = (m : Int) ∧ 0 < m ∧ m < ns.length) : ∀ (k i e : Nat) (su : List (Int × Int)), p.length = i + 1 + k → su.length ≤ i →
  res B119 (.c2 (a : Int) (b : Int) (c : Int) p.length (p.map vI) e su.length (su.flatMap eG) ((i + 1 : Nat) : Int) cr cs.length (cs.flatMap eG) ns.length (ns.flatMap eN) ls.length (ls.flatMap eL) e) =
   some ((su ++ (segs ns p c k i).map (·.1) ++ rS cs ns ls p c a b 0).length, (su ++ (segs ns p c k i).map (·.1) ++ rS cs ns ls p c a b 0).flatMap eG, (rM ls p c 0).length, (rM ls p c 0).flatMap eG)
 | 0, i, e, su, hk, hl => by
  have h1 : ¬ (((i + 1 : Nat) : Int) < (p.length : Int)) := by omega
  have := Rc4 v hp hc ha hb ls.length 0 e su (by omega) (by omega)
  rw [res_eq]
  unfold segs
  simp only [eON, eMY, mxB, B119, sem_br, sem_nxt, h1, decide_false, bff, stepO_nxt, List.map_nil, List.append_nil]
  exact this
 | k + 1, i, e, su, hk, hl => by
  have h1 : ((i + 1 : Nat) : Int) < (p.length : Int) := by omega
  have hi : i < p.length := by omega
  have hi2 : i + 1 < p.length := by omega
  have p1 : (i : Int) < (p.length : Int) := by omega
  have e1 : ((i + 1 : Nat) : Int) - 1 = (i : Int) := by omega
  have i0 : inI64 (i : Int) := by unfold inI64; omega
  have hin : inI64 (((i + 1 : Nat) : Int) + 1) := by unfold inI64; omega
  obtain ⟨m, hm, hm0, hmn⟩ := hq i hi2
  have hh : (if p.getD (i + 1) 0 > p.getD i 0 then p.getD (i + 1) 0 else p.getD i 0) = (m : Int) := hm
  have pm : (m : Int) < (ns.length : Int) := by omega
  have hf := (v.nf m hm0 hmn).1
  have hcl : c < (nD ns m).2.2.2.length := by omega
  have pc : (c : Int) < ((nD ns m).2.2.2.length : Int) := by omega
  have ft : fitsN (su.length + 1) 16 := ⟨by omega, by omega⟩
  have hs : (segF ns p c i).1 = gD (nD ns m).2.2.2 c := by unfold segF; rw [hm, Int.toNat_natCast]
  have ih := Rc2 v hp hc ha hb hq k (i + 1) (e + 1) (su ++ [gD (nD ns m).2.2.2 c]) (by omega) (by rw [List.length_append, List.length_singleton]; omega)
  rw [appG, List.length_append, List.length_singleton] at ih
  rw [res_eq]
  unfold segs
  rw [List.map_cons, hs, show su ++ gD (nD ns m).2.2.2 c :: (segs ns p c k (i + 1)).map (·.1) = su ++ [gD (nD ns m).2.2.2 c] ++ (segs ns p c k (i + 1)).map (·.1) by simp]
  simp only [eON, eMY, mxB, B119, sem_br, sem_ask, sem_nxt, PC.holds, need_true, h1, e1, i0, hin, decide_true, if_true, Int.toNat_natCast, Nat.mul_one, dI_cel_map, at_map hi, at_map hi2, hh, pm, nr hmn, nr4 hmn (show 3 ≤ 4 by decide), np3 hmn, nd3 hmn, nd4 hmn, Int.natCast_nonneg, List.length_map, Nat.le_of_lt hi, Nat.le_of_lt hi2, p1, pc, gF hcl, ft, stepO_nxt]
  exact ih
theorem F119_eq (v : VG cr cs ns ls) (hc : (c : Int) < cr) (ha : a < ns.length) (hb : b < ns.length) : F119 cr cs.length (cs.flatMap eG) ns.length (ns.flatMap eN) ls.length (ls.flatMap eL) (a : Int) (b : Int) (c : Int) =
  some ((suL (facs cs ns ls c a b)).length, (suL (facs cs ns ls c a b)).flatMap eG, (maL (facs cs ns ls c a b)).length, (maL (facs cs ns ls c a b)).flatMap eG) := by
 have f1 := F22_eq v.up (cr := cr) (n1 := cs.length) (x1 := cs.flatMap eG) (n3 := ls.length) (x3 := ls.flatMap eL) ha hb
 obtain ⟨l0', l1'⟩ := pth_len v.up ha hb
 have hq := fun i hi => pth_hi v.up ha hb (i := i) hi
 unfold facs
 rw [suL_app, maL_app, suL_segs, maL_segs]
 revert f1 l0' l1' hq
 generalize pth ns a b = p
 intro f1 l0' l1' hq
 obtain ⟨h1, h2⟩ := su_rest (cs := cs) (ns := ns) (ls := ls) (p := p) (c := c) (a := a) (b := b) ls.length 0 (by omega)
 rw [h1, h2, List.nil_append]
 unfold F119; rw [res_eq]
 simp only [eON, eMY, mxB, B119, f1, sbs, sem_nxt, stepO_nxt]
 rw [res_eq]
 by_cases hz : p.length = 1
 ·have h1 : ¬ ((1 : Int) < (p.length : Int)) := by omega
  have := Rc3 v l1' hc ha hb ls.length 0 (by omega)
  rw [hz] at h1 this ⊢
  simp only [eON, eMY, mxB, B119, sem_br, sem_nxt, h1, decide_false, bff, stepO_nxt]
  exact this
 ·have h1 : (1 : Int) < (p.length : Int) := by omega
  have hi2 : 0 + 1 < p.length := by omega
  have p1 : (0 : Int) < (p.length : Int) := by omega
  have e1 : (1 : Int) - 1 = 0 := rfl
  have i0 : inI64 (0 : Int) := by unfold inI64; omega
  have hin : inI64 ((1 : Int) + 1) := by unfold inI64; omega
  obtain ⟨m, hm, hm0, hmn⟩ := hq 0 hi2
  have hh : (if p.getD 1 0 > p.getD 0 0 then p.getD 1 0 else p.getD 0 0) = (m : Int) := hm
  have pm : (m : Int) < (ns.length : Int) := by omega
  have hf := (v.nf m hm0 hmn).1
  have hcl : c < (nD ns m).2.2.2.length := by omega
  have pc : (c : Int) < ((nD ns m).2.2.2.length : Int) := by omega
  have hs : (segF ns p c 0).1 = gD (nD ns m).2.2.2 c := by unfold segF; rw [hm, Int.toNat_natCast]
  obtain ⟨k, hk⟩ : ∃ k, p.length - 1 = k + 1 := ⟨p.length - 2, by omega⟩
  have ih := Rc2 v l1' hc ha hb hq k 1 0 [gD (nD ns m).2.2.2 c] (by omega) (by rw [List.length_singleton]; omega)
  rw [eG1, List.length_singleton] at ih
  have a1 := at_map (l := p) (i := 1) (by omega)
  rw [hk]
  unfold segs
  rw [List.map_cons, hs]
  simp only [eON, eMY, mxB, B119, sem_br, sem_ask, sem_nxt, PC.holds, need_true, h1, e1, i0, hin, decide_true, if_true, Int.toNat_natCast, show (0 : Int).toNat = 0 from rfl, show (1 : Int).toNat = 1 from rfl, Nat.mul_one, dI_cel_map, at_map l0', a1, hh, pm, nr hmn, nr4 hmn (show 3 ≤ 4 by decide), np3 hmn, nd3 hmn, nd4 hmn, Int.natCast_nonneg, List.length_map, Nat.le_of_lt l0', Nat.zero_le, show 1 ≤ p.length by omega, show (0 : Int) ≤ 0 from Int.le_refl 0, show (0 : Int) ≤ 1 by decide, p1, pc, gF hcl, stepO_nxt]
  exact ih
theorem okF_su {l : List FA} (h : OKF l) : OKG (suL l) ∧ OKG (maL l) := by
 constructor
 ·intro g hg
  unfold suL at hg
  obtain ⟨x, hx, rfl⟩ := List.mem_map.1 hg
  exact h x (List.mem_filter.1 hx).1
 ·intro g hg
  unfold maL at hg
  obtain ⟨x, hx, rfl⟩ := List.mem_map.1 hg
  exact h x (List.mem_filter.1 hx).1
theorem F28_eq (v : VG cr cs ns ls) (hc : (c : Int) < cr) (ha : a < ns.length) (hb : b < ns.length) : F28 cr cs.length (cs.flatMap eG) ns.length (ns.flatMap eN) ls.length (ls.flatMap eL) (a : Int) (b : Int) (c : Int) = some (gainR (facs cs ns ls c a b)) := by
 have e := F119_eq v hc ha hb
 obtain ⟨ho, hl⟩ := facs_ok v hc ha hb
 unfold F28; rw [res_eq]
 revert ho hl e
 generalize facs cs ns ls c a b = l
 intro e ho hl
 obtain ⟨hs, hm⟩ := okF_su ho
 have hlen := su_ma l
 have hany := any_ma l
 simp only [B28, e, F37_eq, F20_2, sem_br, sem_ret, sbs]
 unfold gainR
 cases hz : l.any (·.2) with
 | true =>
  rw [hz] at hany
  have h1 : ((maL l).length : Int) > 0 := by have := of_decide_eq_true hany.symm; omega
  simp only [h1, decide_true, whenT, first_pos (show (32 : Int) ≠ 0 by decide), show ((32 : Int) != 0) = true from rfl, if_true, stepO_ret]
 | false =>
  rw [hz] at hany
  have h0 := of_decide_eq_false hany.symm
  have h1 : ¬ ((maL l).length : Int) > 0 := by omega
  simp only [h1, decide_false, whenF, first_z, firstI_1, bff]
  by_cases h : l.length > 12
  ·have h2 : ((suL l).length : Int) > 12 := by omega
   simp only [h, h2, decide_true, whenT, show ((4 : Int) != 0) = true from rfl, if_true, stepO_ret]
  ·have h2 : ¬ ((suL l).length : Int) > 12 := by omega
   simp only [h, h2, decide_false, whenF, bne_self_eq_false, bff, F120_eq hs (show (suL l).length ≤ 12 by omega), sbs, sem_ret, stepO_ret, prd_prG l (1, 0) hz]
theorem F29_eq (v : VG cr cs ns ls) (hc : (c : Int) < cr) (ha : a < ns.length) (hb : b < ns.length) : F29 cr cs.length (cs.flatMap eG) ns.length (ns.flatMap eN) ls.length (ls.flatMap eL) (a : Int) (b : Int) (c : Int) = some (encR (facs cs ns ls c a b)) := by
 have e := F119_eq v hc ha hb
 obtain ⟨ho, hl⟩ := facs_ok v hc ha hb
 unfold F29; rw [res_eq]
 revert ho hl e
 generalize facs cs ns ls c a b = l
 intro e ho hl
 obtain ⟨hs, hm⟩ := okF_su ho
 have hlen := su_ma l
 have hi : inI64 (((suL l).length : Int) + ((maL l).length : Int)) := by unfold inI64; omega
 simp only [B29, e, hi, sem_ask, PC.holds, need_true, sem_br, sem_ret, sbs]
 unfold encR
 by_cases h : l.length > 12
 ·have h2 : ((suL l).length : Int) + ((maL l).length : Int) > 12 := by omega
  simp only [h, h2, decide_true, if_true, stepO_ret]
 ·have h2 : ¬ ((suL l).length : Int) + ((maL l).length : Int) > 12 := by omega
  have hb := prG_bd (suL l) 1 (1, 0) hs bd1 (pow12 (by omega))
  have q := pq_bd (suL l) hs
  have h8 : (8 ^ (suL l).length) * 8 ^ (maL l).length ≤ 68719476736 := by
   rw [← Nat.pow_add, ← hlen]
   have : 8 ^ l.length ≤ 8 ^ 12 := Nat.pow_le_pow_right (by decide) (by omega)
   exact Nat.le_trans this (by decide)
  have := F29_loop hm (by omega) (1 * pq (suL l)) (maL l).length 0 (8 ^ (suL l).length) (1 * pq (suL l)) (by omega) (by omega) (by omega) h8
  have sq1 : sqr (prG (suL l) (1, 0)) = 1 * pq (suL l) := sq_prG _ _
  simp only [h, h2, decide_false, bff, F120_eq hs (show (suL l).length ≤ 12 by omega), F68_eq hb, sq1, sbs, sem_nxt, stepO_nxt, low_pq, hig_pq]
  exact this
end
theorem gains_true (a : Int) (cs : List (Int × Int)) (ns : List ND) (ls : List LD) (x y z : Int) : F4 a cs.length (cs.flatMap eG) ns.length (ns.flatMap eN) ls.length (ls.flatMap eL) x y z = some true := by
 unfold F4; rw [res_eq]
 have e15 : F15 = some true := rfl
 obtain ⟨b, hb, hB⟩ := F16_ex a cs ns ls
 cases hbb : b with
 | false =>
  rw [hbb] at hb
  simp only [B4, e15, hb, sbs, sem_triv, sem_br, sem_ret, Bool.not_true, bff, Bool.not_false, if_true, stepO_ret]
 | true =>
  rw [hbb] at hb
  have h := hB hbb
  simp only [B4, e15, hb, F18_eq h, F25_eq h, F26_eq h, F27_eq h, sbs, sem_triv, sem_br, Bool.not_true, bff]
  by_cases h0 : wayE a cs ns ls x y z = 0
  ·obtain ⟨v, i, j, k, rfl, rfl, rfl, ha, hb', hc⟩ := way_0 h0
   have e1 := F28_eq v hc ha hb'
   have e2 := F29_eq v hc ha hb'
   unfold gnR enR
   simp only [h0, e1, e2, sbs, sem_triv, sem_br, sem_ret, sem_ask, PC.holds, need_true, beq_self_eq_true, if_true, Int.toNat_natCast, Bool.and_true, stepO_ret]
  ·have hb0 : (wayE a cs ns ls x y z == 0) = false := beq_eq_false_iff_ne.2 h0
   unfold gnR enR
   simp only [hb0, if_neg h0, sbs, sem_triv, sem_br, sem_ret, sem_ask, PC.holds, need_true, beq_self_eq_true, if_true, bff, Bool.and_true, stepO_ret]
end
end Go.Kv
