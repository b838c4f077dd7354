import Derived.Test.YtdelimpnnpifpaaGreatDoorGV8
import Derived.Test.YtdelimpnnpifpaaGreatDoorKVc
set_option linter.all false
namespace Go.Kv
open Go Go.RowKit
set_option maxRecDepth 100000
theorem B8_c2 (R : List (List Int)) (hm : R.length ≤ 300) (hL : ∀ r ∈ R, r.length ≤ 300) (x107 : Nat) (x108 : List DV) (x109 : Nat) (x110 : List DV) (x111 : Nat) (x112 : List DV) (x113 x114 : Int) : ∀ (m i : Nat), R.length = i + m → 0 < i →
  res B8 (.c2 (i - 1) i ((R.take i).map rD) R.length (R.map rD) (R.length : Int) (i : Int) x107 x108 x109 x110 x111 x112 x113 x114 (i - 1)) =
   res B8 (.c2 (R.length - 1) R.length (R.map rD) R.length (R.map rD) (R.length : Int) (R.length : Int) x107 x108 x109 x110 x111 x112 x113 x114 (R.length - 1)) := by
 intro m
 induction m with
 | zero =>
  intro i hi h0
  obtain rfl : i = R.length := by omega
  rw [List.take_length]
 | succ m ih =>
  intro i h h0
  have hi : i < R.length := by omega
  obtain ⟨g1, g2⟩ := celR R hi
  have g3 := at_mapR hi
  have h1 : (i : Int) < (R.length : Int) := by omega
  have h4 : 0 ≤ (i : Int) := by omega
  have hin : inI64 (((i + 1 : Nat)) : Int) := by unfold inI64; omega
  have h12 : (i : Int) + 1 = ((i + 1 : Nat) : Int) := by omega
  have hf : fitsN (i + 1) 24 := ⟨by omega, by omega⟩
  have hs := F17_eq (R.getD i []) (hL _ (by rw [List.getD_eq_getElem?_getD, List.getElem?_eq_getElem hi]; simp))
  have ih' := ih (i + 1) (by omega) (by omega)
  rw [← ih', res_eq]
  simp only [B8, ca, sem_br, h1, decide_true, if_true, sem_ask, PC.holds, need_true, h4, Int.toNat_natCast, Nat.mul_one, g1, g2, g3, hs, sem_bind_some, sem_sees, hf, h12, hin, sem_nxt]
  rw [need_of (by simp; omega), stepO_nxt]
  have e : (R.take (i + 1)).map rD = (R.take i).map rD ++ [DV.sl (R.getD i []).length ((R.getD i []).map vI)] := by
   rw [List.take_succ, List.map_append, List.getElem?_eq_getElem hi]
   simp [List.getD_eq_getElem?_getD, hi, rD]
  rw [e, show i - 1 + 1 = i + 1 - 1 by omega]
theorem B8_c5 (l : List Int) (n : Nat) (hn : n ≤ 15) (x925 : Nat) (x926 : List DV) (x927 : Nat) (x928 : List DV) (x929 : Int) (x930 : Nat) (x931 : List DV) (x932 : Nat) (x933 : List DV) (x934 : Int) (x935 : Nat) (x936 : List DV) (x937 : Int) (x938 : Nat) (x939 : List DV) (x940 x941 x942 x943 x944 : Int) (x950 : Nat) (x951 : List DV) : ∀ (m i : Nat), n = i + m → 0 < i →
  res B8 (.c5 l.length (l.map vI) x925 x926 x927 x928 x929 x930 x931 x932 x933 x934 x935 x936 x937 x938 x939 x940 x941 x942 x943 x944 (i - 1) i (List.replicate i (rD l)) (n : Int) (i : Int) x950 x951 (i - 1)) =
   res B8 (.c5 l.length (l.map vI) x925 x926 x927 x928 x929 x930 x931 x932 x933 x934 x935 x936 x937 x938 x939 x940 x941 x942 x943 x944 (n - 1) n (List.replicate n (rD l)) (n : Int) (n : Int) x950 x951 (n - 1)) := by
 intro m
 induction m with
 | zero =>
  intro i hi h0
  obtain rfl : i = n := by omega
  rfl
 | succ m ih =>
  intro i h h0
  have h1 : (i : Int) < (n : Int) := by omega
  have hin : inI64 (((i + 1 : Nat)) : Int) := by unfold inI64; omega
  have h12 : (i : Int) + 1 = ((i + 1 : Nat) : Int) := by omega
  have hf : fitsN (i + 1) 24 := ⟨by omega, by omega⟩
  have ih' := ih (i + 1) (by omega) (by omega)
  rw [← ih', res_eq]
  simp only [B8, ca, sem_br, h1, decide_true, if_true, sem_ask, PC.holds, need_true, hf, h12, hin, sem_nxt, stepO_nxt]
  rw [List.replicate_succ', show i - 1 + 1 = i + 1 - 1 by omega]
  rfl
end Go.Kv
namespace Go.Kv
open Go Go.RowKit
set_option maxRecDepth 100000
noncomputable def q61 (R : List (List Int)) : Nat × List DV × Nat × List DV × Int := if rowsE R 15 = 0 then ((outT R 0 (len0 R)).length, (outT R 0 (len0 R)).map vI, (erT R 0 (len0 R)).length, (erT R 0 (len0 R)).map vI, 0) else (0, [], 0, [], rowsE R 15)
def q62 (b : List Int) : Nat × List DV × Int := if b.length > 128 then (0, [], 5) else (2 * b.length, (nibs b).map vI, 0)
def q63 (l : List Int) : Nat × List DV × Int := if packE l = 0 then (l.length / 2, (packs l).map v8, 0) else (0, [], packE l)
theorem same30 (a : List Int) (h : a.length ≤ 1000) : F30 a.length (a.map vI) a.length (a.map vI) = some true := by rw [F30_eq a a h, decide_eq_true rfl]
theorem none30 : F30 0 [] 0 [] = some true := same30 [] (by simp)
theorem none50 : F50 0 [] 0 [] = some true := F50_refl [] (by simp) (by simp)
theorem none69 : F69 0 [] 0 [] = some true := F69_refl [] (by intro x hx; cases hx)
theorem out_len (R : List (List Int)) (i m : Nat) : (outT R i m).length = m := by unfold outT; simp
theorem er_len (R : List (List Int)) (i m : Nat) : (erT R i m).length ≤ m := by
 unfold erT
 rw [List.length_map]
 exact Nat.le_trans (List.length_filter_le _ _) (by simp)
theorem packs_ok : ∀ (k : Nat) (l : List Int), l.length ≤ k → okN l → okB (packs l)
 | 0, l, h, _ => by
  have : l = [] := List.length_eq_zero_iff.1 (by omega)
  subst this
  intro x hx; cases hx
 | k + 1, [], _, _ => by intro x hx; cases hx
 | k + 1, [a], _, _ => by intro x hx; cases hx
 | k + 1, a :: c :: l, h, ho => by
  intro x hx
  have ha := ho a (by simp)
  have hc := ho c (by simp)
  rw [packs] at hx
  rcases List.mem_cons.1 hx with rfl | hx
  ·omega
  ·exact packs_ok k l (by simp at h; omega) (fun y hy => ho y (by simp [hy])) x hx
theorem same69 {l : List Int} (h : packE l = 0) : F69 (l.length / 2) ((packs l).map v8) (l.length / 2) ((packs l).map v8) = some true := by
 obtain ⟨_, ho, he⟩ := packE_zero.1 h
 have hp := packs_len (l.length / 2) l (by omega)
 have := F69_refl (packs l) (packs_ok l.length l (Nat.le_refl _) ho)
 rw [hp] at this
 exact this
theorem sameN (b : List Int) (h : b.length ≤ 300) : F30 (2 * b.length) ((nibs b).map vI) (2 * b.length) ((nibs b).map vI) = some true := by
 have := same30 (nibs b) (by rw [nibs_len]; omega)
 rw [nibs_len] at this
 exact this
theorem T4_111 (l : List Int) (hl : l.length ≤ 300) (R : List (List Int)) (hm : R.length ≤ 300) (hL : ∀ r ∈ R, r.length ≤ 300) (b : List Int) (hb : b.length ≤ 300) (ho : okB b) (t : Int) (h1 : ¬ repE l t = 0) (h2 : rowsE R 15 = 0) (h3 : b.length > 128) (h4 : packE l = 0) :
  res B8 (.c4 l.length (l.map vI) b.length (b.map v8) 0 [] (repE l t) (q61 R).1 (q61 R).2.1 (q61 R).2.2.1 (q61 R).2.2.2.1 (q61 R).2.2.2.2 (q62 b).1 (q62 b).2.1 (q62 b).2.2 (q63 l).1 (q63 l).2.1 (q63 l).2.2 (repE l t) (rowsE R 15) (whenI (decide ((b.length : Int) > 128)) 5) (packE l) R.length (R.map rD) t) = some true := by
 have hg := good_of hm hL 15 h2
 have e66 := F66_eq hg
 have ea := same30 (outT R 0 (len0 R)) (by rw [out_len]; have := hg.le; omega)
 have ee := same30 (erT R 0 (len0 R)) (by have := er_len R 0 (len0 R); have := hg.le; omega)
 have e61 : q61 R = ((outT R 0 (len0 R)).length, (outT R 0 (len0 R)).map vI, (erT R 0 (len0 R)).length, (erT R 0 (len0 R)).map vI, 0) := if_pos h2
 have w3 : whenI (decide ((b.length : Int) > 128)) 5 = 5 := by rw [decide_eq_true (by omega : (b.length : Int) > 128)]; rfl
 have b3 : ((5 : Int) == 0) = false := rfl
 have e62 : q62 b = (0, [], 5) := if_pos h3
 obtain ⟨_, ho4, he4⟩ := packE_zero.1 h4
 have e68 := F68_eq l hl ho4 he4
 have e69 := same69 h4
 have e63 : q63 l = (l.length / 2, (packs l).map v8, 0) := if_pos h4
 rw [e61, e62, e63, w3, h2, h4]
 rw [res_eq]
 simp only [B8, ca, sem_triv, sem_tr3, sem_br, sem_bind_some, sem_sees, sem_nxt, stepO_nxt, sem_ret, stepO_ret, f15_eq, beq_self_eq_true, if_true, ite_self, e66, ea, ee, b3, none30, e68, e69, none50, Bool.false_eq_true, if_false]
 rw [res_eq]
 simp only [B8, ca, sem_triv, sem_tr3, sem_br, sem_bind_some, sem_sees, sem_nxt, stepO_nxt, sem_ret, stepO_ret, f15_eq, beq_self_eq_true, if_true, ite_self, e66, ea, ee, b3, none30, e68, e69, none50, Bool.false_eq_true, if_false]
 rw [res_eq]
 simp only [B8, ca, sem_triv, sem_tr3, sem_br, sem_bind_some, sem_sees, sem_nxt, stepO_nxt, sem_ret, stepO_ret, f15_eq, beq_self_eq_true, if_true, ite_self, e66, ea, ee, b3, none30, e68, e69, none50, Bool.false_eq_true, if_false]
 rw [res_eq]
 simp only [B8, ca, sem_triv, sem_tr3, sem_br, sem_bind_some, sem_sees, sem_nxt, stepO_nxt, sem_ret, stepO_ret, f15_eq, beq_self_eq_true, if_true, ite_self, e66, ea, ee, b3, none30, e68, e69, none50, Bool.false_eq_true, if_false]
theorem T4_110 (l : List Int) (hl : l.length ≤ 300) (R : List (List Int)) (hm : R.length ≤ 300) (hL : ∀ r ∈ R, r.length ≤ 300) (b : List Int) (hb : b.length ≤ 300) (ho : okB b) (t : Int) (h1 : ¬ repE l t = 0) (h2 : rowsE R 15 = 0) (h3 : b.length > 128) (h4 : ¬ packE l = 0) :
  res B8 (.c4 l.length (l.map vI) b.length (b.map v8) 0 [] (repE l t) (q61 R).1 (q61 R).2.1 (q61 R).2.2.1 (q61 R).2.2.2.1 (q61 R).2.2.2.2 (q62 b).1 (q62 b).2.1 (q62 b).2.2 (q63 l).1 (q63 l).2.1 (q63 l).2.2 (repE l t) (rowsE R 15) (whenI (decide ((b.length : Int) > 128)) 5) (packE l) R.length (R.map rD) t) = some true := by
 have hg := good_of hm hL 15 h2
 have e66 := F66_eq hg
 have ea := same30 (outT R 0 (len0 R)) (by rw [out_len]; have := hg.le; omega)
 have ee := same30 (erT R 0 (len0 R)) (by have := er_len R 0 (len0 R); have := hg.le; omega)
 have e61 : q61 R = ((outT R 0 (len0 R)).length, (outT R 0 (len0 R)).map vI, (erT R 0 (len0 R)).length, (erT R 0 (len0 R)).map vI, 0) := if_pos h2
 have w3 : whenI (decide ((b.length : Int) > 128)) 5 = 5 := by rw [decide_eq_true (by omega : (b.length : Int) > 128)]; rfl
 have b3 : ((5 : Int) == 0) = false := rfl
 have e62 : q62 b = (0, [], 5) := if_pos h3
 have b4 : (packE l == 0) = false := by simpa using h4
 have e63 : q63 l = (0, [], packE l) := if_neg h4
 rw [e61, e62, e63, w3, h2]
 rw [res_eq]
 simp only [B8, ca, sem_triv, sem_tr3, sem_br, sem_bind_some, sem_sees, sem_nxt, stepO_nxt, sem_ret, stepO_ret, f15_eq, beq_self_eq_true, if_true, ite_self, e66, ea, ee, b3, none30, b4, none69, none50, Bool.false_eq_true, if_false]
 rw [res_eq]
 simp only [B8, ca, sem_triv, sem_tr3, sem_br, sem_bind_some, sem_sees, sem_nxt, stepO_nxt, sem_ret, stepO_ret, f15_eq, beq_self_eq_true, if_true, ite_self, e66, ea, ee, b3, none30, b4, none69, none50, Bool.false_eq_true, if_false]
 rw [res_eq]
 simp only [B8, ca, sem_triv, sem_tr3, sem_br, sem_bind_some, sem_sees, sem_nxt, stepO_nxt, sem_ret, stepO_ret, f15_eq, beq_self_eq_true, if_true, ite_self, e66, ea, ee, b3, none30, b4, none69, none50, Bool.false_eq_true, if_false]
 rw [res_eq]
 simp only [B8, ca, sem_triv, sem_tr3, sem_br, sem_bind_some, sem_sees, sem_nxt, stepO_nxt, sem_ret, stepO_ret, f15_eq, beq_self_eq_true, if_true, ite_self, e66, ea, ee, b3, none30, b4, none69, none50, Bool.false_eq_true, if_false]
theorem T4_101 (l : List Int) (hl : l.length ≤ 300) (R : List (List Int)) (hm : R.length ≤ 300) (hL : ∀ r ∈ R, r.length ≤ 300) (b : List Int) (hb : b.length ≤ 300) (ho : okB b) (t : Int) (h1 : ¬ repE l t = 0) (h2 : rowsE R 15 = 0) (h3 : ¬ b.length > 128) (h4 : packE l = 0) :
  res B8 (.c4 l.length (l.map vI) b.length (b.map v8) 0 [] (repE l t) (q61 R).1 (q61 R).2.1 (q61 R).2.2.1 (q61 R).2.2.2.1 (q61 R).2.2.2.2 (q62 b).1 (q62 b).2.1 (q62 b).2.2 (q63 l).1 (q63 l).2.1 (q63 l).2.2 (repE l t) (rowsE R 15) (whenI (decide ((b.length : Int) > 128)) 5) (packE l) R.length (R.map rD) t) = some true := by
 have hg := good_of hm hL 15 h2
 have e66 := F66_eq hg
 have ea := same30 (outT R 0 (len0 R)) (by rw [out_len]; have := hg.le; omega)
 have ee := same30 (erT R 0 (len0 R)) (by have := er_len R 0 (len0 R); have := hg.le; omega)
 have e61 : q61 R = ((outT R 0 (len0 R)).length, (outT R 0 (len0 R)).map vI, (erT R 0 (len0 R)).length, (erT R 0 (len0 R)).map vI, 0) := if_pos h2
 have w3 : whenI (decide ((b.length : Int) > 128)) 5 = 0 := by rw [decide_eq_false (by omega : ¬ (b.length : Int) > 128)]; rfl
 have e67 := F67_eq b hb ho
 have en := sameN b hb
 have e62 : q62 b = (2 * b.length, (nibs b).map vI, 0) := if_neg h3
 obtain ⟨_, ho4, he4⟩ := packE_zero.1 h4
 have e68 := F68_eq l hl ho4 he4
 have e69 := same69 h4
 have e63 : q63 l = (l.length / 2, (packs l).map v8, 0) := if_pos h4
 rw [e61, e62, e63, w3, h2, h4]
 rw [res_eq]
 simp only [B8, ca, sem_triv, sem_tr3, sem_br, sem_bind_some, sem_sees, sem_nxt, stepO_nxt, sem_ret, stepO_ret, f15_eq, beq_self_eq_true, if_true, ite_self, e66, ea, ee, e67, en, e68, e69, none50, Bool.false_eq_true, if_false]
 rw [res_eq]
 simp only [B8, ca, sem_triv, sem_tr3, sem_br, sem_bind_some, sem_sees, sem_nxt, stepO_nxt, sem_ret, stepO_ret, f15_eq, beq_self_eq_true, if_true, ite_self, e66, ea, ee, e67, en, e68, e69, none50, Bool.false_eq_true, if_false]
 rw [res_eq]
 simp only [B8, ca, sem_triv, sem_tr3, sem_br, sem_bind_some, sem_sees, sem_nxt, stepO_nxt, sem_ret, stepO_ret, f15_eq, beq_self_eq_true, if_true, ite_self, e66, ea, ee, e67, en, e68, e69, none50, Bool.false_eq_true, if_false]
 rw [res_eq]
 simp only [B8, ca, sem_triv, sem_tr3, sem_br, sem_bind_some, sem_sees, sem_nxt, stepO_nxt, sem_ret, stepO_ret, f15_eq, beq_self_eq_true, if_true, ite_self, e66, ea, ee, e67, en, e68, e69, none50, Bool.false_eq_true, if_false]
theorem T4_100 (l : List Int) (hl : l.length ≤ 300) (R : List (List Int)) (hm : R.length ≤ 300) (hL : ∀ r ∈ R, r.length ≤ 300) (b : List Int) (hb : b.length ≤ 300) (ho : okB b) (t : Int) (h1 : ¬ repE l t = 0) (h2 : rowsE R 15 = 0) (h3 : ¬ b.length > 128) (h4 : ¬ packE l = 0) :
  res B8 (.c4 l.length (l.map vI) b.length (b.map v8) 0 [] (repE l t) (q61 R).1 (q61 R).2.1 (q61 R).2.2.1 (q61 R).2.2.2.1 (q61 R).2.2.2.2 (q62 b).1 (q62 b).2.1 (q62 b).2.2 (q63 l).1 (q63 l).2.1 (q63 l).2.2 (repE l t) (rowsE R 15) (whenI (decide ((b.length : Int) > 128)) 5) (packE l) R.length (R.map rD) t) = some true := by
 have hg := good_of hm hL 15 h2
 have e66 := F66_eq hg
 have ea := same30 (outT R 0 (len0 R)) (by rw [out_len]; have := hg.le; omega)
 have ee := same30 (erT R 0 (len0 R)) (by have := er_len R 0 (len0 R); have := hg.le; omega)
 have e61 : q61 R = ((outT R 0 (len0 R)).length, (outT R 0 (len0 R)).map vI, (erT R 0 (len0 R)).length, (erT R 0 (len0 R)).map vI, 0) := if_pos h2
 have w3 : whenI (decide ((b.length : Int) > 128)) 5 = 0 := by rw [decide_eq_false (by omega : ¬ (b.length : Int) > 128)]; rfl
 have e67 := F67_eq b hb ho
 have en := sameN b hb
 have e62 : q62 b = (2 * b.length, (nibs b).map vI, 0) := if_neg h3
 have b4 : (packE l == 0) = false := by simpa using h4
 have e63 : q63 l = (0, [], packE l) := if_neg h4
 rw [e61, e62, e63, w3, h2]
 rw [res_eq]
 simp only [B8, ca, sem_triv, sem_tr3, sem_br, sem_bind_some, sem_sees, sem_nxt, stepO_nxt, sem_ret, stepO_ret, f15_eq, beq_self_eq_true, if_true, ite_self, e66, ea, ee, e67, en, b4, none69, none50, Bool.false_eq_true, if_false]
 rw [res_eq]
 simp only [B8, ca, sem_triv, sem_tr3, sem_br, sem_bind_some, sem_sees, sem_nxt, stepO_nxt, sem_ret, stepO_ret, f15_eq, beq_self_eq_true, if_true, ite_self, e66, ea, ee, e67, en, b4, none69, none50, Bool.false_eq_true, if_false]
 rw [res_eq]
 simp only [B8, ca, sem_triv, sem_tr3, sem_br, sem_bind_some, sem_sees, sem_nxt, stepO_nxt, sem_ret, stepO_ret, f15_eq, beq_self_eq_true, if_true, ite_self, e66, ea, ee, e67, en, b4, none69, none50, Bool.false_eq_true, if_false]
 rw [res_eq]
 simp only [B8, ca, sem_triv, sem_tr3, sem_br, sem_bind_some, sem_sees, sem_nxt, stepO_nxt, sem_ret, stepO_ret, f15_eq, beq_self_eq_true, if_true, ite_self, e66, ea, ee, e67, en, b4, none69, none50, Bool.false_eq_true, if_false]
theorem T4_011 (l : List Int) (hl : l.length ≤ 300) (R : List (List Int)) (hm : R.length ≤ 300) (hL : ∀ r ∈ R, r.length ≤ 300) (b : List Int) (hb : b.length ≤ 300) (ho : okB b) (t : Int) (h1 : ¬ repE l t = 0) (h2 : ¬ rowsE R 15 = 0) (h3 : b.length > 128) (h4 : packE l = 0) :
  res B8 (.c4 l.length (l.map vI) b.length (b.map v8) 0 [] (repE l t) (q61 R).1 (q61 R).2.1 (q61 R).2.2.1 (q61 R).2.2.2.1 (q61 R).2.2.2.2 (q62 b).1 (q62 b).2.1 (q62 b).2.2 (q63 l).1 (q63 l).2.1 (q63 l).2.2 (repE l t) (rowsE R 15) (whenI (decide ((b.length : Int) > 128)) 5) (packE l) R.length (R.map rD) t) = some true := by
 have b2 : (rowsE R 15 == 0) = false := by simpa using h2
 have e61 : q61 R = (0, [], 0, [], rowsE R 15) := if_neg h2
 have w3 : whenI (decide ((b.length : Int) > 128)) 5 = 5 := by rw [decide_eq_true (by omega : (b.length : Int) > 128)]; rfl
 have b3 : ((5 : Int) == 0) = false := rfl
 have e62 : q62 b = (0, [], 5) := if_pos h3
 obtain ⟨_, ho4, he4⟩ := packE_zero.1 h4
 have e68 := F68_eq l hl ho4 he4
 have e69 := same69 h4
 have e63 : q63 l = (l.length / 2, (packs l).map v8, 0) := if_pos h4
 rw [e61, e62, e63, w3, h4]
 rw [res_eq]
 simp only [B8, ca, sem_triv, sem_tr3, sem_br, sem_bind_some, sem_sees, sem_nxt, stepO_nxt, sem_ret, stepO_ret, f15_eq, beq_self_eq_true, if_true, ite_self, b2, none30, b3, e68, e69, none50, Bool.false_eq_true, if_false]
 rw [res_eq]
 simp only [B8, ca, sem_triv, sem_tr3, sem_br, sem_bind_some, sem_sees, sem_nxt, stepO_nxt, sem_ret, stepO_ret, f15_eq, beq_self_eq_true, if_true, ite_self, b2, none30, b3, e68, e69, none50, Bool.false_eq_true, if_false]
 rw [res_eq]
 simp only [B8, ca, sem_triv, sem_tr3, sem_br, sem_bind_some, sem_sees, sem_nxt, stepO_nxt, sem_ret, stepO_ret, f15_eq, beq_self_eq_true, if_true, ite_self, b2, none30, b3, e68, e69, none50, Bool.false_eq_true, if_false]
 rw [res_eq]
 simp only [B8, ca, sem_triv, sem_tr3, sem_br, sem_bind_some, sem_sees, sem_nxt, stepO_nxt, sem_ret, stepO_ret, f15_eq, beq_self_eq_true, if_true, ite_self, b2, none30, b3, e68, e69, none50, Bool.false_eq_true, if_false]
theorem T4_010 (l : List Int) (hl : l.length ≤ 300) (R : List (List Int)) (hm : R.length ≤ 300) (hL : ∀ r ∈ R, r.length ≤ 300) (b : List Int) (hb : b.length ≤ 300) (ho : okB b) (t : Int) (h1 : ¬ repE l t = 0) (h2 : ¬ rowsE R 15 = 0) (h3 : b.length > 128) (h4 : ¬ packE l = 0) :
  res B8 (.c4 l.length (l.map vI) b.length (b.map v8) 0 [] (repE l t) (q61 R).1 (q61 R).2.1 (q61 R).2.2.1 (q61 R).2.2.2.1 (q61 R).2.2.2.2 (q62 b).1 (q62 b).2.1 (q62 b).2.2 (q63 l).1 (q63 l).2.1 (q63 l).2.2 (repE l t) (rowsE R 15) (whenI (decide ((b.length : Int) > 128)) 5) (packE l) R.length (R.map rD) t) = some true := by
 have b2 : (rowsE R 15 == 0) = false := by simpa using h2
 have e61 : q61 R = (0, [], 0, [], rowsE R 15) := if_neg h2
 have w3 : whenI (decide ((b.length : Int) > 128)) 5 = 5 := by rw [decide_eq_true (by omega : (b.length : Int) > 128)]; rfl
 have b3 : ((5 : Int) == 0) = false := rfl
 have e62 : q62 b = (0, [], 5) := if_pos h3
 have b4 : (packE l == 0) = false := by simpa using h4
 have e63 : q63 l = (0, [], packE l) := if_neg h4
 rw [e61, e62, e63, w3]
 rw [res_eq]
 simp only [B8, ca, sem_triv, sem_tr3, sem_br, sem_bind_some, sem_sees, sem_nxt, stepO_nxt, sem_ret, stepO_ret, f15_eq, beq_self_eq_true, if_true, ite_self, b2, none30, b3, b4, none69, none50, Bool.false_eq_true, if_false]
 rw [res_eq]
 simp only [B8, ca, sem_triv, sem_tr3, sem_br, sem_bind_some, sem_sees, sem_nxt, stepO_nxt, sem_ret, stepO_ret, f15_eq, beq_self_eq_true, if_true, ite_self, b2, none30, b3, b4, none69, none50, Bool.false_eq_true, if_false]
 rw [res_eq]
 simp only [B8, ca, sem_triv, sem_tr3, sem_br, sem_bind_some, sem_sees, sem_nxt, stepO_nxt, sem_ret, stepO_ret, f15_eq, beq_self_eq_true, if_true, ite_self, b2, none30, b3, b4, none69, none50, Bool.false_eq_true, if_false]
 rw [res_eq]
 simp only [B8, ca, sem_triv, sem_tr3, sem_br, sem_bind_some, sem_sees, sem_nxt, stepO_nxt, sem_ret, stepO_ret, f15_eq, beq_self_eq_true, if_true, ite_self, b2, none30, b3, b4, none69, none50, Bool.false_eq_true, if_false]
theorem T4_001 (l : List Int) (hl : l.length ≤ 300) (R : List (List Int)) (hm : R.length ≤ 300) (hL : ∀ r ∈ R, r.length ≤ 300) (b : List Int) (hb : b.length ≤ 300) (ho : okB b) (t : Int) (h1 : ¬ repE l t = 0) (h2 : ¬ rowsE R 15 = 0) (h3 : ¬ b.length > 128) (h4 : packE l = 0) :
  res B8 (.c4 l.length (l.map vI) b.length (b.map v8) 0 [] (repE l t) (q61 R).1 (q61 R).2.1 (q61 R).2.2.1 (q61 R).2.2.2.1 (q61 R).2.2.2.2 (q62 b).1 (q62 b).2.1 (q62 b).2.2 (q63 l).1 (q63 l).2.1 (q63 l).2.2 (repE l t) (rowsE R 15) (whenI (decide ((b.length : Int) > 128)) 5) (packE l) R.length (R.map rD) t) = some true := by
 have b2 : (rowsE R 15 == 0) = false := by simpa using h2
 have e61 : q61 R = (0, [], 0, [], rowsE R 15) := if_neg h2
 have w3 : whenI (decide ((b.length : Int) > 128)) 5 = 0 := by rw [decide_eq_false (by omega : ¬ (b.length : Int) > 128)]; rfl
 have e67 := F67_eq b hb ho
 have en := sameN b hb
 have e62 : q62 b = (2 * b.length, (nibs b).map vI, 0) := if_neg h3
 obtain ⟨_, ho4, he4⟩ := packE_zero.1 h4
 have e68 := F68_eq l hl ho4 he4
 have e69 := same69 h4
 have e63 : q63 l = (l.length / 2, (packs l).map v8, 0) := if_pos h4
 rw [e61, e62, e63, w3, h4]
 rw [res_eq]
 simp only [B8, ca, sem_triv, sem_tr3, sem_br, sem_bind_some, sem_sees, sem_nxt, stepO_nxt, sem_ret, stepO_ret, f15_eq, beq_self_eq_true, if_true, ite_self, b2, none30, e67, en, e68, e69, none50, Bool.false_eq_true, if_false]
 rw [res_eq]
 simp only [B8, ca, sem_triv, sem_tr3, sem_br, sem_bind_some, sem_sees, sem_nxt, stepO_nxt, sem_ret, stepO_ret, f15_eq, beq_self_eq_true, if_true, ite_self, b2, none30, e67, en, e68, e69, none50, Bool.false_eq_true, if_false]
 rw [res_eq]
 simp only [B8, ca, sem_triv, sem_tr3, sem_br, sem_bind_some, sem_sees, sem_nxt, stepO_nxt, sem_ret, stepO_ret, f15_eq, beq_self_eq_true, if_true, ite_self, b2, none30, e67, en, e68, e69, none50, Bool.false_eq_true, if_false]
 rw [res_eq]
 simp only [B8, ca, sem_triv, sem_tr3, sem_br, sem_bind_some, sem_sees, sem_nxt, stepO_nxt, sem_ret, stepO_ret, f15_eq, beq_self_eq_true, if_true, ite_self, b2, none30, e67, en, e68, e69, none50, Bool.false_eq_true, if_false]
theorem T4_000 (l : List Int) (hl : l.length ≤ 300) (R : List (List Int)) (hm : R.length ≤ 300) (hL : ∀ r ∈ R, r.length ≤ 300) (b : List Int) (hb : b.length ≤ 300) (ho : okB b) (t : Int) (h1 : ¬ repE l t = 0) (h2 : ¬ rowsE R 15 = 0) (h3 : ¬ b.length > 128) (h4 : ¬ packE l = 0) :
  res B8 (.c4 l.length (l.map vI) b.length (b.map v8) 0 [] (repE l t) (q61 R).1 (q61 R).2.1 (q61 R).2.2.1 (q61 R).2.2.2.1 (q61 R).2.2.2.2 (q62 b).1 (q62 b).2.1 (q62 b).2.2 (q63 l).1 (q63 l).2.1 (q63 l).2.2 (repE l t) (rowsE R 15) (whenI (decide ((b.length : Int) > 128)) 5) (packE l) R.length (R.map rD) t) = some true := by
 have b2 : (rowsE R 15 == 0) = false := by simpa using h2
 have e61 : q61 R = (0, [], 0, [], rowsE R 15) := if_neg h2
 have w3 : whenI (decide ((b.length : Int) > 128)) 5 = 0 := by rw [decide_eq_false (by omega : ¬ (b.length : Int) > 128)]; rfl
 have e67 := F67_eq b hb ho
 have en := sameN b hb
 have e62 : q62 b = (2 * b.length, (nibs b).map vI, 0) := if_neg h3
 have b4 : (packE l == 0) = false := by simpa using h4
 have e63 : q63 l = (0, [], packE l) := if_neg h4
 rw [e61, e62, e63, w3]
 rw [res_eq]
 simp only [B8, ca, sem_triv, sem_tr3, sem_br, sem_bind_some, sem_sees, sem_nxt, stepO_nxt, sem_ret, stepO_ret, f15_eq, beq_self_eq_true, if_true, ite_self, b2, none30, e67, en, b4, none69, none50, Bool.false_eq_true, if_false]
 rw [res_eq]
 simp only [B8, ca, sem_triv, sem_tr3, sem_br, sem_bind_some, sem_sees, sem_nxt, stepO_nxt, sem_ret, stepO_ret, f15_eq, beq_self_eq_true, if_true, ite_self, b2, none30, e67, en, b4, none69, none50, Bool.false_eq_true, if_false]
 rw [res_eq]
 simp only [B8, ca, sem_triv, sem_tr3, sem_br, sem_bind_some, sem_sees, sem_nxt, stepO_nxt, sem_ret, stepO_ret, f15_eq, beq_self_eq_true, if_true, ite_self, b2, none30, e67, en, b4, none69, none50, Bool.false_eq_true, if_false]
 rw [res_eq]
 simp only [B8, ca, sem_triv, sem_tr3, sem_br, sem_bind_some, sem_sees, sem_nxt, stepO_nxt, sem_ret, stepO_ret, f15_eq, beq_self_eq_true, if_true, ite_self, b2, none30, e67, en, b4, none69, none50, Bool.false_eq_true, if_false]
theorem T3_111 (l : List Int) (hl : l.length ≤ 300) (R : List (List Int)) (hm : R.length ≤ 300) (hL : ∀ r ∈ R, r.length ≤ 300) (b : List Int) (hb : b.length ≤ 300) (ho : okB b) (t : Int) (h1 : repE l t = 0) (h2 : rowsE R 15 = 0) (h3 : b.length > 128) (h4 : packE l = 0) :
  res B8 (.c3 l.length (l.map vI) b.length (b.map v8) t.toNat (List.replicate t.toNat (rD l)) 0 (q61 R).1 (q61 R).2.1 (q61 R).2.2.1 (q61 R).2.2.2.1 (q61 R).2.2.2.2 (q62 b).1 (q62 b).2.1 (q62 b).2.2 (q63 l).1 (q63 l).2.1 (q63 l).2.2 (repE l t) (rowsE R 15) (whenI (decide ((b.length : Int) > 128)) 5) (packE l) t 0 R.length (R.map rD)) = some true := by
 have hg := good_of hm hL 15 h2
 have e66 := F66_eq hg
 have ea := same30 (outT R 0 (len0 R)) (by rw [out_len]; have := hg.le; omega)
 have ee := same30 (erT R 0 (len0 R)) (by have := er_len R 0 (len0 R); have := hg.le; omega)
 have e61 : q61 R = ((outT R 0 (len0 R)).length, (outT R 0 (len0 R)).map vI, (erT R 0 (len0 R)).length, (erT R 0 (len0 R)).map vI, 0) := if_pos h2
 have w3 : whenI (decide ((b.length : Int) > 128)) 5 = 5 := by rw [decide_eq_true (by omega : (b.length : Int) > 128)]; rfl
 have b3 : ((5 : Int) == 0) = false := rfl
 have e62 : q62 b = (0, [], 5) := if_pos h3
 obtain ⟨_, ho4, he4⟩ := packE_zero.1 h4
 have e68 := F68_eq l hl ho4 he4
 have e69 := same69 h4
 have e63 : q63 l = (l.length / 2, (packs l).map v8, 0) := if_pos h4
 rw [e61, e62, e63, w3, h2, h4, h1]
 have hr : 1 ≤ t ∧ t ≤ 15 := by unfold repE at h1; rw [firstI_zero, firstI_zero, rangeI_zero] at h1; exact h1.2.1
 obtain ⟨n, rfl⟩ := Int.eq_ofNat_of_zero_le (by omega : 0 ≤ t)
 have hn : n ≤ 15 := by omega
 have q1 : (0 : Int) < (n : Int) := by omega
 have q2 : inI64 ((0 : Int) + 1) := by unfold inI64; omega
 have q3 : ¬ ((n : Int) < (n : Int)) := by omega
 have e50 : F50 n (List.replicate n (rD l)) n (List.replicate n (rD l)) = some true := by
  have := F50_refl (List.replicate n l) (by simp; omega) (by intro r hr; rw [List.eq_of_mem_replicate hr]; omega)
  rw [List.length_replicate, List.map_replicate] at this
  exact this
 rw [res_eq]
 simp only [B8, ca, sem_br, q1, decide_true, if_true, sem_ask, PC.holds, q2, need_true, sem_nxt, stepO_nxt, Int.toNat_natCast]
 have hh := B8_c5 l n hn b.length (b.map v8) n (List.replicate n (rD l)) 0 (q61 R).1 (q61 R).2.1 (q61 R).2.2.1 (q61 R).2.2.2.1 (q61 R).2.2.2.2 (q62 b).1 (q62 b).2.1 (q62 b).2.2 (q63 l).1 (q63 l).2.1 (q63 l).2.2 0 (rowsE R 15) (whenI (decide ((b.length : Int) > 128)) 5) (packE l) R.length (R.map rD)
 rw [e61, e62, e63, w3, h2, h4] at hh
 refine Eq.trans ?_ ((hh (n - 1) 1 (by omega) (by omega)).trans ?_)
 ·rfl
 ·rw [res_eq]
  simp only [B8, ca, sem_triv, sem_tr3, sem_br, sem_bind_some, sem_sees, sem_nxt, stepO_nxt, sem_ret, stepO_ret, f15_eq, beq_self_eq_true, if_true, ite_self, e66, ea, ee, b3, none30, e68, e69, e50, q3, decide_false, Bool.false_eq_true, if_false]
  rw [res_eq]
  simp only [B8, ca, sem_triv, sem_tr3, sem_br, sem_bind_some, sem_sees, sem_nxt, stepO_nxt, sem_ret, stepO_ret, f15_eq, beq_self_eq_true, if_true, ite_self, e66, ea, ee, b3, none30, e68, e69, e50, q3, decide_false, Bool.false_eq_true, if_false]
  rw [res_eq]
  simp only [B8, ca, sem_triv, sem_tr3, sem_br, sem_bind_some, sem_sees, sem_nxt, stepO_nxt, sem_ret, stepO_ret, f15_eq, beq_self_eq_true, if_true, ite_self, e66, ea, ee, b3, none30, e68, e69, e50, q3, decide_false, Bool.false_eq_true, if_false]
  rw [res_eq]
  simp only [B8, ca, sem_triv, sem_tr3, sem_br, sem_bind_some, sem_sees, sem_nxt, stepO_nxt, sem_ret, stepO_ret, f15_eq, beq_self_eq_true, if_true, ite_self, e66, ea, ee, b3, none30, e68, e69, e50, q3, decide_false, Bool.false_eq_true, if_false]
theorem T3_110 (l : List Int) (hl : l.length ≤ 300) (R : List (List Int)) (hm : R.length ≤ 300) (hL : ∀ r ∈ R, r.length ≤ 300) (b : List Int) (hb : b.length ≤ 300) (ho : okB b) (t : Int) (h1 : repE l t = 0) (h2 : rowsE R 15 = 0) (h3 : b.length > 128) (h4 : ¬ packE l = 0) :
  res B8 (.c3 l.length (l.map vI) b.length (b.map v8) t.toNat (List.replicate t.toNat (rD l)) 0 (q61 R).1 (q61 R).2.1 (q61 R).2.2.1 (q61 R).2.2.2.1 (q61 R).2.2.2.2 (q62 b).1 (q62 b).2.1 (q62 b).2.2 (q63 l).1 (q63 l).2.1 (q63 l).2.2 (repE l t) (rowsE R 15) (whenI (decide ((b.length : Int) > 128)) 5) (packE l) t 0 R.length (R.map rD)) = some true := by
 have hg := good_of hm hL 15 h2
 have e66 := F66_eq hg
 have ea := same30 (outT R 0 (len0 R)) (by rw [out_len]; have := hg.le; omega)
 have ee := same30 (erT R 0 (len0 R)) (by have := er_len R 0 (len0 R); have := hg.le; omega)
 have e61 : q61 R = ((outT R 0 (len0 R)).length, (outT R 0 (len0 R)).map vI, (erT R 0 (len0 R)).length, (erT R 0 (len0 R)).map vI, 0) := if_pos h2
 have w3 : whenI (decide ((b.length : Int) > 128)) 5 = 5 := by rw [decide_eq_true (by omega : (b.length : Int) > 128)]; rfl
 have b3 : ((5 : Int) == 0) = false := rfl
 have e62 : q62 b = (0, [], 5) := if_pos h3
 have b4 : (packE l == 0) = false := by simpa using h4
 have e63 : q63 l = (0, [], packE l) := if_neg h4
 rw [e61, e62, e63, w3, h2, h1]
 have hr : 1 ≤ t ∧ t ≤ 15 := by unfold repE at h1; rw [firstI_zero, firstI_zero, rangeI_zero] at h1; exact h1.2.1
 obtain ⟨n, rfl⟩ := Int.eq_ofNat_of_zero_le (by omega : 0 ≤ t)
 have hn : n ≤ 15 := by omega
 have q1 : (0 : Int) < (n : Int) := by omega
 have q2 : inI64 ((0 : Int) + 1) := by unfold inI64; omega
 have q3 : ¬ ((n : Int) < (n : Int)) := by omega
 have e50 : F50 n (List.replicate n (rD l)) n (List.replicate n (rD l)) = some true := by
  have := F50_refl (List.replicate n l) (by simp; omega) (by intro r hr; rw [List.eq_of_mem_replicate hr]; omega)
  rw [List.length_replicate, List.map_replicate] at this
  exact this
 rw [res_eq]
 simp only [B8, ca, sem_br, q1, decide_true, if_true, sem_ask, PC.holds, q2, need_true, sem_nxt, stepO_nxt, Int.toNat_natCast]
 have hh := B8_c5 l n hn b.length (b.map v8) n (List.replicate n (rD l)) 0 (q61 R).1 (q61 R).2.1 (q61 R).2.2.1 (q61 R).2.2.2.1 (q61 R).2.2.2.2 (q62 b).1 (q62 b).2.1 (q62 b).2.2 (q63 l).1 (q63 l).2.1 (q63 l).2.2 0 (rowsE R 15) (whenI (decide ((b.length : Int) > 128)) 5) (packE l) R.length (R.map rD)
 rw [e61, e62, e63, w3, h2] at hh
 refine Eq.trans ?_ ((hh (n - 1) 1 (by omega) (by omega)).trans ?_)
 ·rfl
 ·rw [res_eq]
  simp only [B8, ca, sem_triv, sem_tr3, sem_br, sem_bind_some, sem_sees, sem_nxt, stepO_nxt, sem_ret, stepO_ret, f15_eq, beq_self_eq_true, if_true, ite_self, e66, ea, ee, b3, none30, b4, none69, e50, q3, decide_false, Bool.false_eq_true, if_false]
  rw [res_eq]
  simp only [B8, ca, sem_triv, sem_tr3, sem_br, sem_bind_some, sem_sees, sem_nxt, stepO_nxt, sem_ret, stepO_ret, f15_eq, beq_self_eq_true, if_true, ite_self, e66, ea, ee, b3, none30, b4, none69, e50, q3, decide_false, Bool.false_eq_true, if_false]
  rw [res_eq]
  simp only [B8, ca, sem_triv, sem_tr3, sem_br, sem_bind_some, sem_sees, sem_nxt, stepO_nxt, sem_ret, stepO_ret, f15_eq, beq_self_eq_true, if_true, ite_self, e66, ea, ee, b3, none30, b4, none69, e50, q3, decide_false, Bool.false_eq_true, if_false]
  rw [res_eq]
  simp only [B8, ca, sem_triv, sem_tr3, sem_br, sem_bind_some, sem_sees, sem_nxt, stepO_nxt, sem_ret, stepO_ret, f15_eq, beq_self_eq_true, if_true, ite_self, e66, ea, ee, b3, none30, b4, none69, e50, q3, decide_false, Bool.false_eq_true, if_false]
theorem T3_101 (l : List Int) (hl : l.length ≤ 300) (R : List (List Int)) (hm : R.length ≤ 300) (hL : ∀ r ∈ R, r.length ≤ 300) (b : List Int) (hb : b.length ≤ 300) (ho : okB b) (t : Int) (h1 : repE l t = 0) (h2 : rowsE R 15 = 0) (h3 : ¬ b.length > 128) (h4 : packE l = 0) :
  res B8 (.c3 l.length (l.map vI) b.length (b.map v8) t.toNat (List.replicate t.toNat (rD l)) 0 (q61 R).1 (q61 R).2.1 (q61 R).2.2.1 (q61 R).2.2.2.1 (q61 R).2.2.2.2 (q62 b).1 (q62 b).2.1 (q62 b).2.2 (q63 l).1 (q63 l).2.1 (q63 l).2.2 (repE l t) (rowsE R 15) (whenI (decide ((b.length : Int) > 128)) 5) (packE l) t 0 R.length (R.map rD)) = some true := by
 have hg := good_of hm hL 15 h2
 have e66 := F66_eq hg
 have ea := same30 (outT R 0 (len0 R)) (by rw [out_len]; have := hg.le; omega)
 have ee := same30 (erT R 0 (len0 R)) (by have := er_len R 0 (len0 R); have := hg.le; omega)
 have e61 : q61 R = ((outT R 0 (len0 R)).length, (outT R 0 (len0 R)).map vI, (erT R 0 (len0 R)).length, (erT R 0 (len0 R)).map vI, 0) := if_pos h2
 have w3 : whenI (decide ((b.length : Int) > 128)) 5 = 0 := by rw [decide_eq_false (by omega : ¬ (b.length : Int) > 128)]; rfl
 have e67 := F67_eq b hb ho
 have en := sameN b hb
 have e62 : q62 b = (2 * b.length, (nibs b).map vI, 0) := if_neg h3
 obtain ⟨_, ho4, he4⟩ := packE_zero.1 h4
 have e68 := F68_eq l hl ho4 he4
 have e69 := same69 h4
 have e63 : q63 l = (l.length / 2, (packs l).map v8, 0) := if_pos h4
 rw [e61, e62, e63, w3, h2, h4, h1]
 have hr : 1 ≤ t ∧ t ≤ 15 := by unfold repE at h1; rw [firstI_zero, firstI_zero, rangeI_zero] at h1; exact h1.2.1
 obtain ⟨n, rfl⟩ := Int.eq_ofNat_of_zero_le (by omega : 0 ≤ t)
 have hn : n ≤ 15 := by omega
 have q1 : (0 : Int) < (n : Int) := by omega
 have q2 : inI64 ((0 : Int) + 1) := by unfold inI64; omega
 have q3 : ¬ ((n : Int) < (n : Int)) := by omega
 have e50 : F50 n (List.replicate n (rD l)) n (List.replicate n (rD l)) = some true := by
  have := F50_refl (List.replicate n l) (by simp; omega) (by intro r hr; rw [List.eq_of_mem_replicate hr]; omega)
  rw [List.length_replicate, List.map_replicate] at this
  exact this
 rw [res_eq]
 simp only [B8, ca, sem_br, q1, decide_true, if_true, sem_ask, PC.holds, q2, need_true, sem_nxt, stepO_nxt, Int.toNat_natCast]
 have hh := B8_c5 l n hn b.length (b.map v8) n (List.replicate n (rD l)) 0 (q61 R).1 (q61 R).2.1 (q61 R).2.2.1 (q61 R).2.2.2.1 (q61 R).2.2.2.2 (q62 b).1 (q62 b).2.1 (q62 b).2.2 (q63 l).1 (q63 l).2.1 (q63 l).2.2 0 (rowsE R 15) (whenI (decide ((b.length : Int) > 128)) 5) (packE l) R.length (R.map rD)
 rw [e61, e62, e63, w3, h2, h4] at hh
 refine Eq.trans ?_ ((hh (n - 1) 1 (by omega) (by omega)).trans ?_)
 ·rfl
 ·rw [res_eq]
  simp only [B8, ca, sem_triv, sem_tr3, sem_br, sem_bind_some, sem_sees, sem_nxt, stepO_nxt, sem_ret, stepO_ret, f15_eq, beq_self_eq_true, if_true, ite_self, e66, ea, ee, e67, en, e68, e69, e50, q3, decide_false, Bool.false_eq_true, if_false]
  rw [res_eq]
  simp only [B8, ca, sem_triv, sem_tr3, sem_br, sem_bind_some, sem_sees, sem_nxt, stepO_nxt, sem_ret, stepO_ret, f15_eq, beq_self_eq_true, if_true, ite_self, e66, ea, ee, e67, en, e68, e69, e50, q3, decide_false, Bool.false_eq_true, if_false]
  rw [res_eq]
  simp only [B8, ca, sem_triv, sem_tr3, sem_br, sem_bind_some, sem_sees, sem_nxt, stepO_nxt, sem_ret, stepO_ret, f15_eq, beq_self_eq_true, if_true, ite_self, e66, ea, ee, e67, en, e68, e69, e50, q3, decide_false, Bool.false_eq_true, if_false]
  rw [res_eq]
  simp only [B8, ca, sem_triv, sem_tr3, sem_br, sem_bind_some, sem_sees, sem_nxt, stepO_nxt, sem_ret, stepO_ret, f15_eq, beq_self_eq_true, if_true, ite_self, e66, ea, ee, e67, en, e68, e69, e50, q3, decide_false, Bool.false_eq_true, if_false]
theorem T3_100 (l : List Int) (hl : l.length ≤ 300) (R : List (List Int)) (hm : R.length ≤ 300) (hL : ∀ r ∈ R, r.length ≤ 300) (b : List Int) (hb : b.length ≤ 300) (ho : okB b) (t : Int) (h1 : repE l t = 0) (h2 : rowsE R 15 = 0) (h3 : ¬ b.length > 128) (h4 : ¬ packE l = 0) :
  res B8 (.c3 l.length (l.map vI) b.length (b.map v8) t.toNat (List.replicate t.toNat (rD l)) 0 (q61 R).1 (q61 R).2.1 (q61 R).2.2.1 (q61 R).2.2.2.1 (q61 R).2.2.2.2 (q62 b).1 (q62 b).2.1 (q62 b).2.2 (q63 l).1 (q63 l).2.1 (q63 l).2.2 (repE l t) (rowsE R 15) (whenI (decide ((b.length : Int) > 128)) 5) (packE l) t 0 R.length (R.map rD)) = some true := by
 have hg := good_of hm hL 15 h2
 have e66 := F66_eq hg
 have ea := same30 (outT R 0 (len0 R)) (by rw [out_len]; have := hg.le; omega)
 have ee := same30 (erT R 0 (len0 R)) (by have := er_len R 0 (len0 R); have := hg.le; omega)
 have e61 : q61 R = ((outT R 0 (len0 R)).length, (outT R 0 (len0 R)).map vI, (erT R 0 (len0 R)).length, (erT R 0 (len0 R)).map vI, 0) := if_pos h2
 have w3 : whenI (decide ((b.length : Int) > 128)) 5 = 0 := by rw [decide_eq_false (by omega : ¬ (b.length : Int) > 128)]; rfl
 have e67 := F67_eq b hb ho
 have en := sameN b hb
 have e62 : q62 b = (2 * b.length, (nibs b).map vI, 0) := if_neg h3
 have b4 : (packE l == 0) = false := by simpa using h4
 have e63 : q63 l = (0, [], packE l) := if_neg h4
 rw [e61, e62, e63, w3, h2, h1]
 have hr : 1 ≤ t ∧ t ≤ 15 := by unfold repE at h1; rw [firstI_zero, firstI_zero, rangeI_zero] at h1; exact h1.2.1
 obtain ⟨n, rfl⟩ := Int.eq_ofNat_of_zero_le (by omega : 0 ≤ t)
 have hn : n ≤ 15 := by omega
 have q1 : (0 : Int) < (n : Int) := by omega
 have q2 : inI64 ((0 : Int) + 1) := by unfold inI64; omega
 have q3 : ¬ ((n : Int) < (n : Int)) := by omega
 have e50 : F50 n (List.replicate n (rD l)) n (List.replicate n (rD l)) = some true := by
  have := F50_refl (List.replicate n l) (by simp; omega) (by intro r hr; rw [List.eq_of_mem_replicate hr]; omega)
  rw [List.length_replicate, List.map_replicate] at this
  exact this
 rw [res_eq]
 simp only [B8, ca, sem_br, q1, decide_true, if_true, sem_ask, PC.holds, q2, need_true, sem_nxt, stepO_nxt, Int.toNat_natCast]
 have hh := B8_c5 l n hn b.length (b.map v8) n (List.replicate n (rD l)) 0 (q61 R).1 (q61 R).2.1 (q61 R).2.2.1 (q61 R).2.2.2.1 (q61 R).2.2.2.2 (q62 b).1 (q62 b).2.1 (q62 b).2.2 (q63 l).1 (q63 l).2.1 (q63 l).2.2 0 (rowsE R 15) (whenI (decide ((b.length : Int) > 128)) 5) (packE l) R.length (R.map rD)
 rw [e61, e62, e63, w3, h2] at hh
 refine Eq.trans ?_ ((hh (n - 1) 1 (by omega) (by omega)).trans ?_)
 ·rfl
 ·rw [res_eq]
  simp only [B8, ca, sem_triv, sem_tr3, sem_br, sem_bind_some, sem_sees, sem_nxt, stepO_nxt, sem_ret, stepO_ret, f15_eq, beq_self_eq_true, if_true, ite_self, e66, ea, ee, e67, en, b4, none69, e50, q3, decide_false, Bool.false_eq_true, if_false]
  rw [res_eq]
  simp only [B8, ca, sem_triv, sem_tr3, sem_br, sem_bind_some, sem_sees, sem_nxt, stepO_nxt, sem_ret, stepO_ret, f15_eq, beq_self_eq_true, if_true, ite_self, e66, ea, ee, e67, en, b4, none69, e50, q3, decide_false, Bool.false_eq_true, if_false]
  rw [res_eq]
  simp only [B8, ca, sem_triv, sem_tr3, sem_br, sem_bind_some, sem_sees, sem_nxt, stepO_nxt, sem_ret, stepO_ret, f15_eq, beq_self_eq_true, if_true, ite_self, e66, ea, ee, e67, en, b4, none69, e50, q3, decide_false, Bool.false_eq_true, if_false]
  rw [res_eq]
  simp only [B8, ca, sem_triv, sem_tr3, sem_br, sem_bind_some, sem_sees, sem_nxt, stepO_nxt, sem_ret, stepO_ret, f15_eq, beq_self_eq_true, if_true, ite_self, e66, ea, ee, e67, en, b4, none69, e50, q3, decide_false, Bool.false_eq_true, if_false]
theorem T3_011 (l : List Int) (hl : l.length ≤ 300) (R : List (List Int)) (hm : R.length ≤ 300) (hL : ∀ r ∈ R, r.length ≤ 300) (b : List Int) (hb : b.length ≤ 300) (ho : okB b) (t : Int) (h1 : repE l t = 0) (h2 : ¬ rowsE R 15 = 0) (h3 : b.length > 128) (h4 : packE l = 0) :
  res B8 (.c3 l.length (l.map vI) b.length (b.map v8) t.toNat (List.replicate t.toNat (rD l)) 0 (q61 R).1 (q61 R).2.1 (q61 R).2.2.1 (q61 R).2.2.2.1 (q61 R).2.2.2.2 (q62 b).1 (q62 b).2.1 (q62 b).2.2 (q63 l).1 (q63 l).2.1 (q63 l).2.2 (repE l t) (rowsE R 15) (whenI (decide ((b.length : Int) > 128)) 5) (packE l) t 0 R.length (R.map rD)) = some true := by
 have b2 : (rowsE R 15 == 0) = false := by simpa using h2
 have e61 : q61 R = (0, [], 0, [], rowsE R 15) := if_neg h2
 have w3 : whenI (decide ((b.length : Int) > 128)) 5 = 5 := by rw [decide_eq_true (by omega : (b.length : Int) > 128)]; rfl
 have b3 : ((5 : Int) == 0) = false := rfl
 have e62 : q62 b = (0, [], 5) := if_pos h3
 obtain ⟨_, ho4, he4⟩ := packE_zero.1 h4
 have e68 := F68_eq l hl ho4 he4
 have e69 := same69 h4
 have e63 : q63 l = (l.length / 2, (packs l).map v8, 0) := if_pos h4
 rw [e61, e62, e63, w3, h4, h1]
 have hr : 1 ≤ t ∧ t ≤ 15 := by unfold repE at h1; rw [firstI_zero, firstI_zero, rangeI_zero] at h1; exact h1.2.1
 obtain ⟨n, rfl⟩ := Int.eq_ofNat_of_zero_le (by omega : 0 ≤ t)
 have hn : n ≤ 15 := by omega
 have q1 : (0 : Int) < (n : Int) := by omega
 have q2 : inI64 ((0 : Int) + 1) := by unfold inI64; omega
 have q3 : ¬ ((n : Int) < (n : Int)) := by omega
 have e50 : F50 n (List.replicate n (rD l)) n (List.replicate n (rD l)) = some true := by
  have := F50_refl (List.replicate n l) (by simp; omega) (by intro r hr; rw [List.eq_of_mem_replicate hr]; omega)
  rw [List.length_replicate, List.map_replicate] at this
  exact this
 rw [res_eq]
 simp only [B8, ca, sem_br, q1, decide_true, if_true, sem_ask, PC.holds, q2, need_true, sem_nxt, stepO_nxt, Int.toNat_natCast]
 have hh := B8_c5 l n hn b.length (b.map v8) n (List.replicate n (rD l)) 0 (q61 R).1 (q61 R).2.1 (q61 R).2.2.1 (q61 R).2.2.2.1 (q61 R).2.2.2.2 (q62 b).1 (q62 b).2.1 (q62 b).2.2 (q63 l).1 (q63 l).2.1 (q63 l).2.2 0 (rowsE R 15) (whenI (decide ((b.length : Int) > 128)) 5) (packE l) R.length (R.map rD)
 rw [e61, e62, e63, w3, h4] at hh
 refine Eq.trans ?_ ((hh (n - 1) 1 (by omega) (by omega)).trans ?_)
 ·rfl
 ·rw [res_eq]
  simp only [B8, ca, sem_triv, sem_tr3, sem_br, sem_bind_some, sem_sees, sem_nxt, stepO_nxt, sem_ret, stepO_ret, f15_eq, beq_self_eq_true, if_true, ite_self, b2, none30, b3, e68, e69, e50, q3, decide_false, Bool.false_eq_true, if_false]
  rw [res_eq]
  simp only [B8, ca, sem_triv, sem_tr3, sem_br, sem_bind_some, sem_sees, sem_nxt, stepO_nxt, sem_ret, stepO_ret, f15_eq, beq_self_eq_true, if_true, ite_self, b2, none30, b3, e68, e69, e50, q3, decide_false, Bool.false_eq_true, if_false]
  rw [res_eq]
  simp only [B8, ca, sem_triv, sem_tr3, sem_br, sem_bind_some, sem_sees, sem_nxt, stepO_nxt, sem_ret, stepO_ret, f15_eq, beq_self_eq_true, if_true, ite_self, b2, none30, b3, e68, e69, e50, q3, decide_false, Bool.false_eq_true, if_false]
  rw [res_eq]
  simp only [B8, ca, sem_triv, sem_tr3, sem_br, sem_bind_some, sem_sees, sem_nxt, stepO_nxt, sem_ret, stepO_ret, f15_eq, beq_self_eq_true, if_true, ite_self, b2, none30, b3, e68, e69, e50, q3, decide_false, Bool.false_eq_true, if_false]
theorem T3_010 (l : List Int) (hl : l.length ≤ 300) (R : List (List Int)) (hm : R.length ≤ 300) (hL : ∀ r ∈ R, r.length ≤ 300) (b : List Int) (hb : b.length ≤ 300) (ho : okB b) (t : Int) (h1 : repE l t = 0) (h2 : ¬ rowsE R 15 = 0) (h3 : b.length > 128) (h4 : ¬ packE l = 0) :
  res B8 (.c3 l.length (l.map vI) b.length (b.map v8) t.toNat (List.replicate t.toNat (rD l)) 0 (q61 R).1 (q61 R).2.1 (q61 R).2.2.1 (q61 R).2.2.2.1 (q61 R).2.2.2.2 (q62 b).1 (q62 b).2.1 (q62 b).2.2 (q63 l).1 (q63 l).2.1 (q63 l).2.2 (repE l t) (rowsE R 15) (whenI (decide ((b.length : Int) > 128)) 5) (packE l) t 0 R.length (R.map rD)) = some true := by
 have b2 : (rowsE R 15 == 0) = false := by simpa using h2
 have e61 : q61 R = (0, [], 0, [], rowsE R 15) := if_neg h2
 have w3 : whenI (decide ((b.length : Int) > 128)) 5 = 5 := by rw [decide_eq_true (by omega : (b.length : Int) > 128)]; rfl
 have b3 : ((5 : Int) == 0) = false := rfl
 have e62 : q62 b = (0, [], 5) := if_pos h3
 have b4 : (packE l == 0) = false := by simpa using h4
 have e63 : q63 l = (0, [], packE l) := if_neg h4
 rw [e61, e62, e63, w3, h1]
 have hr : 1 ≤ t ∧ t ≤ 15 := by unfold repE at h1; rw [firstI_zero, firstI_zero, rangeI_zero] at h1; exact h1.2.1
 obtain ⟨n, rfl⟩ := Int.eq_ofNat_of_zero_le (by omega : 0 ≤ t)
 have hn : n ≤ 15 := by omega
 have q1 : (0 : Int) < (n : Int) := by omega
 have q2 : inI64 ((0 : Int) + 1) := by unfold inI64; omega
 have q3 : ¬ ((n : Int) < (n : Int)) := by omega
 have e50 : F50 n (List.replicate n (rD l)) n (List.replicate n (rD l)) = some true := by
  have := F50_refl (List.replicate n l) (by simp; omega) (by intro r hr; rw [List.eq_of_mem_replicate hr]; omega)
  rw [List.length_replicate, List.map_replicate] at this
  exact this
 rw [res_eq]
 simp only [B8, ca, sem_br, q1, decide_true, if_true, sem_ask, PC.holds, q2, need_true, sem_nxt, stepO_nxt, Int.toNat_natCast]
 have hh := B8_c5 l n hn b.length (b.map v8) n (List.replicate n (rD l)) 0 (q61 R).1 (q61 R).2.1 (q61 R).2.2.1 (q61 R).2.2.2.1 (q61 R).2.2.2.2 (q62 b).1 (q62 b).2.1 (q62 b).2.2 (q63 l).1 (q63 l).2.1 (q63 l).2.2 0 (rowsE R 15) (whenI (decide ((b.length : Int) > 128)) 5) (packE l) R.length (R.map rD)
 rw [e61, e62, e63, w3] at hh
 refine Eq.trans ?_ ((hh (n - 1) 1 (by omega) (by omega)).trans ?_)
 ·rfl
 ·rw [res_eq]
  simp only [B8, ca, sem_triv, sem_tr3, sem_br, sem_bind_some, sem_sees, sem_nxt, stepO_nxt, sem_ret, stepO_ret, f15_eq, beq_self_eq_true, if_true, ite_self, b2, none30, b3, b4, none69, e50, q3, decide_false, Bool.false_eq_true, if_false]
  rw [res_eq]
  simp only [B8, ca, sem_triv, sem_tr3, sem_br, sem_bind_some, sem_sees, sem_nxt, stepO_nxt, sem_ret, stepO_ret, f15_eq, beq_self_eq_true, if_true, ite_self, b2, none30, b3, b4, none69, e50, q3, decide_false, Bool.false_eq_true, if_false]
  rw [res_eq]
  simp only [B8, ca, sem_triv, sem_tr3, sem_br, sem_bind_some, sem_sees, sem_nxt, stepO_nxt, sem_ret, stepO_ret, f15_eq, beq_self_eq_true, if_true, ite_self, b2, none30, b3, b4, none69, e50, q3, decide_false, Bool.false_eq_true, if_false]
  rw [res_eq]
  simp only [B8, ca, sem_triv, sem_tr3, sem_br, sem_bind_some, sem_sees, sem_nxt, stepO_nxt, sem_ret, stepO_ret, f15_eq, beq_self_eq_true, if_true, ite_self, b2, none30, b3, b4, none69, e50, q3, decide_false, Bool.false_eq_true, if_false]
theorem T3_001 (l : List Int) (hl : l.length ≤ 300) (R : List (List Int)) (hm : R.length ≤ 300) (hL : ∀ r ∈ R, r.length ≤ 300) (b : List Int) (hb : b.length ≤ 300) (ho : okB b) (t : Int) (h1 : repE l t = 0) (h2 : ¬ rowsE R 15 = 0) (h3 : ¬ b.length > 128) (h4 : packE l = 0) :
  res B8 (.c3 l.length (l.map vI) b.length (b.map v8) t.toNat (List.replicate t.toNat (rD l)) 0 (q61 R).1 (q61 R).2.1 (q61 R).2.2.1 (q61 R).2.2.2.1 (q61 R).2.2.2.2 (q62 b).1 (q62 b).2.1 (q62 b).2.2 (q63 l).1 (q63 l).2.1 (q63 l).2.2 (repE l t) (rowsE R 15) (whenI (decide ((b.length : Int) > 128)) 5) (packE l) t 0 R.length (R.map rD)) = some true := by
 have b2 : (rowsE R 15 == 0) = false := by simpa using h2
 have e61 : q61 R = (0, [], 0, [], rowsE R 15) := if_neg h2
 have w3 : whenI (decide ((b.length : Int) > 128)) 5 = 0 := by rw [decide_eq_false (by omega : ¬ (b.length : Int) > 128)]; rfl
 have e67 := F67_eq b hb ho
 have en := sameN b hb
 have e62 : q62 b = (2 * b.length, (nibs b).map vI, 0) := if_neg h3
 obtain ⟨_, ho4, he4⟩ := packE_zero.1 h4
 have e68 := F68_eq l hl ho4 he4
 have e69 := same69 h4
 have e63 : q63 l = (l.length / 2, (packs l).map v8, 0) := if_pos h4
 rw [e61, e62, e63, w3, h4, h1]
 have hr : 1 ≤ t ∧ t ≤ 15 := by unfold repE at h1; rw [firstI_zero, firstI_zero, rangeI_zero] at h1; exact h1.2.1
 obtain ⟨n, rfl⟩ := Int.eq_ofNat_of_zero_le (by omega : 0 ≤ t)
 have hn : n ≤ 15 := by omega
 have q1 : (0 : Int) < (n : Int) := by omega
 have q2 : inI64 ((0 : Int) + 1) := by unfold inI64; omega
 have q3 : ¬ ((n : Int) < (n : Int)) := by omega
 have e50 : F50 n (List.replicate n (rD l)) n (List.replicate n (rD l)) = some true := by
  have := F50_refl (List.replicate n l) (by simp; omega) (by intro r hr; rw [List.eq_of_mem_replicate hr]; omega)
  rw [List.length_replicate, List.map_replicate] at this
  exact this
 rw [res_eq]
 simp only [B8, ca, sem_br, q1, decide_true, if_true, sem_ask, PC.holds, q2, need_true, sem_nxt, stepO_nxt, Int.toNat_natCast]
 have hh := B8_c5 l n hn b.length (b.map v8) n (List.replicate n (rD l)) 0 (q61 R).1 (q61 R).2.1 (q61 R).2.2.1 (q61 R).2.2.2.1 (q61 R).2.2.2.2 (q62 b).1 (q62 b).2.1 (q62 b).2.2 (q63 l).1 (q63 l).2.1 (q63 l).2.2 0 (rowsE R 15) (whenI (decide ((b.length : Int) > 128)) 5) (packE l) R.length (R.map rD)
 rw [e61, e62, e63, w3, h4] at hh
 refine Eq.trans ?_ ((hh (n - 1) 1 (by omega) (by omega)).trans ?_)
 ·rfl
 ·rw [res_eq]
  simp only [B8, ca, sem_triv, sem_tr3, sem_br, sem_bind_some, sem_sees, sem_nxt, stepO_nxt, sem_ret, stepO_ret, f15_eq, beq_self_eq_true, if_true, ite_self, b2, none30, e67, en, e68, e69, e50, q3, decide_false, Bool.false_eq_true, if_false]
  rw [res_eq]
  simp only [B8, ca, sem_triv, sem_tr3, sem_br, sem_bind_some, sem_sees, sem_nxt, stepO_nxt, sem_ret, stepO_ret, f15_eq, beq_self_eq_true, if_true, ite_self, b2, none30, e67, en, e68, e69, e50, q3, decide_false, Bool.false_eq_true, if_false]
  rw [res_eq]
  simp only [B8, ca, sem_triv, sem_tr3, sem_br, sem_bind_some, sem_sees, sem_nxt, stepO_nxt, sem_ret, stepO_ret, f15_eq, beq_self_eq_true, if_true, ite_self, b2, none30, e67, en, e68, e69, e50, q3, decide_false, Bool.false_eq_true, if_false]
  rw [res_eq]
  simp only [B8, ca, sem_triv, sem_tr3, sem_br, sem_bind_some, sem_sees, sem_nxt, stepO_nxt, sem_ret, stepO_ret, f15_eq, beq_self_eq_true, if_true, ite_self, b2, none30, e67, en, e68, e69, e50, q3, decide_false, Bool.false_eq_true, if_false]
theorem T3_000 (l : List Int) (hl : l.length ≤ 300) (R : List (List Int)) (hm : R.length ≤ 300) (hL : ∀ r ∈ R, r.length ≤ 300) (b : List Int) (hb : b.length ≤ 300) (ho : okB b) (t : Int) (h1 : repE l t = 0) (h2 : ¬ rowsE R 15 = 0) (h3 : ¬ b.length > 128) (h4 : ¬ packE l = 0) :
  res B8 (.c3 l.length (l.map vI) b.length (b.map v8) t.toNat (List.replicate t.toNat (rD l)) 0 (q61 R).1 (q61 R).2.1 (q61 R).2.2.1 (q61 R).2.2.2.1 (q61 R).2.2.2.2 (q62 b).1 (q62 b).2.1 (q62 b).2.2 (q63 l).1 (q63 l).2.1 (q63 l).2.2 (repE l t) (rowsE R 15) (whenI (decide ((b.length : Int) > 128)) 5) (packE l) t 0 R.length (R.map rD)) = some true := by
 have b2 : (rowsE R 15 == 0) = false := by simpa using h2
 have e61 : q61 R = (0, [], 0, [], rowsE R 15) := if_neg h2
 have w3 : whenI (decide ((b.length : Int) > 128)) 5 = 0 := by rw [decide_eq_false (by omega : ¬ (b.length : Int) > 128)]; rfl
 have e67 := F67_eq b hb ho
 have en := sameN b hb
 have e62 : q62 b = (2 * b.length, (nibs b).map vI, 0) := if_neg h3
 have b4 : (packE l == 0) = false := by simpa using h4
 have e63 : q63 l = (0, [], packE l) := if_neg h4
 rw [e61, e62, e63, w3, h1]
 have hr : 1 ≤ t ∧ t ≤ 15 := by unfold repE at h1; rw [firstI_zero, firstI_zero, rangeI_zero] at h1; exact h1.2.1
 obtain ⟨n, rfl⟩ := Int.eq_ofNat_of_zero_le (by omega : 0 ≤ t)
 have hn : n ≤ 15 := by omega
 have q1 : (0 : Int) < (n : Int) := by omega
 have q2 : inI64 ((0 : Int) + 1) := by unfold inI64; omega
 have q3 : ¬ ((n : Int) < (n : Int)) := by omega
 have e50 : F50 n (List.replicate n (rD l)) n (List.replicate n (rD l)) = some true := by
  have := F50_refl (List.replicate n l) (by simp; omega) (by intro r hr; rw [List.eq_of_mem_replicate hr]; omega)
  rw [List.length_replicate, List.map_replicate] at this
  exact this
 rw [res_eq]
 simp only [B8, ca, sem_br, q1, decide_true, if_true, sem_ask, PC.holds, q2, need_true, sem_nxt, stepO_nxt, Int.toNat_natCast]
 have hh := B8_c5 l n hn b.length (b.map v8) n (List.replicate n (rD l)) 0 (q61 R).1 (q61 R).2.1 (q61 R).2.2.1 (q61 R).2.2.2.1 (q61 R).2.2.2.2 (q62 b).1 (q62 b).2.1 (q62 b).2.2 (q63 l).1 (q63 l).2.1 (q63 l).2.2 0 (rowsE R 15) (whenI (decide ((b.length : Int) > 128)) 5) (packE l) R.length (R.map rD)
 rw [e61, e62, e63, w3] at hh
 refine Eq.trans ?_ ((hh (n - 1) 1 (by omega) (by omega)).trans ?_)
 ·rfl
 ·rw [res_eq]
  simp only [B8, ca, sem_triv, sem_tr3, sem_br, sem_bind_some, sem_sees, sem_nxt, stepO_nxt, sem_ret, stepO_ret, f15_eq, beq_self_eq_true, if_true, ite_self, b2, none30, e67, en, b4, none69, e50, q3, decide_false, Bool.false_eq_true, if_false]
  rw [res_eq]
  simp only [B8, ca, sem_triv, sem_tr3, sem_br, sem_bind_some, sem_sees, sem_nxt, stepO_nxt, sem_ret, stepO_ret, f15_eq, beq_self_eq_true, if_true, ite_self, b2, none30, e67, en, b4, none69, e50, q3, decide_false, Bool.false_eq_true, if_false]
  rw [res_eq]
  simp only [B8, ca, sem_triv, sem_tr3, sem_br, sem_bind_some, sem_sees, sem_nxt, stepO_nxt, sem_ret, stepO_ret, f15_eq, beq_self_eq_true, if_true, ite_self, b2, none30, e67, en, b4, none69, e50, q3, decide_false, Bool.false_eq_true, if_false]
  rw [res_eq]
  simp only [B8, ca, sem_triv, sem_tr3, sem_br, sem_bind_some, sem_sees, sem_nxt, stepO_nxt, sem_ret, stepO_ret, f15_eq, beq_self_eq_true, if_true, ite_self, b2, none30, e67, en, b4, none69, e50, q3, decide_false, Bool.false_eq_true, if_false]
end Go.Kv
namespace Go.Kv
open Go Go.RowKit
set_option maxRecDepth 100000
theorem T3 (l : List Int) (hl : l.length ≤ 300) (R : List (List Int)) (hm : R.length ≤ 300) (hL : ∀ r ∈ R, r.length ≤ 300) (b : List Int) (hb : b.length ≤ 300) (ho : okB b) (t : Int) (h1 : repE l t = 0) :
  res B8 (.c3 l.length (l.map vI) b.length (b.map v8) t.toNat (List.replicate t.toNat (rD l)) 0 (q61 R).1 (q61 R).2.1 (q61 R).2.2.1 (q61 R).2.2.2.1 (q61 R).2.2.2.2 (q62 b).1 (q62 b).2.1 (q62 b).2.2 (q63 l).1 (q63 l).2.1 (q63 l).2.2 (repE l t) (rowsE R 15) (whenI (decide ((b.length : Int) > 128)) 5) (packE l) t 0 R.length (R.map rD)) = some true := by
 by_cases h2 : rowsE R 15 = 0
 ·by_cases h3 : b.length > 128
  ·by_cases h4 : packE l = 0
   ·exact T3_111 l hl R hm hL b hb ho t h1 h2 h3 h4
   ·exact T3_110 l hl R hm hL b hb ho t h1 h2 h3 h4
  ·by_cases h4 : packE l = 0
   ·exact T3_101 l hl R hm hL b hb ho t h1 h2 h3 h4
   ·exact T3_100 l hl R hm hL b hb ho t h1 h2 h3 h4
 ·by_cases h3 : b.length > 128
  ·by_cases h4 : packE l = 0
   ·exact T3_011 l hl R hm hL b hb ho t h1 h2 h3 h4
   ·exact T3_010 l hl R hm hL b hb ho t h1 h2 h3 h4
  ·by_cases h4 : packE l = 0
   ·exact T3_001 l hl R hm hL b hb ho t h1 h2 h3 h4
   ·exact T3_000 l hl R hm hL b hb ho t h1 h2 h3 h4
theorem T4 (l : List Int) (hl : l.length ≤ 300) (R : List (List Int)) (hm : R.length ≤ 300) (hL : ∀ r ∈ R, r.length ≤ 300) (b : List Int) (hb : b.length ≤ 300) (ho : okB b) (t : Int) (h1 : ¬ repE l t = 0) :
  res B8 (.c4 l.length (l.map vI) b.length (b.map v8) 0 [] (repE l t) (q61 R).1 (q61 R).2.1 (q61 R).2.2.1 (q61 R).2.2.2.1 (q61 R).2.2.2.2 (q62 b).1 (q62 b).2.1 (q62 b).2.2 (q63 l).1 (q63 l).2.1 (q63 l).2.2 (repE l t) (rowsE R 15) (whenI (decide ((b.length : Int) > 128)) 5) (packE l) R.length (R.map rD) t) = some true := by
 by_cases h2 : rowsE R 15 = 0
 ·by_cases h3 : b.length > 128
  ·by_cases h4 : packE l = 0
   ·exact T4_111 l hl R hm hL b hb ho t h1 h2 h3 h4
   ·exact T4_110 l hl R hm hL b hb ho t h1 h2 h3 h4
  ·by_cases h4 : packE l = 0
   ·exact T4_101 l hl R hm hL b hb ho t h1 h2 h3 h4
   ·exact T4_100 l hl R hm hL b hb ho t h1 h2 h3 h4
 ·by_cases h3 : b.length > 128
  ·by_cases h4 : packE l = 0
   ·exact T4_011 l hl R hm hL b hb ho t h1 h2 h3 h4
   ·exact T4_010 l hl R hm hL b hb ho t h1 h2 h3 h4
  ·by_cases h4 : packE l = 0
   ·exact T4_001 l hl R hm hL b hb ho t h1 h2 h3 h4
   ·exact T4_000 l hl R hm hL b hb ho t h1 h2 h3 h4
def q60 (l : List Int) (t : Int) : Nat × List DV × Int := if repE l t = 0 then (t.toNat, List.replicate t.toNat (rD l), 0) else (0, [], repE l t)
theorem B8_last (l : List Int) (hl : l.length ≤ 300) (R : List (List Int)) (h0 : 0 < R.length) (hm : R.length ≤ 300) (hL : ∀ r ∈ R, r.length ≤ 300) (b : List Int) (hb : b.length ≤ 300) (ho : okB b) (t : Int) :
  res B8 (.c2 (R.length - 1) R.length (R.map rD) R.length (R.map rD) (R.length : Int) (R.length : Int) l.length (l.map vI) b.length (b.map v8) (q60 l t).1 (q60 l t).2.1 (q60 l t).2.2 t (R.length - 1)) = some true := by
 have e61 : F61 R.length (R.map rD) = some (q61 R) := F61_eq R hm hL
 have e62 : F62 b.length (b.map v8) = some (q62 b) := F62_eq b hb ho
 have e63 : F63 l.length (l.map vI) = some (q63 l) := F63_eq l hl
 have e17 := F17_eq l hl
 have e64 := F64_eq l hl t
 have e46 := F46_eq R 15 hm hL
 have q : ¬ ((R.length : Int) < (R.length : Int)) := by omega
 rw [res_eq]
 by_cases hb0 : b.length = 0
 ·have : b = [] := List.length_eq_zero_iff.1 hb0
  subst this
  have e62' : F62 0 [] = some (q62 []) := e62
  by_cases h1 : repE l t = 0
  ·have hbb : (repE l t == 0) = true := by rw [h1]; rfl
   have hq : q60 l t = (t.toNat, List.replicate t.toNat (rD l), 0) := if_pos h1
   have ht := T3 l hl R hm hL [] hb ho t h1
   simp only [B8, ca, sem_br, q, decide_false, Bool.false_eq_true, if_false, e61, sem_bind_some, sem_sees, show Nat.beq ([] : List Int).length 0 = true from rfl, if_true, sem_ask, PC.holds, need_true, e62', e17, e63, e64, e46, F25_eq, F65_eq l hl, hbb, sem_nxt, hq]
   rw [need_of (by simp), stepO_nxt]
   exact ht
  ·have hbb : (repE l t == 0) = false := by simpa using h1
   have hq : q60 l t = (0, [], repE l t) := if_neg h1
   have ht := T4 l hl R hm hL [] hb ho t h1
   simp only [B8, ca, sem_br, q, decide_false, Bool.false_eq_true, if_false, e61, sem_bind_some, sem_sees, show Nat.beq ([] : List Int).length 0 = true from rfl, if_true, sem_ask, PC.holds, need_true, e62', e17, e63, e64, e46, F25_eq, F65_eq l hl, hbb, sem_nxt, hq]
   rw [need_of (by simp), stepO_nxt]
   exact ht
 ·have hn : Nat.beq b.length 0 = false := by
   cases hr : b.length with
   | zero => exact absurd hr hb0
   | succ n => rfl
  have hp : 0 < b.length := by omega
  have hf : fitsN b.length 1 := ⟨by omega, by omega⟩
  by_cases h1 : repE l t = 0
  ·have hbb : (repE l t == 0) = true := by rw [h1]; rfl
   have hq : q60 l t = (t.toNat, List.replicate t.toNat (rD l), 0) := if_pos h1
   have ht := T3 l hl R hm hL b hb ho t h1
   simp only [B8, ca, sem_br, q, decide_false, Bool.false_eq_true, if_false, e61, sem_bind_some, sem_sees, hn, sem_ask, PC.holds, need_true, hp, List.length_map, Nat.mul_one, hf, e62, e17, e63, e64, e46, F25_eq, F65_eq l hl, hbb, if_true, sem_nxt, hq, stepO_nxt]
   exact ht
  ·have hbb : (repE l t == 0) = false := by simpa using h1
   have hq : q60 l t = (0, [], repE l t) := if_neg h1
   have ht := T4 l hl R hm hL b hb ho t h1
   simp only [B8, ca, sem_br, q, decide_false, Bool.false_eq_true, if_false, e61, sem_bind_some, sem_sees, hn, sem_ask, PC.holds, need_true, hp, List.length_map, Nat.mul_one, hf, e62, e17, e63, e64, e46, F25_eq, F65_eq l hl, hbb, sem_nxt, hq, stepO_nxt]
   exact ht
end Go.Kv
namespace Go.Kv
open Go Go.RowKit
set_option maxRecDepth 100000
theorem B8_none (l : List Int) (hl : l.length ≤ 300) (b : List Int) (hb : b.length ≤ 300) (ho : okB b) (t : Int) :
  res B8 (.c1 0 [] 0 0 l.length (l.map vI) b.length (b.map v8) (q60 l t).1 (q60 l t).2.1 (q60 l t).2.2 t) = some true := by
 have hm : ([] : List (List Int)).length ≤ 300 := by simp
 have hL : ∀ r ∈ ([] : List (List Int)), r.length ≤ 300 := by intro r hr; cases hr
 have e61 : F61 0 [] = some (q61 []) := F61_eq [] hm hL
 have e62 : F62 b.length (b.map v8) = some (q62 b) := F62_eq b hb ho
 have e63 : F63 l.length (l.map vI) = some (q63 l) := F63_eq l hl
 have e17 := F17_eq l hl
 have e64 := F64_eq l hl t
 have e46 : F46 0 [] 15 = some (rowsE [] 15) := F46_eq [] 15 hm hL
 have q : ¬ ((0 : Int) < (0 : Int)) := by omega
 rw [res_eq]
 by_cases hb0 : b.length = 0
 ·have : b = [] := List.length_eq_zero_iff.1 hb0
  subst this
  have e62' : F62 0 [] = some (q62 []) := e62
  by_cases h1 : repE l t = 0
  ·have hbb : (repE l t == 0) = true := by rw [h1]; rfl
   have hq : q60 l t = (t.toNat, List.replicate t.toNat (rD l), 0) := if_pos h1
   have ht := T3 l hl [] hm hL [] hb ho t h1
   simp only [B8, ca, sem_br, q, decide_false, Bool.false_eq_true, if_false, e61, sem_bind_some, sem_sees, show Nat.beq ([] : List Int).length 0 = true from rfl, if_true, sem_ask, PC.holds, need_true, e62', e17, e63, e64, e46, F25_eq, F65_eq l hl, hbb, sem_nxt, hq]
   rw [need_of (by simp), stepO_nxt]
   exact ht
  ·have hbb : (repE l t == 0) = false := by simpa using h1
   have hq : q60 l t = (0, [], repE l t) := if_neg h1
   have ht := T4 l hl [] hm hL [] hb ho t h1
   simp only [B8, ca, sem_br, q, decide_false, Bool.false_eq_true, if_false, e61, sem_bind_some, sem_sees, show Nat.beq ([] : List Int).length 0 = true from rfl, if_true, sem_ask, PC.holds, need_true, e62', e17, e63, e64, e46, F25_eq, F65_eq l hl, hbb, sem_nxt, hq]
   rw [need_of (by simp), stepO_nxt]
   exact ht
 ·have hn : Nat.beq b.length 0 = false := by
   cases hr : b.length with
   | zero => exact absurd hr hb0
   | succ n => rfl
  have hp : 0 < b.length := by omega
  have hf : fitsN b.length 1 := ⟨by omega, by omega⟩
  by_cases h1 : repE l t = 0
  ·have hbb : (repE l t == 0) = true := by rw [h1]; rfl
   have hq : q60 l t = (t.toNat, List.replicate t.toNat (rD l), 0) := if_pos h1
   have ht := T3 l hl [] hm hL b hb ho t h1
   simp only [B8, ca, sem_br, q, decide_false, Bool.false_eq_true, if_false, e61, sem_bind_some, sem_sees, hn, sem_ask, PC.holds, need_true, hp, List.length_map, Nat.mul_one, hf, e62, e17, e63, e64, e46, F25_eq, F65_eq l hl, hbb, if_true, sem_nxt, hq, stepO_nxt]
   exact ht
  ·have hbb : (repE l t == 0) = false := by simpa using h1
   have hq : q60 l t = (0, [], repE l t) := if_neg h1
   have ht := T4 l hl [] hm hL b hb ho t h1
   simp only [B8, ca, sem_br, q, decide_false, Bool.false_eq_true, if_false, e61, sem_bind_some, sem_sees, hn, sem_ask, PC.holds, need_true, hp, List.length_map, Nat.mul_one, hf, e62, e17, e63, e64, e46, F25_eq, F65_eq l hl, hbb, sem_nxt, hq, stepO_nxt]
   exact ht
theorem votes_true (l : List Int) (R : List (List Int)) (hR : R.length ≤ maxLen) (t : Int) (b : List Int) (ho : okB b) : F8 l.length (l.map vI) R.length (R.map rD) t b.length (b.map v8) = some true := by
 have h15 : F15 = some true := f15_eq
 unfold F8; rw [res_eq]
 by_cases sl : shortL l.length
 rotate_left
 ·simp only [B8, ca, F14_eq, sl, decide_false, Bool.not_false, sem_bind_some, sem_sees, sem_br, if_true, h15, sem_ret, stepO_ret]
 have hl : l.length ≤ 300 := by unfold shortL at sl; omega
 cases hr : shortR R with
 | false => simp only [B8, ca, F14_eq, sl, decide_true, Bool.not_true, Bool.false_eq_true, if_false, F42_eq R hR, hr, Bool.not_false, sem_bind_some, sem_sees, sem_triv, sem_tr3, sem_br, if_true, h15, sem_ret, stepO_ret]
 | true =>
  have hr2 : (∀ r ∈ R, r.length ≤ 17) ∧ R.length ≤ 17 := by
   unfold shortR at hr
   rw [Bool.and_eq_true, List.all_eq_true, decide_eq_true_eq] at hr
   exact ⟨fun r h => by simpa using hr.1 r h, hr.2⟩
  have hm : R.length ≤ 300 := by omega
  have hL : ∀ r ∈ R, r.length ≤ 300 := fun r h => by have := hr2.1 r h; omega
  cases hc : (if decide (((b.length : Nat) : Int) > 40) = true then (((b.length : Nat) : Int) != 129) else false) with
  | true => simp only [B8, ca, F14_eq, sl, decide_true, Bool.not_true, Bool.false_eq_true, if_false, F42_eq R hR, hr, sem_bind_some, sem_sees, sem_triv, sem_tr3, sem_br, sem_ask, PC.holds, beq_self_eq_true, need_true, hc, if_true, h15, sem_ret, stepO_ret]
  | false =>
   have hb : b.length ≤ 300 := by
    by_cases h40 : ((b.length : Nat) : Int) > 40
    ·rw [if_pos (decide_eq_true h40)] at hc
     have : ((b.length : Nat) : Int) = 129 := by simpa using hc
     omega
    ·omega
   have e60 : F60 l.length (l.map vI) t = some (q60 l t) := F60_eq l hl t
   simp only [B8, ca, F14_eq, sl, decide_true, Bool.not_true, Bool.false_eq_true, if_false, F42_eq R hR, hr, sem_bind_some, sem_sees, sem_triv, sem_tr3, sem_br, sem_ask, PC.holds, beq_self_eq_true, need_true, hc, F17_eq l hl, e60, sem_nxt, stepO_nxt]
   by_cases h0 : R.length = 0
   ·have : R = [] := List.length_eq_zero_iff.1 h0
    subst this
    exact B8_none l hl b hb ho t
   ·have h0 : 0 < R.length := by omega
    obtain ⟨g1, g2⟩ := celR0 R h0
    have g3 := at_mapR h0
    have h1 : (0 : Int) < (R.length : Int) := by omega
    have hin : inI64 ((0 : Int) + 1) := by unfold inI64; omega
    have hs := F17_eq (R.getD 0 []) (hL _ (by rw [List.getD_eq_getElem?_getD, List.getElem?_eq_getElem h0]; simp))
    have hh := (B8_c2 R hm hL l.length (l.map vI) b.length (b.map v8) (q60 l t).1 (q60 l t).2.1 (q60 l t).2.2 t (R.length - 1) 1 (by omega) (by omega)).trans (B8_last l hl R h0 hm hL b hb ho t)
    have e : (R.take 1).map rD = [DV.sl (R.getD 0 []).length ((R.getD 0 []).map vI)] := by
     match R, h0 with
     | x :: R, _ => rfl
    rw [e] at hh
    rw [res_eq]
    simp only [B8, ca, sem_br, h1, decide_true, if_true, sem_ask, PC.holds, need_true, Int.le_refl, show Int.toNat 0 = 0 from rfl, Nat.zero_mul, Nat.zero_le, g1, g2, g3, hs, sem_bind_some, sem_sees, hin, sem_nxt, stepO_nxt]
    exact hh
end Go.Kv
