import Derived.Test.YtfojgeoicgmncaaKL2
import Derived.Test.YtfojgeoicgmncaaGF29
namespace Go.Kv
set_option linter.unusedVariables false
set_option linter.unusedSimpArgs false
open Go Go.RowKit
set_option maxRecDepth 100000
def btc (x : Int) (i : Nat) : Bool := IntKind.u8.wrap (((BitVec.ofInt 8 (x.fdiv (2 ^ min i 8)) &&& BitVec.ofInt 8 1).toNat : Nat) : Int) == 1
def bt (x : Int) (i : Nat) : List Int := if btc x i then [(i : Int)] else []
theorem bt_t {x : Int} {i : Nat} (h : btc x i = true) : bt x i = [(i : Int)] := by unfold bt; rw [if_pos h]
theorem bt_f {x : Int} {i : Nat} (h : btc x i = false) : bt x i = [] := by unfold bt; rw [if_neg (by rw [h]; exact Bool.false_ne_true)]
theorem map_snoc (l : List Int) (i : Nat) : (l ++ [(i : Int)]).map vI = l.map vI ++ [DV.v (Value.int IntKind.i64 (i : Int))] := by rw [List.map_append]; rfl
theorem len_snoc (l : List Int) (i : Nat) : (l ++ [(i : Int)]).length = l.length + 1 := by rw [List.length_append]; rfl
inductive R0 (N : Nat) (C : List DV) (j a b : Int) (d : Bool) : S29 → Nat → List Int → List Int → Prop
  | nn (i : Nat) : R0 N C j a b d (.c9 N C (N : Int) j ((i : Nat) : Int) a b d ) i [] []
  | on (i q : Nat) (lo : List Int) : R0 N C j a b d (.c7 N C (N : Int) j ((i : Nat) : Int) a b d q lo.length (lo.map vI) q) i lo []
  | no (i q : Nat) (db : List Int) : R0 N C j a b d (.c8 N C (N : Int) j ((i : Nat) : Int) a b d q db.length (db.map vI) q) i [] db
  | oo (i q r : Nat) (lo db : List Int) : R0 N C j a b d (.c6 N C (N : Int) j ((i : Nat) : Int) a b d q lo.length (lo.map vI) r db.length (db.map vI) q r) i lo db
  | o2 (i q r : Nat) (lo db : List Int) : R0 N C j a b d (.c11 N C (N : Int) j ((i : Nat) : Int) a b d q lo.length (lo.map vI) r db.length (db.map vI) q r) i lo db
  | o3 (i q r : Nat) (lo db : List Int) : R0 N C j a b d (.c13 N C (N : Int) j ((i : Nat) : Int) a b d q lo.length (lo.map vI) r db.length (db.map vI) r q) i lo db
inductive R14 (p k : Nat) (ys : List DV) (N : Nat) (C : List DV) (j : Int) (x y : Nat) (a b : Int) (d : Bool) : S29 → Nat → List Int → List Int → Prop
  | nn (i : Nat) : R14 p k ys N C j x y a b d (.c28 p k ys N C (N : Int) j ((i : Nat) : Int) x y p a b d ) i [] []
  | on (i q : Nat) (lo : List Int) : R14 p k ys N C j x y a b d (.c26 p k ys N C (N : Int) j ((i : Nat) : Int) x y p a b d q lo.length (lo.map vI) q) i lo []
  | no (i q : Nat) (db : List Int) : R14 p k ys N C j x y a b d (.c27 p k ys N C (N : Int) j ((i : Nat) : Int) x y p a b d q db.length (db.map vI) q) i [] db
  | oo (i q r : Nat) (lo db : List Int) : R14 p k ys N C j x y a b d (.c25 p k ys N C (N : Int) j ((i : Nat) : Int) x y p a b d q lo.length (lo.map vI) r db.length (db.map vI) q r) i lo db
  | o2 (i q r : Nat) (lo db : List Int) : R14 p k ys N C j x y a b d (.c51 p k ys N C (N : Int) j ((i : Nat) : Int) x y p a b d q lo.length (lo.map vI) r db.length (db.map vI) q r) i lo db
  | o3 (i q r : Nat) (lo db : List Int) : R14 p k ys N C j x y a b d (.c53 p k ys N C (N : Int) j ((i : Nat) : Int) x y p a b d q lo.length (lo.map vI) r db.length (db.map vI) r q) i lo db
inductive R15 (p k : Nat) (ys : List DV) (N : Nat) (C : List DV) (j : Int) (x : Nat) (a b : Int) (d : Bool) : S29 → Nat → List Int → List Int → Prop
  | nn (i : Nat) : R15 p k ys N C j x a b d (.c35 p k ys N C (N : Int) j ((i : Nat) : Int) x p a b d ) i [] []
  | on (i q : Nat) (lo : List Int) : R15 p k ys N C j x a b d (.c33 p k ys N C (N : Int) j ((i : Nat) : Int) x p a b d q lo.length (lo.map vI) q) i lo []
  | no (i q : Nat) (db : List Int) : R15 p k ys N C j x a b d (.c34 p k ys N C (N : Int) j ((i : Nat) : Int) x p a b d q db.length (db.map vI) q) i [] db
  | oo (i q r : Nat) (lo db : List Int) : R15 p k ys N C j x a b d (.c32 p k ys N C (N : Int) j ((i : Nat) : Int) x p a b d q lo.length (lo.map vI) r db.length (db.map vI) q r) i lo db
  | o2 (i q r : Nat) (lo db : List Int) : R15 p k ys N C j x a b d (.c55 p k ys N C (N : Int) j ((i : Nat) : Int) x p a b d q lo.length (lo.map vI) r db.length (db.map vI) q r) i lo db
  | o3 (i q r : Nat) (lo db : List Int) : R15 p k ys N C j x a b d (.c57 p k ys N C (N : Int) j ((i : Nat) : Int) x p a b d q lo.length (lo.map vI) r db.length (db.map vI) r q) i lo db
inductive R16 (p k : Nat) (ys : List DV) (N : Nat) (C : List DV) (j : Int) (a b : Int) (d : Bool) : S29 → Nat → List Int → List Int → Prop
  | nn (i : Nat) : R16 p k ys N C j a b d (.c42 p k ys N C (N : Int) j ((i : Nat) : Int) p a b d ) i [] []
  | on (i q : Nat) (lo : List Int) : R16 p k ys N C j a b d (.c40 p k ys N C (N : Int) j ((i : Nat) : Int) p a b d q lo.length (lo.map vI) q) i lo []
  | no (i q : Nat) (db : List Int) : R16 p k ys N C j a b d (.c41 p k ys N C (N : Int) j ((i : Nat) : Int) p a b d q db.length (db.map vI) q) i [] db
  | oo (i q r : Nat) (lo db : List Int) : R16 p k ys N C j a b d (.c39 p k ys N C (N : Int) j ((i : Nat) : Int) p a b d q lo.length (lo.map vI) r db.length (db.map vI) q r) i lo db
  | o2 (i q r : Nat) (lo db : List Int) : R16 p k ys N C j a b d (.c59 p k ys N C (N : Int) j ((i : Nat) : Int) p a b d q lo.length (lo.map vI) r db.length (db.map vI) q r) i lo db
  | o3 (i q r : Nat) (lo db : List Int) : R16 p k ys N C j a b d (.c61 p k ys N C (N : Int) j ((i : Nat) : Int) p a b d q lo.length (lo.map vI) r db.length (db.map vI) r q) i lo db
inductive R17 (p k : Nat) (ys : List DV) (N : Nat) (C : List DV) (j : Int) (x y : Nat) (a b : Int) (d : Bool) : S29 → Nat → List Int → List Int → Prop
  | nn (i : Nat) : R17 p k ys N C j x y a b d (.c49 p k ys N C (N : Int) j ((i : Nat) : Int) x y p a b d ) i [] []
  | on (i q : Nat) (lo : List Int) : R17 p k ys N C j x y a b d (.c47 p k ys N C (N : Int) j ((i : Nat) : Int) x y p a b d q lo.length (lo.map vI) q) i lo []
  | no (i q : Nat) (db : List Int) : R17 p k ys N C j x y a b d (.c48 p k ys N C (N : Int) j ((i : Nat) : Int) x y p a b d q db.length (db.map vI) q) i [] db
  | oo (i q r : Nat) (lo db : List Int) : R17 p k ys N C j x y a b d (.c46 p k ys N C (N : Int) j ((i : Nat) : Int) x y p a b d q lo.length (lo.map vI) r db.length (db.map vI) q r) i lo db
  | o2 (i q r : Nat) (lo db : List Int) : R17 p k ys N C j x y a b d (.c63 p k ys N C (N : Int) j ((i : Nat) : Int) x y p a b d q lo.length (lo.map vI) r db.length (db.map vI) q r) i lo db
  | o3 (i q r : Nat) (lo db : List Int) : R17 p k ys N C j x y a b d (.c65 p k ys N C (N : Int) j ((i : Nat) : Int) x y p a b d q lo.length (lo.map vI) r db.length (db.map vI) r q) i lo db
theorem st0_nn {N : Nat} {C : List DV} {j a b : Int} {d : Bool} {i : Nat} (hi : i < 4) (hl : ([] : List Int).length ≤ i) (hd : ([] : List Int).length ≤ i) : ∃ s, R0 N C j a b d s (i + 1) ([] ++ bt a i) ([] ++ bt b i) ∧ res B29 (.c9 N C (N : Int) j ((i : Nat) : Int) a b d ) = res B29 s := by
  have h4 : ((i : Nat) : Int) < 4 := by omega
  have hin : inI64 (((i : Nat) : Int) + 1) := by unfold inI64; omega
  cases ha : btc a i <;> cases hb : btc b i
  focus (simp only [bt_f ha, bt_f hb, List.append_nil, List.nil_append]; refine ⟨_, .nn (i + 1), ?_⟩)
  rotate_left
  focus (simp only [bt_f ha, bt_t hb, List.append_nil, List.nil_append]; refine ⟨_, .no (i + 1) (0) [(i : Int)], ?_⟩)
  rotate_left
  focus (simp only [bt_t ha, bt_f hb, List.append_nil, List.nil_append]; refine ⟨_, .on (i + 1) (0) [(i : Int)], ?_⟩)
  rotate_left
  focus (simp only [bt_t ha, bt_t hb, List.append_nil, List.nil_append]; refine ⟨_, .oo (i + 1) (0) (0) [(i : Int)] [(i : Int)], ?_⟩)
  rotate_left
  all_goals (unfold btc at ha hb; rw [res_eq]; simp only [B29, h4, decide_true, if_true, sem_br, sem_nxt, stepO_nxt]; rw [res_eq]; simp only [B29, Int.toNat_natCast, ha, hb, hin, Int.not_lt, Int.natCast_nonneg, Bool.false_eq_true, if_false, if_true, sem_br, sem_ask, sem_nxt, PC.holds, need_true, stepO_nxt]; all_goals rfl)
theorem st0_on {N : Nat} {C : List DV} {j a b : Int} {d : Bool} {i q : Nat} {lo : List Int} (hi : i < 4) (hl : (lo : List Int).length ≤ i) (hd : ([] : List Int).length ≤ i) : ∃ s, R0 N C j a b d s (i + 1) (lo ++ bt a i) ([] ++ bt b i) ∧ res B29 (.c7 N C (N : Int) j ((i : Nat) : Int) a b d q lo.length (lo.map vI) q) = res B29 s := by
  have h4 : ((i : Nat) : Int) < 4 := by omega
  have hin : inI64 (((i : Nat) : Int) + 1) := by unfold inI64; omega
  have fl : fitsN (lo.length + 1) 8 := by unfold fitsN; omega
  cases ha : btc a i <;> cases hb : btc b i
  focus (simp only [bt_f ha, bt_f hb, List.append_nil, List.nil_append]; refine ⟨_, .on (i + 1) (q) lo, ?_⟩)
  rotate_left
  focus (simp only [bt_f ha, bt_t hb, List.append_nil, List.nil_append]; refine ⟨_, .oo (i + 1) (q) (0) lo [(i : Int)], ?_⟩)
  rotate_left
  focus (simp only [bt_t ha, bt_f hb, List.append_nil, List.nil_append]; refine ⟨_, .on (i + 1) ((q + 1)) (lo ++ [(i : Int)]), ?_⟩)
  rotate_left
  focus (simp only [bt_t ha, bt_t hb, List.append_nil, List.nil_append]; refine ⟨_, .o2 (i + 1) ((q + 1)) (0) (lo ++ [(i : Int)]) [(i : Int)], ?_⟩)
  rotate_left
  all_goals (unfold btc at ha hb; rw [res_eq]; simp only [B29, h4, decide_true, if_true, sem_br, sem_nxt, stepO_nxt]; rw [res_eq]; simp only [B29, Int.toNat_natCast, ha, hb, hin, fl, Int.not_lt, Int.natCast_nonneg, Bool.false_eq_true, if_false, if_true, sem_br, sem_ask, sem_nxt, PC.holds, need_true, stepO_nxt, map_snoc, len_snoc]; all_goals rfl)
theorem st0_no {N : Nat} {C : List DV} {j a b : Int} {d : Bool} {i q : Nat} {db : List Int} (hi : i < 4) (hl : ([] : List Int).length ≤ i) (hd : (db : List Int).length ≤ i) : ∃ s, R0 N C j a b d s (i + 1) ([] ++ bt a i) (db ++ bt b i) ∧ res B29 (.c8 N C (N : Int) j ((i : Nat) : Int) a b d q db.length (db.map vI) q) = res B29 s := by
  have h4 : ((i : Nat) : Int) < 4 := by omega
  have hin : inI64 (((i : Nat) : Int) + 1) := by unfold inI64; omega
  have fd : fitsN (db.length + 1) 8 := by unfold fitsN; omega
  cases ha : btc a i <;> cases hb : btc b i
  focus (simp only [bt_f ha, bt_f hb, List.append_nil, List.nil_append]; refine ⟨_, .no (i + 1) (q) db, ?_⟩)
  rotate_left
  focus (simp only [bt_f ha, bt_t hb, List.append_nil, List.nil_append]; refine ⟨_, .no (i + 1) ((q + 1)) (db ++ [(i : Int)]), ?_⟩)
  rotate_left
  focus (simp only [bt_t ha, bt_f hb, List.append_nil, List.nil_append]; refine ⟨_, .o3 (i + 1) (0) (q) [(i : Int)] db, ?_⟩)
  rotate_left
  focus (simp only [bt_t ha, bt_t hb, List.append_nil, List.nil_append]; refine ⟨_, .o3 (i + 1) (0) ((q + 1)) [(i : Int)] (db ++ [(i : Int)]), ?_⟩)
  rotate_left
  all_goals (unfold btc at ha hb; rw [res_eq]; simp only [B29, h4, decide_true, if_true, sem_br, sem_nxt, stepO_nxt]; rw [res_eq]; simp only [B29, Int.toNat_natCast, ha, hb, hin, fd, Int.not_lt, Int.natCast_nonneg, Bool.false_eq_true, if_false, if_true, sem_br, sem_ask, sem_nxt, PC.holds, need_true, stepO_nxt, map_snoc, len_snoc]; all_goals rfl)
theorem st0_oo {N : Nat} {C : List DV} {j a b : Int} {d : Bool} {i q r : Nat} {lo db : List Int} (hi : i < 4) (hl : (lo : List Int).length ≤ i) (hd : (db : List Int).length ≤ i) : ∃ s, R0 N C j a b d s (i + 1) (lo ++ bt a i) (db ++ bt b i) ∧ res B29 (.c6 N C (N : Int) j ((i : Nat) : Int) a b d q lo.length (lo.map vI) r db.length (db.map vI) q r) = res B29 s := by
  have h4 : ((i : Nat) : Int) < 4 := by omega
  have hin : inI64 (((i : Nat) : Int) + 1) := by unfold inI64; omega
  have fl : fitsN (lo.length + 1) 8 := by unfold fitsN; omega
  have fd : fitsN (db.length + 1) 8 := by unfold fitsN; omega
  cases ha : btc a i <;> cases hb : btc b i
  focus (simp only [bt_f ha, bt_f hb, List.append_nil, List.nil_append]; refine ⟨_, .oo (i + 1) (q) (r) lo db, ?_⟩)
  rotate_left
  focus (simp only [bt_f ha, bt_t hb, List.append_nil, List.nil_append]; refine ⟨_, .oo (i + 1) (q) ((r + 1)) lo (db ++ [(i : Int)]), ?_⟩)
  rotate_left
  focus (simp only [bt_t ha, bt_f hb, List.append_nil, List.nil_append]; refine ⟨_, .oo (i + 1) ((q + 1)) (r) (lo ++ [(i : Int)]) db, ?_⟩)
  rotate_left
  focus (simp only [bt_t ha, bt_t hb, List.append_nil, List.nil_append]; refine ⟨_, .oo (i + 1) ((q + 1)) ((r + 1)) (lo ++ [(i : Int)]) (db ++ [(i : Int)]), ?_⟩)
  rotate_left
  all_goals (unfold btc at ha hb; rw [res_eq]; simp only [B29, h4, decide_true, if_true, sem_br, sem_nxt, stepO_nxt]; rw [res_eq]; simp only [B29, Int.toNat_natCast, ha, hb, hin, fl, fd, Int.not_lt, Int.natCast_nonneg, Bool.false_eq_true, if_false, if_true, sem_br, sem_ask, sem_nxt, PC.holds, need_true, stepO_nxt, map_snoc, len_snoc]; all_goals rfl)
theorem st0_o2 {N : Nat} {C : List DV} {j a b : Int} {d : Bool} {i q r : Nat} {lo db : List Int} (hi : i < 4) (hl : (lo : List Int).length ≤ i) (hd : (db : List Int).length ≤ i) : ∃ s, R0 N C j a b d s (i + 1) (lo ++ bt a i) (db ++ bt b i) ∧ res B29 (.c11 N C (N : Int) j ((i : Nat) : Int) a b d q lo.length (lo.map vI) r db.length (db.map vI) q r) = res B29 s := by
  have h4 : ((i : Nat) : Int) < 4 := by omega
  have hin : inI64 (((i : Nat) : Int) + 1) := by unfold inI64; omega
  have fl : fitsN (lo.length + 1) 8 := by unfold fitsN; omega
  have fd : fitsN (db.length + 1) 8 := by unfold fitsN; omega
  cases ha : btc a i <;> cases hb : btc b i
  focus (simp only [bt_f ha, bt_f hb, List.append_nil, List.nil_append]; refine ⟨_, .o2 (i + 1) (q) (r) lo db, ?_⟩)
  rotate_left
  focus (simp only [bt_f ha, bt_t hb, List.append_nil, List.nil_append]; refine ⟨_, .o2 (i + 1) (q) ((r + 1)) lo (db ++ [(i : Int)]), ?_⟩)
  rotate_left
  focus (simp only [bt_t ha, bt_f hb, List.append_nil, List.nil_append]; refine ⟨_, .o2 (i + 1) ((q + 1)) (r) (lo ++ [(i : Int)]) db, ?_⟩)
  rotate_left
  focus (simp only [bt_t ha, bt_t hb, List.append_nil, List.nil_append]; refine ⟨_, .o2 (i + 1) ((q + 1)) ((r + 1)) (lo ++ [(i : Int)]) (db ++ [(i : Int)]), ?_⟩)
  rotate_left
  all_goals (unfold btc at ha hb; rw [res_eq]; simp only [B29, h4, decide_true, if_true, sem_br, sem_nxt, stepO_nxt]; rw [res_eq]; simp only [B29, Int.toNat_natCast, ha, hb, hin, fl, fd, Int.not_lt, Int.natCast_nonneg, Bool.false_eq_true, if_false, if_true, sem_br, sem_ask, sem_nxt, PC.holds, need_true, stepO_nxt, map_snoc, len_snoc]; all_goals rfl)
theorem st0_o3 {N : Nat} {C : List DV} {j a b : Int} {d : Bool} {i q r : Nat} {lo db : List Int} (hi : i < 4) (hl : (lo : List Int).length ≤ i) (hd : (db : List Int).length ≤ i) : ∃ s, R0 N C j a b d s (i + 1) (lo ++ bt a i) (db ++ bt b i) ∧ res B29 (.c13 N C (N : Int) j ((i : Nat) : Int) a b d q lo.length (lo.map vI) r db.length (db.map vI) r q) = res B29 s := by
  have h4 : ((i : Nat) : Int) < 4 := by omega
  have hin : inI64 (((i : Nat) : Int) + 1) := by unfold inI64; omega
  have fl : fitsN (lo.length + 1) 8 := by unfold fitsN; omega
  have fd : fitsN (db.length + 1) 8 := by unfold fitsN; omega
  cases ha : btc a i <;> cases hb : btc b i
  focus (simp only [bt_f ha, bt_f hb, List.append_nil, List.nil_append]; refine ⟨_, .o3 (i + 1) (q) (r) lo db, ?_⟩)
  rotate_left
  focus (simp only [bt_f ha, bt_t hb, List.append_nil, List.nil_append]; refine ⟨_, .o3 (i + 1) (q) ((r + 1)) lo (db ++ [(i : Int)]), ?_⟩)
  rotate_left
  focus (simp only [bt_t ha, bt_f hb, List.append_nil, List.nil_append]; refine ⟨_, .o3 (i + 1) ((q + 1)) (r) (lo ++ [(i : Int)]) db, ?_⟩)
  rotate_left
  focus (simp only [bt_t ha, bt_t hb, List.append_nil, List.nil_append]; refine ⟨_, .o3 (i + 1) ((q + 1)) ((r + 1)) (lo ++ [(i : Int)]) (db ++ [(i : Int)]), ?_⟩)
  rotate_left
  all_goals (unfold btc at ha hb; rw [res_eq]; simp only [B29, h4, decide_true, if_true, sem_br, sem_nxt, stepO_nxt]; rw [res_eq]; simp only [B29, Int.toNat_natCast, ha, hb, hin, fl, fd, Int.not_lt, Int.natCast_nonneg, Bool.false_eq_true, if_false, if_true, sem_br, sem_ask, sem_nxt, PC.holds, need_true, stepO_nxt, map_snoc, len_snoc]; all_goals rfl)
theorem sp0 {N : Nat} {C : List DV} {j a b : Int} {d : Bool} {s : S29} {i : Nat} {lo db : List Int} (h : R0 N C j a b d s i lo db) (hi : i < 4) (hl : lo.length ≤ i) (hd : db.length ≤ i) : ∃ s2, R0 N C j a b d s2 (i + 1) (lo ++ bt a i) (db ++ bt b i) ∧ res B29 s = res B29 s2 := by
  cases h with
  | nn => exact st0_nn hi hl hd
  | on => exact st0_on hi hl hd
  | no => exact st0_no hi hl hd
  | oo => exact st0_oo hi hl hd
  | o2 => exact st0_o2 hi hl hd
  | o3 => exact st0_o3 hi hl hd
theorem st14_nn {p k : Nat} {ys : List DV} {N : Nat} {C : List DV} {j : Int} {x y : Nat} {a b : Int} {d : Bool} {i : Nat} (hi : i < 4) (hl : ([] : List Int).length ≤ i) (hd : ([] : List Int).length ≤ i) : ∃ s, R14 p k ys N C j x y a b d s (i + 1) ([] ++ bt a i) ([] ++ bt b i) ∧ res B29 (.c28 p k ys N C (N : Int) j ((i : Nat) : Int) x y p a b d ) = res B29 s := by
  have h4 : ((i : Nat) : Int) < 4 := by omega
  have hin : inI64 (((i : Nat) : Int) + 1) := by unfold inI64; omega
  cases ha : btc a i <;> cases hb : btc b i
  focus (simp only [bt_f ha, bt_f hb, List.append_nil, List.nil_append]; refine ⟨_, .nn (i + 1), ?_⟩)
  rotate_left
  focus (simp only [bt_f ha, bt_t hb, List.append_nil, List.nil_append]; refine ⟨_, .no (i + 1) (0) [(i : Int)], ?_⟩)
  rotate_left
  focus (simp only [bt_t ha, bt_f hb, List.append_nil, List.nil_append]; refine ⟨_, .on (i + 1) (0) [(i : Int)], ?_⟩)
  rotate_left
  focus (simp only [bt_t ha, bt_t hb, List.append_nil, List.nil_append]; refine ⟨_, .oo (i + 1) (0) (0) [(i : Int)] [(i : Int)], ?_⟩)
  rotate_left
  all_goals (unfold btc at ha hb; rw [res_eq]; simp only [B29, h4, decide_true, if_true, sem_br, sem_nxt, stepO_nxt]; rw [res_eq]; simp only [B29, Int.toNat_natCast, ha, hb, hin, Int.not_lt, Int.natCast_nonneg, Bool.false_eq_true, if_false, if_true, sem_br, sem_ask, sem_nxt, PC.holds, need_true, stepO_nxt]; all_goals rfl)
theorem st14_on {p k : Nat} {ys : List DV} {N : Nat} {C : List DV} {j : Int} {x y : Nat} {a b : Int} {d : Bool} {i q : Nat} {lo : List Int} (hi : i < 4) (hl : (lo : List Int).length ≤ i) (hd : ([] : List Int).length ≤ i) : ∃ s, R14 p k ys N C j x y a b d s (i + 1) (lo ++ bt a i) ([] ++ bt b i) ∧ res B29 (.c26 p k ys N C (N : Int) j ((i : Nat) : Int) x y p a b d q lo.length (lo.map vI) q) = res B29 s := by
  have h4 : ((i : Nat) : Int) < 4 := by omega
  have hin : inI64 (((i : Nat) : Int) + 1) := by unfold inI64; omega
  have fl : fitsN (lo.length + 1) 8 := by unfold fitsN; omega
  cases ha : btc a i <;> cases hb : btc b i
  focus (simp only [bt_f ha, bt_f hb, List.append_nil, List.nil_append]; refine ⟨_, .on (i + 1) (q) lo, ?_⟩)
  rotate_left
  focus (simp only [bt_f ha, bt_t hb, List.append_nil, List.nil_append]; refine ⟨_, .oo (i + 1) (q) (0) lo [(i : Int)], ?_⟩)
  rotate_left
  focus (simp only [bt_t ha, bt_f hb, List.append_nil, List.nil_append]; refine ⟨_, .on (i + 1) ((q + 1)) (lo ++ [(i : Int)]), ?_⟩)
  rotate_left
  focus (simp only [bt_t ha, bt_t hb, List.append_nil, List.nil_append]; refine ⟨_, .o2 (i + 1) ((q + 1)) (0) (lo ++ [(i : Int)]) [(i : Int)], ?_⟩)
  rotate_left
  all_goals (unfold btc at ha hb; rw [res_eq]; simp only [B29, h4, decide_true, if_true, sem_br, sem_nxt, stepO_nxt]; rw [res_eq]; simp only [B29, Int.toNat_natCast, ha, hb, hin, fl, Int.not_lt, Int.natCast_nonneg, Bool.false_eq_true, if_false, if_true, sem_br, sem_ask, sem_nxt, PC.holds, need_true, stepO_nxt, map_snoc, len_snoc]; all_goals rfl)
theorem st14_no {p k : Nat} {ys : List DV} {N : Nat} {C : List DV} {j : Int} {x y : Nat} {a b : Int} {d : Bool} {i q : Nat} {db : List Int} (hi : i < 4) (hl : ([] : List Int).length ≤ i) (hd : (db : List Int).length ≤ i) : ∃ s, R14 p k ys N C j x y a b d s (i + 1) ([] ++ bt a i) (db ++ bt b i) ∧ res B29 (.c27 p k ys N C (N : Int) j ((i : Nat) : Int) x y p a b d q db.length (db.map vI) q) = res B29 s := by
  have h4 : ((i : Nat) : Int) < 4 := by omega
  have hin : inI64 (((i : Nat) : Int) + 1) := by unfold inI64; omega
  have fd : fitsN (db.length + 1) 8 := by unfold fitsN; omega
  cases ha : btc a i <;> cases hb : btc b i
  focus (simp only [bt_f ha, bt_f hb, List.append_nil, List.nil_append]; refine ⟨_, .no (i + 1) (q) db, ?_⟩)
  rotate_left
  focus (simp only [bt_f ha, bt_t hb, List.append_nil, List.nil_append]; refine ⟨_, .no (i + 1) ((q + 1)) (db ++ [(i : Int)]), ?_⟩)
  rotate_left
  focus (simp only [bt_t ha, bt_f hb, List.append_nil, List.nil_append]; refine ⟨_, .o3 (i + 1) (0) (q) [(i : Int)] db, ?_⟩)
  rotate_left
  focus (simp only [bt_t ha, bt_t hb, List.append_nil, List.nil_append]; refine ⟨_, .o3 (i + 1) (0) ((q + 1)) [(i : Int)] (db ++ [(i : Int)]), ?_⟩)
  rotate_left
  all_goals (unfold btc at ha hb; rw [res_eq]; simp only [B29, h4, decide_true, if_true, sem_br, sem_nxt, stepO_nxt]; rw [res_eq]; simp only [B29, Int.toNat_natCast, ha, hb, hin, fd, Int.not_lt, Int.natCast_nonneg, Bool.false_eq_true, if_false, if_true, sem_br, sem_ask, sem_nxt, PC.holds, need_true, stepO_nxt, map_snoc, len_snoc]; all_goals rfl)
theorem st14_oo {p k : Nat} {ys : List DV} {N : Nat} {C : List DV} {j : Int} {x y : Nat} {a b : Int} {d : Bool} {i q r : Nat} {lo db : List Int} (hi : i < 4) (hl : (lo : List Int).length ≤ i) (hd : (db : List Int).length ≤ i) : ∃ s, R14 p k ys N C j x y a b d s (i + 1) (lo ++ bt a i) (db ++ bt b i) ∧ res B29 (.c25 p k ys N C (N : Int) j ((i : Nat) : Int) x y p a b d q lo.length (lo.map vI) r db.length (db.map vI) q r) = res B29 s := by
  have h4 : ((i : Nat) : Int) < 4 := by omega
  have hin : inI64 (((i : Nat) : Int) + 1) := by unfold inI64; omega
  have fl : fitsN (lo.length + 1) 8 := by unfold fitsN; omega
  have fd : fitsN (db.length + 1) 8 := by unfold fitsN; omega
  cases ha : btc a i <;> cases hb : btc b i
  focus (simp only [bt_f ha, bt_f hb, List.append_nil, List.nil_append]; refine ⟨_, .oo (i + 1) (q) (r) lo db, ?_⟩)
  rotate_left
  focus (simp only [bt_f ha, bt_t hb, List.append_nil, List.nil_append]; refine ⟨_, .oo (i + 1) (q) ((r + 1)) lo (db ++ [(i : Int)]), ?_⟩)
  rotate_left
  focus (simp only [bt_t ha, bt_f hb, List.append_nil, List.nil_append]; refine ⟨_, .oo (i + 1) ((q + 1)) (r) (lo ++ [(i : Int)]) db, ?_⟩)
  rotate_left
  focus (simp only [bt_t ha, bt_t hb, List.append_nil, List.nil_append]; refine ⟨_, .oo (i + 1) ((q + 1)) ((r + 1)) (lo ++ [(i : Int)]) (db ++ [(i : Int)]), ?_⟩)
  rotate_left
  all_goals (unfold btc at ha hb; rw [res_eq]; simp only [B29, h4, decide_true, if_true, sem_br, sem_nxt, stepO_nxt]; rw [res_eq]; simp only [B29, Int.toNat_natCast, ha, hb, hin, fl, fd, Int.not_lt, Int.natCast_nonneg, Bool.false_eq_true, if_false, if_true, sem_br, sem_ask, sem_nxt, PC.holds, need_true, stepO_nxt, map_snoc, len_snoc]; all_goals rfl)
theorem st14_o2 {p k : Nat} {ys : List DV} {N : Nat} {C : List DV} {j : Int} {x y : Nat} {a b : Int} {d : Bool} {i q r : Nat} {lo db : List Int} (hi : i < 4) (hl : (lo : List Int).length ≤ i) (hd : (db : List Int).length ≤ i) : ∃ s, R14 p k ys N C j x y a b d s (i + 1) (lo ++ bt a i) (db ++ bt b i) ∧ res B29 (.c51 p k ys N C (N : Int) j ((i : Nat) : Int) x y p a b d q lo.length (lo.map vI) r db.length (db.map vI) q r) = res B29 s := by
  have h4 : ((i : Nat) : Int) < 4 := by omega
  have hin : inI64 (((i : Nat) : Int) + 1) := by unfold inI64; omega
  have fl : fitsN (lo.length + 1) 8 := by unfold fitsN; omega
  have fd : fitsN (db.length + 1) 8 := by unfold fitsN; omega
  cases ha : btc a i <;> cases hb : btc b i
  focus (simp only [bt_f ha, bt_f hb, List.append_nil, List.nil_append]; refine ⟨_, .o2 (i + 1) (q) (r) lo db, ?_⟩)
  rotate_left
  focus (simp only [bt_f ha, bt_t hb, List.append_nil, List.nil_append]; refine ⟨_, .o2 (i + 1) (q) ((r + 1)) lo (db ++ [(i : Int)]), ?_⟩)
  rotate_left
  focus (simp only [bt_t ha, bt_f hb, List.append_nil, List.nil_append]; refine ⟨_, .o2 (i + 1) ((q + 1)) (r) (lo ++ [(i : Int)]) db, ?_⟩)
  rotate_left
  focus (simp only [bt_t ha, bt_t hb, List.append_nil, List.nil_append]; refine ⟨_, .o2 (i + 1) ((q + 1)) ((r + 1)) (lo ++ [(i : Int)]) (db ++ [(i : Int)]), ?_⟩)
  rotate_left
  all_goals (unfold btc at ha hb; rw [res_eq]; simp only [B29, h4, decide_true, if_true, sem_br, sem_nxt, stepO_nxt]; rw [res_eq]; simp only [B29, Int.toNat_natCast, ha, hb, hin, fl, fd, Int.not_lt, Int.natCast_nonneg, Bool.false_eq_true, if_false, if_true, sem_br, sem_ask, sem_nxt, PC.holds, need_true, stepO_nxt, map_snoc, len_snoc]; all_goals rfl)
theorem st14_o3 {p k : Nat} {ys : List DV} {N : Nat} {C : List DV} {j : Int} {x y : Nat} {a b : Int} {d : Bool} {i q r : Nat} {lo db : List Int} (hi : i < 4) (hl : (lo : List Int).length ≤ i) (hd : (db : List Int).length ≤ i) : ∃ s, R14 p k ys N C j x y a b d s (i + 1) (lo ++ bt a i) (db ++ bt b i) ∧ res B29 (.c53 p k ys N C (N : Int) j ((i : Nat) : Int) x y p a b d q lo.length (lo.map vI) r db.length (db.map vI) r q) = res B29 s := by
  have h4 : ((i : Nat) : Int) < 4 := by omega
  have hin : inI64 (((i : Nat) : Int) + 1) := by unfold inI64; omega
  have fl : fitsN (lo.length + 1) 8 := by unfold fitsN; omega
  have fd : fitsN (db.length + 1) 8 := by unfold fitsN; omega
  cases ha : btc a i <;> cases hb : btc b i
  focus (simp only [bt_f ha, bt_f hb, List.append_nil, List.nil_append]; refine ⟨_, .o3 (i + 1) (q) (r) lo db, ?_⟩)
  rotate_left
  focus (simp only [bt_f ha, bt_t hb, List.append_nil, List.nil_append]; refine ⟨_, .o3 (i + 1) (q) ((r + 1)) lo (db ++ [(i : Int)]), ?_⟩)
  rotate_left
  focus (simp only [bt_t ha, bt_f hb, List.append_nil, List.nil_append]; refine ⟨_, .o3 (i + 1) ((q + 1)) (r) (lo ++ [(i : Int)]) db, ?_⟩)
  rotate_left
  focus (simp only [bt_t ha, bt_t hb, List.append_nil, List.nil_append]; refine ⟨_, .o3 (i + 1) ((q + 1)) ((r + 1)) (lo ++ [(i : Int)]) (db ++ [(i : Int)]), ?_⟩)
  rotate_left
  all_goals (unfold btc at ha hb; rw [res_eq]; simp only [B29, h4, decide_true, if_true, sem_br, sem_nxt, stepO_nxt]; rw [res_eq]; simp only [B29, Int.toNat_natCast, ha, hb, hin, fl, fd, Int.not_lt, Int.natCast_nonneg, Bool.false_eq_true, if_false, if_true, sem_br, sem_ask, sem_nxt, PC.holds, need_true, stepO_nxt, map_snoc, len_snoc]; all_goals rfl)
theorem sp14 {p k : Nat} {ys : List DV} {N : Nat} {C : List DV} {j : Int} {x y : Nat} {a b : Int} {d : Bool} {s : S29} {i : Nat} {lo db : List Int} (h : R14 p k ys N C j x y a b d s i lo db) (hi : i < 4) (hl : lo.length ≤ i) (hd : db.length ≤ i) : ∃ s2, R14 p k ys N C j x y a b d s2 (i + 1) (lo ++ bt a i) (db ++ bt b i) ∧ res B29 s = res B29 s2 := by
  cases h with
  | nn => exact st14_nn hi hl hd
  | on => exact st14_on hi hl hd
  | no => exact st14_no hi hl hd
  | oo => exact st14_oo hi hl hd
  | o2 => exact st14_o2 hi hl hd
  | o3 => exact st14_o3 hi hl hd
theorem st15_nn {p k : Nat} {ys : List DV} {N : Nat} {C : List DV} {j : Int} {x : Nat} {a b : Int} {d : Bool} {i : Nat} (hi : i < 4) (hl : ([] : List Int).length ≤ i) (hd : ([] : List Int).length ≤ i) : ∃ s, R15 p k ys N C j x a b d s (i + 1) ([] ++ bt a i) ([] ++ bt b i) ∧ res B29 (.c35 p k ys N C (N : Int) j ((i : Nat) : Int) x p a b d ) = res B29 s := by
  have h4 : ((i : Nat) : Int) < 4 := by omega
  have hin : inI64 (((i : Nat) : Int) + 1) := by unfold inI64; omega
  cases ha : btc a i <;> cases hb : btc b i
  focus (simp only [bt_f ha, bt_f hb, List.append_nil, List.nil_append]; refine ⟨_, .nn (i + 1), ?_⟩)
  rotate_left
  focus (simp only [bt_f ha, bt_t hb, List.append_nil, List.nil_append]; refine ⟨_, .no (i + 1) (0) [(i : Int)], ?_⟩)
  rotate_left
  focus (simp only [bt_t ha, bt_f hb, List.append_nil, List.nil_append]; refine ⟨_, .on (i + 1) (0) [(i : Int)], ?_⟩)
  rotate_left
  focus (simp only [bt_t ha, bt_t hb, List.append_nil, List.nil_append]; refine ⟨_, .oo (i + 1) (0) (0) [(i : Int)] [(i : Int)], ?_⟩)
  rotate_left
  all_goals (unfold btc at ha hb; rw [res_eq]; simp only [B29, h4, decide_true, if_true, sem_br, sem_nxt, stepO_nxt]; rw [res_eq]; simp only [B29, Int.toNat_natCast, ha, hb, hin, Int.not_lt, Int.natCast_nonneg, Bool.false_eq_true, if_false, if_true, sem_br, sem_ask, sem_nxt, PC.holds, need_true, stepO_nxt]; all_goals rfl)
theorem st15_on {p k : Nat} {ys : List DV} {N : Nat} {C : List DV} {j : Int} {x : Nat} {a b : Int} {d : Bool} {i q : Nat} {lo : List Int} (hi : i < 4) (hl : (lo : List Int).length ≤ i) (hd : ([] : List Int).length ≤ i) : ∃ s, R15 p k ys N C j x a b d s (i + 1) (lo ++ bt a i) ([] ++ bt b i) ∧ res B29 (.c33 p k ys N C (N : Int) j ((i : Nat) : Int) x p a b d q lo.length (lo.map vI) q) = res B29 s := by
  have h4 : ((i : Nat) : Int) < 4 := by omega
  have hin : inI64 (((i : Nat) : Int) + 1) := by unfold inI64; omega
  have fl : fitsN (lo.length + 1) 8 := by unfold fitsN; omega
  cases ha : btc a i <;> cases hb : btc b i
  focus (simp only [bt_f ha, bt_f hb, List.append_nil, List.nil_append]; refine ⟨_, .on (i + 1) (q) lo, ?_⟩)
  rotate_left
  focus (simp only [bt_f ha, bt_t hb, List.append_nil, List.nil_append]; refine ⟨_, .oo (i + 1) (q) (0) lo [(i : Int)], ?_⟩)
  rotate_left
  focus (simp only [bt_t ha, bt_f hb, List.append_nil, List.nil_append]; refine ⟨_, .on (i + 1) ((q + 1)) (lo ++ [(i : Int)]), ?_⟩)
  rotate_left
  focus (simp only [bt_t ha, bt_t hb, List.append_nil, List.nil_append]; refine ⟨_, .o2 (i + 1) ((q + 1)) (0) (lo ++ [(i : Int)]) [(i : Int)], ?_⟩)
  rotate_left
  all_goals (unfold btc at ha hb; rw [res_eq]; simp only [B29, h4, decide_true, if_true, sem_br, sem_nxt, stepO_nxt]; rw [res_eq]; simp only [B29, Int.toNat_natCast, ha, hb, hin, fl, Int.not_lt, Int.natCast_nonneg, Bool.false_eq_true, if_false, if_true, sem_br, sem_ask, sem_nxt, PC.holds, need_true, stepO_nxt, map_snoc, len_snoc]; all_goals rfl)
theorem st15_no {p k : Nat} {ys : List DV} {N : Nat} {C : List DV} {j : Int} {x : Nat} {a b : Int} {d : Bool} {i q : Nat} {db : List Int} (hi : i < 4) (hl : ([] : List Int).length ≤ i) (hd : (db : List Int).length ≤ i) : ∃ s, R15 p k ys N C j x a b d s (i + 1) ([] ++ bt a i) (db ++ bt b i) ∧ res B29 (.c34 p k ys N C (N : Int) j ((i : Nat) : Int) x p a b d q db.length (db.map vI) q) = res B29 s := by
  have h4 : ((i : Nat) : Int) < 4 := by omega
  have hin : inI64 (((i : Nat) : Int) + 1) := by unfold inI64; omega
  have fd : fitsN (db.length + 1) 8 := by unfold fitsN; omega
  cases ha : btc a i <;> cases hb : btc b i
  focus (simp only [bt_f ha, bt_f hb, List.append_nil, List.nil_append]; refine ⟨_, .no (i + 1) (q) db, ?_⟩)
  rotate_left
  focus (simp only [bt_f ha, bt_t hb, List.append_nil, List.nil_append]; refine ⟨_, .no (i + 1) ((q + 1)) (db ++ [(i : Int)]), ?_⟩)
  rotate_left
  focus (simp only [bt_t ha, bt_f hb, List.append_nil, List.nil_append]; refine ⟨_, .o3 (i + 1) (0) (q) [(i : Int)] db, ?_⟩)
  rotate_left
  focus (simp only [bt_t ha, bt_t hb, List.append_nil, List.nil_append]; refine ⟨_, .o3 (i + 1) (0) ((q + 1)) [(i : Int)] (db ++ [(i : Int)]), ?_⟩)
  rotate_left
  all_goals (unfold btc at ha hb; rw [res_eq]; simp only [B29, h4, decide_true, if_true, sem_br, sem_nxt, stepO_nxt]; rw [res_eq]; simp only [B29, Int.toNat_natCast, ha, hb, hin, fd, Int.not_lt, Int.natCast_nonneg, Bool.false_eq_true, if_false, if_true, sem_br, sem_ask, sem_nxt, PC.holds, need_true, stepO_nxt, map_snoc, len_snoc]; all_goals rfl)
theorem st15_oo {p k : Nat} {ys : List DV} {N : Nat} {C : List DV} {j : Int} {x : Nat} {a b : Int} {d : Bool} {i q r : Nat} {lo db : List Int} (hi : i < 4) (hl : (lo : List Int).length ≤ i) (hd : (db : List Int).length ≤ i) : ∃ s, R15 p k ys N C j x a b d s (i + 1) (lo ++ bt a i) (db ++ bt b i) ∧ res B29 (.c32 p k ys N C (N : Int) j ((i : Nat) : Int) x p a b d q lo.length (lo.map vI) r db.length (db.map vI) q r) = res B29 s := by
  have h4 : ((i : Nat) : Int) < 4 := by omega
  have hin : inI64 (((i : Nat) : Int) + 1) := by unfold inI64; omega
  have fl : fitsN (lo.length + 1) 8 := by unfold fitsN; omega
  have fd : fitsN (db.length + 1) 8 := by unfold fitsN; omega
  cases ha : btc a i <;> cases hb : btc b i
  focus (simp only [bt_f ha, bt_f hb, List.append_nil, List.nil_append]; refine ⟨_, .oo (i + 1) (q) (r) lo db, ?_⟩)
  rotate_left
  focus (simp only [bt_f ha, bt_t hb, List.append_nil, List.nil_append]; refine ⟨_, .oo (i + 1) (q) ((r + 1)) lo (db ++ [(i : Int)]), ?_⟩)
  rotate_left
  focus (simp only [bt_t ha, bt_f hb, List.append_nil, List.nil_append]; refine ⟨_, .oo (i + 1) ((q + 1)) (r) (lo ++ [(i : Int)]) db, ?_⟩)
  rotate_left
  focus (simp only [bt_t ha, bt_t hb, List.append_nil, List.nil_append]; refine ⟨_, .oo (i + 1) ((q + 1)) ((r + 1)) (lo ++ [(i : Int)]) (db ++ [(i : Int)]), ?_⟩)
  rotate_left
  all_goals (unfold btc at ha hb; rw [res_eq]; simp only [B29, h4, decide_true, if_true, sem_br, sem_nxt, stepO_nxt]; rw [res_eq]; simp only [B29, Int.toNat_natCast, ha, hb, hin, fl, fd, Int.not_lt, Int.natCast_nonneg, Bool.false_eq_true, if_false, if_true, sem_br, sem_ask, sem_nxt, PC.holds, need_true, stepO_nxt, map_snoc, len_snoc]; all_goals rfl)
theorem st15_o2 {p k : Nat} {ys : List DV} {N : Nat} {C : List DV} {j : Int} {x : Nat} {a b : Int} {d : Bool} {i q r : Nat} {lo db : List Int} (hi : i < 4) (hl : (lo : List Int).length ≤ i) (hd : (db : List Int).length ≤ i) : ∃ s, R15 p k ys N C j x a b d s (i + 1) (lo ++ bt a i) (db ++ bt b i) ∧ res B29 (.c55 p k ys N C (N : Int) j ((i : Nat) : Int) x p a b d q lo.length (lo.map vI) r db.length (db.map vI) q r) = res B29 s := by
  have h4 : ((i : Nat) : Int) < 4 := by omega
  have hin : inI64 (((i : Nat) : Int) + 1) := by unfold inI64; omega
  have fl : fitsN (lo.length + 1) 8 := by unfold fitsN; omega
  have fd : fitsN (db.length + 1) 8 := by unfold fitsN; omega
  cases ha : btc a i <;> cases hb : btc b i
  focus (simp only [bt_f ha, bt_f hb, List.append_nil, List.nil_append]; refine ⟨_, .o2 (i + 1) (q) (r) lo db, ?_⟩)
  rotate_left
  focus (simp only [bt_f ha, bt_t hb, List.append_nil, List.nil_append]; refine ⟨_, .o2 (i + 1) (q) ((r + 1)) lo (db ++ [(i : Int)]), ?_⟩)
  rotate_left
  focus (simp only [bt_t ha, bt_f hb, List.append_nil, List.nil_append]; refine ⟨_, .o2 (i + 1) ((q + 1)) (r) (lo ++ [(i : Int)]) db, ?_⟩)
  rotate_left
  focus (simp only [bt_t ha, bt_t hb, List.append_nil, List.nil_append]; refine ⟨_, .o2 (i + 1) ((q + 1)) ((r + 1)) (lo ++ [(i : Int)]) (db ++ [(i : Int)]), ?_⟩)
  rotate_left
  all_goals (unfold btc at ha hb; rw [res_eq]; simp only [B29, h4, decide_true, if_true, sem_br, sem_nxt, stepO_nxt]; rw [res_eq]; simp only [B29, Int.toNat_natCast, ha, hb, hin, fl, fd, Int.not_lt, Int.natCast_nonneg, Bool.false_eq_true, if_false, if_true, sem_br, sem_ask, sem_nxt, PC.holds, need_true, stepO_nxt, map_snoc, len_snoc]; all_goals rfl)
theorem st15_o3 {p k : Nat} {ys : List DV} {N : Nat} {C : List DV} {j : Int} {x : Nat} {a b : Int} {d : Bool} {i q r : Nat} {lo db : List Int} (hi : i < 4) (hl : (lo : List Int).length ≤ i) (hd : (db : List Int).length ≤ i) : ∃ s, R15 p k ys N C j x a b d s (i + 1) (lo ++ bt a i) (db ++ bt b i) ∧ res B29 (.c57 p k ys N C (N : Int) j ((i : Nat) : Int) x p a b d q lo.length (lo.map vI) r db.length (db.map vI) r q) = res B29 s := by
  have h4 : ((i : Nat) : Int) < 4 := by omega
  have hin : inI64 (((i : Nat) : Int) + 1) := by unfold inI64; omega
  have fl : fitsN (lo.length + 1) 8 := by unfold fitsN; omega
  have fd : fitsN (db.length + 1) 8 := by unfold fitsN; omega
  cases ha : btc a i <;> cases hb : btc b i
  focus (simp only [bt_f ha, bt_f hb, List.append_nil, List.nil_append]; refine ⟨_, .o3 (i + 1) (q) (r) lo db, ?_⟩)
  rotate_left
  focus (simp only [bt_f ha, bt_t hb, List.append_nil, List.nil_append]; refine ⟨_, .o3 (i + 1) (q) ((r + 1)) lo (db ++ [(i : Int)]), ?_⟩)
  rotate_left
  focus (simp only [bt_t ha, bt_f hb, List.append_nil, List.nil_append]; refine ⟨_, .o3 (i + 1) ((q + 1)) (r) (lo ++ [(i : Int)]) db, ?_⟩)
  rotate_left
  focus (simp only [bt_t ha, bt_t hb, List.append_nil, List.nil_append]; refine ⟨_, .o3 (i + 1) ((q + 1)) ((r + 1)) (lo ++ [(i : Int)]) (db ++ [(i : Int)]), ?_⟩)
  rotate_left
  all_goals (unfold btc at ha hb; rw [res_eq]; simp only [B29, h4, decide_true, if_true, sem_br, sem_nxt, stepO_nxt]; rw [res_eq]; simp only [B29, Int.toNat_natCast, ha, hb, hin, fl, fd, Int.not_lt, Int.natCast_nonneg, Bool.false_eq_true, if_false, if_true, sem_br, sem_ask, sem_nxt, PC.holds, need_true, stepO_nxt, map_snoc, len_snoc]; all_goals rfl)
theorem sp15 {p k : Nat} {ys : List DV} {N : Nat} {C : List DV} {j : Int} {x : Nat} {a b : Int} {d : Bool} {s : S29} {i : Nat} {lo db : List Int} (h : R15 p k ys N C j x a b d s i lo db) (hi : i < 4) (hl : lo.length ≤ i) (hd : db.length ≤ i) : ∃ s2, R15 p k ys N C j x a b d s2 (i + 1) (lo ++ bt a i) (db ++ bt b i) ∧ res B29 s = res B29 s2 := by
  cases h with
  | nn => exact st15_nn hi hl hd
  | on => exact st15_on hi hl hd
  | no => exact st15_no hi hl hd
  | oo => exact st15_oo hi hl hd
  | o2 => exact st15_o2 hi hl hd
  | o3 => exact st15_o3 hi hl hd
theorem st16_nn {p k : Nat} {ys : List DV} {N : Nat} {C : List DV} {j : Int} {a b : Int} {d : Bool} {i : Nat} (hi : i < 4) (hl : ([] : List Int).length ≤ i) (hd : ([] : List Int).length ≤ i) : ∃ s, R16 p k ys N C j a b d s (i + 1) ([] ++ bt a i) ([] ++ bt b i) ∧ res B29 (.c42 p k ys N C (N : Int) j ((i : Nat) : Int) p a b d ) = res B29 s := by
  have h4 : ((i : Nat) : Int) < 4 := by omega
  have hin : inI64 (((i : Nat) : Int) + 1) := by unfold inI64; omega
  cases ha : btc a i <;> cases hb : btc b i
  focus (simp only [bt_f ha, bt_f hb, List.append_nil, List.nil_append]; refine ⟨_, .nn (i + 1), ?_⟩)
  rotate_left
  focus (simp only [bt_f ha, bt_t hb, List.append_nil, List.nil_append]; refine ⟨_, .no (i + 1) (0) [(i : Int)], ?_⟩)
  rotate_left
  focus (simp only [bt_t ha, bt_f hb, List.append_nil, List.nil_append]; refine ⟨_, .on (i + 1) (0) [(i : Int)], ?_⟩)
  rotate_left
  focus (simp only [bt_t ha, bt_t hb, List.append_nil, List.nil_append]; refine ⟨_, .oo (i + 1) (0) (0) [(i : Int)] [(i : Int)], ?_⟩)
  rotate_left
  all_goals (unfold btc at ha hb; rw [res_eq]; simp only [B29, h4, decide_true, if_true, sem_br, sem_nxt, stepO_nxt]; rw [res_eq]; simp only [B29, Int.toNat_natCast, ha, hb, hin, Int.not_lt, Int.natCast_nonneg, Bool.false_eq_true, if_false, if_true, sem_br, sem_ask, sem_nxt, PC.holds, need_true, stepO_nxt]; all_goals rfl)
theorem st16_on {p k : Nat} {ys : List DV} {N : Nat} {C : List DV} {j : Int} {a b : Int} {d : Bool} {i q : Nat} {lo : List Int} (hi : i < 4) (hl : (lo : List Int).length ≤ i) (hd : ([] : List Int).length ≤ i) : ∃ s, R16 p k ys N C j a b d s (i + 1) (lo ++ bt a i) ([] ++ bt b i) ∧ res B29 (.c40 p k ys N C (N : Int) j ((i : Nat) : Int) p a b d q lo.length (lo.map vI) q) = res B29 s := by
  have h4 : ((i : Nat) : Int) < 4 := by omega
  have hin : inI64 (((i : Nat) : Int) + 1) := by unfold inI64; omega
  have fl : fitsN (lo.length + 1) 8 := by unfold fitsN; omega
  cases ha : btc a i <;> cases hb : btc b i
  focus (simp only [bt_f ha, bt_f hb, List.append_nil, List.nil_append]; refine ⟨_, .on (i + 1) (q) lo, ?_⟩)
  rotate_left
  focus (simp only [bt_f ha, bt_t hb, List.append_nil, List.nil_append]; refine ⟨_, .oo (i + 1) (q) (0) lo [(i : Int)], ?_⟩)
  rotate_left
  focus (simp only [bt_t ha, bt_f hb, List.append_nil, List.nil_append]; refine ⟨_, .on (i + 1) ((q + 1)) (lo ++ [(i : Int)]), ?_⟩)
  rotate_left
  focus (simp only [bt_t ha, bt_t hb, List.append_nil, List.nil_append]; refine ⟨_, .o2 (i + 1) ((q + 1)) (0) (lo ++ [(i : Int)]) [(i : Int)], ?_⟩)
  rotate_left
  all_goals (unfold btc at ha hb; rw [res_eq]; simp only [B29, h4, decide_true, if_true, sem_br, sem_nxt, stepO_nxt]; rw [res_eq]; simp only [B29, Int.toNat_natCast, ha, hb, hin, fl, Int.not_lt, Int.natCast_nonneg, Bool.false_eq_true, if_false, if_true, sem_br, sem_ask, sem_nxt, PC.holds, need_true, stepO_nxt, map_snoc, len_snoc]; all_goals rfl)
theorem st16_no {p k : Nat} {ys : List DV} {N : Nat} {C : List DV} {j : Int} {a b : Int} {d : Bool} {i q : Nat} {db : List Int} (hi : i < 4) (hl : ([] : List Int).length ≤ i) (hd : (db : List Int).length ≤ i) : ∃ s, R16 p k ys N C j a b d s (i + 1) ([] ++ bt a i) (db ++ bt b i) ∧ res B29 (.c41 p k ys N C (N : Int) j ((i : Nat) : Int) p a b d q db.length (db.map vI) q) = res B29 s := by
  have h4 : ((i : Nat) : Int) < 4 := by omega
  have hin : inI64 (((i : Nat) : Int) + 1) := by unfold inI64; omega
  have fd : fitsN (db.length + 1) 8 := by unfold fitsN; omega
  cases ha : btc a i <;> cases hb : btc b i
  focus (simp only [bt_f ha, bt_f hb, List.append_nil, List.nil_append]; refine ⟨_, .no (i + 1) (q) db, ?_⟩)
  rotate_left
  focus (simp only [bt_f ha, bt_t hb, List.append_nil, List.nil_append]; refine ⟨_, .no (i + 1) ((q + 1)) (db ++ [(i : Int)]), ?_⟩)
  rotate_left
  focus (simp only [bt_t ha, bt_f hb, List.append_nil, List.nil_append]; refine ⟨_, .o3 (i + 1) (0) (q) [(i : Int)] db, ?_⟩)
  rotate_left
  focus (simp only [bt_t ha, bt_t hb, List.append_nil, List.nil_append]; refine ⟨_, .o3 (i + 1) (0) ((q + 1)) [(i : Int)] (db ++ [(i : Int)]), ?_⟩)
  rotate_left
  all_goals (unfold btc at ha hb; rw [res_eq]; simp only [B29, h4, decide_true, if_true, sem_br, sem_nxt, stepO_nxt]; rw [res_eq]; simp only [B29, Int.toNat_natCast, ha, hb, hin, fd, Int.not_lt, Int.natCast_nonneg, Bool.false_eq_true, if_false, if_true, sem_br, sem_ask, sem_nxt, PC.holds, need_true, stepO_nxt, map_snoc, len_snoc]; all_goals rfl)
theorem st16_oo {p k : Nat} {ys : List DV} {N : Nat} {C : List DV} {j : Int} {a b : Int} {d : Bool} {i q r : Nat} {lo db : List Int} (hi : i < 4) (hl : (lo : List Int).length ≤ i) (hd : (db : List Int).length ≤ i) : ∃ s, R16 p k ys N C j a b d s (i + 1) (lo ++ bt a i) (db ++ bt b i) ∧ res B29 (.c39 p k ys N C (N : Int) j ((i : Nat) : Int) p a b d q lo.length (lo.map vI) r db.length (db.map vI) q r) = res B29 s := by
  have h4 : ((i : Nat) : Int) < 4 := by omega
  have hin : inI64 (((i : Nat) : Int) + 1) := by unfold inI64; omega
  have fl : fitsN (lo.length + 1) 8 := by unfold fitsN; omega
  have fd : fitsN (db.length + 1) 8 := by unfold fitsN; omega
  cases ha : btc a i <;> cases hb : btc b i
  focus (simp only [bt_f ha, bt_f hb, List.append_nil, List.nil_append]; refine ⟨_, .oo (i + 1) (q) (r) lo db, ?_⟩)
  rotate_left
  focus (simp only [bt_f ha, bt_t hb, List.append_nil, List.nil_append]; refine ⟨_, .oo (i + 1) (q) ((r + 1)) lo (db ++ [(i : Int)]), ?_⟩)
  rotate_left
  focus (simp only [bt_t ha, bt_f hb, List.append_nil, List.nil_append]; refine ⟨_, .oo (i + 1) ((q + 1)) (r) (lo ++ [(i : Int)]) db, ?_⟩)
  rotate_left
  focus (simp only [bt_t ha, bt_t hb, List.append_nil, List.nil_append]; refine ⟨_, .oo (i + 1) ((q + 1)) ((r + 1)) (lo ++ [(i : Int)]) (db ++ [(i : Int)]), ?_⟩)
  rotate_left
  all_goals (unfold btc at ha hb; rw [res_eq]; simp only [B29, h4, decide_true, if_true, sem_br, sem_nxt, stepO_nxt]; rw [res_eq]; simp only [B29, Int.toNat_natCast, ha, hb, hin, fl, fd, Int.not_lt, Int.natCast_nonneg, Bool.false_eq_true, if_false, if_true, sem_br, sem_ask, sem_nxt, PC.holds, need_true, stepO_nxt, map_snoc, len_snoc]; all_goals rfl)
theorem st16_o2 {p k : Nat} {ys : List DV} {N : Nat} {C : List DV} {j : Int} {a b : Int} {d : Bool} {i q r : Nat} {lo db : List Int} (hi : i < 4) (hl : (lo : List Int).length ≤ i) (hd : (db : List Int).length ≤ i) : ∃ s, R16 p k ys N C j a b d s (i + 1) (lo ++ bt a i) (db ++ bt b i) ∧ res B29 (.c59 p k ys N C (N : Int) j ((i : Nat) : Int) p a b d q lo.length (lo.map vI) r db.length (db.map vI) q r) = res B29 s := by
  have h4 : ((i : Nat) : Int) < 4 := by omega
  have hin : inI64 (((i : Nat) : Int) + 1) := by unfold inI64; omega
  have fl : fitsN (lo.length + 1) 8 := by unfold fitsN; omega
  have fd : fitsN (db.length + 1) 8 := by unfold fitsN; omega
  cases ha : btc a i <;> cases hb : btc b i
  focus (simp only [bt_f ha, bt_f hb, List.append_nil, List.nil_append]; refine ⟨_, .o2 (i + 1) (q) (r) lo db, ?_⟩)
  rotate_left
  focus (simp only [bt_f ha, bt_t hb, List.append_nil, List.nil_append]; refine ⟨_, .o2 (i + 1) (q) ((r + 1)) lo (db ++ [(i : Int)]), ?_⟩)
  rotate_left
  focus (simp only [bt_t ha, bt_f hb, List.append_nil, List.nil_append]; refine ⟨_, .o2 (i + 1) ((q + 1)) (r) (lo ++ [(i : Int)]) db, ?_⟩)
  rotate_left
  focus (simp only [bt_t ha, bt_t hb, List.append_nil, List.nil_append]; refine ⟨_, .o2 (i + 1) ((q + 1)) ((r + 1)) (lo ++ [(i : Int)]) (db ++ [(i : Int)]), ?_⟩)
  rotate_left
  all_goals (unfold btc at ha hb; rw [res_eq]; simp only [B29, h4, decide_true, if_true, sem_br, sem_nxt, stepO_nxt]; rw [res_eq]; simp only [B29, Int.toNat_natCast, ha, hb, hin, fl, fd, Int.not_lt, Int.natCast_nonneg, Bool.false_eq_true, if_false, if_true, sem_br, sem_ask, sem_nxt, PC.holds, need_true, stepO_nxt, map_snoc, len_snoc]; all_goals rfl)
theorem st16_o3 {p k : Nat} {ys : List DV} {N : Nat} {C : List DV} {j : Int} {a b : Int} {d : Bool} {i q r : Nat} {lo db : List Int} (hi : i < 4) (hl : (lo : List Int).length ≤ i) (hd : (db : List Int).length ≤ i) : ∃ s, R16 p k ys N C j a b d s (i + 1) (lo ++ bt a i) (db ++ bt b i) ∧ res B29 (.c61 p k ys N C (N : Int) j ((i : Nat) : Int) p a b d q lo.length (lo.map vI) r db.length (db.map vI) r q) = res B29 s := by
  have h4 : ((i : Nat) : Int) < 4 := by omega
  have hin : inI64 (((i : Nat) : Int) + 1) := by unfold inI64; omega
  have fl : fitsN (lo.length + 1) 8 := by unfold fitsN; omega
  have fd : fitsN (db.length + 1) 8 := by unfold fitsN; omega
  cases ha : btc a i <;> cases hb : btc b i
  focus (simp only [bt_f ha, bt_f hb, List.append_nil, List.nil_append]; refine ⟨_, .o3 (i + 1) (q) (r) lo db, ?_⟩)
  rotate_left
  focus (simp only [bt_f ha, bt_t hb, List.append_nil, List.nil_append]; refine ⟨_, .o3 (i + 1) (q) ((r + 1)) lo (db ++ [(i : Int)]), ?_⟩)
  rotate_left
  focus (simp only [bt_t ha, bt_f hb, List.append_nil, List.nil_append]; refine ⟨_, .o3 (i + 1) ((q + 1)) (r) (lo ++ [(i : Int)]) db, ?_⟩)
  rotate_left
  focus (simp only [bt_t ha, bt_t hb, List.append_nil, List.nil_append]; refine ⟨_, .o3 (i + 1) ((q + 1)) ((r + 1)) (lo ++ [(i : Int)]) (db ++ [(i : Int)]), ?_⟩)
  rotate_left
  all_goals (unfold btc at ha hb; rw [res_eq]; simp only [B29, h4, decide_true, if_true, sem_br, sem_nxt, stepO_nxt]; rw [res_eq]; simp only [B29, Int.toNat_natCast, ha, hb, hin, fl, fd, Int.not_lt, Int.natCast_nonneg, Bool.false_eq_true, if_false, if_true, sem_br, sem_ask, sem_nxt, PC.holds, need_true, stepO_nxt, map_snoc, len_snoc]; all_goals rfl)
theorem sp16 {p k : Nat} {ys : List DV} {N : Nat} {C : List DV} {j : Int} {a b : Int} {d : Bool} {s : S29} {i : Nat} {lo db : List Int} (h : R16 p k ys N C j a b d s i lo db) (hi : i < 4) (hl : lo.length ≤ i) (hd : db.length ≤ i) : ∃ s2, R16 p k ys N C j a b d s2 (i + 1) (lo ++ bt a i) (db ++ bt b i) ∧ res B29 s = res B29 s2 := by
  cases h with
  | nn => exact st16_nn hi hl hd
  | on => exact st16_on hi hl hd
  | no => exact st16_no hi hl hd
  | oo => exact st16_oo hi hl hd
  | o2 => exact st16_o2 hi hl hd
  | o3 => exact st16_o3 hi hl hd
theorem st17_nn {p k : Nat} {ys : List DV} {N : Nat} {C : List DV} {j : Int} {x y : Nat} {a b : Int} {d : Bool} {i : Nat} (hi : i < 4) (hl : ([] : List Int).length ≤ i) (hd : ([] : List Int).length ≤ i) : ∃ s, R17 p k ys N C j x y a b d s (i + 1) ([] ++ bt a i) ([] ++ bt b i) ∧ res B29 (.c49 p k ys N C (N : Int) j ((i : Nat) : Int) x y p a b d ) = res B29 s := by
  have h4 : ((i : Nat) : Int) < 4 := by omega
  have hin : inI64 (((i : Nat) : Int) + 1) := by unfold inI64; omega
  cases ha : btc a i <;> cases hb : btc b i
  focus (simp only [bt_f ha, bt_f hb, List.append_nil, List.nil_append]; refine ⟨_, .nn (i + 1), ?_⟩)
  rotate_left
  focus (simp only [bt_f ha, bt_t hb, List.append_nil, List.nil_append]; refine ⟨_, .no (i + 1) (0) [(i : Int)], ?_⟩)
  rotate_left
  focus (simp only [bt_t ha, bt_f hb, List.append_nil, List.nil_append]; refine ⟨_, .on (i + 1) (0) [(i : Int)], ?_⟩)
  rotate_left
  focus (simp only [bt_t ha, bt_t hb, List.append_nil, List.nil_append]; refine ⟨_, .oo (i + 1) (0) (0) [(i : Int)] [(i : Int)], ?_⟩)
  rotate_left
  all_goals (unfold btc at ha hb; rw [res_eq]; simp only [B29, h4, decide_true, if_true, sem_br, sem_nxt, stepO_nxt]; rw [res_eq]; simp only [B29, Int.toNat_natCast, ha, hb, hin, Int.not_lt, Int.natCast_nonneg, Bool.false_eq_true, if_false, if_true, sem_br, sem_ask, sem_nxt, PC.holds, need_true, stepO_nxt]; all_goals rfl)
theorem st17_on {p k : Nat} {ys : List DV} {N : Nat} {C : List DV} {j : Int} {x y : Nat} {a b : Int} {d : Bool} {i q : Nat} {lo : List Int} (hi : i < 4) (hl : (lo : List Int).length ≤ i) (hd : ([] : List Int).length ≤ i) : ∃ s, R17 p k ys N C j x y a b d s (i + 1) (lo ++ bt a i) ([] ++ bt b i) ∧ res B29 (.c47 p k ys N C (N : Int) j ((i : Nat) : Int) x y p a b d q lo.length (lo.map vI) q) = res B29 s := by
  have h4 : ((i : Nat) : Int) < 4 := by omega
  have hin : inI64 (((i : Nat) : Int) + 1) := by unfold inI64; omega
  have fl : fitsN (lo.length + 1) 8 := by unfold fitsN; omega
  cases ha : btc a i <;> cases hb : btc b i
  focus (simp only [bt_f ha, bt_f hb, List.append_nil, List.nil_append]; refine ⟨_, .on (i + 1) (q) lo, ?_⟩)
  rotate_left
  focus (simp only [bt_f ha, bt_t hb, List.append_nil, List.nil_append]; refine ⟨_, .oo (i + 1) (q) (0) lo [(i : Int)], ?_⟩)
  rotate_left
  focus (simp only [bt_t ha, bt_f hb, List.append_nil, List.nil_append]; refine ⟨_, .on (i + 1) ((q + 1)) (lo ++ [(i : Int)]), ?_⟩)
  rotate_left
  focus (simp only [bt_t ha, bt_t hb, List.append_nil, List.nil_append]; refine ⟨_, .o2 (i + 1) ((q + 1)) (0) (lo ++ [(i : Int)]) [(i : Int)], ?_⟩)
  rotate_left
  all_goals (unfold btc at ha hb; rw [res_eq]; simp only [B29, h4, decide_true, if_true, sem_br, sem_nxt, stepO_nxt]; rw [res_eq]; simp only [B29, Int.toNat_natCast, ha, hb, hin, fl, Int.not_lt, Int.natCast_nonneg, Bool.false_eq_true, if_false, if_true, sem_br, sem_ask, sem_nxt, PC.holds, need_true, stepO_nxt, map_snoc, len_snoc]; all_goals rfl)
theorem st17_no {p k : Nat} {ys : List DV} {N : Nat} {C : List DV} {j : Int} {x y : Nat} {a b : Int} {d : Bool} {i q : Nat} {db : List Int} (hi : i < 4) (hl : ([] : List Int).length ≤ i) (hd : (db : List Int).length ≤ i) : ∃ s, R17 p k ys N C j x y a b d s (i + 1) ([] ++ bt a i) (db ++ bt b i) ∧ res B29 (.c48 p k ys N C (N : Int) j ((i : Nat) : Int) x y p a b d q db.length (db.map vI) q) = res B29 s := by
  have h4 : ((i : Nat) : Int) < 4 := by omega
  have hin : inI64 (((i : Nat) : Int) + 1) := by unfold inI64; omega
  have fd : fitsN (db.length + 1) 8 := by unfold fitsN; omega
  cases ha : btc a i <;> cases hb : btc b i
  focus (simp only [bt_f ha, bt_f hb, List.append_nil, List.nil_append]; refine ⟨_, .no (i + 1) (q) db, ?_⟩)
  rotate_left
  focus (simp only [bt_f ha, bt_t hb, List.append_nil, List.nil_append]; refine ⟨_, .no (i + 1) ((q + 1)) (db ++ [(i : Int)]), ?_⟩)
  rotate_left
  focus (simp only [bt_t ha, bt_f hb, List.append_nil, List.nil_append]; refine ⟨_, .o3 (i + 1) (0) (q) [(i : Int)] db, ?_⟩)
  rotate_left
  focus (simp only [bt_t ha, bt_t hb, List.append_nil, List.nil_append]; refine ⟨_, .o3 (i + 1) (0) ((q + 1)) [(i : Int)] (db ++ [(i : Int)]), ?_⟩)
  rotate_left
  all_goals (unfold btc at ha hb; rw [res_eq]; simp only [B29, h4, decide_true, if_true, sem_br, sem_nxt, stepO_nxt]; rw [res_eq]; simp only [B29, Int.toNat_natCast, ha, hb, hin, fd, Int.not_lt, Int.natCast_nonneg, Bool.false_eq_true, if_false, if_true, sem_br, sem_ask, sem_nxt, PC.holds, need_true, stepO_nxt, map_snoc, len_snoc]; all_goals rfl)
theorem st17_oo {p k : Nat} {ys : List DV} {N : Nat} {C : List DV} {j : Int} {x y : Nat} {a b : Int} {d : Bool} {i q r : Nat} {lo db : List Int} (hi : i < 4) (hl : (lo : List Int).length ≤ i) (hd : (db : List Int).length ≤ i) : ∃ s, R17 p k ys N C j x y a b d s (i + 1) (lo ++ bt a i) (db ++ bt b i) ∧ res B29 (.c46 p k ys N C (N : Int) j ((i : Nat) : Int) x y p a b d q lo.length (lo.map vI) r db.length (db.map vI) q r) = res B29 s := by
  have h4 : ((i : Nat) : Int) < 4 := by omega
  have hin : inI64 (((i : Nat) : Int) + 1) := by unfold inI64; omega
  have fl : fitsN (lo.length + 1) 8 := by unfold fitsN; omega
  have fd : fitsN (db.length + 1) 8 := by unfold fitsN; omega
  cases ha : btc a i <;> cases hb : btc b i
  focus (simp only [bt_f ha, bt_f hb, List.append_nil, List.nil_append]; refine ⟨_, .oo (i + 1) (q) (r) lo db, ?_⟩)
  rotate_left
  focus (simp only [bt_f ha, bt_t hb, List.append_nil, List.nil_append]; refine ⟨_, .oo (i + 1) (q) ((r + 1)) lo (db ++ [(i : Int)]), ?_⟩)
  rotate_left
  focus (simp only [bt_t ha, bt_f hb, List.append_nil, List.nil_append]; refine ⟨_, .oo (i + 1) ((q + 1)) (r) (lo ++ [(i : Int)]) db, ?_⟩)
  rotate_left
  focus (simp only [bt_t ha, bt_t hb, List.append_nil, List.nil_append]; refine ⟨_, .oo (i + 1) ((q + 1)) ((r + 1)) (lo ++ [(i : Int)]) (db ++ [(i : Int)]), ?_⟩)
  rotate_left
  all_goals (unfold btc at ha hb; rw [res_eq]; simp only [B29, h4, decide_true, if_true, sem_br, sem_nxt, stepO_nxt]; rw [res_eq]; simp only [B29, Int.toNat_natCast, ha, hb, hin, fl, fd, Int.not_lt, Int.natCast_nonneg, Bool.false_eq_true, if_false, if_true, sem_br, sem_ask, sem_nxt, PC.holds, need_true, stepO_nxt, map_snoc, len_snoc]; all_goals rfl)
theorem st17_o2 {p k : Nat} {ys : List DV} {N : Nat} {C : List DV} {j : Int} {x y : Nat} {a b : Int} {d : Bool} {i q r : Nat} {lo db : List Int} (hi : i < 4) (hl : (lo : List Int).length ≤ i) (hd : (db : List Int).length ≤ i) : ∃ s, R17 p k ys N C j x y a b d s (i + 1) (lo ++ bt a i) (db ++ bt b i) ∧ res B29 (.c63 p k ys N C (N : Int) j ((i : Nat) : Int) x y p a b d q lo.length (lo.map vI) r db.length (db.map vI) q r) = res B29 s := by
  have h4 : ((i : Nat) : Int) < 4 := by omega
  have hin : inI64 (((i : Nat) : Int) + 1) := by unfold inI64; omega
  have fl : fitsN (lo.length + 1) 8 := by unfold fitsN; omega
  have fd : fitsN (db.length + 1) 8 := by unfold fitsN; omega
  cases ha : btc a i <;> cases hb : btc b i
  focus (simp only [bt_f ha, bt_f hb, List.append_nil, List.nil_append]; refine ⟨_, .o2 (i + 1) (q) (r) lo db, ?_⟩)
  rotate_left
  focus (simp only [bt_f ha, bt_t hb, List.append_nil, List.nil_append]; refine ⟨_, .o2 (i + 1) (q) ((r + 1)) lo (db ++ [(i : Int)]), ?_⟩)
  rotate_left
  focus (simp only [bt_t ha, bt_f hb, List.append_nil, List.nil_append]; refine ⟨_, .o2 (i + 1) ((q + 1)) (r) (lo ++ [(i : Int)]) db, ?_⟩)
  rotate_left
  focus (simp only [bt_t ha, bt_t hb, List.append_nil, List.nil_append]; refine ⟨_, .o2 (i + 1) ((q + 1)) ((r + 1)) (lo ++ [(i : Int)]) (db ++ [(i : Int)]), ?_⟩)
  rotate_left
  all_goals (unfold btc at ha hb; rw [res_eq]; simp only [B29, h4, decide_true, if_true, sem_br, sem_nxt, stepO_nxt]; rw [res_eq]; simp only [B29, Int.toNat_natCast, ha, hb, hin, fl, fd, Int.not_lt, Int.natCast_nonneg, Bool.false_eq_true, if_false, if_true, sem_br, sem_ask, sem_nxt, PC.holds, need_true, stepO_nxt, map_snoc, len_snoc]; all_goals rfl)
theorem st17_o3 {p k : Nat} {ys : List DV} {N : Nat} {C : List DV} {j : Int} {x y : Nat} {a b : Int} {d : Bool} {i q r : Nat} {lo db : List Int} (hi : i < 4) (hl : (lo : List Int).length ≤ i) (hd : (db : List Int).length ≤ i) : ∃ s, R17 p k ys N C j x y a b d s (i + 1) (lo ++ bt a i) (db ++ bt b i) ∧ res B29 (.c65 p k ys N C (N : Int) j ((i : Nat) : Int) x y p a b d q lo.length (lo.map vI) r db.length (db.map vI) r q) = res B29 s := by
  have h4 : ((i : Nat) : Int) < 4 := by omega
  have hin : inI64 (((i : Nat) : Int) + 1) := by unfold inI64; omega
  have fl : fitsN (lo.length + 1) 8 := by unfold fitsN; omega
  have fd : fitsN (db.length + 1) 8 := by unfold fitsN; omega
  cases ha : btc a i <;> cases hb : btc b i
  focus (simp only [bt_f ha, bt_f hb, List.append_nil, List.nil_append]; refine ⟨_, .o3 (i + 1) (q) (r) lo db, ?_⟩)
  rotate_left
  focus (simp only [bt_f ha, bt_t hb, List.append_nil, List.nil_append]; refine ⟨_, .o3 (i + 1) (q) ((r + 1)) lo (db ++ [(i : Int)]), ?_⟩)
  rotate_left
  focus (simp only [bt_t ha, bt_f hb, List.append_nil, List.nil_append]; refine ⟨_, .o3 (i + 1) ((q + 1)) (r) (lo ++ [(i : Int)]) db, ?_⟩)
  rotate_left
  focus (simp only [bt_t ha, bt_t hb, List.append_nil, List.nil_append]; refine ⟨_, .o3 (i + 1) ((q + 1)) ((r + 1)) (lo ++ [(i : Int)]) (db ++ [(i : Int)]), ?_⟩)
  rotate_left
  all_goals (unfold btc at ha hb; rw [res_eq]; simp only [B29, h4, decide_true, if_true, sem_br, sem_nxt, stepO_nxt]; rw [res_eq]; simp only [B29, Int.toNat_natCast, ha, hb, hin, fl, fd, Int.not_lt, Int.natCast_nonneg, Bool.false_eq_true, if_false, if_true, sem_br, sem_ask, sem_nxt, PC.holds, need_true, stepO_nxt, map_snoc, len_snoc]; all_goals rfl)
theorem sp17 {p k : Nat} {ys : List DV} {N : Nat} {C : List DV} {j : Int} {x y : Nat} {a b : Int} {d : Bool} {s : S29} {i : Nat} {lo db : List Int} (h : R17 p k ys N C j x y a b d s i lo db) (hi : i < 4) (hl : lo.length ≤ i) (hd : db.length ≤ i) : ∃ s2, R17 p k ys N C j x y a b d s2 (i + 1) (lo ++ bt a i) (db ++ bt b i) ∧ res B29 s = res B29 s2 := by
  cases h with
  | nn => exact st17_nn hi hl hd
  | on => exact st17_on hi hl hd
  | no => exact st17_no hi hl hd
  | oo => exact st17_oo hi hl hd
  | o2 => exact st17_o2 hi hl hd
  | o3 => exact st17_o3 hi hl hd
theorem bt_len (x : Int) (i : Nat) : (bt x i).length ≤ 1 := by unfold bt; split <;> simp
def bits4 (x : Int) : List Int := bt x 0 ++ bt x 1 ++ bt x 2 ++ bt x 3
theorem all0 {N : Nat} {C : List DV} {j a b : Int} {d : Bool} {s : S29} (h : R0 N C j a b d s 0 [] []) : ∃ s2, R0 N C j a b d s2 4 (bits4 a) (bits4 b) ∧ res B29 s = res B29 s2 := by
  have k (x : Int) (i : Nat) := bt_len x i
  obtain ⟨s1, r1, e1⟩ := sp0 h (by omega) (by simp) (by simp)
  obtain ⟨s2, r2, e2⟩ := sp0 r1 (by omega) (by simpa using k a 0) (by simpa using k b 0)
  obtain ⟨s3, r3, e3⟩ := sp0 r2 (by omega) (by have := k a 0; have := k a 1; simp; omega) (by have := k b 0; have := k b 1; simp; omega)
  obtain ⟨s4, r4, e4⟩ := sp0 r3 (by omega) (by have := k a 0; have := k a 1; have := k a 2; simp; omega) (by have := k b 0; have := k b 1; have := k b 2; simp; omega)
  exact ⟨s4, r4, e1.trans (e2.trans (e3.trans e4))⟩
theorem all14 {p k : Nat} {ys : List DV} {N : Nat} {C : List DV} {j : Int} {x y : Nat} {a b : Int} {d : Bool} {s : S29} (h : R14 p k ys N C j x y a b d s 0 [] []) : ∃ s2, R14 p k ys N C j x y a b d s2 4 (bits4 a) (bits4 b) ∧ res B29 s = res B29 s2 := by
  have k (x : Int) (i : Nat) := bt_len x i
  obtain ⟨s1, r1, e1⟩ := sp14 h (by omega) (by simp) (by simp)
  obtain ⟨s2, r2, e2⟩ := sp14 r1 (by omega) (by simpa using k a 0) (by simpa using k b 0)
  obtain ⟨s3, r3, e3⟩ := sp14 r2 (by omega) (by have := k a 0; have := k a 1; simp; omega) (by have := k b 0; have := k b 1; simp; omega)
  obtain ⟨s4, r4, e4⟩ := sp14 r3 (by omega) (by have := k a 0; have := k a 1; have := k a 2; simp; omega) (by have := k b 0; have := k b 1; have := k b 2; simp; omega)
  exact ⟨s4, r4, e1.trans (e2.trans (e3.trans e4))⟩
theorem all15 {p k : Nat} {ys : List DV} {N : Nat} {C : List DV} {j : Int} {x : Nat} {a b : Int} {d : Bool} {s : S29} (h : R15 p k ys N C j x a b d s 0 [] []) : ∃ s2, R15 p k ys N C j x a b d s2 4 (bits4 a) (bits4 b) ∧ res B29 s = res B29 s2 := by
  have k (x : Int) (i : Nat) := bt_len x i
  obtain ⟨s1, r1, e1⟩ := sp15 h (by omega) (by simp) (by simp)
  obtain ⟨s2, r2, e2⟩ := sp15 r1 (by omega) (by simpa using k a 0) (by simpa using k b 0)
  obtain ⟨s3, r3, e3⟩ := sp15 r2 (by omega) (by have := k a 0; have := k a 1; simp; omega) (by have := k b 0; have := k b 1; simp; omega)
  obtain ⟨s4, r4, e4⟩ := sp15 r3 (by omega) (by have := k a 0; have := k a 1; have := k a 2; simp; omega) (by have := k b 0; have := k b 1; have := k b 2; simp; omega)
  exact ⟨s4, r4, e1.trans (e2.trans (e3.trans e4))⟩
theorem all16 {p k : Nat} {ys : List DV} {N : Nat} {C : List DV} {j : Int} {a b : Int} {d : Bool} {s : S29} (h : R16 p k ys N C j a b d s 0 [] []) : ∃ s2, R16 p k ys N C j a b d s2 4 (bits4 a) (bits4 b) ∧ res B29 s = res B29 s2 := by
  have k (x : Int) (i : Nat) := bt_len x i
  obtain ⟨s1, r1, e1⟩ := sp16 h (by omega) (by simp) (by simp)
  obtain ⟨s2, r2, e2⟩ := sp16 r1 (by omega) (by simpa using k a 0) (by simpa using k b 0)
  obtain ⟨s3, r3, e3⟩ := sp16 r2 (by omega) (by have := k a 0; have := k a 1; simp; omega) (by have := k b 0; have := k b 1; simp; omega)
  obtain ⟨s4, r4, e4⟩ := sp16 r3 (by omega) (by have := k a 0; have := k a 1; have := k a 2; simp; omega) (by have := k b 0; have := k b 1; have := k b 2; simp; omega)
  exact ⟨s4, r4, e1.trans (e2.trans (e3.trans e4))⟩
theorem all17 {p k : Nat} {ys : List DV} {N : Nat} {C : List DV} {j : Int} {x y : Nat} {a b : Int} {d : Bool} {s : S29} (h : R17 p k ys N C j x y a b d s 0 [] []) : ∃ s2, R17 p k ys N C j x y a b d s2 4 (bits4 a) (bits4 b) ∧ res B29 s = res B29 s2 := by
  have k (x : Int) (i : Nat) := bt_len x i
  obtain ⟨s1, r1, e1⟩ := sp17 h (by omega) (by simp) (by simp)
  obtain ⟨s2, r2, e2⟩ := sp17 r1 (by omega) (by simpa using k a 0) (by simpa using k b 0)
  obtain ⟨s3, r3, e3⟩ := sp17 r2 (by omega) (by have := k a 0; have := k a 1; simp; omega) (by have := k b 0; have := k b 1; simp; omega)
  obtain ⟨s4, r4, e4⟩ := sp17 r3 (by omega) (by have := k a 0; have := k a 1; have := k a 2; simp; omega) (by have := k b 0; have := k b 1; have := k b 2; simp; omega)
  exact ⟨s4, r4, e1.trans (e2.trans (e3.trans e4))⟩
def wkD : DV → DV
  | .v (.slice none 0 0) => .sl 0 []
  | x => x
theorem wk_nil : wkD (DV.v (Value.slice none 0 0)) = eI [] := rfl
theorem wk_sl (n : Nat) (xs : List DV) : wkD (DV.sl n xs) = DV.sl n xs := rfl
inductive Ou (N : Nat) (C : List DV) : S29 → Nat → List DV → Int → Prop
  | c14 (p k : Nat) (ys : List DV) (j : Int) (x y : Nat) : Ou N C (.c14 p k ys N C (N : Int) j x y p) k ys j
  | c15 (p k : Nat) (ys : List DV) (j : Int) (x : Nat) : Ou N C (.c15 p k ys N C (N : Int) j x p) k ys j
  | c16 (p k : Nat) (ys : List DV) (j : Int) : Ou N C (.c16 p k ys N C (N : Int) j p) k ys j
  | c17 (p k : Nat) (ys : List DV) (j : Int) (x y : Nat) : Ou N C (.c17 p k ys N C (N : Int) j x y p) k ys j
theorem en0 {N : Nat} {C : List DV} {j a b : Int} {d : Bool} {s : S29} {lo db : List Int} (h : R0 N C j a b d s 4 lo db) (h1 : inI64 (j + 1)) : ∃ s2 e1 e2, Ou N C s2 (0 + 1) ([] ++ [e1, e2, .v (.bool d)]) (j + 1) ∧ wkD e1 = eI lo ∧ wkD e2 = eI db ∧ res B29 s = res B29 s2 := by
  have h4 : ¬ (((4 : Nat) : Int) < 4) := by omega
  cases h with
  | nn =>
    refine ⟨.c16 (0) (0 + 1) ([] ++ [(DV.v (Value.slice none 0 0)), (DV.v (Value.slice none 0 0)), .v (.bool d)]) N C (N : Int) (j + 1)  (0), (DV.v (Value.slice none 0 0)), (DV.v (Value.slice none 0 0)), .c16 (0) _ _ _, rfl, rfl, ?_⟩
    rw [res_eq]
    simp only [B29, h4, h1, decide_false, Bool.false_eq_true, if_false, sem_br, sem_ask, sem_nxt, PC.holds, need_true, stepO_nxt]
    all_goals rfl
  | on _ q =>
    refine ⟨.c15 (0) (0 + 1) ([] ++ [(DV.sl lo.length (lo.map vI)), (DV.v (Value.slice none 0 0)), .v (.bool d)]) N C (N : Int) (j + 1) (q) (0), (DV.sl lo.length (lo.map vI)), (DV.v (Value.slice none 0 0)), .c15 (0) _ _ _ _, rfl, rfl, ?_⟩
    rw [res_eq]
    simp only [B29, h4, h1, decide_false, Bool.false_eq_true, if_false, sem_br, sem_ask, sem_nxt, PC.holds, need_true, stepO_nxt]
    all_goals rfl
  | no _ q =>
    refine ⟨.c15 (0) (0 + 1) ([] ++ [(DV.v (Value.slice none 0 0)), (DV.sl db.length (db.map vI)), .v (.bool d)]) N C (N : Int) (j + 1) (q) (0), (DV.v (Value.slice none 0 0)), (DV.sl db.length (db.map vI)), .c15 (0) _ _ _ _, rfl, rfl, ?_⟩
    rw [res_eq]
    simp only [B29, h4, h1, decide_false, Bool.false_eq_true, if_false, sem_br, sem_ask, sem_nxt, PC.holds, need_true, stepO_nxt]
    all_goals rfl
  | oo _ q r =>
    refine ⟨.c14 (0) (0 + 1) ([] ++ [(DV.sl lo.length (lo.map vI)), (DV.sl db.length (db.map vI)), .v (.bool d)]) N C (N : Int) (j + 1) (q) (r) (0), (DV.sl lo.length (lo.map vI)), (DV.sl db.length (db.map vI)), .c14 (0) _ _ _ _ _, rfl, rfl, ?_⟩
    rw [res_eq]
    simp only [B29, h4, h1, decide_false, Bool.false_eq_true, if_false, sem_br, sem_ask, sem_nxt, PC.holds, need_true, stepO_nxt]
    all_goals rfl
  | o2 _ q r =>
    refine ⟨.c17 (0) (0 + 1) ([] ++ [(DV.sl lo.length (lo.map vI)), (DV.sl db.length (db.map vI)), .v (.bool d)]) N C (N : Int) (j + 1) (q) (r) (0), (DV.sl lo.length (lo.map vI)), (DV.sl db.length (db.map vI)), .c17 (0) _ _ _ _ _, rfl, rfl, ?_⟩
    rw [res_eq]
    simp only [B29, h4, h1, decide_false, Bool.false_eq_true, if_false, sem_br, sem_ask, sem_nxt, PC.holds, need_true, stepO_nxt]
    all_goals rfl
  | o3 _ q r =>
    refine ⟨.c14 (0) (0 + 1) ([] ++ [(DV.sl lo.length (lo.map vI)), (DV.sl db.length (db.map vI)), .v (.bool d)]) N C (N : Int) (j + 1) (r) (q) (0), (DV.sl lo.length (lo.map vI)), (DV.sl db.length (db.map vI)), .c14 (0) _ _ _ _ _, rfl, rfl, ?_⟩
    rw [res_eq]
    simp only [B29, h4, h1, decide_false, Bool.false_eq_true, if_false, sem_br, sem_ask, sem_nxt, PC.holds, need_true, stepO_nxt]
    all_goals rfl
theorem en14 {p k : Nat} {ys : List DV} {N : Nat} {C : List DV} {j : Int} {x y : Nat} {a b : Int} {d : Bool} {s : S29} {lo db : List Int} (h : R14 p k ys N C j x y a b d s 4 lo db) (h1 : inI64 (j + 1)) (h2 : fitsN (k + 1) 56) : ∃ s2 e1 e2, Ou N C s2 (k + 1) (ys ++ [e1, e2, .v (.bool d)]) (j + 1) ∧ wkD e1 = eI lo ∧ wkD e2 = eI db ∧ res B29 s = res B29 s2 := by
  have h4 : ¬ (((4 : Nat) : Int) < 4) := by omega
  cases h with
  | nn =>
    refine ⟨.c14 ((p + 1)) (k + 1) (ys ++ [(DV.v (Value.slice none 0 0)), (DV.v (Value.slice none 0 0)), .v (.bool d)]) N C (N : Int) (j + 1) (x) (y) ((p + 1)), (DV.v (Value.slice none 0 0)), (DV.v (Value.slice none 0 0)), .c14 ((p + 1)) _ _ _ _ _, rfl, rfl, ?_⟩
    rw [res_eq]
    simp only [B29, h4, h1, h2, decide_false, Bool.false_eq_true, if_false, sem_br, sem_ask, sem_nxt, PC.holds, need_true, stepO_nxt]
    all_goals rfl
  | on _ q =>
    refine ⟨.c14 ((p + 1)) (k + 1) (ys ++ [(DV.sl lo.length (lo.map vI)), (DV.v (Value.slice none 0 0)), .v (.bool d)]) N C (N : Int) (j + 1) (x) (y) ((p + 1)), (DV.sl lo.length (lo.map vI)), (DV.v (Value.slice none 0 0)), .c14 ((p + 1)) _ _ _ _ _, rfl, rfl, ?_⟩
    rw [res_eq]
    simp only [B29, h4, h1, h2, decide_false, Bool.false_eq_true, if_false, sem_br, sem_ask, sem_nxt, PC.holds, need_true, stepO_nxt]
    all_goals rfl
  | no _ q =>
    refine ⟨.c14 ((p + 1)) (k + 1) (ys ++ [(DV.v (Value.slice none 0 0)), (DV.sl db.length (db.map vI)), .v (.bool d)]) N C (N : Int) (j + 1) (x) (y) ((p + 1)), (DV.v (Value.slice none 0 0)), (DV.sl db.length (db.map vI)), .c14 ((p + 1)) _ _ _ _ _, rfl, rfl, ?_⟩
    rw [res_eq]
    simp only [B29, h4, h1, h2, decide_false, Bool.false_eq_true, if_false, sem_br, sem_ask, sem_nxt, PC.holds, need_true, stepO_nxt]
    all_goals rfl
  | oo _ q r =>
    refine ⟨.c14 ((p + 1)) (k + 1) (ys ++ [(DV.sl lo.length (lo.map vI)), (DV.sl db.length (db.map vI)), .v (.bool d)]) N C (N : Int) (j + 1) (x) (y) ((p + 1)), (DV.sl lo.length (lo.map vI)), (DV.sl db.length (db.map vI)), .c14 ((p + 1)) _ _ _ _ _, rfl, rfl, ?_⟩
    rw [res_eq]
    simp only [B29, h4, h1, h2, decide_false, Bool.false_eq_true, if_false, sem_br, sem_ask, sem_nxt, PC.holds, need_true, stepO_nxt]
    all_goals rfl
  | o2 _ q r =>
    refine ⟨.c14 ((p + 1)) (k + 1) (ys ++ [(DV.sl lo.length (lo.map vI)), (DV.sl db.length (db.map vI)), .v (.bool d)]) N C (N : Int) (j + 1) (x) (y) ((p + 1)), (DV.sl lo.length (lo.map vI)), (DV.sl db.length (db.map vI)), .c14 ((p + 1)) _ _ _ _ _, rfl, rfl, ?_⟩
    rw [res_eq]
    simp only [B29, h4, h1, h2, decide_false, Bool.false_eq_true, if_false, sem_br, sem_ask, sem_nxt, PC.holds, need_true, stepO_nxt]
    all_goals rfl
  | o3 _ q r =>
    refine ⟨.c14 ((p + 1)) (k + 1) (ys ++ [(DV.sl lo.length (lo.map vI)), (DV.sl db.length (db.map vI)), .v (.bool d)]) N C (N : Int) (j + 1) (x) (y) ((p + 1)), (DV.sl lo.length (lo.map vI)), (DV.sl db.length (db.map vI)), .c14 ((p + 1)) _ _ _ _ _, rfl, rfl, ?_⟩
    rw [res_eq]
    simp only [B29, h4, h1, h2, decide_false, Bool.false_eq_true, if_false, sem_br, sem_ask, sem_nxt, PC.holds, need_true, stepO_nxt]
    all_goals rfl
theorem en15 {p k : Nat} {ys : List DV} {N : Nat} {C : List DV} {j : Int} {x : Nat} {a b : Int} {d : Bool} {s : S29} {lo db : List Int} (h : R15 p k ys N C j x a b d s 4 lo db) (h1 : inI64 (j + 1)) (h2 : fitsN (k + 1) 56) : ∃ s2 e1 e2, Ou N C s2 (k + 1) (ys ++ [e1, e2, .v (.bool d)]) (j + 1) ∧ wkD e1 = eI lo ∧ wkD e2 = eI db ∧ res B29 s = res B29 s2 := by
  have h4 : ¬ (((4 : Nat) : Int) < 4) := by omega
  cases h with
  | nn =>
    refine ⟨.c15 ((p + 1)) (k + 1) (ys ++ [(DV.v (Value.slice none 0 0)), (DV.v (Value.slice none 0 0)), .v (.bool d)]) N C (N : Int) (j + 1) (x) ((p + 1)), (DV.v (Value.slice none 0 0)), (DV.v (Value.slice none 0 0)), .c15 ((p + 1)) _ _ _ _, rfl, rfl, ?_⟩
    rw [res_eq]
    simp only [B29, h4, h1, h2, decide_false, Bool.false_eq_true, if_false, sem_br, sem_ask, sem_nxt, PC.holds, need_true, stepO_nxt]
    all_goals rfl
  | on _ q =>
    refine ⟨.c15 ((p + 1)) (k + 1) (ys ++ [(DV.sl lo.length (lo.map vI)), (DV.v (Value.slice none 0 0)), .v (.bool d)]) N C (N : Int) (j + 1) (x) ((p + 1)), (DV.sl lo.length (lo.map vI)), (DV.v (Value.slice none 0 0)), .c15 ((p + 1)) _ _ _ _, rfl, rfl, ?_⟩
    rw [res_eq]
    simp only [B29, h4, h1, h2, decide_false, Bool.false_eq_true, if_false, sem_br, sem_ask, sem_nxt, PC.holds, need_true, stepO_nxt]
    all_goals rfl
  | no _ q =>
    refine ⟨.c15 ((p + 1)) (k + 1) (ys ++ [(DV.v (Value.slice none 0 0)), (DV.sl db.length (db.map vI)), .v (.bool d)]) N C (N : Int) (j + 1) (x) ((p + 1)), (DV.v (Value.slice none 0 0)), (DV.sl db.length (db.map vI)), .c15 ((p + 1)) _ _ _ _, rfl, rfl, ?_⟩
    rw [res_eq]
    simp only [B29, h4, h1, h2, decide_false, Bool.false_eq_true, if_false, sem_br, sem_ask, sem_nxt, PC.holds, need_true, stepO_nxt]
    all_goals rfl
  | oo _ q r =>
    refine ⟨.c15 ((p + 1)) (k + 1) (ys ++ [(DV.sl lo.length (lo.map vI)), (DV.sl db.length (db.map vI)), .v (.bool d)]) N C (N : Int) (j + 1) (x) ((p + 1)), (DV.sl lo.length (lo.map vI)), (DV.sl db.length (db.map vI)), .c15 ((p + 1)) _ _ _ _, rfl, rfl, ?_⟩
    rw [res_eq]
    simp only [B29, h4, h1, h2, decide_false, Bool.false_eq_true, if_false, sem_br, sem_ask, sem_nxt, PC.holds, need_true, stepO_nxt]
    all_goals rfl
  | o2 _ q r =>
    refine ⟨.c15 ((p + 1)) (k + 1) (ys ++ [(DV.sl lo.length (lo.map vI)), (DV.sl db.length (db.map vI)), .v (.bool d)]) N C (N : Int) (j + 1) (x) ((p + 1)), (DV.sl lo.length (lo.map vI)), (DV.sl db.length (db.map vI)), .c15 ((p + 1)) _ _ _ _, rfl, rfl, ?_⟩
    rw [res_eq]
    simp only [B29, h4, h1, h2, decide_false, Bool.false_eq_true, if_false, sem_br, sem_ask, sem_nxt, PC.holds, need_true, stepO_nxt]
    all_goals rfl
  | o3 _ q r =>
    refine ⟨.c15 ((p + 1)) (k + 1) (ys ++ [(DV.sl lo.length (lo.map vI)), (DV.sl db.length (db.map vI)), .v (.bool d)]) N C (N : Int) (j + 1) (x) ((p + 1)), (DV.sl lo.length (lo.map vI)), (DV.sl db.length (db.map vI)), .c15 ((p + 1)) _ _ _ _, rfl, rfl, ?_⟩
    rw [res_eq]
    simp only [B29, h4, h1, h2, decide_false, Bool.false_eq_true, if_false, sem_br, sem_ask, sem_nxt, PC.holds, need_true, stepO_nxt]
    all_goals rfl
theorem en16 {p k : Nat} {ys : List DV} {N : Nat} {C : List DV} {j : Int} {a b : Int} {d : Bool} {s : S29} {lo db : List Int} (h : R16 p k ys N C j a b d s 4 lo db) (h1 : inI64 (j + 1)) (h2 : fitsN (k + 1) 56) : ∃ s2 e1 e2, Ou N C s2 (k + 1) (ys ++ [e1, e2, .v (.bool d)]) (j + 1) ∧ wkD e1 = eI lo ∧ wkD e2 = eI db ∧ res B29 s = res B29 s2 := by
  have h4 : ¬ (((4 : Nat) : Int) < 4) := by omega
  cases h with
  | nn =>
    refine ⟨.c16 ((p + 1)) (k + 1) (ys ++ [(DV.v (Value.slice none 0 0)), (DV.v (Value.slice none 0 0)), .v (.bool d)]) N C (N : Int) (j + 1)  ((p + 1)), (DV.v (Value.slice none 0 0)), (DV.v (Value.slice none 0 0)), .c16 ((p + 1)) _ _ _, rfl, rfl, ?_⟩
    rw [res_eq]
    simp only [B29, h4, h1, h2, decide_false, Bool.false_eq_true, if_false, sem_br, sem_ask, sem_nxt, PC.holds, need_true, stepO_nxt]
    all_goals rfl
  | on _ q =>
    refine ⟨.c16 ((p + 1)) (k + 1) (ys ++ [(DV.sl lo.length (lo.map vI)), (DV.v (Value.slice none 0 0)), .v (.bool d)]) N C (N : Int) (j + 1)  ((p + 1)), (DV.sl lo.length (lo.map vI)), (DV.v (Value.slice none 0 0)), .c16 ((p + 1)) _ _ _, rfl, rfl, ?_⟩
    rw [res_eq]
    simp only [B29, h4, h1, h2, decide_false, Bool.false_eq_true, if_false, sem_br, sem_ask, sem_nxt, PC.holds, need_true, stepO_nxt]
    all_goals rfl
  | no _ q =>
    refine ⟨.c16 ((p + 1)) (k + 1) (ys ++ [(DV.v (Value.slice none 0 0)), (DV.sl db.length (db.map vI)), .v (.bool d)]) N C (N : Int) (j + 1)  ((p + 1)), (DV.v (Value.slice none 0 0)), (DV.sl db.length (db.map vI)), .c16 ((p + 1)) _ _ _, rfl, rfl, ?_⟩
    rw [res_eq]
    simp only [B29, h4, h1, h2, decide_false, Bool.false_eq_true, if_false, sem_br, sem_ask, sem_nxt, PC.holds, need_true, stepO_nxt]
    all_goals rfl
  | oo _ q r =>
    refine ⟨.c16 ((p + 1)) (k + 1) (ys ++ [(DV.sl lo.length (lo.map vI)), (DV.sl db.length (db.map vI)), .v (.bool d)]) N C (N : Int) (j + 1)  ((p + 1)), (DV.sl lo.length (lo.map vI)), (DV.sl db.length (db.map vI)), .c16 ((p + 1)) _ _ _, rfl, rfl, ?_⟩
    rw [res_eq]
    simp only [B29, h4, h1, h2, decide_false, Bool.false_eq_true, if_false, sem_br, sem_ask, sem_nxt, PC.holds, need_true, stepO_nxt]
    all_goals rfl
  | o2 _ q r =>
    refine ⟨.c16 ((p + 1)) (k + 1) (ys ++ [(DV.sl lo.length (lo.map vI)), (DV.sl db.length (db.map vI)), .v (.bool d)]) N C (N : Int) (j + 1)  ((p + 1)), (DV.sl lo.length (lo.map vI)), (DV.sl db.length (db.map vI)), .c16 ((p + 1)) _ _ _, rfl, rfl, ?_⟩
    rw [res_eq]
    simp only [B29, h4, h1, h2, decide_false, Bool.false_eq_true, if_false, sem_br, sem_ask, sem_nxt, PC.holds, need_true, stepO_nxt]
    all_goals rfl
  | o3 _ q r =>
    refine ⟨.c16 ((p + 1)) (k + 1) (ys ++ [(DV.sl lo.length (lo.map vI)), (DV.sl db.length (db.map vI)), .v (.bool d)]) N C (N : Int) (j + 1)  ((p + 1)), (DV.sl lo.length (lo.map vI)), (DV.sl db.length (db.map vI)), .c16 ((p + 1)) _ _ _, rfl, rfl, ?_⟩
    rw [res_eq]
    simp only [B29, h4, h1, h2, decide_false, Bool.false_eq_true, if_false, sem_br, sem_ask, sem_nxt, PC.holds, need_true, stepO_nxt]
    all_goals rfl
theorem en17 {p k : Nat} {ys : List DV} {N : Nat} {C : List DV} {j : Int} {x y : Nat} {a b : Int} {d : Bool} {s : S29} {lo db : List Int} (h : R17 p k ys N C j x y a b d s 4 lo db) (h1 : inI64 (j + 1)) (h2 : fitsN (k + 1) 56) : ∃ s2 e1 e2, Ou N C s2 (k + 1) (ys ++ [e1, e2, .v (.bool d)]) (j + 1) ∧ wkD e1 = eI lo ∧ wkD e2 = eI db ∧ res B29 s = res B29 s2 := by
  have h4 : ¬ (((4 : Nat) : Int) < 4) := by omega
  cases h with
  | nn =>
    refine ⟨.c17 ((p + 1)) (k + 1) (ys ++ [(DV.v (Value.slice none 0 0)), (DV.v (Value.slice none 0 0)), .v (.bool d)]) N C (N : Int) (j + 1) (x) (y) ((p + 1)), (DV.v (Value.slice none 0 0)), (DV.v (Value.slice none 0 0)), .c17 ((p + 1)) _ _ _ _ _, rfl, rfl, ?_⟩
    rw [res_eq]
    simp only [B29, h4, h1, h2, decide_false, Bool.false_eq_true, if_false, sem_br, sem_ask, sem_nxt, PC.holds, need_true, stepO_nxt]
    all_goals rfl
  | on _ q =>
    refine ⟨.c17 ((p + 1)) (k + 1) (ys ++ [(DV.sl lo.length (lo.map vI)), (DV.v (Value.slice none 0 0)), .v (.bool d)]) N C (N : Int) (j + 1) (x) (y) ((p + 1)), (DV.sl lo.length (lo.map vI)), (DV.v (Value.slice none 0 0)), .c17 ((p + 1)) _ _ _ _ _, rfl, rfl, ?_⟩
    rw [res_eq]
    simp only [B29, h4, h1, h2, decide_false, Bool.false_eq_true, if_false, sem_br, sem_ask, sem_nxt, PC.holds, need_true, stepO_nxt]
    all_goals rfl
  | no _ q =>
    refine ⟨.c17 ((p + 1)) (k + 1) (ys ++ [(DV.v (Value.slice none 0 0)), (DV.sl db.length (db.map vI)), .v (.bool d)]) N C (N : Int) (j + 1) (x) (y) ((p + 1)), (DV.v (Value.slice none 0 0)), (DV.sl db.length (db.map vI)), .c17 ((p + 1)) _ _ _ _ _, rfl, rfl, ?_⟩
    rw [res_eq]
    simp only [B29, h4, h1, h2, decide_false, Bool.false_eq_true, if_false, sem_br, sem_ask, sem_nxt, PC.holds, need_true, stepO_nxt]
    all_goals rfl
  | oo _ q r =>
    refine ⟨.c17 ((p + 1)) (k + 1) (ys ++ [(DV.sl lo.length (lo.map vI)), (DV.sl db.length (db.map vI)), .v (.bool d)]) N C (N : Int) (j + 1) (x) (y) ((p + 1)), (DV.sl lo.length (lo.map vI)), (DV.sl db.length (db.map vI)), .c17 ((p + 1)) _ _ _ _ _, rfl, rfl, ?_⟩
    rw [res_eq]
    simp only [B29, h4, h1, h2, decide_false, Bool.false_eq_true, if_false, sem_br, sem_ask, sem_nxt, PC.holds, need_true, stepO_nxt]
    all_goals rfl
  | o2 _ q r =>
    refine ⟨.c17 ((p + 1)) (k + 1) (ys ++ [(DV.sl lo.length (lo.map vI)), (DV.sl db.length (db.map vI)), .v (.bool d)]) N C (N : Int) (j + 1) (x) (y) ((p + 1)), (DV.sl lo.length (lo.map vI)), (DV.sl db.length (db.map vI)), .c17 ((p + 1)) _ _ _ _ _, rfl, rfl, ?_⟩
    rw [res_eq]
    simp only [B29, h4, h1, h2, decide_false, Bool.false_eq_true, if_false, sem_br, sem_ask, sem_nxt, PC.holds, need_true, stepO_nxt]
    all_goals rfl
  | o3 _ q r =>
    refine ⟨.c17 ((p + 1)) (k + 1) (ys ++ [(DV.sl lo.length (lo.map vI)), (DV.sl db.length (db.map vI)), .v (.bool d)]) N C (N : Int) (j + 1) (x) (y) ((p + 1)), (DV.sl lo.length (lo.map vI)), (DV.sl db.length (db.map vI)), .c17 ((p + 1)) _ _ _ _ _, rfl, rfl, ?_⟩
    rw [res_eq]
    simp only [B29, h4, h1, h2, decide_false, Bool.false_eq_true, if_false, sem_br, sem_ask, sem_nxt, PC.holds, need_true, stepO_nxt]
    all_goals rfl
end Go.Kv
