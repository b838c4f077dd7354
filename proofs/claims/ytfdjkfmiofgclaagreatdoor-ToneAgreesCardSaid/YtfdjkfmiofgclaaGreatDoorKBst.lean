import Derived.Test.YtfdjkfmiofgclaaGreatDoorGBb
import Derived.Test.YtfdjkfmiofgclaaGreatDoorKM2
namespace Go.Kv.Bst
set_option linter.all false
open Go Go.RowKit Go.Kv
set_option maxRecDepth 100000
def enS (j : Nat) : Int := (ents.getD j (0, 0, [])).1
def enP (j : Nat) : Int := (ents.getD j (0, 0, [])).2.1
def enB (j : Nat) : List Int := (ents.getD j (0, 0, [])).2.2
theorem e_fst : ∀ {j : Nat}, j < 5 → (E5.getD j (0, [])).fst = enS j
 | 0, _ => rfl | 1, _ => rfl | 2, _ => rfl | 3, _ => rfl | 4, _ => rfl
 | n + 5, h => absurd h (by omega)
theorem e_p : ∀ {j : Nat}, j < 5 → dI (cel (entryDs E5 j) 1) = enP j
 | 0, _ => rfl | 1, _ => rfl | 2, _ => rfl | 3, _ => rfl | 4, _ => rfl
 | n + 5, h => absurd h (by omega)
theorem e_n : ∀ {j : Nat}, j < 5 → dN (cel (entryDs E5 j) 2) = 2
 | 0, _ => rfl | 1, _ => rfl | 2, _ => rfl | 3, _ => rfl | 4, _ => rfl
 | n + 5, h => absurd h (by omega)
theorem e_l : ∀ {j : Nat}, j < 5 → dL (cel (entryDs E5 j) 2) = (enB j).map vI
 | 0, _ => rfl | 1, _ => rfl | 2, _ => rfl | 3, _ => rfl | 4, _ => rfl
 | n + 5, h => absurd h (by omega)
theorem e_all : ∀ {j : Nat}, j < 5 → List.map AV.d (E5.getD j (0, [])).snd = [AV.d (DV.v (Value.int IntKind.i64 (dI (cel (entryDs E5 j) 0)))), AV.d (DV.v (Value.int IntKind.i64 (dI (cel (entryDs E5 j) 1)))), AV.d (DV.sl (dN (cel (entryDs E5 j) 2)) (dL (cel (entryDs E5 j) 2)))]
 | 0, _ => rfl | 1, _ => rfl | 2, _ => rfl | 3, _ => rfl | 4, _ => rfl
 | n + 5, h => absurd h (by omega)
theorem enB_len : ∀ {j : Nat}, j < 5 → (enB j).length = 2
 | 0, _ => rfl | 1, _ => rfl | 2, _ => rfl | 3, _ => rfl | 4, _ => rfl
 | n + 5, h => absurd h (by omega)
theorem en_b : ∀ j < 5, 0 ≤ enS j ∧ enS j ≤ 4 ∧ 0 ≤ enP j ∧ enP j ≤ 15 := by decide
theorem pw_b : ∀ b < 7, 0 ≤ pw b ∧ pw b ≤ 7 := by decide
theorem z_eq' : List.map weakZ [Value.int IntKind.i64 0, Value.int IntKind.i64 0, Value.slice none 0 0] = Z3 := rfl
theorem z_eq : List.map weakZ #[Value.int IntKind.i64 0, Value.int IntKind.i64 0, Value.slice none 0 0].toList = Z3 := rfl
theorem p_map (S : SM) (k : Int) : List.map AV.d (mgetD (encM S) k Z3) = [AV.d (DV.v (Value.int IntKind.i64 (dI (cel (mgetD (encM S) k Z3) 0)))), AV.d (DV.v (Value.int IntKind.i64 (dI (cel (mgetD (encM S) k Z3) 1)))), AV.d (DV.sl (dN (cel (mgetD (encM S) k Z3) 2)) (dL (cel (mgetD (encM S) k Z3) 2)))] := by
 cases h : mfind S k with
 | none => rw [mgetD_none _ h]; rfl
 | some v => rw [mgetD_some _ h]; rfl
theorem plan_eq {b j : Nat} : plan b j = (enS j + b, enP j + pw b, (b : Int) :: enB j) := rfl
theorem encP_plan {b j : Nat} (hj : j < 5) : encP (plan b j) = [DV.v (Value.int IntKind.i64 (enS j + b)), DV.v (Value.int IntKind.i64 (enP j + pw b)), DV.sl (1 + 2) ([DV.v (Value.int IntKind.i64 (b : Int))] ++ (enB j).map vI)] := by
 rw [plan_eq]
 unfold encP
 simp only [List.length_cons, enB_len hj]
 rfl
theorem F176_pl {b j : Nat} (hj : j < 5) (s p s' q : Int) (m : List Int) : F176 s p (1 + 2) ([DV.v (Value.int IntKind.i64 (b : Int))] ++ (enB j).map vI) s' q m.length (m.map vI) = some (bef p ((b : Int) :: enB j) q m) := by
 have h := F176_eq s p ((b : Int) :: enB j) s' q m (by simp only [List.length_cons, enB_len hj]; omega)
 simp only [List.length_cons, enB_len hj] at h
 exact h
theorem step4 {b j : Nat} (hj : j < 5) (hb : b < 7) (i q : Int) (S : SM) (rs : List Nat) :
  (B90 (.c4 b (pw b) i q (encM S) j rs)).sem = some (.inl (.c1 b (pw b) i q (encM (upd S (plan b j))) (j :: rs))) := by
 have hE := en_b j hj
 have hP := pw_b b hb
 have h1 : inI64 (enS j + b) := by unfold inI64; omega
 have h2 : inI64 (enP j + pw b) := by unfold inI64; omega
 have hf : fitsN (1 + 2) 8 := ⟨by omega, by omega⟩
 have hl : ((enB j).map vI).length = 2 * 1 := by rw [List.length_map, enB_len hj]
 have h22 : (2 : Nat).beq 0 = false := rfl
 have hset : mset (encM S) (enS j + b) [DV.v (Value.int IntKind.i64 (enS j + b)), DV.v (Value.int IntKind.i64 (enP j + pw b)), DV.sl (1 + 2) ([DV.v (Value.int IntKind.i64 (b : Int))] ++ (enB j).map vI)] = encM (mset S (enS j + b) (plan b j)) := by
  rw [← encP_plan hj, mset_encM]
 have hz := p_map S (enS j + b)
 have hlt : (0 : Nat) < 2 := by omega
 cases hm : mfind S (enS j + b) with
 | none =>
  have hu : upd S (plan b j) = mset S (enS j + b) (plan b j) := by
   unfold upd beats; rw [plan_eq]; simp only [hm, if_true]
  have hF := F176_pl (b := b) hj (enS j + b) (enP j + pw b) 0 0 []
  simp only [List.length_nil, List.map_nil] at hF
  rw [mgetD_none _ hm] at hz
  simp only [B90, z_eq', z_eq, e_all hj, e_fst hj, e_p hj, e_n hj, e_l hj, mgetD_none _ hm, sem_ask, sem_br, sem_sees, sem_triv, sem_nxt, PC.holds, hj, h22, h1, h2, hlt, hl, hf, need_true, Bool.false_eq_true, if_false]
  rw [need_of hz]
  have z0 : dI (cel Z3 0) = 0 := rfl
  have z1 : dI (cel Z3 1) = 0 := rfl
  have z2 : dN (cel Z3 2) = 0 := rfl
  have z3 : dL (cel Z3 2) = [] := rfl
  simp only [z0, z1, z2, z3, hF, sem_bind_some, sem_sees, sem_triv, sem_br, sem_nxt, mhas_encM, mhas_none hm, Bool.not_false, if_true, hset, hu]
 | some o =>
  have hu : upd S (plan b j) = if bef (enP j + pw b) ((b : Int) :: enB j) o.2.1 o.2.2 = true then mset S (enS j + b) (plan b j) else S := by
   unfold upd beats; rw [plan_eq]; simp only [hm]
  have hF := F176_pl (b := b) hj (enS j + b) (enP j + pw b) o.1 o.2.1 o.2.2
  rw [mgetD_some _ hm] at hz
  simp only [B90, z_eq', z_eq, e_all hj, e_fst hj, e_p hj, e_n hj, e_l hj, mgetD_some _ hm, sem_ask, sem_br, sem_sees, sem_triv, sem_nxt, PC.holds, hj, h22, h1, h2, hlt, hl, hf, need_true, Bool.false_eq_true, if_false]
  rw [need_of hz]
  have z0 : dI (cel (encP o) 0) = o.1 := rfl
  have z1 : dI (cel (encP o) 1) = o.2.1 := rfl
  have z2 : dN (cel (encP o) 2) = o.2.2.length := rfl
  have z3 : dL (cel (encP o) 2) = o.2.2.map vI := rfl
  simp only [z0, z1, z2, z3, hF, sem_bind_some, sem_sees, sem_triv, sem_br, sem_nxt, mhas_encM, mhas_some hm, Bool.not_true, Bool.false_eq_true, if_false, hset, hu]
  split <;> rfl
theorem wr_b : ∀ b < 7, IntKind.i64.wrap (1 * 2 ^ min ((b : Nat) : Int).toNat 64) = ([1, 2, 4, 8, 16, 32, 64] : List Int).getD b 0 := by decide
theorem F139_b : ∀ b < 7, ∃ t, F139_8 3 [vI 100, vI 10, vI 0] 1 [.sl 3 [vI 1, vI 1, vI 1]] 10 20 0 [] 0 0 ((b : Nat) : Int) = some (pw b, t) := by
 intro b hb
 have hw := wr_b b hb
 have c1 : dI (cel [vI 100, vI 10, vI 0] ((0 : Int).toNat * 1)) = 100 := rfl
 have c2 : dN (cel [DV.sl 3 [vI 1, vI 1, vI 1]] ((0 : Int).toNat * 1)) = 3 := rfl
 have c3 : dL (cel [DV.sl 3 [vI 1, vI 1, vI 1]] ((0 : Int).toNat * 1)) = [vI 1, vI 1, vI 1] := rfl
 have c4 : dI (cel [vI 1, vI 1, vI 1] ((0 : Int).toNat * 1)) = 1 := rfl
 unfold F139_8
 rw [res_eq]
 simp only [B139_8, c1, c2, c3, c4, hw, sem_ask, sem_br, sem_ret, PC.holds]
 have hx : ∃ x : Int, ([1, 2, 4, 8, 16, 32, 64] : List Int).getD b 0 = x ∧ 1 ≤ x ∧ x ≤ 64 ∧ (10 * (x - 1) * 1 = 0 → pw b = 0) ∧ (10 * (x - 1) * 1 ≠ 0 → (10 * (x - 1) * 1 + 100 - 1).tdiv 100 = pw b) := ⟨_, rfl, by
  rcases b with _ | _ | _ | _ | _ | _ | _ | b
  all_goals first | decide | omega⟩
 obtain ⟨x, he, h1, h2, h3, h4⟩ := hx
 rw [he]
 rw [need_of (by omega), need_of (by unfold inI64; omega), need_of (by unfold inI64; omega), need_of (by omega), need_of (by decide), need_of (by decide), need_of (by rfl), need_of (by omega), need_of (by decide), need_of (by decide), need_of (by rfl), need_of (by unfold inI64; omega)]
 by_cases h0 : 10 * (x - 1) * 1 = 0
 ·refine ⟨true, ?_⟩
  rw [if_pos (by simpa using h0), h3 h0]; rfl
 ·refine ⟨true, ?_⟩
  rw [if_neg (by simpa using h0), need_of (by omega), need_of (by decide), need_of (by decide), need_of (by rfl), if_neg (by decide), need_of (by unfold inI64; omega), need_of (by unfold inI64; omega), need_of (by decide), need_of (by rw [h4 h0]; have := pw_b b hb; unfold inI64; omega), h4 h0]
  rfl
theorem F144_m {l : List Int} (h : l.length ≤ 1000) (h0 : 0 < l.length) : F144 l.length (l.map vI) = some (l.length, l.map vI) := by
 unfold F144
 rw [res_eq]
 have hf : fitsN l.length 8 := ⟨by omega, by omega⟩
 have h1 : l.length.beq 0 = false := by
  cases hn : l.length with
  | zero => omega
  | succ n => rfl
 simp only [B144, sem_br, sem_ask, sem_ret, PC.holds, need_true, stepO_ret, h1, Bool.false_eq_true, if_false, h0, List.length_map, Nat.mul_one, hf]
theorem cands_lt {rs : List Nat} {j : Nat} (h : j ∈ cands 5 rs) : j < 5 := by
 unfold cands at h
 simp only [List.mem_filter, List.mem_range] at h
 exact h.1
theorem inner {b : Nat} (hb : b < 7) {q : Int} {r : Nat × List DV × Int × Int} (hout : ∀ T, Eqv T (canon (b + 1)) → SRuns B90 Pk90 (.c6 ((b + 1 : Nat) : Int) q (encM T)) r) :
  ∀ (n : Nat) (rs : List Nat) (S T : SM), chk b n rs S = true → Eqv T S → SRuns B90 Pk90 (.c1 b (pw b) b q (encM T) rs) r
 | 0, rs, S, T, hc, ht => by
  unfold chk at hc
  simp only [Bool.and_eq_true] at hc
  refine .nxt (s' := .c2 b (pw b) b q (encM T) rs) rfl (.pick (l := [.c3 b (pw b) b q (encM T) rs]) (q := AllP [(.eqN 5 5), (.eqN 5 5)]) ?_ rfl ⟨rfl, rfl, trivial⟩ (by simp) ?_)
  ·simp only [Pk90, hc.1, if_true]
  ·intro s' hs'
   rw [List.mem_singleton.1 hs']
   refine .nxt (s' := .c6 ((b + 1 : Nat) : Int) q (encM T)) ?_ (hout T fun k => (ht k).trans (eqv_of hc.2 k))
   have hin : inI64 ((b : Int) + 1) := by unfold inI64; omega
   simp only [B90, sem_ask, sem_nxt, PC.holds, hin, need_true]
   rfl
 | n + 1, rs, S, T, hc, ht => by
  unfold chk at hc
  simp only [Bool.and_eq_true, List.all_eq_true, Bool.not_eq_true'] at hc
  have hne : cands 5 rs ≠ [] := by
   intro h0
   rw [h0] at hc
   simp at hc
  refine .nxt (s' := .c2 b (pw b) b q (encM T) rs) rfl (.pick (l := (cands 5 rs).map fun j => .c4 b (pw b) b q (encM T) j rs) (q := AllP [(.eqN 5 5), (.eqN 5 5)]) ?_ rfl ⟨rfl, rfl, trivial⟩ (by simpa using hne) ?_)
  ·simp only [Pk90, hc.1, Bool.false_eq_true, if_false]
  ·intro s' hs'
   obtain ⟨j, hj, rfl⟩ := List.mem_map.1 hs'
   exact .nxt (step4 (cands_lt hj) hb b q T rs) (inner hb hout n (j :: rs) (upd S (plan b j)) (upd T (plan b j)) (hc.2 j hj) (upd_congr ht _))
theorem search {T : SM} {q : Int} {v : PV} (hv : v.2.2.length = 3) : ∀ n : Nat, n ≤ 48 → srch T q n = some v → SRuns B90 Pk90 (.c8 q n (encM T)) (v.2.2.length, v.2.2.map vI, v.2.1, 0)
 | n, hn, h => by
  have hge : ((n : Int)) ≥ 0 := by omega
  have hin : inI64 ((n : Int) - 1) := by unfold inI64; omega
  have hz := p_map T n
  cases hm : mfind T (n : Int) with
  | none =>
   cases n with
   | zero => unfold srch at h; rw [show mfind T 0 = none from hm] at h; simp at h
   | succ k =>
    unfold srch at h
    rw [hm] at h
    refine .nxt (s' := .c8 q (k : Int) (encM T)) ?_ (search hv k (by omega) h)
    simp only [B90, z_eq', z_eq, sem_br, sem_ask, sem_nxt, PC.holds, hge, hz, hin, need_true, decide_true, if_true, mhas_encM, mhas_none hm, Bool.false_eq_true, if_false]
    rw [show (((k + 1 : Nat) : Int) - 1) = (k : Int) by omega]
  | some x =>
   by_cases hx : x.2.1 ≤ q
   ·have hxv : x = v := by
     cases n with
     | zero => unfold srch at h; rw [show mfind T 0 = some x from hm] at h; simpa [hx] using h
     | succ k => unfold srch at h; rw [hm] at h; simpa [hx] using h
    subst hxv
    refine .ret ?_
    rw [mgetD_some _ hm] at hz
    have z0 : dI (cel (encP x) 1) = x.2.1 := rfl
    have z2 : dN (cel (encP x) 2) = x.2.2.length := rfl
    have z3 : dL (cel (encP x) 2) = x.2.2.map vI := rfl
    have hF := F144_m (l := x.2.2) (by omega) (by omega)
    simp only [B90, z_eq', z_eq, mgetD_some _ hm, sem_br, sem_ask, sem_ret, PC.holds, hge, hin, need_true, decide_true, if_true, mhas_encM, mhas_some hm]
    rw [need_of hz]
    simp only [z0, z2, z3, hx, hF, sem_bind_some, sem_sees, sem_ret, decide_true, if_true]
   ·cases n with
    | zero => unfold srch at h; rw [show mfind T 0 = some x from hm] at h; simp [hx] at h
    | succ k =>
     unfold srch at h
     rw [hm] at h
     simp only [hx, if_false] at h
     refine .nxt (s' := .c8 q (k : Int) (encM T)) ?_ (search hv k (by omega) h)
     rw [mgetD_some _ hm] at hz
     have z0 : dI (cel (encP x) 1) = x.2.1 := rfl
     simp only [B90, z_eq', z_eq, mgetD_some _ hm, sem_br, sem_ask, sem_nxt, PC.holds, hge, hin, need_true, decide_true, if_true, mhas_encM, mhas_some hm]
     rw [need_of hz]
     simp only [z0, hx, decide_false, Bool.false_eq_true, if_false]
     rw [show (((k + 1 : Nat) : Int) - 1) = (k : Int) by omega]
theorem outer {q : Int} {v : PV} (hv : v.2.2.length = 3) (hs : srch (canon 7) q 48 = some v) : ∀ (k b : Nat), b + k = 7 → ∀ T, Eqv T (canon b) → SRuns B90 Pk90 (.c6 (b : Int) q (encM T)) (v.2.2.length, v.2.2.map vI, v.2.1, 0)
 | 0, b, hk, T, ht => by
  obtain rfl : b = 7 := by omega
  refine .nxt (s' := .c8 q ((48 : Nat) : Int) (encM T)) rfl (search hv 48 (by omega) ?_)
  rw [srch_congr ht, hs]
 | k + 1, b, hk, T, ht => by
  have hb : b < 7 := by omega
  obtain ⟨t, hF⟩ := F139_b b hb
  have hlt : (b : Int) < 7 := by omega
  refine .nxt (s' := .c1 b (pw b) b q (encM T) []) ?_ (inner hb (fun T' h' => outer hv hs k (b + 1) (by omega) T' h') 5 [] (canon b) T (chk_all b hb) ht)
  simp only [B90, sem_br, sem_sees, sem_nxt, hlt, decide_true, if_true]
  rw [hF]
  simp only [sem_bind_some, sem_sees, sem_nxt]
end Go.Kv.Bst
namespace Go.Kv.Bst
open Go Go.RowKit Go.Kv
set_option maxRecDepth 100000
theorem F109_f (e : Int) : F109 false e = some 0 := by
 unfold F109
 rw [res_eq]
 simp only [B109, sem_br, sem_ret, Bool.false_eq_true, if_false, stepO_ret]
theorem F106_in {n a b : Int} (h1 : a ≤ n) (h2 : n ≤ b) : F106 n a b = some 0 := by
 have e1 : ¬ n < a := by omega
 have e2 : ¬ n > b := by omega
 unfold F106
 rw [res_eq]
 simp only [B106, sem_triv, e1, e2, decide_false, Bool.false_eq_true, if_false, F109_f, sem_bind_some, sem_sees, sem_ret, stepO_ret]
theorem F107_00 : F107 2 [vI 0, vI 0] = some 0 := by
 have c0 : dI (cel [vI 0, vI 0] ((0 : Int).toNat * 1)) = 0 := rfl
 have c1 : dI (cel [vI 0, vI 0] ((1 : Int).toNat * 1)) = 0 := rfl
 unfold F107
 rw [res_eq]
 simp only [B107, sem_nxt, stepO_nxt]
 rw [res_eq]
 simp only [B107, sem_br, sem_ask, sem_nxt, sem_ret, c0, PC.holds]
 rw [if_pos (by decide), need_of (by decide), need_of (by decide), need_of (by decide), need_of (by rfl), if_neg (by decide), need_of (by unfold inI64; omega)]
 simp only [stepO_nxt]
 rw [show (0 : Int) + 1 = 1 from rfl, res_eq]
 simp only [B107, sem_br, sem_ask, sem_nxt, sem_ret, c1, PC.holds]
 rw [if_pos (by decide), need_of (by decide), need_of (by decide), need_of (by decide), need_of (by rfl), if_neg (by decide), need_of (by unfold inI64; omega)]
 simp only [stepO_nxt]
 rw [show (1 : Int) + 1 = 2 from rfl, res_eq]
 simp only [B107, sem_br, sem_ret]
 rw [if_neg (by decide)]
 rfl
theorem start {q : Int} (h1 : 0 ≤ q) (h2 : q ≤ 10000000) : (B90 (.c0 q)).sem = some (.inl (.c1 0 0 0 q [] [])) := by
 simp only [B90, F138_bc23, F142_bc33, F139_bc24, F142_bc43, F139_bc34, F139_bc37, F139_bc38, F139_bc39, F139_bc40, F142_bc53, F139_bc44, F106_in h1 h2, F107_00, sem_bind_some, sem_sees, sem_triv, sem_br, sem_nxt, bne_self_eq_false, Bool.false_eq_true, if_false]
theorem best {q : Int} (h1 : 0 ≤ q) (h2 : q ≤ 10000000) {v : PV} (hv : v.2.2.length = 3) (hs : srch (canon 7) q 48 = some v) : SRuns B90 Pk90 (.c0 q) (v.2.2.length, v.2.2.map vI, v.2.1, 0) :=
 .nxt (start h1 h2) (inner (b := 0) (by decide) (fun T' h' => outer hv hs 6 1 rfl T' h') 5 [] (canon 0) [] (chk_all 0 (by decide)) fun _ => rfl)
end Go.Kv.Bst
namespace Go.Kv
open Go Go.RowKit
theorem best10 : PureCalls cfz.P cfz.glob 90 [.agg [.d (.sl 3 [vI 100, vI 10, vI 0]), .d (.sl 1 [.sl 3 [vI 1, vI 1, vI 1]]), .d (vI 10), .d (vI 20), .d (.sl 0 [])], .d (vI 0), .d (vI 10)] (.tup [.d (.sl 3 [vI 6, vI 2, vI 0]), .d (vI 10), .d (vI 0)]) :=
 Bst.f90 10 (3, [vI 6, vI 2, vI 0], 10, 0) (sres_of (Bst.best (by decide) (by decide) (v := (8, 10, [6, 2, 0])) rfl Bst.srch10))
theorem best9 : PureCalls cfz.P cfz.glob 90 [.agg [.d (.sl 3 [vI 100, vI 10, vI 0]), .d (.sl 1 [.sl 3 [vI 1, vI 1, vI 1]]), .d (vI 10), .d (vI 20), .d (.sl 0 [])], .d (vI 0), .d (vI 9)] (.tup [.d (.sl 3 [vI 5, vI 2, vI 0]), .d (vI 7), .d (vI 0)]) :=
 Bst.f90 9 (3, [vI 5, vI 2, vI 0], 7, 0) (sres_of (Bst.best (by decide) (by decide) (v := (7, 7, [5, 2, 0])) rfl Bst.srch9))
end Go.Kv
