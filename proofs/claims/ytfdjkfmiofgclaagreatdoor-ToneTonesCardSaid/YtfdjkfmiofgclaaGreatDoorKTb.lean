import Derived.Test.YtfdjkfmiofgclaaGreatDoorKTa
namespace Go.Kv
set_option linter.unusedVariables false
set_option linter.unusedSimpArgs false
set_option linter.unnecessarySimpa false
open Go Go.RowKit
set_option maxRecDepth 100000
def crs (sg : List Int) (ns : List (List Int)) (mg mk : Int) (nt : List Int) (p : Nat) : List Int := (List.range sg.length).map fun c => ((carry sg ns mg mk nt p c : Nat) : Int)
theorem crs_len {sg : List Int} {ns : List (List Int)} {mg mk : Int} {nt : List Int} {p : Nat} : (crs sg ns mg mk nt p).length = sg.length := by simp [crs]
theorem crs_get {sg : List Int} {ns : List (List Int)} {mg mk : Int} {nt : List Int} {p c : Nat} (hc : c < sg.length) : (crs sg ns mg mk nt p).getD c 0 = ((carry sg ns mg mk nt p c : Nat) : Int) := by
  unfold crs
  rw [List.getD_eq_getElem?_getD, List.getElem?_map, List.getElem?_range hc]; rfl
section
variable {sg : List Int} {ns : List (List Int)} {mg mk : Int} {nt : List Int}
theorem F140_loop (v : VT sg ns mg mk nt) {p : Nat} (hp : p < ns.length) : ∀ (k i e : Nat), sg.length = i + k →
    res B140 (.c2 (p : Int) e i (((crs sg ns mg mk nt p).take i).map vI) (sg.length : Int) (i : Int) sg.length (sg.map vI) ns.length (ns.map eS) mg mk nt.length (nt.map vI) e) = some (sg.length, (crs sg ns mg mk nt p).map vI)
  | 0, i, e, hk => by
    have : ¬ ((i : Int) < (sg.length : Int)) := by omega
    rw [res_eq]
    simp only [B140, sem_br, sem_ret, this, decide_false, Bool.false_eq_true, if_false, stepO_ret]
    rw [List.take_of_length_le (by rw [crs_len]; omega), show i = sg.length by omega]
  | k + 1, i, e, hk => by
    have hi : i < sg.length := by omega
    have h1 : (i : Int) < (sg.length : Int) := by omega
    have h9 := v.sh.s
    have ih := F140_loop v hp k (i + 1) (e + 1) (by omega)
    have hin : inI64 ((i : Int) + 1) := by unfold inI64; omega
    have hf : fitsN (i + 1) 8 := ⟨by omega, by omega⟩
    rw [res_eq]
    simp only [B140, F142_eq v hp hi, sem_br, sem_ask, sem_nxt, sem_bind_some, sem_sees, PC.holds, need_true, h1, hin, hf, decide_true, if_true, stepO_nxt]
    rw [← ih, takeS 0 (by rw [crs_len]; exact hi), crs_get hi]; rfl
theorem F140_eq (v : VT sg ns mg mk nt) {p : Nat} (hp : p < ns.length) : F140 sg.length (sg.map vI) ns.length (ns.map eS) mg mk nt.length (nt.map vI) (p : Int) = some (sg.length, (crs sg ns mg mk nt p).map vI) := by
  unfold F140; rw [res_eq]
  simp only [B140, sem_nxt, stepO_nxt]
  rw [res_eq]
  by_cases h0 : sg.length = 0
  · obtain rfl : sg = [] := List.eq_nil_of_length_eq_zero h0
    simp [B140, sem_br, sem_ret, stepO_ret, crs]
  · have hi : 0 < sg.length := by omega
    have h1 : (0 : Int) < (sg.length : Int) := by omega
    have := F140_loop v hp (sg.length - 1) 1 0 (by omega)
    have hin : inI64 ((0 : Int) + 1) := by unfold inI64; omega
    have t1 := takeS (l := crs sg ns mg mk nt p) (i := 0) 0 (by rw [crs_len]; exact hi) vI
    have e0 : ((0 : Nat) : Int) = 0 := rfl
    have c0 := F142_eq v hp hi
    rw [e0] at c0
    simp only [B140, c0, sem_br, sem_ask, sem_nxt, sem_bind_some, sem_sees, PC.holds, need_true, h1, hin, decide_true, if_true, stepO_nxt]
    rw [← this, t1, crs_get hi]; rfl
theorem F80_loop (v : VT sg ns mg mk nt) {p : Nat} (hp : p < ns.length) : ∀ (k i e : Nat), sg.length = i + k →
    res B80 (.c2 (p : Int) e i (((crs sg ns mg mk nt p).take i).map vI) (i : Int) sg.length (sg.map vI) ns.length (ns.map eS) mg mk nt.length (nt.map vI) e) = some (sg.length, (crs sg ns mg mk nt p).map vI)
  | 0, i, e, hk => by
    have : ¬ ((i : Int) < (sg.length : Int)) := by omega
    rw [res_eq]
    simp only [B80, sem_br, sem_ret, this, decide_false, Bool.false_eq_true, if_false, stepO_ret]
    rw [List.take_of_length_le (by rw [crs_len]; omega), show i = sg.length by omega]
  | k + 1, i, e, hk => by
    have hi : i < sg.length := by omega
    have h1 : (i : Int) < (sg.length : Int) := by omega
    have h9 := v.sh.s
    have ih := F80_loop v hp k (i + 1) (e + 1) (by omega)
    have hin : inI64 ((i : Int) + 1) := by unfold inI64; omega
    have hf : fitsN (i + 1) 8 := ⟨by omega, by omega⟩
    rw [res_eq]
    simp only [B80, F141_eq v hp hi, sem_br, sem_ask, sem_nxt, sem_bind_some, sem_sees, PC.holds, need_true, h1, hin, hf, decide_true, if_true, stepO_nxt]
    rw [← ih, takeS 0 (by rw [crs_len]; exact hi), crs_get hi]; rfl
theorem F80_eq (v : VT sg ns mg mk nt) {p : Nat} (hp : p < ns.length) : F80 sg.length (sg.map vI) ns.length (ns.map eS) mg mk nt.length (nt.map vI) (p : Int) = some (sg.length, (crs sg ns mg mk nt p).map vI) := by
  unfold F80; rw [res_eq]
  simp only [B80, sem_nxt, stepO_nxt]
  rw [res_eq]
  by_cases h0 : sg.length = 0
  · obtain rfl : sg = [] := List.eq_nil_of_length_eq_zero h0
    simp [B80, sem_br, sem_ret, stepO_ret, crs]
  · have hi : 0 < sg.length := by omega
    have h1 : (0 : Int) < (sg.length : Int) := by omega
    have := F80_loop v hp (sg.length - 1) 1 0 (by omega)
    have hin : inI64 ((0 : Int) + 1) := by unfold inI64; omega
    have t1 := takeS (l := crs sg ns mg mk nt p) (i := 0) 0 (by rw [crs_len]; exact hi) vI
    have e0 : ((0 : Nat) : Int) = 0 := rfl
    have c0 := F141_eq v hp hi
    rw [e0] at c0
    simp only [B80, c0, sem_br, sem_ask, sem_nxt, sem_bind_some, sem_sees, PC.holds, need_true, h1, hin, decide_true, if_true, stepO_nxt]
    rw [← this, t1, crs_get hi]; rfl
def partE (sg : List Int) (ns : List (List Int)) (mg mk : Int) (nt : List Int) (x : Int) : Int := firstI [tonesE sg ns mg mk nt, whenI (decide (x < 0 ∨ x ≥ (ns.length : Int))) 10]
theorem F138_eq (h : Sh sg ns nt) (x : Int) : F138 sg.length (sg.map vI) ns.length (ns.map eS) mg mk nt.length (nt.map vI) x = some (partE sg ns mg mk nt x) := by
  unfold F138 partE; rw [res_eq]
  by_cases h1 : x < 0
  · simp only [B138, F82_eq h, F109_eq, F107_2, sem_br, sem_ret, sem_bind_some, sem_sees, h1, decide_true, true_or, if_true, stepO_ret]
  · simp only [B138, F82_eq h, F109_eq, F107_2, sem_br, sem_ask, sem_ret, sem_bind_some, sem_sees, PC.holds, need_true, h1, decide_false, false_or, Bool.false_eq_true, if_false, beq_self_eq_true, stepO_ret]
def powE (sg : List Int) (ns : List (List Int)) (mg mk : Int) (nt : List Int) (x c b : Int) : Int := firstI [partE sg ns mg mk nt x, whenI (decide (c < 0 ∨ c ≥ (sg.length : Int))) 10, rangeI b 0 6]
theorem part_0 (h : Sh sg ns nt) {x : Int} (h0 : partE sg ns mg mk nt x = 0) : VT sg ns mg mk nt ∧ ∃ p : Nat, x = (p : Int) ∧ p < ns.length := by
  have h1 := firstI_0 h0 (tonesE sg ns mg mk nt) (by simp)
  have h2 := firstI_0 h0 (whenI (decide (x < 0 ∨ x ≥ (ns.length : Int))) 10) (by simp)
  refine ⟨vt_of h h1, x.toNat, ?_⟩
  by_cases hx : x < 0 ∨ x ≥ (ns.length : Int)
  · rw [decide_eq_true hx, whenT] at h2; exact absurd h2 (by decide)
  · omega
theorem F73_eq (h : Sh sg ns nt) (x c b : Int) : F73 sg.length (sg.map vI) ns.length (ns.map eS) mg mk nt.length (nt.map vI) x c b =
    some (if powE sg ns mg mk nt x c b = 0 then ((pwr sg ns mg x.toNat c.toNat b.toNat).1, whenI (!(pwr sg ns mg x.toNat c.toNat b.toNat).2) 7) else (0, powE sg ns mg mk nt x c b)) := by
  have key : ∀ q, q = powE sg ns mg mk nt x c b → q = 0 → F139 sg.length (sg.map vI) ns.length (ns.map eS) mg mk nt.length (nt.map vI) x c b = some (pwr sg ns mg x.toNat c.toNat b.toNat) := by
    intro q hq h0
    rw [hq] at h0
    have e1 := firstI_0 h0 (partE sg ns mg mk nt x) (by simp)
    have e2 := firstI_0 h0 (whenI (decide (c < 0 ∨ c ≥ (sg.length : Int))) 10) (by simp)
    have e3 := rangeI_zero.1 (firstI_0 h0 (rangeI b 0 6) (by simp))
    obtain ⟨v, p, rfl, hp⟩ := part_0 h e1
    have hc : ¬ (c < 0 ∨ c ≥ (sg.length : Int)) := by
      intro hx
      rw [decide_eq_true hx, whenT] at e2; exact absurd e2 (by decide)
    have := F139_eq v hp (c := c.toNat) (b := b.toNat) (by omega) (by omega)
    rw [show ((c.toNat : Nat) : Int) = c by omega, show ((b.toNat : Nat) : Int) = b by omega] at this
    rw [this, Int.toNat_natCast]
  unfold F73; rw [res_eq]
  by_cases h1 : c < 0
  · have hE : firstI [partE sg ns mg mk nt x, whenI true 10, rangeI b 0 6] = powE sg ns mg mk nt x c b := by unfold powE; simp only [h1, true_or, decide_true]
    have hn : powE sg ns mg mk nt x c b ≠ 0 := by
      intro h0
      have e2 := firstI_0 h0 (whenI (decide (c < 0 ∨ c ≥ (sg.length : Int))) 10) (by simp)
      simp only [h1, true_or, decide_true, whenT] at e2
      exact absurd e2 (by decide)
    simp only [B73, F138_eq h, F109_eq, F106_eq, F107_3, hE, sem_br, sem_ret, sem_bind_some, sem_sees, h1, decide_true, if_true, bne_iff_ne.2 hn, if_neg hn, stepO_ret]
  · have hE : firstI [partE sg ns mg mk nt x, whenI (decide (c ≥ (sg.length : Int))) 10, rangeI b 0 6] = powE sg ns mg mk nt x c b := by unfold powE; simp only [h1, false_or]
    by_cases hn : powE sg ns mg mk nt x c b = 0
    · simp only [B73, F138_eq h, F109_eq, F106_eq, F107_3, hE, hn, key _ rfl hn, sem_br, sem_ask, sem_ret, sem_bind_some, sem_sees, PC.holds, need_true, h1, decide_false, Bool.false_eq_true, if_false, beq_self_eq_true, bne_self_eq_false, if_true, stepO_ret]
    · simp only [B73, F138_eq h, F109_eq, F106_eq, F107_3, hE, sem_br, sem_ask, sem_ret, sem_bind_some, sem_sees, PC.holds, need_true, h1, decide_false, Bool.false_eq_true, if_false, beq_self_eq_true, bne_iff_ne.2 hn, if_neg hn, if_true, stepO_ret]
theorem F75_eq (h : Sh sg ns nt) (x : Int) : F75 sg.length (sg.map vI) ns.length (ns.map eS) mg mk nt.length (nt.map vI) x =
    some (if partE sg ns mg mk nt x = 0 then (sg.length, (crs sg ns mg mk nt x.toNat).map vI, 0) else (0, [], partE sg ns mg mk nt x)) := by
  unfold F75; rw [res_eq]
  by_cases h0 : partE sg ns mg mk nt x = 0
  · obtain ⟨v, p, rfl, hp⟩ := part_0 h h0
    simp only [B75, F138_eq h, h0, F140_eq v hp, sem_br, sem_ret, sem_bind_some, sem_sees, bne_self_eq_false, Bool.false_eq_true, if_false, if_true, Int.toNat_natCast, stepO_ret]
  · simp only [B75, F138_eq h, sem_br, sem_ret, sem_bind_some, sem_sees, bne_iff_ne.2 h0, if_neg h0, if_true, stepO_ret]
end
theorem F35_loop {ls : List (List Int)} (hb : ∀ l ∈ ls, l.length ≤ 1025) (hl : ls.length ≤ 1025) : ∀ (k i e : Nat), ls.length = i + k →
    res B35 (.c2 e i ((ls.take i).map eS) ls.length (ls.map eS) (ls.length : Int) (i : Int) e) = some (ls.length, ls.map eS)
  | 0, i, e, hk => by
    have : ¬ ((i : Int) < (ls.length : Int)) := by omega
    rw [res_eq]
    simp only [B35, sem_br, sem_ret, this, decide_false, Bool.false_eq_true, if_false, stepO_ret]
    rw [List.take_of_length_le (by omega), show i = ls.length by omega]
  | k + 1, i, e, hk => by
    have hi : i < ls.length := by omega
    have h1 : (i : Int) < (ls.length : Int) := by omega
    have ih := F35_loop hb hl k (i + 1) (e + 1) (by omega)
    have hin : inI64 ((i : Int) + 1) := by unfold inI64; omega
    have hf : fitsN (i + 1) 24 := ⟨by omega, by omega⟩
    rw [res_eq]
    simp only [B35, sem_br, sem_ask, sem_ret, sem_nxt, sem_bind_some, sem_sees, PC.holds, need_true, Int.toNat_natCast, Nat.mul_one, dN_eS hi, dL_eS hi, atS hi, h1, hin, decide_true, if_true, Int.natCast_nonneg, List.length_map, Nat.le_of_lt hi, F33_eq (hb _ (getD_memS hi)), hf, stepO_nxt]
    rw [← ih, takeS [] hi]; rfl
theorem F35_eq {ls : List (List Int)} (hb : ∀ l ∈ ls, l.length ≤ 1025) (hl : ls.length ≤ 1025) : F35 ls.length (ls.map eS) = some (ls.length, ls.map eS) := by
  unfold F35; rw [res_eq]
  simp only [B35, sem_nxt, stepO_nxt]
  rw [res_eq]
  by_cases h0 : ls.length = 0
  · obtain rfl : ls = [] := List.eq_nil_of_length_eq_zero h0
    simp [B35, sem_br, sem_ret, stepO_ret]
  · have hi : 0 < ls.length := by omega
    have h1 : (0 : Int) < (ls.length : Int) := by omega
    have := F35_loop hb hl (ls.length - 1) 1 0 (by omega)
    have hin : inI64 ((0 : Int) + 1) := by unfold inI64; omega
    have t1 := takeS (l := ls) (i := 0) [] hi eS
    have a0 := atS hi; have d0 := dN_eS hi; have l0 := dL_eS hi
    simp only [B35, sem_br, sem_ask, sem_ret, sem_nxt, sem_bind_some, sem_sees, PC.holds, need_true, Int.toNat_zero, Nat.zero_mul, d0, l0, a0, h1, hin, decide_true, if_true, Int.le_refl, Nat.zero_le, F33_eq (hb _ (getD_memS hi)), stepO_nxt]
    rw [← this, t1]; rfl
theorem F74_eq {sg : List Int} {ns : List (List Int)} {mg mk : Int} {nt : List Int} (h : Sh sg ns nt) : F74 sg.length (sg.map vI) ns.length (ns.map eS) mg mk nt.length (nt.map vI) = some (sg.length, sg.map vI, ns.length, ns.map eS, mg, mk, nt.length, nt.map vI) := by
  have a := h.s; have b := h.n; have d := h.t
  unfold F74; rw [res_eq]
  simp only [B74, F33_eq (show sg.length ≤ 1025 by omega), F33_eq (show nt.length ≤ 1025 by omega), F35_eq (fun l hl => Nat.le_trans (h.r l hl) (by decide)) (show ns.length ≤ 1025 by omega), sem_bind_some, sem_sees, sem_ret, stepO_ret]
theorem F72_loop {sg : List Int} {ns : List (List Int)} {mg mk : Int} {nt : List Int} (hl : ns.length ≤ 9223372036854775807) : ∀ (k i : Nat), ns.length = i + k →
    ∃ b, res B72 (.c1 (i : Int) sg.length (sg.map vI) ns.length (ns.map eS) mg mk nt.length (nt.map vI)) = some b ∧ (b = true → (∀ l ∈ ns.drop i, l.length ≤ 9) ∧ sg.length ≤ 9 ∧ ns.length ≤ 9 ∧ nt.length ≤ 9)
  | 0, i, hk => by
    have h1 : ¬ ((i : Int) < (ns.length : Int)) := by omega
    by_cases c1 : (sg.length : Int) ≤ 9
    · by_cases c2 : (ns.length : Int) ≤ 9
      · refine ⟨decide ((nt.length : Int) ≤ 9), ?_, fun hb => ⟨?_, by omega, by omega, ?_⟩⟩
        · rw [res_eq]
          simp only [B72, sem_br, sem_triv, sem_ret, h1, c1, c2, decide_true, decide_false, Bool.false_eq_true, if_false, if_true, stepO_ret]
        · rw [List.drop_of_length_le (by omega)]; simp
        · have := of_decide_eq_true hb; omega
      · refine ⟨false, ?_, fun hb => absurd hb (by decide)⟩
        rw [res_eq]
        simp only [B72, sem_br, sem_triv, sem_ret, h1, c1, c2, decide_true, decide_false, Bool.false_eq_true, if_false, if_true, stepO_ret]
    · refine ⟨false, ?_, fun hb => absurd hb (by decide)⟩
      rw [res_eq]
      simp only [B72, sem_br, sem_triv, sem_ret, h1, c1, decide_false, Bool.false_eq_true, if_false, stepO_ret]
  | k + 1, i, hk => by
    have hi : i < ns.length := by omega
    have h1 : (i : Int) < (ns.length : Int) := by omega
    have hin : inI64 ((i : Int) + 1) := by unfold inI64; omega
    obtain ⟨b, hb, hB⟩ := F72_loop (sg := sg) (mg := mg) (mk := mk) (nt := nt) hl k (i + 1) (by omega)
    by_cases h9 : (((ns.getD i []).length : Int) > 9)
    · refine ⟨false, ?_, fun h => absurd h (by decide)⟩
      rw [res_eq]
      simp only [B72, sem_br, sem_ask, sem_ret, PC.holds, need_true, Int.toNat_natCast, Nat.mul_one, dN_eS hi, dL_eS hi, atS hi, h1, h9, Int.natCast_nonneg, List.length_map, Nat.le_of_lt hi, decide_true, if_true, stepO_ret]
    · refine ⟨b, ?_, fun h => ⟨?_, (hB h).2⟩⟩
      · rw [res_eq]
        simp only [B72, sem_br, sem_ask, sem_nxt, PC.holds, need_true, Int.toNat_natCast, Nat.mul_one, dN_eS hi, dL_eS hi, atS hi, h1, h9, hin, Int.natCast_nonneg, List.length_map, Nat.le_of_lt hi, decide_true, decide_false, if_true, Bool.false_eq_true, if_false, stepO_nxt]
        rw [← hb]; rfl
      · intro l hm
        rw [dropD [] hi] at hm
        rcases List.mem_cons.1 hm with rfl | hm
        · omega
        · exact (hB h).1 l hm
theorem F72_ex {sg : List Int} {ns : List (List Int)} {mg mk : Int} {nt : List Int} (hl : ns.length ≤ 9223372036854775807) : ∃ b, F72 sg.length (sg.map vI) ns.length (ns.map eS) mg mk nt.length (nt.map vI) = some b ∧ (b = true → Sh sg ns nt) := by
  obtain ⟨b, hb, hB⟩ := F72_loop (sg := sg) (mg := mg) (mk := mk) (nt := nt) hl ns.length 0 (by omega)
  refine ⟨b, ?_, fun h => ?_⟩
  · unfold F72
    rw [res_eq]
    simp only [B72, sem_nxt, stepO_nxt]
    exact hb
  · have := hB h
    rw [List.drop_zero] at this
    exact ⟨this.2.1, this.2.2.1, this.1, this.2.2.2⟩
theorem F83_bad {e : Int} (h : e ≠ 0) (w : Int) : F83 0 e e w = some true := by
  unfold F83; rw [res_eq]
  have h1 : (e != 0) = true := bne_iff_ne.2 h
  simp [B83, sem_br, sem_triv, sem_ask, sem_ret, PC.holds, need_true, h1, stepO_ret]
theorem F83_ok (n : Int) : F83 n 0 0 n = some true := by
  unfold F83; rw [res_eq]
  simp [B83, sem_br, sem_triv, sem_ask, sem_ret, PC.holds, need_true, stepO_ret]
theorem F24_bad {e : Int} (h : e ≠ 0) (m : Nat) (ys : List DV) : F24 0 [] e e m ys = some true := by
  unfold F24; rw [res_eq]
  have h1 : (e != 0) = true := bne_iff_ne.2 h
  simp [B24, sem_br, sem_triv, sem_ask, sem_ret, PC.holds, need_true, h1, stepO_ret]
theorem F24_ok (l : List Int) (hl : l.length ≤ 1025) : F24 l.length (l.map vI) 0 0 l.length (l.map vI) = some true := by
  unfold F24; rw [res_eq]
  simp [B24, sem_br, sem_triv, sem_ask, sem_ret, sem_sees, sem_bind_some, PC.holds, need_true, F65_eq l hl, stepO_ret]
def mn (o n : Int) : Int := if n < o then n else o
def mnl : Nat → Nat → List Int → List Int → List Int
  | 0, _, o, _ => o
  | k + 1, i, o, n => mnl k (i + 1) (o.set i (mn (o.getD i 0) (n.getD i 0))) n
theorem mnl_len (n : List Int) : ∀ (k i : Nat) (o : List Int), (mnl k i o n).length = o.length
  | 0, _, _ => rfl
  | k + 1, i, o => by unfold mnl; rw [mnl_len n k]; simp
theorem setD_self {l : List Int} {i : Nat} : l.set i (l.getD i 0) = l := by
  by_cases hi : i < l.length
  · rw [List.getD_eq_getElem?_getD, List.getElem?_eq_getElem hi, Option.getD_some, List.set_getElem_self]
  · exact List.set_eq_of_length_le (by omega)
theorem mnl_self : ∀ (k i : Nat) (o : List Int), mnl k i o o = o
  | 0, _, _ => rfl
  | k + 1, i, o => by
    unfold mnl
    have : mn (o.getD i 0) (o.getD i 0) = o.getD i 0 := by unfold mn; split <;> rfl
    rw [this, setD_self, mnl_self k]
section
variable (sg : List Int) (ns : List (List Int)) (mg mk : Int) (nt : List Int)
def rbs : Nat → Nat → List Int → List Int
  | 0, _, o => o
  | k + 1, p, o => rbs k (p + 1) (mnl sg.length 0 o (crs sg ns mg mk nt p))
def rob : List Int := rbs sg ns mg mk nt (ns.length - 1) 1 (crs sg ns mg mk nt 0)
end
theorem rbs_len {sg : List Int} {ns : List (List Int)} {mg mk : Int} {nt : List Int} : ∀ (k p : Nat) (o : List Int), (rbs sg ns mg mk nt k p o).length = o.length
  | 0, _, _ => rfl
  | k + 1, p, o => by unfold rbs; rw [rbs_len k, mnl_len]
theorem rob_len {sg : List Int} {ns : List (List Int)} {mg mk : Int} {nt : List Int} : (rob sg ns mg mk nt).length = sg.length := by
  unfold rob; rw [rbs_len, crs_len]
abbrev AM (l : List Int) : List AV := List.map AV.d (List.map vI l)
theorem AM_len (l : List Int) : (AM l).length = l.length := by simp
theorem refBs_d (k : Nat) : ∀ l : List DV, refBs k (l.map AV.d) = true
  | [] => rfl
  | x :: l => by
    rw [List.map_cons]; unfold refBs; rw [refBs_d k l]; simp [refB]
theorem refK_d (k : Nat) (l : List DV) (t : TypeId) : refK k (.cells (l.map AV.d) t) = true := refBs_d k l
theorem flatC_d : ∀ l : List DV, flatC (l.map AV.d) = true
  | [] => rfl
  | x :: l => by rw [List.map_cons]; unfold flatC; exact flatC_d l
theorem flatK_d (l : List DV) (t : TypeId) : flatK (.cells (l.map AV.d) t) = true := flatC_d l
theorem AM_at {l : List Int} {i : Nat} (hi : i < l.length) : (AM l)[i]? = some (AV.d (DV.v (Value.int IntKind.i64 (l.getD i 0)))) := by
  rw [List.getElem?_map, List.getElem?_map, List.getElem?_eq_getElem hi, List.getD_eq_getElem?_getD, List.getElem?_eq_getElem hi]; rfl
theorem AM_cel {l : List Int} {i : Nat} (hi : i < l.length) : dI (celA (AM l) i) = l.getD i 0 := by
  unfold celA
  rw [List.getD_eq_getElem?_getD, AM_at hi]; rfl
theorem AM_spl {l : List Int} {i : Nat} (hi : i < l.length) (v : Int) : spliceA (AM l) i [AV.d (DV.v (Value.int IntKind.i64 v))] = AM (l.set i v) := by
  have e : (AM l).set i (AV.d (DV.v (Value.int IntKind.i64 v))) = AM (l.set i v) := by simp [AM, List.map_set]
  rw [← e, List.set_eq_take_append_cons_drop, if_pos (by rw [AM_len]; exact hi)]
  unfold spliceA
  rw [List.length_singleton, List.append_assoc]; rfl
theorem AM_end (l : List Int) (n : Nat) (hn : n = l.length) : List.take n (List.drop 0 (AM l)) = AM l := by
  rw [List.drop_zero, List.take_of_length_le (by rw [AM_len]; omega)]
section
variable {sg : List Int} {ns : List (List Int)} {mg mk : Int} {nt : List Int}
theorem s0_of (h0 : tonesE sg ns mg mk nt = 0) : 0 < sg.length := by
  apply Nat.pos_of_ne_zero
  intro hz
  unfold tonesE at h0
  have hs : sigE sg ns.length ≠ 0 := by
    unfold sigE
    rw [hz, first_pos (by decide)]; decide
  rw [if_pos hs] at h0
  exact hs h0
theorem k9 (v : VT sg ns mg mk nt) {p : Nat} (hp : p < ns.length) (cap : Nat) : ∀ (k i : Nat) (o : List Int), sg.length = i + k → o.length = sg.length →
    res B76 (.c9 sg.length cap (ns.length : Int) (p : Int) sg.length ((crs sg ns mg mk nt p).map vI) (sg.length : Int) (i : Int) sg.length (sg.map vI) ns.length (ns.map eS) mg mk nt.length (nt.map vI) (AM o)) =
    res B76 (.c7 sg.length cap (ns.length : Int) ((p + 1 : Nat) : Int) sg.length (sg.map vI) ns.length (ns.map eS) mg mk nt.length (nt.map vI) (AM (mnl k i o (crs sg ns mg mk nt p))))
  | 0, i, o, hk, ho => by
    have h1 : ¬ ((i : Int) < (sg.length : Int)) := by omega
    have hin : inI64 ((p : Int) + 1) := by have := v.sh.n; unfold inI64; omega
    rw [res_eq]
    simp only [B76, sem_br, sem_ask, sem_nxt, h1, hin, refK_d, PC.holds, need_true, decide_false, Bool.false_eq_true, if_false, stepO_nxt, mnl]
    rfl
  | k + 1, i, o, hk, ho => by
    have hi : i < sg.length := by omega
    have h1 : (i : Int) < (sg.length : Int) := by omega
    have hio : i < o.length := by omega
    have hic : i < (crs sg ns mg mk nt p).length := by rw [crs_len]; exact hi
    have hin : inI64 ((i : Int) + 1) := by have := v.sh.s; unfold inI64; omega
    have ih := k9 v hp cap k (i + 1) (o.set i (mn (o.getD i 0) ((crs sg ns mg mk nt p).getD i 0))) (by omega) (by rw [List.length_set]; exact ho)
    rw [res_eq]
    unfold mnl
    simp only [B76, sem_br, sem_ask, sem_triv, sem_nxt, PC.holds, h1, hin, decide_true, if_true, need_true, Int.toNat_natCast, Nat.mul_one, Nat.zero_add, Int.natCast_nonneg, List.length_map, crs_len, Nat.le_of_lt hi, at_map hic, dI_cel_map, AM_at hio, AM_cel hio, AM_spl hio, refK_d, show i + 1 ≤ o.length from hio, stepO_nxt]
    rw [← ih]; rfl
theorem k7 (v : VT sg ns mg mk nt) (cap : Nat) : ∀ (k p : Nat) (o : List Int), ns.length = p + k → o.length = sg.length →
    res B76 (.c7 sg.length cap (ns.length : Int) (p : Int) sg.length (sg.map vI) ns.length (ns.map eS) mg mk nt.length (nt.map vI) (AM o)) = some (sg.length, (rbs sg ns mg mk nt k p o).map vI, 0)
  | 0, p, o, hk, ho => by
    have h1 : ¬ ((p : Int) < (ns.length : Int)) := by omega
    rw [res_eq]
    simp only [B76, sem_br, sem_ask, sem_ret, PC.holds, h1, decide_false, Bool.false_eq_true, if_false, AM_end o sg.length ho.symm, toDs_d, aD_d, need_true, AM_len, Nat.zero_add, Nat.mul_one, show sg.length ≤ o.length by omega, stepO_ret, rbs]
  | k + 1, p, o, hk, ho => by
    have hp : p < ns.length := by omega
    have h1 : (p : Int) < (ns.length : Int) := by omega
    have ih := k7 v cap k (p + 1) (mnl sg.length 0 o (crs sg ns mg mk nt p)) (by omega) (by rw [mnl_len]; exact ho)
    have h9 := k9 v hp cap sg.length 0 o (by omega) ho
    rw [res_eq]
    unfold rbs
    simp only [B76, F140_eq v hp, sem_br, sem_ask, sem_nxt, sem_bind_some, sem_sees, PC.holds, h1, decide_true, if_true, refK_d, need_true, stepO_nxt]
    rw [← ih, ← h9]; rfl
theorem k4 (v : VT sg ns mg mk nt) : ∀ (k i : Nat), sg.length = i + k → 0 < i →
    res B76 (.c4 i i (sg.length : Int) (i : Int) sg.length (sg.map vI) ns.length (ns.map eS) mg mk nt.length (nt.map vI) (AM ((crs sg ns mg mk nt 0).take i))) =
    res B76 (.c7 sg.length sg.length (ns.length : Int) 0 sg.length (sg.map vI) ns.length (ns.map eS) mg mk nt.length (nt.map vI) (AM (crs sg ns mg mk nt 0)))
  | 0, i, hk, h0 => by
    have h1 : ¬ ((i : Int) < (sg.length : Int)) := by omega
    rw [res_eq]
    simp only [B76, sem_br, sem_ask, sem_nxt, PC.holds, h1, refK_d, flatK_d, decide_false, Bool.false_eq_true, if_false, need_true, stepO_nxt]
    rw [List.take_of_length_le (by rw [crs_len]; omega), show i = sg.length by omega]
  | k + 1, i, hk, h0 => by
    have hi : i < sg.length := by omega
    have h1 : (i : Int) < (sg.length : Int) := by omega
    have hn := v.n0
    have h9 := v.sh.s
    have hic : i < (crs sg ns mg mk nt 0).length := by rw [crs_len]; exact hi
    have hin : inI64 ((i : Int) + 1) := by unfold inI64; omega
    have hf : fitsN (i + 1) 8 := ⟨by omega, by omega⟩
    have hle : ((crs sg ns mg mk nt 0).take i).length = i := by rw [List.length_take, crs_len]; omega
    have f142 := F142_eq v (p := 0) hn hi
    rw [show ((0 : Nat) : Int) = 0 from rfl] at f142
    have hrow : List.take i (AM ((crs sg ns mg mk nt 0).take i)) ++ List.map AV.d [DV.v (Value.int IntKind.i64 ((carry sg ns mg mk nt 0 i : Nat) : Int))] = AM ((crs sg ns mg mk nt 0).take (i + 1)) := by
      rw [List.take_of_length_le (by rw [AM_len, hle]; omega), AM, AM, takeS 0 hic, List.map_append, crs_get hi]
    have ih := k4 v k (i + 1) (by omega) (by omega)
    rw [res_eq]
    simp only [B76, f142, Nat.mul_one, hrow, sem_br, sem_ask, sem_nxt, sem_bind_some, sem_sees, PC.holds, h1, hin, hf, refK_d, flatK_d, need_true, decide_true, if_true, AM_len, hle, Nat.le_refl, stepO_nxt]
    rw [← ih]; rfl
theorem F76_eq (h : Sh sg ns nt) : F76 sg.length (sg.map vI) ns.length (ns.map eS) mg mk nt.length (nt.map vI) = some (if tonesE sg ns mg mk nt = 0 then (sg.length, (rob sg ns mg mk nt).map vI, 0) else (0, [], tonesE sg ns mg mk nt)) := by
  unfold F76; rw [res_eq]
  by_cases hT : tonesE sg ns mg mk nt = 0
  rotate_left
  · simp only [B76, F82_eq h, sem_br, sem_ret, sem_bind_some, sem_sees, bne_iff_ne.2 hT, if_neg hT, if_true, stepO_ret]
  have v := vt_of h hT
  have hs := s0_of hT
  have hn := v.n0
  have h1 : (0 : Int) < (sg.length : Int) := by omega
  have n1 : (0 : Int) < (ns.length : Int) := by omega
  have f142 := F142_eq v (p := 0) hn hs
  have f140 := F140_eq v (p := 0) hn
  rw [show ((0 : Nat) : Int) = 0 from rfl] at f142 f140
  have i1 : inI64 ((0 : Int) + 1) := by unfold inI64; omega
  have e0 : [AV.d (DV.v (Value.int IntKind.i64 ((carry sg ns mg mk nt 0 0 : Nat) : Int)))] = AM ((crs sg ns mg mk nt 0).take 1) := by
    rw [AM, takeS 0 (by rw [crs_len]; exact hs), crs_get hs]; rfl
  have c0l : (crs sg ns mg mk nt 0).length = sg.length := crs_len
  have last : rob sg ns mg mk nt = rbs sg ns mg mk nt (ns.length - 1) 1 (mnl sg.length 0 (crs sg ns mg mk nt 0) (crs sg ns mg mk nt 0)) := by rw [mnl_self]; rfl
  simp only [B76, F82_eq h, hT, sem_br, sem_nxt, sem_bind_some, sem_sees, bne_self_eq_false, Bool.false_eq_true, if_false, if_true, stepO_nxt]
  rw [res_eq]
  simp only [B76, f142, sem_br, sem_ask, sem_nxt, sem_bind_some, sem_sees, PC.holds, h1, i1, need_true, decide_true, if_true, stepO_nxt]
  rw [res_eq]
  by_cases h2 : (0 : Int) + 1 < (sg.length : Int)
  · have hs1 : 1 < sg.length := by omega
    have f142' := F142_eq v (p := 0) hn hs1
    rw [show ((0 : Nat) : Int) = 0 from rfl, show ((1 : Nat) : Int) = 0 + 1 from rfl] at f142'
    have hf : fitsN (1 + 1) 8 := ⟨by omega, by omega⟩
    have i2 : inI64 ((0 : Int) + 1 + 1) := by unfold inI64; omega
    have hrow : List.take 1 [AV.d (DV.v (Value.int IntKind.i64 ((carry sg ns mg mk nt 0 0 : Nat) : Int)))] ++ List.map AV.d [DV.v (Value.int IntKind.i64 ((carry sg ns mg mk nt 0 1 : Nat) : Int))] = AM ((crs sg ns mg mk nt 0).take (1 + 1)) := by
      rw [e0, List.take_of_length_le (by rw [AM_len, List.length_take]; omega), AM, AM, takeS 0 (show 1 < (crs sg ns mg mk nt 0).length by rw [crs_len]; exact hs1), List.map_append, crs_get hs1]
    simp only [B76, f142', Nat.mul_one, hrow, sem_br, sem_ask, sem_nxt, sem_bind_some, sem_sees, PC.holds, h2, i2, hf, refK_d, flatK_d, need_true, decide_true, if_true, List.length_singleton, Nat.mul_one, Nat.le_refl, stepO_nxt]
    have a := k4 v (sg.length - 2) 2 (by omega) (by omega)
    have b := k7 v sg.length ns.length 0 (crs sg ns mg mk nt 0) (by omega) crs_len
    rw [show rbs sg ns mg mk nt ns.length 0 (crs sg ns mg mk nt 0) = rob sg ns mg mk nt by
      rw [last]
      obtain ⟨m, hm⟩ : ∃ m, ns.length = m + 1 := ⟨ns.length - 1, by omega⟩
      rw [hm]; rfl] at b
    rw [← b]
    exact a
  · have hs1 : sg.length = 1 := by omega
    have hl1 : (crs sg ns mg mk nt 0).length = 1 := by rw [crs_len]; exact hs1
    have hc1 : (crs sg ns mg mk nt 0).take 1 = crs sg ns mg mk nt 0 := List.take_of_length_le (by omega)
    simp only [B76, sem_br, sem_ask, sem_nxt, h2, decide_false, Bool.false_eq_true, if_false, stepO_nxt]
    rw [res_eq]
    simp only [B76, f140, sem_br, sem_ask, sem_nxt, sem_bind_some, sem_sees, PC.holds, n1, decide_true, if_true, need_true, stepO_nxt]
    rw [res_eq]
    rw [hc1] at e0
    have hi0 : 0 < (crs sg ns mg mk nt 0).length := by omega
    have a9 := k9 v hn 1 0 1 ((crs sg ns mg mk nt 0).set 0 (mn ((crs sg ns mg mk nt 0).getD 0 0) ((crs sg ns mg mk nt 0).getD 0 0))) (by omega) (by rw [List.length_set]; exact crs_len)
    have a7 := k7 v 1 (ns.length - 1) 1 (mnl sg.length 0 (crs sg ns mg mk nt 0) (crs sg ns mg mk nt 0)) (by omega) (by rw [mnl_len]; exact crs_len)
    rw [← last, ← show mnl 0 1 ((crs sg ns mg mk nt 0).set 0 (mn ((crs sg ns mg mk nt 0).getD 0 0) ((crs sg ns mg mk nt 0).getD 0 0))) (crs sg ns mg mk nt 0) = mnl sg.length 0 (crs sg ns mg mk nt 0) (crs sg ns mg mk nt 0) by rw [hs1]; rfl] at a7
    rw [← a7, ← a9]
    have l1 : (0 : Int) < ((sg.length : Nat) : Int) := h1
    have am0 := AM_at hi0
    have ac0 := AM_cel hi0
    have as0 := AM_spl hi0
    have at0 := at_map hi0
    simp only [B76, e0, sem_br, sem_ask, sem_triv, sem_nxt, PC.holds, l1, i1, decide_true, if_true, need_true, Int.toNat_zero, Nat.zero_mul, Nat.add_zero, Int.le_refl, Nat.zero_le, dI_cel_map, am0, ac0, as0, at0, refK_d, hs1, show (0 : Int) < ((1 : Nat) : Int) from by decide, Nat.le_refl, stepO_nxt, List.length_map, List.length_singleton, AM_len, hl1]
    rfl
theorem j8 (v : VT sg ns mg mk nt) {p : Nat} (hp : p < ns.length) (cap : Nat) : ∀ (k i : Nat) (o : List Int), sg.length = i + k → o.length = sg.length →
    res B81 (.c8 sg.length cap (p : Int) sg.length ((crs sg ns mg mk nt p).map vI) (i : Int) sg.length (sg.map vI) ns.length (ns.map eS) mg mk nt.length (nt.map vI) (AM o)) =
    res B81 (.c6 sg.length cap ((p + 1 : Nat) : Int) sg.length (sg.map vI) ns.length (ns.map eS) mg mk nt.length (nt.map vI) (AM (mnl k i o (crs sg ns mg mk nt p))))
  | 0, i, o, hk, ho => by
    have h1 : ¬ ((i : Int) < (sg.length : Int)) := by omega
    have hin : inI64 ((p : Int) + 1) := by have := v.sh.n; unfold inI64; omega
    rw [res_eq]
    simp only [B81, sem_br, sem_ask, sem_nxt, h1, hin, refK_d, PC.holds, need_true, decide_false, Bool.false_eq_true, if_false, stepO_nxt, mnl]
    rfl
  | k + 1, i, o, hk, ho => by
    have hi : i < sg.length := by omega
    have h1 : (i : Int) < (sg.length : Int) := by omega
    have hio : i < o.length := by omega
    have hic : i < (crs sg ns mg mk nt p).length := by rw [crs_len]; exact hi
    have hin : inI64 ((i : Int) + 1) := by have := v.sh.s; unfold inI64; omega
    have ih := j8 v hp cap k (i + 1) (o.set i (mn (o.getD i 0) ((crs sg ns mg mk nt p).getD i 0))) (by omega) (by rw [List.length_set]; exact ho)
    rw [res_eq]
    unfold mnl
    simp only [B81, sem_br, sem_ask, sem_triv, sem_nxt, PC.holds, h1, hin, decide_true, if_true, need_true, Int.toNat_natCast, Nat.mul_one, Nat.zero_add, Int.natCast_nonneg, List.length_map, crs_len, Nat.le_of_lt hi, at_map hic, dI_cel_map, AM_at hio, AM_cel hio, AM_spl hio, refK_d, show i + 1 ≤ o.length from hio, stepO_nxt]
    rw [← ih]; rfl
theorem j6 (v : VT sg ns mg mk nt) (cap : Nat) : ∀ (k p : Nat) (o : List Int), ns.length = p + k → o.length = sg.length →
    res B81 (.c6 sg.length cap (p : Int) sg.length (sg.map vI) ns.length (ns.map eS) mg mk nt.length (nt.map vI) (AM o)) = some (sg.length, (rbs sg ns mg mk nt k p o).map vI)
  | 0, p, o, hk, ho => by
    have h1 : ¬ ((p : Int) < (ns.length : Int)) := by omega
    rw [res_eq]
    simp only [B81, sem_br, sem_ask, sem_ret, PC.holds, h1, decide_false, Bool.false_eq_true, if_false, Nat.mul_one, AM_end o sg.length ho.symm, toDs_d, aD_d, need_true, AM_len, Nat.zero_add, show sg.length ≤ o.length by omega, stepO_ret, rbs]
  | k + 1, p, o, hk, ho => by
    have hp : p < ns.length := by omega
    have h1 : (p : Int) < (ns.length : Int) := by omega
    have ih := j6 v cap k (p + 1) (mnl sg.length 0 o (crs sg ns mg mk nt p)) (by omega) (by rw [mnl_len]; exact ho)
    have h9 := j8 v hp cap sg.length 0 o (by omega) ho
    rw [res_eq]
    unfold rbs
    simp only [B81, F80_eq v hp, sem_br, sem_ask, sem_nxt, sem_bind_some, sem_sees, PC.holds, h1, decide_true, if_true, refK_d, need_true, stepO_nxt]
    rw [← ih, ← h9]; rfl
theorem j4 (v : VT sg ns mg mk nt) : ∀ (k i : Nat), sg.length = i + k → 0 < i →
    res B81 (.c4 i i (i : Int) sg.length (sg.map vI) ns.length (ns.map eS) mg mk nt.length (nt.map vI) (AM ((crs sg ns mg mk nt 0).take i))) =
    res B81 (.c6 sg.length sg.length 1 sg.length (sg.map vI) ns.length (ns.map eS) mg mk nt.length (nt.map vI) (AM (crs sg ns mg mk nt 0)))
  | 0, i, hk, h0 => by
    have h1 : ¬ ((i : Int) < (sg.length : Int)) := by omega
    rw [res_eq]
    simp only [B81, sem_br, sem_ask, sem_nxt, PC.holds, h1, refK_d, flatK_d, decide_false, Bool.false_eq_true, if_false, need_true, stepO_nxt]
    rw [List.take_of_length_le (by rw [crs_len]; omega), show i = sg.length by omega]
  | k + 1, i, hk, h0 => by
    have hi : i < sg.length := by omega
    have h1 : (i : Int) < (sg.length : Int) := by omega
    have hn := v.n0
    have h9 := v.sh.s
    have hic : i < (crs sg ns mg mk nt 0).length := by rw [crs_len]; exact hi
    have hin : inI64 ((i : Int) + 1) := by unfold inI64; omega
    have hf : fitsN (i + 1) 8 := ⟨by omega, by omega⟩
    have hle : ((crs sg ns mg mk nt 0).take i).length = i := by rw [List.length_take, crs_len]; omega
    have f142 := F141_eq v (p := 0) hn hi
    rw [show ((0 : Nat) : Int) = 0 from rfl] at f142
    have hrow : List.take i (AM ((crs sg ns mg mk nt 0).take i)) ++ List.map AV.d [DV.v (Value.int IntKind.i64 ((carry sg ns mg mk nt 0 i : Nat) : Int))] = AM ((crs sg ns mg mk nt 0).take (i + 1)) := by
      rw [List.take_of_length_le (by rw [AM_len, hle]; omega), AM, AM, takeS 0 hic, List.map_append, crs_get hi]
    have ih := j4 v k (i + 1) (by omega) (by omega)
    rw [res_eq]
    simp only [B81, f142, Nat.mul_one, hrow, sem_br, sem_ask, sem_nxt, sem_bind_some, sem_sees, PC.holds, h1, hin, hf, refK_d, flatK_d, need_true, decide_true, if_true, AM_len, hle, Nat.le_refl, stepO_nxt]
    rw [← ih]; rfl
theorem F81_eq (v : VT sg ns mg mk nt) (hs : 0 < sg.length) : F81 sg.length (sg.map vI) ns.length (ns.map eS) mg mk nt.length (nt.map vI) = some (sg.length, (rob sg ns mg mk nt).map vI) := by
  unfold F81; rw [res_eq]
  have hn := v.n0
  have h1 : (0 : Int) < (sg.length : Int) := by omega
  have f142 := F141_eq v (p := 0) hn hs
  rw [show ((0 : Nat) : Int) = 0 from rfl] at f142
  have i1 : inI64 ((0 : Int) + 1) := by unfold inI64; omega
  have e0 : [AV.d (DV.v (Value.int IntKind.i64 ((carry sg ns mg mk nt 0 0 : Nat) : Int)))] = AM ((crs sg ns mg mk nt 0).take 1) := by
    rw [AM, takeS 0 (by rw [crs_len]; exact hs), crs_get hs]; rfl
  simp only [B81, sem_nxt, stepO_nxt]
  rw [res_eq]
  simp only [B81, f142, sem_br, sem_ask, sem_nxt, sem_bind_some, sem_sees, PC.holds, h1, i1, need_true, decide_true, if_true, stepO_nxt]
  rw [res_eq]
  by_cases h2 : (0 : Int) + 1 < (sg.length : Int)
  · have hs1 : 1 < sg.length := by omega
    have f142' := F141_eq v (p := 0) hn hs1
    rw [show ((0 : Nat) : Int) = 0 from rfl, show ((1 : Nat) : Int) = 0 + 1 from rfl] at f142'
    have hf : fitsN (1 + 1) 8 := ⟨by omega, by omega⟩
    have i2 : inI64 ((0 : Int) + 1 + 1) := by unfold inI64; omega
    have hrow : List.take 1 [AV.d (DV.v (Value.int IntKind.i64 ((carry sg ns mg mk nt 0 0 : Nat) : Int)))] ++ List.map AV.d [DV.v (Value.int IntKind.i64 ((carry sg ns mg mk nt 0 1 : Nat) : Int))] = AM ((crs sg ns mg mk nt 0).take (1 + 1)) := by
      rw [e0, List.take_of_length_le (by rw [AM_len, List.length_take]; omega), AM, AM, takeS 0 (show 1 < (crs sg ns mg mk nt 0).length by rw [crs_len]; exact hs1), List.map_append, crs_get hs1]
    simp only [B81, f142', Nat.mul_one, hrow, sem_br, sem_ask, sem_nxt, sem_bind_some, sem_sees, PC.holds, h2, i2, hf, refK_d, flatK_d, need_true, decide_true, if_true, List.length_singleton, Nat.mul_one, Nat.le_refl, stepO_nxt]
    have a := j4 v (sg.length - 2) 2 (by omega) (by omega)
    have b := j6 v sg.length (ns.length - 1) 1 (crs sg ns mg mk nt 0) (by omega) crs_len
    rw [show rbs sg ns mg mk nt (ns.length - 1) 1 (crs sg ns mg mk nt 0) = rob sg ns mg mk nt from rfl] at b
    rw [← b]
    exact a
  · have hs1 : sg.length = 1 := by omega
    have hl1 : (crs sg ns mg mk nt 0).length = 1 := by rw [crs_len]; exact hs1
    have hc1 : (crs sg ns mg mk nt 0).take 1 = crs sg ns mg mk nt 0 := List.take_of_length_le (by omega)
    rw [hc1] at e0
    simp only [B81, sem_br, sem_ask, sem_nxt, h2, decide_false, Bool.false_eq_true, if_false, stepO_nxt]
    rw [res_eq]
    by_cases n1 : (1 : Int) < (ns.length : Int)
    · have f140 := F80_eq v (p := 1) (by omega)
      rw [show ((1 : Nat) : Int) = 1 from rfl] at f140
      simp only [B81, f140, sem_br, sem_ask, sem_nxt, sem_bind_some, sem_sees, PC.holds, n1, decide_true, if_true, need_true, stepO_nxt]
      rw [res_eq]
      have hi0 : 0 < (crs sg ns mg mk nt 0).length := by omega
      have hi1 : 0 < (crs sg ns mg mk nt 1).length := by rw [crs_len]; omega
      have a9 := j8 v (p := 1) (by omega) 1 0 1 ((crs sg ns mg mk nt 0).set 0 (mn ((crs sg ns mg mk nt 0).getD 0 0) ((crs sg ns mg mk nt 1).getD 0 0))) (by omega) (by rw [List.length_set]; exact crs_len)
      have a7 := j6 v 1 (ns.length - 2) 2 (mnl 0 1 ((crs sg ns mg mk nt 0).set 0 (mn ((crs sg ns mg mk nt 0).getD 0 0) ((crs sg ns mg mk nt 1).getD 0 0))) (crs sg ns mg mk nt 1)) (by omega) (by rw [mnl_len, List.length_set]; exact crs_len)
      have last : rob sg ns mg mk nt = rbs sg ns mg mk nt (ns.length - 2) 2 (mnl 0 1 ((crs sg ns mg mk nt 0).set 0 (mn ((crs sg ns mg mk nt 0).getD 0 0) ((crs sg ns mg mk nt 1).getD 0 0))) (crs sg ns mg mk nt 1)) := by
        unfold rob
        obtain ⟨m, hm⟩ : ∃ m, ns.length = m + 2 := ⟨ns.length - 2, by omega⟩
        rw [show ns.length - 1 = (ns.length - 2) + 1 by omega, rbs, hs1]; rfl
      rw [← last] at a7
      rw [← a7, ← a9]
      have am0 := AM_at hi0
      have ac0 := AM_cel hi0
      have as0 := AM_spl hi0
      have at0 := at_map hi1
      simp only [B81, e0, sem_br, sem_ask, sem_triv, sem_nxt, PC.holds, i1, decide_true, if_true, need_true, Int.toNat_zero, Nat.zero_mul, Nat.add_zero, Int.le_refl, Nat.zero_le, dI_cel_map, am0, ac0, as0, at0, refK_d, hs1, show (0 : Int) < ((1 : Nat) : Int) from by decide, Nat.le_refl, stepO_nxt, List.length_map, List.length_singleton, AM_len, hl1]
      rfl
    · have last : rob sg ns mg mk nt = crs sg ns mg mk nt 0 := by
        unfold rob
        rw [show ns.length - 1 = 0 by omega]; rfl
      have hend := AM_end (crs sg ns mg mk nt 0) 1 hl1.symm
      simp only [B81, e0, n1, decide_false, Bool.false_eq_true, if_false, sem_br, sem_ask, sem_ret, PC.holds, Nat.mul_one, hend, toDs_d, aD_d, need_true, Nat.zero_add, AM_len, hl1, Nat.le_refl, List.length_singleton, stepO_ret, last, hs1]
end
theorem F20_3 (a b c : Int) : F20 3 [vI a, vI b, vI c] = some (firstI [a, b, c]) := by
  have h := F20_loop [a, b, c] (by simp) 3 0 (by simp)
  unfold F20; rw [res_eq]; simp only [B20, sem_nxt, stepO_nxt]
  exact h
section
variable {sg : List Int} {ns : List (List Int)} {mg mk : Int} {nt : List Int} {x c b : Int}
theorem part_e (h0 : tonesE sg ns mg mk nt = 0) : partE sg ns mg mk nt x = whenI (decide (x < 0 ∨ x ≥ (ns.length : Int))) 10 := by
  unfold partE; rw [h0, first_z, firstI_1]
theorem part_n (h0 : tonesE sg ns mg mk nt ≠ 0) : partE sg ns mg mk nt x = tonesE sg ns mg mk nt := by
  unfold partE; rw [first_pos h0]
theorem pow_n (h0 : partE sg ns mg mk nt x ≠ 0) : powE sg ns mg mk nt x c b = partE sg ns mg mk nt x := by
  unfold powE; rw [first_pos h0]
theorem t5 (h : Sh sg ns nt) {p e1 one pw e2 two e3 bad : Int} {n1 n2 n3 n4 : Nat} {l1 l2 l3 l4 : List DV} (hb : bad = tonesE sg ns mg mk nt) (h1 : F83 p e1 one pw = some true) (h2 : F24 n1 l1 e2 two n3 l3 = some true) (h3 : F24 n2 l2 e3 bad n4 l4 = some true) :
    res B12 (.c5 p e1 n1 l1 e2 n2 l2 e3 bad one two pw n3 l3 n4 l4 sg.length (sg.map vI) ns.length (ns.map eS) mg mk nt.length (nt.map vI)) = some true := by
  subst hb
  rw [res_eq]
  simp only [B12, F74_eq h, F82_eq h, h1, h2, h3, sem_bind_some, sem_sees, sem_triv, sem_ret, beq_self_eq_true, if_true, stepO_ret]
theorem t6 (h : Sh sg ns nt) {p e1 one pw e2 two e3 bad : Int} {n1 n2 n3 : Nat} {l1 l2 l3 : List DV} (hb : bad = tonesE sg ns mg mk nt) (h1 : F83 p e1 one pw = some true) (h2 : F24 n1 l1 e2 two n3 l3 = some true) (h3 : F24 n2 l2 e3 bad 0 [] = some true) :
    res B12 (.c6 p e1 n1 l1 e2 n2 l2 e3 bad one two pw n3 l3 sg.length (sg.map vI) ns.length (ns.map eS) mg mk nt.length (nt.map vI)) = some true := by
  subst hb
  rw [res_eq]
  simp only [B12, F74_eq h, F82_eq h, h1, h2, h3, sem_bind_some, sem_sees, sem_triv, sem_ret, beq_self_eq_true, if_true, stepO_ret]
theorem t7 (h : Sh sg ns nt) {p e1 one pw e2 two e3 bad : Int} {n1 n2 n4 : Nat} {l1 l2 l4 : List DV} (hb : bad = tonesE sg ns mg mk nt) (h1 : F83 p e1 one pw = some true) (h2 : F24 n1 l1 e2 two 0 [] = some true) (h3 : F24 n2 l2 e3 bad n4 l4 = some true) :
    res B12 (.c7 p e1 n1 l1 e2 n2 l2 e3 bad one two pw n4 l4 sg.length (sg.map vI) ns.length (ns.map eS) mg mk nt.length (nt.map vI)) = some true := by
  subst hb
  rw [res_eq]
  simp only [B12, F74_eq h, F82_eq h, h1, h2, h3, sem_bind_some, sem_sees, sem_triv, sem_ret, beq_self_eq_true, if_true, stepO_ret]
theorem t8 (h : Sh sg ns nt) {p e1 one pw e2 two e3 bad : Int} {n1 n2 : Nat} {l1 l2 : List DV} (hb : bad = tonesE sg ns mg mk nt) (h1 : F83 p e1 one pw = some true) (h2 : F24 n1 l1 e2 two 0 [] = some true) (h3 : F24 n2 l2 e3 bad 0 [] = some true) :
    res B12 (.c8 p e1 n1 l1 e2 n2 l2 e3 bad one two pw sg.length (sg.map vI) ns.length (ns.map eS) mg mk nt.length (nt.map vI)) = some true := by
  subst hb
  rw [res_eq]
  simp only [B12, F74_eq h, F82_eq h, h1, h2, h3, sem_bind_some, sem_sees, sem_triv, sem_ret, beq_self_eq_true, if_true, stepO_ret]
theorem t2 (h : Sh sg ns nt) {p e1 one pw : Int} (h1 : F83 p e1 one pw = some true) :
    res B12 (.c2 p e1 (if partE sg ns mg mk nt x = 0 then (sg.length, (crs sg ns mg mk nt x.toNat).map vI, 0) else (0, [], partE sg ns mg mk nt x)).1 (if partE sg ns mg mk nt x = 0 then (sg.length, (crs sg ns mg mk nt x.toNat).map vI, 0) else (0, [], partE sg ns mg mk nt x)).2.1 (if partE sg ns mg mk nt x = 0 then (sg.length, (crs sg ns mg mk nt x.toNat).map vI, 0) else (0, [], partE sg ns mg mk nt x)).2.2
      (if tonesE sg ns mg mk nt = 0 then (sg.length, (rob sg ns mg mk nt).map vI, 0) else (0, [], tonesE sg ns mg mk nt)).1 (if tonesE sg ns mg mk nt = 0 then (sg.length, (rob sg ns mg mk nt).map vI, 0) else (0, [], tonesE sg ns mg mk nt)).2.1 (if tonesE sg ns mg mk nt = 0 then (sg.length, (rob sg ns mg mk nt).map vI, 0) else (0, [], tonesE sg ns mg mk nt)).2.2
      (tonesE sg ns mg mk nt) one (partE sg ns mg mk nt x) pw sg.length (sg.map vI) ns.length (ns.map eS) mg mk nt.length (nt.map vI) x c b) = some true := by
  have h9 := h.s
  by_cases hT : tonesE sg ns mg mk nt = 0
  · have v := vt_of h hT
    have fr := F24_ok (rob sg ns mg mk nt) (by rw [rob_len]; omega)
    rw [rob_len] at fr
    by_cases hP : partE sg ns mg mk nt x = 0
    · obtain ⟨_, q, rfl, hq⟩ := part_0 h hP
      have fc := F24_ok (crs sg ns mg mk nt q) (by rw [crs_len]; omega)
      rw [crs_len] at fc
      rw [res_eq]
      simp only [B12, hT, hP, if_true, Int.toNat_natCast, F80_eq v hq, sem_br, sem_bind_some, sem_sees, sem_nxt, beq_self_eq_true, stepO_nxt]
      rw [res_eq]
      simp only [B12, F81_eq v (s0_of hT), sem_br, sem_bind_some, sem_sees, sem_nxt, beq_self_eq_true, if_true, stepO_nxt]
      exact t5 h hT.symm h1 fc fr
    · have hb : (partE sg ns mg mk nt x == 0) = false := by simpa using hP
      rw [res_eq]
      simp only [B12, hT, if_neg hP, hb, if_true, Bool.false_eq_true, if_false, sem_br, sem_bind_some, sem_sees, sem_nxt, stepO_nxt]
      rw [res_eq]
      simp only [B12, F81_eq v (s0_of hT), sem_br, sem_bind_some, sem_sees, sem_nxt, beq_self_eq_true, if_true, stepO_nxt]
      exact t7 h hT.symm h1 (F24_bad hP 0 []) fr
  · have hP : partE sg ns mg mk nt x ≠ 0 := by rw [part_n hT]; exact hT
    have hb : (partE sg ns mg mk nt x == 0) = false := by simpa using hP
    have hc : (tonesE sg ns mg mk nt == 0) = false := by simpa using hT
    rw [res_eq]
    simp only [B12, if_neg hT, if_neg hP, hb, Bool.false_eq_true, if_false, sem_br, sem_bind_some, sem_sees, sem_nxt, stepO_nxt]
    rw [res_eq]
    simp only [B12, hc, Bool.false_eq_true, if_false, sem_br, sem_bind_some, sem_sees, sem_nxt, stepO_nxt]
    exact t8 h rfl h1 (F24_bad hP 0 []) (F24_bad hT 0 [])
theorem t1 (h : Sh sg ns nt) : res B12 (.c1 (if powE sg ns mg mk nt x c b = 0 then ((pwr sg ns mg x.toNat c.toNat b.toNat).1, whenI (!(pwr sg ns mg x.toNat c.toNat b.toNat).2) 7) else (0, powE sg ns mg mk nt x c b)).1 (if powE sg ns mg mk nt x c b = 0 then ((pwr sg ns mg x.toNat c.toNat b.toNat).1, whenI (!(pwr sg ns mg x.toNat c.toNat b.toNat).2) 7) else (0, powE sg ns mg mk nt x c b)).2
      (if partE sg ns mg mk nt x = 0 then (sg.length, (crs sg ns mg mk nt x.toNat).map vI, 0) else (0, [], partE sg ns mg mk nt x)).1 (if partE sg ns mg mk nt x = 0 then (sg.length, (crs sg ns mg mk nt x.toNat).map vI, 0) else (0, [], partE sg ns mg mk nt x)).2.1 (if partE sg ns mg mk nt x = 0 then (sg.length, (crs sg ns mg mk nt x.toNat).map vI, 0) else (0, [], partE sg ns mg mk nt x)).2.2
      (if tonesE sg ns mg mk nt = 0 then (sg.length, (rob sg ns mg mk nt).map vI, 0) else (0, [], tonesE sg ns mg mk nt)).1 (if tonesE sg ns mg mk nt = 0 then (sg.length, (rob sg ns mg mk nt).map vI, 0) else (0, [], tonesE sg ns mg mk nt)).2.1 (if tonesE sg ns mg mk nt = 0 then (sg.length, (rob sg ns mg mk nt).map vI, 0) else (0, [], tonesE sg ns mg mk nt)).2.2
      (tonesE sg ns mg mk nt) (powE sg ns mg mk nt x c b) (partE sg ns mg mk nt x) sg.length (sg.map vI) ns.length (ns.map eS) mg mk nt.length (nt.map vI) x c b) = some true := by
  by_cases hW : powE sg ns mg mk nt x c b = 0
  · have e1 := firstI_0 hW (partE sg ns mg mk nt x) (by simp)
    have e2 := firstI_0 hW (whenI (decide (c < 0 ∨ c ≥ (sg.length : Int))) 10) (by simp)
    have e3 := rangeI_zero.1 (firstI_0 hW (rangeI b 0 6) (by simp))
    obtain ⟨v, q, rfl, hq⟩ := part_0 h e1
    have hc : ¬ (c < 0 ∨ c ≥ (sg.length : Int)) := by
      intro hx
      rw [decide_eq_true hx, whenT] at e2; exact absurd e2 (by decide)
    have f79 := F79_eq v hq (c := c.toNat) (b := b.toNat) (by omega) (by omega)
    rw [show ((c.toNat : Nat) : Int) = c by omega, show ((b.toNat : Nat) : Int) = b by omega] at f79
    rw [res_eq]
    have hp83 : F83 (pwr sg ns mg q c.toNat b.toNat).1 (whenI (!(pwr sg ns mg q c.toNat b.toNat).2) 7) (whenI (!(pwr sg ns mg q c.toNat b.toNat).2) 7) (pwr sg ns mg q c.toNat b.toNat).1 = some true := by
      cases h2 : (pwr sg ns mg q c.toNat b.toNat).2 with
      | true => rw [Bool.not_true, whenF]; exact F83_ok _
      | false =>
        have : (pwr sg ns mg q c.toNat b.toNat).1 = 0 := by
          unfold pwr at h2 ⊢
          split at h2
          · simp at h2
          · rename_i hn0
            rw [if_neg hn0]
            split at h2
            · rename_i hs0; rw [if_pos hs0]
            · simp at h2
        rw [this, Bool.not_false, whenT]; exact F83_bad (by decide) 0
    have := t2 (mg := mg) (mk := mk) (x := (q : Int)) (c := c) (b := b) h hp83
    simp only [B12, hW, f79, if_true, Int.toNat_natCast, sem_br, sem_bind_some, sem_sees, sem_nxt, beq_self_eq_true, stepO_nxt]
    simp only [Int.toNat_natCast] at this
    exact this
  · have hb : (powE sg ns mg mk nt x c b == 0) = false := by simpa using hW
    have := t2 (mg := mg) (mk := mk) (x := x) (c := c) (b := b) h (F83_bad hW 0)
    rw [res_eq]
    simp only [B12, if_neg hW, hb, Bool.false_eq_true, if_false, sem_br, sem_bind_some, sem_sees, sem_nxt, stepO_nxt]
    exact this
end
theorem tones_true (sg : List Int) (ns : List (List Int)) (mg mk : Int) (nt : List Int) (x c b : Int) (hn : ns.length ≤ 9223372036854775807) : F12 sg.length (sg.map vI) ns.length (ns.map eS) mg mk nt.length (nt.map vI) x c b = some true := by
  obtain ⟨s, hs, hS⟩ := F72_ex (sg := sg) (mg := mg) (mk := mk) (nt := nt) hn
  unfold F12; rw [res_eq]
  cases s with
  | false =>
    simp only [B12, F15_eq, hs, sem_bind_some, sem_sees, sem_triv, sem_br, sem_ret, Bool.not_true, Bool.not_false, Bool.false_eq_true, if_true, if_false, stepO_ret]
  | true =>
    have h := hS rfl
    have last := t1 (mg := mg) (mk := mk) (x := x) (c := c) (b := b) h
    simp only [B12, F15_eq, hs, F74_eq h, F73_eq h, F75_eq h, F76_eq h, F77_eq h, sem_bind_some, sem_sees, sem_triv, sem_br, Bool.not_true, Bool.false_eq_true, if_false]
    by_cases hT : tonesE sg ns mg mk nt = 0
    · have e1 : firstI [whenI (decide (x < 0 ∨ x ≥ (ns.length : Int))) 10, whenI (decide (c < 0 ∨ c ≥ (sg.length : Int))) 10, rangeI b 0 6] = powE sg ns mg mk nt x c b := by
        unfold powE; rw [part_e hT]
      simp only [hT, F78_eq, F39_eq, F20_3, sem_bind_some, sem_sees, sem_nxt, beq_self_eq_true, if_true, stepO_nxt, e1]
      rw [← part_e hT]
      simp only [hT, if_true] at last
      exact last
    · have hb : (tonesE sg ns mg mk nt == 0) = false := by simpa using hT
      have e1 := part_n (x := x) hT
      have e2 : powE sg ns mg mk nt x c b = tonesE sg ns mg mk nt := by rw [pow_n (by rw [e1]; exact hT), e1]
      rw [e2, e1] at last ⊢
      simp only [hb, sem_nxt, Bool.false_eq_true, if_false, stepO_nxt]
      exact last
end Go.Kv
