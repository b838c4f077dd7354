/- The check of a sample, of the program and of the reference, in plain Lean. -/
import Derived.Test.YtalhonodbajndaaGreatDoorKX4
import Derived.Test.YtalhonodbajndaaGreatDoorGZ2
namespace Go.Kv
set_option linter.unusedVariables false
set_option linter.unusedSimpArgs false
open Go Go.RowKit Go.Proofs
set_option maxRecDepth 100000
theorem bits_run (y : Nat) : pureRun cfz.P (callFunc 145 #[.float .f64 y]) = some (.value (.int .u64 y)) := by kernel_rfl
theorem from_run (n : Int) : pureRun cfz.P (callFunc 144 #[.int .u64 n]) = some (.value (.float .f64 n.toNat)) := by kernel_rfl
theorem ext_bits (y : Nat) : ∀ w : World, (callFunc 145 #[.float .f64 y]).run cfz.P w = .ok (.value (.int .u64 y)) w := fun w => pureRun_run (bits_run y) w
theorem ext_from (n : Int) : ∀ w : World, (callFunc 144 #[.int .u64 n]).run cfz.P w = .ok (.value (.float .f64 n.toNat)) w := fun w => pureRun_run (from_run n) w
theorem ext_floor {z : Nat} (h : notNan z = true) : ∀ w : World, (callFunc 146 #[.float .f64 z]).run cfz.P w = .ok (.value (.float .f64 (floorV z))) w := fun w => by
  rw [floor_sem]
  unfold floorV
  unfold notNan at h
  cases hd : FloatKind.f64.decode z with
  | nan s t => rw [hd] at h; simp at h
  | _ => rfl
def firstI : List Int → Int
  | [] => 0
  | x :: xs => if x = 0 then firstI xs else x
theorem F139_eq (b : Bool) (e : Int) : F139 b e = some (if b then e else 0) := by
  unfold F139; rw [res_eq]; cases b <;> simp [B139, sem_br, sem_ret, stepO_ret]
theorem F82_eq0 (b : Bool) (e : Int) : F82 b e = some (if b then e else 0) := by
  unfold F82; rw [res_eq]; cases b <;> simp [B82, sem_br, sem_ret, stepO_ret]
theorem F135_eq (y : Nat) : F135 y = some (absV y) := by
  unfold F135; rw [res_eq]
  simp only [B135, sem_ask, sem_ret, PC.holds, need_of (ext_bits y), need_of (ext_from _), stepO_ret]
theorem F136_eq {z : Nat} (h : notNan z = true) : F136 z = some (floorV z) := by
  unfold F136; rw [res_eq]
  simp only [B136, sem_ask, sem_ret, PC.holds, need_of (ext_floor h), stepO_ret]
theorem F138_2 (a b : Int) : F138 2 [vI a, vI b] = some (if a = 0 then b else a) := by
  have h1 : (0 : Int) < ((2 : Nat) : Int) := by decide
  have h2 : (0 : Int) + 1 < ((2 : Nat) : Int) := by decide
  have h3 : ¬ ((0 : Int) + 1 + 1 < ((2 : Nat) : Int)) := by decide
  have i1 : inI64 (0 + 1) := by unfold inI64; omega
  have i2 : inI64 (0 + 1 + 1) := by unfold inI64; omega
  have b0 : (a != 0) = !decide (a = 0) := by by_cases h : a = 0 <;> simp [h]
  have b1 : (b != 0) = !decide (b = 0) := by by_cases h : b = 0 <;> simp [h]
  have c0 : dI (cel [vI a, vI b] ((0 : Int).toNat * 1)) = a := rfl
  have c1 : dI (cel [vI a, vI b] (((0 : Int) + 1).toNat * 1)) = b := rfl
  have p0 : Option.map AV.d (List.drop ((0 : Int).toNat * 1) [vI a, vI b])[0]? = some (AV.d (DV.v (Value.int IntKind.i64 a))) := rfl
  have p1 : Option.map AV.d (List.drop (((0 : Int) + 1).toNat * 1) [vI a, vI b])[0]? = some (AV.d (DV.v (Value.int IntKind.i64 b))) := rfl
  have l0 : (0 : Int).toNat * 1 ≤ [vI a, vI b].length := Nat.zero_le _
  have l1 : ((0 : Int) + 1).toNat * 1 ≤ [vI a, vI b].length := by show 1 ≤ 2; decide
  have z1 : (0 : Int) ≤ 0 + 1 := by decide
  unfold F138; rw [res_eq]
  simp only [B138, sem_nxt, stepO_nxt]
  rw [res_eq]
  simp only [B138, h1, c0, p0, l0, i1, b0, Int.le_refl, sem_br, sem_ask, sem_ret, sem_nxt, PC.holds, need_true, decide_true, if_true]
  by_cases ha : a = 0
  · simp only [ha, decide_true, Bool.not_true, Bool.false_eq_true, if_false, if_true, stepO_nxt]
    rw [res_eq]
    subst ha
    simp only [B138, h2, c1, p1, l1, i2, b1, z1, sem_br, sem_ask, sem_ret, sem_nxt, PC.holds, need_true, decide_true, if_true]
    by_cases hb : b = 0
    · simp only [hb, decide_true, Bool.not_true, Bool.false_eq_true, if_false, stepO_nxt]
      rw [res_eq]
      simp only [B138, h3, sem_br, sem_ret, decide_false, Bool.false_eq_true, if_false, stepO_ret]
    · simp only [hb, decide_false, Bool.not_false, if_true, stepO_ret]
  · simp only [ha, decide_false, Bool.not_false, if_true, if_false, stepO_ret]
/-- Beyond 1024, and no multiple of a sixteenth. -/
def outR (x : Nat) : Bool := if (FloatKind.f32.format.order x 3296722944 == some .lt) = true then true else FloatKind.f32.format.order x 1149239296 == some .gt
def offG (x : Nat) : Bool := FloatKind.f32.format.order (t32 x) (y16 x) != some .eq
/-- The error of a sample. -/
def sI (x : Nat) : Int := match FS.read x with
  | .nan _ _ => 1
  | .infinity _ => 1
  | .number _ _ _ => if outR x = true then 3 else if offG x = true then 3 else 0
theorem ng : Op.negFloat FloatKind.f32 1149239296 = 3296722944 := by decide
theorem outR_no {x : Nat} (h : outR x = false) : (FloatKind.f32.format.order x 3296722944 == some .lt) = false ∧ (FloatKind.f32.format.order x 1149239296 == some .gt) = false := by
  unfold outR at h
  split at h
  · simp at h
  · rename_i h1; exact ⟨by simpa using h1, h⟩
section
variable {x : Nat} {s : Bool} {m : Nat} {e : Int}
theorem F140_num (h : FS.read x = .number s m e) : F140 x = some false := by
  have g := fin32 h
  have e60 : F109 (ftof .f32 x .f64) = some false := by
    unfold F109; rw [res_eq]
    simp only [B109, sem_ret, stepO_ret, g.c5]
  have e61 : F110 (ftof .f32 x .f64) 0 = some false := by
    unfold F110; rw [res_eq]
    simp only [B110, F135_eq, sem_br, sem_bind_some, sem_sees, sem_ret, stepO_ret, g.c6, beq_self_eq_true, if_true]
  unfold F140; rw [res_eq]
  simp only [B140, e60, e61, g.c4, sem_br, sem_bind_some, sem_sees, sem_ask, sem_ret, PC.holds, need_true, beq_self_eq_true, Bool.false_eq_true, if_false, stepO_ret]
theorem inn (h : FS.read x = .number s m e) (ho : outR x = false) : fok .mul .f32 1098907648 x = true ∧ ftofOk .f32 (y16 x) .f64 = true ∧ notNan (z64 x) = true ∧ ftofOk .f64 (floorV (z64 x)) .f32 = true ∧ ftoiOk .f32 (y16 x) .i64 = true ∧
    (-16400 ≤ lvI x ∧ lvI x ≤ 16400) ∧ (FloatKind.f32.format.order (floatOfInt .f32 (lvI x)) (y16 x) == some .eq) = (FloatKind.f32.format.order (t32 x) (y16 x) == some .eq) := in_range (K := 1200) (Nat.le_refl _) h (in_mv h (outR_no ho).1 (outR_no ho).2)
theorem F141_num (h : FS.read x = .number s m e) : F141 x 1149239296 = some (if outR x = true then 3 else if offG x = true then 3 else 0) := by
  unfold F141; rw [res_eq]
  have hor : (if (FloatKind.f32.format.order x 3296722944 == some Ordering.lt) = true then true else FloatKind.f32.format.order x 1149239296 == some Ordering.gt) = outR x := rfl
  cases ho : outR x
  · obtain ⟨i1, i2, i3, i4, i5, i6, i7⟩ := inn h ho
    have hof : (FloatKind.f32.format.order (ftof FloatKind.f64 (floorV (ftof FloatKind.f32 (fval BinOp.mul FloatKind.f32 1098907648 x) FloatKind.f64)) FloatKind.f32) (fval BinOp.mul FloatKind.f32 1098907648 x) != some Ordering.eq) = offG x := rfl
    simp only [B141, ng, hor, ho, i1, i2, F136_eq i3, i4, hof, F139_eq, sem_br, sem_triv, sem_bind_some, sem_sees, sem_ask, sem_ret, PC.holds, need_true, beq_self_eq_true, Bool.false_eq_true, if_false, stepO_ret]
  · simp only [B141, ng, hor, ho, F139_eq, sem_br, sem_triv, sem_bind_some, sem_sees, sem_ret, if_true, stepO_ret]
end
theorem inf_any {x : Nat} (h : x = 2139095040 ∨ x = 4286578688) : ftofOk .f32 x .f64 = true ∧ (FloatKind.f64.format.order (ftof .f32 x .f64) (ftof .f32 x .f64) != some .eq) = false ∧ (FloatKind.f64.format.order (absV (ftof .f32 x .f64)) 9218868437227405311 == some .gt) = true ∧ outR x = true ∧
    (FloatKind.f32.format.order x x != some .eq) = false ∧ ((FloatKind.f32.format.order x 2139095039 == some .gt) = true ∨ (FloatKind.f32.format.order x 4286578687 == some .lt) = true) := by
  rcases h with rfl | rfl
  · exact ⟨by kernel_rfl, by kernel_rfl, by kernel_rfl, by kernel_rfl, by kernel_rfl, .inl (by kernel_rfl)⟩
  · exact ⟨by kernel_rfl, by kernel_rfl, by kernel_rfl, by kernel_rfl, by kernel_rfl, .inr (by kernel_rfl)⟩
theorem F114_eq {x : Nat} (hx : x < 4294967296) : F114 x = some (sI x) := by
  cases hd : FS.read x with
  | nan s t =>
    have hn : isNan32 x = true := by
      have hd' : FloatKind.f32.decode x = .nan s t := hd
      unfold isNan32; rw [hd']
    unfold F114 sI; rw [if_pos hn, hd]
  | infinity s =>
    have hn : ¬ (isNan32 x = true) := by
      have hd' : FloatKind.f32.decode x = .infinity s := hd
      unfold isNan32; rw [hd']; simp
    have hi := inf_word hx hd
    obtain ⟨i1, i2, i3, i4, i5, i6⟩ := inf_any hi
    have e109 : F109 (ftof .f32 x .f64) = some false := by
      unfold F109; rw [res_eq]
      simp only [B109, sem_ret, stepO_ret, i2]
    have e110 : F110 (ftof .f32 x .f64) 0 = some true := by
      unfold F110; rw [res_eq]
      simp only [B110, F135_eq, sem_br, sem_bind_some, sem_sees, sem_ret, stepO_ret, i3, beq_self_eq_true, if_true]
    have e140 : F140 x = some true := by
      unfold F140; rw [res_eq]
      simp only [B140, e109, e110, i1, sem_br, sem_bind_some, sem_sees, sem_ask, sem_ret, PC.holds, need_true, beq_self_eq_true, Bool.false_eq_true, if_false, stepO_ret]
    have hor : (if (FloatKind.f32.format.order x 3296722944 == some Ordering.lt) = true then true else FloatKind.f32.format.order x 1149239296 == some Ordering.gt) = outR x := rfl
    have e141 : F141 x 1149239296 = some 3 := by
      unfold F141; rw [res_eq]
      simp only [B141, ng, hor, i4, F139_eq, sem_br, sem_triv, sem_bind_some, sem_sees, sem_ret, if_true, stepO_ret]
    have e138 : F138 2 [vI 1, vI 3] = some 1 := F138_2 1 3
    unfold F114 sI; rw [if_neg hn, hd]
    unfold F114x; rw [res_eq]
    simp only [B114, e140, e141, F139_eq, e138, sem_bind_some, sem_sees, sem_ret, if_true, stepO_ret]
  | number s m e =>
    have hn : ¬ (isNan32 x = true) := by
      have hd' : FloatKind.f32.decode x = .number s m e := hd
      unfold isNan32; rw [hd']; simp
    have e138 (b : Int) : F138 2 [vI 0, vI b] = some b := F138_2 0 b
    unfold F114 sI; rw [if_neg hn, hd]
    unfold F114x; rw [res_eq]
    simp only [B114, F140_num hd, F141_num hd, F139_eq, e138, sem_bind_some, sem_sees, sem_ret, Bool.false_eq_true, if_false, stepO_ret]
theorem up_eq : floatOfInt FloatKind.f32 1024 = 1149239296 := by kernel_rfl
theorem dn_eq : fval BinOp.sub FloatKind.f32 0 1149239296 = 3296722944 := by kernel_rfl
theorem dn_ok : fok BinOp.sub FloatKind.f32 0 1149239296 = true := by kernel_rfl
theorem F142_eq {x : Nat} (hx : x < 4294967296) : F142 x = some (sI x) := by
  have e149 : F149 x 1024 = some (sI x) := by
    unfold F149; rw [res_eq]
    cases hd : FS.read x with
    | nan s t =>
      have ho : (FloatKind.f32.format.order x x != some .eq) = true := by
        show (! ((FS.read x).order (FS.read x) == some .eq)) = true
        rw [hd]; rfl
      unfold sI; rw [hd]
      simp only [B149, ho, sem_br, sem_triv, sem_ret, if_true, stepO_ret]
    | infinity s =>
      obtain ⟨i1, i2, i3, i4, i5, i6⟩ := inf_any (inf_word hx hd)
      have hc : (if (if (FloatKind.f32.format.order x x != some Ordering.eq) = true then true else FloatKind.f32.format.order x 2139095039 == some Ordering.gt) = true then true else FloatKind.f32.format.order x 4286578687 == some Ordering.lt) = true := by
        rw [i5]
        rcases i6 with h | h
        · rw [h]; rfl
        · rw [h]; simp
      unfold sI; rw [hd]
      simp only [B149, hc, sem_br, sem_triv, sem_ret, if_true, stepO_ret]
    | number s m e =>
      have g := fin32 hd
      unfold sI; rw [hd]
      dsimp only
      cases ho : outR x
      · obtain ⟨i1, i2, i3, i4, i5, i6, i7⟩ := inn hd ho
        obtain ⟨o1, o2⟩ := outR_no ho
        have hof : (FloatKind.f32.format.order (floatOfInt FloatKind.f32 (ftoi FloatKind.f32 (fval BinOp.mul FloatKind.f32 1098907648 x) IntKind.i64)) (fval BinOp.mul FloatKind.f32 1098907648 x) != some Ordering.eq) = offG x := congrArg (! ·) i7
        simp only [B149, g.c1, g.c2, g.c3, up_eq, dn_eq, dn_ok, o1, o2, i1, i5, hof, F82_eq0, sem_br, sem_triv, sem_bind_some, sem_sees, sem_ask, sem_ret, PC.holds, need_true, beq_self_eq_true, Bool.false_eq_true, if_false, stepO_ret]
      · unfold outR at ho
        by_cases h1 : (FloatKind.f32.format.order x 1149239296 == some Ordering.gt) = true
        · simp only [B149, g.c1, g.c2, g.c3, up_eq, h1, sem_br, sem_triv, sem_ret, Bool.false_eq_true, if_false, if_true, stepO_ret]
        · have h1' : (FloatKind.f32.format.order x 1149239296 == some Ordering.gt) = false := by simpa using h1
          have h2 : (FloatKind.f32.format.order x 3296722944 == some Ordering.lt) = true := by
            split at ho
            · assumption
            · exact absurd ho h1
          simp only [B149, g.c1, g.c2, g.c3, up_eq, dn_eq, dn_ok, h1', h2, sem_br, sem_triv, sem_ask, sem_ret, PC.holds, need_true, beq_self_eq_true, Bool.false_eq_true, if_false, if_true, stepO_ret]
  unfold F142; rw [res_eq]
  simp only [B142, e149, sem_bind_some, sem_sees, sem_ret, stepO_ret]
theorem sI_num {x : Nat} (h : sI x = 0) : ∃ s m e, FS.read x = .number s m e ∧ outR x = false := by
  unfold sI at h
  cases hd : FS.read x with
  | nan s t => rw [hd] at h; simp at h
  | infinity s => rw [hd] at h; simp at h
  | number s m e =>
    rw [hd] at h
    refine ⟨s, m, e, rfl, ?_⟩
    cases ho : outR x
    · rfl
    · rw [ho] at h; simp at h
theorem lv_bd {x : Nat} (h : sI x = 0) : -16400 ≤ lvI x ∧ lvI x ≤ 16400 := by
  obtain ⟨s, m, e, h1, h2⟩ := sI_num h
  exact (inn h1 h2).2.2.2.2.2.1
theorem F134_eq {x : Nat} (h : sI x = 0) : F134 x = some (lvI x) := by
  obtain ⟨s, m, e, h1, h2⟩ := sI_num h
  obtain ⟨i1, i2, i3, i4, i5, i6, i7⟩ := inn h1 h2
  unfold F134; rw [res_eq]
  simp only [B134, i1, i5, sem_ask, sem_ret, PC.holds, need_true, stepO_ret]
theorem F119_eq {x : Nat} (h : sI x = 0) : F119 x = some (lvI x) := by
  obtain ⟨s, m, e, h1, h2⟩ := sI_num h
  obtain ⟨i1, i2, i3, i4, i5, i6, i7⟩ := inn h1 h2
  unfold F119; rw [res_eq]
  simp only [B119, i1, i5, sem_ask, sem_ret, PC.holds, need_true, stepO_ret]
end Go.Kv
