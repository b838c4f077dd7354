/- MeterClocks holds for every input: CheckClock, Time, Set and Slewed return the results or the errors of the reference. Conditions: none beyond the given row and card. -/
import Derived.Test.YtalhonodbajndaaGreatDoorKzR
import Derived.Test.YtalhonodbajndaaGreatDoorKzS
import Derived.Test.YtalhonodbajndaaGreatDoorKzP
import Derived.Test.YtalhonodbajndaaGreatDoorCards
import Derived.Test.YtalhonodbajndaaGreatDoorTie
namespace Go.Proofs.YtalhonodbajndaaGreatDoor
set_option linter.unusedVariables false
set_option linter.unusedSimpArgs false
open Go Go.Kv Go.RowKit Go.ChangeShapes Go.WideShapes Go.ChangeAt Go.Proofs
set_option maxRecDepth 100000
theorem sh3 {n : Nat} {xs : List DV} (h : shapeD Tryz.prog (n + 1) 3 xs) : ∃ (a0 : Int), xs = [vI a0] ∧ (inI64 a0) := by
  rw [shapeD, Tryz.underlying3] at h
  obtain ⟨i, rfl, hw⟩ := h
  refine ⟨i, rfl, ?_⟩
  simp [Lit.wf, IntKind.min, IntKind.max, IntKind.signed, IntKind.bits] at hw
  first | exact hw | (unfold inI64; omega) | omega

theorem sh82 {n : Nat} {xs : List DV} (h : shapeD Tryz.prog (n + 2) 82 xs) : ∃ (a0 : Int) (a1 : Int) (a2 : Int) (a3 : Int), xs = [vI a0, vI a1, vI a2, vI a3] ∧ (inI64 a0) ∧ (inI64 a1) ∧ (inI64 a2) ∧ (inI64 a3) := by
  rw [shapeD, Tryz.underlying82] at h
  simp only [shapeFs] at h
  obtain ⟨x0, r0, rfl, h0, x1, r1, rfl, h1, x2, r2, rfl, h2, x3, r3, rfl, h3, rfl⟩ := h
  obtain ⟨a0, rfl, w0⟩ := sh3 h0
  obtain ⟨a1, rfl, w1⟩ := sh3 h1
  obtain ⟨a2, rfl, w2⟩ := sh3 h2
  obtain ⟨a3, rfl, w3⟩ := sh3 h3
  exact ⟨a0, a1, a2, a3, rfl, w0, w1, w2, w3⟩

theorem sh92 {n : Nat} {xs : List DV} (h : shapeD Tryz.prog (n + 2) 92 xs) : ∃ (a0 : Int) (a1 : Int) (a2 : Int) (a3 : Int), xs = [vI a0, vI a1, vI a2, vI a3] ∧ (inI64 a0) ∧ (inI64 a1) ∧ (inI64 a2) ∧ (inI64 a3) := by
  rw [shapeD, Tryz.underlying92] at h
  simp only [shapeFs] at h
  obtain ⟨x0, r0, rfl, h0, x1, r1, rfl, h1, x2, r2, rfl, h2, x3, r3, rfl, h3, rfl⟩ := h
  obtain ⟨a0, rfl, w0⟩ := sh3 h0
  obtain ⟨a1, rfl, w1⟩ := sh3 h1
  obtain ⟨a2, rfl, w2⟩ := sh3 h2
  obtain ⟨a3, rfl, w3⟩ := sh3 h3
  exact ⟨a0, a1, a2, a3, rfl, w0, w1, w2, w3⟩

theorem meterClocks_plain : plainT Tryz.prog 2 82 = true ∧ plainT Tryz.prog 2 92 = true := ⟨by kernel_rfl, by kernel_rfl⟩

theorem meterClocks_lifted (os : Os) (started : os.Started) (H : Type) (enc : TypeId × Value → H) :
    ReturnsInHanded {} Tryz.checked os 7 .any (fun w args => (Rows.meterClocksSpec.pre enc Tryz.prog Tryz.f7 [] false w args ∧ laidMetH Tryz.prog laidL w) ∧ sizedMet enc Tryz.prog Tryz.f7 (OpenSpec.ofChange Rows.meterClocksSpec) false w args)
      (Rows.meterClocksSpec.post enc Tryz.prog Tryz.f7 false true false false) := by
  refine returnsInHanded_of_change_and (C := Tryz.checked) (X := fun w _ => laidMetH Tryz.prog laidL w) (fun _ _ _ hh h => h.of_heap hh) own started (by kernel_rfl) Tryz.func7
    (ChangeSpec.witness_shaped (enc := enc) (C := Tryz.checked) (os := os) (X := fun w _ => laidMetH Tryz.prog laidL w) false (World.doorLaid Tryz.prog 4000 os)
      #[.agg #[.int .i64 0, .int .i64 0, .int .i64 0, .int .i64 2], .agg #[.int .i64 0, .int .i64 0, .int .i64 0, .int .i64 2]] 8 rfl (World.shaped_of_RefB (by kernel_rfl) (by kernel_rfl)) (by kernel_rfl) (by kernel_rfl) (by kernel_rfl) (door_met os _)) ?_
  intro W base args ds gs before hval0 hW _ _ hL _
  have hW' := hW
  obtain ⟨p, q, hA, hV, rfl, hfz, hnd⟩ := hW
  have hval : ∀ (j : Nat) t v, Tryz.f7.params[j]? = some t → args[j]? = some v → Value.okWide Tryz.prog W .any base t v := hval0
  have hA : DataW.TrodAll enc Tryz.prog W 0 (fun _ => true) true Tryz.f7.params.toList args.toList ds p := hA
  rw [Tryz.params7] at hA hval
  obtain ⟨v0, v1, d0, d1, p0, p1, rfl, rfl, rfl, h0, h1⟩ := trodAll_two hA
  obtain ⟨rfl, rfl⟩ := trodVars_none hV
  obtain ⟨xs0, s0, r0⟩ := arg_rel (c := ctx0 (phiOf W)) (fun {_} => rfl) (bounds_phi W) meterClocks_plain.1 (hval 0 82 v0 rfl rfl) h0
  obtain ⟨b0, b1, b2, b3, rfl, w0, w1, w2, w3⟩ := sh82 (n := 0) s0
  have r0 : Rel (ctx0 (phiOf W)) W (.agg [.d (vI b0), .d (vI b1), .d (vI b2), .d (vI b3)]) v0 := by
    have e : argA Tryz.prog 82 [vI b0, vI b1, vI b2, vI b3] = (.agg [.d (vI b0), .d (vI b1), .d (vI b2), .d (vI b3)] : AV) := by unfold argA; rw [Tryz.underlying82]; rfl
    rw [← e]; exact r0
  obtain ⟨xs1, s1, r1⟩ := arg_rel (c := ctx0 (phiOf W)) (fun {_} => rfl) (bounds_phi W) meterClocks_plain.2 (hval 1 92 v1 rfl rfl) h1
  obtain ⟨b4, b5, b6, b7, rfl, w4, w5, w6, w7⟩ := sh92 (n := 0) s1
  have r1 : Rel (ctx0 (phiOf W)) W (.agg [.d (vI b4), .d (vI b5), .d (vI b6), .d (vI b7)]) v1 := by
    have e : argA Tryz.prog 92 [vI b4, vI b5, vI b6, vI b7] = (.agg [.d (vI b4), .d (vI b5), .d (vI b6), .d (vI b7)] : AV) := by unfold argA; rw [Tryz.underlying92]; rfl
    rw [← e]; exact r1
  have hc : PureCalls Tryz.prog cfz.glob 7 [.agg [.d (vI b0), .d (vI b1), .d (vI b2), .d (vI b3)], .agg [.d (vI b4), .d (vI b5), .d (vI b6), .d (vI b7)]] (aB true) := f7 b0 b1 b2 b3 b4 b5 b6 b7 true (clocks_true b0 b1 b2 b3 b4 b5 b6 b7)
  refine (pure_true hc (glob_ok hL) (Rels.cons r0 (Rels.cons r1 Rels.nil))).mono ?_
  rintro e W2 ⟨rfl, hb⟩
  exact ⟨_, rfl, law_post (tb := 4) laidOut rfl (by kernel_rfl) Tryz.underlying4 (by
    rw [Tryz.params7]
    intro t ht
    simp at ht
    rcases ht with rfl | rfl
    · exact ⟨by kernel_rfl, of_decide_eq_true (by kernel_rfl)⟩
    · exact ⟨by kernel_rfl, of_decide_eq_true (by kernel_rfl)⟩) hW' rfl hb⟩

theorem meterClocks_said : Rows.MeterClocksSaid :=
  OpenClaim.holds_of_wide 7 Tryz.f7 rfl rfl rfl rfl rfl rfl rfl ⟨rfl, rfl, rfl, rfl, rfl⟩ rfl rfl rfl rfl rfl (by kernel_rfl) Tryz.func7 (by kernel_rfl)
    (of_decide_eq_true (by kernel_rfl)) (by unfold Func.isWrapper; first | (rw [if_pos (by decide +kernel)]; kernel_rfl) | (rw [if_neg (by decide +kernel)]; exact ⟨rfl, rfl⟩))
    (fun os started H enc _ => meterClocks_lifted os started H enc)

theorem meterClocks_card : Rows.MeterClocksCardSaid :=
  Claim7.holds_tied_plain_at .later [] [.data, .data, .data, .data] true (true, "f813b1902343e8bee4e51c5c05b8dce04c2e7ef6ebd5fbbed8264f4095b2aabf") false
    meterClocks_said (fun _ h => by cases h) (by kernel_rfl) (fun _ h => by cases h) meterClocks_row_tie rfl ⟨rfl, rfl⟩ (by kernel_rfl) rfl
    (fun f fn hf hfn => by
      obtain rfl : f = 7 := Option.some.inj ((show Tryz.prog.funcNamed "kilovar/kilovarlaw06.MeterClocks" = some 7 by kernel_rfl).symm.trans hf) |>.symm
      obtain rfl : fn = Tryz.f7 := (Option.some.inj (Tryz.func7.symm.trans hfn)).symm
      exact ⟨by kernel_rfl, fun j t ht => by
        rw [Tryz.params7] at ht
        rcases j with _ | _ | j
        · have h3 : t = 82 := by simpa using ht.symm
          subst h3
          exact (show Tryz.prog.wantsStandIn 82 = false by kernel_rfl)
        · have h3 : t = 92 := by simpa using ht.symm
          subst h3
          exact (show Tryz.prog.wantsStandIn 92 = false by kernel_rfl)
        · simp at ht⟩)
    (by kernel_rfl)
end Go.Proofs.YtalhonodbajndaaGreatDoor
