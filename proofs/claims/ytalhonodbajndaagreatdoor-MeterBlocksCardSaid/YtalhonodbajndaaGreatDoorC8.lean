/- MeterBlocks holds for every input: Blocked and Unblocked return the results or the errors of the reference. Conditions: none beyond the given row and card. -/
import Derived.Test.YtalhonodbajndaaGreatDoorKzR
import Derived.Test.YtalhonodbajndaaGreatDoorKzS
import Derived.Test.YtalhonodbajndaaGreatDoorK8
import Derived.Test.YtalhonodbajndaaGreatDoorCards
import Derived.Test.YtalhonodbajndaaGreatDoorTie
namespace Go.Proofs.YtalhonodbajndaaGreatDoor
set_option linter.unusedVariables false
set_option linter.unusedSimpArgs false
open Go Go.Kv Go.RowKit Go.ChangeShapes Go.WideShapes Go.ChangeAt Go.Proofs
set_option maxRecDepth 100000
theorem sh3 {n : Nat} {xs : List DV} (h : shapeD Tryz.prog (n + 1) 3 xs) : ∃ (a0 : Int), xs = [vI a0] ∧ (inI64 a0) := by
  rw [shapeD, Tryz.underlying3] at h
  obtain ⟨i, rfl, hw⟩ := h
  refine ⟨i, rfl, ?_⟩
  simp [Lit.wf, IntKind.min, IntKind.max, IntKind.signed, IntKind.bits] at hw
  first | exact hw | (unfold inI64; omega) | omega

theorem sh47 {n : Nat} {xs : List DV} (h : shapeD Tryz.prog (n + 2) 47 xs) : ∃ (a0 : Int) (a1 : Int) (a2 : Int) (a3 : Int) (a4 : Int), xs = [vI a0, vI a1, vI a2, vI a3, vI a4] ∧ (inI64 a0) ∧ (inI64 a1) ∧ (inI64 a2) ∧ (inI64 a3) ∧ (inI64 a4) := by
  rw [shapeD, Tryz.underlying47] at h
  simp only [shapeFs] at h
  obtain ⟨x0, r0, rfl, h0, x1, r1, rfl, h1, x2, r2, rfl, h2, x3, r3, rfl, h3, x4, r4, rfl, h4, rfl⟩ := h
  obtain ⟨a0, rfl, w0⟩ := sh3 h0
  obtain ⟨a1, rfl, w1⟩ := sh3 h1
  obtain ⟨a2, rfl, w2⟩ := sh3 h2
  obtain ⟨a3, rfl, w3⟩ := sh3 h3
  obtain ⟨a4, rfl, w4⟩ := sh3 h4
  exact ⟨a0, a1, a2, a3, a4, rfl, w0, w1, w2, w3, w4⟩

theorem sh5 {n : Nat} {xs : List DV} (h : shapeD Tryz.prog (n + 1) 5 xs) : ∃ (a0 : Int), xs = [.v (.int .u8 a0)] ∧ (0 ≤ a0 ∧ a0 ≤ 255) := by
  rw [shapeD, Tryz.underlying5] at h
  obtain ⟨i, rfl, hw⟩ := h
  refine ⟨i, rfl, ?_⟩
  simp [Lit.wf, IntKind.min, IntKind.max, IntKind.signed, IntKind.bits] at hw
  first | exact hw | (unfold inI64; omega) | omega

theorem sh105 {n : Nat} {xs : List DV} (h : shapeD Tryz.prog (n + 2) 105 xs) : ∃ (a0 : Int) (a1 : Int) (a2 : Int) (a3 : Int) (a4 : Int) (a5 : Int) (a6 : Int) (a7 : Int) (a8 : Int) (a9 : Int) (a10 : Int) (a11 : Int) (a12 : Int) (a13 : Int) (a14 : Int) (a15 : Int), xs = [.v (.int .u8 a0), .v (.int .u8 a1), .v (.int .u8 a2), .v (.int .u8 a3), .v (.int .u8 a4), .v (.int .u8 a5), .v (.int .u8 a6), .v (.int .u8 a7), .v (.int .u8 a8), .v (.int .u8 a9), .v (.int .u8 a10), .v (.int .u8 a11), .v (.int .u8 a12), .v (.int .u8 a13), .v (.int .u8 a14), .v (.int .u8 a15)] ∧ (0 ≤ a0 ∧ a0 ≤ 255) ∧ (0 ≤ a1 ∧ a1 ≤ 255) ∧ (0 ≤ a2 ∧ a2 ≤ 255) ∧ (0 ≤ a3 ∧ a3 ≤ 255) ∧ (0 ≤ a4 ∧ a4 ≤ 255) ∧ (0 ≤ a5 ∧ a5 ≤ 255) ∧ (0 ≤ a6 ∧ a6 ≤ 255) ∧ (0 ≤ a7 ∧ a7 ≤ 255) ∧ (0 ≤ a8 ∧ a8 ≤ 255) ∧ (0 ≤ a9 ∧ a9 ≤ 255) ∧ (0 ≤ a10 ∧ a10 ≤ 255) ∧ (0 ≤ a11 ∧ a11 ≤ 255) ∧ (0 ≤ a12 ∧ a12 ≤ 255) ∧ (0 ≤ a13 ∧ a13 ≤ 255) ∧ (0 ≤ a14 ∧ a14 ≤ 255) ∧ (0 ≤ a15 ∧ a15 ≤ 255) := by
  rw [shapeD, Tryz.underlying105] at h
  simp only [shapeN] at h
  obtain ⟨x0, r0, rfl, h0, x1, r1, rfl, h1, x2, r2, rfl, h2, x3, r3, rfl, h3, x4, r4, rfl, h4, x5, r5, rfl, h5, x6, r6, rfl, h6, x7, r7, rfl, h7, x8, r8, rfl, h8, x9, r9, rfl, h9, x10, r10, rfl, h10, x11, r11, rfl, h11, x12, r12, rfl, h12, x13, r13, rfl, h13, x14, r14, rfl, h14, x15, r15, rfl, h15, rfl⟩ := h
  obtain ⟨a0, rfl, w0⟩ := sh5 h0
  obtain ⟨a1, rfl, w1⟩ := sh5 h1
  obtain ⟨a2, rfl, w2⟩ := sh5 h2
  obtain ⟨a3, rfl, w3⟩ := sh5 h3
  obtain ⟨a4, rfl, w4⟩ := sh5 h4
  obtain ⟨a5, rfl, w5⟩ := sh5 h5
  obtain ⟨a6, rfl, w6⟩ := sh5 h6
  obtain ⟨a7, rfl, w7⟩ := sh5 h7
  obtain ⟨a8, rfl, w8⟩ := sh5 h8
  obtain ⟨a9, rfl, w9⟩ := sh5 h9
  obtain ⟨a10, rfl, w10⟩ := sh5 h10
  obtain ⟨a11, rfl, w11⟩ := sh5 h11
  obtain ⟨a12, rfl, w12⟩ := sh5 h12
  obtain ⟨a13, rfl, w13⟩ := sh5 h13
  obtain ⟨a14, rfl, w14⟩ := sh5 h14
  obtain ⟨a15, rfl, w15⟩ := sh5 h15
  exact ⟨a0, a1, a2, a3, a4, a5, a6, a7, a8, a9, a10, a11, a12, a13, a14, a15, rfl, w0, w1, w2, w3, w4, w5, w6, w7, w8, w9, w10, w11, w12, w13, w14, w15⟩

theorem meterBlocks_plain : plainT Tryz.prog 2 47 = true ∧ plainT Tryz.prog 2 105 = true := ⟨by kernel_rfl, by kernel_rfl⟩

theorem meterBlocks_lifted (os : Os) (started : os.Started) (H : Type) (enc : TypeId × Value → H) :
    ReturnsInHanded {} Tryz.checked os 8 .any (fun w args => (Rows.meterBlocksSpec.pre enc Tryz.prog Tryz.f8 [] false w args ∧ laidMetH Tryz.prog laidL w) ∧ sizedMet enc Tryz.prog Tryz.f8 (OpenSpec.ofChange Rows.meterBlocksSpec) false w args)
      (Rows.meterBlocksSpec.post enc Tryz.prog Tryz.f8 false true false false) := by
  refine returnsInHanded_of_change_and (C := Tryz.checked) (X := fun w _ => laidMetH Tryz.prog laidL w) (fun _ _ _ hh h => h.of_heap hh) own started (by kernel_rfl) Tryz.func8
    (ChangeSpec.witness_shaped (enc := enc) (C := Tryz.checked) (os := os) (X := fun w _ => laidMetH Tryz.prog laidL w) false (World.doorLaid Tryz.prog 4000 os)
      #[.agg #[.int .i64 0, .int .i64 0, .int .i64 0, .int .i64 0, .int .i64 0], .agg #[.int .u8 0, .int .u8 0, .int .u8 0, .int .u8 0, .int .u8 0, .int .u8 0, .int .u8 0, .int .u8 0, .int .u8 0, .int .u8 0, .int .u8 0, .int .u8 0, .int .u8 0, .int .u8 0, .int .u8 0, .int .u8 0]] 8 rfl (World.shaped_of_RefB (by kernel_rfl) (by kernel_rfl)) (by kernel_rfl) (by kernel_rfl) (by kernel_rfl) (door_met os _)) ?_
  intro W base args ds gs before hval0 hW _ _ hL _
  have hW' := hW
  obtain ⟨p, q, hA, hV, rfl, hfz, hnd⟩ := hW
  have hval : ∀ (j : Nat) t v, Tryz.f8.params[j]? = some t → args[j]? = some v → Value.okWide Tryz.prog W .any base t v := hval0
  have hA : DataW.TrodAll enc Tryz.prog W 0 (fun _ => true) true Tryz.f8.params.toList args.toList ds p := hA
  rw [Tryz.params8] at hA hval
  obtain ⟨v0, v1, d0, d1, p0, p1, rfl, rfl, rfl, h0, h1⟩ := trodAll_two hA
  obtain ⟨rfl, rfl⟩ := trodVars_none hV
  obtain ⟨xs0, s0, r0⟩ := arg_rel (c := ctx0 (phiOf W)) (fun {_} => rfl) (bounds_phi W) meterBlocks_plain.1 (hval 0 47 v0 rfl rfl) h0
  obtain ⟨b0, b1, b2, b3, b4, rfl, w0, w1, w2, w3, w4⟩ := sh47 (n := 0) s0
  have r0 : Rel (ctx0 (phiOf W)) W (.agg [.d (vI b0), .d (vI b1), .d (vI b2), .d (vI b3), .d (vI b4)]) v0 := by
    have e : argA Tryz.prog 47 [vI b0, vI b1, vI b2, vI b3, vI b4] = (.agg [.d (vI b0), .d (vI b1), .d (vI b2), .d (vI b3), .d (vI b4)] : AV) := by unfold argA; rw [Tryz.underlying47]; rfl
    rw [← e]; exact r0
  obtain ⟨xs1, s1, r1⟩ := arg_rel (c := ctx0 (phiOf W)) (fun {_} => rfl) (bounds_phi W) meterBlocks_plain.2 (hval 1 105 v1 rfl rfl) h1
  obtain ⟨b5, b6, b7, b8, b9, b10, b11, b12, b13, b14, b15, b16, b17, b18, b19, b20, rfl, w5, w6, w7, w8, w9, w10, w11, w12, w13, w14, w15, w16, w17, w18, w19, w20⟩ := sh105 (n := 0) s1
  have r1 : Rel (ctx0 (phiOf W)) W (.agg [.d (.v (.int .u8 b5)), .d (.v (.int .u8 b6)), .d (.v (.int .u8 b7)), .d (.v (.int .u8 b8)), .d (.v (.int .u8 b9)), .d (.v (.int .u8 b10)), .d (.v (.int .u8 b11)), .d (.v (.int .u8 b12)), .d (.v (.int .u8 b13)), .d (.v (.int .u8 b14)), .d (.v (.int .u8 b15)), .d (.v (.int .u8 b16)), .d (.v (.int .u8 b17)), .d (.v (.int .u8 b18)), .d (.v (.int .u8 b19)), .d (.v (.int .u8 b20))]) v1 := by
    have e : argA Tryz.prog 105 [.v (.int .u8 b5), .v (.int .u8 b6), .v (.int .u8 b7), .v (.int .u8 b8), .v (.int .u8 b9), .v (.int .u8 b10), .v (.int .u8 b11), .v (.int .u8 b12), .v (.int .u8 b13), .v (.int .u8 b14), .v (.int .u8 b15), .v (.int .u8 b16), .v (.int .u8 b17), .v (.int .u8 b18), .v (.int .u8 b19), .v (.int .u8 b20)] = (.agg [.d (.v (.int .u8 b5)), .d (.v (.int .u8 b6)), .d (.v (.int .u8 b7)), .d (.v (.int .u8 b8)), .d (.v (.int .u8 b9)), .d (.v (.int .u8 b10)), .d (.v (.int .u8 b11)), .d (.v (.int .u8 b12)), .d (.v (.int .u8 b13)), .d (.v (.int .u8 b14)), .d (.v (.int .u8 b15)), .d (.v (.int .u8 b16)), .d (.v (.int .u8 b17)), .d (.v (.int .u8 b18)), .d (.v (.int .u8 b19)), .d (.v (.int .u8 b20))] : AV) := by unfold argA; rw [Tryz.underlying105]; rfl
    rw [← e]; exact r1
  have hc : PureCalls Tryz.prog cfz.glob 8 [.agg [.d (vI b0), .d (vI b1), .d (vI b2), .d (vI b3), .d (vI b4)], .agg [.d (.v (.int .u8 b5)), .d (.v (.int .u8 b6)), .d (.v (.int .u8 b7)), .d (.v (.int .u8 b8)), .d (.v (.int .u8 b9)), .d (.v (.int .u8 b10)), .d (.v (.int .u8 b11)), .d (.v (.int .u8 b12)), .d (.v (.int .u8 b13)), .d (.v (.int .u8 b14)), .d (.v (.int .u8 b15)), .d (.v (.int .u8 b16)), .d (.v (.int .u8 b17)), .d (.v (.int .u8 b18)), .d (.v (.int .u8 b19)), .d (.v (.int .u8 b20))]] (aB true) := f8 b0 b1 b2 b3 b4 b5 b6 b7 b8 b9 b10 b11 b12 b13 b14 b15 b16 b17 b18 b19 b20 true (blocks_true w5 w6 w7 w8 w9 w10 w11 w12 w13 w14 w15 w16 w17 w18 w19 b0 b1 b2 b3 b4)
  refine (pure_true hc (glob_ok hL) (Rels.cons r0 (Rels.cons r1 Rels.nil))).mono ?_
  rintro e W2 ⟨rfl, hb⟩
  exact ⟨_, rfl, law_post (tb := 4) laidOut rfl (by kernel_rfl) Tryz.underlying4 (by
    rw [Tryz.params8]
    intro t ht
    simp at ht
    rcases ht with rfl | rfl
    · exact ⟨by kernel_rfl, of_decide_eq_true (by kernel_rfl)⟩
    · exact ⟨by kernel_rfl, of_decide_eq_true (by kernel_rfl)⟩) hW' rfl hb⟩

theorem meterBlocks_said : Rows.MeterBlocksSaid :=
  OpenClaim.holds_of_wide 8 Tryz.f8 rfl rfl rfl rfl rfl rfl rfl ⟨rfl, rfl, rfl, rfl, rfl⟩ rfl rfl rfl rfl rfl (by kernel_rfl) Tryz.func8 (by kernel_rfl)
    (of_decide_eq_true (by kernel_rfl)) (by unfold Func.isWrapper; first | (rw [if_pos (by decide +kernel)]; kernel_rfl) | (rw [if_neg (by decide +kernel)]; exact ⟨rfl, rfl⟩))
    (fun os started H enc _ => meterBlocks_lifted os started H enc)

theorem meterBlocks_card : Rows.MeterBlocksCardSaid :=
  Claim7.holds_tied_plain_at .later [] [.data, .data, .data, .data] true (true, "f813b1902343e8bee4e51c5c05b8dce04c2e7ef6ebd5fbbed8264f4095b2aabf") false
    meterBlocks_said (fun _ h => by cases h) (by kernel_rfl) (fun _ h => by cases h) meterBlocks_row_tie rfl ⟨rfl, rfl⟩ (by kernel_rfl) rfl
    (fun f fn hf hfn => by
      obtain rfl : f = 8 := Option.some.inj ((show Tryz.prog.funcNamed "kilovar/kilovarlaw06.MeterBlocks" = some 8 by kernel_rfl).symm.trans hf) |>.symm
      obtain rfl : fn = Tryz.f8 := (Option.some.inj (Tryz.func8.symm.trans hfn)).symm
      exact ⟨by kernel_rfl, fun j t ht => by
        rw [Tryz.params8] at ht
        rcases j with _ | _ | j
        · have h3 : t = 47 := by simpa using ht.symm
          subst h3
          exact (show Tryz.prog.wantsStandIn 47 = false by kernel_rfl)
        · have h3 : t = 105 := by simpa using ht.symm
          subst h3
          exact (show Tryz.prog.wantsStandIn 105 = false by kernel_rfl)
        · simp at ht⟩)
    (by kernel_rfl)
end Go.Proofs.YtalhonodbajndaaGreatDoor
