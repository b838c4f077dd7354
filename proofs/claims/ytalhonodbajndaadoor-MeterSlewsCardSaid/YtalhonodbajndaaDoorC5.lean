/- MeterSlews holds for every input: a clock that is slewed shows the time of the old one at first, never goes back, nor jumps, and is ahead by the slew in the end; intervals begin as told; and a clock that is set goes on from there. Conditions: none beyond the given row and card. -/
import Derived.Test.YtalhonodbajndaaDoorKzR
import Derived.Test.YtalhonodbajndaaDoorKzS
import Derived.Test.YtalhonodbajndaaDoorKS5
import Derived.Test.YtalhonodbajndaaDoorCards
import Derived.Test.YtalhonodbajndaaDoorTie
namespace Go.Proofs.YtalhonodbajndaaDoor
set_option linter.unusedVariables false
set_option linter.unusedSimpArgs false
open Go Go.Kv Go.RowKit Go.ChangeShapes Go.WideShapes Go.ChangeAt Go.Proofs
set_option maxRecDepth 100000
theorem sh3 {n : Nat} {xs : List DV} (h : shapeD Tryd.prog (n + 1) 3 xs) : ∃ (a0 : Int), xs = [vI a0] ∧ (inI64 a0) := by
  rw [shapeD, Tryd.underlying3] at h
  obtain ⟨i, rfl, hw⟩ := h
  refine ⟨i, rfl, ?_⟩
  simp [Lit.wf, IntKind.min, IntKind.max, IntKind.signed, IntKind.bits] at hw
  first | exact hw | (unfold inI64; omega) | omega

theorem sh74 {n : Nat} {xs : List DV} (h : shapeD Tryd.prog (n + 2) 74 xs) : ∃ (a0 : Int) (a1 : Int) (a2 : Int) (a3 : Int), xs = [vI a0, vI a1, vI a2, vI a3] ∧ (inI64 a0) ∧ (inI64 a1) ∧ (inI64 a2) ∧ (inI64 a3) := by
  rw [shapeD, Tryd.underlying74] at h
  simp only [shapeFs] at h
  obtain ⟨x0, r0, rfl, h0, x1, r1, rfl, h1, x2, r2, rfl, h2, x3, r3, rfl, h3, rfl⟩ := h
  obtain ⟨a0, rfl, w0⟩ := sh3 h0
  obtain ⟨a1, rfl, w1⟩ := sh3 h1
  obtain ⟨a2, rfl, w2⟩ := sh3 h2
  obtain ⟨a3, rfl, w3⟩ := sh3 h3
  exact ⟨a0, a1, a2, a3, rfl, w0, w1, w2, w3⟩

theorem sh48 {n : Nat} {xs : List DV} (h : shapeD Tryd.prog (n + 1) 48 xs) : ∃ (a0 : Int), xs = [.v (.int .u16 a0)] ∧ (0 ≤ a0 ∧ a0 ≤ 65535) := by
  rw [shapeD, Tryd.underlying48] at h
  obtain ⟨i, rfl, hw⟩ := h
  refine ⟨i, rfl, ?_⟩
  simp [Lit.wf, IntKind.min, IntKind.max, IntKind.signed, IntKind.bits] at hw
  first | exact hw | (unfold inI64; omega) | omega

theorem sh53 {n : Nat} {xs : List DV} (h : shapeD Tryd.prog (n + 2) 53 xs) : ∃ (a0 : Int) (a1 : Int) (a2 : Int) (a3 : Int), xs = [.v (.int .u16 a0), .v (.int .u16 a1), .v (.int .u16 a2), .v (.int .u16 a3)] ∧ (0 ≤ a0 ∧ a0 ≤ 65535) ∧ (0 ≤ a1 ∧ a1 ≤ 65535) ∧ (0 ≤ a2 ∧ a2 ≤ 65535) ∧ (0 ≤ a3 ∧ a3 ≤ 65535) := by
  rw [shapeD, Tryd.underlying53] at h
  simp only [shapeN] at h
  obtain ⟨x0, r0, rfl, h0, x1, r1, rfl, h1, x2, r2, rfl, h2, x3, r3, rfl, h3, rfl⟩ := h
  obtain ⟨a0, rfl, w0⟩ := sh48 h0
  obtain ⟨a1, rfl, w1⟩ := sh48 h1
  obtain ⟨a2, rfl, w2⟩ := sh48 h2
  obtain ⟨a3, rfl, w3⟩ := sh48 h3
  exact ⟨a0, a1, a2, a3, rfl, w0, w1, w2, w3⟩

theorem meterSlews_plain : plainT Tryd.prog 2 74 = true ∧ plainT Tryd.prog 2 53 = true := ⟨by kernel_rfl, by kernel_rfl⟩

theorem meterSlews_lifted (os : Os) (started : os.Started) (H : Type) (enc : TypeId × Value → H) :
    ReturnsInHanded {} Tryd.checked os 5 .any (fun w args => (Rows.meterSlewsSpec.pre enc Tryd.prog Tryd.f5 [] false w args ∧ laidMetH Tryd.prog laidL w) ∧ sizedMet enc Tryd.prog Tryd.f5 (OpenSpec.ofChange Rows.meterSlewsSpec) false w args)
      (Rows.meterSlewsSpec.post enc Tryd.prog Tryd.f5 false true false false) := by
  refine returnsInHanded_of_change_and (C := Tryd.checked) (X := fun w _ => laidMetH Tryd.prog laidL w) (fun _ _ _ hh h => h.of_heap hh) own started (by kernel_rfl) Tryd.func5
    (ChangeSpec.witness_shaped (enc := enc) (C := Tryd.checked) (os := os) (X := fun w _ => laidMetH Tryd.prog laidL w) false (World.doorLaid Tryd.prog 4000 os)
      #[.agg #[.int .i64 0, .int .i64 0, .int .i64 0, .int .i64 2], .agg #[.int .u16 0, .int .u16 0, .int .u16 0, .int .u16 0]] 8 rfl (World.shaped_of_RefB (by kernel_rfl) (by kernel_rfl)) (by kernel_rfl) (by kernel_rfl) (by kernel_rfl) (door_met os _)) ?_
  intro W base args ds gs before hval0 hW _ _ hL _
  have hW' := hW
  obtain ⟨p, q, hA, hV, rfl, hfz, hnd⟩ := hW
  have hval : ∀ (j : Nat) t v, Tryd.f5.params[j]? = some t → args[j]? = some v → Value.okWide Tryd.prog W .any base t v := hval0
  have hA : DataW.TrodAll enc Tryd.prog W 0 (fun _ => true) true Tryd.f5.params.toList args.toList ds p := hA
  rw [Tryd.params5] at hA hval
  obtain ⟨v0, v1, d0, d1, p0, p1, rfl, rfl, rfl, h0, h1⟩ := trodAll_two hA
  obtain ⟨rfl, rfl⟩ := trodVars_none hV
  obtain ⟨xs0, s0, r0⟩ := arg_rel (c := ctx0 (phiOf W)) (fun {_} => rfl) (bounds_phi W) meterSlews_plain.1 (hval 0 74 v0 rfl rfl) h0
  obtain ⟨b0, b1, b2, b3, rfl, w0, w1, w2, w3⟩ := sh74 (n := 0) s0
  have r0 : Rel (ctx0 (phiOf W)) W (.agg [.d (vI b0), .d (vI b1), .d (vI b2), .d (vI b3)]) v0 := by
    have e : argA Tryd.prog 74 [vI b0, vI b1, vI b2, vI b3] = (.agg [.d (vI b0), .d (vI b1), .d (vI b2), .d (vI b3)] : AV) := by unfold argA; rw [Tryd.underlying74]; rfl
    rw [← e]; exact r0
  obtain ⟨xs1, s1, r1⟩ := arg_rel (c := ctx0 (phiOf W)) (fun {_} => rfl) (bounds_phi W) meterSlews_plain.2 (hval 1 53 v1 rfl rfl) h1
  obtain ⟨b4, b5, b6, b7, rfl, w4, w5, w6, w7⟩ := sh53 (n := 0) s1
  have r1 : Rel (ctx0 (phiOf W)) W (.agg [.d (.v (.int .u16 b4)), .d (.v (.int .u16 b5)), .d (.v (.int .u16 b6)), .d (.v (.int .u16 b7))]) v1 := by
    have e : argA Tryd.prog 53 [.v (.int .u16 b4), .v (.int .u16 b5), .v (.int .u16 b6), .v (.int .u16 b7)] = (.agg [.d (.v (.int .u16 b4)), .d (.v (.int .u16 b5)), .d (.v (.int .u16 b6)), .d (.v (.int .u16 b7))] : AV) := by unfold argA; rw [Tryd.underlying53]; rfl
    rw [← e]; exact r1
  have hc : PureCalls Tryd.prog cfz.glob 5 [.agg [.d (vI b0), .d (vI b1), .d (vI b2), .d (vI b3)], .agg [.d (.v (.int .u16 b4)), .d (.v (.int .u16 b5)), .d (.v (.int .u16 b6)), .d (.v (.int .u16 b7))]] (aB true) := f5 b0 b1 b2 b3 b4 b5 b6 b7 true (slews_true b0 b1 b2 b3 b4 b5 b6 b7 w4 w5 w6 w7)
  refine (pure_true hc (glob_ok hL) (Rels.cons r0 (Rels.cons r1 Rels.nil))).mono ?_
  rintro e W2 ⟨rfl, hb⟩
  exact ⟨_, rfl, law_post (tb := 4) laidOut rfl (by kernel_rfl) Tryd.underlying4 (by
    rw [Tryd.params5]
    intro t ht
    simp at ht
    rcases ht with rfl | rfl
    · exact ⟨by kernel_rfl, of_decide_eq_true (by kernel_rfl)⟩
    · exact ⟨by kernel_rfl, of_decide_eq_true (by kernel_rfl)⟩) hW' rfl hb⟩

theorem meterSlews_said : Rows.MeterSlewsSaid :=
  OpenClaim.holds_of_wide 5 Tryd.f5 rfl rfl rfl rfl rfl rfl rfl ⟨rfl, rfl, rfl, rfl, rfl⟩ rfl rfl rfl rfl rfl (by kernel_rfl) Tryd.func5 (by kernel_rfl)
    (of_decide_eq_true (by kernel_rfl)) (by unfold Func.isWrapper; first | (rw [if_pos (by decide +kernel)]; kernel_rfl) | (rw [if_neg (by decide +kernel)]; exact ⟨rfl, rfl⟩))
    (fun os started H enc _ => meterSlews_lifted os started H enc)

theorem meterSlews_card : Rows.MeterSlewsCardSaid :=
  Claim7.holds_tied_plain_at .later [] [.data, .data, .data, .data] true (true, "ef8d55a9dd387cb5d90c0846bc97e25769b0db5184b456f779eaea31bbd13e4f") false
    meterSlews_said (fun _ h => by cases h) (by kernel_rfl) (fun _ h => by cases h) meterSlews_row_tie rfl ⟨rfl, rfl⟩ (by kernel_rfl) rfl
    (fun f fn hf hfn => by
      obtain rfl : f = 5 := Option.some.inj ((show Tryd.prog.funcNamed "kilovar/kilovarlaw06.MeterSlews" = some 5 by kernel_rfl).symm.trans hf) |>.symm
      obtain rfl : fn = Tryd.f5 := (Option.some.inj (Tryd.func5.symm.trans hfn)).symm
      exact ⟨by kernel_rfl, fun j t ht => by
        rw [Tryd.params5] at ht
        rcases j with _ | _ | j
        · have h3 : t = 74 := by simpa using ht.symm
          subst h3
          exact (show Tryd.prog.wantsStandIn 74 = false by kernel_rfl)
        · have h3 : t = 53 := by simpa using ht.symm
          subst h3
          exact (show Tryd.prog.wantsStandIn 53 = false by kernel_rfl)
        · simp at ht⟩)
    (by kernel_rfl)
end Go.Proofs.YtalhonodbajndaaDoor
