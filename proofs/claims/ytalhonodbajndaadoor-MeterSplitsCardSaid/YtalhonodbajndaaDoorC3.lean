/- MeterSplits holds for every input: samples that are counted in two parts give the same meter as at once; with the opposite current import and export, and the quadrants, are exchanged; and the differences of the readings are the sums of the cycles. Conditions: none beyond the given row and card. -/
import Derived.Test.YtalhonodbajndaaDoorKzR
import Derived.Test.YtalhonodbajndaaDoorKzS
import Derived.Test.YtalhonodbajndaaDoorKS8
import Derived.Test.YtalhonodbajndaaDoorCards
import Derived.Test.YtalhonodbajndaaDoorTie
namespace Go.Proofs.YtalhonodbajndaaDoor
set_option linter.unusedVariables false
set_option linter.unusedSimpArgs false
open Go Go.Kv Go.RowKit Go.ChangeShapes Go.WideShapes Go.ChangeAt Go.Proofs
set_option maxRecDepth 100000
theorem sh3 {n : Nat} {xs : List DV} (h : shapeD Tryd.prog (n + 1) 3 xs) : ∃ (a0 : Int), xs = [vI a0] ∧ (inI64 a0) := by
  rw [shapeD, Tryd.underlying3] at h
  obtain ⟨i, rfl, hw⟩ := h
  refine ⟨i, rfl, ?_⟩
  simp [Lit.wf, IntKind.min, IntKind.max, IntKind.signed, IntKind.bits] at hw
  first | exact hw | (unfold inI64; omega) | omega

theorem sh23 {n : Nat} {xs : List DV} (h : shapeD Tryd.prog (n + 2) 23 xs) : ∃ (a0 : Int) (a1 : Int), xs = [vI a0, vI a1] ∧ (inI64 a0) ∧ (inI64 a1) := by
  rw [shapeD, Tryd.underlying23] at h
  simp only [shapeFs] at h
  obtain ⟨x0, r0, rfl, h0, x1, r1, rfl, h1, rfl⟩ := h
  obtain ⟨a0, rfl, w0⟩ := sh3 h0
  obtain ⟨a1, rfl, w1⟩ := sh3 h1
  exact ⟨a0, a1, rfl, w0, w1⟩

theorem sh25 {n : Nat} {xs : List DV} (h : shapeD Tryd.prog (n + 3) 25 xs) : ∃ (a0 : Int) (a1 : Int) (a2 : Int) (a3 : Int) (a4 : Int) (a5 : Int) (a6 : Int) (a7 : Int) (a8 : Int) (a9 : Int) (a10 : Int) (a11 : Int), xs = [vI a0, vI a1, vI a2, vI a3, vI a4, vI a5, vI a6, vI a7, vI a8, vI a9, vI a10, vI a11] ∧ (inI64 a0) ∧ (inI64 a1) ∧ (inI64 a2) ∧ (inI64 a3) ∧ (inI64 a4) ∧ (inI64 a5) ∧ (inI64 a6) ∧ (inI64 a7) ∧ (inI64 a8) ∧ (inI64 a9) ∧ (inI64 a10) ∧ (inI64 a11) := by
  rw [shapeD, Tryd.underlying25] at h
  simp only [shapeN] at h
  obtain ⟨x0, r0, rfl, h0, x1, r1, rfl, h1, x2, r2, rfl, h2, x3, r3, rfl, h3, x4, r4, rfl, h4, x5, r5, rfl, h5, rfl⟩ := h
  obtain ⟨a0, a1, rfl, w0, w1⟩ := sh23 h0
  obtain ⟨a2, a3, rfl, w2, w3⟩ := sh23 h1
  obtain ⟨a4, a5, rfl, w4, w5⟩ := sh23 h2
  obtain ⟨a6, a7, rfl, w6, w7⟩ := sh23 h3
  obtain ⟨a8, a9, rfl, w8, w9⟩ := sh23 h4
  obtain ⟨a10, a11, rfl, w10, w11⟩ := sh23 h5
  exact ⟨a0, a1, a2, a3, a4, a5, a6, a7, a8, a9, a10, a11, rfl, w0, w1, w2, w3, w4, w5, w6, w7, w8, w9, w10, w11⟩

theorem sh31 {n : Nat} {xs : List DV} (h : shapeD Tryd.prog (n + 1) 31 xs) : ∃ (a0 : Int), xs = [.v (.int .i8 a0)] ∧ (-128 ≤ a0 ∧ a0 ≤ 127) := by
  rw [shapeD, Tryd.underlying31] at h
  obtain ⟨i, rfl, hw⟩ := h
  refine ⟨i, rfl, ?_⟩
  simp [Lit.wf, IntKind.min, IntKind.max, IntKind.signed, IntKind.bits] at hw
  first | exact hw | (unfold inI64; omega) | omega

theorem sh32 {n : Nat} {xs : List DV} (h : shapeD Tryd.prog (n + 2) 32 xs) : ∃ (a0 : Int) (a1 : Int) (a2 : Int) (a3 : Int), xs = [.v (.int .i8 a0), .v (.int .i8 a1), .v (.int .i8 a2), .v (.int .i8 a3)] ∧ (-128 ≤ a0 ∧ a0 ≤ 127) ∧ (-128 ≤ a1 ∧ a1 ≤ 127) ∧ (-128 ≤ a2 ∧ a2 ≤ 127) ∧ (-128 ≤ a3 ∧ a3 ≤ 127) := by
  rw [shapeD, Tryd.underlying32] at h
  simp only [shapeN] at h
  obtain ⟨x0, r0, rfl, h0, x1, r1, rfl, h1, x2, r2, rfl, h2, x3, r3, rfl, h3, rfl⟩ := h
  obtain ⟨a0, rfl, w0⟩ := sh31 h0
  obtain ⟨a1, rfl, w1⟩ := sh31 h1
  obtain ⟨a2, rfl, w2⟩ := sh31 h2
  obtain ⟨a3, rfl, w3⟩ := sh31 h3
  exact ⟨a0, a1, a2, a3, rfl, w0, w1, w2, w3⟩

theorem sh33 {n : Nat} {xs : List DV} (h : shapeD Tryd.prog (n + 3) 33 xs) : ∃ (a0 : Int) (a1 : Int) (a2 : Int) (a3 : Int) (a4 : Int) (a5 : Int) (a6 : Int) (a7 : Int), xs = [.v (.int .i8 a0), .v (.int .i8 a1), .v (.int .i8 a2), .v (.int .i8 a3), .v (.int .i8 a4), .v (.int .i8 a5), .v (.int .i8 a6), .v (.int .i8 a7)] ∧ (-128 ≤ a0 ∧ a0 ≤ 127) ∧ (-128 ≤ a1 ∧ a1 ≤ 127) ∧ (-128 ≤ a2 ∧ a2 ≤ 127) ∧ (-128 ≤ a3 ∧ a3 ≤ 127) ∧ (-128 ≤ a4 ∧ a4 ≤ 127) ∧ (-128 ≤ a5 ∧ a5 ≤ 127) ∧ (-128 ≤ a6 ∧ a6 ≤ 127) ∧ (-128 ≤ a7 ∧ a7 ≤ 127) := by
  rw [shapeD, Tryd.underlying33] at h
  simp only [shapeN] at h
  obtain ⟨x0, r0, rfl, h0, x1, r1, rfl, h1, rfl⟩ := h
  obtain ⟨a0, a1, a2, a3, rfl, w0, w1, w2, w3⟩ := sh32 h0
  obtain ⟨a4, a5, a6, a7, rfl, w4, w5, w6, w7⟩ := sh32 h1
  exact ⟨a0, a1, a2, a3, a4, a5, a6, a7, rfl, w0, w1, w2, w3, w4, w5, w6, w7⟩

def enc33 (x : Int × Int × Int × Int × Int × Int × Int × Int) : List DV := [.v (.int .i8 x.1), .v (.int .i8 x.2.1), .v (.int .i8 x.2.2.1), .v (.int .i8 x.2.2.2.1), .v (.int .i8 x.2.2.2.2.1), .v (.int .i8 x.2.2.2.2.2.1), .v (.int .i8 x.2.2.2.2.2.2.1), .v (.int .i8 x.2.2.2.2.2.2.2)]

def ok33 (x : Int × Int × Int × Int × Int × Int × Int × Int) : Prop := (-128 ≤ x.1 ∧ x.1 ≤ 127) ∧ (-128 ≤ x.2.1 ∧ x.2.1 ≤ 127) ∧ (-128 ≤ x.2.2.1 ∧ x.2.2.1 ≤ 127) ∧ (-128 ≤ x.2.2.2.1 ∧ x.2.2.2.1 ≤ 127) ∧ (-128 ≤ x.2.2.2.2.1 ∧ x.2.2.2.2.1 ≤ 127) ∧ (-128 ≤ x.2.2.2.2.2.1 ∧ x.2.2.2.2.2.1 ≤ 127) ∧ (-128 ≤ x.2.2.2.2.2.2.1 ∧ x.2.2.2.2.2.2.1 ≤ 127) ∧ (-128 ≤ x.2.2.2.2.2.2.2 ∧ x.2.2.2.2.2.2.2 ≤ 127)

theorem sh26 {n : Nat} {xs : List DV} (h : shapeD Tryd.prog (n + 4) 26 xs) : ∃ (a0 : List (Int × Int × Int × Int × Int × Int × Int × Int)), xs = [.sl a0.length (a0.flatMap enc33)] ∧ ((a0.length ≤ maxLen ∧ ∀ e ∈ a0, ok33 e)) := by
  rw [shapeD, Tryd.underlying26] at h
  obtain ⟨ys, rfl, hm, hy⟩ := h
  obtain ⟨l, rfl, hl⟩ := list_of (enc := enc33) (R := ok33) (fun y hyy => by
    obtain ⟨a0, a1, a2, a3, a4, a5, a6, a7, rfl, w0, w1, w2, w3, w4, w5, w6, w7⟩ := sh33 (hy y hyy)
    exact ⟨(a0, a1, a2, a3, a4, a5, a6, a7), rfl, w0, w1, w2, w3, w4, w5, w6, w7⟩)
  rw [List.length_map] at hm
  exact ⟨l, by rw [List.length_map, List.flatMap_def], hm, hl⟩

theorem sh5 {n : Nat} {xs : List DV} (h : shapeD Tryd.prog (n + 1) 5 xs) : ∃ (a0 : Int), xs = [.v (.int .u8 a0)] ∧ (0 ≤ a0 ∧ a0 ≤ 255) := by
  rw [shapeD, Tryd.underlying5] at h
  obtain ⟨i, rfl, hw⟩ := h
  refine ⟨i, rfl, ?_⟩
  simp [Lit.wf, IntKind.min, IntKind.max, IntKind.signed, IntKind.bits] at hw
  first | exact hw | (unfold inI64; omega) | omega

theorem meterSplits_plain : plainT Tryd.prog 3 25 = true ∧ plainT Tryd.prog 4 26 = true ∧ plainT Tryd.prog 1 5 = true := ⟨by kernel_rfl, by kernel_rfl, by kernel_rfl⟩

theorem meterSplits_lifted (os : Os) (started : os.Started) (H : Type) (enc : TypeId × Value → H) :
    ReturnsInHanded {} Tryd.checked os 3 .any (fun w args => (Rows.meterSplitsSpec.pre enc Tryd.prog Tryd.f3 [] false w args ∧ laidMetH Tryd.prog laidL w) ∧ sizedMet enc Tryd.prog Tryd.f3 (OpenSpec.ofChange Rows.meterSplitsSpec) false w args)
      (Rows.meterSplitsSpec.post enc Tryd.prog Tryd.f3 false true false false) := by
  refine returnsInHanded_of_change_and (C := Tryd.checked) (X := fun w _ => laidMetH Tryd.prog laidL w) (fun _ _ _ hh h => h.of_heap hh) own started (by kernel_rfl) Tryd.func3
    (ChangeSpec.witness_shaped (enc := enc) (C := Tryd.checked) (os := os) (X := fun w _ => laidMetH Tryd.prog laidL w) false (World.doorLaid Tryd.prog 4000 os)
      #[.agg #[.int .i64 0, .int .i64 0, .int .i64 0, .int .i64 0, .int .i64 0, .int .i64 0, .int .i64 0, .int .i64 0, .int .i64 0, .int .i64 0, .int .i64 0, .int .i64 0], .slice none 0 0, .int .u8 0] 8 rfl (World.shaped_of_RefB (by kernel_rfl) (by kernel_rfl)) (by kernel_rfl) (by kernel_rfl) (by kernel_rfl) (door_met os _)) ?_
  intro W base args ds gs before hval0 hW _ _ hL _
  have hW' := hW
  obtain ⟨p, q, hA, hV, rfl, hfz, hnd⟩ := hW
  have hval : ∀ (j : Nat) t v, Tryd.f3.params[j]? = some t → args[j]? = some v → Value.okWide Tryd.prog W .any base t v := hval0
  have hA : DataW.TrodAll enc Tryd.prog W 0 (fun _ => true) true Tryd.f3.params.toList args.toList ds p := hA
  rw [Tryd.params3] at hA hval
  obtain ⟨v0, v1, v2, d0, d1, d2, p0, p1, p2, rfl, rfl, rfl, h0, h1, h2⟩ := trodAll_three hA
  obtain ⟨rfl, rfl⟩ := trodVars_none hV
  obtain ⟨xs0, s0, r0⟩ := arg_rel (c := ctx0 (phiOf W)) (fun {_} => rfl) (bounds_phi W) meterSplits_plain.1 (hval 0 25 v0 rfl rfl) h0
  obtain ⟨b0, b1, b2, b3, b4, b5, b6, b7, b8, b9, b10, b11, rfl, w0, w1, w2, w3, w4, w5, w6, w7, w8, w9, w10, w11⟩ := sh25 (n := 0) s0
  have r0 : Rel (ctx0 (phiOf W)) W (.agg [.d (vI b0), .d (vI b1), .d (vI b2), .d (vI b3), .d (vI b4), .d (vI b5), .d (vI b6), .d (vI b7), .d (vI b8), .d (vI b9), .d (vI b10), .d (vI b11)]) v0 := by
    have e : argA Tryd.prog 25 [vI b0, vI b1, vI b2, vI b3, vI b4, vI b5, vI b6, vI b7, vI b8, vI b9, vI b10, vI b11] = (.agg [.d (vI b0), .d (vI b1), .d (vI b2), .d (vI b3), .d (vI b4), .d (vI b5), .d (vI b6), .d (vI b7), .d (vI b8), .d (vI b9), .d (vI b10), .d (vI b11)] : AV) := by unfold argA; rw [Tryd.underlying25]; rfl
    rw [← e]; exact r0
  obtain ⟨xs1, s1, r1⟩ := arg_rel (c := ctx0 (phiOf W)) (fun {_} => rfl) (bounds_phi W) meterSplits_plain.2.1 (hval 1 26 v1 rfl rfl) h1
  obtain ⟨b12, rfl, w12⟩ := sh26 (n := 0) s1
  have r1 : Rel (ctx0 (phiOf W)) W (.d (.sl b12.length (b12.flatMap enc33))) v1 := by
    have e : argA Tryd.prog 26 [.sl b12.length (b12.flatMap enc33)] = (.d (.sl b12.length (b12.flatMap enc33)) : AV) := by unfold argA; rw [Tryd.underlying26]; rfl
    rw [← e]; exact r1
  obtain ⟨xs2, s2, r2⟩ := arg_rel (c := ctx0 (phiOf W)) (fun {_} => rfl) (bounds_phi W) meterSplits_plain.2.2 (hval 2 5 v2 rfl rfl) h2
  obtain ⟨b13, rfl, w13⟩ := sh5 (n := 0) s2
  have r2 : Rel (ctx0 (phiOf W)) W (.d (.v (.int .u8 b13))) v2 := by
    have e : argA Tryd.prog 5 [.v (.int .u8 b13)] = (.d (.v (.int .u8 b13)) : AV) := by unfold argA; rw [Tryd.underlying5]; rfl
    rw [← e]; exact r2
  have hc : PureCalls Tryd.prog cfz.glob 3 [.agg [.d (vI b0), .d (vI b1), .d (vI b2), .d (vI b3), .d (vI b4), .d (vI b5), .d (vI b6), .d (vI b7), .d (vI b8), .d (vI b9), .d (vI b10), .d (vI b11)], .d (.sl b12.length (b12.flatMap enc33)), .d (.v (.int .u8 b13))] (aB true) := f3 b0 b1 b2 b3 b4 b5 b6 b7 b8 b9 b10 b11 b12.length (b12.flatMap enc33) b13 true (splits_true b0 b1 b2 b3 b4 b5 b6 b7 b8 b9 b10 b11 b12 w12 b13 w13)
  refine (pure_true hc (glob_ok hL) (Rels.cons r0 (Rels.cons r1 (Rels.cons r2 Rels.nil)))).mono ?_
  rintro e W2 ⟨rfl, hb⟩
  exact ⟨_, rfl, law_post (tb := 4) laidOut rfl (by kernel_rfl) Tryd.underlying4 (by
    rw [Tryd.params3]
    intro t ht
    simp at ht
    rcases ht with rfl | rfl | rfl
    · exact ⟨by kernel_rfl, of_decide_eq_true (by kernel_rfl)⟩
    · exact ⟨by kernel_rfl, of_decide_eq_true (by kernel_rfl)⟩
    · exact ⟨by kernel_rfl, of_decide_eq_true (by kernel_rfl)⟩) hW' rfl hb⟩

theorem meterSplits_said : Rows.MeterSplitsSaid :=
  OpenClaim.holds_of_wide 3 Tryd.f3 rfl rfl rfl rfl rfl rfl rfl ⟨rfl, rfl, rfl, rfl, rfl⟩ rfl rfl rfl rfl rfl (by kernel_rfl) Tryd.func3 (by kernel_rfl)
    (of_decide_eq_true (by kernel_rfl)) (by unfold Func.isWrapper; first | (rw [if_pos (by decide +kernel)]; kernel_rfl) | (rw [if_neg (by decide +kernel)]; exact ⟨rfl, rfl⟩))
    (fun os started H enc _ => meterSplits_lifted os started H enc)

theorem meterSplits_card : Rows.MeterSplitsCardSaid :=
  Claim7.holds_tied_plain_at .later [] [.data, .data, .data, .data] true (true, "ef8d55a9dd387cb5d90c0846bc97e25769b0db5184b456f779eaea31bbd13e4f") false
    meterSplits_said (fun _ h => by cases h) (by kernel_rfl) (fun _ h => by cases h) meterSplits_row_tie rfl ⟨rfl, rfl⟩ (by kernel_rfl) rfl
    (fun f fn hf hfn => by
      obtain rfl : f = 3 := Option.some.inj ((show Tryd.prog.funcNamed "kilovar/kilovarlaw06.MeterSplits" = some 3 by kernel_rfl).symm.trans hf) |>.symm
      obtain rfl : fn = Tryd.f3 := (Option.some.inj (Tryd.func3.symm.trans hfn)).symm
      exact ⟨by kernel_rfl, fun j t ht => by
        rw [Tryd.params3] at ht
        rcases j with _ | _ | _ | j
        · have h3 : t = 25 := by simpa using ht.symm
          subst h3
          exact (show Tryd.prog.wantsStandIn 25 = false by kernel_rfl)
        · have h3 : t = 26 := by simpa using ht.symm
          subst h3
          exact (show Tryd.prog.wantsStandIn 26 = false by kernel_rfl)
        · have h3 : t = 5 := by simpa using ht.symm
          subst h3
          exact (show Tryd.prog.wantsStandIn 5 = false by kernel_rfl)
        · simp at ht⟩)
    (by kernel_rfl)
end Go.Proofs.YtalhonodbajndaaDoor
