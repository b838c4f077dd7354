/- MeterStreams holds for every input: Pack and Unpack return the results or the errors of the reference. Conditions: none beyond the given row and card. -/
import Derived.Test.YtjpmpeknnfhccaaGreatDoorKzR
import Derived.Test.YtjpmpeknnfhccaaGreatDoorKzS
import Derived.Test.YtjpmpeknnfhccaaGreatDoorKT4
import Derived.Test.YtjpmpeknnfhccaaGreatDoorCards
import Derived.Test.YtjpmpeknnfhccaaGreatDoorTie
namespace Go.Proofs.YtjpmpeknnfhccaaGreatDoor
set_option linter.unusedVariables false
set_option linter.unusedSimpArgs false
open Go Go.Kv Go.RowKit Go.ChangeShapes Go.WideShapes Go.ChangeAt Go.Proofs
set_option maxRecDepth 100000
theorem sh5 {n : Nat} {xs : List DV} (h : shapeD Tryz.prog (n + 1) 5 xs) : ∃ (a0 : Int), xs = [.v (.int .u8 a0)] ∧ (0 ≤ a0 ∧ a0 ≤ 255) := by
  rw [shapeD, Tryz.underlying5] at h
  obtain ⟨i, rfl, hw⟩ := h
  refine ⟨i, rfl, ?_⟩
  simp [Lit.wf, IntKind.min, IntKind.max, IntKind.signed, IntKind.bits] at hw
  first | exact hw | (unfold inI64; omega) | omega

theorem sh23 {n : Nat} {xs : List DV} (h : shapeD Tryz.prog (n + 2) 23 xs) : ∃ (a0 : Int) (a1 : Int) (a2 : Int) (a3 : Int) (a4 : Int) (a5 : Int) (a6 : Int) (a7 : Int), xs = [.v (.int .u8 a0), .v (.int .u8 a1), .v (.int .u8 a2), .v (.int .u8 a3), .v (.int .u8 a4), .v (.int .u8 a5), .v (.int .u8 a6), .v (.int .u8 a7)] ∧ (0 ≤ a0 ∧ a0 ≤ 255) ∧ (0 ≤ a1 ∧ a1 ≤ 255) ∧ (0 ≤ a2 ∧ a2 ≤ 255) ∧ (0 ≤ a3 ∧ a3 ≤ 255) ∧ (0 ≤ a4 ∧ a4 ≤ 255) ∧ (0 ≤ a5 ∧ a5 ≤ 255) ∧ (0 ≤ a6 ∧ a6 ≤ 255) ∧ (0 ≤ a7 ∧ a7 ≤ 255) := by
  rw [shapeD, Tryz.underlying23] at h
  simp only [shapeN] at h
  obtain ⟨x0, r0, rfl, h0, x1, r1, rfl, h1, x2, r2, rfl, h2, x3, r3, rfl, h3, x4, r4, rfl, h4, x5, r5, rfl, h5, x6, r6, rfl, h6, x7, r7, rfl, h7, rfl⟩ := h
  obtain ⟨a0, rfl, w0⟩ := sh5 h0
  obtain ⟨a1, rfl, w1⟩ := sh5 h1
  obtain ⟨a2, rfl, w2⟩ := sh5 h2
  obtain ⟨a3, rfl, w3⟩ := sh5 h3
  obtain ⟨a4, rfl, w4⟩ := sh5 h4
  obtain ⟨a5, rfl, w5⟩ := sh5 h5
  obtain ⟨a6, rfl, w6⟩ := sh5 h6
  obtain ⟨a7, rfl, w7⟩ := sh5 h7
  exact ⟨a0, a1, a2, a3, a4, a5, a6, a7, rfl, w0, w1, w2, w3, w4, w5, w6, w7⟩

theorem sh3 {n : Nat} {xs : List DV} (h : shapeD Tryz.prog (n + 1) 3 xs) : ∃ (a0 : Int), xs = [vI a0] ∧ (inI64 a0) := by
  rw [shapeD, Tryz.underlying3] at h
  obtain ⟨i, rfl, hw⟩ := h
  refine ⟨i, rfl, ?_⟩
  simp [Lit.wf, IntKind.min, IntKind.max, IntKind.signed, IntKind.bits] at hw
  first | exact hw | (unfold inI64; omega) | omega

theorem sh51 {n : Nat} {xs : List DV} (h : shapeD Tryz.prog (n + 2) 51 xs) : ∃ (a0 : Int) (a1 : Int) (a2 : Int) (a3 : Int) (a4 : Int), xs = [vI a0, vI a1, vI a2, vI a3, vI a4] ∧ (inI64 a0) ∧ (inI64 a1) ∧ (inI64 a2) ∧ (inI64 a3) ∧ (inI64 a4) := by
  rw [shapeD, Tryz.underlying51] at h
  simp only [shapeFs] at h
  obtain ⟨x0, r0, rfl, h0, x1, r1, rfl, h1, x2, r2, rfl, h2, x3, r3, rfl, h3, x4, r4, rfl, h4, rfl⟩ := h
  obtain ⟨a0, rfl, w0⟩ := sh3 h0
  obtain ⟨a1, rfl, w1⟩ := sh3 h1
  obtain ⟨a2, rfl, w2⟩ := sh3 h2
  obtain ⟨a3, rfl, w3⟩ := sh3 h3
  obtain ⟨a4, rfl, w4⟩ := sh3 h4
  exact ⟨a0, a1, a2, a3, a4, rfl, w0, w1, w2, w3, w4⟩

def enc51 (x : Int × Int × Int × Int × Int) : List DV := [vI x.1, vI x.2.1, vI x.2.2.1, vI x.2.2.2.1, vI x.2.2.2.2]

def ok51 (x : Int × Int × Int × Int × Int) : Prop := (inI64 x.1) ∧ (inI64 x.2.1) ∧ (inI64 x.2.2.1) ∧ (inI64 x.2.2.2.1) ∧ (inI64 x.2.2.2.2)

theorem sh24 {n : Nat} {xs : List DV} (h : shapeD Tryz.prog (n + 3) 24 xs) : ∃ (a0 : List (Int × Int × Int × Int × Int)), xs = [.sl a0.length (a0.flatMap enc51)] ∧ ((a0.length ≤ maxLen ∧ ∀ e ∈ a0, ok51 e)) := by
  rw [shapeD, Tryz.underlying24] at h
  obtain ⟨ys, rfl, hm, hy⟩ := h
  obtain ⟨l, rfl, hl⟩ := list_of (enc := enc51) (R := ok51) (fun y hyy => by
    obtain ⟨a0, a1, a2, a3, a4, rfl, w0, w1, w2, w3, w4⟩ := sh51 (hy y hyy)
    exact ⟨(a0, a1, a2, a3, a4), rfl, w0, w1, w2, w3, w4⟩)
  rw [List.length_map] at hm
  exact ⟨l, by rw [List.length_map, List.flatMap_def], hm, hl⟩

theorem sh26 {n : Nat} {xs : List DV} (h : shapeD Tryz.prog (n + 4) 26 xs) : ∃ (a0 : Int) (a1 : List (Int × Int × Int × Int × Int)), xs = [vI a0, .sl a1.length (a1.flatMap enc51)] ∧ (inI64 a0) ∧ ((a1.length ≤ maxLen ∧ ∀ e ∈ a1, ok51 e)) := by
  rw [shapeD, Tryz.underlying26] at h
  simp only [shapeFs] at h
  obtain ⟨x0, r0, rfl, h0, x1, r1, rfl, h1, rfl⟩ := h
  obtain ⟨a0, rfl, w0⟩ := sh3 h0
  obtain ⟨a1, rfl, w1⟩ := sh24 h1
  exact ⟨a0, a1, rfl, w0, w1⟩

def enc5c (x : Int) : DV := .v (.int .u8 x)

def ok5 (x : Int) : Prop := 0 ≤ x ∧ x ≤ 255

theorem sh27 {n : Nat} {xs : List DV} (h : shapeD Tryz.prog (n + 2) 27 xs) : ∃ (a0 : List (Int)), xs = [.sl a0.length (a0.map enc5c)] ∧ ((a0.length ≤ maxLen ∧ ∀ e ∈ a0, ok5 e)) := by
  rw [shapeD, Tryz.underlying27] at h
  obtain ⟨ys, rfl, hm, hy⟩ := h
  obtain ⟨l, rfl, hl⟩ := list_of (enc := fun x => [enc5c x]) (R := ok5) (fun y hyy => by
    obtain ⟨a0, rfl, w0⟩ := sh5 (hy y hyy)
    exact ⟨a0, rfl, w0⟩)
  rw [List.length_map] at hm
  exact ⟨l, by rw [flat_one, List.length_map], hm, hl⟩

theorem meterStreams_plain : plainT Tryz.prog 2 23 = true ∧ plainT Tryz.prog 4 26 = true ∧ plainT Tryz.prog 2 27 = true := ⟨by kernel_rfl, by kernel_rfl, by kernel_rfl⟩

theorem meterStreams_lifted (os : Os) (started : os.Started) (H : Type) (enc : TypeId × Value → H) :
    ReturnsInHanded {} Tryz.checked os 3 .any (fun w args => (Rows.meterStreamsSpec.pre enc Tryz.prog Tryz.f3 [] false w args ∧ laidMetH Tryz.prog laidL w) ∧ sizedMet enc Tryz.prog Tryz.f3 (OpenSpec.ofChange Rows.meterStreamsSpec) false w args)
      (Rows.meterStreamsSpec.post enc Tryz.prog Tryz.f3 false true false false) := by
  refine returnsInHanded_of_change_and (C := Tryz.checked) (X := fun w _ => laidMetH Tryz.prog laidL w) (fun _ _ _ hh h => h.of_heap hh) own started (by kernel_rfl) Tryz.func3
    (ChangeSpec.witness_shaped (enc := enc) (C := Tryz.checked) (os := os) (X := fun w _ => laidMetH Tryz.prog laidL w) false (World.doorLaid Tryz.prog 4000 os)
      #[.agg #[.int .u8 0, .int .u8 0, .int .u8 0, .int .u8 0, .int .u8 0, .int .u8 0, .int .u8 0, .int .u8 0], .agg #[.int .i64 0, .slice none 0 0], .slice none 0 0] 8 rfl (World.shaped_of_RefB (by kernel_rfl) (by kernel_rfl)) (by kernel_rfl) (by kernel_rfl) (by kernel_rfl) (door_met os _)) ?_
  intro W base args ds gs before hval0 hW _ _ hL _
  have hW' := hW
  obtain ⟨p, q, hA, hV, rfl, hfz, hnd⟩ := hW
  have hval : ∀ (j : Nat) t v, Tryz.f3.params[j]? = some t → args[j]? = some v → Value.okWide Tryz.prog W .any base t v := hval0
  have hA : DataW.TrodAll enc Tryz.prog W 0 (fun _ => true) true Tryz.f3.params.toList args.toList ds p := hA
  rw [Tryz.params3] at hA hval
  obtain ⟨v0, v1, v2, d0, d1, d2, p0, p1, p2, rfl, rfl, rfl, h0, h1, h2⟩ := trodAll_three hA
  obtain ⟨rfl, rfl⟩ := trodVars_none hV
  obtain ⟨xs0, s0, r0⟩ := arg_rel (c := ctx0 (phiOf W)) (fun {_} => rfl) (bounds_phi W) meterStreams_plain.1 (hval 0 23 v0 rfl rfl) h0
  obtain ⟨b0, b1, b2, b3, b4, b5, b6, b7, rfl, w0, w1, w2, w3, w4, w5, w6, w7⟩ := sh23 (n := 0) s0
  have r0 : Rel (ctx0 (phiOf W)) W (.agg [.d (.v (.int .u8 b0)), .d (.v (.int .u8 b1)), .d (.v (.int .u8 b2)), .d (.v (.int .u8 b3)), .d (.v (.int .u8 b4)), .d (.v (.int .u8 b5)), .d (.v (.int .u8 b6)), .d (.v (.int .u8 b7))]) v0 := by
    have e : argA Tryz.prog 23 [.v (.int .u8 b0), .v (.int .u8 b1), .v (.int .u8 b2), .v (.int .u8 b3), .v (.int .u8 b4), .v (.int .u8 b5), .v (.int .u8 b6), .v (.int .u8 b7)] = (.agg [.d (.v (.int .u8 b0)), .d (.v (.int .u8 b1)), .d (.v (.int .u8 b2)), .d (.v (.int .u8 b3)), .d (.v (.int .u8 b4)), .d (.v (.int .u8 b5)), .d (.v (.int .u8 b6)), .d (.v (.int .u8 b7))] : AV) := by unfold argA; rw [Tryz.underlying23]; rfl
    rw [← e]; exact r0
  obtain ⟨xs1, s1, r1⟩ := arg_rel (c := ctx0 (phiOf W)) (fun {_} => rfl) (bounds_phi W) meterStreams_plain.2.1 (hval 1 26 v1 rfl rfl) h1
  obtain ⟨b8, b9, rfl, w8, w9⟩ := sh26 (n := 0) s1
  have r1 : Rel (ctx0 (phiOf W)) W (.agg [.d (vI b8), .d (.sl b9.length (b9.flatMap enc51))]) v1 := by
    have e : argA Tryz.prog 26 [vI b8, .sl b9.length (b9.flatMap enc51)] = (.agg [.d (vI b8), .d (.sl b9.length (b9.flatMap enc51))] : AV) := by unfold argA; rw [Tryz.underlying26]; rfl
    rw [← e]; exact r1
  obtain ⟨xs2, s2, r2⟩ := arg_rel (c := ctx0 (phiOf W)) (fun {_} => rfl) (bounds_phi W) meterStreams_plain.2.2 (hval 2 27 v2 rfl rfl) h2
  obtain ⟨b10, rfl, w10⟩ := sh27 (n := 0) s2
  have r2 : Rel (ctx0 (phiOf W)) W (.d (.sl b10.length (b10.map enc5c))) v2 := by
    have e : argA Tryz.prog 27 [.sl b10.length (b10.map enc5c)] = (.d (.sl b10.length (b10.map enc5c)) : AV) := by unfold argA; rw [Tryz.underlying27]; rfl
    rw [← e]; exact r2
  have hc : PureCalls Tryz.prog cfz.glob 3 [.agg [.d (.v (.int .u8 b0)), .d (.v (.int .u8 b1)), .d (.v (.int .u8 b2)), .d (.v (.int .u8 b3)), .d (.v (.int .u8 b4)), .d (.v (.int .u8 b5)), .d (.v (.int .u8 b6)), .d (.v (.int .u8 b7))], .agg [.d (vI b8), .d (.sl b9.length (b9.flatMap enc51))], .d (.sl b10.length (b10.map enc5c))] (aB true) := f3 b0 b1 b2 b3 b4 b5 b6 b7 b8 b9.length (b9.flatMap enc51) b10.length (b10.map enc5c) true (streams_true (key := (b0, b1, b2, b3, b4, b5, b6, b7)) ⟨w0, w1, w2, w3, w4, w5, w6, w7⟩ b8 b9 b10 w10.2)
  refine (pure_true hc (glob_ok hL) (Rels.cons r0 (Rels.cons r1 (Rels.cons r2 Rels.nil)))).mono ?_
  rintro e W2 ⟨rfl, hb⟩
  exact ⟨_, rfl, law_post (tb := 4) laidOut rfl (by kernel_rfl) Tryz.underlying4 (by
    rw [Tryz.params3]
    intro t ht
    simp at ht
    rcases ht with rfl | rfl | rfl
    · exact ⟨by kernel_rfl, of_decide_eq_true (by kernel_rfl)⟩
    · exact ⟨by kernel_rfl, of_decide_eq_true (by kernel_rfl)⟩
    · exact ⟨by kernel_rfl, of_decide_eq_true (by kernel_rfl)⟩) hW' rfl hb⟩

theorem meterStreams_said : Rows.MeterStreamsSaid :=
  OpenClaim.holds_of_wide 3 Tryz.f3 rfl rfl rfl rfl rfl rfl rfl ⟨rfl, rfl, rfl, rfl, rfl⟩ rfl rfl rfl rfl rfl (by kernel_rfl) Tryz.func3 (by kernel_rfl)
    (of_decide_eq_true (by kernel_rfl)) (by unfold Func.isWrapper; first | (rw [if_pos (by decide +kernel)]; kernel_rfl) | (rw [if_neg (by decide +kernel)]; exact ⟨rfl, rfl⟩))
    (fun os started H enc _ => meterStreams_lifted os started H enc)

theorem meterStreams_card : Rows.MeterStreamsCardSaid :=
  Claim7.holds_tied_plain_at .later [] [.data, .data, .data, .data] true (true, "db1809fc3c31c44669df0b24d29bd24681a5bad3b6259000b7a01fbda55a472b") false
    meterStreams_said (fun _ h => by cases h) (by kernel_rfl) (fun _ h => by cases h) meterStreams_row_tie rfl ⟨rfl, rfl⟩ (by kernel_rfl) rfl
    (fun f fn hf hfn => by
      obtain rfl : f = 3 := Option.some.inj ((show Tryz.prog.funcNamed "kilovar/kilovarlaw06.MeterStreams" = some 3 by kernel_rfl).symm.trans hf) |>.symm
      obtain rfl : fn = Tryz.f3 := (Option.some.inj (Tryz.func3.symm.trans hfn)).symm
      exact ⟨by kernel_rfl, fun j t ht => by
        rw [Tryz.params3] at ht
        rcases j with _ | _ | _ | j
        · have h3 : t = 23 := by simpa using ht.symm
          subst h3
          exact (show Tryz.prog.wantsStandIn 23 = false by kernel_rfl)
        · have h3 : t = 26 := by simpa using ht.symm
          subst h3
          exact (show Tryz.prog.wantsStandIn 26 = false by kernel_rfl)
        · have h3 : t = 27 := by simpa using ht.symm
          subst h3
          exact (show Tryz.prog.wantsStandIn 27 = false by kernel_rfl)
        · simp at ht⟩)
    (by kernel_rfl)
end Go.Proofs.YtjpmpeknnfhccaaGreatDoor
