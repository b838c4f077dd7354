import Derived.Test.YtjpmpeknnfhccaaGreatDoorKzR
import Derived.Test.YtjpmpeknnfhccaaGreatDoorKzS
import Derived.Test.YtjpmpeknnfhccaaGreatDoorKG4
import Derived.Test.YtjpmpeknnfhccaaGreatDoorCards
import Derived.Test.YtjpmpeknnfhccaaGreatDoorTie
namespace Go.Proofs.YtjpmpeknnfhccaaGreatDoor
set_option linter.unusedVariables false
set_option linter.unusedSimpArgs false
open Go Go.Kv Go.RowKit Go.ChangeShapes Go.WideShapes Go.ChangeAt Go.Proofs
set_option maxRecDepth 100000
theorem sh5 {n : Nat} {xs : List DV} (h : shapeD Tryz.prog (n + 1) 5 xs) : ∃ (a0 : Int), xs = [.v (.int .u8 a0)] ∧ (0 ≤ a0 ∧ a0 ≤ 255) := by
  rw [shapeD, Tryz.underlying5] at h
  obtain ⟨i, rfl, hw⟩ := h
  refine ⟨i, rfl, ?_⟩
  simp [Lit.wf, IntKind.min, IntKind.max, IntKind.signed, IntKind.bits] at hw
  first | exact hw | (unfold inI64; omega) | omega
theorem sh23 {n : Nat} {xs : List DV} (h : shapeD Tryz.prog (n + 2) 23 xs) : ∃ (a0 : Int) (a1 : Int) (a2 : Int) (a3 : Int) (a4 : Int) (a5 : Int) (a6 : Int) (a7 : Int), xs = [.v (.int .u8 a0), .v (.int .u8 a1), .v (.int .u8 a2), .v (.int .u8 a3), .v (.int .u8 a4), .v (.int .u8 a5), .v (.int .u8 a6), .v (.int .u8 a7)] ∧ (0 ≤ a0 ∧ a0 ≤ 255) ∧ (0 ≤ a1 ∧ a1 ≤ 255) ∧ (0 ≤ a2 ∧ a2 ≤ 255) ∧ (0 ≤ a3 ∧ a3 ≤ 255) ∧ (0 ≤ a4 ∧ a4 ≤ 255) ∧ (0 ≤ a5 ∧ a5 ≤ 255) ∧ (0 ≤ a6 ∧ a6 ≤ 255) ∧ (0 ≤ a7 ∧ a7 ≤ 255) := by
  rw [shapeD, Tryz.underlying23] at h
  simp only [shapeN] at h
  obtain ⟨x0, r0, rfl, h0, x1, r1, rfl, h1, x2, r2, rfl, h2, x3, r3, rfl, h3, x4, r4, rfl, h4, x5, r5, rfl, h5, x6, r6, rfl, h6, x7, r7, rfl, h7, rfl⟩ := h
  obtain ⟨a0, rfl, w0⟩ := sh5 h0
  obtain ⟨a1, rfl, w1⟩ := sh5 h1
  obtain ⟨a2, rfl, w2⟩ := sh5 h2
  obtain ⟨a3, rfl, w3⟩ := sh5 h3
  obtain ⟨a4, rfl, w4⟩ := sh5 h4
  obtain ⟨a5, rfl, w5⟩ := sh5 h5
  obtain ⟨a6, rfl, w6⟩ := sh5 h6
  obtain ⟨a7, rfl, w7⟩ := sh5 h7
  exact ⟨a0, a1, a2, a3, a4, a5, a6, a7, rfl, w0, w1, w2, w3, w4, w5, w6, w7⟩
theorem sh48 {n : Nat} {xs : List DV} (h : shapeD Tryz.prog (n + 1) 48 xs) : ∃ (a0 : Int), xs = [.v (.int .u16 a0)] ∧ (0 ≤ a0 ∧ a0 ≤ 65535) := by
  rw [shapeD, Tryz.underlying48] at h
  obtain ⟨i, rfl, hw⟩ := h
  refine ⟨i, rfl, ?_⟩
  simp [Lit.wf, IntKind.min, IntKind.max, IntKind.signed, IntKind.bits] at hw
  first | exact hw | (unfold inI64; omega) | omega
theorem sh49 {n : Nat} {xs : List DV} (h : shapeD Tryz.prog (n + 2) 49 xs) : ∃ (a0 : Int) (a1 : Int) (a2 : Int) (a3 : Int), xs = [.v (.int .u16 a0), .v (.int .u16 a1), .v (.int .u16 a2), .v (.int .u16 a3)] ∧ (0 ≤ a0 ∧ a0 ≤ 65535) ∧ (0 ≤ a1 ∧ a1 ≤ 65535) ∧ (0 ≤ a2 ∧ a2 ≤ 65535) ∧ (0 ≤ a3 ∧ a3 ≤ 65535) := by
  rw [shapeD, Tryz.underlying49] at h
  simp only [shapeN] at h
  obtain ⟨x0, r0, rfl, h0, x1, r1, rfl, h1, x2, r2, rfl, h2, x3, r3, rfl, h3, rfl⟩ := h
  obtain ⟨a0, rfl, w0⟩ := sh48 h0
  obtain ⟨a1, rfl, w1⟩ := sh48 h1
  obtain ⟨a2, rfl, w2⟩ := sh48 h2
  obtain ⟨a3, rfl, w3⟩ := sh48 h3
  exact ⟨a0, a1, a2, a3, rfl, w0, w1, w2, w3⟩
def enc49 (x : Int × Int × Int × Int) : List DV := [.v (.int .u16 x.1), .v (.int .u16 x.2.1), .v (.int .u16 x.2.2.1), .v (.int .u16 x.2.2.2)]
def ok49 (x : Int × Int × Int × Int) : Prop := (0 ≤ x.1 ∧ x.1 ≤ 65535) ∧ (0 ≤ x.2.1 ∧ x.2.1 ≤ 65535) ∧ (0 ≤ x.2.2.1 ∧ x.2.2.1 ≤ 65535) ∧ (0 ≤ x.2.2.2 ∧ x.2.2.2 ≤ 65535)
theorem sh46 {n : Nat} {xs : List DV} (h : shapeD Tryz.prog (n + 3) 46 xs) : ∃ (a0 : List (Int × Int × Int × Int)), xs = [.sl a0.length (a0.flatMap enc49)] ∧ ((a0.length ≤ maxLen ∧ ∀ e ∈ a0, ok49 e)) := by
  rw [shapeD, Tryz.underlying46] at h
  obtain ⟨ys, rfl, hm, hy⟩ := h
  obtain ⟨l, rfl, hl⟩ := list_of (enc := enc49) (R := ok49) (fun y hyy => by
    obtain ⟨a0, a1, a2, a3, rfl, w0, w1, w2, w3⟩ := sh49 (hy y hyy)
    exact ⟨(a0, a1, a2, a3), rfl, w0, w1, w2, w3⟩)
  rw [List.length_map] at hm
  exact ⟨l, by rw [List.length_map, List.flatMap_def], hm, hl⟩
theorem sh47 {n : Nat} {xs : List DV} (h : shapeD Tryz.prog (n + 2) 47 xs) : ∃ (a0 : Int) (a1 : Int) (a2 : Int) (a3 : Int), xs = [.v (.int .u8 a0), .v (.int .u8 a1), .v (.int .u8 a2), .v (.int .u8 a3)] ∧ (0 ≤ a0 ∧ a0 ≤ 255) ∧ (0 ≤ a1 ∧ a1 ≤ 255) ∧ (0 ≤ a2 ∧ a2 ≤ 255) ∧ (0 ≤ a3 ∧ a3 ≤ 255) := by
  rw [shapeD, Tryz.underlying47] at h
  simp only [shapeN] at h
  obtain ⟨x0, r0, rfl, h0, x1, r1, rfl, h1, x2, r2, rfl, h2, x3, r3, rfl, h3, rfl⟩ := h
  obtain ⟨a0, rfl, w0⟩ := sh5 h0
  obtain ⟨a1, rfl, w1⟩ := sh5 h1
  obtain ⟨a2, rfl, w2⟩ := sh5 h2
  obtain ⟨a3, rfl, w3⟩ := sh5 h3
  exact ⟨a0, a1, a2, a3, rfl, w0, w1, w2, w3⟩
theorem meterGuards_plain : plainT Tryz.prog 2 23 = true ∧ plainT Tryz.prog 3 46 = true ∧ plainT Tryz.prog 2 47 = true := ⟨by kernel_rfl, by kernel_rfl, by kernel_rfl⟩
theorem meterGuards_lifted (os : Os) (started : os.Started) (H : Type) (enc : TypeId × Value → H) :
    ReturnsInHanded {} Tryz.checked os 4 .any (fun w args => (Rows.meterGuardsSpec.pre enc Tryz.prog Tryz.f4 [] false w args ∧ laidMetH Tryz.prog laidL w) ∧ sizedMet enc Tryz.prog Tryz.f4 (OpenSpec.ofChange Rows.meterGuardsSpec) false w args)
      (Rows.meterGuardsSpec.post enc Tryz.prog Tryz.f4 false true false false) := by
  refine returnsInHanded_of_change_and (C := Tryz.checked) (X := fun w _ => laidMetH Tryz.prog laidL w) (fun _ _ _ hh h => h.of_heap hh) own started (by kernel_rfl) Tryz.func4
    (ChangeSpec.witness_shaped (enc := enc) (C := Tryz.checked) (os := os) (X := fun w _ => laidMetH Tryz.prog laidL w) false (World.doorLaid Tryz.prog 4000 os)
      #[.agg #[.int .u8 0, .int .u8 0, .int .u8 0, .int .u8 0, .int .u8 0, .int .u8 0, .int .u8 0, .int .u8 0], .slice none 0 0, .agg #[.int .u8 0, .int .u8 0, .int .u8 0, .int .u8 0]] 8 rfl (World.shaped_of_RefB (by kernel_rfl) (by kernel_rfl)) (by kernel_rfl) (by kernel_rfl) (by kernel_rfl) (door_met os _)) ?_
  intro W base args ds gs before hval0 hW _ _ hL _
  have hW' := hW
  obtain ⟨p, q, hA, hV, rfl, hfz, hnd⟩ := hW
  have hval : ∀ (j : Nat) t v, Tryz.f4.params[j]? = some t → args[j]? = some v → Value.okWide Tryz.prog W .any base t v := hval0
  have hA : DataW.TrodAll enc Tryz.prog W 0 (fun _ => true) true Tryz.f4.params.toList args.toList ds p := hA
  rw [Tryz.params4] at hA hval
  obtain ⟨v0, v1, v2, d0, d1, d2, p0, p1, p2, rfl, rfl, rfl, h0, h1, h2⟩ := trodAll_three hA
  obtain ⟨rfl, rfl⟩ := trodVars_none hV
  obtain ⟨xs0, s0, r0⟩ := arg_rel (c := ctx0 (phiOf W)) (fun {_} => rfl) (bounds_phi W) meterGuards_plain.1 (hval 0 23 v0 rfl rfl) h0
  obtain ⟨b0, b1, b2, b3, b4, b5, b6, b7, rfl, w0, w1, w2, w3, w4, w5, w6, w7⟩ := sh23 (n := 0) s0
  have r0 : Rel (ctx0 (phiOf W)) W (.agg [.d (.v (.int .u8 b0)), .d (.v (.int .u8 b1)), .d (.v (.int .u8 b2)), .d (.v (.int .u8 b3)), .d (.v (.int .u8 b4)), .d (.v (.int .u8 b5)), .d (.v (.int .u8 b6)), .d (.v (.int .u8 b7))]) v0 := by
    have e : argA Tryz.prog 23 [.v (.int .u8 b0), .v (.int .u8 b1), .v (.int .u8 b2), .v (.int .u8 b3), .v (.int .u8 b4), .v (.int .u8 b5), .v (.int .u8 b6), .v (.int .u8 b7)] = (.agg [.d (.v (.int .u8 b0)), .d (.v (.int .u8 b1)), .d (.v (.int .u8 b2)), .d (.v (.int .u8 b3)), .d (.v (.int .u8 b4)), .d (.v (.int .u8 b5)), .d (.v (.int .u8 b6)), .d (.v (.int .u8 b7))] : AV) := by unfold argA; rw [Tryz.underlying23]; rfl
    rw [← e]; exact r0
  obtain ⟨xs1, s1, r1⟩ := arg_rel (c := ctx0 (phiOf W)) (fun {_} => rfl) (bounds_phi W) meterGuards_plain.2.1 (hval 1 46 v1 rfl rfl) h1
  obtain ⟨b8, rfl, w8⟩ := sh46 (n := 0) s1
  have r1 : Rel (ctx0 (phiOf W)) W (.d (.sl b8.length (b8.flatMap enc49))) v1 := by
    have e : argA Tryz.prog 46 [.sl b8.length (b8.flatMap enc49)] = (.d (.sl b8.length (b8.flatMap enc49)) : AV) := by unfold argA; rw [Tryz.underlying46]; rfl
    rw [← e]; exact r1
  obtain ⟨xs2, s2, r2⟩ := arg_rel (c := ctx0 (phiOf W)) (fun {_} => rfl) (bounds_phi W) meterGuards_plain.2.2 (hval 2 47 v2 rfl rfl) h2
  obtain ⟨b9, b10, b11, b12, rfl, w9, w10, w11, w12⟩ := sh47 (n := 0) s2
  have r2 : Rel (ctx0 (phiOf W)) W (.agg [.d (.v (.int .u8 b9)), .d (.v (.int .u8 b10)), .d (.v (.int .u8 b11)), .d (.v (.int .u8 b12))]) v2 := by
    have e : argA Tryz.prog 47 [.v (.int .u8 b9), .v (.int .u8 b10), .v (.int .u8 b11), .v (.int .u8 b12)] = (.agg [.d (.v (.int .u8 b9)), .d (.v (.int .u8 b10)), .d (.v (.int .u8 b11)), .d (.v (.int .u8 b12))] : AV) := by unfold argA; rw [Tryz.underlying47]; rfl
    rw [← e]; exact r2
  have hc : PureCalls Tryz.prog cfz.glob 4 [.agg [.d (.v (.int .u8 b0)), .d (.v (.int .u8 b1)), .d (.v (.int .u8 b2)), .d (.v (.int .u8 b3)), .d (.v (.int .u8 b4)), .d (.v (.int .u8 b5)), .d (.v (.int .u8 b6)), .d (.v (.int .u8 b7))], .d (.sl b8.length (b8.flatMap enc49)), .agg [.d (.v (.int .u8 b9)), .d (.v (.int .u8 b10)), .d (.v (.int .u8 b11)), .d (.v (.int .u8 b12))]] (aB true) := f4 b0 b1 b2 b3 b4 b5 b6 b7 b8.length (b8.flatMap enc49) b9 b10 b11 b12 true (guards_true (key := (b0, b1, b2, b3, b4, b5, b6, b7)) ⟨w0, w1, w2, w3, w4, w5, w6, w7⟩ b8 w8 b9 b10 b11 b12 ⟨w9, w10, w11, w12⟩)
  refine (pure_true hc (glob_ok hL) (Rels.cons r0 (Rels.cons r1 (Rels.cons r2 Rels.nil)))).mono ?_
  rintro e W2 ⟨rfl, hb⟩
  exact ⟨_, rfl, law_post (tb := 4) laidOut rfl (by kernel_rfl) Tryz.underlying4 (by
    rw [Tryz.params4]
    intro t ht
    simp at ht
    rcases ht with rfl | rfl | rfl
    · exact ⟨by kernel_rfl, of_decide_eq_true (by kernel_rfl)⟩
    · exact ⟨by kernel_rfl, of_decide_eq_true (by kernel_rfl)⟩
    · exact ⟨by kernel_rfl, of_decide_eq_true (by kernel_rfl)⟩) hW' rfl hb⟩
theorem meterGuards_said : Rows.MeterGuardsSaid :=
  OpenClaim.holds_of_wide 4 Tryz.f4 rfl rfl rfl rfl rfl rfl rfl ⟨rfl, rfl, rfl, rfl, rfl⟩ rfl rfl rfl rfl rfl (by kernel_rfl) Tryz.func4 (by kernel_rfl)
    (of_decide_eq_true (by kernel_rfl)) (by unfold Func.isWrapper; first | (rw [if_pos (by decide +kernel)]; kernel_rfl) | (rw [if_neg (by decide +kernel)]; exact ⟨rfl, rfl⟩))
    (fun os started H enc _ => meterGuards_lifted os started H enc)
theorem meterGuards_card : Rows.MeterGuardsCardSaid :=
  Claim7.holds_tied_plain_at .later [] [.data, .data, .data, .data] true (true, "db1809fc3c31c44669df0b24d29bd24681a5bad3b6259000b7a01fbda55a472b") false
    meterGuards_said (fun _ h => by cases h) (by kernel_rfl) (fun _ h => by cases h) meterGuards_row_tie rfl ⟨rfl, rfl⟩ (by kernel_rfl) rfl
    (fun f fn hf hfn => by
      obtain rfl : f = 4 := Option.some.inj ((show Tryz.prog.funcNamed "kilovar/kilovarlaw06.MeterGuards" = some 4 by kernel_rfl).symm.trans hf) |>.symm
      obtain rfl : fn = Tryz.f4 := (Option.some.inj (Tryz.func4.symm.trans hfn)).symm
      exact ⟨by kernel_rfl, fun j t ht => by
        rw [Tryz.params4] at ht
        rcases j with _ | _ | _ | j
        · have h3 : t = 23 := by simpa using ht.symm
          subst h3
          exact (show Tryz.prog.wantsStandIn 23 = false by kernel_rfl)
        · have h3 : t = 46 := by simpa using ht.symm
          subst h3
          exact (show Tryz.prog.wantsStandIn 46 = false by kernel_rfl)
        · have h3 : t = 47 := by simpa using ht.symm
          subst h3
          exact (show Tryz.prog.wantsStandIn 47 = false by kernel_rfl)
        · simp at ht⟩)
    (by kernel_rfl)
end Go.Proofs.YtjpmpeknnfhccaaGreatDoor
