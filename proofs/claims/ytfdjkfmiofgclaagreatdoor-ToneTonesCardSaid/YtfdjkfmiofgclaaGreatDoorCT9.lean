/- ToneTones holds for every input: CheckTones, Carries, Robust and Power return the results or the errors of the reference. Conditions: none beyond the given row and card. -/
import Derived.Test.YtfdjkfmiofgclaaGreatDoorKzR
import Derived.Test.YtfdjkfmiofgclaaGreatDoorKzS
import Derived.Test.YtfdjkfmiofgclaaGreatDoorKTb
import Derived.Test.YtfdjkfmiofgclaaGreatDoorCards
import Derived.Test.YtfdjkfmiofgclaaGreatDoorTie
namespace Go.Proofs.YtfdjkfmiofgclaaGreatDoor
set_option linter.unusedVariables false
set_option linter.unusedSimpArgs false
set_option linter.unnecessarySimpa false
open Go Go.Kv Go.RowKit Go.ChangeShapes Go.WideShapes Go.ChangeAt Go.Proofs
set_option maxRecDepth 100000
theorem sh3 {n : Nat} {xs : List DV} (h : shapeD Tryz.prog (n + 1) 3 xs) : ∃ (a0 : Int), xs = [vI a0] ∧ (inI64 a0) := by
  rw [shapeD, Tryz.underlying3] at h
  obtain ⟨i, rfl, hw⟩ := h
  refine ⟨i, rfl, ?_⟩
  simp [Lit.wf, IntKind.min, IntKind.max, IntKind.signed, IntKind.bits] at hw
  first | exact hw | (unfold inI64; omega) | omega

def ok3 (x : Int) : Prop := inI64 x

theorem sh30 {n : Nat} {xs : List DV} (h : shapeD Tryz.prog (n + 2) 30 xs) : ∃ (a0 : List (Int)), xs = [.sl a0.length (a0.map vI)] ∧ ((a0.length ≤ maxLen ∧ ∀ e ∈ a0, ok3 e)) := by
  rw [shapeD, Tryz.underlying30] at h
  obtain ⟨ys, rfl, hm, hy⟩ := h
  obtain ⟨l, rfl, hl⟩ := list_of (enc := fun x => [vI x]) (R := ok3) (fun y hyy => by
    obtain ⟨a0, rfl, w0⟩ := sh3 (hy y hyy)
    exact ⟨a0, rfl, w0⟩)
  rw [List.length_map] at hm
  exact ⟨l, by rw [flat_one, List.length_map], hm, hl⟩

def enc30c (x : (List (Int))) : DV := .sl x.length (x.map vI)

def ok30 (x : (List (Int))) : Prop := (x.length ≤ maxLen ∧ ∀ e ∈ x, ok3 e)

theorem sh60 {n : Nat} {xs : List DV} (h : shapeD Tryz.prog (n + 3) 60 xs) : ∃ (a0 : List ((List (Int)))), xs = [.sl a0.length (a0.map enc30c)] ∧ ((a0.length ≤ maxLen ∧ ∀ e ∈ a0, ok30 e)) := by
  rw [shapeD, Tryz.underlying60] at h
  obtain ⟨ys, rfl, hm, hy⟩ := h
  obtain ⟨l, rfl, hl⟩ := list_of (enc := fun x => [enc30c x]) (R := ok30) (fun y hyy => by
    obtain ⟨a0, rfl, w0⟩ := sh30 (hy y hyy)
    exact ⟨a0, rfl, w0⟩)
  rw [List.length_map] at hm
  exact ⟨l, by rw [flat_one, List.length_map], hm, hl⟩

theorem sh130 {n : Nat} {xs : List DV} (h : shapeD Tryz.prog (n + 4) 130 xs) : ∃ (a0 : List (Int)) (a1 : List ((List (Int)))) (a2 : Int) (a3 : Int) (a4 : List (Int)), xs = [.sl a0.length (a0.map vI), .sl a1.length (a1.map enc30c), vI a2, vI a3, .sl a4.length (a4.map vI)] ∧ ((a0.length ≤ maxLen ∧ ∀ e ∈ a0, ok3 e)) ∧ ((a1.length ≤ maxLen ∧ ∀ e ∈ a1, ok30 e)) ∧ (inI64 a2) ∧ (inI64 a3) ∧ ((a4.length ≤ maxLen ∧ ∀ e ∈ a4, ok3 e)) := by
  rw [shapeD, Tryz.underlying130] at h
  simp only [shapeFs] at h
  obtain ⟨x0, r0, rfl, h0, x1, r1, rfl, h1, x2, r2, rfl, h2, x3, r3, rfl, h3, x4, r4, rfl, h4, rfl⟩ := h
  obtain ⟨a0, rfl, w0⟩ := sh30 h0
  obtain ⟨a1, rfl, w1⟩ := sh60 h1
  obtain ⟨a2, rfl, w2⟩ := sh3 h2
  obtain ⟨a3, rfl, w3⟩ := sh3 h3
  obtain ⟨a4, rfl, w4⟩ := sh30 h4
  exact ⟨a0, a1, a2, a3, a4, rfl, w0, w1, w2, w3, w4⟩

theorem sh27 {n : Nat} {xs : List DV} (h : shapeD Tryz.prog (n + 2) 27 xs) : ∃ (a0 : Int) (a1 : Int) (a2 : Int), xs = [vI a0, vI a1, vI a2] ∧ (inI64 a0) ∧ (inI64 a1) ∧ (inI64 a2) := by
  rw [shapeD, Tryz.underlying27] at h
  simp only [shapeN] at h
  obtain ⟨x0, r0, rfl, h0, x1, r1, rfl, h1, x2, r2, rfl, h2, rfl⟩ := h
  obtain ⟨a0, rfl, w0⟩ := sh3 h0
  obtain ⟨a1, rfl, w1⟩ := sh3 h1
  obtain ⟨a2, rfl, w2⟩ := sh3 h2
  exact ⟨a0, a1, a2, rfl, w0, w1, w2⟩

theorem toneTones_plain : plainT Tryz.prog 4 130 = true ∧ plainT Tryz.prog 2 27 = true := ⟨by kernel_rfl, by kernel_rfl⟩

theorem toneTones_lifted (os : Os) (started : os.Started) (H : Type) (enc : TypeId × Value → H) :
    ReturnsInHanded {} Tryz.checked os 12 .any (fun w args => (Rows.toneTonesSpec.pre enc Tryz.prog Tryz.f12 [] false w args ∧ laidMetH Tryz.prog laidL w) ∧ sizedMet enc Tryz.prog Tryz.f12 (OpenSpec.ofChange Rows.toneTonesSpec) false w args)
      (Rows.toneTonesSpec.post enc Tryz.prog Tryz.f12 false true false false) := by
  refine returnsInHanded_of_change_and (C := Tryz.checked) (X := fun w _ => laidMetH Tryz.prog laidL w) (fun _ _ _ hh h => h.of_heap hh) own started (by kernel_rfl) Tryz.func12
    (ChangeSpec.witness_shaped (enc := enc) (C := Tryz.checked) (os := os) (X := fun w _ => laidMetH Tryz.prog laidL w) false (World.doorLaid Tryz.prog 4000 os)
      #[.agg #[.slice none 0 0, .slice none 0 0, .int .i64 0, .int .i64 0, .slice none 0 0], .agg #[.int .i64 0, .int .i64 0, .int .i64 0]] 8 rfl (World.shaped_of_RefB (by kernel_rfl) (by kernel_rfl)) (by kernel_rfl) (by kernel_rfl) (by kernel_rfl) (door_met os _)) ?_
  intro W base args ds gs before hval0 hW _ _ hL _
  have hW' := hW
  obtain ⟨p, q, hA, hV, rfl, hfz, hnd⟩ := hW
  have hval : ∀ (j : Nat) t v, Tryz.f12.params[j]? = some t → args[j]? = some v → Value.okWide Tryz.prog W .any base t v := hval0
  have hA : DataW.TrodAll enc Tryz.prog W 0 (fun _ => true) true Tryz.f12.params.toList args.toList ds p := hA
  rw [Tryz.params12] at hA hval
  obtain ⟨v0, v1, d0, d1, p0, p1, rfl, rfl, rfl, h0, h1⟩ := trodAll_two hA
  obtain ⟨rfl, rfl⟩ := trodVars_none hV
  obtain ⟨xs0, s0, r0⟩ := arg_rel (c := ctx0 (phiOf W)) (fun {_} => rfl) (bounds_phi W) toneTones_plain.1 (hval 0 130 v0 rfl rfl) h0
  obtain ⟨b0, b1, b2, b3, b4, rfl, w0, w1, w2, w3, w4⟩ := sh130 (n := 0) s0
  have r0 : Rel (ctx0 (phiOf W)) W (.agg [.d (.sl b0.length (b0.map vI)), .d (.sl b1.length (b1.map enc30c)), .d (vI b2), .d (vI b3), .d (.sl b4.length (b4.map vI))]) v0 := by
    have e : argA Tryz.prog 130 [.sl b0.length (b0.map vI), .sl b1.length (b1.map enc30c), vI b2, vI b3, .sl b4.length (b4.map vI)] = (.agg [.d (.sl b0.length (b0.map vI)), .d (.sl b1.length (b1.map enc30c)), .d (vI b2), .d (vI b3), .d (.sl b4.length (b4.map vI))] : AV) := by unfold argA; rw [Tryz.underlying130]; rfl
    rw [← e]; exact r0
  obtain ⟨xs1, s1, r1⟩ := arg_rel (c := ctx0 (phiOf W)) (fun {_} => rfl) (bounds_phi W) toneTones_plain.2 (hval 1 27 v1 rfl rfl) h1
  obtain ⟨b5, b6, b7, rfl, w5, w6, w7⟩ := sh27 (n := 0) s1
  have r1 : Rel (ctx0 (phiOf W)) W (.agg [.d (vI b5), .d (vI b6), .d (vI b7)]) v1 := by
    have e : argA Tryz.prog 27 [vI b5, vI b6, vI b7] = (.agg [.d (vI b5), .d (vI b6), .d (vI b7)] : AV) := by unfold argA; rw [Tryz.underlying27]; rfl
    rw [← e]; exact r1
  have hc : PureCalls Tryz.prog cfz.glob 12 [.agg [.d (.sl b0.length (b0.map vI)), .d (.sl b1.length (b1.map enc30c)), .d (vI b2), .d (vI b3), .d (.sl b4.length (b4.map vI))], .agg [.d (vI b5), .d (vI b6), .d (vI b7)]] (aB true) := f12 b0.length (b0.map vI) b1.length (b1.map enc30c) b2 b3 b4.length (b4.map vI) b5 b6 b7 true (tones_true b0 b1 b2 b3 b4 b5 b6 b7 (Nat.le_trans w1.1 (by decide)))
  refine (pure_true hc (glob_ok hL) (Rels.cons r0 (Rels.cons r1 Rels.nil))).mono ?_
  rintro e W2 ⟨rfl, hb⟩
  exact ⟨_, rfl, law_post (tb := 4) laidOut rfl (by kernel_rfl) Tryz.underlying4 (by
    rw [Tryz.params12]
    intro t ht
    simp at ht
    rcases ht with rfl | rfl
    · exact ⟨by kernel_rfl, of_decide_eq_true (by kernel_rfl)⟩
    · exact ⟨by kernel_rfl, of_decide_eq_true (by kernel_rfl)⟩) hW' rfl hb⟩

theorem toneTones_said : Rows.ToneTonesSaid :=
  OpenClaim.holds_of_wide 12 Tryz.f12 rfl rfl rfl rfl rfl rfl rfl ⟨rfl, rfl, rfl, rfl, rfl⟩ rfl rfl rfl rfl rfl (by kernel_rfl) Tryz.func12 (by kernel_rfl)
    (of_decide_eq_true (by kernel_rfl)) (by unfold Func.isWrapper; first | (rw [if_pos (by decide +kernel)]; kernel_rfl) | (rw [if_neg (by decide +kernel)]; exact ⟨rfl, rfl⟩))
    (fun os started H enc _ => toneTones_lifted os started H enc)

theorem toneTones_card : Rows.ToneTonesCardSaid :=
  Claim7.holds_tied_plain_at .later [] [.data, .data, .data, .widerDeep] true (true, "b82ba2e0634b42eb894f8c9dea2ed033dcd5bbe400e611f6788ab46e155db3ef") false
    toneTones_said (fun _ h => by cases h) (by kernel_rfl) (fun _ h => by cases h) toneTones_row_tie rfl ⟨rfl, rfl⟩ (by kernel_rfl) rfl
    (fun f fn hf hfn => by
      obtain rfl : f = 12 := Option.some.inj ((show Tryz.prog.funcNamed "kilovar/kilovarlaw02.ToneTones" = some 12 by kernel_rfl).symm.trans hf) |>.symm
      obtain rfl : fn = Tryz.f12 := (Option.some.inj (Tryz.func12.symm.trans hfn)).symm
      exact ⟨by kernel_rfl, fun j t ht => by
        rw [Tryz.params12] at ht
        rcases j with _ | _ | j
        · have h3 : t = 130 := by simpa using ht.symm
          subst h3
          exact (show Tryz.prog.wantsStandIn 130 = false by kernel_rfl)
        · have h3 : t = 27 := by simpa using ht.symm
          subst h3
          exact (show Tryz.prog.wantsStandIn 27 = false by kernel_rfl)
        · simp at ht⟩)
    (by kernel_rfl)
end Go.Proofs.YtfdjkfmiofgclaaGreatDoor
