/- CodeBursts holds for every input: bursts, what a code survives of them, and distances are what the document says. Conditions: none beyond the given row and card. -/
import Derived.Test.YtdelimpnnpifpaaGreatDoorKzR

import Derived.Test.YtdelimpnnpifpaaGreatDoorKB1
import Derived.Test.YtdelimpnnpifpaaGreatDoorCards
import Derived.Test.YtdelimpnnpifpaaGreatDoorTie
namespace Go.Proofs.YtdelimpnnpifpaaGreatDoor
set_option linter.all false
open Go Go.Kv Go.RowKit Go.ChangeShapes Go.WideShapes Go.ChangeAt Go.Proofs
set_option maxRecDepth 100000
theorem sh3 {n : Nat} {xs : List DV} (h : shapeD Tryz.prog (n + 1) 3 xs) : ∃ (a0 : Int), xs = [vI a0] ∧ (inI64 a0) := by
  rw [shapeD, Tryz.underlying3] at h
  obtain ⟨i, rfl, hw⟩ := h
  refine ⟨i, rfl, ?_⟩
  simp [Lit.wf, IntKind.min, IntKind.max, IntKind.signed, IntKind.bits] at hw
  first | exact hw | (unfold inI64; omega) | omega

theorem sh23 {n : Nat} {xs : List DV} (h : shapeD Tryz.prog (n + 2) 23 xs) : ∃ (a0 : Int) (a1 : Int), xs = [vI a0, vI a1] ∧ (inI64 a0) ∧ (inI64 a1) := by
  rw [shapeD, Tryz.underlying23] at h
  simp only [shapeFs] at h
  obtain ⟨x0, r0, rfl, h0, x1, r1, rfl, h1, rfl⟩ := h
  obtain ⟨a0, rfl, w0⟩ := sh3 h0
  obtain ⟨a1, rfl, w1⟩ := sh3 h1
  exact ⟨a0, a1, rfl, w0, w1⟩

theorem sh73 {n : Nat} {xs : List DV} (h : shapeD Tryz.prog (n + 2) 73 xs) : ∃ (a0 : Int) (a1 : Int) (a2 : Int), xs = [vI a0, vI a1, vI a2] ∧ (inI64 a0) ∧ (inI64 a1) ∧ (inI64 a2) := by
  rw [shapeD, Tryz.underlying73] at h
  simp only [shapeN] at h
  obtain ⟨x0, r0, rfl, h0, x1, r1, rfl, h1, x2, r2, rfl, h2, rfl⟩ := h
  obtain ⟨a0, rfl, w0⟩ := sh3 h0
  obtain ⟨a1, rfl, w1⟩ := sh3 h1
  obtain ⟨a2, rfl, w2⟩ := sh3 h2
  exact ⟨a0, a1, a2, rfl, w0, w1, w2⟩

def ok3 (x : Int) : Prop := inI64 x

theorem sh24 {n : Nat} {xs : List DV} (h : shapeD Tryz.prog (n + 2) 24 xs) : ∃ (a0 : List (Int)), xs = [.sl a0.length (a0.map vI)] ∧ ((a0.length ≤ maxLen ∧ ∀ e ∈ a0, ok3 e)) := by
  rw [shapeD, Tryz.underlying24] at h
  obtain ⟨ys, rfl, hm, hy⟩ := h
  obtain ⟨l, rfl, hl⟩ := list_of (enc := fun x => [vI x]) (R := ok3) (fun y hyy => by
    obtain ⟨a0, rfl, w0⟩ := sh3 (hy y hyy)
    exact ⟨a0, rfl, w0⟩)
  rw [List.length_map] at hm
  exact ⟨l, by rw [flat_one, List.length_map], hm, hl⟩

theorem sh74 {n : Nat} {xs : List DV} (h : shapeD Tryz.prog (n + 3) 74 xs) : ∃ (a0 : List (Int)) (a1 : List (Int)), xs = [.sl a0.length (a0.map vI), .sl a1.length (a1.map vI)] ∧ ((a0.length ≤ maxLen ∧ ∀ e ∈ a0, ok3 e)) ∧ ((a1.length ≤ maxLen ∧ ∀ e ∈ a1, ok3 e)) := by
  rw [shapeD, Tryz.underlying74] at h
  simp only [shapeN] at h
  obtain ⟨x0, r0, rfl, h0, x1, r1, rfl, h1, rfl⟩ := h
  obtain ⟨a0, rfl, w0⟩ := sh24 h0
  obtain ⟨a1, rfl, w1⟩ := sh24 h1
  exact ⟨a0, a1, rfl, w0, w1⟩

theorem codeBursts_plain : plainT Tryz.prog 2 23 = true ∧ plainT Tryz.prog 2 73 = true ∧ plainT Tryz.prog 3 74 = true := ⟨by kernel_rfl, by kernel_rfl, by kernel_rfl⟩

theorem codeBursts_lifted (os : Os) (started : os.Started) (H : Type) (enc : TypeId × Value → H) :
    ReturnsInHanded {} Tryz.checked os 7 .any (fun w args => (Rows.codeBurstsSpec.pre enc Tryz.prog Tryz.f7 [] false w args ∧ laidMetH Tryz.prog laidL w) ∧ sizedMet enc Tryz.prog Tryz.f7 (OpenSpec.ofChange Rows.codeBurstsSpec) false w args)
      (Rows.codeBurstsSpec.post enc Tryz.prog Tryz.f7 false true false false) := by
  refine returnsInHanded_of_change_and (C := Tryz.checked) (X := fun w _ => laidMetH Tryz.prog laidL w) (fun _ _ _ hh h => h.of_heap hh) own started (by kernel_rfl) Tryz.func7
    (ChangeSpec.witness_shaped (enc := enc) (C := Tryz.checked) (os := os) (X := fun w _ => laidMetH Tryz.prog laidL w) false (World.doorLaid Tryz.prog 4000 os)
      #[.agg #[.int .i64 0, .int .i64 0], .agg #[.int .i64 0, .int .i64 0, .int .i64 0], .agg #[.slice none 0 0, .slice none 0 0]] 8 rfl (World.shaped_of_RefB (by kernel_rfl) (by kernel_rfl)) (by kernel_rfl) (by kernel_rfl) (by kernel_rfl) (door_met os _)) ?_
  intro W base args ds gs before hval0 hW _ _ hL _
  have hW' := hW
  obtain ⟨p, q, hA, hV, rfl, hfz, hnd⟩ := hW
  have hval : ∀ (j : Nat) t v, Tryz.f7.params[j]? = some t → args[j]? = some v → Value.okWide Tryz.prog W .any base t v := hval0
  have hA : DataW.TrodAll enc Tryz.prog W 0 (fun _ => true) true Tryz.f7.params.toList args.toList ds p := hA
  rw [Tryz.params7] at hA hval
  obtain ⟨v0, v1, v2, d0, d1, d2, p0, p1, p2, rfl, rfl, rfl, h0, h1, h2⟩ := trodAll_three hA
  obtain ⟨rfl, rfl⟩ := trodVars_none hV
  obtain ⟨xs0, s0, r0⟩ := arg_rel (c := ctx0 (phiOf W)) (fun {_} => rfl) (bounds_phi W) codeBursts_plain.1 (hval 0 23 v0 rfl rfl) h0
  obtain ⟨b0, b1, rfl, w0, w1⟩ := sh23 (n := 0) s0
  have r0 : Rel (ctx0 (phiOf W)) W (.agg [.d (vI b0), .d (vI b1)]) v0 := by
    have e : argA Tryz.prog 23 [vI b0, vI b1] = (.agg [.d (vI b0), .d (vI b1)] : AV) := by unfold argA; rw [Tryz.underlying23]; rfl
    rw [← e]; exact r0
  obtain ⟨xs1, s1, r1⟩ := arg_rel (c := ctx0 (phiOf W)) (fun {_} => rfl) (bounds_phi W) codeBursts_plain.2.1 (hval 1 73 v1 rfl rfl) h1
  obtain ⟨b2, b3, b4, rfl, w2, w3, w4⟩ := sh73 (n := 0) s1
  have r1 : Rel (ctx0 (phiOf W)) W (.agg [.d (vI b2), .d (vI b3), .d (vI b4)]) v1 := by
    have e : argA Tryz.prog 73 [vI b2, vI b3, vI b4] = (.agg [.d (vI b2), .d (vI b3), .d (vI b4)] : AV) := by unfold argA; rw [Tryz.underlying73]; rfl
    rw [← e]; exact r1
  obtain ⟨xs2, s2, r2⟩ := arg_rel (c := ctx0 (phiOf W)) (fun {_} => rfl) (bounds_phi W) codeBursts_plain.2.2 (hval 2 74 v2 rfl rfl) h2
  obtain ⟨b5, b6, rfl, w5, w6⟩ := sh74 (n := 0) s2
  have r2 : Rel (ctx0 (phiOf W)) W (.agg [.d (.sl b5.length (b5.map vI)), .d (.sl b6.length (b6.map vI))]) v2 := by
    have e : argA Tryz.prog 74 [.sl b5.length (b5.map vI), .sl b6.length (b6.map vI)] = (.agg [.d (.sl b5.length (b5.map vI)), .d (.sl b6.length (b6.map vI))] : AV) := by unfold argA; rw [Tryz.underlying74]; rfl
    rw [← e]; exact r2
  have hc : PureCalls Tryz.prog cfz.glob 7 [.agg [.d (vI b0), .d (vI b1)], .agg [.d (vI b2), .d (vI b3), .d (vI b4)], .agg [.d (.sl b5.length (b5.map vI)), .d (.sl b6.length (b6.map vI))]] (aB true) := f7 b0 b1 b2 b3 b4 b5.length (b5.map vI) b6.length (b6.map vI) true (bursts_true b0 b1 b2 b4 b3 b5 b6)
  refine (pure_true hc (glob_ok hL) (Rels.cons r0 (Rels.cons r1 (Rels.cons r2 Rels.nil)))).mono ?_
  rintro e W2 ⟨rfl, hb⟩
  exact ⟨_, rfl, law_post (tb := 4) laidOut rfl (by kernel_rfl) Tryz.underlying4 (by
    rw [Tryz.params7]
    intro t ht
    simp at ht
    rcases ht with rfl | rfl | rfl
    · exact ⟨by kernel_rfl, of_decide_eq_true (by kernel_rfl)⟩
    · exact ⟨by kernel_rfl, of_decide_eq_true (by kernel_rfl)⟩
    · exact ⟨by kernel_rfl, of_decide_eq_true (by kernel_rfl)⟩) hW' rfl hb⟩

theorem codeBursts_said : Rows.CodeBurstsSaid :=
  OpenClaim.holds_of_wide 7 Tryz.f7 rfl rfl rfl rfl rfl rfl rfl ⟨rfl, rfl, rfl, rfl, rfl⟩ rfl rfl rfl rfl rfl (by kernel_rfl) Tryz.func7 (by kernel_rfl)
    (of_decide_eq_true (by kernel_rfl)) (by unfold Func.isWrapper; first | (rw [if_pos (by decide +kernel)]; kernel_rfl) | (rw [if_neg (by decide +kernel)]; exact ⟨rfl, rfl⟩))
    (fun os started H enc _ => codeBursts_lifted os started H enc)

theorem codeBursts_card : Rows.CodeBurstsCardSaid :=
  Claim7.holds_tied_plain_at .later [] [.data, .data, .data, .widerDeep] true (true, "7ea06ffd6ddb7799912c3dbbb101e36cc1e3fcf0ee32eb8dda875d72666d5391") false
    codeBursts_said (fun _ h => by cases h) (by kernel_rfl) (fun _ h => by cases h) codeBursts_row_tie rfl ⟨rfl, rfl⟩ (by kernel_rfl) rfl
    (fun f fn hf hfn => by
      obtain rfl : f = 7 := Option.some.inj ((show Tryz.prog.funcNamed "kilovar/kilovarlaw03.CodeBursts" = some 7 by kernel_rfl).symm.trans hf) |>.symm
      obtain rfl : fn = Tryz.f7 := (Option.some.inj (Tryz.func7.symm.trans hfn)).symm
      exact ⟨by kernel_rfl, fun j t ht => by
        rw [Tryz.params7] at ht
        rcases j with _ | _ | _ | j
        · have h3 : t = 23 := by simpa using ht.symm
          subst h3
          exact (show Tryz.prog.wantsStandIn 23 = false by kernel_rfl)
        · have h3 : t = 73 := by simpa using ht.symm
          subst h3
          exact (show Tryz.prog.wantsStandIn 73 = false by kernel_rfl)
        · have h3 : t = 74 := by simpa using ht.symm
          subst h3
          exact (show Tryz.prog.wantsStandIn 74 = false by kernel_rfl)
        · simp at ht⟩)
    (by kernel_rfl)
end Go.Proofs.YtdelimpnnpifpaaGreatDoor
