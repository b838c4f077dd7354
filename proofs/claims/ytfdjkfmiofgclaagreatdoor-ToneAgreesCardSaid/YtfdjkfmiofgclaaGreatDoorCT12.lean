/- ToneAgrees holds for every input. Conditions: none beyond the given row and card. -/
import Derived.Test.YtfdjkfmiofgclaaGreatDoorKzR
import Derived.Test.YtfdjkfmiofgclaaGreatDoorKzS
import Derived.Test.YtfdjkfmiofgclaaGreatDoorGA15
import Derived.Test.YtfdjkfmiofgclaaGreatDoorKHz
import Derived.Test.YtfdjkfmiofgclaaGreatDoorCards
import Derived.Test.YtfdjkfmiofgclaaGreatDoorTie
namespace Go.Proofs.YtfdjkfmiofgclaaGreatDoor
set_option linter.all false
open Go Go.Kv Go.RowKit Go.ChangeShapes Go.WideShapes Go.ChangeAt Go.Proofs
set_option maxRecDepth 100000
theorem sh3 {n : Nat} {xs : List DV} (h : shapeD Tryz.prog (n + 1) 3 xs) : ∃ (a0 : Int), xs = [vI a0] ∧ (inI64 a0) := by
  rw [shapeD, Tryz.underlying3] at h
  obtain ⟨i, rfl, hw⟩ := h
  refine ⟨i, rfl, ?_⟩
  simp [Lit.wf, IntKind.min, IntKind.max, IntKind.signed, IntKind.bits] at hw
  first | exact hw | (unfold inI64; omega) | omega

def ok3 (x : Int) : Prop := inI64 x

theorem sh30 {n : Nat} {xs : List DV} (h : shapeD Tryz.prog (n + 2) 30 xs) : ∃ (a0 : List (Int)), xs = [.sl a0.length (a0.map vI)] ∧ ((a0.length ≤ maxLen ∧ ∀ e ∈ a0, ok3 e)) := by
  rw [shapeD, Tryz.underlying30] at h
  obtain ⟨ys, rfl, hm, hy⟩ := h
  obtain ⟨l, rfl, hl⟩ := list_of (enc := fun x => [vI x]) (R := ok3) (fun y hyy => by
    obtain ⟨a0, rfl, w0⟩ := sh3 (hy y hyy)
    exact ⟨a0, rfl, w0⟩)
  rw [List.length_map] at hm
  exact ⟨l, by rw [flat_one, List.length_map], hm, hl⟩

theorem sh5 {n : Nat} {xs : List DV} (h : shapeD Tryz.prog (n + 1) 5 xs) : ∃ (a0 : Int), xs = [.v (.int .u8 a0)] ∧ (0 ≤ a0 ∧ a0 ≤ 255) := by
  rw [shapeD, Tryz.underlying5] at h
  obtain ⟨i, rfl, hw⟩ := h
  refine ⟨i, rfl, ?_⟩
  simp [Lit.wf, IntKind.min, IntKind.max, IntKind.signed, IntKind.bits] at hw
  first | exact hw | (unfold inI64; omega) | omega

theorem sh127 {n : Nat} {xs : List DV} (h : shapeD Tryz.prog (n + 2) 127 xs) : ∃ (a0 : Int) (a1 : Int), xs = [.v (.int .u8 a0), .v (.int .u8 a1)] ∧ (0 ≤ a0 ∧ a0 ≤ 255) ∧ (0 ≤ a1 ∧ a1 ≤ 255) := by
  rw [shapeD, Tryz.underlying127] at h
  simp only [shapeN] at h
  obtain ⟨x0, r0, rfl, h0, x1, r1, rfl, h1, rfl⟩ := h
  obtain ⟨a0, rfl, w0⟩ := sh5 h0
  obtain ⟨a1, rfl, w1⟩ := sh5 h1
  exact ⟨a0, a1, rfl, w0, w1⟩

def enc127 (x : Int × Int) : List DV := [.v (.int .u8 x.1), .v (.int .u8 x.2)]

def ok127 (x : Int × Int) : Prop := (0 ≤ x.1 ∧ x.1 ≤ 255) ∧ (0 ≤ x.2 ∧ x.2 ≤ 255)

theorem sh126 {n : Nat} {xs : List DV} (h : shapeD Tryz.prog (n + 3) 126 xs) : ∃ (a0 : List (Int × Int)), xs = [.sl a0.length (a0.flatMap enc127)] ∧ ((a0.length ≤ maxLen ∧ ∀ e ∈ a0, ok127 e)) := by
  rw [shapeD, Tryz.underlying126] at h
  obtain ⟨ys, rfl, hm, hy⟩ := h
  obtain ⟨l, rfl, hl⟩ := list_of (enc := enc127) (R := ok127) (fun y hyy => by
    obtain ⟨a0, a1, rfl, w0, w1⟩ := sh127 (hy y hyy)
    exact ⟨(a0, a1), rfl, w0, w1⟩)
  rw [List.length_map] at hm
  exact ⟨l, by rw [List.length_map, List.flatMap_def], hm, hl⟩

theorem toneAgrees_plain : plainT Tryz.prog 2 30 = true ∧ plainT Tryz.prog 3 126 = true := ⟨by kernel_rfl, by kernel_rfl⟩

theorem toneAgrees_lifted (os : Os) (started : os.Started) (H : Type) (enc : TypeId × Value → H) :
    ReturnsInHanded {} Tryz.checked os 11 .any (fun w args => (Rows.toneAgreesSpec.pre enc Tryz.prog Tryz.f11 [] false w args ∧ laidMetH Tryz.prog laidL w) ∧ sizedMet enc Tryz.prog Tryz.f11 (OpenSpec.ofChange Rows.toneAgreesSpec) false w args)
      (Rows.toneAgreesSpec.post enc Tryz.prog Tryz.f11 false true false false) := by
  refine returnsInHanded_of_change_and (C := Tryz.checked) (X := fun w _ => laidMetH Tryz.prog laidL w) (fun _ _ _ hh h => h.of_heap hh) own started (by kernel_rfl) Tryz.func11
    (ChangeSpec.witness_shaped (enc := enc) (C := Tryz.checked) (os := os) (X := fun w _ => laidMetH Tryz.prog laidL w) false (World.doorLaid Tryz.prog 4000 os)
      #[.slice none 0 0, .slice none 0 0] 8 rfl (World.shaped_of_RefB (by kernel_rfl) (by kernel_rfl)) (by kernel_rfl) (by kernel_rfl) (by kernel_rfl) (door_met os _)) ?_
  intro W base args ds gs before hval0 hW _ _ hL _
  have hW' := hW
  obtain ⟨p, q, hA, hV, rfl, hfz, hnd⟩ := hW
  have hval : ∀ (j : Nat) t v, Tryz.f11.params[j]? = some t → args[j]? = some v → Value.okWide Tryz.prog W .any base t v := hval0
  have hA : DataW.TrodAll enc Tryz.prog W 0 (fun _ => true) true Tryz.f11.params.toList args.toList ds p := hA
  rw [Tryz.params11] at hA hval
  obtain ⟨v0, v1, d0, d1, p0, p1, rfl, rfl, rfl, h0, h1⟩ := trodAll_two hA
  obtain ⟨rfl, rfl⟩ := trodVars_none hV
  obtain ⟨xs0, s0, r0⟩ := arg_rel (c := ctx0 (phiOf W)) (fun {_} => rfl) (bounds_phi W) toneAgrees_plain.1 (hval 0 30 v0 rfl rfl) h0
  obtain ⟨b0, rfl, w0⟩ := sh30 (n := 0) s0
  have r0 : Rel (ctx0 (phiOf W)) W (.d (.sl b0.length (b0.map vI))) v0 := by
    have e : argA Tryz.prog 30 [.sl b0.length (b0.map vI)] = (.d (.sl b0.length (b0.map vI)) : AV) := by unfold argA; rw [Tryz.underlying30]; rfl
    rw [← e]; exact r0
  obtain ⟨xs1, s1, r1⟩ := arg_rel (c := ctx0 (phiOf W)) (fun {_} => rfl) (bounds_phi W) toneAgrees_plain.2 (hval 1 126 v1 rfl rfl) h1
  obtain ⟨b1, rfl, w1⟩ := sh126 (n := 0) s1
  have r1 : Rel (ctx0 (phiOf W)) W (.d (.sl b1.length (b1.flatMap enc127))) v1 := by
    have e : argA Tryz.prog 126 [.sl b1.length (b1.flatMap enc127)] = (.d (.sl b1.length (b1.flatMap enc127)) : AV) := by unfold argA; rw [Tryz.underlying126]; rfl
    rw [← e]; exact r1
  have hc : PureCalls Tryz.prog cfz.glob 11 [.d (.sl b0.length (b0.map vI)), .d (.sl b1.length (b1.flatMap enc127))] (aB true) := f11 b0.length (b0.map vI) b1.length (b1.flatMap enc127) true (agrees_true b0 b1 w0.1 (fun x hx => w1.2 x hx))
  refine (pure_true hc (glob_ok hL) (Rels.cons r0 (Rels.cons r1 Rels.nil))).mono ?_
  rintro e W2 ⟨rfl, hb⟩
  exact ⟨_, rfl, law_post (tb := 4) laidOut rfl (by kernel_rfl) Tryz.underlying4 (by
    rw [Tryz.params11]
    intro t ht
    simp at ht
    rcases ht with rfl | rfl
    · exact ⟨by kernel_rfl, of_decide_eq_true (by kernel_rfl)⟩
    · exact ⟨by kernel_rfl, of_decide_eq_true (by kernel_rfl)⟩) hW' rfl hb⟩

theorem toneAgrees_said : Rows.ToneAgreesSaid :=
  OpenClaim.holds_of_wide 11 Tryz.f11 rfl rfl rfl rfl rfl rfl rfl ⟨rfl, rfl, rfl, rfl, rfl⟩ rfl rfl rfl rfl rfl (by kernel_rfl) Tryz.func11 (by kernel_rfl)
    (of_decide_eq_true (by kernel_rfl)) (by unfold Func.isWrapper; first | (rw [if_pos (by decide +kernel)]; kernel_rfl) | (rw [if_neg (by decide +kernel)]; exact ⟨rfl, rfl⟩))
    (fun os started H enc _ => toneAgrees_lifted os started H enc)

theorem toneAgrees_card : Rows.ToneAgreesCardSaid :=
  Claim7.holds_tied_plain_at .later [] [.data, .data, .data, .widerDeep] true (true, "b82ba2e0634b42eb894f8c9dea2ed033dcd5bbe400e611f6788ab46e155db3ef") false
    toneAgrees_said (fun _ h => by cases h) (by kernel_rfl) (fun _ h => by cases h) toneAgrees_row_tie rfl ⟨rfl, rfl⟩ (by kernel_rfl) rfl
    (fun f fn hf hfn => by
      obtain rfl : f = 11 := Option.some.inj ((show Tryz.prog.funcNamed "kilovar/kilovarlaw02.ToneAgrees" = some 11 by kernel_rfl).symm.trans hf) |>.symm
      obtain rfl : fn = Tryz.f11 := (Option.some.inj (Tryz.func11.symm.trans hfn)).symm
      exact ⟨by kernel_rfl, fun j t ht => by
        rw [Tryz.params11] at ht
        rcases j with _ | _ | j
        · have h3 : t = 30 := by simpa using ht.symm
          subst h3
          exact (show Tryz.prog.wantsStandIn 30 = false by kernel_rfl)
        · have h3 : t = 126 := by simpa using ht.symm
          subst h3
          exact (show Tryz.prog.wantsStandIn 126 = false by kernel_rfl)
        · simp at ht⟩)
    (by kernel_rfl)
end Go.Proofs.YtfdjkfmiofgclaaGreatDoor
