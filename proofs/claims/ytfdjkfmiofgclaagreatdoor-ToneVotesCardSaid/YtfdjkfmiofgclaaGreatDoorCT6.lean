/- ToneVotes holds for every input: Voted returns the result or the error of the reference. Conditions: none beyond the given row and card. -/
import Derived.Test.YtfdjkfmiofgclaaGreatDoorKzR
import Derived.Test.YtfdjkfmiofgclaaGreatDoorKzS
import Derived.Test.YtfdjkfmiofgclaaGreatDoorKV5
import Derived.Test.YtfdjkfmiofgclaaGreatDoorCards
import Derived.Test.YtfdjkfmiofgclaaGreatDoorTie
namespace Go.Proofs.YtfdjkfmiofgclaaGreatDoor
set_option linter.unusedVariables false
set_option linter.unusedSimpArgs false
set_option linter.unnecessarySimpa false
open Go Go.Kv Go.RowKit Go.ChangeShapes Go.WideShapes Go.ChangeAt Go.Proofs
set_option maxRecDepth 100000
theorem sh3 {n : Nat} {xs : List DV} (h : shapeD Tryz.prog (n + 1) 3 xs) : ∃ (a0 : Int), xs = [vI a0] ∧ (inI64 a0) := by
  rw [shapeD, Tryz.underlying3] at h
  obtain ⟨i, rfl, hw⟩ := h
  refine ⟨i, rfl, ?_⟩
  simp [Lit.wf, IntKind.min, IntKind.max, IntKind.signed, IntKind.bits] at hw
  first | exact hw | (unfold inI64; omega) | omega

def ok3 (x : Int) : Prop := inI64 x

theorem sh30 {n : Nat} {xs : List DV} (h : shapeD Tryz.prog (n + 2) 30 xs) : ∃ (a0 : List (Int)), xs = [.sl a0.length (a0.map vI)] ∧ ((a0.length ≤ maxLen ∧ ∀ e ∈ a0, ok3 e)) := by
  rw [shapeD, Tryz.underlying30] at h
  obtain ⟨ys, rfl, hm, hy⟩ := h
  obtain ⟨l, rfl, hl⟩ := list_of (enc := fun x => [vI x]) (R := ok3) (fun y hyy => by
    obtain ⟨a0, rfl, w0⟩ := sh3 (hy y hyy)
    exact ⟨a0, rfl, w0⟩)
  rw [List.length_map] at hm
  exact ⟨l, by rw [flat_one, List.length_map], hm, hl⟩

def enc30c (x : (List (Int))) : DV := .sl x.length (x.map vI)

def ok30 (x : (List (Int))) : Prop := (x.length ≤ maxLen ∧ ∀ e ∈ x, ok3 e)

theorem sh60 {n : Nat} {xs : List DV} (h : shapeD Tryz.prog (n + 3) 60 xs) : ∃ (a0 : List ((List (Int)))), xs = [.sl a0.length (a0.map enc30c)] ∧ ((a0.length ≤ maxLen ∧ ∀ e ∈ a0, ok30 e)) := by
  rw [shapeD, Tryz.underlying60] at h
  obtain ⟨ys, rfl, hm, hy⟩ := h
  obtain ⟨l, rfl, hl⟩ := list_of (enc := fun x => [enc30c x]) (R := ok30) (fun y hyy => by
    obtain ⟨a0, rfl, w0⟩ := sh30 (hy y hyy)
    exact ⟨a0, rfl, w0⟩)
  rw [List.length_map] at hm
  exact ⟨l, by rw [flat_one, List.length_map], hm, hl⟩

theorem toneVotes_plain : plainT Tryz.prog 3 60 = true := by kernel_rfl

theorem toneVotes_lifted (os : Os) (started : os.Started) (H : Type) (enc : TypeId × Value → H) :
    ReturnsInHanded {} Tryz.checked os 6 .any (fun w args => (Rows.toneVotesSpec.pre enc Tryz.prog Tryz.f6 [] false w args ∧ laidMetH Tryz.prog laidL w) ∧ sizedMet enc Tryz.prog Tryz.f6 (OpenSpec.ofChange Rows.toneVotesSpec) false w args)
      (Rows.toneVotesSpec.post enc Tryz.prog Tryz.f6 false true false false) := by
  refine returnsInHanded_of_change_and (C := Tryz.checked) (X := fun w _ => laidMetH Tryz.prog laidL w) (fun _ _ _ hh h => h.of_heap hh) own started (by kernel_rfl) Tryz.func6
    (ChangeSpec.witness_shaped (enc := enc) (C := Tryz.checked) (os := os) (X := fun w _ => laidMetH Tryz.prog laidL w) false (World.doorLaid Tryz.prog 4000 os)
      #[.slice none 0 0] 8 rfl (World.shaped_of_RefB (by kernel_rfl) (by kernel_rfl)) (by kernel_rfl) (by kernel_rfl) (by kernel_rfl) (door_met os _)) ?_
  intro W base args ds gs before hval0 hW _ _ hL _
  have hW' := hW
  obtain ⟨p, q, hA, hV, rfl, hfz, hnd⟩ := hW
  have hval : ∀ (j : Nat) t v, Tryz.f6.params[j]? = some t → args[j]? = some v → Value.okWide Tryz.prog W .any base t v := hval0
  have hA : DataW.TrodAll enc Tryz.prog W 0 (fun _ => true) true Tryz.f6.params.toList args.toList ds p := hA
  rw [Tryz.params6] at hA hval
  obtain ⟨v0, d0, rfl, rfl, h0⟩ := trodAll_one hA
  obtain ⟨rfl, rfl⟩ := trodVars_none hV
  obtain ⟨xs0, s0, r0⟩ := arg_rel (c := ctx0 (phiOf W)) (fun {_} => rfl) (bounds_phi W) toneVotes_plain (hval 0 60 v0 rfl rfl) h0
  obtain ⟨b0, rfl, w0⟩ := sh60 (n := 0) s0
  have r0 : Rel (ctx0 (phiOf W)) W (.d (.sl b0.length (b0.map enc30c))) v0 := by
    have e : argA Tryz.prog 60 [.sl b0.length (b0.map enc30c)] = (.d (.sl b0.length (b0.map enc30c)) : AV) := by unfold argA; rw [Tryz.underlying60]; rfl
    rw [← e]; exact r0
  have hc : PureCalls Tryz.prog cfz.glob 6 [.d (.sl b0.length (b0.map enc30c))] (aB true) := f6 b0.length (b0.map enc30c) true (votes_true b0)
  refine (pure_true hc (glob_ok hL) (Rels.cons r0 Rels.nil)).mono ?_
  rintro e W2 ⟨rfl, hb⟩
  exact ⟨_, rfl, law_post (tb := 4) laidOut rfl (by kernel_rfl) Tryz.underlying4 (by
    rw [Tryz.params6]
    intro t ht
    simp at ht
    subst ht
    exact ⟨by kernel_rfl, of_decide_eq_true (by kernel_rfl)⟩) hW' rfl hb⟩

theorem toneVotes_said : Rows.ToneVotesSaid :=
  OpenClaim.holds_of_wide 6 Tryz.f6 rfl rfl rfl rfl rfl rfl rfl ⟨rfl, rfl, rfl, rfl, rfl⟩ rfl rfl rfl rfl rfl (by kernel_rfl) Tryz.func6 (by kernel_rfl)
    (of_decide_eq_true (by kernel_rfl)) (by unfold Func.isWrapper; first | (rw [if_pos (by decide +kernel)]; kernel_rfl) | (rw [if_neg (by decide +kernel)]; exact ⟨rfl, rfl⟩))
    (fun os started H enc _ => toneVotes_lifted os started H enc)

theorem toneVotes_card : Rows.ToneVotesCardSaid :=
  Claim7.holds_tied_plain_at .later [] [.data, .data, .data, .widerDeep] true (true, "b82ba2e0634b42eb894f8c9dea2ed033dcd5bbe400e611f6788ab46e155db3ef") false
    toneVotes_said (fun _ h => by cases h) (by kernel_rfl) (fun _ h => by cases h) toneVotes_row_tie rfl ⟨rfl, rfl⟩ (by kernel_rfl) rfl
    (fun f fn hf hfn => by
      obtain rfl : f = 6 := Option.some.inj ((show Tryz.prog.funcNamed "kilovar/kilovarlaw02.ToneVotes" = some 6 by kernel_rfl).symm.trans hf) |>.symm
      obtain rfl : fn = Tryz.f6 := (Option.some.inj (Tryz.func6.symm.trans hfn)).symm
      exact ⟨by kernel_rfl, fun j t ht => by
        rw [Tryz.params6] at ht
        rcases j with _ | j
        · have h3 : t = 60 := by simpa using ht.symm
          subst h3
          exact (show Tryz.prog.wantsStandIn 60 = false by kernel_rfl)
        · simp at ht⟩)
    (by kernel_rfl)
end Go.Proofs.YtfdjkfmiofgclaaGreatDoor
