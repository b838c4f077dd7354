/- CodeTexts holds for every input: Print and Parse return what the document says, or the first error. Conditions: none beyond the given row and card. -/
import Derived.Test.YtdelimpnnpifpaaGreatDoorKzR

import Derived.Test.YtdelimpnnpifpaaGreatDoorKTc
import Derived.Test.YtdelimpnnpifpaaGreatDoorCards
import Derived.Test.YtdelimpnnpifpaaGreatDoorTie
set_option linter.all false
namespace Go.Proofs.YtdelimpnnpifpaaGreatDoor
open Go Go.Kv Go.RowKit Go.ChangeShapes Go.WideShapes Go.ChangeAt Go.Proofs
set_option maxRecDepth 100000
theorem sh3 {n : Nat} {xs : List DV} (h : shapeD Tryz.prog (n + 1) 3 xs) : ∃ (a0 : Int), xs = [vI a0] ∧ (inI64 a0) := by
  rw [shapeD, Tryz.underlying3] at h
  obtain ⟨i, rfl, hw⟩ := h
  refine ⟨i, rfl, ?_⟩
  simp [Lit.wf, IntKind.min, IntKind.max, IntKind.signed, IntKind.bits] at hw
  first | exact hw | (unfold inI64; omega) | omega

theorem sh23 {n : Nat} {xs : List DV} (h : shapeD Tryz.prog (n + 2) 23 xs) : ∃ (a0 : Int) (a1 : Int), xs = [vI a0, vI a1] ∧ (inI64 a0) ∧ (inI64 a1) := by
  rw [shapeD, Tryz.underlying23] at h
  simp only [shapeFs] at h
  obtain ⟨x0, r0, rfl, h0, x1, r1, rfl, h1, rfl⟩ := h
  obtain ⟨a0, rfl, w0⟩ := sh3 h0
  obtain ⟨a1, rfl, w1⟩ := sh3 h1
  exact ⟨a0, a1, rfl, w0, w1⟩

def ok3 (x : Int) : Prop := inI64 x

theorem sh24 {n : Nat} {xs : List DV} (h : shapeD Tryz.prog (n + 2) 24 xs) : ∃ (a0 : List (Int)), xs = [.sl a0.length (a0.map vI)] ∧ ((a0.length ≤ maxLen ∧ ∀ e ∈ a0, ok3 e)) := by
  rw [shapeD, Tryz.underlying24] at h
  obtain ⟨ys, rfl, hm, hy⟩ := h
  obtain ⟨l, rfl, hl⟩ := list_of (enc := fun x => [vI x]) (R := ok3) (fun y hyy => by
    obtain ⟨a0, rfl, w0⟩ := sh3 (hy y hyy)
    exact ⟨a0, rfl, w0⟩)
  rw [List.length_map] at hm
  exact ⟨l, by rw [flat_one, List.length_map], hm, hl⟩

theorem sh9 {n : Nat} {xs : List DV} (h : shapeD Tryz.prog (n + 1) 9 xs) : ∃ (a0 : ByteArray), xs = [.v (.string a0)] ∧ (a0.size ≤ maxLen) := by
  rw [shapeD, Tryz.underlying9] at h
  obtain ⟨b, rfl, hw⟩ := h
  exact ⟨b, rfl, hw⟩

theorem codeTexts_plain : plainT Tryz.prog 2 23 = true ∧ plainT Tryz.prog 2 24 = true ∧ plainT Tryz.prog 1 9 = true := ⟨by kernel_rfl, by kernel_rfl, by kernel_rfl⟩

theorem codeTexts_lifted (os : Os) (started : os.Started) (H : Type) (enc : TypeId × Value → H) :
    ReturnsInHanded {} Tryz.checked os 12 .any (fun w args => (Rows.codeTextsSpec.pre enc Tryz.prog Tryz.f12 [] false w args ∧ laidMetH Tryz.prog laidL w) ∧ sizedMet enc Tryz.prog Tryz.f12 (OpenSpec.ofChange Rows.codeTextsSpec) false w args)
      (Rows.codeTextsSpec.post enc Tryz.prog Tryz.f12 false true false false) := by
  refine returnsInHanded_of_change_and (C := Tryz.checked) (X := fun w _ => laidMetH Tryz.prog laidL w) (fun _ _ _ hh h => h.of_heap hh) own started (by kernel_rfl) Tryz.func12
    (ChangeSpec.witness_shaped (enc := enc) (C := Tryz.checked) (os := os) (X := fun w _ => laidMetH Tryz.prog laidL w) false (World.laidAll Tryz.prog os laidL)
      #[.agg #[.int .i64 0, .int .i64 0], .slice none 0 0, .string ByteArray.empty] 8 (World.laidAll_os _ _ _) (World.shaped_of_ZipB (by kernel_rfl) (by kernel_rfl)) (by kernel_rfl) (by kernel_rfl) (by kernel_rfl) (door_met os _)) ?_
  intro W base args ds gs before hval0 hW _ _ hL _
  have hW' := hW
  obtain ⟨p, q, hA, hV, rfl, hfz, hnd⟩ := hW
  have hval : ∀ (j : Nat) t v, Tryz.f12.params[j]? = some t → args[j]? = some v → Value.okWide Tryz.prog W .any base t v := hval0
  have hA : DataW.TrodAll enc Tryz.prog W 0 (fun _ => true) true Tryz.f12.params.toList args.toList ds p := hA
  rw [Tryz.params12] at hA hval
  obtain ⟨v0, v1, v2, d0, d1, d2, p0, p1, p2, rfl, rfl, rfl, h0, h1, h2⟩ := trodAll_three hA
  obtain ⟨rfl, rfl⟩ := trodVars_none hV
  obtain ⟨xs0, s0, r0⟩ := arg_rel (c := ctx0 (phiOf W)) (fun {_} => rfl) (bounds_phi W) codeTexts_plain.1 (hval 0 23 v0 rfl rfl) h0
  obtain ⟨b0, b1, rfl, w0, w1⟩ := sh23 (n := 0) s0
  have r0 : Rel (ctx0 (phiOf W)) W (.agg [.d (vI b0), .d (vI b1)]) v0 := by
    have e : argA Tryz.prog 23 [vI b0, vI b1] = (.agg [.d (vI b0), .d (vI b1)] : AV) := by unfold argA; rw [Tryz.underlying23]; rfl
    rw [← e]; exact r0
  obtain ⟨xs1, s1, r1⟩ := arg_rel (c := ctx0 (phiOf W)) (fun {_} => rfl) (bounds_phi W) codeTexts_plain.2.1 (hval 1 24 v1 rfl rfl) h1
  obtain ⟨b2, rfl, w2⟩ := sh24 (n := 0) s1
  have r1 : Rel (ctx0 (phiOf W)) W (.d (.sl b2.length (b2.map vI))) v1 := by
    have e : argA Tryz.prog 24 [.sl b2.length (b2.map vI)] = (.d (.sl b2.length (b2.map vI)) : AV) := by unfold argA; rw [Tryz.underlying24]; rfl
    rw [← e]; exact r1
  obtain ⟨xs2, s2, r2⟩ := arg_rel (c := ctx0 (phiOf W)) (fun {_} => rfl) (bounds_phi W) codeTexts_plain.2.2 (hval 2 9 v2 rfl rfl) h2
  obtain ⟨b3, rfl, w3⟩ := sh9 (n := 0) s2
  have r2 : Rel (ctx0 (phiOf W)) W (.d (.v (.string b3))) v2 := by
    have e : argA Tryz.prog 9 [.v (.string b3)] = (.d (.v (.string b3)) : AV) := by unfold argA; rw [Tryz.underlying9]; rfl
    rw [← e]; exact r2
  have hc : PureCalls Tryz.prog cfz.glob 12 [.agg [.d (vI b0), .d (vI b1)], .d (.sl b2.length (b2.map vI)), .d (.v (.string b3))] (aB true) := f12 b0 b1 b2.length (b2.map vI) b3 true (texts_true b0 b1 b2 b3)
  refine (pure_true hc (glob_ok hL) (Rels.cons r0 (Rels.cons r1 (Rels.cons r2 Rels.nil)))).mono ?_
  rintro e W2 ⟨rfl, hb⟩
  exact ⟨_, rfl, law_post (tb := 4) laidOut rfl (by kernel_rfl) Tryz.underlying4 (by
    rw [Tryz.params12]
    intro t ht
    simp at ht
    rcases ht with rfl | rfl | rfl
    · exact ⟨by kernel_rfl, of_decide_eq_true (by kernel_rfl)⟩
    · exact ⟨by kernel_rfl, of_decide_eq_true (by kernel_rfl)⟩
    · exact ⟨by kernel_rfl, of_decide_eq_true (by kernel_rfl)⟩) hW' rfl hb⟩

theorem codeTexts_said : Rows.CodeTextsSaid :=
  OpenClaim.holds_of_wide 12 Tryz.f12 rfl rfl rfl rfl rfl rfl rfl ⟨rfl, rfl, rfl, rfl, rfl⟩ rfl rfl rfl rfl rfl (by kernel_rfl) Tryz.func12 (by kernel_rfl)
    (of_decide_eq_true (by kernel_rfl)) (by unfold Func.isWrapper; first | (rw [if_pos (by decide +kernel)]; kernel_rfl) | (rw [if_neg (by decide +kernel)]; exact ⟨rfl, rfl⟩))
    (fun os started H enc _ => codeTexts_lifted os started H enc)

theorem codeTexts_card : Rows.CodeTextsCardSaid :=
  Claim7.holds_tied_plain_at .later [] [.data, .data, .data, .data, .widerDeep, .pinned] true (true, "7ea06ffd6ddb7799912c3dbbb101e36cc1e3fcf0ee32eb8dda875d72666d5391") false
    codeTexts_said (fun _ h => by cases h) (by kernel_rfl) (fun _ h => by cases h) codeTexts_row_tie rfl ⟨rfl, rfl⟩ (by kernel_rfl) rfl
    (fun f fn hf hfn => by
      obtain rfl : f = 12 := Option.some.inj ((show Tryz.prog.funcNamed "kilovar/kilovarlaw03.CodeTexts" = some 12 by kernel_rfl).symm.trans hf) |>.symm
      obtain rfl : fn = Tryz.f12 := (Option.some.inj (Tryz.func12.symm.trans hfn)).symm
      exact ⟨by kernel_rfl, fun j t ht => by
        rw [Tryz.params12] at ht
        rcases j with _ | _ | _ | j
        · have h3 : t = 23 := by simpa using ht.symm
          subst h3
          exact (show Tryz.prog.wantsStandIn 23 = false by kernel_rfl)
        · have h3 : t = 24 := by simpa using ht.symm
          subst h3
          exact (show Tryz.prog.wantsStandIn 24 = false by kernel_rfl)
        · have h3 : t = 9 := by simpa using ht.symm
          subst h3
          exact (show Tryz.prog.wantsStandIn 9 = false by kernel_rfl)
        · simp at ht⟩)
    (by kernel_rfl)
end Go.Proofs.YtdelimpnnpifpaaGreatDoor
