/- CodeVotes holds for every input: what is repeated, voted, and nibbles are what the document says. Conditions: none beyond the given row and card. -/
import Derived.Test.YtdelimpnnpifpaaGreatDoorKzR
import Derived.Test.YtdelimpnnpifpaaGreatDoorKVe
import Derived.Test.YtdelimpnnpifpaaGreatDoorCards
import Derived.Test.YtdelimpnnpifpaaGreatDoorTie
set_option linter.all false
namespace Go.Proofs.YtdelimpnnpifpaaGreatDoor
open Go Go.Kv Go.RowKit Go.ChangeShapes Go.WideShapes Go.ChangeAt Go.Proofs
set_option maxRecDepth 100000
theorem sh3 {n : Nat} {xs : List DV} (h : shapeD Tryz.prog (n + 1) 3 xs) : ∃ (a0 : Int), xs = [vI a0] ∧ (inI64 a0) := by
  rw [shapeD, Tryz.underlying3] at h
  obtain ⟨i, rfl, hw⟩ := h
  refine ⟨i, rfl, ?_⟩
  simp [Lit.wf, IntKind.min, IntKind.max, IntKind.signed, IntKind.bits] at hw
  first | exact hw | (unfold inI64; omega) | omega

def ok3 (x : Int) : Prop := inI64 x

theorem sh24 {n : Nat} {xs : List DV} (h : shapeD Tryz.prog (n + 2) 24 xs) : ∃ (a0 : List (Int)), xs = [.sl a0.length (a0.map vI)] ∧ ((a0.length ≤ maxLen ∧ ∀ e ∈ a0, ok3 e)) := by
  rw [shapeD, Tryz.underlying24] at h
  obtain ⟨ys, rfl, hm, hy⟩ := h
  obtain ⟨l, rfl, hl⟩ := list_of (enc := fun x => [vI x]) (R := ok3) (fun y hyy => by
    obtain ⟨a0, rfl, w0⟩ := sh3 (hy y hyy)
    exact ⟨a0, rfl, w0⟩)
  rw [List.length_map] at hm
  exact ⟨l, by rw [flat_one, List.length_map], hm, hl⟩

def enc24c (x : (List (Int))) : DV := .sl x.length (x.map vI)

def ok24 (x : (List (Int))) : Prop := (x.length ≤ maxLen ∧ ∀ e ∈ x, ok3 e)

theorem sh61 {n : Nat} {xs : List DV} (h : shapeD Tryz.prog (n + 3) 61 xs) : ∃ (a0 : List ((List (Int)))), xs = [.sl a0.length (a0.map enc24c)] ∧ ((a0.length ≤ maxLen ∧ ∀ e ∈ a0, ok24 e)) := by
  rw [shapeD, Tryz.underlying61] at h
  obtain ⟨ys, rfl, hm, hy⟩ := h
  obtain ⟨l, rfl, hl⟩ := list_of (enc := fun x => [enc24c x]) (R := ok24) (fun y hyy => by
    obtain ⟨a0, rfl, w0⟩ := sh24 (hy y hyy)
    exact ⟨a0, rfl, w0⟩)
  rw [List.length_map] at hm
  exact ⟨l, by rw [flat_one, List.length_map], hm, hl⟩

theorem sh85 {n : Nat} {xs : List DV} (h : shapeD Tryz.prog (n + 4) 85 xs) : ∃ (a0 : List ((List (Int)))) (a1 : Int), xs = [.sl a0.length (a0.map enc24c), vI a1] ∧ ((a0.length ≤ maxLen ∧ ∀ e ∈ a0, ok24 e)) ∧ (inI64 a1) := by
  rw [shapeD, Tryz.underlying85] at h
  simp only [shapeFs] at h
  obtain ⟨x0, r0, rfl, h0, x1, r1, rfl, h1, rfl⟩ := h
  obtain ⟨a0, rfl, w0⟩ := sh61 h0
  obtain ⟨a1, rfl, w1⟩ := sh3 h1
  exact ⟨a0, a1, rfl, w0, w1⟩

theorem sh5 {n : Nat} {xs : List DV} (h : shapeD Tryz.prog (n + 1) 5 xs) : ∃ (a0 : Int), xs = [.v (.int .u8 a0)] ∧ (0 ≤ a0 ∧ a0 ≤ 255) := by
  rw [shapeD, Tryz.underlying5] at h
  obtain ⟨i, rfl, hw⟩ := h
  refine ⟨i, rfl, ?_⟩
  simp [Lit.wf, IntKind.min, IntKind.max, IntKind.signed, IntKind.bits] at hw
  first | exact hw | (unfold inI64; omega) | omega

def enc5c (x : Int) : DV := .v (.int .u8 x)

def ok5 (x : Int) : Prop := 0 ≤ x ∧ x ≤ 255

theorem sh86 {n : Nat} {xs : List DV} (h : shapeD Tryz.prog (n + 2) 86 xs) : ∃ (a0 : List (Int)), xs = [.sl a0.length (a0.map enc5c)] ∧ ((a0.length ≤ maxLen ∧ ∀ e ∈ a0, ok5 e)) := by
  rw [shapeD, Tryz.underlying86] at h
  obtain ⟨ys, rfl, hm, hy⟩ := h
  obtain ⟨l, rfl, hl⟩ := list_of (enc := fun x => [enc5c x]) (R := ok5) (fun y hyy => by
    obtain ⟨a0, rfl, w0⟩ := sh5 (hy y hyy)
    exact ⟨a0, rfl, w0⟩)
  rw [List.length_map] at hm
  exact ⟨l, by rw [flat_one, List.length_map], hm, hl⟩

theorem codeVotes_plain : plainT Tryz.prog 2 24 = true ∧ plainT Tryz.prog 4 85 = true ∧ plainT Tryz.prog 2 86 = true := ⟨by kernel_rfl, by kernel_rfl, by kernel_rfl⟩

theorem codeVotes_lifted (os : Os) (started : os.Started) (H : Type) (enc : TypeId × Value → H) :
    ReturnsInHanded {} Tryz.checked os 8 .any (fun w args => (Rows.codeVotesSpec.pre enc Tryz.prog Tryz.f8 [] false w args ∧ laidMetH Tryz.prog laidL w) ∧ sizedMet enc Tryz.prog Tryz.f8 (OpenSpec.ofChange Rows.codeVotesSpec) false w args)
      (Rows.codeVotesSpec.post enc Tryz.prog Tryz.f8 false true false false) := by
  refine returnsInHanded_of_change_and (C := Tryz.checked) (X := fun w _ => laidMetH Tryz.prog laidL w) (fun _ _ _ hh h => h.of_heap hh) own started (by kernel_rfl) Tryz.func8
    (ChangeSpec.witness_shaped (enc := enc) (C := Tryz.checked) (os := os) (X := fun w _ => laidMetH Tryz.prog laidL w) false (World.doorLaid Tryz.prog 4000 os)
      #[.slice none 0 0, .agg #[.slice none 0 0, .int .i64 0], .slice none 0 0] 8 rfl (World.shaped_of_RefB (by kernel_rfl) (by kernel_rfl)) (by kernel_rfl) (by kernel_rfl) (by kernel_rfl) (door_met os _)) ?_
  intro W base args ds gs before hval0 hW _ _ hL _
  have hW' := hW
  obtain ⟨p, q, hA, hV, rfl, hfz, hnd⟩ := hW
  have hval : ∀ (j : Nat) t v, Tryz.f8.params[j]? = some t → args[j]? = some v → Value.okWide Tryz.prog W .any base t v := hval0
  have hA : DataW.TrodAll enc Tryz.prog W 0 (fun _ => true) true Tryz.f8.params.toList args.toList ds p := hA
  rw [Tryz.params8] at hA hval
  obtain ⟨v0, v1, v2, d0, d1, d2, p0, p1, p2, rfl, rfl, rfl, h0, h1, h2⟩ := trodAll_three hA
  obtain ⟨rfl, rfl⟩ := trodVars_none hV
  obtain ⟨xs0, s0, r0⟩ := arg_rel (c := ctx0 (phiOf W)) (fun {_} => rfl) (bounds_phi W) codeVotes_plain.1 (hval 0 24 v0 rfl rfl) h0
  obtain ⟨b0, rfl, w0⟩ := sh24 (n := 0) s0
  have r0 : Rel (ctx0 (phiOf W)) W (.d (.sl b0.length (b0.map vI))) v0 := by
    have e : argA Tryz.prog 24 [.sl b0.length (b0.map vI)] = (.d (.sl b0.length (b0.map vI)) : AV) := by unfold argA; rw [Tryz.underlying24]; rfl
    rw [← e]; exact r0
  obtain ⟨xs1, s1, r1⟩ := arg_rel (c := ctx0 (phiOf W)) (fun {_} => rfl) (bounds_phi W) codeVotes_plain.2.1 (hval 1 85 v1 rfl rfl) h1
  obtain ⟨b1, b2, rfl, w1, w2⟩ := sh85 (n := 0) s1
  have r1 : Rel (ctx0 (phiOf W)) W (.agg [.d (.sl b1.length (b1.map enc24c)), .d (vI b2)]) v1 := by
    have e : argA Tryz.prog 85 [.sl b1.length (b1.map enc24c), vI b2] = (.agg [.d (.sl b1.length (b1.map enc24c)), .d (vI b2)] : AV) := by unfold argA; rw [Tryz.underlying85]; rfl
    rw [← e]; exact r1
  obtain ⟨xs2, s2, r2⟩ := arg_rel (c := ctx0 (phiOf W)) (fun {_} => rfl) (bounds_phi W) codeVotes_plain.2.2 (hval 2 86 v2 rfl rfl) h2
  obtain ⟨b3, rfl, w3⟩ := sh86 (n := 0) s2
  have r2 : Rel (ctx0 (phiOf W)) W (.d (.sl b3.length (b3.map enc5c))) v2 := by
    have e : argA Tryz.prog 86 [.sl b3.length (b3.map enc5c)] = (.d (.sl b3.length (b3.map enc5c)) : AV) := by unfold argA; rw [Tryz.underlying86]; rfl
    rw [← e]; exact r2
  have hc : PureCalls Tryz.prog cfz.glob 8 [.d (.sl b0.length (b0.map vI)), .agg [.d (.sl b1.length (b1.map enc24c)), .d (vI b2)], .d (.sl b3.length (b3.map enc5c))] (aB true) := f8 b0.length (b0.map vI) b1.length (b1.map enc24c) b2 b3.length (b3.map enc5c) true (votes_true b0 b1 w1.1 b2 b3 (fun x hx => w3.2 x hx))
  refine (pure_true hc (glob_ok hL) (Rels.cons r0 (Rels.cons r1 (Rels.cons r2 Rels.nil)))).mono ?_
  rintro e W2 ⟨rfl, hb⟩
  exact ⟨_, rfl, law_post (tb := 4) laidOut rfl (by kernel_rfl) Tryz.underlying4 (by
    rw [Tryz.params8]
    intro t ht
    simp at ht
    rcases ht with rfl | rfl | rfl
    · exact ⟨by kernel_rfl, of_decide_eq_true (by kernel_rfl)⟩
    · exact ⟨by kernel_rfl, of_decide_eq_true (by kernel_rfl)⟩
    · exact ⟨by kernel_rfl, of_decide_eq_true (by kernel_rfl)⟩) hW' rfl hb⟩

theorem codeVotes_said : Rows.CodeVotesSaid :=
  OpenClaim.holds_of_wide 8 Tryz.f8 rfl rfl rfl rfl rfl rfl rfl ⟨rfl, rfl, rfl, rfl, rfl⟩ rfl rfl rfl rfl rfl (by kernel_rfl) Tryz.func8 (by kernel_rfl)
    (of_decide_eq_true (by kernel_rfl)) (by unfold Func.isWrapper; first | (rw [if_pos (by decide +kernel)]; kernel_rfl) | (rw [if_neg (by decide +kernel)]; exact ⟨rfl, rfl⟩))
    (fun os started H enc _ => codeVotes_lifted os started H enc)

theorem codeVotes_card : Rows.CodeVotesCardSaid :=
  Claim7.holds_tied_plain_at .later [] [.data, .data, .data, .widerDeep] true (true, "7ea06ffd6ddb7799912c3dbbb101e36cc1e3fcf0ee32eb8dda875d72666d5391") false
    codeVotes_said (fun _ h => by cases h) (by kernel_rfl) (fun _ h => by cases h) codeVotes_row_tie rfl ⟨rfl, rfl⟩ (by kernel_rfl) rfl
    (fun f fn hf hfn => by
      obtain rfl : f = 8 := Option.some.inj ((show Tryz.prog.funcNamed "kilovar/kilovarlaw03.CodeVotes" = some 8 by kernel_rfl).symm.trans hf) |>.symm
      obtain rfl : fn = Tryz.f8 := (Option.some.inj (Tryz.func8.symm.trans hfn)).symm
      exact ⟨by kernel_rfl, fun j t ht => by
        rw [Tryz.params8] at ht
        rcases j with _ | _ | _ | j
        · have h3 : t = 24 := by simpa using ht.symm
          subst h3
          exact (show Tryz.prog.wantsStandIn 24 = false by kernel_rfl)
        · have h3 : t = 85 := by simpa using ht.symm
          subst h3
          exact (show Tryz.prog.wantsStandIn 85 = false by kernel_rfl)
        · have h3 : t = 86 := by simpa using ht.symm
          subst h3
          exact (show Tryz.prog.wantsStandIn 86 = false by kernel_rfl)
        · simp at ht⟩)
    (by kernel_rfl)
end Go.Proofs.YtdelimpnnpifpaaGreatDoor
