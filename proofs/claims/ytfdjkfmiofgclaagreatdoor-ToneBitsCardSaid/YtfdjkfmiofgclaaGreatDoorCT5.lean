/- ToneBits holds for every input: Loaded and Unloaded return the results or the errors of the reference. Conditions: none beyond the given row and card. -/
import Derived.Test.YtfdjkfmiofgclaaGreatDoorKzR
import Derived.Test.YtfdjkfmiofgclaaGreatDoorKzS
import Derived.Test.YtfdjkfmiofgclaaGreatDoorKWb
import Derived.Test.YtfdjkfmiofgclaaGreatDoorCards
import Derived.Test.YtfdjkfmiofgclaaGreatDoorTie
namespace Go.Proofs.YtfdjkfmiofgclaaGreatDoor
set_option linter.unusedVariables false
set_option linter.unusedSimpArgs false
set_option linter.unnecessarySimpa false
open Go Go.Kv Go.RowKit Go.ChangeShapes Go.WideShapes Go.ChangeAt Go.Proofs
set_option maxRecDepth 100000
theorem sh3 {n : Nat} {xs : List DV} (h : shapeD Tryz.prog (n + 1) 3 xs) : ∃ (a0 : Int), xs = [vI a0] ∧ (inI64 a0) := by
  rw [shapeD, Tryz.underlying3] at h
  obtain ⟨i, rfl, hw⟩ := h
  refine ⟨i, rfl, ?_⟩
  simp [Lit.wf, IntKind.min, IntKind.max, IntKind.signed, IntKind.bits] at hw
  first | exact hw | (unfold inI64; omega) | omega

def ok3 (x : Int) : Prop := inI64 x

theorem sh30 {n : Nat} {xs : List DV} (h : shapeD Tryz.prog (n + 2) 30 xs) : ∃ (a0 : List (Int)), xs = [.sl a0.length (a0.map vI)] ∧ ((a0.length ≤ maxLen ∧ ∀ e ∈ a0, ok3 e)) := by
  rw [shapeD, Tryz.underlying30] at h
  obtain ⟨ys, rfl, hm, hy⟩ := h
  obtain ⟨l, rfl, hl⟩ := list_of (enc := fun x => [vI x]) (R := ok3) (fun y hyy => by
    obtain ⟨a0, rfl, w0⟩ := sh3 (hy y hyy)
    exact ⟨a0, rfl, w0⟩)
  rw [List.length_map] at hm
  exact ⟨l, by rw [flat_one, List.length_map], hm, hl⟩

theorem sh4 {n : Nat} {xs : List DV} (h : shapeD Tryz.prog (n + 1) 4 xs) : ∃ (a0 : Bool), xs = [.v (.bool a0)] ∧ (True) := by
  rw [shapeD, Tryz.underlying4] at h
  obtain ⟨b, rfl⟩ := h
  exact ⟨b, rfl, trivial⟩

def enc4c (x : Bool) : DV := .v (.bool x)

def ok4 (x : Bool) : Prop := True

theorem sh59 {n : Nat} {xs : List DV} (h : shapeD Tryz.prog (n + 2) 59 xs) : ∃ (a0 : List (Bool)), xs = [.sl a0.length (a0.map enc4c)] ∧ ((a0.length ≤ maxLen ∧ ∀ e ∈ a0, ok4 e)) := by
  rw [shapeD, Tryz.underlying59] at h
  obtain ⟨ys, rfl, hm, hy⟩ := h
  obtain ⟨l, rfl, hl⟩ := list_of (enc := fun x => [enc4c x]) (R := ok4) (fun y hyy => by
    obtain ⟨a0, rfl, w0⟩ := sh4 (hy y hyy)
    exact ⟨a0, rfl, w0⟩)
  rw [List.length_map] at hm
  exact ⟨l, by rw [flat_one, List.length_map], hm, hl⟩

def enc30c (x : (List (Int))) : DV := .sl x.length (x.map vI)

def ok30 (x : (List (Int))) : Prop := (x.length ≤ maxLen ∧ ∀ e ∈ x, ok3 e)

theorem sh60 {n : Nat} {xs : List DV} (h : shapeD Tryz.prog (n + 3) 60 xs) : ∃ (a0 : List ((List (Int)))), xs = [.sl a0.length (a0.map enc30c)] ∧ ((a0.length ≤ maxLen ∧ ∀ e ∈ a0, ok30 e)) := by
  rw [shapeD, Tryz.underlying60] at h
  obtain ⟨ys, rfl, hm, hy⟩ := h
  obtain ⟨l, rfl, hl⟩ := list_of (enc := fun x => [enc30c x]) (R := ok30) (fun y hyy => by
    obtain ⟨a0, rfl, w0⟩ := sh30 (hy y hyy)
    exact ⟨a0, rfl, w0⟩)
  rw [List.length_map] at hm
  exact ⟨l, by rw [flat_one, List.length_map], hm, hl⟩

theorem sh62 {n : Nat} {xs : List DV} (h : shapeD Tryz.prog (n + 4) 62 xs) : ∃ (a0 : List ((List (Int)))) (a1 : Int), xs = [.sl a0.length (a0.map enc30c), vI a1] ∧ ((a0.length ≤ maxLen ∧ ∀ e ∈ a0, ok30 e)) ∧ (inI64 a1) := by
  rw [shapeD, Tryz.underlying62] at h
  simp only [shapeFs] at h
  obtain ⟨x0, r0, rfl, h0, x1, r1, rfl, h1, rfl⟩ := h
  obtain ⟨a0, rfl, w0⟩ := sh60 h0
  obtain ⟨a1, rfl, w1⟩ := sh3 h1
  exact ⟨a0, a1, rfl, w0, w1⟩

theorem toneBits_plain : plainT Tryz.prog 2 30 = true ∧ plainT Tryz.prog 2 59 = true ∧ plainT Tryz.prog 4 62 = true := ⟨by kernel_rfl, by kernel_rfl, by kernel_rfl⟩

theorem toneBits_lifted (os : Os) (started : os.Started) (H : Type) (enc : TypeId × Value → H) :
    ReturnsInHanded {} Tryz.checked os 5 .any (fun w args => (Rows.toneBitsSpec.pre enc Tryz.prog Tryz.f5 [] false w args ∧ laidMetH Tryz.prog laidL w) ∧ sizedMet enc Tryz.prog Tryz.f5 (OpenSpec.ofChange Rows.toneBitsSpec) false w args)
      (Rows.toneBitsSpec.post enc Tryz.prog Tryz.f5 false true false false) := by
  refine returnsInHanded_of_change_and (C := Tryz.checked) (X := fun w _ => laidMetH Tryz.prog laidL w) (fun _ _ _ hh h => h.of_heap hh) own started (by kernel_rfl) Tryz.func5
    (ChangeSpec.witness_shaped (enc := enc) (C := Tryz.checked) (os := os) (X := fun w _ => laidMetH Tryz.prog laidL w) false (World.doorLaid Tryz.prog 4000 os)
      #[.slice none 0 0, .slice none 0 0, .agg #[.slice none 0 0, .int .i64 0]] 8 rfl (World.shaped_of_RefB (by kernel_rfl) (by kernel_rfl)) (by kernel_rfl) (by kernel_rfl) (by kernel_rfl) (door_met os _)) ?_
  intro W base args ds gs before hval0 hW _ _ hL _
  have hW' := hW
  obtain ⟨p, q, hA, hV, rfl, hfz, hnd⟩ := hW
  have hval : ∀ (j : Nat) t v, Tryz.f5.params[j]? = some t → args[j]? = some v → Value.okWide Tryz.prog W .any base t v := hval0
  have hA : DataW.TrodAll enc Tryz.prog W 0 (fun _ => true) true Tryz.f5.params.toList args.toList ds p := hA
  rw [Tryz.params5] at hA hval
  obtain ⟨v0, v1, v2, d0, d1, d2, p0, p1, p2, rfl, rfl, rfl, h0, h1, h2⟩ := trodAll_three hA
  obtain ⟨rfl, rfl⟩ := trodVars_none hV
  obtain ⟨xs0, s0, r0⟩ := arg_rel (c := ctx0 (phiOf W)) (fun {_} => rfl) (bounds_phi W) toneBits_plain.1 (hval 0 30 v0 rfl rfl) h0
  obtain ⟨b0, rfl, w0⟩ := sh30 (n := 0) s0
  have r0 : Rel (ctx0 (phiOf W)) W (.d (.sl b0.length (b0.map vI))) v0 := by
    have e : argA Tryz.prog 30 [.sl b0.length (b0.map vI)] = (.d (.sl b0.length (b0.map vI)) : AV) := by unfold argA; rw [Tryz.underlying30]; rfl
    rw [← e]; exact r0
  obtain ⟨xs1, s1, r1⟩ := arg_rel (c := ctx0 (phiOf W)) (fun {_} => rfl) (bounds_phi W) toneBits_plain.2.1 (hval 1 59 v1 rfl rfl) h1
  obtain ⟨b1, rfl, w1⟩ := sh59 (n := 0) s1
  have r1 : Rel (ctx0 (phiOf W)) W (.d (.sl b1.length (b1.map enc4c))) v1 := by
    have e : argA Tryz.prog 59 [.sl b1.length (b1.map enc4c)] = (.d (.sl b1.length (b1.map enc4c)) : AV) := by unfold argA; rw [Tryz.underlying59]; rfl
    rw [← e]; exact r1
  obtain ⟨xs2, s2, r2⟩ := arg_rel (c := ctx0 (phiOf W)) (fun {_} => rfl) (bounds_phi W) toneBits_plain.2.2 (hval 2 62 v2 rfl rfl) h2
  obtain ⟨b2, b3, rfl, w2, w3⟩ := sh62 (n := 0) s2
  have r2 : Rel (ctx0 (phiOf W)) W (.agg [.d (.sl b2.length (b2.map enc30c)), .d (vI b3)]) v2 := by
    have e : argA Tryz.prog 62 [.sl b2.length (b2.map enc30c), vI b3] = (.agg [.d (.sl b2.length (b2.map enc30c)), .d (vI b3)] : AV) := by unfold argA; rw [Tryz.underlying62]; rfl
    rw [← e]; exact r2
  have hc : PureCalls Tryz.prog cfz.glob 5 [.d (.sl b0.length (b0.map vI)), .d (.sl b1.length (b1.map enc4c)), .agg [.d (.sl b2.length (b2.map enc30c)), .d (vI b3)]] (aB true) := f5 b0.length (b0.map vI) b1.length (b1.map enc4c) b2.length (b2.map enc30c) b3 true (bits_true b0 b1 b2 b3 (Nat.le_trans w2.1 (by decide)))
  refine (pure_true hc (glob_ok hL) (Rels.cons r0 (Rels.cons r1 (Rels.cons r2 Rels.nil)))).mono ?_
  rintro e W2 ⟨rfl, hb⟩
  exact ⟨_, rfl, law_post (tb := 4) laidOut rfl (by kernel_rfl) Tryz.underlying4 (by
    rw [Tryz.params5]
    intro t ht
    simp at ht
    rcases ht with rfl | rfl | rfl
    · exact ⟨by kernel_rfl, of_decide_eq_true (by kernel_rfl)⟩
    · exact ⟨by kernel_rfl, of_decide_eq_true (by kernel_rfl)⟩
    · exact ⟨by kernel_rfl, of_decide_eq_true (by kernel_rfl)⟩) hW' rfl hb⟩

theorem toneBits_said : Rows.ToneBitsSaid :=
  OpenClaim.holds_of_wide 5 Tryz.f5 rfl rfl rfl rfl rfl rfl rfl ⟨rfl, rfl, rfl, rfl, rfl⟩ rfl rfl rfl rfl rfl (by kernel_rfl) Tryz.func5 (by kernel_rfl)
    (of_decide_eq_true (by kernel_rfl)) (by unfold Func.isWrapper; first | (rw [if_pos (by decide +kernel)]; kernel_rfl) | (rw [if_neg (by decide +kernel)]; exact ⟨rfl, rfl⟩))
    (fun os started H enc _ => toneBits_lifted os started H enc)

theorem toneBits_card : Rows.ToneBitsCardSaid :=
  Claim7.holds_tied_plain_at .later [] [.data, .data, .data, .widerDeep] true (true, "b82ba2e0634b42eb894f8c9dea2ed033dcd5bbe400e611f6788ab46e155db3ef") false
    toneBits_said (fun _ h => by cases h) (by kernel_rfl) (fun _ h => by cases h) toneBits_row_tie rfl ⟨rfl, rfl⟩ (by kernel_rfl) rfl
    (fun f fn hf hfn => by
      obtain rfl : f = 5 := Option.some.inj ((show Tryz.prog.funcNamed "kilovar/kilovarlaw02.ToneBits" = some 5 by kernel_rfl).symm.trans hf) |>.symm
      obtain rfl : fn = Tryz.f5 := (Option.some.inj (Tryz.func5.symm.trans hfn)).symm
      exact ⟨by kernel_rfl, fun j t ht => by
        rw [Tryz.params5] at ht
        rcases j with _ | _ | _ | j
        · have h3 : t = 30 := by simpa using ht.symm
          subst h3
          exact (show Tryz.prog.wantsStandIn 30 = false by kernel_rfl)
        · have h3 : t = 59 := by simpa using ht.symm
          subst h3
          exact (show Tryz.prog.wantsStandIn 59 = false by kernel_rfl)
        · have h3 : t = 62 := by simpa using ht.symm
          subst h3
          exact (show Tryz.prog.wantsStandIn 62 = false by kernel_rfl)
        · simp at ht⟩)
    (by kernel_rfl)
end Go.Proofs.YtfdjkfmiofgclaaGreatDoor
