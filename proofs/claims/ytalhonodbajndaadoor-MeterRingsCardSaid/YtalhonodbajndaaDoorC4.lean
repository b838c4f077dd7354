/- MeterRings holds for every input: a profile that stores entries one by one keeps the last ones, as many as it has room for; it reads them back whole and in part; and its greatest window is the first one of the greatest sum. Conditions: none beyond the given row and card. -/
import Derived.Test.YtalhonodbajndaaDoorKzR
import Derived.Test.YtalhonodbajndaaDoorKzS
import Derived.Test.YtalhonodbajndaaDoorKR4
import Derived.Test.YtalhonodbajndaaDoorCards
import Derived.Test.YtalhonodbajndaaDoorTie
namespace Go.Proofs.YtalhonodbajndaaDoor
set_option linter.unusedVariables false
set_option linter.unusedSimpArgs false
open Go Go.Kv Go.RowKit Go.ChangeShapes Go.WideShapes Go.ChangeAt Go.Proofs
set_option maxRecDepth 100000
theorem sh48 {n : Nat} {xs : List DV} (h : shapeD Tryd.prog (n + 1) 48 xs) : ∃ (a0 : Int), xs = [.v (.int .u16 a0)] ∧ (0 ≤ a0 ∧ a0 ≤ 65535) := by
  rw [shapeD, Tryd.underlying48] at h
  obtain ⟨i, rfl, hw⟩ := h
  refine ⟨i, rfl, ?_⟩
  simp [Lit.wf, IntKind.min, IntKind.max, IntKind.signed, IntKind.bits] at hw
  first | exact hw | (unfold inI64; omega) | omega

theorem sh53 {n : Nat} {xs : List DV} (h : shapeD Tryd.prog (n + 2) 53 xs) : ∃ (a0 : Int) (a1 : Int) (a2 : Int) (a3 : Int), xs = [.v (.int .u16 a0), .v (.int .u16 a1), .v (.int .u16 a2), .v (.int .u16 a3)] ∧ (0 ≤ a0 ∧ a0 ≤ 65535) ∧ (0 ≤ a1 ∧ a1 ≤ 65535) ∧ (0 ≤ a2 ∧ a2 ≤ 65535) ∧ (0 ≤ a3 ∧ a3 ≤ 65535) := by
  rw [shapeD, Tryd.underlying53] at h
  simp only [shapeN] at h
  obtain ⟨x0, r0, rfl, h0, x1, r1, rfl, h1, x2, r2, rfl, h2, x3, r3, rfl, h3, rfl⟩ := h
  obtain ⟨a0, rfl, w0⟩ := sh48 h0
  obtain ⟨a1, rfl, w1⟩ := sh48 h1
  obtain ⟨a2, rfl, w2⟩ := sh48 h2
  obtain ⟨a3, rfl, w3⟩ := sh48 h3
  exact ⟨a0, a1, a2, a3, rfl, w0, w1, w2, w3⟩

def enc53 (x : Int × Int × Int × Int) : List DV := [.v (.int .u16 x.1), .v (.int .u16 x.2.1), .v (.int .u16 x.2.2.1), .v (.int .u16 x.2.2.2)]

def ok53 (x : Int × Int × Int × Int) : Prop := (0 ≤ x.1 ∧ x.1 ≤ 65535) ∧ (0 ≤ x.2.1 ∧ x.2.1 ≤ 65535) ∧ (0 ≤ x.2.2.1 ∧ x.2.2.1 ≤ 65535) ∧ (0 ≤ x.2.2.2 ∧ x.2.2.2 ≤ 65535)

theorem sh47 {n : Nat} {xs : List DV} (h : shapeD Tryd.prog (n + 3) 47 xs) : ∃ (a0 : List (Int × Int × Int × Int)), xs = [.sl a0.length (a0.flatMap enc53)] ∧ ((a0.length ≤ maxLen ∧ ∀ e ∈ a0, ok53 e)) := by
  rw [shapeD, Tryd.underlying47] at h
  obtain ⟨ys, rfl, hm, hy⟩ := h
  obtain ⟨l, rfl, hl⟩ := list_of (enc := enc53) (R := ok53) (fun y hyy => by
    obtain ⟨a0, a1, a2, a3, rfl, w0, w1, w2, w3⟩ := sh53 (hy y hyy)
    exact ⟨(a0, a1, a2, a3), rfl, w0, w1, w2, w3⟩)
  rw [List.length_map] at hm
  exact ⟨l, by rw [List.length_map, List.flatMap_def], hm, hl⟩

theorem sh49 {n : Nat} {xs : List DV} (h : shapeD Tryd.prog (n + 2) 49 xs) : ∃ (a0 : Int) (a1 : Int) (a2 : Int), xs = [.v (.int .u16 a0), .v (.int .u16 a1), .v (.int .u16 a2)] ∧ (0 ≤ a0 ∧ a0 ≤ 65535) ∧ (0 ≤ a1 ∧ a1 ≤ 65535) ∧ (0 ≤ a2 ∧ a2 ≤ 65535) := by
  rw [shapeD, Tryd.underlying49] at h
  simp only [shapeN] at h
  obtain ⟨x0, r0, rfl, h0, x1, r1, rfl, h1, x2, r2, rfl, h2, rfl⟩ := h
  obtain ⟨a0, rfl, w0⟩ := sh48 h0
  obtain ⟨a1, rfl, w1⟩ := sh48 h1
  obtain ⟨a2, rfl, w2⟩ := sh48 h2
  exact ⟨a0, a1, a2, rfl, w0, w1, w2⟩

theorem meterRings_plain : plainT Tryd.prog 3 47 = true ∧ plainT Tryd.prog 2 49 = true := ⟨by kernel_rfl, by kernel_rfl⟩

theorem meterRings_lifted (os : Os) (started : os.Started) (H : Type) (enc : TypeId × Value → H) :
    ReturnsInHanded {} Tryd.checked os 4 .any (fun w args => (Rows.meterRingsSpec.pre enc Tryd.prog Tryd.f4 [] false w args ∧ laidMetH Tryd.prog laidL w) ∧ sizedMet enc Tryd.prog Tryd.f4 (OpenSpec.ofChange Rows.meterRingsSpec) false w args)
      (Rows.meterRingsSpec.post enc Tryd.prog Tryd.f4 false true false false) := by
  refine returnsInHanded_of_change_and (C := Tryd.checked) (X := fun w _ => laidMetH Tryd.prog laidL w) (fun _ _ _ hh h => h.of_heap hh) own started (by kernel_rfl) Tryd.func4
    (ChangeSpec.witness_shaped (enc := enc) (C := Tryd.checked) (os := os) (X := fun w _ => laidMetH Tryd.prog laidL w) false (World.doorLaid Tryd.prog 4000 os)
      #[.slice none 0 0, .agg #[.int .u16 0, .int .u16 0, .int .u16 0]] 8 rfl (World.shaped_of_RefB (by kernel_rfl) (by kernel_rfl)) (by kernel_rfl) (by kernel_rfl) (by kernel_rfl) (door_met os _)) ?_
  intro W base args ds gs before hval0 hW _ _ hL _
  have hW' := hW
  obtain ⟨p, q, hA, hV, rfl, hfz, hnd⟩ := hW
  have hval : ∀ (j : Nat) t v, Tryd.f4.params[j]? = some t → args[j]? = some v → Value.okWide Tryd.prog W .any base t v := hval0
  have hA : DataW.TrodAll enc Tryd.prog W 0 (fun _ => true) true Tryd.f4.params.toList args.toList ds p := hA
  rw [Tryd.params4] at hA hval
  obtain ⟨v0, v1, d0, d1, p0, p1, rfl, rfl, rfl, h0, h1⟩ := trodAll_two hA
  obtain ⟨rfl, rfl⟩ := trodVars_none hV
  obtain ⟨xs0, s0, r0⟩ := arg_rel (c := ctx0 (phiOf W)) (fun {_} => rfl) (bounds_phi W) meterRings_plain.1 (hval 0 47 v0 rfl rfl) h0
  obtain ⟨b0, rfl, w0⟩ := sh47 (n := 0) s0
  have r0 : Rel (ctx0 (phiOf W)) W (.d (.sl b0.length (b0.flatMap enc53))) v0 := by
    have e : argA Tryd.prog 47 [.sl b0.length (b0.flatMap enc53)] = (.d (.sl b0.length (b0.flatMap enc53)) : AV) := by unfold argA; rw [Tryd.underlying47]; rfl
    rw [← e]; exact r0
  obtain ⟨xs1, s1, r1⟩ := arg_rel (c := ctx0 (phiOf W)) (fun {_} => rfl) (bounds_phi W) meterRings_plain.2 (hval 1 49 v1 rfl rfl) h1
  obtain ⟨b1, b2, b3, rfl, w1, w2, w3⟩ := sh49 (n := 0) s1
  have r1 : Rel (ctx0 (phiOf W)) W (.agg [.d (.v (.int .u16 b1)), .d (.v (.int .u16 b2)), .d (.v (.int .u16 b3))]) v1 := by
    have e : argA Tryd.prog 49 [.v (.int .u16 b1), .v (.int .u16 b2), .v (.int .u16 b3)] = (.agg [.d (.v (.int .u16 b1)), .d (.v (.int .u16 b2)), .d (.v (.int .u16 b3))] : AV) := by unfold argA; rw [Tryd.underlying49]; rfl
    rw [← e]; exact r1
  have hc : PureCalls Tryd.prog cfz.glob 4 [.d (.sl b0.length (b0.flatMap enc53)), .agg [.d (.v (.int .u16 b1)), .d (.v (.int .u16 b2)), .d (.v (.int .u16 b3))]] (aB true) := f4 b0.length (b0.flatMap enc53) b1 b2 b3 true (rings_true b0 b1 b2 b3 (fun x hx => w0.2 x hx) w1 w2 w3)
  refine (pure_true hc (glob_ok hL) (Rels.cons r0 (Rels.cons r1 Rels.nil))).mono ?_
  rintro e W2 ⟨rfl, hb⟩
  exact ⟨_, rfl, law_post (tb := 4) laidOut rfl (by kernel_rfl) Tryd.underlying4 (by
    rw [Tryd.params4]
    intro t ht
    simp at ht
    rcases ht with rfl | rfl
    · exact ⟨by kernel_rfl, of_decide_eq_true (by kernel_rfl)⟩
    · exact ⟨by kernel_rfl, of_decide_eq_true (by kernel_rfl)⟩) hW' rfl hb⟩

theorem meterRings_said : Rows.MeterRingsSaid :=
  OpenClaim.holds_of_wide 4 Tryd.f4 rfl rfl rfl rfl rfl rfl rfl ⟨rfl, rfl, rfl, rfl, rfl⟩ rfl rfl rfl rfl rfl (by kernel_rfl) Tryd.func4 (by kernel_rfl)
    (of_decide_eq_true (by kernel_rfl)) (by unfold Func.isWrapper; first | (rw [if_pos (by decide +kernel)]; kernel_rfl) | (rw [if_neg (by decide +kernel)]; exact ⟨rfl, rfl⟩))
    (fun os started H enc _ => meterRings_lifted os started H enc)

theorem meterRings_card : Rows.MeterRingsCardSaid :=
  Claim7.holds_tied_plain_at .later [] [.data, .data, .data, .data] true (true, "ef8d55a9dd387cb5d90c0846bc97e25769b0db5184b456f779eaea31bbd13e4f") false
    meterRings_said (fun _ h => by cases h) (by kernel_rfl) (fun _ h => by cases h) meterRings_row_tie rfl ⟨rfl, rfl⟩ (by kernel_rfl) rfl
    (fun f fn hf hfn => by
      obtain rfl : f = 4 := Option.some.inj ((show Tryd.prog.funcNamed "kilovar/kilovarlaw06.MeterRings" = some 4 by kernel_rfl).symm.trans hf) |>.symm
      obtain rfl : fn = Tryd.f4 := (Option.some.inj (Tryd.func4.symm.trans hfn)).symm
      exact ⟨by kernel_rfl, fun j t ht => by
        rw [Tryd.params4] at ht
        rcases j with _ | _ | j
        · have h3 : t = 47 := by simpa using ht.symm
          subst h3
          exact (show Tryd.prog.wantsStandIn 47 = false by kernel_rfl)
        · have h3 : t = 49 := by simpa using ht.symm
          subst h3
          exact (show Tryd.prog.wantsStandIn 49 = false by kernel_rfl)
        · simp at ht⟩)
    (by kernel_rfl)
end Go.Proofs.YtalhonodbajndaaDoor
