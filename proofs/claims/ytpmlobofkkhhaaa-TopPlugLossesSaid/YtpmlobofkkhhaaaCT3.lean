/- TopPlugLosses holds for every input: the real energy lies in the interval of the units that are read, and so what is fed less what was counted lies in the balance, and a verdict is never wrong. Conditions: none beyond the given row. -/
import Derived.Test.YtpmlobofkkhhaaaKzR
import Derived.Test.YtpmlobofkkhhaaaKzS
import Derived.Test.YtpmlobofkkhhaaaKT3
namespace Go.Proofs.Ytpmlobofkkhhaaa
set_option linter.unusedVariables false
set_option linter.unusedSimpArgs false
open Go Go.Kv Go.RowKit Go.ChangeShapes Go.WideShapes Go.ChangeAt Go.Proofs
set_option maxRecDepth 100000
theorem sh25 {n : Nat} {xs : List DV} (h : shapeD Try.prog (n + 1) 25 xs) : ∃ (a0 : Int), xs = [.v (.int .u16 a0)] ∧ (0 ≤ a0 ∧ a0 ≤ 65535) := by
  rw [shapeD, Try.underlying25] at h
  obtain ⟨i, rfl, hw⟩ := h
  refine ⟨i, rfl, ?_⟩
  simp [Lit.wf, IntKind.min, IntKind.max, IntKind.signed, IntKind.bits] at hw
  first | exact hw | (unfold inI64; omega) | omega

theorem sh26 {n : Nat} {xs : List DV} (h : shapeD Try.prog (n + 2) 26 xs) : ∃ (a0 : Int) (a1 : Int) (a2 : Int), xs = [.v (.int .u16 a0), .v (.int .u16 a1), .v (.int .u16 a2)] ∧ (0 ≤ a0 ∧ a0 ≤ 65535) ∧ (0 ≤ a1 ∧ a1 ≤ 65535) ∧ (0 ≤ a2 ∧ a2 ≤ 65535) := by
  rw [shapeD, Try.underlying26] at h
  simp only [shapeN] at h
  obtain ⟨x0, r0, rfl, h0, x1, r1, rfl, h1, x2, r2, rfl, h2, rfl⟩ := h
  obtain ⟨a0, rfl, w0⟩ := sh25 h0
  obtain ⟨a1, rfl, w1⟩ := sh25 h1
  obtain ⟨a2, rfl, w2⟩ := sh25 h2
  exact ⟨a0, a1, a2, rfl, w0, w1, w2⟩

def enc26 (x : Int × Int × Int) : List DV := [.v (.int .u16 x.1), .v (.int .u16 x.2.1), .v (.int .u16 x.2.2)]

def ok26 (x : Int × Int × Int) : Prop := (0 ≤ x.1 ∧ x.1 ≤ 65535) ∧ (0 ≤ x.2.1 ∧ x.2.1 ≤ 65535) ∧ (0 ≤ x.2.2 ∧ x.2.2 ≤ 65535)

theorem sh22 {n : Nat} {xs : List DV} (h : shapeD Try.prog (n + 3) 22 xs) : ∃ (a0 : List (Int × Int × Int)), xs = [.sl a0.length (a0.flatMap enc26)] ∧ ((a0.length ≤ maxLen ∧ ∀ e ∈ a0, ok26 e)) := by
  rw [shapeD, Try.underlying22] at h
  obtain ⟨ys, rfl, hm, hy⟩ := h
  obtain ⟨l, rfl, hl⟩ := list_of (enc := enc26) (R := ok26) (fun y hyy => by
    obtain ⟨a0, a1, a2, rfl, w0, w1, w2⟩ := sh26 (hy y hyy)
    exact ⟨(a0, a1, a2), rfl, w0, w1, w2⟩)
  rw [List.length_map] at hm
  exact ⟨l, by rw [List.length_map, List.flatMap_def], hm, hl⟩

theorem sh21 {n : Nat} {xs : List DV} (h : shapeD Try.prog (n + 1) 21 xs) : ∃ (a0 : Int), xs = [.v (.int .i32 a0)] ∧ (-2147483648 ≤ a0 ∧ a0 ≤ 2147483647) := by
  rw [shapeD, Try.underlying21] at h
  obtain ⟨i, rfl, hw⟩ := h
  refine ⟨i, rfl, ?_⟩
  simp [Lit.wf, IntKind.min, IntKind.max, IntKind.signed, IntKind.bits] at hw
  first | exact hw | (unfold inI64; omega) | omega

theorem topPlugLosses_plain : plainT Try.prog 3 22 = true ∧ plainT Try.prog 1 21 = true := ⟨by kernel_rfl, by kernel_rfl⟩

theorem topPlugLosses_lifted (os : Os) (started : os.Started) (H : Type) (enc : TypeId × Value → H) :
    ReturnsInHanded {} Try.checked os 3 .any (Rows.topPlugLossesSpec.pre6 enc Try.prog Try.f3 [] false)
      (Rows.topPlugLossesSpec.post enc Try.prog Try.f3 false true false false) := by
  refine returnsInHanded_of_change (C := Try.checked) own started (by kernel_rfl) Try.func3
    (ChangeSpec.witness6 (enc := enc) (C := Try.checked) false ⟨#[], #[.slice none 0 0, .int .i32 0], []⟩ 8 (by kernel_rfl) (by kernel_rfl) (by kernel_rfl) (by kernel_rfl)) ?_
  intro W base args ds gs before hval0 hW _ _
  have hW' := hW
  obtain ⟨p, q, hA, hV, rfl, hfz, hnd⟩ := hW
  have hval : ∀ (j : Nat) t v, Try.f3.params[j]? = some t → args[j]? = some v → Value.okWide Try.prog W .any base t v := hval0
  have hA : DataW.TrodAll enc Try.prog W 0 (fun _ => true) true Try.f3.params.toList args.toList ds p := hA
  rw [Try.params3] at hA hval
  obtain ⟨v0, v1, d0, d1, p0, p1, rfl, rfl, rfl, h0, h1⟩ := trodAll_two hA
  obtain ⟨rfl, rfl⟩ := trodVars_none hV
  obtain ⟨xs0, s0, r0⟩ := arg_rel (c := ctx0 (phiOf W)) (fun {_} => rfl) (bounds_phi W) topPlugLosses_plain.1 (hval 0 22 v0 rfl rfl) h0
  obtain ⟨b0, rfl, w0⟩ := sh22 (n := 0) s0
  have r0 : Rel (ctx0 (phiOf W)) W (.d (.sl b0.length (b0.flatMap enc26))) v0 := by
    have e : argA Try.prog 22 [.sl b0.length (b0.flatMap enc26)] = (.d (.sl b0.length (b0.flatMap enc26)) : AV) := by unfold argA; rw [Try.underlying22]; rfl
    rw [← e]; exact r0
  obtain ⟨xs1, s1, r1⟩ := arg_rel (c := ctx0 (phiOf W)) (fun {_} => rfl) (bounds_phi W) topPlugLosses_plain.2 (hval 1 21 v1 rfl rfl) h1
  obtain ⟨b1, rfl, w1⟩ := sh21 (n := 0) s1
  have r1 : Rel (ctx0 (phiOf W)) W (.d (.v (.int .i32 b1))) v1 := by
    have e : argA Try.prog 21 [.v (.int .i32 b1)] = (.d (.v (.int .i32 b1)) : AV) := by unfold argA; rw [Try.underlying21]; rfl
    rw [← e]; exact r1
  have hc : PureCalls Try.prog cfz.glob 3 [.d (.sl b0.length (b0.flatMap enc26)), .d (.v (.int .i32 b1))] (aB true) := f3 b0.length (b0.flatMap enc26) b1 true (losses_true b0 w0 b1 w1)
  refine (pure_true hc (glob_ok W) (Rels.cons r0 (Rels.cons r1 Rels.nil))).mono ?_
  rintro e W2 ⟨rfl, hb⟩
  exact ⟨_, rfl, law_post (tb := 4) laidOut rfl (by kernel_rfl) Try.underlying4 (by
    rw [Try.params3]
    intro t ht
    simp at ht
    rcases ht with rfl | rfl
    · exact ⟨by kernel_rfl, of_decide_eq_true (by kernel_rfl)⟩
    · exact ⟨by kernel_rfl, of_decide_eq_true (by kernel_rfl)⟩) hW' rfl hb⟩

theorem topPlugLosses_said : Rows.TopPlugLossesSaid :=
  OpenClaim.holds_of_wide 3 Try.f3 rfl rfl rfl rfl rfl rfl rfl ⟨rfl, rfl, rfl, rfl, rfl⟩ rfl rfl rfl rfl rfl (by kernel_rfl) Try.func3 (by kernel_rfl)
    (of_decide_eq_true (by kernel_rfl)) (by unfold Func.isWrapper; first | (rw [if_pos (by decide +kernel)]; kernel_rfl) | (rw [if_neg (by decide +kernel)]; exact ⟨rfl, rfl⟩))
    (fun os started H enc _ => topPlugLosses_lifted os started H enc)
end Go.Proofs.Ytpmlobofkkhhaaa
