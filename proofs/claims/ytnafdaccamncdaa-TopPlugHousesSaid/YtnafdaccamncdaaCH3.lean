/- TopPlugHouses holds for every input: meters count the uses of houses, sums of permitted sets are told, all uses lie in the intervals that are known from them, more sums do not widen these, and no two sets that were told differ by too few houses. Conditions: none beyond the given row. -/
import Derived.Test.YtnafdaccamncdaaKzR
import Derived.Test.YtnafdaccamncdaaKzS
import Derived.Test.YtnafdaccamncdaaKHc
namespace Go.Proofs.Ytnafdaccamncdaa
set_option linter.unusedVariables false
set_option linter.unusedSimpArgs false
open Go Go.Kv Go.RowKit Go.ChangeShapes Go.WideShapes Go.ChangeAt Go.Proofs
set_option maxRecDepth 100000
theorem sh5 {n : Nat} {xs : List DV} (h : shapeD Try.prog (n + 1) 5 xs) : ∃ (a0 : Int), xs = [.v (.int .u8 a0)] ∧ (0 ≤ a0 ∧ a0 ≤ 255) := by
  rw [shapeD, Try.underlying5] at h
  obtain ⟨i, rfl, hw⟩ := h
  refine ⟨i, rfl, ?_⟩
  simp [Lit.wf, IntKind.min, IntKind.max, IntKind.signed, IntKind.bits] at hw
  first | exact hw | (unfold inI64; omega) | omega

def enc5c (x : Int) : DV := .v (.int .u8 x)

def ok5 (x : Int) : Prop := 0 ≤ x ∧ x ≤ 255

theorem sh22 {n : Nat} {xs : List DV} (h : shapeD Try.prog (n + 2) 22 xs) : ∃ (a0 : List (Int)), xs = [.sl a0.length (a0.map enc5c)] ∧ ((a0.length ≤ maxLen ∧ ∀ e ∈ a0, ok5 e)) := by
  rw [shapeD, Try.underlying22] at h
  obtain ⟨ys, rfl, hm, hy⟩ := h
  obtain ⟨l, rfl, hl⟩ := list_of (enc := fun x => [enc5c x]) (R := ok5) (fun y hyy => by
    obtain ⟨a0, rfl, w0⟩ := sh5 (hy y hyy)
    exact ⟨a0, rfl, w0⟩)
  rw [List.length_map] at hm
  exact ⟨l, by rw [flat_one, List.length_map], hm, hl⟩

theorem sh3 {n : Nat} {xs : List DV} (h : shapeD Try.prog (n + 1) 3 xs) : ∃ (a0 : Int), xs = [vI a0] ∧ (inI64 a0) := by
  rw [shapeD, Try.underlying3] at h
  obtain ⟨i, rfl, hw⟩ := h
  refine ⟨i, rfl, ?_⟩
  simp [Lit.wf, IntKind.min, IntKind.max, IntKind.signed, IntKind.bits] at hw
  first | exact hw | (unfold inI64; omega) | omega

def ok3 (x : Int) : Prop := inI64 x

theorem sh28 {n : Nat} {xs : List DV} (h : shapeD Try.prog (n + 2) 28 xs) : ∃ (a0 : List (Int)), xs = [.sl a0.length (a0.map vI)] ∧ ((a0.length ≤ maxLen ∧ ∀ e ∈ a0, ok3 e)) := by
  rw [shapeD, Try.underlying28] at h
  obtain ⟨ys, rfl, hm, hy⟩ := h
  obtain ⟨l, rfl, hl⟩ := list_of (enc := fun x => [vI x]) (R := ok3) (fun y hyy => by
    obtain ⟨a0, rfl, w0⟩ := sh3 (hy y hyy)
    exact ⟨a0, rfl, w0⟩)
  rw [List.length_map] at hm
  exact ⟨l, by rw [flat_one, List.length_map], hm, hl⟩

def enc28c (x : (List (Int))) : DV := .sl x.length (x.map vI)

def ok28 (x : (List (Int))) : Prop := (x.length ≤ maxLen ∧ ∀ e ∈ x, ok3 e)

theorem sh23 {n : Nat} {xs : List DV} (h : shapeD Try.prog (n + 3) 23 xs) : ∃ (a0 : List ((List (Int)))), xs = [.sl a0.length (a0.map enc28c)] ∧ ((a0.length ≤ maxLen ∧ ∀ e ∈ a0, ok28 e)) := by
  rw [shapeD, Try.underlying23] at h
  obtain ⟨ys, rfl, hm, hy⟩ := h
  obtain ⟨l, rfl, hl⟩ := list_of (enc := fun x => [enc28c x]) (R := ok28) (fun y hyy => by
    obtain ⟨a0, rfl, w0⟩ := sh28 (hy y hyy)
    exact ⟨a0, rfl, w0⟩)
  rw [List.length_map] at hm
  exact ⟨l, by rw [flat_one, List.length_map], hm, hl⟩

theorem sh24 {n : Nat} {xs : List DV} (h : shapeD Try.prog (n + 1) 24 xs) : ∃ (a0 : Int), xs = [.v (.int .u32 a0)] ∧ (0 ≤ a0 ∧ a0 ≤ 4294967295) := by
  rw [shapeD, Try.underlying24] at h
  obtain ⟨i, rfl, hw⟩ := h
  refine ⟨i, rfl, ?_⟩
  simp [Lit.wf, IntKind.min, IntKind.max, IntKind.signed, IntKind.bits] at hw
  first | exact hw | (unfold inI64; omega) | omega

theorem sh25 {n : Nat} {xs : List DV} (h : shapeD Try.prog (n + 2) 25 xs) : ∃ (a0 : Int) (a1 : Int), xs = [.v (.int .u32 a0), .v (.int .u32 a1)] ∧ (0 ≤ a0 ∧ a0 ≤ 4294967295) ∧ (0 ≤ a1 ∧ a1 ≤ 4294967295) := by
  rw [shapeD, Try.underlying25] at h
  simp only [shapeN] at h
  obtain ⟨x0, r0, rfl, h0, x1, r1, rfl, h1, rfl⟩ := h
  obtain ⟨a0, rfl, w0⟩ := sh24 h0
  obtain ⟨a1, rfl, w1⟩ := sh24 h1
  exact ⟨a0, a1, rfl, w0, w1⟩

theorem topPlugHouses_plain : plainT Try.prog 2 22 = true ∧ plainT Try.prog 3 23 = true ∧ plainT Try.prog 2 25 = true := ⟨by kernel_rfl, by kernel_rfl, by kernel_rfl⟩

theorem topPlugHouses_lifted (os : Os) (started : os.Started) (H : Type) (enc : TypeId × Value → H) :
    ReturnsInHanded {} Try.checked os 3 .any (Rows.topPlugHousesSpec.pre6 enc Try.prog Try.f3 [] false)
      (Rows.topPlugHousesSpec.post enc Try.prog Try.f3 false true false false) := by
  refine returnsInHanded_of_change (C := Try.checked) own started (by kernel_rfl) Try.func3
    (ChangeSpec.witness6 (enc := enc) (C := Try.checked) false ⟨#[], #[.slice none 0 0, .slice none 0 0, .agg #[.int .u32 0, .int .u32 0]], []⟩ 8 (by kernel_rfl) (by kernel_rfl) (by kernel_rfl) (by kernel_rfl)) ?_
  intro W base args ds gs before hval0 hW _ _
  have hW' := hW
  obtain ⟨p, q, hA, hV, rfl, hfz, hnd⟩ := hW
  have hval : ∀ (j : Nat) t v, Try.f3.params[j]? = some t → args[j]? = some v → Value.okWide Try.prog W .any base t v := hval0
  have hA : DataW.TrodAll enc Try.prog W 0 (fun _ => true) true Try.f3.params.toList args.toList ds p := hA
  rw [Try.params3] at hA hval
  obtain ⟨v0, v1, v2, d0, d1, d2, p0, p1, p2, rfl, rfl, rfl, h0, h1, h2⟩ := trodAll_three hA
  obtain ⟨rfl, rfl⟩ := trodVars_none hV
  obtain ⟨xs0, s0, r0⟩ := arg_rel (c := ctx0 (phiOf W)) (fun {_} => rfl) (bounds_phi W) topPlugHouses_plain.1 (hval 0 22 v0 rfl rfl) h0
  obtain ⟨b0, rfl, w0⟩ := sh22 (n := 0) s0
  have r0 : Rel (ctx0 (phiOf W)) W (.d (.sl b0.length (b0.map enc5c))) v0 := by
    have e : argA Try.prog 22 [.sl b0.length (b0.map enc5c)] = (.d (.sl b0.length (b0.map enc5c)) : AV) := by unfold argA; rw [Try.underlying22]; rfl
    rw [← e]; exact r0
  obtain ⟨xs1, s1, r1⟩ := arg_rel (c := ctx0 (phiOf W)) (fun {_} => rfl) (bounds_phi W) topPlugHouses_plain.2.1 (hval 1 23 v1 rfl rfl) h1
  obtain ⟨b1, rfl, w1⟩ := sh23 (n := 0) s1
  have r1 : Rel (ctx0 (phiOf W)) W (.d (.sl b1.length (b1.map enc28c))) v1 := by
    have e : argA Try.prog 23 [.sl b1.length (b1.map enc28c)] = (.d (.sl b1.length (b1.map enc28c)) : AV) := by unfold argA; rw [Try.underlying23]; rfl
    rw [← e]; exact r1
  obtain ⟨xs2, s2, r2⟩ := arg_rel (c := ctx0 (phiOf W)) (fun {_} => rfl) (bounds_phi W) topPlugHouses_plain.2.2 (hval 2 25 v2 rfl rfl) h2
  obtain ⟨b2, b3, rfl, w2, w3⟩ := sh25 (n := 0) s2
  have r2 : Rel (ctx0 (phiOf W)) W (.agg [.d (.v (.int .u32 b2)), .d (.v (.int .u32 b3))]) v2 := by
    have e : argA Try.prog 25 [.v (.int .u32 b2), .v (.int .u32 b3)] = (.agg [.d (.v (.int .u32 b2)), .d (.v (.int .u32 b3))] : AV) := by unfold argA; rw [Try.underlying25]; rfl
    rw [← e]; exact r2
  have hc : PureCalls Try.prog cfz.glob 3 [.d (.sl b0.length (b0.map enc5c)), .d (.sl b1.length (b1.map enc28c)), .agg [.d (.v (.int .u32 b2)), .d (.v (.int .u32 b3))]] (aB true) := f3 b0.length (b0.map enc5c) b1.length (b1.map enc28c) b2 b3 true (houses_true b0 w0 b1 ⟨w1.1, fun s hs => (w1.2 s hs).1⟩ b2 b3 w2 w3)
  refine (pure_true hc (glob_ok W) (Rels.cons r0 (Rels.cons r1 (Rels.cons r2 Rels.nil)))).mono ?_
  rintro e W2 ⟨rfl, hb⟩
  exact ⟨_, rfl, law_post (tb := 4) laidOut rfl (by kernel_rfl) Try.underlying4 (by
    rw [Try.params3]
    intro t ht
    simp at ht
    rcases ht with rfl | rfl | rfl
    · exact ⟨by kernel_rfl, of_decide_eq_true (by kernel_rfl)⟩
    · exact ⟨by kernel_rfl, of_decide_eq_true (by kernel_rfl)⟩
    · exact ⟨by kernel_rfl, of_decide_eq_true (by kernel_rfl)⟩) hW' rfl hb⟩

theorem topPlugHouses_said : Rows.TopPlugHousesSaid :=
  OpenClaim.holds_of_wide 3 Try.f3 rfl rfl rfl rfl rfl rfl rfl ⟨rfl, rfl, rfl, rfl, rfl⟩ rfl rfl rfl rfl rfl (by kernel_rfl) Try.func3 (by kernel_rfl)
    (of_decide_eq_true (by kernel_rfl)) (by unfold Func.isWrapper; first | (rw [if_pos (by decide +kernel)]; kernel_rfl) | (rw [if_neg (by decide +kernel)]; exact ⟨rfl, rfl⟩))
    (fun os started H enc _ => topPlugHouses_lifted os started H enc)
end Go.Proofs.Ytnafdaccamncdaa
