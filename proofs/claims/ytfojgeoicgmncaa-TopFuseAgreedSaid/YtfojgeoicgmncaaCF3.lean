import Derived.Test.YtfojgeoicgmncaaKzR
import Derived.Test.YtfojgeoicgmncaaKzS
import Derived.Test.YtfojgeoicgmncaaKT2
namespace Go.Proofs.Ytfojgeoicgmncaa
set_option linter.unusedVariables false
set_option linter.unusedSimpArgs false
open Go Go.Kv Go.RowKit Go.ChangeShapes Go.WideShapes Go.ChangeAt Go.Proofs
set_option maxRecDepth 100000
theorem sh3 {n : Nat} {xs : List DV} (h : shapeD Try.prog (n + 1) 3 xs) : ∃ (a0 : Int), xs = [vI a0] ∧ (inI64 a0) := by
  rw [shapeD, Try.underlying3] at h
  obtain ⟨i, rfl, hw⟩ := h
  refine ⟨i, rfl, ?_⟩
  simp [Lit.wf, IntKind.min, IntKind.max, IntKind.signed, IntKind.bits] at hw
  first | exact hw | (unfold inI64; omega) | omega
def ok3 (x : Int) : Prop := inI64 x
theorem sh22 {n : Nat} {xs : List DV} (h : shapeD Try.prog (n + 2) 22 xs) : ∃ (a0 : List (Int)), xs = [.sl a0.length (a0.map vI)] ∧ ((a0.length ≤ maxLen ∧ ∀ e ∈ a0, ok3 e)) := by
  rw [shapeD, Try.underlying22] at h
  obtain ⟨ys, rfl, hm, hy⟩ := h
  obtain ⟨l, rfl, hl⟩ := list_of (enc := fun x => [vI x]) (R := ok3) (fun y hyy => by
    obtain ⟨a0, rfl, w0⟩ := sh3 (hy y hyy)
    exact ⟨a0, rfl, w0⟩)
  rw [List.length_map] at hm
  exact ⟨l, by rw [flat_one, List.length_map], hm, hl⟩
theorem sh5 {n : Nat} {xs : List DV} (h : shapeD Try.prog (n + 1) 5 xs) : ∃ (a0 : Int), xs = [.v (.int .u8 a0)] ∧ (0 ≤ a0 ∧ a0 ≤ 255) := by
  rw [shapeD, Try.underlying5] at h
  obtain ⟨i, rfl, hw⟩ := h
  refine ⟨i, rfl, ?_⟩
  simp [Lit.wf, IntKind.min, IntKind.max, IntKind.signed, IntKind.bits] at hw
  first | exact hw | (unfold inI64; omega) | omega
theorem sh32 {n : Nat} {xs : List DV} (h : shapeD Try.prog (n + 2) 32 xs) : ∃ (a0 : Int) (a1 : Int), xs = [.v (.int .u8 a0), .v (.int .u8 a1)] ∧ (0 ≤ a0 ∧ a0 ≤ 255) ∧ (0 ≤ a1 ∧ a1 ≤ 255) := by
  rw [shapeD, Try.underlying32] at h
  simp only [shapeN] at h
  obtain ⟨x0, r0, rfl, h0, x1, r1, rfl, h1, rfl⟩ := h
  obtain ⟨a0, rfl, w0⟩ := sh5 h0
  obtain ⟨a1, rfl, w1⟩ := sh5 h1
  exact ⟨a0, a1, rfl, w0, w1⟩
def enc32 (x : Int × Int) : List DV := [.v (.int .u8 x.1), .v (.int .u8 x.2)]
def ok32 (x : Int × Int) : Prop := (0 ≤ x.1 ∧ x.1 ≤ 255) ∧ (0 ≤ x.2 ∧ x.2 ≤ 255)
theorem sh23 {n : Nat} {xs : List DV} (h : shapeD Try.prog (n + 3) 23 xs) : ∃ (a0 : List (Int × Int)), xs = [.sl a0.length (a0.flatMap enc32)] ∧ ((a0.length ≤ maxLen ∧ ∀ e ∈ a0, ok32 e)) := by
  rw [shapeD, Try.underlying23] at h
  obtain ⟨ys, rfl, hm, hy⟩ := h
  obtain ⟨l, rfl, hl⟩ := list_of (enc := enc32) (R := ok32) (fun y hyy => by
    obtain ⟨a0, a1, rfl, w0, w1⟩ := sh32 (hy y hyy)
    exact ⟨(a0, a1), rfl, w0, w1⟩)
  rw [List.length_map] at hm
  exact ⟨l, by rw [List.length_map, List.flatMap_def], hm, hl⟩
theorem sh4 {n : Nat} {xs : List DV} (h : shapeD Try.prog (n + 1) 4 xs) : ∃ (a0 : Bool), xs = [.v (.bool a0)] ∧ (True) := by
  rw [shapeD, Try.underlying4] at h
  obtain ⟨b, rfl⟩ := h
  exact ⟨b, rfl, trivial⟩
theorem sh51 {n : Nat} {xs : List DV} (h : shapeD Try.prog (n + 2) 51 xs) : ∃ (a0 : Int) (a1 : Int) (a2 : Bool), xs = [.v (.int .u8 a0), .v (.int .u8 a1), .v (.bool a2)] ∧ (0 ≤ a0 ∧ a0 ≤ 255) ∧ (0 ≤ a1 ∧ a1 ≤ 255) ∧ (True) := by
  rw [shapeD, Try.underlying51] at h
  simp only [shapeFs] at h
  obtain ⟨x0, r0, rfl, h0, x1, r1, rfl, h1, x2, r2, rfl, h2, rfl⟩ := h
  obtain ⟨a0, rfl, w0⟩ := sh5 h0
  obtain ⟨a1, rfl, w1⟩ := sh5 h1
  obtain ⟨a2, rfl, w2⟩ := sh4 h2
  exact ⟨a0, a1, a2, rfl, w0, w1, w2⟩
def enc51 (x : Int × Int × Bool) : List DV := [.v (.int .u8 x.1), .v (.int .u8 x.2.1), .v (.bool x.2.2)]
def ok51 (x : Int × Int × Bool) : Prop := (0 ≤ x.1 ∧ x.1 ≤ 255) ∧ (0 ≤ x.2.1 ∧ x.2.1 ≤ 255) ∧ (True)
theorem sh24 {n : Nat} {xs : List DV} (h : shapeD Try.prog (n + 3) 24 xs) : ∃ (a0 : List (Int × Int × Bool)), xs = [.sl a0.length (a0.flatMap enc51)] ∧ ((a0.length ≤ maxLen ∧ ∀ e ∈ a0, ok51 e)) := by
  rw [shapeD, Try.underlying24] at h
  obtain ⟨ys, rfl, hm, hy⟩ := h
  obtain ⟨l, rfl, hl⟩ := list_of (enc := enc51) (R := ok51) (fun y hyy => by
    obtain ⟨a0, a1, a2, rfl, w0, w1, w2⟩ := sh51 (hy y hyy)
    exact ⟨(a0, a1, a2), rfl, w0, w1, w2⟩)
  rw [List.length_map] at hm
  exact ⟨l, by rw [List.length_map, List.flatMap_def], hm, hl⟩
theorem topFuseAgreed_plain : plainT Try.prog 2 22 = true ∧ plainT Try.prog 3 23 = true ∧ plainT Try.prog 3 24 = true := ⟨by kernel_rfl, by kernel_rfl, by kernel_rfl⟩
theorem topFuseAgreed_lifted (os : Os) (started : os.Started) (H : Type) (enc : TypeId × Value → H) :
    ReturnsInHanded {} Try.checked os 3 .any (Rows.topFuseAgreedSpec.pre6 enc Try.prog Try.f3 [] false)
      (Rows.topFuseAgreedSpec.post enc Try.prog Try.f3 false true false false) := by
  refine returnsInHanded_of_change (C := Try.checked) own started (by kernel_rfl) Try.func3
    (ChangeSpec.witness6 (enc := enc) (C := Try.checked) false ⟨#[], #[.slice none 0 0, .slice none 0 0, .slice none 0 0], []⟩ 8 (by kernel_rfl) (by kernel_rfl) (by kernel_rfl) (by kernel_rfl)) ?_
  intro W base args ds gs before hval0 hW _ _
  have hW' := hW
  obtain ⟨p, q, hA, hV, rfl, hfz, hnd⟩ := hW
  have hval : ∀ (j : Nat) t v, Try.f3.params[j]? = some t → args[j]? = some v → Value.okWide Try.prog W .any base t v := hval0
  have hA : DataW.TrodAll enc Try.prog W 0 (fun _ => true) true Try.f3.params.toList args.toList ds p := hA
  rw [Try.params3] at hA hval
  obtain ⟨v0, v1, v2, d0, d1, d2, p0, p1, p2, rfl, rfl, rfl, h0, h1, h2⟩ := trodAll_three hA
  obtain ⟨rfl, rfl⟩ := trodVars_none hV
  obtain ⟨xs0, s0, r0⟩ := arg_rel (c := ctx0 (phiOf W)) (fun {_} => rfl) (bounds_phi W) topFuseAgreed_plain.1 (hval 0 22 v0 rfl rfl) h0
  obtain ⟨b0, rfl, w0⟩ := sh22 (n := 0) s0
  have r0 : Rel (ctx0 (phiOf W)) W (.d (.sl b0.length (b0.map vI))) v0 := by
    have e : argA Try.prog 22 [.sl b0.length (b0.map vI)] = (.d (.sl b0.length (b0.map vI)) : AV) := by unfold argA; rw [Try.underlying22]; rfl
    rw [← e]; exact r0
  obtain ⟨xs1, s1, r1⟩ := arg_rel (c := ctx0 (phiOf W)) (fun {_} => rfl) (bounds_phi W) topFuseAgreed_plain.2.1 (hval 1 23 v1 rfl rfl) h1
  obtain ⟨b1, rfl, w1⟩ := sh23 (n := 0) s1
  have r1 : Rel (ctx0 (phiOf W)) W (.d (.sl b1.length (b1.flatMap enc32))) v1 := by
    have e : argA Try.prog 23 [.sl b1.length (b1.flatMap enc32)] = (.d (.sl b1.length (b1.flatMap enc32)) : AV) := by unfold argA; rw [Try.underlying23]; rfl
    rw [← e]; exact r1
  obtain ⟨xs2, s2, r2⟩ := arg_rel (c := ctx0 (phiOf W)) (fun {_} => rfl) (bounds_phi W) topFuseAgreed_plain.2.2 (hval 2 24 v2 rfl rfl) h2
  obtain ⟨b2, rfl, w2⟩ := sh24 (n := 0) s2
  have r2 : Rel (ctx0 (phiOf W)) W (.d (.sl b2.length (b2.flatMap enc51))) v2 := by
    have e : argA Try.prog 24 [.sl b2.length (b2.flatMap enc51)] = (.d (.sl b2.length (b2.flatMap enc51)) : AV) := by unfold argA; rw [Try.underlying24]; rfl
    rw [← e]; exact r2
  have hc : PureCalls Try.prog cfz.glob 3 [.d (.sl b0.length (b0.map vI)), .d (.sl b1.length (b1.flatMap enc32)), .d (.sl b2.length (b2.flatMap enc51))] (aB true) := f3 b0.length (b0.map vI) b1.length (b1.flatMap enc32) b2.length (b2.flatMap enc51) true (fuse_true (Nat.le_trans w0.1 (by decide)) (fun x hx => (w1.2 x hx)))
  refine (pure_true hc (glob_ok W) (Rels.cons r0 (Rels.cons r1 (Rels.cons r2 Rels.nil)))).mono ?_
  rintro e W2 ⟨rfl, hb⟩
  exact ⟨_, rfl, law_post (tb := 4) laidOut rfl (by kernel_rfl) Try.underlying4 (by
    rw [Try.params3]
    intro t ht
    simp at ht
    rcases ht with rfl | rfl | rfl
    · exact ⟨by kernel_rfl, of_decide_eq_true (by kernel_rfl)⟩
    · exact ⟨by kernel_rfl, of_decide_eq_true (by kernel_rfl)⟩
    · exact ⟨by kernel_rfl, of_decide_eq_true (by kernel_rfl)⟩) hW' rfl hb⟩
theorem topFuseAgreed_said : Rows.TopFuseAgreedSaid :=
  OpenClaim.holds_of_wide 3 Try.f3 rfl rfl rfl rfl rfl rfl rfl ⟨rfl, rfl, rfl, rfl, rfl⟩ rfl rfl rfl rfl rfl (by kernel_rfl) Try.func3 (by kernel_rfl)
    (of_decide_eq_true (by kernel_rfl)) (by unfold Func.isWrapper; first | (rw [if_pos (by decide +kernel)]; kernel_rfl) | (rw [if_neg (by decide +kernel)]; exact ⟨rfl, rfl⟩))
    (fun os started H enc _ => topFuseAgreed_lifted os started H enc)
end Go.Proofs.Ytfojgeoicgmncaa
