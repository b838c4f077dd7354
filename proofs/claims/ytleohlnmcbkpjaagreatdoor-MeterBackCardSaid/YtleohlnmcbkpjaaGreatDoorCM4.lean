import Derived.Test.YtleohlnmcbkpjaaGreatDoorKzR
import Derived.Test.YtleohlnmcbkpjaaGreatDoorKzS
import Derived.Test.YtleohlnmcbkpjaaGreatDoorKNy
import Derived.Test.YtleohlnmcbkpjaaGreatDoorCards
import Derived.Test.YtleohlnmcbkpjaaGreatDoorTie
namespace Go.Proofs.YtleohlnmcbkpjaaGreatDoor
set_option linter.all false
open Go Go.Kv Go.RowKit Go.ChangeShapes Go.WideShapes Go.ChangeAt Go.Proofs
set_option maxRecDepth 100000
theorem sh3 {n : Nat} {xs : List DV} (h : shapeD Tryz.prog (n + 1) 3 xs) : ∃ (a0 : Int), xs = [vI a0] ∧ (inI64 a0) := by
  rw [shapeD, Tryz.underlying3] at h
  obtain ⟨i, rfl, hw⟩ := h
  refine ⟨i, rfl, ?_⟩
  simp [Lit.wf, IntKind.min, IntKind.max, IntKind.signed, IntKind.bits] at hw
  first | exact hw | (unfold inI64; omega) | omega
theorem sh23 {n : Nat} {xs : List DV} (h : shapeD Tryz.prog (n + 2) 23 xs) : ∃ (a0 : Int) (a1 : Int), xs = [vI a0, vI a1] ∧ (inI64 a0) ∧ (inI64 a1) := by
  rw [shapeD, Tryz.underlying23] at h
  simp only [shapeFs] at h
  obtain ⟨x0, r0, rfl, h0, x1, r1, rfl, h1, rfl⟩ := h
  obtain ⟨a0, rfl, w0⟩ := sh3 h0
  obtain ⟨a1, rfl, w1⟩ := sh3 h1
  exact ⟨a0, a1, rfl, w0, w1⟩
theorem sh25 {n : Nat} {xs : List DV} (h : shapeD Tryz.prog (n + 3) 25 xs) : ∃ (a0 : Int) (a1 : Int) (a2 : Int) (a3 : Int) (a4 : Int) (a5 : Int) (a6 : Int) (a7 : Int) (a8 : Int) (a9 : Int) (a10 : Int) (a11 : Int), xs = [vI a0, vI a1, vI a2, vI a3, vI a4, vI a5, vI a6, vI a7, vI a8, vI a9, vI a10, vI a11] ∧ (inI64 a0) ∧ (inI64 a1) ∧ (inI64 a2) ∧ (inI64 a3) ∧ (inI64 a4) ∧ (inI64 a5) ∧ (inI64 a6) ∧ (inI64 a7) ∧ (inI64 a8) ∧ (inI64 a9) ∧ (inI64 a10) ∧ (inI64 a11) := by
  rw [shapeD, Tryz.underlying25] at h
  simp only [shapeN] at h
  obtain ⟨x0, r0, rfl, h0, x1, r1, rfl, h1, x2, r2, rfl, h2, x3, r3, rfl, h3, x4, r4, rfl, h4, x5, r5, rfl, h5, rfl⟩ := h
  obtain ⟨a0, a1, rfl, w0, w1⟩ := sh23 h0
  obtain ⟨a2, a3, rfl, w2, w3⟩ := sh23 h1
  obtain ⟨a4, a5, rfl, w4, w5⟩ := sh23 h2
  obtain ⟨a6, a7, rfl, w6, w7⟩ := sh23 h3
  obtain ⟨a8, a9, rfl, w8, w9⟩ := sh23 h4
  obtain ⟨a10, a11, rfl, w10, w11⟩ := sh23 h5
  exact ⟨a0, a1, a2, a3, a4, a5, a6, a7, a8, a9, a10, a11, rfl, w0, w1, w2, w3, w4, w5, w6, w7, w8, w9, w10, w11⟩
theorem sh9 {n : Nat} {xs : List DV} (h : shapeD Tryz.prog (n + 1) 9 xs) : ∃ (a0 : ByteArray), xs = [.v (.string a0)] ∧ (a0.size ≤ maxLen) := by
  rw [shapeD, Tryz.underlying9] at h
  obtain ⟨b, rfl, hw⟩ := h
  exact ⟨b, rfl, hw⟩
theorem meterBack_plain : plainT Tryz.prog 3 25 = true ∧ plainT Tryz.prog 1 9 = true := ⟨by kernel_rfl, by kernel_rfl⟩
theorem meterBack_lifted (os : Os) (started : os.Started) (H : Type) (enc : TypeId × Value → H) :
    ReturnsInHanded {} Tryz.checked os 4 .any (fun w args => (Rows.meterBackSpec.pre enc Tryz.prog Tryz.f4 [] false w args ∧ laidMetH Tryz.prog laidL w) ∧ sizedMet enc Tryz.prog Tryz.f4 (OpenSpec.ofChange Rows.meterBackSpec) false w args)
      (Rows.meterBackSpec.post enc Tryz.prog Tryz.f4 false true false false) := by
  refine returnsInHanded_of_change_and (C := Tryz.checked) (X := fun w _ => laidMetH Tryz.prog laidL w) (fun _ _ _ hh h => h.of_heap hh) own started (by kernel_rfl) Tryz.func4
    (ChangeSpec.witness_shaped (enc := enc) (C := Tryz.checked) (os := os) (X := fun w _ => laidMetH Tryz.prog laidL w) false (World.laidAll Tryz.prog os laidL)
      #[.agg #[.int .i64 0, .int .i64 0, .int .i64 0, .int .i64 0, .int .i64 0, .int .i64 0, .int .i64 0, .int .i64 0, .int .i64 0, .int .i64 0, .int .i64 0, .int .i64 0], .string ByteArray.empty] 8 (World.laidAll_os _ _ _) (World.shaped_of_ZipB (by kernel_rfl) (by kernel_rfl)) (by kernel_rfl) (by kernel_rfl) (by kernel_rfl) (door_met os _)) ?_
  intro W base args ds gs before hval0 hW _ _ hL _
  have hW' := hW
  obtain ⟨p, q, hA, hV, rfl, hfz, hnd⟩ := hW
  have hval : ∀ (j : Nat) t v, Tryz.f4.params[j]? = some t → args[j]? = some v → Value.okWide Tryz.prog W .any base t v := hval0
  have hA : DataW.TrodAll enc Tryz.prog W 0 (fun _ => true) true Tryz.f4.params.toList args.toList ds p := hA
  rw [Tryz.params4] at hA hval
  obtain ⟨v0, v1, d0, d1, p0, p1, rfl, rfl, rfl, h0, h1⟩ := trodAll_two hA
  obtain ⟨rfl, rfl⟩ := trodVars_none hV
  obtain ⟨xs0, s0, r0⟩ := arg_rel (c := ctx0 (phiOf W)) (fun {_} => rfl) (bounds_phi W) meterBack_plain.1 (hval 0 25 v0 rfl rfl) h0
  obtain ⟨b0, b1, b2, b3, b4, b5, b6, b7, b8, b9, b10, b11, rfl, w0, w1, w2, w3, w4, w5, w6, w7, w8, w9, w10, w11⟩ := sh25 (n := 0) s0
  have r0 : Rel (ctx0 (phiOf W)) W (.agg [.d (vI b0), .d (vI b1), .d (vI b2), .d (vI b3), .d (vI b4), .d (vI b5), .d (vI b6), .d (vI b7), .d (vI b8), .d (vI b9), .d (vI b10), .d (vI b11)]) v0 := by
    have e : argA Tryz.prog 25 [vI b0, vI b1, vI b2, vI b3, vI b4, vI b5, vI b6, vI b7, vI b8, vI b9, vI b10, vI b11] = (.agg [.d (vI b0), .d (vI b1), .d (vI b2), .d (vI b3), .d (vI b4), .d (vI b5), .d (vI b6), .d (vI b7), .d (vI b8), .d (vI b9), .d (vI b10), .d (vI b11)] : AV) := by unfold argA; rw [Tryz.underlying25]; rfl
    rw [← e]; exact r0
  obtain ⟨xs1, s1, r1⟩ := arg_rel (c := ctx0 (phiOf W)) (fun {_} => rfl) (bounds_phi W) meterBack_plain.2 (hval 1 9 v1 rfl rfl) h1
  obtain ⟨b12, rfl, w12⟩ := sh9 (n := 0) s1
  have r1 : Rel (ctx0 (phiOf W)) W (.d (.v (.string b12))) v1 := by
    have e : argA Tryz.prog 9 [.v (.string b12)] = (.d (.v (.string b12)) : AV) := by unfold argA; rw [Tryz.underlying9]; rfl
    rw [← e]; exact r1
  have hc : PureCalls Tryz.prog cfz.glob 4 [.agg [.d (vI b0), .d (vI b1), .d (vI b2), .d (vI b3), .d (vI b4), .d (vI b5), .d (vI b6), .d (vI b7), .d (vI b8), .d (vI b9), .d (vI b10), .d (vI b11)], .d (.v (.string b12))] (aB true) := f4 b0 b1 b2 b3 b4 b5 b6 b7 b8 b9 b10 b11 b12 true (back_true b0 b1 b2 b3 b4 b5 b6 b7 b8 b9 b10 b11 b12)
  refine (pure_true hc (glob_ok hL) (Rels.cons r0 (Rels.cons r1 Rels.nil))).mono ?_
  rintro e W2 ⟨rfl, hb⟩
  exact ⟨_, rfl, law_post (tb := 4) laidOut rfl (by kernel_rfl) Tryz.underlying4 (by
    rw [Tryz.params4]
    intro t ht
    simp at ht
    rcases ht with rfl | rfl
    · exact ⟨by kernel_rfl, of_decide_eq_true (by kernel_rfl)⟩
    · exact ⟨by kernel_rfl, of_decide_eq_true (by kernel_rfl)⟩) hW' rfl hb⟩
theorem meterBack_said : Rows.MeterBackSaid :=
  OpenClaim.holds_of_wide 4 Tryz.f4 rfl rfl rfl rfl rfl rfl rfl ⟨rfl, rfl, rfl, rfl, rfl⟩ rfl rfl rfl rfl rfl (by kernel_rfl) Tryz.func4 (by kernel_rfl)
    (of_decide_eq_true (by kernel_rfl)) (by unfold Func.isWrapper; first | (rw [if_pos (by decide +kernel)]; kernel_rfl) | (rw [if_neg (by decide +kernel)]; exact ⟨rfl, rfl⟩))
    (fun os started H enc _ => meterBack_lifted os started H enc)
theorem meterBack_card : Rows.MeterBackCardSaid :=
  Claim7.holds_tied_plain_at .later [] [.data, .data, .data, .data, .data, .pinned] true (true, "fe9a96a885781712bc32319ee0c68d68192835eefbe2198b61b528cb291b3392") false
    meterBack_said (fun _ h => by cases h) (by kernel_rfl) (fun _ h => by cases h) meterBack_row_tie rfl ⟨rfl, rfl⟩ (by kernel_rfl) rfl
    (fun f fn hf hfn => by
      obtain rfl : f = 4 := Option.some.inj ((show Tryz.prog.funcNamed "kilovar/kilovarlaw06.MeterBack" = some 4 by kernel_rfl).symm.trans hf) |>.symm
      obtain rfl : fn = Tryz.f4 := (Option.some.inj (Tryz.func4.symm.trans hfn)).symm
      exact ⟨by kernel_rfl, fun j t ht => by
        rw [Tryz.params4] at ht
        rcases j with _ | _ | j
        · have h3 : t = 25 := by simpa using ht.symm
          subst h3
          exact (show Tryz.prog.wantsStandIn 25 = false by kernel_rfl)
        · have h3 : t = 9 := by simpa using ht.symm
          subst h3
          exact (show Tryz.prog.wantsStandIn 9 = false by kernel_rfl)
        · simp at ht⟩)
    (by kernel_rfl)
end Go.Proofs.YtleohlnmcbkpjaaGreatDoor
