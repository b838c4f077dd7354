import Derived.Test.YtfdjkfmiofgclaaGreatDoorKzR
import Derived.Test.YtfdjkfmiofgclaaGreatDoorKzS
import Derived.Test.YtfdjkfmiofgclaaGreatDoorKGz
import Derived.Test.YtfdjkfmiofgclaaGreatDoorCards
import Derived.Test.YtfdjkfmiofgclaaGreatDoorTie
namespace Go.Proofs.YtfdjkfmiofgclaaGreatDoor
set_option linter.all false
open Go Go.Kv Go.RowKit Go.ChangeShapes Go.WideShapes Go.ChangeAt Go.Proofs
set_option maxRecDepth 100000
theorem sh3 {n : Nat} {xs : List DV} (h : shapeD Tryz.prog (n + 1) 3 xs) : ∃ (a0 : Int), xs = [vI a0] ∧ (inI64 a0) := by
  rw [shapeD, Tryz.underlying3] at h
  obtain ⟨i, rfl, hw⟩ := h
  refine ⟨i, rfl, ?_⟩
  simp [Lit.wf, IntKind.min, IntKind.max, IntKind.signed, IntKind.bits] at hw
  first | exact hw | (unfold inI64; omega) | omega
theorem sh47 {n : Nat} {xs : List DV} (h : shapeD Tryz.prog (n + 2) 47 xs) : ∃ (a0 : Int) (a1 : Int), xs = [vI a0, vI a1] ∧ (inI64 a0) ∧ (inI64 a1) := by
  rw [shapeD, Tryz.underlying47] at h
  simp only [shapeFs] at h
  obtain ⟨x0, r0, rfl, h0, x1, r1, rfl, h1, rfl⟩ := h
  obtain ⟨a0, rfl, w0⟩ := sh3 h0
  obtain ⟨a1, rfl, w1⟩ := sh3 h1
  exact ⟨a0, a1, rfl, w0, w1⟩
def enc47 (x : Int × Int) : List DV := [vI x.1, vI x.2]
def ok47 (x : Int × Int) : Prop := (inI64 x.1) ∧ (inI64 x.2)
theorem sh22 {n : Nat} {xs : List DV} (h : shapeD Tryz.prog (n + 3) 22 xs) : ∃ (a0 : List (Int × Int)), xs = [.sl a0.length (a0.flatMap enc47)] ∧ ((a0.length ≤ maxLen ∧ ∀ e ∈ a0, ok47 e)) := by
  rw [shapeD, Tryz.underlying22] at h
  obtain ⟨ys, rfl, hm, hy⟩ := h
  obtain ⟨l, rfl, hl⟩ := list_of (enc := enc47) (R := ok47) (fun y hyy => by
    obtain ⟨a0, a1, rfl, w0, w1⟩ := sh47 (hy y hyy)
    exact ⟨(a0, a1), rfl, w0, w1⟩)
  rw [List.length_map] at hm
  exact ⟨l, by rw [List.length_map, List.flatMap_def], hm, hl⟩
theorem sh9 {n : Nat} {xs : List DV} (h : shapeD Tryz.prog (n + 1) 9 xs) : ∃ (a0 : ByteArray), xs = [.v (.string a0)] ∧ (a0.size ≤ maxLen) := by
  rw [shapeD, Tryz.underlying9] at h
  obtain ⟨b, rfl, hw⟩ := h
  exact ⟨b, rfl, hw⟩
theorem sh119 {n : Nat} {xs : List DV} (h : shapeD Tryz.prog (n + 4) 119 xs) : ∃ (a0 : ByteArray) (a1 : Int) (a2 : Int) (a3 : List (Int × Int)), xs = [.v (.string a0), vI a1, vI a2, .sl a3.length (a3.flatMap enc47)] ∧ (a0.size ≤ maxLen) ∧ (inI64 a1) ∧ (inI64 a2) ∧ ((a3.length ≤ maxLen ∧ ∀ e ∈ a3, ok47 e)) := by
  rw [shapeD, Tryz.underlying119] at h
  simp only [shapeFs] at h
  obtain ⟨x0, r0, rfl, h0, x1, r1, rfl, h1, x2, r2, rfl, h2, x3, r3, rfl, h3, rfl⟩ := h
  obtain ⟨a0, rfl, w0⟩ := sh9 h0
  obtain ⟨a1, rfl, w1⟩ := sh3 h1
  obtain ⟨a2, rfl, w2⟩ := sh3 h2
  obtain ⟨a3, rfl, w3⟩ := sh22 h3
  exact ⟨a0, a1, a2, a3, rfl, w0, w1, w2, w3⟩
def enc119 (x : ByteArray × Int × Int × (List (Int × Int))) : List DV := [.v (.string x.1), vI x.2.1, vI x.2.2.1, .sl x.2.2.2.length (x.2.2.2.flatMap enc47)]
def ok119 (x : ByteArray × Int × Int × (List (Int × Int))) : Prop := (x.1.size ≤ maxLen) ∧ (inI64 x.2.1) ∧ (inI64 x.2.2.1) ∧ ((x.2.2.2.length ≤ maxLen ∧ ∀ e ∈ x.2.2.2, ok47 e))
theorem sh23 {n : Nat} {xs : List DV} (h : shapeD Tryz.prog (n + 5) 23 xs) : ∃ (a0 : List (ByteArray × Int × Int × (List (Int × Int)))), xs = [.sl a0.length (a0.flatMap enc119)] ∧ ((a0.length ≤ maxLen ∧ ∀ e ∈ a0, ok119 e)) := by
  rw [shapeD, Tryz.underlying23] at h
  obtain ⟨ys, rfl, hm, hy⟩ := h
  obtain ⟨l, rfl, hl⟩ := list_of (enc := enc119) (R := ok119) (fun y hyy => by
    obtain ⟨a0, a1, a2, a3, rfl, w0, w1, w2, w3⟩ := sh119 (hy y hyy)
    exact ⟨(a0, a1, a2, a3), rfl, w0, w1, w2, w3⟩)
  rw [List.length_map] at hm
  exact ⟨l, by rw [List.length_map, List.flatMap_def], hm, hl⟩
theorem sh121 {n : Nat} {xs : List DV} (h : shapeD Tryz.prog (n + 4) 121 xs) : ∃ (a0 : Int) (a1 : ByteArray) (a2 : List (Int × Int)), xs = [vI a0, .v (.string a1), .sl a2.length (a2.flatMap enc47)] ∧ (inI64 a0) ∧ (a1.size ≤ maxLen) ∧ ((a2.length ≤ maxLen ∧ ∀ e ∈ a2, ok47 e)) := by
  rw [shapeD, Tryz.underlying121] at h
  simp only [shapeFs] at h
  obtain ⟨x0, r0, rfl, h0, x1, r1, rfl, h1, x2, r2, rfl, h2, rfl⟩ := h
  obtain ⟨a0, rfl, w0⟩ := sh3 h0
  obtain ⟨a1, rfl, w1⟩ := sh9 h1
  obtain ⟨a2, rfl, w2⟩ := sh22 h2
  exact ⟨a0, a1, a2, rfl, w0, w1, w2⟩
def enc121 (x : Int × ByteArray × (List (Int × Int))) : List DV := [vI x.1, .v (.string x.2.1), .sl x.2.2.length (x.2.2.flatMap enc47)]
def ok121 (x : Int × ByteArray × (List (Int × Int))) : Prop := (inI64 x.1) ∧ (x.2.1.size ≤ maxLen) ∧ ((x.2.2.length ≤ maxLen ∧ ∀ e ∈ x.2.2, ok47 e))
theorem sh24 {n : Nat} {xs : List DV} (h : shapeD Tryz.prog (n + 5) 24 xs) : ∃ (a0 : List (Int × ByteArray × (List (Int × Int)))), xs = [.sl a0.length (a0.flatMap enc121)] ∧ ((a0.length ≤ maxLen ∧ ∀ e ∈ a0, ok121 e)) := by
  rw [shapeD, Tryz.underlying24] at h
  obtain ⟨ys, rfl, hm, hy⟩ := h
  obtain ⟨l, rfl, hl⟩ := list_of (enc := enc121) (R := ok121) (fun y hyy => by
    obtain ⟨a0, a1, a2, rfl, w0, w1, w2⟩ := sh121 (hy y hyy)
    exact ⟨(a0, a1, a2), rfl, w0, w1, w2⟩)
  rw [List.length_map] at hm
  exact ⟨l, by rw [List.length_map, List.flatMap_def], hm, hl⟩
theorem sh26 {n : Nat} {xs : List DV} (h : shapeD Tryz.prog (n + 6) 26 xs) : ∃ (a0 : Int) (a1 : List (Int × Int)) (a2 : List (ByteArray × Int × Int × (List (Int × Int)))) (a3 : List (Int × ByteArray × (List (Int × Int)))), xs = [vI a0, .sl a1.length (a1.flatMap enc47), .sl a2.length (a2.flatMap enc119), .sl a3.length (a3.flatMap enc121)] ∧ (inI64 a0) ∧ ((a1.length ≤ maxLen ∧ ∀ e ∈ a1, ok47 e)) ∧ ((a2.length ≤ maxLen ∧ ∀ e ∈ a2, ok119 e)) ∧ ((a3.length ≤ maxLen ∧ ∀ e ∈ a3, ok121 e)) := by
  rw [shapeD, Tryz.underlying26] at h
  simp only [shapeFs] at h
  obtain ⟨x0, r0, rfl, h0, x1, r1, rfl, h1, x2, r2, rfl, h2, x3, r3, rfl, h3, rfl⟩ := h
  obtain ⟨a0, rfl, w0⟩ := sh3 h0
  obtain ⟨a1, rfl, w1⟩ := sh22 h1
  obtain ⟨a2, rfl, w2⟩ := sh23 h2
  obtain ⟨a3, rfl, w3⟩ := sh24 h3
  exact ⟨a0, a1, a2, a3, rfl, w0, w1, w2, w3⟩
theorem sh27 {n : Nat} {xs : List DV} (h : shapeD Tryz.prog (n + 2) 27 xs) : ∃ (a0 : Int) (a1 : Int) (a2 : Int), xs = [vI a0, vI a1, vI a2] ∧ (inI64 a0) ∧ (inI64 a1) ∧ (inI64 a2) := by
  rw [shapeD, Tryz.underlying27] at h
  simp only [shapeN] at h
  obtain ⟨x0, r0, rfl, h0, x1, r1, rfl, h1, x2, r2, rfl, h2, rfl⟩ := h
  obtain ⟨a0, rfl, w0⟩ := sh3 h0
  obtain ⟨a1, rfl, w1⟩ := sh3 h1
  obtain ⟨a2, rfl, w2⟩ := sh3 h2
  exact ⟨a0, a1, a2, rfl, w0, w1, w2⟩
theorem toneGains_plain : plainT Tryz.prog 6 26 = true ∧ plainT Tryz.prog 2 27 = true := ⟨by kernel_rfl, by kernel_rfl⟩
theorem toneGains_lifted (os : Os) (started : os.Started) (H : Type) (enc : TypeId × Value → H) :
    ReturnsInHanded {} Tryz.checked os 4 .any (fun w args => (Rows.toneGainsSpec.pre enc Tryz.prog Tryz.f4 [] false w args ∧ laidMetH Tryz.prog laidL w) ∧ sizedMet enc Tryz.prog Tryz.f4 (OpenSpec.ofChange Rows.toneGainsSpec) false w args)
      (Rows.toneGainsSpec.post enc Tryz.prog Tryz.f4 false true false false) := by
  refine returnsInHanded_of_change_and (C := Tryz.checked) (X := fun w _ => laidMetH Tryz.prog laidL w) (fun _ _ _ hh h => h.of_heap hh) own started (by kernel_rfl) Tryz.func4
    (ChangeSpec.witness_shaped (enc := enc) (C := Tryz.checked) (os := os) (X := fun w _ => laidMetH Tryz.prog laidL w) false (World.doorLaid Tryz.prog 4000 os)
      #[.agg #[.int .i64 0, .slice none 0 0, .slice none 0 0, .slice none 0 0], .agg #[.int .i64 0, .int .i64 0, .int .i64 0]] 8 rfl (World.shaped_of_RefB (by kernel_rfl) (by kernel_rfl)) (by kernel_rfl) (by kernel_rfl) (by kernel_rfl) (door_met os _)) ?_
  intro W base args ds gs before hval0 hW _ _ hL _
  have hW' := hW
  obtain ⟨p, q, hA, hV, rfl, hfz, hnd⟩ := hW
  have hval : ∀ (j : Nat) t v, Tryz.f4.params[j]? = some t → args[j]? = some v → Value.okWide Tryz.prog W .any base t v := hval0
  have hA : DataW.TrodAll enc Tryz.prog W 0 (fun _ => true) true Tryz.f4.params.toList args.toList ds p := hA
  rw [Tryz.params4] at hA hval
  obtain ⟨v0, v1, d0, d1, p0, p1, rfl, rfl, rfl, h0, h1⟩ := trodAll_two hA
  obtain ⟨rfl, rfl⟩ := trodVars_none hV
  obtain ⟨xs0, s0, r0⟩ := arg_rel (c := ctx0 (phiOf W)) (fun {_} => rfl) (bounds_phi W) toneGains_plain.1 (hval 0 26 v0 rfl rfl) h0
  obtain ⟨b0, b1, b2, b3, rfl, w0, w1, w2, w3⟩ := sh26 (n := 0) s0
  have r0 : Rel (ctx0 (phiOf W)) W (.agg [.d (vI b0), .d (.sl b1.length (b1.flatMap enc47)), .d (.sl b2.length (b2.flatMap enc119)), .d (.sl b3.length (b3.flatMap enc121))]) v0 := by
    have e : argA Tryz.prog 26 [vI b0, .sl b1.length (b1.flatMap enc47), .sl b2.length (b2.flatMap enc119), .sl b3.length (b3.flatMap enc121)] = (.agg [.d (vI b0), .d (.sl b1.length (b1.flatMap enc47)), .d (.sl b2.length (b2.flatMap enc119)), .d (.sl b3.length (b3.flatMap enc121))] : AV) := by unfold argA; rw [Tryz.underlying26]; rfl
    rw [← e]; exact r0
  obtain ⟨xs1, s1, r1⟩ := arg_rel (c := ctx0 (phiOf W)) (fun {_} => rfl) (bounds_phi W) toneGains_plain.2 (hval 1 27 v1 rfl rfl) h1
  obtain ⟨b4, b5, b6, rfl, w4, w5, w6⟩ := sh27 (n := 0) s1
  have r1 : Rel (ctx0 (phiOf W)) W (.agg [.d (vI b4), .d (vI b5), .d (vI b6)]) v1 := by
    have e : argA Tryz.prog 27 [vI b4, vI b5, vI b6] = (.agg [.d (vI b4), .d (vI b5), .d (vI b6)] : AV) := by unfold argA; rw [Tryz.underlying27]; rfl
    rw [← e]; exact r1
  have hc : PureCalls Tryz.prog cfz.glob 4 [.agg [.d (vI b0), .d (.sl b1.length (b1.flatMap enc47)), .d (.sl b2.length (b2.flatMap enc119)), .d (.sl b3.length (b3.flatMap enc121))], .agg [.d (vI b4), .d (vI b5), .d (vI b6)]] (aB true) := f4 b0 b1.length (b1.flatMap enc47) b2.length (b2.flatMap enc119) b3.length (b3.flatMap enc121) b4 b5 b6 true (gains_true b0 b1 b2 b3 b4 b5 b6)
  refine (pure_true hc (glob_ok hL) (Rels.cons r0 (Rels.cons r1 Rels.nil))).mono ?_
  rintro e W2 ⟨rfl, hb⟩
  exact ⟨_, rfl, law_post (tb := 4) laidOut rfl (by kernel_rfl) Tryz.underlying4 (by
    rw [Tryz.params4]
    intro t ht
    simp at ht
    rcases ht with rfl | rfl
    · exact ⟨by kernel_rfl, of_decide_eq_true (by kernel_rfl)⟩
    · exact ⟨by kernel_rfl, of_decide_eq_true (by kernel_rfl)⟩) hW' rfl hb⟩
theorem toneGains_said : Rows.ToneGainsSaid :=
  OpenClaim.holds_of_wide 4 Tryz.f4 rfl rfl rfl rfl rfl rfl rfl ⟨rfl, rfl, rfl, rfl, rfl⟩ rfl rfl rfl rfl rfl (by kernel_rfl) Tryz.func4 (by kernel_rfl)
    (of_decide_eq_true (by kernel_rfl)) (by unfold Func.isWrapper; first | (rw [if_pos (by decide +kernel)]; kernel_rfl) | (rw [if_neg (by decide +kernel)]; exact ⟨rfl, rfl⟩))
    (fun os started H enc _ => toneGains_lifted os started H enc)
theorem toneGains_card : Rows.ToneGainsCardSaid :=
  Claim7.holds_tied_plain_at .later [] [.data, .data, .data, .widerDeep] true (true, "b82ba2e0634b42eb894f8c9dea2ed033dcd5bbe400e611f6788ab46e155db3ef") false
    toneGains_said (fun _ h => by cases h) (by kernel_rfl) (fun _ h => by cases h) toneGains_row_tie rfl ⟨rfl, rfl⟩ (by kernel_rfl) rfl
    (fun f fn hf hfn => by
      obtain rfl : f = 4 := Option.some.inj ((show Tryz.prog.funcNamed "kilovar/kilovarlaw02.ToneGains" = some 4 by kernel_rfl).symm.trans hf) |>.symm
      obtain rfl : fn = Tryz.f4 := (Option.some.inj (Tryz.func4.symm.trans hfn)).symm
      exact ⟨by kernel_rfl, fun j t ht => by
        rw [Tryz.params4] at ht
        rcases j with _ | _ | j
        · have h3 : t = 26 := by simpa using ht.symm
          subst h3
          exact (show Tryz.prog.wantsStandIn 26 = false by kernel_rfl)
        · have h3 : t = 27 := by simpa using ht.symm
          subst h3
          exact (show Tryz.prog.wantsStandIn 27 = false by kernel_rfl)
        · simp at ht⟩)
    (by kernel_rfl)
end Go.Proofs.YtfdjkfmiofgclaaGreatDoor
