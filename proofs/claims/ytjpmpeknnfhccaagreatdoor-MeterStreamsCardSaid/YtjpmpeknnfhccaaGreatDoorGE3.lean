/- Printed: what functions of the program come to, and the kernel's proof of it. -/
import Derived.Test.YtjpmpeknnfhccaaGreatDoorKvW
import Derived.Test.YtjpmpeknnfhccaaGreatDoorKvZ
import Derived.Test.YtjpmpeknnfhccaaGreatDoorKzA
import Derived.Test.YtjpmpeknnfhccaaGreatDoorKzW
namespace Go.Kv
set_option linter.unusedVariables false
set_option linter.unusedSimpArgs false
open Go Go.RowKit Go.Proofs
set_option maxRecDepth 100000
/-! F21 -/
inductive S21 where
  | c0 (a16 : Nat) (a17 : List DV)
def out21 (v : Bool) : AV := (.d (.v (.bool v)))
noncomputable def st21 : S21 → ASt
  | .c0 a16 a17 => ent cfz 21 [(.d (.sl a16 a17))]
noncomputable def B21 : S21 → Tr S21 (Bool)
  | .c0 a16 a17 => (.triv _ (tv_s (decide ((↑a16 : Int) ≤ 12) == false)) (.triv _ (tv_s (decide ((↑a16 : Int) ≤ 12) == false)) (.triv _ (tv_f (decide ((↑a16 : Int) ≤ 12))) (.ret (if decide ((↑a16 : Int) ≤ 12) = true then true else (↑a16 : Int) == 65)))))
noncomputable def F21 (a16 : Nat) (a17 : List DV) : Option (Bool) := res B21 (.c0 a16 a17)
noncomputable def D21_0 (a16 : Nat) (a17 : List DV) : DT cfz := (.go 17 [(.sp .none), (.sp .none), (.sp .none), .mg] [] .fin)
theorem k21_0 (a16 : Nat) (a17 : List DV) : xrun cfz 21 (D21_0 a16 a17) [] (st21 (.c0 a16 a17)) = (B21 (.c0 a16 a17)).mach st21 out21 := by kernel_rfl
theorem ok21 : ∀ s, ∃ d, xrun cfz 21 d [] (st21 s) = (B21 s).mach st21 out21
  | .c0 a16 a17 => ⟨_, k21_0 a16 a17⟩
theorem f21 (a16 : Nat) (a17 : List DV) (v : Bool) (h : F21 a16 a17 = some v) : PureCalls cfz.P cfz.glob 21 [(.d (.sl a16 a17))] (out21 v) := tree_pure knil ok21 (s := .c0 a16 a17) rfl (by kernel_rfl) v h

/-! F5 -/
inductive S5 where
  | c0 (a13 : Int) (a14 : Nat) (a15 : List DV)
def out5 (v : Bool) : AV := (.d (.v (.bool v)))
noncomputable def st5 : S5 → ASt
  | .c0 a13 a14 a15 => ent cfz 5 [(.agg [(aI a13), (.d (.sl a14 a15))])]
noncomputable def B5 : S5 → Tr S5 (Bool)
  | .c0 a13 a14 a15 => (.bind (F21 a14 a15) fun v18 =>
  (.sees [(.d (.sl a14 a15))] (.ret v18)))
noncomputable def F5 (a13 : Int) (a14 : Nat) (a15 : List DV) : Option (Bool) := res B5 (.c0 a13 a14 a15)
noncomputable def D5_0 (a13 : Int) (a14 : Nat) (a15 : List DV) : DT cfz := (.go 9 [] [] (.bind (f21 a14 a15) fun v18 => (.go 4 [(.ck 0)] [] .fin)))
theorem k5_0 (a13 : Int) (a14 : Nat) (a15 : List DV) : xrun cfz 5 (D5_0 a13 a14 a15) [] (st5 (.c0 a13 a14 a15)) = (B5 (.c0 a13 a14 a15)).mach st5 out5 := by kernel_rfl
theorem ok5 : ∀ s, ∃ d, xrun cfz 5 d [] (st5 s) = (B5 s).mach st5 out5
  | .c0 a13 a14 a15 => ⟨_, k5_0 a13 a14 a15⟩
theorem f5 (a13 : Int) (a14 : Nat) (a15 : List DV) (v : Bool) (h : F5 a13 a14 a15 = some v) : PureCalls cfz.P cfz.glob 5 [(.agg [(aI a13), (.d (.sl a14 a15))])] (out5 v) := tree_pure knil ok5 (s := .c0 a13 a14 a15) rfl (by kernel_rfl) v h

/-! F18 -/
inductive S18 where
  | c0 (a25 : Nat) (a26 : List DV)
  | c1 (x27 : Nat) (x28 : List DV) (x29 y30 : Int)
  | c2 (y31 y32 : Nat) (y33 : List DV) (x34 : Nat) (x35 : List DV) (x36 y37 : Int) (y38 : Nat)
def out18 (v : Nat × List DV) : AV := (.d (.sl v.fst v.snd))
noncomputable def st18 : S18 → ASt
  | .c0 a25 a26 => ent cfz 18 [(.d (.sl a25 a26))]
  | .c1 x27 x28 x29 y30 => ⟨⟨18, sp 18 0 [(3, (.d (.v (.slice .none 0 0)))), (6, (.d (.sl x27 x28))), (7, (aI x29)), (8, (aI y30))], [(.code (cd cfz.P 18 [1, 1, 0, 1, 0, 0])), (.inLoop (cd cfz.P 18 [1, 1, 0, 1, 0, 0])), (.inBlock 0), (.code (cd cfz.P 18 [1, 1, 1]))], [], false, .none⟩, [], []⟩
  | .c2 y31 y32 y33 x34 x35 x36 y37 y38 => ⟨⟨18, sp 18 0 [(3, (.own 2 y31 5 y32 y33)), (6, (.d (.sl x34 x35))), (7, (aI x36)), (8, (aI y37))], [(.code (cd cfz.P 18 [1, 1, 0, 1, 0, 0])), (.inLoop (cd cfz.P 18 [1, 1, 0, 1, 0, 0])), (.inBlock 0), (.code (cd cfz.P 18 [1, 1, 1]))], [], false, .none⟩, [], [.dead, (.tail 0), (.tail y38)]⟩
noncomputable def B18 : S18 → Tr S18 (Nat × List DV)
  | .c0 a25 a26 => (.nxt (.c1 a25 a26 ((↑a25 : Int)) 0))
  | .c1 x27 x28 x29 y30 => (.br (decide (y30 < x29))
  (.ask (.le 0 y30) (.ask (.lt y30 ((↑x27 : Int))) (.ask (.leN (y30.toNat * 5) x28.length) (.ask (.leN 5 ((List.drop (y30.toNat * 5) x28).length)) (.ask (.prop (List.map AV.d (List.take 5 (List.drop (y30.toNat * 5) x28)) = [AV.d (DV.v (Value.int IntKind.i64 (dI (cel x28 (y30.toNat * 5))))), AV.d (DV.v (Value.int IntKind.i64 (dI (cel x28 (y30.toNat * 5 + 1))))), AV.d (DV.v (Value.int IntKind.i64 (dI (cel x28 (y30.toNat * 5 + 2))))), AV.d (DV.v (Value.int IntKind.i64 (dI (cel x28 (y30.toNat * 5 + 3))))), AV.d (DV.v (Value.int IntKind.i64 (dI (cel x28 (y30.toNat * 5 + 4)))))])) (.ask (.in64 (y30 + 1)) (.nxt (.c2 0 1 [(.v (.int .i64 (dI (cel x28 (y30.toNat * 5))))), (.v (.int .i64 (dI (cel x28 (y30.toNat * 5 + 1))))), (.v (.int .i64 (dI (cel x28 (y30.toNat * 5 + 2))))), (.v (.int .i64 (dI (cel x28 (y30.toNat * 5 + 3))))), (.v (.int .i64 (dI (cel x28 (y30.toNat * 5 + 4)))))] x27 x28 x29 (y30 + 1) 0))))))))
  (.ret (0, [])))
  | .c2 y31 y32 y33 x34 x35 x36 y37 y38 => (.br (decide (y37 < x36))
  (.ask (.le 0 y37) (.ask (.lt y37 ((↑x34 : Int))) (.ask (.leN (y37.toNat * 5) x35.length) (.ask (.leN 5 ((List.drop (y37.toNat * 5) x35).length)) (.ask (.prop (List.map AV.d (List.take 5 (List.drop (y37.toNat * 5) x35)) = [AV.d (DV.v (Value.int IntKind.i64 (dI (cel x35 (y37.toNat * 5))))), AV.d (DV.v (Value.int IntKind.i64 (dI (cel x35 (y37.toNat * 5 + 1))))), AV.d (DV.v (Value.int IntKind.i64 (dI (cel x35 (y37.toNat * 5 + 2))))), AV.d (DV.v (Value.int IntKind.i64 (dI (cel x35 (y37.toNat * 5 + 3))))), AV.d (DV.v (Value.int IntKind.i64 (dI (cel x35 (y37.toNat * 5 + 4)))))])) (.ask (.eqN y31 y38) (.ask (.fits (y32 + 1) 40) (.ask (.in64 (y37 + 1)) (.nxt (.c2 (y38 + 1) (y32 + 1) (y33 ++ [DV.v (Value.int IntKind.i64 (dI (cel x35 (y37.toNat * 5)))), DV.v (Value.int IntKind.i64 (dI (cel x35 (y37.toNat * 5 + 1)))), DV.v (Value.int IntKind.i64 (dI (cel x35 (y37.toNat * 5 + 2)))), DV.v (Value.int IntKind.i64 (dI (cel x35 (y37.toNat * 5 + 3)))), DV.v (Value.int IntKind.i64 (dI (cel x35 (y37.toNat * 5 + 4))))]) x34 x35 x36 (y37 + 1) (y38 + 1)))))))))))
  (.ret (y32, y33)))
noncomputable def F18 (a25 : Nat) (a26 : List DV) : Option (Nat × List DV) := res B18 (.c0 a25 a26)
noncomputable def D18_0 (a25 : Nat) (a26 : List DV) : DT cfz := (.go 17 [] [] (.cut 0 [[3, 6, 7, 8]] []))
theorem k18_0 (a25 : Nat) (a26 : List DV) : xrun cfz 18 (D18_0 a25 a26) [] (st18 (.c0 a25 a26)) = (B18 (.c0 a25 a26)).mach st18 out18 := by kernel_rfl
noncomputable def D18_1 (x27 : Nat) (x28 : List DV) (x29 y30 : Int) : DT cfz := (.go 5 [] [] (.split 9 (.go 24 [(.br true), (.as (.agg [(aI (dI (cel x28 (y30.toNat * 5)))), (aI (dI (cel x28 (y30.toNat * 5 + 1)))), (aI (dI (cel x28 (y30.toNat * 5 + 2)))), (aI (dI (cel x28 (y30.toNat * 5 + 3)))), (aI (dI (cel x28 (y30.toNat * 5 + 4))))]))] [0, 6, 7, 8] (.cut 3 [[3, 6, 7, 8]] [0])) (.go 8 [(.br false)] [0] .fin)))
theorem k18_1 (x27 : Nat) (x28 : List DV) (x29 y30 : Int) : xrun cfz 18 (D18_1 x27 x28 x29 y30) [] (st18 (.c1 x27 x28 x29 y30)) = (B18 (.c1 x27 x28 x29 y30)).mach st18 out18 := by kernel_rfl
noncomputable def D18_2 (y31 y32 : Nat) (y33 : List DV) (x34 : Nat) (x35 : List DV) (x36 y37 : Int) (y38 : Nat) : DT cfz := (.go 5 [] [] (.split 9 (.go 24 [(.br true), (.as (.agg [(aI (dI (cel x35 (y37.toNat * 5)))), (aI (dI (cel x35 (y37.toNat * 5 + 1)))), (aI (dI (cel x35 (y37.toNat * 5 + 2)))), (aI (dI (cel x35 (y37.toNat * 5 + 3)))), (aI (dI (cel x35 (y37.toNat * 5 + 4))))]))] [0, 7, 8] (.cut 3 [[3, 6, 7, 8]] [])) (.go 8 [(.br false)] [0] .fin)))
theorem k18_2 (y31 y32 : Nat) (y33 : List DV) (x34 : Nat) (x35 : List DV) (x36 y37 : Int) (y38 : Nat) : xrun cfz 18 (D18_2 y31 y32 y33 x34 x35 x36 y37 y38) [] (st18 (.c2 y31 y32 y33 x34 x35 x36 y37 y38)) = (B18 (.c2 y31 y32 y33 x34 x35 x36 y37 y38)).mach st18 out18 := by kernel_rfl
theorem ok18 : ∀ s, ∃ d, xrun cfz 18 d [] (st18 s) = (B18 s).mach st18 out18
  | .c0 a25 a26 => ⟨_, k18_0 a25 a26⟩
  | .c1 x27 x28 x29 y30 => ⟨_, k18_1 x27 x28 x29 y30⟩
  | .c2 y31 y32 y33 x34 x35 x36 y37 y38 => ⟨_, k18_2 y31 y32 y33 x34 x35 x36 y37 y38⟩
theorem f18 (a25 : Nat) (a26 : List DV) (v : Nat × List DV) (h : F18 a25 a26 = some v) : PureCalls cfz.P cfz.glob 18 [(.d (.sl a25 a26))] (out18 v) := tree_pure knil ok18 (s := .c0 a25 a26) rfl (by kernel_rfl) v h

/-! F8 -/
inductive S8 where
  | c0 (a22 : Int) (a23 : Nat) (a24 : List DV)
def out8 (v : Int × Nat × List DV) : AV := (.agg [(.d (.v (.int .i64 v.fst))), (.d (.sl v.snd.fst v.snd.snd))])
noncomputable def st8 : S8 → ASt
  | .c0 a22 a23 a24 => ent cfz 8 [(.agg [(aI a22), (.d (.sl a23 a24))])]
noncomputable def B8 : S8 → Tr S8 (Int × Nat × List DV)
  | .c0 a22 a23 a24 => (.bind (F18 a23 a24) fun v39 =>
  (.sees [(.d (.sl a23 a24))] (.ret (a22, v39.fst, v39.snd))))
noncomputable def F8 (a22 : Int) (a23 : Nat) (a24 : List DV) : Option (Int × Nat × List DV) := res B8 (.c0 a22 a23 a24)
noncomputable def D8_0 (a22 : Int) (a23 : Nat) (a24 : List DV) : DT cfz := (.go 7 [] [] (.bind (f18 a23 a24) fun v39 => (.go 2 [(.ck 0)] [] .fin)))
theorem k8_0 (a22 : Int) (a23 : Nat) (a24 : List DV) : xrun cfz 8 (D8_0 a22 a23 a24) [] (st8 (.c0 a22 a23 a24)) = (B8 (.c0 a22 a23 a24)).mach st8 out8 := by kernel_rfl
theorem ok8 : ∀ s, ∃ d, xrun cfz 8 d [] (st8 s) = (B8 s).mach st8 out8
  | .c0 a22 a23 a24 => ⟨_, k8_0 a22 a23 a24⟩
theorem f8 (a22 : Int) (a23 : Nat) (a24 : List DV) (v : Int × Nat × List DV) (h : F8 a22 a23 a24 = some v) : PureCalls cfz.P cfz.glob 8 [(.agg [(aI a22), (.d (.sl a23 a24))])] (out8 v) := tree_pure knil ok8 (s := .c0 a22 a23 a24) rfl (by kernel_rfl) v h

/-! F43 -/
inductive S43 where
  | c0 (a58 : Bool) (a59 : Int)
def out43 (v : Int) : AV := (.d (.v (.int .i64 v)))
noncomputable def st43 : S43 → ASt
  | .c0 a58 a59 => ent cfz 43 [(.d (.v (.bool a58))), (aI a59)]
noncomputable def B43 : S43 → Tr S43 (Int)
  | .c0 a58 a59 => (.br a58
  (.ret a59)
  (.ret 0))
noncomputable def F43 (a58 : Bool) (a59 : Int) : Option (Int) := res B43 (.c0 a58 a59)
noncomputable def D43_0 (a58 : Bool) (a59 : Int) : DT cfz := (.go 9 [] [] (.split 5 (.go 7 [(.br true)] [0] .fin) (.go 7 [(.br false)] [0] .fin)))
theorem k43_0 (a58 : Bool) (a59 : Int) : xrun cfz 43 (D43_0 a58 a59) [] (st43 (.c0 a58 a59)) = (B43 (.c0 a58 a59)).mach st43 out43 := by kernel_rfl
theorem ok43 : ∀ s, ∃ d, xrun cfz 43 d [] (st43 s) = (B43 s).mach st43 out43
  | .c0 a58 a59 => ⟨_, k43_0 a58 a59⟩
theorem f43 (a58 : Bool) (a59 v : Int) (h : F43 a58 a59 = some v) : PureCalls cfz.P cfz.glob 43 [(.d (.v (.bool a58))), (aI a59)] (out43 v) := tree_pure knil ok43 (s := .c0 a58 a59) rfl (by kernel_rfl) v h

/-! F73 -/
inductive S73 where
  | c0 (a55 a56 a57 : Int)
def out73 (v : Int) : AV := (.d (.v (.int .i64 v)))
noncomputable def st73 : S73 → ASt
  | .c0 a55 a56 a57 => ent cfz 73 [(aI a55), (aI a56), (aI a57)]
noncomputable def B73 : S73 → Tr S73 (Int)
  | .c0 a55 a56 a57 => (.triv _ (tv_s (decide (a55 < a56) == false)) (.triv _ (tv_s (decide (a55 < a56) == false)) (.triv _ (tv_f (decide (a55 < a56))) (.bind (F43 (if decide (a55 < a56) = true then true else decide (a55 > a57)) 3) fun v60 =>
  (.sees [(.d (.v (.bool (if decide (a55 < a56) = true then true else decide (a55 > a57))))), (aI 3)] (.ret v60))))))
noncomputable def F73 (a55 a56 a57 : Int) : Option (Int) := res B73 (.c0 a55 a56 a57)
noncomputable def D73_0 (a55 a56 a57 : Int) : DT cfz := (.go 14 [(.sp .none), (.sp .none), (.sp .none), .mg] [] (.bind (f43 (if decide (a55 < a56) = true then true else decide (a55 > a57)) 3) fun v60 => (.go 4 [(.ck 0)] [] .fin)))
theorem k73_0 (a55 a56 a57 : Int) : xrun cfz 73 (D73_0 a55 a56 a57) [] (st73 (.c0 a55 a56 a57)) = (B73 (.c0 a55 a56 a57)).mach st73 out73 := by kernel_rfl
theorem ok73 : ∀ s, ∃ d, xrun cfz 73 d [] (st73 s) = (B73 s).mach st73 out73
  | .c0 a55 a56 a57 => ⟨_, k73_0 a55 a56 a57⟩
theorem f73 (a55 a56 a57 v : Int) (h : F73 a55 a56 a57 = some v) : PureCalls cfz.P cfz.glob 73 [(aI a55), (aI a56), (aI a57)] (out73 v) := tree_pure knil ok73 (s := .c0 a55 a56 a57) rfl (by kernel_rfl) v h

/-! F42 -/
inductive S42 where
  | c0 (a63 : Nat) (a64 : List DV)
  | c1 (x65 : Nat) (x66 : List DV) (x67 y68 : Int)
def out42 (v : Int) : AV := (.d (.v (.int .i64 v)))
noncomputable def st42 : S42 → ASt
  | .c0 a63 a64 => ent cfz 42 [(.d (.sl a63 a64))]
  | .c1 x65 x66 x67 y68 => ⟨⟨42, sp 15 0 [(5, (.d (.sl x65 x66))), (6, (aI x67)), (7, (aI y68))], [(.code (cd cfz.P 42 [1, 0, 1, 0, 0])), (.inLoop (cd cfz.P 42 [1, 0, 1, 0, 0])), (.inBlock 0), (.code (cd cfz.P 42 [1, 1]))], [], false, .none⟩, [], []⟩
noncomputable def B42 : S42 → Tr S42 (Int)
  | .c0 a63 a64 => (.nxt (.c1 a63 a64 ((↑a63 : Int)) 0))
  | .c1 x65 x66 x67 y68 => (.br (decide (y68 < x67))
  (.ask (.le 0 y68) (.ask (.lt y68 ((↑x65 : Int))) (.ask (.leN (y68.toNat * 1) x66.length) (.ask (.prop (Option.map AV.d (List.drop (y68.toNat * 1) x66)[0]? = some (AV.d (DV.v (Value.int IntKind.i64 (dI (cel x66 (y68.toNat * 1)))))))) (.br (dI (cel x66 (y68.toNat * 1)) != 0)
  (.ret (dI (cel x66 (y68.toNat * 1))))
  (.ask (.in64 (y68 + 1)) (.nxt (.c1 x65 x66 x67 (y68 + 1)))))))))
  (.ret 0))
noncomputable def F42 (a63 : Nat) (a64 : List DV) : Option (Int) := res B42 (.c0 a63 a64)
noncomputable def D42_0 (a63 : Nat) (a64 : List DV) : DT cfz := (.go 13 [] [] (.cut 0 [[5, 6, 7]] []))
theorem k42_0 (a63 : Nat) (a64 : List DV) : xrun cfz 42 (D42_0 a63 a64) [] (st42 (.c0 a63 a64)) = (B42 (.c0 a63 a64)).mach st42 out42 := by kernel_rfl
noncomputable def D42_1 (x65 : Nat) (x66 : List DV) (x67 y68 : Int) : DT cfz := (.go 5 [] [] (.split 8 (.go 15 [(.br true), (.as (aI (dI (cel x66 (y68.toNat * 1)))))] [0] (.split 12 (.go 7 [(.br true)] [0] .fin) (.go 8 [(.br false)] [0] (.cut 0 [[5, 6, 7]] [])))) (.go 7 [(.br false)] [0] .fin)))
theorem k42_1 (x65 : Nat) (x66 : List DV) (x67 y68 : Int) : xrun cfz 42 (D42_1 x65 x66 x67 y68) [] (st42 (.c1 x65 x66 x67 y68)) = (B42 (.c1 x65 x66 x67 y68)).mach st42 out42 := by kernel_rfl
theorem ok42 : ∀ s, ∃ d, xrun cfz 42 d [] (st42 s) = (B42 s).mach st42 out42
  | .c0 a63 a64 => ⟨_, k42_0 a63 a64⟩
  | .c1 x65 x66 x67 y68 => ⟨_, k42_1 x65 x66 x67 y68⟩
theorem f42 (a63 : Nat) (a64 : List DV) (v : Int) (h : F42 a63 a64 = some v) : PureCalls cfz.P cfz.glob 42 [(.d (.sl a63 a64))] (out42 v) := tree_pure knil ok42 (s := .c0 a63 a64) rfl (by kernel_rfl) v h

/-! F54 -/
inductive S54 where
  | c0 (a75 a76 a77 a78 a79 : Int)
def out54 (v : Int) : AV := (.d (.v (.int .i64 v)))
noncomputable def st54 : S54 → ASt
  | .c0 a75 a76 a77 a78 a79 => ent cfz 54 [(.agg [(aI a75), (aI a76), (aI a77), (aI a78), (aI a79)])]
noncomputable def B54 : S54 → Tr S54 (Int)
  | .c0 a75 a76 a77 a78 a79 => (.bind (F73 a75 0 999999999) fun v80 =>
  (.bind (F73 a76 0 100000000) fun v81 =>
  (.bind (F73 a77 0 999999) fun v82 =>
  (.bind (F73 a78 0 999999) fun v83 =>
  (.bind (F73 a79 0 7) fun v84 =>
  (.bind (F42 5 [(.v (.int .i64 v80)), (.v (.int .i64 v81)), (.v (.int .i64 v82)), (.v (.int .i64 v83)), (.v (.int .i64 v84))]) fun v85 =>
  (.sees [(aI a75), (aI 0), (aI 999999999)] (.sees [(aI a76), (aI 0), (aI 100000000)] (.sees [(aI a77), (aI 0), (aI 999999)] (.sees [(aI a78), (aI 0), (aI 999999)] (.sees [(aI a79), (aI 0), (aI 7)] (.sees [(.d (.sl 5 [(vI v80), (vI v81), (vI v82), (vI v83), (vI v84)]))] (.ret v85)))))))))))))
noncomputable def F54 (a75 a76 a77 a78 a79 : Int) : Option (Int) := res B54 (.c0 a75 a76 a77 a78 a79)
noncomputable def D54_0 (a75 a76 a77 a78 a79 : Int) : DT cfz := (.go 7 [] [] (.bind (f73 a75 0 999999999) fun v80 => (.bind (f73 a76 0 100000000) fun v81 => (.bind (f73 a77 0 999999) fun v82 => (.bind (f73 a78 0 999999) fun v83 => (.bind (f73 a79 0 7) fun v84 => (.bind (f42 5 [(vI v80), (vI v81), (vI v82), (vI v83), (vI v84)]) fun v85 => (.go 2 [(.ck 0), (.ck 1), (.ck 2), (.ck 3), (.ck 4), (.ck 5)] [] .fin))))))))
theorem k54_0 (a75 a76 a77 a78 a79 : Int) : xrun cfz 54 (D54_0 a75 a76 a77 a78 a79) [] (st54 (.c0 a75 a76 a77 a78 a79)) = (B54 (.c0 a75 a76 a77 a78 a79)).mach st54 out54 := by kernel_rfl
theorem ok54 : ∀ s, ∃ d, xrun cfz 54 d [] (st54 s) = (B54 s).mach st54 out54
  | .c0 a75 a76 a77 a78 a79 => ⟨_, k54_0 a75 a76 a77 a78 a79⟩
theorem f54 (a75 a76 a77 a78 a79 v : Int) (h : F54 a75 a76 a77 a78 a79 = some v) : PureCalls cfz.P cfz.glob 54 [(.agg [(aI a75), (aI a76), (aI a77), (aI a78), (aI a79)])] (out54 v) := tree_pure knil ok54 (s := .c0 a75 a76 a77 a78 a79) rfl (by kernel_rfl) v h

/-! F71 -/
inductive S71 where
  | c0 (a87 a88 a89 a90 a91 a92 a93 a94 a95 a96 : Int)
def out71 (v : Bool) : AV := (.d (.v (.bool v)))
noncomputable def st71 : S71 → ASt
  | .c0 a87 a88 a89 a90 a91 a92 a93 a94 a95 a96 => ent cfz 71 [(.agg [(aI a87), (aI a88), (aI a89), (aI a90), (aI a91)]), (.agg [(aI a92), (aI a93), (aI a94), (aI a95), (aI a96)])]
noncomputable def B71 : S71 → Tr S71 (Bool)
  | .c0 a87 a88 a89 a90 a91 a92 a93 a94 a95 a96 => (.ask (.in64 (a92 + 1)) (.br (a87 == a92 + 1)
  (.ret (decide (a88 > a93)))
  (.ret false)))
noncomputable def F71 (a87 a88 a89 a90 a91 a92 a93 a94 a95 a96 : Int) : Option (Bool) := res B71 (.c0 a87 a88 a89 a90 a91 a92 a93 a94 a95 a96)
noncomputable def D71_0 (a87 a88 a89 a90 a91 a92 a93 a94 a95 a96 : Int) : DT cfz := (.go 15 [] [] (.split 11 (.go 9 [(.br true), (.br true), .none, (.br true), (.br true), .none, (.br true)] [0, 1, 2, 3, 4] .fin) (.go 9 [(.br false), (.br false), (.br false), (.br false), (.br false)] [0, 1, 2, 3, 4] .fin)))
theorem k71_0 (a87 a88 a89 a90 a91 a92 a93 a94 a95 a96 : Int) : xrun cfz 71 (D71_0 a87 a88 a89 a90 a91 a92 a93 a94 a95 a96) [] (st71 (.c0 a87 a88 a89 a90 a91 a92 a93 a94 a95 a96)) = (B71 (.c0 a87 a88 a89 a90 a91 a92 a93 a94 a95 a96)).mach st71 out71 := by kernel_rfl
theorem ok71 : ∀ s, ∃ d, xrun cfz 71 d [] (st71 s) = (B71 s).mach st71 out71
  | .c0 a87 a88 a89 a90 a91 a92 a93 a94 a95 a96 => ⟨_, k71_0 a87 a88 a89 a90 a91 a92 a93 a94 a95 a96⟩
theorem f71 (a87 a88 a89 a90 a91 a92 a93 a94 a95 a96 : Int) (v : Bool) (h : F71 a87 a88 a89 a90 a91 a92 a93 a94 a95 a96 = some v) : PureCalls cfz.P cfz.glob 71 [(.agg [(aI a87), (aI a88), (aI a89), (aI a90), (aI a91)]), (.agg [(aI a92), (aI a93), (aI a94), (aI a95), (aI a96)])] (out71 v) := tree_pure knil ok71 (s := .c0 a87 a88 a89 a90 a91 a92 a93 a94 a95 a96) rfl (by kernel_rfl) v h

/-! F39 -/
inductive S39 where
  | c0 (a52 : Int) (a53 : Nat) (a54 : List DV)
  | c1 (x70 : Nat) (x71 : List DV) (x72 y73 x74 : Int)
def out39 (v : Int) : AV := (.d (.v (.int .i64 v)))
noncomputable def st39 : S39 → ASt
  | .c0 a52 a53 a54 => ent cfz 39 [(.agg [(aI a52), (.d (.sl a53 a54))])]
  | .c1 x70 x71 x72 y73 x74 => ⟨⟨39, sp 53 0 [(1, (.ptr 0 0)), (23, (.d (.sl x70 x71))), (24, (aI x72)), (25, (aI y73))], [(.code (cd cfz.P 39 [1, 1, 0, 1, 0, 0])), (.inLoop (cd cfz.P 39 [1, 1, 0, 1, 0, 0])), (.inBlock 0), (.code (cd cfz.P 39 [1, 1, 1]))], [], false, .none⟩, [], [(.cells [(aI x74), (.d (.sl x70 x71))] 35)]⟩
noncomputable def B39 : S39 → Tr S39 (Int)
  | .c0 a52 a53 a54 => (.bind (F73 a52 1 64) fun v61 =>
  (.bind (F43 (decide ((↑a53 : Int) > a52)) 5) fun v62 =>
  (.bind (F42 2 [(.v (.int .i64 v61)), (.v (.int .i64 v62))]) fun v69 =>
  (.sees [(aI a52), (aI 1), (aI 64)] (.sees [(.d (.v (.bool (decide ((↑a53 : Int) > a52))))), (aI 5)] (.sees [(.d (.sl 2 [(vI v61), (vI v62)]))] (.br (v69 != 0)
  (.ret v69)
  (.nxt (.c1 a53 a54 ((↑a53 : Int)) 0 a52)))))))))
  | .c1 x70 x71 x72 y73 x74 => (.br (decide (y73 < x72))
  (.ask (.le 0 y73) (.ask (.lt y73 ((↑x70 : Int))) (.ask (.leN (y73.toNat * 5) x71.length) (.ask (.leN 5 ((List.drop (y73.toNat * 5) x71).length)) (.ask (.prop (List.map AV.d (List.take 5 (List.drop (y73.toNat * 5) x71)) = [AV.d (DV.v (Value.int IntKind.i64 (dI (cel x71 (y73.toNat * 5))))), AV.d (DV.v (Value.int IntKind.i64 (dI (cel x71 (y73.toNat * 5 + 1))))), AV.d (DV.v (Value.int IntKind.i64 (dI (cel x71 (y73.toNat * 5 + 2))))), AV.d (DV.v (Value.int IntKind.i64 (dI (cel x71 (y73.toNat * 5 + 3))))), AV.d (DV.v (Value.int IntKind.i64 (dI (cel x71 (y73.toNat * 5 + 4)))))])) (.bind (F54 (dI (cel x71 (y73.toNat * 5))) (dI (cel x71 (y73.toNat * 5 + 1))) (dI (cel x71 (y73.toNat * 5 + 2))) (dI (cel x71 (y73.toNat * 5 + 3))) (dI (cel x71 (y73.toNat * 5 + 4)))) fun v86 =>
  (.br (decide (y73 > 0))
  (.bind (F71 (dI (cel x71 (y73.toNat * 5))) (dI (cel x71 (y73.toNat * 5 + 1))) (dI (cel x71 (y73.toNat * 5 + 2))) (dI (cel x71 (y73.toNat * 5 + 3))) (dI (cel x71 (y73.toNat * 5 + 4))) (dI (cel x71 ((if y73 - 1 > 0 then y73 - 1 else 0).toNat * 5))) (dI (cel x71 ((if y73 - 1 > 0 then y73 - 1 else 0).toNat * 5 + 1))) (dI (cel x71 ((if y73 - 1 > 0 then y73 - 1 else 0).toNat * 5 + 2))) (dI (cel x71 ((if y73 - 1 > 0 then y73 - 1 else 0).toNat * 5 + 3))) (dI (cel x71 ((if y73 - 1 > 0 then y73 - 1 else 0).toNat * 5 + 4)))) fun v97 =>
  (.bind (F43 (!v97) 11) fun v98 =>
  (.bind (F42 2 [(.v (.int .i64 v86)), (.v (.int .i64 v98))]) fun v99 =>
  (.sees [(.agg [(aI (dI (cel x71 (y73.toNat * 5)))), (aI (dI (cel x71 (y73.toNat * 5 + 1)))), (aI (dI (cel x71 (y73.toNat * 5 + 2)))), (aI (dI (cel x71 (y73.toNat * 5 + 3)))), (aI (dI (cel x71 (y73.toNat * 5 + 4))))])] (.ask (.eqB (decide (y73 > 0)) true) (.ask (.eqB (decide (y73 > 0)) true) (.ask (.eqB (decide (y73 > 0)) true) (.ask (.in64 (y73 - 1)) (.ask (.eqB (decide (y73 > 0)) true) (.ask (.eqB (decide (y73 > 0)) true) (.ask (.le 0 (if y73 - 1 > 0 then y73 - 1 else 0)) (.ask (.lt (if y73 - 1 > 0 then y73 - 1 else 0) ((↑x70 : Int))) (.ask (.leN ((if y73 - 1 > 0 then y73 - 1 else 0).toNat * 5) x71.length) (.ask (.eqB (decide (y73 > 0)) true) (.ask (.leN 5 ((List.drop ((if y73 - 1 > 0 then y73 - 1 else 0).toNat * 5) x71).length)) (.ask (.prop (List.map AV.d (List.take 5 (List.drop ((if y73 - 1 > 0 then y73 - 1 else 0).toNat * 5) x71)) = [AV.d (DV.v (Value.int IntKind.i64 (dI (cel x71 ((if y73 - 1 > 0 then y73 - 1 else 0).toNat * 5))))), AV.d (DV.v (Value.int IntKind.i64 (dI (cel x71 ((if y73 - 1 > 0 then y73 - 1 else 0).toNat * 5 + 1))))), AV.d (DV.v (Value.int IntKind.i64 (dI (cel x71 ((if y73 - 1 > 0 then y73 - 1 else 0).toNat * 5 + 2))))), AV.d (DV.v (Value.int IntKind.i64 (dI (cel x71 ((if y73 - 1 > 0 then y73 - 1 else 0).toNat * 5 + 3))))), AV.d (DV.v (Value.int IntKind.i64 (dI (cel x71 ((if y73 - 1 > 0 then y73 - 1 else 0).toNat * 5 + 4)))))])) (.ask (.eqB (decide (y73 > 0)) true) (.sees [(.agg [(aI (dI (cel x71 (y73.toNat * 5)))), (aI (dI (cel x71 (y73.toNat * 5 + 1)))), (aI (dI (cel x71 (y73.toNat * 5 + 2)))), (aI (dI (cel x71 (y73.toNat * 5 + 3)))), (aI (dI (cel x71 (y73.toNat * 5 + 4))))]), (.agg [(aI (dI (cel x71 ((if y73 - 1 > 0 then y73 - 1 else 0).toNat * 5)))), (aI (dI (cel x71 ((if y73 - 1 > 0 then y73 - 1 else 0).toNat * 5 + 1)))), (aI (dI (cel x71 ((if y73 - 1 > 0 then y73 - 1 else 0).toNat * 5 + 2)))), (aI (dI (cel x71 ((if y73 - 1 > 0 then y73 - 1 else 0).toNat * 5 + 3)))), (aI (dI (cel x71 ((if y73 - 1 > 0 then y73 - 1 else 0).toNat * 5 + 4))))])] (.ask (.eqB (decide (y73 > 0)) true) (.ask (.eqB (decide (y73 > 0) == true) true) (.ask (.eqB (decide (y73 > 0)) true) (.ask (.eqB (decide (y73 > 0)) true) (.sees [(.d (.v (.bool (!v97)))), (aI 11)] (.sees [(.d (.sl 2 [(vI v86), (vI v98)]))] (.br (v99 != 0)
  (.ret v99)
  (.ask (.in64 (y73 + 1)) (.nxt (.c1 x70 x71 x72 (y73 + 1) x74))))))))))))))))))))))))))))
  (.bind (F43 false 11) fun v100 =>
  (.bind (F42 2 [(.v (.int .i64 v86)), (.v (.int .i64 v100))]) fun v101 =>
  (.sees [(.agg [(aI (dI (cel x71 (y73.toNat * 5)))), (aI (dI (cel x71 (y73.toNat * 5 + 1)))), (aI (dI (cel x71 (y73.toNat * 5 + 2)))), (aI (dI (cel x71 (y73.toNat * 5 + 3)))), (aI (dI (cel x71 (y73.toNat * 5 + 4))))])] (.ask (.eqB (decide (y73 > 0)) false) (.ask (.eqB (decide (y73 > 0)) false) (.ask (.eqB (decide (y73 > 0)) false) (.ask (.eqB (decide (y73 > 0)) false) (.ask (.eqB (decide (y73 > 0)) false) (.ask (.eqB (decide (y73 > 0)) false) (.ask (.eqB (decide (y73 > 0)) false) (.ask (.eqB (decide (y73 > 0)) false) (.ask (.eqB (decide (y73 > 0)) false) (.ask (.eqB (decide (y73 > 0)) false) (.sees [(.d (.v (.bool false))), (aI 11)] (.sees [(.d (.sl 2 [(vI v86), (vI v100)]))] (.br (v101 != 0)
  (.ret v101)
  (.ask (.in64 (y73 + 1)) (.nxt (.c1 x70 x71 x72 (y73 + 1) x74))))))))))))))))))))))))))
  (.ret 0))
noncomputable def F39 (a52 : Int) (a53 : Nat) (a54 : List DV) : Option (Int) := res B39 (.c0 a52 a53 a54)
noncomputable def D39_0 (a52 : Int) (a53 : Nat) (a54 : List DV) : DT cfz := (.go 8 [] [] (.bind (f73 a52 1 64) fun v61 => (.bind (f43 (decide ((↑a53 : Int) > a52)) 5) fun v62 => (.bind (f42 2 [(vI v61), (vI v62)]) fun v69 => (.go 6 [(.ck 0), (.ck 1), (.ck 2)] [] (.split 20 (.go 7 [(.br true)] [0] .fin) (.go 12 [(.br false)] [0] (.cut 1 [[1, 23, 24, 25]] []))))))))
theorem k39_0 (a52 : Int) (a53 : Nat) (a54 : List DV) : xrun cfz 39 (D39_0 a52 a53 a54) [] (st39 (.c0 a52 a53 a54)) = (B39 (.c0 a52 a53 a54)).mach st39 out39 := by kernel_rfl
noncomputable def D39_1 (x70 : Nat) (x71 : List DV) (x72 y73 x74 : Int) : DT cfz := (.go 5 [] [] (.split 26 (.go 15 [(.br true), (.as (.agg [(aI (dI (cel x71 (y73.toNat * 5)))), (aI (dI (cel x71 (y73.toNat * 5 + 1)))), (aI (dI (cel x71 (y73.toNat * 5 + 2)))), (aI (dI (cel x71 (y73.toNat * 5 + 3)))), (aI (dI (cel x71 (y73.toNat * 5 + 4))))]))] [0] (.bind (f54 (dI (cel x71 (y73.toNat * 5))) (dI (cel x71 (y73.toNat * 5 + 1))) (dI (cel x71 (y73.toNat * 5 + 2))) (dI (cel x71 (y73.toNat * 5 + 3))) (dI (cel x71 (y73.toNat * 5 + 4)))) fun v86 => (.br (decide (y73 > 0)) (.bind (f71 (dI (cel x71 (y73.toNat * 5))) (dI (cel x71 (y73.toNat * 5 + 1))) (dI (cel x71 (y73.toNat * 5 + 2))) (dI (cel x71 (y73.toNat * 5 + 3))) (dI (cel x71 (y73.toNat * 5 + 4))) (dI (cel x71 ((if y73 - 1 > 0 then y73 - 1 else 0).toNat * 5))) (dI (cel x71 ((if y73 - 1 > 0 then y73 - 1 else 0).toNat * 5 + 1))) (dI (cel x71 ((if y73 - 1 > 0 then y73 - 1 else 0).toNat * 5 + 2))) (dI (cel x71 ((if y73 - 1 > 0 then y73 - 1 else 0).toNat * 5 + 3))) (dI (cel x71 ((if y73 - 1 > 0 then y73 - 1 else 0).toNat * 5 + 4)))) fun v97 => (.bind (f43 (!v97) 11) fun v98 => (.bind (f42 2 [(vI v86), (vI v98)]) fun v99 => (.go 6 [.none, (.ck 0), (.sp .none), (.br true), (.br true), .none, (.br true), (.br true), (.br true), (.br true), (.br true), (.as (.agg [(aI (dI (cel x71 ((if y73 - 1 > 0 then y73 - 1 else 0).toNat * 5)))), (aI (dI (cel x71 ((if y73 - 1 > 0 then y73 - 1 else 0).toNat * 5 + 1)))), (aI (dI (cel x71 ((if y73 - 1 > 0 then y73 - 1 else 0).toNat * 5 + 2)))), (aI (dI (cel x71 ((if y73 - 1 > 0 then y73 - 1 else 0).toNat * 5 + 3)))), (aI (dI (cel x71 ((if y73 - 1 > 0 then y73 - 1 else 0).toNat * 5 + 4))))])), (.br true), (.ck 1), (.br true), (.br true), (.ck 2), (.ck 3)] [] (.split 50 (.go 7 [(.br true)] [0] .fin) (.go 8 [(.br false)] [0] (.cut 1 [[1, 23, 24, 25]] []))))))) (.bind (f43 false 11) fun v100 => (.bind (f42 2 [(vI v86), (vI v100)]) fun v101 => (.go 6 [.none, (.ck 0), (.sp .none), (.br false), (.br false), (.br false), (.br false), (.br false), (.br false), (.br false), (.br false), (.br false), (.br false), (.ck 1), (.ck 2)] [] (.split 50 (.go 7 [(.br true)] [0] .fin) (.go 8 [(.br false)] [0] (.cut 1 [[1, 23, 24, 25]] []))))))))) (.go 7 [(.br false)] [0] .fin)))
theorem k39_1 (x70 : Nat) (x71 : List DV) (x72 y73 x74 : Int) : xrun cfz 39 (D39_1 x70 x71 x72 y73 x74) [] (st39 (.c1 x70 x71 x72 y73 x74)) = (B39 (.c1 x70 x71 x72 y73 x74)).mach st39 out39 := by kernel_rfl
theorem ok39 : ∀ s, ∃ d, xrun cfz 39 d [] (st39 s) = (B39 s).mach st39 out39
  | .c0 a52 a53 a54 => ⟨_, k39_0 a52 a53 a54⟩
  | .c1 x70 x71 x72 y73 x74 => ⟨_, k39_1 x70 x71 x72 y73 x74⟩
theorem f39 (a52 : Int) (a53 : Nat) (a54 : List DV) (v : Int) (h : F39 a52 a53 a54 = some v) : PureCalls cfz.P cfz.glob 39 [(.agg [(aI a52), (.d (.sl a53 a54))])] (out39 v) := tree_pure knil ok39 (s := .c0 a52 a53 a54) rfl (by kernel_rfl) v h

/-! F55 -/
inductive S55 where
  | c0
def out55 (v : Unit) : AV := (.agg [(.d (.v (.int .i64 4))), (.d (.v (.func (.func 86) (#[]) (#[])))), (.d (.v (.func (.func 87) (#[]) (#[])))), (.d (.v (.int .i64 4))), (.d (.v (.func (.func 88) (#[]) (#[])))), (.d (.v (.func (.func 89) (#[]) (#[])))), (.d (.v (.int .i64 3))), (.d (.v (.func (.func 90) (#[]) (#[])))), (.d (.v (.func (.func 91) (#[]) (#[])))), (.d (.v (.int .i64 3))), (.d (.v (.func (.func 92) (#[]) (#[])))), (.d (.v (.func (.func 93) (#[]) (#[])))), (.d (.v (.int .i64 1))), (.d (.v (.func (.func 94) (#[]) (#[])))), (.d (.v (.func (.func 95) (#[]) (#[]))))])
noncomputable def st55 : S55 → ASt
  | .c0 => ent cfz 55 []
noncomputable def B55 : S55 → Tr S55 (Unit)
  | .c0 => (.ret ())
noncomputable def F55 : Option (Unit) := res B55 (.c0)
noncomputable def D55_0 : DT cfz := (.go 15 [] [] .fin)
theorem k55_0 : xrun cfz 55 (D55_0) [] (st55 (.c0)) = (B55 (.c0)).mach st55 out55 := by kernel_rfl
theorem ok55 : ∀ s, ∃ d, xrun cfz 55 d [] (st55 s) = (B55 s).mach st55 out55
  | .c0 => ⟨_, k55_0⟩
theorem f55 (v : Unit) (h : F55 = some v) : PureCalls cfz.P cfz.glob 55 [] (out55 v) := tree_pure knil ok55 (s := .c0) rfl (by kernel_rfl) v h

/-! F86 -/
inductive S86 where
  | c0 (a136 a137 a138 a139 a140 : Int)
def out86 (v : Int) : AV := (.d (.v (.int .i64 v)))
noncomputable def st86 : S86 → ASt
  | .c0 a136 a137 a138 a139 a140 => ent cfz 86 [(.agg [(aI a136), (aI a137), (aI a138), (aI a139), (aI a140)])]
noncomputable def B86 : S86 → Tr S86 (Int)
  | .c0 a136 a137 a138 a139 a140 => (.ret a136)
noncomputable def F86 (a136 a137 a138 a139 a140 : Int) : Option (Int) := res B86 (.c0 a136 a137 a138 a139 a140)
noncomputable def D86_0 (a136 a137 a138 a139 a140 : Int) : DT cfz := (.go 12 [] [] .fin)
theorem k86_0 (a136 a137 a138 a139 a140 : Int) : xrun cfz 86 (D86_0 a136 a137 a138 a139 a140) [] (st86 (.c0 a136 a137 a138 a139 a140)) = (B86 (.c0 a136 a137 a138 a139 a140)).mach st86 out86 := by kernel_rfl
theorem ok86 : ∀ s, ∃ d, xrun cfz 86 d [] (st86 s) = (B86 s).mach st86 out86
  | .c0 a136 a137 a138 a139 a140 => ⟨_, k86_0 a136 a137 a138 a139 a140⟩
theorem f86 (a136 a137 a138 a139 a140 v : Int) (h : F86 a136 a137 a138 a139 a140 = some v) : PureCalls cfz.P cfz.glob 86 [(.agg [(aI a136), (aI a137), (aI a138), (aI a139), (aI a140)])] (out86 v) := tree_pure knil ok86 (s := .c0 a136 a137 a138 a139 a140) rfl (by kernel_rfl) v h

/-! F88 -/
inductive S88 where
  | c0 (a142 a143 a144 a145 a146 : Int)
def out88 (v : Int) : AV := (.d (.v (.int .i64 v)))
noncomputable def st88 : S88 → ASt
  | .c0 a142 a143 a144 a145 a146 => ent cfz 88 [(.agg [(aI a142), (aI a143), (aI a144), (aI a145), (aI a146)])]
noncomputable def B88 : S88 → Tr S88 (Int)
  | .c0 a142 a143 a144 a145 a146 => (.ret a143)
noncomputable def F88 (a142 a143 a144 a145 a146 : Int) : Option (Int) := res B88 (.c0 a142 a143 a144 a145 a146)
noncomputable def D88_0 (a142 a143 a144 a145 a146 : Int) : DT cfz := (.go 12 [] [] .fin)
theorem k88_0 (a142 a143 a144 a145 a146 : Int) : xrun cfz 88 (D88_0 a142 a143 a144 a145 a146) [] (st88 (.c0 a142 a143 a144 a145 a146)) = (B88 (.c0 a142 a143 a144 a145 a146)).mach st88 out88 := by kernel_rfl
theorem ok88 : ∀ s, ∃ d, xrun cfz 88 d [] (st88 s) = (B88 s).mach st88 out88
  | .c0 a142 a143 a144 a145 a146 => ⟨_, k88_0 a142 a143 a144 a145 a146⟩
theorem f88 (a142 a143 a144 a145 a146 v : Int) (h : F88 a142 a143 a144 a145 a146 = some v) : PureCalls cfz.P cfz.glob 88 [(.agg [(aI a142), (aI a143), (aI a144), (aI a145), (aI a146)])] (out88 v) := tree_pure knil ok88 (s := .c0 a142 a143 a144 a145 a146) rfl (by kernel_rfl) v h

/-! F90 -/
inductive S90 where
  | c0 (a148 a149 a150 a151 a152 : Int)
def out90 (v : Int) : AV := (.d (.v (.int .i64 v)))
noncomputable def st90 : S90 → ASt
  | .c0 a148 a149 a150 a151 a152 => ent cfz 90 [(.agg [(aI a148), (aI a149), (aI a150), (aI a151), (aI a152)])]
noncomputable def B90 : S90 → Tr S90 (Int)
  | .c0 a148 a149 a150 a151 a152 => (.ret a150)
noncomputable def F90 (a148 a149 a150 a151 a152 : Int) : Option (Int) := res B90 (.c0 a148 a149 a150 a151 a152)
noncomputable def D90_0 (a148 a149 a150 a151 a152 : Int) : DT cfz := (.go 12 [] [] .fin)
theorem k90_0 (a148 a149 a150 a151 a152 : Int) : xrun cfz 90 (D90_0 a148 a149 a150 a151 a152) [] (st90 (.c0 a148 a149 a150 a151 a152)) = (B90 (.c0 a148 a149 a150 a151 a152)).mach st90 out90 := by kernel_rfl
theorem ok90 : ∀ s, ∃ d, xrun cfz 90 d [] (st90 s) = (B90 s).mach st90 out90
  | .c0 a148 a149 a150 a151 a152 => ⟨_, k90_0 a148 a149 a150 a151 a152⟩
theorem f90 (a148 a149 a150 a151 a152 v : Int) (h : F90 a148 a149 a150 a151 a152 = some v) : PureCalls cfz.P cfz.glob 90 [(.agg [(aI a148), (aI a149), (aI a150), (aI a151), (aI a152)])] (out90 v) := tree_pure knil ok90 (s := .c0 a148 a149 a150 a151 a152) rfl (by kernel_rfl) v h

/-! F92 -/
inductive S92 where
  | c0 (a154 a155 a156 a157 a158 : Int)
def out92 (v : Int) : AV := (.d (.v (.int .i64 v)))
noncomputable def st92 : S92 → ASt
  | .c0 a154 a155 a156 a157 a158 => ent cfz 92 [(.agg [(aI a154), (aI a155), (aI a156), (aI a157), (aI a158)])]
noncomputable def B92 : S92 → Tr S92 (Int)
  | .c0 a154 a155 a156 a157 a158 => (.ret a157)
noncomputable def F92 (a154 a155 a156 a157 a158 : Int) : Option (Int) := res B92 (.c0 a154 a155 a156 a157 a158)
noncomputable def D92_0 (a154 a155 a156 a157 a158 : Int) : DT cfz := (.go 12 [] [] .fin)
theorem k92_0 (a154 a155 a156 a157 a158 : Int) : xrun cfz 92 (D92_0 a154 a155 a156 a157 a158) [] (st92 (.c0 a154 a155 a156 a157 a158)) = (B92 (.c0 a154 a155 a156 a157 a158)).mach st92 out92 := by kernel_rfl
theorem ok92 : ∀ s, ∃ d, xrun cfz 92 d [] (st92 s) = (B92 s).mach st92 out92
  | .c0 a154 a155 a156 a157 a158 => ⟨_, k92_0 a154 a155 a156 a157 a158⟩
theorem f92 (a154 a155 a156 a157 a158 v : Int) (h : F92 a154 a155 a156 a157 a158 = some v) : PureCalls cfz.P cfz.glob 92 [(.agg [(aI a154), (aI a155), (aI a156), (aI a157), (aI a158)])] (out92 v) := tree_pure knil ok92 (s := .c0 a154 a155 a156 a157 a158) rfl (by kernel_rfl) v h

/-! F94 -/
inductive S94 where
  | c0 (a160 a161 a162 a163 a164 : Int)
def out94 (v : Int) : AV := (.d (.v (.int .i64 v)))
noncomputable def st94 : S94 → ASt
  | .c0 a160 a161 a162 a163 a164 => ent cfz 94 [(.agg [(aI a160), (aI a161), (aI a162), (aI a163), (aI a164)])]
noncomputable def B94 : S94 → Tr S94 (Int)
  | .c0 a160 a161 a162 a163 a164 => (.ret a164)
noncomputable def F94 (a160 a161 a162 a163 a164 : Int) : Option (Int) := res B94 (.c0 a160 a161 a162 a163 a164)
noncomputable def D94_0 (a160 a161 a162 a163 a164 : Int) : DT cfz := (.go 12 [] [] .fin)
theorem k94_0 (a160 a161 a162 a163 a164 : Int) : xrun cfz 94 (D94_0 a160 a161 a162 a163 a164) [] (st94 (.c0 a160 a161 a162 a163 a164)) = (B94 (.c0 a160 a161 a162 a163 a164)).mach st94 out94 := by kernel_rfl
theorem ok94 : ∀ s, ∃ d, xrun cfz 94 d [] (st94 s) = (B94 s).mach st94 out94
  | .c0 a160 a161 a162 a163 a164 => ⟨_, k94_0 a160 a161 a162 a163 a164⟩
theorem f94 (a160 a161 a162 a163 a164 v : Int) (h : F94 a160 a161 a162 a163 a164 = some v) : PureCalls cfz.P cfz.glob 94 [(.agg [(aI a160), (aI a161), (aI a162), (aI a163), (aI a164)])] (out94 v) := tree_pure knil ok94 (s := .c0 a160 a161 a162 a163 a164) rfl (by kernel_rfl) v h

/-! F41 -/
inductive S41 where
  | c0 (a130 a131 a132 a133 a134 : Int)
def out41 (v : Int × Int × Int × Int × Int × Int × Int × Int × Int × Int × Int × Int × Int × Int × Int) : AV := (.agg [(.d (.v (.int .u8 v.fst))), (.d (.v (.int .u8 v.snd.fst))), (.d (.v (.int .u8 v.snd.snd.fst))), (.d (.v (.int .u8 v.snd.snd.snd.fst))), (.d (.v (.int .u8 v.snd.snd.snd.snd.fst))), (.d (.v (.int .u8 v.snd.snd.snd.snd.snd.fst))), (.d (.v (.int .u8 v.snd.snd.snd.snd.snd.snd.fst))), (.d (.v (.int .u8 v.snd.snd.snd.snd.snd.snd.snd.fst))), (.d (.v (.int .u8 v.snd.snd.snd.snd.snd.snd.snd.snd.fst))), (.d (.v (.int .u8 v.snd.snd.snd.snd.snd.snd.snd.snd.snd.fst))), (.d (.v (.int .u8 v.snd.snd.snd.snd.snd.snd.snd.snd.snd.snd.fst))), (.d (.v (.int .u8 v.snd.snd.snd.snd.snd.snd.snd.snd.snd.snd.snd.fst))), (.d (.v (.int .u8 v.snd.snd.snd.snd.snd.snd.snd.snd.snd.snd.snd.snd.fst))), (.d (.v (.int .u8 v.snd.snd.snd.snd.snd.snd.snd.snd.snd.snd.snd.snd.snd.fst))), (.d (.v (.int .u8 v.snd.snd.snd.snd.snd.snd.snd.snd.snd.snd.snd.snd.snd.snd))), (.d (.v (.int .u8 0)))])
noncomputable def st41 : S41 → ASt
  | .c0 a130 a131 a132 a133 a134 => ent cfz 41 [(.agg [(aI a130), (aI a131), (aI a132), (aI a133), (aI a134)])]
noncomputable def B41 : S41 → Tr S41 (Int × Int × Int × Int × Int × Int × Int × Int × Int × Int × Int × Int × Int × Int × Int)
  | .c0 a130 a131 a132 a133 a134 => (.bind (F55) fun v135 =>
  (.sees [] (.bind (F86 a130 a131 a132 a133 a134) fun v141 =>
  (.sees [(.agg [(aI a130), (aI a131), (aI a132), (aI a133), (aI a134)])] (.bind (F88 a130 a131 a132 a133 a134) fun v147 =>
  (.sees [(.agg [(aI a130), (aI a131), (aI a132), (aI a133), (aI a134)])] (.bind (F90 a130 a131 a132 a133 a134) fun v153 =>
  (.sees [(.agg [(aI a130), (aI a131), (aI a132), (aI a133), (aI a134)])] (.bind (F92 a130 a131 a132 a133 a134) fun v159 =>
  (.sees [(.agg [(aI a130), (aI a131), (aI a132), (aI a133), (aI a134)])] (.bind (F94 a130 a131 a132 a133 a134) fun v165 =>
  (.sees [(.agg [(aI a130), (aI a131), (aI a132), (aI a133), (aI a134)])] (.ret ((IntKind.u8.wrap (v141.fdiv 16777216)), (IntKind.u8.wrap (v141.fdiv 65536)), (IntKind.u8.wrap (v141.fdiv 256)), (IntKind.u8.wrap (v141.fdiv 1)), (IntKind.u8.wrap (v147.fdiv 16777216)), (IntKind.u8.wrap (v147.fdiv 65536)), (IntKind.u8.wrap (v147.fdiv 256)), (IntKind.u8.wrap (v147.fdiv 1)), (IntKind.u8.wrap (v153.fdiv 65536)), (IntKind.u8.wrap (v153.fdiv 256)), (IntKind.u8.wrap (v153.fdiv 1)), (IntKind.u8.wrap (v159.fdiv 65536)), (IntKind.u8.wrap (v159.fdiv 256)), (IntKind.u8.wrap (v159.fdiv 1)), (IntKind.u8.wrap (v165.fdiv 1))))))))))))))))
noncomputable def F41 (a130 a131 a132 a133 a134 : Int) : Option (Int × Int × Int × Int × Int × Int × Int × Int × Int × Int × Int × Int × Int × Int × Int) := res B41 (.c0 a130 a131 a132 a133 a134)
noncomputable def D41_0 (a130 a131 a132 a133 a134 : Int) : DT cfz := (.go 16 [] [] (.bind (f55) fun v135 => (.go 25 [(.ck 0), (.br true)] [1, 2, 3] (.bind (f86 a130 a131 a132 a133 a134) fun v141 => (.go 196 [(.ck 1), .none, (.br true), .none, .none, (.br true), .none, .none, (.br true), .none, .none, (.br true), .none, .none, (.br false), .none, (.br true)] [1, 2, 3, 4, 5, 6, 7, 8, 9, 10, 11, 12, 13, 14, 15, 16, 17, 18, 19, 20, 21, 22, 23, 24, 25, 26, 27, 28, 29, 30, 31, 32, 33, 34, 35, 36, 37, 38, 39, 40, 41, 42] (.bind (f88 a130 a131 a132 a133 a134) fun v147 => (.go 196 [(.ck 2), .none, (.br true), .none, .none, (.br true), .none, .none, (.br true), .none, .none, (.br true), .none, .none, (.br false), .none, (.br true)] [1, 2, 3, 4, 5, 6, 7, 8, 9, 10, 11, 12, 13, 14, 15, 16, 17, 18, 19, 20, 21, 22, 23, 24, 25, 26, 27, 28, 29, 30, 31, 32, 33, 34, 35, 36, 37, 38, 39, 40, 41, 42] (.bind (f90 a130 a131 a132 a133 a134) fun v153 => (.go 160 [(.ck 3), .none, (.br true), .none, .none, (.br true), .none, .none, (.br true), .none, .none, (.br false), .none, (.br true)] [1, 2, 3, 4, 5, 6, 7, 8, 9, 10, 11, 12, 13, 14, 15, 16, 17, 18, 19, 20, 21, 22, 23, 24, 25, 26, 27, 28, 29, 30, 31, 32, 33] (.bind (f92 a130 a131 a132 a133 a134) fun v159 => (.go 160 [(.ck 4), .none, (.br true), .none, .none, (.br true), .none, .none, (.br true), .none, .none, (.br false), .none, (.br true)] [1, 2, 3, 4, 5, 6, 7, 8, 9, 10, 11, 12, 13, 14, 15, 16, 17, 18, 19, 20, 21, 22, 23, 24, 25, 26, 27, 28, 29, 30, 31, 32, 33] (.bind (f94 a130 a131 a132 a133 a134) fun v165 => (.go 81 [(.ck 5), .none, (.br true), .none, .none, (.br false), .none, (.br false)] [1, 2, 3, 4, 5, 6, 7, 8, 9, 10, 11, 12, 13] .fin)))))))))))))
theorem k41_0 (a130 a131 a132 a133 a134 : Int) : xrun cfz 41 (D41_0 a130 a131 a132 a133 a134) [] (st41 (.c0 a130 a131 a132 a133 a134)) = (B41 (.c0 a130 a131 a132 a133 a134)).mach st41 out41 := by kernel_rfl
theorem ok41 : ∀ s, ∃ d, xrun cfz 41 d [] (st41 s) = (B41 s).mach st41 out41
  | .c0 a130 a131 a132 a133 a134 => ⟨_, k41_0 a130 a131 a132 a133 a134⟩
theorem f41 (a130 a131 a132 a133 a134 : Int) (v : Int × Int × Int × Int × Int × Int × Int × Int × Int × Int × Int × Int × Int × Int × Int) (h : F41 a130 a131 a132 a133 a134 = some v) : PureCalls cfz.P cfz.glob 41 [(.agg [(aI a130), (aI a131), (aI a132), (aI a133), (aI a134)])] (out41 v) := tree_pure knil ok41 (s := .c0 a130 a131 a132 a133 a134) rfl (by kernel_rfl) v h

/-! F98 -/
inductive S98 where
  | c0 (a124 : Nat) (a125 : List DV)
  | c1 (x126 : Nat) (x127 : List DV) (x128 y129 : Int)
  | c2 (y167 y168 : Nat) (y169 : List DV) (x170 : Nat) (x171 : List DV) (x172 y173 : Int) (y175 : Nat)
def out98 (v : Nat × List DV) : AV := (.d (.sl v.fst v.snd))
noncomputable def st98 : S98 → ASt
  | .c0 a124 a125 => ent cfz 98 [(.d (.sl a124 a125)), (.d (.v (.func (.func 41) (#[]) (#[]))))]
  | .c1 x126 x127 x128 y129 => ⟨⟨98, sp 22 0 [(1, (.d (.v (.func (.func 41) (#[]) (#[]))))), (5, (.d (.v (.slice .none 0 0)))), (8, (.d (.sl x126 x127))), (9, (aI x128)), (10, (aI y129))], [(.code (cd cfz.P 98 [1, 1, 0, 1, 0, 0])), (.inLoop (cd cfz.P 98 [1, 1, 0, 1, 0, 0])), (.inBlock 0), (.code (cd cfz.P 98 [1, 1, 1]))], [], false, .none⟩, [], []⟩
  | .c2 y167 y168 y169 x170 x171 x172 y173 y175 => ⟨⟨98, sp 22 0 [(1, (.d (.v (.func (.func 41) (#[]) (#[]))))), (5, (.own 2 y167 16 y168 y169)), (8, (.d (.sl x170 x171))), (9, (aI x172)), (10, (aI y173))], [(.code (cd cfz.P 98 [1, 1, 0, 1, 0, 0])), (.inLoop (cd cfz.P 98 [1, 1, 0, 1, 0, 0])), (.inBlock 0), (.code (cd cfz.P 98 [1, 1, 1]))], [], false, .none⟩, [], [.dead, (.tail 0), (.tail y175)]⟩
noncomputable def B98 : S98 → Tr S98 (Nat × List DV)
  | .c0 a124 a125 => (.nxt (.c1 a124 a125 ((↑a124 : Int)) 0))
  | .c1 x126 x127 x128 y129 => (.br (decide (y129 < x128))
  (.ask (.le 0 y129) (.ask (.lt y129 ((↑x126 : Int))) (.ask (.leN (y129.toNat * 5) x127.length) (.ask (.leN 5 ((List.drop (y129.toNat * 5) x127).length)) (.ask (.prop (List.map AV.d (List.take 5 (List.drop (y129.toNat * 5) x127)) = [AV.d (DV.v (Value.int IntKind.i64 (dI (cel x127 (y129.toNat * 5))))), AV.d (DV.v (Value.int IntKind.i64 (dI (cel x127 (y129.toNat * 5 + 1))))), AV.d (DV.v (Value.int IntKind.i64 (dI (cel x127 (y129.toNat * 5 + 2))))), AV.d (DV.v (Value.int IntKind.i64 (dI (cel x127 (y129.toNat * 5 + 3))))), AV.d (DV.v (Value.int IntKind.i64 (dI (cel x127 (y129.toNat * 5 + 4)))))])) (.bind (F41 (dI (cel x127 (y129.toNat * 5))) (dI (cel x127 (y129.toNat * 5 + 1))) (dI (cel x127 (y129.toNat * 5 + 2))) (dI (cel x127 (y129.toNat * 5 + 3))) (dI (cel x127 (y129.toNat * 5 + 4)))) fun v166 =>
  (.sees [(.agg [(aI (dI (cel x127 (y129.toNat * 5)))), (aI (dI (cel x127 (y129.toNat * 5 + 1)))), (aI (dI (cel x127 (y129.toNat * 5 + 2)))), (aI (dI (cel x127 (y129.toNat * 5 + 3)))), (aI (dI (cel x127 (y129.toNat * 5 + 4))))])] (.ask (.in64 (y129 + 1)) (.nxt (.c2 0 1 [(.v (.int .u8 v166.fst)), (.v (.int .u8 v166.snd.fst)), (.v (.int .u8 v166.snd.snd.fst)), (.v (.int .u8 v166.snd.snd.snd.fst)), (.v (.int .u8 v166.snd.snd.snd.snd.fst)), (.v (.int .u8 v166.snd.snd.snd.snd.snd.fst)), (.v (.int .u8 v166.snd.snd.snd.snd.snd.snd.fst)), (.v (.int .u8 v166.snd.snd.snd.snd.snd.snd.snd.fst)), (.v (.int .u8 v166.snd.snd.snd.snd.snd.snd.snd.snd.fst)), (.v (.int .u8 v166.snd.snd.snd.snd.snd.snd.snd.snd.snd.fst)), (.v (.int .u8 v166.snd.snd.snd.snd.snd.snd.snd.snd.snd.snd.fst)), (.v (.int .u8 v166.snd.snd.snd.snd.snd.snd.snd.snd.snd.snd.snd.fst)), (.v (.int .u8 v166.snd.snd.snd.snd.snd.snd.snd.snd.snd.snd.snd.snd.fst)), (.v (.int .u8 v166.snd.snd.snd.snd.snd.snd.snd.snd.snd.snd.snd.snd.snd.fst)), (.v (.int .u8 v166.snd.snd.snd.snd.snd.snd.snd.snd.snd.snd.snd.snd.snd.snd)), (.v (.int .u8 0))] x126 x127 x128 (y129 + 1) 0))))))))))
  (.ret (0, [])))
  | .c2 y167 y168 y169 x170 x171 x172 y173 y175 => (.br (decide (y173 < x172))
  (.ask (.le 0 y173) (.ask (.lt y173 ((↑x170 : Int))) (.ask (.leN (y173.toNat * 5) x171.length) (.ask (.leN 5 ((List.drop (y173.toNat * 5) x171).length)) (.ask (.prop (List.map AV.d (List.take 5 (List.drop (y173.toNat * 5) x171)) = [AV.d (DV.v (Value.int IntKind.i64 (dI (cel x171 (y173.toNat * 5))))), AV.d (DV.v (Value.int IntKind.i64 (dI (cel x171 (y173.toNat * 5 + 1))))), AV.d (DV.v (Value.int IntKind.i64 (dI (cel x171 (y173.toNat * 5 + 2))))), AV.d (DV.v (Value.int IntKind.i64 (dI (cel x171 (y173.toNat * 5 + 3))))), AV.d (DV.v (Value.int IntKind.i64 (dI (cel x171 (y173.toNat * 5 + 4)))))])) (.bind (F41 (dI (cel x171 (y173.toNat * 5))) (dI (cel x171 (y173.toNat * 5 + 1))) (dI (cel x171 (y173.toNat * 5 + 2))) (dI (cel x171 (y173.toNat * 5 + 3))) (dI (cel x171 (y173.toNat * 5 + 4)))) fun v176 =>
  (.sees [(.agg [(aI (dI (cel x171 (y173.toNat * 5)))), (aI (dI (cel x171 (y173.toNat * 5 + 1)))), (aI (dI (cel x171 (y173.toNat * 5 + 2)))), (aI (dI (cel x171 (y173.toNat * 5 + 3)))), (aI (dI (cel x171 (y173.toNat * 5 + 4))))])] (.ask (.eqN y167 y175) (.ask (.fits (y168 + 1) 16) (.ask (.in64 (y173 + 1)) (.nxt (.c2 (y175 + 1) (y168 + 1) (y169 ++ [DV.v (Value.int IntKind.u8 v176.fst), DV.v (Value.int IntKind.u8 v176.snd.fst), DV.v (Value.int IntKind.u8 v176.snd.snd.fst), DV.v (Value.int IntKind.u8 v176.snd.snd.snd.fst), DV.v (Value.int IntKind.u8 v176.snd.snd.snd.snd.fst), DV.v (Value.int IntKind.u8 v176.snd.snd.snd.snd.snd.fst), DV.v (Value.int IntKind.u8 v176.snd.snd.snd.snd.snd.snd.fst), DV.v (Value.int IntKind.u8 v176.snd.snd.snd.snd.snd.snd.snd.fst), DV.v (Value.int IntKind.u8 v176.snd.snd.snd.snd.snd.snd.snd.snd.fst), DV.v (Value.int IntKind.u8 v176.snd.snd.snd.snd.snd.snd.snd.snd.snd.fst), DV.v (Value.int IntKind.u8 v176.snd.snd.snd.snd.snd.snd.snd.snd.snd.snd.fst), DV.v (Value.int IntKind.u8 v176.snd.snd.snd.snd.snd.snd.snd.snd.snd.snd.snd.fst), DV.v (Value.int IntKind.u8 v176.snd.snd.snd.snd.snd.snd.snd.snd.snd.snd.snd.snd.fst), DV.v (Value.int IntKind.u8 v176.snd.snd.snd.snd.snd.snd.snd.snd.snd.snd.snd.snd.snd.fst), DV.v (Value.int IntKind.u8 v176.snd.snd.snd.snd.snd.snd.snd.snd.snd.snd.snd.snd.snd.snd), DV.v (Value.int IntKind.u8 0)]) x170 x171 x172 (y173 + 1) (y175 + 1)))))))))))))
  (.ret (y168, y169)))
noncomputable def F98 (a124 : Nat) (a125 : List DV) : Option (Nat × List DV) := res B98 (.c0 a124 a125)
noncomputable def D98_0 (a124 : Nat) (a125 : List DV) : DT cfz := (.go 17 [] [] (.cut 0 [[1, 5, 8, 9, 10]] []))
theorem k98_0 (a124 : Nat) (a125 : List DV) : xrun cfz 98 (D98_0 a124 a125) [] (st98 (.c0 a124 a125)) = (B98 (.c0 a124 a125)).mach st98 out98 := by kernel_rfl
noncomputable def D98_1 (x126 : Nat) (x127 : List DV) (x128 y129 : Int) : DT cfz := (.go 5 [] [] (.split 11 (.go 15 [(.br true), (.as (.agg [(aI (dI (cel x127 (y129.toNat * 5)))), (aI (dI (cel x127 (y129.toNat * 5 + 1)))), (aI (dI (cel x127 (y129.toNat * 5 + 2)))), (aI (dI (cel x127 (y129.toNat * 5 + 3)))), (aI (dI (cel x127 (y129.toNat * 5 + 4))))]))] [0] (.bind (f41 (dI (cel x127 (y129.toNat * 5))) (dI (cel x127 (y129.toNat * 5 + 1))) (dI (cel x127 (y129.toNat * 5 + 2))) (dI (cel x127 (y129.toNat * 5 + 3))) (dI (cel x127 (y129.toNat * 5 + 4)))) fun v166 => (.go 11 [(.ck 0)] [1, 2, 3] (.cut 3 [[1, 5, 8, 9, 10]] [0])))) (.go 8 [(.br false)] [0] .fin)))
theorem k98_1 (x126 : Nat) (x127 : List DV) (x128 y129 : Int) : xrun cfz 98 (D98_1 x126 x127 x128 y129) [] (st98 (.c1 x126 x127 x128 y129)) = (B98 (.c1 x126 x127 x128 y129)).mach st98 out98 := by kernel_rfl
noncomputable def D98_2 (y167 y168 : Nat) (y169 : List DV) (x170 : Nat) (x171 : List DV) (x172 y173 : Int) (y175 : Nat) : DT cfz := (.go 5 [] [] (.split 11 (.go 15 [(.br true), (.as (.agg [(aI (dI (cel x171 (y173.toNat * 5)))), (aI (dI (cel x171 (y173.toNat * 5 + 1)))), (aI (dI (cel x171 (y173.toNat * 5 + 2)))), (aI (dI (cel x171 (y173.toNat * 5 + 3)))), (aI (dI (cel x171 (y173.toNat * 5 + 4))))]))] [0] (.bind (f41 (dI (cel x171 (y173.toNat * 5))) (dI (cel x171 (y173.toNat * 5 + 1))) (dI (cel x171 (y173.toNat * 5 + 2))) (dI (cel x171 (y173.toNat * 5 + 3))) (dI (cel x171 (y173.toNat * 5 + 4)))) fun v176 => (.go 11 [(.ck 0)] [2, 3] (.cut 3 [[1, 5, 8, 9, 10]] [])))) (.go 8 [(.br false)] [0] .fin)))
theorem k98_2 (y167 y168 : Nat) (y169 : List DV) (x170 : Nat) (x171 : List DV) (x172 y173 : Int) (y175 : Nat) : xrun cfz 98 (D98_2 y167 y168 y169 x170 x171 x172 y173 y175) [] (st98 (.c2 y167 y168 y169 x170 x171 x172 y173 y175)) = (B98 (.c2 y167 y168 y169 x170 x171 x172 y173 y175)).mach st98 out98 := by kernel_rfl
theorem ok98 : ∀ s, ∃ d, xrun cfz 98 d [] (st98 s) = (B98 s).mach st98 out98
  | .c0 a124 a125 => ⟨_, k98_0 a124 a125⟩
  | .c1 x126 x127 x128 y129 => ⟨_, k98_1 x126 x127 x128 y129⟩
  | .c2 y167 y168 y169 x170 x171 x172 y173 y175 => ⟨_, k98_2 y167 y168 y169 x170 x171 x172 y173 y175⟩
theorem f98 (a124 : Nat) (a125 : List DV) (v : Nat × List DV) (h : F98 a124 a125 = some v) : PureCalls cfz.P cfz.glob 98 [(.d (.sl a124 a125)), (.d (.v (.func (.func 41) (#[]) (#[]))))] (out98 v) := tree_pure knil ok98 (s := .c0 a124 a125) rfl (by kernel_rfl) v h

/-! F82 -/
inductive S82 where
  | c0 (a200 a201 a202 a203 a204 a205 a206 a207 : Int) (a208 : Nat) (a209 : List DV)
  | c1 (x210 : Nat) (x211 : List DV) (y223 y212 y224 x213 y214 x215 x216 x217 x218 x219 x220 x221 x222 : Int)
  | c2 (x225 : Nat) (x226 : List DV) (y227 : Int) (x228 : List AV)
  | c3 (x229 : Nat) (x230 : List DV) (x231 y232 x233 y234 : Int) (x235 : List AV)
def out82 (v : Int × Int × Int × Int × Int × Int × Int × Int) : AV := (.agg [(.d (.v (.int .u8 v.fst))), (.d (.v (.int .u8 v.snd.fst))), (.d (.v (.int .u8 v.snd.snd.fst))), (.d (.v (.int .u8 v.snd.snd.snd.fst))), (.d (.v (.int .u8 v.snd.snd.snd.snd.fst))), (.d (.v (.int .u8 v.snd.snd.snd.snd.snd.fst))), (.d (.v (.int .u8 v.snd.snd.snd.snd.snd.snd.fst))), (.d (.v (.int .u8 v.snd.snd.snd.snd.snd.snd.snd)))])
noncomputable def st82 : S82 → ASt
  | .c0 a200 a201 a202 a203 a204 a205 a206 a207 a208 a209 => ent cfz 82 [(.agg [(a8 a200), (a8 a201), (a8 a202), (a8 a203), (a8 a204), (a8 a205), (a8 a206), (a8 a207)]), (.d (.sl a208 a209))]
  | .c1 x210 x211 y223 y212 y224 x213 y214 x215 x216 x217 x218 x219 x220 x221 x222 => ⟨⟨82, sp 40 0 [(1, (.d (.sl x210 x211))), (2, (.ptr 0 0)), (4, (.ptr 1 0)), (5, (aI y223)), (6, (aI y212)), (9, (aI y224)), (16, (.d (.sl x210 x211))), (17, (aI x213)), (18, (aI y214))], [(.code (cd cfz.P 82 [1, 0, 1, 0, 0, 1, 1, 0, 0, 1, 1, 0, 1, 0, 0])), (.inLoop (cd cfz.P 82 [1, 0, 1, 0, 0, 1, 1, 0, 0, 1, 1, 0, 1, 0, 0])), (.inBlock 2), (.code (cd cfz.P 82 [1, 0, 1, 0, 0, 1, 1, 0, 0, 1, 1, 1])), (.inBlock 1), (.code (cd cfz.P 82 [1, 0, 1, 0, 0, 1, 1, 1])), (.inLoop (cd cfz.P 82 [1, 0, 1, 0, 0])), (.inBlock 0), (.code (cd cfz.P 82 [1, 1]))], [], false, .none⟩, [], [(.cells [(a8 x215), (a8 x216), (a8 x217), (a8 x218), (a8 x219), (a8 x220), (a8 x221), (a8 x222)] 23), (.cells [(a8 0), (a8 0), (a8 0), (a8 0), (a8 0), (a8 0), (a8 0), (a8 0)] 23)]⟩
  | .c2 x225 x226 y227 x228 => ⟨⟨82, sp 40 0 [(1, (.d (.sl x225 x226))), (2, (.ptr 0 0)), (4, (.ptr 1 0)), (9, (aI y227))], [(.code (cd cfz.P 82 [1, 0, 1, 0, 0])), (.inLoop (cd cfz.P 82 [1, 0, 1, 0, 0])), (.inBlock 0), (.code (cd cfz.P 82 [1, 1]))], [], false, .none⟩, [], [(.cells x228 23), (.cells [(a8 0), (a8 0), (a8 0), (a8 0), (a8 0), (a8 0), (a8 0), (a8 0)] 23)]⟩
  | .c3 x229 x230 x231 y232 x233 y234 x235 => ⟨⟨82, sp 40 0 [(1, (.d (.sl x229 x230))), (2, (.ptr 0 0)), (4, (.ptr 1 0)), (5, (aI x231)), (6, (aI y232)), (9, (aI x231)), (16, (.d (.sl x229 x230))), (17, (aI x233)), (18, (aI y234))], [(.code (cd cfz.P 82 [1, 0, 1, 0, 0, 1, 1, 0, 0, 1, 1, 0, 1, 0, 0])), (.inLoop (cd cfz.P 82 [1, 0, 1, 0, 0, 1, 1, 0, 0, 1, 1, 0, 1, 0, 0])), (.inBlock 2), (.code (cd cfz.P 82 [1, 0, 1, 0, 0, 1, 1, 0, 0, 1, 1, 1])), (.inBlock 1), (.code (cd cfz.P 82 [1, 0, 1, 0, 0, 1, 1, 1])), (.inLoop (cd cfz.P 82 [1, 0, 1, 0, 0])), (.inBlock 0), (.code (cd cfz.P 82 [1, 1]))], [], false, .none⟩, [], [(.cells x235 23), (.cells [(a8 0), (a8 0), (a8 0), (a8 0), (a8 0), (a8 0), (a8 0), (a8 0)] 23)]⟩
noncomputable def B82 : S82 → Tr S82 (Int × Int × Int × Int × Int × Int × Int × Int)
  | .c0 a200 a201 a202 a203 a204 a205 a206 a207 a208 a209 => (.nxt (.c1 a208 a209 0 (IntKind.i64.wrap a200) 0 ((↑a208 : Int)) 0 a200 a201 a202 a203 a204 a205 a206 a207))
  | .c1 x210 x211 y223 y212 y224 x213 y214 x215 x216 x217 x218 x219 x220 x221 x222 => (.br (decide (y214 < x213))
  (.ask (.le 0 y214) (.ask (.lt y214 ((↑x210 : Int))) (.ask (.leN (y214.toNat * 1) x211.length) (.ask (.prop (Option.map AV.d (List.drop (y214.toNat * 1) x211)[0]? = some (AV.d (DV.v (Value.int IntKind.u8 (dI (cel x211 (y214.toNat * 1)))))))) (.ask (.in64 (2 * y223)) (.ask (.in64 (2 * y223 + 3)) (.ask (.in64 ((2 * y223 + 3) * y212)) (.ask (.in64 ((2 * y223 + 3) * y212 + IntKind.i64.wrap (dI (cel x211 (y214.toNat * 1))))) (.ask (.in64 ((2 * y223 + 3) * y212 + IntKind.i64.wrap (dI (cel x211 (y214.toNat * 1))) + y223)) (.ask (.in64 (y214 + 1)) (.nxt (.c1 x210 x211 y223 (((2 * y223 + 3) * y212 + IntKind.i64.wrap (dI (cel x211 (y214.toNat * 1))) + y223).tmod 256) y224 x213 (y214 + 1) x215 x216 x217 x218 x219 x220 x221 x222))))))))))))
  (.ask (.le 0 y223) (.ask (.lt y223 8) (.ask (.leN (0 + y223.toNat * 1 + 1) 8) (.triv _ (tv_p (spliceA [AV.d (DV.v (Value.int IntKind.u8 x215)), AV.d (DV.v (Value.int IntKind.u8 x216)), AV.d (DV.v (Value.int IntKind.u8 x217)), AV.d (DV.v (Value.int IntKind.u8 x218)), AV.d (DV.v (Value.int IntKind.u8 x219)), AV.d (DV.v (Value.int IntKind.u8 x220)), AV.d (DV.v (Value.int IntKind.u8 x221)), AV.d (DV.v (Value.int IntKind.u8 x222))] (0 + y223.toNat * 1) [AV.d (DV.v (Value.int IntKind.u8 (IntKind.u8.wrap y212)))])) (.ask (.in64 (y224 + 1)) (.ask (.prop (refK 2 (ABlk.cells (spliceA [AV.d (DV.v (Value.int IntKind.u8 x215)), AV.d (DV.v (Value.int IntKind.u8 x216)), AV.d (DV.v (Value.int IntKind.u8 x217)), AV.d (DV.v (Value.int IntKind.u8 x218)), AV.d (DV.v (Value.int IntKind.u8 x219)), AV.d (DV.v (Value.int IntKind.u8 x220)), AV.d (DV.v (Value.int IntKind.u8 x221)), AV.d (DV.v (Value.int IntKind.u8 x222))] (0 + y223.toNat * 1) [AV.d (DV.v (Value.int IntKind.u8 (IntKind.u8.wrap y212)))]) 23) = true)) (.nxt (.c2 x210 x211 (y224 + 1) (spliceA [AV.d (DV.v (Value.int IntKind.u8 x215)), AV.d (DV.v (Value.int IntKind.u8 x216)), AV.d (DV.v (Value.int IntKind.u8 x217)), AV.d (DV.v (Value.int IntKind.u8 x218)), AV.d (DV.v (Value.int IntKind.u8 x219)), AV.d (DV.v (Value.int IntKind.u8 x220)), AV.d (DV.v (Value.int IntKind.u8 x221)), AV.d (DV.v (Value.int IntKind.u8 x222))] (0 + y223.toNat * 1) [AV.d (DV.v (Value.int IntKind.u8 (IntKind.u8.wrap y212)))]))))))))))
  | .c2 x225 x226 y227 x228 => (.br (decide (y227 < 8))
  (.ask (.le 0 y227) (.ask (.lt y227 8) (.ask (.prop (x228[0 + y227.toNat * 1]? = some (AV.d (DV.v (Value.int IntKind.u8 (dI (celA x228 (0 + y227.toNat * 1)))))))) (.ask (.prop (refK 2 (ABlk.cells x228 23) = true)) (.nxt (.c3 x225 x226 y227 (IntKind.i64.wrap (dI (celA x228 (0 + y227.toNat * 1)))) ((↑x225 : Int)) 0 x228))))))
  (.ask (.leN 8 x228.length) (.ask (.prop (List.take 8 (List.drop 0 x228) = [AV.d (DV.v (Value.int IntKind.u8 (dI (celA x228 0)))), AV.d (DV.v (Value.int IntKind.u8 (dI (celA x228 1)))), AV.d (DV.v (Value.int IntKind.u8 (dI (celA x228 2)))), AV.d (DV.v (Value.int IntKind.u8 (dI (celA x228 3)))), AV.d (DV.v (Value.int IntKind.u8 (dI (celA x228 4)))), AV.d (DV.v (Value.int IntKind.u8 (dI (celA x228 5)))), AV.d (DV.v (Value.int IntKind.u8 (dI (celA x228 6)))), AV.d (DV.v (Value.int IntKind.u8 (dI (celA x228 7))))])) (.ret ((dI (celA x228 0)), (dI (celA x228 1)), (dI (celA x228 2)), (dI (celA x228 3)), (dI (celA x228 4)), (dI (celA x228 5)), (dI (celA x228 6)), (dI (celA x228 7)))))))
  | .c3 x229 x230 x231 y232 x233 y234 x235 => (.br (decide (y234 < x233))
  (.ask (.le 0 y234) (.ask (.lt y234 ((↑x229 : Int))) (.ask (.leN (y234.toNat * 1) x230.length) (.ask (.prop (Option.map AV.d (List.drop (y234.toNat * 1) x230)[0]? = some (AV.d (DV.v (Value.int IntKind.u8 (dI (cel x230 (y234.toNat * 1)))))))) (.ask (.in64 (2 * x231)) (.ask (.in64 (2 * x231 + 3)) (.ask (.in64 ((2 * x231 + 3) * y232)) (.ask (.in64 ((2 * x231 + 3) * y232 + IntKind.i64.wrap (dI (cel x230 (y234.toNat * 1))))) (.ask (.in64 ((2 * x231 + 3) * y232 + IntKind.i64.wrap (dI (cel x230 (y234.toNat * 1))) + x231)) (.ask (.in64 (y234 + 1)) (.ask (.prop (refK 2 (ABlk.cells x235 23) = true)) (.nxt (.c3 x229 x230 x231 (((2 * x231 + 3) * y232 + IntKind.i64.wrap (dI (cel x230 (y234.toNat * 1))) + x231).tmod 256) x233 (y234 + 1) x235)))))))))))))
  (.ask (.le 0 x231) (.ask (.lt x231 8) (.ask (.leN (0 + x231.toNat * 1 + 1) x235.length) (.triv _ (tv_p (spliceA x235 (0 + x231.toNat * 1) [AV.d (DV.v (Value.int IntKind.u8 (IntKind.u8.wrap y232)))])) (.ask (.in64 (x231 + 1)) (.ask (.prop (refK 2 (ABlk.cells (spliceA x235 (0 + x231.toNat * 1) [AV.d (DV.v (Value.int IntKind.u8 (IntKind.u8.wrap y232)))]) 23) = true)) (.nxt (.c2 x229 x230 (x231 + 1) (spliceA x235 (0 + x231.toNat * 1) [AV.d (DV.v (Value.int IntKind.u8 (IntKind.u8.wrap y232)))]))))))))))
noncomputable def F82 (a200 a201 a202 a203 a204 a205 a206 a207 : Int) (a208 : Nat) (a209 : List DV) : Option (Int × Int × Int × Int × Int × Int × Int × Int) := res B82 (.c0 a200 a201 a202 a203 a204 a205 a206 a207 a208 a209)
noncomputable def D82_0 (a200 a201 a202 a203 a204 a205 a206 a207 : Int) (a208 : Nat) (a209 : List DV) : DT cfz := (.go 43 [(.br true)] [0, 1, 2] (.cut 2 [[1, 2, 4, 5, 6, 9, 16, 17, 18]] []))
theorem k82_0 (a200 a201 a202 a203 a204 a205 a206 a207 : Int) (a208 : Nat) (a209 : List DV) : xrun cfz 82 (D82_0 a200 a201 a202 a203 a204 a205 a206 a207 a208 a209) [] (st82 (.c0 a200 a201 a202 a203 a204 a205 a206 a207 a208 a209)) = (B82 (.c0 a200 a201 a202 a203 a204 a205 a206 a207 a208 a209)).mach st82 out82 := by kernel_rfl
noncomputable def D82_1 (x210 : Nat) (x211 : List DV) (y223 y212 y224 x213 y214 x215 x216 x217 x218 x219 x220 x221 x222 : Int) : DT cfz := (.go 5 [] [] (.split 19 (.go 30 [(.br true), (.as (a8 (dI (cel x211 (y214.toNat * 1)))))] [0, 10] (.cut 2 [[1, 2, 4, 5, 6, 9, 16, 17, 18]] [])) (.go 15 [(.br false), (.as (.agg (spliceA [a8 x215, a8 x216, a8 x217, a8 x218, a8 x219, a8 x220, a8 x221, a8 x222] (0 + y223.toNat * 1) [a8 (IntKind.u8.wrap y212)])))] [0, 3] (.cutP 2 [0] [[1, 2, 4, 9]] []))))
theorem k82_1 (x210 : Nat) (x211 : List DV) (y223 y212 y224 x213 y214 x215 x216 x217 x218 x219 x220 x221 x222 : Int) : xrun cfz 82 (D82_1 x210 x211 y223 y212 y224 x213 y214 x215 x216 x217 x218 x219 x220 x221 x222) [] (st82 (.c1 x210 x211 y223 y212 y224 x213 y214 x215 x216 x217 x218 x219 x220 x221 x222)) = (B82 (.c1 x210 x211 y223 y212 y224 x213 y214 x215 x216 x217 x218 x219 x220 x221 x222)).mach st82 out82 := by kernel_rfl
noncomputable def D82_2 (x225 : Nat) (x226 : List DV) (y227 : Int) (x228 : List AV) : DT cfz := (.go 5 [] [] (.split 10 (.go 26 [(.br true), (.as (a8 (dI (celA x228 (0 + y227.toNat * 1)))))] [0] (.cutP 2 [0] [[1, 2, 4, 5, 6, 9, 16, 17, 18]] [])) (.go 8 [(.br false), (.as (.agg [(a8 (dI (celA x228 0))), (a8 (dI (celA x228 1))), (a8 (dI (celA x228 2))), (a8 (dI (celA x228 3))), (a8 (dI (celA x228 4))), (a8 (dI (celA x228 5))), (a8 (dI (celA x228 6))), (a8 (dI (celA x228 7)))]))] [0] .fin)))
theorem k82_2 (x225 : Nat) (x226 : List DV) (y227 : Int) (x228 : List AV) : xrun cfz 82 (D82_2 x225 x226 y227 x228) [] (st82 (.c2 x225 x226 y227 x228)) = (B82 (.c2 x225 x226 y227 x228)).mach st82 out82 := by kernel_rfl
noncomputable def D82_3 (x229 : Nat) (x230 : List DV) (x231 y232 x233 y234 : Int) (x235 : List AV) : DT cfz := (.go 5 [] [] (.split 19 (.go 30 [(.br true), (.as (a8 (dI (cel x230 (y234.toNat * 1)))))] [0, 10] (.cutP 2 [0] [[1, 2, 4, 5, 6, 9, 16, 17, 18]] [])) (.go 15 [(.br false), (.as (.agg (spliceA x235 (0 + x231.toNat * 1) [a8 (IntKind.u8.wrap y232)])))] [0, 3] (.cutP 2 [0] [[1, 2, 4, 9]] []))))
theorem k82_3 (x229 : Nat) (x230 : List DV) (x231 y232 x233 y234 : Int) (x235 : List AV) : xrun cfz 82 (D82_3 x229 x230 x231 y232 x233 y234 x235) [] (st82 (.c3 x229 x230 x231 y232 x233 y234 x235)) = (B82 (.c3 x229 x230 x231 y232 x233 y234 x235)).mach st82 out82 := by kernel_rfl
theorem ok82 : ∀ s, ∃ d, xrun cfz 82 d [] (st82 s) = (B82 s).mach st82 out82
  | .c0 a200 a201 a202 a203 a204 a205 a206 a207 a208 a209 => ⟨_, k82_0 a200 a201 a202 a203 a204 a205 a206 a207 a208 a209⟩
  | .c1 x210 x211 y223 y212 y224 x213 y214 x215 x216 x217 x218 x219 x220 x221 x222 => ⟨_, k82_1 x210 x211 y223 y212 y224 x213 y214 x215 x216 x217 x218 x219 x220 x221 x222⟩
  | .c2 x225 x226 y227 x228 => ⟨_, k82_2 x225 x226 y227 x228⟩
  | .c3 x229 x230 x231 y232 x233 y234 x235 => ⟨_, k82_3 x229 x230 x231 y232 x233 y234 x235⟩
theorem f82 (a200 a201 a202 a203 a204 a205 a206 a207 : Int) (a208 : Nat) (a209 : List DV) (v : Int × Int × Int × Int × Int × Int × Int × Int) (h : F82 a200 a201 a202 a203 a204 a205 a206 a207 a208 a209 = some v) : PureCalls cfz.P cfz.glob 82 [(.agg [(a8 a200), (a8 a201), (a8 a202), (a8 a203), (a8 a204), (a8 a205), (a8 a206), (a8 a207)]), (.d (.sl a208 a209))] (out82 v) := tree_pure knil ok82 (s := .c0 a200 a201 a202 a203 a204 a205 a206 a207 a208 a209) rfl (by kernel_rfl) v h

/-! F97 -/
inductive S97 where
  | c0 (a178 a179 a180 a181 a182 a183 a184 a185 : Int) (a186 : Nat) (a187 : List DV)
  | c1 (x188 : Nat) (x189 : List DV) (x190 y191 x192 x193 x194 x195 x196 x197 x198 x199 : Int)
  | c2 (y238 y239 : Nat) (y240 : List DV) (x241 : Nat) (x242 : List DV) (x243 y244 x245 x246 x247 x248 x249 x250 x251 x252 : Int) (y255 : Nat)
def out97 (v : Nat × List DV × Int) : AV := (.tup [(.d (.sl v.fst v.snd.fst)), (.d (.v (.int .i64 v.snd.snd)))])
noncomputable def st97 : S97 → ASt
  | .c0 a178 a179 a180 a181 a182 a183 a184 a185 a186 a187 => ent cfz 97 [(.agg [(a8 a178), (a8 a179), (a8 a180), (a8 a181), (a8 a182), (a8 a183), (a8 a184), (a8 a185)]), (.d (.sl a186 a187))]
  | .c1 x188 x189 x190 y191 x192 x193 x194 x195 x196 x197 x198 x199 => ⟨⟨97, sp 27 0 [(2, (.ptr 0 0)), (6, (.d (.v (.slice .none 0 0)))), (12, (.d (.sl x188 x189))), (13, (aI x190)), (14, (aI y191))], [(.code (cd cfz.P 97 [1, 1, 1, 0, 1, 0, 0])), (.inLoop (cd cfz.P 97 [1, 1, 1, 0, 1, 0, 0])), (.inBlock 0), (.code (cd cfz.P 97 [1, 1, 1, 1]))], [], false, .none⟩, [], [(.cells [(a8 x192), (a8 x193), (a8 x194), (a8 x195), (a8 x196), (a8 x197), (a8 x198), (a8 x199)] 23)]⟩
  | .c2 y238 y239 y240 x241 x242 x243 y244 x245 x246 x247 x248 x249 x250 x251 x252 y255 => ⟨⟨97, sp 27 0 [(2, (.ptr 0 0)), (6, (.own 3 y238 8 y239 y240)), (12, (.d (.sl x241 x242))), (13, (aI x243)), (14, (aI y244))], [(.code (cd cfz.P 97 [1, 1, 1, 0, 1, 0, 0])), (.inLoop (cd cfz.P 97 [1, 1, 1, 0, 1, 0, 0])), (.inBlock 0), (.code (cd cfz.P 97 [1, 1, 1, 1]))], [], false, .none⟩, [], [(.cells [(a8 x245), (a8 x246), (a8 x247), (a8 x248), (a8 x249), (a8 x250), (a8 x251), (a8 x252)] 23), .dead, (.tail 0), (.tail y255)]⟩
noncomputable def B97 : S97 → Tr S97 (Nat × List DV × Int)
  | .c0 a178 a179 a180 a181 a182 a183 a184 a185 a186 a187 => (.br (decide ((↑a186 : Int) > 256))
  (.ret (0, [], 5))
  (.nxt (.c1 a186 a187 ((↑a186 : Int)) 0 a178 a179 a180 a181 a182 a183 a184 a185)))
  | .c1 x188 x189 x190 y191 x192 x193 x194 x195 x196 x197 x198 x199 => (.br (decide (y191 < x190))
  (.ask (.le 0 y191) (.ask (.lt y191 ((↑x188 : Int))) (.ask (.leN (y191.toNat * 16) x189.length) (.ask (.leN 16 ((List.drop (y191.toNat * 16) x189).length)) (.ask (.prop (List.map AV.d (List.take 16 (List.drop (y191.toNat * 16) x189)) = [AV.d (DV.v (Value.int IntKind.u8 (dI (cel x189 (y191.toNat * 16))))), AV.d (DV.v (Value.int IntKind.u8 (dI (cel x189 (y191.toNat * 16 + 1))))), AV.d (DV.v (Value.int IntKind.u8 (dI (cel x189 (y191.toNat * 16 + 2))))), AV.d (DV.v (Value.int IntKind.u8 (dI (cel x189 (y191.toNat * 16 + 3))))), AV.d (DV.v (Value.int IntKind.u8 (dI (cel x189 (y191.toNat * 16 + 4))))), AV.d (DV.v (Value.int IntKind.u8 (dI (cel x189 (y191.toNat * 16 + 5))))), AV.d (DV.v (Value.int IntKind.u8 (dI (cel x189 (y191.toNat * 16 + 6))))), AV.d (DV.v (Value.int IntKind.u8 (dI (cel x189 (y191.toNat * 16 + 7))))), AV.d (DV.v (Value.int IntKind.u8 (dI (cel x189 (y191.toNat * 16 + 8))))), AV.d (DV.v (Value.int IntKind.u8 (dI (cel x189 (y191.toNat * 16 + 9))))), AV.d (DV.v (Value.int IntKind.u8 (dI (cel x189 (y191.toNat * 16 + 10))))), AV.d (DV.v (Value.int IntKind.u8 (dI (cel x189 (y191.toNat * 16 + 11))))), AV.d (DV.v (Value.int IntKind.u8 (dI (cel x189 (y191.toNat * 16 + 12))))), AV.d (DV.v (Value.int IntKind.u8 (dI (cel x189 (y191.toNat * 16 + 13))))), AV.d (DV.v (Value.int IntKind.u8 (dI (cel x189 (y191.toNat * 16 + 14))))), AV.d (DV.v (Value.int IntKind.u8 (dI (cel x189 (y191.toNat * 16 + 15)))))])) (.bind (F82 x192 x193 x194 x195 x196 x197 x198 x199 16 [(.v (.int .u8 (dI (cel x189 (y191.toNat * 16))))), (.v (.int .u8 (dI (cel x189 (y191.toNat * 16 + 1))))), (.v (.int .u8 (dI (cel x189 (y191.toNat * 16 + 2))))), (.v (.int .u8 (dI (cel x189 (y191.toNat * 16 + 3))))), (.v (.int .u8 (dI (cel x189 (y191.toNat * 16 + 4))))), (.v (.int .u8 (dI (cel x189 (y191.toNat * 16 + 5))))), (.v (.int .u8 (dI (cel x189 (y191.toNat * 16 + 6))))), (.v (.int .u8 (dI (cel x189 (y191.toNat * 16 + 7))))), (.v (.int .u8 (dI (cel x189 (y191.toNat * 16 + 8))))), (.v (.int .u8 (dI (cel x189 (y191.toNat * 16 + 9))))), (.v (.int .u8 (dI (cel x189 (y191.toNat * 16 + 10))))), (.v (.int .u8 (dI (cel x189 (y191.toNat * 16 + 11))))), (.v (.int .u8 (dI (cel x189 (y191.toNat * 16 + 12))))), (.v (.int .u8 (dI (cel x189 (y191.toNat * 16 + 13))))), (.v (.int .u8 (dI (cel x189 (y191.toNat * 16 + 14))))), (.v (.int .u8 (dI (cel x189 (y191.toNat * 16 + 15)))))]) fun v237 =>
  (.sees [(.agg [(a8 x192), (a8 x193), (a8 x194), (a8 x195), (a8 x196), (a8 x197), (a8 x198), (a8 x199)]), (.d (.sl 16 [(v8 (dI (cel x189 (y191.toNat * 16)))), (v8 (dI (cel x189 (y191.toNat * 16 + 1)))), (v8 (dI (cel x189 (y191.toNat * 16 + 2)))), (v8 (dI (cel x189 (y191.toNat * 16 + 3)))), (v8 (dI (cel x189 (y191.toNat * 16 + 4)))), (v8 (dI (cel x189 (y191.toNat * 16 + 5)))), (v8 (dI (cel x189 (y191.toNat * 16 + 6)))), (v8 (dI (cel x189 (y191.toNat * 16 + 7)))), (v8 (dI (cel x189 (y191.toNat * 16 + 8)))), (v8 (dI (cel x189 (y191.toNat * 16 + 9)))), (v8 (dI (cel x189 (y191.toNat * 16 + 10)))), (v8 (dI (cel x189 (y191.toNat * 16 + 11)))), (v8 (dI (cel x189 (y191.toNat * 16 + 12)))), (v8 (dI (cel x189 (y191.toNat * 16 + 13)))), (v8 (dI (cel x189 (y191.toNat * 16 + 14)))), (v8 (dI (cel x189 (y191.toNat * 16 + 15))))]))] (.ask (.in64 (y191 + 1)) (.nxt (.c2 0 1 [(.v (.int .u8 v237.fst)), (.v (.int .u8 v237.snd.fst)), (.v (.int .u8 v237.snd.snd.fst)), (.v (.int .u8 v237.snd.snd.snd.fst)), (.v (.int .u8 v237.snd.snd.snd.snd.fst)), (.v (.int .u8 v237.snd.snd.snd.snd.snd.fst)), (.v (.int .u8 v237.snd.snd.snd.snd.snd.snd.fst)), (.v (.int .u8 v237.snd.snd.snd.snd.snd.snd.snd))] x188 x189 x190 (y191 + 1) v237.fst v237.snd.fst v237.snd.snd.fst v237.snd.snd.snd.fst v237.snd.snd.snd.snd.fst v237.snd.snd.snd.snd.snd.fst v237.snd.snd.snd.snd.snd.snd.fst v237.snd.snd.snd.snd.snd.snd.snd 0))))))))))
  (.ret (0, [], 0)))
  | .c2 y238 y239 y240 x241 x242 x243 y244 x245 x246 x247 x248 x249 x250 x251 x252 y255 => (.br (decide (y244 < x243))
  (.ask (.le 0 y244) (.ask (.lt y244 ((↑x241 : Int))) (.ask (.leN (y244.toNat * 16) x242.length) (.ask (.leN 16 ((List.drop (y244.toNat * 16) x242).length)) (.ask (.prop (List.map AV.d (List.take 16 (List.drop (y244.toNat * 16) x242)) = [AV.d (DV.v (Value.int IntKind.u8 (dI (cel x242 (y244.toNat * 16))))), AV.d (DV.v (Value.int IntKind.u8 (dI (cel x242 (y244.toNat * 16 + 1))))), AV.d (DV.v (Value.int IntKind.u8 (dI (cel x242 (y244.toNat * 16 + 2))))), AV.d (DV.v (Value.int IntKind.u8 (dI (cel x242 (y244.toNat * 16 + 3))))), AV.d (DV.v (Value.int IntKind.u8 (dI (cel x242 (y244.toNat * 16 + 4))))), AV.d (DV.v (Value.int IntKind.u8 (dI (cel x242 (y244.toNat * 16 + 5))))), AV.d (DV.v (Value.int IntKind.u8 (dI (cel x242 (y244.toNat * 16 + 6))))), AV.d (DV.v (Value.int IntKind.u8 (dI (cel x242 (y244.toNat * 16 + 7))))), AV.d (DV.v (Value.int IntKind.u8 (dI (cel x242 (y244.toNat * 16 + 8))))), AV.d (DV.v (Value.int IntKind.u8 (dI (cel x242 (y244.toNat * 16 + 9))))), AV.d (DV.v (Value.int IntKind.u8 (dI (cel x242 (y244.toNat * 16 + 10))))), AV.d (DV.v (Value.int IntKind.u8 (dI (cel x242 (y244.toNat * 16 + 11))))), AV.d (DV.v (Value.int IntKind.u8 (dI (cel x242 (y244.toNat * 16 + 12))))), AV.d (DV.v (Value.int IntKind.u8 (dI (cel x242 (y244.toNat * 16 + 13))))), AV.d (DV.v (Value.int IntKind.u8 (dI (cel x242 (y244.toNat * 16 + 14))))), AV.d (DV.v (Value.int IntKind.u8 (dI (cel x242 (y244.toNat * 16 + 15)))))])) (.bind (F82 x245 x246 x247 x248 x249 x250 x251 x252 16 [(.v (.int .u8 (dI (cel x242 (y244.toNat * 16))))), (.v (.int .u8 (dI (cel x242 (y244.toNat * 16 + 1))))), (.v (.int .u8 (dI (cel x242 (y244.toNat * 16 + 2))))), (.v (.int .u8 (dI (cel x242 (y244.toNat * 16 + 3))))), (.v (.int .u8 (dI (cel x242 (y244.toNat * 16 + 4))))), (.v (.int .u8 (dI (cel x242 (y244.toNat * 16 + 5))))), (.v (.int .u8 (dI (cel x242 (y244.toNat * 16 + 6))))), (.v (.int .u8 (dI (cel x242 (y244.toNat * 16 + 7))))), (.v (.int .u8 (dI (cel x242 (y244.toNat * 16 + 8))))), (.v (.int .u8 (dI (cel x242 (y244.toNat * 16 + 9))))), (.v (.int .u8 (dI (cel x242 (y244.toNat * 16 + 10))))), (.v (.int .u8 (dI (cel x242 (y244.toNat * 16 + 11))))), (.v (.int .u8 (dI (cel x242 (y244.toNat * 16 + 12))))), (.v (.int .u8 (dI (cel x242 (y244.toNat * 16 + 13))))), (.v (.int .u8 (dI (cel x242 (y244.toNat * 16 + 14))))), (.v (.int .u8 (dI (cel x242 (y244.toNat * 16 + 15)))))]) fun v257 =>
  (.sees [(.agg [(a8 x245), (a8 x246), (a8 x247), (a8 x248), (a8 x249), (a8 x250), (a8 x251), (a8 x252)]), (.d (.sl 16 [(v8 (dI (cel x242 (y244.toNat * 16)))), (v8 (dI (cel x242 (y244.toNat * 16 + 1)))), (v8 (dI (cel x242 (y244.toNat * 16 + 2)))), (v8 (dI (cel x242 (y244.toNat * 16 + 3)))), (v8 (dI (cel x242 (y244.toNat * 16 + 4)))), (v8 (dI (cel x242 (y244.toNat * 16 + 5)))), (v8 (dI (cel x242 (y244.toNat * 16 + 6)))), (v8 (dI (cel x242 (y244.toNat * 16 + 7)))), (v8 (dI (cel x242 (y244.toNat * 16 + 8)))), (v8 (dI (cel x242 (y244.toNat * 16 + 9)))), (v8 (dI (cel x242 (y244.toNat * 16 + 10)))), (v8 (dI (cel x242 (y244.toNat * 16 + 11)))), (v8 (dI (cel x242 (y244.toNat * 16 + 12)))), (v8 (dI (cel x242 (y244.toNat * 16 + 13)))), (v8 (dI (cel x242 (y244.toNat * 16 + 14)))), (v8 (dI (cel x242 (y244.toNat * 16 + 15))))]))] (.ask (.eqN y238 y255) (.ask (.fits (y239 + 1) 8) (.ask (.in64 (y244 + 1)) (.nxt (.c2 (y255 + 1) (y239 + 1) (y240 ++ [DV.v (Value.int IntKind.u8 v257.fst), DV.v (Value.int IntKind.u8 v257.snd.fst), DV.v (Value.int IntKind.u8 v257.snd.snd.fst), DV.v (Value.int IntKind.u8 v257.snd.snd.snd.fst), DV.v (Value.int IntKind.u8 v257.snd.snd.snd.snd.fst), DV.v (Value.int IntKind.u8 v257.snd.snd.snd.snd.snd.fst), DV.v (Value.int IntKind.u8 v257.snd.snd.snd.snd.snd.snd.fst), DV.v (Value.int IntKind.u8 v257.snd.snd.snd.snd.snd.snd.snd)]) x241 x242 x243 (y244 + 1) v257.fst v257.snd.fst v257.snd.snd.fst v257.snd.snd.snd.fst v257.snd.snd.snd.snd.fst v257.snd.snd.snd.snd.snd.fst v257.snd.snd.snd.snd.snd.snd.fst v257.snd.snd.snd.snd.snd.snd.snd (y255 + 1)))))))))))))
  (.ret (y239, y240, 0)))
noncomputable def F97 (a178 a179 a180 a181 a182 a183 a184 a185 : Int) (a186 : Nat) (a187 : List DV) : Option (Nat × List DV × Int) := res B97 (.c0 a178 a179 a180 a181 a182 a183 a184 a185 a186 a187)
noncomputable def D97_0 (a178 a179 a180 a181 a182 a183 a184 a185 : Int) (a186 : Nat) (a187 : List DV) : DT cfz := (.go 13 [] [] (.split 11 (.go 7 [(.br true)] [0] .fin) (.go 15 [(.br false)] [0] (.cut 1 [[2, 6, 12, 13, 14]] []))))
theorem k97_0 (a178 a179 a180 a181 a182 a183 a184 a185 : Int) (a186 : Nat) (a187 : List DV) : xrun cfz 97 (D97_0 a178 a179 a180 a181 a182 a183 a184 a185 a186 a187) [] (st97 (.c0 a178 a179 a180 a181 a182 a183 a184 a185 a186 a187)) = (B97 (.c0 a178 a179 a180 a181 a182 a183 a184 a185 a186 a187)).mach st97 out97 := by kernel_rfl
noncomputable def D97_1 (x188 : Nat) (x189 : List DV) (x190 y191 x192 x193 x194 x195 x196 x197 x198 x199 : Int) : DT cfz := (.go 5 [] [] (.split 15 (.go 13 [(.br true), (.as (.agg [(a8 (dI (cel x189 (y191.toNat * 16)))), (a8 (dI (cel x189 (y191.toNat * 16 + 1)))), (a8 (dI (cel x189 (y191.toNat * 16 + 2)))), (a8 (dI (cel x189 (y191.toNat * 16 + 3)))), (a8 (dI (cel x189 (y191.toNat * 16 + 4)))), (a8 (dI (cel x189 (y191.toNat * 16 + 5)))), (a8 (dI (cel x189 (y191.toNat * 16 + 6)))), (a8 (dI (cel x189 (y191.toNat * 16 + 7)))), (a8 (dI (cel x189 (y191.toNat * 16 + 8)))), (a8 (dI (cel x189 (y191.toNat * 16 + 9)))), (a8 (dI (cel x189 (y191.toNat * 16 + 10)))), (a8 (dI (cel x189 (y191.toNat * 16 + 11)))), (a8 (dI (cel x189 (y191.toNat * 16 + 12)))), (a8 (dI (cel x189 (y191.toNat * 16 + 13)))), (a8 (dI (cel x189 (y191.toNat * 16 + 14)))), (a8 (dI (cel x189 (y191.toNat * 16 + 15))))]))] [0] (.bind (f82 x192 x193 x194 x195 x196 x197 x198 x199 16 [(v8 (dI (cel x189 (y191.toNat * 16)))), (v8 (dI (cel x189 (y191.toNat * 16 + 1)))), (v8 (dI (cel x189 (y191.toNat * 16 + 2)))), (v8 (dI (cel x189 (y191.toNat * 16 + 3)))), (v8 (dI (cel x189 (y191.toNat * 16 + 4)))), (v8 (dI (cel x189 (y191.toNat * 16 + 5)))), (v8 (dI (cel x189 (y191.toNat * 16 + 6)))), (v8 (dI (cel x189 (y191.toNat * 16 + 7)))), (v8 (dI (cel x189 (y191.toNat * 16 + 8)))), (v8 (dI (cel x189 (y191.toNat * 16 + 9)))), (v8 (dI (cel x189 (y191.toNat * 16 + 10)))), (v8 (dI (cel x189 (y191.toNat * 16 + 11)))), (v8 (dI (cel x189 (y191.toNat * 16 + 12)))), (v8 (dI (cel x189 (y191.toNat * 16 + 13)))), (v8 (dI (cel x189 (y191.toNat * 16 + 14)))), (v8 (dI (cel x189 (y191.toNat * 16 + 15))))]) fun v237 => (.go 14 [(.ck 0)] [0, 1, 2, 3, 5, 6, 7] (.cut 4 [[2, 6, 12, 13, 14]] [1])))) (.go 9 [(.br false)] [0] .fin)))
theorem k97_1 (x188 : Nat) (x189 : List DV) (x190 y191 x192 x193 x194 x195 x196 x197 x198 x199 : Int) : xrun cfz 97 (D97_1 x188 x189 x190 y191 x192 x193 x194 x195 x196 x197 x198 x199) [] (st97 (.c1 x188 x189 x190 y191 x192 x193 x194 x195 x196 x197 x198 x199)) = (B97 (.c1 x188 x189 x190 y191 x192 x193 x194 x195 x196 x197 x198 x199)).mach st97 out97 := by kernel_rfl
noncomputable def D97_2 (y238 y239 : Nat) (y240 : List DV) (x241 : Nat) (x242 : List DV) (x243 y244 x245 x246 x247 x248 x249 x250 x251 x252 : Int) (y255 : Nat) : DT cfz := (.go 5 [] [] (.split 15 (.go 13 [(.br true), (.as (.agg [(a8 (dI (cel x242 (y244.toNat * 16)))), (a8 (dI (cel x242 (y244.toNat * 16 + 1)))), (a8 (dI (cel x242 (y244.toNat * 16 + 2)))), (a8 (dI (cel x242 (y244.toNat * 16 + 3)))), (a8 (dI (cel x242 (y244.toNat * 16 + 4)))), (a8 (dI (cel x242 (y244.toNat * 16 + 5)))), (a8 (dI (cel x242 (y244.toNat * 16 + 6)))), (a8 (dI (cel x242 (y244.toNat * 16 + 7)))), (a8 (dI (cel x242 (y244.toNat * 16 + 8)))), (a8 (dI (cel x242 (y244.toNat * 16 + 9)))), (a8 (dI (cel x242 (y244.toNat * 16 + 10)))), (a8 (dI (cel x242 (y244.toNat * 16 + 11)))), (a8 (dI (cel x242 (y244.toNat * 16 + 12)))), (a8 (dI (cel x242 (y244.toNat * 16 + 13)))), (a8 (dI (cel x242 (y244.toNat * 16 + 14)))), (a8 (dI (cel x242 (y244.toNat * 16 + 15))))]))] [0] (.bind (f82 x245 x246 x247 x248 x249 x250 x251 x252 16 [(v8 (dI (cel x242 (y244.toNat * 16)))), (v8 (dI (cel x242 (y244.toNat * 16 + 1)))), (v8 (dI (cel x242 (y244.toNat * 16 + 2)))), (v8 (dI (cel x242 (y244.toNat * 16 + 3)))), (v8 (dI (cel x242 (y244.toNat * 16 + 4)))), (v8 (dI (cel x242 (y244.toNat * 16 + 5)))), (v8 (dI (cel x242 (y244.toNat * 16 + 6)))), (v8 (dI (cel x242 (y244.toNat * 16 + 7)))), (v8 (dI (cel x242 (y244.toNat * 16 + 8)))), (v8 (dI (cel x242 (y244.toNat * 16 + 9)))), (v8 (dI (cel x242 (y244.toNat * 16 + 10)))), (v8 (dI (cel x242 (y244.toNat * 16 + 11)))), (v8 (dI (cel x242 (y244.toNat * 16 + 12)))), (v8 (dI (cel x242 (y244.toNat * 16 + 13)))), (v8 (dI (cel x242 (y244.toNat * 16 + 14)))), (v8 (dI (cel x242 (y244.toNat * 16 + 15))))]) fun v257 => (.go 14 [(.ck 0)] [0, 1, 2, 3, 6, 7] (.cut 4 [[2, 6, 12, 13, 14]] [])))) (.go 9 [(.br false)] [0] .fin)))
theorem k97_2 (y238 y239 : Nat) (y240 : List DV) (x241 : Nat) (x242 : List DV) (x243 y244 x245 x246 x247 x248 x249 x250 x251 x252 : Int) (y255 : Nat) : xrun cfz 97 (D97_2 y238 y239 y240 x241 x242 x243 y244 x245 x246 x247 x248 x249 x250 x251 x252 y255) [] (st97 (.c2 y238 y239 y240 x241 x242 x243 y244 x245 x246 x247 x248 x249 x250 x251 x252 y255)) = (B97 (.c2 y238 y239 y240 x241 x242 x243 y244 x245 x246 x247 x248 x249 x250 x251 x252 y255)).mach st97 out97 := by kernel_rfl
theorem ok97 : ∀ s, ∃ d, xrun cfz 97 d [] (st97 s) = (B97 s).mach st97 out97
  | .c0 a178 a179 a180 a181 a182 a183 a184 a185 a186 a187 => ⟨_, k97_0 a178 a179 a180 a181 a182 a183 a184 a185 a186 a187⟩
  | .c1 x188 x189 x190 y191 x192 x193 x194 x195 x196 x197 x198 x199 => ⟨_, k97_1 x188 x189 x190 y191 x192 x193 x194 x195 x196 x197 x198 x199⟩
  | .c2 y238 y239 y240 x241 x242 x243 y244 x245 x246 x247 x248 x249 x250 x251 x252 y255 => ⟨_, k97_2 y238 y239 y240 x241 x242 x243 y244 x245 x246 x247 x248 x249 x250 x251 x252 y255⟩
theorem f97 (a178 a179 a180 a181 a182 a183 a184 a185 : Int) (a186 : Nat) (a187 : List DV) (v : Nat × List DV × Int) (h : F97 a178 a179 a180 a181 a182 a183 a184 a185 a186 a187 = some v) : PureCalls cfz.P cfz.glob 97 [(.agg [(a8 a178), (a8 a179), (a8 a180), (a8 a181), (a8 a182), (a8 a183), (a8 a184), (a8 a185)]), (.d (.sl a186 a187))] (out97 v) := tree_pure knil ok97 (s := .c0 a178 a179 a180 a181 a182 a183 a184 a185 a186 a187) rfl (by kernel_rfl) v h

/-! F57 -/
inductive S57 where
  | c0 (a114 a115 a116 a117 a118 a119 a120 a121 : Int) (a122 : Nat) (a123 : List DV)
def out57 (v : Nat × List DV) : AV := (.d (.sl v.fst v.snd))
noncomputable def st57 : S57 → ASt
  | .c0 a114 a115 a116 a117 a118 a119 a120 a121 a122 a123 => ent cfz 57 [(.agg [(a8 a114), (a8 a115), (a8 a116), (a8 a117), (a8 a118), (a8 a119), (a8 a120), (a8 a121)]), (.d (.sl a122 a123))]
noncomputable def B57 : S57 → Tr S57 (Nat × List DV)
  | .c0 a114 a115 a116 a117 a118 a119 a120 a121 a122 a123 => (.bind (F98 a122 a123) fun v177 =>
  (.bind (F97 a114 a115 a116 a117 a118 a119 a120 a121 v177.fst v177.snd) fun v258 =>
  (.sees [(.d (.sl a122 a123)), (.d (.v (.func (.func 41) (#[]) (#[]))))] (.sees [(.agg [(a8 a114), (a8 a115), (a8 a116), (a8 a117), (a8 a118), (a8 a119), (a8 a120), (a8 a121)]), (.d (.sl v177.fst v177.snd))] (.ret (v258.fst, v258.snd.fst))))))
noncomputable def F57 (a114 a115 a116 a117 a118 a119 a120 a121 : Int) (a122 : Nat) (a123 : List DV) : Option (Nat × List DV) := res B57 (.c0 a114 a115 a116 a117 a118 a119 a120 a121 a122 a123)
noncomputable def D57_0 (a114 a115 a116 a117 a118 a119 a120 a121 : Int) (a122 : Nat) (a123 : List DV) : DT cfz := (.go 7 [] [] (.bind (f98 a122 a123) fun v177 => (.bind (f97 a114 a115 a116 a117 a118 a119 a120 a121 v177.fst v177.snd) fun v258 => (.go 7 [(.ck 0), (.ck 1)] [] .fin))))
theorem k57_0 (a114 a115 a116 a117 a118 a119 a120 a121 : Int) (a122 : Nat) (a123 : List DV) : xrun cfz 57 (D57_0 a114 a115 a116 a117 a118 a119 a120 a121 a122 a123) [] (st57 (.c0 a114 a115 a116 a117 a118 a119 a120 a121 a122 a123)) = (B57 (.c0 a114 a115 a116 a117 a118 a119 a120 a121 a122 a123)).mach st57 out57 := by kernel_rfl
theorem ok57 : ∀ s, ∃ d, xrun cfz 57 d [] (st57 s) = (B57 s).mach st57 out57
  | .c0 a114 a115 a116 a117 a118 a119 a120 a121 a122 a123 => ⟨_, k57_0 a114 a115 a116 a117 a118 a119 a120 a121 a122 a123⟩
theorem f57 (a114 a115 a116 a117 a118 a119 a120 a121 : Int) (a122 : Nat) (a123 : List DV) (v : Nat × List DV) (h : F57 a114 a115 a116 a117 a118 a119 a120 a121 a122 a123 = some v) : PureCalls cfz.P cfz.glob 57 [(.agg [(a8 a114), (a8 a115), (a8 a116), (a8 a117), (a8 a118), (a8 a119), (a8 a120), (a8 a121)]), (.d (.sl a122 a123))] (out57 v) := tree_pure knil ok57 (s := .c0 a114 a115 a116 a117 a118 a119 a120 a121 a122 a123) rfl (by kernel_rfl) v h

/-! F40 -/
inductive S40 where
  | c0 (a103 a104 a105 a106 a107 a108 a109 a110 a111 : Int) (a112 : Nat) (a113 : List DV)
def out40 (v : Int × Nat × List DV × Int × Int × Int × Int × Int × Int × Int × Int) : AV := (.agg [(.d (.v (.int .i64 v.fst))), (.d (.sl v.snd.fst v.snd.snd.fst)), (.d (.v (.int .u8 v.snd.snd.snd.fst))), (.d (.v (.int .u8 v.snd.snd.snd.snd.fst))), (.d (.v (.int .u8 v.snd.snd.snd.snd.snd.fst))), (.d (.v (.int .u8 v.snd.snd.snd.snd.snd.snd.fst))), (.d (.v (.int .u8 v.snd.snd.snd.snd.snd.snd.snd.fst))), (.d (.v (.int .u8 v.snd.snd.snd.snd.snd.snd.snd.snd.fst))), (.d (.v (.int .u8 v.snd.snd.snd.snd.snd.snd.snd.snd.snd.fst))), (.d (.v (.int .u8 v.snd.snd.snd.snd.snd.snd.snd.snd.snd.snd)))])
noncomputable def st40 : S40 → ASt
  | .c0 a103 a104 a105 a106 a107 a108 a109 a110 a111 a112 a113 => ent cfz 40 [(.agg [(a8 a103), (a8 a104), (a8 a105), (a8 a106), (a8 a107), (a8 a108), (a8 a109), (a8 a110)]), (.agg [(aI a111), (.d (.sl a112 a113))])]
noncomputable def B40 : S40 → Tr S40 (Int × Nat × List DV × Int × Int × Int × Int × Int × Int × Int × Int)
  | .c0 a103 a104 a105 a106 a107 a108 a109 a110 a111 a112 a113 => (.bind (F57 a103 a104 a105 a106 a107 a108 a109 a110 a112 a113) fun v259 =>
  (.sees [(.agg [(a8 a103), (a8 a104), (a8 a105), (a8 a106), (a8 a107), (a8 a108), (a8 a109), (a8 a110)]), (.d (.sl a112 a113))] (.br (decide ((↑v259.fst : Int) > 0))
  (.ask (.in64 ((↑v259.fst : Int) - 1)) (.ask (.le 0 ((↑v259.fst : Int) - 1)) (.ask (.lt ((↑v259.fst : Int) - 1) ((↑v259.fst : Int))) (.ask (.leN (((↑v259.fst : Int) - 1).toNat * 8) v259.snd.length) (.ask (.leN 8 ((List.drop (((↑v259.fst : Int) - 1).toNat * 8) v259.snd).length)) (.ask (.prop (List.map AV.d (List.take 8 (List.drop (((↑v259.fst : Int) - 1).toNat * 8) v259.snd)) = [AV.d (DV.v (Value.int IntKind.u8 (dI (cel v259.snd (((↑v259.fst : Int) - 1).toNat * 8))))), AV.d (DV.v (Value.int IntKind.u8 (dI (cel v259.snd (((↑v259.fst : Int) - 1).toNat * 8 + 1))))), AV.d (DV.v (Value.int IntKind.u8 (dI (cel v259.snd (((↑v259.fst : Int) - 1).toNat * 8 + 2))))), AV.d (DV.v (Value.int IntKind.u8 (dI (cel v259.snd (((↑v259.fst : Int) - 1).toNat * 8 + 3))))), AV.d (DV.v (Value.int IntKind.u8 (dI (cel v259.snd (((↑v259.fst : Int) - 1).toNat * 8 + 4))))), AV.d (DV.v (Value.int IntKind.u8 (dI (cel v259.snd (((↑v259.fst : Int) - 1).toNat * 8 + 5))))), AV.d (DV.v (Value.int IntKind.u8 (dI (cel v259.snd (((↑v259.fst : Int) - 1).toNat * 8 + 6))))), AV.d (DV.v (Value.int IntKind.u8 (dI (cel v259.snd (((↑v259.fst : Int) - 1).toNat * 8 + 7)))))])) (.ret (a111, a112, a113, (dI (cel v259.snd (((↑v259.fst : Int) - 1).toNat * 8))), (dI (cel v259.snd (((↑v259.fst : Int) - 1).toNat * 8 + 1))), (dI (cel v259.snd (((↑v259.fst : Int) - 1).toNat * 8 + 2))), (dI (cel v259.snd (((↑v259.fst : Int) - 1).toNat * 8 + 3))), (dI (cel v259.snd (((↑v259.fst : Int) - 1).toNat * 8 + 4))), (dI (cel v259.snd (((↑v259.fst : Int) - 1).toNat * 8 + 5))), (dI (cel v259.snd (((↑v259.fst : Int) - 1).toNat * 8 + 6))), (dI (cel v259.snd (((↑v259.fst : Int) - 1).toNat * 8 + 7)))))))))))
  (.ret (a111, a112, a113, a103, a104, a105, a106, a107, a108, a109, a110)))))
noncomputable def F40 (a103 a104 a105 a106 a107 a108 a109 a110 a111 : Int) (a112 : Nat) (a113 : List DV) : Option (Int × Nat × List DV × Int × Int × Int × Int × Int × Int × Int × Int) := res B40 (.c0 a103 a104 a105 a106 a107 a108 a109 a110 a111 a112 a113)
noncomputable def D40_0 (a103 a104 a105 a106 a107 a108 a109 a110 a111 : Int) (a112 : Nat) (a113 : List DV) : DT cfz := (.go 20 [] [] (.bind (f57 a103 a104 a105 a106 a107 a108 a109 a110 a112 a113) fun v259 => (.go 9 [(.ck 0)] [] (.split 16 (.go 17 [(.br true), (.as (.agg [(a8 (dI (cel v259.snd (((↑v259.fst : Int) - 1).toNat * 8)))), (a8 (dI (cel v259.snd (((↑v259.fst : Int) - 1).toNat * 8 + 1)))), (a8 (dI (cel v259.snd (((↑v259.fst : Int) - 1).toNat * 8 + 2)))), (a8 (dI (cel v259.snd (((↑v259.fst : Int) - 1).toNat * 8 + 3)))), (a8 (dI (cel v259.snd (((↑v259.fst : Int) - 1).toNat * 8 + 4)))), (a8 (dI (cel v259.snd (((↑v259.fst : Int) - 1).toNat * 8 + 5)))), (a8 (dI (cel v259.snd (((↑v259.fst : Int) - 1).toNat * 8 + 6)))), (a8 (dI (cel v259.snd (((↑v259.fst : Int) - 1).toNat * 8 + 7))))]))] [0] .fin) (.go 8 [(.br false)] [0] .fin)))))
theorem k40_0 (a103 a104 a105 a106 a107 a108 a109 a110 a111 : Int) (a112 : Nat) (a113 : List DV) : xrun cfz 40 (D40_0 a103 a104 a105 a106 a107 a108 a109 a110 a111 a112 a113) [] (st40 (.c0 a103 a104 a105 a106 a107 a108 a109 a110 a111 a112 a113)) = (B40 (.c0 a103 a104 a105 a106 a107 a108 a109 a110 a111 a112 a113)).mach st40 out40 := by kernel_rfl
theorem ok40 : ∀ s, ∃ d, xrun cfz 40 d [] (st40 s) = (B40 s).mach st40 out40
  | .c0 a103 a104 a105 a106 a107 a108 a109 a110 a111 a112 a113 => ⟨_, k40_0 a103 a104 a105 a106 a107 a108 a109 a110 a111 a112 a113⟩
theorem f40 (a103 a104 a105 a106 a107 a108 a109 a110 a111 : Int) (a112 : Nat) (a113 : List DV) (v : Int × Nat × List DV × Int × Int × Int × Int × Int × Int × Int × Int) (h : F40 a103 a104 a105 a106 a107 a108 a109 a110 a111 a112 a113 = some v) : PureCalls cfz.P cfz.glob 40 [(.agg [(a8 a103), (a8 a104), (a8 a105), (a8 a106), (a8 a107), (a8 a108), (a8 a109), (a8 a110)]), (.agg [(aI a111), (.d (.sl a112 a113))])] (out40 v) := tree_pure knil ok40 (s := .c0 a103 a104 a105 a106 a107 a108 a109 a110 a111 a112 a113) rfl (by kernel_rfl) v h

/-! F16 -/
inductive S16 where
  | c0 (a321 a322 a323 a324 a325 a326 a327 a328 a329 a330 a331 a332 a333 a334 a335 a336 : Int)
def out16 (v : Int × Int × Int × Int × Int × Int) : AV := (.tup [(.agg [(.d (.v (.int .i64 v.fst))), (.d (.v (.int .i64 v.snd.fst))), (.d (.v (.int .i64 v.snd.snd.fst))), (.d (.v (.int .i64 v.snd.snd.snd.fst))), (.d (.v (.int .i64 v.snd.snd.snd.snd.fst)))]), (.d (.v (.int .i64 v.snd.snd.snd.snd.snd)))])
noncomputable def st16 : S16 → ASt
  | .c0 a321 a322 a323 a324 a325 a326 a327 a328 a329 a330 a331 a332 a333 a334 a335 a336 => ent cfz 16 [(.agg [(a8 a321), (a8 a322), (a8 a323), (a8 a324), (a8 a325), (a8 a326), (a8 a327), (a8 a328), (a8 a329), (a8 a330), (a8 a331), (a8 a332), (a8 a333), (a8 a334), (a8 a335), (a8 a336)])]
noncomputable def B16 : S16 → Tr S16 (Int × Int × Int × Int × Int × Int)
  | .c0 a321 a322 a323 a324 a325 a326 a327 a328 a329 a330 a331 a332 a333 a334 a335 a336 => (.bind (F55) fun v337 =>
  (.sees [] (.bind (F43 (a336 != 0) 1) fun v338 =>
  (.bind (F54 (IntKind.i64.wrap (↑(BitVec.ofInt 64 (IntKind.i64.wrap (IntKind.i64.wrap (↑(BitVec.ofInt 64 (IntKind.i64.wrap (IntKind.i64.wrap (↑(BitVec.ofInt 64 (IntKind.i64.wrap (IntKind.i64.wrap (↑(BitVec.ofInt 64 0 ||| BitVec.ofInt 64 (IntKind.i64.wrap a321)).toNat : Int) * 256)) ||| BitVec.ofInt 64 (IntKind.i64.wrap a322)).toNat : Int) * 256)) ||| BitVec.ofInt 64 (IntKind.i64.wrap a323)).toNat : Int) * 256)) ||| BitVec.ofInt 64 (IntKind.i64.wrap a324)).toNat : Int)) (IntKind.i64.wrap (↑(BitVec.ofInt 64 (IntKind.i64.wrap (IntKind.i64.wrap (↑(BitVec.ofInt 64 (IntKind.i64.wrap (IntKind.i64.wrap (↑(BitVec.ofInt 64 (IntKind.i64.wrap (IntKind.i64.wrap (↑(BitVec.ofInt 64 0 ||| BitVec.ofInt 64 (IntKind.i64.wrap a325)).toNat : Int) * 256)) ||| BitVec.ofInt 64 (IntKind.i64.wrap a326)).toNat : Int) * 256)) ||| BitVec.ofInt 64 (IntKind.i64.wrap a327)).toNat : Int) * 256)) ||| BitVec.ofInt 64 (IntKind.i64.wrap a328)).toNat : Int)) (IntKind.i64.wrap (↑(BitVec.ofInt 64 (IntKind.i64.wrap (IntKind.i64.wrap (↑(BitVec.ofInt 64 (IntKind.i64.wrap (IntKind.i64.wrap (↑(BitVec.ofInt 64 0 ||| BitVec.ofInt 64 (IntKind.i64.wrap a329)).toNat : Int) * 256)) ||| BitVec.ofInt 64 (IntKind.i64.wrap a330)).toNat : Int) * 256)) ||| BitVec.ofInt 64 (IntKind.i64.wrap a331)).toNat : Int)) (IntKind.i64.wrap (↑(BitVec.ofInt 64 (IntKind.i64.wrap (IntKind.i64.wrap (↑(BitVec.ofInt 64 (IntKind.i64.wrap (IntKind.i64.wrap (↑(BitVec.ofInt 64 0 ||| BitVec.ofInt 64 (IntKind.i64.wrap a332)).toNat : Int) * 256)) ||| BitVec.ofInt 64 (IntKind.i64.wrap a333)).toNat : Int) * 256)) ||| BitVec.ofInt 64 (IntKind.i64.wrap a334)).toNat : Int)) (IntKind.i64.wrap (↑(BitVec.ofInt 64 0 ||| BitVec.ofInt 64 (IntKind.i64.wrap a335)).toNat : Int))) fun v339 =>
  (.bind (F42 2 [(.v (.int .i64 v338)), (.v (.int .i64 v339))]) fun v340 =>
  (.sees [(.d (.v (.bool (a336 != 0)))), (aI 1)] (.sees [(.agg [(aI (IntKind.i64.wrap (↑(BitVec.ofInt 64 (IntKind.i64.wrap (IntKind.i64.wrap (↑(BitVec.ofInt 64 (IntKind.i64.wrap (IntKind.i64.wrap (↑(BitVec.ofInt 64 (IntKind.i64.wrap (IntKind.i64.wrap (↑(BitVec.ofInt 64 0 ||| BitVec.ofInt 64 (IntKind.i64.wrap a321)).toNat : Int) * 256)) ||| BitVec.ofInt 64 (IntKind.i64.wrap a322)).toNat : Int) * 256)) ||| BitVec.ofInt 64 (IntKind.i64.wrap a323)).toNat : Int) * 256)) ||| BitVec.ofInt 64 (IntKind.i64.wrap a324)).toNat : Int))), (aI (IntKind.i64.wrap (↑(BitVec.ofInt 64 (IntKind.i64.wrap (IntKind.i64.wrap (↑(BitVec.ofInt 64 (IntKind.i64.wrap (IntKind.i64.wrap (↑(BitVec.ofInt 64 (IntKind.i64.wrap (IntKind.i64.wrap (↑(BitVec.ofInt 64 0 ||| BitVec.ofInt 64 (IntKind.i64.wrap a325)).toNat : Int) * 256)) ||| BitVec.ofInt 64 (IntKind.i64.wrap a326)).toNat : Int) * 256)) ||| BitVec.ofInt 64 (IntKind.i64.wrap a327)).toNat : Int) * 256)) ||| BitVec.ofInt 64 (IntKind.i64.wrap a328)).toNat : Int))), (aI (IntKind.i64.wrap (↑(BitVec.ofInt 64 (IntKind.i64.wrap (IntKind.i64.wrap (↑(BitVec.ofInt 64 (IntKind.i64.wrap (IntKind.i64.wrap (↑(BitVec.ofInt 64 0 ||| BitVec.ofInt 64 (IntKind.i64.wrap a329)).toNat : Int) * 256)) ||| BitVec.ofInt 64 (IntKind.i64.wrap a330)).toNat : Int) * 256)) ||| BitVec.ofInt 64 (IntKind.i64.wrap a331)).toNat : Int))), (aI (IntKind.i64.wrap (↑(BitVec.ofInt 64 (IntKind.i64.wrap (IntKind.i64.wrap (↑(BitVec.ofInt 64 (IntKind.i64.wrap (IntKind.i64.wrap (↑(BitVec.ofInt 64 0 ||| BitVec.ofInt 64 (IntKind.i64.wrap a332)).toNat : Int) * 256)) ||| BitVec.ofInt 64 (IntKind.i64.wrap a333)).toNat : Int) * 256)) ||| BitVec.ofInt 64 (IntKind.i64.wrap a334)).toNat : Int))), (aI (IntKind.i64.wrap (↑(BitVec.ofInt 64 0 ||| BitVec.ofInt 64 (IntKind.i64.wrap a335)).toNat : Int)))])] (.sees [(.d (.sl 2 [(vI v338), (vI v339)]))] (.br (v340 != 0)
  (.ret (0, 0, 0, 0, 0, v340))
  (.ret ((IntKind.i64.wrap (↑(BitVec.ofInt 64 (IntKind.i64.wrap (IntKind.i64.wrap (↑(BitVec.ofInt 64 (IntKind.i64.wrap (IntKind.i64.wrap (↑(BitVec.ofInt 64 (IntKind.i64.wrap (IntKind.i64.wrap (↑(BitVec.ofInt 64 0 ||| BitVec.ofInt 64 (IntKind.i64.wrap a321)).toNat : Int) * 256)) ||| BitVec.ofInt 64 (IntKind.i64.wrap a322)).toNat : Int) * 256)) ||| BitVec.ofInt 64 (IntKind.i64.wrap a323)).toNat : Int) * 256)) ||| BitVec.ofInt 64 (IntKind.i64.wrap a324)).toNat : Int)), (IntKind.i64.wrap (↑(BitVec.ofInt 64 (IntKind.i64.wrap (IntKind.i64.wrap (↑(BitVec.ofInt 64 (IntKind.i64.wrap (IntKind.i64.wrap (↑(BitVec.ofInt 64 (IntKind.i64.wrap (IntKind.i64.wrap (↑(BitVec.ofInt 64 0 ||| BitVec.ofInt 64 (IntKind.i64.wrap a325)).toNat : Int) * 256)) ||| BitVec.ofInt 64 (IntKind.i64.wrap a326)).toNat : Int) * 256)) ||| BitVec.ofInt 64 (IntKind.i64.wrap a327)).toNat : Int) * 256)) ||| BitVec.ofInt 64 (IntKind.i64.wrap a328)).toNat : Int)), (IntKind.i64.wrap (↑(BitVec.ofInt 64 (IntKind.i64.wrap (IntKind.i64.wrap (↑(BitVec.ofInt 64 (IntKind.i64.wrap (IntKind.i64.wrap (↑(BitVec.ofInt 64 0 ||| BitVec.ofInt 64 (IntKind.i64.wrap a329)).toNat : Int) * 256)) ||| BitVec.ofInt 64 (IntKind.i64.wrap a330)).toNat : Int) * 256)) ||| BitVec.ofInt 64 (IntKind.i64.wrap a331)).toNat : Int)), (IntKind.i64.wrap (↑(BitVec.ofInt 64 (IntKind.i64.wrap (IntKind.i64.wrap (↑(BitVec.ofInt 64 (IntKind.i64.wrap (IntKind.i64.wrap (↑(BitVec.ofInt 64 0 ||| BitVec.ofInt 64 (IntKind.i64.wrap a332)).toNat : Int) * 256)) ||| BitVec.ofInt 64 (IntKind.i64.wrap a333)).toNat : Int) * 256)) ||| BitVec.ofInt 64 (IntKind.i64.wrap a334)).toNat : Int)), (IntKind.i64.wrap (↑(BitVec.ofInt 64 0 ||| BitVec.ofInt 64 (IntKind.i64.wrap a335)).toNat : Int)), 0)))))))))))
noncomputable def F16 (a321 a322 a323 a324 a325 a326 a327 a328 a329 a330 a331 a332 a333 a334 a335 a336 : Int) : Option (Int × Int × Int × Int × Int × Int) := res B16 (.c0 a321 a322 a323 a324 a325 a326 a327 a328 a329 a330 a331 a332 a333 a334 a335 a336)
noncomputable def D16_0 (a321 a322 a323 a324 a325 a326 a327 a328 a329 a330 a331 a332 a333 a334 a335 a336 : Int) : DT cfz := (.go 17 [] [] (.bind (f55) fun v337 => (.go 795 [(.ck 0), (.br true), .none, .none, .none, (.br true), .none, (.br true), .none, (.br true), .none, (.br true), .none, (.br false), .none, .enter, .none, .none, (.br true), .none, .none, .none, (.br true), .none, (.br true), .none, (.br true), .none, (.br true), .none, (.br false), .none, .enter, .none, .none, (.br true), .none, .none, .none, (.br true), .none, (.br true), .none, (.br true), .none, (.br false), .none, .enter, .none, .none, (.br true), .none, .none, .none, (.br true), .none, (.br true), .none, (.br true), .none, (.br false), .none, .enter, .none, .none, (.br true), .none, .none, .none, (.br true), .none, (.br false), .none, .enter, .none, .none, (.br false)] [1, 2, 3, 4, 5, 6, 7, 8, 9, 10, 11, 12, 13, 14, 15, 16, 17, 18, 19, 20, 21, 22, 23, 24, 25, 26, 27, 28, 29, 30, 31, 32, 33, 34, 35, 36, 37, 38, 39, 40, 41, 42, 43, 44, 45, 46, 47, 48, 49, 50, 51, 52, 53, 54, 55, 56, 57, 58, 59, 60, 61, 62, 63, 64, 65, 66, 67, 68, 69, 70, 71, 72, 73, 74, 75, 76, 77, 78, 79, 80, 81, 82, 83, 84, 85, 86, 87, 88, 89, 90, 91, 92, 93, 94, 95, 96, 97, 98, 99, 100, 101, 102, 103, 104, 105, 106, 107, 108, 109, 110, 111, 112, 113, 114, 115, 116, 117, 118, 119, 120, 121, 122, 123, 124, 125, 126, 127, 128, 129, 130, 131] (.bind (f43 (a336 != 0) 1) fun v338 => (.bind (f54 (IntKind.i64.wrap (↑(BitVec.ofInt 64 (IntKind.i64.wrap (IntKind.i64.wrap (↑(BitVec.ofInt 64 (IntKind.i64.wrap (IntKind.i64.wrap (↑(BitVec.ofInt 64 (IntKind.i64.wrap (IntKind.i64.wrap (↑(BitVec.ofInt 64 0 ||| BitVec.ofInt 64 (IntKind.i64.wrap a321)).toNat : Int) * 256)) ||| BitVec.ofInt 64 (IntKind.i64.wrap a322)).toNat : Int) * 256)) ||| BitVec.ofInt 64 (IntKind.i64.wrap a323)).toNat : Int) * 256)) ||| BitVec.ofInt 64 (IntKind.i64.wrap a324)).toNat : Int)) (IntKind.i64.wrap (↑(BitVec.ofInt 64 (IntKind.i64.wrap (IntKind.i64.wrap (↑(BitVec.ofInt 64 (IntKind.i64.wrap (IntKind.i64.wrap (↑(BitVec.ofInt 64 (IntKind.i64.wrap (IntKind.i64.wrap (↑(BitVec.ofInt 64 0 ||| BitVec.ofInt 64 (IntKind.i64.wrap a325)).toNat : Int) * 256)) ||| BitVec.ofInt 64 (IntKind.i64.wrap a326)).toNat : Int) * 256)) ||| BitVec.ofInt 64 (IntKind.i64.wrap a327)).toNat : Int) * 256)) ||| BitVec.ofInt 64 (IntKind.i64.wrap a328)).toNat : Int)) (IntKind.i64.wrap (↑(BitVec.ofInt 64 (IntKind.i64.wrap (IntKind.i64.wrap (↑(BitVec.ofInt 64 (IntKind.i64.wrap (IntKind.i64.wrap (↑(BitVec.ofInt 64 0 ||| BitVec.ofInt 64 (IntKind.i64.wrap a329)).toNat : Int) * 256)) ||| BitVec.ofInt 64 (IntKind.i64.wrap a330)).toNat : Int) * 256)) ||| BitVec.ofInt 64 (IntKind.i64.wrap a331)).toNat : Int)) (IntKind.i64.wrap (↑(BitVec.ofInt 64 (IntKind.i64.wrap (IntKind.i64.wrap (↑(BitVec.ofInt 64 (IntKind.i64.wrap (IntKind.i64.wrap (↑(BitVec.ofInt 64 0 ||| BitVec.ofInt 64 (IntKind.i64.wrap a332)).toNat : Int) * 256)) ||| BitVec.ofInt 64 (IntKind.i64.wrap a333)).toNat : Int) * 256)) ||| BitVec.ofInt 64 (IntKind.i64.wrap a334)).toNat : Int)) (IntKind.i64.wrap (↑(BitVec.ofInt 64 0 ||| BitVec.ofInt 64 (IntKind.i64.wrap a335)).toNat : Int))) fun v339 => (.bind (f42 2 [(vI v338), (vI v339)]) fun v340 => (.go 6 [(.ck 1), (.ck 2), (.ck 3)] [0, 1] (.split 52 (.go 9 [(.br true)] [0] .fin) (.go 9 [(.br false)] [0] .fin)))))))))
theorem k16_0 (a321 a322 a323 a324 a325 a326 a327 a328 a329 a330 a331 a332 a333 a334 a335 a336 : Int) : xrun cfz 16 (D16_0 a321 a322 a323 a324 a325 a326 a327 a328 a329 a330 a331 a332 a333 a334 a335 a336) [] (st16 (.c0 a321 a322 a323 a324 a325 a326 a327 a328 a329 a330 a331 a332 a333 a334 a335 a336)) = (B16 (.c0 a321 a322 a323 a324 a325 a326 a327 a328 a329 a330 a331 a332 a333 a334 a335 a336)).mach st16 out16 := by kernel_rfl
theorem ok16 : ∀ s, ∃ d, xrun cfz 16 d [] (st16 s) = (B16 s).mach st16 out16
  | .c0 a321 a322 a323 a324 a325 a326 a327 a328 a329 a330 a331 a332 a333 a334 a335 a336 => ⟨_, k16_0 a321 a322 a323 a324 a325 a326 a327 a328 a329 a330 a331 a332 a333 a334 a335 a336⟩
theorem f16 (a321 a322 a323 a324 a325 a326 a327 a328 a329 a330 a331 a332 a333 a334 a335 a336 : Int) (v : Int × Int × Int × Int × Int × Int) (h : F16 a321 a322 a323 a324 a325 a326 a327 a328 a329 a330 a331 a332 a333 a334 a335 a336 = some v) : PureCalls cfz.P cfz.glob 16 [(.agg [(a8 a321), (a8 a322), (a8 a323), (a8 a324), (a8 a325), (a8 a326), (a8 a327), (a8 a328), (a8 a329), (a8 a330), (a8 a331), (a8 a332), (a8 a333), (a8 a334), (a8 a335), (a8 a336)])] (out16 v) := tree_pure knil ok16 (s := .c0 a321 a322 a323 a324 a325 a326 a327 a328 a329 a330 a331 a332 a333 a334 a335 a336) rfl (by kernel_rfl) v h

/-! F45 -/
inductive S45 where
  | c0 (a427 a428 a429 a430 a431 a432 a433 a434 : Int) (a435 : Nat) (a436 : List DV)
def out45 (v : Int × Int × Int × Int × Int × Int × Int × Int × Int) : AV := (.tup [(.agg [(.d (.v (.int .u8 v.fst))), (.d (.v (.int .u8 v.snd.fst))), (.d (.v (.int .u8 v.snd.snd.fst))), (.d (.v (.int .u8 v.snd.snd.snd.fst))), (.d (.v (.int .u8 v.snd.snd.snd.snd.fst))), (.d (.v (.int .u8 v.snd.snd.snd.snd.snd.fst))), (.d (.v (.int .u8 v.snd.snd.snd.snd.snd.snd.fst))), (.d (.v (.int .u8 v.snd.snd.snd.snd.snd.snd.snd.fst)))]), (.d (.v (.int .i64 v.snd.snd.snd.snd.snd.snd.snd.snd)))])
noncomputable def st45 : S45 → ASt
  | .c0 a427 a428 a429 a430 a431 a432 a433 a434 a435 a436 => ent cfz 45 [(.agg [(a8 a427), (a8 a428), (a8 a429), (a8 a430), (a8 a431), (a8 a432), (a8 a433), (a8 a434)]), (.d (.sl a435 a436))]
noncomputable def B45 : S45 → Tr S45 (Int × Int × Int × Int × Int × Int × Int × Int × Int)
  | .c0 a427 a428 a429 a430 a431 a432 a433 a434 a435 a436 => (.br (decide ((↑a435 : Int) > 400000))
  (.ret (0, 0, 0, 0, 0, 0, 0, 0, 26))
  (.bind (F82 a427 a428 a429 a430 a431 a432 a433 a434 a435 a436) fun v437 =>
  (.sees [(.agg [(a8 a427), (a8 a428), (a8 a429), (a8 a430), (a8 a431), (a8 a432), (a8 a433), (a8 a434)]), (.d (.sl a435 a436))] (.ret (v437.fst, v437.snd.fst, v437.snd.snd.fst, v437.snd.snd.snd.fst, v437.snd.snd.snd.snd.fst, v437.snd.snd.snd.snd.snd.fst, v437.snd.snd.snd.snd.snd.snd.fst, v437.snd.snd.snd.snd.snd.snd.snd, 0)))))
noncomputable def F45 (a427 a428 a429 a430 a431 a432 a433 a434 : Int) (a435 : Nat) (a436 : List DV) : Option (Int × Int × Int × Int × Int × Int × Int × Int × Int) := res B45 (.c0 a427 a428 a429 a430 a431 a432 a433 a434 a435 a436)
noncomputable def D45_0 (a427 a428 a429 a430 a431 a432 a433 a434 : Int) (a435 : Nat) (a436 : List DV) : DT cfz := (.go 13 [] [] (.split 8 (.go 8 [(.br true)] [0] .fin) (.go 6 [(.br false)] [0] (.bind (f82 a427 a428 a429 a430 a431 a432 a433 a434 a435 a436) fun v437 => (.go 5 [(.ck 0)] [] .fin)))))
theorem k45_0 (a427 a428 a429 a430 a431 a432 a433 a434 : Int) (a435 : Nat) (a436 : List DV) : xrun cfz 45 (D45_0 a427 a428 a429 a430 a431 a432 a433 a434 a435 a436) [] (st45 (.c0 a427 a428 a429 a430 a431 a432 a433 a434 a435 a436)) = (B45 (.c0 a427 a428 a429 a430 a431 a432 a433 a434 a435 a436)).mach st45 out45 := by kernel_rfl
theorem ok45 : ∀ s, ∃ d, xrun cfz 45 d [] (st45 s) = (B45 s).mach st45 out45
  | .c0 a427 a428 a429 a430 a431 a432 a433 a434 a435 a436 => ⟨_, k45_0 a427 a428 a429 a430 a431 a432 a433 a434 a435 a436⟩
theorem f45 (a427 a428 a429 a430 a431 a432 a433 a434 : Int) (a435 : Nat) (a436 : List DV) (v : Int × Int × Int × Int × Int × Int × Int × Int × Int) (h : F45 a427 a428 a429 a430 a431 a432 a433 a434 a435 a436 = some v) : PureCalls cfz.P cfz.glob 45 [(.agg [(a8 a427), (a8 a428), (a8 a429), (a8 a430), (a8 a431), (a8 a432), (a8 a433), (a8 a434)]), (.d (.sl a435 a436))] (out45 v) := tree_pure knil ok45 (s := .c0 a427 a428 a429 a430 a431 a432 a433 a434 a435 a436) rfl (by kernel_rfl) v h

end Go.Kv
