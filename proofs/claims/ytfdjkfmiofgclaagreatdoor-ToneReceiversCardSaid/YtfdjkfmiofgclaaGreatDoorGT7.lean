/- Printed: what functions of the program come to, and the kernel's proof of it. -/
import Derived.Test.YtfdjkfmiofgclaaGreatDoorKvW
import Derived.Test.YtfdjkfmiofgclaaGreatDoorKvZ
import Derived.Test.YtfdjkfmiofgclaaGreatDoorKzA
import Derived.Test.YtfdjkfmiofgclaaGreatDoorKzW
namespace Go.Kv
set_option linter.unusedVariables false
set_option linter.unusedSimpArgs false
set_option linter.unnecessarySimpa false
open Go Go.RowKit Go.Proofs
set_option maxRecDepth 100000
/-! F30 -/
inductive S30 where
  | c0 (a9 : Nat) (a10 : List DV)
def out30 (v : Bool) : AV := (.d (.v (.bool v)))
noncomputable def st30 : S30 → ASt
  | .c0 a9 a10 => ent cfz 30 [(.d (.sl a9 a10))]
noncomputable def B30 : S30 → Tr S30 (Bool)
  | .c0 a9 a10 => (.ret (decide ((↑a9 : Int) ≤ 9)))
noncomputable def F30 (a9 : Nat) (a10 : List DV) : Option (Bool) := res B30 (.c0 a9 a10)
noncomputable def D30_0 (a9 : Nat) (a10 : List DV) : DT cfz := (.go 12 [] [] .fin)
theorem k30_0 (a9 : Nat) (a10 : List DV) : xrun cfz 30 (D30_0 a9 a10) [] (st30 (.c0 a9 a10)) = (B30 (.c0 a9 a10)).mach st30 out30 := by kernel_rfl
theorem ok30 : ∀ s, ∃ d, xrun cfz 30 d [] (st30 s) = (B30 s).mach st30 out30
  | .c0 a9 a10 => ⟨_, k30_0 a9 a10⟩
theorem f30 (a9 : Nat) (a10 : List DV) (v : Bool) (h : F30 a9 a10 = some v) : PureCalls cfz.P cfz.glob 30 [(.d (.sl a9 a10))] (out30 v) := tree_pure knil ok30 (s := .c0 a9 a10) rfl (by kernel_rfl) v h

/-! F33 -/
inductive S33 where
  | c0 (a19 : Nat) (a20 : List DV)
def out33 (v : Nat × List DV) : AV := (.d (.sl v.fst v.snd))
noncomputable def st33 : S33 → ASt
  | .c0 a19 a20 => ent cfz 33 [(.d (.sl a19 a20))]
noncomputable def B33 : S33 → Tr S33 (Nat × List DV)
  | .c0 a19 a20 => (.br (a19.beq 0)
  (.ask (.eqN a19 0) (.ret (0, [])))
  (.ask (.ltN 0 a19) (.ask (.eqN a20.length (a19 * 1)) (.ask (.fits a19 8) (.ret (a19, a20))))))
noncomputable def F33 (a19 : Nat) (a20 : List DV) : Option (Nat × List DV) := res B33 (.c0 a19 a20)
noncomputable def D33_0 (a19 : Nat) (a20 : List DV) : DT cfz := (.go 8 [] [] (.br (a19.beq 0) (.go 4 [(.br false)] [] .fin) (.go 4 [(.br true)] [] .fin)))
theorem k33_0 (a19 : Nat) (a20 : List DV) : xrun cfz 33 (D33_0 a19 a20) [] (st33 (.c0 a19 a20)) = (B33 (.c0 a19 a20)).mach st33 out33 := by kernel_rfl
theorem ok33 : ∀ s, ∃ d, xrun cfz 33 d [] (st33 s) = (B33 s).mach st33 out33
  | .c0 a19 a20 => ⟨_, k33_0 a19 a20⟩
theorem f33 (a19 : Nat) (a20 : List DV) (v : Nat × List DV) (h : F33 a19 a20 = some v) : PureCalls cfz.P cfz.glob 33 [(.d (.sl a19 a20))] (out33 v) := tree_pure knil ok33 (s := .c0 a19 a20) rfl (by kernel_rfl) v h

/-! F48 -/
inductive S48 where
  | c0 (a14 : Int) (a15 : Nat) (a16 : List DV) (a17 : Nat) (a18 : List DV)
def out48 (v : Int × Nat × List DV × Nat × List DV) : AV := (.agg [(.d (.v (.int .i64 v.fst))), (.d (.sl v.snd.fst v.snd.snd.fst)), (.d (.sl v.snd.snd.snd.fst v.snd.snd.snd.snd))])
noncomputable def st48 : S48 → ASt
  | .c0 a14 a15 a16 a17 a18 => ent cfz 48 [(.agg [(.d (.v (.int .i64 a14))), (.d (.sl a15 a16)), (.d (.sl a17 a18))])]
noncomputable def B48 : S48 → Tr S48 (Int × Nat × List DV × Nat × List DV)
  | .c0 a14 a15 a16 a17 a18 => (.bind (F33 a15 a16) fun v21 =>
  (.bind (F33 a17 a18) fun v22 =>
  (.sees [(.d (.sl a15 a16))] (.sees [(.d (.sl a17 a18))] (.ret (a14, v21.fst, v21.snd, v22.fst, v22.snd))))))
noncomputable def F48 (a14 : Int) (a15 : Nat) (a16 : List DV) (a17 : Nat) (a18 : List DV) : Option (Int × Nat × List DV × Nat × List DV) := res B48 (.c0 a14 a15 a16 a17 a18)
noncomputable def D48_0 (a14 : Int) (a15 : Nat) (a16 : List DV) (a17 : Nat) (a18 : List DV) : DT cfz := (.go 7 [] [] (.bind (f33 a15 a16) fun v21 => (.bind (f33 a17 a18) fun v22 => (.go 2 [(.ck 0), (.ck 1)] [] .fin))))
theorem k48_0 (a14 : Int) (a15 : Nat) (a16 : List DV) (a17 : Nat) (a18 : List DV) : xrun cfz 48 (D48_0 a14 a15 a16 a17 a18) [] (st48 (.c0 a14 a15 a16 a17 a18)) = (B48 (.c0 a14 a15 a16 a17 a18)).mach st48 out48 := by kernel_rfl
theorem ok48 : ∀ s, ∃ d, xrun cfz 48 d [] (st48 s) = (B48 s).mach st48 out48
  | .c0 a14 a15 a16 a17 a18 => ⟨_, k48_0 a14 a15 a16 a17 a18⟩
theorem f48 (a14 : Int) (a15 : Nat) (a16 : List DV) (a17 : Nat) (a18 : List DV) (v : Int × Nat × List DV × Nat × List DV) (h : F48 a14 a15 a16 a17 a18 = some v) : PureCalls cfz.P cfz.glob 48 [(.agg [(.d (.v (.int .i64 a14))), (.d (.sl a15 a16)), (.d (.sl a17 a18))])] (out48 v) := tree_pure knil ok48 (s := .c0 a14 a15 a16 a17 a18) rfl (by kernel_rfl) v h

/-! F109 -/
inductive S109 where
  | c0 (a45 : Bool) (a46 : Int)
def out109 (v : Int) : AV := (.d (.v (.int .i64 v)))
noncomputable def st109 : S109 → ASt
  | .c0 a45 a46 => ent cfz 109 [(.d (.v (.bool a45))), (.d (.v (.int .i64 a46)))]
noncomputable def B109 : S109 → Tr S109 (Int)
  | .c0 a45 a46 => (.br a45
  (.ret a46)
  (.ret 0))
noncomputable def F109 (a45 : Bool) (a46 : Int) : Option (Int) := res B109 (.c0 a45 a46)
noncomputable def D109_0 (a45 : Bool) (a46 : Int) : DT cfz := (.go 9 [] [] (.split 5 (.go 7 [(.br true)] [0] .fin) (.go 7 [(.br false)] [0] .fin)))
theorem k109_0 (a45 : Bool) (a46 : Int) : xrun cfz 109 (D109_0 a45 a46) [] (st109 (.c0 a45 a46)) = (B109 (.c0 a45 a46)).mach st109 out109 := by kernel_rfl
theorem ok109 : ∀ s, ∃ d, xrun cfz 109 d [] (st109 s) = (B109 s).mach st109 out109
  | .c0 a45 a46 => ⟨_, k109_0 a45 a46⟩
theorem f109 (a45 : Bool) (a46 : Int) (v : Int) (h : F109 a45 a46 = some v) : PureCalls cfz.P cfz.glob 109 [(.d (.v (.bool a45))), (.d (.v (.int .i64 a46)))] (out109 v) := tree_pure knil ok109 (s := .c0 a45 a46) rfl (by kernel_rfl) v h

/-! F106 -/
inductive S106 where
  | c0 (a42 : Int) (a43 : Int) (a44 : Int)
def out106 (v : Int) : AV := (.d (.v (.int .i64 v)))
noncomputable def st106 : S106 → ASt
  | .c0 a42 a43 a44 => ent cfz 106 [(.d (.v (.int .i64 a42))), (.d (.v (.int .i64 a43))), (.d (.v (.int .i64 a44)))]
noncomputable def B106 : S106 → Tr S106 (Int)
  | .c0 a42 a43 a44 => (.triv _ (tv_s (decide (a42 < a43) == false)) (.triv _ (tv_s (decide (a42 < a43) == false)) (.triv _ (tv_f (decide (a42 < a43))) (.bind (F109 (if decide (a42 < a43) = true then true else decide (a42 > a44)) 3) fun v47 =>
  (.sees [(.d (.v (.bool (if decide (a42 < a43) = true then true else decide (a42 > a44))))), (.d (.v (.int .i64 3)))] (.ret v47))))))
noncomputable def F106 (a42 : Int) (a43 : Int) (a44 : Int) : Option (Int) := res B106 (.c0 a42 a43 a44)
noncomputable def D106_0 (a42 : Int) (a43 : Int) (a44 : Int) : DT cfz := (.go 14 [(.sp .none), (.sp .none), (.sp .none), .mg] [] (.bind (f109 (if decide (a42 < a43) = true then true else decide (a42 > a44)) 3) fun v47 => (.go 4 [(.ck 0)] [] .fin)))
theorem k106_0 (a42 : Int) (a43 : Int) (a44 : Int) : xrun cfz 106 (D106_0 a42 a43 a44) [] (st106 (.c0 a42 a43 a44)) = (B106 (.c0 a42 a43 a44)).mach st106 out106 := by kernel_rfl
theorem ok106 : ∀ s, ∃ d, xrun cfz 106 d [] (st106 s) = (B106 s).mach st106 out106
  | .c0 a42 a43 a44 => ⟨_, k106_0 a42 a43 a44⟩
theorem f106 (a42 : Int) (a43 : Int) (a44 : Int) (v : Int) (h : F106 a42 a43 a44 = some v) : PureCalls cfz.P cfz.glob 106 [(.d (.v (.int .i64 a42))), (.d (.v (.int .i64 a43))), (.d (.v (.int .i64 a44)))] (out106 v) := tree_pure knil ok106 (s := .c0 a42 a43 a44) rfl (by kernel_rfl) v h

/-! F172 -/
inductive S172 where
  | c0 (a67 : Int) (a68 : List DV) (a69 : List DV)
def out172 (v : Int) : AV := (.d (.v (.int .i64 v)))
noncomputable def st172 : S172 → ASt
  | .c0 a67 a68 a69 => ent cfz 172 [(.d (.v (.int .i64 a67))), (.ip a68), (.ip a69)]
noncomputable def B172 : S172 → Tr S172 (Int)
  | .c0 a67 a68 a69 => (.ask (.prop (Option.map AV.d a68[0]? = some (AV.d (DV.v (Value.int IntKind.i64 (dI (cel a68 0))))))) (.ask (.prop (Option.map AV.d a69[0]? = some (AV.d (DV.v (Value.int IntKind.i64 (dI (cel a69 0))))))) (.bind (F106 a67 (dI (cel a68 0)) (dI (cel a69 0))) fun v70 =>
  (.sees [(.d (.v (.int .i64 a67))), (.d (.v (.int .i64 (dI (cel a68 0))))), (.d (.v (.int .i64 (dI (cel a69 0)))))] (.ret v70)))))
noncomputable def F172 (a67 : Int) (a68 : List DV) (a69 : List DV) : Option (Int) := res B172 (.c0 a67 a68 a69)
noncomputable def D172_0 (a67 : Int) (a68 : List DV) (a69 : List DV) : DT cfz := (.go 9 [(.as (.d (.v (.int .i64 (dI (cel a68 0)))))), (.as (.d (.v (.int .i64 (dI (cel a69 0))))))] [] (.bind (f106 a67 (dI (cel a68 0)) (dI (cel a69 0))) fun v70 => (.go 4 [(.ck 0)] [] .fin)))
theorem k172_0 (a67 : Int) (a68 : List DV) (a69 : List DV) : xrun cfz 172 (D172_0 a67 a68 a69) [] (st172 (.c0 a67 a68 a69)) = (B172 (.c0 a67 a68 a69)).mach st172 out172 := by kernel_rfl
theorem ok172 : ∀ s, ∃ d, xrun cfz 172 d [] (st172 s) = (B172 s).mach st172 out172
  | .c0 a67 a68 a69 => ⟨_, k172_0 a67 a68 a69⟩
theorem f172 (a67 : Int) (a68 : List DV) (a69 : List DV) (v : Int) (h : F172 a67 a68 a69 = some v) : PureCalls cfz.P cfz.glob 172 [(.d (.v (.int .i64 a67))), (.ip a68), (.ip a69)] (out172 v) := tree_pure knil ok172 (s := .c0 a67 a68 a69) rfl (by kernel_rfl) v h

/-! F171 -/
inductive S171 where
  | c0 (a57 : Nat) (a58 : List DV) (a59 : List DV) (a60 : List DV)
  | c1 (x61 : List DV) (x62 : List DV) (x63 : Nat) (x64 : List DV) (x65 : Int) (y66 : Int)
  | c2 (x72 : List DV) (x73 : List DV) (y74 : Nat) (y75 : Nat) (y76 : List DV) (x77 : Nat) (x78 : List DV) (x79 : Int) (y80 : Int) (y82 : Nat)
def out171 (v : Nat × List DV) : AV := (.d (.sl v.fst v.snd))
noncomputable def st171 : S171 → ASt
  | .c0 a57 a58 a59 a60 => ent cfz 171 [(.d (.sl a57 a58)), (.fn (.func 172) [] [(.ip a59), (.ip a60)])]
  | .c1 x61 x62 x63 x64 x65 y66 => ⟨⟨171, sp 22 0 [(1, (.fn (.func 172) [] [(.ip x61), (.ip x62)])), (5, (.d (.v (.slice .none 0 0)))), (8, (.d (.sl x63 x64))), (9, (.d (.v (.int .i64 x65)))), (10, (.d (.v (.int .i64 y66))))], [(.code (cd cfz.P 171 [1, 1, 0, 1, 0, 0])), (.inLoop (cd cfz.P 171 [1, 1, 0, 1, 0, 0])), (.inBlock 0), (.code (cd cfz.P 171 [1, 1, 1]))], [], false, .none⟩, [], []⟩
  | .c2 x72 x73 y74 y75 y76 x77 x78 x79 y80 y82 => ⟨⟨171, sp 22 0 [(1, (.fn (.func 172) [] [(.ip x72), (.ip x73)])), (5, (.own 1 y74 1 y75 y76)), (8, (.d (.sl x77 x78))), (9, (.d (.v (.int .i64 x79)))), (10, (.d (.v (.int .i64 y80))))], [(.code (cd cfz.P 171 [1, 1, 0, 1, 0, 0])), (.inLoop (cd cfz.P 171 [1, 1, 0, 1, 0, 0])), (.inBlock 0), (.code (cd cfz.P 171 [1, 1, 1]))], [], false, .none⟩, [], [(.tail 0), (.tail y82)]⟩
noncomputable def B171 : S171 → Tr S171 (Nat × List DV)
  | .c0 a57 a58 a59 a60 => (.nxt (.c1 a59 a60 a57 a58 ((↑a57 : Int)) 0))
  | .c1 x61 x62 x63 x64 x65 y66 => (.br (decide (y66 < x65))
  (.ask (.le 0 y66) (.ask (.lt y66 ((↑x63 : Int))) (.ask (.leN (y66.toNat * 1) x64.length) (.ask (.prop (Option.map AV.d (List.drop (y66.toNat * 1) x64)[0]? = some (AV.d (DV.v (Value.int IntKind.i64 (dI (cel x64 (y66.toNat * 1)))))))) (.bind (F172 (dI (cel x64 (y66.toNat * 1))) x61 x62) fun v71 =>
  (.sees [(.d (.v (.int .i64 (dI (cel x64 (y66.toNat * 1)))))), (.ip x61), (.ip x62)] (.ask (.in64 (y66 + 1)) (.nxt (.c2 x61 x62 0 1 [(.v (.int .i64 v71))] x63 x64 x65 (y66 + 1) 0)))))))))
  (.ret (0, [])))
  | .c2 x72 x73 y74 y75 y76 x77 x78 x79 y80 y82 => (.br (decide (y80 < x79))
  (.ask (.le 0 y80) (.ask (.lt y80 ((↑x77 : Int))) (.ask (.leN (y80.toNat * 1) x78.length) (.ask (.prop (Option.map AV.d (List.drop (y80.toNat * 1) x78)[0]? = some (AV.d (DV.v (Value.int IntKind.i64 (dI (cel x78 (y80.toNat * 1)))))))) (.bind (F172 (dI (cel x78 (y80.toNat * 1))) x72 x73) fun v83 =>
  (.sees [(.d (.v (.int .i64 (dI (cel x78 (y80.toNat * 1)))))), (.ip x72), (.ip x73)] (.ask (.eqN y74 y82) (.ask (.fits (y75 + 1) 8) (.ask (.in64 (y80 + 1)) (.nxt (.c2 x72 x73 (y82 + 1) (y75 + 1) (y76 ++ [DV.v (Value.int IntKind.i64 v83)]) x77 x78 x79 (y80 + 1) (y82 + 1))))))))))))
  (.ret (y75, y76)))
noncomputable def F171 (a57 : Nat) (a58 : List DV) (a59 : List DV) (a60 : List DV) : Option (Nat × List DV) := res B171 (.c0 a57 a58 a59 a60)
noncomputable def D171_0 (a57 : Nat) (a58 : List DV) (a59 : List DV) (a60 : List DV) : DT cfz := (.go 17 [] [] (.cut 0 [[1, 5, 8, 9, 10]] []))
theorem k171_0 (a57 : Nat) (a58 : List DV) (a59 : List DV) (a60 : List DV) : xrun cfz 171 (D171_0 a57 a58 a59 a60) [] (st171 (.c0 a57 a58 a59 a60)) = (B171 (.c0 a57 a58 a59 a60)).mach st171 out171 := by kernel_rfl
noncomputable def D171_1 (x61 : List DV) (x62 : List DV) (x63 : Nat) (x64 : List DV) (x65 : Int) (y66 : Int) : DT cfz := (.go 5 [] [] (.split 11 (.go 14 [(.br true), (.as (.d (.v (.int .i64 (dI (cel x64 (y66.toNat * 1)))))))] [0] (.bind (f172 (dI (cel x64 (y66.toNat * 1))) x61 x62) fun v71 => (.go 11 [(.ck 0)] [1, 2, 3] (.cut 2 [[1, 5, 8, 9, 10]] [])))) (.go 8 [(.br false)] [0] .fin)))
theorem k171_1 (x61 : List DV) (x62 : List DV) (x63 : Nat) (x64 : List DV) (x65 : Int) (y66 : Int) : xrun cfz 171 (D171_1 x61 x62 x63 x64 x65 y66) [] (st171 (.c1 x61 x62 x63 x64 x65 y66)) = (B171 (.c1 x61 x62 x63 x64 x65 y66)).mach st171 out171 := by kernel_rfl
noncomputable def D171_2 (x72 : List DV) (x73 : List DV) (y74 : Nat) (y75 : Nat) (y76 : List DV) (x77 : Nat) (x78 : List DV) (x79 : Int) (y80 : Int) (y82 : Nat) : DT cfz := (.go 5 [] [] (.split 11 (.go 14 [(.br true), (.as (.d (.v (.int .i64 (dI (cel x78 (y80.toNat * 1)))))))] [0] (.bind (f172 (dI (cel x78 (y80.toNat * 1))) x72 x73) fun v83 => (.go 11 [(.ck 0)] [2, 3] (.cut 2 [[1, 5, 8, 9, 10]] [])))) (.go 8 [(.br false)] [0] .fin)))
theorem k171_2 (x72 : List DV) (x73 : List DV) (y74 : Nat) (y75 : Nat) (y76 : List DV) (x77 : Nat) (x78 : List DV) (x79 : Int) (y80 : Int) (y82 : Nat) : xrun cfz 171 (D171_2 x72 x73 y74 y75 y76 x77 x78 x79 y80 y82) [] (st171 (.c2 x72 x73 y74 y75 y76 x77 x78 x79 y80 y82)) = (B171 (.c2 x72 x73 y74 y75 y76 x77 x78 x79 y80 y82)).mach st171 out171 := by kernel_rfl
theorem ok171 : ∀ s, ∃ d, xrun cfz 171 d [] (st171 s) = (B171 s).mach st171 out171
  | .c0 a57 a58 a59 a60 => ⟨_, k171_0 a57 a58 a59 a60⟩
  | .c1 x61 x62 x63 x64 x65 y66 => ⟨_, k171_1 x61 x62 x63 x64 x65 y66⟩
  | .c2 x72 x73 y74 y75 y76 x77 x78 x79 y80 y82 => ⟨_, k171_2 x72 x73 y74 y75 y76 x77 x78 x79 y80 y82⟩
theorem f171 (a57 : Nat) (a58 : List DV) (a59 : List DV) (a60 : List DV) (v : Nat × List DV) (h : F171 a57 a58 a59 a60 = some v) : PureCalls cfz.P cfz.glob 171 [(.d (.sl a57 a58)), (.fn (.func 172) [] [(.ip a59), (.ip a60)])] (out171 v) := tree_pure knil ok171 (s := .c0 a57 a58 a59 a60) rfl (by kernel_rfl) v h

/-! F107 -/
inductive S107 where
  | c0 (a102 : Nat) (a103 : List DV)
  | c1 (x104 : Nat) (x105 : List DV) (x106 : Int) (y107 : Int)
def out107 (v : Int) : AV := (.d (.v (.int .i64 v)))
noncomputable def st107 : S107 → ASt
  | .c0 a102 a103 => ent cfz 107 [(.d (.sl a102 a103))]
  | .c1 x104 x105 x106 y107 => ⟨⟨107, sp 15 0 [(5, (.d (.sl x104 x105))), (6, (.d (.v (.int .i64 x106)))), (7, (.d (.v (.int .i64 y107))))], [(.code (cd cfz.P 107 [1, 0, 1, 0, 0])), (.inLoop (cd cfz.P 107 [1, 0, 1, 0, 0])), (.inBlock 0), (.code (cd cfz.P 107 [1, 1]))], [], false, .none⟩, [], []⟩
noncomputable def B107 : S107 → Tr S107 (Int)
  | .c0 a102 a103 => (.nxt (.c1 a102 a103 ((↑a102 : Int)) 0))
  | .c1 x104 x105 x106 y107 => (.br (decide (y107 < x106))
  (.ask (.le 0 y107) (.ask (.lt y107 ((↑x104 : Int))) (.ask (.leN (y107.toNat * 1) x105.length) (.ask (.prop (Option.map AV.d (List.drop (y107.toNat * 1) x105)[0]? = some (AV.d (DV.v (Value.int IntKind.i64 (dI (cel x105 (y107.toNat * 1)))))))) (.br (dI (cel x105 (y107.toNat * 1)) != 0)
  (.ret (dI (cel x105 (y107.toNat * 1))))
  (.ask (.in64 (y107 + 1)) (.nxt (.c1 x104 x105 x106 (y107 + 1)))))))))
  (.ret 0))
noncomputable def F107 (a102 : Nat) (a103 : List DV) : Option (Int) := res B107 (.c0 a102 a103)
noncomputable def D107_0 (a102 : Nat) (a103 : List DV) : DT cfz := (.go 13 [] [] (.cut 0 [[5, 6, 7]] []))
theorem k107_0 (a102 : Nat) (a103 : List DV) : xrun cfz 107 (D107_0 a102 a103) [] (st107 (.c0 a102 a103)) = (B107 (.c0 a102 a103)).mach st107 out107 := by kernel_rfl
noncomputable def D107_1 (x104 : Nat) (x105 : List DV) (x106 : Int) (y107 : Int) : DT cfz := (.go 5 [] [] (.split 8 (.go 15 [(.br true), (.as (.d (.v (.int .i64 (dI (cel x105 (y107.toNat * 1)))))))] [0] (.split 12 (.go 7 [(.br true)] [0] .fin) (.go 8 [(.br false)] [0] (.cut 0 [[5, 6, 7]] [])))) (.go 7 [(.br false)] [0] .fin)))
theorem k107_1 (x104 : Nat) (x105 : List DV) (x106 : Int) (y107 : Int) : xrun cfz 107 (D107_1 x104 x105 x106 y107) [] (st107 (.c1 x104 x105 x106 y107)) = (B107 (.c1 x104 x105 x106 y107)).mach st107 out107 := by kernel_rfl
theorem ok107 : ∀ s, ∃ d, xrun cfz 107 d [] (st107 s) = (B107 s).mach st107 out107
  | .c0 a102 a103 => ⟨_, k107_0 a102 a103⟩
  | .c1 x104 x105 x106 y107 => ⟨_, k107_1 x104 x105 x106 y107⟩
theorem f107 (a102 : Nat) (a103 : List DV) (v : Int) (h : F107 a102 a103 = some v) : PureCalls cfz.P cfz.glob 107 [(.d (.sl a102 a103))] (out107 v) := tree_pure knil ok107 (s := .c0 a102 a103) rfl (by kernel_rfl) v h

/-! F126 -/
inductive S126 where
  | c0 (a53 : Nat) (a54 : List DV) (a55 : Int) (a56 : Int)
  | c1 (x85 : Nat) (x86 : List DV) (x87 : Int) (y88 : Int) (x89 : Int) (x90 : Int)
  | c2 (y93 : Nat) (y94 : Nat) (y95 : List DV) (x96 : Nat) (x97 : List DV) (x98 : Int) (y99 : Int) (x100 : Int) (x101 : Int) (y111 : Nat)
def out126 (v : Int) : AV := (.d (.v (.int .i64 v)))
noncomputable def st126 : S126 → ASt
  | .c0 a53 a54 a55 a56 => ent cfz 126 [(.d (.sl a53 a54)), (.d (.v (.int .i64 a55))), (.d (.v (.int .i64 a56)))]
  | .c1 x85 x86 x87 y88 x89 x90 => ⟨⟨171, sp 22 0 [(1, (.fn (.func 172) [] [(.ptr 0 0), (.ptr 1 0)])), (5, (.d (.v (.slice .none 0 0)))), (8, (.d (.sl x85 x86))), (9, (.d (.v (.int .i64 x87)))), (10, (.d (.v (.int .i64 y88))))], [(.code (cd cfz.P 171 [1, 1, 0, 1, 0, 0])), (.inLoop (cd cfz.P 171 [1, 1, 0, 1, 0, 0])), (.inBlock 0), (.code (cd cfz.P 171 [1, 1, 1]))], [], false, .none⟩, [⟨126, sp 11 0 [], [(.regC (opsAt cfz.P 126 [1, 0]) false 2), (.code (cd cfz.P 171 [1, 1, 1, 1]))], [], false, .none⟩], [(.cells [(.d (.v (.int .i64 x89)))] 3), (.cells [(.d (.v (.int .i64 x90)))] 3)]⟩
  | .c2 y93 y94 y95 x96 x97 x98 y99 x100 x101 y111 => ⟨⟨171, sp 22 0 [(1, (.fn (.func 172) [] [(.ptr 0 0), (.ptr 1 0)])), (5, (.own 3 y93 1 y94 y95)), (8, (.d (.sl x96 x97))), (9, (.d (.v (.int .i64 x98)))), (10, (.d (.v (.int .i64 y99))))], [(.code (cd cfz.P 171 [1, 1, 0, 1, 0, 0])), (.inLoop (cd cfz.P 171 [1, 1, 0, 1, 0, 0])), (.inBlock 0), (.code (cd cfz.P 171 [1, 1, 1]))], [], false, .none⟩, [⟨126, sp 11 0 [], [(.regC (opsAt cfz.P 126 [1, 0]) false 2), (.code (cd cfz.P 171 [1, 1, 1, 1]))], [], false, .none⟩], [(.cells [(.d (.v (.int .i64 x100)))] 3), (.cells [(.d (.v (.int .i64 x101)))] 3), (.tail 0), (.tail y111)]⟩
noncomputable def B126 : S126 → Tr S126 (Int)
  | .c0 a53 a54 a55 a56 => (.nxt (.c1 a53 a54 ((↑a53 : Int)) 0 a55 a56))
  | .c1 x85 x86 x87 y88 x89 x90 => (.br (decide (y88 < x87))
  (.ask (.le 0 y88) (.ask (.lt y88 ((↑x85 : Int))) (.ask (.leN (y88.toNat * 1) x86.length) (.ask (.prop (Option.map AV.d (List.drop (y88.toNat * 1) x86)[0]? = some (AV.d (DV.v (Value.int IntKind.i64 (dI (cel x86 (y88.toNat * 1)))))))) (.bind (F172 (dI (cel x86 (y88.toNat * 1))) [(.v (.int .i64 x89))] [(.v (.int .i64 x90))]) fun v92 =>
  (.sees [(.d (.v (.int .i64 (dI (cel x86 (y88.toNat * 1)))))), (.ip [(.v (.int .i64 x89))]), (.ip [(.v (.int .i64 x90))])] (.ask (.in64 (y88 + 1)) (.nxt (.c2 0 1 [(.v (.int .i64 v92))] x85 x86 x87 (y88 + 1) x89 x90 0)))))))))
  (.bind (F107 0 []) fun v108 =>
  (.sees [(.d (.sl 0 []))] (.ret v108))))
  | .c2 y93 y94 y95 x96 x97 x98 y99 x100 x101 y111 => (.br (decide (y99 < x98))
  (.ask (.le 0 y99) (.ask (.lt y99 ((↑x96 : Int))) (.ask (.leN (y99.toNat * 1) x97.length) (.ask (.prop (Option.map AV.d (List.drop (y99.toNat * 1) x97)[0]? = some (AV.d (DV.v (Value.int IntKind.i64 (dI (cel x97 (y99.toNat * 1)))))))) (.bind (F172 (dI (cel x97 (y99.toNat * 1))) [(.v (.int .i64 x100))] [(.v (.int .i64 x101))]) fun v114 =>
  (.sees [(.d (.v (.int .i64 (dI (cel x97 (y99.toNat * 1)))))), (.ip [(.v (.int .i64 x100))]), (.ip [(.v (.int .i64 x101))])] (.ask (.eqN y93 y111) (.ask (.fits (y94 + 1) 8) (.ask (.in64 (y99 + 1)) (.nxt (.c2 (y111 + 1) (y94 + 1) (y95 ++ [DV.v (Value.int IntKind.i64 v114)]) x96 x97 x98 (y99 + 1) x100 x101 (y111 + 1))))))))))))
  (.bind (F107 y94 y95) fun v115 =>
  (.sees [(.d (.sl y94 y95))] (.ret v115))))
noncomputable def F126 (a53 : Nat) (a54 : List DV) (a55 : Int) (a56 : Int) : Option (Int) := res B126 (.c0 a53 a54 a55 a56)
noncomputable def D126_0 (a53 : Nat) (a54 : List DV) (a55 : Int) (a56 : Int) : DT cfz := (.go 28 [.enter] [] (.cut 2 [[1, 5, 8, 9, 10], []] []))
theorem k126_0 (a53 : Nat) (a54 : List DV) (a55 : Int) (a56 : Int) : xrun cfz 126 (D126_0 a53 a54 a55 a56) [] (st126 (.c0 a53 a54 a55 a56)) = (B126 (.c0 a53 a54 a55 a56)).mach st126 out126 := by kernel_rfl
noncomputable def D126_1 (x85 : Nat) (x86 : List DV) (x87 : Int) (y88 : Int) (x89 : Int) (x90 : Int) : DT cfz := (.go 5 [] [] (.split 11 (.go 14 [(.br true), (.as (.d (.v (.int .i64 (dI (cel x86 (y88.toNat * 1)))))))] [0] (.bind (f172 (dI (cel x86 (y88.toNat * 1))) [(.v (.int .i64 x89))] [(.v (.int .i64 x90))]) fun v92 => (.go 11 [(.ck 0)] [1, 2, 3] (.cut 4 [[1, 5, 8, 9, 10], []] [])))) (.go 9 [(.br false)] [0] (.bind (f107 0 []) fun v108 => (.go 4 [(.ck 0)] [] .fin)))))
theorem k126_1 (x85 : Nat) (x86 : List DV) (x87 : Int) (y88 : Int) (x89 : Int) (x90 : Int) : xrun cfz 126 (D126_1 x85 x86 x87 y88 x89 x90) [] (st126 (.c1 x85 x86 x87 y88 x89 x90)) = (B126 (.c1 x85 x86 x87 y88 x89 x90)).mach st126 out126 := by kernel_rfl
noncomputable def D126_2 (y93 : Nat) (y94 : Nat) (y95 : List DV) (x96 : Nat) (x97 : List DV) (x98 : Int) (y99 : Int) (x100 : Int) (x101 : Int) (y111 : Nat) : DT cfz := (.go 5 [] [] (.split 11 (.go 14 [(.br true), (.as (.d (.v (.int .i64 (dI (cel x97 (y99.toNat * 1)))))))] [0] (.bind (f172 (dI (cel x97 (y99.toNat * 1))) [(.v (.int .i64 x100))] [(.v (.int .i64 x101))]) fun v114 => (.go 11 [(.ck 0)] [2, 3] (.cut 4 [[1, 5, 8, 9, 10], []] [])))) (.go 9 [(.br false)] [0] (.bind (f107 y94 y95) fun v115 => (.go 4 [(.ck 0)] [] .fin)))))
theorem k126_2 (y93 : Nat) (y94 : Nat) (y95 : List DV) (x96 : Nat) (x97 : List DV) (x98 : Int) (y99 : Int) (x100 : Int) (x101 : Int) (y111 : Nat) : xrun cfz 126 (D126_2 y93 y94 y95 x96 x97 x98 y99 x100 x101 y111) [] (st126 (.c2 y93 y94 y95 x96 x97 x98 y99 x100 x101 y111)) = (B126 (.c2 y93 y94 y95 x96 x97 x98 y99 x100 x101 y111)).mach st126 out126 := by kernel_rfl
theorem ok126 : ∀ s, ∃ d, xrun cfz 126 d [] (st126 s) = (B126 s).mach st126 out126
  | .c0 a53 a54 a55 a56 => ⟨_, k126_0 a53 a54 a55 a56⟩
  | .c1 x85 x86 x87 y88 x89 x90 => ⟨_, k126_1 x85 x86 x87 y88 x89 x90⟩
  | .c2 y93 y94 y95 x96 x97 x98 y99 x100 x101 y111 => ⟨_, k126_2 y93 y94 y95 x96 x97 x98 y99 x100 x101 y111⟩
theorem f126 (a53 : Nat) (a54 : List DV) (a55 : Int) (a56 : Int) (v : Int) (h : F126 a53 a54 a55 a56 = some v) : PureCalls cfz.P cfz.glob 126 [(.d (.sl a53 a54)), (.d (.v (.int .i64 a55))), (.d (.v (.int .i64 a56)))] (out126 v) := tree_pure knil ok126 (s := .c0 a53 a54 a55 a56) rfl (by kernel_rfl) v h

/-! F169 -/
inductive S169 where
  | c0 (a49 : Nat) (a50 : List DV)
def out169 (v : Int) : AV := (.d (.v (.int .i64 v)))
noncomputable def st169 : S169 → ASt
  | .c0 a49 a50 => ent cfz 169 [(.d (.sl a49 a50))]
noncomputable def B169 : S169 → Tr S169 (Int)
  | .c0 a49 a50 => (.bind (F109 ((↑a49 : Int) == 0) 12) fun v51 =>
  (.sees [(.d (.v (.bool ((↑a49 : Int) == 0)))), (.d (.v (.int .i64 12)))] (.bind (F109 (decide ((↑a49 : Int) > 8)) 5) fun v52 =>
  (.sees [(.d (.v (.bool (decide ((↑a49 : Int) > 8))))), (.d (.v (.int .i64 5)))] (.bind (F126 a49 a50 0 6) fun v116 =>
  (.sees [(.d (.sl a49 a50)), (.d (.v (.int .i64 0))), (.d (.v (.int .i64 6)))] (.bind (F107 3 [(.v (.int .i64 v51)), (.v (.int .i64 v52)), (.v (.int .i64 v116))]) fun v117 =>
  (.sees [(.d (.sl 3 [(.v (.int .i64 v51)), (.v (.int .i64 v52)), (.v (.int .i64 v116))]))] (.ret v117)))))))))
noncomputable def F169 (a49 : Nat) (a50 : List DV) : Option (Int) := res B169 (.c0 a49 a50)
noncomputable def D169_0 (a49 : Nat) (a50 : List DV) : DT cfz := (.go 9 [] [] (.bind (f109 ((↑a49 : Int) == 0) 12) fun v51 => (.go 4 [(.ck 0)] [] (.bind (f109 (decide ((↑a49 : Int) > 8)) 5) fun v52 => (.go 2 [(.ck 1)] [] (.bind (f126 a49 a50 0 6) fun v116 => (.go 2 [(.ck 2)] [] (.bind (f107 3 [(.v (.int .i64 v51)), (.v (.int .i64 v52)), (.v (.int .i64 v116))]) fun v117 => (.go 4 [(.ck 3)] [] .fin)))))))))
theorem k169_0 (a49 : Nat) (a50 : List DV) : xrun cfz 169 (D169_0 a49 a50) [] (st169 (.c0 a49 a50)) = (B169 (.c0 a49 a50)).mach st169 out169 := by kernel_rfl
theorem ok169 : ∀ s, ∃ d, xrun cfz 169 d [] (st169 s) = (B169 s).mach st169 out169
  | .c0 a49 a50 => ⟨_, k169_0 a49 a50⟩
theorem f169 (a49 : Nat) (a50 : List DV) (v : Int) (h : F169 a49 a50 = some v) : PureCalls cfz.P cfz.glob 169 [(.d (.sl a49 a50))] (out169 v) := tree_pure knil ok169 (s := .c0 a49 a50) rfl (by kernel_rfl) v h

/-! F127 -/
inductive S127 where
  | c0 (a120 : Nat) (a121 : List DV) (a122 : Nat) (a123 : List DV)
def out127 (v : Int) : AV := (.d (.v (.int .i64 v)))
noncomputable def st127 : S127 → ASt
  | .c0 a120 a121 a122 a123 => ent cfz 127 [(.d (.sl a120 a121)), (.d (.sl a122 a123))]
noncomputable def B127 : S127 → Tr S127 (Int)
  | .c0 a120 a121 a122 a123 => (.bind (F109 ((↑a122 : Int) != (↑a120 : Int)) 2) fun v124 =>
  (.sees [(.d (.v (.bool ((↑a122 : Int) != (↑a120 : Int))))), (.d (.v (.int .i64 2)))] (.bind (F169 a122 a123) fun v125 =>
  (.sees [(.d (.sl a122 a123))] (.bind (F107 2 [(.v (.int .i64 v124)), (.v (.int .i64 v125))]) fun v126 =>
  (.sees [(.d (.sl 2 [(.v (.int .i64 v124)), (.v (.int .i64 v125))]))] (.ret v126)))))))
noncomputable def F127 (a120 : Nat) (a121 : List DV) (a122 : Nat) (a123 : List DV) : Option (Int) := res B127 (.c0 a120 a121 a122 a123)
noncomputable def D127_0 (a120 : Nat) (a121 : List DV) (a122 : Nat) (a123 : List DV) : DT cfz := (.go 11 [] [] (.bind (f109 ((↑a122 : Int) != (↑a120 : Int)) 2) fun v124 => (.go 2 [(.ck 0)] [] (.bind (f169 a122 a123) fun v125 => (.go 2 [(.ck 1)] [] (.bind (f107 2 [(.v (.int .i64 v124)), (.v (.int .i64 v125))]) fun v126 => (.go 4 [(.ck 2)] [] .fin)))))))
theorem k127_0 (a120 : Nat) (a121 : List DV) (a122 : Nat) (a123 : List DV) : xrun cfz 127 (D127_0 a120 a121 a122 a123) [] (st127 (.c0 a120 a121 a122 a123)) = (B127 (.c0 a120 a121 a122 a123)).mach st127 out127 := by kernel_rfl
theorem ok127 : ∀ s, ∃ d, xrun cfz 127 d [] (st127 s) = (B127 s).mach st127 out127
  | .c0 a120 a121 a122 a123 => ⟨_, k127_0 a120 a121 a122 a123⟩
theorem f127 (a120 : Nat) (a121 : List DV) (a122 : Nat) (a123 : List DV) (v : Int) (h : F127 a120 a121 a122 a123 = some v) : PureCalls cfz.P cfz.glob 127 [(.d (.sl a120 a121)), (.d (.sl a122 a123))] (out127 v) := tree_pure knil ok127 (s := .c0 a120 a121 a122 a123) rfl (by kernel_rfl) v h

/-! F131 -/
inductive S131 where
  | c0 (a37 : Int) (a38 : Nat) (a39 : List DV) (a40 : Nat) (a41 : List DV)
def out131 (v : Int) : AV := (.d (.v (.int .i64 v)))
noncomputable def st131 : S131 → ASt
  | .c0 a37 a38 a39 a40 a41 => ent cfz 131 [(.d (.v (.int .i64 a37))), (.d (.sl a38 a39)), (.d (.sl a40 a41))]
noncomputable def B131 : S131 → Tr S131 (Int)
  | .c0 a37 a38 a39 a40 a41 => (.bind (F106 a37 0 1000000) fun v48 =>
  (.sees [(.d (.v (.int .i64 a37))), (.d (.v (.int .i64 0))), (.d (.v (.int .i64 1000000)))] (.bind (F169 a38 a39) fun v118 =>
  (.sees [(.d (.sl a38 a39))] (.bind (F107 2 [(.v (.int .i64 v48)), (.v (.int .i64 v118))]) fun v119 =>
  (.sees [(.d (.sl 2 [(.v (.int .i64 v48)), (.v (.int .i64 v118))]))] (.triv _ (tv_s ((v119 != 0) == false)) (.triv _ (tv_s ((v119 != 0) == false)) (.triv _ (tv_f (v119 != 0)) (.br (if (v119 != 0) = true then true else (↑a40 : Int) == 0)
  (.ret v119)
  (.bind (F127 a38 a39 a40 a41) fun v127 =>
  (.sees [(.d (.sl a38 a39)), (.d (.sl a40 a41))] (.ret v127)))))))))))))
noncomputable def F131 (a37 : Int) (a38 : Nat) (a39 : List DV) (a40 : Nat) (a41 : List DV) : Option (Int) := res B131 (.c0 a37 a38 a39 a40 a41)
noncomputable def D131_0 (a37 : Int) (a38 : Nat) (a39 : List DV) (a40 : Nat) (a41 : List DV) : DT cfz := (.go 8 [] [] (.bind (f106 a37 0 1000000) fun v48 => (.go 2 [(.ck 0)] [] (.bind (f169 a38 a39) fun v118 => (.go 2 [(.ck 1)] [] (.bind (f107 2 [(.v (.int .i64 v48)), (.v (.int .i64 v118))]) fun v119 => (.go 13 [(.ck 2), (.sp .none), (.sp .none), (.sp .none), .mg] [] (.split 20 (.go 7 [(.br true)] [0] .fin) (.go 6 [(.br false)] [0] (.bind (f127 a38 a39 a40 a41) fun v127 => (.go 4 [(.ck 3)] [] .fin)))))))))))
theorem k131_0 (a37 : Int) (a38 : Nat) (a39 : List DV) (a40 : Nat) (a41 : List DV) : xrun cfz 131 (D131_0 a37 a38 a39 a40 a41) [] (st131 (.c0 a37 a38 a39 a40 a41)) = (B131 (.c0 a37 a38 a39 a40 a41)).mach st131 out131 := by kernel_rfl
theorem ok131 : ∀ s, ∃ d, xrun cfz 131 d [] (st131 s) = (B131 s).mach st131 out131
  | .c0 a37 a38 a39 a40 a41 => ⟨_, k131_0 a37 a38 a39 a40 a41⟩
theorem f131 (a37 : Int) (a38 : Nat) (a39 : List DV) (a40 : Nat) (a41 : List DV) (v : Int) (h : F131 a37 a38 a39 a40 a41 = some v) : PureCalls cfz.P cfz.glob 131 [(.d (.v (.int .i64 a37))), (.d (.sl a38 a39)), (.d (.sl a40 a41))] (out131 v) := tree_pure knil ok131 (s := .c0 a37 a38 a39 a40 a41) rfl (by kernel_rfl) v h

/-! F55 -/
inductive S55 where
  | c0 (a32 : Int) (a33 : Nat) (a34 : List DV) (a35 : Nat) (a36 : List DV)
def out55 (v : Int) : AV := (.d (.v (.int .i64 v)))
noncomputable def st55 : S55 → ASt
  | .c0 a32 a33 a34 a35 a36 => ent cfz 55 [(.agg [(.d (.v (.int .i64 a32))), (.d (.sl a33 a34)), (.d (.sl a35 a36))])]
noncomputable def B55 : S55 → Tr S55 (Int)
  | .c0 a32 a33 a34 a35 a36 => (.bind (F131 a32 a33 a34 a35 a36) fun v128 =>
  (.sees [(.d (.v (.int .i64 a32))), (.d (.sl a33 a34)), (.d (.sl a35 a36))] (.ret v128)))
noncomputable def F55 (a32 : Int) (a33 : Nat) (a34 : List DV) (a35 : Nat) (a36 : List DV) : Option (Int) := res B55 (.c0 a32 a33 a34 a35 a36)
noncomputable def D55_0 (a32 : Int) (a33 : Nat) (a34 : List DV) (a35 : Nat) (a36 : List DV) : DT cfz := (.go 13 [] [] (.bind (f131 a32 a33 a34 a35 a36) fun v128 => (.go 4 [(.ck 0)] [] .fin)))
theorem k55_0 (a32 : Int) (a33 : Nat) (a34 : List DV) (a35 : Nat) (a36 : List DV) : xrun cfz 55 (D55_0 a32 a33 a34 a35 a36) [] (st55 (.c0 a32 a33 a34 a35 a36)) = (B55 (.c0 a32 a33 a34 a35 a36)).mach st55 out55 := by kernel_rfl
theorem ok55 : ∀ s, ∃ d, xrun cfz 55 d [] (st55 s) = (B55 s).mach st55 out55
  | .c0 a32 a33 a34 a35 a36 => ⟨_, k55_0 a32 a33 a34 a35 a36⟩
theorem f55 (a32 : Int) (a33 : Nat) (a34 : List DV) (a35 : Nat) (a36 : List DV) (v : Int) (h : F55 a32 a33 a34 a35 a36 = some v) : PureCalls cfz.P cfz.glob 55 [(.agg [(.d (.v (.int .i64 a32))), (.d (.sl a33 a34)), (.d (.sl a35 a36))])] (out55 v) := tree_pure knil ok55 (s := .c0 a32 a33 a34 a35 a36) rfl (by kernel_rfl) v h

/-! F129 -/
inductive S129 where
  | c0 (a139 : Nat) (a140 : List DV)
def out129 (v : Nat × List DV) : AV := (.d (.sl v.fst v.snd))
noncomputable def st129 : S129 → ASt
  | .c0 a139 a140 => ent cfz 129 [(.d (.sl a139 a140))]
noncomputable def B129 : S129 → Tr S129 (Nat × List DV)
  | .c0 a139 a140 => (.ask (.le 0 ((↑a139 : Int))) (.ask (.le ((↑a139 : Int)) ((↑a139 : Int))) (.ask (.le (8 * (↑a139 : Int)) 281474976710656) (.ask (.le ((↑a139 : Int)) 9223372036854775807) (.ask (.eqN a140.length (a139 * 1)) (.ask (.leN (0 + min a139 (↑a139 : Int).toNat * 1) ((zerosA (List.map (fun (x : Value) => AV.d (DV.v x)) (Value.int IntKind.i64 0).cells.toList) (↑a139 : Int).toNat).length)) (.ask (.leN (0 + (↑a139 : Int).toNat * 1) ((spliceA (zerosA (List.map (fun (x : Value) => AV.d (DV.v x)) (Value.int IntKind.i64 0).cells.toList) (↑a139 : Int).toNat) 0 (List.map AV.d (List.take (min a139 (↑a139 : Int).toNat * 1) a140))).length)) (.ask (.prop (toDs (List.take ((↑a139 : Int).toNat * 1) (List.drop 0 (spliceA (zerosA (List.map (fun (x : Value) => AV.d (DV.v x)) (Value.int IntKind.i64 0).cells.toList) (↑a139 : Int).toNat) 0 (List.map AV.d (List.take (min a139 (↑a139 : Int).toNat * 1) a140))))) = some (List.map aD (List.take ((↑a139 : Int).toNat * 1) (List.drop 0 (spliceA (zerosA (List.map (fun (x : Value) => AV.d (DV.v x)) (Value.int IntKind.i64 0).cells.toList) (↑a139 : Int).toNat) 0 (List.map AV.d (List.take (min a139 (↑a139 : Int).toNat * 1) a140)))))))) (.ret (((↑a139 : Int).toNat), (List.map aD (List.take ((↑a139 : Int).toNat * 1) (List.drop 0 (spliceA (zerosA (List.map (fun (x : Value) => AV.d (DV.v x)) (Value.int IntKind.i64 0).cells.toList) (↑a139 : Int).toNat) 0 (List.map AV.d (List.take (min a139 (↑a139 : Int).toNat * 1) a140))))))))))))))))
noncomputable def F129 (a139 : Nat) (a140 : List DV) : Option (Nat × List DV) := res B129 (.c0 a139 a140)
noncomputable def D129_0 (a139 : Nat) (a140 : List DV) : DT cfz := (.go 23 [] [] .finP)
theorem k129_0 (a139 : Nat) (a140 : List DV) : xrun cfz 129 (D129_0 a139 a140) [] (st129 (.c0 a139 a140)) = (B129 (.c0 a139 a140)).mach st129 out129 := by kernel_rfl
theorem ok129 : ∀ s, ∃ d, xrun cfz 129 d [] (st129 s) = (B129 s).mach st129 out129
  | .c0 a139 a140 => ⟨_, k129_0 a139 a140⟩
theorem f129 (a139 : Nat) (a140 : List DV) (v : Nat × List DV) (h : F129 a139 a140 = some v) : PureCalls cfz.P cfz.glob 129 [(.d (.sl a139 a140))] (out129 v) := tree_pure knil ok129 (s := .c0 a139 a140) rfl (by kernel_rfl) v h

/-! F128 -/
inductive S128 where
  | c0 (a134 : Int) (a135 : Nat) (a136 : List DV) (a137 : Nat) (a138 : List DV)
def out128 (v : Int × Nat × List DV × Nat × List DV) : AV := (.agg [(.d (.v (.int .i64 v.fst))), (.d (.sl v.snd.fst v.snd.snd.fst)), (.d (.sl v.snd.snd.snd.fst v.snd.snd.snd.snd))])
noncomputable def st128 : S128 → ASt
  | .c0 a134 a135 a136 a137 a138 => ent cfz 128 [(.agg [(.d (.v (.int .i64 a134))), (.d (.sl a135 a136)), (.d (.sl a137 a138))])]
noncomputable def B128 : S128 → Tr S128 (Int × Nat × List DV × Nat × List DV)
  | .c0 a134 a135 a136 a137 a138 => (.bind (F129 a135 a136) fun v141 =>
  (.bind (F129 a137 a138) fun v142 =>
  (.sees [(.d (.sl a135 a136))] (.sees [(.d (.sl a137 a138))] (.ret (a134, v141.fst, v141.snd, v142.fst, v142.snd))))))
noncomputable def F128 (a134 : Int) (a135 : Nat) (a136 : List DV) (a137 : Nat) (a138 : List DV) : Option (Int × Nat × List DV × Nat × List DV) := res B128 (.c0 a134 a135 a136 a137 a138)
noncomputable def D128_0 (a134 : Int) (a135 : Nat) (a136 : List DV) (a137 : Nat) (a138 : List DV) : DT cfz := (.go 7 [] [] (.bind (f129 a135 a136) fun v141 => (.bind (f129 a137 a138) fun v142 => (.go 2 [(.ck 0), (.ck 1)] [] .fin))))
theorem k128_0 (a134 : Int) (a135 : Nat) (a136 : List DV) (a137 : Nat) (a138 : List DV) : xrun cfz 128 (D128_0 a134 a135 a136 a137 a138) [] (st128 (.c0 a134 a135 a136 a137 a138)) = (B128 (.c0 a134 a135 a136 a137 a138)).mach st128 out128 := by kernel_rfl
theorem ok128 : ∀ s, ∃ d, xrun cfz 128 d [] (st128 s) = (B128 s).mach st128 out128
  | .c0 a134 a135 a136 a137 a138 => ⟨_, k128_0 a134 a135 a136 a137 a138⟩
theorem f128 (a134 : Int) (a135 : Nat) (a136 : List DV) (a137 : Nat) (a138 : List DV) (v : Int × Nat × List DV × Nat × List DV) (h : F128 a134 a135 a136 a137 a138 = some v) : PureCalls cfz.P cfz.glob 128 [(.agg [(.d (.v (.int .i64 a134))), (.d (.sl a135 a136)), (.d (.sl a137 a138))])] (out128 v) := tree_pure knil ok128 (s := .c0 a134 a135 a136 a137 a138) rfl (by kernel_rfl) v h

/-! F47 -/
inductive S47 where
  | c0 (a25 : Int) (a26 : Nat) (a27 : List DV) (a28 : Nat) (a29 : List DV) (a30 : Nat) (a31 : List DV)
def out47 (v : Int × Nat × List DV × Nat × List DV × Int) : AV := (.tup [(.agg [(.d (.v (.int .i64 v.fst))), (.d (.sl v.snd.fst v.snd.snd.fst)), (.d (.sl v.snd.snd.snd.fst v.snd.snd.snd.snd.fst))]), (.d (.v (.int .i64 v.snd.snd.snd.snd.snd)))])
noncomputable def st47 : S47 → ASt
  | .c0 a25 a26 a27 a28 a29 a30 a31 => ent cfz 47 [(.agg [(.d (.v (.int .i64 a25))), (.d (.sl a26 a27)), (.d (.sl a28 a29))]), (.d (.sl a30 a31))]
noncomputable def B47 : S47 → Tr S47 (Int × Nat × List DV × Nat × List DV × Int)
  | .c0 a25 a26 a27 a28 a29 a30 a31 => (.bind (F55 a25 a26 a27 a28 a29) fun v129 =>
  (.bind (F127 a26 a27 a30 a31) fun v130 =>
  (.bind (F109 (decide ((↑a28 : Int) > 0)) 31) fun v131 =>
  (.bind (F109 (a25 == 1000000) 20) fun v132 =>
  (.bind (F107 4 [(.v (.int .i64 v129)), (.v (.int .i64 v130)), (.v (.int .i64 v131)), (.v (.int .i64 v132))]) fun v133 =>
  (.sees [(.agg [(.d (.v (.int .i64 a25))), (.d (.sl a26 a27)), (.d (.sl a28 a29))])] (.sees [(.d (.sl a26 a27)), (.d (.sl a30 a31))] (.sees [(.d (.v (.bool (decide ((↑a28 : Int) > 0))))), (.d (.v (.int .i64 31)))] (.sees [(.d (.v (.bool (a25 == 1000000)))), (.d (.v (.int .i64 20)))] (.sees [(.d (.sl 4 [(.v (.int .i64 v129)), (.v (.int .i64 v130)), (.v (.int .i64 v131)), (.v (.int .i64 v132))]))] (.br (v133 != 0)
  (.ret (0, 0, [], 0, [], v133))
  (.bind (F128 a25 a26 a27 a28 a29) fun v143 =>
  (.sees [(.agg [(.d (.v (.int .i64 a25))), (.d (.sl a26 a27)), (.d (.sl a28 a29))])] (.bind (F129 a30 a31) fun v144 =>
  (.sees [(.d (.sl a30 a31))] (.ret (v143.fst, v143.snd.fst, v143.snd.snd.fst, v144.fst, v144.snd, 0)))))))))))))))))
noncomputable def F47 (a25 : Int) (a26 : Nat) (a27 : List DV) (a28 : Nat) (a29 : List DV) (a30 : Nat) (a31 : List DV) : Option (Int × Nat × List DV × Nat × List DV × Int) := res B47 (.c0 a25 a26 a27 a28 a29 a30 a31)
noncomputable def D47_0 (a25 : Int) (a26 : Nat) (a27 : List DV) (a28 : Nat) (a29 : List DV) (a30 : Nat) (a31 : List DV) : DT cfz := (.go 9 [] [] (.bind (f55 a25 a26 a27 a28 a29) fun v129 => (.bind (f127 a26 a27 a30 a31) fun v130 => (.bind (f109 (decide ((↑a28 : Int) > 0)) 31) fun v131 => (.bind (f109 (a25 == 1000000) 20) fun v132 => (.bind (f107 4 [(.v (.int .i64 v129)), (.v (.int .i64 v130)), (.v (.int .i64 v131)), (.v (.int .i64 v132))]) fun v133 => (.go 6 [(.ck 0), (.ck 1), (.ck 2), (.ck 3), (.ck 4)] [] (.split 26 (.go 9 [(.br true)] [0] .fin) (.go 5 [(.br false)] [0] (.bind (f128 a25 a26 a27 a28 a29) fun v143 => (.go 7 [(.ck 5)] [] (.bind (f129 a30 a31) fun v144 => (.go 11 [(.ck 6)] [] .fin)))))))))))))
theorem k47_0 (a25 : Int) (a26 : Nat) (a27 : List DV) (a28 : Nat) (a29 : List DV) (a30 : Nat) (a31 : List DV) : xrun cfz 47 (D47_0 a25 a26 a27 a28 a29 a30 a31) [] (st47 (.c0 a25 a26 a27 a28 a29 a30 a31)) = (B47 (.c0 a25 a26 a27 a28 a29 a30 a31)).mach st47 out47 := by kernel_rfl
theorem ok47 : ∀ s, ∃ d, xrun cfz 47 d [] (st47 s) = (B47 s).mach st47 out47
  | .c0 a25 a26 a27 a28 a29 a30 a31 => ⟨_, k47_0 a25 a26 a27 a28 a29 a30 a31⟩
theorem f47 (a25 : Int) (a26 : Nat) (a27 : List DV) (a28 : Nat) (a29 : List DV) (a30 : Nat) (a31 : List DV) (v : Int × Nat × List DV × Nat × List DV × Int) (h : F47 a25 a26 a27 a28 a29 a30 a31 = some v) : PureCalls cfz.P cfz.glob 47 [(.agg [(.d (.v (.int .i64 a25))), (.d (.sl a26 a27)), (.d (.sl a28 a29))]), (.d (.sl a30 a31))] (out47 v) := tree_pure knil ok47 (s := .c0 a25 a26 a27 a28 a29 a30 a31) rfl (by kernel_rfl) v h

/-! F37 -/
inductive S37 where
  | c0 (a176 : Bool) (a177 : Int)
def out37 (v : Int) : AV := (.d (.v (.int .i64 v)))
noncomputable def st37 : S37 → ASt
  | .c0 a176 a177 => ent cfz 37 [(.d (.v (.bool a176))), (.d (.v (.int .i64 a177)))]
noncomputable def B37 : S37 → Tr S37 (Int)
  | .c0 a176 a177 => (.br a176
  (.ret a177)
  (.ret 0))
noncomputable def F37 (a176 : Bool) (a177 : Int) : Option (Int) := res B37 (.c0 a176 a177)
noncomputable def D37_0 (a176 : Bool) (a177 : Int) : DT cfz := (.go 9 [] [] (.split 5 (.go 7 [(.br true)] [0] .fin) (.go 7 [(.br false)] [0] .fin)))
theorem k37_0 (a176 : Bool) (a177 : Int) : xrun cfz 37 (D37_0 a176 a177) [] (st37 (.c0 a176 a177)) = (B37 (.c0 a176 a177)).mach st37 out37 := by kernel_rfl
theorem ok37 : ∀ s, ∃ d, xrun cfz 37 d [] (st37 s) = (B37 s).mach st37 out37
  | .c0 a176 a177 => ⟨_, k37_0 a176 a177⟩
theorem f37 (a176 : Bool) (a177 : Int) (v : Int) (h : F37 a176 a177 = some v) : PureCalls cfz.P cfz.glob 37 [(.d (.v (.bool a176))), (.d (.v (.int .i64 a177)))] (out37 v) := tree_pure knil ok37 (s := .c0 a176 a177) rfl (by kernel_rfl) v h

/-! F39 -/
inductive S39 where
  | c0 (a173 : Int) (a174 : Int) (a175 : Int)
def out39 (v : Int) : AV := (.d (.v (.int .i64 v)))
noncomputable def st39 : S39 → ASt
  | .c0 a173 a174 a175 => ent cfz 39 [(.d (.v (.int .i64 a173))), (.d (.v (.int .i64 a174))), (.d (.v (.int .i64 a175)))]
noncomputable def B39 : S39 → Tr S39 (Int)
  | .c0 a173 a174 a175 => (.triv _ (tv_s (decide (a173 < a174) == false)) (.triv _ (tv_s (decide (a173 < a174) == false)) (.triv _ (tv_f (decide (a173 < a174))) (.bind (F37 (if decide (a173 < a174) = true then true else decide (a173 > a175)) 3) fun v178 =>
  (.sees [(.d (.v (.bool (if decide (a173 < a174) = true then true else decide (a173 > a175))))), (.d (.v (.int .i64 3)))] (.ret v178))))))
noncomputable def F39 (a173 : Int) (a174 : Int) (a175 : Int) : Option (Int) := res B39 (.c0 a173 a174 a175)
noncomputable def D39_0 (a173 : Int) (a174 : Int) (a175 : Int) : DT cfz := (.go 14 [(.sp .none), (.sp .none), (.sp .none), .mg] [] (.bind (f37 (if decide (a173 < a174) = true then true else decide (a173 > a175)) 3) fun v178 => (.go 4 [(.ck 0)] [] .fin)))
theorem k39_0 (a173 : Int) (a174 : Int) (a175 : Int) : xrun cfz 39 (D39_0 a173 a174 a175) [] (st39 (.c0 a173 a174 a175)) = (B39 (.c0 a173 a174 a175)).mach st39 out39 := by kernel_rfl
theorem ok39 : ∀ s, ∃ d, xrun cfz 39 d [] (st39 s) = (B39 s).mach st39 out39
  | .c0 a173 a174 a175 => ⟨_, k39_0 a173 a174 a175⟩
theorem f39 (a173 : Int) (a174 : Int) (a175 : Int) (v : Int) (h : F39 a173 a174 a175 = some v) : PureCalls cfz.P cfz.glob 39 [(.d (.v (.int .i64 a173))), (.d (.v (.int .i64 a174))), (.d (.v (.int .i64 a175)))] (out39 v) := tree_pure knil ok39 (s := .c0 a173 a174 a175) rfl (by kernel_rfl) v h

/-! F20 -/
inductive S20 where
  | c0 (a184 : Nat) (a185 : List DV)
  | c1 (x186 : Nat) (x187 : List DV) (y188 : Int)
def out20 (v : Int) : AV := (.d (.v (.int .i64 v)))
noncomputable def st20 : S20 → ASt
  | .c0 a184 a185 => ent cfz 20 [(.d (.sl a184 a185))]
  | .c1 x186 x187 y188 => ⟨⟨20, sp 19 0 [(0, (.d (.sl x186 x187))), (3, (.d (.v (.int .i64 y188))))], [(.code (cd cfz.P 20 [1, 0, 1, 0, 0])), (.inLoop (cd cfz.P 20 [1, 0, 1, 0, 0])), (.inBlock 0), (.code (cd cfz.P 20 [1, 1]))], [], false, .none⟩, [], []⟩
noncomputable def B20 : S20 → Tr S20 (Int)
  | .c0 a184 a185 => (.nxt (.c1 a184 a185 0))
  | .c1 x186 x187 y188 => (.br (decide (y188 < (↑x186 : Int)))
  (.ask (.le 0 y188) (.ask (.lt y188 ((↑x186 : Int))) (.ask (.leN (y188.toNat * 1) x187.length) (.ask (.prop (Option.map AV.d (List.drop (y188.toNat * 1) x187)[0]? = some (AV.d (DV.v (Value.int IntKind.i64 (dI (cel x187 (y188.toNat * 1)))))))) (.br (dI (cel x187 (y188.toNat * 1)) != 0)
  (.ask (.le 0 y188) (.ask (.lt y188 ((↑x186 : Int))) (.ask (.leN (y188.toNat * 1) x187.length) (.ask (.prop (Option.map AV.d (List.drop (y188.toNat * 1) x187)[0]? = some (AV.d (DV.v (Value.int IntKind.i64 (dI (cel x187 (y188.toNat * 1)))))))) (.ret (dI (cel x187 (y188.toNat * 1))))))))
  (.ask (.in64 (y188 + 1)) (.nxt (.c1 x186 x187 (y188 + 1)))))))))
  (.ret 0))
noncomputable def F20 (a184 : Nat) (a185 : List DV) : Option (Int) := res B20 (.c0 a184 a185)
noncomputable def D20_0 (a184 : Nat) (a185 : List DV) : DT cfz := (.go 11 [] [] (.cut 0 [[0, 3]] []))
theorem k20_0 (a184 : Nat) (a185 : List DV) : xrun cfz 20 (D20_0 a184 a185) [] (st20 (.c0 a184 a185)) = (B20 (.c0 a184 a185)).mach st20 out20 := by kernel_rfl
noncomputable def D20_1 (x186 : Nat) (x187 : List DV) (y188 : Int) : DT cfz := (.go 8 [] [] (.split 7 (.go 12 [(.br true), (.as (.d (.v (.int .i64 (dI (cel x187 (y188.toNat * 1)))))))] [0] (.split 14 (.go 10 [(.br true), (.as (.d (.v (.int .i64 (dI (cel x187 (y188.toNat * 1)))))))] [0] .fin) (.go 9 [(.br false)] [0] (.cut 0 [[0, 3]] [])))) (.go 7 [(.br false)] [0] .fin)))
theorem k20_1 (x186 : Nat) (x187 : List DV) (y188 : Int) : xrun cfz 20 (D20_1 x186 x187 y188) [] (st20 (.c1 x186 x187 y188)) = (B20 (.c1 x186 x187 y188)).mach st20 out20 := by kernel_rfl
theorem ok20 : ∀ s, ∃ d, xrun cfz 20 d [] (st20 s) = (B20 s).mach st20 out20
  | .c0 a184 a185 => ⟨_, k20_0 a184 a185⟩
  | .c1 x186 x187 y188 => ⟨_, k20_1 x186 x187 y188⟩
theorem f20 (a184 : Nat) (a185 : List DV) (v : Int) (h : F20 a184 a185 = some v) : PureCalls cfz.P cfz.glob 20 [(.d (.sl a184 a185))] (out20 v) := tree_pure knil ok20 (s := .c0 a184 a185) rfl (by kernel_rfl) v h

/-! F71 -/
inductive S71 where
  | c0 (a180 : Nat) (a181 : List DV)
  | c1 (x190 : Nat) (x191 : List DV) (y192 : Int)
def out71 (v : Int) : AV := (.d (.v (.int .i64 v)))
noncomputable def st71 : S71 → ASt
  | .c0 a180 a181 => ent cfz 71 [(.d (.sl a180 a181))]
  | .c1 x190 x191 y192 => ⟨⟨71, sp 33 0 [(0, (.d (.sl x190 x191))), (4, (.d (.v (.int .i64 y192))))], [(.code (cd cfz.P 71 [1, 1, 0, 1, 0, 0])), (.inLoop (cd cfz.P 71 [1, 1, 0, 1, 0, 0])), (.inBlock 0), (.code (cd cfz.P 71 [1, 1, 1]))], [], false, .none⟩, [], []⟩
noncomputable def B71 : S71 → Tr S71 (Int)
  | .c0 a180 a181 => (.bind (F37 ((↑a180 : Int) == 0) 12) fun v182 =>
  (.sees [(.d (.v (.bool ((↑a180 : Int) == 0)))), (.d (.v (.int .i64 12)))] (.bind (F37 (decide ((↑a180 : Int) > 8)) 5) fun v183 =>
  (.sees [(.d (.v (.bool (decide ((↑a180 : Int) > 8))))), (.d (.v (.int .i64 5)))] (.bind (F20 2 [(.v (.int .i64 v182)), (.v (.int .i64 v183))]) fun v189 =>
  (.sees [(.d (.sl 2 [(.v (.int .i64 v182)), (.v (.int .i64 v183))]))] (.br (v189 != 0)
  (.ret v189)
  (.nxt (.c1 a180 a181 0)))))))))
  | .c1 x190 x191 y192 => (.br (decide (y192 < (↑x190 : Int)))
  (.ask (.le 0 y192) (.ask (.lt y192 ((↑x190 : Int))) (.ask (.leN (y192.toNat * 1) x191.length) (.ask (.prop (Option.map AV.d (List.drop (y192.toNat * 1) x191)[0]? = some (AV.d (DV.v (Value.int IntKind.i64 (dI (cel x191 (y192.toNat * 1)))))))) (.bind (F39 (dI (cel x191 (y192.toNat * 1))) 0 6) fun v193 =>
  (.sees [(.d (.v (.int .i64 (dI (cel x191 (y192.toNat * 1)))))), (.d (.v (.int .i64 0))), (.d (.v (.int .i64 6)))] (.br (v193 != 0)
  (.ret v193)
  (.ask (.in64 (y192 + 1)) (.nxt (.c1 x190 x191 (y192 + 1)))))))))))
  (.ret 0))
noncomputable def F71 (a180 : Nat) (a181 : List DV) : Option (Int) := res B71 (.c0 a180 a181)
noncomputable def D71_0 (a180 : Nat) (a181 : List DV) : DT cfz := (.go 10 [] [] (.bind (f37 ((↑a180 : Int) == 0) 12) fun v182 => (.go 4 [(.ck 0)] [] (.bind (f37 (decide ((↑a180 : Int) > 8)) 5) fun v183 => (.go 2 [(.ck 1)] [] (.bind (f20 2 [(.v (.int .i64 v182)), (.v (.int .i64 v183))]) fun v189 => (.go 8 [(.ck 2)] [] (.split 17 (.go 7 [(.br true)] [0] .fin) (.go 9 [(.br false)] [0] (.cut 0 [[0, 4]] []))))))))))
theorem k71_0 (a180 : Nat) (a181 : List DV) : xrun cfz 71 (D71_0 a180 a181) [] (st71 (.c0 a180 a181)) = (B71 (.c0 a180 a181)).mach st71 out71 := by kernel_rfl
noncomputable def D71_1 (x190 : Nat) (x191 : List DV) (y192 : Int) : DT cfz := (.go 8 [] [] (.split 22 (.go 10 [(.br true), (.as (.d (.v (.int .i64 (dI (cel x191 (y192.toNat * 1)))))))] [0] (.bind (f39 (dI (cel x191 (y192.toNat * 1))) 0 6) fun v193 => (.go 8 [(.ck 0)] [] (.split 31 (.go 7 [(.br true)] [0] .fin) (.go 9 [(.br false)] [0] (.cut 0 [[0, 4]] [])))))) (.go 7 [(.br false)] [0] .fin)))
theorem k71_1 (x190 : Nat) (x191 : List DV) (y192 : Int) : xrun cfz 71 (D71_1 x190 x191 y192) [] (st71 (.c1 x190 x191 y192)) = (B71 (.c1 x190 x191 y192)).mach st71 out71 := by kernel_rfl
theorem ok71 : ∀ s, ∃ d, xrun cfz 71 d [] (st71 s) = (B71 s).mach st71 out71
  | .c0 a180 a181 => ⟨_, k71_0 a180 a181⟩
  | .c1 x190 x191 y192 => ⟨_, k71_1 x190 x191 y192⟩
theorem f71 (a180 : Nat) (a181 : List DV) (v : Int) (h : F71 a180 a181 = some v) : PureCalls cfz.P cfz.glob 71 [(.d (.sl a180 a181))] (out71 v) := tree_pure knil ok71 (s := .c0 a180 a181) rfl (by kernel_rfl) v h

/-! F130 -/
inductive S130 where
  | c0 (a168 : Int) (a169 : Nat) (a170 : List DV) (a171 : Nat) (a172 : List DV)
def out130 (v : Int) : AV := (.d (.v (.int .i64 v)))
noncomputable def st130 : S130 → ASt
  | .c0 a168 a169 a170 a171 a172 => ent cfz 130 [(.d (.v (.int .i64 a168))), (.d (.sl a169 a170)), (.d (.sl a171 a172))]
noncomputable def B130 : S130 → Tr S130 (Int)
  | .c0 a168 a169 a170 a171 a172 => (.bind (F39 a168 0 1000000) fun v179 =>
  (.sees [(.d (.v (.int .i64 a168))), (.d (.v (.int .i64 0))), (.d (.v (.int .i64 1000000)))] (.bind (F71 a169 a170) fun v194 =>
  (.sees [(.d (.sl a169 a170))] (.bind (F20 2 [(.v (.int .i64 v179)), (.v (.int .i64 v194))]) fun v195 =>
  (.sees [(.d (.sl 2 [(.v (.int .i64 v179)), (.v (.int .i64 v194))]))] (.br (v195 != 0)
  (.ret v195)
  (.br ((↑a171 : Int) == 0)
  (.ret 0)
  (.bind (F37 ((↑a171 : Int) != (↑a169 : Int)) 2) fun v196 =>
  (.sees [(.d (.v (.bool ((↑a171 : Int) != (↑a169 : Int))))), (.d (.v (.int .i64 2)))] (.bind (F71 a171 a172) fun v197 =>
  (.sees [(.d (.sl a171 a172))] (.bind (F20 2 [(.v (.int .i64 v196)), (.v (.int .i64 v197))]) fun v198 =>
  (.sees [(.d (.sl 2 [(.v (.int .i64 v196)), (.v (.int .i64 v197))]))] (.ret v198)))))))))))))))
noncomputable def F130 (a168 : Int) (a169 : Nat) (a170 : List DV) (a171 : Nat) (a172 : List DV) : Option (Int) := res B130 (.c0 a168 a169 a170 a171 a172)
noncomputable def D130_0 (a168 : Int) (a169 : Nat) (a170 : List DV) (a171 : Nat) (a172 : List DV) : DT cfz := (.go 8 [] [] (.bind (f39 a168 0 1000000) fun v179 => (.go 2 [(.ck 0)] [] (.bind (f71 a169 a170) fun v194 => (.go 2 [(.ck 1)] [] (.bind (f20 2 [(.v (.int .i64 v179)), (.v (.int .i64 v194))]) fun v195 => (.go 8 [(.ck 2)] [] (.split 15 (.go 7 [(.br true)] [0] .fin) (.go 9 [(.br false)] [0] (.split 19 (.go 6 [(.br true)] [0] .fin) (.go 9 [(.br false)] [0] (.bind (f37 ((↑a171 : Int) != (↑a169 : Int)) 2) fun v196 => (.go 2 [(.ck 3)] [] (.bind (f71 a171 a172) fun v197 => (.go 2 [(.ck 4)] [] (.bind (f20 2 [(.v (.int .i64 v196)), (.v (.int .i64 v197))]) fun v198 => (.go 4 [(.ck 5)] [] .fin)))))))))))))))))
theorem k130_0 (a168 : Int) (a169 : Nat) (a170 : List DV) (a171 : Nat) (a172 : List DV) : xrun cfz 130 (D130_0 a168 a169 a170 a171 a172) [] (st130 (.c0 a168 a169 a170 a171 a172)) = (B130 (.c0 a168 a169 a170 a171 a172)).mach st130 out130 := by kernel_rfl
theorem ok130 : ∀ s, ∃ d, xrun cfz 130 d [] (st130 s) = (B130 s).mach st130 out130
  | .c0 a168 a169 a170 a171 a172 => ⟨_, k130_0 a168 a169 a170 a171 a172⟩
theorem f130 (a168 : Int) (a169 : Nat) (a170 : List DV) (a171 : Nat) (a172 : List DV) (v : Int) (h : F130 a168 a169 a170 a171 a172 = some v) : PureCalls cfz.P cfz.glob 130 [(.d (.v (.int .i64 a168))), (.d (.sl a169 a170)), (.d (.sl a171 a172))] (out130 v) := tree_pure knil ok130 (s := .c0 a168 a169 a170 a171 a172) rfl (by kernel_rfl) v h

/-! F50 -/
inductive S50 where
  | c0 (a163 : Int) (a164 : Nat) (a165 : List DV) (a166 : Nat) (a167 : List DV)
def out50 (v : Int) : AV := (.d (.v (.int .i64 v)))
noncomputable def st50 : S50 → ASt
  | .c0 a163 a164 a165 a166 a167 => ent cfz 50 [(.agg [(.d (.v (.int .i64 a163))), (.d (.sl a164 a165)), (.d (.sl a166 a167))])]
noncomputable def B50 : S50 → Tr S50 (Int)
  | .c0 a163 a164 a165 a166 a167 => (.bind (F130 a163 a164 a165 a166 a167) fun v199 =>
  (.sees [(.d (.v (.int .i64 a163))), (.d (.sl a164 a165)), (.d (.sl a166 a167))] (.ret v199)))
noncomputable def F50 (a163 : Int) (a164 : Nat) (a165 : List DV) (a166 : Nat) (a167 : List DV) : Option (Int) := res B50 (.c0 a163 a164 a165 a166 a167)
noncomputable def D50_0 (a163 : Int) (a164 : Nat) (a165 : List DV) (a166 : Nat) (a167 : List DV) : DT cfz := (.go 13 [] [] (.bind (f130 a163 a164 a165 a166 a167) fun v199 => (.go 4 [(.ck 0)] [] .fin)))
theorem k50_0 (a163 : Int) (a164 : Nat) (a165 : List DV) (a166 : Nat) (a167 : List DV) : xrun cfz 50 (D50_0 a163 a164 a165 a166 a167) [] (st50 (.c0 a163 a164 a165 a166 a167)) = (B50 (.c0 a163 a164 a165 a166 a167)).mach st50 out50 := by kernel_rfl
theorem ok50 : ∀ s, ∃ d, xrun cfz 50 d [] (st50 s) = (B50 s).mach st50 out50
  | .c0 a163 a164 a165 a166 a167 => ⟨_, k50_0 a163 a164 a165 a166 a167⟩
theorem f50 (a163 : Int) (a164 : Nat) (a165 : List DV) (a166 : Nat) (a167 : List DV) (v : Int) (h : F50 a163 a164 a165 a166 a167 = some v) : PureCalls cfz.P cfz.glob 50 [(.agg [(.d (.v (.int .i64 a163))), (.d (.sl a164 a165)), (.d (.sl a166 a167))])] (out50 v) := tree_pure knil ok50 (s := .c0 a163 a164 a165 a166 a167) rfl (by kernel_rfl) v h

/-! F51 -/
inductive S51 where
  | c0 (a201 : Nat) (a202 : List DV) (a203 : Nat) (a204 : List DV)
def out51 (v : Int) : AV := (.d (.v (.int .i64 v)))
noncomputable def st51 : S51 → ASt
  | .c0 a201 a202 a203 a204 => ent cfz 51 [(.d (.sl a201 a202)), (.d (.sl a203 a204))]
noncomputable def B51 : S51 → Tr S51 (Int)
  | .c0 a201 a202 a203 a204 => (.bind (F37 ((↑a203 : Int) != (↑a201 : Int)) 2) fun v205 =>
  (.sees [(.d (.v (.bool ((↑a203 : Int) != (↑a201 : Int))))), (.d (.v (.int .i64 2)))] (.bind (F71 a203 a204) fun v206 =>
  (.sees [(.d (.sl a203 a204))] (.bind (F20 2 [(.v (.int .i64 v205)), (.v (.int .i64 v206))]) fun v207 =>
  (.sees [(.d (.sl 2 [(.v (.int .i64 v205)), (.v (.int .i64 v206))]))] (.ret v207)))))))
noncomputable def F51 (a201 : Nat) (a202 : List DV) (a203 : Nat) (a204 : List DV) : Option (Int) := res B51 (.c0 a201 a202 a203 a204)
noncomputable def D51_0 (a201 : Nat) (a202 : List DV) (a203 : Nat) (a204 : List DV) : DT cfz := (.go 11 [] [] (.bind (f37 ((↑a203 : Int) != (↑a201 : Int)) 2) fun v205 => (.go 2 [(.ck 0)] [] (.bind (f71 a203 a204) fun v206 => (.go 2 [(.ck 1)] [] (.bind (f20 2 [(.v (.int .i64 v205)), (.v (.int .i64 v206))]) fun v207 => (.go 4 [(.ck 2)] [] .fin)))))))
theorem k51_0 (a201 : Nat) (a202 : List DV) (a203 : Nat) (a204 : List DV) : xrun cfz 51 (D51_0 a201 a202 a203 a204) [] (st51 (.c0 a201 a202 a203 a204)) = (B51 (.c0 a201 a202 a203 a204)).mach st51 out51 := by kernel_rfl
theorem ok51 : ∀ s, ∃ d, xrun cfz 51 d [] (st51 s) = (B51 s).mach st51 out51
  | .c0 a201 a202 a203 a204 => ⟨_, k51_0 a201 a202 a203 a204⟩
theorem f51 (a201 : Nat) (a202 : List DV) (a203 : Nat) (a204 : List DV) (v : Int) (h : F51 a201 a202 a203 a204 = some v) : PureCalls cfz.P cfz.glob 51 [(.d (.sl a201 a202)), (.d (.sl a203 a204))] (out51 v) := tree_pure knil ok51 (s := .c0 a201 a202 a203 a204) rfl (by kernel_rfl) v h

/-! F52 -/
inductive S52 where
  | c0 (a210 : Int)
def out52 (v : Int) : AV := (.d (.v (.int .i64 v)))
noncomputable def st52 : S52 → ASt
  | .c0 a210 => ent cfz 52 [(.d (.v (.int .i64 a210)))]
noncomputable def B52 : S52 → Tr S52 (Int)
  | .c0 a210 => (.bind (F39 a210 0 1000000) fun v211 =>
  (.sees [(.d (.v (.int .i64 a210))), (.d (.v (.int .i64 0))), (.d (.v (.int .i64 1000000)))] (.ret v211)))
noncomputable def F52 (a210 : Int) : Option (Int) := res B52 (.c0 a210)
noncomputable def D52_0 (a210 : Int) : DT cfz := (.go 7 [] [] (.bind (f39 a210 0 1000000) fun v211 => (.go 4 [(.ck 0)] [] .fin)))
theorem k52_0 (a210 : Int) : xrun cfz 52 (D52_0 a210) [] (st52 (.c0 a210)) = (B52 (.c0 a210)).mach st52 out52 := by kernel_rfl
theorem ok52 : ∀ s, ∃ d, xrun cfz 52 d [] (st52 s) = (B52 s).mach st52 out52
  | .c0 a210 => ⟨_, k52_0 a210⟩
theorem f52 (a210 : Int) (v : Int) (h : F52 a210 = some v) : PureCalls cfz.P cfz.glob 52 [(.d (.v (.int .i64 a210)))] (out52 v) := tree_pure knil ok52 (s := .c0 a210) rfl (by kernel_rfl) v h

/-! F53 -/
inductive S53 where
  | c0 (a214 : Int) (a215 : Nat) (a216 : List DV) (a217 : Nat) (a218 : List DV) (a219 : Nat) (a220 : List DV)
def out53 (v : Int × Nat × List DV × Nat × List DV × Int) : AV := (.tup [(.agg [(.d (.v (.int .i64 v.fst))), (.d (.sl v.snd.fst v.snd.snd.fst)), (.d (.sl v.snd.snd.snd.fst v.snd.snd.snd.snd.fst))]), (.d (.v (.int .i64 v.snd.snd.snd.snd.snd)))])
noncomputable def st53 : S53 → ASt
  | .c0 a214 a215 a216 a217 a218 a219 a220 => ent cfz 53 [(.agg [(.d (.v (.int .i64 a214))), (.d (.sl a215 a216)), (.d (.sl a217 a218))]), (.d (.sl a219 a220))]
noncomputable def B53 : S53 → Tr S53 (Int × Nat × List DV × Nat × List DV × Int)
  | .c0 a214 a215 a216 a217 a218 a219 a220 => (.bind (F37 (decide ((↑a217 : Int) > 0)) 31) fun v221 =>
  (.bind (F37 (a214 == 1000000) 20) fun v222 =>
  (.bind (F20 2 [(.v (.int .i64 v221)), (.v (.int .i64 v222))]) fun v223 =>
  (.sees [(.d (.v (.bool (decide ((↑a217 : Int) > 0))))), (.d (.v (.int .i64 31)))] (.sees [(.d (.v (.bool (a214 == 1000000)))), (.d (.v (.int .i64 20)))] (.sees [(.d (.sl 2 [(.v (.int .i64 v221)), (.v (.int .i64 v222))]))] (.br (v223 != 0)
  (.ret (0, 0, [], 0, [], v223))
  (.ret (a214, a215, a216, a219, a220, 0)))))))))
noncomputable def F53 (a214 : Int) (a215 : Nat) (a216 : List DV) (a217 : Nat) (a218 : List DV) (a219 : Nat) (a220 : List DV) : Option (Int × Nat × List DV × Nat × List DV × Int) := res B53 (.c0 a214 a215 a216 a217 a218 a219 a220)
noncomputable def D53_0 (a214 : Int) (a215 : Nat) (a216 : List DV) (a217 : Nat) (a218 : List DV) (a219 : Nat) (a220 : List DV) : DT cfz := (.go 9 [] [] (.bind (f37 (decide ((↑a217 : Int) > 0)) 31) fun v221 => (.bind (f37 (a214 == 1000000) 20) fun v222 => (.bind (f20 2 [(.v (.int .i64 v221)), (.v (.int .i64 v222))]) fun v223 => (.go 6 [(.ck 0), (.ck 1), (.ck 2)] [] (.split 19 (.go 9 [(.br true)] [0] .fin) (.go 14 [(.br false)] [0] .fin)))))))
theorem k53_0 (a214 : Int) (a215 : Nat) (a216 : List DV) (a217 : Nat) (a218 : List DV) (a219 : Nat) (a220 : List DV) : xrun cfz 53 (D53_0 a214 a215 a216 a217 a218 a219 a220) [] (st53 (.c0 a214 a215 a216 a217 a218 a219 a220)) = (B53 (.c0 a214 a215 a216 a217 a218 a219 a220)).mach st53 out53 := by kernel_rfl
theorem ok53 : ∀ s, ∃ d, xrun cfz 53 d [] (st53 s) = (B53 s).mach st53 out53
  | .c0 a214 a215 a216 a217 a218 a219 a220 => ⟨_, k53_0 a214 a215 a216 a217 a218 a219 a220⟩
theorem f53 (a214 : Int) (a215 : Nat) (a216 : List DV) (a217 : Nat) (a218 : List DV) (a219 : Nat) (a220 : List DV) (v : Int × Nat × List DV × Nat × List DV × Int) (h : F53 a214 a215 a216 a217 a218 a219 a220 = some v) : PureCalls cfz.P cfz.glob 53 [(.agg [(.d (.v (.int .i64 a214))), (.d (.sl a215 a216)), (.d (.sl a217 a218))]), (.d (.sl a219 a220))] (out53 v) := tree_pure knil ok53 (s := .c0 a214 a215 a216 a217 a218 a219 a220) rfl (by kernel_rfl) v h

/-! F54 -/
inductive S54 where
  | c0 (a225 : Int) (a226 : Nat) (a227 : List DV) (a228 : Nat) (a229 : List DV) (a230 : Int)
def out54 (v : Int × Nat × List DV × Nat × List DV × Int) : AV := (.tup [(.agg [(.d (.v (.int .i64 v.fst))), (.d (.sl v.snd.fst v.snd.snd.fst)), (.d (.sl v.snd.snd.snd.fst v.snd.snd.snd.snd.fst))]), (.d (.v (.int .i64 v.snd.snd.snd.snd.snd)))])
noncomputable def st54 : S54 → ASt
  | .c0 a225 a226 a227 a228 a229 a230 => ent cfz 54 [(.agg [(.d (.v (.int .i64 a225))), (.d (.sl a226 a227)), (.d (.sl a228 a229))]), (.d (.v (.int .i64 a230)))]
noncomputable def B54 : S54 → Tr S54 (Int × Nat × List DV × Nat × List DV × Int)
  | .c0 a225 a226 a227 a228 a229 a230 => (.br (decide (a230 ≤ a225))
  (.ret (a225, a226, a227, a228, a229, 0))
  (.ask (.in64 (a225 + 1)) (.br (decide (a230 > a225 + 1))
  (.ret (0, 0, [], 0, [], 24))
  (.br ((↑a228 : Int) == 0)
  (.ret (0, 0, [], 0, [], 7))
  (.ret (a230, a228, a229, 0, [], 0))))))
noncomputable def F54 (a225 : Int) (a226 : Nat) (a227 : List DV) (a228 : Nat) (a229 : List DV) (a230 : Int) : Option (Int × Nat × List DV × Nat × List DV × Int) := res B54 (.c0 a225 a226 a227 a228 a229 a230)
noncomputable def D54_0 (a225 : Int) (a226 : Nat) (a227 : List DV) (a228 : Nat) (a229 : List DV) (a230 : Int) : DT cfz := (.go 14 [] [] (.split 9 (.go 8 [(.br true)] [0] .fin) (.go 11 [(.br false)] [0] (.split 15 (.go 8 [(.br true)] [0] .fin) (.go 10 [(.br false)] [0] (.split 20 (.go 8 [(.br true)] [0] .fin) (.go 12 [(.br false)] [0] .fin)))))))
theorem k54_0 (a225 : Int) (a226 : Nat) (a227 : List DV) (a228 : Nat) (a229 : List DV) (a230 : Int) : xrun cfz 54 (D54_0 a225 a226 a227 a228 a229 a230) [] (st54 (.c0 a225 a226 a227 a228 a229 a230)) = (B54 (.c0 a225 a226 a227 a228 a229 a230)).mach st54 out54 := by kernel_rfl
theorem ok54 : ∀ s, ∃ d, xrun cfz 54 d [] (st54 s) = (B54 s).mach st54 out54
  | .c0 a225 a226 a227 a228 a229 a230 => ⟨_, k54_0 a225 a226 a227 a228 a229 a230⟩
theorem f54 (a225 : Int) (a226 : Nat) (a227 : List DV) (a228 : Nat) (a229 : List DV) (a230 : Int) (v : Int × Nat × List DV × Nat × List DV × Int) (h : F54 a225 a226 a227 a228 a229 a230 = some v) : PureCalls cfz.P cfz.glob 54 [(.agg [(.d (.v (.int .i64 a225))), (.d (.sl a226 a227)), (.d (.sl a228 a229))]), (.d (.v (.int .i64 a230)))] (out54 v) := tree_pure knil ok54 (s := .c0 a225 a226 a227 a228 a229 a230) rfl (by kernel_rfl) v h

/-! F65 -/
inductive S65 where
  | c0 (a245 : Nat) (a246 : List DV) (a247 : Nat) (a248 : List DV)
  | c1 (x249 : Nat) (x250 : List DV) (x251 : Nat) (x252 : List DV) (y253 : Int)
def out65 (v : Bool) : AV := (.d (.v (.bool v)))
noncomputable def st65 : S65 → ASt
  | .c0 a245 a246 a247 a248 => ent cfz 65 [(.d (.sl a245 a246)), (.d (.sl a247 a248))]
  | .c1 x249 x250 x251 x252 y253 => ⟨⟨65, sp 26 0 [(0, (.d (.sl x249 x250))), (1, (.d (.sl x251 x252))), (5, (.d (.v (.int .i64 y253))))], [(.code (cd cfz.P 65 [1, 1, 0, 1, 0, 0])), (.inLoop (cd cfz.P 65 [1, 1, 0, 1, 0, 0])), (.inBlock 0), (.code (cd cfz.P 65 [1, 1, 1]))], [], false, .none⟩, [], []⟩
noncomputable def B65 : S65 → Tr S65 (Bool)
  | .c0 a245 a246 a247 a248 => (.br ((↑a245 : Int) != (↑a247 : Int))
  (.ret false)
  (.nxt (.c1 a245 a246 a247 a248 0)))
  | .c1 x249 x250 x251 x252 y253 => (.br (decide (y253 < (↑x249 : Int)))
  (.ask (.le 0 y253) (.ask (.lt y253 ((↑x249 : Int))) (.ask (.leN (y253.toNat * 1) x250.length) (.ask (.prop (Option.map AV.d (List.drop (y253.toNat * 1) x250)[0]? = some (AV.d (DV.v (Value.int IntKind.i64 (dI (cel x250 (y253.toNat * 1)))))))) (.ask (.le 0 y253) (.ask (.lt y253 ((↑x251 : Int))) (.ask (.leN (y253.toNat * 1) x252.length) (.ask (.prop (Option.map AV.d (List.drop (y253.toNat * 1) x252)[0]? = some (AV.d (DV.v (Value.int IntKind.i64 (dI (cel x252 (y253.toNat * 1)))))))) (.br (dI (cel x250 (y253.toNat * 1)) != dI (cel x252 (y253.toNat * 1)))
  (.ret false)
  (.ask (.in64 (y253 + 1)) (.nxt (.c1 x249 x250 x251 x252 (y253 + 1)))))))))))))
  (.ret true))
noncomputable def F65 (a245 : Nat) (a246 : List DV) (a247 : Nat) (a248 : List DV) : Option (Bool) := res B65 (.c0 a245 a246 a247 a248)
noncomputable def D65_0 (a245 : Nat) (a246 : List DV) (a247 : Nat) (a248 : List DV) : DT cfz := (.go 13 [] [] (.split 10 (.go 6 [(.br true)] [0] .fin) (.go 9 [(.br false)] [0] (.cut 0 [[0, 1, 5]] []))))
theorem k65_0 (a245 : Nat) (a246 : List DV) (a247 : Nat) (a248 : List DV) : xrun cfz 65 (D65_0 a245 a246 a247 a248) [] (st65 (.c0 a245 a246 a247 a248)) = (B65 (.c0 a245 a246 a247 a248)).mach st65 out65 := by kernel_rfl
noncomputable def D65_1 (x249 : Nat) (x250 : List DV) (x251 : Nat) (x252 : List DV) (y253 : Int) : DT cfz := (.go 8 [] [] (.split 14 (.go 7 [(.br true), (.as (.d (.v (.int .i64 (dI (cel x250 (y253.toNat * 1))))))), (.as (.d (.v (.int .i64 (dI (cel x252 (y253.toNat * 1)))))))] [0] (.split 25 (.go 6 [(.br true)] [0] .fin) (.go 9 [(.br false)] [0] (.cut 0 [[0, 1, 5]] [])))) (.go 7 [(.br false)] [0] .fin)))
theorem k65_1 (x249 : Nat) (x250 : List DV) (x251 : Nat) (x252 : List DV) (y253 : Int) : xrun cfz 65 (D65_1 x249 x250 x251 x252 y253) [] (st65 (.c1 x249 x250 x251 x252 y253)) = (B65 (.c1 x249 x250 x251 x252 y253)).mach st65 out65 := by kernel_rfl
theorem ok65 : ∀ s, ∃ d, xrun cfz 65 d [] (st65 s) = (B65 s).mach st65 out65
  | .c0 a245 a246 a247 a248 => ⟨_, k65_0 a245 a246 a247 a248⟩
  | .c1 x249 x250 x251 x252 y253 => ⟨_, k65_1 x249 x250 x251 x252 y253⟩
theorem f65 (a245 : Nat) (a246 : List DV) (a247 : Nat) (a248 : List DV) (v : Bool) (h : F65 a245 a246 a247 a248 = some v) : PureCalls cfz.P cfz.glob 65 [(.d (.sl a245 a246)), (.d (.sl a247 a248))] (out65 v) := tree_pure knil ok65 (s := .c0 a245 a246 a247 a248) rfl (by kernel_rfl) v h

/-! F56 -/
inductive S56 where
  | c0 (a233 : Int) (a234 : Nat) (a235 : List DV) (a236 : Nat) (a237 : List DV) (a238 : Int) (a239 : Int) (a240 : Int) (a241 : Nat) (a242 : List DV) (a243 : Nat) (a244 : List DV)
def out56 (v : Bool) : AV := (.d (.v (.bool v)))
noncomputable def st56 : S56 → ASt
  | .c0 a233 a234 a235 a236 a237 a238 a239 a240 a241 a242 a243 a244 => ent cfz 56 [(.agg [(.d (.v (.int .i64 a233))), (.d (.sl a234 a235)), (.d (.sl a236 a237))]), (.d (.v (.int .i64 a238))), (.d (.v (.int .i64 a239))), (.agg [(.d (.v (.int .i64 a240))), (.d (.sl a241 a242)), (.d (.sl a243 a244))])]
noncomputable def B56 : S56 → Tr S56 (Bool)
  | .c0 a233 a234 a235 a236 a237 a238 a239 a240 a241 a242 a243 a244 => (.br (a239 != 0)
  (.br (a238 == a239)
  (.br (a233 == 0)
  (.bind (F65 a234 a235 0 []) fun v254 =>
  (.sees [(.d (.sl a234 a235)), (.d (.sl 0 []))] (.br v254
  (.bind (F65 a236 a237 0 []) fun v255 =>
  (.sees [(.d (.sl a236 a237)), (.d (.sl 0 []))] (.ret v255)))
  (.ret false))))
  (.ret false))
  (.ret false))
  (.br (a238 == a239)
  (.br (a233 == a240)
  (.bind (F65 a234 a235 a241 a242) fun v256 =>
  (.sees [(.d (.sl a234 a235)), (.d (.sl a241 a242))] (.br v256
  (.bind (F65 a236 a237 a243 a244) fun v257 =>
  (.sees [(.d (.sl a236 a237)), (.d (.sl a243 a244))] (.ret v257)))
  (.ret false))))
  (.ret false))
  (.ret false)))
noncomputable def F56 (a233 : Int) (a234 : Nat) (a235 : List DV) (a236 : Nat) (a237 : List DV) (a238 : Int) (a239 : Int) (a240 : Int) (a241 : Nat) (a242 : List DV) (a243 : Nat) (a244 : List DV) : Option (Bool) := res B56 (.c0 a233 a234 a235 a236 a237 a238 a239 a240 a241 a242 a243 a244)
noncomputable def D56_0 (a233 : Int) (a234 : Nat) (a235 : List DV) (a236 : Nat) (a237 : List DV) (a238 : Int) (a239 : Int) (a240 : Int) (a241 : Nat) (a242 : List DV) (a243 : Nat) (a244 : List DV) : DT cfz := (.go 12 [] [] (.split 10 (.go 11 [(.br true)] [0] (.split 15 (.go 7 [(.br true), (.br true), .none, (.br true), (.br true), .none, (.br true)] [0, 1, 2, 3, 4] (.split 22 (.go 4 [(.br true), (.br true), .none, (.br true), (.br true)] [0, 1, 2, 3] (.bind (f65 a234 a235 0 []) fun v254 => (.go 3 [(.br true), (.ck 0)] [1] (.split 29 (.go 4 [(.br true), (.br true), .none, (.br true), (.br true)] [0, 1, 2, 3] (.bind (f65 a236 a237 0 []) fun v255 => (.go 5 [(.br true), (.ck 1)] [1] .fin))) (.go 9 [(.br false), (.br false), (.br false), (.br false), (.br false)] [0, 1, 2, 3, 4] .fin))))) (.go 16 [(.br false), (.br false), (.br false), (.br false), (.br false), .none, (.br false), (.br false), (.br false), (.br false), (.br false)] [0, 1, 2, 3, 4, 5, 6, 7, 8, 9] .fin))) (.go 23 [(.br false), (.br false), (.br false), (.br false), (.br false), .none, (.br false), (.br false), (.br false), (.br false), (.br false), .none, (.br false), (.br false), (.br false), (.br false), (.br false)] [0, 1, 2, 3, 4, 5, 6, 7, 8, 9, 10, 11, 12, 13, 14] .fin))) (.go 8 [(.br false)] [0] (.split 15 (.go 7 [(.br true), (.br true), .none, (.br true), (.br true), .none, (.br true)] [0, 1, 2, 3, 4] (.split 22 (.go 4 [(.br true), (.br true), .none, (.br true), (.br true)] [0, 1, 2, 3] (.bind (f65 a234 a235 a241 a242) fun v256 => (.go 3 [(.br true), (.ck 0)] [1] (.split 29 (.go 4 [(.br true), (.br true), .none, (.br true), (.br true)] [0, 1, 2, 3] (.bind (f65 a236 a237 a243 a244) fun v257 => (.go 5 [(.br true), (.ck 1)] [1] .fin))) (.go 9 [(.br false), (.br false), (.br false), (.br false), (.br false)] [0, 1, 2, 3, 4] .fin))))) (.go 16 [(.br false), (.br false), (.br false), (.br false), (.br false), .none, (.br false), (.br false), (.br false), (.br false), (.br false)] [0, 1, 2, 3, 4, 5, 6, 7, 8, 9] .fin))) (.go 23 [(.br false), (.br false), (.br false), (.br false), (.br false), .none, (.br false), (.br false), (.br false), (.br false), (.br false), .none, (.br false), (.br false), (.br false), (.br false), (.br false)] [0, 1, 2, 3, 4, 5, 6, 7, 8, 9, 10, 11, 12, 13, 14] .fin)))))
theorem k56_0 (a233 : Int) (a234 : Nat) (a235 : List DV) (a236 : Nat) (a237 : List DV) (a238 : Int) (a239 : Int) (a240 : Int) (a241 : Nat) (a242 : List DV) (a243 : Nat) (a244 : List DV) : xrun cfz 56 (D56_0 a233 a234 a235 a236 a237 a238 a239 a240 a241 a242 a243 a244) [] (st56 (.c0 a233 a234 a235 a236 a237 a238 a239 a240 a241 a242 a243 a244)) = (B56 (.c0 a233 a234 a235 a236 a237 a238 a239 a240 a241 a242 a243 a244)).mach st56 out56 := by kernel_rfl
theorem ok56 : ∀ s, ∃ d, xrun cfz 56 d [] (st56 s) = (B56 s).mach st56 out56
  | .c0 a233 a234 a235 a236 a237 a238 a239 a240 a241 a242 a243 a244 => ⟨_, k56_0 a233 a234 a235 a236 a237 a238 a239 a240 a241 a242 a243 a244⟩
theorem f56 (a233 : Int) (a234 : Nat) (a235 : List DV) (a236 : Nat) (a237 : List DV) (a238 : Int) (a239 : Int) (a240 : Int) (a241 : Nat) (a242 : List DV) (a243 : Nat) (a244 : List DV) (v : Bool) (h : F56 a233 a234 a235 a236 a237 a238 a239 a240 a241 a242 a243 a244 = some v) : PureCalls cfz.P cfz.glob 56 [(.agg [(.d (.v (.int .i64 a233))), (.d (.sl a234 a235)), (.d (.sl a236 a237))]), (.d (.v (.int .i64 a238))), (.d (.v (.int .i64 a239))), (.agg [(.d (.v (.int .i64 a240))), (.d (.sl a241 a242)), (.d (.sl a243 a244))])] (out56 v) := tree_pure knil ok56 (s := .c0 a233 a234 a235 a236 a237 a238 a239 a240 a241 a242 a243 a244) rfl (by kernel_rfl) v h

end Go.Kv
