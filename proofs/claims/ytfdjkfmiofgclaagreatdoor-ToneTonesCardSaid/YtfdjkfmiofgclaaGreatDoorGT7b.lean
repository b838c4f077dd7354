import Derived.Test.YtfdjkfmiofgclaaGreatDoorKvW
import Derived.Test.YtfdjkfmiofgclaaGreatDoorKvZ
import Derived.Test.YtfdjkfmiofgclaaGreatDoorKzA
import Derived.Test.YtfdjkfmiofgclaaGreatDoorKzW
namespace Go.Kv
set_option linter.unusedVariables false
set_option linter.unusedSimpArgs false
set_option linter.unnecessarySimpa false
open Go Go.RowKit Go.Proofs
set_option maxRecDepth 100000
inductive S30 where
  | c0 (a9 : Nat) (a10 : List DV)
def out30 (v : Bool) : AV := (.d (.v (.bool v)))
noncomputable def st30 : S30 → ASt
  | .c0 a9 a10 => ent cfz 30 [(.d (.sl a9 a10))]
noncomputable def B30 : S30 → Tr S30 (Bool)
  | .c0 a9 a10 => (.ret (decide ((↑a9 : Int) ≤ 9)))
noncomputable def F30 (a9 : Nat) (a10 : List DV) : Option (Bool) := res B30 (.c0 a9 a10)
noncomputable def D30_0 (a9 : Nat) (a10 : List DV) : DT cfz := (.go 12 [] [] .fin)
theorem k30_0 (a9 : Nat) (a10 : List DV) : xrun cfz 30 (D30_0 a9 a10) [] (st30 (.c0 a9 a10)) = (B30 (.c0 a9 a10)).mach st30 out30 := by kernel_rfl
theorem ok30 : ∀ s, ∃ d, xrun cfz 30 d [] (st30 s) = (B30 s).mach st30 out30
  | .c0 a9 a10 => ⟨_, k30_0 a9 a10⟩
theorem f30 (a9 : Nat) (a10 : List DV) (v : Bool) (h : F30 a9 a10 = some v) : PureCalls cfz.P cfz.glob 30 [(.d (.sl a9 a10))] (out30 v) := tree_pure knil ok30 (s := .c0 a9 a10) rfl (by kernel_rfl) v h
inductive S33 where
  | c0 (a19 : Nat) (a20 : List DV)
def out33 (v : Nat × List DV) : AV := (.d (.sl v.fst v.snd))
noncomputable def st33 : S33 → ASt
  | .c0 a19 a20 => ent cfz 33 [(.d (.sl a19 a20))]
noncomputable def B33 : S33 → Tr S33 (Nat × List DV)
  | .c0 a19 a20 => (.br (a19.beq 0)
  (.ask (.eqN a19 0) (.ret (0, [])))
  (.ask (.ltN 0 a19) (.ask (.eqN a20.length (a19 * 1)) (.ask (.fits a19 8) (.ret (a19, a20))))))
noncomputable def F33 (a19 : Nat) (a20 : List DV) : Option (Nat × List DV) := res B33 (.c0 a19 a20)
noncomputable def D33_0 (a19 : Nat) (a20 : List DV) : DT cfz := (.go 8 [] [] (.br (a19.beq 0) (.go 4 [(.br false)] [] .fin) (.go 4 [(.br true)] [] .fin)))
theorem k33_0 (a19 : Nat) (a20 : List DV) : xrun cfz 33 (D33_0 a19 a20) [] (st33 (.c0 a19 a20)) = (B33 (.c0 a19 a20)).mach st33 out33 := by kernel_rfl
theorem ok33 : ∀ s, ∃ d, xrun cfz 33 d [] (st33 s) = (B33 s).mach st33 out33
  | .c0 a19 a20 => ⟨_, k33_0 a19 a20⟩
theorem f33 (a19 : Nat) (a20 : List DV) (v : Nat × List DV) (h : F33 a19 a20 = some v) : PureCalls cfz.P cfz.glob 33 [(.d (.sl a19 a20))] (out33 v) := tree_pure knil ok33 (s := .c0 a19 a20) rfl (by kernel_rfl) v h
inductive S109 where
  | c0 (a45 : Bool) (a46 : Int)
def out109 (v : Int) : AV := (.d (.v (.int .i64 v)))
noncomputable def st109 : S109 → ASt
  | .c0 a45 a46 => ent cfz 109 [(.d (.v (.bool a45))), (.d (.v (.int .i64 a46)))]
noncomputable def B109 : S109 → Tr S109 (Int)
  | .c0 a45 a46 => (.br a45
  (.ret a46)
  (.ret 0))
noncomputable def F109 (a45 : Bool) (a46 : Int) : Option (Int) := res B109 (.c0 a45 a46)
noncomputable def D109_0 (a45 : Bool) (a46 : Int) : DT cfz := (.go 9 [] [] (.split 5 (.go 7 [(.br true)] [0] .fin) (.go 7 [(.br false)] [0] .fin)))
theorem k109_0 (a45 : Bool) (a46 : Int) : xrun cfz 109 (D109_0 a45 a46) [] (st109 (.c0 a45 a46)) = (B109 (.c0 a45 a46)).mach st109 out109 := by kernel_rfl
theorem ok109 : ∀ s, ∃ d, xrun cfz 109 d [] (st109 s) = (B109 s).mach st109 out109
  | .c0 a45 a46 => ⟨_, k109_0 a45 a46⟩
theorem f109 (a45 : Bool) (a46 : Int) (v : Int) (h : F109 a45 a46 = some v) : PureCalls cfz.P cfz.glob 109 [(.d (.v (.bool a45))), (.d (.v (.int .i64 a46)))] (out109 v) := tree_pure knil ok109 (s := .c0 a45 a46) rfl (by kernel_rfl) v h
inductive S106 where
  | c0 (a42 : Int) (a43 : Int) (a44 : Int)
def out106 (v : Int) : AV := (.d (.v (.int .i64 v)))
noncomputable def st106 : S106 → ASt
  | .c0 a42 a43 a44 => ent cfz 106 [(.d (.v (.int .i64 a42))), (.d (.v (.int .i64 a43))), (.d (.v (.int .i64 a44)))]
noncomputable def B106 : S106 → Tr S106 (Int)
  | .c0 a42 a43 a44 => (.triv _ (tv_s (decide (a42 < a43) == false)) (.triv _ (tv_s (decide (a42 < a43) == false)) (.triv _ (tv_f (decide (a42 < a43))) (.bind (F109 (if decide (a42 < a43) = true then true else decide (a42 > a44)) 3) fun v47 =>
  (.sees [(.d (.v (.bool (if decide (a42 < a43) = true then true else decide (a42 > a44))))), (.d (.v (.int .i64 3)))] (.ret v47))))))
noncomputable def F106 (a42 : Int) (a43 : Int) (a44 : Int) : Option (Int) := res B106 (.c0 a42 a43 a44)
noncomputable def D106_0 (a42 : Int) (a43 : Int) (a44 : Int) : DT cfz := (.go 14 [(.sp .none), (.sp .none), (.sp .none), .mg] [] (.bind (f109 (if decide (a42 < a43) = true then true else decide (a42 > a44)) 3) fun v47 => (.go 4 [(.ck 0)] [] .fin)))
theorem k106_0 (a42 : Int) (a43 : Int) (a44 : Int) : xrun cfz 106 (D106_0 a42 a43 a44) [] (st106 (.c0 a42 a43 a44)) = (B106 (.c0 a42 a43 a44)).mach st106 out106 := by kernel_rfl
theorem ok106 : ∀ s, ∃ d, xrun cfz 106 d [] (st106 s) = (B106 s).mach st106 out106
  | .c0 a42 a43 a44 => ⟨_, k106_0 a42 a43 a44⟩
theorem f106 (a42 : Int) (a43 : Int) (a44 : Int) (v : Int) (h : F106 a42 a43 a44 = some v) : PureCalls cfz.P cfz.glob 106 [(.d (.v (.int .i64 a42))), (.d (.v (.int .i64 a43))), (.d (.v (.int .i64 a44)))] (out106 v) := tree_pure knil ok106 (s := .c0 a42 a43 a44) rfl (by kernel_rfl) v h
inductive S172 where
  | c0 (a67 : Int) (a68 : List DV) (a69 : List DV)
def out172 (v : Int) : AV := (.d (.v (.int .i64 v)))
noncomputable def st172 : S172 → ASt
  | .c0 a67 a68 a69 => ent cfz 172 [(.d (.v (.int .i64 a67))), (.ip a68), (.ip a69)]
noncomputable def B172 : S172 → Tr S172 (Int)
  | .c0 a67 a68 a69 => (.ask (.prop (Option.map AV.d a68[0]? = some (AV.d (DV.v (Value.int IntKind.i64 (dI (cel a68 0))))))) (.ask (.prop (Option.map AV.d a69[0]? = some (AV.d (DV.v (Value.int IntKind.i64 (dI (cel a69 0))))))) (.bind (F106 a67 (dI (cel a68 0)) (dI (cel a69 0))) fun v70 =>
  (.sees [(.d (.v (.int .i64 a67))), (.d (.v (.int .i64 (dI (cel a68 0))))), (.d (.v (.int .i64 (dI (cel a69 0)))))] (.ret v70)))))
noncomputable def F172 (a67 : Int) (a68 : List DV) (a69 : List DV) : Option (Int) := res B172 (.c0 a67 a68 a69)
noncomputable def D172_0 (a67 : Int) (a68 : List DV) (a69 : List DV) : DT cfz := (.go 9 [(.as (.d (.v (.int .i64 (dI (cel a68 0)))))), (.as (.d (.v (.int .i64 (dI (cel a69 0))))))] [] (.bind (f106 a67 (dI (cel a68 0)) (dI (cel a69 0))) fun v70 => (.go 4 [(.ck 0)] [] .fin)))
theorem k172_0 (a67 : Int) (a68 : List DV) (a69 : List DV) : xrun cfz 172 (D172_0 a67 a68 a69) [] (st172 (.c0 a67 a68 a69)) = (B172 (.c0 a67 a68 a69)).mach st172 out172 := by kernel_rfl
theorem ok172 : ∀ s, ∃ d, xrun cfz 172 d [] (st172 s) = (B172 s).mach st172 out172
  | .c0 a67 a68 a69 => ⟨_, k172_0 a67 a68 a69⟩
theorem f172 (a67 : Int) (a68 : List DV) (a69 : List DV) (v : Int) (h : F172 a67 a68 a69 = some v) : PureCalls cfz.P cfz.glob 172 [(.d (.v (.int .i64 a67))), (.ip a68), (.ip a69)] (out172 v) := tree_pure knil ok172 (s := .c0 a67 a68 a69) rfl (by kernel_rfl) v h
inductive S171 where
  | c0 (a57 : Nat) (a58 : List DV) (a59 : List DV) (a60 : List DV)
  | c1 (x61 : List DV) (x62 : List DV) (x63 : Nat) (x64 : List DV) (x65 : Int) (y66 : Int)
  | c2 (x72 : List DV) (x73 : List DV) (y74 : Nat) (y75 : Nat) (y76 : List DV) (x77 : Nat) (x78 : List DV) (x79 : Int) (y80 : Int) (y82 : Nat)
def out171 (v : Nat × List DV) : AV := (.d (.sl v.fst v.snd))
noncomputable def st171 : S171 → ASt
  | .c0 a57 a58 a59 a60 => ent cfz 171 [(.d (.sl a57 a58)), (.fn (.func 172) [] [(.ip a59), (.ip a60)])]
  | .c1 x61 x62 x63 x64 x65 y66 => ⟨⟨171, sp 22 0 [(1, (.fn (.func 172) [] [(.ip x61), (.ip x62)])), (5, (.d (.v (.slice .none 0 0)))), (8, (.d (.sl x63 x64))), (9, (.d (.v (.int .i64 x65)))), (10, (.d (.v (.int .i64 y66))))], [(.code (cd cfz.P 171 [1, 1, 0, 1, 0, 0])), (.inLoop (cd cfz.P 171 [1, 1, 0, 1, 0, 0])), (.inBlock 0), (.code (cd cfz.P 171 [1, 1, 1]))], [], false, .none⟩, [], []⟩
  | .c2 x72 x73 y74 y75 y76 x77 x78 x79 y80 y82 => ⟨⟨171, sp 22 0 [(1, (.fn (.func 172) [] [(.ip x72), (.ip x73)])), (5, (.own 1 y74 1 y75 y76)), (8, (.d (.sl x77 x78))), (9, (.d (.v (.int .i64 x79)))), (10, (.d (.v (.int .i64 y80))))], [(.code (cd cfz.P 171 [1, 1, 0, 1, 0, 0])), (.inLoop (cd cfz.P 171 [1, 1, 0, 1, 0, 0])), (.inBlock 0), (.code (cd cfz.P 171 [1, 1, 1]))], [], false, .none⟩, [], [(.tail 0), (.tail y82)]⟩
noncomputable def B171 : S171 → Tr S171 (Nat × List DV)
  | .c0 a57 a58 a59 a60 => (.nxt (.c1 a59 a60 a57 a58 ((↑a57 : Int)) 0))
  | .c1 x61 x62 x63 x64 x65 y66 => (.br (decide (y66 < x65))
  (.ask (.le 0 y66) (.ask (.lt y66 ((↑x63 : Int))) (.ask (.leN (y66.toNat * 1) x64.length) (.ask (.prop (Option.map AV.d (List.drop (y66.toNat * 1) x64)[0]? = some (AV.d (DV.v (Value.int IntKind.i64 (dI (cel x64 (y66.toNat * 1)))))))) (.bind (F172 (dI (cel x64 (y66.toNat * 1))) x61 x62) fun v71 =>
  (.sees [(.d (.v (.int .i64 (dI (cel x64 (y66.toNat * 1)))))), (.ip x61), (.ip x62)] (.ask (.in64 (y66 + 1)) (.nxt (.c2 x61 x62 0 1 [(.v (.int .i64 v71))] x63 x64 x65 (y66 + 1) 0)))))))))
  (.ret (0, [])))
  | .c2 x72 x73 y74 y75 y76 x77 x78 x79 y80 y82 => (.br (decide (y80 < x79))
  (.ask (.le 0 y80) (.ask (.lt y80 ((↑x77 : Int))) (.ask (.leN (y80.toNat * 1) x78.length) (.ask (.prop (Option.map AV.d (List.drop (y80.toNat * 1) x78)[0]? = some (AV.d (DV.v (Value.int IntKind.i64 (dI (cel x78 (y80.toNat * 1)))))))) (.bind (F172 (dI (cel x78 (y80.toNat * 1))) x72 x73) fun v83 =>
  (.sees [(.d (.v (.int .i64 (dI (cel x78 (y80.toNat * 1)))))), (.ip x72), (.ip x73)] (.ask (.eqN y74 y82) (.ask (.fits (y75 + 1) 8) (.ask (.in64 (y80 + 1)) (.nxt (.c2 x72 x73 (y82 + 1) (y75 + 1) (y76 ++ [DV.v (Value.int IntKind.i64 v83)]) x77 x78 x79 (y80 + 1) (y82 + 1))))))))))))
  (.ret (y75, y76)))
noncomputable def F171 (a57 : Nat) (a58 : List DV) (a59 : List DV) (a60 : List DV) : Option (Nat × List DV) := res B171 (.c0 a57 a58 a59 a60)
noncomputable def D171_0 (a57 : Nat) (a58 : List DV) (a59 : List DV) (a60 : List DV) : DT cfz := (.go 17 [] [] (.cut 0 [[1, 5, 8, 9, 10]] []))
theorem k171_0 (a57 : Nat) (a58 : List DV) (a59 : List DV) (a60 : List DV) : xrun cfz 171 (D171_0 a57 a58 a59 a60) [] (st171 (.c0 a57 a58 a59 a60)) = (B171 (.c0 a57 a58 a59 a60)).mach st171 out171 := by kernel_rfl
noncomputable def D171_1 (x61 : List DV) (x62 : List DV) (x63 : Nat) (x64 : List DV) (x65 : Int) (y66 : Int) : DT cfz := (.go 5 [] [] (.split 11 (.go 14 [(.br true), (.as (.d (.v (.int .i64 (dI (cel x64 (y66.toNat * 1)))))))] [0] (.bind (f172 (dI (cel x64 (y66.toNat * 1))) x61 x62) fun v71 => (.go 11 [(.ck 0)] [1, 2, 3] (.cut 2 [[1, 5, 8, 9, 10]] [])))) (.go 8 [(.br false)] [0] .fin)))
theorem k171_1 (x61 : List DV) (x62 : List DV) (x63 : Nat) (x64 : List DV) (x65 : Int) (y66 : Int) : xrun cfz 171 (D171_1 x61 x62 x63 x64 x65 y66) [] (st171 (.c1 x61 x62 x63 x64 x65 y66)) = (B171 (.c1 x61 x62 x63 x64 x65 y66)).mach st171 out171 := by kernel_rfl
noncomputable def D171_2 (x72 : List DV) (x73 : List DV) (y74 : Nat) (y75 : Nat) (y76 : List DV) (x77 : Nat) (x78 : List DV) (x79 : Int) (y80 : Int) (y82 : Nat) : DT cfz := (.go 5 [] [] (.split 11 (.go 14 [(.br true), (.as (.d (.v (.int .i64 (dI (cel x78 (y80.toNat * 1)))))))] [0] (.bind (f172 (dI (cel x78 (y80.toNat * 1))) x72 x73) fun v83 => (.go 11 [(.ck 0)] [2, 3] (.cut 2 [[1, 5, 8, 9, 10]] [])))) (.go 8 [(.br false)] [0] .fin)))
theorem k171_2 (x72 : List DV) (x73 : List DV) (y74 : Nat) (y75 : Nat) (y76 : List DV) (x77 : Nat) (x78 : List DV) (x79 : Int) (y80 : Int) (y82 : Nat) : xrun cfz 171 (D171_2 x72 x73 y74 y75 y76 x77 x78 x79 y80 y82) [] (st171 (.c2 x72 x73 y74 y75 y76 x77 x78 x79 y80 y82)) = (B171 (.c2 x72 x73 y74 y75 y76 x77 x78 x79 y80 y82)).mach st171 out171 := by kernel_rfl
theorem ok171 : ∀ s, ∃ d, xrun cfz 171 d [] (st171 s) = (B171 s).mach st171 out171
  | .c0 a57 a58 a59 a60 => ⟨_, k171_0 a57 a58 a59 a60⟩
  | .c1 x61 x62 x63 x64 x65 y66 => ⟨_, k171_1 x61 x62 x63 x64 x65 y66⟩
  | .c2 x72 x73 y74 y75 y76 x77 x78 x79 y80 y82 => ⟨_, k171_2 x72 x73 y74 y75 y76 x77 x78 x79 y80 y82⟩
theorem f171 (a57 : Nat) (a58 : List DV) (a59 : List DV) (a60 : List DV) (v : Nat × List DV) (h : F171 a57 a58 a59 a60 = some v) : PureCalls cfz.P cfz.glob 171 [(.d (.sl a57 a58)), (.fn (.func 172) [] [(.ip a59), (.ip a60)])] (out171 v) := tree_pure knil ok171 (s := .c0 a57 a58 a59 a60) rfl (by kernel_rfl) v h
inductive S107 where
  | c0 (a102 : Nat) (a103 : List DV)
  | c1 (x104 : Nat) (x105 : List DV) (x106 : Int) (y107 : Int)
def out107 (v : Int) : AV := (.d (.v (.int .i64 v)))
noncomputable def st107 : S107 → ASt
  | .c0 a102 a103 => ent cfz 107 [(.d (.sl a102 a103))]
  | .c1 x104 x105 x106 y107 => ⟨⟨107, sp 15 0 [(5, (.d (.sl x104 x105))), (6, (.d (.v (.int .i64 x106)))), (7, (.d (.v (.int .i64 y107))))], [(.code (cd cfz.P 107 [1, 0, 1, 0, 0])), (.inLoop (cd cfz.P 107 [1, 0, 1, 0, 0])), (.inBlock 0), (.code (cd cfz.P 107 [1, 1]))], [], false, .none⟩, [], []⟩
noncomputable def B107 : S107 → Tr S107 (Int)
  | .c0 a102 a103 => (.nxt (.c1 a102 a103 ((↑a102 : Int)) 0))
  | .c1 x104 x105 x106 y107 => (.br (decide (y107 < x106))
  (.ask (.le 0 y107) (.ask (.lt y107 ((↑x104 : Int))) (.ask (.leN (y107.toNat * 1) x105.length) (.ask (.prop (Option.map AV.d (List.drop (y107.toNat * 1) x105)[0]? = some (AV.d (DV.v (Value.int IntKind.i64 (dI (cel x105 (y107.toNat * 1)))))))) (.br (dI (cel x105 (y107.toNat * 1)) != 0)
  (.ret (dI (cel x105 (y107.toNat * 1))))
  (.ask (.in64 (y107 + 1)) (.nxt (.c1 x104 x105 x106 (y107 + 1)))))))))
  (.ret 0))
noncomputable def F107 (a102 : Nat) (a103 : List DV) : Option (Int) := res B107 (.c0 a102 a103)
noncomputable def D107_0 (a102 : Nat) (a103 : List DV) : DT cfz := (.go 13 [] [] (.cut 0 [[5, 6, 7]] []))
theorem k107_0 (a102 : Nat) (a103 : List DV) : xrun cfz 107 (D107_0 a102 a103) [] (st107 (.c0 a102 a103)) = (B107 (.c0 a102 a103)).mach st107 out107 := by kernel_rfl
noncomputable def D107_1 (x104 : Nat) (x105 : List DV) (x106 : Int) (y107 : Int) : DT cfz := (.go 5 [] [] (.split 8 (.go 15 [(.br true), (.as (.d (.v (.int .i64 (dI (cel x105 (y107.toNat * 1)))))))] [0] (.split 12 (.go 7 [(.br true)] [0] .fin) (.go 8 [(.br false)] [0] (.cut 0 [[5, 6, 7]] [])))) (.go 7 [(.br false)] [0] .fin)))
theorem k107_1 (x104 : Nat) (x105 : List DV) (x106 : Int) (y107 : Int) : xrun cfz 107 (D107_1 x104 x105 x106 y107) [] (st107 (.c1 x104 x105 x106 y107)) = (B107 (.c1 x104 x105 x106 y107)).mach st107 out107 := by kernel_rfl
theorem ok107 : ∀ s, ∃ d, xrun cfz 107 d [] (st107 s) = (B107 s).mach st107 out107
  | .c0 a102 a103 => ⟨_, k107_0 a102 a103⟩
  | .c1 x104 x105 x106 y107 => ⟨_, k107_1 x104 x105 x106 y107⟩
theorem f107 (a102 : Nat) (a103 : List DV) (v : Int) (h : F107 a102 a103 = some v) : PureCalls cfz.P cfz.glob 107 [(.d (.sl a102 a103))] (out107 v) := tree_pure knil ok107 (s := .c0 a102 a103) rfl (by kernel_rfl) v h
inductive S126 where
  | c0 (a53 : Nat) (a54 : List DV) (a55 : Int) (a56 : Int)
  | c1 (x85 : Nat) (x86 : List DV) (x87 : Int) (y88 : Int) (x89 : Int) (x90 : Int)
  | c2 (y93 : Nat) (y94 : Nat) (y95 : List DV) (x96 : Nat) (x97 : List DV) (x98 : Int) (y99 : Int) (x100 : Int) (x101 : Int) (y111 : Nat)
def out126 (v : Int) : AV := (.d (.v (.int .i64 v)))
noncomputable def st126 : S126 → ASt
  | .c0 a53 a54 a55 a56 => ent cfz 126 [(.d (.sl a53 a54)), (.d (.v (.int .i64 a55))), (.d (.v (.int .i64 a56)))]
  | .c1 x85 x86 x87 y88 x89 x90 => ⟨⟨171, sp 22 0 [(1, (.fn (.func 172) [] [(.ptr 0 0), (.ptr 1 0)])), (5, (.d (.v (.slice .none 0 0)))), (8, (.d (.sl x85 x86))), (9, (.d (.v (.int .i64 x87)))), (10, (.d (.v (.int .i64 y88))))], [(.code (cd cfz.P 171 [1, 1, 0, 1, 0, 0])), (.inLoop (cd cfz.P 171 [1, 1, 0, 1, 0, 0])), (.inBlock 0), (.code (cd cfz.P 171 [1, 1, 1]))], [], false, .none⟩, [⟨126, sp 11 0 [], [(.regC (opsAt cfz.P 126 [1, 0]) false 2), (.code (cd cfz.P 171 [1, 1, 1, 1]))], [], false, .none⟩], [(.cells [(.d (.v (.int .i64 x89)))] 3), (.cells [(.d (.v (.int .i64 x90)))] 3)]⟩
  | .c2 y93 y94 y95 x96 x97 x98 y99 x100 x101 y111 => ⟨⟨171, sp 22 0 [(1, (.fn (.func 172) [] [(.ptr 0 0), (.ptr 1 0)])), (5, (.own 3 y93 1 y94 y95)), (8, (.d (.sl x96 x97))), (9, (.d (.v (.int .i64 x98)))), (10, (.d (.v (.int .i64 y99))))], [(.code (cd cfz.P 171 [1, 1, 0, 1, 0, 0])), (.inLoop (cd cfz.P 171 [1, 1, 0, 1, 0, 0])), (.inBlock 0), (.code (cd cfz.P 171 [1, 1, 1]))], [], false, .none⟩, [⟨126, sp 11 0 [], [(.regC (opsAt cfz.P 126 [1, 0]) false 2), (.code (cd cfz.P 171 [1, 1, 1, 1]))], [], false, .none⟩], [(.cells [(.d (.v (.int .i64 x100)))] 3), (.cells [(.d (.v (.int .i64 x101)))] 3), (.tail 0), (.tail y111)]⟩
noncomputable def B126 : S126 → Tr S126 (Int)
  | .c0 a53 a54 a55 a56 => (.nxt (.c1 a53 a54 ((↑a53 : Int)) 0 a55 a56))
  | .c1 x85 x86 x87 y88 x89 x90 => (.br (decide (y88 < x87))
  (.ask (.le 0 y88) (.ask (.lt y88 ((↑x85 : Int))) (.ask (.leN (y88.toNat * 1) x86.length) (.ask (.prop (Option.map AV.d (List.drop (y88.toNat * 1) x86)[0]? = some (AV.d (DV.v (Value.int IntKind.i64 (dI (cel x86 (y88.toNat * 1)))))))) (.bind (F172 (dI (cel x86 (y88.toNat * 1))) [(.v (.int .i64 x89))] [(.v (.int .i64 x90))]) fun v92 =>
  (.sees [(.d (.v (.int .i64 (dI (cel x86 (y88.toNat * 1)))))), (.ip [(.v (.int .i64 x89))]), (.ip [(.v (.int .i64 x90))])] (.ask (.in64 (y88 + 1)) (.nxt (.c2 0 1 [(.v (.int .i64 v92))] x85 x86 x87 (y88 + 1) x89 x90 0)))))))))
  (.bind (F107 0 []) fun v108 =>
  (.sees [(.d (.sl 0 []))] (.ret v108))))
  | .c2 y93 y94 y95 x96 x97 x98 y99 x100 x101 y111 => (.br (decide (y99 < x98))
  (.ask (.le 0 y99) (.ask (.lt y99 ((↑x96 : Int))) (.ask (.leN (y99.toNat * 1) x97.length) (.ask (.prop (Option.map AV.d (List.drop (y99.toNat * 1) x97)[0]? = some (AV.d (DV.v (Value.int IntKind.i64 (dI (cel x97 (y99.toNat * 1)))))))) (.bind (F172 (dI (cel x97 (y99.toNat * 1))) [(.v (.int .i64 x100))] [(.v (.int .i64 x101))]) fun v114 =>
  (.sees [(.d (.v (.int .i64 (dI (cel x97 (y99.toNat * 1)))))), (.ip [(.v (.int .i64 x100))]), (.ip [(.v (.int .i64 x101))])] (.ask (.eqN y93 y111) (.ask (.fits (y94 + 1) 8) (.ask (.in64 (y99 + 1)) (.nxt (.c2 (y111 + 1) (y94 + 1) (y95 ++ [DV.v (Value.int IntKind.i64 v114)]) x96 x97 x98 (y99 + 1) x100 x101 (y111 + 1))))))))))))
  (.bind (F107 y94 y95) fun v115 =>
  (.sees [(.d (.sl y94 y95))] (.ret v115))))
noncomputable def F126 (a53 : Nat) (a54 : List DV) (a55 : Int) (a56 : Int) : Option (Int) := res B126 (.c0 a53 a54 a55 a56)
noncomputable def D126_0 (a53 : Nat) (a54 : List DV) (a55 : Int) (a56 : Int) : DT cfz := (.go 28 [.enter] [] (.cut 2 [[1, 5, 8, 9, 10], []] []))
theorem k126_0 (a53 : Nat) (a54 : List DV) (a55 : Int) (a56 : Int) : xrun cfz 126 (D126_0 a53 a54 a55 a56) [] (st126 (.c0 a53 a54 a55 a56)) = (B126 (.c0 a53 a54 a55 a56)).mach st126 out126 := by kernel_rfl
noncomputable def D126_1 (x85 : Nat) (x86 : List DV) (x87 : Int) (y88 : Int) (x89 : Int) (x90 : Int) : DT cfz := (.go 5 [] [] (.split 11 (.go 14 [(.br true), (.as (.d (.v (.int .i64 (dI (cel x86 (y88.toNat * 1)))))))] [0] (.bind (f172 (dI (cel x86 (y88.toNat * 1))) [(.v (.int .i64 x89))] [(.v (.int .i64 x90))]) fun v92 => (.go 11 [(.ck 0)] [1, 2, 3] (.cut 4 [[1, 5, 8, 9, 10], []] [])))) (.go 9 [(.br false)] [0] (.bind (f107 0 []) fun v108 => (.go 4 [(.ck 0)] [] .fin)))))
theorem k126_1 (x85 : Nat) (x86 : List DV) (x87 : Int) (y88 : Int) (x89 : Int) (x90 : Int) : xrun cfz 126 (D126_1 x85 x86 x87 y88 x89 x90) [] (st126 (.c1 x85 x86 x87 y88 x89 x90)) = (B126 (.c1 x85 x86 x87 y88 x89 x90)).mach st126 out126 := by kernel_rfl
noncomputable def D126_2 (y93 : Nat) (y94 : Nat) (y95 : List DV) (x96 : Nat) (x97 : List DV) (x98 : Int) (y99 : Int) (x100 : Int) (x101 : Int) (y111 : Nat) : DT cfz := (.go 5 [] [] (.split 11 (.go 14 [(.br true), (.as (.d (.v (.int .i64 (dI (cel x97 (y99.toNat * 1)))))))] [0] (.bind (f172 (dI (cel x97 (y99.toNat * 1))) [(.v (.int .i64 x100))] [(.v (.int .i64 x101))]) fun v114 => (.go 11 [(.ck 0)] [2, 3] (.cut 4 [[1, 5, 8, 9, 10], []] [])))) (.go 9 [(.br false)] [0] (.bind (f107 y94 y95) fun v115 => (.go 4 [(.ck 0)] [] .fin)))))
theorem k126_2 (y93 : Nat) (y94 : Nat) (y95 : List DV) (x96 : Nat) (x97 : List DV) (x98 : Int) (y99 : Int) (x100 : Int) (x101 : Int) (y111 : Nat) : xrun cfz 126 (D126_2 y93 y94 y95 x96 x97 x98 y99 x100 x101 y111) [] (st126 (.c2 y93 y94 y95 x96 x97 x98 y99 x100 x101 y111)) = (B126 (.c2 y93 y94 y95 x96 x97 x98 y99 x100 x101 y111)).mach st126 out126 := by kernel_rfl
theorem ok126 : ∀ s, ∃ d, xrun cfz 126 d [] (st126 s) = (B126 s).mach st126 out126
  | .c0 a53 a54 a55 a56 => ⟨_, k126_0 a53 a54 a55 a56⟩
  | .c1 x85 x86 x87 y88 x89 x90 => ⟨_, k126_1 x85 x86 x87 y88 x89 x90⟩
  | .c2 y93 y94 y95 x96 x97 x98 y99 x100 x101 y111 => ⟨_, k126_2 y93 y94 y95 x96 x97 x98 y99 x100 x101 y111⟩
theorem f126 (a53 : Nat) (a54 : List DV) (a55 : Int) (a56 : Int) (v : Int) (h : F126 a53 a54 a55 a56 = some v) : PureCalls cfz.P cfz.glob 126 [(.d (.sl a53 a54)), (.d (.v (.int .i64 a55))), (.d (.v (.int .i64 a56)))] (out126 v) := tree_pure knil ok126 (s := .c0 a53 a54 a55 a56) rfl (by kernel_rfl) v h
inductive S169 where
  | c0 (a49 : Nat) (a50 : List DV)
def out169 (v : Int) : AV := (.d (.v (.int .i64 v)))
noncomputable def st169 : S169 → ASt
  | .c0 a49 a50 => ent cfz 169 [(.d (.sl a49 a50))]
noncomputable def B169 : S169 → Tr S169 (Int)
  | .c0 a49 a50 => (.bind (F109 ((↑a49 : Int) == 0) 12) fun v51 =>
  (.sees [(.d (.v (.bool ((↑a49 : Int) == 0)))), (.d (.v (.int .i64 12)))] (.bind (F109 (decide ((↑a49 : Int) > 8)) 5) fun v52 =>
  (.sees [(.d (.v (.bool (decide ((↑a49 : Int) > 8))))), (.d (.v (.int .i64 5)))] (.bind (F126 a49 a50 0 6) fun v116 =>
  (.sees [(.d (.sl a49 a50)), (.d (.v (.int .i64 0))), (.d (.v (.int .i64 6)))] (.bind (F107 3 [(.v (.int .i64 v51)), (.v (.int .i64 v52)), (.v (.int .i64 v116))]) fun v117 =>
  (.sees [(.d (.sl 3 [(.v (.int .i64 v51)), (.v (.int .i64 v52)), (.v (.int .i64 v116))]))] (.ret v117)))))))))
noncomputable def F169 (a49 : Nat) (a50 : List DV) : Option (Int) := res B169 (.c0 a49 a50)
noncomputable def D169_0 (a49 : Nat) (a50 : List DV) : DT cfz := (.go 9 [] [] (.bind (f109 ((↑a49 : Int) == 0) 12) fun v51 => (.go 4 [(.ck 0)] [] (.bind (f109 (decide ((↑a49 : Int) > 8)) 5) fun v52 => (.go 2 [(.ck 1)] [] (.bind (f126 a49 a50 0 6) fun v116 => (.go 2 [(.ck 2)] [] (.bind (f107 3 [(.v (.int .i64 v51)), (.v (.int .i64 v52)), (.v (.int .i64 v116))]) fun v117 => (.go 4 [(.ck 3)] [] .fin)))))))))
theorem k169_0 (a49 : Nat) (a50 : List DV) : xrun cfz 169 (D169_0 a49 a50) [] (st169 (.c0 a49 a50)) = (B169 (.c0 a49 a50)).mach st169 out169 := by kernel_rfl
theorem ok169 : ∀ s, ∃ d, xrun cfz 169 d [] (st169 s) = (B169 s).mach st169 out169
  | .c0 a49 a50 => ⟨_, k169_0 a49 a50⟩
theorem f169 (a49 : Nat) (a50 : List DV) (v : Int) (h : F169 a49 a50 = some v) : PureCalls cfz.P cfz.glob 169 [(.d (.sl a49 a50))] (out169 v) := tree_pure knil ok169 (s := .c0 a49 a50) rfl (by kernel_rfl) v h
inductive S37 where
  | c0 (a176 : Bool) (a177 : Int)
def out37 (v : Int) : AV := (.d (.v (.int .i64 v)))
noncomputable def st37 : S37 → ASt
  | .c0 a176 a177 => ent cfz 37 [(.d (.v (.bool a176))), (.d (.v (.int .i64 a177)))]
noncomputable def B37 : S37 → Tr S37 (Int)
  | .c0 a176 a177 => (.br a176
  (.ret a177)
  (.ret 0))
noncomputable def F37 (a176 : Bool) (a177 : Int) : Option (Int) := res B37 (.c0 a176 a177)
noncomputable def D37_0 (a176 : Bool) (a177 : Int) : DT cfz := (.go 9 [] [] (.split 5 (.go 7 [(.br true)] [0] .fin) (.go 7 [(.br false)] [0] .fin)))
theorem k37_0 (a176 : Bool) (a177 : Int) : xrun cfz 37 (D37_0 a176 a177) [] (st37 (.c0 a176 a177)) = (B37 (.c0 a176 a177)).mach st37 out37 := by kernel_rfl
theorem ok37 : ∀ s, ∃ d, xrun cfz 37 d [] (st37 s) = (B37 s).mach st37 out37
  | .c0 a176 a177 => ⟨_, k37_0 a176 a177⟩
theorem f37 (a176 : Bool) (a177 : Int) (v : Int) (h : F37 a176 a177 = some v) : PureCalls cfz.P cfz.glob 37 [(.d (.v (.bool a176))), (.d (.v (.int .i64 a177)))] (out37 v) := tree_pure knil ok37 (s := .c0 a176 a177) rfl (by kernel_rfl) v h
inductive S39 where
  | c0 (a173 : Int) (a174 : Int) (a175 : Int)
def out39 (v : Int) : AV := (.d (.v (.int .i64 v)))
noncomputable def st39 : S39 → ASt
  | .c0 a173 a174 a175 => ent cfz 39 [(.d (.v (.int .i64 a173))), (.d (.v (.int .i64 a174))), (.d (.v (.int .i64 a175)))]
noncomputable def B39 : S39 → Tr S39 (Int)
  | .c0 a173 a174 a175 => (.triv _ (tv_s (decide (a173 < a174) == false)) (.triv _ (tv_s (decide (a173 < a174) == false)) (.triv _ (tv_f (decide (a173 < a174))) (.bind (F37 (if decide (a173 < a174) = true then true else decide (a173 > a175)) 3) fun v178 =>
  (.sees [(.d (.v (.bool (if decide (a173 < a174) = true then true else decide (a173 > a175))))), (.d (.v (.int .i64 3)))] (.ret v178))))))
noncomputable def F39 (a173 : Int) (a174 : Int) (a175 : Int) : Option (Int) := res B39 (.c0 a173 a174 a175)
noncomputable def D39_0 (a173 : Int) (a174 : Int) (a175 : Int) : DT cfz := (.go 14 [(.sp .none), (.sp .none), (.sp .none), .mg] [] (.bind (f37 (if decide (a173 < a174) = true then true else decide (a173 > a175)) 3) fun v178 => (.go 4 [(.ck 0)] [] .fin)))
theorem k39_0 (a173 : Int) (a174 : Int) (a175 : Int) : xrun cfz 39 (D39_0 a173 a174 a175) [] (st39 (.c0 a173 a174 a175)) = (B39 (.c0 a173 a174 a175)).mach st39 out39 := by kernel_rfl
theorem ok39 : ∀ s, ∃ d, xrun cfz 39 d [] (st39 s) = (B39 s).mach st39 out39
  | .c0 a173 a174 a175 => ⟨_, k39_0 a173 a174 a175⟩
theorem f39 (a173 : Int) (a174 : Int) (a175 : Int) (v : Int) (h : F39 a173 a174 a175 = some v) : PureCalls cfz.P cfz.glob 39 [(.d (.v (.int .i64 a173))), (.d (.v (.int .i64 a174))), (.d (.v (.int .i64 a175)))] (out39 v) := tree_pure knil ok39 (s := .c0 a173 a174 a175) rfl (by kernel_rfl) v h
inductive S20 where
  | c0 (a184 : Nat) (a185 : List DV)
  | c1 (x186 : Nat) (x187 : List DV) (y188 : Int)
def out20 (v : Int) : AV := (.d (.v (.int .i64 v)))
noncomputable def st20 : S20 → ASt
  | .c0 a184 a185 => ent cfz 20 [(.d (.sl a184 a185))]
  | .c1 x186 x187 y188 => ⟨⟨20, sp 19 0 [(0, (.d (.sl x186 x187))), (3, (.d (.v (.int .i64 y188))))], [(.code (cd cfz.P 20 [1, 0, 1, 0, 0])), (.inLoop (cd cfz.P 20 [1, 0, 1, 0, 0])), (.inBlock 0), (.code (cd cfz.P 20 [1, 1]))], [], false, .none⟩, [], []⟩
noncomputable def B20 : S20 → Tr S20 (Int)
  | .c0 a184 a185 => (.nxt (.c1 a184 a185 0))
  | .c1 x186 x187 y188 => (.br (decide (y188 < (↑x186 : Int)))
  (.ask (.le 0 y188) (.ask (.lt y188 ((↑x186 : Int))) (.ask (.leN (y188.toNat * 1) x187.length) (.ask (.prop (Option.map AV.d (List.drop (y188.toNat * 1) x187)[0]? = some (AV.d (DV.v (Value.int IntKind.i64 (dI (cel x187 (y188.toNat * 1)))))))) (.br (dI (cel x187 (y188.toNat * 1)) != 0)
  (.ask (.le 0 y188) (.ask (.lt y188 ((↑x186 : Int))) (.ask (.leN (y188.toNat * 1) x187.length) (.ask (.prop (Option.map AV.d (List.drop (y188.toNat * 1) x187)[0]? = some (AV.d (DV.v (Value.int IntKind.i64 (dI (cel x187 (y188.toNat * 1)))))))) (.ret (dI (cel x187 (y188.toNat * 1))))))))
  (.ask (.in64 (y188 + 1)) (.nxt (.c1 x186 x187 (y188 + 1)))))))))
  (.ret 0))
noncomputable def F20 (a184 : Nat) (a185 : List DV) : Option (Int) := res B20 (.c0 a184 a185)
noncomputable def D20_0 (a184 : Nat) (a185 : List DV) : DT cfz := (.go 11 [] [] (.cut 0 [[0, 3]] []))
theorem k20_0 (a184 : Nat) (a185 : List DV) : xrun cfz 20 (D20_0 a184 a185) [] (st20 (.c0 a184 a185)) = (B20 (.c0 a184 a185)).mach st20 out20 := by kernel_rfl
noncomputable def D20_1 (x186 : Nat) (x187 : List DV) (y188 : Int) : DT cfz := (.go 8 [] [] (.split 7 (.go 12 [(.br true), (.as (.d (.v (.int .i64 (dI (cel x187 (y188.toNat * 1)))))))] [0] (.split 14 (.go 10 [(.br true), (.as (.d (.v (.int .i64 (dI (cel x187 (y188.toNat * 1)))))))] [0] .fin) (.go 9 [(.br false)] [0] (.cut 0 [[0, 3]] [])))) (.go 7 [(.br false)] [0] .fin)))
theorem k20_1 (x186 : Nat) (x187 : List DV) (y188 : Int) : xrun cfz 20 (D20_1 x186 x187 y188) [] (st20 (.c1 x186 x187 y188)) = (B20 (.c1 x186 x187 y188)).mach st20 out20 := by kernel_rfl
theorem ok20 : ∀ s, ∃ d, xrun cfz 20 d [] (st20 s) = (B20 s).mach st20 out20
  | .c0 a184 a185 => ⟨_, k20_0 a184 a185⟩
  | .c1 x186 x187 y188 => ⟨_, k20_1 x186 x187 y188⟩
theorem f20 (a184 : Nat) (a185 : List DV) (v : Int) (h : F20 a184 a185 = some v) : PureCalls cfz.P cfz.glob 20 [(.d (.sl a184 a185))] (out20 v) := tree_pure knil ok20 (s := .c0 a184 a185) rfl (by kernel_rfl) v h
inductive S71 where
  | c0 (a180 : Nat) (a181 : List DV)
  | c1 (x190 : Nat) (x191 : List DV) (y192 : Int)
def out71 (v : Int) : AV := (.d (.v (.int .i64 v)))
noncomputable def st71 : S71 → ASt
  | .c0 a180 a181 => ent cfz 71 [(.d (.sl a180 a181))]
  | .c1 x190 x191 y192 => ⟨⟨71, sp 33 0 [(0, (.d (.sl x190 x191))), (4, (.d (.v (.int .i64 y192))))], [(.code (cd cfz.P 71 [1, 1, 0, 1, 0, 0])), (.inLoop (cd cfz.P 71 [1, 1, 0, 1, 0, 0])), (.inBlock 0), (.code (cd cfz.P 71 [1, 1, 1]))], [], false, .none⟩, [], []⟩
noncomputable def B71 : S71 → Tr S71 (Int)
  | .c0 a180 a181 => (.bind (F37 ((↑a180 : Int) == 0) 12) fun v182 =>
  (.sees [(.d (.v (.bool ((↑a180 : Int) == 0)))), (.d (.v (.int .i64 12)))] (.bind (F37 (decide ((↑a180 : Int) > 8)) 5) fun v183 =>
  (.sees [(.d (.v (.bool (decide ((↑a180 : Int) > 8))))), (.d (.v (.int .i64 5)))] (.bind (F20 2 [(.v (.int .i64 v182)), (.v (.int .i64 v183))]) fun v189 =>
  (.sees [(.d (.sl 2 [(.v (.int .i64 v182)), (.v (.int .i64 v183))]))] (.br (v189 != 0)
  (.ret v189)
  (.nxt (.c1 a180 a181 0)))))))))
  | .c1 x190 x191 y192 => (.br (decide (y192 < (↑x190 : Int)))
  (.ask (.le 0 y192) (.ask (.lt y192 ((↑x190 : Int))) (.ask (.leN (y192.toNat * 1) x191.length) (.ask (.prop (Option.map AV.d (List.drop (y192.toNat * 1) x191)[0]? = some (AV.d (DV.v (Value.int IntKind.i64 (dI (cel x191 (y192.toNat * 1)))))))) (.bind (F39 (dI (cel x191 (y192.toNat * 1))) 0 6) fun v193 =>
  (.sees [(.d (.v (.int .i64 (dI (cel x191 (y192.toNat * 1)))))), (.d (.v (.int .i64 0))), (.d (.v (.int .i64 6)))] (.br (v193 != 0)
  (.ret v193)
  (.ask (.in64 (y192 + 1)) (.nxt (.c1 x190 x191 (y192 + 1)))))))))))
  (.ret 0))
noncomputable def F71 (a180 : Nat) (a181 : List DV) : Option (Int) := res B71 (.c0 a180 a181)
noncomputable def D71_0 (a180 : Nat) (a181 : List DV) : DT cfz := (.go 10 [] [] (.bind (f37 ((↑a180 : Int) == 0) 12) fun v182 => (.go 4 [(.ck 0)] [] (.bind (f37 (decide ((↑a180 : Int) > 8)) 5) fun v183 => (.go 2 [(.ck 1)] [] (.bind (f20 2 [(.v (.int .i64 v182)), (.v (.int .i64 v183))]) fun v189 => (.go 8 [(.ck 2)] [] (.split 17 (.go 7 [(.br true)] [0] .fin) (.go 9 [(.br false)] [0] (.cut 0 [[0, 4]] []))))))))))
theorem k71_0 (a180 : Nat) (a181 : List DV) : xrun cfz 71 (D71_0 a180 a181) [] (st71 (.c0 a180 a181)) = (B71 (.c0 a180 a181)).mach st71 out71 := by kernel_rfl
noncomputable def D71_1 (x190 : Nat) (x191 : List DV) (y192 : Int) : DT cfz := (.go 8 [] [] (.split 22 (.go 10 [(.br true), (.as (.d (.v (.int .i64 (dI (cel x191 (y192.toNat * 1)))))))] [0] (.bind (f39 (dI (cel x191 (y192.toNat * 1))) 0 6) fun v193 => (.go 8 [(.ck 0)] [] (.split 31 (.go 7 [(.br true)] [0] .fin) (.go 9 [(.br false)] [0] (.cut 0 [[0, 4]] [])))))) (.go 7 [(.br false)] [0] .fin)))
theorem k71_1 (x190 : Nat) (x191 : List DV) (y192 : Int) : xrun cfz 71 (D71_1 x190 x191 y192) [] (st71 (.c1 x190 x191 y192)) = (B71 (.c1 x190 x191 y192)).mach st71 out71 := by kernel_rfl
theorem ok71 : ∀ s, ∃ d, xrun cfz 71 d [] (st71 s) = (B71 s).mach st71 out71
  | .c0 a180 a181 => ⟨_, k71_0 a180 a181⟩
  | .c1 x190 x191 y192 => ⟨_, k71_1 x190 x191 y192⟩
theorem f71 (a180 : Nat) (a181 : List DV) (v : Int) (h : F71 a180 a181 = some v) : PureCalls cfz.P cfz.glob 71 [(.d (.sl a180 a181))] (out71 v) := tree_pure knil ok71 (s := .c0 a180 a181) rfl (by kernel_rfl) v h
inductive S65 where
  | c0 (a245 : Nat) (a246 : List DV) (a247 : Nat) (a248 : List DV)
  | c1 (x249 : Nat) (x250 : List DV) (x251 : Nat) (x252 : List DV) (y253 : Int)
def out65 (v : Bool) : AV := (.d (.v (.bool v)))
noncomputable def st65 : S65 → ASt
  | .c0 a245 a246 a247 a248 => ent cfz 65 [(.d (.sl a245 a246)), (.d (.sl a247 a248))]
  | .c1 x249 x250 x251 x252 y253 => ⟨⟨65, sp 26 0 [(0, (.d (.sl x249 x250))), (1, (.d (.sl x251 x252))), (5, (.d (.v (.int .i64 y253))))], [(.code (cd cfz.P 65 [1, 1, 0, 1, 0, 0])), (.inLoop (cd cfz.P 65 [1, 1, 0, 1, 0, 0])), (.inBlock 0), (.code (cd cfz.P 65 [1, 1, 1]))], [], false, .none⟩, [], []⟩
noncomputable def B65 : S65 → Tr S65 (Bool)
  | .c0 a245 a246 a247 a248 => (.br ((↑a245 : Int) != (↑a247 : Int))
  (.ret false)
  (.nxt (.c1 a245 a246 a247 a248 0)))
  | .c1 x249 x250 x251 x252 y253 => (.br (decide (y253 < (↑x249 : Int)))
  (.ask (.le 0 y253) (.ask (.lt y253 ((↑x249 : Int))) (.ask (.leN (y253.toNat * 1) x250.length) (.ask (.prop (Option.map AV.d (List.drop (y253.toNat * 1) x250)[0]? = some (AV.d (DV.v (Value.int IntKind.i64 (dI (cel x250 (y253.toNat * 1)))))))) (.ask (.le 0 y253) (.ask (.lt y253 ((↑x251 : Int))) (.ask (.leN (y253.toNat * 1) x252.length) (.ask (.prop (Option.map AV.d (List.drop (y253.toNat * 1) x252)[0]? = some (AV.d (DV.v (Value.int IntKind.i64 (dI (cel x252 (y253.toNat * 1)))))))) (.br (dI (cel x250 (y253.toNat * 1)) != dI (cel x252 (y253.toNat * 1)))
  (.ret false)
  (.ask (.in64 (y253 + 1)) (.nxt (.c1 x249 x250 x251 x252 (y253 + 1)))))))))))))
  (.ret true))
noncomputable def F65 (a245 : Nat) (a246 : List DV) (a247 : Nat) (a248 : List DV) : Option (Bool) := res B65 (.c0 a245 a246 a247 a248)
noncomputable def D65_0 (a245 : Nat) (a246 : List DV) (a247 : Nat) (a248 : List DV) : DT cfz := (.go 13 [] [] (.split 10 (.go 6 [(.br true)] [0] .fin) (.go 9 [(.br false)] [0] (.cut 0 [[0, 1, 5]] []))))
theorem k65_0 (a245 : Nat) (a246 : List DV) (a247 : Nat) (a248 : List DV) : xrun cfz 65 (D65_0 a245 a246 a247 a248) [] (st65 (.c0 a245 a246 a247 a248)) = (B65 (.c0 a245 a246 a247 a248)).mach st65 out65 := by kernel_rfl
noncomputable def D65_1 (x249 : Nat) (x250 : List DV) (x251 : Nat) (x252 : List DV) (y253 : Int) : DT cfz := (.go 8 [] [] (.split 14 (.go 7 [(.br true), (.as (.d (.v (.int .i64 (dI (cel x250 (y253.toNat * 1))))))), (.as (.d (.v (.int .i64 (dI (cel x252 (y253.toNat * 1)))))))] [0] (.split 25 (.go 6 [(.br true)] [0] .fin) (.go 9 [(.br false)] [0] (.cut 0 [[0, 1, 5]] [])))) (.go 7 [(.br false)] [0] .fin)))
theorem k65_1 (x249 : Nat) (x250 : List DV) (x251 : Nat) (x252 : List DV) (y253 : Int) : xrun cfz 65 (D65_1 x249 x250 x251 x252 y253) [] (st65 (.c1 x249 x250 x251 x252 y253)) = (B65 (.c1 x249 x250 x251 x252 y253)).mach st65 out65 := by kernel_rfl
theorem ok65 : ∀ s, ∃ d, xrun cfz 65 d [] (st65 s) = (B65 s).mach st65 out65
  | .c0 a245 a246 a247 a248 => ⟨_, k65_0 a245 a246 a247 a248⟩
  | .c1 x249 x250 x251 x252 y253 => ⟨_, k65_1 x249 x250 x251 x252 y253⟩
theorem f65 (a245 : Nat) (a246 : List DV) (a247 : Nat) (a248 : List DV) (v : Bool) (h : F65 a245 a246 a247 a248 = some v) : PureCalls cfz.P cfz.glob 65 [(.d (.sl a245 a246)), (.d (.sl a247 a248))] (out65 v) := tree_pure knil ok65 (s := .c0 a245 a246 a247 a248) rfl (by kernel_rfl) v h
end Go.Kv
