/- Printed: what functions of the program come to, and the kernel's proof of it. -/
import Derived.Test.YtfdjkfmiofgclaaGreatDoorKvW
import Derived.Test.YtfdjkfmiofgclaaGreatDoorKvZ
import Derived.Test.YtfdjkfmiofgclaaGreatDoorKzA
import Derived.Test.YtfdjkfmiofgclaaGreatDoorKzW
namespace Go.Kv
set_option linter.unusedVariables false
set_option linter.unusedSimpArgs false
set_option linter.unnecessarySimpa false
open Go Go.RowKit Go.Proofs
set_option maxRecDepth 100000
/-! F33 -/
inductive S33 where
  | c0 (a14 : Nat) (a15 : List DV)
def out33 (v : Nat × List DV) : AV := (.d (.sl v.fst v.snd))
noncomputable def st33 : S33 → ASt
  | .c0 a14 a15 => ent cfz 33 [(.d (.sl a14 a15))]
noncomputable def B33 : S33 → Tr S33 (Nat × List DV)
  | .c0 a14 a15 => (.br (a14.beq 0)
  (.ask (.eqN a14 0) (.ret (0, [])))
  (.ask (.ltN 0 a14) (.ask (.eqN a15.length (a14 * 1)) (.ask (.fits a14 8) (.ret (a14, a15))))))
noncomputable def F33 (a14 : Nat) (a15 : List DV) : Option (Nat × List DV) := res B33 (.c0 a14 a15)
noncomputable def D33_0 (a14 : Nat) (a15 : List DV) : DT cfz := (.go 8 [] [] (.br (a14.beq 0) (.go 4 [(.br false)] [] .fin) (.go 4 [(.br true)] [] .fin)))
theorem k33_0 (a14 : Nat) (a15 : List DV) : xrun cfz 33 (D33_0 a14 a15) [] (st33 (.c0 a14 a15)) = (B33 (.c0 a14 a15)).mach st33 out33 := by kernel_rfl
theorem ok33 : ∀ s, ∃ d, xrun cfz 33 d [] (st33 s) = (B33 s).mach st33 out33
  | .c0 a14 a15 => ⟨_, k33_0 a14 a15⟩
theorem f33 (a14 : Nat) (a15 : List DV) (v : Nat × List DV) (h : F33 a14 a15 = some v) : PureCalls cfz.P cfz.glob 33 [(.d (.sl a14 a15))] (out33 v) := tree_pure knil ok33 (s := .c0 a14 a15) rfl (by kernel_rfl) v h

/-! F35 -/
inductive S35 where
  | c0 (a8 : Nat) (a9 : List DV)
  | c1 (x10 : Nat) (x11 : List DV) (x12 : Int) (y13 : Int)
  | c2 (y17 : Nat) (y18 : Nat) (y19 : List DV) (x20 : Nat) (x21 : List DV) (x22 : Int) (y23 : Int) (y25 : Nat)
def out35 (v : Nat × List DV) : AV := (.d (.sl v.fst v.snd))
noncomputable def st35 : S35 → ASt
  | .c0 a8 a9 => ent cfz 35 [(.d (.sl a8 a9))]
  | .c1 x10 x11 x12 y13 => ⟨⟨35, sp 19 0 [(3, (.d (.v (.slice .none 0 0)))), (6, (.d (.sl x10 x11))), (7, (.d (.v (.int .i64 x12)))), (8, (.d (.v (.int .i64 y13))))], [(.code (cd cfz.P 35 [1, 1, 0, 1, 0, 0])), (.inLoop (cd cfz.P 35 [1, 1, 0, 1, 0, 0])), (.inBlock 0), (.code (cd cfz.P 35 [1, 1, 1]))], [], false, .none⟩, [], []⟩
  | .c2 y17 y18 y19 x20 x21 x22 y23 y25 => ⟨⟨35, sp 19 0 [(3, (.own 1 y17 1 y18 y19)), (6, (.d (.sl x20 x21))), (7, (.d (.v (.int .i64 x22)))), (8, (.d (.v (.int .i64 y23))))], [(.code (cd cfz.P 35 [1, 1, 0, 1, 0, 0])), (.inLoop (cd cfz.P 35 [1, 1, 0, 1, 0, 0])), (.inBlock 0), (.code (cd cfz.P 35 [1, 1, 1]))], [], false, .none⟩, [], [(.tail 0), (.tail y25)]⟩
noncomputable def B35 : S35 → Tr S35 (Nat × List DV)
  | .c0 a8 a9 => (.nxt (.c1 a8 a9 ((↑a8 : Int)) 0))
  | .c1 x10 x11 x12 y13 => (.br (decide (y13 < x12))
  (.ask (.le 0 y13) (.ask (.lt y13 ((↑x10 : Int))) (.ask (.leN (y13.toNat * 1) x11.length) (.ask (.prop (Option.map AV.d (List.drop (y13.toNat * 1) x11)[0]? = some (AV.d (DV.sl (dN (cel x11 (y13.toNat * 1))) (dL (cel x11 (y13.toNat * 1))))))) (.bind (F33 (dN (cel x11 (y13.toNat * 1))) (dL (cel x11 (y13.toNat * 1)))) fun v16 =>
  (.sees [(.d (.sl (dN (cel x11 (y13.toNat * 1))) (dL (cel x11 (y13.toNat * 1)))))] (.ask (.in64 (y13 + 1)) (.nxt (.c2 0 1 [(.sl v16.fst v16.snd)] x10 x11 x12 (y13 + 1) 0)))))))))
  (.ret (0, [])))
  | .c2 y17 y18 y19 x20 x21 x22 y23 y25 => (.br (decide (y23 < x22))
  (.ask (.le 0 y23) (.ask (.lt y23 ((↑x20 : Int))) (.ask (.leN (y23.toNat * 1) x21.length) (.ask (.prop (Option.map AV.d (List.drop (y23.toNat * 1) x21)[0]? = some (AV.d (DV.sl (dN (cel x21 (y23.toNat * 1))) (dL (cel x21 (y23.toNat * 1))))))) (.bind (F33 (dN (cel x21 (y23.toNat * 1))) (dL (cel x21 (y23.toNat * 1)))) fun v26 =>
  (.sees [(.d (.sl (dN (cel x21 (y23.toNat * 1))) (dL (cel x21 (y23.toNat * 1)))))] (.ask (.eqN y17 y25) (.ask (.fits (y18 + 1) 24) (.ask (.in64 (y23 + 1)) (.nxt (.c2 (y25 + 1) (y18 + 1) (y19 ++ [DV.sl v26.fst v26.snd]) x20 x21 x22 (y23 + 1) (y25 + 1))))))))))))
  (.ret (y18, y19)))
noncomputable def F35 (a8 : Nat) (a9 : List DV) : Option (Nat × List DV) := res B35 (.c0 a8 a9)
noncomputable def D35_0 (a8 : Nat) (a9 : List DV) : DT cfz := (.go 17 [] [] (.cut 0 [[3, 6, 7, 8]] []))
theorem k35_0 (a8 : Nat) (a9 : List DV) : xrun cfz 35 (D35_0 a8 a9) [] (st35 (.c0 a8 a9)) = (B35 (.c0 a8 a9)).mach st35 out35 := by kernel_rfl
noncomputable def D35_1 (x10 : Nat) (x11 : List DV) (x12 : Int) (y13 : Int) : DT cfz := (.go 5 [] [] (.split 9 (.go 13 [(.br true), (.as (.d (.sl (dN (cel x11 (y13.toNat * 1))) (dL (cel x11 (y13.toNat * 1))))))] [0] (.bind (f33 (dN (cel x11 (y13.toNat * 1))) (dL (cel x11 (y13.toNat * 1)))) fun v16 => (.go 11 [(.ck 0)] [1, 2, 3] (.cut 2 [[3, 6, 7, 8]] [])))) (.go 8 [(.br false)] [0] .fin)))
theorem k35_1 (x10 : Nat) (x11 : List DV) (x12 : Int) (y13 : Int) : xrun cfz 35 (D35_1 x10 x11 x12 y13) [] (st35 (.c1 x10 x11 x12 y13)) = (B35 (.c1 x10 x11 x12 y13)).mach st35 out35 := by kernel_rfl
noncomputable def D35_2 (y17 : Nat) (y18 : Nat) (y19 : List DV) (x20 : Nat) (x21 : List DV) (x22 : Int) (y23 : Int) (y25 : Nat) : DT cfz := (.go 5 [] [] (.split 9 (.go 13 [(.br true), (.as (.d (.sl (dN (cel x21 (y23.toNat * 1))) (dL (cel x21 (y23.toNat * 1))))))] [0] (.bind (f33 (dN (cel x21 (y23.toNat * 1))) (dL (cel x21 (y23.toNat * 1)))) fun v26 => (.go 11 [(.ck 0)] [2, 3] (.cut 2 [[3, 6, 7, 8]] [])))) (.go 8 [(.br false)] [0] .fin)))
theorem k35_2 (y17 : Nat) (y18 : Nat) (y19 : List DV) (x20 : Nat) (x21 : List DV) (x22 : Int) (y23 : Int) (y25 : Nat) : xrun cfz 35 (D35_2 y17 y18 y19 x20 x21 x22 y23 y25) [] (st35 (.c2 y17 y18 y19 x20 x21 x22 y23 y25)) = (B35 (.c2 y17 y18 y19 x20 x21 x22 y23 y25)).mach st35 out35 := by kernel_rfl
theorem ok35 : ∀ s, ∃ d, xrun cfz 35 d [] (st35 s) = (B35 s).mach st35 out35
  | .c0 a8 a9 => ⟨_, k35_0 a8 a9⟩
  | .c1 x10 x11 x12 y13 => ⟨_, k35_1 x10 x11 x12 y13⟩
  | .c2 y17 y18 y19 x20 x21 x22 y23 y25 => ⟨_, k35_2 y17 y18 y19 x20 x21 x22 y23 y25⟩
theorem f35 (a8 : Nat) (a9 : List DV) (v : Nat × List DV) (h : F35 a8 a9 = some v) : PureCalls cfz.P cfz.glob 35 [(.d (.sl a8 a9))] (out35 v) := tree_pure knil ok35 (s := .c0 a8 a9) rfl (by kernel_rfl) v h

/-! F109 -/
inductive S109 where
  | c0 (a30 : Bool) (a31 : Int)
def out109 (v : Int) : AV := (.d (.v (.int .i64 v)))
noncomputable def st109 : S109 → ASt
  | .c0 a30 a31 => ent cfz 109 [(.d (.v (.bool a30))), (.d (.v (.int .i64 a31)))]
noncomputable def B109 : S109 → Tr S109 (Int)
  | .c0 a30 a31 => (.br a30
  (.ret a31)
  (.ret 0))
noncomputable def F109 (a30 : Bool) (a31 : Int) : Option (Int) := res B109 (.c0 a30 a31)
noncomputable def D109_0 (a30 : Bool) (a31 : Int) : DT cfz := (.go 9 [] [] (.split 5 (.go 7 [(.br true)] [0] .fin) (.go 7 [(.br false)] [0] .fin)))
theorem k109_0 (a30 : Bool) (a31 : Int) : xrun cfz 109 (D109_0 a30 a31) [] (st109 (.c0 a30 a31)) = (B109 (.c0 a30 a31)).mach st109 out109 := by kernel_rfl
theorem ok109 : ∀ s, ∃ d, xrun cfz 109 d [] (st109 s) = (B109 s).mach st109 out109
  | .c0 a30 a31 => ⟨_, k109_0 a30 a31⟩
theorem f109 (a30 : Bool) (a31 : Int) (v : Int) (h : F109 a30 a31 = some v) : PureCalls cfz.P cfz.glob 109 [(.d (.v (.bool a30))), (.d (.v (.int .i64 a31)))] (out109 v) := tree_pure knil ok109 (s := .c0 a30 a31) rfl (by kernel_rfl) v h

/-! F107 -/
inductive S107 where
  | c0 (a34 : Nat) (a35 : List DV)
  | c1 (x36 : Nat) (x37 : List DV) (x38 : Int) (y39 : Int)
def out107 (v : Int) : AV := (.d (.v (.int .i64 v)))
noncomputable def st107 : S107 → ASt
  | .c0 a34 a35 => ent cfz 107 [(.d (.sl a34 a35))]
  | .c1 x36 x37 x38 y39 => ⟨⟨107, sp 15 0 [(5, (.d (.sl x36 x37))), (6, (.d (.v (.int .i64 x38)))), (7, (.d (.v (.int .i64 y39))))], [(.code (cd cfz.P 107 [1, 0, 1, 0, 0])), (.inLoop (cd cfz.P 107 [1, 0, 1, 0, 0])), (.inBlock 0), (.code (cd cfz.P 107 [1, 1]))], [], false, .none⟩, [], []⟩
noncomputable def B107 : S107 → Tr S107 (Int)
  | .c0 a34 a35 => (.nxt (.c1 a34 a35 ((↑a34 : Int)) 0))
  | .c1 x36 x37 x38 y39 => (.br (decide (y39 < x38))
  (.ask (.le 0 y39) (.ask (.lt y39 ((↑x36 : Int))) (.ask (.leN (y39.toNat * 1) x37.length) (.ask (.prop (Option.map AV.d (List.drop (y39.toNat * 1) x37)[0]? = some (AV.d (DV.v (Value.int IntKind.i64 (dI (cel x37 (y39.toNat * 1)))))))) (.br (dI (cel x37 (y39.toNat * 1)) != 0)
  (.ret (dI (cel x37 (y39.toNat * 1))))
  (.ask (.in64 (y39 + 1)) (.nxt (.c1 x36 x37 x38 (y39 + 1)))))))))
  (.ret 0))
noncomputable def F107 (a34 : Nat) (a35 : List DV) : Option (Int) := res B107 (.c0 a34 a35)
noncomputable def D107_0 (a34 : Nat) (a35 : List DV) : DT cfz := (.go 13 [] [] (.cut 0 [[5, 6, 7]] []))
theorem k107_0 (a34 : Nat) (a35 : List DV) : xrun cfz 107 (D107_0 a34 a35) [] (st107 (.c0 a34 a35)) = (B107 (.c0 a34 a35)).mach st107 out107 := by kernel_rfl
noncomputable def D107_1 (x36 : Nat) (x37 : List DV) (x38 : Int) (y39 : Int) : DT cfz := (.go 5 [] [] (.split 8 (.go 15 [(.br true), (.as (.d (.v (.int .i64 (dI (cel x37 (y39.toNat * 1)))))))] [0] (.split 12 (.go 7 [(.br true)] [0] .fin) (.go 8 [(.br false)] [0] (.cut 0 [[5, 6, 7]] [])))) (.go 7 [(.br false)] [0] .fin)))
theorem k107_1 (x36 : Nat) (x37 : List DV) (x38 : Int) (y39 : Int) : xrun cfz 107 (D107_1 x36 x37 x38 y39) [] (st107 (.c1 x36 x37 x38 y39)) = (B107 (.c1 x36 x37 x38 y39)).mach st107 out107 := by kernel_rfl
theorem ok107 : ∀ s, ∃ d, xrun cfz 107 d [] (st107 s) = (B107 s).mach st107 out107
  | .c0 a34 a35 => ⟨_, k107_0 a34 a35⟩
  | .c1 x36 x37 x38 y39 => ⟨_, k107_1 x36 x37 x38 y39⟩
theorem f107 (a34 : Nat) (a35 : List DV) (v : Int) (h : F107 a34 a35 = some v) : PureCalls cfz.P cfz.glob 107 [(.d (.sl a34 a35))] (out107 v) := tree_pure knil ok107 (s := .c0 a34 a35) rfl (by kernel_rfl) v h

/-! F106 -/
inductive S106 where
  | c0 (a64 : Int) (a65 : Int) (a66 : Int)
def out106 (v : Int) : AV := (.d (.v (.int .i64 v)))
noncomputable def st106 : S106 → ASt
  | .c0 a64 a65 a66 => ent cfz 106 [(.d (.v (.int .i64 a64))), (.d (.v (.int .i64 a65))), (.d (.v (.int .i64 a66)))]
noncomputable def B106 : S106 → Tr S106 (Int)
  | .c0 a64 a65 a66 => (.triv _ (tv_s (decide (a64 < a65) == false)) (.triv _ (tv_s (decide (a64 < a65) == false)) (.triv _ (tv_f (decide (a64 < a65))) (.bind (F109 (if decide (a64 < a65) = true then true else decide (a64 > a66)) 3) fun v67 =>
  (.sees [(.d (.v (.bool (if decide (a64 < a65) = true then true else decide (a64 > a66))))), (.d (.v (.int .i64 3)))] (.ret v67))))))
noncomputable def F106 (a64 : Int) (a65 : Int) (a66 : Int) : Option (Int) := res B106 (.c0 a64 a65 a66)
noncomputable def D106_0 (a64 : Int) (a65 : Int) (a66 : Int) : DT cfz := (.go 14 [(.sp .none), (.sp .none), (.sp .none), .mg] [] (.bind (f109 (if decide (a64 < a65) = true then true else decide (a64 > a66)) 3) fun v67 => (.go 4 [(.ck 0)] [] .fin)))
theorem k106_0 (a64 : Int) (a65 : Int) (a66 : Int) : xrun cfz 106 (D106_0 a64 a65 a66) [] (st106 (.c0 a64 a65 a66)) = (B106 (.c0 a64 a65 a66)).mach st106 out106 := by kernel_rfl
theorem ok106 : ∀ s, ∃ d, xrun cfz 106 d [] (st106 s) = (B106 s).mach st106 out106
  | .c0 a64 a65 a66 => ⟨_, k106_0 a64 a65 a66⟩
theorem f106 (a64 : Int) (a65 : Int) (a66 : Int) (v : Int) (h : F106 a64 a65 a66 = some v) : PureCalls cfz.P cfz.glob 106 [(.d (.v (.int .i64 a64))), (.d (.v (.int .i64 a65))), (.d (.v (.int .i64 a66)))] (out106 v) := tree_pure knil ok106 (s := .c0 a64 a65 a66) rfl (by kernel_rfl) v h

/-! F172 -/
inductive S172 where
  | c0 (a61 : Int) (a62 : List DV) (a63 : List DV)
def out172 (v : Int) : AV := (.d (.v (.int .i64 v)))
noncomputable def st172 : S172 → ASt
  | .c0 a61 a62 a63 => ent cfz 172 [(.d (.v (.int .i64 a61))), (.ip a62), (.ip a63)]
noncomputable def B172 : S172 → Tr S172 (Int)
  | .c0 a61 a62 a63 => (.ask (.prop (Option.map AV.d a62[0]? = some (AV.d (DV.v (Value.int IntKind.i64 (dI (cel a62 0))))))) (.ask (.prop (Option.map AV.d a63[0]? = some (AV.d (DV.v (Value.int IntKind.i64 (dI (cel a63 0))))))) (.bind (F106 a61 (dI (cel a62 0)) (dI (cel a63 0))) fun v68 =>
  (.sees [(.d (.v (.int .i64 a61))), (.d (.v (.int .i64 (dI (cel a62 0))))), (.d (.v (.int .i64 (dI (cel a63 0)))))] (.ret v68)))))
noncomputable def F172 (a61 : Int) (a62 : List DV) (a63 : List DV) : Option (Int) := res B172 (.c0 a61 a62 a63)
noncomputable def D172_0 (a61 : Int) (a62 : List DV) (a63 : List DV) : DT cfz := (.go 9 [(.as (.d (.v (.int .i64 (dI (cel a62 0)))))), (.as (.d (.v (.int .i64 (dI (cel a63 0))))))] [] (.bind (f106 a61 (dI (cel a62 0)) (dI (cel a63 0))) fun v68 => (.go 4 [(.ck 0)] [] .fin)))
theorem k172_0 (a61 : Int) (a62 : List DV) (a63 : List DV) : xrun cfz 172 (D172_0 a61 a62 a63) [] (st172 (.c0 a61 a62 a63)) = (B172 (.c0 a61 a62 a63)).mach st172 out172 := by kernel_rfl
theorem ok172 : ∀ s, ∃ d, xrun cfz 172 d [] (st172 s) = (B172 s).mach st172 out172
  | .c0 a61 a62 a63 => ⟨_, k172_0 a61 a62 a63⟩
theorem f172 (a61 : Int) (a62 : List DV) (a63 : List DV) (v : Int) (h : F172 a61 a62 a63 = some v) : PureCalls cfz.P cfz.glob 172 [(.d (.v (.int .i64 a61))), (.ip a62), (.ip a63)] (out172 v) := tree_pure knil ok172 (s := .c0 a61 a62 a63) rfl (by kernel_rfl) v h

/-! F171 -/
inductive S171 where
  | c0 (a51 : Nat) (a52 : List DV) (a53 : List DV) (a54 : List DV)
  | c1 (x55 : List DV) (x56 : List DV) (x57 : Nat) (x58 : List DV) (x59 : Int) (y60 : Int)
  | c2 (x70 : List DV) (x71 : List DV) (y72 : Nat) (y73 : Nat) (y74 : List DV) (x75 : Nat) (x76 : List DV) (x77 : Int) (y78 : Int) (y80 : Nat)
def out171 (v : Nat × List DV) : AV := (.d (.sl v.fst v.snd))
noncomputable def st171 : S171 → ASt
  | .c0 a51 a52 a53 a54 => ent cfz 171 [(.d (.sl a51 a52)), (.fn (.func 172) [] [(.ip a53), (.ip a54)])]
  | .c1 x55 x56 x57 x58 x59 y60 => ⟨⟨171, sp 22 0 [(1, (.fn (.func 172) [] [(.ip x55), (.ip x56)])), (5, (.d (.v (.slice .none 0 0)))), (8, (.d (.sl x57 x58))), (9, (.d (.v (.int .i64 x59)))), (10, (.d (.v (.int .i64 y60))))], [(.code (cd cfz.P 171 [1, 1, 0, 1, 0, 0])), (.inLoop (cd cfz.P 171 [1, 1, 0, 1, 0, 0])), (.inBlock 0), (.code (cd cfz.P 171 [1, 1, 1]))], [], false, .none⟩, [], []⟩
  | .c2 x70 x71 y72 y73 y74 x75 x76 x77 y78 y80 => ⟨⟨171, sp 22 0 [(1, (.fn (.func 172) [] [(.ip x70), (.ip x71)])), (5, (.own 1 y72 1 y73 y74)), (8, (.d (.sl x75 x76))), (9, (.d (.v (.int .i64 x77)))), (10, (.d (.v (.int .i64 y78))))], [(.code (cd cfz.P 171 [1, 1, 0, 1, 0, 0])), (.inLoop (cd cfz.P 171 [1, 1, 0, 1, 0, 0])), (.inBlock 0), (.code (cd cfz.P 171 [1, 1, 1]))], [], false, .none⟩, [], [(.tail 0), (.tail y80)]⟩
noncomputable def B171 : S171 → Tr S171 (Nat × List DV)
  | .c0 a51 a52 a53 a54 => (.nxt (.c1 a53 a54 a51 a52 ((↑a51 : Int)) 0))
  | .c1 x55 x56 x57 x58 x59 y60 => (.br (decide (y60 < x59))
  (.ask (.le 0 y60) (.ask (.lt y60 ((↑x57 : Int))) (.ask (.leN (y60.toNat * 1) x58.length) (.ask (.prop (Option.map AV.d (List.drop (y60.toNat * 1) x58)[0]? = some (AV.d (DV.v (Value.int IntKind.i64 (dI (cel x58 (y60.toNat * 1)))))))) (.bind (F172 (dI (cel x58 (y60.toNat * 1))) x55 x56) fun v69 =>
  (.sees [(.d (.v (.int .i64 (dI (cel x58 (y60.toNat * 1)))))), (.ip x55), (.ip x56)] (.ask (.in64 (y60 + 1)) (.nxt (.c2 x55 x56 0 1 [(.v (.int .i64 v69))] x57 x58 x59 (y60 + 1) 0)))))))))
  (.ret (0, [])))
  | .c2 x70 x71 y72 y73 y74 x75 x76 x77 y78 y80 => (.br (decide (y78 < x77))
  (.ask (.le 0 y78) (.ask (.lt y78 ((↑x75 : Int))) (.ask (.leN (y78.toNat * 1) x76.length) (.ask (.prop (Option.map AV.d (List.drop (y78.toNat * 1) x76)[0]? = some (AV.d (DV.v (Value.int IntKind.i64 (dI (cel x76 (y78.toNat * 1)))))))) (.bind (F172 (dI (cel x76 (y78.toNat * 1))) x70 x71) fun v81 =>
  (.sees [(.d (.v (.int .i64 (dI (cel x76 (y78.toNat * 1)))))), (.ip x70), (.ip x71)] (.ask (.eqN y72 y80) (.ask (.fits (y73 + 1) 8) (.ask (.in64 (y78 + 1)) (.nxt (.c2 x70 x71 (y80 + 1) (y73 + 1) (y74 ++ [DV.v (Value.int IntKind.i64 v81)]) x75 x76 x77 (y78 + 1) (y80 + 1))))))))))))
  (.ret (y73, y74)))
noncomputable def F171 (a51 : Nat) (a52 : List DV) (a53 : List DV) (a54 : List DV) : Option (Nat × List DV) := res B171 (.c0 a51 a52 a53 a54)
noncomputable def D171_0 (a51 : Nat) (a52 : List DV) (a53 : List DV) (a54 : List DV) : DT cfz := (.go 17 [] [] (.cut 0 [[1, 5, 8, 9, 10]] []))
theorem k171_0 (a51 : Nat) (a52 : List DV) (a53 : List DV) (a54 : List DV) : xrun cfz 171 (D171_0 a51 a52 a53 a54) [] (st171 (.c0 a51 a52 a53 a54)) = (B171 (.c0 a51 a52 a53 a54)).mach st171 out171 := by kernel_rfl
noncomputable def D171_1 (x55 : List DV) (x56 : List DV) (x57 : Nat) (x58 : List DV) (x59 : Int) (y60 : Int) : DT cfz := (.go 5 [] [] (.split 11 (.go 14 [(.br true), (.as (.d (.v (.int .i64 (dI (cel x58 (y60.toNat * 1)))))))] [0] (.bind (f172 (dI (cel x58 (y60.toNat * 1))) x55 x56) fun v69 => (.go 11 [(.ck 0)] [1, 2, 3] (.cut 2 [[1, 5, 8, 9, 10]] [])))) (.go 8 [(.br false)] [0] .fin)))
theorem k171_1 (x55 : List DV) (x56 : List DV) (x57 : Nat) (x58 : List DV) (x59 : Int) (y60 : Int) : xrun cfz 171 (D171_1 x55 x56 x57 x58 x59 y60) [] (st171 (.c1 x55 x56 x57 x58 x59 y60)) = (B171 (.c1 x55 x56 x57 x58 x59 y60)).mach st171 out171 := by kernel_rfl
noncomputable def D171_2 (x70 : List DV) (x71 : List DV) (y72 : Nat) (y73 : Nat) (y74 : List DV) (x75 : Nat) (x76 : List DV) (x77 : Int) (y78 : Int) (y80 : Nat) : DT cfz := (.go 5 [] [] (.split 11 (.go 14 [(.br true), (.as (.d (.v (.int .i64 (dI (cel x76 (y78.toNat * 1)))))))] [0] (.bind (f172 (dI (cel x76 (y78.toNat * 1))) x70 x71) fun v81 => (.go 11 [(.ck 0)] [2, 3] (.cut 2 [[1, 5, 8, 9, 10]] [])))) (.go 8 [(.br false)] [0] .fin)))
theorem k171_2 (x70 : List DV) (x71 : List DV) (y72 : Nat) (y73 : Nat) (y74 : List DV) (x75 : Nat) (x76 : List DV) (x77 : Int) (y78 : Int) (y80 : Nat) : xrun cfz 171 (D171_2 x70 x71 y72 y73 y74 x75 x76 x77 y78 y80) [] (st171 (.c2 x70 x71 y72 y73 y74 x75 x76 x77 y78 y80)) = (B171 (.c2 x70 x71 y72 y73 y74 x75 x76 x77 y78 y80)).mach st171 out171 := by kernel_rfl
theorem ok171 : ∀ s, ∃ d, xrun cfz 171 d [] (st171 s) = (B171 s).mach st171 out171
  | .c0 a51 a52 a53 a54 => ⟨_, k171_0 a51 a52 a53 a54⟩
  | .c1 x55 x56 x57 x58 x59 y60 => ⟨_, k171_1 x55 x56 x57 x58 x59 y60⟩
  | .c2 x70 x71 y72 y73 y74 x75 x76 x77 y78 y80 => ⟨_, k171_2 x70 x71 y72 y73 y74 x75 x76 x77 y78 y80⟩
theorem f171 (a51 : Nat) (a52 : List DV) (a53 : List DV) (a54 : List DV) (v : Nat × List DV) (h : F171 a51 a52 a53 a54 = some v) : PureCalls cfz.P cfz.glob 171 [(.d (.sl a51 a52)), (.fn (.func 172) [] [(.ip a53), (.ip a54)])] (out171 v) := tree_pure knil ok171 (s := .c0 a51 a52 a53 a54) rfl (by kernel_rfl) v h

/-! F126 -/
inductive S126 where
  | c0 (a47 : Nat) (a48 : List DV) (a49 : Int) (a50 : Int)
  | c1 (x83 : Nat) (x84 : List DV) (x85 : Int) (y86 : Int) (x87 : Int) (x88 : Int)
  | c2 (y91 : Nat) (y92 : Nat) (y93 : List DV) (x94 : Nat) (x95 : List DV) (x96 : Int) (y97 : Int) (x98 : Int) (x99 : Int) (y103 : Nat)
def out126 (v : Int) : AV := (.d (.v (.int .i64 v)))
noncomputable def st126 : S126 → ASt
  | .c0 a47 a48 a49 a50 => ent cfz 126 [(.d (.sl a47 a48)), (.d (.v (.int .i64 a49))), (.d (.v (.int .i64 a50)))]
  | .c1 x83 x84 x85 y86 x87 x88 => ⟨⟨171, sp 22 0 [(1, (.fn (.func 172) [] [(.ptr 0 0), (.ptr 1 0)])), (5, (.d (.v (.slice .none 0 0)))), (8, (.d (.sl x83 x84))), (9, (.d (.v (.int .i64 x85)))), (10, (.d (.v (.int .i64 y86))))], [(.code (cd cfz.P 171 [1, 1, 0, 1, 0, 0])), (.inLoop (cd cfz.P 171 [1, 1, 0, 1, 0, 0])), (.inBlock 0), (.code (cd cfz.P 171 [1, 1, 1]))], [], false, .none⟩, [⟨126, sp 11 0 [], [(.regC (opsAt cfz.P 126 [1, 0]) false 2), (.code (cd cfz.P 171 [1, 1, 1, 1]))], [], false, .none⟩], [(.cells [(.d (.v (.int .i64 x87)))] 3), (.cells [(.d (.v (.int .i64 x88)))] 3)]⟩
  | .c2 y91 y92 y93 x94 x95 x96 y97 x98 x99 y103 => ⟨⟨171, sp 22 0 [(1, (.fn (.func 172) [] [(.ptr 0 0), (.ptr 1 0)])), (5, (.own 3 y91 1 y92 y93)), (8, (.d (.sl x94 x95))), (9, (.d (.v (.int .i64 x96)))), (10, (.d (.v (.int .i64 y97))))], [(.code (cd cfz.P 171 [1, 1, 0, 1, 0, 0])), (.inLoop (cd cfz.P 171 [1, 1, 0, 1, 0, 0])), (.inBlock 0), (.code (cd cfz.P 171 [1, 1, 1]))], [], false, .none⟩, [⟨126, sp 11 0 [], [(.regC (opsAt cfz.P 126 [1, 0]) false 2), (.code (cd cfz.P 171 [1, 1, 1, 1]))], [], false, .none⟩], [(.cells [(.d (.v (.int .i64 x98)))] 3), (.cells [(.d (.v (.int .i64 x99)))] 3), (.tail 0), (.tail y103)]⟩
noncomputable def B126 : S126 → Tr S126 (Int)
  | .c0 a47 a48 a49 a50 => (.nxt (.c1 a47 a48 ((↑a47 : Int)) 0 a49 a50))
  | .c1 x83 x84 x85 y86 x87 x88 => (.br (decide (y86 < x85))
  (.ask (.le 0 y86) (.ask (.lt y86 ((↑x83 : Int))) (.ask (.leN (y86.toNat * 1) x84.length) (.ask (.prop (Option.map AV.d (List.drop (y86.toNat * 1) x84)[0]? = some (AV.d (DV.v (Value.int IntKind.i64 (dI (cel x84 (y86.toNat * 1)))))))) (.bind (F172 (dI (cel x84 (y86.toNat * 1))) [(.v (.int .i64 x87))] [(.v (.int .i64 x88))]) fun v90 =>
  (.sees [(.d (.v (.int .i64 (dI (cel x84 (y86.toNat * 1)))))), (.ip [(.v (.int .i64 x87))]), (.ip [(.v (.int .i64 x88))])] (.ask (.in64 (y86 + 1)) (.nxt (.c2 0 1 [(.v (.int .i64 v90))] x83 x84 x85 (y86 + 1) x87 x88 0)))))))))
  (.bind (F107 0 []) fun v100 =>
  (.sees [(.d (.sl 0 []))] (.ret v100))))
  | .c2 y91 y92 y93 x94 x95 x96 y97 x98 x99 y103 => (.br (decide (y97 < x96))
  (.ask (.le 0 y97) (.ask (.lt y97 ((↑x94 : Int))) (.ask (.leN (y97.toNat * 1) x95.length) (.ask (.prop (Option.map AV.d (List.drop (y97.toNat * 1) x95)[0]? = some (AV.d (DV.v (Value.int IntKind.i64 (dI (cel x95 (y97.toNat * 1)))))))) (.bind (F172 (dI (cel x95 (y97.toNat * 1))) [(.v (.int .i64 x98))] [(.v (.int .i64 x99))]) fun v106 =>
  (.sees [(.d (.v (.int .i64 (dI (cel x95 (y97.toNat * 1)))))), (.ip [(.v (.int .i64 x98))]), (.ip [(.v (.int .i64 x99))])] (.ask (.eqN y91 y103) (.ask (.fits (y92 + 1) 8) (.ask (.in64 (y97 + 1)) (.nxt (.c2 (y103 + 1) (y92 + 1) (y93 ++ [DV.v (Value.int IntKind.i64 v106)]) x94 x95 x96 (y97 + 1) x98 x99 (y103 + 1))))))))))))
  (.bind (F107 y92 y93) fun v107 =>
  (.sees [(.d (.sl y92 y93))] (.ret v107))))
noncomputable def F126 (a47 : Nat) (a48 : List DV) (a49 : Int) (a50 : Int) : Option (Int) := res B126 (.c0 a47 a48 a49 a50)
noncomputable def D126_0 (a47 : Nat) (a48 : List DV) (a49 : Int) (a50 : Int) : DT cfz := (.go 28 [.enter] [] (.cut 2 [[1, 5, 8, 9, 10], []] []))
theorem k126_0 (a47 : Nat) (a48 : List DV) (a49 : Int) (a50 : Int) : xrun cfz 126 (D126_0 a47 a48 a49 a50) [] (st126 (.c0 a47 a48 a49 a50)) = (B126 (.c0 a47 a48 a49 a50)).mach st126 out126 := by kernel_rfl
noncomputable def D126_1 (x83 : Nat) (x84 : List DV) (x85 : Int) (y86 : Int) (x87 : Int) (x88 : Int) : DT cfz := (.go 5 [] [] (.split 11 (.go 14 [(.br true), (.as (.d (.v (.int .i64 (dI (cel x84 (y86.toNat * 1)))))))] [0] (.bind (f172 (dI (cel x84 (y86.toNat * 1))) [(.v (.int .i64 x87))] [(.v (.int .i64 x88))]) fun v90 => (.go 11 [(.ck 0)] [1, 2, 3] (.cut 4 [[1, 5, 8, 9, 10], []] [])))) (.go 9 [(.br false)] [0] (.bind (f107 0 []) fun v100 => (.go 4 [(.ck 0)] [] .fin)))))
theorem k126_1 (x83 : Nat) (x84 : List DV) (x85 : Int) (y86 : Int) (x87 : Int) (x88 : Int) : xrun cfz 126 (D126_1 x83 x84 x85 y86 x87 x88) [] (st126 (.c1 x83 x84 x85 y86 x87 x88)) = (B126 (.c1 x83 x84 x85 y86 x87 x88)).mach st126 out126 := by kernel_rfl
noncomputable def D126_2 (y91 : Nat) (y92 : Nat) (y93 : List DV) (x94 : Nat) (x95 : List DV) (x96 : Int) (y97 : Int) (x98 : Int) (x99 : Int) (y103 : Nat) : DT cfz := (.go 5 [] [] (.split 11 (.go 14 [(.br true), (.as (.d (.v (.int .i64 (dI (cel x95 (y97.toNat * 1)))))))] [0] (.bind (f172 (dI (cel x95 (y97.toNat * 1))) [(.v (.int .i64 x98))] [(.v (.int .i64 x99))]) fun v106 => (.go 11 [(.ck 0)] [2, 3] (.cut 4 [[1, 5, 8, 9, 10], []] [])))) (.go 9 [(.br false)] [0] (.bind (f107 y92 y93) fun v107 => (.go 4 [(.ck 0)] [] .fin)))))
theorem k126_2 (y91 : Nat) (y92 : Nat) (y93 : List DV) (x94 : Nat) (x95 : List DV) (x96 : Int) (y97 : Int) (x98 : Int) (x99 : Int) (y103 : Nat) : xrun cfz 126 (D126_2 y91 y92 y93 x94 x95 x96 y97 x98 x99 y103) [] (st126 (.c2 y91 y92 y93 x94 x95 x96 y97 x98 x99 y103)) = (B126 (.c2 y91 y92 y93 x94 x95 x96 y97 x98 x99 y103)).mach st126 out126 := by kernel_rfl
theorem ok126 : ∀ s, ∃ d, xrun cfz 126 d [] (st126 s) = (B126 s).mach st126 out126
  | .c0 a47 a48 a49 a50 => ⟨_, k126_0 a47 a48 a49 a50⟩
  | .c1 x83 x84 x85 y86 x87 x88 => ⟨_, k126_1 x83 x84 x85 y86 x87 x88⟩
  | .c2 y91 y92 y93 x94 x95 x96 y97 x98 x99 y103 => ⟨_, k126_2 y91 y92 y93 x94 x95 x96 y97 x98 x99 y103⟩
theorem f126 (a47 : Nat) (a48 : List DV) (a49 : Int) (a50 : Int) (v : Int) (h : F126 a47 a48 a49 a50 = some v) : PureCalls cfz.P cfz.glob 126 [(.d (.sl a47 a48)), (.d (.v (.int .i64 a49))), (.d (.v (.int .i64 a50)))] (out126 v) := tree_pure knil ok126 (s := .c0 a47 a48 a49 a50) rfl (by kernel_rfl) v h

/-! F44 -/
inductive S44 where
  | c0 (a28 : Nat) (a29 : List DV)
  | c1 (x41 : Nat) (x42 : List DV) (x43 : Int) (y44 : Int)
  | c2 (x110 : Nat) (x111 : List DV) (x112 : Int) (y113 : Int)
  | c3 (x114 : Nat) (x115 : List DV) (x116 : Int) (x117 : Int) (x118 : Int) (y119 : Int)
  | c4 (x120 : Nat) (x121 : List DV) (x122 : Int) (x123 : Int) (x124 : Int) (y125 : Int) (x126 : List AV)
  | c5 (x127 : Nat) (x128 : List DV) (y129 : Nat) (y130 : Nat) (y131 : List DV) (x132 : Int) (y133 : Int) (y153 : Nat)
  | c6 (x134 : Nat) (x135 : List DV) (x136 : Nat) (x137 : Nat) (x138 : List DV) (x139 : Int) (x140 : Int) (x141 : Int) (y142 : Int) (y154 : Nat)
  | c7 (x143 : Nat) (x144 : List DV) (x145 : Nat) (x146 : Nat) (x147 : List DV) (x148 : Int) (x149 : Int) (x150 : Int) (y151 : Int) (y155 : Nat) (x152 : List AV)
def out44 (v : Nat × List DV × Int) : AV := (.tup [(.d (.sl v.fst v.snd.fst)), (.d (.v (.int .i64 v.snd.snd)))])
noncomputable def st44 : S44 → ASt
  | .c0 a28 a29 => ent cfz 44 [(.d (.sl a28 a29))]
  | .c1 x41 x42 x43 y44 => ⟨⟨44, sp 98 0 [(0, (.d (.sl x41 x42))), (26, (.d (.sl x41 x42))), (27, (.d (.v (.int .i64 x43)))), (28, (.d (.v (.int .i64 y44))))], [(.code (cd cfz.P 44 [1, 1, 0, 1, 0, 0])), (.inLoop (cd cfz.P 44 [1, 1, 0, 1, 0, 0])), (.inBlock 0), (.code (cd cfz.P 44 [1, 1, 1]))], [], false, .none⟩, [], []⟩
  | .c2 x110 x111 x112 y113 => ⟨⟨44, sp 98 0 [(0, (.d (.sl x110 x111))), (8, (.d (.v (.slice .none 0 0)))), (55, (.d (.v (.int .i64 x112)))), (56, (.d (.v (.int .i64 y113))))], [(.code (cd cfz.P 44 [1, 1, 1, 1, 0, 1, 0, 0])), (.inLoop (cd cfz.P 44 [1, 1, 1, 1, 0, 1, 0, 0])), (.inBlock 2), (.code (cd cfz.P 44 [1, 1, 1, 1, 1]))], [], false, .none⟩, [], []⟩
  | .c3 x114 x115 x116 x117 x118 y119 => ⟨⟨44, sp 98 0 [(0, (.d (.sl x114 x115))), (8, (.d (.v (.slice .none 0 0)))), (9, (.d (.v (.int .i64 x116)))), (10, (.ptr 0 0)), (55, (.d (.v (.int .i64 x117)))), (56, (.d (.v (.int .i64 x116)))), (59, (.d (.sl x114 x115))), (60, (.d (.v (.int .i64 x118)))), (61, (.d (.v (.int .i64 y119))))], [(.code (cd cfz.P 44 [1, 1, 1, 1, 0, 1, 0, 0, 1, 1, 0, 0, 1, 1, 0, 1, 0, 0])), (.inLoop (cd cfz.P 44 [1, 1, 1, 1, 0, 1, 0, 0, 1, 1, 0, 0, 1, 1, 0, 1, 0, 0])), (.inBlock 4), (.code (cd cfz.P 44 [1, 1, 1, 1, 0, 1, 0, 0, 1, 1, 0, 0, 1, 1, 1])), (.inBlock 3), (.code (cd cfz.P 44 [1, 1, 1, 1, 0, 1, 0, 0, 1, 1, 1])), (.inLoop (cd cfz.P 44 [1, 1, 1, 1, 0, 1, 0, 0])), (.inBlock 2), (.code (cd cfz.P 44 [1, 1, 1, 1, 1]))], [], false, .none⟩, [], [(.cells [(.d (.v (.int .i64 0))), (.d (.v (.int .i64 0))), (.d (.v (.int .i64 0)))] 27)]⟩
  | .c4 x120 x121 x122 x123 x124 y125 x126 => ⟨⟨44, sp 98 0 [(0, (.d (.sl x120 x121))), (8, (.d (.v (.slice .none 0 0)))), (9, (.d (.v (.int .i64 x122)))), (10, (.ptr 0 0)), (55, (.d (.v (.int .i64 x123)))), (56, (.d (.v (.int .i64 x122)))), (59, (.d (.sl x120 x121))), (60, (.d (.v (.int .i64 x124)))), (61, (.d (.v (.int .i64 y125))))], [(.code (cd cfz.P 44 [1, 1, 1, 1, 0, 1, 0, 0, 1, 1, 0, 0, 1, 1, 0, 1, 0, 0])), (.inLoop (cd cfz.P 44 [1, 1, 1, 1, 0, 1, 0, 0, 1, 1, 0, 0, 1, 1, 0, 1, 0, 0])), (.inBlock 4), (.code (cd cfz.P 44 [1, 1, 1, 1, 0, 1, 0, 0, 1, 1, 0, 0, 1, 1, 1])), (.inBlock 3), (.code (cd cfz.P 44 [1, 1, 1, 1, 0, 1, 0, 0, 1, 1, 1])), (.inLoop (cd cfz.P 44 [1, 1, 1, 1, 0, 1, 0, 0])), (.inBlock 2), (.code (cd cfz.P 44 [1, 1, 1, 1, 1]))], [], false, .none⟩, [], [(.cells x126 27)]⟩
  | .c5 x127 x128 y129 y130 y131 x132 y133 y153 => ⟨⟨44, sp 98 0 [(0, (.d (.sl x127 x128))), (8, (.own 2 y129 1 y130 y131)), (55, (.d (.v (.int .i64 x132)))), (56, (.d (.v (.int .i64 y133))))], [(.code (cd cfz.P 44 [1, 1, 1, 1, 0, 1, 0, 0])), (.inLoop (cd cfz.P 44 [1, 1, 1, 1, 0, 1, 0, 0])), (.inBlock 2), (.code (cd cfz.P 44 [1, 1, 1, 1, 1]))], [], false, .none⟩, [], [.dead, (.tail 0), (.tail y153)]⟩
  | .c6 x134 x135 x136 x137 x138 x139 x140 x141 y142 y154 => ⟨⟨44, sp 98 0 [(0, (.d (.sl x134 x135))), (8, (.own 2 x136 1 x137 x138)), (9, (.d (.v (.int .i64 x139)))), (10, (.ptr 3 0)), (55, (.d (.v (.int .i64 x140)))), (56, (.d (.v (.int .i64 x139)))), (59, (.d (.sl x134 x135))), (60, (.d (.v (.int .i64 x141)))), (61, (.d (.v (.int .i64 y142))))], [(.code (cd cfz.P 44 [1, 1, 1, 1, 0, 1, 0, 0, 1, 1, 0, 0, 1, 1, 0, 1, 0, 0])), (.inLoop (cd cfz.P 44 [1, 1, 1, 1, 0, 1, 0, 0, 1, 1, 0, 0, 1, 1, 0, 1, 0, 0])), (.inBlock 4), (.code (cd cfz.P 44 [1, 1, 1, 1, 0, 1, 0, 0, 1, 1, 0, 0, 1, 1, 1])), (.inBlock 3), (.code (cd cfz.P 44 [1, 1, 1, 1, 0, 1, 0, 0, 1, 1, 1])), (.inLoop (cd cfz.P 44 [1, 1, 1, 1, 0, 1, 0, 0])), (.inBlock 2), (.code (cd cfz.P 44 [1, 1, 1, 1, 1]))], [], false, .none⟩, [], [.dead, (.tail 0), (.tail y154), (.cells [(.d (.v (.int .i64 0))), (.d (.v (.int .i64 0))), (.d (.v (.int .i64 0)))] 27)]⟩
  | .c7 x143 x144 x145 x146 x147 x148 x149 x150 y151 y155 x152 => ⟨⟨44, sp 98 0 [(0, (.d (.sl x143 x144))), (8, (.own 2 x145 1 x146 x147)), (9, (.d (.v (.int .i64 x148)))), (10, (.ptr 3 0)), (55, (.d (.v (.int .i64 x149)))), (56, (.d (.v (.int .i64 x148)))), (59, (.d (.sl x143 x144))), (60, (.d (.v (.int .i64 x150)))), (61, (.d (.v (.int .i64 y151))))], [(.code (cd cfz.P 44 [1, 1, 1, 1, 0, 1, 0, 0, 1, 1, 0, 0, 1, 1, 0, 1, 0, 0])), (.inLoop (cd cfz.P 44 [1, 1, 1, 1, 0, 1, 0, 0, 1, 1, 0, 0, 1, 1, 0, 1, 0, 0])), (.inBlock 4), (.code (cd cfz.P 44 [1, 1, 1, 1, 0, 1, 0, 0, 1, 1, 0, 0, 1, 1, 1])), (.inBlock 3), (.code (cd cfz.P 44 [1, 1, 1, 1, 0, 1, 0, 0, 1, 1, 1])), (.inLoop (cd cfz.P 44 [1, 1, 1, 1, 0, 1, 0, 0])), (.inBlock 2), (.code (cd cfz.P 44 [1, 1, 1, 1, 1]))], [], false, .none⟩, [], [.dead, (.tail 0), (.tail y155), (.cells x152 27)]⟩
noncomputable def B44 : S44 → Tr S44 (Nat × List DV × Int)
  | .c0 a28 a29 => (.bind (F109 ((↑a28 : Int) == 0) 12) fun v32 =>
  (.sees [(.d (.v (.bool ((↑a28 : Int) == 0)))), (.d (.v (.int .i64 12)))] (.bind (F109 (decide ((↑a28 : Int) > 15)) 5) fun v33 =>
  (.sees [(.d (.v (.bool (decide ((↑a28 : Int) > 15))))), (.d (.v (.int .i64 5)))] (.bind (F107 2 [(.v (.int .i64 v32)), (.v (.int .i64 v33))]) fun v40 =>
  (.sees [(.d (.sl 2 [(.v (.int .i64 v32)), (.v (.int .i64 v33))]))] (.br (v40 != 0)
  (.ret (0, [], v40))
  (.nxt (.c1 a28 a29 ((↑a28 : Int)) 0)))))))))
  | .c1 x41 x42 x43 y44 => (.br (decide (y44 < x43))
  (.ask (.le 0 y44) (.ask (.lt y44 ((↑x41 : Int))) (.ask (.leN (y44.toNat * 1) x42.length) (.ask (.prop (Option.map AV.d (List.drop (y44.toNat * 1) x42)[0]? = some (AV.d (DV.sl (dN (cel x42 (y44.toNat * 1))) (dL (cel x42 (y44.toNat * 1))))))) (.ask (.lt 0 ((↑x41 : Int))) (.ask (.leN 0 x42.length) (.ask (.prop (Option.map AV.d (List.drop 0 x42)[0]? = some (AV.d (DV.sl (dN (cel x42 0)) (dL (cel x42 0)))))) (.bind (F109 ((↑(dN (cel x42 (y44.toNat * 1))) : Int) != (↑(dN (cel x42 0)) : Int)) 2) fun v45 =>
  (.sees [(.d (.v (.bool ((↑(dN (cel x42 (y44.toNat * 1))) : Int) != (↑(dN (cel x42 0)) : Int))))), (.d (.v (.int .i64 2)))] (.bind (F109 (decide ((↑(dN (cel x42 (y44.toNat * 1))) : Int) > 1024)) 5) fun v46 =>
  (.sees [(.d (.v (.bool (decide ((↑(dN (cel x42 (y44.toNat * 1))) : Int) > 1024))))), (.d (.v (.int .i64 5)))] (.bind (F126 (dN (cel x42 (y44.toNat * 1))) (dL (cel x42 (y44.toNat * 1))) (-1) 1) fun v108 =>
  (.sees [(.d (.sl (dN (cel x42 (y44.toNat * 1))) (dL (cel x42 (y44.toNat * 1))))), (.d (.v (.int .i64 (-1)))), (.d (.v (.int .i64 1)))] (.bind (F107 3 [(.v (.int .i64 v45)), (.v (.int .i64 v46)), (.v (.int .i64 v108))]) fun v109 =>
  (.sees [(.d (.sl 3 [(.v (.int .i64 v45)), (.v (.int .i64 v46)), (.v (.int .i64 v108))]))] (.br (v109 != 0)
  (.ret (0, [], v109))
  (.ask (.in64 (y44 + 1)) (.nxt (.c1 x41 x42 x43 (y44 + 1))))))))))))))))))))
  (.ask (.lt 0 ((↑x41 : Int))) (.ask (.leN 0 x42.length) (.ask (.prop (Option.map AV.d (List.drop 0 x42)[0]? = some (AV.d (DV.sl (dN (cel x42 0)) (dL (cel x42 0)))))) (.nxt (.c2 x41 x42 ((↑(dN (cel x42 0)) : Int)) 0))))))
  | .c2 x110 x111 x112 y113 => (.br (decide (y113 < x112))
  (.nxt (.c3 x110 x111 y113 x112 ((↑x110 : Int)) 0))
  (.ret (0, [], 0)))
  | .c3 x114 x115 x116 x117 x118 y119 => (.br (decide (y119 < x118))
  (.ask (.le 0 y119) (.ask (.lt y119 ((↑x114 : Int))) (.ask (.leN (y119.toNat * 1) x115.length) (.ask (.prop (Option.map AV.d (List.drop (y119.toNat * 1) x115)[0]? = some (AV.d (DV.sl (dN (cel x115 (y119.toNat * 1))) (dL (cel x115 (y119.toNat * 1))))))) (.ask (.le 0 x116) (.ask (.lt x116 ((↑(dN (cel x115 (y119.toNat * 1))) : Int))) (.ask (.leN (x116.toNat * 1) ((dL (cel x115 (y119.toNat * 1))).length)) (.ask (.prop (Option.map AV.d (List.drop (x116.toNat * 1) (dL (cel x115 (y119.toNat * 1))))[0]? = some (AV.d (DV.v (Value.int IntKind.i64 (dI (cel (dL (cel x115 (y119.toNat * 1))) (x116.toNat * 1)))))))) (.ask (.in64 (dI (cel (dL (cel x115 (y119.toNat * 1))) (x116.toNat * 1)) + 1)) (.ask (.le 0 (dI (cel (dL (cel x115 (y119.toNat * 1))) (x116.toNat * 1)) + 1)) (.ask (.lt (dI (cel (dL (cel x115 (y119.toNat * 1))) (x116.toNat * 1)) + 1) 3) (.ask (.prop ([AV.d (DV.v (Value.int IntKind.i64 0)), AV.d (DV.v (Value.int IntKind.i64 0)), AV.d (DV.v (Value.int IntKind.i64 0))][0 + (dI (cel (dL (cel x115 (y119.toNat * 1))) (x116.toNat * 1)) + 1).toNat * 1]? = some (AV.d (DV.v (Value.int IntKind.i64 (dI (celA [AV.d (DV.v (Value.int IntKind.i64 0)), AV.d (DV.v (Value.int IntKind.i64 0)), AV.d (DV.v (Value.int IntKind.i64 0))] (0 + (dI (cel (dL (cel x115 (y119.toNat * 1))) (x116.toNat * 1)) + 1).toNat * 1)))))))) (.ask (.in64 (dI (celA [AV.d (DV.v (Value.int IntKind.i64 0)), AV.d (DV.v (Value.int IntKind.i64 0)), AV.d (DV.v (Value.int IntKind.i64 0))] (0 + (dI (cel (dL (cel x115 (y119.toNat * 1))) (x116.toNat * 1)) + 1).toNat * 1)) + 1)) (.ask (.le 0 (dI (cel (dL (cel x115 (y119.toNat * 1))) (x116.toNat * 1)) + 1)) (.ask (.lt (dI (cel (dL (cel x115 (y119.toNat * 1))) (x116.toNat * 1)) + 1) 3) (.ask (.leN (0 + (dI (cel (dL (cel x115 (y119.toNat * 1))) (x116.toNat * 1)) + 1).toNat * 1 + 1) 3) (.triv _ (tv_p (spliceA [AV.d (DV.v (Value.int IntKind.i64 0)), AV.d (DV.v (Value.int IntKind.i64 0)), AV.d (DV.v (Value.int IntKind.i64 0))] (0 + (dI (cel (dL (cel x115 (y119.toNat * 1))) (x116.toNat * 1)) + 1).toNat * 1) [AV.d (DV.v (Value.int IntKind.i64 (dI (celA [AV.d (DV.v (Value.int IntKind.i64 0)), AV.d (DV.v (Value.int IntKind.i64 0)), AV.d (DV.v (Value.int IntKind.i64 0))] (0 + (dI (cel (dL (cel x115 (y119.toNat * 1))) (x116.toNat * 1)) + 1).toNat * 1)) + 1)))])) (.ask (.in64 (y119 + 1)) (.ask (.prop (refK 1 (ABlk.cells (spliceA [AV.d (DV.v (Value.int IntKind.i64 0)), AV.d (DV.v (Value.int IntKind.i64 0)), AV.d (DV.v (Value.int IntKind.i64 0))] (0 + (dI (cel (dL (cel x115 (y119.toNat * 1))) (x116.toNat * 1)) + 1).toNat * 1) [AV.d (DV.v (Value.int IntKind.i64 (dI (celA [AV.d (DV.v (Value.int IntKind.i64 0)), AV.d (DV.v (Value.int IntKind.i64 0)), AV.d (DV.v (Value.int IntKind.i64 0))] (0 + (dI (cel (dL (cel x115 (y119.toNat * 1))) (x116.toNat * 1)) + 1).toNat * 1)) + 1)))]) 27) = true)) (.nxt (.c4 x114 x115 x116 x117 x118 (y119 + 1) (spliceA [AV.d (DV.v (Value.int IntKind.i64 0)), AV.d (DV.v (Value.int IntKind.i64 0)), AV.d (DV.v (Value.int IntKind.i64 0))] (0 + (dI (cel (dL (cel x115 (y119.toNat * 1))) (x116.toNat * 1)) + 1).toNat * 1) [AV.d (DV.v (Value.int IntKind.i64 (dI (celA [AV.d (DV.v (Value.int IntKind.i64 0)), AV.d (DV.v (Value.int IntKind.i64 0)), AV.d (DV.v (Value.int IntKind.i64 0))] (0 + (dI (cel (dL (cel x115 (y119.toNat * 1))) (x116.toNat * 1)) + 1).toNat * 1)) + 1)))]))))))))))))))))))))))
  (.ask (.in64 (x116 + 1)) (.nxt (.c5 x114 x115 0 1 [(.v (.int .i64 (-1)))] x117 (x116 + 1) 0))))
  | .c4 x120 x121 x122 x123 x124 y125 x126 => (.br (decide (y125 < x124))
  (.ask (.le 0 y125) (.ask (.lt y125 ((↑x120 : Int))) (.ask (.leN (y125.toNat * 1) x121.length) (.ask (.prop (Option.map AV.d (List.drop (y125.toNat * 1) x121)[0]? = some (AV.d (DV.sl (dN (cel x121 (y125.toNat * 1))) (dL (cel x121 (y125.toNat * 1))))))) (.ask (.le 0 x122) (.ask (.lt x122 ((↑(dN (cel x121 (y125.toNat * 1))) : Int))) (.ask (.leN (x122.toNat * 1) ((dL (cel x121 (y125.toNat * 1))).length)) (.ask (.prop (Option.map AV.d (List.drop (x122.toNat * 1) (dL (cel x121 (y125.toNat * 1))))[0]? = some (AV.d (DV.v (Value.int IntKind.i64 (dI (cel (dL (cel x121 (y125.toNat * 1))) (x122.toNat * 1)))))))) (.ask (.in64 (dI (cel (dL (cel x121 (y125.toNat * 1))) (x122.toNat * 1)) + 1)) (.ask (.le 0 (dI (cel (dL (cel x121 (y125.toNat * 1))) (x122.toNat * 1)) + 1)) (.ask (.lt (dI (cel (dL (cel x121 (y125.toNat * 1))) (x122.toNat * 1)) + 1) 3) (.ask (.prop (x126[0 + (dI (cel (dL (cel x121 (y125.toNat * 1))) (x122.toNat * 1)) + 1).toNat * 1]? = some (AV.d (DV.v (Value.int IntKind.i64 (dI (celA x126 (0 + (dI (cel (dL (cel x121 (y125.toNat * 1))) (x122.toNat * 1)) + 1).toNat * 1)))))))) (.ask (.in64 (dI (celA x126 (0 + (dI (cel (dL (cel x121 (y125.toNat * 1))) (x122.toNat * 1)) + 1).toNat * 1)) + 1)) (.ask (.le 0 (dI (cel (dL (cel x121 (y125.toNat * 1))) (x122.toNat * 1)) + 1)) (.ask (.lt (dI (cel (dL (cel x121 (y125.toNat * 1))) (x122.toNat * 1)) + 1) 3) (.ask (.leN (0 + (dI (cel (dL (cel x121 (y125.toNat * 1))) (x122.toNat * 1)) + 1).toNat * 1 + 1) x126.length) (.triv _ (tv_p (spliceA x126 (0 + (dI (cel (dL (cel x121 (y125.toNat * 1))) (x122.toNat * 1)) + 1).toNat * 1) [AV.d (DV.v (Value.int IntKind.i64 (dI (celA x126 (0 + (dI (cel (dL (cel x121 (y125.toNat * 1))) (x122.toNat * 1)) + 1).toNat * 1)) + 1)))])) (.ask (.in64 (y125 + 1)) (.ask (.prop (refK 1 (ABlk.cells (spliceA x126 (0 + (dI (cel (dL (cel x121 (y125.toNat * 1))) (x122.toNat * 1)) + 1).toNat * 1) [AV.d (DV.v (Value.int IntKind.i64 (dI (celA x126 (0 + (dI (cel (dL (cel x121 (y125.toNat * 1))) (x122.toNat * 1)) + 1).toNat * 1)) + 1)))]) 27) = true)) (.nxt (.c4 x120 x121 x122 x123 x124 (y125 + 1) (spliceA x126 (0 + (dI (cel (dL (cel x121 (y125.toNat * 1))) (x122.toNat * 1)) + 1).toNat * 1) [AV.d (DV.v (Value.int IntKind.i64 (dI (celA x126 (0 + (dI (cel (dL (cel x121 (y125.toNat * 1))) (x122.toNat * 1)) + 1).toNat * 1)) + 1)))]))))))))))))))))))))))
  (.ask (.prop (x126[2]? = some (AV.d (DV.v (Value.int IntKind.i64 (dI (celA x126 2))))))) (.ask (.prop (x126[1]? = some (AV.d (DV.v (Value.int IntKind.i64 (dI (celA x126 1))))))) (.br (decide (dI (celA x126 2) > dI (celA x126 1)))
  (.ask (.in64 (x122 + 1)) (.nxt (.c5 x120 x121 0 1 [(.v (.int .i64 1))] x123 (x122 + 1) 0)))
  (.ask (.prop (x126[1]? = some (AV.d (DV.v (Value.int IntKind.i64 (dI (celA x126 1))))))) (.ask (.prop (x126[2]? = some (AV.d (DV.v (Value.int IntKind.i64 (dI (celA x126 2))))))) (.br (decide (dI (celA x126 1) > dI (celA x126 2)))
  (.ask (.in64 (x122 + 1)) (.nxt (.c5 x120 x121 0 1 [(.v (.int .i64 0))] x123 (x122 + 1) 0)))
  (.ask (.in64 (x122 + 1)) (.nxt (.c5 x120 x121 0 1 [(.v (.int .i64 (-1)))] x123 (x122 + 1) 0))))))))))
  | .c5 x127 x128 y129 y130 y131 x132 y133 y153 => (.br (decide (y133 < x132))
  (.nxt (.c6 x127 x128 y129 y130 y131 y133 x132 ((↑x127 : Int)) 0 y153))
  (.ret (y130, y131, 0)))
  | .c6 x134 x135 x136 x137 x138 x139 x140 x141 y142 y154 => (.br (decide (y142 < x141))
  (.ask (.le 0 y142) (.ask (.lt y142 ((↑x134 : Int))) (.ask (.leN (y142.toNat * 1) x135.length) (.ask (.prop (Option.map AV.d (List.drop (y142.toNat * 1) x135)[0]? = some (AV.d (DV.sl (dN (cel x135 (y142.toNat * 1))) (dL (cel x135 (y142.toNat * 1))))))) (.ask (.le 0 x139) (.ask (.lt x139 ((↑(dN (cel x135 (y142.toNat * 1))) : Int))) (.ask (.leN (x139.toNat * 1) ((dL (cel x135 (y142.toNat * 1))).length)) (.ask (.prop (Option.map AV.d (List.drop (x139.toNat * 1) (dL (cel x135 (y142.toNat * 1))))[0]? = some (AV.d (DV.v (Value.int IntKind.i64 (dI (cel (dL (cel x135 (y142.toNat * 1))) (x139.toNat * 1)))))))) (.ask (.in64 (dI (cel (dL (cel x135 (y142.toNat * 1))) (x139.toNat * 1)) + 1)) (.ask (.le 0 (dI (cel (dL (cel x135 (y142.toNat * 1))) (x139.toNat * 1)) + 1)) (.ask (.lt (dI (cel (dL (cel x135 (y142.toNat * 1))) (x139.toNat * 1)) + 1) 3) (.ask (.prop ([AV.d (DV.v (Value.int IntKind.i64 0)), AV.d (DV.v (Value.int IntKind.i64 0)), AV.d (DV.v (Value.int IntKind.i64 0))][0 + (dI (cel (dL (cel x135 (y142.toNat * 1))) (x139.toNat * 1)) + 1).toNat * 1]? = some (AV.d (DV.v (Value.int IntKind.i64 (dI (celA [AV.d (DV.v (Value.int IntKind.i64 0)), AV.d (DV.v (Value.int IntKind.i64 0)), AV.d (DV.v (Value.int IntKind.i64 0))] (0 + (dI (cel (dL (cel x135 (y142.toNat * 1))) (x139.toNat * 1)) + 1).toNat * 1)))))))) (.ask (.in64 (dI (celA [AV.d (DV.v (Value.int IntKind.i64 0)), AV.d (DV.v (Value.int IntKind.i64 0)), AV.d (DV.v (Value.int IntKind.i64 0))] (0 + (dI (cel (dL (cel x135 (y142.toNat * 1))) (x139.toNat * 1)) + 1).toNat * 1)) + 1)) (.ask (.le 0 (dI (cel (dL (cel x135 (y142.toNat * 1))) (x139.toNat * 1)) + 1)) (.ask (.lt (dI (cel (dL (cel x135 (y142.toNat * 1))) (x139.toNat * 1)) + 1) 3) (.ask (.leN (0 + (dI (cel (dL (cel x135 (y142.toNat * 1))) (x139.toNat * 1)) + 1).toNat * 1 + 1) 3) (.triv _ (tv_p (spliceA [AV.d (DV.v (Value.int IntKind.i64 0)), AV.d (DV.v (Value.int IntKind.i64 0)), AV.d (DV.v (Value.int IntKind.i64 0))] (0 + (dI (cel (dL (cel x135 (y142.toNat * 1))) (x139.toNat * 1)) + 1).toNat * 1) [AV.d (DV.v (Value.int IntKind.i64 (dI (celA [AV.d (DV.v (Value.int IntKind.i64 0)), AV.d (DV.v (Value.int IntKind.i64 0)), AV.d (DV.v (Value.int IntKind.i64 0))] (0 + (dI (cel (dL (cel x135 (y142.toNat * 1))) (x139.toNat * 1)) + 1).toNat * 1)) + 1)))])) (.ask (.in64 (y142 + 1)) (.ask (.prop (refK 4 (ABlk.cells (spliceA [AV.d (DV.v (Value.int IntKind.i64 0)), AV.d (DV.v (Value.int IntKind.i64 0)), AV.d (DV.v (Value.int IntKind.i64 0))] (0 + (dI (cel (dL (cel x135 (y142.toNat * 1))) (x139.toNat * 1)) + 1).toNat * 1) [AV.d (DV.v (Value.int IntKind.i64 (dI (celA [AV.d (DV.v (Value.int IntKind.i64 0)), AV.d (DV.v (Value.int IntKind.i64 0)), AV.d (DV.v (Value.int IntKind.i64 0))] (0 + (dI (cel (dL (cel x135 (y142.toNat * 1))) (x139.toNat * 1)) + 1).toNat * 1)) + 1)))]) 27) = true)) (.nxt (.c7 x134 x135 x136 x137 x138 x139 x140 x141 (y142 + 1) y154 (spliceA [AV.d (DV.v (Value.int IntKind.i64 0)), AV.d (DV.v (Value.int IntKind.i64 0)), AV.d (DV.v (Value.int IntKind.i64 0))] (0 + (dI (cel (dL (cel x135 (y142.toNat * 1))) (x139.toNat * 1)) + 1).toNat * 1) [AV.d (DV.v (Value.int IntKind.i64 (dI (celA [AV.d (DV.v (Value.int IntKind.i64 0)), AV.d (DV.v (Value.int IntKind.i64 0)), AV.d (DV.v (Value.int IntKind.i64 0))] (0 + (dI (cel (dL (cel x135 (y142.toNat * 1))) (x139.toNat * 1)) + 1).toNat * 1)) + 1)))]))))))))))))))))))))))
  (.ask (.eqN x136 y154) (.ask (.fits (x137 + 1) 8) (.ask (.in64 (x139 + 1)) (.nxt (.c5 x134 x135 (y154 + 1) (x137 + 1) (x138 ++ [DV.v (Value.int IntKind.i64 (-1))]) x140 (x139 + 1) (y154 + 1)))))))
  | .c7 x143 x144 x145 x146 x147 x148 x149 x150 y151 y155 x152 => (.br (decide (y151 < x150))
  (.ask (.le 0 y151) (.ask (.lt y151 ((↑x143 : Int))) (.ask (.leN (y151.toNat * 1) x144.length) (.ask (.prop (Option.map AV.d (List.drop (y151.toNat * 1) x144)[0]? = some (AV.d (DV.sl (dN (cel x144 (y151.toNat * 1))) (dL (cel x144 (y151.toNat * 1))))))) (.ask (.le 0 x148) (.ask (.lt x148 ((↑(dN (cel x144 (y151.toNat * 1))) : Int))) (.ask (.leN (x148.toNat * 1) ((dL (cel x144 (y151.toNat * 1))).length)) (.ask (.prop (Option.map AV.d (List.drop (x148.toNat * 1) (dL (cel x144 (y151.toNat * 1))))[0]? = some (AV.d (DV.v (Value.int IntKind.i64 (dI (cel (dL (cel x144 (y151.toNat * 1))) (x148.toNat * 1)))))))) (.ask (.in64 (dI (cel (dL (cel x144 (y151.toNat * 1))) (x148.toNat * 1)) + 1)) (.ask (.le 0 (dI (cel (dL (cel x144 (y151.toNat * 1))) (x148.toNat * 1)) + 1)) (.ask (.lt (dI (cel (dL (cel x144 (y151.toNat * 1))) (x148.toNat * 1)) + 1) 3) (.ask (.prop (x152[0 + (dI (cel (dL (cel x144 (y151.toNat * 1))) (x148.toNat * 1)) + 1).toNat * 1]? = some (AV.d (DV.v (Value.int IntKind.i64 (dI (celA x152 (0 + (dI (cel (dL (cel x144 (y151.toNat * 1))) (x148.toNat * 1)) + 1).toNat * 1)))))))) (.ask (.in64 (dI (celA x152 (0 + (dI (cel (dL (cel x144 (y151.toNat * 1))) (x148.toNat * 1)) + 1).toNat * 1)) + 1)) (.ask (.le 0 (dI (cel (dL (cel x144 (y151.toNat * 1))) (x148.toNat * 1)) + 1)) (.ask (.lt (dI (cel (dL (cel x144 (y151.toNat * 1))) (x148.toNat * 1)) + 1) 3) (.ask (.leN (0 + (dI (cel (dL (cel x144 (y151.toNat * 1))) (x148.toNat * 1)) + 1).toNat * 1 + 1) x152.length) (.triv _ (tv_p (spliceA x152 (0 + (dI (cel (dL (cel x144 (y151.toNat * 1))) (x148.toNat * 1)) + 1).toNat * 1) [AV.d (DV.v (Value.int IntKind.i64 (dI (celA x152 (0 + (dI (cel (dL (cel x144 (y151.toNat * 1))) (x148.toNat * 1)) + 1).toNat * 1)) + 1)))])) (.ask (.in64 (y151 + 1)) (.ask (.prop (refK 4 (ABlk.cells (spliceA x152 (0 + (dI (cel (dL (cel x144 (y151.toNat * 1))) (x148.toNat * 1)) + 1).toNat * 1) [AV.d (DV.v (Value.int IntKind.i64 (dI (celA x152 (0 + (dI (cel (dL (cel x144 (y151.toNat * 1))) (x148.toNat * 1)) + 1).toNat * 1)) + 1)))]) 27) = true)) (.nxt (.c7 x143 x144 x145 x146 x147 x148 x149 x150 (y151 + 1) y155 (spliceA x152 (0 + (dI (cel (dL (cel x144 (y151.toNat * 1))) (x148.toNat * 1)) + 1).toNat * 1) [AV.d (DV.v (Value.int IntKind.i64 (dI (celA x152 (0 + (dI (cel (dL (cel x144 (y151.toNat * 1))) (x148.toNat * 1)) + 1).toNat * 1)) + 1)))]))))))))))))))))))))))
  (.ask (.prop (x152[2]? = some (AV.d (DV.v (Value.int IntKind.i64 (dI (celA x152 2))))))) (.ask (.prop (x152[1]? = some (AV.d (DV.v (Value.int IntKind.i64 (dI (celA x152 1))))))) (.br (decide (dI (celA x152 2) > dI (celA x152 1)))
  (.ask (.eqN x145 y155) (.ask (.fits (x146 + 1) 8) (.ask (.in64 (x148 + 1)) (.nxt (.c5 x143 x144 (y155 + 1) (x146 + 1) (x147 ++ [DV.v (Value.int IntKind.i64 1)]) x149 (x148 + 1) (y155 + 1))))))
  (.ask (.prop (x152[1]? = some (AV.d (DV.v (Value.int IntKind.i64 (dI (celA x152 1))))))) (.ask (.prop (x152[2]? = some (AV.d (DV.v (Value.int IntKind.i64 (dI (celA x152 2))))))) (.br (decide (dI (celA x152 1) > dI (celA x152 2)))
  (.ask (.eqN x145 y155) (.ask (.fits (x146 + 1) 8) (.ask (.in64 (x148 + 1)) (.nxt (.c5 x143 x144 (y155 + 1) (x146 + 1) (x147 ++ [DV.v (Value.int IntKind.i64 0)]) x149 (x148 + 1) (y155 + 1))))))
  (.ask (.eqN x145 y155) (.ask (.fits (x146 + 1) 8) (.ask (.in64 (x148 + 1)) (.nxt (.c5 x143 x144 (y155 + 1) (x146 + 1) (x147 ++ [DV.v (Value.int IntKind.i64 (-1))]) x149 (x148 + 1) (y155 + 1)))))))))))))
noncomputable def F44 (a28 : Nat) (a29 : List DV) : Option (Nat × List DV × Int) := res B44 (.c0 a28 a29)
noncomputable def D44_0 (a28 : Nat) (a29 : List DV) : DT cfz := (.go 11 [] [] (.bind (f109 ((↑a28 : Int) == 0) 12) fun v32 => (.go 4 [(.ck 0)] [] (.bind (f109 (decide ((↑a28 : Int) > 15)) 5) fun v33 => (.go 2 [(.ck 1)] [] (.bind (f107 2 [(.v (.int .i64 v32)), (.v (.int .i64 v33))]) fun v40 => (.go 8 [(.ck 2)] [] (.split 24 (.go 8 [(.br true)] [0] .fin) (.go 11 [(.br false)] [0] (.cut 0 [[0, 26, 27, 28]] []))))))))))
theorem k44_0 (a28 : Nat) (a29 : List DV) : xrun cfz 44 (D44_0 a28 a29) [] (st44 (.c0 a28 a29)) = (B44 (.c0 a28 a29)).mach st44 out44 := by kernel_rfl
noncomputable def D44_1 (x41 : Nat) (x42 : List DV) (x43 : Int) (y44 : Int) : DT cfz := (.go 5 [] [] (.split 29 (.go 19 [(.br true), (.as (.d (.sl (dN (cel x42 (y44.toNat * 1))) (dL (cel x42 (y44.toNat * 1)))))), (.as (.d (.sl (dN (cel x42 0)) (dL (cel x42 0)))))] [0, 5] (.bind (f109 ((↑(dN (cel x42 (y44.toNat * 1))) : Int) != (↑(dN (cel x42 0)) : Int)) 2) fun v45 => (.go 4 [(.ck 0)] [] (.bind (f109 (decide ((↑(dN (cel x42 (y44.toNat * 1))) : Int) > 1024)) 5) fun v46 => (.go 2 [(.ck 1)] [] (.bind (f126 (dN (cel x42 (y44.toNat * 1))) (dL (cel x42 (y44.toNat * 1))) (-1) 1) fun v108 => (.go 2 [(.ck 2)] [] (.bind (f107 3 [(.v (.int .i64 v45)), (.v (.int .i64 v46)), (.v (.int .i64 v108))]) fun v109 => (.go 8 [(.ck 3)] [] (.split 49 (.go 8 [(.br true)] [0] .fin) (.go 8 [(.br false)] [0] (.cut 0 [[0, 26, 27, 28]] [])))))))))))) (.go 17 [(.br false), (.as (.d (.sl (dN (cel x42 0)) (dL (cel x42 0)))))] [0, 1] (.cut 0 [[0, 8, 55, 56]] []))))
theorem k44_1 (x41 : Nat) (x42 : List DV) (x43 : Int) (y44 : Int) : xrun cfz 44 (D44_1 x41 x42 x43 y44) [] (st44 (.c1 x41 x42 x43 y44)) = (B44 (.c1 x41 x42 x43 y44)).mach st44 out44 := by kernel_rfl
noncomputable def D44_2 (x110 : Nat) (x111 : List DV) (x112 : Int) (y113 : Int) : DT cfz := (.go 5 [] [] (.split 57 (.go 22 [(.br true)] [0] (.cut 1 [[0, 8, 9, 10, 55, 56, 59, 60, 61]] [])) (.go 9 [(.br false)] [0] .fin)))
theorem k44_2 (x110 : Nat) (x111 : List DV) (x112 : Int) (y113 : Int) : xrun cfz 44 (D44_2 x110 x111 x112 y113) [] (st44 (.c2 x110 x111 x112 y113)) = (B44 (.c2 x110 x111 x112 y113)).mach st44 out44 := by kernel_rfl
noncomputable def D44_3 (x114 : Nat) (x115 : List DV) (x116 : Int) (x117 : Int) (x118 : Int) (y119 : Int) : DT cfz := (.go 5 [] [] (.split 62 (.go 28 [(.br true), (.as (.d (.sl (dN (cel x115 (y119.toNat * 1))) (dL (cel x115 (y119.toNat * 1)))))), (.as (.d (.v (.int .i64 (dI (cel (dL (cel x115 (y119.toNat * 1))) (x116.toNat * 1))))))), (.as (.d (.v (.int .i64 (dI (celA [AV.d (DV.v (Value.int IntKind.i64 0)), AV.d (DV.v (Value.int IntKind.i64 0)), AV.d (DV.v (Value.int IntKind.i64 0))] (0 + (dI (cel (dL (cel x115 (y119.toNat * 1))) (x116.toNat * 1)) + 1).toNat * 1))))))), (.as (.agg (spliceA [AV.d (DV.v (Value.int IntKind.i64 0)), AV.d (DV.v (Value.int IntKind.i64 0)), AV.d (DV.v (Value.int IntKind.i64 0))] (0 + (dI (cel (dL (cel x115 (y119.toNat * 1))) (x116.toNat * 1)) + 1).toNat * 1) [AV.d (DV.v (Value.int IntKind.i64 (dI (celA [AV.d (DV.v (Value.int IntKind.i64 0)), AV.d (DV.v (Value.int IntKind.i64 0)), AV.d (DV.v (Value.int IntKind.i64 0))] (0 + (dI (cel (dL (cel x115 (y119.toNat * 1))) (x116.toNat * 1)) + 1).toNat * 1)) + 1)))])))] [0, 16] (.cutP 1 [0] [[0, 8, 9, 10, 55, 56, 59, 60, 61]] [])) (.go 36 [(.br false), .none, .none, (.br false), .none, .none, (.br false)] [0, 1, 2, 3, 4, 5, 6, 7, 8, 9, 10, 11, 12, 13] (.cut 3 [[0, 8, 55, 56]] [0]))))
theorem k44_3 (x114 : Nat) (x115 : List DV) (x116 : Int) (x117 : Int) (x118 : Int) (y119 : Int) : xrun cfz 44 (D44_3 x114 x115 x116 x117 x118 y119) [] (st44 (.c3 x114 x115 x116 x117 x118 y119)) = (B44 (.c3 x114 x115 x116 x117 x118 y119)).mach st44 out44 := by kernel_rfl
noncomputable def D44_4 (x120 : Nat) (x121 : List DV) (x122 : Int) (x123 : Int) (x124 : Int) (y125 : Int) (x126 : List AV) : DT cfz := (.go 5 [] [] (.split 62 (.go 28 [(.br true), (.as (.d (.sl (dN (cel x121 (y125.toNat * 1))) (dL (cel x121 (y125.toNat * 1)))))), (.as (.d (.v (.int .i64 (dI (cel (dL (cel x121 (y125.toNat * 1))) (x122.toNat * 1))))))), (.as (.d (.v (.int .i64 (dI (celA x126 (0 + (dI (cel (dL (cel x121 (y125.toNat * 1))) (x122.toNat * 1)) + 1).toNat * 1))))))), (.as (.agg (spliceA x126 (0 + (dI (cel (dL (cel x121 (y125.toNat * 1))) (x122.toNat * 1)) + 1).toNat * 1) [AV.d (DV.v (Value.int IntKind.i64 (dI (celA x126 (0 + (dI (cel (dL (cel x121 (y125.toNat * 1))) (x122.toNat * 1)) + 1).toNat * 1)) + 1)))])))] [0, 16] (.cutP 1 [0] [[0, 8, 9, 10, 55, 56, 59, 60, 61]] [])) (.go 12 [(.br false), (.as (.d (.v (.int .i64 (dI (celA x126 2)))))), (.as (.d (.v (.int .i64 (dI (celA x126 1))))))] [0, 1, 2, 4, 5] (.split 78 (.go 14 [(.br true)] [0, 1, 2, 3] (.cut 3 [[0, 8, 55, 56]] [0])) (.go 10 [(.br false), (.as (.d (.v (.int .i64 (dI (celA x126 1)))))), (.as (.d (.v (.int .i64 (dI (celA x126 2))))))] [0, 1, 2, 4, 5] (.split 87 (.go 14 [(.br true)] [0, 1, 2, 3] (.cut 3 [[0, 8, 55, 56]] [0])) (.go 14 [(.br false)] [0, 1, 2, 3] (.cut 3 [[0, 8, 55, 56]] [0]))))))))
theorem k44_4 (x120 : Nat) (x121 : List DV) (x122 : Int) (x123 : Int) (x124 : Int) (y125 : Int) (x126 : List AV) : xrun cfz 44 (D44_4 x120 x121 x122 x123 x124 y125 x126) [] (st44 (.c4 x120 x121 x122 x123 x124 y125 x126)) = (B44 (.c4 x120 x121 x122 x123 x124 y125 x126)).mach st44 out44 := by kernel_rfl
noncomputable def D44_5 (x127 : Nat) (x128 : List DV) (y129 : Nat) (y130 : Nat) (y131 : List DV) (x132 : Int) (y133 : Int) (y153 : Nat) : DT cfz := (.go 5 [] [] (.split 57 (.go 22 [(.br true)] [0] (.cut 4 [[0, 8, 9, 10, 55, 56, 59, 60, 61]] [])) (.go 9 [(.br false)] [0] .fin)))
theorem k44_5 (x127 : Nat) (x128 : List DV) (y129 : Nat) (y130 : Nat) (y131 : List DV) (x132 : Int) (y133 : Int) (y153 : Nat) : xrun cfz 44 (D44_5 x127 x128 y129 y130 y131 x132 y133 y153) [] (st44 (.c5 x127 x128 y129 y130 y131 x132 y133 y153)) = (B44 (.c5 x127 x128 y129 y130 y131 x132 y133 y153)).mach st44 out44 := by kernel_rfl
noncomputable def D44_6 (x134 : Nat) (x135 : List DV) (x136 : Nat) (x137 : Nat) (x138 : List DV) (x139 : Int) (x140 : Int) (x141 : Int) (y142 : Int) (y154 : Nat) : DT cfz := (.go 5 [] [] (.split 62 (.go 28 [(.br true), (.as (.d (.sl (dN (cel x135 (y142.toNat * 1))) (dL (cel x135 (y142.toNat * 1)))))), (.as (.d (.v (.int .i64 (dI (cel (dL (cel x135 (y142.toNat * 1))) (x139.toNat * 1))))))), (.as (.d (.v (.int .i64 (dI (celA [AV.d (DV.v (Value.int IntKind.i64 0)), AV.d (DV.v (Value.int IntKind.i64 0)), AV.d (DV.v (Value.int IntKind.i64 0))] (0 + (dI (cel (dL (cel x135 (y142.toNat * 1))) (x139.toNat * 1)) + 1).toNat * 1))))))), (.as (.agg (spliceA [AV.d (DV.v (Value.int IntKind.i64 0)), AV.d (DV.v (Value.int IntKind.i64 0)), AV.d (DV.v (Value.int IntKind.i64 0))] (0 + (dI (cel (dL (cel x135 (y142.toNat * 1))) (x139.toNat * 1)) + 1).toNat * 1) [AV.d (DV.v (Value.int IntKind.i64 (dI (celA [AV.d (DV.v (Value.int IntKind.i64 0)), AV.d (DV.v (Value.int IntKind.i64 0)), AV.d (DV.v (Value.int IntKind.i64 0))] (0 + (dI (cel (dL (cel x135 (y142.toNat * 1))) (x139.toNat * 1)) + 1).toNat * 1)) + 1)))])))] [0, 16] (.cutP 4 [3] [[0, 8, 9, 10, 55, 56, 59, 60, 61]] [])) (.go 36 [(.br false), .none, .none, (.br false), .none, .none, (.br false)] [0, 1, 2, 3, 4, 5, 6, 7, 8, 9, 10, 12, 13] (.cut 3 [[0, 8, 55, 56]] []))))
theorem k44_6 (x134 : Nat) (x135 : List DV) (x136 : Nat) (x137 : Nat) (x138 : List DV) (x139 : Int) (x140 : Int) (x141 : Int) (y142 : Int) (y154 : Nat) : xrun cfz 44 (D44_6 x134 x135 x136 x137 x138 x139 x140 x141 y142 y154) [] (st44 (.c6 x134 x135 x136 x137 x138 x139 x140 x141 y142 y154)) = (B44 (.c6 x134 x135 x136 x137 x138 x139 x140 x141 y142 y154)).mach st44 out44 := by kernel_rfl
noncomputable def D44_7 (x143 : Nat) (x144 : List DV) (x145 : Nat) (x146 : Nat) (x147 : List DV) (x148 : Int) (x149 : Int) (x150 : Int) (y151 : Int) (y155 : Nat) (x152 : List AV) : DT cfz := (.go 5 [] [] (.split 62 (.go 28 [(.br true), (.as (.d (.sl (dN (cel x144 (y151.toNat * 1))) (dL (cel x144 (y151.toNat * 1)))))), (.as (.d (.v (.int .i64 (dI (cel (dL (cel x144 (y151.toNat * 1))) (x148.toNat * 1))))))), (.as (.d (.v (.int .i64 (dI (celA x152 (0 + (dI (cel (dL (cel x144 (y151.toNat * 1))) (x148.toNat * 1)) + 1).toNat * 1))))))), (.as (.agg (spliceA x152 (0 + (dI (cel (dL (cel x144 (y151.toNat * 1))) (x148.toNat * 1)) + 1).toNat * 1) [AV.d (DV.v (Value.int IntKind.i64 (dI (celA x152 (0 + (dI (cel (dL (cel x144 (y151.toNat * 1))) (x148.toNat * 1)) + 1).toNat * 1)) + 1)))])))] [0, 16] (.cutP 4 [3] [[0, 8, 9, 10, 55, 56, 59, 60, 61]] [])) (.go 12 [(.br false), (.as (.d (.v (.int .i64 (dI (celA x152 2)))))), (.as (.d (.v (.int .i64 (dI (celA x152 1))))))] [0, 1, 2, 4, 5] (.split 78 (.go 14 [(.br true)] [0, 2, 3] (.cut 3 [[0, 8, 55, 56]] [])) (.go 10 [(.br false), (.as (.d (.v (.int .i64 (dI (celA x152 1)))))), (.as (.d (.v (.int .i64 (dI (celA x152 2))))))] [0, 1, 2, 4, 5] (.split 87 (.go 14 [(.br true)] [0, 2, 3] (.cut 3 [[0, 8, 55, 56]] [])) (.go 14 [(.br false)] [0, 2, 3] (.cut 3 [[0, 8, 55, 56]] []))))))))
theorem k44_7 (x143 : Nat) (x144 : List DV) (x145 : Nat) (x146 : Nat) (x147 : List DV) (x148 : Int) (x149 : Int) (x150 : Int) (y151 : Int) (y155 : Nat) (x152 : List AV) : xrun cfz 44 (D44_7 x143 x144 x145 x146 x147 x148 x149 x150 y151 y155 x152) [] (st44 (.c7 x143 x144 x145 x146 x147 x148 x149 x150 y151 y155 x152)) = (B44 (.c7 x143 x144 x145 x146 x147 x148 x149 x150 y151 y155 x152)).mach st44 out44 := by kernel_rfl
theorem ok44 : ∀ s, ∃ d, xrun cfz 44 d [] (st44 s) = (B44 s).mach st44 out44
  | .c0 a28 a29 => ⟨_, k44_0 a28 a29⟩
  | .c1 x41 x42 x43 y44 => ⟨_, k44_1 x41 x42 x43 y44⟩
  | .c2 x110 x111 x112 y113 => ⟨_, k44_2 x110 x111 x112 y113⟩
  | .c3 x114 x115 x116 x117 x118 y119 => ⟨_, k44_3 x114 x115 x116 x117 x118 y119⟩
  | .c4 x120 x121 x122 x123 x124 y125 x126 => ⟨_, k44_4 x120 x121 x122 x123 x124 y125 x126⟩
  | .c5 x127 x128 y129 y130 y131 x132 y133 y153 => ⟨_, k44_5 x127 x128 y129 y130 y131 x132 y133 y153⟩
  | .c6 x134 x135 x136 x137 x138 x139 x140 x141 y142 y154 => ⟨_, k44_6 x134 x135 x136 x137 x138 x139 x140 x141 y142 y154⟩
  | .c7 x143 x144 x145 x146 x147 x148 x149 x150 y151 y155 x152 => ⟨_, k44_7 x143 x144 x145 x146 x147 x148 x149 x150 y151 y155 x152⟩
theorem f44 (a28 : Nat) (a29 : List DV) (v : Nat × List DV × Int) (h : F44 a28 a29 = some v) : PureCalls cfz.P cfz.glob 44 [(.d (.sl a28 a29))] (out44 v) := tree_pure knil ok44 (s := .c0 a28 a29) rfl (by kernel_rfl) v h

/-! F37 -/
inductive S37 where
  | c0 (a159 : Bool) (a160 : Int)
def out37 (v : Int) : AV := (.d (.v (.int .i64 v)))
noncomputable def st37 : S37 → ASt
  | .c0 a159 a160 => ent cfz 37 [(.d (.v (.bool a159))), (.d (.v (.int .i64 a160)))]
noncomputable def B37 : S37 → Tr S37 (Int)
  | .c0 a159 a160 => (.br a159
  (.ret a160)
  (.ret 0))
noncomputable def F37 (a159 : Bool) (a160 : Int) : Option (Int) := res B37 (.c0 a159 a160)
noncomputable def D37_0 (a159 : Bool) (a160 : Int) : DT cfz := (.go 9 [] [] (.split 5 (.go 7 [(.br true)] [0] .fin) (.go 7 [(.br false)] [0] .fin)))
theorem k37_0 (a159 : Bool) (a160 : Int) : xrun cfz 37 (D37_0 a159 a160) [] (st37 (.c0 a159 a160)) = (B37 (.c0 a159 a160)).mach st37 out37 := by kernel_rfl
theorem ok37 : ∀ s, ∃ d, xrun cfz 37 d [] (st37 s) = (B37 s).mach st37 out37
  | .c0 a159 a160 => ⟨_, k37_0 a159 a160⟩
theorem f37 (a159 : Bool) (a160 : Int) (v : Int) (h : F37 a159 a160 = some v) : PureCalls cfz.P cfz.glob 37 [(.d (.v (.bool a159))), (.d (.v (.int .i64 a160)))] (out37 v) := tree_pure knil ok37 (s := .c0 a159 a160) rfl (by kernel_rfl) v h

/-! F20 -/
inductive S20 where
  | c0 (a163 : Nat) (a164 : List DV)
  | c1 (x165 : Nat) (x166 : List DV) (y167 : Int)
def out20 (v : Int) : AV := (.d (.v (.int .i64 v)))
noncomputable def st20 : S20 → ASt
  | .c0 a163 a164 => ent cfz 20 [(.d (.sl a163 a164))]
  | .c1 x165 x166 y167 => ⟨⟨20, sp 19 0 [(0, (.d (.sl x165 x166))), (3, (.d (.v (.int .i64 y167))))], [(.code (cd cfz.P 20 [1, 0, 1, 0, 0])), (.inLoop (cd cfz.P 20 [1, 0, 1, 0, 0])), (.inBlock 0), (.code (cd cfz.P 20 [1, 1]))], [], false, .none⟩, [], []⟩
noncomputable def B20 : S20 → Tr S20 (Int)
  | .c0 a163 a164 => (.nxt (.c1 a163 a164 0))
  | .c1 x165 x166 y167 => (.br (decide (y167 < (↑x165 : Int)))
  (.ask (.le 0 y167) (.ask (.lt y167 ((↑x165 : Int))) (.ask (.leN (y167.toNat * 1) x166.length) (.ask (.prop (Option.map AV.d (List.drop (y167.toNat * 1) x166)[0]? = some (AV.d (DV.v (Value.int IntKind.i64 (dI (cel x166 (y167.toNat * 1)))))))) (.br (dI (cel x166 (y167.toNat * 1)) != 0)
  (.ask (.le 0 y167) (.ask (.lt y167 ((↑x165 : Int))) (.ask (.leN (y167.toNat * 1) x166.length) (.ask (.prop (Option.map AV.d (List.drop (y167.toNat * 1) x166)[0]? = some (AV.d (DV.v (Value.int IntKind.i64 (dI (cel x166 (y167.toNat * 1)))))))) (.ret (dI (cel x166 (y167.toNat * 1))))))))
  (.ask (.in64 (y167 + 1)) (.nxt (.c1 x165 x166 (y167 + 1)))))))))
  (.ret 0))
noncomputable def F20 (a163 : Nat) (a164 : List DV) : Option (Int) := res B20 (.c0 a163 a164)
noncomputable def D20_0 (a163 : Nat) (a164 : List DV) : DT cfz := (.go 11 [] [] (.cut 0 [[0, 3]] []))
theorem k20_0 (a163 : Nat) (a164 : List DV) : xrun cfz 20 (D20_0 a163 a164) [] (st20 (.c0 a163 a164)) = (B20 (.c0 a163 a164)).mach st20 out20 := by kernel_rfl
noncomputable def D20_1 (x165 : Nat) (x166 : List DV) (y167 : Int) : DT cfz := (.go 8 [] [] (.split 7 (.go 12 [(.br true), (.as (.d (.v (.int .i64 (dI (cel x166 (y167.toNat * 1)))))))] [0] (.split 14 (.go 10 [(.br true), (.as (.d (.v (.int .i64 (dI (cel x166 (y167.toNat * 1)))))))] [0] .fin) (.go 9 [(.br false)] [0] (.cut 0 [[0, 3]] [])))) (.go 7 [(.br false)] [0] .fin)))
theorem k20_1 (x165 : Nat) (x166 : List DV) (y167 : Int) : xrun cfz 20 (D20_1 x165 x166 y167) [] (st20 (.c1 x165 x166 y167)) = (B20 (.c1 x165 x166 y167)).mach st20 out20 := by kernel_rfl
theorem ok20 : ∀ s, ∃ d, xrun cfz 20 d [] (st20 s) = (B20 s).mach st20 out20
  | .c0 a163 a164 => ⟨_, k20_0 a163 a164⟩
  | .c1 x165 x166 y167 => ⟨_, k20_1 x165 x166 y167⟩
theorem f20 (a163 : Nat) (a164 : List DV) (v : Int) (h : F20 a163 a164 = some v) : PureCalls cfz.P cfz.glob 20 [(.d (.sl a163 a164))] (out20 v) := tree_pure knil ok20 (s := .c0 a163 a164) rfl (by kernel_rfl) v h

/-! F39 -/
inductive S39 where
  | c0 (a179 : Int) (a180 : Int) (a181 : Int)
def out39 (v : Int) : AV := (.d (.v (.int .i64 v)))
noncomputable def st39 : S39 → ASt
  | .c0 a179 a180 a181 => ent cfz 39 [(.d (.v (.int .i64 a179))), (.d (.v (.int .i64 a180))), (.d (.v (.int .i64 a181)))]
noncomputable def B39 : S39 → Tr S39 (Int)
  | .c0 a179 a180 a181 => (.triv _ (tv_s (decide (a179 < a180) == false)) (.triv _ (tv_s (decide (a179 < a180) == false)) (.triv _ (tv_f (decide (a179 < a180))) (.bind (F37 (if decide (a179 < a180) = true then true else decide (a179 > a181)) 3) fun v182 =>
  (.sees [(.d (.v (.bool (if decide (a179 < a180) = true then true else decide (a179 > a181))))), (.d (.v (.int .i64 3)))] (.ret v182))))))
noncomputable def F39 (a179 : Int) (a180 : Int) (a181 : Int) : Option (Int) := res B39 (.c0 a179 a180 a181)
noncomputable def D39_0 (a179 : Int) (a180 : Int) (a181 : Int) : DT cfz := (.go 14 [(.sp .none), (.sp .none), (.sp .none), .mg] [] (.bind (f37 (if decide (a179 < a180) = true then true else decide (a179 > a181)) 3) fun v182 => (.go 4 [(.ck 0)] [] .fin)))
theorem k39_0 (a179 : Int) (a180 : Int) (a181 : Int) : xrun cfz 39 (D39_0 a179 a180 a181) [] (st39 (.c0 a179 a180 a181)) = (B39 (.c0 a179 a180 a181)).mach st39 out39 := by kernel_rfl
theorem ok39 : ∀ s, ∃ d, xrun cfz 39 d [] (st39 s) = (B39 s).mach st39 out39
  | .c0 a179 a180 a181 => ⟨_, k39_0 a179 a180 a181⟩
theorem f39 (a179 : Int) (a180 : Int) (a181 : Int) (v : Int) (h : F39 a179 a180 a181 = some v) : PureCalls cfz.P cfz.glob 39 [(.d (.v (.int .i64 a179))), (.d (.v (.int .i64 a180))), (.d (.v (.int .i64 a181)))] (out39 v) := tree_pure knil ok39 (s := .c0 a179 a180 a181) rfl (by kernel_rfl) v h

/-! F45 -/
inductive S45 where
  | c0 (a157 : Nat) (a158 : List DV)
  | c1 (x169 : Nat) (x170 : List DV) (y171 : Int)
  | c2 (x175 : Nat) (x176 : List DV) (x177 : Int) (y178 : Int)
def out45 (v : Int) : AV := (.d (.v (.int .i64 v)))
noncomputable def st45 : S45 → ASt
  | .c0 a157 a158 => ent cfz 45 [(.d (.sl a157 a158))]
  | .c1 x169 x170 y171 => ⟨⟨45, sp 70 0 [(0, (.d (.sl x169 x170))), (4, (.d (.v (.int .i64 y171))))], [(.code (cd cfz.P 45 [1, 1, 0, 1, 0, 0])), (.inLoop (cd cfz.P 45 [1, 1, 0, 1, 0, 0])), (.inBlock 0), (.code (cd cfz.P 45 [1, 1, 1]))], [], false, .none⟩, [], []⟩
  | .c2 x175 x176 x177 y178 => ⟨⟨45, sp 70 0 [(0, (.d (.sl x175 x176))), (4, (.d (.v (.int .i64 x177)))), (6, (.d (.v (.int .i64 y178))))], [(.code (cd cfz.P 45 [1, 1, 0, 1, 0, 0, 1, 0, 0, 1, 1, 0, 0])), (.inLoop (cd cfz.P 45 [1, 1, 0, 1, 0, 0, 1, 0, 0, 1, 1, 0, 0])), (.inBlock 2), (.inBlock 1), (.code (cd cfz.P 45 [1, 1, 0, 1, 0, 0, 1, 1])), (.inLoop (cd cfz.P 45 [1, 1, 0, 1, 0, 0])), (.inBlock 0), (.code (cd cfz.P 45 [1, 1, 1]))], [], false, .none⟩, [], []⟩
noncomputable def B45 : S45 → Tr S45 (Int)
  | .c0 a157 a158 => (.bind (F37 ((↑a157 : Int) == 0) 12) fun v161 =>
  (.sees [(.d (.v (.bool ((↑a157 : Int) == 0)))), (.d (.v (.int .i64 12)))] (.bind (F37 (decide ((↑a157 : Int) > 15)) 5) fun v162 =>
  (.sees [(.d (.v (.bool (decide ((↑a157 : Int) > 15))))), (.d (.v (.int .i64 5)))] (.bind (F20 2 [(.v (.int .i64 v161)), (.v (.int .i64 v162))]) fun v168 =>
  (.sees [(.d (.sl 2 [(.v (.int .i64 v161)), (.v (.int .i64 v162))]))] (.br (v168 != 0)
  (.ret v168)
  (.nxt (.c1 a157 a158 0)))))))))
  | .c1 x169 x170 y171 => (.br (decide (y171 < (↑x169 : Int)))
  (.bind (F37 ((↑(dN (cel x170 (y171.toNat * 1))) : Int) != (↑(dN (cel x170 0)) : Int)) 2) fun v172 =>
  (.bind (F37 (decide ((↑(dN (cel x170 (y171.toNat * 1))) : Int) > 1024)) 5) fun v173 =>
  (.bind (F20 2 [(.v (.int .i64 v172)), (.v (.int .i64 v173))]) fun v174 =>
  (.ask (.le 0 y171) (.ask (.lt y171 ((↑x169 : Int))) (.ask (.leN (y171.toNat * 1) x170.length) (.ask (.prop (Option.map AV.d (List.drop (y171.toNat * 1) x170)[0]? = some (AV.d (DV.sl (dN (cel x170 (y171.toNat * 1))) (dL (cel x170 (y171.toNat * 1))))))) (.ask (.lt 0 ((↑x169 : Int))) (.ask (.leN 0 x170.length) (.ask (.prop (Option.map AV.d (List.drop 0 x170)[0]? = some (AV.d (DV.sl (dN (cel x170 0)) (dL (cel x170 0)))))) (.sees [(.d (.v (.bool ((↑(dN (cel x170 (y171.toNat * 1))) : Int) != (↑(dN (cel x170 0)) : Int))))), (.d (.v (.int .i64 2)))] (.ask (.le 0 y171) (.ask (.lt y171 ((↑x169 : Int))) (.ask (.leN (y171.toNat * 1) x170.length) (.ask (.prop (Option.map AV.d (List.drop (y171.toNat * 1) x170)[0]? = some (AV.d (DV.sl (dN (cel x170 (y171.toNat * 1))) (dL (cel x170 (y171.toNat * 1))))))) (.sees [(.d (.v (.bool (decide ((↑(dN (cel x170 (y171.toNat * 1))) : Int) > 1024))))), (.d (.v (.int .i64 5)))] (.sees [(.d (.sl 2 [(.v (.int .i64 v172)), (.v (.int .i64 v173))]))] (.br (v174 != 0)
  (.ret v174)
  (.nxt (.c2 x169 x170 y171 0))))))))))))))))))))
  (.ret 0))
  | .c2 x175 x176 x177 y178 => (.ask (.le 0 x177) (.ask (.lt x177 ((↑x175 : Int))) (.ask (.leN (x177.toNat * 1) x176.length) (.ask (.prop (Option.map AV.d (List.drop (x177.toNat * 1) x176)[0]? = some (AV.d (DV.sl (dN (cel x176 (x177.toNat * 1))) (dL (cel x176 (x177.toNat * 1))))))) (.br (decide (y178 < (↑(dN (cel x176 (x177.toNat * 1))) : Int)))
  (.ask (.le 0 x177) (.ask (.lt x177 ((↑x175 : Int))) (.ask (.leN (x177.toNat * 1) x176.length) (.ask (.prop (Option.map AV.d (List.drop (x177.toNat * 1) x176)[0]? = some (AV.d (DV.sl (dN (cel x176 (x177.toNat * 1))) (dL (cel x176 (x177.toNat * 1))))))) (.ask (.le 0 y178) (.ask (.lt y178 ((↑(dN (cel x176 (x177.toNat * 1))) : Int))) (.ask (.leN (y178.toNat * 1) ((dL (cel x176 (x177.toNat * 1))).length)) (.ask (.prop (Option.map AV.d (List.drop (y178.toNat * 1) (dL (cel x176 (x177.toNat * 1))))[0]? = some (AV.d (DV.v (Value.int IntKind.i64 (dI (cel (dL (cel x176 (x177.toNat * 1))) (y178.toNat * 1)))))))) (.bind (F39 (dI (cel (dL (cel x176 (x177.toNat * 1))) (y178.toNat * 1))) (-1) 1) fun v183 =>
  (.sees [(.d (.v (.int .i64 (dI (cel (dL (cel x176 (x177.toNat * 1))) (y178.toNat * 1)))))), (.d (.v (.int .i64 (-1)))), (.d (.v (.int .i64 1)))] (.br (v183 != 0)
  (.ret v183)
  (.ask (.in64 (y178 + 1)) (.nxt (.c2 x175 x176 x177 (y178 + 1)))))))))))))))
  (.ask (.in64 (x177 + 1)) (.nxt (.c1 x175 x176 (x177 + 1)))))))))
noncomputable def F45 (a157 : Nat) (a158 : List DV) : Option (Int) := res B45 (.c0 a157 a158)
noncomputable def D45_0 (a157 : Nat) (a158 : List DV) : DT cfz := (.go 10 [] [] (.bind (f37 ((↑a157 : Int) == 0) 12) fun v161 => (.go 4 [(.ck 0)] [] (.bind (f37 (decide ((↑a157 : Int) > 15)) 5) fun v162 => (.go 2 [(.ck 1)] [] (.bind (f20 2 [(.v (.int .i64 v161)), (.v (.int .i64 v162))]) fun v168 => (.go 8 [(.ck 2)] [] (.split 19 (.go 7 [(.br true)] [0] .fin) (.go 9 [(.br false)] [0] (.cut 0 [[0, 4]] []))))))))))
theorem k45_0 (a157 : Nat) (a158 : List DV) : xrun cfz 45 (D45_0 a157 a158) [] (st45 (.c0 a157 a158)) = (B45 (.c0 a157 a158)).mach st45 out45 := by kernel_rfl
noncomputable def D45_1 (x169 : Nat) (x170 : List DV) (y171 : Int) : DT cfz := (.go 8 [] [] (.split 24 (.go 7 [(.br true)] [0] (.bind (f37 ((↑(dN (cel x170 (y171.toNat * 1))) : Int) != (↑(dN (cel x170 0)) : Int)) 2) fun v172 => (.bind (f37 (decide ((↑(dN (cel x170 (y171.toNat * 1))) : Int) > 1024)) 5) fun v173 => (.bind (f20 2 [(.v (.int .i64 v172)), (.v (.int .i64 v173))]) fun v174 => (.go 6 [(.as (.d (.sl (dN (cel x170 (y171.toNat * 1))) (dL (cel x170 (y171.toNat * 1)))))), (.as (.d (.sl (dN (cel x170 0)) (dL (cel x170 0))))), (.ck 0), (.as (.d (.sl (dN (cel x170 (y171.toNat * 1))) (dL (cel x170 (y171.toNat * 1)))))), (.ck 1), (.ck 2)] [4] (.split 48 (.go 7 [(.br true)] [0] .fin) (.go 8 [(.br false)] [0] (.cut 0 [[0, 4, 6]] [])))))))) (.go 7 [(.br false)] [0] .fin)))
theorem k45_1 (x169 : Nat) (x170 : List DV) (y171 : Int) : xrun cfz 45 (D45_1 x169 x170 y171) [] (st45 (.c1 x169 x170 y171)) = (B45 (.c1 x169 x170 y171)).mach st45 out45 := by kernel_rfl
noncomputable def D45_2 (x175 : Nat) (x176 : List DV) (x177 : Int) (y178 : Int) : DT cfz := (.go 11 [(.as (.d (.sl (dN (cel x176 (x177.toNat * 1))) (dL (cel x176 (x177.toNat * 1))))))] [] (.split 56 (.go 13 [(.br true), (.as (.d (.sl (dN (cel x176 (x177.toNat * 1))) (dL (cel x176 (x177.toNat * 1)))))), (.as (.d (.v (.int .i64 (dI (cel (dL (cel x176 (x177.toNat * 1))) (y178.toNat * 1)))))))] [0] (.bind (f39 (dI (cel (dL (cel x176 (x177.toNat * 1))) (y178.toNat * 1))) (-1) 1) fun v183 => (.go 8 [(.ck 0)] [] (.split 68 (.go 7 [(.br true)] [0] .fin) (.go 9 [(.br false)] [0] (.cut 0 [[0, 4, 6]] [])))))) (.go 9 [(.br false)] [0] (.cut 0 [[0, 4]] []))))
theorem k45_2 (x175 : Nat) (x176 : List DV) (x177 : Int) (y178 : Int) : xrun cfz 45 (D45_2 x175 x176 x177 y178) [] (st45 (.c2 x175 x176 x177 y178)) = (B45 (.c2 x175 x176 x177 y178)).mach st45 out45 := by kernel_rfl
theorem ok45 : ∀ s, ∃ d, xrun cfz 45 d [] (st45 s) = (B45 s).mach st45 out45
  | .c0 a157 a158 => ⟨_, k45_0 a157 a158⟩
  | .c1 x169 x170 y171 => ⟨_, k45_1 x169 x170 y171⟩
  | .c2 x175 x176 x177 y178 => ⟨_, k45_2 x175 x176 x177 y178⟩
theorem f45 (a157 : Nat) (a158 : List DV) (v : Int) (h : F45 a157 a158 = some v) : PureCalls cfz.P cfz.glob 45 [(.d (.sl a157 a158))] (out45 v) := tree_pure knil ok45 (s := .c0 a157 a158) rfl (by kernel_rfl) v h

/-! F46 -/
inductive S46 where
  | c0 (a185 : Nat) (a186 : List DV)
  | c1 (x187 : Nat) (x188 : List DV) (y189 : Int)
  | c2 (x190 : Nat) (x191 : List DV) (x192 : Int) (y193 : Int) (y194 : Int) (y195 : Int)
  | c3 (x196 : Nat) (x197 : List DV) (x198 : Int) (x199 : Int) (y200 : Int) (x201 : Int)
  | c4 (x202 : Nat) (x203 : List DV) (x204 : Int) (x205 : Int) (x206 : Int) (y207 : Int)
  | c5 (x208 : Nat) (x209 : List DV) (x210 : Int) (x211 : Int) (x212 : Int) (x213 : Int)
  | c6 (x214 : Nat) (x215 : List DV) (x216 : Int) (y217 : Int)
  | c7 (x218 : Nat) (x219 : List DV) (y220 : Nat) (y221 : Nat) (y222 : List DV) (y223 : Int) (y267 : Nat)
  | c8 (x224 : Nat) (x225 : List DV) (x226 : Nat) (x227 : Nat) (x228 : List DV) (x229 : Int) (y230 : Int) (y231 : Int) (y232 : Int) (y268 : Nat)
  | c9 (x233 : Nat) (x234 : List DV) (x235 : Nat) (x236 : Nat) (x237 : List DV) (x238 : Int) (x239 : Int) (y240 : Int) (x241 : Int) (y269 : Nat)
  | c10 (x242 : Nat) (x243 : List DV) (y244 : Nat) (y245 : Nat) (y246 : List DV) (x247 : Int) (x248 : Int) (x249 : Int) (y250 : Int) (y270 : Nat)
  | c11 (x251 : Nat) (x252 : List DV) (x253 : Nat) (x254 : Nat) (x255 : List DV) (x256 : Int) (x257 : Int) (x258 : Int) (x259 : Int) (y271 : Nat)
  | c12 (x260 : Nat) (x261 : List DV) (y262 : Nat) (y263 : Nat) (y264 : List DV) (x265 : Int) (y266 : Int) (y272 : Nat)
def out46 (v : Nat × List DV) : AV := (.d (.sl v.fst v.snd))
noncomputable def st46 : S46 → ASt
  | .c0 a185 a186 => ent cfz 46 [(.d (.sl a185 a186))]
  | .c1 x187 x188 y189 => ⟨⟨46, sp 54 0 [(0, (.d (.sl x187 x188))), (3, (.d (.v (.slice .none 0 0)))), (4, (.d (.v (.int .i64 y189))))], [(.code (cd cfz.P 46 [1, 1, 0, 1, 0, 0])), (.inLoop (cd cfz.P 46 [1, 1, 0, 1, 0, 0])), (.inBlock 0), (.code (cd cfz.P 46 [1, 1, 1]))], [], false, .none⟩, [], []⟩
  | .c2 x190 x191 x192 y193 y194 y195 => ⟨⟨46, sp 54 0 [(0, (.d (.sl x190 x191))), (3, (.d (.v (.slice .none 0 0)))), (4, (.d (.v (.int .i64 x192)))), (5, (.d (.v (.int .i64 y193)))), (6, (.d (.v (.int .i64 y194)))), (7, (.d (.v (.int .i64 y195))))], [(.code (cd cfz.P 46 [1, 1, 0, 1, 0, 0, 1, 0, 0, 1, 0, 1, 0, 0])), (.inLoop (cd cfz.P 46 [1, 1, 0, 1, 0, 0, 1, 0, 0, 1, 0, 1, 0, 0])), (.inBlock 2), (.code (cd cfz.P 46 [1, 1, 0, 1, 0, 0, 1, 0, 0, 1, 1])), (.inBlock 1), (.code (cd cfz.P 46 [1, 1, 0, 1, 0, 0, 1, 1])), (.inLoop (cd cfz.P 46 [1, 1, 0, 1, 0, 0])), (.inBlock 0), (.code (cd cfz.P 46 [1, 1, 1]))], [], false, .none⟩, [], []⟩
  | .c3 x196 x197 x198 x199 y200 x201 => ⟨⟨46, sp 54 0 [(0, (.d (.sl x196 x197))), (3, (.d (.v (.slice .none 0 0)))), (4, (.d (.v (.int .i64 x198)))), (5, (.d (.v (.int .i64 x199)))), (6, (.d (.v (.int .i64 y200)))), (7, (.d (.v (.int .i64 x201))))], [(.code (cd cfz.P 46 [1, 1, 0, 1, 0, 0, 1, 0, 0, 1, 0, 1, 0, 0, 1, 0, 0, 1])), (.inBlock 3), (.code (cd cfz.P 46 [1, 1, 0, 1, 0, 0, 1, 0, 0, 1, 0, 1, 0, 0, 1, 1])), (.inLoop (cd cfz.P 46 [1, 1, 0, 1, 0, 0, 1, 0, 0, 1, 0, 1, 0, 0])), (.inBlock 2), (.code (cd cfz.P 46 [1, 1, 0, 1, 0, 0, 1, 0, 0, 1, 1])), (.inBlock 1), (.code (cd cfz.P 46 [1, 1, 0, 1, 0, 0, 1, 1])), (.inLoop (cd cfz.P 46 [1, 1, 0, 1, 0, 0])), (.inBlock 0), (.code (cd cfz.P 46 [1, 1, 1]))], [], false, .none⟩, [], []⟩
  | .c4 x202 x203 x204 x205 x206 y207 => ⟨⟨46, sp 54 0 [(0, (.d (.sl x202 x203))), (3, (.d (.v (.slice .none 0 0)))), (4, (.d (.v (.int .i64 x204)))), (5, (.d (.v (.int .i64 x205)))), (6, (.d (.v (.int .i64 x206)))), (8, (.d (.v (.int .i64 y207))))], [(.code (cd cfz.P 46 [1, 1, 0, 1, 0, 0, 1, 0, 0, 1, 1, 1, 1])), (.inBlock 1), (.code (cd cfz.P 46 [1, 1, 0, 1, 0, 0, 1, 1])), (.inLoop (cd cfz.P 46 [1, 1, 0, 1, 0, 0])), (.inBlock 0), (.code (cd cfz.P 46 [1, 1, 1]))], [], false, .none⟩, [], []⟩
  | .c5 x208 x209 x210 x211 x212 x213 => ⟨⟨46, sp 54 0 [(0, (.d (.sl x208 x209))), (3, (.d (.v (.slice .none 0 0)))), (4, (.d (.v (.int .i64 x210)))), (5, (.d (.v (.int .i64 x211)))), (6, (.d (.v (.int .i64 x212)))), (7, (.d (.v (.int .i64 x213))))], [(.inBlock 3), (.code (cd cfz.P 46 [1, 1, 0, 1, 0, 0, 1, 0, 0, 1, 0, 1, 0, 0, 1, 1])), (.inLoop (cd cfz.P 46 [1, 1, 0, 1, 0, 0, 1, 0, 0, 1, 0, 1, 0, 0])), (.inBlock 2), (.code (cd cfz.P 46 [1, 1, 0, 1, 0, 0, 1, 0, 0, 1, 1])), (.inBlock 1), (.code (cd cfz.P 46 [1, 1, 0, 1, 0, 0, 1, 1])), (.inLoop (cd cfz.P 46 [1, 1, 0, 1, 0, 0])), (.inBlock 0), (.code (cd cfz.P 46 [1, 1, 1]))], [], false, .none⟩, [], []⟩
  | .c6 x214 x215 x216 y217 => ⟨⟨46, sp 54 0 [(0, (.d (.sl x214 x215))), (3, (.d (.v (.slice .none 0 0)))), (4, (.d (.v (.int .i64 x216)))), (8, (.d (.v (.int .i64 y217))))], [(.code (cd cfz.P 46 [1, 1, 0, 1, 0, 0, 1, 0, 0, 1, 1, 1, 1, 1])), (.inBlock 1), (.code (cd cfz.P 46 [1, 1, 0, 1, 0, 0, 1, 1])), (.inLoop (cd cfz.P 46 [1, 1, 0, 1, 0, 0])), (.inBlock 0), (.code (cd cfz.P 46 [1, 1, 1]))], [], false, .none⟩, [], []⟩
  | .c7 x218 x219 y220 y221 y222 y223 y267 => ⟨⟨46, sp 54 0 [(0, (.d (.sl x218 x219))), (3, (.own 1 y220 1 y221 y222)), (4, (.d (.v (.int .i64 y223))))], [(.code (cd cfz.P 46 [1, 1, 0, 1, 0, 0])), (.inLoop (cd cfz.P 46 [1, 1, 0, 1, 0, 0])), (.inBlock 0), (.code (cd cfz.P 46 [1, 1, 1]))], [], false, .none⟩, [], [(.tail 0), (.tail y267)]⟩
  | .c8 x224 x225 x226 x227 x228 x229 y230 y231 y232 y268 => ⟨⟨46, sp 54 0 [(0, (.d (.sl x224 x225))), (3, (.own 1 x226 1 x227 x228)), (4, (.d (.v (.int .i64 x229)))), (5, (.d (.v (.int .i64 y230)))), (6, (.d (.v (.int .i64 y231)))), (7, (.d (.v (.int .i64 y232))))], [(.code (cd cfz.P 46 [1, 1, 0, 1, 0, 0, 1, 0, 0, 1, 0, 1, 0, 0])), (.inLoop (cd cfz.P 46 [1, 1, 0, 1, 0, 0, 1, 0, 0, 1, 0, 1, 0, 0])), (.inBlock 2), (.code (cd cfz.P 46 [1, 1, 0, 1, 0, 0, 1, 0, 0, 1, 1])), (.inBlock 1), (.code (cd cfz.P 46 [1, 1, 0, 1, 0, 0, 1, 1])), (.inLoop (cd cfz.P 46 [1, 1, 0, 1, 0, 0])), (.inBlock 0), (.code (cd cfz.P 46 [1, 1, 1]))], [], false, .none⟩, [], [(.tail 0), (.tail y268)]⟩
  | .c9 x233 x234 x235 x236 x237 x238 x239 y240 x241 y269 => ⟨⟨46, sp 54 0 [(0, (.d (.sl x233 x234))), (3, (.own 1 x235 1 x236 x237)), (4, (.d (.v (.int .i64 x238)))), (5, (.d (.v (.int .i64 x239)))), (6, (.d (.v (.int .i64 y240)))), (7, (.d (.v (.int .i64 x241))))], [(.code (cd cfz.P 46 [1, 1, 0, 1, 0, 0, 1, 0, 0, 1, 0, 1, 0, 0, 1, 0, 0, 1])), (.inBlock 3), (.code (cd cfz.P 46 [1, 1, 0, 1, 0, 0, 1, 0, 0, 1, 0, 1, 0, 0, 1, 1])), (.inLoop (cd cfz.P 46 [1, 1, 0, 1, 0, 0, 1, 0, 0, 1, 0, 1, 0, 0])), (.inBlock 2), (.code (cd cfz.P 46 [1, 1, 0, 1, 0, 0, 1, 0, 0, 1, 1])), (.inBlock 1), (.code (cd cfz.P 46 [1, 1, 0, 1, 0, 0, 1, 1])), (.inLoop (cd cfz.P 46 [1, 1, 0, 1, 0, 0])), (.inBlock 0), (.code (cd cfz.P 46 [1, 1, 1]))], [], false, .none⟩, [], [(.tail 0), (.tail y269)]⟩
  | .c10 x242 x243 y244 y245 y246 x247 x248 x249 y250 y270 => ⟨⟨46, sp 54 0 [(0, (.d (.sl x242 x243))), (3, (.own 1 y244 1 y245 y246)), (4, (.d (.v (.int .i64 x247)))), (5, (.d (.v (.int .i64 x248)))), (6, (.d (.v (.int .i64 x249)))), (8, (.d (.v (.int .i64 y250))))], [(.code (cd cfz.P 46 [1, 1, 0, 1, 0, 0, 1, 0, 0, 1, 1, 1, 1])), (.inBlock 1), (.code (cd cfz.P 46 [1, 1, 0, 1, 0, 0, 1, 1])), (.inLoop (cd cfz.P 46 [1, 1, 0, 1, 0, 0])), (.inBlock 0), (.code (cd cfz.P 46 [1, 1, 1]))], [], false, .none⟩, [], [(.tail 0), (.tail y270)]⟩
  | .c11 x251 x252 x253 x254 x255 x256 x257 x258 x259 y271 => ⟨⟨46, sp 54 0 [(0, (.d (.sl x251 x252))), (3, (.own 1 x253 1 x254 x255)), (4, (.d (.v (.int .i64 x256)))), (5, (.d (.v (.int .i64 x257)))), (6, (.d (.v (.int .i64 x258)))), (7, (.d (.v (.int .i64 x259))))], [(.inBlock 3), (.code (cd cfz.P 46 [1, 1, 0, 1, 0, 0, 1, 0, 0, 1, 0, 1, 0, 0, 1, 1])), (.inLoop (cd cfz.P 46 [1, 1, 0, 1, 0, 0, 1, 0, 0, 1, 0, 1, 0, 0])), (.inBlock 2), (.code (cd cfz.P 46 [1, 1, 0, 1, 0, 0, 1, 0, 0, 1, 1])), (.inBlock 1), (.code (cd cfz.P 46 [1, 1, 0, 1, 0, 0, 1, 1])), (.inLoop (cd cfz.P 46 [1, 1, 0, 1, 0, 0])), (.inBlock 0), (.code (cd cfz.P 46 [1, 1, 1]))], [], false, .none⟩, [], [(.tail 0), (.tail y271)]⟩
  | .c12 x260 x261 y262 y263 y264 x265 y266 y272 => ⟨⟨46, sp 54 0 [(0, (.d (.sl x260 x261))), (3, (.own 1 y262 1 y263 y264)), (4, (.d (.v (.int .i64 x265)))), (8, (.d (.v (.int .i64 y266))))], [(.code (cd cfz.P 46 [1, 1, 0, 1, 0, 0, 1, 0, 0, 1, 1, 1, 1, 1])), (.inBlock 1), (.code (cd cfz.P 46 [1, 1, 0, 1, 0, 0, 1, 1])), (.inLoop (cd cfz.P 46 [1, 1, 0, 1, 0, 0])), (.inBlock 0), (.code (cd cfz.P 46 [1, 1, 1]))], [], false, .none⟩, [], [(.tail 0), (.tail y272)]⟩
noncomputable def B46 : S46 → Tr S46 (Nat × List DV)
  | .c0 a185 a186 => (.nxt (.c1 a185 a186 0))
  | .c1 x187 x188 y189 => (.ask (.lt 0 ((↑x187 : Int))) (.ask (.leN 0 x188.length) (.ask (.prop (Option.map AV.d (List.drop 0 x188)[0]? = some (AV.d (DV.sl (dN (cel x188 0)) (dL (cel x188 0)))))) (.br (decide (y189 < (↑(dN (cel x188 0)) : Int)))
  (.nxt (.c2 x187 x188 y189 0 0 0))
  (.ret (0, []))))))
  | .c2 x190 x191 x192 y193 y194 y195 => (.br (decide (y195 < (↑x190 : Int)))
  (.ask (.le 0 y195) (.ask (.lt y195 ((↑x190 : Int))) (.ask (.leN (y195.toNat * 1) x191.length) (.ask (.prop (Option.map AV.d (List.drop (y195.toNat * 1) x191)[0]? = some (AV.d (DV.sl (dN (cel x191 (y195.toNat * 1))) (dL (cel x191 (y195.toNat * 1))))))) (.ask (.le 0 x192) (.ask (.lt x192 ((↑(dN (cel x191 (y195.toNat * 1))) : Int))) (.ask (.leN (x192.toNat * 1) ((dL (cel x191 (y195.toNat * 1))).length)) (.ask (.prop (Option.map AV.d (List.drop (x192.toNat * 1) (dL (cel x191 (y195.toNat * 1))))[0]? = some (AV.d (DV.v (Value.int IntKind.i64 (dI (cel (dL (cel x191 (y195.toNat * 1))) (x192.toNat * 1)))))))) (.br (dI (cel (dL (cel x191 (y195.toNat * 1))) (x192.toNat * 1)) == 1)
  (.ask (.in64 (y193 + 1)) (.nxt (.c3 x190 x191 x192 (y193 + 1) y194 y195)))
  (.nxt (.c3 x190 x191 x192 y193 y194 y195)))))))))))
  (.br (decide (y193 > y194))
  (.nxt (.c4 x190 x191 x192 y193 y194 1))
  (.nxt (.c4 x190 x191 x192 y193 y194 (-1)))))
  | .c3 x196 x197 x198 x199 y200 x201 => (.ask (.le 0 x201) (.ask (.lt x201 ((↑x196 : Int))) (.ask (.leN (x201.toNat * 1) x197.length) (.ask (.prop (Option.map AV.d (List.drop (x201.toNat * 1) x197)[0]? = some (AV.d (DV.sl (dN (cel x197 (x201.toNat * 1))) (dL (cel x197 (x201.toNat * 1))))))) (.ask (.le 0 x198) (.ask (.lt x198 ((↑(dN (cel x197 (x201.toNat * 1))) : Int))) (.ask (.leN (x198.toNat * 1) ((dL (cel x197 (x201.toNat * 1))).length)) (.ask (.prop (Option.map AV.d (List.drop (x198.toNat * 1) (dL (cel x197 (x201.toNat * 1))))[0]? = some (AV.d (DV.v (Value.int IntKind.i64 (dI (cel (dL (cel x197 (x201.toNat * 1))) (x198.toNat * 1)))))))) (.br (dI (cel (dL (cel x197 (x201.toNat * 1))) (x198.toNat * 1)) == 0)
  (.ask (.in64 (y200 + 1)) (.nxt (.c5 x196 x197 x198 x199 (y200 + 1) x201)))
  (.nxt (.c5 x196 x197 x198 x199 y200 x201)))))))))))
  | .c4 x202 x203 x204 x205 x206 y207 => (.br (decide (x206 > x205))
  (.nxt (.c6 x202 x203 x204 0))
  (.nxt (.c6 x202 x203 x204 y207)))
  | .c5 x208 x209 x210 x211 x212 x213 => (.ask (.in64 (x213 + 1)) (.nxt (.c2 x208 x209 x210 x211 x212 (x213 + 1))))
  | .c6 x214 x215 x216 y217 => (.ask (.in64 (x216 + 1)) (.nxt (.c7 x214 x215 0 1 [(.v (.int .i64 y217))] (x216 + 1) 0)))
  | .c7 x218 x219 y220 y221 y222 y223 y267 => (.ask (.lt 0 ((↑x218 : Int))) (.ask (.leN 0 x219.length) (.ask (.prop (Option.map AV.d (List.drop 0 x219)[0]? = some (AV.d (DV.sl (dN (cel x219 0)) (dL (cel x219 0)))))) (.br (decide (y223 < (↑(dN (cel x219 0)) : Int)))
  (.nxt (.c8 x218 x219 y220 y221 y222 y223 0 0 0 y267))
  (.ret (y221, y222))))))
  | .c8 x224 x225 x226 x227 x228 x229 y230 y231 y232 y268 => (.br (decide (y232 < (↑x224 : Int)))
  (.ask (.le 0 y232) (.ask (.lt y232 ((↑x224 : Int))) (.ask (.leN (y232.toNat * 1) x225.length) (.ask (.prop (Option.map AV.d (List.drop (y232.toNat * 1) x225)[0]? = some (AV.d (DV.sl (dN (cel x225 (y232.toNat * 1))) (dL (cel x225 (y232.toNat * 1))))))) (.ask (.le 0 x229) (.ask (.lt x229 ((↑(dN (cel x225 (y232.toNat * 1))) : Int))) (.ask (.leN (x229.toNat * 1) ((dL (cel x225 (y232.toNat * 1))).length)) (.ask (.prop (Option.map AV.d (List.drop (x229.toNat * 1) (dL (cel x225 (y232.toNat * 1))))[0]? = some (AV.d (DV.v (Value.int IntKind.i64 (dI (cel (dL (cel x225 (y232.toNat * 1))) (x229.toNat * 1)))))))) (.br (dI (cel (dL (cel x225 (y232.toNat * 1))) (x229.toNat * 1)) == 1)
  (.ask (.in64 (y230 + 1)) (.nxt (.c9 x224 x225 x226 x227 x228 x229 (y230 + 1) y231 y232 y268)))
  (.nxt (.c9 x224 x225 x226 x227 x228 x229 y230 y231 y232 y268)))))))))))
  (.br (decide (y230 > y231))
  (.nxt (.c10 x224 x225 x226 x227 x228 x229 y230 y231 1 y268))
  (.nxt (.c10 x224 x225 x226 x227 x228 x229 y230 y231 (-1) y268))))
  | .c9 x233 x234 x235 x236 x237 x238 x239 y240 x241 y269 => (.ask (.le 0 x241) (.ask (.lt x241 ((↑x233 : Int))) (.ask (.leN (x241.toNat * 1) x234.length) (.ask (.prop (Option.map AV.d (List.drop (x241.toNat * 1) x234)[0]? = some (AV.d (DV.sl (dN (cel x234 (x241.toNat * 1))) (dL (cel x234 (x241.toNat * 1))))))) (.ask (.le 0 x238) (.ask (.lt x238 ((↑(dN (cel x234 (x241.toNat * 1))) : Int))) (.ask (.leN (x238.toNat * 1) ((dL (cel x234 (x241.toNat * 1))).length)) (.ask (.prop (Option.map AV.d (List.drop (x238.toNat * 1) (dL (cel x234 (x241.toNat * 1))))[0]? = some (AV.d (DV.v (Value.int IntKind.i64 (dI (cel (dL (cel x234 (x241.toNat * 1))) (x238.toNat * 1)))))))) (.br (dI (cel (dL (cel x234 (x241.toNat * 1))) (x238.toNat * 1)) == 0)
  (.ask (.in64 (y240 + 1)) (.nxt (.c11 x233 x234 x235 x236 x237 x238 x239 (y240 + 1) x241 y269)))
  (.nxt (.c11 x233 x234 x235 x236 x237 x238 x239 y240 x241 y269)))))))))))
  | .c10 x242 x243 y244 y245 y246 x247 x248 x249 y250 y270 => (.br (decide (x249 > x248))
  (.nxt (.c12 x242 x243 y244 y245 y246 x247 0 y270))
  (.nxt (.c12 x242 x243 y244 y245 y246 x247 y250 y270)))
  | .c11 x251 x252 x253 x254 x255 x256 x257 x258 x259 y271 => (.ask (.in64 (x259 + 1)) (.nxt (.c8 x251 x252 x253 x254 x255 x256 x257 x258 (x259 + 1) y271)))
  | .c12 x260 x261 y262 y263 y264 x265 y266 y272 => (.ask (.eqN y262 y272) (.ask (.fits (y263 + 1) 8) (.ask (.in64 (x265 + 1)) (.nxt (.c7 x260 x261 (y272 + 1) (y263 + 1) (y264 ++ [DV.v (Value.int IntKind.i64 y266)]) (x265 + 1) (y272 + 1))))))
noncomputable def F46 (a185 : Nat) (a186 : List DV) : Option (Nat × List DV) := res B46 (.c0 a185 a186)
noncomputable def D46_0 (a185 : Nat) (a186 : List DV) : DT cfz := (.go 15 [] [] (.cut 0 [[0, 3, 4]] []))
theorem k46_0 (a185 : Nat) (a186 : List DV) : xrun cfz 46 (D46_0 a185 a186) [] (st46 (.c0 a185 a186)) = (B46 (.c0 a185 a186)).mach st46 out46 := by kernel_rfl
noncomputable def D46_1 (x187 : Nat) (x188 : List DV) (y189 : Int) : DT cfz := (.go 10 [(.as (.d (.sl (dN (cel x188 0)) (dL (cel x188 0)))))] [0] (.split 14 (.go 16 [(.br true)] [0] (.cut 0 [[0, 3, 4, 5, 6, 7]] [])) (.go 8 [(.br false)] [0] .fin)))
theorem k46_1 (x187 : Nat) (x188 : List DV) (y189 : Int) : xrun cfz 46 (D46_1 x187 x188 y189) [] (st46 (.c1 x187 x188 y189)) = (B46 (.c1 x187 x188 y189)).mach st46 out46 := by kernel_rfl
noncomputable def D46_2 (x190 : Nat) (x191 : List DV) (x192 : Int) (y193 : Int) (y194 : Int) (y195 : Int) : DT cfz := (.go 8 [] [] (.split 20 (.go 16 [(.br true), (.as (.d (.sl (dN (cel x191 (y195.toNat * 1))) (dL (cel x191 (y195.toNat * 1)))))), (.as (.d (.v (.int .i64 (dI (cel (dL (cel x191 (y195.toNat * 1))) (x192.toNat * 1)))))))] [0] (.split 30 (.go 6 [(.br true)] [0] (.cut 0 [[0, 3, 4, 5, 6, 7]] [])) (.go 2 [(.br false)] [0] (.cut 0 [[0, 3, 4, 5, 6, 7]] [])))) (.go 13 [(.br false)] [0] (.split 45 (.go 4 [(.br true)] [0] (.cut 0 [[0, 3, 4, 5, 6, 8]] [])) (.go 2 [(.br false)] [0] (.cut 0 [[0, 3, 4, 5, 6, 8]] []))))))
theorem k46_2 (x190 : Nat) (x191 : List DV) (x192 : Int) (y193 : Int) (y194 : Int) (y195 : Int) : xrun cfz 46 (D46_2 x190 x191 x192 y193 y194 y195) [] (st46 (.c2 x190 x191 x192 y193 y194 y195)) = (B46 (.c2 x190 x191 x192 y193 y194 y195)).mach st46 out46 := by kernel_rfl
noncomputable def D46_3 (x196 : Nat) (x197 : List DV) (x198 : Int) (x199 : Int) (y200 : Int) (x201 : Int) : DT cfz := (.go 11 [(.as (.d (.sl (dN (cel x197 (x201.toNat * 1))) (dL (cel x197 (x201.toNat * 1)))))), (.as (.d (.v (.int .i64 (dI (cel (dL (cel x197 (x201.toNat * 1))) (x198.toNat * 1)))))))] [] (.split 40 (.go 6 [(.br true)] [0] (.cut 0 [[0, 3, 4, 5, 6, 7]] [])) (.go 2 [(.br false)] [0] (.cut 0 [[0, 3, 4, 5, 6, 7]] []))))
theorem k46_3 (x196 : Nat) (x197 : List DV) (x198 : Int) (x199 : Int) (y200 : Int) (x201 : Int) : xrun cfz 46 (D46_3 x196 x197 x198 x199 y200 x201) [] (st46 (.c3 x196 x197 x198 x199 y200 x201)) = (B46 (.c3 x196 x197 x198 x199 y200 x201)).mach st46 out46 := by kernel_rfl
noncomputable def D46_4 (x202 : Nat) (x203 : List DV) (x204 : Int) (x205 : Int) (x206 : Int) (y207 : Int) : DT cfz := (.go 7 [] [] (.split 48 (.go 4 [(.br true)] [0] (.cut 0 [[0, 3, 4, 8]] [])) (.go 2 [(.br false)] [0] (.cut 0 [[0, 3, 4, 8]] []))))
theorem k46_4 (x202 : Nat) (x203 : List DV) (x204 : Int) (x205 : Int) (x206 : Int) (y207 : Int) : xrun cfz 46 (D46_4 x202 x203 x204 x205 x206 y207) [] (st46 (.c4 x202 x203 x204 x205 x206 y207)) = (B46 (.c4 x202 x203 x204 x205 x206 y207)).mach st46 out46 := by kernel_rfl
noncomputable def D46_5 (x208 : Nat) (x209 : List DV) (x210 : Int) (x211 : Int) (x212 : Int) (x213 : Int) : DT cfz := (.go 7 [] [] (.cut 0 [[0, 3, 4, 5, 6, 7]] []))
theorem k46_5 (x208 : Nat) (x209 : List DV) (x210 : Int) (x211 : Int) (x212 : Int) (x213 : Int) : xrun cfz 46 (D46_5 x208 x209 x210 x211 x212 x213) [] (st46 (.c5 x208 x209 x210 x211 x212 x213)) = (B46 (.c5 x208 x209 x210 x211 x212 x213)).mach st46 out46 := by kernel_rfl
noncomputable def D46_6 (x214 : Nat) (x215 : List DV) (x216 : Int) (y217 : Int) : DT cfz := (.go 14 [] [0, 1, 2] (.cut 2 [[0, 3, 4]] []))
theorem k46_6 (x214 : Nat) (x215 : List DV) (x216 : Int) (y217 : Int) : xrun cfz 46 (D46_6 x214 x215 x216 y217) [] (st46 (.c6 x214 x215 x216 y217)) = (B46 (.c6 x214 x215 x216 y217)).mach st46 out46 := by kernel_rfl
noncomputable def D46_7 (x218 : Nat) (x219 : List DV) (y220 : Nat) (y221 : Nat) (y222 : List DV) (y223 : Int) (y267 : Nat) : DT cfz := (.go 10 [(.as (.d (.sl (dN (cel x219 0)) (dL (cel x219 0)))))] [0] (.split 14 (.go 16 [(.br true)] [0] (.cut 2 [[0, 3, 4, 5, 6, 7]] [])) (.go 8 [(.br false)] [0] .fin)))
theorem k46_7 (x218 : Nat) (x219 : List DV) (y220 : Nat) (y221 : Nat) (y222 : List DV) (y223 : Int) (y267 : Nat) : xrun cfz 46 (D46_7 x218 x219 y220 y221 y222 y223 y267) [] (st46 (.c7 x218 x219 y220 y221 y222 y223 y267)) = (B46 (.c7 x218 x219 y220 y221 y222 y223 y267)).mach st46 out46 := by kernel_rfl
noncomputable def D46_8 (x224 : Nat) (x225 : List DV) (x226 : Nat) (x227 : Nat) (x228 : List DV) (x229 : Int) (y230 : Int) (y231 : Int) (y232 : Int) (y268 : Nat) : DT cfz := (.go 8 [] [] (.split 20 (.go 16 [(.br true), (.as (.d (.sl (dN (cel x225 (y232.toNat * 1))) (dL (cel x225 (y232.toNat * 1)))))), (.as (.d (.v (.int .i64 (dI (cel (dL (cel x225 (y232.toNat * 1))) (x229.toNat * 1)))))))] [0] (.split 30 (.go 6 [(.br true)] [0] (.cut 2 [[0, 3, 4, 5, 6, 7]] [])) (.go 2 [(.br false)] [0] (.cut 2 [[0, 3, 4, 5, 6, 7]] [])))) (.go 13 [(.br false)] [0] (.split 45 (.go 4 [(.br true)] [0] (.cut 2 [[0, 3, 4, 5, 6, 8]] [])) (.go 2 [(.br false)] [0] (.cut 2 [[0, 3, 4, 5, 6, 8]] []))))))
theorem k46_8 (x224 : Nat) (x225 : List DV) (x226 : Nat) (x227 : Nat) (x228 : List DV) (x229 : Int) (y230 : Int) (y231 : Int) (y232 : Int) (y268 : Nat) : xrun cfz 46 (D46_8 x224 x225 x226 x227 x228 x229 y230 y231 y232 y268) [] (st46 (.c8 x224 x225 x226 x227 x228 x229 y230 y231 y232 y268)) = (B46 (.c8 x224 x225 x226 x227 x228 x229 y230 y231 y232 y268)).mach st46 out46 := by kernel_rfl
noncomputable def D46_9 (x233 : Nat) (x234 : List DV) (x235 : Nat) (x236 : Nat) (x237 : List DV) (x238 : Int) (x239 : Int) (y240 : Int) (x241 : Int) (y269 : Nat) : DT cfz := (.go 11 [(.as (.d (.sl (dN (cel x234 (x241.toNat * 1))) (dL (cel x234 (x241.toNat * 1)))))), (.as (.d (.v (.int .i64 (dI (cel (dL (cel x234 (x241.toNat * 1))) (x238.toNat * 1)))))))] [] (.split 40 (.go 6 [(.br true)] [0] (.cut 2 [[0, 3, 4, 5, 6, 7]] [])) (.go 2 [(.br false)] [0] (.cut 2 [[0, 3, 4, 5, 6, 7]] []))))
theorem k46_9 (x233 : Nat) (x234 : List DV) (x235 : Nat) (x236 : Nat) (x237 : List DV) (x238 : Int) (x239 : Int) (y240 : Int) (x241 : Int) (y269 : Nat) : xrun cfz 46 (D46_9 x233 x234 x235 x236 x237 x238 x239 y240 x241 y269) [] (st46 (.c9 x233 x234 x235 x236 x237 x238 x239 y240 x241 y269)) = (B46 (.c9 x233 x234 x235 x236 x237 x238 x239 y240 x241 y269)).mach st46 out46 := by kernel_rfl
noncomputable def D46_10 (x242 : Nat) (x243 : List DV) (y244 : Nat) (y245 : Nat) (y246 : List DV) (x247 : Int) (x248 : Int) (x249 : Int) (y250 : Int) (y270 : Nat) : DT cfz := (.go 7 [] [] (.split 48 (.go 4 [(.br true)] [0] (.cut 2 [[0, 3, 4, 8]] [])) (.go 2 [(.br false)] [0] (.cut 2 [[0, 3, 4, 8]] []))))
theorem k46_10 (x242 : Nat) (x243 : List DV) (y244 : Nat) (y245 : Nat) (y246 : List DV) (x247 : Int) (x248 : Int) (x249 : Int) (y250 : Int) (y270 : Nat) : xrun cfz 46 (D46_10 x242 x243 y244 y245 y246 x247 x248 x249 y250 y270) [] (st46 (.c10 x242 x243 y244 y245 y246 x247 x248 x249 y250 y270)) = (B46 (.c10 x242 x243 y244 y245 y246 x247 x248 x249 y250 y270)).mach st46 out46 := by kernel_rfl
noncomputable def D46_11 (x251 : Nat) (x252 : List DV) (x253 : Nat) (x254 : Nat) (x255 : List DV) (x256 : Int) (x257 : Int) (x258 : Int) (x259 : Int) (y271 : Nat) : DT cfz := (.go 7 [] [] (.cut 2 [[0, 3, 4, 5, 6, 7]] []))
theorem k46_11 (x251 : Nat) (x252 : List DV) (x253 : Nat) (x254 : Nat) (x255 : List DV) (x256 : Int) (x257 : Int) (x258 : Int) (x259 : Int) (y271 : Nat) : xrun cfz 46 (D46_11 x251 x252 x253 x254 x255 x256 x257 x258 x259 y271) [] (st46 (.c11 x251 x252 x253 x254 x255 x256 x257 x258 x259 y271)) = (B46 (.c11 x251 x252 x253 x254 x255 x256 x257 x258 x259 y271)).mach st46 out46 := by kernel_rfl
noncomputable def D46_12 (x260 : Nat) (x261 : List DV) (y262 : Nat) (y263 : Nat) (y264 : List DV) (x265 : Int) (y266 : Int) (y272 : Nat) : DT cfz := (.go 14 [] [1, 2] (.cut 2 [[0, 3, 4]] []))
theorem k46_12 (x260 : Nat) (x261 : List DV) (y262 : Nat) (y263 : Nat) (y264 : List DV) (x265 : Int) (y266 : Int) (y272 : Nat) : xrun cfz 46 (D46_12 x260 x261 y262 y263 y264 x265 y266 y272) [] (st46 (.c12 x260 x261 y262 y263 y264 x265 y266 y272)) = (B46 (.c12 x260 x261 y262 y263 y264 x265 y266 y272)).mach st46 out46 := by kernel_rfl
theorem ok46 : ∀ s, ∃ d, xrun cfz 46 d [] (st46 s) = (B46 s).mach st46 out46
  | .c0 a185 a186 => ⟨_, k46_0 a185 a186⟩
  | .c1 x187 x188 y189 => ⟨_, k46_1 x187 x188 y189⟩
  | .c2 x190 x191 x192 y193 y194 y195 => ⟨_, k46_2 x190 x191 x192 y193 y194 y195⟩
  | .c3 x196 x197 x198 x199 y200 x201 => ⟨_, k46_3 x196 x197 x198 x199 y200 x201⟩
  | .c4 x202 x203 x204 x205 x206 y207 => ⟨_, k46_4 x202 x203 x204 x205 x206 y207⟩
  | .c5 x208 x209 x210 x211 x212 x213 => ⟨_, k46_5 x208 x209 x210 x211 x212 x213⟩
  | .c6 x214 x215 x216 y217 => ⟨_, k46_6 x214 x215 x216 y217⟩
  | .c7 x218 x219 y220 y221 y222 y223 y267 => ⟨_, k46_7 x218 x219 y220 y221 y222 y223 y267⟩
  | .c8 x224 x225 x226 x227 x228 x229 y230 y231 y232 y268 => ⟨_, k46_8 x224 x225 x226 x227 x228 x229 y230 y231 y232 y268⟩
  | .c9 x233 x234 x235 x236 x237 x238 x239 y240 x241 y269 => ⟨_, k46_9 x233 x234 x235 x236 x237 x238 x239 y240 x241 y269⟩
  | .c10 x242 x243 y244 y245 y246 x247 x248 x249 y250 y270 => ⟨_, k46_10 x242 x243 y244 y245 y246 x247 x248 x249 y250 y270⟩
  | .c11 x251 x252 x253 x254 x255 x256 x257 x258 x259 y271 => ⟨_, k46_11 x251 x252 x253 x254 x255 x256 x257 x258 x259 y271⟩
  | .c12 x260 x261 y262 y263 y264 x265 y266 y272 => ⟨_, k46_12 x260 x261 y262 y263 y264 x265 y266 y272⟩
theorem f46 (a185 : Nat) (a186 : List DV) (v : Nat × List DV) (h : F46 a185 a186 = some v) : PureCalls cfz.P cfz.glob 46 [(.d (.sl a185 a186))] (out46 v) := tree_pure knil ok46 (s := .c0 a185 a186) rfl (by kernel_rfl) v h

/-! F65 -/
inductive S65 where
  | c0 (a280 : Nat) (a281 : List DV) (a282 : Nat) (a283 : List DV)
  | c1 (x284 : Nat) (x285 : List DV) (x286 : Nat) (x287 : List DV) (y288 : Int)
def out65 (v : Bool) : AV := (.d (.v (.bool v)))
noncomputable def st65 : S65 → ASt
  | .c0 a280 a281 a282 a283 => ent cfz 65 [(.d (.sl a280 a281)), (.d (.sl a282 a283))]
  | .c1 x284 x285 x286 x287 y288 => ⟨⟨65, sp 26 0 [(0, (.d (.sl x284 x285))), (1, (.d (.sl x286 x287))), (5, (.d (.v (.int .i64 y288))))], [(.code (cd cfz.P 65 [1, 1, 0, 1, 0, 0])), (.inLoop (cd cfz.P 65 [1, 1, 0, 1, 0, 0])), (.inBlock 0), (.code (cd cfz.P 65 [1, 1, 1]))], [], false, .none⟩, [], []⟩
noncomputable def B65 : S65 → Tr S65 (Bool)
  | .c0 a280 a281 a282 a283 => (.br ((↑a280 : Int) != (↑a282 : Int))
  (.ret false)
  (.nxt (.c1 a280 a281 a282 a283 0)))
  | .c1 x284 x285 x286 x287 y288 => (.br (decide (y288 < (↑x284 : Int)))
  (.ask (.le 0 y288) (.ask (.lt y288 ((↑x284 : Int))) (.ask (.leN (y288.toNat * 1) x285.length) (.ask (.prop (Option.map AV.d (List.drop (y288.toNat * 1) x285)[0]? = some (AV.d (DV.v (Value.int IntKind.i64 (dI (cel x285 (y288.toNat * 1)))))))) (.ask (.le 0 y288) (.ask (.lt y288 ((↑x286 : Int))) (.ask (.leN (y288.toNat * 1) x287.length) (.ask (.prop (Option.map AV.d (List.drop (y288.toNat * 1) x287)[0]? = some (AV.d (DV.v (Value.int IntKind.i64 (dI (cel x287 (y288.toNat * 1)))))))) (.br (dI (cel x285 (y288.toNat * 1)) != dI (cel x287 (y288.toNat * 1)))
  (.ret false)
  (.ask (.in64 (y288 + 1)) (.nxt (.c1 x284 x285 x286 x287 (y288 + 1)))))))))))))
  (.ret true))
noncomputable def F65 (a280 : Nat) (a281 : List DV) (a282 : Nat) (a283 : List DV) : Option (Bool) := res B65 (.c0 a280 a281 a282 a283)
noncomputable def D65_0 (a280 : Nat) (a281 : List DV) (a282 : Nat) (a283 : List DV) : DT cfz := (.go 13 [] [] (.split 10 (.go 6 [(.br true)] [0] .fin) (.go 9 [(.br false)] [0] (.cut 0 [[0, 1, 5]] []))))
theorem k65_0 (a280 : Nat) (a281 : List DV) (a282 : Nat) (a283 : List DV) : xrun cfz 65 (D65_0 a280 a281 a282 a283) [] (st65 (.c0 a280 a281 a282 a283)) = (B65 (.c0 a280 a281 a282 a283)).mach st65 out65 := by kernel_rfl
noncomputable def D65_1 (x284 : Nat) (x285 : List DV) (x286 : Nat) (x287 : List DV) (y288 : Int) : DT cfz := (.go 8 [] [] (.split 14 (.go 7 [(.br true), (.as (.d (.v (.int .i64 (dI (cel x285 (y288.toNat * 1))))))), (.as (.d (.v (.int .i64 (dI (cel x287 (y288.toNat * 1)))))))] [0] (.split 25 (.go 6 [(.br true)] [0] .fin) (.go 9 [(.br false)] [0] (.cut 0 [[0, 1, 5]] [])))) (.go 7 [(.br false)] [0] .fin)))
theorem k65_1 (x284 : Nat) (x285 : List DV) (x286 : Nat) (x287 : List DV) (y288 : Int) : xrun cfz 65 (D65_1 x284 x285 x286 x287 y288) [] (st65 (.c1 x284 x285 x286 x287 y288)) = (B65 (.c1 x284 x285 x286 x287 y288)).mach st65 out65 := by kernel_rfl
theorem ok65 : ∀ s, ∃ d, xrun cfz 65 d [] (st65 s) = (B65 s).mach st65 out65
  | .c0 a280 a281 a282 a283 => ⟨_, k65_0 a280 a281 a282 a283⟩
  | .c1 x284 x285 x286 x287 y288 => ⟨_, k65_1 x284 x285 x286 x287 y288⟩
theorem f65 (a280 : Nat) (a281 : List DV) (a282 : Nat) (a283 : List DV) (v : Bool) (h : F65 a280 a281 a282 a283 = some v) : PureCalls cfz.P cfz.glob 65 [(.d (.sl a280 a281)), (.d (.sl a282 a283))] (out65 v) := tree_pure knil ok65 (s := .c0 a280 a281 a282 a283) rfl (by kernel_rfl) v h

/-! F24 -/
inductive S24 where
  | c0 (a274 : Nat) (a275 : List DV) (a276 : Int) (a277 : Int) (a278 : Nat) (a279 : List DV)
def out24 (v : Bool) : AV := (.d (.v (.bool v)))
noncomputable def st24 : S24 → ASt
  | .c0 a274 a275 a276 a277 a278 a279 => ent cfz 24 [(.d (.sl a274 a275)), (.d (.v (.int .i64 a276))), (.d (.v (.int .i64 a277))), (.d (.sl a278 a279))]
noncomputable def B24 : S24 → Tr S24 (Bool)
  | .c0 a274 a275 a276 a277 a278 a279 => (.triv _ (tv_s ((a276 == a277) == true)) (.br (a276 == a277)
  (.ask (.eqB ((a276 == a277) == true) true) (.triv _ (tv_s ((a277 != 0) == true)) (.triv _ (tv_s ((a277 != 0) == true)) (.triv _ (tv_t (a277 != 0)) (.triv _ (tv_s ((if (a277 != 0) = true then (↑a274 : Int) == 0 else false) == false)) (.br (if (a277 != 0) = true then (↑a274 : Int) == 0 else false)
  (.ret true)
  (.ask (.eqB ((if (a277 != 0) = true then (↑a274 : Int) == 0 else false) == false) true) (.bind (F65 a274 a275 a278 a279) fun v289 =>
  (.sees [(.d (.sl a274 a275)), (.d (.sl a278 a279))] (.triv _ (tv_s ((a277 == 0) == true)) (.triv _ (tv_s ((a277 == 0) == true)) (.triv _ (tv_t (a277 == 0)) (.ret (if (a277 == 0) = true then v289 else false))))))))))))))
  (.ret false)))
noncomputable def F24 (a274 : Nat) (a275 : List DV) (a276 : Int) (a277 : Int) (a278 : Nat) (a279 : List DV) : Option (Bool) := res B24 (.c0 a274 a275 a276 a277 a278 a279)
noncomputable def D24_0 (a274 : Nat) (a275 : List DV) (a276 : Int) (a277 : Int) (a278 : Nat) (a279 : List DV) : DT cfz := (.go 12 [(.sp .none), (.sp .none)] [] (.split 12 (.strip 14 (.go 8 [(.br true), (.sp .none), (.sp .none), (.sp .none), (.br true), .mg, (.br true), (.sp .none), (.sp .none)] [0, 4, 5] (.split 20 (.go 10 [(.br true), (.br false), (.br false), (.br false), (.br true), (.br true)] [0, 1, 2] .fin) (.strip 22 (.go 3 [(.br false), (.sp .none), (.sp .none)] [0] (.bind (f65 a274 a275 a278 a279) fun v289 => (.go 7 [(.sp (.some 0)), (.br false), .mg, (.br true)] [4, 5] .fin))))))) (.go 18 [(.br false), (.br false), (.br false), (.br false), (.br false), (.br false), (.br true), (.br true), (.br true), (.br false), (.br false), (.br false), (.br true), (.br false)] [0, 1, 2, 3] .fin)))
theorem k24_0 (a274 : Nat) (a275 : List DV) (a276 : Int) (a277 : Int) (a278 : Nat) (a279 : List DV) : xrun cfz 24 (D24_0 a274 a275 a276 a277 a278 a279) [] (st24 (.c0 a274 a275 a276 a277 a278 a279)) = (B24 (.c0 a274 a275 a276 a277 a278 a279)).mach st24 out24 := by kernel_rfl
theorem ok24 : ∀ s, ∃ d, xrun cfz 24 d [] (st24 s) = (B24 s).mach st24 out24
  | .c0 a274 a275 a276 a277 a278 a279 => ⟨_, k24_0 a274 a275 a276 a277 a278 a279⟩
theorem f24 (a274 : Nat) (a275 : List DV) (a276 : Int) (a277 : Int) (a278 : Nat) (a279 : List DV) (v : Bool) (h : F24 a274 a275 a276 a277 a278 a279 = some v) : PureCalls cfz.P cfz.glob 24 [(.d (.sl a274 a275)), (.d (.v (.int .i64 a276))), (.d (.v (.int .i64 a277))), (.d (.sl a278 a279))] (out24 v) := tree_pure knil ok24 (s := .c0 a274 a275 a276 a277 a278 a279) rfl (by kernel_rfl) v h

/-! F6 -/
inductive S6 where
  | c0 (a0 : Nat) (a1 : List DV)
  | c1 (x3 : Nat) (x4 : List DV) (x5 : Int) (y6 : Int)
def out6 (v : Bool) : AV := (.d (.v (.bool v)))
noncomputable def st6 : S6 → ASt
  | .c0 a0 a1 => ent cfz 6 [(.d (.sl a0 a1))]
  | .c1 x3 x4 x5 y6 => ⟨⟨6, sp 50 0 [(0, (.d (.sl x3 x4))), (17, (.d (.sl x3 x4))), (18, (.d (.v (.int .i64 x5)))), (19, (.d (.v (.int .i64 y6))))], [(.code (cd cfz.P 6 [1, 1, 0, 1, 0, 0])), (.inLoop (cd cfz.P 6 [1, 1, 0, 1, 0, 0])), (.inBlock 0), (.code (cd cfz.P 6 [1, 1, 1]))], [], false, .none⟩, [], []⟩
noncomputable def B6 : S6 → Tr S6 (Bool)
  | .c0 a0 a1 => (.bind (F15) fun v2 =>
  (.sees [] (.triv _ (tv_s ((!v2) == false)) (.triv _ (tv_s ((!v2) == false)) (.triv _ (tv_f (!v2)) (.br (if (!v2) = true then true else decide ((↑a0 : Int) > 16))
  (.sees [] (.ret v2))
  (.nxt (.c1 a0 a1 ((↑a0 : Int)) 0))))))))
  | .c1 x3 x4 x5 y6 => (.br (decide (y6 < x5))
  (.ask (.le 0 y6) (.ask (.lt y6 ((↑x3 : Int))) (.ask (.leN (y6.toNat * 1) x4.length) (.ask (.prop (Option.map AV.d (List.drop (y6.toNat * 1) x4)[0]? = some (AV.d (DV.sl (dN (cel x4 (y6.toNat * 1))) (dL (cel x4 (y6.toNat * 1))))))) (.triv _ (tv_s (decide ((↑(dN (cel x4 (y6.toNat * 1))) : Int) > 24) == true)) (.triv _ (tv_s (decide ((↑(dN (cel x4 (y6.toNat * 1))) : Int) > 24) == true)) (.triv _ (tv_t (decide ((↑(dN (cel x4 (y6.toNat * 1))) : Int) > 24))) (.br (if decide ((↑(dN (cel x4 (y6.toNat * 1))) : Int) > 24) = true then (↑(dN (cel x4 (y6.toNat * 1))) : Int) != 1025 else false)
  (.bind (F15) fun v7 =>
  (.sees [] (.ret v7)))
  (.ask (.in64 (y6 + 1)) (.nxt (.c1 x3 x4 x5 (y6 + 1))))))))))))
  (.bind (F35 x3 x4) fun v27 =>
  (.sees [(.d (.sl x3 x4))] (.bind (F44 v27.fst v27.snd) fun v156 =>
  (.sees [(.d (.sl v27.fst v27.snd))] (.bind (F45 x3 x4) fun v184 =>
  (.sees [(.d (.sl x3 x4))] (.br (v184 == 0)
  (.bind (F46 x3 x4) fun v273 =>
  (.sees [(.d (.sl x3 x4))] (.bind (F24 v156.fst v156.snd.fst v156.snd.snd v184 v273.fst v273.snd) fun v290 =>
  (.sees [(.d (.sl v156.fst v156.snd.fst)), (.d (.v (.int .i64 v156.snd.snd))), (.d (.v (.int .i64 v184))), (.d (.sl v273.fst v273.snd))] (.ret v290)))))
  (.bind (F24 v156.fst v156.snd.fst v156.snd.snd v184 0 []) fun v291 =>
  (.sees [(.d (.sl v156.fst v156.snd.fst)), (.d (.v (.int .i64 v156.snd.snd))), (.d (.v (.int .i64 v184))), (.d (.sl 0 []))] (.ret v291)))))))))))
noncomputable def F6 (a0 : Nat) (a1 : List DV) : Option (Bool) := res B6 (.c0 a0 a1)
noncomputable def D6_0 (a0 : Nat) (a1 : List DV) : DT cfz := (.go 7 [] [] (.bind (f15) fun v2 => (.go 8 [(.ck 0), (.sp .none), (.sp .none), (.sp .none), .mg] [] (.split 15 (.go 7 [(.br true), (.ck 0)] [0] .fin) (.go 11 [(.br false)] [0] (.cut 0 [[0, 17, 18, 19]] []))))))
theorem k6_0 (a0 : Nat) (a1 : List DV) : xrun cfz 6 (D6_0 a0 a1) [] (st6 (.c0 a0 a1)) = (B6 (.c0 a0 a1)).mach st6 out6 := by kernel_rfl
noncomputable def D6_1 (x3 : Nat) (x4 : List DV) (x5 : Int) (y6 : Int) : DT cfz := (.go 5 [] [] (.split 20 (.go 21 [(.br true), (.as (.d (.sl (dN (cel x4 (y6.toNat * 1))) (dL (cel x4 (y6.toNat * 1)))))), (.sp .none), (.sp .none), (.sp .none), .mg] [0] (.split 30 (.go 3 [(.br true)] [0] (.bind (f15) fun v7 => (.go 4 [(.ck 0)] [] .fin))) (.go 8 [(.br false)] [0] (.cut 0 [[0, 17, 18, 19]] [])))) (.go 5 [(.br false)] [0] (.bind (f35 x3 x4) fun v27 => (.go 1 [(.ck 0)] [] (.bind (f44 v27.fst v27.snd) fun v156 => (.go 10 [(.ck 1)] [] (.bind (f45 x3 x4) fun v184 => (.go 13 [(.ck 2)] [] (.split 42 (.go 3 [(.br true)] [0] (.bind (f46 x3 x4) fun v273 => (.go 9 [(.ck 3)] [] (.bind (f24 v156.fst v156.snd.fst v156.snd.snd v184 v273.fst v273.snd) fun v290 => (.go 4 [(.ck 4)] [] .fin))))) (.go 8 [(.br false)] [0] (.bind (f24 v156.fst v156.snd.fst v156.snd.snd v184 0 []) fun v291 => (.go 4 [(.ck 3)] [] .fin)))))))))))))
theorem k6_1 (x3 : Nat) (x4 : List DV) (x5 : Int) (y6 : Int) : xrun cfz 6 (D6_1 x3 x4 x5 y6) [] (st6 (.c1 x3 x4 x5 y6)) = (B6 (.c1 x3 x4 x5 y6)).mach st6 out6 := by kernel_rfl
theorem ok6 : ∀ s, ∃ d, xrun cfz 6 d [] (st6 s) = (B6 s).mach st6 out6
  | .c0 a0 a1 => ⟨_, k6_0 a0 a1⟩
  | .c1 x3 x4 x5 y6 => ⟨_, k6_1 x3 x4 x5 y6⟩
theorem f6 (a0 : Nat) (a1 : List DV) (v : Bool) (h : F6 a0 a1 = some v) : PureCalls cfz.P cfz.glob 6 [(.d (.sl a0 a1))] (out6 v) := tree_pure knil ok6 (s := .c0 a0 a1) rfl (by kernel_rfl) v h

end Go.Kv
