/- Printed: what functions of the program come to, and the kernel's proof of it. -/
import Derived.Test.YtalhonodbajndaaGreatDoorKvW
import Derived.Test.YtalhonodbajndaaGreatDoorKvZ
import Derived.Test.YtalhonodbajndaaGreatDoorKzA
import Derived.Test.YtalhonodbajndaaGreatDoorKzW
namespace Go.Kv
set_option linter.unusedVariables false
set_option linter.unusedSimpArgs false
open Go Go.RowKit Go.Proofs
set_option maxRecDepth 100000
/-! F77 -/
inductive S77 where
  | c0 (a35 : Bool) (a36 : Int)
def out77 (v : Int) : AV := (.d (.v (.int .i64 v)))
noncomputable def st77 : S77 → ASt
  | .c0 a35 a36 => ent cfz 77 [(.d (.v (.bool a35))), (aI a36)]
noncomputable def B77 : S77 → Tr S77 (Int)
  | .c0 a35 a36 => (.br a35
  (.ret a36)
  (.ret 0))
noncomputable def F77 (a35 : Bool) (a36 : Int) : Option (Int) := res B77 (.c0 a35 a36)
noncomputable def D77_0 (a35 : Bool) (a36 : Int) : DT cfz := (.go 9 [] [] (.split 5 (.go 7 [(.br true)] [0] .fin) (.go 7 [(.br false)] [0] .fin)))
theorem k77_0 (a35 : Bool) (a36 : Int) : xrun cfz 77 (D77_0 a35 a36) [] (st77 (.c0 a35 a36)) = (B77 (.c0 a35 a36)).mach st77 out77 := by kernel_rfl
theorem ok77 : ∀ s, ∃ d, xrun cfz 77 d [] (st77 s) = (B77 s).mach st77 out77
  | .c0 a35 a36 => ⟨_, k77_0 a35 a36⟩
theorem f77 (a35 : Bool) (a36 v : Int) (h : F77 a35 a36 = some v) : PureCalls cfz.P cfz.glob 77 [(.d (.v (.bool a35))), (aI a36)] (out77 v) := tree_pure knil ok77 (s := .c0 a35 a36) rfl (by kernel_rfl) v h

/-! F89 -/
inductive S89 where
  | c0 (a32 a33 a34 : Int)
def out89 (v : Int) : AV := (.d (.v (.int .i64 v)))
noncomputable def st89 : S89 → ASt
  | .c0 a32 a33 a34 => ent cfz 89 [(aI a32), (aI a33), (aI a34)]
noncomputable def B89 : S89 → Tr S89 (Int)
  | .c0 a32 a33 a34 => (.triv _ (tv_s (decide (a32 < a33) == false)) (.triv _ (tv_s (decide (a32 < a33) == false)) (.triv _ (tv_f (decide (a32 < a33))) (.bind (F77 (if decide (a32 < a33) = true then true else decide (a32 > a34)) 3) fun v37 =>
  (.sees [(.d (.v (.bool (if decide (a32 < a33) = true then true else decide (a32 > a34))))), (aI 3)] (.ret v37))))))
noncomputable def F89 (a32 a33 a34 : Int) : Option (Int) := res B89 (.c0 a32 a33 a34)
noncomputable def D89_0 (a32 a33 a34 : Int) : DT cfz := (.go 14 [(.sp .none), (.sp .none), (.sp .none), .mg] [] (.bind (f77 (if decide (a32 < a33) = true then true else decide (a32 > a34)) 3) fun v37 => (.go 4 [(.ck 0)] [] .fin)))
theorem k89_0 (a32 a33 a34 : Int) : xrun cfz 89 (D89_0 a32 a33 a34) [] (st89 (.c0 a32 a33 a34)) = (B89 (.c0 a32 a33 a34)).mach st89 out89 := by kernel_rfl
theorem ok89 : ∀ s, ∃ d, xrun cfz 89 d [] (st89 s) = (B89 s).mach st89 out89
  | .c0 a32 a33 a34 => ⟨_, k89_0 a32 a33 a34⟩
theorem f89 (a32 a33 a34 v : Int) (h : F89 a32 a33 a34 = some v) : PureCalls cfz.P cfz.glob 89 [(aI a32), (aI a33), (aI a34)] (out89 v) := tree_pure knil ok89 (s := .c0 a32 a33 a34) rfl (by kernel_rfl) v h

/-! F75 -/
inductive S75 where
  | c0 (a40 : Nat) (a41 : List DV)
  | c1 (x42 : Nat) (x43 : List DV) (x44 y45 : Int)
def out75 (v : Int) : AV := (.d (.v (.int .i64 v)))
noncomputable def st75 : S75 → ASt
  | .c0 a40 a41 => ent cfz 75 [(.d (.sl a40 a41))]
  | .c1 x42 x43 x44 y45 => ⟨⟨75, sp 15 0 [(5, (.d (.sl x42 x43))), (6, (aI x44)), (7, (aI y45))], [(.code (cd cfz.P 75 [1, 0, 1, 0, 0])), (.inLoop (cd cfz.P 75 [1, 0, 1, 0, 0])), (.inBlock 0), (.code (cd cfz.P 75 [1, 1]))], [], false, .none⟩, [], []⟩
noncomputable def B75 : S75 → Tr S75 (Int)
  | .c0 a40 a41 => (.nxt (.c1 a40 a41 ((↑a40 : Int)) 0))
  | .c1 x42 x43 x44 y45 => (.br (decide (y45 < x44))
  (.ask (.le 0 y45) (.ask (.lt y45 ((↑x42 : Int))) (.ask (.leN (y45.toNat * 1) x43.length) (.ask (.prop (Option.map AV.d (List.drop (y45.toNat * 1) x43)[0]? = some (AV.d (DV.v (Value.int IntKind.i64 (dI (cel x43 (y45.toNat * 1)))))))) (.br (dI (cel x43 (y45.toNat * 1)) != 0)
  (.ret (dI (cel x43 (y45.toNat * 1))))
  (.ask (.in64 (y45 + 1)) (.nxt (.c1 x42 x43 x44 (y45 + 1)))))))))
  (.ret 0))
noncomputable def F75 (a40 : Nat) (a41 : List DV) : Option (Int) := res B75 (.c0 a40 a41)
noncomputable def D75_0 (a40 : Nat) (a41 : List DV) : DT cfz := (.go 13 [] [] (.cut 0 [[5, 6, 7]] []))
theorem k75_0 (a40 : Nat) (a41 : List DV) : xrun cfz 75 (D75_0 a40 a41) [] (st75 (.c0 a40 a41)) = (B75 (.c0 a40 a41)).mach st75 out75 := by kernel_rfl
noncomputable def D75_1 (x42 : Nat) (x43 : List DV) (x44 y45 : Int) : DT cfz := (.go 5 [] [] (.split 8 (.go 15 [(.br true), (.as (aI (dI (cel x43 (y45.toNat * 1)))))] [0] (.split 12 (.go 7 [(.br true)] [0] .fin) (.go 8 [(.br false)] [0] (.cut 0 [[5, 6, 7]] [])))) (.go 7 [(.br false)] [0] .fin)))
theorem k75_1 (x42 : Nat) (x43 : List DV) (x44 y45 : Int) : xrun cfz 75 (D75_1 x42 x43 x44 y45) [] (st75 (.c1 x42 x43 x44 y45)) = (B75 (.c1 x42 x43 x44 y45)).mach st75 out75 := by kernel_rfl
theorem ok75 : ∀ s, ∃ d, xrun cfz 75 d [] (st75 s) = (B75 s).mach st75 out75
  | .c0 a40 a41 => ⟨_, k75_0 a40 a41⟩
  | .c1 x42 x43 x44 y45 => ⟨_, k75_1 x42 x43 x44 y45⟩
theorem f75 (a40 : Nat) (a41 : List DV) (v : Int) (h : F75 a40 a41 = some v) : PureCalls cfz.P cfz.glob 75 [(.d (.sl a40 a41))] (out75 v) := tree_pure knil ok75 (s := .c0 a40 a41) rfl (by kernel_rfl) v h

/-! F86 -/
inductive S86 where
  | c0 (a30 a31 : Int)
def out86 (v : Int) : AV := (.d (.v (.int .i64 v)))
noncomputable def st86 : S86 → ASt
  | .c0 a30 a31 => ent cfz 86 [(.agg [(aI a30), (aI a31)])]
noncomputable def B86 : S86 → Tr S86 (Int)
  | .c0 a30 a31 => (.bind (F89 a30 0 999999) fun v38 =>
  (.bind (F89 a31 0 999999) fun v39 =>
  (.bind (F75 2 [(.v (.int .i64 v38)), (.v (.int .i64 v39))]) fun v46 =>
  (.sees [(aI a30), (aI 0), (aI 999999)] (.sees [(aI a31), (aI 0), (aI 999999)] (.sees [(.d (.sl 2 [(vI v38), (vI v39)]))] (.ret v46)))))))
noncomputable def F86 (a30 a31 : Int) : Option (Int) := res B86 (.c0 a30 a31)
noncomputable def D86_0 (a30 a31 : Int) : DT cfz := (.go 7 [] [] (.bind (f89 a30 0 999999) fun v38 => (.bind (f89 a31 0 999999) fun v39 => (.bind (f75 2 [(vI v38), (vI v39)]) fun v46 => (.go 2 [(.ck 0), (.ck 1), (.ck 2)] [] .fin)))))
theorem k86_0 (a30 a31 : Int) : xrun cfz 86 (D86_0 a30 a31) [] (st86 (.c0 a30 a31)) = (B86 (.c0 a30 a31)).mach st86 out86 := by kernel_rfl
theorem ok86 : ∀ s, ∃ d, xrun cfz 86 d [] (st86 s) = (B86 s).mach st86 out86
  | .c0 a30 a31 => ⟨_, k86_0 a30 a31⟩
theorem f86 (a30 a31 v : Int) (h : F86 a30 a31 = some v) : PureCalls cfz.P cfz.glob 86 [(.agg [(aI a30), (aI a31)])] (out86 v) := tree_pure knil ok86 (s := .c0 a30 a31) rfl (by kernel_rfl) v h

/-! F130 -/
inductive S130 where
  | c0 (a54 a55 : Int)
def out130 (v : Int) : AV := (.d (.v (.int .i64 v)))
noncomputable def st130 : S130 → ASt
  | .c0 a54 a55 => ent cfz 130 [(.agg [(aI a54), (aI a55)])]
noncomputable def B130 : S130 → Tr S130 (Int)
  | .c0 a54 a55 => (.ask (.in64 (a54 * 1000000)) (.ask (.in64 (a54 * 1000000 + a55)) (.ret (a54 * 1000000 + a55))))
noncomputable def F130 (a54 a55 : Int) : Option (Int) := res B130 (.c0 a54 a55)
noncomputable def D130_0 (a54 a55 : Int) : DT cfz := (.go 16 [] [] .fin)
theorem k130_0 (a54 a55 : Int) : xrun cfz 130 (D130_0 a54 a55) [] (st130 (.c0 a54 a55)) = (B130 (.c0 a54 a55)).mach st130 out130 := by kernel_rfl
theorem ok130 : ∀ s, ∃ d, xrun cfz 130 d [] (st130 s) = (B130 s).mach st130 out130
  | .c0 a54 a55 => ⟨_, k130_0 a54 a55⟩
theorem f130 (a54 a55 v : Int) (h : F130 a54 a55 = some v) : PureCalls cfz.P cfz.glob 130 [(.agg [(aI a54), (aI a55)])] (out130 v) := tree_pure knil ok130 (s := .c0 a54 a55) rfl (by kernel_rfl) v h

/-! F101 -/
inductive S101 where
  | c0 (a50 a51 a52 a53 : Int)
def out101 (v : Int) : AV := (.d (.v (.int .i64 v)))
noncomputable def st101 : S101 → ASt
  | .c0 a50 a51 a52 a53 => ent cfz 101 [(.agg [(aI a50), (aI a51)]), (.agg [(aI a52), (aI a53)])]
noncomputable def B101 : S101 → Tr S101 (Int)
  | .c0 a50 a51 a52 a53 => (.bind (F130 a50 a51) fun v56 =>
  (.bind (F130 a52 a53) fun v57 =>
  (.sees [(.agg [(aI a50), (aI a51)])] (.sees [(.agg [(aI a52), (aI a53)])] (.ask (.in64 (v56 - v57)) (.ask (.in64 (v56 - v57 + 1000000000000)) (.ret ((v56 - v57 + 1000000000000).tmod 1000000000000))))))))
noncomputable def F101 (a50 a51 a52 a53 : Int) : Option (Int) := res B101 (.c0 a50 a51 a52 a53)
noncomputable def D101_0 (a50 a51 a52 a53 : Int) : DT cfz := (.go 8 [] [] (.bind (f130 a50 a51) fun v56 => (.bind (f130 a52 a53) fun v57 => (.go 2 [(.ck 0), (.ck 1)] [4] .fin))))
theorem k101_0 (a50 a51 a52 a53 : Int) : xrun cfz 101 (D101_0 a50 a51 a52 a53) [] (st101 (.c0 a50 a51 a52 a53)) = (B101 (.c0 a50 a51 a52 a53)).mach st101 out101 := by kernel_rfl
theorem ok101 : ∀ s, ∃ d, xrun cfz 101 d [] (st101 s) = (B101 s).mach st101 out101
  | .c0 a50 a51 a52 a53 => ⟨_, k101_0 a50 a51 a52 a53⟩
theorem f101 (a50 a51 a52 a53 v : Int) (h : F101 a50 a51 a52 a53 = some v) : PureCalls cfz.P cfz.glob 101 [(.agg [(aI a50), (aI a51)]), (.agg [(aI a52), (aI a53)])] (out101 v) := tree_pure knil ok101 (s := .c0 a50 a51 a52 a53) rfl (by kernel_rfl) v h

/-! F55 -/
inductive S55 where
  | c0 (a26 a27 a28 a29 : Int)
def out55 (v : Int × Int) : AV := (.tup [(.d (.v (.int .i64 v.fst))), (.d (.v (.int .i64 v.snd)))])
noncomputable def st55 : S55 → ASt
  | .c0 a26 a27 a28 a29 => ent cfz 55 [(.agg [(aI a26), (aI a27)]), (.agg [(aI a28), (aI a29)])]
noncomputable def B55 : S55 → Tr S55 (Int × Int)
  | .c0 a26 a27 a28 a29 => (.bind (F86 a26 a27) fun v47 =>
  (.bind (F86 a28 a29) fun v48 =>
  (.bind (F75 2 [(.v (.int .i64 v47)), (.v (.int .i64 v48))]) fun v49 =>
  (.sees [(.agg [(aI a26), (aI a27)])] (.sees [(.agg [(aI a28), (aI a29)])] (.sees [(.d (.sl 2 [(vI v47), (vI v48)]))] (.br (v49 != 0)
  (.ret (0, v49))
  (.bind (F101 a28 a29 a26 a27) fun v58 =>
  (.sees [(.agg [(aI a28), (aI a29)]), (.agg [(aI a26), (aI a27)])] (.ret (v58, 0)))))))))))
noncomputable def F55 (a26 a27 a28 a29 : Int) : Option (Int × Int) := res B55 (.c0 a26 a27 a28 a29)
noncomputable def D55_0 (a26 a27 a28 a29 : Int) : DT cfz := (.go 10 [] [] (.bind (f86 a26 a27) fun v47 => (.bind (f86 a28 a29) fun v48 => (.bind (f75 2 [(vI v47), (vI v48)]) fun v49 => (.go 6 [(.ck 0), (.ck 1), (.ck 2)] [] (.split 14 (.go 8 [(.br true)] [0] .fin) (.go 6 [(.br false)] [0] (.bind (f101 a28 a29 a26 a27) fun v58 => (.go 5 [(.ck 3)] [] .fin)))))))))
theorem k55_0 (a26 a27 a28 a29 : Int) : xrun cfz 55 (D55_0 a26 a27 a28 a29) [] (st55 (.c0 a26 a27 a28 a29)) = (B55 (.c0 a26 a27 a28 a29)).mach st55 out55 := by kernel_rfl
theorem ok55 : ∀ s, ∃ d, xrun cfz 55 d [] (st55 s) = (B55 s).mach st55 out55
  | .c0 a26 a27 a28 a29 => ⟨_, k55_0 a26 a27 a28 a29⟩
theorem f55 (a26 a27 a28 a29 : Int) (v : Int × Int) (h : F55 a26 a27 a28 a29 = some v) : PureCalls cfz.P cfz.glob 55 [(.agg [(aI a26), (aI a27)]), (.agg [(aI a28), (aI a29)])] (out55 v) := tree_pure knil ok55 (s := .c0 a26 a27 a28 a29) rfl (by kernel_rfl) v h

/-! F14 -/
inductive S14 where
  | c0 (a60 a61 a62 a63 a64 a65 a66 a67 a68 a69 a70 a71 : Int)
def out14 (v : Int × Int × Int × Int × Int × Int × Int × Int × Int × Int × Int × Int) : AV := (.agg [(.d (.v (.int .i64 v.fst))), (.d (.v (.int .i64 v.snd.fst))), (.d (.v (.int .i64 v.snd.snd.fst))), (.d (.v (.int .i64 v.snd.snd.snd.fst))), (.d (.v (.int .i64 v.snd.snd.snd.snd.fst))), (.d (.v (.int .i64 v.snd.snd.snd.snd.snd.fst))), (.d (.v (.int .i64 v.snd.snd.snd.snd.snd.snd.fst))), (.d (.v (.int .i64 v.snd.snd.snd.snd.snd.snd.snd.fst))), (.d (.v (.int .i64 v.snd.snd.snd.snd.snd.snd.snd.snd.fst))), (.d (.v (.int .i64 v.snd.snd.snd.snd.snd.snd.snd.snd.snd.fst))), (.d (.v (.int .i64 v.snd.snd.snd.snd.snd.snd.snd.snd.snd.snd.fst))), (.d (.v (.int .i64 v.snd.snd.snd.snd.snd.snd.snd.snd.snd.snd.snd)))])
noncomputable def st14 : S14 → ASt
  | .c0 a60 a61 a62 a63 a64 a65 a66 a67 a68 a69 a70 a71 => ent cfz 14 [(.agg [(aI a60), (aI a61), (aI a62), (aI a63), (aI a64), (aI a65), (aI a66), (aI a67), (aI a68), (aI a69), (aI a70), (aI a71)])]
noncomputable def B14 : S14 → Tr S14 (Int × Int × Int × Int × Int × Int × Int × Int × Int × Int × Int × Int)
  | .c0 a60 a61 a62 a63 a64 a65 a66 a67 a68 a69 a70 a71 => (.ret (a60, a61, a62, a63, a64, a65, a66, a67, a68, a69, a70, a71))
noncomputable def F14 (a60 a61 a62 a63 a64 a65 a66 a67 a68 a69 a70 a71 : Int) : Option (Int × Int × Int × Int × Int × Int × Int × Int × Int × Int × Int × Int) := res B14 (.c0 a60 a61 a62 a63 a64 a65 a66 a67 a68 a69 a70 a71)
noncomputable def D14_0 (a60 a61 a62 a63 a64 a65 a66 a67 a68 a69 a70 a71 : Int) : DT cfz := (.go 204 [.none, (.br true), .none, .none, .none, .none, (.br true), .none, .none, .none, .none, (.br true), .none, .none, .none, .none, (.br true), .none, .none, .none, .none, (.br true), .none, .none, .none, .none, (.br true), .none, .none, .none, .none, (.br false)] [0, 1, 2, 3, 4, 5, 6, 7, 8, 9, 10, 11, 12, 13, 14, 15, 16, 17, 18, 19, 20, 21, 22, 23, 24, 25, 26, 27, 28, 29, 30, 31, 32, 33, 34, 35, 36] .fin)
theorem k14_0 (a60 a61 a62 a63 a64 a65 a66 a67 a68 a69 a70 a71 : Int) : xrun cfz 14 (D14_0 a60 a61 a62 a63 a64 a65 a66 a67 a68 a69 a70 a71) [] (st14 (.c0 a60 a61 a62 a63 a64 a65 a66 a67 a68 a69 a70 a71)) = (B14 (.c0 a60 a61 a62 a63 a64 a65 a66 a67 a68 a69 a70 a71)).mach st14 out14 := by kernel_rfl
theorem ok14 : ∀ s, ∃ d, xrun cfz 14 d [] (st14 s) = (B14 s).mach st14 out14
  | .c0 a60 a61 a62 a63 a64 a65 a66 a67 a68 a69 a70 a71 => ⟨_, k14_0 a60 a61 a62 a63 a64 a65 a66 a67 a68 a69 a70 a71⟩
theorem f14 (a60 a61 a62 a63 a64 a65 a66 a67 a68 a69 a70 a71 : Int) (v : Int × Int × Int × Int × Int × Int × Int × Int × Int × Int × Int × Int) (h : F14 a60 a61 a62 a63 a64 a65 a66 a67 a68 a69 a70 a71 = some v) : PureCalls cfz.P cfz.glob 14 [(.agg [(aI a60), (aI a61), (aI a62), (aI a63), (aI a64), (aI a65), (aI a66), (aI a67), (aI a68), (aI a69), (aI a70), (aI a71)])] (out14 v) := tree_pure knil ok14 (s := .c0 a60 a61 a62 a63 a64 a65 a66 a67 a68 a69 a70 a71) rfl (by kernel_rfl) v h

/-! F18 -/
inductive S18 where
  | c0 (a100 a101 a102 a103 a104 a105 a106 a107 a108 a109 a110 a111 : Int)
def out18 (v : Int) : AV := (.d (.v (.int .i64 v)))
noncomputable def st18 : S18 → ASt
  | .c0 a100 a101 a102 a103 a104 a105 a106 a107 a108 a109 a110 a111 => ent cfz 18 [(.agg [(aI a100), (aI a101), (aI a102), (aI a103), (aI a104), (aI a105), (aI a106), (aI a107), (aI a108), (aI a109), (aI a110), (aI a111)])]
noncomputable def B18 : S18 → Tr S18 (Int)
  | .c0 a100 a101 a102 a103 a104 a105 a106 a107 a108 a109 a110 a111 => (.bind (F86 a100 a101) fun v130 =>
  (.sees [(.agg [(aI a100), (aI a101)])] (.bind (F86 a102 a103) fun v131 =>
  (.sees [(.agg [(aI a102), (aI a103)])] (.bind (F86 a104 a105) fun v132 =>
  (.sees [(.agg [(aI a104), (aI a105)])] (.bind (F86 a106 a107) fun v133 =>
  (.sees [(.agg [(aI a106), (aI a107)])] (.bind (F86 a108 a109) fun v134 =>
  (.sees [(.agg [(aI a108), (aI a109)])] (.bind (F86 a110 a111) fun v135 =>
  (.sees [(.agg [(aI a110), (aI a111)])] (.bind (F75 6 [(.v (.int .i64 v130)), (.v (.int .i64 v131)), (.v (.int .i64 v132)), (.v (.int .i64 v133)), (.v (.int .i64 v134)), (.v (.int .i64 v135))]) fun v136 =>
  (.sees [(.d (.sl 6 [(vI v130), (vI v131), (vI v132), (vI v133), (vI v134), (vI v135)]))] (.ret v136)))))))))))))))
noncomputable def F18 (a100 a101 a102 a103 a104 a105 a106 a107 a108 a109 a110 a111 : Int) : Option (Int) := res B18 (.c0 a100 a101 a102 a103 a104 a105 a106 a107 a108 a109 a110 a111)
noncomputable def D18_0 (a100 a101 a102 a103 a104 a105 a106 a107 a108 a109 a110 a111 : Int) : DT cfz := (.go 46 [.enter, (.br true)] [0, 1, 2, 3, 4, 5, 6] (.bind (f86 a100 a101) fun v130 => (.go 31 [(.ck 0), .none, (.br true)] [1, 2, 3, 4, 5, 6, 7] (.bind (f86 a102 a103) fun v131 => (.go 31 [(.ck 1), .none, (.br true)] [1, 2, 3, 4, 5, 6, 7, 8] (.bind (f86 a104 a105) fun v132 => (.go 31 [(.ck 2), .none, (.br true)] [1, 2, 3, 4, 5, 6, 7, 8] (.bind (f86 a106 a107) fun v133 => (.go 31 [(.ck 3), .none, (.br true)] [1, 2, 3, 4, 5, 6, 7, 8] (.bind (f86 a108 a109) fun v134 => (.go 31 [(.ck 4), .none, (.br true)] [1, 2, 3, 4, 5, 6, 7, 8] (.bind (f86 a110 a111) fun v135 => (.go 25 [(.ck 5), .none, (.br false)] [1, 2, 3, 4, 5, 6] (.bind (f75 6 [(vI v130), (vI v131), (vI v132), (vI v133), (vI v134), (vI v135)]) fun v136 => (.go 4 [(.ck 6)] [] .fin)))))))))))))))
theorem k18_0 (a100 a101 a102 a103 a104 a105 a106 a107 a108 a109 a110 a111 : Int) : xrun cfz 18 (D18_0 a100 a101 a102 a103 a104 a105 a106 a107 a108 a109 a110 a111) [] (st18 (.c0 a100 a101 a102 a103 a104 a105 a106 a107 a108 a109 a110 a111)) = (B18 (.c0 a100 a101 a102 a103 a104 a105 a106 a107 a108 a109 a110 a111)).mach st18 out18 := by kernel_rfl
theorem ok18 : ∀ s, ∃ d, xrun cfz 18 d [] (st18 s) = (B18 s).mach st18 out18
  | .c0 a100 a101 a102 a103 a104 a105 a106 a107 a108 a109 a110 a111 => ⟨_, k18_0 a100 a101 a102 a103 a104 a105 a106 a107 a108 a109 a110 a111⟩
theorem f18 (a100 a101 a102 a103 a104 a105 a106 a107 a108 a109 a110 a111 v : Int) (h : F18 a100 a101 a102 a103 a104 a105 a106 a107 a108 a109 a110 a111 = some v) : PureCalls cfz.P cfz.glob 18 [(.agg [(aI a100), (aI a101), (aI a102), (aI a103), (aI a104), (aI a105), (aI a106), (aI a107), (aI a108), (aI a109), (aI a110), (aI a111)])] (out18 v) := tree_pure knil ok18 (s := .c0 a100 a101 a102 a103 a104 a105 a106 a107 a108 a109 a110 a111) rfl (by kernel_rfl) v h

/-! F56 -/
inductive S56 where
  | c0 (a74 a75 a76 a77 a78 a79 a80 a81 a82 a83 a84 a85 a86 a87 a88 a89 a90 a91 a92 a93 a94 a95 a96 a97 a98 a99 : Int)
  | c1 (x143 x144 y171 x145 x146 x147 x148 x149 x150 x151 x152 x153 x154 x155 x156 x157 x158 x159 x160 x161 x162 x163 x164 x165 x166 x167 x168 : Int) (y169 : MIB)
  | c2 (x172 x173 y174 x175 x176 x177 x178 x179 x180 x181 x182 x183 x184 x185 x186 x187 x188 x189 x190 x191 x192 x193 x194 x195 x196 x197 x198 : Int) (x199 : MIB)
  | c3 (y203 y204 : Nat) (y205 : List DV) (y206 : Int) (x201 : MIB) (y207 : Nat)
  | c4 (y214 : Int) (x202 : MIB)
  | c5 (y208 y209 : Nat) (y210 : List DV) (y211 : Int) (x212 : MIB) (x213 : Nat)
  | c6 (y215 : Int) (x216 : MIB)
def out56 (v : Nat × List DV × Int) : AV := (.tup [(.d (.sl v.fst v.snd.fst)), (.d (.v (.int .i64 v.snd.snd)))])
noncomputable def st56 : S56 → ASt
  | .c0 a74 a75 a76 a77 a78 a79 a80 a81 a82 a83 a84 a85 a86 a87 a88 a89 a90 a91 a92 a93 a94 a95 a96 a97 a98 a99 => ent cfz 56 [(.agg [(aI a74), (aI a75), (aI a76), (aI a77), (aI a78), (aI a79), (aI a80), (aI a81), (aI a82), (aI a83), (aI a84), (aI a85)]), (.agg [(aI a86), (aI a87), (aI a88), (aI a89), (aI a90), (aI a91), (aI a92), (aI a93), (aI a94), (aI a95), (aI a96), (aI a97)]), (aI a98), (aI a99)]
  | .c1 x143 x144 y171 x145 x146 x147 x148 x149 x150 x151 x152 x153 x154 x155 x156 x157 x158 x159 x160 x161 x162 x163 x164 x165 x166 x167 x168 y169 => ⟨⟨56, sp 58 0 [(2, (aI x143)), (3, (aI x144)), (4, (.ptr 0 0)), (5, (.ptr 1 0)), (11, (.mp 11)), (29, (aI y171))], [(.inBlock 1), (.code (cd cfz.P 56 [1, 1, 1, 0, 1, 0, 0, 1, 1, 1])), (.inLoop (cd cfz.P 56 [1, 1, 1, 0, 1, 0, 0])), (.inBlock 0), (.code (cd cfz.P 56 [1, 1, 1, 1]))], [], false, .none⟩, [], [(.cells [(aI x145), (aI x146), (aI x147), (aI x148), (aI x149), (aI x150), (aI x151), (aI x152), (aI x153), (aI x154), (aI x155), (aI x156)] 31), (.cells [(aI x157), (aI x158), (aI x159), (aI x160), (aI x161), (aI x162), (aI x163), (aI x164), (aI x165), (aI x166), (aI x167), (aI x168)] 31), .gone, .gone, .gone, .gone, .gone, .gone, .gone, .gone, (.tail 0), (.mp (.ib .i64 y169))]⟩
  | .c2 x172 x173 y174 x175 x176 x177 x178 x179 x180 x181 x182 x183 x184 x185 x186 x187 x188 x189 x190 x191 x192 x193 x194 x195 x196 x197 x198 x199 => ⟨⟨56, sp 58 0 [(2, (aI x172)), (3, (aI x173)), (4, (.ptr 0 0)), (5, (.ptr 1 0)), (11, (.mp 11)), (29, (aI y174))], [(.code (cd cfz.P 56 [1, 1, 1, 0, 1, 0, 0])), (.inLoop (cd cfz.P 56 [1, 1, 1, 0, 1, 0, 0])), (.inBlock 0), (.code (cd cfz.P 56 [1, 1, 1, 1]))], [], false, .none⟩, [], [(.cells [(aI x175), (aI x176), (aI x177), (aI x178), (aI x179), (aI x180), (aI x181), (aI x182), (aI x183), (aI x184), (aI x185), (aI x186)] 31), (.cells [(aI x187), (aI x188), (aI x189), (aI x190), (aI x191), (aI x192), (aI x193), (aI x194), (aI x195), (aI x196), (aI x197), (aI x198)] 31), .gone, .gone, .gone, .gone, .gone, .gone, .gone, .gone, (.tail 0), (.mp (.ib .i64 x199))]⟩
  | .c3 y203 y204 y205 y206 x201 y207 => ⟨⟨56, sp 58 0 [(11, (.mp 11)), (13, (.own 13 y203 1 y204 y205)), (46, (aI y206))], [(.inBlock 3), (.code (cd cfz.P 56 [1, 1, 1, 1, 1, 0, 1, 0, 0, 1, 1, 1])), (.inLoop (cd cfz.P 56 [1, 1, 1, 1, 1, 0, 1, 0, 0])), (.inBlock 2), (.code (cd cfz.P 56 [1, 1, 1, 1, 1, 1]))], [], false, .none⟩, [], [.dead, .dead, .gone, .gone, .gone, .gone, .gone, .gone, .gone, .gone, (.tail 0), (.mp (.ib .i64 x201)), (.tail 0), (.tail y207)]⟩
  | .c4 y214 x202 => ⟨⟨56, sp 58 0 [(11, (.mp 11)), (13, (.d (.v (.slice .none 0 0)))), (46, (aI y214))], [(.inBlock 3), (.code (cd cfz.P 56 [1, 1, 1, 1, 1, 0, 1, 0, 0, 1, 1, 1])), (.inLoop (cd cfz.P 56 [1, 1, 1, 1, 1, 0, 1, 0, 0])), (.inBlock 2), (.code (cd cfz.P 56 [1, 1, 1, 1, 1, 1]))], [], false, .none⟩, [], [.dead, .dead, .gone, .gone, .gone, .gone, .gone, .gone, .gone, .gone, (.tail 0), (.mp (.ib .i64 x202))]⟩
  | .c5 y208 y209 y210 y211 x212 x213 => ⟨⟨56, sp 58 0 [(11, (.mp 11)), (13, (.own 13 y208 1 y209 y210)), (46, (aI y211))], [(.code (cd cfz.P 56 [1, 1, 1, 1, 1, 0, 1, 0, 0])), (.inLoop (cd cfz.P 56 [1, 1, 1, 1, 1, 0, 1, 0, 0])), (.inBlock 2), (.code (cd cfz.P 56 [1, 1, 1, 1, 1, 1]))], [], false, .none⟩, [], [.dead, .dead, .gone, .gone, .gone, .gone, .gone, .gone, .gone, .gone, (.tail 0), (.mp (.ib .i64 x212)), (.tail 0), (.tail x213)]⟩
  | .c6 y215 x216 => ⟨⟨56, sp 58 0 [(11, (.mp 11)), (13, (.d (.v (.slice .none 0 0)))), (46, (aI y215))], [(.code (cd cfz.P 56 [1, 1, 1, 1, 1, 0, 1, 0, 0])), (.inLoop (cd cfz.P 56 [1, 1, 1, 1, 1, 0, 1, 0, 0])), (.inBlock 2), (.code (cd cfz.P 56 [1, 1, 1, 1, 1, 1]))], [], false, .none⟩, [], [.dead, .dead, .gone, .gone, .gone, .gone, .gone, .gone, .gone, .gone, (.tail 0), (.mp (.ib .i64 x216))]⟩
noncomputable def B56 : S56 → Tr S56 (Nat × List DV × Int)
  | .c0 a74 a75 a76 a77 a78 a79 a80 a81 a82 a83 a84 a85 a86 a87 a88 a89 a90 a91 a92 a93 a94 a95 a96 a97 a98 a99 => (.bind (F18 a74 a75 a76 a77 a78 a79 a80 a81 a82 a83 a84 a85) fun v137 =>
  (.bind (F18 a86 a87 a88 a89 a90 a91 a92 a93 a94 a95 a96 a97) fun v138 =>
  (.bind (F89 a98 1 100000000) fun v139 =>
  (.bind (F89 a99 1 100000000) fun v140 =>
  (.bind (F75 4 [(.v (.int .i64 v137)), (.v (.int .i64 v138)), (.v (.int .i64 v139)), (.v (.int .i64 v140))]) fun v141 =>
  (.sees [(.agg [(aI a74), (aI a75), (aI a76), (aI a77), (aI a78), (aI a79), (aI a80), (aI a81), (aI a82), (aI a83), (aI a84), (aI a85)])] (.sees [(.agg [(aI a86), (aI a87), (aI a88), (aI a89), (aI a90), (aI a91), (aI a92), (aI a93), (aI a94), (aI a95), (aI a96), (aI a97)])] (.sees [(aI a98), (aI 1), (aI 100000000)] (.sees [(aI a99), (aI 1), (aI 100000000)] (.sees [(.d (.sl 4 [(vI v137), (vI v138), (vI v139), (vI v140)]))] (.br (v141 != 0)
  (.ret (0, [], v141))
  (.bind (F101 a86 a87 a74 a75) fun v142 =>
  (.sees [(.agg [(aI a86), (aI a87)]), (.agg [(aI a74), (aI a75)])] (.ask (.in64 (a98 * a99)) (.br (decide (v142 > a98 * a99))
  (.nxt (.c1 a98 a99 0 a74 a75 a76 a77 a78 a79 a80 a81 a82 a83 a84 a85 a86 a87 a88 a89 a90 a91 a92 a93 a94 a95 a96 a97 [(0, true)]))
  (.nxt (.c1 a98 a99 0 a74 a75 a76 a77 a78 a79 a80 a81 a82 a83 a84 a85 a86 a87 a88 a89 a90 a91 a92 a93 a94 a95 a96 a97 [])))))))))))))))))
  | .c1 x143 x144 y171 x145 x146 x147 x148 x149 x150 x151 x152 x153 x154 x155 x156 x157 x158 x159 x160 x161 x162 x163 x164 x165 x166 x167 x168 y169 => (.ask (.in64 (y171 + 1)) (.nxt (.c2 x143 x144 (y171 + 1) x145 x146 x147 x148 x149 x150 x151 x152 x153 x154 x155 x156 x157 x158 x159 x160 x161 x162 x163 x164 x165 x166 x167 x168 y169)))
  | .c2 x172 x173 y174 x175 x176 x177 x178 x179 x180 x181 x182 x183 x184 x185 x186 x187 x188 x189 x190 x191 x192 x193 x194 x195 x196 x197 x198 x199 => (.br (decide (y174 < 6))
  (.bind (F101 (dI (celA [AV.d (DV.v (Value.int IntKind.i64 x187)), AV.d (DV.v (Value.int IntKind.i64 x188)), AV.d (DV.v (Value.int IntKind.i64 x189)), AV.d (DV.v (Value.int IntKind.i64 x190)), AV.d (DV.v (Value.int IntKind.i64 x191)), AV.d (DV.v (Value.int IntKind.i64 x192)), AV.d (DV.v (Value.int IntKind.i64 x193)), AV.d (DV.v (Value.int IntKind.i64 x194)), AV.d (DV.v (Value.int IntKind.i64 x195)), AV.d (DV.v (Value.int IntKind.i64 x196)), AV.d (DV.v (Value.int IntKind.i64 x197)), AV.d (DV.v (Value.int IntKind.i64 x198))] (0 + y174.toNat * 2))) (dI (celA [AV.d (DV.v (Value.int IntKind.i64 x187)), AV.d (DV.v (Value.int IntKind.i64 x188)), AV.d (DV.v (Value.int IntKind.i64 x189)), AV.d (DV.v (Value.int IntKind.i64 x190)), AV.d (DV.v (Value.int IntKind.i64 x191)), AV.d (DV.v (Value.int IntKind.i64 x192)), AV.d (DV.v (Value.int IntKind.i64 x193)), AV.d (DV.v (Value.int IntKind.i64 x194)), AV.d (DV.v (Value.int IntKind.i64 x195)), AV.d (DV.v (Value.int IntKind.i64 x196)), AV.d (DV.v (Value.int IntKind.i64 x197)), AV.d (DV.v (Value.int IntKind.i64 x198))] (0 + y174.toNat * 2 + 1))) (dI (celA [AV.d (DV.v (Value.int IntKind.i64 x175)), AV.d (DV.v (Value.int IntKind.i64 x176)), AV.d (DV.v (Value.int IntKind.i64 x177)), AV.d (DV.v (Value.int IntKind.i64 x178)), AV.d (DV.v (Value.int IntKind.i64 x179)), AV.d (DV.v (Value.int IntKind.i64 x180)), AV.d (DV.v (Value.int IntKind.i64 x181)), AV.d (DV.v (Value.int IntKind.i64 x182)), AV.d (DV.v (Value.int IntKind.i64 x183)), AV.d (DV.v (Value.int IntKind.i64 x184)), AV.d (DV.v (Value.int IntKind.i64 x185)), AV.d (DV.v (Value.int IntKind.i64 x186))] (0 + y174.toNat * 2))) (dI (celA [AV.d (DV.v (Value.int IntKind.i64 x175)), AV.d (DV.v (Value.int IntKind.i64 x176)), AV.d (DV.v (Value.int IntKind.i64 x177)), AV.d (DV.v (Value.int IntKind.i64 x178)), AV.d (DV.v (Value.int IntKind.i64 x179)), AV.d (DV.v (Value.int IntKind.i64 x180)), AV.d (DV.v (Value.int IntKind.i64 x181)), AV.d (DV.v (Value.int IntKind.i64 x182)), AV.d (DV.v (Value.int IntKind.i64 x183)), AV.d (DV.v (Value.int IntKind.i64 x184)), AV.d (DV.v (Value.int IntKind.i64 x185)), AV.d (DV.v (Value.int IntKind.i64 x186))] (0 + y174.toNat * 2 + 1)))) fun v200 =>
  (.ask (.le 0 y174) (.ask (.lt y174 6) (.ask (.leN (0 + y174.toNat * 2 + 2) 12) (.ask (.prop (List.take 2 (List.drop (0 + y174.toNat * 2) [AV.d (DV.v (Value.int IntKind.i64 x187)), AV.d (DV.v (Value.int IntKind.i64 x188)), AV.d (DV.v (Value.int IntKind.i64 x189)), AV.d (DV.v (Value.int IntKind.i64 x190)), AV.d (DV.v (Value.int IntKind.i64 x191)), AV.d (DV.v (Value.int IntKind.i64 x192)), AV.d (DV.v (Value.int IntKind.i64 x193)), AV.d (DV.v (Value.int IntKind.i64 x194)), AV.d (DV.v (Value.int IntKind.i64 x195)), AV.d (DV.v (Value.int IntKind.i64 x196)), AV.d (DV.v (Value.int IntKind.i64 x197)), AV.d (DV.v (Value.int IntKind.i64 x198))]) = [AV.d (DV.v (Value.int IntKind.i64 (dI (celA [AV.d (DV.v (Value.int IntKind.i64 x187)), AV.d (DV.v (Value.int IntKind.i64 x188)), AV.d (DV.v (Value.int IntKind.i64 x189)), AV.d (DV.v (Value.int IntKind.i64 x190)), AV.d (DV.v (Value.int IntKind.i64 x191)), AV.d (DV.v (Value.int IntKind.i64 x192)), AV.d (DV.v (Value.int IntKind.i64 x193)), AV.d (DV.v (Value.int IntKind.i64 x194)), AV.d (DV.v (Value.int IntKind.i64 x195)), AV.d (DV.v (Value.int IntKind.i64 x196)), AV.d (DV.v (Value.int IntKind.i64 x197)), AV.d (DV.v (Value.int IntKind.i64 x198))] (0 + y174.toNat * 2))))), AV.d (DV.v (Value.int IntKind.i64 (dI (celA [AV.d (DV.v (Value.int IntKind.i64 x187)), AV.d (DV.v (Value.int IntKind.i64 x188)), AV.d (DV.v (Value.int IntKind.i64 x189)), AV.d (DV.v (Value.int IntKind.i64 x190)), AV.d (DV.v (Value.int IntKind.i64 x191)), AV.d (DV.v (Value.int IntKind.i64 x192)), AV.d (DV.v (Value.int IntKind.i64 x193)), AV.d (DV.v (Value.int IntKind.i64 x194)), AV.d (DV.v (Value.int IntKind.i64 x195)), AV.d (DV.v (Value.int IntKind.i64 x196)), AV.d (DV.v (Value.int IntKind.i64 x197)), AV.d (DV.v (Value.int IntKind.i64 x198))] (0 + y174.toNat * 2 + 1)))))])) (.ask (.le 0 y174) (.ask (.lt y174 6) (.ask (.leN (0 + y174.toNat * 2 + 2) 12) (.ask (.prop (List.take 2 (List.drop (0 + y174.toNat * 2) [AV.d (DV.v (Value.int IntKind.i64 x175)), AV.d (DV.v (Value.int IntKind.i64 x176)), AV.d (DV.v (Value.int IntKind.i64 x177)), AV.d (DV.v (Value.int IntKind.i64 x178)), AV.d (DV.v (Value.int IntKind.i64 x179)), AV.d (DV.v (Value.int IntKind.i64 x180)), AV.d (DV.v (Value.int IntKind.i64 x181)), AV.d (DV.v (Value.int IntKind.i64 x182)), AV.d (DV.v (Value.int IntKind.i64 x183)), AV.d (DV.v (Value.int IntKind.i64 x184)), AV.d (DV.v (Value.int IntKind.i64 x185)), AV.d (DV.v (Value.int IntKind.i64 x186))]) = [AV.d (DV.v (Value.int IntKind.i64 (dI (celA [AV.d (DV.v (Value.int IntKind.i64 x175)), AV.d (DV.v (Value.int IntKind.i64 x176)), AV.d (DV.v (Value.int IntKind.i64 x177)), AV.d (DV.v (Value.int IntKind.i64 x178)), AV.d (DV.v (Value.int IntKind.i64 x179)), AV.d (DV.v (Value.int IntKind.i64 x180)), AV.d (DV.v (Value.int IntKind.i64 x181)), AV.d (DV.v (Value.int IntKind.i64 x182)), AV.d (DV.v (Value.int IntKind.i64 x183)), AV.d (DV.v (Value.int IntKind.i64 x184)), AV.d (DV.v (Value.int IntKind.i64 x185)), AV.d (DV.v (Value.int IntKind.i64 x186))] (0 + y174.toNat * 2))))), AV.d (DV.v (Value.int IntKind.i64 (dI (celA [AV.d (DV.v (Value.int IntKind.i64 x175)), AV.d (DV.v (Value.int IntKind.i64 x176)), AV.d (DV.v (Value.int IntKind.i64 x177)), AV.d (DV.v (Value.int IntKind.i64 x178)), AV.d (DV.v (Value.int IntKind.i64 x179)), AV.d (DV.v (Value.int IntKind.i64 x180)), AV.d (DV.v (Value.int IntKind.i64 x181)), AV.d (DV.v (Value.int IntKind.i64 x182)), AV.d (DV.v (Value.int IntKind.i64 x183)), AV.d (DV.v (Value.int IntKind.i64 x184)), AV.d (DV.v (Value.int IntKind.i64 x185)), AV.d (DV.v (Value.int IntKind.i64 x186))] (0 + y174.toNat * 2 + 1)))))])) (.sees [(.agg [(aI (dI (celA [aI x187, aI x188, aI x189, aI x190, aI x191, aI x192, aI x193, aI x194, aI x195, aI x196, aI x197, aI x198] (0 + y174.toNat * 2)))), (aI (dI (celA [aI x187, aI x188, aI x189, aI x190, aI x191, aI x192, aI x193, aI x194, aI x195, aI x196, aI x197, aI x198] (0 + y174.toNat * 2 + 1))))]), (.agg [(aI (dI (celA [aI x175, aI x176, aI x177, aI x178, aI x179, aI x180, aI x181, aI x182, aI x183, aI x184, aI x185, aI x186] (0 + y174.toNat * 2)))), (aI (dI (celA [aI x175, aI x176, aI x177, aI x178, aI x179, aI x180, aI x181, aI x182, aI x183, aI x184, aI x185, aI x186] (0 + y174.toNat * 2 + 1))))])] (.ask (.in64 (x172 * x173)) (.br (decide (v200 > x172 * x173))
  (.nxt (.c1 x172 x173 y174 x175 x176 x177 x178 x179 x180 x181 x182 x183 x184 x185 x186 x187 x188 x189 x190 x191 x192 x193 x194 x195 x196 x197 x198 (mset x199 y174 true)))
  (.nxt (.c1 x172 x173 y174 x175 x176 x177 x178 x179 x180 x181 x182 x183 x184 x185 x186 x187 x188 x189 x190 x191 x192 x193 x194 x195 x196 x197 x198 x199))))))))))))))
  (.br (mgetB x199 0)
  (.nxt (.c3 0 1 [(.v (.int .i64 0))] 0 x199 0))
  (.nxt (.c4 0 x199))))
  | .c3 y203 y204 y205 y206 x201 y207 => (.ask (.in64 (y206 + 1)) (.nxt (.c5 y203 y204 y205 (y206 + 1) x201 y207)))
  | .c4 y214 x202 => (.ask (.in64 (y214 + 1)) (.nxt (.c6 (y214 + 1) x202)))
  | .c5 y208 y209 y210 y211 x212 x213 => (.br (decide (y211 < 6))
  (.br (mgetB x212 y211)
  (.ask (.eqN y208 x213) (.ask (.fits (y209 + 1) 8) (.nxt (.c3 (x213 + 1) (y209 + 1) (y210 ++ [DV.v (Value.int IntKind.i64 y211)]) y211 x212 (x213 + 1)))))
  (.nxt (.c3 y208 y209 y210 y211 x212 x213)))
  (.ret (y209, y210, 0)))
  | .c6 y215 x216 => (.br (decide (y215 < 6))
  (.br (mgetB x216 y215)
  (.nxt (.c3 0 1 [(.v (.int .i64 y215))] y215 x216 0))
  (.nxt (.c4 y215 x216)))
  (.ret (0, [], 0)))
noncomputable def F56 (a74 a75 a76 a77 a78 a79 a80 a81 a82 a83 a84 a85 a86 a87 a88 a89 a90 a91 a92 a93 a94 a95 a96 a97 a98 a99 : Int) : Option (Nat × List DV × Int) := res B56 (.c0 a74 a75 a76 a77 a78 a79 a80 a81 a82 a83 a84 a85 a86 a87 a88 a89 a90 a91 a92 a93 a94 a95 a96 a97 a98 a99)
noncomputable def D56_0 (a74 a75 a76 a77 a78 a79 a80 a81 a82 a83 a84 a85 a86 a87 a88 a89 a90 a91 a92 a93 a94 a95 a96 a97 a98 a99 : Int) : DT cfz := (.go 10 [] [] (.bind (f18 a74 a75 a76 a77 a78 a79 a80 a81 a82 a83 a84 a85) fun v137 => (.bind (f18 a86 a87 a88 a89 a90 a91 a92 a93 a94 a95 a96 a97) fun v138 => (.bind (f89 a98 1 100000000) fun v139 => (.bind (f89 a99 1 100000000) fun v140 => (.bind (f75 4 [(vI v137), (vI v138), (vI v139), (vI v140)]) fun v141 => (.go 6 [(.ck 0), (.ck 1), (.ck 2), (.ck 3), (.ck 4)] [] (.split 26 (.go 8 [(.br true)] [0] .fin) (.go 30 [(.br false), (.br true)] [0, 1] (.bind (f101 a86 a87 a74 a75) fun v142 => (.go 1 [(.ck 5)] [0, 1, 2, 3] (.split 42 (.go 6 [(.br true)] [0] (.cut 12 [[2, 3, 4, 5, 11, 29]] [])) (.go 2 [(.br false)] [0] (.cut 12 [[2, 3, 4, 5, 11, 29]] []))))))))))))))
theorem k56_0 (a74 a75 a76 a77 a78 a79 a80 a81 a82 a83 a84 a85 a86 a87 a88 a89 a90 a91 a92 a93 a94 a95 a96 a97 a98 a99 : Int) : xrun cfz 56 (D56_0 a74 a75 a76 a77 a78 a79 a80 a81 a82 a83 a84 a85 a86 a87 a88 a89 a90 a91 a92 a93 a94 a95 a96 a97 a98 a99) [] (st56 (.c0 a74 a75 a76 a77 a78 a79 a80 a81 a82 a83 a84 a85 a86 a87 a88 a89 a90 a91 a92 a93 a94 a95 a96 a97 a98 a99)) = (B56 (.c0 a74 a75 a76 a77 a78 a79 a80 a81 a82 a83 a84 a85 a86 a87 a88 a89 a90 a91 a92 a93 a94 a95 a96 a97 a98 a99)).mach st56 out56 := by kernel_rfl
noncomputable def D56_1 (x143 x144 y171 x145 x146 x147 x148 x149 x150 x151 x152 x153 x154 x155 x156 x157 x158 x159 x160 x161 x162 x163 x164 x165 x166 x167 x168 : Int) (y169 : MIB) : DT cfz := (.go 6 [] [] (.cut 12 [[2, 3, 4, 5, 11, 29]] []))
theorem k56_1 (x143 x144 y171 x145 x146 x147 x148 x149 x150 x151 x152 x153 x154 x155 x156 x157 x158 x159 x160 x161 x162 x163 x164 x165 x166 x167 x168 : Int) (y169 : MIB) : xrun cfz 56 (D56_1 x143 x144 y171 x145 x146 x147 x148 x149 x150 x151 x152 x153 x154 x155 x156 x157 x158 x159 x160 x161 x162 x163 x164 x165 x166 x167 x168 y169) [] (st56 (.c1 x143 x144 y171 x145 x146 x147 x148 x149 x150 x151 x152 x153 x154 x155 x156 x157 x158 x159 x160 x161 x162 x163 x164 x165 x166 x167 x168 y169)) = (B56 (.c1 x143 x144 y171 x145 x146 x147 x148 x149 x150 x151 x152 x153 x154 x155 x156 x157 x158 x159 x160 x161 x162 x163 x164 x165 x166 x167 x168 y169)).mach st56 out56 := by kernel_rfl
noncomputable def D56_2 (x172 x173 y174 x175 x176 x177 x178 x179 x180 x181 x182 x183 x184 x185 x186 x187 x188 x189 x190 x191 x192 x193 x194 x195 x196 x197 x198 : Int) (x199 : MIB) : DT cfz := (.go 5 [] [] (.split 30 (.go 11 [(.br true)] [0] (.bind (f101 (dI (celA [aI x187, aI x188, aI x189, aI x190, aI x191, aI x192, aI x193, aI x194, aI x195, aI x196, aI x197, aI x198] (0 + y174.toNat * 2))) (dI (celA [aI x187, aI x188, aI x189, aI x190, aI x191, aI x192, aI x193, aI x194, aI x195, aI x196, aI x197, aI x198] (0 + y174.toNat * 2 + 1))) (dI (celA [aI x175, aI x176, aI x177, aI x178, aI x179, aI x180, aI x181, aI x182, aI x183, aI x184, aI x185, aI x186] (0 + y174.toNat * 2))) (dI (celA [aI x175, aI x176, aI x177, aI x178, aI x179, aI x180, aI x181, aI x182, aI x183, aI x184, aI x185, aI x186] (0 + y174.toNat * 2 + 1)))) fun v200 => (.go 1 [(.as (.agg [(aI (dI (celA [aI x187, aI x188, aI x189, aI x190, aI x191, aI x192, aI x193, aI x194, aI x195, aI x196, aI x197, aI x198] (0 + y174.toNat * 2)))), (aI (dI (celA [aI x187, aI x188, aI x189, aI x190, aI x191, aI x192, aI x193, aI x194, aI x195, aI x196, aI x197, aI x198] (0 + y174.toNat * 2 + 1))))])), (.as (.agg [(aI (dI (celA [aI x175, aI x176, aI x177, aI x178, aI x179, aI x180, aI x181, aI x182, aI x183, aI x184, aI x185, aI x186] (0 + y174.toNat * 2)))), (aI (dI (celA [aI x175, aI x176, aI x177, aI x178, aI x179, aI x180, aI x181, aI x182, aI x183, aI x184, aI x185, aI x186] (0 + y174.toNat * 2 + 1))))])), (.ck 0)] [] (.split 42 (.go 6 [(.br true)] [0] (.cut 12 [[2, 3, 4, 5, 11, 29]] [])) (.go 2 [(.br false)] [0] (.cut 12 [[2, 3, 4, 5, 11, 29]] [])))))) (.go 33 [(.br false), (.br true)] [0, 1] (.split 51 (.go 8 [(.br true)] [0, 1, 2, 3] (.cut 14 [[11, 13, 46]] [0, 1])) (.go 2 [(.br false)] [0] (.cut 12 [[11, 13, 46]] [0, 1]))))))
theorem k56_2 (x172 x173 y174 x175 x176 x177 x178 x179 x180 x181 x182 x183 x184 x185 x186 x187 x188 x189 x190 x191 x192 x193 x194 x195 x196 x197 x198 : Int) (x199 : MIB) : xrun cfz 56 (D56_2 x172 x173 y174 x175 x176 x177 x178 x179 x180 x181 x182 x183 x184 x185 x186 x187 x188 x189 x190 x191 x192 x193 x194 x195 x196 x197 x198 x199) [] (st56 (.c2 x172 x173 y174 x175 x176 x177 x178 x179 x180 x181 x182 x183 x184 x185 x186 x187 x188 x189 x190 x191 x192 x193 x194 x195 x196 x197 x198 x199)) = (B56 (.c2 x172 x173 y174 x175 x176 x177 x178 x179 x180 x181 x182 x183 x184 x185 x186 x187 x188 x189 x190 x191 x192 x193 x194 x195 x196 x197 x198 x199)).mach st56 out56 := by kernel_rfl
noncomputable def D56_3 (y203 y204 : Nat) (y205 : List DV) (y206 : Int) (x201 : MIB) (y207 : Nat) : DT cfz := (.go 6 [] [] (.cut 14 [[11, 13, 46]] []))
theorem k56_3 (y203 y204 : Nat) (y205 : List DV) (y206 : Int) (x201 : MIB) (y207 : Nat) : xrun cfz 56 (D56_3 y203 y204 y205 y206 x201 y207) [] (st56 (.c3 y203 y204 y205 y206 x201 y207)) = (B56 (.c3 y203 y204 y205 y206 x201 y207)).mach st56 out56 := by kernel_rfl
noncomputable def D56_4 (y214 : Int) (x202 : MIB) : DT cfz := (.go 6 [] [] (.cut 12 [[11, 13, 46]] []))
theorem k56_4 (y214 : Int) (x202 : MIB) : xrun cfz 56 (D56_4 y214 x202) [] (st56 (.c4 y214 x202)) = (B56 (.c4 y214 x202)).mach st56 out56 := by kernel_rfl
noncomputable def D56_5 (y208 y209 : Nat) (y210 : List DV) (y211 : Int) (x212 : MIB) (x213 : Nat) : DT cfz := (.go 5 [] [] (.split 47 (.go 15 [(.br true)] [0] (.split 51 (.go 8 [(.br true)] [0, 2, 3] (.cut 14 [[11, 13, 46]] [])) (.go 2 [(.br false)] [0] (.cut 14 [[11, 13, 46]] [])))) (.go 9 [(.br false)] [0] .fin)))
theorem k56_5 (y208 y209 : Nat) (y210 : List DV) (y211 : Int) (x212 : MIB) (x213 : Nat) : xrun cfz 56 (D56_5 y208 y209 y210 y211 x212 x213) [] (st56 (.c5 y208 y209 y210 y211 x212 x213)) = (B56 (.c5 y208 y209 y210 y211 x212 x213)).mach st56 out56 := by kernel_rfl
noncomputable def D56_6 (y215 : Int) (x216 : MIB) : DT cfz := (.go 5 [] [] (.split 47 (.go 15 [(.br true)] [0] (.split 51 (.go 8 [(.br true)] [0, 1, 2, 3] (.cut 14 [[11, 13, 46]] [])) (.go 2 [(.br false)] [0] (.cut 12 [[11, 13, 46]] [])))) (.go 9 [(.br false)] [0] .fin)))
theorem k56_6 (y215 : Int) (x216 : MIB) : xrun cfz 56 (D56_6 y215 x216) [] (st56 (.c6 y215 x216)) = (B56 (.c6 y215 x216)).mach st56 out56 := by kernel_rfl
theorem ok56 : ∀ s, ∃ d, xrun cfz 56 d [] (st56 s) = (B56 s).mach st56 out56
  | .c0 a74 a75 a76 a77 a78 a79 a80 a81 a82 a83 a84 a85 a86 a87 a88 a89 a90 a91 a92 a93 a94 a95 a96 a97 a98 a99 => ⟨_, k56_0 a74 a75 a76 a77 a78 a79 a80 a81 a82 a83 a84 a85 a86 a87 a88 a89 a90 a91 a92 a93 a94 a95 a96 a97 a98 a99⟩
  | .c1 x143 x144 y171 x145 x146 x147 x148 x149 x150 x151 x152 x153 x154 x155 x156 x157 x158 x159 x160 x161 x162 x163 x164 x165 x166 x167 x168 y169 => ⟨_, k56_1 x143 x144 y171 x145 x146 x147 x148 x149 x150 x151 x152 x153 x154 x155 x156 x157 x158 x159 x160 x161 x162 x163 x164 x165 x166 x167 x168 y169⟩
  | .c2 x172 x173 y174 x175 x176 x177 x178 x179 x180 x181 x182 x183 x184 x185 x186 x187 x188 x189 x190 x191 x192 x193 x194 x195 x196 x197 x198 x199 => ⟨_, k56_2 x172 x173 y174 x175 x176 x177 x178 x179 x180 x181 x182 x183 x184 x185 x186 x187 x188 x189 x190 x191 x192 x193 x194 x195 x196 x197 x198 x199⟩
  | .c3 y203 y204 y205 y206 x201 y207 => ⟨_, k56_3 y203 y204 y205 y206 x201 y207⟩
  | .c4 y214 x202 => ⟨_, k56_4 y214 x202⟩
  | .c5 y208 y209 y210 y211 x212 x213 => ⟨_, k56_5 y208 y209 y210 y211 x212 x213⟩
  | .c6 y215 x216 => ⟨_, k56_6 y215 x216⟩
theorem f56 (a74 a75 a76 a77 a78 a79 a80 a81 a82 a83 a84 a85 a86 a87 a88 a89 a90 a91 a92 a93 a94 a95 a96 a97 a98 a99 : Int) (v : Nat × List DV × Int) (h : F56 a74 a75 a76 a77 a78 a79 a80 a81 a82 a83 a84 a85 a86 a87 a88 a89 a90 a91 a92 a93 a94 a95 a96 a97 a98 a99 = some v) : PureCalls cfz.P cfz.glob 56 [(.agg [(aI a74), (aI a75), (aI a76), (aI a77), (aI a78), (aI a79), (aI a80), (aI a81), (aI a82), (aI a83), (aI a84), (aI a85)]), (.agg [(aI a86), (aI a87), (aI a88), (aI a89), (aI a90), (aI a91), (aI a92), (aI a93), (aI a94), (aI a95), (aI a96), (aI a97)]), (aI a98), (aI a99)] (out56 v) := tree_pure knil ok56 (s := .c0 a74 a75 a76 a77 a78 a79 a80 a81 a82 a83 a84 a85 a86 a87 a88 a89 a90 a91 a92 a93 a94 a95 a96 a97 a98 a99) rfl (by kernel_rfl) v h

/-! F82 -/
inductive S82 where
  | c0 (a223 : Bool) (a224 : Int)
def out82 (v : Int) : AV := (.d (.v (.int .i64 v)))
noncomputable def st82 : S82 → ASt
  | .c0 a223 a224 => ent cfz 82 [(.d (.v (.bool a223))), (aI a224)]
noncomputable def B82 : S82 → Tr S82 (Int)
  | .c0 a223 a224 => (.br a223
  (.ret a224)
  (.ret 0))
noncomputable def F82 (a223 : Bool) (a224 : Int) : Option (Int) := res B82 (.c0 a223 a224)
noncomputable def D82_0 (a223 : Bool) (a224 : Int) : DT cfz := (.go 9 [] [] (.split 5 (.go 7 [(.br true)] [0] .fin) (.go 7 [(.br false)] [0] .fin)))
theorem k82_0 (a223 : Bool) (a224 : Int) : xrun cfz 82 (D82_0 a223 a224) [] (st82 (.c0 a223 a224)) = (B82 (.c0 a223 a224)).mach st82 out82 := by kernel_rfl
theorem ok82 : ∀ s, ∃ d, xrun cfz 82 d [] (st82 s) = (B82 s).mach st82 out82
  | .c0 a223 a224 => ⟨_, k82_0 a223 a224⟩
theorem f82 (a223 : Bool) (a224 v : Int) (h : F82 a223 a224 = some v) : PureCalls cfz.P cfz.glob 82 [(.d (.v (.bool a223))), (aI a224)] (out82 v) := tree_pure knil ok82 (s := .c0 a223 a224) rfl (by kernel_rfl) v h

/-! F34 -/
inductive S34 where
  | c0 (a220 a221 a222 : Int)
def out34 (v : Int) : AV := (.d (.v (.int .i64 v)))
noncomputable def st34 : S34 → ASt
  | .c0 a220 a221 a222 => ent cfz 34 [(aI a220), (aI a221), (aI a222)]
noncomputable def B34 : S34 → Tr S34 (Int)
  | .c0 a220 a221 a222 => (.triv _ (tv_s (decide (a220 < a221) == false)) (.triv _ (tv_s (decide (a220 < a221) == false)) (.triv _ (tv_f (decide (a220 < a221))) (.bind (F82 (if decide (a220 < a221) = true then true else decide (a220 > a222)) 3) fun v225 =>
  (.sees [(.d (.v (.bool (if decide (a220 < a221) = true then true else decide (a220 > a222))))), (aI 3)] (.ret v225))))))
noncomputable def F34 (a220 a221 a222 : Int) : Option (Int) := res B34 (.c0 a220 a221 a222)
noncomputable def D34_0 (a220 a221 a222 : Int) : DT cfz := (.go 14 [(.sp .none), (.sp .none), (.sp .none), .mg] [] (.bind (f82 (if decide (a220 < a221) = true then true else decide (a220 > a222)) 3) fun v225 => (.go 4 [(.ck 0)] [] .fin)))
theorem k34_0 (a220 a221 a222 : Int) : xrun cfz 34 (D34_0 a220 a221 a222) [] (st34 (.c0 a220 a221 a222)) = (B34 (.c0 a220 a221 a222)).mach st34 out34 := by kernel_rfl
theorem ok34 : ∀ s, ∃ d, xrun cfz 34 d [] (st34 s) = (B34 s).mach st34 out34
  | .c0 a220 a221 a222 => ⟨_, k34_0 a220 a221 a222⟩
theorem f34 (a220 a221 a222 v : Int) (h : F34 a220 a221 a222 = some v) : PureCalls cfz.P cfz.glob 34 [(aI a220), (aI a221), (aI a222)] (out34 v) := tree_pure knil ok34 (s := .c0 a220 a221 a222) rfl (by kernel_rfl) v h

/-! F24 -/
inductive S24 where
  | c0 (a228 : Nat) (a229 : List DV)
  | c1 (x230 : Nat) (x231 : List DV) (y232 : Int)
def out24 (v : Int) : AV := (.d (.v (.int .i64 v)))
noncomputable def st24 : S24 → ASt
  | .c0 a228 a229 => ent cfz 24 [(.d (.sl a228 a229))]
  | .c1 x230 x231 y232 => ⟨⟨24, sp 19 0 [(0, (.d (.sl x230 x231))), (3, (aI y232))], [(.code (cd cfz.P 24 [1, 0, 1, 0, 0])), (.inLoop (cd cfz.P 24 [1, 0, 1, 0, 0])), (.inBlock 0), (.code (cd cfz.P 24 [1, 1]))], [], false, .none⟩, [], []⟩
noncomputable def B24 : S24 → Tr S24 (Int)
  | .c0 a228 a229 => (.nxt (.c1 a228 a229 0))
  | .c1 x230 x231 y232 => (.br (decide (y232 < (↑x230 : Int)))
  (.ask (.le 0 y232) (.ask (.lt y232 ((↑x230 : Int))) (.ask (.leN (y232.toNat * 1) x231.length) (.ask (.prop (Option.map AV.d (List.drop (y232.toNat * 1) x231)[0]? = some (AV.d (DV.v (Value.int IntKind.i64 (dI (cel x231 (y232.toNat * 1)))))))) (.br (dI (cel x231 (y232.toNat * 1)) != 0)
  (.ask (.le 0 y232) (.ask (.lt y232 ((↑x230 : Int))) (.ask (.leN (y232.toNat * 1) x231.length) (.ask (.prop (Option.map AV.d (List.drop (y232.toNat * 1) x231)[0]? = some (AV.d (DV.v (Value.int IntKind.i64 (dI (cel x231 (y232.toNat * 1)))))))) (.ret (dI (cel x231 (y232.toNat * 1))))))))
  (.ask (.in64 (y232 + 1)) (.nxt (.c1 x230 x231 (y232 + 1)))))))))
  (.ret 0))
noncomputable def F24 (a228 : Nat) (a229 : List DV) : Option (Int) := res B24 (.c0 a228 a229)
noncomputable def D24_0 (a228 : Nat) (a229 : List DV) : DT cfz := (.go 11 [] [] (.cut 0 [[0, 3]] []))
theorem k24_0 (a228 : Nat) (a229 : List DV) : xrun cfz 24 (D24_0 a228 a229) [] (st24 (.c0 a228 a229)) = (B24 (.c0 a228 a229)).mach st24 out24 := by kernel_rfl
noncomputable def D24_1 (x230 : Nat) (x231 : List DV) (y232 : Int) : DT cfz := (.go 8 [] [] (.split 7 (.go 12 [(.br true), (.as (aI (dI (cel x231 (y232.toNat * 1)))))] [0] (.split 14 (.go 10 [(.br true), (.as (aI (dI (cel x231 (y232.toNat * 1)))))] [0] .fin) (.go 9 [(.br false)] [0] (.cut 0 [[0, 3]] [])))) (.go 7 [(.br false)] [0] .fin)))
theorem k24_1 (x230 : Nat) (x231 : List DV) (y232 : Int) : xrun cfz 24 (D24_1 x230 x231 y232) [] (st24 (.c1 x230 x231 y232)) = (B24 (.c1 x230 x231 y232)).mach st24 out24 := by kernel_rfl
theorem ok24 : ∀ s, ∃ d, xrun cfz 24 d [] (st24 s) = (B24 s).mach st24 out24
  | .c0 a228 a229 => ⟨_, k24_0 a228 a229⟩
  | .c1 x230 x231 y232 => ⟨_, k24_1 x230 x231 y232⟩
theorem f24 (a228 : Nat) (a229 : List DV) (v : Int) (h : F24 a228 a229 = some v) : PureCalls cfz.P cfz.glob 24 [(.d (.sl a228 a229))] (out24 v) := tree_pure knil ok24 (s := .c0 a228 a229) rfl (by kernel_rfl) v h

/-! F57 -/
inductive S57 where
  | c0 (a218 a219 : Int)
def out57 (v : Int) : AV := (.d (.v (.int .i64 v)))
noncomputable def st57 : S57 → ASt
  | .c0 a218 a219 => ent cfz 57 [(.agg [(aI a218), (aI a219)])]
noncomputable def B57 : S57 → Tr S57 (Int)
  | .c0 a218 a219 => (.bind (F34 a218 0 999999) fun v226 =>
  (.bind (F34 a219 0 999999) fun v227 =>
  (.bind (F24 2 [(.v (.int .i64 v226)), (.v (.int .i64 v227))]) fun v233 =>
  (.sees [(aI a218), (aI 0), (aI 999999)] (.sees [(aI a219), (aI 0), (aI 999999)] (.sees [(.d (.sl 2 [(vI v226), (vI v227)]))] (.ret v233)))))))
noncomputable def F57 (a218 a219 : Int) : Option (Int) := res B57 (.c0 a218 a219)
noncomputable def D57_0 (a218 a219 : Int) : DT cfz := (.go 7 [] [] (.bind (f34 a218 0 999999) fun v226 => (.bind (f34 a219 0 999999) fun v227 => (.bind (f24 2 [(vI v226), (vI v227)]) fun v233 => (.go 2 [(.ck 0), (.ck 1), (.ck 2)] [] .fin)))))
theorem k57_0 (a218 a219 : Int) : xrun cfz 57 (D57_0 a218 a219) [] (st57 (.c0 a218 a219)) = (B57 (.c0 a218 a219)).mach st57 out57 := by kernel_rfl
theorem ok57 : ∀ s, ∃ d, xrun cfz 57 d [] (st57 s) = (B57 s).mach st57 out57
  | .c0 a218 a219 => ⟨_, k57_0 a218 a219⟩
theorem f57 (a218 a219 v : Int) (h : F57 a218 a219 = some v) : PureCalls cfz.P cfz.glob 57 [(.agg [(aI a218), (aI a219)])] (out57 v) := tree_pure knil ok57 (s := .c0 a218 a219) rfl (by kernel_rfl) v h

/-! F19 -/
inductive S19 where
  | c0 (a237 a238 a239 a240 a241 a242 a243 a244 a245 a246 a247 a248 : Int)
def out19 (v : Int) : AV := (.d (.v (.int .i64 v)))
noncomputable def st19 : S19 → ASt
  | .c0 a237 a238 a239 a240 a241 a242 a243 a244 a245 a246 a247 a248 => ent cfz 19 [(.agg [(aI a237), (aI a238), (aI a239), (aI a240), (aI a241), (aI a242), (aI a243), (aI a244), (aI a245), (aI a246), (aI a247), (aI a248)])]
noncomputable def B19 : S19 → Tr S19 (Int)
  | .c0 a237 a238 a239 a240 a241 a242 a243 a244 a245 a246 a247 a248 => (.bind (F34 a237 0 999999) fun v249 =>
  (.bind (F34 a238 0 999999) fun v250 =>
  (.bind (F24 2 [(.v (.int .i64 v249)), (.v (.int .i64 v250))]) fun v251 =>
  (.sees [(aI a237), (aI 0), (aI 999999)] (.sees [(aI a238), (aI 0), (aI 999999)] (.sees [(.d (.sl 2 [(vI v249), (vI v250)]))] (.br (v251 != 0)
  (.ret v251)
  (.bind (F34 a239 0 999999) fun v252 =>
  (.bind (F34 a240 0 999999) fun v253 =>
  (.bind (F24 2 [(.v (.int .i64 v252)), (.v (.int .i64 v253))]) fun v254 =>
  (.sees [(aI a239), (aI 0), (aI 999999)] (.sees [(aI a240), (aI 0), (aI 999999)] (.sees [(.d (.sl 2 [(vI v252), (vI v253)]))] (.br (v254 != 0)
  (.ret v254)
  (.bind (F34 a241 0 999999) fun v255 =>
  (.bind (F34 a242 0 999999) fun v256 =>
  (.bind (F24 2 [(.v (.int .i64 v255)), (.v (.int .i64 v256))]) fun v257 =>
  (.sees [(aI a241), (aI 0), (aI 999999)] (.sees [(aI a242), (aI 0), (aI 999999)] (.sees [(.d (.sl 2 [(vI v255), (vI v256)]))] (.br (v257 != 0)
  (.ret v257)
  (.bind (F34 a243 0 999999) fun v258 =>
  (.bind (F34 a244 0 999999) fun v259 =>
  (.bind (F24 2 [(.v (.int .i64 v258)), (.v (.int .i64 v259))]) fun v260 =>
  (.sees [(aI a243), (aI 0), (aI 999999)] (.sees [(aI a244), (aI 0), (aI 999999)] (.sees [(.d (.sl 2 [(vI v258), (vI v259)]))] (.br (v260 != 0)
  (.ret v260)
  (.bind (F34 a245 0 999999) fun v261 =>
  (.bind (F34 a246 0 999999) fun v262 =>
  (.bind (F24 2 [(.v (.int .i64 v261)), (.v (.int .i64 v262))]) fun v263 =>
  (.sees [(aI a245), (aI 0), (aI 999999)] (.sees [(aI a246), (aI 0), (aI 999999)] (.sees [(.d (.sl 2 [(vI v261), (vI v262)]))] (.br (v263 != 0)
  (.ret v263)
  (.bind (F34 a247 0 999999) fun v264 =>
  (.bind (F34 a248 0 999999) fun v265 =>
  (.bind (F24 2 [(.v (.int .i64 v264)), (.v (.int .i64 v265))]) fun v266 =>
  (.sees [(aI a247), (aI 0), (aI 999999)] (.sees [(aI a248), (aI 0), (aI 999999)] (.sees [(.d (.sl 2 [(vI v264), (vI v265)]))] (.br (v266 != 0)
  (.ret v266)
  (.ret 0)))))))))))))))))))))))))))))))))))))))))))
noncomputable def F19 (a237 a238 a239 a240 a241 a242 a243 a244 a245 a246 a247 a248 : Int) : Option (Int) := res B19 (.c0 a237 a238 a239 a240 a241 a242 a243 a244 a245 a246 a247 a248)
noncomputable def D19_0 (a237 a238 a239 a240 a241 a242 a243 a244 a245 a246 a247 a248 : Int) : DT cfz := (.go 24 [(.br true)] [0] (.bind (f34 a237 0 999999) fun v249 => (.bind (f34 a238 0 999999) fun v250 => (.bind (f24 2 [(vI v249), (vI v250)]) fun v251 => (.go 6 [(.ck 0), (.ck 1), (.ck 2)] [0, 1, 3, 4] (.split 22 (.go 7 [(.br true)] [0] .fin) (.go 21 [(.br false), (.br true)] [0, 1, 2] (.bind (f34 a239 0 999999) fun v252 => (.bind (f34 a240 0 999999) fun v253 => (.bind (f24 2 [(vI v252), (vI v253)]) fun v254 => (.go 6 [(.ck 3), (.ck 4), (.ck 5)] [0, 1, 3, 4] (.split 22 (.go 7 [(.br true)] [0] .fin) (.go 21 [(.br false), (.br true)] [0, 1, 2] (.bind (f34 a241 0 999999) fun v255 => (.bind (f34 a242 0 999999) fun v256 => (.bind (f24 2 [(vI v255), (vI v256)]) fun v257 => (.go 6 [(.ck 6), (.ck 7), (.ck 8)] [0, 1, 3, 4] (.split 22 (.go 7 [(.br true)] [0] .fin) (.go 21 [(.br false), (.br true)] [0, 1, 2] (.bind (f34 a243 0 999999) fun v258 => (.bind (f34 a244 0 999999) fun v259 => (.bind (f24 2 [(vI v258), (vI v259)]) fun v260 => (.go 6 [(.ck 9), (.ck 10), (.ck 11)] [0, 1, 3, 4] (.split 22 (.go 7 [(.br true)] [0] .fin) (.go 21 [(.br false), (.br true)] [0, 1, 2] (.bind (f34 a245 0 999999) fun v261 => (.bind (f34 a246 0 999999) fun v262 => (.bind (f24 2 [(vI v261), (vI v262)]) fun v263 => (.go 6 [(.ck 12), (.ck 13), (.ck 14)] [0, 1, 3, 4] (.split 22 (.go 7 [(.br true)] [0] .fin) (.go 21 [(.br false), (.br true)] [0, 1, 2] (.bind (f34 a247 0 999999) fun v264 => (.bind (f34 a248 0 999999) fun v265 => (.bind (f24 2 [(vI v264), (vI v265)]) fun v266 => (.go 6 [(.ck 15), (.ck 16), (.ck 17)] [0, 1, 3, 4] (.split 22 (.go 7 [(.br true)] [0] .fin) (.go 22 [(.br false), (.br false)] [0, 1, 2] .fin)))))))))))))))))))))))))))))))))))))
theorem k19_0 (a237 a238 a239 a240 a241 a242 a243 a244 a245 a246 a247 a248 : Int) : xrun cfz 19 (D19_0 a237 a238 a239 a240 a241 a242 a243 a244 a245 a246 a247 a248) [] (st19 (.c0 a237 a238 a239 a240 a241 a242 a243 a244 a245 a246 a247 a248)) = (B19 (.c0 a237 a238 a239 a240 a241 a242 a243 a244 a245 a246 a247 a248)).mach st19 out19 := by kernel_rfl
theorem ok19 : ∀ s, ∃ d, xrun cfz 19 d [] (st19 s) = (B19 s).mach st19 out19
  | .c0 a237 a238 a239 a240 a241 a242 a243 a244 a245 a246 a247 a248 => ⟨_, k19_0 a237 a238 a239 a240 a241 a242 a243 a244 a245 a246 a247 a248⟩
theorem f19 (a237 a238 a239 a240 a241 a242 a243 a244 a245 a246 a247 a248 v : Int) (h : F19 a237 a238 a239 a240 a241 a242 a243 a244 a245 a246 a247 a248 = some v) : PureCalls cfz.P cfz.glob 19 [(.agg [(aI a237), (aI a238), (aI a239), (aI a240), (aI a241), (aI a242), (aI a243), (aI a244), (aI a245), (aI a246), (aI a247), (aI a248)])] (out19 v) := tree_pure knil ok19 (s := .c0 a237 a238 a239 a240 a241 a242 a243 a244 a245 a246 a247 a248) rfl (by kernel_rfl) v h

/-! F102 -/
inductive S102 where
  | c0 (a276 a277 : Int)
def out102 (v : Int) : AV := (.d (.v (.int .i64 v)))
noncomputable def st102 : S102 → ASt
  | .c0 a276 a277 => ent cfz 102 [(.agg [(aI a276), (aI a277)])]
noncomputable def B102 : S102 → Tr S102 (Int)
  | .c0 a276 a277 => (.ask (.in64 (a276 * 1000000)) (.ask (.in64 (a276 * 1000000 + a277)) (.ret (a276 * 1000000 + a277))))
noncomputable def F102 (a276 a277 : Int) : Option (Int) := res B102 (.c0 a276 a277)
noncomputable def D102_0 (a276 a277 : Int) : DT cfz := (.go 16 [] [] .fin)
theorem k102_0 (a276 a277 : Int) : xrun cfz 102 (D102_0 a276 a277) [] (st102 (.c0 a276 a277)) = (B102 (.c0 a276 a277)).mach st102 out102 := by kernel_rfl
theorem ok102 : ∀ s, ∃ d, xrun cfz 102 d [] (st102 s) = (B102 s).mach st102 out102
  | .c0 a276 a277 => ⟨_, k102_0 a276 a277⟩
theorem f102 (a276 a277 v : Int) (h : F102 a276 a277 = some v) : PureCalls cfz.P cfz.glob 102 [(.agg [(aI a276), (aI a277)])] (out102 v) := tree_pure knil ok102 (s := .c0 a276 a277) rfl (by kernel_rfl) v h

/-! F58 -/
inductive S58 where
  | c0 (a272 a273 a274 a275 : Int)
def out58 (v : Int) : AV := (.d (.v (.int .i64 v)))
noncomputable def st58 : S58 → ASt
  | .c0 a272 a273 a274 a275 => ent cfz 58 [(.agg [(aI a272), (aI a273)]), (.agg [(aI a274), (aI a275)])]
noncomputable def B58 : S58 → Tr S58 (Int)
  | .c0 a272 a273 a274 a275 => (.bind (F102 a274 a275) fun v278 =>
  (.bind (F102 a272 a273) fun v279 =>
  (.sees [(.agg [(aI a274), (aI a275)])] (.sees [(.agg [(aI a272), (aI a273)])] (.ask (.in64 (v278 - v279)) (.br (decide (v278 - v279 < 0))
  (.ask (.in64 (v278 - v279 + 1000000000000)) (.ret (v278 - v279 + 1000000000000)))
  (.ret (v278 - v279))))))))
noncomputable def F58 (a272 a273 a274 a275 : Int) : Option (Int) := res B58 (.c0 a272 a273 a274 a275)
noncomputable def D58_0 (a272 a273 a274 a275 : Int) : DT cfz := (.go 8 [] [] (.bind (f102 a274 a275) fun v278 => (.bind (f102 a272 a273) fun v279 => (.go 7 [(.ck 0), (.ck 1)] [] (.split 12 (.go 12 [(.br true)] [0] .fin) (.go 8 [(.br false)] [0] .fin))))))
theorem k58_0 (a272 a273 a274 a275 : Int) : xrun cfz 58 (D58_0 a272 a273 a274 a275) [] (st58 (.c0 a272 a273 a274 a275)) = (B58 (.c0 a272 a273 a274 a275)).mach st58 out58 := by kernel_rfl
theorem ok58 : ∀ s, ∃ d, xrun cfz 58 d [] (st58 s) = (B58 s).mach st58 out58
  | .c0 a272 a273 a274 a275 => ⟨_, k58_0 a272 a273 a274 a275⟩
theorem f58 (a272 a273 a274 a275 v : Int) (h : F58 a272 a273 a274 a275 = some v) : PureCalls cfz.P cfz.glob 58 [(.agg [(aI a272), (aI a273)]), (.agg [(aI a274), (aI a275)])] (out58 v) := tree_pure knil ok58 (s := .c0 a272 a273 a274 a275) rfl (by kernel_rfl) v h

/-! F59 -/
inductive S59 where
  | c0 (a281 a282 a283 a284 a285 a286 a287 a288 a289 a290 a291 a292 a293 a294 a295 a296 a297 a298 a299 a300 a301 a302 a303 a304 a305 a306 : Int)
  | c1 (x308 x309 : Int) (y361 y362 : Nat) (y363 : List DV) (y364 x310 x311 x312 x313 x314 x315 x316 x317 x318 x319 x320 x321 x322 x323 x324 x325 x326 x327 x328 x329 x330 x331 x332 x333 : Int) (y365 : Nat)
  | c2 (x334 x335 y398 x336 x337 x338 x339 x340 x341 x342 x343 x344 x345 x346 x347 x348 x349 x350 x351 x352 x353 x354 x355 x356 x357 x358 x359 : Int)
  | c3 (x366 x367 : Int) (y368 y369 : Nat) (y370 : List DV) (y371 x372 x373 x374 x375 x376 x377 x378 x379 x380 x381 x382 x383 x384 x385 x386 x387 x388 x389 x390 x391 x392 x393 x394 x395 : Int) (x396 : Nat)
  | c4 (x399 x400 y401 x402 x403 x404 x405 x406 x407 x408 x409 x410 x411 x412 x413 x414 x415 x416 x417 x418 x419 x420 x421 x422 x423 x424 x425 : Int)
def out59 (v : Nat × List DV) : AV := (.d (.sl v.fst v.snd))
noncomputable def st59 : S59 → ASt
  | .c0 a281 a282 a283 a284 a285 a286 a287 a288 a289 a290 a291 a292 a293 a294 a295 a296 a297 a298 a299 a300 a301 a302 a303 a304 a305 a306 => ent cfz 59 [(.agg [(aI a281), (aI a282), (aI a283), (aI a284), (aI a285), (aI a286), (aI a287), (aI a288), (aI a289), (aI a290), (aI a291), (aI a292)]), (.agg [(aI a293), (aI a294), (aI a295), (aI a296), (aI a297), (aI a298), (aI a299), (aI a300), (aI a301), (aI a302), (aI a303), (aI a304)]), (aI a305), (aI a306)]
  | .c1 x308 x309 y361 y362 y363 y364 x310 x311 x312 x313 x314 x315 x316 x317 x318 x319 x320 x321 x322 x323 x324 x325 x326 x327 x328 x329 x330 x331 x332 x333 y365 => ⟨⟨59, sp 31 0 [(2, (aI x308)), (3, (aI x309)), (4, (.ptr 0 0)), (5, (.ptr 1 0)), (9, (.own 3 y361 1 y362 y363)), (10, (aI y364))], [(.inBlock 1), (.code (cd cfz.P 59 [1, 1, 0, 1, 0, 0, 1, 1])), (.inLoop (cd cfz.P 59 [1, 1, 0, 1, 0, 0])), (.inBlock 0), (.code (cd cfz.P 59 [1, 1, 1]))], [], false, .none⟩, [], [(.cells [(aI x310), (aI x311), (aI x312), (aI x313), (aI x314), (aI x315), (aI x316), (aI x317), (aI x318), (aI x319), (aI x320), (aI x321)] 25), (.cells [(aI x322), (aI x323), (aI x324), (aI x325), (aI x326), (aI x327), (aI x328), (aI x329), (aI x330), (aI x331), (aI x332), (aI x333)] 25), (.tail 0), (.tail y365)]⟩
  | .c2 x334 x335 y398 x336 x337 x338 x339 x340 x341 x342 x343 x344 x345 x346 x347 x348 x349 x350 x351 x352 x353 x354 x355 x356 x357 x358 x359 => ⟨⟨59, sp 31 0 [(2, (aI x334)), (3, (aI x335)), (4, (.ptr 0 0)), (5, (.ptr 1 0)), (9, (.d (.v (.slice .none 0 0)))), (10, (aI y398))], [(.inBlock 1), (.code (cd cfz.P 59 [1, 1, 0, 1, 0, 0, 1, 1])), (.inLoop (cd cfz.P 59 [1, 1, 0, 1, 0, 0])), (.inBlock 0), (.code (cd cfz.P 59 [1, 1, 1]))], [], false, .none⟩, [], [(.cells [(aI x336), (aI x337), (aI x338), (aI x339), (aI x340), (aI x341), (aI x342), (aI x343), (aI x344), (aI x345), (aI x346), (aI x347)] 25), (.cells [(aI x348), (aI x349), (aI x350), (aI x351), (aI x352), (aI x353), (aI x354), (aI x355), (aI x356), (aI x357), (aI x358), (aI x359)] 25)]⟩
  | .c3 x366 x367 y368 y369 y370 y371 x372 x373 x374 x375 x376 x377 x378 x379 x380 x381 x382 x383 x384 x385 x386 x387 x388 x389 x390 x391 x392 x393 x394 x395 x396 => ⟨⟨59, sp 31 0 [(2, (aI x366)), (3, (aI x367)), (4, (.ptr 0 0)), (5, (.ptr 1 0)), (9, (.own 3 y368 1 y369 y370)), (10, (aI y371))], [(.code (cd cfz.P 59 [1, 1, 0, 1, 0, 0])), (.inLoop (cd cfz.P 59 [1, 1, 0, 1, 0, 0])), (.inBlock 0), (.code (cd cfz.P 59 [1, 1, 1]))], [], false, .none⟩, [], [(.cells [(aI x372), (aI x373), (aI x374), (aI x375), (aI x376), (aI x377), (aI x378), (aI x379), (aI x380), (aI x381), (aI x382), (aI x383)] 25), (.cells [(aI x384), (aI x385), (aI x386), (aI x387), (aI x388), (aI x389), (aI x390), (aI x391), (aI x392), (aI x393), (aI x394), (aI x395)] 25), (.tail 0), (.tail x396)]⟩
  | .c4 x399 x400 y401 x402 x403 x404 x405 x406 x407 x408 x409 x410 x411 x412 x413 x414 x415 x416 x417 x418 x419 x420 x421 x422 x423 x424 x425 => ⟨⟨59, sp 31 0 [(2, (aI x399)), (3, (aI x400)), (4, (.ptr 0 0)), (5, (.ptr 1 0)), (9, (.d (.v (.slice .none 0 0)))), (10, (aI y401))], [(.code (cd cfz.P 59 [1, 1, 0, 1, 0, 0])), (.inLoop (cd cfz.P 59 [1, 1, 0, 1, 0, 0])), (.inBlock 0), (.code (cd cfz.P 59 [1, 1, 1]))], [], false, .none⟩, [], [(.cells [(aI x402), (aI x403), (aI x404), (aI x405), (aI x406), (aI x407), (aI x408), (aI x409), (aI x410), (aI x411), (aI x412), (aI x413)] 25), (.cells [(aI x414), (aI x415), (aI x416), (aI x417), (aI x418), (aI x419), (aI x420), (aI x421), (aI x422), (aI x423), (aI x424), (aI x425)] 25)]⟩
noncomputable def B59 : S59 → Tr S59 (Nat × List DV)
  | .c0 a281 a282 a283 a284 a285 a286 a287 a288 a289 a290 a291 a292 a293 a294 a295 a296 a297 a298 a299 a300 a301 a302 a303 a304 a305 a306 => (.bind (F58 a281 a282 a293 a294) fun v307 =>
  (.sees [(.agg [(aI a281), (aI a282)]), (.agg [(aI a293), (aI a294)])] (.ask (.in64 (a305 * a306)) (.br (decide (v307 > a305 * a306))
  (.nxt (.c1 a305 a306 0 1 [(.v (.int .i64 0))] 0 a281 a282 a283 a284 a285 a286 a287 a288 a289 a290 a291 a292 a293 a294 a295 a296 a297 a298 a299 a300 a301 a302 a303 a304 0))
  (.nxt (.c2 a305 a306 0 a281 a282 a283 a284 a285 a286 a287 a288 a289 a290 a291 a292 a293 a294 a295 a296 a297 a298 a299 a300 a301 a302 a303 a304))))))
  | .c1 x308 x309 y361 y362 y363 y364 x310 x311 x312 x313 x314 x315 x316 x317 x318 x319 x320 x321 x322 x323 x324 x325 x326 x327 x328 x329 x330 x331 x332 x333 y365 => (.ask (.in64 (y364 + 1)) (.nxt (.c3 x308 x309 y361 y362 y363 (y364 + 1) x310 x311 x312 x313 x314 x315 x316 x317 x318 x319 x320 x321 x322 x323 x324 x325 x326 x327 x328 x329 x330 x331 x332 x333 y365)))
  | .c2 x334 x335 y398 x336 x337 x338 x339 x340 x341 x342 x343 x344 x345 x346 x347 x348 x349 x350 x351 x352 x353 x354 x355 x356 x357 x358 x359 => (.ask (.in64 (y398 + 1)) (.nxt (.c4 x334 x335 (y398 + 1) x336 x337 x338 x339 x340 x341 x342 x343 x344 x345 x346 x347 x348 x349 x350 x351 x352 x353 x354 x355 x356 x357 x358 x359)))
  | .c3 x366 x367 y368 y369 y370 y371 x372 x373 x374 x375 x376 x377 x378 x379 x380 x381 x382 x383 x384 x385 x386 x387 x388 x389 x390 x391 x392 x393 x394 x395 x396 => (.br (decide (y371 < 6))
  (.bind (F58 (dI (celA [AV.d (DV.v (Value.int IntKind.i64 x372)), AV.d (DV.v (Value.int IntKind.i64 x373)), AV.d (DV.v (Value.int IntKind.i64 x374)), AV.d (DV.v (Value.int IntKind.i64 x375)), AV.d (DV.v (Value.int IntKind.i64 x376)), AV.d (DV.v (Value.int IntKind.i64 x377)), AV.d (DV.v (Value.int IntKind.i64 x378)), AV.d (DV.v (Value.int IntKind.i64 x379)), AV.d (DV.v (Value.int IntKind.i64 x380)), AV.d (DV.v (Value.int IntKind.i64 x381)), AV.d (DV.v (Value.int IntKind.i64 x382)), AV.d (DV.v (Value.int IntKind.i64 x383))] (0 + y371.toNat * 2))) (dI (celA [AV.d (DV.v (Value.int IntKind.i64 x372)), AV.d (DV.v (Value.int IntKind.i64 x373)), AV.d (DV.v (Value.int IntKind.i64 x374)), AV.d (DV.v (Value.int IntKind.i64 x375)), AV.d (DV.v (Value.int IntKind.i64 x376)), AV.d (DV.v (Value.int IntKind.i64 x377)), AV.d (DV.v (Value.int IntKind.i64 x378)), AV.d (DV.v (Value.int IntKind.i64 x379)), AV.d (DV.v (Value.int IntKind.i64 x380)), AV.d (DV.v (Value.int IntKind.i64 x381)), AV.d (DV.v (Value.int IntKind.i64 x382)), AV.d (DV.v (Value.int IntKind.i64 x383))] (0 + y371.toNat * 2 + 1))) (dI (celA [AV.d (DV.v (Value.int IntKind.i64 x384)), AV.d (DV.v (Value.int IntKind.i64 x385)), AV.d (DV.v (Value.int IntKind.i64 x386)), AV.d (DV.v (Value.int IntKind.i64 x387)), AV.d (DV.v (Value.int IntKind.i64 x388)), AV.d (DV.v (Value.int IntKind.i64 x389)), AV.d (DV.v (Value.int IntKind.i64 x390)), AV.d (DV.v (Value.int IntKind.i64 x391)), AV.d (DV.v (Value.int IntKind.i64 x392)), AV.d (DV.v (Value.int IntKind.i64 x393)), AV.d (DV.v (Value.int IntKind.i64 x394)), AV.d (DV.v (Value.int IntKind.i64 x395))] (0 + y371.toNat * 2))) (dI (celA [AV.d (DV.v (Value.int IntKind.i64 x384)), AV.d (DV.v (Value.int IntKind.i64 x385)), AV.d (DV.v (Value.int IntKind.i64 x386)), AV.d (DV.v (Value.int IntKind.i64 x387)), AV.d (DV.v (Value.int IntKind.i64 x388)), AV.d (DV.v (Value.int IntKind.i64 x389)), AV.d (DV.v (Value.int IntKind.i64 x390)), AV.d (DV.v (Value.int IntKind.i64 x391)), AV.d (DV.v (Value.int IntKind.i64 x392)), AV.d (DV.v (Value.int IntKind.i64 x393)), AV.d (DV.v (Value.int IntKind.i64 x394)), AV.d (DV.v (Value.int IntKind.i64 x395))] (0 + y371.toNat * 2 + 1)))) fun v426 =>
  (.ask (.le 0 y371) (.ask (.lt y371 6) (.ask (.leN (0 + y371.toNat * 2 + 2) 12) (.ask (.prop (List.take 2 (List.drop (0 + y371.toNat * 2) [AV.d (DV.v (Value.int IntKind.i64 x372)), AV.d (DV.v (Value.int IntKind.i64 x373)), AV.d (DV.v (Value.int IntKind.i64 x374)), AV.d (DV.v (Value.int IntKind.i64 x375)), AV.d (DV.v (Value.int IntKind.i64 x376)), AV.d (DV.v (Value.int IntKind.i64 x377)), AV.d (DV.v (Value.int IntKind.i64 x378)), AV.d (DV.v (Value.int IntKind.i64 x379)), AV.d (DV.v (Value.int IntKind.i64 x380)), AV.d (DV.v (Value.int IntKind.i64 x381)), AV.d (DV.v (Value.int IntKind.i64 x382)), AV.d (DV.v (Value.int IntKind.i64 x383))]) = [AV.d (DV.v (Value.int IntKind.i64 (dI (celA [AV.d (DV.v (Value.int IntKind.i64 x372)), AV.d (DV.v (Value.int IntKind.i64 x373)), AV.d (DV.v (Value.int IntKind.i64 x374)), AV.d (DV.v (Value.int IntKind.i64 x375)), AV.d (DV.v (Value.int IntKind.i64 x376)), AV.d (DV.v (Value.int IntKind.i64 x377)), AV.d (DV.v (Value.int IntKind.i64 x378)), AV.d (DV.v (Value.int IntKind.i64 x379)), AV.d (DV.v (Value.int IntKind.i64 x380)), AV.d (DV.v (Value.int IntKind.i64 x381)), AV.d (DV.v (Value.int IntKind.i64 x382)), AV.d (DV.v (Value.int IntKind.i64 x383))] (0 + y371.toNat * 2))))), AV.d (DV.v (Value.int IntKind.i64 (dI (celA [AV.d (DV.v (Value.int IntKind.i64 x372)), AV.d (DV.v (Value.int IntKind.i64 x373)), AV.d (DV.v (Value.int IntKind.i64 x374)), AV.d (DV.v (Value.int IntKind.i64 x375)), AV.d (DV.v (Value.int IntKind.i64 x376)), AV.d (DV.v (Value.int IntKind.i64 x377)), AV.d (DV.v (Value.int IntKind.i64 x378)), AV.d (DV.v (Value.int IntKind.i64 x379)), AV.d (DV.v (Value.int IntKind.i64 x380)), AV.d (DV.v (Value.int IntKind.i64 x381)), AV.d (DV.v (Value.int IntKind.i64 x382)), AV.d (DV.v (Value.int IntKind.i64 x383))] (0 + y371.toNat * 2 + 1)))))])) (.ask (.le 0 y371) (.ask (.lt y371 6) (.ask (.leN (0 + y371.toNat * 2 + 2) 12) (.ask (.prop (List.take 2 (List.drop (0 + y371.toNat * 2) [AV.d (DV.v (Value.int IntKind.i64 x384)), AV.d (DV.v (Value.int IntKind.i64 x385)), AV.d (DV.v (Value.int IntKind.i64 x386)), AV.d (DV.v (Value.int IntKind.i64 x387)), AV.d (DV.v (Value.int IntKind.i64 x388)), AV.d (DV.v (Value.int IntKind.i64 x389)), AV.d (DV.v (Value.int IntKind.i64 x390)), AV.d (DV.v (Value.int IntKind.i64 x391)), AV.d (DV.v (Value.int IntKind.i64 x392)), AV.d (DV.v (Value.int IntKind.i64 x393)), AV.d (DV.v (Value.int IntKind.i64 x394)), AV.d (DV.v (Value.int IntKind.i64 x395))]) = [AV.d (DV.v (Value.int IntKind.i64 (dI (celA [AV.d (DV.v (Value.int IntKind.i64 x384)), AV.d (DV.v (Value.int IntKind.i64 x385)), AV.d (DV.v (Value.int IntKind.i64 x386)), AV.d (DV.v (Value.int IntKind.i64 x387)), AV.d (DV.v (Value.int IntKind.i64 x388)), AV.d (DV.v (Value.int IntKind.i64 x389)), AV.d (DV.v (Value.int IntKind.i64 x390)), AV.d (DV.v (Value.int IntKind.i64 x391)), AV.d (DV.v (Value.int IntKind.i64 x392)), AV.d (DV.v (Value.int IntKind.i64 x393)), AV.d (DV.v (Value.int IntKind.i64 x394)), AV.d (DV.v (Value.int IntKind.i64 x395))] (0 + y371.toNat * 2))))), AV.d (DV.v (Value.int IntKind.i64 (dI (celA [AV.d (DV.v (Value.int IntKind.i64 x384)), AV.d (DV.v (Value.int IntKind.i64 x385)), AV.d (DV.v (Value.int IntKind.i64 x386)), AV.d (DV.v (Value.int IntKind.i64 x387)), AV.d (DV.v (Value.int IntKind.i64 x388)), AV.d (DV.v (Value.int IntKind.i64 x389)), AV.d (DV.v (Value.int IntKind.i64 x390)), AV.d (DV.v (Value.int IntKind.i64 x391)), AV.d (DV.v (Value.int IntKind.i64 x392)), AV.d (DV.v (Value.int IntKind.i64 x393)), AV.d (DV.v (Value.int IntKind.i64 x394)), AV.d (DV.v (Value.int IntKind.i64 x395))] (0 + y371.toNat * 2 + 1)))))])) (.sees [(.agg [(aI (dI (celA [aI x372, aI x373, aI x374, aI x375, aI x376, aI x377, aI x378, aI x379, aI x380, aI x381, aI x382, aI x383] (0 + y371.toNat * 2)))), (aI (dI (celA [aI x372, aI x373, aI x374, aI x375, aI x376, aI x377, aI x378, aI x379, aI x380, aI x381, aI x382, aI x383] (0 + y371.toNat * 2 + 1))))]), (.agg [(aI (dI (celA [aI x384, aI x385, aI x386, aI x387, aI x388, aI x389, aI x390, aI x391, aI x392, aI x393, aI x394, aI x395] (0 + y371.toNat * 2)))), (aI (dI (celA [aI x384, aI x385, aI x386, aI x387, aI x388, aI x389, aI x390, aI x391, aI x392, aI x393, aI x394, aI x395] (0 + y371.toNat * 2 + 1))))])] (.ask (.in64 (x366 * x367)) (.br (decide (v426 > x366 * x367))
  (.ask (.eqN y368 x396) (.ask (.fits (y369 + 1) 8) (.nxt (.c1 x366 x367 (x396 + 1) (y369 + 1) (y370 ++ [DV.v (Value.int IntKind.i64 y371)]) y371 x372 x373 x374 x375 x376 x377 x378 x379 x380 x381 x382 x383 x384 x385 x386 x387 x388 x389 x390 x391 x392 x393 x394 x395 (x396 + 1)))))
  (.nxt (.c1 x366 x367 y368 y369 y370 y371 x372 x373 x374 x375 x376 x377 x378 x379 x380 x381 x382 x383 x384 x385 x386 x387 x388 x389 x390 x391 x392 x393 x394 x395 x396))))))))))))))
  (.ret (y369, y370)))
  | .c4 x399 x400 y401 x402 x403 x404 x405 x406 x407 x408 x409 x410 x411 x412 x413 x414 x415 x416 x417 x418 x419 x420 x421 x422 x423 x424 x425 => (.br (decide (y401 < 6))
  (.bind (F58 (dI (celA [AV.d (DV.v (Value.int IntKind.i64 x402)), AV.d (DV.v (Value.int IntKind.i64 x403)), AV.d (DV.v (Value.int IntKind.i64 x404)), AV.d (DV.v (Value.int IntKind.i64 x405)), AV.d (DV.v (Value.int IntKind.i64 x406)), AV.d (DV.v (Value.int IntKind.i64 x407)), AV.d (DV.v (Value.int IntKind.i64 x408)), AV.d (DV.v (Value.int IntKind.i64 x409)), AV.d (DV.v (Value.int IntKind.i64 x410)), AV.d (DV.v (Value.int IntKind.i64 x411)), AV.d (DV.v (Value.int IntKind.i64 x412)), AV.d (DV.v (Value.int IntKind.i64 x413))] (0 + y401.toNat * 2))) (dI (celA [AV.d (DV.v (Value.int IntKind.i64 x402)), AV.d (DV.v (Value.int IntKind.i64 x403)), AV.d (DV.v (Value.int IntKind.i64 x404)), AV.d (DV.v (Value.int IntKind.i64 x405)), AV.d (DV.v (Value.int IntKind.i64 x406)), AV.d (DV.v (Value.int IntKind.i64 x407)), AV.d (DV.v (Value.int IntKind.i64 x408)), AV.d (DV.v (Value.int IntKind.i64 x409)), AV.d (DV.v (Value.int IntKind.i64 x410)), AV.d (DV.v (Value.int IntKind.i64 x411)), AV.d (DV.v (Value.int IntKind.i64 x412)), AV.d (DV.v (Value.int IntKind.i64 x413))] (0 + y401.toNat * 2 + 1))) (dI (celA [AV.d (DV.v (Value.int IntKind.i64 x414)), AV.d (DV.v (Value.int IntKind.i64 x415)), AV.d (DV.v (Value.int IntKind.i64 x416)), AV.d (DV.v (Value.int IntKind.i64 x417)), AV.d (DV.v (Value.int IntKind.i64 x418)), AV.d (DV.v (Value.int IntKind.i64 x419)), AV.d (DV.v (Value.int IntKind.i64 x420)), AV.d (DV.v (Value.int IntKind.i64 x421)), AV.d (DV.v (Value.int IntKind.i64 x422)), AV.d (DV.v (Value.int IntKind.i64 x423)), AV.d (DV.v (Value.int IntKind.i64 x424)), AV.d (DV.v (Value.int IntKind.i64 x425))] (0 + y401.toNat * 2))) (dI (celA [AV.d (DV.v (Value.int IntKind.i64 x414)), AV.d (DV.v (Value.int IntKind.i64 x415)), AV.d (DV.v (Value.int IntKind.i64 x416)), AV.d (DV.v (Value.int IntKind.i64 x417)), AV.d (DV.v (Value.int IntKind.i64 x418)), AV.d (DV.v (Value.int IntKind.i64 x419)), AV.d (DV.v (Value.int IntKind.i64 x420)), AV.d (DV.v (Value.int IntKind.i64 x421)), AV.d (DV.v (Value.int IntKind.i64 x422)), AV.d (DV.v (Value.int IntKind.i64 x423)), AV.d (DV.v (Value.int IntKind.i64 x424)), AV.d (DV.v (Value.int IntKind.i64 x425))] (0 + y401.toNat * 2 + 1)))) fun v427 =>
  (.ask (.le 0 y401) (.ask (.lt y401 6) (.ask (.leN (0 + y401.toNat * 2 + 2) 12) (.ask (.prop (List.take 2 (List.drop (0 + y401.toNat * 2) [AV.d (DV.v (Value.int IntKind.i64 x402)), AV.d (DV.v (Value.int IntKind.i64 x403)), AV.d (DV.v (Value.int IntKind.i64 x404)), AV.d (DV.v (Value.int IntKind.i64 x405)), AV.d (DV.v (Value.int IntKind.i64 x406)), AV.d (DV.v (Value.int IntKind.i64 x407)), AV.d (DV.v (Value.int IntKind.i64 x408)), AV.d (DV.v (Value.int IntKind.i64 x409)), AV.d (DV.v (Value.int IntKind.i64 x410)), AV.d (DV.v (Value.int IntKind.i64 x411)), AV.d (DV.v (Value.int IntKind.i64 x412)), AV.d (DV.v (Value.int IntKind.i64 x413))]) = [AV.d (DV.v (Value.int IntKind.i64 (dI (celA [AV.d (DV.v (Value.int IntKind.i64 x402)), AV.d (DV.v (Value.int IntKind.i64 x403)), AV.d (DV.v (Value.int IntKind.i64 x404)), AV.d (DV.v (Value.int IntKind.i64 x405)), AV.d (DV.v (Value.int IntKind.i64 x406)), AV.d (DV.v (Value.int IntKind.i64 x407)), AV.d (DV.v (Value.int IntKind.i64 x408)), AV.d (DV.v (Value.int IntKind.i64 x409)), AV.d (DV.v (Value.int IntKind.i64 x410)), AV.d (DV.v (Value.int IntKind.i64 x411)), AV.d (DV.v (Value.int IntKind.i64 x412)), AV.d (DV.v (Value.int IntKind.i64 x413))] (0 + y401.toNat * 2))))), AV.d (DV.v (Value.int IntKind.i64 (dI (celA [AV.d (DV.v (Value.int IntKind.i64 x402)), AV.d (DV.v (Value.int IntKind.i64 x403)), AV.d (DV.v (Value.int IntKind.i64 x404)), AV.d (DV.v (Value.int IntKind.i64 x405)), AV.d (DV.v (Value.int IntKind.i64 x406)), AV.d (DV.v (Value.int IntKind.i64 x407)), AV.d (DV.v (Value.int IntKind.i64 x408)), AV.d (DV.v (Value.int IntKind.i64 x409)), AV.d (DV.v (Value.int IntKind.i64 x410)), AV.d (DV.v (Value.int IntKind.i64 x411)), AV.d (DV.v (Value.int IntKind.i64 x412)), AV.d (DV.v (Value.int IntKind.i64 x413))] (0 + y401.toNat * 2 + 1)))))])) (.ask (.le 0 y401) (.ask (.lt y401 6) (.ask (.leN (0 + y401.toNat * 2 + 2) 12) (.ask (.prop (List.take 2 (List.drop (0 + y401.toNat * 2) [AV.d (DV.v (Value.int IntKind.i64 x414)), AV.d (DV.v (Value.int IntKind.i64 x415)), AV.d (DV.v (Value.int IntKind.i64 x416)), AV.d (DV.v (Value.int IntKind.i64 x417)), AV.d (DV.v (Value.int IntKind.i64 x418)), AV.d (DV.v (Value.int IntKind.i64 x419)), AV.d (DV.v (Value.int IntKind.i64 x420)), AV.d (DV.v (Value.int IntKind.i64 x421)), AV.d (DV.v (Value.int IntKind.i64 x422)), AV.d (DV.v (Value.int IntKind.i64 x423)), AV.d (DV.v (Value.int IntKind.i64 x424)), AV.d (DV.v (Value.int IntKind.i64 x425))]) = [AV.d (DV.v (Value.int IntKind.i64 (dI (celA [AV.d (DV.v (Value.int IntKind.i64 x414)), AV.d (DV.v (Value.int IntKind.i64 x415)), AV.d (DV.v (Value.int IntKind.i64 x416)), AV.d (DV.v (Value.int IntKind.i64 x417)), AV.d (DV.v (Value.int IntKind.i64 x418)), AV.d (DV.v (Value.int IntKind.i64 x419)), AV.d (DV.v (Value.int IntKind.i64 x420)), AV.d (DV.v (Value.int IntKind.i64 x421)), AV.d (DV.v (Value.int IntKind.i64 x422)), AV.d (DV.v (Value.int IntKind.i64 x423)), AV.d (DV.v (Value.int IntKind.i64 x424)), AV.d (DV.v (Value.int IntKind.i64 x425))] (0 + y401.toNat * 2))))), AV.d (DV.v (Value.int IntKind.i64 (dI (celA [AV.d (DV.v (Value.int IntKind.i64 x414)), AV.d (DV.v (Value.int IntKind.i64 x415)), AV.d (DV.v (Value.int IntKind.i64 x416)), AV.d (DV.v (Value.int IntKind.i64 x417)), AV.d (DV.v (Value.int IntKind.i64 x418)), AV.d (DV.v (Value.int IntKind.i64 x419)), AV.d (DV.v (Value.int IntKind.i64 x420)), AV.d (DV.v (Value.int IntKind.i64 x421)), AV.d (DV.v (Value.int IntKind.i64 x422)), AV.d (DV.v (Value.int IntKind.i64 x423)), AV.d (DV.v (Value.int IntKind.i64 x424)), AV.d (DV.v (Value.int IntKind.i64 x425))] (0 + y401.toNat * 2 + 1)))))])) (.sees [(.agg [(aI (dI (celA [aI x402, aI x403, aI x404, aI x405, aI x406, aI x407, aI x408, aI x409, aI x410, aI x411, aI x412, aI x413] (0 + y401.toNat * 2)))), (aI (dI (celA [aI x402, aI x403, aI x404, aI x405, aI x406, aI x407, aI x408, aI x409, aI x410, aI x411, aI x412, aI x413] (0 + y401.toNat * 2 + 1))))]), (.agg [(aI (dI (celA [aI x414, aI x415, aI x416, aI x417, aI x418, aI x419, aI x420, aI x421, aI x422, aI x423, aI x424, aI x425] (0 + y401.toNat * 2)))), (aI (dI (celA [aI x414, aI x415, aI x416, aI x417, aI x418, aI x419, aI x420, aI x421, aI x422, aI x423, aI x424, aI x425] (0 + y401.toNat * 2 + 1))))])] (.ask (.in64 (x399 * x400)) (.br (decide (v427 > x399 * x400))
  (.nxt (.c1 x399 x400 0 1 [(.v (.int .i64 y401))] y401 x402 x403 x404 x405 x406 x407 x408 x409 x410 x411 x412 x413 x414 x415 x416 x417 x418 x419 x420 x421 x422 x423 x424 x425 0))
  (.nxt (.c2 x399 x400 y401 x402 x403 x404 x405 x406 x407 x408 x409 x410 x411 x412 x413 x414 x415 x416 x417 x418 x419 x420 x421 x422 x423 x424 x425))))))))))))))
  (.ret (0, [])))
noncomputable def F59 (a281 a282 a283 a284 a285 a286 a287 a288 a289 a290 a291 a292 a293 a294 a295 a296 a297 a298 a299 a300 a301 a302 a303 a304 a305 a306 : Int) : Option (Nat × List DV) := res B59 (.c0 a281 a282 a283 a284 a285 a286 a287 a288 a289 a290 a291 a292 a293 a294 a295 a296 a297 a298 a299 a300 a301 a302 a303 a304 a305 a306)
noncomputable def D59_0 (a281 a282 a283 a284 a285 a286 a287 a288 a289 a290 a291 a292 a293 a294 a295 a296 a297 a298 a299 a300 a301 a302 a303 a304 a305 a306 : Int) : DT cfz := (.go 29 [(.br true)] [0] (.bind (f58 a281 a282 a293 a294) fun v307 => (.go 1 [(.ck 0)] [0, 1, 2, 3] (.split 25 (.go 8 [(.br true)] [0, 1, 2, 3] (.cut 4 [[2, 3, 4, 5, 9, 10]] [])) (.go 2 [(.br false)] [0] (.cut 2 [[2, 3, 4, 5, 9, 10]] []))))))
theorem k59_0 (a281 a282 a283 a284 a285 a286 a287 a288 a289 a290 a291 a292 a293 a294 a295 a296 a297 a298 a299 a300 a301 a302 a303 a304 a305 a306 : Int) : xrun cfz 59 (D59_0 a281 a282 a283 a284 a285 a286 a287 a288 a289 a290 a291 a292 a293 a294 a295 a296 a297 a298 a299 a300 a301 a302 a303 a304 a305 a306) [] (st59 (.c0 a281 a282 a283 a284 a285 a286 a287 a288 a289 a290 a291 a292 a293 a294 a295 a296 a297 a298 a299 a300 a301 a302 a303 a304 a305 a306)) = (B59 (.c0 a281 a282 a283 a284 a285 a286 a287 a288 a289 a290 a291 a292 a293 a294 a295 a296 a297 a298 a299 a300 a301 a302 a303 a304 a305 a306)).mach st59 out59 := by kernel_rfl
noncomputable def D59_1 (x308 x309 : Int) (y361 y362 : Nat) (y363 : List DV) (y364 x310 x311 x312 x313 x314 x315 x316 x317 x318 x319 x320 x321 x322 x323 x324 x325 x326 x327 x328 x329 x330 x331 x332 x333 : Int) (y365 : Nat) : DT cfz := (.go 7 [] [] (.cut 4 [[2, 3, 4, 5, 9, 10]] []))
theorem k59_1 (x308 x309 : Int) (y361 y362 : Nat) (y363 : List DV) (y364 x310 x311 x312 x313 x314 x315 x316 x317 x318 x319 x320 x321 x322 x323 x324 x325 x326 x327 x328 x329 x330 x331 x332 x333 : Int) (y365 : Nat) : xrun cfz 59 (D59_1 x308 x309 y361 y362 y363 y364 x310 x311 x312 x313 x314 x315 x316 x317 x318 x319 x320 x321 x322 x323 x324 x325 x326 x327 x328 x329 x330 x331 x332 x333 y365) [] (st59 (.c1 x308 x309 y361 y362 y363 y364 x310 x311 x312 x313 x314 x315 x316 x317 x318 x319 x320 x321 x322 x323 x324 x325 x326 x327 x328 x329 x330 x331 x332 x333 y365)) = (B59 (.c1 x308 x309 y361 y362 y363 y364 x310 x311 x312 x313 x314 x315 x316 x317 x318 x319 x320 x321 x322 x323 x324 x325 x326 x327 x328 x329 x330 x331 x332 x333 y365)).mach st59 out59 := by kernel_rfl
noncomputable def D59_2 (x334 x335 y398 x336 x337 x338 x339 x340 x341 x342 x343 x344 x345 x346 x347 x348 x349 x350 x351 x352 x353 x354 x355 x356 x357 x358 x359 : Int) : DT cfz := (.go 7 [] [] (.cut 2 [[2, 3, 4, 5, 9, 10]] []))
theorem k59_2 (x334 x335 y398 x336 x337 x338 x339 x340 x341 x342 x343 x344 x345 x346 x347 x348 x349 x350 x351 x352 x353 x354 x355 x356 x357 x358 x359 : Int) : xrun cfz 59 (D59_2 x334 x335 y398 x336 x337 x338 x339 x340 x341 x342 x343 x344 x345 x346 x347 x348 x349 x350 x351 x352 x353 x354 x355 x356 x357 x358 x359) [] (st59 (.c2 x334 x335 y398 x336 x337 x338 x339 x340 x341 x342 x343 x344 x345 x346 x347 x348 x349 x350 x351 x352 x353 x354 x355 x356 x357 x358 x359)) = (B59 (.c2 x334 x335 y398 x336 x337 x338 x339 x340 x341 x342 x343 x344 x345 x346 x347 x348 x349 x350 x351 x352 x353 x354 x355 x356 x357 x358 x359)).mach st59 out59 := by kernel_rfl
noncomputable def D59_3 (x366 x367 : Int) (y368 y369 : Nat) (y370 : List DV) (y371 x372 x373 x374 x375 x376 x377 x378 x379 x380 x381 x382 x383 x384 x385 x386 x387 x388 x389 x390 x391 x392 x393 x394 x395 : Int) (x396 : Nat) : DT cfz := (.go 6 [] [] (.split 12 (.go 6 [(.br true)] [0] (.bind (f58 (dI (celA [aI x372, aI x373, aI x374, aI x375, aI x376, aI x377, aI x378, aI x379, aI x380, aI x381, aI x382, aI x383] (0 + y371.toNat * 2))) (dI (celA [aI x372, aI x373, aI x374, aI x375, aI x376, aI x377, aI x378, aI x379, aI x380, aI x381, aI x382, aI x383] (0 + y371.toNat * 2 + 1))) (dI (celA [aI x384, aI x385, aI x386, aI x387, aI x388, aI x389, aI x390, aI x391, aI x392, aI x393, aI x394, aI x395] (0 + y371.toNat * 2))) (dI (celA [aI x384, aI x385, aI x386, aI x387, aI x388, aI x389, aI x390, aI x391, aI x392, aI x393, aI x394, aI x395] (0 + y371.toNat * 2 + 1)))) fun v426 => (.go 1 [(.as (.agg [(aI (dI (celA [aI x372, aI x373, aI x374, aI x375, aI x376, aI x377, aI x378, aI x379, aI x380, aI x381, aI x382, aI x383] (0 + y371.toNat * 2)))), (aI (dI (celA [aI x372, aI x373, aI x374, aI x375, aI x376, aI x377, aI x378, aI x379, aI x380, aI x381, aI x382, aI x383] (0 + y371.toNat * 2 + 1))))])), (.as (.agg [(aI (dI (celA [aI x384, aI x385, aI x386, aI x387, aI x388, aI x389, aI x390, aI x391, aI x392, aI x393, aI x394, aI x395] (0 + y371.toNat * 2)))), (aI (dI (celA [aI x384, aI x385, aI x386, aI x387, aI x388, aI x389, aI x390, aI x391, aI x392, aI x393, aI x394, aI x395] (0 + y371.toNat * 2 + 1))))])), (.ck 0)] [] (.split 25 (.go 8 [(.br true)] [0, 2, 3] (.cut 4 [[2, 3, 4, 5, 9, 10]] [])) (.go 2 [(.br false)] [0] (.cut 4 [[2, 3, 4, 5, 9, 10]] [])))))) (.go 8 [(.br false)] [0] .fin)))
theorem k59_3 (x366 x367 : Int) (y368 y369 : Nat) (y370 : List DV) (y371 x372 x373 x374 x375 x376 x377 x378 x379 x380 x381 x382 x383 x384 x385 x386 x387 x388 x389 x390 x391 x392 x393 x394 x395 : Int) (x396 : Nat) : xrun cfz 59 (D59_3 x366 x367 y368 y369 y370 y371 x372 x373 x374 x375 x376 x377 x378 x379 x380 x381 x382 x383 x384 x385 x386 x387 x388 x389 x390 x391 x392 x393 x394 x395 x396) [] (st59 (.c3 x366 x367 y368 y369 y370 y371 x372 x373 x374 x375 x376 x377 x378 x379 x380 x381 x382 x383 x384 x385 x386 x387 x388 x389 x390 x391 x392 x393 x394 x395 x396)) = (B59 (.c3 x366 x367 y368 y369 y370 y371 x372 x373 x374 x375 x376 x377 x378 x379 x380 x381 x382 x383 x384 x385 x386 x387 x388 x389 x390 x391 x392 x393 x394 x395 x396)).mach st59 out59 := by kernel_rfl
noncomputable def D59_4 (x399 x400 y401 x402 x403 x404 x405 x406 x407 x408 x409 x410 x411 x412 x413 x414 x415 x416 x417 x418 x419 x420 x421 x422 x423 x424 x425 : Int) : DT cfz := (.go 6 [] [] (.split 12 (.go 6 [(.br true)] [0] (.bind (f58 (dI (celA [aI x402, aI x403, aI x404, aI x405, aI x406, aI x407, aI x408, aI x409, aI x410, aI x411, aI x412, aI x413] (0 + y401.toNat * 2))) (dI (celA [aI x402, aI x403, aI x404, aI x405, aI x406, aI x407, aI x408, aI x409, aI x410, aI x411, aI x412, aI x413] (0 + y401.toNat * 2 + 1))) (dI (celA [aI x414, aI x415, aI x416, aI x417, aI x418, aI x419, aI x420, aI x421, aI x422, aI x423, aI x424, aI x425] (0 + y401.toNat * 2))) (dI (celA [aI x414, aI x415, aI x416, aI x417, aI x418, aI x419, aI x420, aI x421, aI x422, aI x423, aI x424, aI x425] (0 + y401.toNat * 2 + 1)))) fun v427 => (.go 1 [(.as (.agg [(aI (dI (celA [aI x402, aI x403, aI x404, aI x405, aI x406, aI x407, aI x408, aI x409, aI x410, aI x411, aI x412, aI x413] (0 + y401.toNat * 2)))), (aI (dI (celA [aI x402, aI x403, aI x404, aI x405, aI x406, aI x407, aI x408, aI x409, aI x410, aI x411, aI x412, aI x413] (0 + y401.toNat * 2 + 1))))])), (.as (.agg [(aI (dI (celA [aI x414, aI x415, aI x416, aI x417, aI x418, aI x419, aI x420, aI x421, aI x422, aI x423, aI x424, aI x425] (0 + y401.toNat * 2)))), (aI (dI (celA [aI x414, aI x415, aI x416, aI x417, aI x418, aI x419, aI x420, aI x421, aI x422, aI x423, aI x424, aI x425] (0 + y401.toNat * 2 + 1))))])), (.ck 0)] [] (.split 25 (.go 8 [(.br true)] [0, 1, 2, 3] (.cut 4 [[2, 3, 4, 5, 9, 10]] [])) (.go 2 [(.br false)] [0] (.cut 2 [[2, 3, 4, 5, 9, 10]] [])))))) (.go 8 [(.br false)] [0] .fin)))
theorem k59_4 (x399 x400 y401 x402 x403 x404 x405 x406 x407 x408 x409 x410 x411 x412 x413 x414 x415 x416 x417 x418 x419 x420 x421 x422 x423 x424 x425 : Int) : xrun cfz 59 (D59_4 x399 x400 y401 x402 x403 x404 x405 x406 x407 x408 x409 x410 x411 x412 x413 x414 x415 x416 x417 x418 x419 x420 x421 x422 x423 x424 x425) [] (st59 (.c4 x399 x400 y401 x402 x403 x404 x405 x406 x407 x408 x409 x410 x411 x412 x413 x414 x415 x416 x417 x418 x419 x420 x421 x422 x423 x424 x425)) = (B59 (.c4 x399 x400 y401 x402 x403 x404 x405 x406 x407 x408 x409 x410 x411 x412 x413 x414 x415 x416 x417 x418 x419 x420 x421 x422 x423 x424 x425)).mach st59 out59 := by kernel_rfl
theorem ok59 : ∀ s, ∃ d, xrun cfz 59 d [] (st59 s) = (B59 s).mach st59 out59
  | .c0 a281 a282 a283 a284 a285 a286 a287 a288 a289 a290 a291 a292 a293 a294 a295 a296 a297 a298 a299 a300 a301 a302 a303 a304 a305 a306 => ⟨_, k59_0 a281 a282 a283 a284 a285 a286 a287 a288 a289 a290 a291 a292 a293 a294 a295 a296 a297 a298 a299 a300 a301 a302 a303 a304 a305 a306⟩
  | .c1 x308 x309 y361 y362 y363 y364 x310 x311 x312 x313 x314 x315 x316 x317 x318 x319 x320 x321 x322 x323 x324 x325 x326 x327 x328 x329 x330 x331 x332 x333 y365 => ⟨_, k59_1 x308 x309 y361 y362 y363 y364 x310 x311 x312 x313 x314 x315 x316 x317 x318 x319 x320 x321 x322 x323 x324 x325 x326 x327 x328 x329 x330 x331 x332 x333 y365⟩
  | .c2 x334 x335 y398 x336 x337 x338 x339 x340 x341 x342 x343 x344 x345 x346 x347 x348 x349 x350 x351 x352 x353 x354 x355 x356 x357 x358 x359 => ⟨_, k59_2 x334 x335 y398 x336 x337 x338 x339 x340 x341 x342 x343 x344 x345 x346 x347 x348 x349 x350 x351 x352 x353 x354 x355 x356 x357 x358 x359⟩
  | .c3 x366 x367 y368 y369 y370 y371 x372 x373 x374 x375 x376 x377 x378 x379 x380 x381 x382 x383 x384 x385 x386 x387 x388 x389 x390 x391 x392 x393 x394 x395 x396 => ⟨_, k59_3 x366 x367 y368 y369 y370 y371 x372 x373 x374 x375 x376 x377 x378 x379 x380 x381 x382 x383 x384 x385 x386 x387 x388 x389 x390 x391 x392 x393 x394 x395 x396⟩
  | .c4 x399 x400 y401 x402 x403 x404 x405 x406 x407 x408 x409 x410 x411 x412 x413 x414 x415 x416 x417 x418 x419 x420 x421 x422 x423 x424 x425 => ⟨_, k59_4 x399 x400 y401 x402 x403 x404 x405 x406 x407 x408 x409 x410 x411 x412 x413 x414 x415 x416 x417 x418 x419 x420 x421 x422 x423 x424 x425⟩
theorem f59 (a281 a282 a283 a284 a285 a286 a287 a288 a289 a290 a291 a292 a293 a294 a295 a296 a297 a298 a299 a300 a301 a302 a303 a304 a305 a306 : Int) (v : Nat × List DV) (h : F59 a281 a282 a283 a284 a285 a286 a287 a288 a289 a290 a291 a292 a293 a294 a295 a296 a297 a298 a299 a300 a301 a302 a303 a304 a305 a306 = some v) : PureCalls cfz.P cfz.glob 59 [(.agg [(aI a281), (aI a282), (aI a283), (aI a284), (aI a285), (aI a286), (aI a287), (aI a288), (aI a289), (aI a290), (aI a291), (aI a292)]), (.agg [(aI a293), (aI a294), (aI a295), (aI a296), (aI a297), (aI a298), (aI a299), (aI a300), (aI a301), (aI a302), (aI a303), (aI a304)]), (aI a305), (aI a306)] (out59 v) := tree_pure knil ok59 (s := .c0 a281 a282 a283 a284 a285 a286 a287 a288 a289 a290 a291 a292 a293 a294 a295 a296 a297 a298 a299 a300 a301 a302 a303 a304 a305 a306) rfl (by kernel_rfl) v h

/-! F43 -/
inductive S43 where
  | c0 (a429 : Nat) (a430 : List DV) (a431 : Nat) (a432 : List DV)
  | c1 (x433 : Nat) (x434 : List DV) (x435 : Nat) (x436 : List DV) (y437 : Int)
def out43 (v : Bool) : AV := (.d (.v (.bool v)))
noncomputable def st43 : S43 → ASt
  | .c0 a429 a430 a431 a432 => ent cfz 43 [(.d (.sl a429 a430)), (.d (.sl a431 a432))]
  | .c1 x433 x434 x435 x436 y437 => ⟨⟨43, sp 26 0 [(0, (.d (.sl x433 x434))), (1, (.d (.sl x435 x436))), (5, (aI y437))], [(.code (cd cfz.P 43 [1, 1, 0, 1, 0, 0])), (.inLoop (cd cfz.P 43 [1, 1, 0, 1, 0, 0])), (.inBlock 0), (.code (cd cfz.P 43 [1, 1, 1]))], [], false, .none⟩, [], []⟩
noncomputable def B43 : S43 → Tr S43 (Bool)
  | .c0 a429 a430 a431 a432 => (.br ((↑a429 : Int) != (↑a431 : Int))
  (.ret false)
  (.nxt (.c1 a429 a430 a431 a432 0)))
  | .c1 x433 x434 x435 x436 y437 => (.br (decide (y437 < (↑x433 : Int)))
  (.ask (.le 0 y437) (.ask (.lt y437 ((↑x433 : Int))) (.ask (.leN (y437.toNat * 1) x434.length) (.ask (.prop (Option.map AV.d (List.drop (y437.toNat * 1) x434)[0]? = some (AV.d (DV.v (Value.int IntKind.i64 (dI (cel x434 (y437.toNat * 1)))))))) (.ask (.le 0 y437) (.ask (.lt y437 ((↑x435 : Int))) (.ask (.leN (y437.toNat * 1) x436.length) (.ask (.prop (Option.map AV.d (List.drop (y437.toNat * 1) x436)[0]? = some (AV.d (DV.v (Value.int IntKind.i64 (dI (cel x436 (y437.toNat * 1)))))))) (.br (dI (cel x434 (y437.toNat * 1)) != dI (cel x436 (y437.toNat * 1)))
  (.ret false)
  (.ask (.in64 (y437 + 1)) (.nxt (.c1 x433 x434 x435 x436 (y437 + 1)))))))))))))
  (.ret true))
noncomputable def F43 (a429 : Nat) (a430 : List DV) (a431 : Nat) (a432 : List DV) : Option (Bool) := res B43 (.c0 a429 a430 a431 a432)
noncomputable def D43_0 (a429 : Nat) (a430 : List DV) (a431 : Nat) (a432 : List DV) : DT cfz := (.go 13 [] [] (.split 10 (.go 6 [(.br true)] [0] .fin) (.go 9 [(.br false)] [0] (.cut 0 [[0, 1, 5]] []))))
theorem k43_0 (a429 : Nat) (a430 : List DV) (a431 : Nat) (a432 : List DV) : xrun cfz 43 (D43_0 a429 a430 a431 a432) [] (st43 (.c0 a429 a430 a431 a432)) = (B43 (.c0 a429 a430 a431 a432)).mach st43 out43 := by kernel_rfl
noncomputable def D43_1 (x433 : Nat) (x434 : List DV) (x435 : Nat) (x436 : List DV) (y437 : Int) : DT cfz := (.go 8 [] [] (.split 14 (.go 7 [(.br true), (.as (aI (dI (cel x434 (y437.toNat * 1))))), (.as (aI (dI (cel x436 (y437.toNat * 1)))))] [0] (.split 25 (.go 6 [(.br true)] [0] .fin) (.go 9 [(.br false)] [0] (.cut 0 [[0, 1, 5]] [])))) (.go 7 [(.br false)] [0] .fin)))
theorem k43_1 (x433 : Nat) (x434 : List DV) (x435 : Nat) (x436 : List DV) (y437 : Int) : xrun cfz 43 (D43_1 x433 x434 x435 x436 y437) [] (st43 (.c1 x433 x434 x435 x436 y437)) = (B43 (.c1 x433 x434 x435 x436 y437)).mach st43 out43 := by kernel_rfl
theorem ok43 : ∀ s, ∃ d, xrun cfz 43 d [] (st43 s) = (B43 s).mach st43 out43
  | .c0 a429 a430 a431 a432 => ⟨_, k43_0 a429 a430 a431 a432⟩
  | .c1 x433 x434 x435 x436 y437 => ⟨_, k43_1 x433 x434 x435 x436 y437⟩
theorem f43 (a429 : Nat) (a430 : List DV) (a431 : Nat) (a432 : List DV) (v : Bool) (h : F43 a429 a430 a431 a432 = some v) : PureCalls cfz.P cfz.glob 43 [(.d (.sl a429 a430)), (.d (.sl a431 a432))] (out43 v) := tree_pure knil ok43 (s := .c0 a429 a430 a431 a432) rfl (by kernel_rfl) v h

/-! F9 -/
inductive S9 where
  | c0 (a0 a1 a2 a3 a4 a5 a6 a7 a8 a9 a10 a11 a12 a13 a14 a15 a16 a17 a18 a19 a20 a21 a22 a23 a24 a25 : Int)
def out9 (v : Bool) : AV := (.d (.v (.bool v)))
noncomputable def st9 : S9 → ASt
  | .c0 a0 a1 a2 a3 a4 a5 a6 a7 a8 a9 a10 a11 a12 a13 a14 a15 a16 a17 a18 a19 a20 a21 a22 a23 a24 a25 => ent cfz 9 [(.agg [(aI a0), (aI a1), (aI a2), (aI a3), (aI a4), (aI a5), (aI a6), (aI a7), (aI a8), (aI a9), (aI a10), (aI a11)]), (.agg [(aI a12), (aI a13), (aI a14), (aI a15), (aI a16), (aI a17), (aI a18), (aI a19), (aI a20), (aI a21), (aI a22), (aI a23)]), (.agg [(aI a24), (aI a25)])]
noncomputable def B9 : S9 → Tr S9 (Bool)
  | .c0 a0 a1 a2 a3 a4 a5 a6 a7 a8 a9 a10 a11 a12 a13 a14 a15 a16 a17 a18 a19 a20 a21 a22 a23 a24 a25 => (.bind (F55 a0 a1 a12 a13) fun v59 =>
  (.sees [(.agg [(aI a0), (aI a1)]), (.agg [(aI a12), (aI a13)])] (.bind (F14 a0 a1 a2 a3 a4 a5 a6 a7 a8 a9 a10 a11) fun v72 =>
  (.bind (F14 a12 a13 a14 a15 a16 a17 a18 a19 a20 a21 a22 a23) fun v73 =>
  (.bind (F56 v72.fst v72.snd.fst v72.snd.snd.fst v72.snd.snd.snd.fst v72.snd.snd.snd.snd.fst v72.snd.snd.snd.snd.snd.fst v72.snd.snd.snd.snd.snd.snd.fst v72.snd.snd.snd.snd.snd.snd.snd.fst v72.snd.snd.snd.snd.snd.snd.snd.snd.fst v72.snd.snd.snd.snd.snd.snd.snd.snd.snd.fst v72.snd.snd.snd.snd.snd.snd.snd.snd.snd.snd.fst v72.snd.snd.snd.snd.snd.snd.snd.snd.snd.snd.snd v73.fst v73.snd.fst v73.snd.snd.fst v73.snd.snd.snd.fst v73.snd.snd.snd.snd.fst v73.snd.snd.snd.snd.snd.fst v73.snd.snd.snd.snd.snd.snd.fst v73.snd.snd.snd.snd.snd.snd.snd.fst v73.snd.snd.snd.snd.snd.snd.snd.snd.fst v73.snd.snd.snd.snd.snd.snd.snd.snd.snd.fst v73.snd.snd.snd.snd.snd.snd.snd.snd.snd.snd.fst v73.snd.snd.snd.snd.snd.snd.snd.snd.snd.snd.snd a24 a25) fun v217 =>
  (.sees [(.agg [(aI a0), (aI a1), (aI a2), (aI a3), (aI a4), (aI a5), (aI a6), (aI a7), (aI a8), (aI a9), (aI a10), (aI a11)])] (.sees [(.agg [(aI a12), (aI a13), (aI a14), (aI a15), (aI a16), (aI a17), (aI a18), (aI a19), (aI a20), (aI a21), (aI a22), (aI a23)])] (.sees [(.agg [(aI v72.fst), (aI v72.snd.fst), (aI v72.snd.snd.fst), (aI v72.snd.snd.snd.fst), (aI v72.snd.snd.snd.snd.fst), (aI v72.snd.snd.snd.snd.snd.fst), (aI v72.snd.snd.snd.snd.snd.snd.fst), (aI v72.snd.snd.snd.snd.snd.snd.snd.fst), (aI v72.snd.snd.snd.snd.snd.snd.snd.snd.fst), (aI v72.snd.snd.snd.snd.snd.snd.snd.snd.snd.fst), (aI v72.snd.snd.snd.snd.snd.snd.snd.snd.snd.snd.fst), (aI v72.snd.snd.snd.snd.snd.snd.snd.snd.snd.snd.snd)]), (.agg [(aI v73.fst), (aI v73.snd.fst), (aI v73.snd.snd.fst), (aI v73.snd.snd.snd.fst), (aI v73.snd.snd.snd.snd.fst), (aI v73.snd.snd.snd.snd.snd.fst), (aI v73.snd.snd.snd.snd.snd.snd.fst), (aI v73.snd.snd.snd.snd.snd.snd.snd.fst), (aI v73.snd.snd.snd.snd.snd.snd.snd.snd.fst), (aI v73.snd.snd.snd.snd.snd.snd.snd.snd.snd.fst), (aI v73.snd.snd.snd.snd.snd.snd.snd.snd.snd.snd.fst), (aI v73.snd.snd.snd.snd.snd.snd.snd.snd.snd.snd.snd)]), (aI a24), (aI a25)] (.bind (F57 a0 a1) fun v234 =>
  (.bind (F57 a12 a13) fun v235 =>
  (.bind (F24 2 [(.v (.int .i64 v234)), (.v (.int .i64 v235))]) fun v236 =>
  (.sees [(.agg [(aI a0), (aI a1)])] (.sees [(.agg [(aI a12), (aI a13)])] (.sees [(.d (.sl 2 [(vI v234), (vI v235)]))] (.bind (F19 a0 a1 a2 a3 a4 a5 a6 a7 a8 a9 a10 a11) fun v267 =>
  (.bind (F19 a12 a13 a14 a15 a16 a17 a18 a19 a20 a21 a22 a23) fun v268 =>
  (.bind (F34 a24 1 100000000) fun v269 =>
  (.bind (F34 a25 1 100000000) fun v270 =>
  (.bind (F24 4 [(.v (.int .i64 v267)), (.v (.int .i64 v268)), (.v (.int .i64 v269)), (.v (.int .i64 v270))]) fun v271 =>
  (.sees [(.agg [(aI a0), (aI a1), (aI a2), (aI a3), (aI a4), (aI a5), (aI a6), (aI a7), (aI a8), (aI a9), (aI a10), (aI a11)])] (.sees [(.agg [(aI a12), (aI a13), (aI a14), (aI a15), (aI a16), (aI a17), (aI a18), (aI a19), (aI a20), (aI a21), (aI a22), (aI a23)])] (.sees [(aI a24), (aI 1), (aI 100000000)] (.sees [(aI a25), (aI 1), (aI 100000000)] (.sees [(.d (.sl 4 [(vI v267), (vI v268), (vI v269), (vI v270)]))] (.br (v236 == 0)
  (.bind (F58 a0 a1 a12 a13) fun v280 =>
  (.sees [(.agg [(aI a0), (aI a1)]), (.agg [(aI a12), (aI a13)])] (.br (v271 == 0)
  (.bind (F59 a0 a1 a2 a3 a4 a5 a6 a7 a8 a9 a10 a11 a12 a13 a14 a15 a16 a17 a18 a19 a20 a21 a22 a23 a24 a25) fun v428 =>
  (.sees [(.agg [(aI a0), (aI a1), (aI a2), (aI a3), (aI a4), (aI a5), (aI a6), (aI a7), (aI a8), (aI a9), (aI a10), (aI a11)]), (.agg [(aI a12), (aI a13), (aI a14), (aI a15), (aI a16), (aI a17), (aI a18), (aI a19), (aI a20), (aI a21), (aI a22), (aI a23)]), (aI a24), (aI a25)] (.triv _ (tv_s ((v59.fst == v280) == true)) (.triv _ (tv_s ((v59.fst == v280) == true)) (.triv _ (tv_t (v59.fst == v280)) (.bind (F43 v217.fst v217.snd.fst v428.fst v428.snd) fun v438 =>
  (.sees [(.d (.sl v217.fst v217.snd.fst)), (.d (.sl v428.fst v428.snd))] (.triv _ (tv_s ((if (v59.fst == v280) = true then v59.snd == v236 else false) == true)) (.triv _ (tv_s ((if (v59.fst == v280) = true then v59.snd == v236 else false) == true)) (.triv _ (tv_t (if (v59.fst == v280) = true then v59.snd == v236 else false)) (.triv _ (tv_s ((if (if (v59.fst == v280) = true then v59.snd == v236 else false) = true then v438 else false) == true)) (.triv _ (tv_s ((if (if (v59.fst == v280) = true then v59.snd == v236 else false) = true then v438 else false) == true)) (.triv _ (tv_t (if (if (v59.fst == v280) = true then v59.snd == v236 else false) = true then v438 else false)) (.bind (F12) fun v439 =>
  (.sees [] (.triv _ (tv_t (if (if (if (v59.fst == v280) = true then v59.snd == v236 else false) = true then v438 else false) = true then v217.snd.snd == v271 else false)) (.ret (if (if (if (if (v59.fst == v280) = true then v59.snd == v236 else false) = true then v438 else false) = true then v217.snd.snd == v271 else false) = true then v439 else false))))))))))))))))))
  (.triv _ (tv_s ((v59.fst == v280) == true)) (.triv _ (tv_s ((v59.fst == v280) == true)) (.triv _ (tv_t (v59.fst == v280)) (.bind (F43 v217.fst v217.snd.fst 0 []) fun v440 =>
  (.sees [(.d (.sl v217.fst v217.snd.fst)), (.d (.sl 0 []))] (.triv _ (tv_s ((if (v59.fst == v280) = true then v59.snd == v236 else false) == true)) (.triv _ (tv_s ((if (v59.fst == v280) = true then v59.snd == v236 else false) == true)) (.triv _ (tv_t (if (v59.fst == v280) = true then v59.snd == v236 else false)) (.triv _ (tv_s ((if (if (v59.fst == v280) = true then v59.snd == v236 else false) = true then v440 else false) == true)) (.triv _ (tv_s ((if (if (v59.fst == v280) = true then v59.snd == v236 else false) = true then v440 else false) == true)) (.triv _ (tv_t (if (if (v59.fst == v280) = true then v59.snd == v236 else false) = true then v440 else false)) (.bind (F12) fun v441 =>
  (.sees [] (.triv _ (tv_t (if (if (if (v59.fst == v280) = true then v59.snd == v236 else false) = true then v440 else false) = true then v217.snd.snd == v271 else false)) (.ret (if (if (if (if (v59.fst == v280) = true then v59.snd == v236 else false) = true then v440 else false) = true then v217.snd.snd == v271 else false) = true then v441 else false)))))))))))))))))))
  (.br (v271 == 0)
  (.bind (F59 a0 a1 a2 a3 a4 a5 a6 a7 a8 a9 a10 a11 a12 a13 a14 a15 a16 a17 a18 a19 a20 a21 a22 a23 a24 a25) fun v442 =>
  (.sees [(.agg [(aI a0), (aI a1), (aI a2), (aI a3), (aI a4), (aI a5), (aI a6), (aI a7), (aI a8), (aI a9), (aI a10), (aI a11)]), (.agg [(aI a12), (aI a13), (aI a14), (aI a15), (aI a16), (aI a17), (aI a18), (aI a19), (aI a20), (aI a21), (aI a22), (aI a23)]), (aI a24), (aI a25)] (.triv _ (tv_s ((v59.fst == 0) == true)) (.triv _ (tv_s ((v59.fst == 0) == true)) (.triv _ (tv_t (v59.fst == 0)) (.bind (F43 v217.fst v217.snd.fst v442.fst v442.snd) fun v443 =>
  (.sees [(.d (.sl v217.fst v217.snd.fst)), (.d (.sl v442.fst v442.snd))] (.triv _ (tv_s ((if (v59.fst == 0) = true then v59.snd == v236 else false) == true)) (.triv _ (tv_s ((if (v59.fst == 0) = true then v59.snd == v236 else false) == true)) (.triv _ (tv_t (if (v59.fst == 0) = true then v59.snd == v236 else false)) (.triv _ (tv_s ((if (if (v59.fst == 0) = true then v59.snd == v236 else false) = true then v443 else false) == true)) (.triv _ (tv_s ((if (if (v59.fst == 0) = true then v59.snd == v236 else false) = true then v443 else false) == true)) (.triv _ (tv_t (if (if (v59.fst == 0) = true then v59.snd == v236 else false) = true then v443 else false)) (.bind (F12) fun v444 =>
  (.sees [] (.triv _ (tv_t (if (if (if (v59.fst == 0) = true then v59.snd == v236 else false) = true then v443 else false) = true then v217.snd.snd == v271 else false)) (.ret (if (if (if (if (v59.fst == 0) = true then v59.snd == v236 else false) = true then v443 else false) = true then v217.snd.snd == v271 else false) = true then v444 else false))))))))))))))))))
  (.triv _ (tv_s ((v59.fst == 0) == true)) (.triv _ (tv_s ((v59.fst == 0) == true)) (.triv _ (tv_t (v59.fst == 0)) (.bind (F43 v217.fst v217.snd.fst 0 []) fun v445 =>
  (.sees [(.d (.sl v217.fst v217.snd.fst)), (.d (.sl 0 []))] (.triv _ (tv_s ((if (v59.fst == 0) = true then v59.snd == v236 else false) == true)) (.triv _ (tv_s ((if (v59.fst == 0) = true then v59.snd == v236 else false) == true)) (.triv _ (tv_t (if (v59.fst == 0) = true then v59.snd == v236 else false)) (.triv _ (tv_s ((if (if (v59.fst == 0) = true then v59.snd == v236 else false) = true then v445 else false) == true)) (.triv _ (tv_s ((if (if (v59.fst == 0) = true then v59.snd == v236 else false) = true then v445 else false) == true)) (.triv _ (tv_t (if (if (v59.fst == 0) = true then v59.snd == v236 else false) = true then v445 else false)) (.bind (F12) fun v446 =>
  (.sees [] (.triv _ (tv_t (if (if (if (v59.fst == 0) = true then v59.snd == v236 else false) = true then v445 else false) = true then v217.snd.snd == v271 else false)) (.ret (if (if (if (if (v59.fst == 0) = true then v59.snd == v236 else false) = true then v445 else false) = true then v217.snd.snd == v271 else false) = true then v446 else false))))))))))))))))))))))))))))))))))))))))))
noncomputable def F9 (a0 a1 a2 a3 a4 a5 a6 a7 a8 a9 a10 a11 a12 a13 a14 a15 a16 a17 a18 a19 a20 a21 a22 a23 a24 a25 : Int) : Option (Bool) := res B9 (.c0 a0 a1 a2 a3 a4 a5 a6 a7 a8 a9 a10 a11 a12 a13 a14 a15 a16 a17 a18 a19 a20 a21 a22 a23 a24 a25)
noncomputable def D9_0 (a0 a1 a2 a3 a4 a5 a6 a7 a8 a9 a10 a11 a12 a13 a14 a15 a16 a17 a18 a19 a20 a21 a22 a23 a24 a25 : Int) : DT cfz := (.go 13 [] [0, 1, 2, 3] (.bind (f55 a0 a1 a12 a13) fun v59 => (.go 9 [(.ck 0)] [] (.bind (f14 a0 a1 a2 a3 a4 a5 a6 a7 a8 a9 a10 a11) fun v72 => (.bind (f14 a12 a13 a14 a15 a16 a17 a18 a19 a20 a21 a22 a23) fun v73 => (.bind (f56 v72.fst v72.snd.fst v72.snd.snd.fst v72.snd.snd.snd.fst v72.snd.snd.snd.snd.fst v72.snd.snd.snd.snd.snd.fst v72.snd.snd.snd.snd.snd.snd.fst v72.snd.snd.snd.snd.snd.snd.snd.fst v72.snd.snd.snd.snd.snd.snd.snd.snd.fst v72.snd.snd.snd.snd.snd.snd.snd.snd.snd.fst v72.snd.snd.snd.snd.snd.snd.snd.snd.snd.snd.fst v72.snd.snd.snd.snd.snd.snd.snd.snd.snd.snd.snd v73.fst v73.snd.fst v73.snd.snd.fst v73.snd.snd.snd.fst v73.snd.snd.snd.snd.fst v73.snd.snd.snd.snd.snd.fst v73.snd.snd.snd.snd.snd.snd.fst v73.snd.snd.snd.snd.snd.snd.snd.fst v73.snd.snd.snd.snd.snd.snd.snd.snd.fst v73.snd.snd.snd.snd.snd.snd.snd.snd.snd.fst v73.snd.snd.snd.snd.snd.snd.snd.snd.snd.snd.fst v73.snd.snd.snd.snd.snd.snd.snd.snd.snd.snd.snd a24 a25) fun v217 => (.go 3 [(.ck 1), (.ck 2), (.ck 3)] [2, 3, 4, 5] (.bind (f57 a0 a1) fun v234 => (.bind (f57 a12 a13) fun v235 => (.bind (f24 2 [(vI v234), (vI v235)]) fun v236 => (.go 3 [(.ck 4), (.ck 5), (.ck 6)] [0, 1, 3, 4] (.bind (f19 a0 a1 a2 a3 a4 a5 a6 a7 a8 a9 a10 a11) fun v267 => (.bind (f19 a12 a13 a14 a15 a16 a17 a18 a19 a20 a21 a22 a23) fun v268 => (.bind (f34 a24 1 100000000) fun v269 => (.bind (f34 a25 1 100000000) fun v270 => (.bind (f24 4 [(vI v267), (vI v268), (vI v269), (vI v270)]) fun v271 => (.go 15 [(.ck 7), (.ck 8), (.ck 9), (.ck 10), (.ck 11)] [2, 3, 5, 6] (.split 56 (.go 6 [(.br true)] [0, 1, 2, 3, 4] (.bind (f58 a0 a1 a12 a13) fun v280 => (.go 9 [(.ck 12)] [] (.split 63 (.go 8 [(.br true)] [0, 1, 2, 3, 4] (.bind (f59 a0 a1 a2 a3 a4 a5 a6 a7 a8 a9 a10 a11 a12 a13 a14 a15 a16 a17 a18 a19 a20 a21 a22 a23 a24 a25) fun v428 => (.go 16 [(.ck 13), (.sp .none), (.sp .none), (.sp .none), .mg, (.sp .none), (.sp .none)] [] (.bind (f43 v217.fst v217.snd.fst v428.fst v428.snd) fun v438 => (.go 8 [(.sp (.some 14)), .mg, (.sp .none), (.sp .none), (.sp .none), .mg] [] (.bind (f12) fun v439 => (.go 5 [(.sp (.some 15)), .mg] [] .fin))))))) (.go 15 [(.br false), (.sp .none), (.sp .none), (.sp .none), .mg, (.sp .none), (.sp .none)] [0] (.bind (f43 v217.fst v217.snd.fst 0 []) fun v440 => (.go 8 [(.sp (.some 13)), .mg, (.sp .none), (.sp .none), (.sp .none), .mg] [] (.bind (f12) fun v441 => (.go 5 [(.sp (.some 14)), .mg] [] .fin))))))))) (.go 8 [(.br false)] [0] (.split 63 (.go 8 [(.br true)] [0, 1, 2, 3, 4] (.bind (f59 a0 a1 a2 a3 a4 a5 a6 a7 a8 a9 a10 a11 a12 a13 a14 a15 a16 a17 a18 a19 a20 a21 a22 a23 a24 a25) fun v442 => (.go 16 [(.ck 12), (.sp .none), (.sp .none), (.sp .none), .mg, (.sp .none), (.sp .none)] [] (.bind (f43 v217.fst v217.snd.fst v442.fst v442.snd) fun v443 => (.go 8 [(.sp (.some 13)), .mg, (.sp .none), (.sp .none), (.sp .none), .mg] [] (.bind (f12) fun v444 => (.go 5 [(.sp (.some 14)), .mg] [] .fin))))))) (.go 15 [(.br false), (.sp .none), (.sp .none), (.sp .none), .mg, (.sp .none), (.sp .none)] [0] (.bind (f43 v217.fst v217.snd.fst 0 []) fun v445 => (.go 8 [(.sp (.some 12)), .mg, (.sp .none), (.sp .none), (.sp .none), .mg] [] (.bind (f12) fun v446 => (.go 5 [(.sp (.some 13)), .mg] [] .fin)))))))))))))))))))))))))
theorem k9_0 (a0 a1 a2 a3 a4 a5 a6 a7 a8 a9 a10 a11 a12 a13 a14 a15 a16 a17 a18 a19 a20 a21 a22 a23 a24 a25 : Int) : xrun cfz 9 (D9_0 a0 a1 a2 a3 a4 a5 a6 a7 a8 a9 a10 a11 a12 a13 a14 a15 a16 a17 a18 a19 a20 a21 a22 a23 a24 a25) [] (st9 (.c0 a0 a1 a2 a3 a4 a5 a6 a7 a8 a9 a10 a11 a12 a13 a14 a15 a16 a17 a18 a19 a20 a21 a22 a23 a24 a25)) = (B9 (.c0 a0 a1 a2 a3 a4 a5 a6 a7 a8 a9 a10 a11 a12 a13 a14 a15 a16 a17 a18 a19 a20 a21 a22 a23 a24 a25)).mach st9 out9 := by kernel_rfl
theorem ok9 : ∀ s, ∃ d, xrun cfz 9 d [] (st9 s) = (B9 s).mach st9 out9
  | .c0 a0 a1 a2 a3 a4 a5 a6 a7 a8 a9 a10 a11 a12 a13 a14 a15 a16 a17 a18 a19 a20 a21 a22 a23 a24 a25 => ⟨_, k9_0 a0 a1 a2 a3 a4 a5 a6 a7 a8 a9 a10 a11 a12 a13 a14 a15 a16 a17 a18 a19 a20 a21 a22 a23 a24 a25⟩
theorem f9 (a0 a1 a2 a3 a4 a5 a6 a7 a8 a9 a10 a11 a12 a13 a14 a15 a16 a17 a18 a19 a20 a21 a22 a23 a24 a25 : Int) (v : Bool) (h : F9 a0 a1 a2 a3 a4 a5 a6 a7 a8 a9 a10 a11 a12 a13 a14 a15 a16 a17 a18 a19 a20 a21 a22 a23 a24 a25 = some v) : PureCalls cfz.P cfz.glob 9 [(.agg [(aI a0), (aI a1), (aI a2), (aI a3), (aI a4), (aI a5), (aI a6), (aI a7), (aI a8), (aI a9), (aI a10), (aI a11)]), (.agg [(aI a12), (aI a13), (aI a14), (aI a15), (aI a16), (aI a17), (aI a18), (aI a19), (aI a20), (aI a21), (aI a22), (aI a23)]), (.agg [(aI a24), (aI a25)])] (out9 v) := tree_pure knil ok9 (s := .c0 a0 a1 a2 a3 a4 a5 a6 a7 a8 a9 a10 a11 a12 a13 a14 a15 a16 a17 a18 a19 a20 a21 a22 a23 a24 a25) rfl (by kernel_rfl) v h

end Go.Kv
