/- Printed: what functions of the program come to, and the kernel's proof of it. -/
import Derived.Test.YtalhonodbajndaaDoorKvW
import Derived.Test.YtalhonodbajndaaDoorKvZ
import Derived.Test.YtalhonodbajndaaDoorKzA
import Derived.Test.YtalhonodbajndaaDoorKzW
namespace Go.Kv
set_option linter.unusedVariables false
set_option linter.unusedSimpArgs false
open Go Go.RowKit Go.Proofs
set_option maxRecDepth 100000
/-! F56 -/
inductive S56 where
  | c0 (a15 : Bool) (a16 : Int)
def out56 (v : Int) : AV := (.d (.v (.int .i64 v)))
noncomputable def st56 : S56 → ASt
  | .c0 a15 a16 => ent cfz 56 [(.d (.v (.bool a15))), (.d (.v (.int .i64 a16)))]
noncomputable def B56 : S56 → Tr S56 (Int)
  | .c0 a15 a16 => (.br a15
  (.ret a16)
  (.ret 0))
noncomputable def F56 (a15 : Bool) (a16 : Int) : Option (Int) := res B56 (.c0 a15 a16)
noncomputable def D56_0 (a15 : Bool) (a16 : Int) : DT cfz := (.go 9 [] [] (.split 5 (.go 7 [(.br true)] [0] .fin) (.go 7 [(.br false)] [0] .fin)))
theorem k56_0 (a15 : Bool) (a16 : Int) : xrun cfz 56 (D56_0 a15 a16) [] (st56 (.c0 a15 a16)) = (B56 (.c0 a15 a16)).mach st56 out56 := by kernel_rfl
theorem ok56 : ∀ s, ∃ d, xrun cfz 56 d [] (st56 s) = (B56 s).mach st56 out56
  | .c0 a15 a16 => ⟨_, k56_0 a15 a16⟩
theorem f56 (a15 : Bool) (a16 : Int) (v : Int) (h : F56 a15 a16 = some v) : PureCalls cfz.P cfz.glob 56 [(.d (.v (.bool a15))), (.d (.v (.int .i64 a16)))] (out56 v) := tree_pure knil ok56 (s := .c0 a15 a16) rfl (by kernel_rfl) v h

/-! F26 -/
inductive S26 where
  | c0 (a12 : Int) (a13 : Int) (a14 : Int)
def out26 (v : Int) : AV := (.d (.v (.int .i64 v)))
noncomputable def st26 : S26 → ASt
  | .c0 a12 a13 a14 => ent cfz 26 [(.d (.v (.int .i64 a12))), (.d (.v (.int .i64 a13))), (.d (.v (.int .i64 a14)))]
noncomputable def B26 : S26 → Tr S26 (Int)
  | .c0 a12 a13 a14 => (.triv _ (tv_s (decide (a12 < a13) == false)) (.triv _ (tv_s (decide (a12 < a13) == false)) (.triv _ (tv_f (decide (a12 < a13))) (.bind (F56 (if decide (a12 < a13) = true then true else decide (a12 > a14)) 3) fun v17 =>
  (.sees [(.d (.v (.bool (if decide (a12 < a13) = true then true else decide (a12 > a14))))), (.d (.v (.int .i64 3)))] (.ret v17))))))
noncomputable def F26 (a12 : Int) (a13 : Int) (a14 : Int) : Option (Int) := res B26 (.c0 a12 a13 a14)
noncomputable def D26_0 (a12 : Int) (a13 : Int) (a14 : Int) : DT cfz := (.go 14 [(.sp .none), (.sp .none), (.sp .none), .mg] [] (.bind (f56 (if decide (a12 < a13) = true then true else decide (a12 > a14)) 3) fun v17 => (.go 4 [(.ck 0)] [] .fin)))
theorem k26_0 (a12 : Int) (a13 : Int) (a14 : Int) : xrun cfz 26 (D26_0 a12 a13 a14) [] (st26 (.c0 a12 a13 a14)) = (B26 (.c0 a12 a13 a14)).mach st26 out26 := by kernel_rfl
theorem ok26 : ∀ s, ∃ d, xrun cfz 26 d [] (st26 s) = (B26 s).mach st26 out26
  | .c0 a12 a13 a14 => ⟨_, k26_0 a12 a13 a14⟩
theorem f26 (a12 : Int) (a13 : Int) (a14 : Int) (v : Int) (h : F26 a12 a13 a14 = some v) : PureCalls cfz.P cfz.glob 26 [(.d (.v (.int .i64 a12))), (.d (.v (.int .i64 a13))), (.d (.v (.int .i64 a14)))] (out26 v) := tree_pure knil ok26 (s := .c0 a12 a13 a14) rfl (by kernel_rfl) v h

/-! F25 -/
inductive S25 where
  | c0 (a22 : Nat) (a23 : List DV)
  | c1 (x24 : Nat) (x25 : List DV) (y26 : Int)
def out25 (v : Int) : AV := (.d (.v (.int .i64 v)))
noncomputable def st25 : S25 → ASt
  | .c0 a22 a23 => ent cfz 25 [(.d (.sl a22 a23))]
  | .c1 x24 x25 y26 => ⟨⟨25, sp 19 0 [(0, (.d (.sl x24 x25))), (3, (.d (.v (.int .i64 y26))))], [(.code (cd cfz.P 25 [1, 0, 1, 0, 0])), (.inLoop (cd cfz.P 25 [1, 0, 1, 0, 0])), (.inBlock 0), (.code (cd cfz.P 25 [1, 1]))], [], false, .none⟩, [], []⟩
noncomputable def B25 : S25 → Tr S25 (Int)
  | .c0 a22 a23 => (.nxt (.c1 a22 a23 0))
  | .c1 x24 x25 y26 => (.br (decide (y26 < (↑x24 : Int)))
  (.ask (.le 0 y26) (.ask (.lt y26 ((↑x24 : Int))) (.ask (.leN (y26.toNat * 1) x25.length) (.ask (.prop (Option.map AV.d (List.drop (y26.toNat * 1) x25)[0]? = some (AV.d (DV.v (Value.int IntKind.i64 (dI (cel x25 (y26.toNat * 1)))))))) (.br (dI (cel x25 (y26.toNat * 1)) != 0)
  (.ask (.le 0 y26) (.ask (.lt y26 ((↑x24 : Int))) (.ask (.leN (y26.toNat * 1) x25.length) (.ask (.prop (Option.map AV.d (List.drop (y26.toNat * 1) x25)[0]? = some (AV.d (DV.v (Value.int IntKind.i64 (dI (cel x25 (y26.toNat * 1)))))))) (.ret (dI (cel x25 (y26.toNat * 1))))))))
  (.ask (.in64 (y26 + 1)) (.nxt (.c1 x24 x25 (y26 + 1)))))))))
  (.ret 0))
noncomputable def F25 (a22 : Nat) (a23 : List DV) : Option (Int) := res B25 (.c0 a22 a23)
noncomputable def D25_0 (a22 : Nat) (a23 : List DV) : DT cfz := (.go 11 [] [] (.cut 0 [[0, 3]] []))
theorem k25_0 (a22 : Nat) (a23 : List DV) : xrun cfz 25 (D25_0 a22 a23) [] (st25 (.c0 a22 a23)) = (B25 (.c0 a22 a23)).mach st25 out25 := by kernel_rfl
noncomputable def D25_1 (x24 : Nat) (x25 : List DV) (y26 : Int) : DT cfz := (.go 8 [] [] (.split 7 (.go 12 [(.br true), (.as (.d (.v (.int .i64 (dI (cel x25 (y26.toNat * 1)))))))] [0] (.split 14 (.go 10 [(.br true), (.as (.d (.v (.int .i64 (dI (cel x25 (y26.toNat * 1)))))))] [0] .fin) (.go 9 [(.br false)] [0] (.cut 0 [[0, 3]] [])))) (.go 7 [(.br false)] [0] .fin)))
theorem k25_1 (x24 : Nat) (x25 : List DV) (y26 : Int) : xrun cfz 25 (D25_1 x24 x25 y26) [] (st25 (.c1 x24 x25 y26)) = (B25 (.c1 x24 x25 y26)).mach st25 out25 := by kernel_rfl
theorem ok25 : ∀ s, ∃ d, xrun cfz 25 d [] (st25 s) = (B25 s).mach st25 out25
  | .c0 a22 a23 => ⟨_, k25_0 a22 a23⟩
  | .c1 x24 x25 y26 => ⟨_, k25_1 x24 x25 y26⟩
theorem f25 (a22 : Nat) (a23 : List DV) (v : Int) (h : F25 a22 a23 = some v) : PureCalls cfz.P cfz.glob 25 [(.d (.sl a22 a23))] (out25 v) := tree_pure knil ok25 (s := .c0 a22 a23) rfl (by kernel_rfl) v h

/-! F20 -/
inductive S20 where
  | c0 (a8 : Int) (a9 : Int) (a10 : Int) (a11 : Int)
def out20 (v : Int) : AV := (.d (.v (.int .i64 v)))
noncomputable def st20 : S20 → ASt
  | .c0 a8 a9 a10 a11 => ent cfz 20 [(.agg [(.d (.v (.int .i64 a8))), (.d (.v (.int .i64 a9))), (.d (.v (.int .i64 a10))), (.d (.v (.int .i64 a11)))])]
noncomputable def B20 : S20 → Tr S20 (Int)
  | .c0 a8 a9 a10 a11 => (.bind (F26 a8 0 100000000) fun v18 =>
  (.bind (F26 a9 (-1000000) 1000000) fun v19 =>
  (.bind (F26 a10 (-1000) 1000) fun v20 =>
  (.bind (F26 a11 2 1000) fun v21 =>
  (.bind (F25 4 [(.v (.int .i64 v18)), (.v (.int .i64 v19)), (.v (.int .i64 v20)), (.v (.int .i64 v21))]) fun v27 =>
  (.sees [(.d (.v (.int .i64 a8))), (.d (.v (.int .i64 0))), (.d (.v (.int .i64 100000000)))] (.sees [(.d (.v (.int .i64 a9))), (.d (.v (.int .i64 (-1000000)))), (.d (.v (.int .i64 1000000)))] (.sees [(.d (.v (.int .i64 a10))), (.d (.v (.int .i64 (-1000)))), (.d (.v (.int .i64 1000)))] (.sees [(.d (.v (.int .i64 a11))), (.d (.v (.int .i64 2))), (.d (.v (.int .i64 1000)))] (.sees [(.d (.sl 4 [(.v (.int .i64 v18)), (.v (.int .i64 v19)), (.v (.int .i64 v20)), (.v (.int .i64 v21))]))] (.ret v27)))))))))))
noncomputable def F20 (a8 : Int) (a9 : Int) (a10 : Int) (a11 : Int) : Option (Int) := res B20 (.c0 a8 a9 a10 a11)
noncomputable def D20_0 (a8 : Int) (a9 : Int) (a10 : Int) (a11 : Int) : DT cfz := (.go 7 [] [] (.bind (f26 a8 0 100000000) fun v18 => (.bind (f26 a9 (-1000000) 1000000) fun v19 => (.bind (f26 a10 (-1000) 1000) fun v20 => (.bind (f26 a11 2 1000) fun v21 => (.bind (f25 4 [(.v (.int .i64 v18)), (.v (.int .i64 v19)), (.v (.int .i64 v20)), (.v (.int .i64 v21))]) fun v27 => (.go 2 [(.ck 0), (.ck 1), (.ck 2), (.ck 3), (.ck 4)] [] .fin)))))))
theorem k20_0 (a8 : Int) (a9 : Int) (a10 : Int) (a11 : Int) : xrun cfz 20 (D20_0 a8 a9 a10 a11) [] (st20 (.c0 a8 a9 a10 a11)) = (B20 (.c0 a8 a9 a10 a11)).mach st20 out20 := by kernel_rfl
theorem ok20 : ∀ s, ∃ d, xrun cfz 20 d [] (st20 s) = (B20 s).mach st20 out20
  | .c0 a8 a9 a10 a11 => ⟨_, k20_0 a8 a9 a10 a11⟩
theorem f20 (a8 : Int) (a9 : Int) (a10 : Int) (a11 : Int) (v : Int) (h : F20 a8 a9 a10 a11 = some v) : PureCalls cfz.P cfz.glob 20 [(.agg [(.d (.v (.int .i64 a8))), (.d (.v (.int .i64 a9))), (.d (.v (.int .i64 a10))), (.d (.v (.int .i64 a11)))])] (out20 v) := tree_pure knil ok20 (s := .c0 a8 a9 a10 a11) rfl (by kernel_rfl) v h

/-! F38 -/
inductive S38 where
  | c0 (a51 : Bool) (a52 : Int)
def out38 (v : Int) : AV := (.d (.v (.int .i64 v)))
noncomputable def st38 : S38 → ASt
  | .c0 a51 a52 => ent cfz 38 [(.d (.v (.bool a51))), (.d (.v (.int .i64 a52)))]
noncomputable def B38 : S38 → Tr S38 (Int)
  | .c0 a51 a52 => (.br a51
  (.ret a52)
  (.ret 0))
noncomputable def F38 (a51 : Bool) (a52 : Int) : Option (Int) := res B38 (.c0 a51 a52)
noncomputable def D38_0 (a51 : Bool) (a52 : Int) : DT cfz := (.go 9 [] [] (.split 5 (.go 7 [(.br true)] [0] .fin) (.go 7 [(.br false)] [0] .fin)))
theorem k38_0 (a51 : Bool) (a52 : Int) : xrun cfz 38 (D38_0 a51 a52) [] (st38 (.c0 a51 a52)) = (B38 (.c0 a51 a52)).mach st38 out38 := by kernel_rfl
theorem ok38 : ∀ s, ∃ d, xrun cfz 38 d [] (st38 s) = (B38 s).mach st38 out38
  | .c0 a51 a52 => ⟨_, k38_0 a51 a52⟩
theorem f38 (a51 : Bool) (a52 : Int) (v : Int) (h : F38 a51 a52 = some v) : PureCalls cfz.P cfz.glob 38 [(.d (.v (.bool a51))), (.d (.v (.int .i64 a52)))] (out38 v) := tree_pure knil ok38 (s := .c0 a51 a52) rfl (by kernel_rfl) v h

/-! F49 -/
inductive S49 where
  | c0 (a48 : Int) (a49 : Int) (a50 : Int)
def out49 (v : Int) : AV := (.d (.v (.int .i64 v)))
noncomputable def st49 : S49 → ASt
  | .c0 a48 a49 a50 => ent cfz 49 [(.d (.v (.int .i64 a48))), (.d (.v (.int .i64 a49))), (.d (.v (.int .i64 a50)))]
noncomputable def B49 : S49 → Tr S49 (Int)
  | .c0 a48 a49 a50 => (.triv _ (tv_s (decide (a48 < a49) == false)) (.triv _ (tv_s (decide (a48 < a49) == false)) (.triv _ (tv_f (decide (a48 < a49))) (.bind (F38 (if decide (a48 < a49) = true then true else decide (a48 > a50)) 3) fun v53 =>
  (.sees [(.d (.v (.bool (if decide (a48 < a49) = true then true else decide (a48 > a50))))), (.d (.v (.int .i64 3)))] (.ret v53))))))
noncomputable def F49 (a48 : Int) (a49 : Int) (a50 : Int) : Option (Int) := res B49 (.c0 a48 a49 a50)
noncomputable def D49_0 (a48 : Int) (a49 : Int) (a50 : Int) : DT cfz := (.go 14 [(.sp .none), (.sp .none), (.sp .none), .mg] [] (.bind (f38 (if decide (a48 < a49) = true then true else decide (a48 > a50)) 3) fun v53 => (.go 4 [(.ck 0)] [] .fin)))
theorem k49_0 (a48 : Int) (a49 : Int) (a50 : Int) : xrun cfz 49 (D49_0 a48 a49 a50) [] (st49 (.c0 a48 a49 a50)) = (B49 (.c0 a48 a49 a50)).mach st49 out49 := by kernel_rfl
theorem ok49 : ∀ s, ∃ d, xrun cfz 49 d [] (st49 s) = (B49 s).mach st49 out49
  | .c0 a48 a49 a50 => ⟨_, k49_0 a48 a49 a50⟩
theorem f49 (a48 : Int) (a49 : Int) (a50 : Int) (v : Int) (h : F49 a48 a49 a50 = some v) : PureCalls cfz.P cfz.glob 49 [(.d (.v (.int .i64 a48))), (.d (.v (.int .i64 a49))), (.d (.v (.int .i64 a50)))] (out49 v) := tree_pure knil ok49 (s := .c0 a48 a49 a50) rfl (by kernel_rfl) v h

/-! F35 -/
inductive S35 where
  | c0 (a58 : Nat) (a59 : List DV)
  | c1 (x60 : Nat) (x61 : List DV) (x62 : Int) (y63 : Int)
def out35 (v : Int) : AV := (.d (.v (.int .i64 v)))
noncomputable def st35 : S35 → ASt
  | .c0 a58 a59 => ent cfz 35 [(.d (.sl a58 a59))]
  | .c1 x60 x61 x62 y63 => ⟨⟨35, sp 15 0 [(5, (.d (.sl x60 x61))), (6, (.d (.v (.int .i64 x62)))), (7, (.d (.v (.int .i64 y63))))], [(.code (cd cfz.P 35 [1, 0, 1, 0, 0])), (.inLoop (cd cfz.P 35 [1, 0, 1, 0, 0])), (.inBlock 0), (.code (cd cfz.P 35 [1, 1]))], [], false, .none⟩, [], []⟩
noncomputable def B35 : S35 → Tr S35 (Int)
  | .c0 a58 a59 => (.nxt (.c1 a58 a59 ((↑a58 : Int)) 0))
  | .c1 x60 x61 x62 y63 => (.br (decide (y63 < x62))
  (.ask (.le 0 y63) (.ask (.lt y63 ((↑x60 : Int))) (.ask (.leN (y63.toNat * 1) x61.length) (.ask (.prop (Option.map AV.d (List.drop (y63.toNat * 1) x61)[0]? = some (AV.d (DV.v (Value.int IntKind.i64 (dI (cel x61 (y63.toNat * 1)))))))) (.br (dI (cel x61 (y63.toNat * 1)) != 0)
  (.ret (dI (cel x61 (y63.toNat * 1))))
  (.ask (.in64 (y63 + 1)) (.nxt (.c1 x60 x61 x62 (y63 + 1)))))))))
  (.ret 0))
noncomputable def F35 (a58 : Nat) (a59 : List DV) : Option (Int) := res B35 (.c0 a58 a59)
noncomputable def D35_0 (a58 : Nat) (a59 : List DV) : DT cfz := (.go 13 [] [] (.cut 0 [[5, 6, 7]] []))
theorem k35_0 (a58 : Nat) (a59 : List DV) : xrun cfz 35 (D35_0 a58 a59) [] (st35 (.c0 a58 a59)) = (B35 (.c0 a58 a59)).mach st35 out35 := by kernel_rfl
noncomputable def D35_1 (x60 : Nat) (x61 : List DV) (x62 : Int) (y63 : Int) : DT cfz := (.go 5 [] [] (.split 8 (.go 15 [(.br true), (.as (.d (.v (.int .i64 (dI (cel x61 (y63.toNat * 1)))))))] [0] (.split 12 (.go 7 [(.br true)] [0] .fin) (.go 8 [(.br false)] [0] (.cut 0 [[5, 6, 7]] [])))) (.go 7 [(.br false)] [0] .fin)))
theorem k35_1 (x60 : Nat) (x61 : List DV) (x62 : Int) (y63 : Int) : xrun cfz 35 (D35_1 x60 x61 x62 y63) [] (st35 (.c1 x60 x61 x62 y63)) = (B35 (.c1 x60 x61 x62 y63)).mach st35 out35 := by kernel_rfl
theorem ok35 : ∀ s, ∃ d, xrun cfz 35 d [] (st35 s) = (B35 s).mach st35 out35
  | .c0 a58 a59 => ⟨_, k35_0 a58 a59⟩
  | .c1 x60 x61 x62 y63 => ⟨_, k35_1 x60 x61 x62 y63⟩
theorem f35 (a58 : Nat) (a59 : List DV) (v : Int) (h : F35 a58 a59 = some v) : PureCalls cfz.P cfz.glob 35 [(.d (.sl a58 a59))] (out35 v) := tree_pure knil ok35 (s := .c0 a58 a59) rfl (by kernel_rfl) v h

/-! F53 -/
inductive S53 where
  | c0 (a44 : Int) (a45 : Int) (a46 : Int) (a47 : Int)
def out53 (v : Int) : AV := (.d (.v (.int .i64 v)))
noncomputable def st53 : S53 → ASt
  | .c0 a44 a45 a46 a47 => ent cfz 53 [(.agg [(.d (.v (.int .i64 a44))), (.d (.v (.int .i64 a45))), (.d (.v (.int .i64 a46))), (.d (.v (.int .i64 a47)))])]
noncomputable def B53 : S53 → Tr S53 (Int)
  | .c0 a44 a45 a46 a47 => (.bind (F49 a44 0 100000000) fun v54 =>
  (.bind (F49 a45 (-1000000) 1000000) fun v55 =>
  (.bind (F49 a46 (-1000) 1000) fun v56 =>
  (.bind (F49 a47 2 1000) fun v57 =>
  (.bind (F35 4 [(.v (.int .i64 v54)), (.v (.int .i64 v55)), (.v (.int .i64 v56)), (.v (.int .i64 v57))]) fun v64 =>
  (.sees [(.d (.v (.int .i64 a44))), (.d (.v (.int .i64 0))), (.d (.v (.int .i64 100000000)))] (.sees [(.d (.v (.int .i64 a45))), (.d (.v (.int .i64 (-1000000)))), (.d (.v (.int .i64 1000000)))] (.sees [(.d (.v (.int .i64 a46))), (.d (.v (.int .i64 (-1000)))), (.d (.v (.int .i64 1000)))] (.sees [(.d (.v (.int .i64 a47))), (.d (.v (.int .i64 2))), (.d (.v (.int .i64 1000)))] (.sees [(.d (.sl 4 [(.v (.int .i64 v54)), (.v (.int .i64 v55)), (.v (.int .i64 v56)), (.v (.int .i64 v57))]))] (.ret v64)))))))))))
noncomputable def F53 (a44 : Int) (a45 : Int) (a46 : Int) (a47 : Int) : Option (Int) := res B53 (.c0 a44 a45 a46 a47)
noncomputable def D53_0 (a44 : Int) (a45 : Int) (a46 : Int) (a47 : Int) : DT cfz := (.go 7 [] [] (.bind (f49 a44 0 100000000) fun v54 => (.bind (f49 a45 (-1000000) 1000000) fun v55 => (.bind (f49 a46 (-1000) 1000) fun v56 => (.bind (f49 a47 2 1000) fun v57 => (.bind (f35 4 [(.v (.int .i64 v54)), (.v (.int .i64 v55)), (.v (.int .i64 v56)), (.v (.int .i64 v57))]) fun v64 => (.go 2 [(.ck 0), (.ck 1), (.ck 2), (.ck 3), (.ck 4)] [] .fin)))))))
theorem k53_0 (a44 : Int) (a45 : Int) (a46 : Int) (a47 : Int) : xrun cfz 53 (D53_0 a44 a45 a46 a47) [] (st53 (.c0 a44 a45 a46 a47)) = (B53 (.c0 a44 a45 a46 a47)).mach st53 out53 := by kernel_rfl
theorem ok53 : ∀ s, ∃ d, xrun cfz 53 d [] (st53 s) = (B53 s).mach st53 out53
  | .c0 a44 a45 a46 a47 => ⟨_, k53_0 a44 a45 a46 a47⟩
theorem f53 (a44 : Int) (a45 : Int) (a46 : Int) (a47 : Int) (v : Int) (h : F53 a44 a45 a46 a47 = some v) : PureCalls cfz.P cfz.glob 53 [(.agg [(.d (.v (.int .i64 a44))), (.d (.v (.int .i64 a45))), (.d (.v (.int .i64 a46))), (.d (.v (.int .i64 a47)))])] (out53 v) := tree_pure knil ok53 (s := .c0 a44 a45 a46 a47) rfl (by kernel_rfl) v h

/-! F50 -/
inductive S50 where
  | c0 (a39 : Int) (a40 : Int) (a41 : Int) (a42 : Int) (a43 : Int)
def out50 (v : Int) : AV := (.d (.v (.int .i64 v)))
noncomputable def st50 : S50 → ASt
  | .c0 a39 a40 a41 a42 a43 => ent cfz 50 [(.agg [(.d (.v (.int .i64 a39))), (.d (.v (.int .i64 a40))), (.d (.v (.int .i64 a41))), (.d (.v (.int .i64 a42)))]), (.d (.v (.int .i64 a43)))]
noncomputable def B50 : S50 → Tr S50 (Int)
  | .c0 a39 a40 a41 a42 a43 => (.bind (F53 a39 a40 a41 a42) fun v65 =>
  (.bind (F49 a43 0 100000000) fun v66 =>
  (.bind (F38 (decide (a43 < a39)) 11) fun v67 =>
  (.bind (F35 3 [(.v (.int .i64 v65)), (.v (.int .i64 v66)), (.v (.int .i64 v67))]) fun v68 =>
  (.sees [(.agg [(.d (.v (.int .i64 a39))), (.d (.v (.int .i64 a40))), (.d (.v (.int .i64 a41))), (.d (.v (.int .i64 a42)))])] (.sees [(.d (.v (.int .i64 a43))), (.d (.v (.int .i64 0))), (.d (.v (.int .i64 100000000)))] (.sees [(.d (.v (.bool (decide (a43 < a39))))), (.d (.v (.int .i64 11)))] (.sees [(.d (.sl 3 [(.v (.int .i64 v65)), (.v (.int .i64 v66)), (.v (.int .i64 v67))]))] (.ret v68)))))))))
noncomputable def F50 (a39 : Int) (a40 : Int) (a41 : Int) (a42 : Int) (a43 : Int) : Option (Int) := res B50 (.c0 a39 a40 a41 a42 a43)
noncomputable def D50_0 (a39 : Int) (a40 : Int) (a41 : Int) (a42 : Int) (a43 : Int) : DT cfz := (.go 7 [] [] (.bind (f53 a39 a40 a41 a42) fun v65 => (.bind (f49 a43 0 100000000) fun v66 => (.bind (f38 (decide (a43 < a39)) 11) fun v67 => (.bind (f35 3 [(.v (.int .i64 v65)), (.v (.int .i64 v66)), (.v (.int .i64 v67))]) fun v68 => (.go 2 [(.ck 0), (.ck 1), (.ck 2), (.ck 3)] [] .fin))))))
theorem k50_0 (a39 : Int) (a40 : Int) (a41 : Int) (a42 : Int) (a43 : Int) : xrun cfz 50 (D50_0 a39 a40 a41 a42 a43) [] (st50 (.c0 a39 a40 a41 a42 a43)) = (B50 (.c0 a39 a40 a41 a42 a43)).mach st50 out50 := by kernel_rfl
theorem ok50 : ∀ s, ∃ d, xrun cfz 50 d [] (st50 s) = (B50 s).mach st50 out50
  | .c0 a39 a40 a41 a42 a43 => ⟨_, k50_0 a39 a40 a41 a42 a43⟩
theorem f50 (a39 : Int) (a40 : Int) (a41 : Int) (a42 : Int) (a43 : Int) (v : Int) (h : F50 a39 a40 a41 a42 a43 = some v) : PureCalls cfz.P cfz.glob 50 [(.agg [(.d (.v (.int .i64 a39))), (.d (.v (.int .i64 a40))), (.d (.v (.int .i64 a41))), (.d (.v (.int .i64 a42)))]), (.d (.v (.int .i64 a43)))] (out50 v) := tree_pure knil ok50 (s := .c0 a39 a40 a41 a42 a43) rfl (by kernel_rfl) v h

/-! F51 -/
inductive S51 where
  | c0 (a73 : Int) (a74 : Int) (a75 : Int) (a76 : Int) (a77 : Int)
def out51 (v : Int) : AV := (.d (.v (.int .i64 v)))
noncomputable def st51 : S51 → ASt
  | .c0 a73 a74 a75 a76 a77 => ent cfz 51 [(.agg [(.d (.v (.int .i64 a73))), (.d (.v (.int .i64 a74))), (.d (.v (.int .i64 a75))), (.d (.v (.int .i64 a76)))]), (.d (.v (.int .i64 a77)))]
noncomputable def B51 : S51 → Tr S51 (Int)
  | .c0 a73 a74 a75 a76 a77 => (.ask (.in64 (a77 - a73)) (.ask (.neI a76 0) (.ask (.in64 ((a77 - a73).tdiv a76)) (.ask (.in64 (-a75)) (.br (decide (a75 < 0))
  (.ask (.in64 (-if (if -a75 > a75 then -a75 else a75) < (a77 - a73).tdiv a76 then if -a75 > a75 then -a75 else a75 else (a77 - a73).tdiv a76)) (.ask (.in64 (a77 + a74)) (.ask (.in64 (a77 + a74 + -if (if -a75 > a75 then -a75 else a75) < (a77 - a73).tdiv a76 then if -a75 > a75 then -a75 else a75 else (a77 - a73).tdiv a76)) (.ret (a77 + a74 + -if (if -a75 > a75 then -a75 else a75) < (a77 - a73).tdiv a76 then if -a75 > a75 then -a75 else a75 else (a77 - a73).tdiv a76)))))
  (.ask (.in64 (a77 + a74)) (.ask (.in64 (a77 + a74 + if (if -a75 > a75 then -a75 else a75) < (a77 - a73).tdiv a76 then if -a75 > a75 then -a75 else a75 else (a77 - a73).tdiv a76)) (.ret (a77 + a74 + if (if -a75 > a75 then -a75 else a75) < (a77 - a73).tdiv a76 then if -a75 > a75 then -a75 else a75 else (a77 - a73).tdiv a76)))))))))
noncomputable def F51 (a73 : Int) (a74 : Int) (a75 : Int) (a76 : Int) (a77 : Int) : Option (Int) := res B51 (.c0 a73 a74 a75 a76 a77)
noncomputable def D51_0 (a73 : Int) (a74 : Int) (a75 : Int) (a76 : Int) (a77 : Int) : DT cfz := (.go 15 [] [] (.split 22 (.go 17 [(.br true)] [0] .fin) (.go 13 [(.br false)] [0] .fin)))
theorem k51_0 (a73 : Int) (a74 : Int) (a75 : Int) (a76 : Int) (a77 : Int) : xrun cfz 51 (D51_0 a73 a74 a75 a76 a77) [] (st51 (.c0 a73 a74 a75 a76 a77)) = (B51 (.c0 a73 a74 a75 a76 a77)).mach st51 out51 := by kernel_rfl
theorem ok51 : ∀ s, ∃ d, xrun cfz 51 d [] (st51 s) = (B51 s).mach st51 out51
  | .c0 a73 a74 a75 a76 a77 => ⟨_, k51_0 a73 a74 a75 a76 a77⟩
theorem f51 (a73 : Int) (a74 : Int) (a75 : Int) (a76 : Int) (a77 : Int) (v : Int) (h : F51 a73 a74 a75 a76 a77 = some v) : PureCalls cfz.P cfz.glob 51 [(.agg [(.d (.v (.int .i64 a73))), (.d (.v (.int .i64 a74))), (.d (.v (.int .i64 a75))), (.d (.v (.int .i64 a76)))]), (.d (.v (.int .i64 a77)))] (out51 v) := tree_pure knil ok51 (s := .c0 a73 a74 a75 a76 a77) rfl (by kernel_rfl) v h

/-! F52 -/
inductive S52 where
  | c0 (a79 : Int)
def out52 (v : Int) : AV := (.d (.v (.int .i64 v)))
noncomputable def st52 : S52 → ASt
  | .c0 a79 => ent cfz 52 [(.d (.v (.int .i64 a79)))]
noncomputable def B52 : S52 → Tr S52 (Int)
  | .c0 a79 => (.triv _ (tv_s (decide (a79 < -1000000) == false)) (.triv _ (tv_f (decide (a79 < -1000000))) (.bind (F38 (if decide (a79 < -1000000) = true then true else decide (a79 > 1000000)) 4) fun v80 =>
  (.sees [(.d (.v (.bool (if decide (a79 < -1000000) = true then true else decide (a79 > 1000000))))), (.d (.v (.int .i64 4)))] (.ret v80)))))
noncomputable def F52 (a79 : Int) : Option (Int) := res B52 (.c0 a79)
noncomputable def D52_0 (a79 : Int) : DT cfz := (.go 12 [(.sp .none), (.sp .none), .mg] [] (.bind (f38 (if decide (a79 < -1000000) = true then true else decide (a79 > 1000000)) 4) fun v80 => (.go 4 [(.ck 0)] [] .fin)))
theorem k52_0 (a79 : Int) : xrun cfz 52 (D52_0 a79) [] (st52 (.c0 a79)) = (B52 (.c0 a79)).mach st52 out52 := by kernel_rfl
theorem ok52 : ∀ s, ∃ d, xrun cfz 52 d [] (st52 s) = (B52 s).mach st52 out52
  | .c0 a79 => ⟨_, k52_0 a79⟩
theorem f52 (a79 : Int) (v : Int) (h : F52 a79 = some v) : PureCalls cfz.P cfz.glob 52 [(.d (.v (.int .i64 a79)))] (out52 v) := tree_pure knil ok52 (s := .c0 a79) rfl (by kernel_rfl) v h

/-! F21 -/
inductive S21 where
  | c0 (a32 : Int) (a33 : Int) (a34 : Int) (a35 : Int) (a36 : Int) (a37 : Int) (a38 : Int)
def out21 (v : Int × Int × Int × Int × Int) : AV := (.tup [(.agg [(.d (.v (.int .i64 v.fst))), (.d (.v (.int .i64 v.snd.fst))), (.d (.v (.int .i64 v.snd.snd.fst))), (.d (.v (.int .i64 v.snd.snd.snd.fst)))]), (.d (.v (.int .i64 v.snd.snd.snd.snd)))])
noncomputable def st21 : S21 → ASt
  | .c0 a32 a33 a34 a35 a36 a37 a38 => ent cfz 21 [(.agg [(.d (.v (.int .i64 a32))), (.d (.v (.int .i64 a33))), (.d (.v (.int .i64 a34))), (.d (.v (.int .i64 a35)))]), (.d (.v (.int .i64 a36))), (.d (.v (.int .i64 a37))), (.d (.v (.int .i64 a38)))]
noncomputable def B21 : S21 → Tr S21 (Int × Int × Int × Int × Int)
  | .c0 a32 a33 a34 a35 a36 a37 a38 => (.bind (F50 a32 a33 a34 a35 a36) fun v69 =>
  (.sees [(.agg [(.d (.v (.int .i64 a32))), (.d (.v (.int .i64 a33))), (.d (.v (.int .i64 a34))), (.d (.v (.int .i64 a35)))]), (.d (.v (.int .i64 a36)))] (.bind (F49 a37 (-1000) 1000) fun v70 =>
  (.sees [(.d (.v (.int .i64 a37))), (.d (.v (.int .i64 (-1000)))), (.d (.v (.int .i64 1000)))] (.bind (F49 a38 2 1000) fun v71 =>
  (.sees [(.d (.v (.int .i64 a38))), (.d (.v (.int .i64 2))), (.d (.v (.int .i64 1000)))] (.bind (F35 3 [(.v (.int .i64 v69)), (.v (.int .i64 v70)), (.v (.int .i64 v71))]) fun v72 =>
  (.sees [(.d (.sl 3 [(.v (.int .i64 v69)), (.v (.int .i64 v70)), (.v (.int .i64 v71))]))] (.br (v72 != 0)
  (.ret (0, 0, 0, 0, v72))
  (.bind (F51 a32 a33 a34 a35 a36) fun v78 =>
  (.sees [(.agg [(.d (.v (.int .i64 a32))), (.d (.v (.int .i64 a33))), (.d (.v (.int .i64 a34))), (.d (.v (.int .i64 a35)))]), (.d (.v (.int .i64 a36)))] (.ask (.in64 (v78 - a36)) (.bind (F52 (v78 - a36)) fun v81 =>
  (.sees [(.d (.v (.int .i64 (v78 - a36))))] (.br (v81 != 0)
  (.ret (0, 0, 0, 0, v81))
  (.ret (a36, (v78 - a36), a37, a38, 0)))))))))))))))))
noncomputable def F21 (a32 : Int) (a33 : Int) (a34 : Int) (a35 : Int) (a36 : Int) (a37 : Int) (a38 : Int) : Option (Int × Int × Int × Int × Int) := res B21 (.c0 a32 a33 a34 a35 a36 a37 a38)
noncomputable def D21_0 (a32 : Int) (a33 : Int) (a34 : Int) (a35 : Int) (a36 : Int) (a37 : Int) (a38 : Int) : DT cfz := (.go 11 [] [] (.bind (f50 a32 a33 a34 a35 a36) fun v69 => (.go 2 [(.ck 0)] [] (.bind (f49 a37 (-1000) 1000) fun v70 => (.go 2 [(.ck 1)] [] (.bind (f49 a38 2 1000) fun v71 => (.go 2 [(.ck 2)] [] (.bind (f35 3 [(.v (.int .i64 v69)), (.v (.int .i64 v70)), (.v (.int .i64 v71))]) fun v72 => (.go 8 [(.ck 3)] [] (.split 23 (.go 9 [(.br true)] [0] .fin) (.go 6 [(.br false)] [0] (.bind (f51 a32 a33 a34 a35 a36) fun v78 => (.go 9 [(.ck 4)] [] (.bind (f52 (v78 - a36)) fun v81 => (.go 8 [(.ck 5)] [] (.split 34 (.go 9 [(.br true)] [0] .fin) (.go 13 [(.br false)] [0] .fin)))))))))))))))))
theorem k21_0 (a32 : Int) (a33 : Int) (a34 : Int) (a35 : Int) (a36 : Int) (a37 : Int) (a38 : Int) : xrun cfz 21 (D21_0 a32 a33 a34 a35 a36 a37 a38) [] (st21 (.c0 a32 a33 a34 a35 a36 a37 a38)) = (B21 (.c0 a32 a33 a34 a35 a36 a37 a38)).mach st21 out21 := by kernel_rfl
theorem ok21 : ∀ s, ∃ d, xrun cfz 21 d [] (st21 s) = (B21 s).mach st21 out21
  | .c0 a32 a33 a34 a35 a36 a37 a38 => ⟨_, k21_0 a32 a33 a34 a35 a36 a37 a38⟩
theorem f21 (a32 : Int) (a33 : Int) (a34 : Int) (a35 : Int) (a36 : Int) (a37 : Int) (a38 : Int) (v : Int × Int × Int × Int × Int) (h : F21 a32 a33 a34 a35 a36 a37 a38 = some v) : PureCalls cfz.P cfz.glob 21 [(.agg [(.d (.v (.int .i64 a32))), (.d (.v (.int .i64 a33))), (.d (.v (.int .i64 a34))), (.d (.v (.int .i64 a35)))]), (.d (.v (.int .i64 a36))), (.d (.v (.int .i64 a37))), (.d (.v (.int .i64 a38)))] (out21 v) := tree_pure knil ok21 (s := .c0 a32 a33 a34 a35 a36 a37 a38) rfl (by kernel_rfl) v h

/-! F22 -/
inductive S22 where
  | c0 (a83 : Int) (a84 : Int) (a85 : Int) (a86 : Int) (a87 : Int)
def out22 (v : Int × Int) : AV := (.tup [(.d (.v (.int .i64 v.fst))), (.d (.v (.int .i64 v.snd)))])
noncomputable def st22 : S22 → ASt
  | .c0 a83 a84 a85 a86 a87 => ent cfz 22 [(.agg [(.d (.v (.int .i64 a83))), (.d (.v (.int .i64 a84))), (.d (.v (.int .i64 a85))), (.d (.v (.int .i64 a86)))]), (.d (.v (.int .i64 a87)))]
noncomputable def B22 : S22 → Tr S22 (Int × Int)
  | .c0 a83 a84 a85 a86 a87 => (.bind (F50 a83 a84 a85 a86 a87) fun v88 =>
  (.sees [(.agg [(.d (.v (.int .i64 a83))), (.d (.v (.int .i64 a84))), (.d (.v (.int .i64 a85))), (.d (.v (.int .i64 a86)))]), (.d (.v (.int .i64 a87)))] (.br (v88 != 0)
  (.ret (0, v88))
  (.bind (F51 a83 a84 a85 a86 a87) fun v89 =>
  (.sees [(.agg [(.d (.v (.int .i64 a83))), (.d (.v (.int .i64 a84))), (.d (.v (.int .i64 a85))), (.d (.v (.int .i64 a86)))]), (.d (.v (.int .i64 a87)))] (.ret (v89, 0)))))))
noncomputable def F22 (a83 : Int) (a84 : Int) (a85 : Int) (a86 : Int) (a87 : Int) : Option (Int × Int) := res B22 (.c0 a83 a84 a85 a86 a87)
noncomputable def D22_0 (a83 : Int) (a84 : Int) (a85 : Int) (a86 : Int) (a87 : Int) : DT cfz := (.go 11 [] [] (.bind (f50 a83 a84 a85 a86 a87) fun v88 => (.go 8 [(.ck 0)] [] (.split 11 (.go 8 [(.br true)] [0] .fin) (.go 6 [(.br false)] [0] (.bind (f51 a83 a84 a85 a86 a87) fun v89 => (.go 5 [(.ck 1)] [] .fin)))))))
theorem k22_0 (a83 : Int) (a84 : Int) (a85 : Int) (a86 : Int) (a87 : Int) : xrun cfz 22 (D22_0 a83 a84 a85 a86 a87) [] (st22 (.c0 a83 a84 a85 a86 a87)) = (B22 (.c0 a83 a84 a85 a86 a87)).mach st22 out22 := by kernel_rfl
theorem ok22 : ∀ s, ∃ d, xrun cfz 22 d [] (st22 s) = (B22 s).mach st22 out22
  | .c0 a83 a84 a85 a86 a87 => ⟨_, k22_0 a83 a84 a85 a86 a87⟩
theorem f22 (a83 : Int) (a84 : Int) (a85 : Int) (a86 : Int) (a87 : Int) (v : Int × Int) (h : F22 a83 a84 a85 a86 a87 = some v) : PureCalls cfz.P cfz.glob 22 [(.agg [(.d (.v (.int .i64 a83))), (.d (.v (.int .i64 a84))), (.d (.v (.int .i64 a85))), (.d (.v (.int .i64 a86)))]), (.d (.v (.int .i64 a87)))] (out22 v) := tree_pure knil ok22 (s := .c0 a83 a84 a85 a86 a87) rfl (by kernel_rfl) v h

/-! F54 -/
inductive S54 where
  | c0 (a158 : Int) (a159 : Int)
def out54 (v : Int) : AV := (.d (.v (.int .i64 v)))
noncomputable def st54 : S54 → ASt
  | .c0 a158 a159 => ent cfz 54 [(.d (.v (.int .i64 a158))), (.d (.v (.int .i64 a159)))]
noncomputable def B54 : S54 → Tr S54 (Int)
  | .c0 a158 a159 => (.ask (.neI a159 0) (.ask (.in64 (a158.tdiv a159)) (.ask (.in64 (a158.tdiv a159 * a159)) (.br (decide (a158.tdiv a159 * a159 > a158))
  (.ask (.in64 (a158.tdiv a159 - 1)) (.ret (a158.tdiv a159 - 1)))
  (.ret (a158.tdiv a159))))))
noncomputable def F54 (a158 : Int) (a159 : Int) : Option (Int) := res B54 (.c0 a158 a159)
noncomputable def D54_0 (a158 : Int) (a159 : Int) : DT cfz := (.go 20 [] [] (.split 13 (.go 12 [(.br true)] [0] .fin) (.go 8 [(.br false)] [0] .fin)))
theorem k54_0 (a158 : Int) (a159 : Int) : xrun cfz 54 (D54_0 a158 a159) [] (st54 (.c0 a158 a159)) = (B54 (.c0 a158 a159)).mach st54 out54 := by kernel_rfl
theorem ok54 : ∀ s, ∃ d, xrun cfz 54 d [] (st54 s) = (B54 s).mach st54 out54
  | .c0 a158 a159 => ⟨_, k54_0 a158 a159⟩
theorem f54 (a158 : Int) (a159 : Int) (v : Int) (h : F54 a158 a159 = some v) : PureCalls cfz.P cfz.glob 54 [(.d (.v (.int .i64 a158))), (.d (.v (.int .i64 a159)))] (out54 v) := tree_pure knil ok54 (s := .c0 a158 a159) rfl (by kernel_rfl) v h

/-! F55 -/
inductive S55 where
  | c0 (a175 : Nat) (a176 : List DV)
def out55 (v : Nat × List DV) : AV := (.d (.sl v.fst v.snd))
noncomputable def st55 : S55 → ASt
  | .c0 a175 a176 => ent cfz 55 [(.d (.sl a175 a176))]
noncomputable def B55 : S55 → Tr S55 (Nat × List DV)
  | .c0 a175 a176 => (.ask (.le 0 ((↑a175 : Int))) (.ask (.le ((↑a175 : Int)) ((↑a175 : Int))) (.ask (.le ((↑a175 : Int)) ((↑a175 : Int))) (.ask (.eqN a176.length (a175 * 1)) (.ret (((↑a175 : Int).toNat - 0), (List.take (((↑a175 : Int).toNat - 0) * 1) (List.drop 0 a176))))))))
noncomputable def F55 (a175 : Nat) (a176 : List DV) : Option (Nat × List DV) := res B55 (.c0 a175 a176)
noncomputable def D55_0 (a175 : Nat) (a176 : List DV) : DT cfz := (.go 15 [] [0] .fin)
theorem k55_0 (a175 : Nat) (a176 : List DV) : xrun cfz 55 (D55_0 a175 a176) [] (st55 (.c0 a175 a176)) = (B55 (.c0 a175 a176)).mach st55 out55 := by kernel_rfl
theorem ok55 : ∀ s, ∃ d, xrun cfz 55 d [] (st55 s) = (B55 s).mach st55 out55
  | .c0 a175 a176 => ⟨_, k55_0 a175 a176⟩
theorem f55 (a175 : Nat) (a176 : List DV) (v : Nat × List DV) (h : F55 a175 a176 = some v) : PureCalls cfz.P cfz.glob 55 [(.d (.sl a175 a176))] (out55 v) := tree_pure knil ok55 (s := .c0 a175 a176) rfl (by kernel_rfl) v h

/-! F23 -/
inductive S23 where
  | c0 (a125 : Int) (a126 : Int) (a127 : Int) (a128 : Int) (a129 : Int) (a130 : Int) (a131 : Int)
  | c1 (x138 : Int) (x139 : Int) (y140 : Int) (x141 : Int) (x142 : Int) (x143 : Int) (x144 : Int) (x145 : Int) (x146 : Int)
  | c2 (x163 : Int) (y164 : Nat) (y165 : Nat) (y166 : List DV) (x167 : Int) (y168 : Int) (x169 : Int) (x170 : Int) (x171 : Int) (x172 : Int) (x173 : Int) (x174 : Int) (y182 : Nat)
def out23 (v : Nat × List DV × Int) : AV := (.tup [(.d (.sl v.fst v.snd.fst)), (.d (.v (.int .i64 v.snd.snd)))])
noncomputable def st23 : S23 → ASt
  | .c0 a125 a126 a127 a128 a129 a130 a131 => ent cfw 23 [(.agg [(.d (.v (.int .i64 a125))), (.d (.v (.int .i64 a126))), (.d (.v (.int .i64 a127))), (.d (.v (.int .i64 a128)))]), (.agg [(.d (.v (.int .i64 a129))), (.d (.v (.int .i64 a130)))]), (.d (.v (.int .i64 a131)))]
  | .c1 x138 x139 y140 x141 x142 x143 x144 x145 x146 => ⟨⟨23, sp 87 0 [(2, (.d (.v (.int .i64 x138)))), (3, (.ptr 0 0)), (4, (.ptr 1 0)), (10, (.d (.v (.slice .none 0 0)))), (54, (.d (.v (.int .i64 x139)))), (55, (.d (.v (.int .i64 y140))))], [(.code (cd cfw.P 23 [1, 1, 1, 1, 0, 1, 0, 0])), (.inLoop (cd cfw.P 23 [1, 1, 1, 1, 0, 1, 0, 0])), (.inBlock 0), (.code (cd cfw.P 23 [1, 1, 1, 1, 1]))], [], false, .none⟩, [], [(.cells [(.d (.v (.int .i64 x141))), (.d (.v (.int .i64 x142))), (.d (.v (.int .i64 x143))), (.d (.v (.int .i64 x144)))] 76), (.cells [(.d (.v (.int .i64 x145))), (.d (.v (.int .i64 x146)))] 68)]⟩
  | .c2 x163 y164 y165 y166 x167 y168 x169 x170 x171 x172 x173 x174 y182 => ⟨⟨23, sp 87 0 [(2, (.d (.v (.int .i64 x163)))), (3, (.ptr 0 0)), (4, (.ptr 1 0)), (10, (.own 3 y164 1 y165 y166)), (54, (.d (.v (.int .i64 x167)))), (55, (.d (.v (.int .i64 y168))))], [(.code (cd cfw.P 23 [1, 1, 1, 1, 0, 1, 0, 0])), (.inLoop (cd cfw.P 23 [1, 1, 1, 1, 0, 1, 0, 0])), (.inBlock 0), (.code (cd cfw.P 23 [1, 1, 1, 1, 1]))], [], false, .none⟩, [], [(.cells [(.d (.v (.int .i64 x169))), (.d (.v (.int .i64 x170))), (.d (.v (.int .i64 x171))), (.d (.v (.int .i64 x172)))] 76), (.cells [(.d (.v (.int .i64 x173))), (.d (.v (.int .i64 x174)))] 68), (.tail 0), (.tail y182)]⟩
noncomputable def B23 : S23 → Tr S23 (Nat × List DV × Int)
  | .c0 a125 a126 a127 a128 a129 a130 a131 => (.bind (F53 a125 a126 a127 a128) fun v132 =>
  (.br (decide (a129 < 0))
  (.bind (F38 true 14) fun v133 =>
  (.bind (F35 2 [(.v (.int .i64 v132)), (.v (.int .i64 v133))]) fun v134 =>
  (.sees [(.agg [(.d (.v (.int .i64 a125))), (.d (.v (.int .i64 a126))), (.d (.v (.int .i64 a127))), (.d (.v (.int .i64 a128)))])] (.ask (.eqB (decide (a129 < 0)) true) (.ask (.eqB (decide (a129 < 0)) true) (.ask (.eqB (decide (a129 < 0)) true) (.ask (.eqB (decide (a129 < 0)) true) (.ask (.eqB (decide (a129 < 0)) true) (.ask (.eqB (decide (a129 < 0)) true) (.sees [(.d (.v (.bool true))), (.d (.v (.int .i64 14)))] (.sees [(.d (.sl 2 [(.v (.int .i64 v132)), (.v (.int .i64 v133))]))] (.br (v134 != 0)
  (.ret (0, [], v134))
  (.bind (F38 (decide (IntKind.i64.wrap (a130 - a129) > 4096)) 5) fun v135 =>
  (.sees [(.d (.v (.bool (decide (IntKind.i64.wrap (a130 - a129) > 4096))))), (.d (.v (.int .i64 5)))] (.bind (F49 a131 2 100000) fun v136 =>
  (.sees [(.d (.v (.int .i64 a131))), (.d (.v (.int .i64 2))), (.d (.v (.int .i64 100000)))] (.bind (F35 2 [(.v (.int .i64 v135)), (.v (.int .i64 v136))]) fun v137 =>
  (.sees [(.d (.sl 2 [(.v (.int .i64 v135)), (.v (.int .i64 v136))]))] (.br (v137 != 0)
  (.ret (0, [], v137))
  (.nxt (.c1 a131 (IntKind.i64.wrap (a130 - a129)) 0 a125 a126 a127 a128 a129 a130)))))))))))))))))))))
  (.br (decide (a129 > a130))
  (.bind (F38 true 14) fun v147 =>
  (.bind (F35 2 [(.v (.int .i64 v132)), (.v (.int .i64 v147))]) fun v148 =>
  (.sees [(.agg [(.d (.v (.int .i64 a125))), (.d (.v (.int .i64 a126))), (.d (.v (.int .i64 a127))), (.d (.v (.int .i64 a128)))])] (.ask (.eqB (decide (a129 < 0)) false) (.ask (.eqB (decide (a129 < 0)) false) (.ask (.eqB (decide (a129 < 0)) false) (.ask (.eqB (decide (a129 < 0)) false) (.ask (.eqB (decide (a129 < 0)) false) (.ask (.eqB (decide (a129 < 0)) false) (.ask (.eqB (decide (a129 > a130)) true) (.ask (.eqB (decide (a129 > a130)) true) (.ask (.eqB (decide (a129 > a130)) true) (.ask (.eqB (decide (a129 > a130)) true) (.sees [(.d (.v (.bool true))), (.d (.v (.int .i64 14)))] (.sees [(.d (.sl 2 [(.v (.int .i64 v132)), (.v (.int .i64 v147))]))] (.br (v148 != 0)
  (.ret (0, [], v148))
  (.bind (F38 (decide (IntKind.i64.wrap (a130 - a129) > 4096)) 5) fun v149 =>
  (.sees [(.d (.v (.bool (decide (IntKind.i64.wrap (a130 - a129) > 4096))))), (.d (.v (.int .i64 5)))] (.bind (F49 a131 2 100000) fun v150 =>
  (.sees [(.d (.v (.int .i64 a131))), (.d (.v (.int .i64 2))), (.d (.v (.int .i64 100000)))] (.bind (F35 2 [(.v (.int .i64 v149)), (.v (.int .i64 v150))]) fun v151 =>
  (.sees [(.d (.sl 2 [(.v (.int .i64 v149)), (.v (.int .i64 v150))]))] (.br (v151 != 0)
  (.ret (0, [], v151))
  (.nxt (.c1 a131 (IntKind.i64.wrap (a130 - a129)) 0 a125 a126 a127 a128 a129 a130)))))))))))))))))))))))))
  (.bind (F38 (decide (a130 > 100000000)) 14) fun v152 =>
  (.bind (F35 2 [(.v (.int .i64 v132)), (.v (.int .i64 v152))]) fun v153 =>
  (.sees [(.agg [(.d (.v (.int .i64 a125))), (.d (.v (.int .i64 a126))), (.d (.v (.int .i64 a127))), (.d (.v (.int .i64 a128)))])] (.ask (.eqB (decide (a129 < 0)) false) (.ask (.eqB (decide (a129 < 0)) false) (.ask (.eqB (decide (a129 < 0)) false) (.ask (.eqB (decide (a129 < 0)) false) (.ask (.eqB (decide (a129 < 0)) false) (.ask (.eqB (decide (a129 < 0)) false) (.ask (.eqB (decide (a129 > a130)) false) (.ask (.eqB (decide (a129 > a130)) false) (.ask (.eqB (decide (a129 > a130)) false) (.ask (.eqB (decide (a129 > a130)) false) (.sees [(.d (.v (.bool (decide (a130 > 100000000))))), (.d (.v (.int .i64 14)))] (.sees [(.d (.sl 2 [(.v (.int .i64 v132)), (.v (.int .i64 v152))]))] (.br (v153 != 0)
  (.ret (0, [], v153))
  (.bind (F38 (decide (IntKind.i64.wrap (a130 - a129) > 4096)) 5) fun v154 =>
  (.sees [(.d (.v (.bool (decide (IntKind.i64.wrap (a130 - a129) > 4096))))), (.d (.v (.int .i64 5)))] (.bind (F49 a131 2 100000) fun v155 =>
  (.sees [(.d (.v (.int .i64 a131))), (.d (.v (.int .i64 2))), (.d (.v (.int .i64 100000)))] (.bind (F35 2 [(.v (.int .i64 v154)), (.v (.int .i64 v155))]) fun v156 =>
  (.sees [(.d (.sl 2 [(.v (.int .i64 v154)), (.v (.int .i64 v155))]))] (.br (v156 != 0)
  (.ret (0, [], v156))
  (.nxt (.c1 a131 (IntKind.i64.wrap (a130 - a129)) 0 a125 a126 a127 a128 a129 a130))))))))))))))))))))))))))))
  | .c1 x138 x139 y140 x141 x142 x143 x144 x145 x146 => (.br (decide (y140 < x139))
  (.bind (F51 x141 x142 x143 x144 (IntKind.i64.wrap (x145 + y140))) fun v157 =>
  (.bind (F54 v157 x138) fun v160 =>
  (.bind (F51 x141 x142 x143 x144 (IntKind.i64.wrap (IntKind.i64.wrap (x145 + y140) - 1))) fun v161 =>
  (.bind (F54 v161 x138) fun v162 =>
  (.sees [(.agg [(.d (.v (.int .i64 x141))), (.d (.v (.int .i64 x142))), (.d (.v (.int .i64 x143))), (.d (.v (.int .i64 x144)))]), (.d (.v (.int .i64 (IntKind.i64.wrap (x145 + y140)))))] (.triv _ (tv_s (decide (IntKind.i64.wrap (x145 + y140) > x141) == true)) (.triv _ (tv_s (decide (IntKind.i64.wrap (x145 + y140) > x141) == true)) (.sees [(.d (.v (.int .i64 v157))), (.d (.v (.int .i64 x138)))] (.triv _ (tv_s (decide (IntKind.i64.wrap (x145 + y140) > x141) == true)) (.triv _ (tv_s (decide (IntKind.i64.wrap (x145 + y140) > x141) == true)) (.triv _ (tv_s (decide (IntKind.i64.wrap (x145 + y140) > x141) == true)) (.sees [(.agg [(.d (.v (.int .i64 x141))), (.d (.v (.int .i64 x142))), (.d (.v (.int .i64 x143))), (.d (.v (.int .i64 x144)))]), (.d (.v (.int .i64 (IntKind.i64.wrap (IntKind.i64.wrap (x145 + y140) - 1)))))] (.triv _ (tv_s (decide (IntKind.i64.wrap (x145 + y140) > x141) == true)) (.triv _ (tv_s (decide (IntKind.i64.wrap (x145 + y140) > x141) == true)) (.sees [(.d (.v (.int .i64 v161))), (.d (.v (.int .i64 x138)))] (.triv _ (tv_s (decide (IntKind.i64.wrap (x145 + y140) > x141) == true)) (.triv _ (tv_s (decide (IntKind.i64.wrap (x145 + y140) > x141) == true)) (.triv _ (tv_s (decide (IntKind.i64.wrap (x145 + y140) > x141) == true)) (.triv _ (tv_s (decide (IntKind.i64.wrap (x145 + y140) > x141) == true)) (.triv _ (tv_t (decide (IntKind.i64.wrap (x145 + y140) > x141))) (.br (if decide (IntKind.i64.wrap (x145 + y140) > x141) = true then decide (v160 > v162) else false)
  (.nxt (.c2 x138 0 1 [(.v (.int .i64 (IntKind.i64.wrap (x145 + y140))))] x139 (IntKind.i64.wrap (y140 + 1)) x141 x142 x143 x144 x145 x146 0))
  (.nxt (.c1 x138 x139 (IntKind.i64.wrap (y140 + 1)) x141 x142 x143 x144 x145 x146)))))))))))))))))))))))
  (.bind (F55 0 []) fun v177 =>
  (.sees [(.d (.sl 0 []))] (.ret (v177.fst, v177.snd, 0)))))
  | .c2 x163 y164 y165 y166 x167 y168 x169 x170 x171 x172 x173 x174 y182 => (.br (decide (y168 < x167))
  (.bind (F51 x169 x170 x171 x172 (IntKind.i64.wrap (x173 + y168))) fun v184 =>
  (.bind (F54 v184 x163) fun v185 =>
  (.bind (F51 x169 x170 x171 x172 (IntKind.i64.wrap (IntKind.i64.wrap (x173 + y168) - 1))) fun v186 =>
  (.bind (F54 v186 x163) fun v187 =>
  (.sees [(.agg [(.d (.v (.int .i64 x169))), (.d (.v (.int .i64 x170))), (.d (.v (.int .i64 x171))), (.d (.v (.int .i64 x172)))]), (.d (.v (.int .i64 (IntKind.i64.wrap (x173 + y168)))))] (.triv _ (tv_s (decide (IntKind.i64.wrap (x173 + y168) > x169) == true)) (.triv _ (tv_s (decide (IntKind.i64.wrap (x173 + y168) > x169) == true)) (.sees [(.d (.v (.int .i64 v184))), (.d (.v (.int .i64 x163)))] (.triv _ (tv_s (decide (IntKind.i64.wrap (x173 + y168) > x169) == true)) (.triv _ (tv_s (decide (IntKind.i64.wrap (x173 + y168) > x169) == true)) (.triv _ (tv_s (decide (IntKind.i64.wrap (x173 + y168) > x169) == true)) (.sees [(.agg [(.d (.v (.int .i64 x169))), (.d (.v (.int .i64 x170))), (.d (.v (.int .i64 x171))), (.d (.v (.int .i64 x172)))]), (.d (.v (.int .i64 (IntKind.i64.wrap (IntKind.i64.wrap (x173 + y168) - 1)))))] (.triv _ (tv_s (decide (IntKind.i64.wrap (x173 + y168) > x169) == true)) (.triv _ (tv_s (decide (IntKind.i64.wrap (x173 + y168) > x169) == true)) (.sees [(.d (.v (.int .i64 v186))), (.d (.v (.int .i64 x163)))] (.triv _ (tv_s (decide (IntKind.i64.wrap (x173 + y168) > x169) == true)) (.triv _ (tv_s (decide (IntKind.i64.wrap (x173 + y168) > x169) == true)) (.triv _ (tv_s (decide (IntKind.i64.wrap (x173 + y168) > x169) == true)) (.triv _ (tv_s (decide (IntKind.i64.wrap (x173 + y168) > x169) == true)) (.triv _ (tv_t (decide (IntKind.i64.wrap (x173 + y168) > x169))) (.br (if decide (IntKind.i64.wrap (x173 + y168) > x169) = true then decide (v185 > v187) else false)
  (.ask (.eqN y164 y182) (.ask (.fits (y165 + 1) 8) (.nxt (.c2 x163 (y182 + 1) (y165 + 1) (y166 ++ [DV.v (Value.int IntKind.i64 (IntKind.i64.wrap (x173 + y168)))]) x167 (IntKind.i64.wrap (y168 + 1)) x169 x170 x171 x172 x173 x174 (y182 + 1)))))
  (.nxt (.c2 x163 y164 y165 y166 x167 (IntKind.i64.wrap (y168 + 1)) x169 x170 x171 x172 x173 x174 y182)))))))))))))))))))))))
  (.bind (F55 y165 y166) fun v188 =>
  (.sees [(.d (.sl y165 y166))] (.ret (v188.fst, v188.snd, 0)))))
noncomputable def F23 (a125 : Int) (a126 : Int) (a127 : Int) (a128 : Int) (a129 : Int) (a130 : Int) (a131 : Int) : Option (Nat × List DV × Int) := res B23 (.c0 a125 a126 a127 a128 a129 a130 a131)
noncomputable def D23_0 (a125 : Int) (a126 : Int) (a127 : Int) (a128 : Int) (a129 : Int) (a130 : Int) (a131 : Int) : DT cfw := (.go 10 [] [] (.bind (f53 a125 a126 a127 a128) fun v132 => (.br (decide (a129 < 0)) (.bind (f38 true 14) fun v133 => (.bind (f35 2 [(.v (.int .i64 v132)), (.v (.int .i64 v133))]) fun v134 => (.go 6 [.none, (.ck 0), .none, (.br true), (.br true), (.br true), (.br true), (.br true), (.br true), (.br true), (.br true), (.br true), (.ck 1), (.ck 2)] [7, 8, 9] (.split 34 (.go 8 [(.br true)] [0] .fin) (.go 11 [(.br false)] [0] (.bind (f38 (decide (IntKind.i64.wrap (a130 - a129) > 4096)) 5) fun v135 => (.go 2 [(.ck 3)] [] (.bind (f49 a131 2 100000) fun v136 => (.go 2 [(.ck 4)] [] (.bind (f35 2 [(.v (.int .i64 v135)), (.v (.int .i64 v136))]) fun v137 => (.go 8 [(.ck 5)] [] (.split 48 (.go 8 [(.br true)] [0] .fin) (.go 18 [(.br false)] [0] (.cut 2 [[2, 3, 4, 10, 54, 55]] [])))))))))))))) (.br (decide (a129 > a130)) (.bind (f38 true 14) fun v147 => (.bind (f35 2 [(.v (.int .i64 v132)), (.v (.int .i64 v147))]) fun v148 => (.go 6 [.none, (.ck 0), .none, (.br false), (.br false), .none, (.br false), (.br false), .none, (.br false), (.br false), (.br true), (.br true), (.br true), (.br true), (.ck 1), (.ck 2)] [] (.split 34 (.go 8 [(.br true)] [0] .fin) (.go 11 [(.br false)] [0] (.bind (f38 (decide (IntKind.i64.wrap (a130 - a129) > 4096)) 5) fun v149 => (.go 2 [(.ck 3)] [] (.bind (f49 a131 2 100000) fun v150 => (.go 2 [(.ck 4)] [] (.bind (f35 2 [(.v (.int .i64 v149)), (.v (.int .i64 v150))]) fun v151 => (.go 8 [(.ck 5)] [] (.split 48 (.go 8 [(.br true)] [0] .fin) (.go 18 [(.br false)] [0] (.cut 2 [[2, 3, 4, 10, 54, 55]] [])))))))))))))) (.bind (f38 (decide (a130 > 100000000)) 14) fun v152 => (.bind (f35 2 [(.v (.int .i64 v132)), (.v (.int .i64 v152))]) fun v153 => (.go 6 [.none, (.ck 0), .none, (.br false), (.br false), .none, (.br false), (.br false), .none, (.br false), (.br false), (.br false), (.br false), .none, (.br false), (.br false), (.ck 1), (.ck 2)] [] (.split 34 (.go 8 [(.br true)] [0] .fin) (.go 11 [(.br false)] [0] (.bind (f38 (decide (IntKind.i64.wrap (a130 - a129) > 4096)) 5) fun v154 => (.go 2 [(.ck 3)] [] (.bind (f49 a131 2 100000) fun v155 => (.go 2 [(.ck 4)] [] (.bind (f35 2 [(.v (.int .i64 v154)), (.v (.int .i64 v155))]) fun v156 => (.go 8 [(.ck 5)] [] (.split 48 (.go 8 [(.br true)] [0] .fin) (.go 18 [(.br false)] [0] (.cut 2 [[2, 3, 4, 10, 54, 55]] []))))))))))))))))))
theorem k23_0 (a125 : Int) (a126 : Int) (a127 : Int) (a128 : Int) (a129 : Int) (a130 : Int) (a131 : Int) : xrun cfw 23 (D23_0 a125 a126 a127 a128 a129 a130 a131) [] (st23 (.c0 a125 a126 a127 a128 a129 a130 a131)) = (B23 (.c0 a125 a126 a127 a128 a129 a130 a131)).mach st23 out23 := by kernel_rfl
noncomputable def D23_1 (x138 : Int) (x139 : Int) (y140 : Int) (x141 : Int) (x142 : Int) (x143 : Int) (x144 : Int) (x145 : Int) (x146 : Int) : DT cfw := (.go 5 [] [] (.split 56 (.go 19 [(.br true)] [0] (.bind (f51 x141 x142 x143 x144 (IntKind.i64.wrap (x145 + y140))) fun v157 => (.bind (f54 v157 x138) fun v160 => (.bind (f51 x141 x142 x143 x144 (IntKind.i64.wrap (IntKind.i64.wrap (x145 + y140) - 1))) fun v161 => (.bind (f54 v161 x138) fun v162 => (.go 1 [.none, (.sp .none), (.sp .none), (.sp (.some 0)), (.sp .none), (.sp (.some 1)), (.sp .none), (.sp .none), (.sp .none), (.sp (.some 2)), (.sp .none), (.sp (.some 3)), (.sp .none), .mg] [] (.split 79 (.go 14 [(.br true)] [0, 1, 2, 3] (.cut 4 [[2, 3, 4, 10, 54, 55]] [])) (.go 8 [(.br false)] [0] (.cut 2 [[2, 3, 4, 10, 54, 55]] []))))))))) (.go 5 [(.br false)] [0] (.bind (f55 0 []) fun v177 => (.go 5 [(.ck 0)] [] .fin)))))
theorem k23_1 (x138 : Int) (x139 : Int) (y140 : Int) (x141 : Int) (x142 : Int) (x143 : Int) (x144 : Int) (x145 : Int) (x146 : Int) : xrun cfw 23 (D23_1 x138 x139 y140 x141 x142 x143 x144 x145 x146) [] (st23 (.c1 x138 x139 y140 x141 x142 x143 x144 x145 x146)) = (B23 (.c1 x138 x139 y140 x141 x142 x143 x144 x145 x146)).mach st23 out23 := by kernel_rfl
noncomputable def D23_2 (x163 : Int) (y164 : Nat) (y165 : Nat) (y166 : List DV) (x167 : Int) (y168 : Int) (x169 : Int) (x170 : Int) (x171 : Int) (x172 : Int) (x173 : Int) (x174 : Int) (y182 : Nat) : DT cfw := (.go 5 [] [] (.split 56 (.go 19 [(.br true)] [0] (.bind (f51 x169 x170 x171 x172 (IntKind.i64.wrap (x173 + y168))) fun v184 => (.bind (f54 v184 x163) fun v185 => (.bind (f51 x169 x170 x171 x172 (IntKind.i64.wrap (IntKind.i64.wrap (x173 + y168) - 1))) fun v186 => (.bind (f54 v186 x163) fun v187 => (.go 1 [.none, (.sp .none), (.sp .none), (.sp (.some 0)), (.sp .none), (.sp (.some 1)), (.sp .none), (.sp .none), (.sp .none), (.sp (.some 2)), (.sp .none), (.sp (.some 3)), (.sp .none), .mg] [] (.split 79 (.go 14 [(.br true)] [0, 2, 3] (.cut 4 [[2, 3, 4, 10, 54, 55]] [])) (.go 8 [(.br false)] [0] (.cut 4 [[2, 3, 4, 10, 54, 55]] []))))))))) (.go 5 [(.br false)] [0] (.bind (f55 y165 y166) fun v188 => (.go 5 [(.ck 0)] [] .fin)))))
theorem k23_2 (x163 : Int) (y164 : Nat) (y165 : Nat) (y166 : List DV) (x167 : Int) (y168 : Int) (x169 : Int) (x170 : Int) (x171 : Int) (x172 : Int) (x173 : Int) (x174 : Int) (y182 : Nat) : xrun cfw 23 (D23_2 x163 y164 y165 y166 x167 y168 x169 x170 x171 x172 x173 x174 y182) [] (st23 (.c2 x163 y164 y165 y166 x167 y168 x169 x170 x171 x172 x173 x174 y182)) = (B23 (.c2 x163 y164 y165 y166 x167 y168 x169 x170 x171 x172 x173 x174 y182)).mach st23 out23 := by kernel_rfl
theorem ok23 : ∀ s, ∃ d, xrun cfw 23 d [] (st23 s) = (B23 s).mach st23 out23
  | .c0 a125 a126 a127 a128 a129 a130 a131 => ⟨_, k23_0 a125 a126 a127 a128 a129 a130 a131⟩
  | .c1 x138 x139 y140 x141 x142 x143 x144 x145 x146 => ⟨_, k23_1 x138 x139 y140 x141 x142 x143 x144 x145 x146⟩
  | .c2 x163 y164 y165 y166 x167 y168 x169 x170 x171 x172 x173 x174 y182 => ⟨_, k23_2 x163 y164 y165 y166 x167 y168 x169 x170 x171 x172 x173 x174 y182⟩
theorem f23 (a125 : Int) (a126 : Int) (a127 : Int) (a128 : Int) (a129 : Int) (a130 : Int) (a131 : Int) (v : Nat × List DV × Int) (h : F23 a125 a126 a127 a128 a129 a130 a131 = some v) : PureCalls cfw.P cfw.glob 23 [(.agg [(.d (.v (.int .i64 a125))), (.d (.v (.int .i64 a126))), (.d (.v (.int .i64 a127))), (.d (.v (.int .i64 a128)))]), (.agg [(.d (.v (.int .i64 a129))), (.d (.v (.int .i64 a130)))]), (.d (.v (.int .i64 a131)))] (out23 v) := tree_pure knilw ok23 (s := .c0 a125 a126 a127 a128 a129 a130 a131) rfl (by kernel_rfl) v h

/-! F24 -/
inductive S24 where
  | c0 (a204 : Int) (a205 : Int) (a206 : Int) (a207 : Int) (a208 : Int) (a209 : Int)
def out24 (v : Int × Int × Int × Int × Int) : AV := (.tup [(.agg [(.d (.v (.int .i64 v.fst))), (.d (.v (.int .i64 v.snd.fst))), (.d (.v (.int .i64 0))), (.d (.v (.int .i64 v.snd.snd.fst)))]), (.d (.v (.int .i64 v.snd.snd.snd.fst))), (.d (.v (.int .i64 v.snd.snd.snd.snd)))])
noncomputable def st24 : S24 → ASt
  | .c0 a204 a205 a206 a207 a208 a209 => ent cfz 24 [(.agg [(.d (.v (.int .i64 a204))), (.d (.v (.int .i64 a205))), (.d (.v (.int .i64 a206))), (.d (.v (.int .i64 a207)))]), (.d (.v (.int .i64 a208))), (.d (.v (.int .i64 a209)))]
noncomputable def B24 : S24 → Tr S24 (Int × Int × Int × Int × Int)
  | .c0 a204 a205 a206 a207 a208 a209 => (.bind (F50 a204 a205 a206 a207 a208) fun v210 =>
  (.sees [(.agg [(.d (.v (.int .i64 a204))), (.d (.v (.int .i64 a205))), (.d (.v (.int .i64 a206))), (.d (.v (.int .i64 a207)))]), (.d (.v (.int .i64 a208)))] (.bind (F49 a209 0 200000000) fun v211 =>
  (.sees [(.d (.v (.int .i64 a209))), (.d (.v (.int .i64 0))), (.d (.v (.int .i64 200000000)))] (.bind (F35 2 [(.v (.int .i64 v210)), (.v (.int .i64 v211))]) fun v212 =>
  (.sees [(.d (.sl 2 [(.v (.int .i64 v210)), (.v (.int .i64 v211))]))] (.br (v212 != 0)
  (.ret (0, 0, 0, 0, v212))
  (.ask (.in64 (a209 - a208)) (.bind (F52 (a209 - a208)) fun v213 =>
  (.sees [(.d (.v (.int .i64 (a209 - a208))))] (.br (v213 != 0)
  (.ret (0, 0, 0, 0, v213))
  (.bind (F51 a204 a205 a206 a207 a208) fun v214 =>
  (.ask (.in64 (a209 - a208)) (.sees [(.agg [(.d (.v (.int .i64 a204))), (.d (.v (.int .i64 a205))), (.d (.v (.int .i64 a206))), (.d (.v (.int .i64 a207)))]), (.d (.v (.int .i64 a208)))] (.ask (.in64 (a209 - v214)) (.ret (a208, (a209 - a208), a207, (a209 - v214), 0)))))))))))))))))
noncomputable def F24 (a204 : Int) (a205 : Int) (a206 : Int) (a207 : Int) (a208 : Int) (a209 : Int) : Option (Int × Int × Int × Int × Int) := res B24 (.c0 a204 a205 a206 a207 a208 a209)
noncomputable def D24_0 (a204 : Int) (a205 : Int) (a206 : Int) (a207 : Int) (a208 : Int) (a209 : Int) : DT cfz := (.go 12 [] [] (.bind (f50 a204 a205 a206 a207 a208) fun v210 => (.go 2 [(.ck 0)] [] (.bind (f49 a209 0 200000000) fun v211 => (.go 2 [(.ck 1)] [] (.bind (f35 2 [(.v (.int .i64 v210)), (.v (.int .i64 v211))]) fun v212 => (.go 8 [(.ck 2)] [] (.split 19 (.go 10 [(.br true)] [0] .fin) (.go 8 [(.br false)] [0] (.bind (f52 (a209 - a208)) fun v213 => (.go 8 [(.ck 3)] [] (.split 27 (.go 10 [(.br true)] [0] .fin) (.go 4 [(.br false)] [0] (.bind (f51 a204 a205 a206 a207 a208) fun v214 => (.go 2 [(.ck 4)] [] .fin)))))))))))))))
theorem k24_0 (a204 : Int) (a205 : Int) (a206 : Int) (a207 : Int) (a208 : Int) (a209 : Int) : xrun cfz 24 (D24_0 a204 a205 a206 a207 a208 a209) [] (st24 (.c0 a204 a205 a206 a207 a208 a209)) = (B24 (.c0 a204 a205 a206 a207 a208 a209)).mach st24 out24 := by kernel_rfl
theorem ok24 : ∀ s, ∃ d, xrun cfz 24 d [] (st24 s) = (B24 s).mach st24 out24
  | .c0 a204 a205 a206 a207 a208 a209 => ⟨_, k24_0 a204 a205 a206 a207 a208 a209⟩
theorem f24 (a204 : Int) (a205 : Int) (a206 : Int) (a207 : Int) (a208 : Int) (a209 : Int) (v : Int × Int × Int × Int × Int) (h : F24 a204 a205 a206 a207 a208 a209 = some v) : PureCalls cfz.P cfz.glob 24 [(.agg [(.d (.v (.int .i64 a204))), (.d (.v (.int .i64 a205))), (.d (.v (.int .i64 a206))), (.d (.v (.int .i64 a207)))]), (.d (.v (.int .i64 a208))), (.d (.v (.int .i64 a209)))] (out24 v) := tree_pure knil ok24 (s := .c0 a204 a205 a206 a207 a208 a209) rfl (by kernel_rfl) v h

/-! F5 -/
inductive S5 where
  | c0 (a0 : Int) (a1 : Int) (a2 : Int) (a3 : Int) (a4 : Int) (a5 : Int) (a6 : Int) (a7 : Int)
  | c1 (x93 : Int) (x94 : Int) (x95 : Int) (x96 : Int) (y97 : Int) (y98 : Int) (y99 : Int) (x100 : Int) (x101 : Int) (x102 : Int) (x103 : Int) (x104 : Int) (x105 : Int) (x106 : Int) (x107 : Int)
  | c2 (x109 : Int) (x110 : Int) (x111 : Int) (x112 : Int) (y113 : Int) (x114 : Int) (x115 : Int) (y116 : Int) (x117 : Int) (x118 : Int) (x119 : Int) (x120 : Int) (x121 : Int) (x122 : Int) (x123 : Int) (x124 : Int)
  | c3 (x190 : Int) (x191 : Int) (x192 : Nat) (x193 : List DV) (x194 : Int) (y195 : Int) (x196 : Int) (x197 : Int) (x198 : Int) (x199 : Int) (x200 : Int) (x201 : Int) (x202 : Int) (x203 : Int)
def out5 (v : Bool) : AV := (.d (.v (.bool v)))
noncomputable def st5 : S5 → ASt
  | .c0 a0 a1 a2 a3 a4 a5 a6 a7 => ent cfz 5 [(.agg [(.d (.v (.int .i64 a0))), (.d (.v (.int .i64 a1))), (.d (.v (.int .i64 a2))), (.d (.v (.int .i64 a3)))]), (.agg [(.d (.v (.int .u16 a4))), (.d (.v (.int .u16 a5))), (.d (.v (.int .u16 a6))), (.d (.v (.int .u16 a7)))])]
  | .c1 x93 x94 x95 x96 y97 y98 y99 x100 x101 x102 x103 x104 x105 x106 x107 => ⟨⟨5, sp 272 0 [(3, (.ptr 1 0)), (5, (.d (.v (.int .i64 x93)))), (6, (.d (.v (.int .i64 x94)))), (8, (.d (.v (.int .i64 x95)))), (9, (.ptr 2 0)), (11, (.d (.v (.int .i64 x96)))), (15, (.d (.v (.int .i64 y97)))), (16, (.d (.v (.int .i64 y98)))), (17, (.d (.v (.int .i64 y99))))], [(.code (cd cfz.P 5 [1, 1, 1, 1, 1, 1, 1, 1, 1, 1, 0, 1, 0, 0])), (.inLoop (cd cfz.P 5 [1, 1, 1, 1, 1, 1, 1, 1, 1, 1, 0, 1, 0, 0])), (.inBlock 0), (.code (cd cfz.P 5 [1, 1, 1, 1, 1, 1, 1, 1, 1, 1, 1]))], [], false, .none⟩, [], [.dead, (.cells [(.d (.v (.int .u16 x100))), (.d (.v (.int .u16 x101))), (.d (.v (.int .u16 x102))), (.d (.v (.int .u16 x103)))] 53), (.cells [(.d (.v (.int .i64 x104))), (.d (.v (.int .i64 x105))), (.d (.v (.int .i64 x106))), (.d (.v (.int .i64 x107)))] 76)]⟩
  | .c2 x109 x110 x111 x112 y113 x114 x115 y116 x117 x118 x119 x120 x121 x122 x123 x124 => ⟨⟨5, sp 272 0 [(3, (.ptr 1 0)), (5, (.d (.v (.int .i64 x109)))), (6, (.d (.v (.int .i64 x110)))), (8, (.d (.v (.int .i64 x111)))), (9, (.ptr 2 0)), (11, (.d (.v (.int .i64 x112)))), (16, (.d (.v (.int .i64 y113)))), (17, (.d (.v (.int .i64 x114)))), (18, (.d (.v (.int .i64 x115)))), (20, (.d (.v (.int .i64 y116))))], [(.code (cd cfz.P 5 [1, 1, 1, 1, 1, 1, 1, 1, 1, 1, 0, 1, 0, 0, 1, 0, 0, 1, 1, 0, 1, 0, 0])), (.inLoop (cd cfz.P 5 [1, 1, 1, 1, 1, 1, 1, 1, 1, 1, 0, 1, 0, 0, 1, 0, 0, 1, 1, 0, 1, 0, 0])), (.inBlock 2), (.code (cd cfz.P 5 [1, 1, 1, 1, 1, 1, 1, 1, 1, 1, 0, 1, 0, 0, 1, 0, 0, 1, 1, 1])), (.inBlock 1), (.code (cd cfz.P 5 [1, 1, 1, 1, 1, 1, 1, 1, 1, 1, 0, 1, 0, 0, 1, 1])), (.inLoop (cd cfz.P 5 [1, 1, 1, 1, 1, 1, 1, 1, 1, 1, 0, 1, 0, 0])), (.inBlock 0), (.code (cd cfz.P 5 [1, 1, 1, 1, 1, 1, 1, 1, 1, 1, 1]))], [], false, .none⟩, [], [.dead, (.cells [(.d (.v (.int .u16 x117))), (.d (.v (.int .u16 x118))), (.d (.v (.int .u16 x119))), (.d (.v (.int .u16 x120)))] 53), (.cells [(.d (.v (.int .i64 x121))), (.d (.v (.int .i64 x122))), (.d (.v (.int .i64 x123))), (.d (.v (.int .i64 x124)))] 76)]⟩
  | .c3 x190 x191 x192 x193 x194 y195 x196 x197 x198 x199 x200 x201 x202 x203 => ⟨⟨5, sp 272 0 [(3, (.ptr 1 0)), (5, (.d (.v (.int .i64 x190)))), (9, (.ptr 2 0)), (15, (.d (.v (.int .i64 x191)))), (21, (.d (.sl x192 x193))), (181, (.d (.sl x192 x193))), (182, (.d (.v (.int .i64 x194)))), (183, (.d (.v (.int .i64 y195))))], [(.code (cd cfz.P 5 [1, 1, 1, 1, 1, 1, 1, 1, 1, 1, 1, 1, 1, 0, 1, 0, 0])), (.inLoop (cd cfz.P 5 [1, 1, 1, 1, 1, 1, 1, 1, 1, 1, 1, 1, 1, 0, 1, 0, 0])), (.inBlock 4), (.code (cd cfz.P 5 [1, 1, 1, 1, 1, 1, 1, 1, 1, 1, 1, 1, 1, 1]))], [], false, .none⟩, [], [.dead, (.cells [(.d (.v (.int .u16 x196))), (.d (.v (.int .u16 x197))), (.d (.v (.int .u16 x198))), (.d (.v (.int .u16 x199)))] 53), (.cells [(.d (.v (.int .i64 x200))), (.d (.v (.int .i64 x201))), (.d (.v (.int .i64 x202))), (.d (.v (.int .i64 x203)))] 76)]⟩
noncomputable def B5 : S5 → Tr S5 (Bool)
  | .c0 a0 a1 a2 a3 a4 a5 a6 a7 => (.bind (F20 a0 a1 a2 a3) fun v28 =>
  (.sees [(.agg [(.d (.v (.int .i64 a0))), (.d (.v (.int .i64 a1))), (.d (.v (.int .i64 a2))), (.d (.v (.int .i64 a3)))])] (.br (v28 != 0)
  (.bind (F7) fun v29 =>
  (.sees [] (.ret v29)))
  (.ask (.in64 (-a1)) (.br (decide ((if -a1 > a1 then -a1 else a1) > 10000))
  (.bind (F7) fun v30 =>
  (.sees [] (.ret v30)))
  (.br (decide (a0 > 99980000))
  (.bind (F7) fun v31 =>
  (.sees [] (.ret v31)))
  (.ask (.in64 (a0 + (IntKind.i64.wrap a4).tmod 100)) (.ask (.in64 ((IntKind.i64.wrap a5).tmod 81 - 40)) (.ask (.in64 (2 + (IntKind.i64.wrap a6).tmod 4)) (.ask (.in64 (2 + (IntKind.i64.wrap a7).tmod 50)) (.bind (F21 a0 a1 a2 a3 (a0 + (IntKind.i64.wrap a4).tmod 100) ((IntKind.i64.wrap a5).tmod 81 - 40) (2 + (IntKind.i64.wrap a6).tmod 4)) fun v82 =>
  (.sees [(.agg [(.d (.v (.int .i64 a0))), (.d (.v (.int .i64 a1))), (.d (.v (.int .i64 a2))), (.d (.v (.int .i64 a3)))]), (.d (.v (.int .i64 (a0 + (IntKind.i64.wrap a4).tmod 100)))), (.d (.v (.int .i64 ((IntKind.i64.wrap a5).tmod 81 - 40)))), (.d (.v (.int .i64 (2 + (IntKind.i64.wrap a6).tmod 4))))] (.bind (F22 a0 a1 a2 a3 (a0 + (IntKind.i64.wrap a4).tmod 100)) fun v90 =>
  (.sees [(.agg [(.d (.v (.int .i64 a0))), (.d (.v (.int .i64 a1))), (.d (.v (.int .i64 a2))), (.d (.v (.int .i64 a3)))]), (.d (.v (.int .i64 (a0 + (IntKind.i64.wrap a4).tmod 100))))] (.bind (F22 v82.fst v82.snd.fst v82.snd.snd.fst v82.snd.snd.snd.fst (a0 + (IntKind.i64.wrap a4).tmod 100)) fun v91 =>
  (.sees [(.agg [(.d (.v (.int .i64 v82.fst))), (.d (.v (.int .i64 v82.snd.fst))), (.d (.v (.int .i64 v82.snd.snd.fst))), (.d (.v (.int .i64 v82.snd.snd.snd.fst)))]), (.d (.v (.int .i64 (a0 + (IntKind.i64.wrap a4).tmod 100))))] (.triv _ (tv_s ((v82.snd.snd.snd.snd != 0) == false)) (.triv _ (tv_f (v82.snd.snd.snd.snd != 0)) (.triv _ (tv_s ((if (v82.snd.snd.snd.snd != 0) = true then true else v90.snd != 0) == false)) (.triv _ (tv_f (if (v82.snd.snd.snd.snd != 0) = true then true else v90.snd != 0)) (.triv _ (tv_s ((if (if (v82.snd.snd.snd.snd != 0) = true then true else v90.snd != 0) = true then true else v91.snd != 0) == false)) (.triv _ (tv_s ((if (if (v82.snd.snd.snd.snd != 0) = true then true else v90.snd != 0) = true then true else v91.snd != 0) == false)) (.triv _ (tv_f (if (if (v82.snd.snd.snd.snd != 0) = true then true else v90.snd != 0) = true then true else v91.snd != 0)) (.bind (F20 v82.fst v82.snd.fst v82.snd.snd.fst v82.snd.snd.snd.fst) fun v92 =>
  (.sees [(.agg [(.d (.v (.int .i64 v82.fst))), (.d (.v (.int .i64 v82.snd.fst))), (.d (.v (.int .i64 v82.snd.snd.fst))), (.d (.v (.int .i64 v82.snd.snd.snd.fst)))])] (.triv _ (tv_s ((if (if (if (v82.snd.snd.snd.snd != 0) = true then true else v90.snd != 0) = true then true else v91.snd != 0) = true then true else v91.fst != v90.fst) == false)) (.triv _ (tv_s ((if (if (if (v82.snd.snd.snd.snd != 0) = true then true else v90.snd != 0) = true then true else v91.snd != 0) = true then true else v91.fst != v90.fst) == false)) (.triv _ (tv_f (if (if (if (v82.snd.snd.snd.snd != 0) = true then true else v90.snd != 0) = true then true else v91.snd != 0) = true then true else v91.fst != v90.fst)) (.br (if (if (if (if (v82.snd.snd.snd.snd != 0) = true then true else v90.snd != 0) = true then true else v91.snd != 0) = true then true else v91.fst != v90.fst) = true then true else v92 != 0)
  (.ret false)
  (.ask (.in64 (a0 + (IntKind.i64.wrap a4).tmod 100 + 1)) (.nxt (.c1 (a0 + (IntKind.i64.wrap a4).tmod 100) ((IntKind.i64.wrap a5).tmod 81 - 40) (2 + (IntKind.i64.wrap a7).tmod 50) v90.fst v91.fst 0 (a0 + (IntKind.i64.wrap a4).tmod 100 + 1) a4 a5 a6 a7 v82.fst v82.snd.fst v82.snd.snd.fst v82.snd.snd.snd.fst))))))))))))))))))))))))))))))))
  | .c1 x93 x94 x95 x96 y97 y98 y99 x100 x101 x102 x103 x104 x105 x106 x107 => (.ask (.in64 (x93 + 200)) (.br (decide (y99 ≤ x93 + 200))
  (.bind (F22 x104 x105 x106 x107 y99) fun v108 =>
  (.sees [(.agg [(.d (.v (.int .i64 x104))), (.d (.v (.int .i64 x105))), (.d (.v (.int .i64 x106))), (.d (.v (.int .i64 x107)))]), (.d (.v (.int .i64 y99)))] (.triv _ (tv_s ((v108.snd != 0) == false)) (.triv _ (tv_s ((v108.snd != 0) == false)) (.triv _ (tv_f (v108.snd != 0)) (.br (if (v108.snd != 0) = true then true else decide (v108.fst < y97))
  (.ret false)
  (.ask (.eqB ((if (v108.snd != 0) = true then true else decide (v108.fst < y97)) == false) true) (.ask (.in64 (y97 + 2)) (.ask (.eqB ((if (v108.snd != 0) = true then true else decide (v108.fst < y97)) == false) true) (.br (decide (v108.fst > y97 + 2))
  (.ret false)
  (.ask (.in64 (y97 + 1)) (.nxt (.c2 x93 x94 x95 x96 y98 y99 v108.fst (y97 + 1) x100 x101 x102 x103 x104 x105 x106 x107)))))))))))))
  (.ask (.in64 (x93 + 201)) (.bind (F23 x104 x105 x106 x107 x93 (x93 + 201) x95) fun v189 =>
  (.sees [(.agg [(.d (.v (.int .i64 x104))), (.d (.v (.int .i64 x105))), (.d (.v (.int .i64 x106))), (.d (.v (.int .i64 x107)))]), (.agg [(.d (.v (.int .i64 x93))), (.d (.v (.int .i64 (x93 + 201))))]), (.d (.v (.int .i64 x95)))] (.triv _ (tv_s ((v189.snd.snd != 0) == false)) (.triv _ (tv_s ((v189.snd.snd != 0) == false)) (.triv _ (tv_s ((v189.snd.snd != 0) == false)) (.triv _ (tv_f (v189.snd.snd != 0)) (.br (if (v189.snd.snd != 0) = true then true else (↑v189.fst : Int) != y98)
  (.ret false)
  (.ask (.eqB ((if (v189.snd.snd != 0) = true then true else (↑v189.fst : Int) != y98) == false) true) (.ask (.in64 (x96 + 200)) (.ask (.in64 (x96 + 200 + x94)) (.ask (.eqB ((if (v189.snd.snd != 0) = true then true else (↑v189.fst : Int) != y98) == false) true) (.br (y97 != x96 + 200 + x94)
  (.ret false)
  (.nxt (.c3 x93 y97 v189.fst v189.snd.fst ((↑v189.fst : Int)) 0 x100 x101 x102 x103 x104 x105 x106 x107)))))))))))))))))
  | .c2 x109 x110 x111 x112 y113 x114 x115 y116 x117 x118 x119 x120 x121 x122 x123 x124 => (.br (decide (y116 ≤ x115))
  (.ask (.neI x111 0) (.br (y116.tmod x111 == 0)
  (.ask (.in64 (y113 + 1)) (.ask (.in64 (y116 + 1)) (.nxt (.c2 x109 x110 x111 x112 (y113 + 1) x114 x115 (y116 + 1) x117 x118 x119 x120 x121 x122 x123 x124))))
  (.ask (.in64 (y116 + 1)) (.nxt (.c2 x109 x110 x111 x112 y113 x114 x115 (y116 + 1) x117 x118 x119 x120 x121 x122 x123 x124)))))
  (.ask (.in64 (x114 + 1)) (.nxt (.c1 x109 x110 x111 x112 x115 y113 (x114 + 1) x117 x118 x119 x120 x121 x122 x123 x124))))
  | .c3 x190 x191 x192 x193 x194 y195 x196 x197 x198 x199 x200 x201 x202 x203 => (.br (decide (y195 < x194))
  (.ask (.le 0 y195) (.ask (.lt y195 ((↑x192 : Int))) (.ask (.leN (y195.toNat * 1) x193.length) (.ask (.prop (Option.map AV.d (List.drop (y195.toNat * 1) x193)[0]? = some (AV.d (DV.v (Value.int IntKind.i64 (dI (cel x193 (y195.toNat * 1)))))))) (.br (decide (dI (cel x193 (y195.toNat * 1)) ≤ x190))
  (.ret false)
  (.ask (.eqB (decide (dI (cel x193 (y195.toNat * 1)) ≤ x190) == false) true) (.ask (.in64 (x190 + 200)) (.ask (.eqB (decide (dI (cel x193 (y195.toNat * 1)) ≤ x190) == false) true) (.triv _ (tv_s (decide (dI (cel x193 (y195.toNat * 1)) > x190 + 200) == false)) (.br (decide (dI (cel x193 (y195.toNat * 1)) > x190 + 200))
  (.ret false)
  (.ask (.eqB (decide (dI (cel x193 (y195.toNat * 1)) > x190 + 200) == false) true) (.br (decide (y195 > 0))
  (.ask (.eqB (decide (y195 > 0) == true) true) (.ask (.in64 (y195 - 1)) (.ask (.eqB (decide (y195 > 0) == true) true) (.ask (.le 0 (y195 - 1)) (.ask (.lt (y195 - 1) ((↑x192 : Int))) (.ask (.leN ((y195 - 1).toNat * 1) x193.length) (.ask (.prop (Option.map AV.d (List.drop ((y195 - 1).toNat * 1) x193)[0]? = some (AV.d (DV.v (Value.int IntKind.i64 (dI (cel x193 ((y195 - 1).toNat * 1)))))))) (.ask (.eqB (decide (y195 > 0) == true) true) (.br (decide (dI (cel x193 (y195.toNat * 1)) ≤ dI (cel x193 ((y195 - 1).toNat * 1))))
  (.ret false)
  (.ask (.in64 (y195 + 1)) (.nxt (.c3 x190 x191 x192 x193 x194 (y195 + 1) x196 x197 x198 x199 x200 x201 x202 x203))))))))))))
  (.ask (.in64 (y195 + 1)) (.nxt (.c3 x190 x191 x192 x193 x194 (y195 + 1) x196 x197 x198 x199 x200 x201 x202 x203)))))))))))))))
  (.ask (.in64 (x190 + 200)) (.ask (.in64 (x190 + 200 + (IntKind.i64.wrap x197).tmod 9000)) (.ask (.in64 (x190 + 200)) (.bind (F24 x200 x201 x202 x203 (x190 + 200) (x190 + 200 + (IntKind.i64.wrap x197).tmod 9000)) fun v215 =>
  (.sees [(.agg [(.d (.v (.int .i64 x200))), (.d (.v (.int .i64 x201))), (.d (.v (.int .i64 x202))), (.d (.v (.int .i64 x203)))]), (.d (.v (.int .i64 (x190 + 200)))), (.d (.v (.int .i64 (x190 + 200 + (IntKind.i64.wrap x197).tmod 9000))))] (.ask (.in64 (x190 + 200)) (.bind (F22 v215.fst v215.snd.fst 0 v215.snd.snd.fst (x190 + 200)) fun v216 =>
  (.sees [(.agg [(.d (.v (.int .i64 v215.fst))), (.d (.v (.int .i64 v215.snd.fst))), (.d (.v (.int .i64 0))), (.d (.v (.int .i64 v215.snd.snd.fst)))]), (.d (.v (.int .i64 (x190 + 200))))] (.ask (.in64 (x190 + 260)) (.bind (F22 v215.fst v215.snd.fst 0 v215.snd.snd.fst (x190 + 260)) fun v217 =>
  (.sees [(.agg [(.d (.v (.int .i64 v215.fst))), (.d (.v (.int .i64 v215.snd.fst))), (.d (.v (.int .i64 0))), (.d (.v (.int .i64 v215.snd.snd.fst)))]), (.d (.v (.int .i64 (x190 + 260))))] (.triv _ (tv_s ((v215.snd.snd.snd.snd == 0) == true)) (.triv _ (tv_t (v215.snd.snd.snd.snd == 0)) (.triv _ (tv_s ((if (v215.snd.snd.snd.snd == 0) = true then v216.snd == 0 else false) == true)) (.triv _ (tv_t (if (v215.snd.snd.snd.snd == 0) = true then v216.snd == 0 else false)) (.triv _ (tv_s ((if (if (v215.snd.snd.snd.snd == 0) = true then v216.snd == 0 else false) = true then v217.snd == 0 else false) == true)) (.triv _ (tv_s ((if (if (v215.snd.snd.snd.snd == 0) = true then v216.snd == 0 else false) = true then v217.snd == 0 else false) == true)) (.triv _ (tv_t (if (if (v215.snd.snd.snd.snd == 0) = true then v216.snd == 0 else false) = true then v217.snd == 0 else false)) (.br (if (if (if (v215.snd.snd.snd.snd == 0) = true then v216.snd == 0 else false) = true then v217.snd == 0 else false) = true then v216.fst == x190 + 200 + (IntKind.i64.wrap x197).tmod 9000 else false)
  (.ask (.eqB ((if (if (if (v215.snd.snd.snd.snd == 0) = true then v216.snd == 0 else false) = true then v217.snd == 0 else false) = true then v216.fst == x190 + 200 + (IntKind.i64.wrap x197).tmod 9000 else false) == true) true) (.ask (.in64 (x190 + 200 + (IntKind.i64.wrap x197).tmod 9000 + 60)) (.ask (.eqB ((if (if (if (v215.snd.snd.snd.snd == 0) = true then v216.snd == 0 else false) = true then v217.snd == 0 else false) = true then v216.fst == x190 + 200 + (IntKind.i64.wrap x197).tmod 9000 else false) == true) true) (.br (v217.fst == x190 + 200 + (IntKind.i64.wrap x197).tmod 9000 + 60)
  (.ask (.eqB ((v217.fst == x190 + 200 + (IntKind.i64.wrap x197).tmod 9000 + 60) == true) true) (.ask (.eqB ((v217.fst == x190 + 200 + (IntKind.i64.wrap x197).tmod 9000 + 60) == true) true) (.ask (.in64 (x190 + 200 + (IntKind.i64.wrap x197).tmod 9000 - x191)) (.ask (.eqB ((v217.fst == x190 + 200 + (IntKind.i64.wrap x197).tmod 9000 + 60) == true) true) (.bind (F7) fun v218 =>
  (.sees [] (.triv _ (tv_t (v215.snd.snd.snd.fst == x190 + 200 + (IntKind.i64.wrap x197).tmod 9000 - x191)) (.ret (if (v215.snd.snd.snd.fst == x190 + 200 + (IntKind.i64.wrap x197).tmod 9000 - x191) = true then v218 else false)))))))))
  (.ret false)))))
  (.ret false)))))))))))))))))))))
noncomputable def F5 (a0 : Int) (a1 : Int) (a2 : Int) (a3 : Int) (a4 : Int) (a5 : Int) (a6 : Int) (a7 : Int) : Option (Bool) := res B5 (.c0 a0 a1 a2 a3 a4 a5 a6 a7)
noncomputable def D5_0 (a0 : Int) (a1 : Int) (a2 : Int) (a3 : Int) (a4 : Int) (a5 : Int) (a6 : Int) (a7 : Int) : DT cfz := (.go 10 [] [] (.bind (f20 a0 a1 a2 a3) fun v28 => (.go 3 [(.ck 0)] [] (.split 36 (.go 17 [(.br true), (.br true), (.br true), (.br true), (.br true), (.br true), (.br true), .none, (.br true), (.br true), (.br true), .none, (.br true)] [0, 1, 2, 3, 4, 5, 6, 7, 8, 9, 10] (.bind (f7) fun v29 => (.go 4 [(.ck 1)] [] .fin))) (.go 9 [(.br false), (.br false), .none, (.br false), (.br false), .none, (.br false), (.br false), (.br false)] [0, 1, 2, 3, 5, 6, 7] (.split 45 (.go 8 [(.br true), (.br true), (.br true), .none, (.br true)] [0, 1, 2, 3] (.bind (f7) fun v30 => (.go 4 [(.ck 1)] [] .fin))) (.go 5 [(.br false), (.br false), .none, (.br false)] [0, 1, 2] (.split 49 (.go 3 [(.br true)] [0] (.bind (f7) fun v31 => (.go 4 [(.ck 1)] [] .fin))) (.go 31 [(.br false)] [0, 1, 2, 3, 5, 6, 7, 9, 10, 11, 13, 14, 15] (.bind (f21 a0 a1 a2 a3 (a0 + (IntKind.i64.wrap a4).tmod 100) ((IntKind.i64.wrap a5).tmod 81 - 40) (2 + (IntKind.i64.wrap a6).tmod 4)) fun v82 => (.go 12 [(.ck 1)] [] (.bind (f22 a0 a1 a2 a3 (a0 + (IntKind.i64.wrap a4).tmod 100)) fun v90 => (.go 11 [(.ck 2)] [] (.bind (f22 v82.fst v82.snd.fst v82.snd.snd.fst v82.snd.snd.snd.fst (a0 + (IntKind.i64.wrap a4).tmod 100)) fun v91 => (.go 27 [(.ck 3), (.sp .none), (.sp .none), .mg, (.sp .none), (.sp .none), .mg, (.sp .none), (.sp .none), (.sp .none), .mg, (.sp .none)] [] (.bind (f20 v82.fst v82.snd.fst v82.snd.snd.fst v82.snd.snd.snd.fst) fun v92 => (.go 4 [(.sp (.some 4)), (.sp .none), .mg] [] (.split 112 (.go 6 [(.br true)] [0] .fin) (.go 17 [(.br false)] [0] (.cut 3 [[3, 5, 6, 8, 9, 11, 15, 16, 17]] [0]))))))))))))))))))))
theorem k5_0 (a0 : Int) (a1 : Int) (a2 : Int) (a3 : Int) (a4 : Int) (a5 : Int) (a6 : Int) (a7 : Int) : xrun cfz 5 (D5_0 a0 a1 a2 a3 a4 a5 a6 a7) [] (st5 (.c0 a0 a1 a2 a3 a4 a5 a6 a7)) = (B5 (.c0 a0 a1 a2 a3 a4 a5 a6 a7)).mach st5 out5 := by kernel_rfl
noncomputable def D5_1 (x93 : Int) (x94 : Int) (x95 : Int) (x96 : Int) (y97 : Int) (y98 : Int) (y99 : Int) (x100 : Int) (x101 : Int) (x102 : Int) (x103 : Int) (x104 : Int) (x105 : Int) (x106 : Int) (x107 : Int) : DT cfz := (.go 8 [] [] (.split 119 (.go 8 [(.br true)] [0] (.bind (f22 x104 x105 x106 x107 y99) fun v108 => (.go 20 [(.ck 0), (.sp .none), (.sp .none), (.sp .none), .mg, (.sp .none), (.sp .none)] [] (.split 135 (.go 10 [(.br true), (.br true), .none, (.br true)] [0, 1, 2] .fin) (.strip 137 (.go 1 [(.br false)] [1] (.strip 136 (.go 3 [(.br false)] [0] (.split 140 (.go 6 [(.br true)] [0] .fin) (.go 11 [(.br false)] [0] (.cut 3 [[3, 5, 6, 8, 9, 11, 16, 17, 18, 20]] []))))))))))) (.go 10 [(.br false)] [0] (.bind (f23 x104 x105 x106 x107 x93 (x93 + 201) x95) fun v189 => (.go 21 [(.ck 0), (.sp .none), (.sp .none), (.sp .none), (.sp .none), .mg, (.sp .none), (.sp .none)] [] (.split 173 (.go 12 [(.br true), (.br true), (.br true), (.br true), .none, (.br true)] [0, 1, 2, 3, 4] .fin) (.strip 175 (.go 3 [(.br false), (.br false), (.br false)] [1, 2, 4] (.strip 174 (.go 3 [(.br false)] [0] (.split 180 (.go 6 [(.br true)] [0] .fin) (.go 11 [(.br false)] [0] (.cut 3 [[3, 5, 9, 15, 21, 181, 182, 183]] [])))))))))))))
theorem k5_1 (x93 : Int) (x94 : Int) (x95 : Int) (x96 : Int) (y97 : Int) (y98 : Int) (y99 : Int) (x100 : Int) (x101 : Int) (x102 : Int) (x103 : Int) (x104 : Int) (x105 : Int) (x106 : Int) (x107 : Int) : xrun cfz 5 (D5_1 x93 x94 x95 x96 y97 y98 y99 x100 x101 x102 x103 x104 x105 x106 x107) [] (st5 (.c1 x93 x94 x95 x96 y97 y98 y99 x100 x101 x102 x103 x104 x105 x106 x107)) = (B5 (.c1 x93 x94 x95 x96 y97 y98 y99 x100 x101 x102 x103 x104 x105 x106 x107)).mach st5 out5 := by kernel_rfl
noncomputable def D5_2 (x109 : Int) (x110 : Int) (x111 : Int) (x112 : Int) (y113 : Int) (x114 : Int) (x115 : Int) (y116 : Int) (x117 : Int) (x118 : Int) (x119 : Int) (x120 : Int) (x121 : Int) (x122 : Int) (x123 : Int) (x124 : Int) : DT cfz := (.go 7 [] [] (.split 145 (.go 11 [(.br true)] [0] (.split 151 (.go 13 [(.br true)] [0] (.cut 3 [[3, 5, 6, 8, 9, 11, 16, 17, 18, 20]] [])) (.go 9 [(.br false)] [0] (.cut 3 [[3, 5, 6, 8, 9, 11, 16, 17, 18, 20]] [])))) (.go 13 [(.br false)] [0] (.cut 3 [[3, 5, 6, 8, 9, 11, 15, 16, 17]] []))))
theorem k5_2 (x109 : Int) (x110 : Int) (x111 : Int) (x112 : Int) (y113 : Int) (x114 : Int) (x115 : Int) (y116 : Int) (x117 : Int) (x118 : Int) (x119 : Int) (x120 : Int) (x121 : Int) (x122 : Int) (x123 : Int) (x124 : Int) : xrun cfz 5 (D5_2 x109 x110 x111 x112 y113 x114 x115 y116 x117 x118 x119 x120 x121 x122 x123 x124) [] (st5 (.c2 x109 x110 x111 x112 y113 x114 x115 y116 x117 x118 x119 x120 x121 x122 x123 x124)) = (B5 (.c2 x109 x110 x111 x112 y113 x114 x115 y116 x117 x118 x119 x120 x121 x122 x123 x124)).mach st5 out5 := by kernel_rfl
noncomputable def D5_3 (x190 : Int) (x191 : Int) (x192 : Nat) (x193 : List DV) (x194 : Int) (y195 : Int) (x196 : Int) (x197 : Int) (x198 : Int) (x199 : Int) (x200 : Int) (x201 : Int) (x202 : Int) (x203 : Int) : DT cfz := (.go 5 [] [] (.split 184 (.go 20 [(.br true), (.as (.d (.v (.int .i64 (dI (cel x193 (y195.toNat * 1))))))), (.sp .none), (.sp .none)] [0] (.split 191 (.go 23 [(.br true), (.br true), .none, (.br true), (.br true), (.br true), (.br false), (.br false), (.br false), (.br false), (.br false), (.br false), (.br false), (.br true), .none, (.br true)] [0, 1, 2, 3, 4, 5, 6] .fin) (.strip 193 (.go 1 [(.br false)] [1] (.strip 192 (.go 5 [(.br false), .none, (.sp .none), (.sp .none)] [0] (.split 197 (.go 17 [(.br true), (.br false), (.br false), (.br false), (.br false), (.br false), (.br false), (.br false), (.br true), .none, (.br true)] [0, 1, 2] .fin) (.strip 199 (.go 4 [(.br false), (.sp .none), (.sp .none), (.sp .none)] [0] (.split 200 (.strip 203 (.go 1 [(.br true)] [1] (.strip 202 (.go 2 [(.br true), (.br true), (.as (.d (.v (.int .i64 (dI (cel x193 ((y195 - 1).toNat * 1)))))))] [3, 5] (.strip 201 (.go 4 [(.br true), (.br false)] [0, 1] (.split 209 (.go 6 [(.br true)] [0] .fin) (.go 8 [(.br false)] [0] (.cut 3 [[3, 5, 9, 15, 21, 181, 182, 183]] []))))))))) (.go 15 [(.br false), (.br false), (.br false), (.br false), (.br false), .none, .none, (.br false)] [0, 1, 2, 3, 4, 5] (.cut 3 [[3, 5, 9, 15, 21, 181, 182, 183]] [])))))))))))) (.go 19 [(.br false)] [0, 2, 3, 4] (.bind (f24 x200 x201 x202 x203 (x190 + 200) (x190 + 200 + (IntKind.i64.wrap x197).tmod 9000)) fun v215 => (.go 15 [(.ck 0)] [] (.bind (f22 v215.fst v215.snd.fst 0 v215.snd.snd.fst (x190 + 200)) fun v216 => (.go 12 [(.ck 1)] [] (.bind (f22 v215.fst v215.snd.fst 0 v215.snd.snd.fst (x190 + 260)) fun v217 => (.go 27 [(.ck 2), (.sp .none), (.sp .none), .mg, (.sp .none), (.sp .none), .mg, (.sp .none), (.sp .none), (.sp .none), .mg, (.sp .none), (.sp .none)] [] (.split 256 (.strip 258 (.go 1 [(.br true)] [1] (.strip 257 (.go 6 [(.br true), .none, (.sp .none), (.sp .none), (.sp .none)] [0] (.split 262 (.strip 264 (.strip 265 (.go 1 [(.br true)] [1] (.strip 263 (.go 3 [(.br true)] [0] (.bind (f7) fun v218 => (.go 5 [(.sp (.some 3)), .mg] [] .fin))))))) (.go 9 [(.br false), (.br false), .none, (.br false)] [0, 1, 2] .fin)))))) (.go 16 [(.br false), (.br false), .none, (.br false), (.br false), (.br false), (.br false), (.br false), .none, (.br false)] [0, 1, 2, 3, 4, 5, 6, 7] .fin)))))))))))
theorem k5_3 (x190 : Int) (x191 : Int) (x192 : Nat) (x193 : List DV) (x194 : Int) (y195 : Int) (x196 : Int) (x197 : Int) (x198 : Int) (x199 : Int) (x200 : Int) (x201 : Int) (x202 : Int) (x203 : Int) : xrun cfz 5 (D5_3 x190 x191 x192 x193 x194 y195 x196 x197 x198 x199 x200 x201 x202 x203) [] (st5 (.c3 x190 x191 x192 x193 x194 y195 x196 x197 x198 x199 x200 x201 x202 x203)) = (B5 (.c3 x190 x191 x192 x193 x194 y195 x196 x197 x198 x199 x200 x201 x202 x203)).mach st5 out5 := by kernel_rfl
theorem ok5 : ∀ s, ∃ d, xrun cfz 5 d [] (st5 s) = (B5 s).mach st5 out5
  | .c0 a0 a1 a2 a3 a4 a5 a6 a7 => ⟨_, k5_0 a0 a1 a2 a3 a4 a5 a6 a7⟩
  | .c1 x93 x94 x95 x96 y97 y98 y99 x100 x101 x102 x103 x104 x105 x106 x107 => ⟨_, k5_1 x93 x94 x95 x96 y97 y98 y99 x100 x101 x102 x103 x104 x105 x106 x107⟩
  | .c2 x109 x110 x111 x112 y113 x114 x115 y116 x117 x118 x119 x120 x121 x122 x123 x124 => ⟨_, k5_2 x109 x110 x111 x112 y113 x114 x115 y116 x117 x118 x119 x120 x121 x122 x123 x124⟩
  | .c3 x190 x191 x192 x193 x194 y195 x196 x197 x198 x199 x200 x201 x202 x203 => ⟨_, k5_3 x190 x191 x192 x193 x194 y195 x196 x197 x198 x199 x200 x201 x202 x203⟩
theorem f5 (a0 : Int) (a1 : Int) (a2 : Int) (a3 : Int) (a4 : Int) (a5 : Int) (a6 : Int) (a7 : Int) (v : Bool) (h : F5 a0 a1 a2 a3 a4 a5 a6 a7 = some v) : PureCalls cfz.P cfz.glob 5 [(.agg [(.d (.v (.int .i64 a0))), (.d (.v (.int .i64 a1))), (.d (.v (.int .i64 a2))), (.d (.v (.int .i64 a3)))]), (.agg [(.d (.v (.int .u16 a4))), (.d (.v (.int .u16 a5))), (.d (.v (.int .u16 a6))), (.d (.v (.int .u16 a7)))])] (out5 v) := tree_pure knil ok5 (s := .c0 a0 a1 a2 a3 a4 a5 a6 a7) rfl (by kernel_rfl) v h

end Go.Kv
