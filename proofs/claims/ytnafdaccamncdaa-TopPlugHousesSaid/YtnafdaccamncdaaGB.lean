/- Printed: what functions of the program come to, and the kernel's proof of it. -/
import Derived.Test.YtnafdaccamncdaaKvW
import Derived.Test.YtnafdaccamncdaaKvZ
import Derived.Test.YtnafdaccamncdaaKzA
namespace Go.Kv
set_option linter.unusedVariables false
set_option linter.unusedSimpArgs false
open Go Go.RowKit Go.Proofs
set_option maxRecDepth 100000
/-! F39 -/
inductive S39 where
  | c0 (a14 : Bool) (a15 : Int)
def out39 (v : Int) : AV := (.d (.v (.int .i64 v)))
noncomputable def st39 : S39 → ASt
  | .c0 a14 a15 => ent cfz 39 [(.d (.v (.bool a14))), (aI a15)]
noncomputable def B39 : S39 → Tr S39 (Int)
  | .c0 a14 a15 => (.br a14
  (.ret a15)
  (.ret 0))
noncomputable def F39 (a14 : Bool) (a15 : Int) : Option (Int) := res B39 (.c0 a14 a15)
noncomputable def D39_0 (a14 : Bool) (a15 : Int) : DT cfz := (.go 9 [] [] (.split 5 (.go 7 [(.br true)] [0] .fin) (.go 7 [(.br false)] [0] .fin)))
theorem k39_0 (a14 : Bool) (a15 : Int) : xrun cfz 39 (D39_0 a14 a15) [] (st39 (.c0 a14 a15)) = (B39 (.c0 a14 a15)).mach st39 out39 := by kernel_rfl
theorem ok39 : ∀ s, ∃ d, xrun cfz 39 d [] (st39 s) = (B39 s).mach st39 out39
  | .c0 a14 a15 => ⟨_, k39_0 a14 a15⟩
theorem f39 (a14 : Bool) (a15 v : Int) (h : F39 a14 a15 = some v) : PureCalls cfz.P cfz.glob 39 [(.d (.v (.bool a14))), (aI a15)] (out39 v) := tree_pure knil ok39 (s := .c0 a14 a15) rfl (by kernel_rfl) v h

/-! F38 -/
inductive S38 where
  | c0 (a18 : Nat) (a19 : List DV)
  | c1 (x20 : Nat) (x21 : List DV) (y22 : Int)
def out38 (v : Int) : AV := (.d (.v (.int .i64 v)))
noncomputable def st38 : S38 → ASt
  | .c0 a18 a19 => ent cfz 38 [(.d (.sl a18 a19))]
  | .c1 x20 x21 y22 => ⟨⟨38, sp 19 0 [(0, (.d (.sl x20 x21))), (3, (aI y22))], [(.code (cd cfz.P 38 [1, 0, 1, 0, 0])), (.inLoop (cd cfz.P 38 [1, 0, 1, 0, 0])), (.inBlock 0), (.code (cd cfz.P 38 [1, 1]))], [], false, .none⟩, [], []⟩
noncomputable def B38 : S38 → Tr S38 (Int)
  | .c0 a18 a19 => (.nxt (.c1 a18 a19 0))
  | .c1 x20 x21 y22 => (.br (decide (y22 < (↑x20 : Int)))
  (.ask (.le 0 y22) (.ask (.lt y22 ((↑x20 : Int))) (.ask (.leN (y22.toNat * 1) x21.length) (.ask (.prop (Option.map AV.d (List.drop (y22.toNat * 1) x21)[0]? = some (AV.d (DV.v (Value.int IntKind.i64 (dI (cel x21 (y22.toNat * 1)))))))) (.br (dI (cel x21 (y22.toNat * 1)) != 0)
  (.ask (.le 0 y22) (.ask (.lt y22 ((↑x20 : Int))) (.ask (.leN (y22.toNat * 1) x21.length) (.ask (.prop (Option.map AV.d (List.drop (y22.toNat * 1) x21)[0]? = some (AV.d (DV.v (Value.int IntKind.i64 (dI (cel x21 (y22.toNat * 1)))))))) (.ret (dI (cel x21 (y22.toNat * 1))))))))
  (.ask (.in64 (y22 + 1)) (.nxt (.c1 x20 x21 (y22 + 1)))))))))
  (.ret 0))
noncomputable def F38 (a18 : Nat) (a19 : List DV) : Option (Int) := res B38 (.c0 a18 a19)
noncomputable def D38_0 (a18 : Nat) (a19 : List DV) : DT cfz := (.go 11 [] [] (.cut 0 [[0, 3]] []))
theorem k38_0 (a18 : Nat) (a19 : List DV) : xrun cfz 38 (D38_0 a18 a19) [] (st38 (.c0 a18 a19)) = (B38 (.c0 a18 a19)).mach st38 out38 := by kernel_rfl
noncomputable def D38_1 (x20 : Nat) (x21 : List DV) (y22 : Int) : DT cfz := (.go 8 [] [] (.split 7 (.go 12 [(.br true), (.as (aI (dI (cel x21 (y22.toNat * 1)))))] [0] (.split 14 (.go 10 [(.br true), (.as (aI (dI (cel x21 (y22.toNat * 1)))))] [0] .fin) (.go 9 [(.br false)] [0] (.cut 0 [[0, 3]] [])))) (.go 7 [(.br false)] [0] .fin)))
theorem k38_1 (x20 : Nat) (x21 : List DV) (y22 : Int) : xrun cfz 38 (D38_1 x20 x21 y22) [] (st38 (.c1 x20 x21 y22)) = (B38 (.c1 x20 x21 y22)).mach st38 out38 := by kernel_rfl
theorem ok38 : ∀ s, ∃ d, xrun cfz 38 d [] (st38 s) = (B38 s).mach st38 out38
  | .c0 a18 a19 => ⟨_, k38_0 a18 a19⟩
  | .c1 x20 x21 y22 => ⟨_, k38_1 x20 x21 y22⟩
theorem f38 (a18 : Nat) (a19 : List DV) (v : Int) (h : F38 a18 a19 = some v) : PureCalls cfz.P cfz.glob 38 [(.d (.sl a18 a19))] (out38 v) := tree_pure knil ok38 (s := .c0 a18 a19) rfl (by kernel_rfl) v h

/-! F13 -/
inductive S13 where
  | c0 (a7 : Int) (a8 : Nat) (a9 : List DV)
  | c1 (x10 : Int) (x11 : Nat) (x12 : List DV) (y13 : Int)
def out13 (v : Int) : AV := (.d (.v (.int .i64 v)))
noncomputable def st13 : S13 → ASt
  | .c0 a7 a8 a9 => ent cfz 13 [(aI a7), (.d (.sl a8 a9))]
  | .c1 x10 x11 x12 y13 => ⟨⟨13, sp 51 0 [(0, (aI x10)), (1, (.d (.sl x11 x12))), (5, (aI y13))], [(.code (cd cfz.P 13 [1, 1, 0, 1, 0, 0])), (.inLoop (cd cfz.P 13 [1, 1, 0, 1, 0, 0])), (.inBlock 0), (.code (cd cfz.P 13 [1, 1, 1]))], [], false, .none⟩, [], []⟩
noncomputable def B13 : S13 → Tr S13 (Int)
  | .c0 a7 a8 a9 => (.br ((↑a8 : Int) == 0)
  (.ret 12)
  (.nxt (.c1 a7 a8 a9 0)))
  | .c1 x10 x11 x12 y13 => (.br (decide (y13 < (↑x11 : Int)))
  (.br (decide (dI (cel x12 (y13.toNat * 1)) < 0))
  (.bind (F39 true 10) fun v16 =>
  (.br (decide (y13 > 0))
  (.bind (F39 (decide (dI (cel x12 (y13.toNat * 1)) ≤ dI (cel x12 ((if y13 - 1 > 0 then y13 - 1 else 0).toNat * 1)))) 11) fun v17 =>
  (.bind (F38 2 [(.v (.int .i64 v16)), (.v (.int .i64 v17))]) fun v23 =>
  (.ask (.le 0 y13) (.ask (.lt y13 ((↑x11 : Int))) (.ask (.leN (y13.toNat * 1) x12.length) (.ask (.prop (Option.map AV.d (List.drop (y13.toNat * 1) x12)[0]? = some (AV.d (DV.v (Value.int IntKind.i64 (dI (cel x12 (y13.toNat * 1)))))))) (.ask (.eqB (decide (dI (cel x12 (y13.toNat * 1)) < 0)) true) (.ask (.eqB (decide (dI (cel x12 (y13.toNat * 1)) < 0)) true) (.ask (.eqB (decide (dI (cel x12 (y13.toNat * 1)) < 0)) true) (.ask (.eqB (decide (dI (cel x12 (y13.toNat * 1)) < 0)) true) (.ask (.eqB (decide (dI (cel x12 (y13.toNat * 1)) < 0)) true) (.sees [(.d (.v (.bool true))), (aI 10)] (.ask (.le 0 y13) (.ask (.lt y13 ((↑x11 : Int))) (.ask (.leN (y13.toNat * 1) x12.length) (.ask (.eqB (decide (y13 > 0)) true) (.ask (.eqB (decide (y13 > 0) == true) true) (.ask (.eqB (decide (y13 > 0) == true) true) (.ask (.prop (Option.map AV.d (List.drop (y13.toNat * 1) x12)[0]? = some (AV.d (DV.v (Value.int IntKind.i64 (dI (cel x12 (y13.toNat * 1)))))))) (.ask (.eqB (decide (y13 > 0)) true) (.ask (.eqB (decide (y13 > 0)) true) (.ask (.eqB (decide (y13 > 0)) true) (.ask (.in64 (y13 - 1)) (.ask (.eqB (decide (y13 > 0)) true) (.ask (.eqB (decide (y13 > 0)) true) (.ask (.le 0 (if y13 - 1 > 0 then y13 - 1 else 0)) (.ask (.lt (if y13 - 1 > 0 then y13 - 1 else 0) ((↑x11 : Int))) (.ask (.leN ((if y13 - 1 > 0 then y13 - 1 else 0).toNat * 1) x12.length) (.ask (.eqB (decide (y13 > 0)) true) (.ask (.prop (Option.map AV.d (List.drop ((if y13 - 1 > 0 then y13 - 1 else 0).toNat * 1) x12)[0]? = some (AV.d (DV.v (Value.int IntKind.i64 (dI (cel x12 ((if y13 - 1 > 0 then y13 - 1 else 0).toNat * 1)))))))) (.ask (.eqB (decide (y13 > 0)) true) (.ask (.eqB (decide (y13 > 0)) true) (.ask (.eqB (decide (y13 > 0)) true) (.sees [(.d (.v (.bool (decide (dI (cel x12 (y13.toNat * 1)) ≤ dI (cel x12 ((if y13 - 1 > 0 then y13 - 1 else 0).toNat * 1))))))), (aI 11)] (.sees [(.d (.sl 2 [(vI v16), (vI v17)]))] (.br (v23 != 0)
  (.ret v23)
  (.ask (.in64 (y13 + 1)) (.nxt (.c1 x10 x11 x12 (y13 + 1))))))))))))))))))))))))))))))))))))))))
  (.bind (F39 false 11) fun v24 =>
  (.bind (F38 2 [(.v (.int .i64 v16)), (.v (.int .i64 v24))]) fun v25 =>
  (.ask (.le 0 y13) (.ask (.lt y13 ((↑x11 : Int))) (.ask (.leN (y13.toNat * 1) x12.length) (.ask (.prop (Option.map AV.d (List.drop (y13.toNat * 1) x12)[0]? = some (AV.d (DV.v (Value.int IntKind.i64 (dI (cel x12 (y13.toNat * 1)))))))) (.ask (.eqB (decide (dI (cel x12 (y13.toNat * 1)) < 0)) true) (.ask (.eqB (decide (dI (cel x12 (y13.toNat * 1)) < 0)) true) (.ask (.eqB (decide (dI (cel x12 (y13.toNat * 1)) < 0)) true) (.ask (.eqB (decide (dI (cel x12 (y13.toNat * 1)) < 0)) true) (.ask (.eqB (decide (dI (cel x12 (y13.toNat * 1)) < 0)) true) (.sees [(.d (.v (.bool true))), (aI 10)] (.ask (.eqB (decide (y13 > 0)) false) (.ask (.eqB (decide (y13 > 0)) false) (.ask (.eqB (decide (y13 > 0)) false) (.ask (.eqB (decide (y13 > 0)) false) (.ask (.eqB (decide (y13 > 0)) false) (.ask (.eqB (decide (y13 > 0)) false) (.ask (.eqB (decide (y13 > 0)) false) (.ask (.eqB (decide (y13 > 0)) false) (.ask (.eqB (decide (y13 > 0)) false) (.ask (.eqB (decide (y13 > 0)) false) (.sees [(.d (.v (.bool false))), (aI 11)] (.sees [(.d (.sl 2 [(vI v16), (vI v24)]))] (.br (v25 != 0)
  (.ret v25)
  (.ask (.in64 (y13 + 1)) (.nxt (.c1 x10 x11 x12 (y13 + 1)))))))))))))))))))))))))))))))
  (.bind (F39 (decide (dI (cel x12 (y13.toNat * 1)) ≥ x10)) 10) fun v26 =>
  (.br (decide (y13 > 0))
  (.bind (F39 (decide (dI (cel x12 (y13.toNat * 1)) ≤ dI (cel x12 ((if y13 - 1 > 0 then y13 - 1 else 0).toNat * 1)))) 11) fun v27 =>
  (.bind (F38 2 [(.v (.int .i64 v26)), (.v (.int .i64 v27))]) fun v28 =>
  (.ask (.le 0 y13) (.ask (.lt y13 ((↑x11 : Int))) (.ask (.leN (y13.toNat * 1) x12.length) (.ask (.prop (Option.map AV.d (List.drop (y13.toNat * 1) x12)[0]? = some (AV.d (DV.v (Value.int IntKind.i64 (dI (cel x12 (y13.toNat * 1)))))))) (.ask (.le 0 y13) (.ask (.lt y13 ((↑x11 : Int))) (.ask (.leN (y13.toNat * 1) x12.length) (.ask (.eqB (decide (dI (cel x12 (y13.toNat * 1)) < 0)) false) (.ask (.eqB (decide (dI (cel x12 (y13.toNat * 1)) < 0) == false) true) (.ask (.eqB (decide (dI (cel x12 (y13.toNat * 1)) < 0) == false) true) (.ask (.prop (Option.map AV.d (List.drop (y13.toNat * 1) x12)[0]? = some (AV.d (DV.v (Value.int IntKind.i64 (dI (cel x12 (y13.toNat * 1)))))))) (.ask (.eqB (decide (dI (cel x12 (y13.toNat * 1)) < 0)) false) (.ask (.eqB (decide (dI (cel x12 (y13.toNat * 1)) < 0)) false) (.ask (.eqB (decide (dI (cel x12 (y13.toNat * 1)) < 0)) false) (.ask (.eqB (decide (dI (cel x12 (y13.toNat * 1)) < 0)) false) (.sees [(.d (.v (.bool (decide (dI (cel x12 (y13.toNat * 1)) ≥ x10))))), (aI 10)] (.ask (.le 0 y13) (.ask (.lt y13 ((↑x11 : Int))) (.ask (.leN (y13.toNat * 1) x12.length) (.ask (.eqB (decide (y13 > 0)) true) (.ask (.eqB (decide (y13 > 0) == true) true) (.ask (.eqB (decide (y13 > 0) == true) true) (.ask (.prop (Option.map AV.d (List.drop (y13.toNat * 1) x12)[0]? = some (AV.d (DV.v (Value.int IntKind.i64 (dI (cel x12 (y13.toNat * 1)))))))) (.ask (.eqB (decide (y13 > 0)) true) (.ask (.eqB (decide (y13 > 0)) true) (.ask (.eqB (decide (y13 > 0)) true) (.ask (.in64 (y13 - 1)) (.ask (.eqB (decide (y13 > 0)) true) (.ask (.eqB (decide (y13 > 0)) true) (.ask (.le 0 (if y13 - 1 > 0 then y13 - 1 else 0)) (.ask (.lt (if y13 - 1 > 0 then y13 - 1 else 0) ((↑x11 : Int))) (.ask (.leN ((if y13 - 1 > 0 then y13 - 1 else 0).toNat * 1) x12.length) (.ask (.eqB (decide (y13 > 0)) true) (.ask (.prop (Option.map AV.d (List.drop ((if y13 - 1 > 0 then y13 - 1 else 0).toNat * 1) x12)[0]? = some (AV.d (DV.v (Value.int IntKind.i64 (dI (cel x12 ((if y13 - 1 > 0 then y13 - 1 else 0).toNat * 1)))))))) (.ask (.eqB (decide (y13 > 0)) true) (.ask (.eqB (decide (y13 > 0)) true) (.ask (.eqB (decide (y13 > 0)) true) (.sees [(.d (.v (.bool (decide (dI (cel x12 (y13.toNat * 1)) ≤ dI (cel x12 ((if y13 - 1 > 0 then y13 - 1 else 0).toNat * 1))))))), (aI 11)] (.sees [(.d (.sl 2 [(vI v26), (vI v27)]))] (.br (v28 != 0)
  (.ret v28)
  (.ask (.in64 (y13 + 1)) (.nxt (.c1 x10 x11 x12 (y13 + 1))))))))))))))))))))))))))))))))))))))))))))))
  (.bind (F39 false 11) fun v29 =>
  (.bind (F38 2 [(.v (.int .i64 v26)), (.v (.int .i64 v29))]) fun v30 =>
  (.ask (.le 0 y13) (.ask (.lt y13 ((↑x11 : Int))) (.ask (.leN (y13.toNat * 1) x12.length) (.ask (.prop (Option.map AV.d (List.drop (y13.toNat * 1) x12)[0]? = some (AV.d (DV.v (Value.int IntKind.i64 (dI (cel x12 (y13.toNat * 1)))))))) (.ask (.le 0 y13) (.ask (.lt y13 ((↑x11 : Int))) (.ask (.leN (y13.toNat * 1) x12.length) (.ask (.eqB (decide (dI (cel x12 (y13.toNat * 1)) < 0)) false) (.ask (.eqB (decide (dI (cel x12 (y13.toNat * 1)) < 0) == false) true) (.ask (.eqB (decide (dI (cel x12 (y13.toNat * 1)) < 0) == false) true) (.ask (.prop (Option.map AV.d (List.drop (y13.toNat * 1) x12)[0]? = some (AV.d (DV.v (Value.int IntKind.i64 (dI (cel x12 (y13.toNat * 1)))))))) (.ask (.eqB (decide (dI (cel x12 (y13.toNat * 1)) < 0)) false) (.ask (.eqB (decide (dI (cel x12 (y13.toNat * 1)) < 0)) false) (.ask (.eqB (decide (dI (cel x12 (y13.toNat * 1)) < 0)) false) (.ask (.eqB (decide (dI (cel x12 (y13.toNat * 1)) < 0)) false) (.sees [(.d (.v (.bool (decide (dI (cel x12 (y13.toNat * 1)) ≥ x10))))), (aI 10)] (.ask (.eqB (decide (y13 > 0)) false) (.ask (.eqB (decide (y13 > 0)) false) (.ask (.eqB (decide (y13 > 0)) false) (.ask (.eqB (decide (y13 > 0)) false) (.ask (.eqB (decide (y13 > 0)) false) (.ask (.eqB (decide (y13 > 0)) false) (.ask (.eqB (decide (y13 > 0)) false) (.ask (.eqB (decide (y13 > 0)) false) (.ask (.eqB (decide (y13 > 0)) false) (.ask (.eqB (decide (y13 > 0)) false) (.sees [(.d (.v (.bool false))), (aI 11)] (.sees [(.d (.sl 2 [(vI v26), (vI v29)]))] (.br (v30 != 0)
  (.ret v30)
  (.ask (.in64 (y13 + 1)) (.nxt (.c1 x10 x11 x12 (y13 + 1))))))))))))))))))))))))))))))))))))))
  (.ret 0))
noncomputable def F13 (a7 : Int) (a8 : Nat) (a9 : List DV) : Option (Int) := res B13 (.c0 a7 a8 a9)
noncomputable def D13_0 (a7 : Int) (a8 : Nat) (a9 : List DV) : DT cfz := (.go 11 [] [] (.split 9 (.go 6 [(.br true)] [0] .fin) (.go 9 [(.br false)] [0] (.cut 0 [[0, 1, 5]] []))))
theorem k13_0 (a7 : Int) (a8 : Nat) (a9 : List DV) : xrun cfz 13 (D13_0 a7 a8 a9) [] (st13 (.c0 a7 a8 a9)) = (B13 (.c0 a7 a8 a9)).mach st13 out13 := by kernel_rfl
noncomputable def D13_1 (x10 : Int) (x11 : Nat) (x12 : List DV) (y13 : Int) : DT cfz := (.go 8 [] [] (.split 13 (.go 6 [(.br true)] [0] (.br (decide (dI (cel x12 (y13.toNat * 1)) < 0)) (.bind (f39 true 10) fun v16 => (.br (decide (y13 > 0)) (.bind (f39 (decide (dI (cel x12 (y13.toNat * 1)) ≤ dI (cel x12 ((if y13 - 1 > 0 then y13 - 1 else 0).toNat * 1)))) 11) fun v17 => (.bind (f38 2 [(vI v16), (vI v17)]) fun v23 => (.go 6 [(.as (aI (dI (cel x12 (y13.toNat * 1))))), (.sp .none), (.sp .none), (.br true), (.br true), (.br true), (.br true), (.br true), (.ck 0), (.sp .none), (.sp .none), (.br true), (.br true), (.as (aI (dI (cel x12 (y13.toNat * 1))))), (.br true), (.br true), (.br true), (.br true), (.br true), (.br true), (.as (aI (dI (cel x12 ((if y13 - 1 > 0 then y13 - 1 else 0).toNat * 1))))), (.br true), (.br true), (.ck 1), (.ck 2)] [] (.split 49 (.go 7 [(.br true)] [0] .fin) (.go 9 [(.br false)] [0] (.cut 0 [[0, 1, 5]] [])))))) (.bind (f39 false 11) fun v24 => (.bind (f38 2 [(vI v16), (vI v24)]) fun v25 => (.go 6 [(.as (aI (dI (cel x12 (y13.toNat * 1))))), (.sp .none), (.sp .none), (.br true), (.br true), (.br true), (.br true), (.br true), (.ck 0), (.sp .none), (.sp .none), (.br false), (.br false), (.br false), (.br false), (.br false), (.br false), (.br false), (.br false), (.br false), (.br false), (.ck 1), (.ck 2)] [] (.split 49 (.go 7 [(.br true)] [0] .fin) (.go 9 [(.br false)] [0] (.cut 0 [[0, 1, 5]] [])))))))) (.bind (f39 (decide (dI (cel x12 (y13.toNat * 1)) ≥ x10)) 10) fun v26 => (.br (decide (y13 > 0)) (.bind (f39 (decide (dI (cel x12 (y13.toNat * 1)) ≤ dI (cel x12 ((if y13 - 1 > 0 then y13 - 1 else 0).toNat * 1)))) 11) fun v27 => (.bind (f38 2 [(vI v26), (vI v27)]) fun v28 => (.go 6 [(.as (aI (dI (cel x12 (y13.toNat * 1))))), (.sp .none), (.sp .none), (.br false), (.br false), (.as (aI (dI (cel x12 (y13.toNat * 1))))), (.br false), (.br false), (.br false), (.ck 0), (.sp .none), (.sp .none), (.br true), (.br true), (.as (aI (dI (cel x12 (y13.toNat * 1))))), (.br true), (.br true), (.br true), (.br true), (.br true), (.br true), (.as (aI (dI (cel x12 ((if y13 - 1 > 0 then y13 - 1 else 0).toNat * 1))))), (.br true), (.br true), (.ck 1), (.ck 2)] [] (.split 49 (.go 7 [(.br true)] [0] .fin) (.go 9 [(.br false)] [0] (.cut 0 [[0, 1, 5]] [])))))) (.bind (f39 false 11) fun v29 => (.bind (f38 2 [(vI v26), (vI v29)]) fun v30 => (.go 6 [(.as (aI (dI (cel x12 (y13.toNat * 1))))), (.sp .none), (.sp .none), (.br false), (.br false), (.as (aI (dI (cel x12 (y13.toNat * 1))))), (.br false), (.br false), (.br false), (.ck 0), (.sp .none), (.sp .none), (.br false), (.br false), (.br false), (.br false), (.br false), (.br false), (.br false), (.br false), (.br false), (.br false), (.ck 1), (.ck 2)] [] (.split 49 (.go 7 [(.br true)] [0] .fin) (.go 9 [(.br false)] [0] (.cut 0 [[0, 1, 5]] [])))))))))) (.go 7 [(.br false)] [0] .fin)))
theorem k13_1 (x10 : Int) (x11 : Nat) (x12 : List DV) (y13 : Int) : xrun cfz 13 (D13_1 x10 x11 x12 y13) [] (st13 (.c1 x10 x11 x12 y13)) = (B13 (.c1 x10 x11 x12 y13)).mach st13 out13 := by kernel_rfl
theorem ok13 : ∀ s, ∃ d, xrun cfz 13 d [] (st13 s) = (B13 s).mach st13 out13
  | .c0 a7 a8 a9 => ⟨_, k13_0 a7 a8 a9⟩
  | .c1 x10 x11 x12 y13 => ⟨_, k13_1 x10 x11 x12 y13⟩
theorem f13 (a7 : Int) (a8 : Nat) (a9 : List DV) (v : Int) (h : F13 a7 a8 a9 = some v) : PureCalls cfz.P cfz.glob 13 [(aI a7), (.d (.sl a8 a9))] (out13 v) := tree_pure knil ok13 (s := .c0 a7 a8 a9) rfl (by kernel_rfl) v h

/-! F4 -/
inductive S4 where
  | c0 (a0 : Int) (a1 : Nat) (a2 : List DV)
  | c1 (x3 : Int) (x4 : Nat) (x5 : List DV) (y6 : Int)
def out4 (v : Int) : AV := (.d (.v (.int .i64 v)))
noncomputable def st4 : S4 → ASt
  | .c0 a0 a1 a2 => ent cfz 4 [(aI a0), (.d (.sl a1 a2))]
  | .c1 x3 x4 x5 y6 => ⟨⟨4, sp 25 0 [(0, (aI x3)), (1, (.d (.sl x4 x5))), (5, (aI y6))], [(.code (cd cfz.P 4 [1, 1, 0, 1, 0, 0])), (.inLoop (cd cfz.P 4 [1, 1, 0, 1, 0, 0])), (.inBlock 0), (.code (cd cfz.P 4 [1, 1, 1]))], [], false, .none⟩, [], []⟩
noncomputable def B4 : S4 → Tr S4 (Int)
  | .c0 a0 a1 a2 => (.br (decide ((↑a1 : Int) > 16))
  (.ret 5)
  (.nxt (.c1 a0 a1 a2 0)))
  | .c1 x3 x4 x5 y6 => (.br (decide (y6 < (↑x4 : Int)))
  (.ask (.le 0 y6) (.ask (.lt y6 ((↑x4 : Int))) (.ask (.leN (y6.toNat * 1) x5.length) (.ask (.prop (Option.map AV.d (List.drop (y6.toNat * 1) x5)[0]? = some (AV.d (DV.sl (dN (cel x5 (y6.toNat * 1))) (dL (cel x5 (y6.toNat * 1))))))) (.bind (F13 x3 (dN (cel x5 (y6.toNat * 1))) (dL (cel x5 (y6.toNat * 1)))) fun v31 =>
  (.sees [(aI x3), (.d (.sl (dN (cel x5 (y6.toNat * 1))) (dL (cel x5 (y6.toNat * 1)))))] (.br (v31 != 0)
  (.ret v31)
  (.ask (.in64 (y6 + 1)) (.nxt (.c1 x3 x4 x5 (y6 + 1)))))))))))
  (.ret 0))
noncomputable def F4 (a0 : Int) (a1 : Nat) (a2 : List DV) : Option (Int) := res B4 (.c0 a0 a1 a2)
noncomputable def D4_0 (a0 : Int) (a1 : Nat) (a2 : List DV) : DT cfz := (.go 11 [] [] (.split 9 (.go 6 [(.br true)] [0] .fin) (.go 9 [(.br false)] [0] (.cut 0 [[0, 1, 5]] []))))
theorem k4_0 (a0 : Int) (a1 : Nat) (a2 : List DV) : xrun cfz 4 (D4_0 a0 a1 a2) [] (st4 (.c0 a0 a1 a2)) = (B4 (.c0 a0 a1 a2)).mach st4 out4 := by kernel_rfl
noncomputable def D4_1 (x3 : Int) (x4 : Nat) (x5 : List DV) (y6 : Int) : DT cfz := (.go 8 [] [] (.split 13 (.go 11 [(.br true), (.as (.d (.sl (dN (cel x5 (y6.toNat * 1))) (dL (cel x5 (y6.toNat * 1))))))] [0] (.bind (f13 x3 (dN (cel x5 (y6.toNat * 1))) (dL (cel x5 (y6.toNat * 1)))) fun v31 => (.go 8 [(.ck 0)] [] (.split 23 (.go 7 [(.br true)] [0] .fin) (.go 9 [(.br false)] [0] (.cut 0 [[0, 1, 5]] [])))))) (.go 7 [(.br false)] [0] .fin)))
theorem k4_1 (x3 : Int) (x4 : Nat) (x5 : List DV) (y6 : Int) : xrun cfz 4 (D4_1 x3 x4 x5 y6) [] (st4 (.c1 x3 x4 x5 y6)) = (B4 (.c1 x3 x4 x5 y6)).mach st4 out4 := by kernel_rfl
theorem ok4 : ∀ s, ∃ d, xrun cfz 4 d [] (st4 s) = (B4 s).mach st4 out4
  | .c0 a0 a1 a2 => ⟨_, k4_0 a0 a1 a2⟩
  | .c1 x3 x4 x5 y6 => ⟨_, k4_1 x3 x4 x5 y6⟩
theorem f4 (a0 : Int) (a1 : Nat) (a2 : List DV) (v : Int) (h : F4 a0 a1 a2 = some v) : PureCalls cfz.P cfz.glob 4 [(aI a0), (.d (.sl a1 a2))] (out4 v) := tree_pure knil ok4 (s := .c0 a0 a1 a2) rfl (by kernel_rfl) v h

/-! F26 -/
inductive S26 where
  | c0 (a10 : Bool) (a11 : Int)
def out26 (v : Int) : AV := (.d (.v (.int .i64 v)))
noncomputable def st26 : S26 → ASt
  | .c0 a10 a11 => ent cfz 26 [(.d (.v (.bool a10))), (aI a11)]
noncomputable def B26 : S26 → Tr S26 (Int)
  | .c0 a10 a11 => (.br a10
  (.ret a11)
  (.ret 0))
noncomputable def F26 (a10 : Bool) (a11 : Int) : Option (Int) := res B26 (.c0 a10 a11)
noncomputable def D26_0 (a10 : Bool) (a11 : Int) : DT cfz := (.go 9 [] [] (.split 5 (.go 7 [(.br true)] [0] .fin) (.go 7 [(.br false)] [0] .fin)))
theorem k26_0 (a10 : Bool) (a11 : Int) : xrun cfz 26 (D26_0 a10 a11) [] (st26 (.c0 a10 a11)) = (B26 (.c0 a10 a11)).mach st26 out26 := by kernel_rfl
theorem ok26 : ∀ s, ∃ d, xrun cfz 26 d [] (st26 s) = (B26 s).mach st26 out26
  | .c0 a10 a11 => ⟨_, k26_0 a10 a11⟩
theorem f26 (a10 : Bool) (a11 v : Int) (h : F26 a10 a11 = some v) : PureCalls cfz.P cfz.glob 26 [(.d (.v (.bool a10))), (aI a11)] (out26 v) := tree_pure knil ok26 (s := .c0 a10 a11) rfl (by kernel_rfl) v h

/-! F25 -/
inductive S25 where
  | c0 (a7 a8 a9 : Int)
def out25 (v : Int) : AV := (.d (.v (.int .i64 v)))
noncomputable def st25 : S25 → ASt
  | .c0 a7 a8 a9 => ent cfz 25 [(aI a7), (aI a8), (aI a9)]
noncomputable def B25 : S25 → Tr S25 (Int)
  | .c0 a7 a8 a9 => (.triv _ (tv_s (decide (a7 < a8) == false)) (.triv _ (tv_s (decide (a7 < a8) == false)) (.triv _ (tv_f (decide (a7 < a8))) (.bind (F26 (if decide (a7 < a8) = true then true else decide (a7 > a9)) 3) fun v12 =>
  (.sees [(.d (.v (.bool (if decide (a7 < a8) = true then true else decide (a7 > a9))))), (aI 3)] (.ret v12))))))
noncomputable def F25 (a7 a8 a9 : Int) : Option (Int) := res B25 (.c0 a7 a8 a9)
noncomputable def D25_0 (a7 a8 a9 : Int) : DT cfz := (.go 14 [(.sp .none), (.sp .none), (.sp .none), .mg] [] (.bind (f26 (if decide (a7 < a8) = true then true else decide (a7 > a9)) 3) fun v12 => (.go 4 [(.ck 0)] [] .fin)))
theorem k25_0 (a7 a8 a9 : Int) : xrun cfz 25 (D25_0 a7 a8 a9) [] (st25 (.c0 a7 a8 a9)) = (B25 (.c0 a7 a8 a9)).mach st25 out25 := by kernel_rfl
theorem ok25 : ∀ s, ∃ d, xrun cfz 25 d [] (st25 s) = (B25 s).mach st25 out25
  | .c0 a7 a8 a9 => ⟨_, k25_0 a7 a8 a9⟩
theorem f25 (a7 a8 a9 v : Int) (h : F25 a7 a8 a9 = some v) : PureCalls cfz.P cfz.glob 25 [(aI a7), (aI a8), (aI a9)] (out25 v) := tree_pure knil ok25 (s := .c0 a7 a8 a9) rfl (by kernel_rfl) v h

/-! F24 -/
inductive S24 where
  | c0 (a6 : Int)
def out24 (v : Int) : AV := (.d (.v (.int .i64 v)))
noncomputable def st24 : S24 → ASt
  | .c0 a6 => ent cfz 24 [(aI a6)]
noncomputable def B24 : S24 → Tr S24 (Int)
  | .c0 a6 => (.bind (F25 a6 1 5) fun v13 =>
  (.sees [(aI a6), (aI 1), (aI 5)] (.ret v13)))
noncomputable def F24 (a6 : Int) : Option (Int) := res B24 (.c0 a6)
noncomputable def D24_0 (a6 : Int) : DT cfz := (.go 7 [] [] (.bind (f25 a6 1 5) fun v13 => (.go 4 [(.ck 0)] [] .fin)))
theorem k24_0 (a6 : Int) : xrun cfz 24 (D24_0 a6) [] (st24 (.c0 a6)) = (B24 (.c0 a6)).mach st24 out24 := by kernel_rfl
theorem ok24 : ∀ s, ∃ d, xrun cfz 24 d [] (st24 s) = (B24 s).mach st24 out24
  | .c0 a6 => ⟨_, k24_0 a6⟩
theorem f24 (a6 v : Int) (h : F24 a6 = some v) : PureCalls cfz.P cfz.glob 24 [(aI a6)] (out24 v) := tree_pure knil ok24 (s := .c0 a6) rfl (by kernel_rfl) v h

/-! F23 -/
inductive S23 where
  | c0 (a17 : Nat) (a18 : List DV)
  | c1 (x19 : Nat) (x20 : List DV) (x21 y22 : Int)
def out23 (v : Int) : AV := (.d (.v (.int .i64 v)))
noncomputable def st23 : S23 → ASt
  | .c0 a17 a18 => ent cfz 23 [(.d (.sl a17 a18))]
  | .c1 x19 x20 x21 y22 => ⟨⟨23, sp 15 0 [(5, (.d (.sl x19 x20))), (6, (aI x21)), (7, (aI y22))], [(.code (cd cfz.P 23 [1, 0, 1, 0, 0])), (.inLoop (cd cfz.P 23 [1, 0, 1, 0, 0])), (.inBlock 0), (.code (cd cfz.P 23 [1, 1]))], [], false, .none⟩, [], []⟩
noncomputable def B23 : S23 → Tr S23 (Int)
  | .c0 a17 a18 => (.nxt (.c1 a17 a18 ((↑a17 : Int)) 0))
  | .c1 x19 x20 x21 y22 => (.br (decide (y22 < x21))
  (.ask (.le 0 y22) (.ask (.lt y22 ((↑x19 : Int))) (.ask (.leN (y22.toNat * 1) x20.length) (.ask (.prop (Option.map AV.d (List.drop (y22.toNat * 1) x20)[0]? = some (AV.d (DV.v (Value.int IntKind.i64 (dI (cel x20 (y22.toNat * 1)))))))) (.br (dI (cel x20 (y22.toNat * 1)) != 0)
  (.ret (dI (cel x20 (y22.toNat * 1))))
  (.ask (.in64 (y22 + 1)) (.nxt (.c1 x19 x20 x21 (y22 + 1)))))))))
  (.ret 0))
noncomputable def F23 (a17 : Nat) (a18 : List DV) : Option (Int) := res B23 (.c0 a17 a18)
noncomputable def D23_0 (a17 : Nat) (a18 : List DV) : DT cfz := (.go 13 [] [] (.cut 0 [[5, 6, 7]] []))
theorem k23_0 (a17 : Nat) (a18 : List DV) : xrun cfz 23 (D23_0 a17 a18) [] (st23 (.c0 a17 a18)) = (B23 (.c0 a17 a18)).mach st23 out23 := by kernel_rfl
noncomputable def D23_1 (x19 : Nat) (x20 : List DV) (x21 y22 : Int) : DT cfz := (.go 5 [] [] (.split 8 (.go 15 [(.br true), (.as (aI (dI (cel x20 (y22.toNat * 1)))))] [0] (.split 12 (.go 7 [(.br true)] [0] .fin) (.go 8 [(.br false)] [0] (.cut 0 [[5, 6, 7]] [])))) (.go 7 [(.br false)] [0] .fin)))
theorem k23_1 (x19 : Nat) (x20 : List DV) (x21 y22 : Int) : xrun cfz 23 (D23_1 x19 x20 x21 y22) [] (st23 (.c1 x19 x20 x21 y22)) = (B23 (.c1 x19 x20 x21 y22)).mach st23 out23 := by kernel_rfl
theorem ok23 : ∀ s, ∃ d, xrun cfz 23 d [] (st23 s) = (B23 s).mach st23 out23
  | .c0 a17 a18 => ⟨_, k23_0 a17 a18⟩
  | .c1 x19 x20 x21 y22 => ⟨_, k23_1 x19 x20 x21 y22⟩
theorem f23 (a17 : Nat) (a18 : List DV) (v : Int) (h : F23 a17 a18 = some v) : PureCalls cfz.P cfz.glob 23 [(.d (.sl a17 a18))] (out23 v) := tree_pure knil ok23 (s := .c0 a17 a18) rfl (by kernel_rfl) v h

/-! F28 -/
inductive S28 where
  | c0 (a35 : Int) (a36 : Nat) (a37 : List DV)
  | c1 (x38 y39 : Int) (x40 : Nat) (x41 : List DV) (x42 y43 : Int)
def out28 (v : Int) : AV := (.d (.v (.int .i64 v)))
noncomputable def st28 : S28 → ASt
  | .c0 a35 a36 a37 => ent cfz 28 [(aI a35), (.d (.sl a36 a37))]
  | .c1 x38 y39 x40 x41 x42 y43 => ⟨⟨28, sp 37 0 [(0, (aI x38)), (5, (aI y39)), (12, (.d (.sl x40 x41))), (13, (aI x42)), (14, (aI y43))], [(.code (cd cfz.P 28 [1, 1, 1, 0, 1, 0, 0])), (.inLoop (cd cfz.P 28 [1, 1, 1, 0, 1, 0, 0])), (.inBlock 0), (.code (cd cfz.P 28 [1, 1, 1, 1]))], [], false, .none⟩, [], []⟩
noncomputable def B28 : S28 → Tr S28 (Int)
  | .c0 a35 a36 a37 => (.br ((↑a36 : Int) == 0)
  (.ret 12)
  (.nxt (.c1 a35 (-1) a36 a37 ((↑a36 : Int)) 0)))
  | .c1 x38 y39 x40 x41 x42 y43 => (.br (decide (y43 < x42))
  (.ask (.le 0 y43) (.ask (.lt y43 ((↑x40 : Int))) (.ask (.leN (y43.toNat * 1) x41.length) (.ask (.prop (Option.map AV.d (List.drop (y43.toNat * 1) x41)[0]? = some (AV.d (DV.v (Value.int IntKind.i64 (dI (cel x41 (y43.toNat * 1)))))))) (.triv _ (tv_s (decide (dI (cel x41 (y43.toNat * 1)) < 0) == false)) (.triv _ (tv_s (decide (dI (cel x41 (y43.toNat * 1)) < 0) == false)) (.triv _ (tv_f (decide (dI (cel x41 (y43.toNat * 1)) < 0))) (.bind (F26 (if decide (dI (cel x41 (y43.toNat * 1)) < 0) = true then true else decide (dI (cel x41 (y43.toNat * 1)) ≥ x38)) 10) fun v44 =>
  (.sees [(.d (.v (.bool (if decide (dI (cel x41 (y43.toNat * 1)) < 0) = true then true else decide (dI (cel x41 (y43.toNat * 1)) ≥ x38))))), (aI 10)] (.bind (F26 (decide (dI (cel x41 (y43.toNat * 1)) ≤ y39)) 11) fun v45 =>
  (.sees [(.d (.v (.bool (decide (dI (cel x41 (y43.toNat * 1)) ≤ y39))))), (aI 11)] (.bind (F23 2 [(.v (.int .i64 v44)), (.v (.int .i64 v45))]) fun v46 =>
  (.sees [(.d (.sl 2 [(vI v44), (vI v45)]))] (.br (v46 != 0)
  (.ret v46)
  (.ask (.in64 (y43 + 1)) (.nxt (.c1 x38 (dI (cel x41 (y43.toNat * 1))) x40 x41 x42 (y43 + 1))))))))))))))))))
  (.ret 0))
noncomputable def F28 (a35 : Int) (a36 : Nat) (a37 : List DV) : Option (Int) := res B28 (.c0 a35 a36 a37)
noncomputable def D28_0 (a35 : Int) (a36 : Nat) (a37 : List DV) : DT cfz := (.go 11 [] [] (.split 11 (.go 6 [(.br true)] [0] .fin) (.go 15 [(.br false)] [0] (.cut 0 [[0, 5, 12, 13, 14]] []))))
theorem k28_0 (a35 : Int) (a36 : Nat) (a37 : List DV) : xrun cfz 28 (D28_0 a35 a36 a37) [] (st28 (.c0 a35 a36 a37)) = (B28 (.c0 a35 a36 a37)).mach st28 out28 := by kernel_rfl
noncomputable def D28_1 (x38 y39 : Int) (x40 : Nat) (x41 : List DV) (x42 y43 : Int) : DT cfz := (.go 5 [] [] (.split 15 (.go 20 [(.br true), (.as (aI (dI (cel x41 (y43.toNat * 1))))), (.sp .none), (.sp .none), (.sp .none), .mg] [0] (.bind (f26 (if decide (dI (cel x41 (y43.toNat * 1)) < 0) = true then true else decide (dI (cel x41 (y43.toNat * 1)) ≥ x38)) 10) fun v44 => (.go 4 [(.ck 0)] [] (.bind (f26 (decide (dI (cel x41 (y43.toNat * 1)) ≤ y39)) 11) fun v45 => (.go 2 [(.ck 1)] [] (.bind (f23 2 [(vI v44), (vI v45)]) fun v46 => (.go 8 [(.ck 2)] [] (.split 33 (.go 7 [(.br true)] [0] .fin) (.go 12 [(.br false)] [0] (.cut 0 [[0, 5, 12, 13, 14]] [])))))))))) (.go 7 [(.br false)] [0] .fin)))
theorem k28_1 (x38 y39 : Int) (x40 : Nat) (x41 : List DV) (x42 y43 : Int) : xrun cfz 28 (D28_1 x38 y39 x40 x41 x42 y43) [] (st28 (.c1 x38 y39 x40 x41 x42 y43)) = (B28 (.c1 x38 y39 x40 x41 x42 y43)).mach st28 out28 := by kernel_rfl
theorem ok28 : ∀ s, ∃ d, xrun cfz 28 d [] (st28 s) = (B28 s).mach st28 out28
  | .c0 a35 a36 a37 => ⟨_, k28_0 a35 a36 a37⟩
  | .c1 x38 y39 x40 x41 x42 y43 => ⟨_, k28_1 x38 y39 x40 x41 x42 y43⟩
theorem f28 (a35 : Int) (a36 : Nat) (a37 : List DV) (v : Int) (h : F28 a35 a36 a37 = some v) : PureCalls cfz.P cfz.glob 28 [(aI a35), (.d (.sl a36 a37))] (out28 v) := tree_pure knil ok28 (s := .c0 a35 a36 a37) rfl (by kernel_rfl) v h

/-! F27 -/
inductive S27 where
  | c0 (a32 : Nat) (a33 a34 : List DV)
def out27 (v : Int) : AV := (.d (.v (.int .i64 v)))
noncomputable def st27 : S27 → ASt
  | .c0 a32 a33 a34 => ent cfz 27 [(.d (.sl a32 a33)), (.ip a34)]
noncomputable def B27 : S27 → Tr S27 (Int)
  | .c0 a32 a33 a34 => (.ask (.prop (Option.map AV.d a34[0]? = some (AV.d (DV.v (Value.int IntKind.i64 (dI (cel a34 0))))))) (.bind (F28 (dI (cel a34 0)) a32 a33) fun v47 =>
  (.sees [(aI (dI (cel a34 0))), (.d (.sl a32 a33))] (.ret v47))))
noncomputable def F27 (a32 : Nat) (a33 a34 : List DV) : Option (Int) := res B27 (.c0 a32 a33 a34)
noncomputable def D27_0 (a32 : Nat) (a33 a34 : List DV) : DT cfz := (.go 8 [(.as (aI (dI (cel a34 0))))] [] (.bind (f28 (dI (cel a34 0)) a32 a33) fun v47 => (.go 4 [(.ck 0)] [] .fin)))
theorem k27_0 (a32 : Nat) (a33 a34 : List DV) : xrun cfz 27 (D27_0 a32 a33 a34) [] (st27 (.c0 a32 a33 a34)) = (B27 (.c0 a32 a33 a34)).mach st27 out27 := by kernel_rfl
theorem ok27 : ∀ s, ∃ d, xrun cfz 27 d [] (st27 s) = (B27 s).mach st27 out27
  | .c0 a32 a33 a34 => ⟨_, k27_0 a32 a33 a34⟩
theorem f27 (a32 : Nat) (a33 a34 : List DV) (v : Int) (h : F27 a32 a33 a34 = some v) : PureCalls cfz.P cfz.glob 27 [(.d (.sl a32 a33)), (.ip a34)] (out27 v) := tree_pure knil ok27 (s := .c0 a32 a33 a34) rfl (by kernel_rfl) v h

/-! F29f -/
inductive S29f where
  | c0 (a24 : Nat) (a25 a26 : List DV)
  | c1 (x27 : List DV) (x28 : Nat) (x29 : List DV) (x30 y31 : Int)
  | c2 (x49 : List DV) (y50 y51 : Nat) (y52 : List DV) (x53 : Nat) (x54 : List DV) (x55 y56 : Int) (y58 : Nat)
def out29f (v : Nat × List DV) : AV := (.own 0 0 1 v.fst v.snd)
noncomputable def st29f : S29f → ASt
  | .c0 a24 a25 a26 => ent cfz 29 [(.d (.sl a24 a25)), (.fn (.func 27) [] [(.ip a26)])]
  | .c1 x27 x28 x29 x30 y31 => ⟨⟨29, sp 22 0 [(1, (.fn (.func 27) [] [(.ip x27)])), (5, (.d (.v (.slice .none 0 0)))), (8, (.d (.sl x28 x29))), (9, (aI x30)), (10, (aI y31))], [(.code (cd cfz.P 29 [1, 1, 0, 1, 0, 0])), (.inLoop (cd cfz.P 29 [1, 1, 0, 1, 0, 0])), (.inBlock 0), (.code (cd cfz.P 29 [1, 1, 1]))], [], false, .none⟩, [], []⟩
  | .c2 x49 y50 y51 y52 x53 x54 x55 y56 y58 => ⟨⟨29, sp 22 0 [(1, (.fn (.func 27) [] [(.ip x49)])), (5, (.own 1 y50 1 y51 y52)), (8, (.d (.sl x53 x54))), (9, (aI x55)), (10, (aI y56))], [(.code (cd cfz.P 29 [1, 1, 0, 1, 0, 0])), (.inLoop (cd cfz.P 29 [1, 1, 0, 1, 0, 0])), (.inBlock 0), (.code (cd cfz.P 29 [1, 1, 1]))], [], false, .none⟩, [], [(.tail 0), (.tail y58)]⟩
noncomputable def B29f : S29f → Tr S29f (Nat × List DV)
  | .c0 a24 a25 a26 => (.nxt (.c1 a26 a24 a25 ((↑a24 : Int)) 0))
  | .c1 x27 x28 x29 x30 y31 => (.br (decide (y31 < x30))
  (.ask (.le 0 y31) (.ask (.lt y31 ((↑x28 : Int))) (.ask (.leN (y31.toNat * 1) x29.length) (.ask (.prop (Option.map AV.d (List.drop (y31.toNat * 1) x29)[0]? = some (AV.d (DV.sl (dN (cel x29 (y31.toNat * 1))) (dL (cel x29 (y31.toNat * 1))))))) (.bind (F27 (dN (cel x29 (y31.toNat * 1))) (dL (cel x29 (y31.toNat * 1))) x27) fun v48 =>
  (.sees [(.d (.sl (dN (cel x29 (y31.toNat * 1))) (dL (cel x29 (y31.toNat * 1))))), (.ip x27)] (.ask (.in64 (y31 + 1)) (.nxt (.c2 x27 0 1 [(.v (.int .i64 v48))] x28 x29 x30 (y31 + 1) 0)))))))))
  (.ret (0, [])))
  | .c2 x49 y50 y51 y52 x53 x54 x55 y56 y58 => (.br (decide (y56 < x55))
  (.ask (.le 0 y56) (.ask (.lt y56 ((↑x53 : Int))) (.ask (.leN (y56.toNat * 1) x54.length) (.ask (.prop (Option.map AV.d (List.drop (y56.toNat * 1) x54)[0]? = some (AV.d (DV.sl (dN (cel x54 (y56.toNat * 1))) (dL (cel x54 (y56.toNat * 1))))))) (.bind (F27 (dN (cel x54 (y56.toNat * 1))) (dL (cel x54 (y56.toNat * 1))) x49) fun v59 =>
  (.sees [(.d (.sl (dN (cel x54 (y56.toNat * 1))) (dL (cel x54 (y56.toNat * 1))))), (.ip x49)] (.ask (.eqN y50 y58) (.ask (.fits (y51 + 1) 8) (.ask (.in64 (y56 + 1)) (.nxt (.c2 x49 (y58 + 1) (y51 + 1) (y52 ++ [DV.v (Value.int IntKind.i64 v59)]) x53 x54 x55 (y56 + 1) (y58 + 1))))))))))))
  (.ask (.eqN y50 y58) (.ask (.ltN 0 y51) (.ret (y51, y52)))))
noncomputable def F29f (a24 : Nat) (a25 a26 : List DV) : Option (Nat × List DV) := res B29f (.c0 a24 a25 a26)
noncomputable def D29f_0 (a24 : Nat) (a25 a26 : List DV) : DT cfz := (.go 17 [] [] (.cut 0 [[1, 5, 8, 9, 10]] []))
theorem k29f_0 (a24 : Nat) (a25 a26 : List DV) : xrunF cfz 29 false (D29f_0 a24 a25 a26) [] (st29f (.c0 a24 a25 a26)) = (B29f (.c0 a24 a25 a26)).mach st29f out29f := by kernel_rfl
noncomputable def D29f_1 (x27 : List DV) (x28 : Nat) (x29 : List DV) (x30 y31 : Int) : DT cfz := (.go 5 [] [] (.split 11 (.go 14 [(.br true), (.as (.d (.sl (dN (cel x29 (y31.toNat * 1))) (dL (cel x29 (y31.toNat * 1))))))] [0] (.bind (f27 (dN (cel x29 (y31.toNat * 1))) (dL (cel x29 (y31.toNat * 1))) x27) fun v48 => (.go 11 [(.ck 0)] [1, 2, 3] (.cut 2 [[1, 5, 8, 9, 10]] [])))) (.go 8 [(.br false)] [0] (.finF 1 false []))))
theorem k29f_1 (x27 : List DV) (x28 : Nat) (x29 : List DV) (x30 y31 : Int) : xrunF cfz 29 false (D29f_1 x27 x28 x29 x30 y31) [] (st29f (.c1 x27 x28 x29 x30 y31)) = (B29f (.c1 x27 x28 x29 x30 y31)).mach st29f out29f := by kernel_rfl
noncomputable def D29f_2 (x49 : List DV) (y50 y51 : Nat) (y52 : List DV) (x53 : Nat) (x54 : List DV) (x55 y56 : Int) (y58 : Nat) : DT cfz := (.go 5 [] [] (.split 11 (.go 14 [(.br true), (.as (.d (.sl (dN (cel x54 (y56.toNat * 1))) (dL (cel x54 (y56.toNat * 1))))))] [0] (.bind (f27 (dN (cel x54 (y56.toNat * 1))) (dL (cel x54 (y56.toNat * 1))) x49) fun v59 => (.go 11 [(.ck 0)] [2, 3] (.cut 2 [[1, 5, 8, 9, 10]] [])))) (.go 8 [(.br false)] [0] (.finF 1 false []))))
theorem k29f_2 (x49 : List DV) (y50 y51 : Nat) (y52 : List DV) (x53 : Nat) (x54 : List DV) (x55 y56 : Int) (y58 : Nat) : xrunF cfz 29 false (D29f_2 x49 y50 y51 y52 x53 x54 x55 y56 y58) [] (st29f (.c2 x49 y50 y51 y52 x53 x54 x55 y56 y58)) = (B29f (.c2 x49 y50 y51 y52 x53 x54 x55 y56 y58)).mach st29f out29f := by kernel_rfl
theorem ok29f : ∀ s, ∃ d, xrunF cfz 29 false d [] (st29f s) = (B29f s).mach st29f out29f
  | .c0 a24 a25 a26 => ⟨_, k29f_0 a24 a25 a26⟩
  | .c1 x27 x28 x29 x30 y31 => ⟨_, k29f_1 x27 x28 x29 x30 y31⟩
  | .c2 x49 y50 y51 y52 x53 x54 x55 y56 y58 => ⟨_, k29f_2 x49 y50 y51 y52 x53 x54 x55 y56 y58⟩
theorem f29f (a24 : Nat) (a25 a26 : List DV) (v : Nat × List DV) (h : F29f a24 a25 a26 = some v) : PureCallsF cfz.P cfz.glob 29 [(.d (.sl a24 a25)), (.fn (.func 27) [] [(.ip a26)])] (out29f v) false := tree_pureF knil ok29f (s := .c0 a24 a25 a26) rfl (by kernel_rfl) v h

/-! F58 -/
inductive S58 where
  | c0 (a96 : Nat) (a97 : List DV) (a98 : Int)
  | c1 (x99 : Nat) (x100 : List DV) (x101 x102 y103 : Int)
def out58 (v : Int) : AV := (.d (.v (.int .i64 v)))
noncomputable def st58 : S58 → ASt
  | .c0 a96 a97 a98 => ent cfz 58 [(.d (.sl a96 a97)), (aI a98)]
  | .c1 x99 x100 x101 x102 y103 => ⟨⟨58, sp 19 0 [(0, (.d (.sl x99 x100))), (1, (aI x101)), (7, (aI x102)), (8, (aI y103))], [(.code (cd cfz.P 58 [1, 0, 1, 0, 0])), (.inLoop (cd cfz.P 58 [1, 0, 1, 0, 0])), (.inBlock 0), (.code (cd cfz.P 58 [1, 1]))], [], false, .none⟩, [], []⟩
noncomputable def B58 : S58 → Tr S58 (Int)
  | .c0 a96 a97 a98 => (.nxt (.c1 a96 a97 a98 ((↑a96 : Int)) 0))
  | .c1 x99 x100 x101 x102 y103 => (.br (decide (y103 < x102))
  (.ask (.le 0 y103) (.ask (.lt y103 ((↑x99 : Int))) (.ask (.leN (y103.toNat * 1) x100.length) (.ask (.prop (Option.map AV.d (List.drop (y103.toNat * 1) x100)[0]? = some (AV.d (DV.v (Value.int IntKind.i64 (dI (cel x100 (y103.toNat * 1)))))))) (.br (x101 == dI (cel x100 (y103.toNat * 1)))
  (.ret y103)
  (.ask (.in64 (y103 + 1)) (.nxt (.c1 x99 x100 x101 x102 (y103 + 1)))))))))
  (.ret (-1)))
noncomputable def F58 (a96 : Nat) (a97 : List DV) (a98 : Int) : Option (Int) := res B58 (.c0 a96 a97 a98)
noncomputable def D58_0 (a96 : Nat) (a97 : List DV) (a98 : Int) : DT cfz := (.go 13 [] [] (.cut 0 [[0, 1, 7, 8]] []))
theorem k58_0 (a96 : Nat) (a97 : List DV) (a98 : Int) : xrun cfz 58 (D58_0 a96 a97 a98) [] (st58 (.c0 a96 a97 a98)) = (B58 (.c0 a96 a97 a98)).mach st58 out58 := by kernel_rfl
noncomputable def D58_1 (x99 : Nat) (x100 : List DV) (x101 x102 y103 : Int) : DT cfz := (.go 5 [] [] (.split 9 (.go 18 [(.br true), (.as (aI (dI (cel x100 (y103.toNat * 1)))))] [0] (.split 16 (.go 7 [(.br true)] [0] .fin) (.go 8 [(.br false)] [0] (.cut 0 [[0, 1, 7, 8]] [])))) (.go 7 [(.br false)] [0] .fin)))
theorem k58_1 (x99 : Nat) (x100 : List DV) (x101 x102 y103 : Int) : xrun cfz 58 (D58_1 x99 x100 x101 x102 y103) [] (st58 (.c1 x99 x100 x101 x102 y103)) = (B58 (.c1 x99 x100 x101 x102 y103)).mach st58 out58 := by kernel_rfl
theorem ok58 : ∀ s, ∃ d, xrun cfz 58 d [] (st58 s) = (B58 s).mach st58 out58
  | .c0 a96 a97 a98 => ⟨_, k58_0 a96 a97 a98⟩
  | .c1 x99 x100 x101 x102 y103 => ⟨_, k58_1 x99 x100 x101 x102 y103⟩
theorem f58 (a96 : Nat) (a97 : List DV) (a98 v : Int) (h : F58 a96 a97 a98 = some v) : PureCalls cfz.P cfz.glob 58 [(.d (.sl a96 a97)), (aI a98)] (out58 v) := tree_pure knil ok58 (s := .c0 a96 a97 a98) rfl (by kernel_rfl) v h

/-! F48 -/
inductive S48 where
  | c0 (a93 : Nat) (a94 : List DV) (a95 : Int)
def out48 (v : Bool) : AV := (.d (.v (.bool v)))
noncomputable def st48 : S48 → ASt
  | .c0 a93 a94 a95 => ent cfz 48 [(.d (.sl a93 a94)), (aI a95)]
noncomputable def B48 : S48 → Tr S48 (Bool)
  | .c0 a93 a94 a95 => (.bind (F58 a93 a94 a95) fun v104 =>
  (.sees [(.d (.sl a93 a94)), (aI a95)] (.ret (decide (v104 ≥ 0)))))
noncomputable def F48 (a93 : Nat) (a94 : List DV) (a95 : Int) : Option (Bool) := res B48 (.c0 a93 a94 a95)
noncomputable def D48_0 (a93 : Nat) (a94 : List DV) (a95 : Int) : DT cfz := (.go 8 [] [] (.bind (f58 a93 a94 a95) fun v104 => (.go 5 [(.ck 0)] [] .fin)))
theorem k48_0 (a93 : Nat) (a94 : List DV) (a95 : Int) : xrun cfz 48 (D48_0 a93 a94 a95) [] (st48 (.c0 a93 a94 a95)) = (B48 (.c0 a93 a94 a95)).mach st48 out48 := by kernel_rfl
theorem ok48 : ∀ s, ∃ d, xrun cfz 48 d [] (st48 s) = (B48 s).mach st48 out48
  | .c0 a93 a94 a95 => ⟨_, k48_0 a93 a94 a95⟩
theorem f48 (a93 : Nat) (a94 : List DV) (a95 : Int) (v : Bool) (h : F48 a93 a94 a95 = some v) : PureCalls cfz.P cfz.glob 48 [(.d (.sl a93 a94)), (aI a95)] (out48 v) := tree_pure knil ok48 (s := .c0 a93 a94 a95) rfl (by kernel_rfl) v h

/-! F32 -/
inductive S32 where
  | c0 (a82 : Nat) (a83 : List DV) (a84 : Nat) (a85 : List DV)
  | c1 (x86 : Nat) (x87 : List DV) (y88 : Int) (x89 : Nat) (x90 : List DV) (x91 y92 : Int)
def out32 (v : Int) : AV := (.d (.v (.int .i64 v)))
noncomputable def st32 : S32 → ASt
  | .c0 a82 a83 a84 a85 => ent cfz 32 [(.d (.sl a82 a83)), (.d (.sl a84 a85))]
  | .c1 x86 x87 y88 x89 x90 x91 y92 => ⟨⟨32, sp 26 0 [(1, (.d (.sl x86 x87))), (5, (aI y88)), (13, (.d (.sl x89 x90))), (14, (aI x91)), (15, (aI y92))], [(.code (cd cfz.P 32 [1, 1, 0, 1, 0, 0])), (.inLoop (cd cfz.P 32 [1, 1, 0, 1, 0, 0])), (.inBlock 0), (.code (cd cfz.P 32 [1, 1, 1]))], [], false, .none⟩, [], []⟩
noncomputable def B32 : S32 → Tr S32 (Int)
  | .c0 a82 a83 a84 a85 => (.ask (.in64 ((↑a82 : Int) + (↑a84 : Int))) (.nxt (.c1 a84 a85 ((↑a82 : Int) + (↑a84 : Int)) a82 a83 ((↑a82 : Int)) 0)))
  | .c1 x86 x87 y88 x89 x90 x91 y92 => (.br (decide (y92 < x91))
  (.ask (.le 0 y92) (.ask (.lt y92 ((↑x89 : Int))) (.ask (.leN (y92.toNat * 1) x90.length) (.ask (.prop (Option.map AV.d (List.drop (y92.toNat * 1) x90)[0]? = some (AV.d (DV.v (Value.int IntKind.i64 (dI (cel x90 (y92.toNat * 1)))))))) (.bind (F48 x86 x87 (dI (cel x90 (y92.toNat * 1)))) fun v105 =>
  (.sees [(.d (.sl x86 x87)), (aI (dI (cel x90 (y92.toNat * 1))))] (.br v105
  (.ask (.in64 (y88 - 2)) (.ask (.in64 (y92 + 1)) (.nxt (.c1 x86 x87 (y88 - 2) x89 x90 x91 (y92 + 1)))))
  (.ask (.in64 (y92 + 1)) (.nxt (.c1 x86 x87 y88 x89 x90 x91 (y92 + 1)))))))))))
  (.ret y88))
noncomputable def F32 (a82 : Nat) (a83 : List DV) (a84 : Nat) (a85 : List DV) : Option (Int) := res B32 (.c0 a82 a83 a84 a85)
noncomputable def D32_0 (a82 : Nat) (a83 : List DV) (a84 : Nat) (a85 : List DV) : DT cfz := (.go 22 [] [] (.cut 0 [[1, 5, 13, 14, 15]] []))
theorem k32_0 (a82 : Nat) (a83 : List DV) (a84 : Nat) (a85 : List DV) : xrun cfz 32 (D32_0 a82 a83 a84 a85) [] (st32 (.c0 a82 a83 a84 a85)) = (B32 (.c0 a82 a83 a84 a85)).mach st32 out32 := by kernel_rfl
noncomputable def D32_1 (x86 : Nat) (x87 : List DV) (y88 : Int) (x89 : Nat) (x90 : List DV) (x91 y92 : Int) : DT cfz := (.go 5 [] [] (.split 16 (.go 14 [(.br true), (.as (aI (dI (cel x90 (y92.toNat * 1)))))] [0] (.bind (f48 x86 x87 (dI (cel x90 (y92.toNat * 1)))) fun v105 => (.go 2 [(.ck 0)] [] (.split 21 (.go 12 [(.br true)] [0] (.cut 0 [[1, 5, 13, 14, 15]] [])) (.go 8 [(.br false)] [0] (.cut 0 [[1, 5, 13, 14, 15]] [])))))) (.go 8 [(.br false)] [0] .fin)))
theorem k32_1 (x86 : Nat) (x87 : List DV) (y88 : Int) (x89 : Nat) (x90 : List DV) (x91 y92 : Int) : xrun cfz 32 (D32_1 x86 x87 y88 x89 x90 x91 y92) [] (st32 (.c1 x86 x87 y88 x89 x90 x91 y92)) = (B32 (.c1 x86 x87 y88 x89 x90 x91 y92)).mach st32 out32 := by kernel_rfl
theorem ok32 : ∀ s, ∃ d, xrun cfz 32 d [] (st32 s) = (B32 s).mach st32 out32
  | .c0 a82 a83 a84 a85 => ⟨_, k32_0 a82 a83 a84 a85⟩
  | .c1 x86 x87 y88 x89 x90 x91 y92 => ⟨_, k32_1 x86 x87 y88 x89 x90 x91 y92⟩
theorem f32 (a82 : Nat) (a83 : List DV) (a84 : Nat) (a85 : List DV) (v : Int) (h : F32 a82 a83 a84 a85 = some v) : PureCalls cfz.P cfz.glob 32 [(.d (.sl a82 a83)), (.d (.sl a84 a85))] (out32 v) := tree_pure knil ok32 (s := .c0 a82 a83 a84 a85) rfl (by kernel_rfl) v h

/-! F31 -/
inductive S31 where
  | c0 (a78 : Nat) (a79 a80 a81 : List DV)
def out31 (v : Bool) : AV := (.d (.v (.bool v)))
noncomputable def st31 : S31 → ASt
  | .c0 a78 a79 a80 a81 => ent cfz 31 [(.d (.sl a78 a79)), (.ip a80), (.ip a81)]
noncomputable def B31 : S31 → Tr S31 (Bool)
  | .c0 a78 a79 a80 a81 => (.ask (.prop (Option.map AV.d a80[0]? = some (AV.d (DV.sl (dN (cel a80 0)) (dL (cel a80 0)))))) (.bind (F32 a78 a79 (dN (cel a80 0)) (dL (cel a80 0))) fun v106 =>
  (.sees [(.d (.sl a78 a79)), (.d (.sl (dN (cel a80 0)) (dL (cel a80 0))))] (.br (decide (v106 > 0))
  (.ask (.prop (Option.map AV.d a81[0]? = some (AV.d (DV.v (Value.int IntKind.i64 (dI (cel a81 0))))))) (.ask (.eqB (decide (v106 > 0) == true) true) (.ret (decide (v106 < dI (cel a81 0))))))
  (.ret false)))))
noncomputable def F31 (a78 : Nat) (a79 a80 a81 : List DV) : Option (Bool) := res B31 (.c0 a78 a79 a80 a81)
noncomputable def D31_0 (a78 : Nat) (a79 a80 a81 : List DV) : DT cfz := (.go 8 [(.as (.d (.sl (dN (cel a80 0)) (dL (cel a80 0)))))] [] (.bind (f32 a78 a79 (dN (cel a80 0)) (dL (cel a80 0))) fun v106 => (.go 9 [(.ck 0), (.sp .none)] [] (.split 11 (.go 1 [(.br true), (.as (aI (dI (cel a81 0))))] [1] (.strip 12 (.go 5 [(.br true)] [0] .fin))) (.go 6 [(.br false), (.br false)] [0, 1] .fin)))))
theorem k31_0 (a78 : Nat) (a79 a80 a81 : List DV) : xrun cfz 31 (D31_0 a78 a79 a80 a81) [] (st31 (.c0 a78 a79 a80 a81)) = (B31 (.c0 a78 a79 a80 a81)).mach st31 out31 := by kernel_rfl
theorem ok31 : ∀ s, ∃ d, xrun cfz 31 d [] (st31 s) = (B31 s).mach st31 out31
  | .c0 a78 a79 a80 a81 => ⟨_, k31_0 a78 a79 a80 a81⟩
theorem f31 (a78 : Nat) (a79 a80 a81 : List DV) (v : Bool) (h : F31 a78 a79 a80 a81 = some v) : PureCalls cfz.P cfz.glob 31 [(.d (.sl a78 a79)), (.ip a80), (.ip a81)] (out31 v) := tree_pure knil ok31 (s := .c0 a78 a79 a80 a81) rfl (by kernel_rfl) v h

/-! F47 -/
inductive S47 where
  | c0 (a68 : Nat) (a69 a70 a71 : List DV)
  | c1 (x72 : Nat) (x73 x74 x75 : List DV) (x76 y77 : Int)
def out47 (v : Int) : AV := (.d (.v (.int .i64 v)))
noncomputable def st47 : S47 → ASt
  | .c0 a68 a69 a70 a71 => ent cfz 47 [(.d (.sl a68 a69)), (.fn (.func 31) [] [(.ip a70), (.ip a71)])]
  | .c1 x72 x73 x74 x75 x76 y77 => ⟨⟨47, sp 19 0 [(0, (.d (.sl x72 x73))), (1, (.fn (.func 31) [] [(.ip x74), (.ip x75)])), (7, (aI x76)), (8, (aI y77))], [(.code (cd cfz.P 47 [1, 0, 1, 0, 0])), (.inLoop (cd cfz.P 47 [1, 0, 1, 0, 0])), (.inBlock 0), (.code (cd cfz.P 47 [1, 1]))], [], false, .none⟩, [], []⟩
noncomputable def B47 : S47 → Tr S47 (Int)
  | .c0 a68 a69 a70 a71 => (.nxt (.c1 a68 a69 a70 a71 ((↑a68 : Int)) 0))
  | .c1 x72 x73 x74 x75 x76 y77 => (.br (decide (y77 < x76))
  (.ask (.le 0 y77) (.ask (.lt y77 ((↑x72 : Int))) (.ask (.leN (y77.toNat * 1) x73.length) (.ask (.prop (Option.map AV.d (List.drop (y77.toNat * 1) x73)[0]? = some (AV.d (DV.sl (dN (cel x73 (y77.toNat * 1))) (dL (cel x73 (y77.toNat * 1))))))) (.bind (F31 (dN (cel x73 (y77.toNat * 1))) (dL (cel x73 (y77.toNat * 1))) x74 x75) fun v107 =>
  (.sees [(.d (.sl (dN (cel x73 (y77.toNat * 1))) (dL (cel x73 (y77.toNat * 1))))), (.ip x74), (.ip x75)] (.br v107
  (.ret y77)
  (.ask (.in64 (y77 + 1)) (.nxt (.c1 x72 x73 x74 x75 x76 (y77 + 1)))))))))))
  (.ret (-1)))
noncomputable def F47 (a68 : Nat) (a69 a70 a71 : List DV) : Option (Int) := res B47 (.c0 a68 a69 a70 a71)
noncomputable def D47_0 (a68 : Nat) (a69 a70 a71 : List DV) : DT cfz := (.go 13 [] [] (.cut 0 [[0, 1, 7, 8]] []))
theorem k47_0 (a68 : Nat) (a69 a70 a71 : List DV) : xrun cfz 47 (D47_0 a68 a69 a70 a71) [] (st47 (.c0 a68 a69 a70 a71)) = (B47 (.c0 a68 a69 a70 a71)).mach st47 out47 := by kernel_rfl
noncomputable def D47_1 (x72 : Nat) (x73 x74 x75 : List DV) (x76 y77 : Int) : DT cfz := (.go 5 [] [] (.split 9 (.go 16 [(.br true), (.as (.d (.sl (dN (cel x73 (y77.toNat * 1))) (dL (cel x73 (y77.toNat * 1))))))] [0] (.bind (f31 (dN (cel x73 (y77.toNat * 1))) (dL (cel x73 (y77.toNat * 1))) x74 x75) fun v107 => (.go 2 [(.ck 0)] [] (.split 16 (.go 7 [(.br true)] [0] .fin) (.go 8 [(.br false)] [0] (.cut 0 [[0, 1, 7, 8]] [])))))) (.go 7 [(.br false)] [0] .fin)))
theorem k47_1 (x72 : Nat) (x73 x74 x75 : List DV) (x76 y77 : Int) : xrun cfz 47 (D47_1 x72 x73 x74 x75 x76 y77) [] (st47 (.c1 x72 x73 x74 x75 x76 y77)) = (B47 (.c1 x72 x73 x74 x75 x76 y77)).mach st47 out47 := by kernel_rfl
theorem ok47 : ∀ s, ∃ d, xrun cfz 47 d [] (st47 s) = (B47 s).mach st47 out47
  | .c0 a68 a69 a70 a71 => ⟨_, k47_0 a68 a69 a70 a71⟩
  | .c1 x72 x73 x74 x75 x76 y77 => ⟨_, k47_1 x72 x73 x74 x75 x76 y77⟩
theorem f47 (a68 : Nat) (a69 a70 a71 : List DV) (v : Int) (h : F47 a68 a69 a70 a71 = some v) : PureCalls cfz.P cfz.glob 47 [(.d (.sl a68 a69)), (.fn (.func 31) [] [(.ip a70), (.ip a71)])] (out47 v) := tree_pure knil ok47 (s := .c0 a68 a69 a70 a71) rfl (by kernel_rfl) v h

/-! F30 -/
inductive S30 where
  | c0 (a64 : Nat) (a65 a66 a67 : List DV)
def out30 (v : Bool) : AV := (.d (.v (.bool v)))
noncomputable def st30 : S30 → ASt
  | .c0 a64 a65 a66 a67 => ent cfz 30 [(.d (.sl a64 a65)), (.fn (.func 31) [] [(.ip a66), (.ip a67)])]
noncomputable def B30 : S30 → Tr S30 (Bool)
  | .c0 a64 a65 a66 a67 => (.bind (F47 a64 a65 a66 a67) fun v108 =>
  (.sees [(.d (.sl a64 a65)), (.fn (.func 31) [] [(.ip a66), (.ip a67)])] (.ret (decide (v108 ≥ 0)))))
noncomputable def F30 (a64 : Nat) (a65 a66 a67 : List DV) : Option (Bool) := res B30 (.c0 a64 a65 a66 a67)
noncomputable def D30_0 (a64 : Nat) (a65 a66 a67 : List DV) : DT cfz := (.go 8 [] [] (.bind (f47 a64 a65 a66 a67) fun v108 => (.go 5 [(.ck 0)] [] .fin)))
theorem k30_0 (a64 : Nat) (a65 a66 a67 : List DV) : xrun cfz 30 (D30_0 a64 a65 a66 a67) [] (st30 (.c0 a64 a65 a66 a67)) = (B30 (.c0 a64 a65 a66 a67)).mach st30 out30 := by kernel_rfl
theorem ok30 : ∀ s, ∃ d, xrun cfz 30 d [] (st30 s) = (B30 s).mach st30 out30
  | .c0 a64 a65 a66 a67 => ⟨_, k30_0 a64 a65 a66 a67⟩
theorem f30 (a64 : Nat) (a65 a66 a67 : List DV) (v : Bool) (h : F30 a64 a65 a66 a67 = some v) : PureCalls cfz.P cfz.glob 30 [(.d (.sl a64 a65)), (.fn (.func 31) [] [(.ip a66), (.ip a67)])] (out30 v) := tree_pure knil ok30 (s := .c0 a64 a65 a66 a67) rfl (by kernel_rfl) v h

/-! F8 -/
inductive S8 where
  | c0 (a0 a1 : Int) (a2 : Nat) (a3 : List DV) (a4 : Nat) (a5 : List DV)
def out8 (v : Bool × Int) : AV := (.tup [(.d (.v (.bool v.fst))), (.d (.v (.int .i64 v.snd)))])
noncomputable def st8 : S8 → ASt
  | .c0 a0 a1 a2 a3 a4 a5 => ent cfz 8 [(aI a0), (aI a1), (.d (.sl a2 a3)), (.d (.sl a4 a5))]
noncomputable def B8 : S8 → Tr S8 (Bool × Int)
  | .c0 a0 a1 a2 a3 a4 a5 => (.bind (F24 a0) fun v14 =>
  (.bind (F25 a1 1 5) fun v15 =>
  (.bind (F26 (decide ((↑a2 : Int) > 16)) 5) fun v16 =>
  (.bind (F23 3 [(.v (.int .i64 v14)), (.v (.int .i64 v15)), (.v (.int .i64 v16))]) fun v23 =>
  (.sees [(aI a0)] (.sees [(aI a1), (aI 1), (aI 5)] (.sees [(.d (.v (.bool (decide ((↑a2 : Int) > 16))))), (aI 5)] (.sees [(.d (.sl 3 [(vI v14), (vI v15), (vI v16)]))] (.br (v23 != 0)
  (.ret (false, v23))
  (.bind (F29f a2 a3 [(.v (.int .i64 a0))]) fun v60 =>
  (.br ((ownN (AV.own 0 0 1 v60.fst v60.snd)).beq 0)
  (.bind (F23 0 []) fun v61 =>
  (.bind (F27 a4 a5 [(.v (.int .i64 a0))]) fun v62 =>
  (.bind (F23 2 [(.v (.int .i64 v61)), (.v (.int .i64 v62))]) fun v63 =>
  (.sees [(.d (.sl a2 a3)), (.fn (.func 27) [] [(.ip [(vI a0)])])] (.ask (.eqN (ownN (AV.own 0 0 1 v60.fst v60.snd)) 0) (.sees [(.d (.sl 0 []))] (.sees [(.d (.sl a4 a5)), (.ip [(vI a0)])] (.sees [(.d (.sl 2 [(vI v61), (vI v62)]))] (.br (v63 != 0)
  (.ret (false, v63))
  (.bind (F30 a2 a3 [(.sl a4 a5)] [(.v (.int .i64 a1))]) fun v110 =>
  (.sees [(.d (.sl a2 a3)), (.fn (.func 31) [] [(.ip [(.sl a4 a5)]), (.ip [(vI a1)])])] (.triv _ (tv_s (decide ((↑a4 : Int) ≥ a1) == true)) (.triv _ (tv_t (decide ((↑a4 : Int) ≥ a1))) (.ret ((if decide ((↑a4 : Int) ≥ a1) = true then !v110 else false), 0)))))))))))))))
  (.bind (F23 v60.fst v60.snd) fun v111 =>
  (.bind (F27 a4 a5 [(.v (.int .i64 a0))]) fun v112 =>
  (.bind (F23 2 [(.v (.int .i64 v111)), (.v (.int .i64 v112))]) fun v113 =>
  (.sees [(.d (.sl a2 a3)), (.fn (.func 27) [] [(.ip [(vI a0)])])] (.ask (.ltN 0 (ownN (AV.own 0 0 1 v60.fst v60.snd))) (.ask (.prop (flatDs v60.snd = true)) (.sees [(.d (.sl v60.fst v60.snd))] (.sees [(.d (.sl a4 a5)), (.ip [(vI a0)])] (.sees [(.d (.sl 2 [(vI v111), (vI v112)]))] (.br (v113 != 0)
  (.ret (false, v113))
  (.bind (F30 a2 a3 [(.sl a4 a5)] [(.v (.int .i64 a1))]) fun v115 =>
  (.sees [(.d (.sl a2 a3)), (.fn (.func 31) [] [(.ip [(.sl a4 a5)]), (.ip [(vI a1)])])] (.triv _ (tv_s (decide ((↑a4 : Int) ≥ a1) == true)) (.triv _ (tv_t (decide ((↑a4 : Int) ≥ a1))) (.ret ((if decide ((↑a4 : Int) ≥ a1) = true then !v115 else false), 0)))))))))))))))))))))))))))
noncomputable def F8 (a0 a1 : Int) (a2 : Nat) (a3 : List DV) (a4 : Nat) (a5 : List DV) : Option (Bool × Int) := res B8 (.c0 a0 a1 a2 a3 a4 a5)
noncomputable def D8_0 (a0 a1 : Int) (a2 : Nat) (a3 : List DV) (a4 : Nat) (a5 : List DV) : DT cfz := (.go 11 [] [] (.bind (f24 a0) fun v14 => (.bind (f25 a1 1 5) fun v15 => (.bind (f26 (decide ((↑a2 : Int) > 16)) 5) fun v16 => (.bind (f23 3 [(vI v14), (vI v15), (vI v16)]) fun v23 => (.go 6 [(.ck 0), (.ck 1), (.ck 2), (.ck 3)] [] (.split 25 (.go 8 [(.br true)] [0] .fin) (.go 10 [(.br false)] [0] (.bindF (f29f a2 a3 [(vI a0)]) fun v60 => (.br ((ownN (AV.own 0 0 1 v60.fst v60.snd)).beq 0) (.bind (f23 0 []) fun v61 => (.bind (f27 a4 a5 [(vI a0)]) fun v62 => (.bind (f23 2 [(vI v61), (vI v62)]) fun v63 => (.go 6 [(.ce 4), (.ck 5), (.ck 6), (.ck 7)] [] (.split 38 (.go 8 [(.br true)] [0] .fin) (.go 6 [(.br false)] [0] (.bind (f30 a2 a3 [(.sl a4 a5)] [(vI a1)]) fun v110 => (.go 17 [(.ck 8), .none, .none, (.sp .none), (.sp .none), .mg] [] .fin)))))))) (.bind (f23 v60.fst v60.snd) fun v111 => (.bind (f27 a4 a5 [(vI a0)]) fun v112 => (.bind (f23 2 [(vI v111), (vI v112)]) fun v113 => (.go 6 [(.cq 4), (.ck 5), (.ck 6), (.ck 7)] [] (.split 38 (.go 8 [(.br true)] [0] .fin) (.go 6 [(.br false)] [0] (.bind (f30 a2 a3 [(.sl a4 a5)] [(vI a1)]) fun v115 => (.go 17 [(.ck 8), .none, .none, (.sp .none), (.sp .none), .mg] [] .fin))))))))))))))))))
theorem k8_0 (a0 a1 : Int) (a2 : Nat) (a3 : List DV) (a4 : Nat) (a5 : List DV) : xrun cfz 8 (D8_0 a0 a1 a2 a3 a4 a5) [] (st8 (.c0 a0 a1 a2 a3 a4 a5)) = (B8 (.c0 a0 a1 a2 a3 a4 a5)).mach st8 out8 := by kernel_rfl
theorem ok8 : ∀ s, ∃ d, xrun cfz 8 d [] (st8 s) = (B8 s).mach st8 out8
  | .c0 a0 a1 a2 a3 a4 a5 => ⟨_, k8_0 a0 a1 a2 a3 a4 a5⟩
theorem f8 (a0 a1 : Int) (a2 : Nat) (a3 : List DV) (a4 : Nat) (a5 : List DV) (v : Bool × Int) (h : F8 a0 a1 a2 a3 a4 a5 = some v) : PureCalls cfz.P cfz.glob 8 [(aI a0), (aI a1), (.d (.sl a2 a3)), (.d (.sl a4 a5))] (out8 v) := tree_pure knil ok8 (s := .c0 a0 a1 a2 a3 a4 a5) rfl (by kernel_rfl) v h

/-! F9 -/
inductive S9 where
  | c0 (a0 : Nat) (a1 : List DV)
  | c1 (x2 : Nat) (x3 : List DV) (x4 y5 : Int)
  | c2 (y6 y7 : Nat) (y8 : List DV) (x9 : Nat) (x10 : List DV) (x11 y12 : Int) (x13 y14 : Nat)
def out9 (v : Nat × List DV) : AV := (.d (.sl v.fst v.snd))
noncomputable def st9 : S9 → ASt
  | .c0 a0 a1 => ent cfe 9 [(.d (.sl a0 a1))]
  | .c1 x2 x3 x4 y5 => ⟨⟨9, sp 20 0 [(3, (.d (.v (.slice .none 0 0)))), (6, (.d (.sl x2 x3))), (7, (aI x4)), (8, (aI y5))], [(.code (cd cfe.P 9 [1, 1, 0, 1, 0, 0])), (.inLoop (cd cfe.P 9 [1, 1, 0, 1, 0, 0])), (.inBlock 0), (.code (cd cfe.P 9 [1, 1, 1]))], [], false, .none⟩, [], []⟩
  | .c2 y6 y7 y8 x9 x10 x11 y12 x13 y14 => ⟨⟨9, sp 20 0 [(3, (.own 2 y6 1 y7 y8)), (6, (.d (.sl x9 x10))), (7, (aI x11)), (8, (aI y12))], [(.code (cd cfe.P 9 [1, 1, 0, 1, 0, 0])), (.inLoop (cd cfe.P 9 [1, 1, 0, 1, 0, 0])), (.inBlock 0), (.code (cd cfe.P 9 [1, 1, 1]))], [], false, .none⟩, [], [(.tail x13), (.tail 0), (.tail y14)]⟩
noncomputable def B9 : S9 → Tr S9 (Nat × List DV)
  | .c0 a0 a1 => (.nxt (.c1 a0 a1 ((↑a0 : Int)) 0))
  | .c1 x2 x3 x4 y5 => (.br (decide (y5 < x4))
  (.ask (.le 0 y5) (.ask (.lt y5 ((↑x2 : Int))) (.ask (.leN (y5.toNat * 1) x3.length) (.ask (.prop (Option.map AV.d (List.drop (y5.toNat * 1) x3)[0]? = some (AV.d (DV.sl (dN (cel x3 (y5.toNat * 1))) (dL (cel x3 (y5.toNat * 1))))))) (.ask (.eqN ((dL (cel x3 (y5.toNat * 1))).length) (dN (cel x3 (y5.toNat * 1)) * 1)) (.ask (.fits (0 + dN (cel x3 (y5.toNat * 1))) 8) (.ask (.in64 (y5 + 1)) (.nxt (.c2 0 1 [(.sl (0 + dN (cel x3 (y5.toNat * 1))) ([] ++ dL (cel x3 (y5.toNat * 1))))] x2 x3 x4 (y5 + 1) (0 + dN (cel x3 (y5.toNat * 1))) 0)))))))))
  (.ret (0, [])))
  | .c2 y6 y7 y8 x9 x10 x11 y12 x13 y14 => (.br (decide (y12 < x11))
  (.ask (.le 0 y12) (.ask (.lt y12 ((↑x9 : Int))) (.ask (.leN (y12.toNat * 1) x10.length) (.ask (.prop (Option.map AV.d (List.drop (y12.toNat * 1) x10)[0]? = some (AV.d (DV.sl (dN (cel x10 (y12.toNat * 1))) (dL (cel x10 (y12.toNat * 1))))))) (.ask (.eqN ((dL (cel x10 (y12.toNat * 1))).length) (dN (cel x10 (y12.toNat * 1)) * 1)) (.ask (.fits (0 + dN (cel x10 (y12.toNat * 1))) 8) (.ask (.eqN y6 y14) (.ask (.fits (y7 + 1) 24) (.ask (.in64 (y12 + 1)) (.nxt (.c2 (y14 + 1) (y7 + 1) (y8 ++ [DV.sl (0 + dN (cel x10 (y12.toNat * 1))) ([] ++ dL (cel x10 (y12.toNat * 1)))]) x9 x10 x11 (y12 + 1) x13 (y14 + 1))))))))))))
  (.ret (y7, y8)))
noncomputable def F9 (a0 : Nat) (a1 : List DV) : Option (Nat × List DV) := res B9 (.c0 a0 a1)
noncomputable def D9_0 (a0 : Nat) (a1 : List DV) : DT cfe := (.go 17 [] [] (.cut 0 [[3, 6, 7, 8]] []))
theorem k9_0 (a0 : Nat) (a1 : List DV) : xrun cfe 9 (D9_0 a0 a1) [] (st9 (.c0 a0 a1)) = (B9 (.c0 a0 a1)).mach st9 out9 := by kernel_rfl
noncomputable def D9_1 (x2 : Nat) (x3 : List DV) (x4 y5 : Int) : DT cfe := (.go 5 [] [] (.split 9 (.go 25 [(.br true), (.as (.d (.sl (dN (cel x3 (y5.toNat * 1))) (dL (cel x3 (y5.toNat * 1))))))] [0, 5, 8, 9, 10] (.cut 3 [[3, 6, 7, 8]] [])) (.go 8 [(.br false)] [0] .fin)))
theorem k9_1 (x2 : Nat) (x3 : List DV) (x4 y5 : Int) : xrun cfe 9 (D9_1 x2 x3 x4 y5) [] (st9 (.c1 x2 x3 x4 y5)) = (B9 (.c1 x2 x3 x4 y5)).mach st9 out9 := by kernel_rfl
noncomputable def D9_2 (y6 y7 : Nat) (y8 : List DV) (x9 : Nat) (x10 : List DV) (x11 y12 : Int) (x13 y14 : Nat) : DT cfe := (.go 5 [] [] (.split 9 (.go 25 [(.br true), (.as (.d (.sl (dN (cel x10 (y12.toNat * 1))) (dL (cel x10 (y12.toNat * 1))))))] [0, 5, 9] (.cut 3 [[3, 6, 7, 8]] [])) (.go 8 [(.br false)] [0] .fin)))
theorem k9_2 (y6 y7 : Nat) (y8 : List DV) (x9 : Nat) (x10 : List DV) (x11 y12 : Int) (x13 y14 : Nat) : xrun cfe 9 (D9_2 y6 y7 y8 x9 x10 x11 y12 x13 y14) [] (st9 (.c2 y6 y7 y8 x9 x10 x11 y12 x13 y14)) = (B9 (.c2 y6 y7 y8 x9 x10 x11 y12 x13 y14)).mach st9 out9 := by kernel_rfl
theorem ok9 : ∀ s, ∃ d, xrun cfe 9 d [] (st9 s) = (B9 s).mach st9 out9
  | .c0 a0 a1 => ⟨_, k9_0 a0 a1⟩
  | .c1 x2 x3 x4 y5 => ⟨_, k9_1 x2 x3 x4 y5⟩
  | .c2 y6 y7 y8 x9 x10 x11 y12 x13 y14 => ⟨_, k9_2 y6 y7 y8 x9 x10 x11 y12 x13 y14⟩
theorem f9 (a0 : Nat) (a1 : List DV) (v : Nat × List DV) (h : F9 a0 a1 = some v) : PureCalls cfe.P cfe.glob 9 [(.d (.sl a0 a1))] (out9 v) := tree_pure knile ok9 (s := .c0 a0 a1) rfl (by kernel_rfl) v h

/-! F10 -/
inductive S10 where
  | c0 (a70 : Nat) (a71 : List DV) (a72 : Int)
  | c1 (x73 : Nat) (x74 : List DV) (x75 y76 : Int)
def out10 (v : Bool) : AV := (.d (.v (.bool v)))
noncomputable def st10 : S10 → ASt
  | .c0 a70 a71 a72 => ent cfz 10 [(.d (.sl a70 a71)), (aI a72)]
  | .c1 x73 x74 x75 y76 => ⟨⟨10, sp 18 0 [(0, (.d (.sl x73 x74))), (1, (aI x75)), (5, (aI y76))], [(.code (cd cfz.P 10 [1, 0, 1, 0, 0])), (.inLoop (cd cfz.P 10 [1, 0, 1, 0, 0])), (.inBlock 0), (.code (cd cfz.P 10 [1, 1]))], [], false, .none⟩, [], []⟩
noncomputable def B10 : S10 → Tr S10 (Bool)
  | .c0 a70 a71 a72 => (.nxt (.c1 a70 a71 a72 0))
  | .c1 x73 x74 x75 y76 => (.br (decide (y76 < (↑x73 : Int)))
  (.ask (.le 0 y76) (.ask (.lt y76 ((↑x73 : Int))) (.ask (.leN (y76.toNat * 1) x74.length) (.ask (.prop (Option.map AV.d (List.drop (y76.toNat * 1) x74)[0]? = some (AV.d (DV.v (Value.int IntKind.i64 (dI (cel x74 (y76.toNat * 1)))))))) (.br (dI (cel x74 (y76.toNat * 1)) == x75)
  (.ret true)
  (.ask (.in64 (y76 + 1)) (.nxt (.c1 x73 x74 x75 (y76 + 1)))))))))
  (.ret false))
noncomputable def F10 (a70 : Nat) (a71 : List DV) (a72 : Int) : Option (Bool) := res B10 (.c0 a70 a71 a72)
noncomputable def D10_0 (a70 : Nat) (a71 : List DV) (a72 : Int) : DT cfz := (.go 11 [] [] (.cut 0 [[0, 1, 5]] []))
theorem k10_0 (a70 : Nat) (a71 : List DV) (a72 : Int) : xrun cfz 10 (D10_0 a70 a71 a72) [] (st10 (.c0 a70 a71 a72)) = (B10 (.c0 a70 a71 a72)).mach st10 out10 := by kernel_rfl
noncomputable def D10_1 (x73 : Nat) (x74 : List DV) (x75 y76 : Int) : DT cfz := (.go 8 [] [] (.split 9 (.go 13 [(.br true), (.as (aI (dI (cel x74 (y76.toNat * 1)))))] [0] (.split 17 (.go 6 [(.br true)] [0] .fin) (.go 9 [(.br false)] [0] (.cut 0 [[0, 1, 5]] [])))) (.go 7 [(.br false)] [0] .fin)))
theorem k10_1 (x73 : Nat) (x74 : List DV) (x75 y76 : Int) : xrun cfz 10 (D10_1 x73 x74 x75 y76) [] (st10 (.c1 x73 x74 x75 y76)) = (B10 (.c1 x73 x74 x75 y76)).mach st10 out10 := by kernel_rfl
theorem ok10 : ∀ s, ∃ d, xrun cfz 10 d [] (st10 s) = (B10 s).mach st10 out10
  | .c0 a70 a71 a72 => ⟨_, k10_0 a70 a71 a72⟩
  | .c1 x73 x74 x75 y76 => ⟨_, k10_1 x73 x74 x75 y76⟩
theorem f10 (a70 : Nat) (a71 : List DV) (a72 : Int) (v : Bool) (h : F10 a70 a71 a72 = some v) : PureCalls cfz.P cfz.glob 10 [(.d (.sl a70 a71)), (aI a72)] (out10 v) := tree_pure knil ok10 (s := .c0 a70 a71 a72) rfl (by kernel_rfl) v h

/-! F33 -/
inductive S33 where
  | c0 (a90 : Int)
def out33 (v : Int) : AV := (.d (.v (.int .i64 v)))
noncomputable def st33 : S33 → ASt
  | .c0 a90 => ent cfz 33 [(aI a90)]
noncomputable def B33 : S33 → Tr S33 (Int)
  | .c0 a90 => (.bind (F25 a90 0 7) fun v91 =>
  (.sees [(aI a90), (aI 0), (aI 7)] (.ret v91)))
noncomputable def F33 (a90 : Int) : Option (Int) := res B33 (.c0 a90)
noncomputable def D33_0 (a90 : Int) : DT cfz := (.go 7 [] [] (.bind (f25 a90 0 7) fun v91 => (.go 4 [(.ck 0)] [] .fin)))
theorem k33_0 (a90 : Int) : xrun cfz 33 (D33_0 a90) [] (st33 (.c0 a90)) = (B33 (.c0 a90)).mach st33 out33 := by kernel_rfl
theorem ok33 : ∀ s, ∃ d, xrun cfz 33 d [] (st33 s) = (B33 s).mach st33 out33
  | .c0 a90 => ⟨_, k33_0 a90⟩
theorem f33 (a90 v : Int) (h : F33 a90 = some v) : PureCalls cfz.P cfz.glob 33 [(aI a90)] (out33 v) := tree_pure knil ok33 (s := .c0 a90) rfl (by kernel_rfl) v h

/-! F34 -/
inductive S34 where
  | c0 (a84 : Nat) (a85 : List DV)
  | c1 (x86 : Nat) (x87 : List DV) (x88 y89 : Int)
  | c2 (y93 y94 : Nat) (y95 : List DV) (x96 : Nat) (x97 : List DV) (x98 y99 : Int) (y101 : Nat)
def out34 (v : Nat × List DV) : AV := (.d (.sl v.fst v.snd))
noncomputable def st34 : S34 → ASt
  | .c0 a84 a85 => ent cfz 34 [(.d (.sl a84 a85)), (.d (.v (.func (.func 33) (#[]) (#[]))))]
  | .c1 x86 x87 x88 y89 => ⟨⟨34, sp 22 0 [(1, (.d (.v (.func (.func 33) (#[]) (#[]))))), (5, (.d (.v (.slice .none 0 0)))), (8, (.d (.sl x86 x87))), (9, (aI x88)), (10, (aI y89))], [(.code (cd cfz.P 34 [1, 1, 0, 1, 0, 0])), (.inLoop (cd cfz.P 34 [1, 1, 0, 1, 0, 0])), (.inBlock 0), (.code (cd cfz.P 34 [1, 1, 1]))], [], false, .none⟩, [], []⟩
  | .c2 y93 y94 y95 x96 x97 x98 y99 y101 => ⟨⟨34, sp 22 0 [(1, (.d (.v (.func (.func 33) (#[]) (#[]))))), (5, (.own 1 y93 1 y94 y95)), (8, (.d (.sl x96 x97))), (9, (aI x98)), (10, (aI y99))], [(.code (cd cfz.P 34 [1, 1, 0, 1, 0, 0])), (.inLoop (cd cfz.P 34 [1, 1, 0, 1, 0, 0])), (.inBlock 0), (.code (cd cfz.P 34 [1, 1, 1]))], [], false, .none⟩, [], [(.tail 0), (.tail y101)]⟩
noncomputable def B34 : S34 → Tr S34 (Nat × List DV)
  | .c0 a84 a85 => (.nxt (.c1 a84 a85 ((↑a84 : Int)) 0))
  | .c1 x86 x87 x88 y89 => (.br (decide (y89 < x88))
  (.ask (.le 0 y89) (.ask (.lt y89 ((↑x86 : Int))) (.ask (.leN (y89.toNat * 1) x87.length) (.ask (.prop (Option.map AV.d (List.drop (y89.toNat * 1) x87)[0]? = some (AV.d (DV.v (Value.int IntKind.i64 (dI (cel x87 (y89.toNat * 1)))))))) (.bind (F33 (dI (cel x87 (y89.toNat * 1)))) fun v92 =>
  (.sees [(aI (dI (cel x87 (y89.toNat * 1))))] (.ask (.in64 (y89 + 1)) (.nxt (.c2 0 1 [(.v (.int .i64 v92))] x86 x87 x88 (y89 + 1) 0)))))))))
  (.ret (0, [])))
  | .c2 y93 y94 y95 x96 x97 x98 y99 y101 => (.br (decide (y99 < x98))
  (.ask (.le 0 y99) (.ask (.lt y99 ((↑x96 : Int))) (.ask (.leN (y99.toNat * 1) x97.length) (.ask (.prop (Option.map AV.d (List.drop (y99.toNat * 1) x97)[0]? = some (AV.d (DV.v (Value.int IntKind.i64 (dI (cel x97 (y99.toNat * 1)))))))) (.bind (F33 (dI (cel x97 (y99.toNat * 1)))) fun v102 =>
  (.sees [(aI (dI (cel x97 (y99.toNat * 1))))] (.ask (.eqN y93 y101) (.ask (.fits (y94 + 1) 8) (.ask (.in64 (y99 + 1)) (.nxt (.c2 (y101 + 1) (y94 + 1) (y95 ++ [DV.v (Value.int IntKind.i64 v102)]) x96 x97 x98 (y99 + 1) (y101 + 1))))))))))))
  (.ret (y94, y95)))
noncomputable def F34 (a84 : Nat) (a85 : List DV) : Option (Nat × List DV) := res B34 (.c0 a84 a85)
noncomputable def D34_0 (a84 : Nat) (a85 : List DV) : DT cfz := (.go 17 [] [] (.cut 0 [[1, 5, 8, 9, 10]] []))
theorem k34_0 (a84 : Nat) (a85 : List DV) : xrun cfz 34 (D34_0 a84 a85) [] (st34 (.c0 a84 a85)) = (B34 (.c0 a84 a85)).mach st34 out34 := by kernel_rfl
noncomputable def D34_1 (x86 : Nat) (x87 : List DV) (x88 y89 : Int) : DT cfz := (.go 5 [] [] (.split 11 (.go 14 [(.br true), (.as (aI (dI (cel x87 (y89.toNat * 1)))))] [0] (.bind (f33 (dI (cel x87 (y89.toNat * 1)))) fun v92 => (.go 11 [(.ck 0)] [1, 2, 3] (.cut 2 [[1, 5, 8, 9, 10]] [])))) (.go 8 [(.br false)] [0] .fin)))
theorem k34_1 (x86 : Nat) (x87 : List DV) (x88 y89 : Int) : xrun cfz 34 (D34_1 x86 x87 x88 y89) [] (st34 (.c1 x86 x87 x88 y89)) = (B34 (.c1 x86 x87 x88 y89)).mach st34 out34 := by kernel_rfl
noncomputable def D34_2 (y93 y94 : Nat) (y95 : List DV) (x96 : Nat) (x97 : List DV) (x98 y99 : Int) (y101 : Nat) : DT cfz := (.go 5 [] [] (.split 11 (.go 14 [(.br true), (.as (aI (dI (cel x97 (y99.toNat * 1)))))] [0] (.bind (f33 (dI (cel x97 (y99.toNat * 1)))) fun v102 => (.go 11 [(.ck 0)] [2, 3] (.cut 2 [[1, 5, 8, 9, 10]] [])))) (.go 8 [(.br false)] [0] .fin)))
theorem k34_2 (y93 y94 : Nat) (y95 : List DV) (x96 : Nat) (x97 : List DV) (x98 y99 : Int) (y101 : Nat) : xrun cfz 34 (D34_2 y93 y94 y95 x96 x97 x98 y99 y101) [] (st34 (.c2 y93 y94 y95 x96 x97 x98 y99 y101)) = (B34 (.c2 y93 y94 y95 x96 x97 x98 y99 y101)).mach st34 out34 := by kernel_rfl
theorem ok34 : ∀ s, ∃ d, xrun cfz 34 d [] (st34 s) = (B34 s).mach st34 out34
  | .c0 a84 a85 => ⟨_, k34_0 a84 a85⟩
  | .c1 x86 x87 x88 y89 => ⟨_, k34_1 x86 x87 x88 y89⟩
  | .c2 y93 y94 y95 x96 x97 x98 y99 y101 => ⟨_, k34_2 y93 y94 y95 x96 x97 x98 y99 y101⟩
theorem f34 (a84 : Nat) (a85 : List DV) (v : Nat × List DV) (h : F34 a84 a85 = some v) : PureCalls cfz.P cfz.glob 34 [(.d (.sl a84 a85)), (.d (.v (.func (.func 33) (#[]) (#[]))))] (out34 v) := tree_pure knil ok34 (s := .c0 a84 a85) rfl (by kernel_rfl) v h

/-! F35 -/
inductive S35 where
  | c0 (a119 : Nat) (a120 : List DV) (a121 : Nat) (a122 : List DV)
  | c1 (x123 : Nat) (x124 : List DV) (y125 : Int) (x126 : Nat) (x127 : List DV) (x128 y129 : Int)
def out35 (v : Int) : AV := (.d (.v (.int .i64 v)))
noncomputable def st35 : S35 → ASt
  | .c0 a119 a120 a121 a122 => ent cfz 35 [(.d (.sl a119 a120)), (.d (.sl a121 a122))]
  | .c1 x123 x124 y125 x126 x127 x128 y129 => ⟨⟨35, sp 22 0 [(0, (.d (.sl x123 x124))), (5, (aI y125)), (8, (.d (.sl x126 x127))), (9, (aI x128)), (10, (aI y129))], [(.code (cd cfz.P 35 [1, 1, 0, 1, 0, 0])), (.inLoop (cd cfz.P 35 [1, 1, 0, 1, 0, 0])), (.inBlock 0), (.code (cd cfz.P 35 [1, 1, 1]))], [], false, .none⟩, [], []⟩
noncomputable def B35 : S35 → Tr S35 (Int)
  | .c0 a119 a120 a121 a122 => (.nxt (.c1 a119 a120 0 a121 a122 ((↑a121 : Int)) 0))
  | .c1 x123 x124 y125 x126 x127 x128 y129 => (.br (decide (y129 < x128))
  (.ask (.le 0 y129) (.ask (.lt y129 ((↑x126 : Int))) (.ask (.leN (y129.toNat * 1) x127.length) (.ask (.prop (Option.map AV.d (List.drop (y129.toNat * 1) x127)[0]? = some (AV.d (DV.v (Value.int IntKind.i64 (dI (cel x127 (y129.toNat * 1)))))))) (.ask (.le 0 (dI (cel x127 (y129.toNat * 1)))) (.ask (.lt (dI (cel x127 (y129.toNat * 1))) ((↑x123 : Int))) (.ask (.leN ((dI (cel x127 (y129.toNat * 1))).toNat * 1) x124.length) (.ask (.prop (Option.map AV.d (List.drop ((dI (cel x127 (y129.toNat * 1))).toNat * 1) x124)[0]? = some (AV.d (DV.v (Value.int IntKind.i64 (dI (cel x124 ((dI (cel x127 (y129.toNat * 1))).toNat * 1)))))))) (.ask (.in64 (y125 + dI (cel x124 ((dI (cel x127 (y129.toNat * 1))).toNat * 1)))) (.ask (.in64 (y129 + 1)) (.nxt (.c1 x123 x124 (y125 + dI (cel x124 ((dI (cel x127 (y129.toNat * 1))).toNat * 1))) x126 x127 x128 (y129 + 1)))))))))))))
  (.ret y125))
noncomputable def F35 (a119 : Nat) (a120 : List DV) (a121 : Nat) (a122 : List DV) : Option (Int) := res B35 (.c0 a119 a120 a121 a122)
noncomputable def D35_0 (a119 : Nat) (a120 : List DV) (a121 : Nat) (a122 : List DV) : DT cfz := (.go 17 [] [] (.cut 0 [[0, 5, 8, 9, 10]] []))
theorem k35_0 (a119 : Nat) (a120 : List DV) (a121 : Nat) (a122 : List DV) : xrun cfz 35 (D35_0 a119 a120 a121 a122) [] (st35 (.c0 a119 a120 a121 a122)) = (B35 (.c0 a119 a120 a121 a122)).mach st35 out35 := by kernel_rfl
noncomputable def D35_1 (x123 : Nat) (x124 : List DV) (y125 : Int) (x126 : Nat) (x127 : List DV) (x128 y129 : Int) : DT cfz := (.go 5 [] [] (.split 11 (.go 25 [(.br true), (.as (aI (dI (cel x127 (y129.toNat * 1))))), (.as (aI (dI (cel x124 ((dI (cel x127 (y129.toNat * 1))).toNat * 1)))))] [0] (.cut 0 [[0, 5, 8, 9, 10]] [])) (.go 8 [(.br false)] [0] .fin)))
theorem k35_1 (x123 : Nat) (x124 : List DV) (y125 : Int) (x126 : Nat) (x127 : List DV) (x128 y129 : Int) : xrun cfz 35 (D35_1 x123 x124 y125 x126 x127 x128 y129) [] (st35 (.c1 x123 x124 y125 x126 x127 x128 y129)) = (B35 (.c1 x123 x124 y125 x126 x127 x128 y129)).mach st35 out35 := by kernel_rfl
theorem ok35 : ∀ s, ∃ d, xrun cfz 35 d [] (st35 s) = (B35 s).mach st35 out35
  | .c0 a119 a120 a121 a122 => ⟨_, k35_0 a119 a120 a121 a122⟩
  | .c1 x123 x124 y125 x126 x127 x128 y129 => ⟨_, k35_1 x123 x124 y125 x126 x127 x128 y129⟩
theorem f35 (a119 : Nat) (a120 : List DV) (a121 : Nat) (a122 : List DV) (v : Int) (h : F35 a119 a120 a121 a122 = some v) : PureCalls cfz.P cfz.glob 35 [(.d (.sl a119 a120)), (.d (.sl a121 a122))] (out35 v) := tree_pure knil ok35 (s := .c0 a119 a120 a121 a122) rfl (by kernel_rfl) v h

/-! F11 -/
inductive S11 where
  | c0 (a77 : Nat) (a78 : List DV) (a79 : Nat) (a80 : List DV)
def out11 (v : Int × Int) : AV := (.tup [(.d (.v (.int .i64 v.fst))), (.d (.v (.int .i64 v.snd)))])
noncomputable def st11 : S11 → ASt
  | .c0 a77 a78 a79 a80 => ent cfz 11 [(.d (.sl a77 a78)), (.d (.sl a79 a80))]
noncomputable def B11 : S11 → Tr S11 (Int × Int)
  | .c0 a77 a78 a79 a80 => (.bind (F26 ((↑a77 : Int) == 0) 12) fun v81 =>
  (.sees [(.d (.v (.bool ((↑a77 : Int) == 0)))), (aI 12)] (.bind (F26 (decide ((↑a77 : Int) > 5)) 5) fun v82 =>
  (.sees [(.d (.v (.bool (decide ((↑a77 : Int) > 5))))), (aI 5)] (.bind (F23 2 [(.v (.int .i64 v81)), (.v (.int .i64 v82))]) fun v83 =>
  (.sees [(.d (.sl 2 [(vI v81), (vI v82)]))] (.br (v83 != 0)
  (.ret (0, v83))
  (.bind (F34 a77 a78) fun v103 =>
  (.sees [(.d (.sl a77 a78)), (.d (.v (.func (.func 33) (#[]) (#[]))))] (.bind (F23 v103.fst v103.snd) fun v104 =>
  (.sees [(.d (.sl v103.fst v103.snd))] (.bind (F28 ((↑a77 : Int)) a79 a80) fun v117 =>
  (.sees [(aI ((↑a77 : Int))), (.d (.sl a79 a80))] (.bind (F23 2 [(.v (.int .i64 v104)), (.v (.int .i64 v117))]) fun v118 =>
  (.sees [(.d (.sl 2 [(vI v104), (vI v117)]))] (.br (v118 != 0)
  (.ret (0, v118))
  (.bind (F35 a77 a78 a79 a80) fun v130 =>
  (.sees [(.d (.sl a77 a78)), (.d (.sl a79 a80))] (.ret (v130, 0))))))))))))))))))))
noncomputable def F11 (a77 : Nat) (a78 : List DV) (a79 : Nat) (a80 : List DV) : Option (Int × Int) := res B11 (.c0 a77 a78 a79 a80)
noncomputable def D11_0 (a77 : Nat) (a78 : List DV) (a79 : Nat) (a80 : List DV) : DT cfz := (.go 11 [] [] (.bind (f26 ((↑a77 : Int) == 0) 12) fun v81 => (.go 4 [(.ck 0)] [] (.bind (f26 (decide ((↑a77 : Int) > 5)) 5) fun v82 => (.go 2 [(.ck 1)] [] (.bind (f23 2 [(vI v81), (vI v82)]) fun v83 => (.go 8 [(.ck 2)] [] (.split 20 (.go 8 [(.br true)] [0] .fin) (.go 11 [(.br false)] [0] (.bind (f34 a77 a78) fun v103 => (.go 1 [(.ck 3)] [] (.bind (f23 v103.fst v103.snd) fun v104 => (.go 4 [(.ck 4)] [] (.bind (f28 ((↑a77 : Int)) a79 a80) fun v117 => (.go 2 [(.ck 5)] [] (.bind (f23 2 [(vI v104), (vI v117)]) fun v118 => (.go 8 [(.ck 6)] [] (.split 33 (.go 8 [(.br true)] [0] .fin) (.go 6 [(.br false)] [0] (.bind (f35 a77 a78 a79 a80) fun v130 => (.go 5 [(.ck 7)] [] .fin)))))))))))))))))))))
theorem k11_0 (a77 : Nat) (a78 : List DV) (a79 : Nat) (a80 : List DV) : xrun cfz 11 (D11_0 a77 a78 a79 a80) [] (st11 (.c0 a77 a78 a79 a80)) = (B11 (.c0 a77 a78 a79 a80)).mach st11 out11 := by kernel_rfl
theorem ok11 : ∀ s, ∃ d, xrun cfz 11 d [] (st11 s) = (B11 s).mach st11 out11
  | .c0 a77 a78 a79 a80 => ⟨_, k11_0 a77 a78 a79 a80⟩
theorem f11 (a77 : Nat) (a78 : List DV) (a79 : Nat) (a80 : List DV) (v : Int × Int) (h : F11 a77 a78 a79 a80 = some v) : PureCalls cfz.P cfz.glob 11 [(.d (.sl a77 a78)), (.d (.sl a79 a80))] (out11 v) := tree_pure knil ok11 (s := .c0 a77 a78 a79 a80) rfl (by kernel_rfl) v h

/-! F50 -/
inductive S50 where
  | c0 (a30 : Nat) (a31 : List DV) (a32 : Int) (a33 : List DV)
def out50 (v : Int) : AV := (.d (.v (.int .i64 v)))
noncomputable def st50 : S50 → ASt
  | .c0 a30 a31 a32 a33 => ent cfz 50 [(.agg [(.d (.sl a30 a31)), (aI a32)]), (.ip a33)]
noncomputable def B50 : S50 → Tr S50 (Int)
  | .c0 a30 a31 a32 a33 => (.bind (F28 (dI (cel a33 0)) a30 a31) fun v46 =>
  (.bind (F25 a32 0 35) fun v47 =>
  (.bind (F23 2 [(.v (.int .i64 v46)), (.v (.int .i64 v47))]) fun v48 =>
  (.ask (.prop (Option.map AV.d a33[0]? = some (AV.d (DV.v (Value.int IntKind.i64 (dI (cel a33 0))))))) (.sees [(aI (dI (cel a33 0))), (.d (.sl a30 a31))] (.sees [(aI a32), (aI 0), (aI 35)] (.sees [(.d (.sl 2 [(vI v46), (vI v47)]))] (.ret v48))))))))
noncomputable def F50 (a30 : Nat) (a31 : List DV) (a32 : Int) (a33 : List DV) : Option (Int) := res B50 (.c0 a30 a31 a32 a33)
noncomputable def D50_0 (a30 : Nat) (a31 : List DV) (a32 : Int) (a33 : List DV) : DT cfz := (.go 7 [] [] (.bind (f28 (dI (cel a33 0)) a30 a31) fun v46 => (.bind (f25 a32 0 35) fun v47 => (.bind (f23 2 [(vI v46), (vI v47)]) fun v48 => (.go 2 [(.as (aI (dI (cel a33 0)))), (.ck 0), (.ck 1), (.ck 2)] [] .fin)))))
theorem k50_0 (a30 : Nat) (a31 : List DV) (a32 : Int) (a33 : List DV) : xrun cfz 50 (D50_0 a30 a31 a32 a33) [] (st50 (.c0 a30 a31 a32 a33)) = (B50 (.c0 a30 a31 a32 a33)).mach st50 out50 := by kernel_rfl
theorem ok50 : ∀ s, ∃ d, xrun cfz 50 d [] (st50 s) = (B50 s).mach st50 out50
  | .c0 a30 a31 a32 a33 => ⟨_, k50_0 a30 a31 a32 a33⟩
theorem f50 (a30 : Nat) (a31 : List DV) (a32 : Int) (a33 : List DV) (v : Int) (h : F50 a30 a31 a32 a33 = some v) : PureCalls cfz.P cfz.glob 50 [(.agg [(.d (.sl a30 a31)), (aI a32)]), (.ip a33)] (out50 v) := tree_pure knil ok50 (s := .c0 a30 a31 a32 a33) rfl (by kernel_rfl) v h

/-! F49f -/
inductive S49f where
  | c0 (a22 : Nat) (a23 a24 : List DV)
  | c1 (x25 : List DV) (x26 : Nat) (x27 : List DV) (x28 y29 : Int)
  | c2 (x50 : List DV) (y51 y52 : Nat) (y53 : List DV) (x54 : Nat) (x55 : List DV) (x56 y57 : Int) (y59 : Nat)
def out49f (v : Nat × List DV) : AV := (.own 0 0 1 v.fst v.snd)
noncomputable def st49f : S49f → ASt
  | .c0 a22 a23 a24 => ent cfz 49 [(.d (.sl a22 a23)), (.fn (.func 50) [] [(.ip a24)])]
  | .c1 x25 x26 x27 x28 y29 => ⟨⟨49, sp 22 0 [(1, (.fn (.func 50) [] [(.ip x25)])), (5, (.d (.v (.slice .none 0 0)))), (8, (.d (.sl x26 x27))), (9, (aI x28)), (10, (aI y29))], [(.code (cd cfz.P 49 [1, 1, 0, 1, 0, 0])), (.inLoop (cd cfz.P 49 [1, 1, 0, 1, 0, 0])), (.inBlock 0), (.code (cd cfz.P 49 [1, 1, 1]))], [], false, .none⟩, [], []⟩
  | .c2 x50 y51 y52 y53 x54 x55 x56 y57 y59 => ⟨⟨49, sp 22 0 [(1, (.fn (.func 50) [] [(.ip x50)])), (5, (.own 2 y51 1 y52 y53)), (8, (.d (.sl x54 x55))), (9, (aI x56)), (10, (aI y57))], [(.code (cd cfz.P 49 [1, 1, 0, 1, 0, 0])), (.inLoop (cd cfz.P 49 [1, 1, 0, 1, 0, 0])), (.inBlock 0), (.code (cd cfz.P 49 [1, 1, 1]))], [], false, .none⟩, [], [.dead, (.tail 0), (.tail y59)]⟩
noncomputable def B49f : S49f → Tr S49f (Nat × List DV)
  | .c0 a22 a23 a24 => (.nxt (.c1 a24 a22 a23 ((↑a22 : Int)) 0))
  | .c1 x25 x26 x27 x28 y29 => (.br (decide (y29 < x28))
  (.ask (.le 0 y29) (.ask (.lt y29 ((↑x26 : Int))) (.ask (.leN (y29.toNat * 2) x27.length) (.ask (.leN 2 ((List.drop (y29.toNat * 2) x27).length)) (.ask (.prop (List.map AV.d (List.take 2 (List.drop (y29.toNat * 2) x27)) = [AV.d (DV.sl (dN (cel x27 (y29.toNat * 2))) (dL (cel x27 (y29.toNat * 2)))), AV.d (DV.v (Value.int IntKind.i64 (dI (cel x27 (y29.toNat * 2 + 1)))))])) (.bind (F50 (dN (cel x27 (y29.toNat * 2))) (dL (cel x27 (y29.toNat * 2))) (dI (cel x27 (y29.toNat * 2 + 1))) x25) fun v49 =>
  (.sees [(.agg [(.d (.sl (dN (cel x27 (y29.toNat * 2))) (dL (cel x27 (y29.toNat * 2))))), (aI (dI (cel x27 (y29.toNat * 2 + 1))))]), (.ip x25)] (.ask (.in64 (y29 + 1)) (.nxt (.c2 x25 0 1 [(.v (.int .i64 v49))] x26 x27 x28 (y29 + 1) 0))))))))))
  (.ret (0, [])))
  | .c2 x50 y51 y52 y53 x54 x55 x56 y57 y59 => (.br (decide (y57 < x56))
  (.ask (.le 0 y57) (.ask (.lt y57 ((↑x54 : Int))) (.ask (.leN (y57.toNat * 2) x55.length) (.ask (.leN 2 ((List.drop (y57.toNat * 2) x55).length)) (.ask (.prop (List.map AV.d (List.take 2 (List.drop (y57.toNat * 2) x55)) = [AV.d (DV.sl (dN (cel x55 (y57.toNat * 2))) (dL (cel x55 (y57.toNat * 2)))), AV.d (DV.v (Value.int IntKind.i64 (dI (cel x55 (y57.toNat * 2 + 1)))))])) (.bind (F50 (dN (cel x55 (y57.toNat * 2))) (dL (cel x55 (y57.toNat * 2))) (dI (cel x55 (y57.toNat * 2 + 1))) x50) fun v60 =>
  (.sees [(.agg [(.d (.sl (dN (cel x55 (y57.toNat * 2))) (dL (cel x55 (y57.toNat * 2))))), (aI (dI (cel x55 (y57.toNat * 2 + 1))))]), (.ip x50)] (.ask (.eqN y51 y59) (.ask (.fits (y52 + 1) 8) (.ask (.in64 (y57 + 1)) (.nxt (.c2 x50 (y59 + 1) (y52 + 1) (y53 ++ [DV.v (Value.int IntKind.i64 v60)]) x54 x55 x56 (y57 + 1) (y59 + 1)))))))))))))
  (.ask (.eqN y51 y59) (.ask (.ltN 0 y52) (.ret (y52, y53)))))
noncomputable def F49f (a22 : Nat) (a23 a24 : List DV) : Option (Nat × List DV) := res B49f (.c0 a22 a23 a24)
noncomputable def D49f_0 (a22 : Nat) (a23 a24 : List DV) : DT cfz := (.go 17 [] [] (.cut 0 [[1, 5, 8, 9, 10]] []))
theorem k49f_0 (a22 : Nat) (a23 a24 : List DV) : xrunF cfz 49 false (D49f_0 a22 a23 a24) [] (st49f (.c0 a22 a23 a24)) = (B49f (.c0 a22 a23 a24)).mach st49f out49f := by kernel_rfl
noncomputable def D49f_1 (x25 : List DV) (x26 : Nat) (x27 : List DV) (x28 y29 : Int) : DT cfz := (.go 5 [] [] (.split 11 (.go 15 [(.br true), (.as (.agg [(.d (.sl (dN (cel x27 (y29.toNat * 2))) (dL (cel x27 (y29.toNat * 2))))), (aI (dI (cel x27 (y29.toNat * 2 + 1))))]))] [0] (.bind (f50 (dN (cel x27 (y29.toNat * 2))) (dL (cel x27 (y29.toNat * 2))) (dI (cel x27 (y29.toNat * 2 + 1))) x25) fun v49 => (.go 11 [(.ck 0)] [1, 2, 3] (.cut 3 [[1, 5, 8, 9, 10]] [0])))) (.go 8 [(.br false)] [0] (.finF 1 false []))))
theorem k49f_1 (x25 : List DV) (x26 : Nat) (x27 : List DV) (x28 y29 : Int) : xrunF cfz 49 false (D49f_1 x25 x26 x27 x28 y29) [] (st49f (.c1 x25 x26 x27 x28 y29)) = (B49f (.c1 x25 x26 x27 x28 y29)).mach st49f out49f := by kernel_rfl
noncomputable def D49f_2 (x50 : List DV) (y51 y52 : Nat) (y53 : List DV) (x54 : Nat) (x55 : List DV) (x56 y57 : Int) (y59 : Nat) : DT cfz := (.go 5 [] [] (.split 11 (.go 15 [(.br true), (.as (.agg [(.d (.sl (dN (cel x55 (y57.toNat * 2))) (dL (cel x55 (y57.toNat * 2))))), (aI (dI (cel x55 (y57.toNat * 2 + 1))))]))] [0] (.bind (f50 (dN (cel x55 (y57.toNat * 2))) (dL (cel x55 (y57.toNat * 2))) (dI (cel x55 (y57.toNat * 2 + 1))) x50) fun v60 => (.go 11 [(.ck 0)] [2, 3] (.cut 3 [[1, 5, 8, 9, 10]] [])))) (.go 8 [(.br false)] [0] (.finF 1 false []))))
theorem k49f_2 (x50 : List DV) (y51 y52 : Nat) (y53 : List DV) (x54 : Nat) (x55 : List DV) (x56 y57 : Int) (y59 : Nat) : xrunF cfz 49 false (D49f_2 x50 y51 y52 y53 x54 x55 x56 y57 y59) [] (st49f (.c2 x50 y51 y52 y53 x54 x55 x56 y57 y59)) = (B49f (.c2 x50 y51 y52 y53 x54 x55 x56 y57 y59)).mach st49f out49f := by kernel_rfl
theorem ok49f : ∀ s, ∃ d, xrunF cfz 49 false d [] (st49f s) = (B49f s).mach st49f out49f
  | .c0 a22 a23 a24 => ⟨_, k49f_0 a22 a23 a24⟩
  | .c1 x25 x26 x27 x28 y29 => ⟨_, k49f_1 x25 x26 x27 x28 y29⟩
  | .c2 x50 y51 y52 y53 x54 x55 x56 y57 y59 => ⟨_, k49f_2 x50 y51 y52 y53 x54 x55 x56 y57 y59⟩
theorem f49f (a22 : Nat) (a23 a24 : List DV) (v : Nat × List DV) (h : F49f a22 a23 a24 = some v) : PureCallsF cfz.P cfz.glob 49 [(.d (.sl a22 a23)), (.fn (.func 50) [] [(.ip a24)])] (out49f v) false := tree_pureF knil ok49f (s := .c0 a22 a23 a24) rfl (by kernel_rfl) v h

/-! F36 -/
inductive S36 where
  | c0 (a0 a1 : Int) (a2 : Nat) (a3 : List DV)
def out36 (v : Int) : AV := (.d (.v (.int .i64 v)))
noncomputable def st36 : S36 → ASt
  | .c0 a0 a1 a2 a3 => ent cfz 36 [(aI a0), (aI a1), (.d (.sl a2 a3))]
noncomputable def B36 : S36 → Tr S36 (Int)
  | .c0 a0 a1 a2 a3 => (.bind (F24 a0) fun v12 =>
  (.sees [(aI a0)] (.bind (F25 a1 1 7) fun v13 =>
  (.sees [(aI a1), (aI 1), (aI 7)] (.bind (F26 (decide ((↑a2 : Int) > 16)) 5) fun v14 =>
  (.sees [(.d (.v (.bool (decide ((↑a2 : Int) > 16))))), (aI 5)] (.bind (F23 3 [(.v (.int .i64 v12)), (.v (.int .i64 v13)), (.v (.int .i64 v14))]) fun v21 =>
  (.sees [(.d (.sl 3 [(vI v12), (vI v13), (vI v14)]))] (.br (v21 != 0)
  (.ret v21)
  (.bind (F49f a2 a3 [(.v (.int .i64 a0))]) fun v61 =>
  (.br ((ownN (AV.own 0 0 1 v61.fst v61.snd)).beq 0)
  (.sees [(.d (.sl a2 a3)), (.fn (.func 50) [] [(.ip [(vI a0)])])] (.ask (.eqN (ownN (AV.own 0 0 1 v61.fst v61.snd)) 0) (.bind (F23 0 []) fun v62 =>
  (.sees [(.d (.sl 0 []))] (.ret v62)))))
  (.sees [(.d (.sl a2 a3)), (.fn (.func 50) [] [(.ip [(vI a0)])])] (.ask (.ltN 0 (ownN (AV.own 0 0 1 v61.fst v61.snd))) (.ask (.prop (flatDs v61.snd = true)) (.bind (F23 v61.fst v61.snd) fun v63 =>
  (.sees [(.d (.sl v61.fst v61.snd))] (.ret v63)))))))))))))))))
noncomputable def F36 (a0 a1 : Int) (a2 : Nat) (a3 : List DV) : Option (Int) := res B36 (.c0 a0 a1 a2 a3)
noncomputable def D36_0 (a0 a1 : Int) (a2 : Nat) (a3 : List DV) : DT cfz := (.go 9 [] [] (.bind (f24 a0) fun v12 => (.go 2 [(.ck 0)] [] (.bind (f25 a1 1 7) fun v13 => (.go 4 [(.ck 1)] [] (.bind (f26 (decide ((↑a2 : Int) > 16)) 5) fun v14 => (.go 2 [(.ck 2)] [] (.bind (f23 3 [(vI v12), (vI v13), (vI v14)]) fun v21 => (.go 8 [(.ck 3)] [] (.split 19 (.go 7 [(.br true)] [0] .fin) (.go 6 [(.br false)] [0] (.bindF (f49f a2 a3 [(vI a0)]) fun v61 => (.br ((ownN (AV.own 0 0 1 v61.fst v61.snd)).beq 0) (.go 1 [(.ce 4)] [] (.bind (f23 0 []) fun v62 => (.go 4 [(.ck 5)] [] .fin))) (.go 1 [(.cq 4)] [] (.bind (f23 v61.fst v61.snd) fun v63 => (.go 4 [(.ck 5)] [] .fin))))))))))))))))
theorem k36_0 (a0 a1 : Int) (a2 : Nat) (a3 : List DV) : xrun cfz 36 (D36_0 a0 a1 a2 a3) [] (st36 (.c0 a0 a1 a2 a3)) = (B36 (.c0 a0 a1 a2 a3)).mach st36 out36 := by kernel_rfl
theorem ok36 : ∀ s, ∃ d, xrun cfz 36 d [] (st36 s) = (B36 s).mach st36 out36
  | .c0 a0 a1 a2 a3 => ⟨_, k36_0 a0 a1 a2 a3⟩
theorem f36 (a0 a1 : Int) (a2 : Nat) (a3 : List DV) (v : Int) (h : F36 a0 a1 a2 a3 = some v) : PureCalls cfz.P cfz.glob 36 [(aI a0), (aI a1), (.d (.sl a2 a3))] (out36 v) := tree_pure knil ok36 (s := .c0 a0 a1 a2 a3) rfl (by kernel_rfl) v h

end Go.Kv
