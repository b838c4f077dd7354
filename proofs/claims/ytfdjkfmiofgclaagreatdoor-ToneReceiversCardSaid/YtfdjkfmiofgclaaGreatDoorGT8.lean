/- Printed: what functions of the program come to, and the kernel's proof of it. -/
import Derived.Test.YtfdjkfmiofgclaaGreatDoorKvW
import Derived.Test.YtfdjkfmiofgclaaGreatDoorKvZ
import Derived.Test.YtfdjkfmiofgclaaGreatDoorKzA
import Derived.Test.YtfdjkfmiofgclaaGreatDoorKzW
import Derived.Test.YtfdjkfmiofgclaaGreatDoorGT7
namespace Go.Kv
set_option linter.unusedVariables false
set_option linter.unusedSimpArgs false
set_option linter.unnecessarySimpa false
open Go Go.RowKit Go.Proofs
set_option maxRecDepth 100000
/-! F58 -/
inductive S58 where
  | c0 (a136 : Int) (a137 : Nat) (a138 : List DV) (a139 : Nat) (a140 : List DV)
def out58 (v : Int × Nat × List DV × Nat × List DV) : AV := (.agg [(.d (.v (.int .i64 v.fst))), (.d (.sl v.snd.fst v.snd.snd.fst)), (.d (.sl v.snd.snd.snd.fst v.snd.snd.snd.snd))])
noncomputable def st58 : S58 → ASt
  | .c0 a136 a137 a138 a139 a140 => ent cfz 58 [(.agg [(.d (.v (.int .i64 a136))), (.d (.sl a137 a138)), (.d (.sl a139 a140))])]
noncomputable def B58 : S58 → Tr S58 (Int × Nat × List DV × Nat × List DV)
  | .c0 a136 a137 a138 a139 a140 => (.bind (F33 a137 a138) fun v141 =>
  (.bind (F33 a139 a140) fun v142 =>
  (.sees [(.d (.sl a137 a138))] (.sees [(.d (.sl a139 a140))] (.ret (a136, v141.fst, v141.snd, v142.fst, v142.snd))))))
noncomputable def F58 (a136 : Int) (a137 : Nat) (a138 : List DV) (a139 : Nat) (a140 : List DV) : Option (Int × Nat × List DV × Nat × List DV) := res B58 (.c0 a136 a137 a138 a139 a140)
noncomputable def D58_0 (a136 : Int) (a137 : Nat) (a138 : List DV) (a139 : Nat) (a140 : List DV) : DT cfz := (.go 7 [] [] (.bind (f33 a137 a138) fun v141 => (.bind (f33 a139 a140) fun v142 => (.go 2 [(.ck 0), (.ck 1)] [] .fin))))
theorem k58_0 (a136 : Int) (a137 : Nat) (a138 : List DV) (a139 : Nat) (a140 : List DV) : xrun cfz 58 (D58_0 a136 a137 a138 a139 a140) [] (st58 (.c0 a136 a137 a138 a139 a140)) = (B58 (.c0 a136 a137 a138 a139 a140)).mach st58 out58 := by kernel_rfl
theorem ok58 : ∀ s, ∃ d, xrun cfz 58 d [] (st58 s) = (B58 s).mach st58 out58
  | .c0 a136 a137 a138 a139 a140 => ⟨_, k58_0 a136 a137 a138 a139 a140⟩
theorem f58 (a136 : Int) (a137 : Nat) (a138 : List DV) (a139 : Nat) (a140 : List DV) (v : Int × Nat × List DV × Nat × List DV) (h : F58 a136 a137 a138 a139 a140 = some v) : PureCalls cfz.P cfz.glob 58 [(.agg [(.d (.v (.int .i64 a136))), (.d (.sl a137 a138)), (.d (.sl a139 a140))])] (out58 v) := tree_pure knil ok58 (s := .c0 a136 a137 a138 a139 a140) rfl (by kernel_rfl) v h

/-! F63 -/
inductive S63 where
  | c0 (a153 : Int) (a154 : Nat) (a155 : List DV) (a156 : Nat) (a157 : List DV)
def out63 (v : Int) : AV := (.d (.v (.int .i64 v)))
noncomputable def st63 : S63 → ASt
  | .c0 a153 a154 a155 a156 a157 => ent cfz 63 [(.agg [(.d (.v (.int .i64 a153))), (.d (.sl a154 a155)), (.d (.sl a156 a157))])]
noncomputable def B63 : S63 → Tr S63 (Int)
  | .c0 a153 a154 a155 a156 a157 => (.bind (F131 a153 a154 a155 a156 a157) fun v158 =>
  (.sees [(.d (.v (.int .i64 a153))), (.d (.sl a154 a155)), (.d (.sl a156 a157))] (.ret v158)))
noncomputable def F63 (a153 : Int) (a154 : Nat) (a155 : List DV) (a156 : Nat) (a157 : List DV) : Option (Int) := res B63 (.c0 a153 a154 a155 a156 a157)
noncomputable def D63_0 (a153 : Int) (a154 : Nat) (a155 : List DV) (a156 : Nat) (a157 : List DV) : DT cfz := (.go 13 [] [] (.bind (f131 a153 a154 a155 a156 a157) fun v158 => (.go 4 [(.ck 0)] [] .fin)))
theorem k63_0 (a153 : Int) (a154 : Nat) (a155 : List DV) (a156 : Nat) (a157 : List DV) : xrun cfz 63 (D63_0 a153 a154 a155 a156 a157) [] (st63 (.c0 a153 a154 a155 a156 a157)) = (B63 (.c0 a153 a154 a155 a156 a157)).mach st63 out63 := by kernel_rfl
theorem ok63 : ∀ s, ∃ d, xrun cfz 63 d [] (st63 s) = (B63 s).mach st63 out63
  | .c0 a153 a154 a155 a156 a157 => ⟨_, k63_0 a153 a154 a155 a156 a157⟩
theorem f63 (a153 : Int) (a154 : Nat) (a155 : List DV) (a156 : Nat) (a157 : List DV) (v : Int) (h : F63 a153 a154 a155 a156 a157 = some v) : PureCalls cfz.P cfz.glob 63 [(.agg [(.d (.v (.int .i64 a153))), (.d (.sl a154 a155)), (.d (.sl a156 a157))])] (out63 v) := tree_pure knil ok63 (s := .c0 a153 a154 a155 a156 a157) rfl (by kernel_rfl) v h

/-! F132 -/
inductive S132 where
  | c0 (a164 : Int) (a165 : Nat) (a166 : List DV) (a167 : Nat) (a168 : List DV)
def out132 (v : Int × Nat × List DV × Nat × List DV) : AV := (.agg [(.d (.v (.int .i64 v.fst))), (.d (.sl v.snd.fst v.snd.snd.fst)), (.d (.sl v.snd.snd.snd.fst v.snd.snd.snd.snd))])
noncomputable def st132 : S132 → ASt
  | .c0 a164 a165 a166 a167 a168 => ent cfz 132 [(.agg [(.d (.v (.int .i64 a164))), (.d (.sl a165 a166)), (.d (.sl a167 a168))])]
noncomputable def B132 : S132 → Tr S132 (Int × Nat × List DV × Nat × List DV)
  | .c0 a164 a165 a166 a167 a168 => (.bind (F129 a165 a166) fun v169 =>
  (.bind (F129 a167 a168) fun v170 =>
  (.sees [(.d (.sl a165 a166))] (.sees [(.d (.sl a167 a168))] (.ret (a164, v169.fst, v169.snd, v170.fst, v170.snd))))))
noncomputable def F132 (a164 : Int) (a165 : Nat) (a166 : List DV) (a167 : Nat) (a168 : List DV) : Option (Int × Nat × List DV × Nat × List DV) := res B132 (.c0 a164 a165 a166 a167 a168)
noncomputable def D132_0 (a164 : Int) (a165 : Nat) (a166 : List DV) (a167 : Nat) (a168 : List DV) : DT cfz := (.go 7 [] [] (.bind (f129 a165 a166) fun v169 => (.bind (f129 a167 a168) fun v170 => (.go 2 [(.ck 0), (.ck 1)] [] .fin))))
theorem k132_0 (a164 : Int) (a165 : Nat) (a166 : List DV) (a167 : Nat) (a168 : List DV) : xrun cfz 132 (D132_0 a164 a165 a166 a167 a168) [] (st132 (.c0 a164 a165 a166 a167 a168)) = (B132 (.c0 a164 a165 a166 a167 a168)).mach st132 out132 := by kernel_rfl
theorem ok132 : ∀ s, ∃ d, xrun cfz 132 d [] (st132 s) = (B132 s).mach st132 out132
  | .c0 a164 a165 a166 a167 a168 => ⟨_, k132_0 a164 a165 a166 a167 a168⟩
theorem f132 (a164 : Int) (a165 : Nat) (a166 : List DV) (a167 : Nat) (a168 : List DV) (v : Int × Nat × List DV × Nat × List DV) (h : F132 a164 a165 a166 a167 a168 = some v) : PureCalls cfz.P cfz.glob 132 [(.agg [(.d (.v (.int .i64 a164))), (.d (.sl a165 a166)), (.d (.sl a167 a168))])] (out132 v) := tree_pure knil ok132 (s := .c0 a164 a165 a166 a167 a168) rfl (by kernel_rfl) v h

/-! F133 -/
inductive S133 where
  | c0 (a173 : Nat) (a174 : List DV) (a175 : Nat) (a176 : List DV)
  | c1 (x177 : Nat) (x178 : List DV) (x179 : Nat) (x180 : List DV) (x181 : Int) (y182 : Int)
def out133 (v : Bool) : AV := (.d (.v (.bool v)))
noncomputable def st133 : S133 → ASt
  | .c0 a173 a174 a175 a176 => ent cfz 133 [(.d (.sl a173 a174)), (.d (.sl a175 a176))]
  | .c1 x177 x178 x179 x180 x181 y182 => ⟨⟨133, sp 26 0 [(0, (.d (.sl x177 x178))), (1, (.d (.sl x179 x180))), (12, (.d (.v (.int .i64 x181)))), (13, (.d (.v (.int .i64 y182))))], [(.code (cd cfz.P 133 [1, 1, 0, 1, 0, 0])), (.inLoop (cd cfz.P 133 [1, 1, 0, 1, 0, 0])), (.inBlock 0), (.code (cd cfz.P 133 [1, 1, 1]))], [], false, .none⟩, [], []⟩
noncomputable def B133 : S133 → Tr S133 (Bool)
  | .c0 a173 a174 a175 a176 => (.br ((↑a173 : Int) != (↑a175 : Int))
  (.ret false)
  (.nxt (.c1 a173 a174 a175 a176 ((↑a173 : Int)) 0)))
  | .c1 x177 x178 x179 x180 x181 y182 => (.br (decide (y182 < x181))
  (.ask (.le 0 y182) (.ask (.lt y182 ((↑x177 : Int))) (.ask (.leN (y182.toNat * 1) x178.length) (.ask (.prop (Option.map AV.d (List.drop (y182.toNat * 1) x178)[0]? = some (AV.d (DV.v (Value.int IntKind.i64 (dI (cel x178 (y182.toNat * 1)))))))) (.ask (.le 0 y182) (.ask (.lt y182 ((↑x179 : Int))) (.ask (.leN (y182.toNat * 1) x180.length) (.ask (.prop (Option.map AV.d (List.drop (y182.toNat * 1) x180)[0]? = some (AV.d (DV.v (Value.int IntKind.i64 (dI (cel x180 (y182.toNat * 1)))))))) (.br (dI (cel x178 (y182.toNat * 1)) != dI (cel x180 (y182.toNat * 1)))
  (.ret false)
  (.ask (.in64 (y182 + 1)) (.nxt (.c1 x177 x178 x179 x180 x181 (y182 + 1)))))))))))))
  (.ret true))
noncomputable def F133 (a173 : Nat) (a174 : List DV) (a175 : Nat) (a176 : List DV) : Option (Bool) := res B133 (.c0 a173 a174 a175 a176)
noncomputable def D133_0 (a173 : Nat) (a174 : List DV) (a175 : Nat) (a176 : List DV) : DT cfz := (.go 13 [] [] (.split 10 (.go 6 [(.br true)] [0] .fin) (.go 11 [(.br false)] [0] (.cut 0 [[0, 1, 12, 13]] []))))
theorem k133_0 (a173 : Nat) (a174 : List DV) (a175 : Nat) (a176 : List DV) : xrun cfz 133 (D133_0 a173 a174 a175 a176) [] (st133 (.c0 a173 a174 a175 a176)) = (B133 (.c0 a173 a174 a175 a176)).mach st133 out133 := by kernel_rfl
noncomputable def D133_1 (x177 : Nat) (x178 : List DV) (x179 : Nat) (x180 : List DV) (x181 : Int) (y182 : Int) : DT cfz := (.go 5 [] [] (.split 14 (.go 12 [(.br true), (.as (.d (.v (.int .i64 (dI (cel x178 (y182.toNat * 1))))))), (.as (.d (.v (.int .i64 (dI (cel x180 (y182.toNat * 1)))))))] [0] (.split 24 (.go 6 [(.br true)] [0] .fin) (.go 8 [(.br false)] [0] (.cut 0 [[0, 1, 12, 13]] [])))) (.go 7 [(.br false)] [0] .fin)))
theorem k133_1 (x177 : Nat) (x178 : List DV) (x179 : Nat) (x180 : List DV) (x181 : Int) (y182 : Int) : xrun cfz 133 (D133_1 x177 x178 x179 x180 x181 y182) [] (st133 (.c1 x177 x178 x179 x180 x181 y182)) = (B133 (.c1 x177 x178 x179 x180 x181 y182)).mach st133 out133 := by kernel_rfl
theorem ok133 : ∀ s, ∃ d, xrun cfz 133 d [] (st133 s) = (B133 s).mach st133 out133
  | .c0 a173 a174 a175 a176 => ⟨_, k133_0 a173 a174 a175 a176⟩
  | .c1 x177 x178 x179 x180 x181 y182 => ⟨_, k133_1 x177 x178 x179 x180 x181 y182⟩
theorem f133 (a173 : Nat) (a174 : List DV) (a175 : Nat) (a176 : List DV) (v : Bool) (h : F133 a173 a174 a175 a176 = some v) : PureCalls cfz.P cfz.glob 133 [(.d (.sl a173 a174)), (.d (.sl a175 a176))] (out133 v) := tree_pure knil ok133 (s := .c0 a173 a174 a175 a176) rfl (by kernel_rfl) v h

/-! F60 -/
inductive S60 where
  | c0 (a210 : Int) (a211 : Nat) (a212 : List DV) (a213 : Nat) (a214 : List DV)
def out60 (v : Int) : AV := (.d (.v (.int .i64 v)))
noncomputable def st60 : S60 → ASt
  | .c0 a210 a211 a212 a213 a214 => ent cfz 60 [(.agg [(.d (.v (.int .i64 a210))), (.d (.sl a211 a212)), (.d (.sl a213 a214))])]
noncomputable def B60 : S60 → Tr S60 (Int)
  | .c0 a210 a211 a212 a213 a214 => (.bind (F130 a210 a211 a212 a213 a214) fun v215 =>
  (.sees [(.d (.v (.int .i64 a210))), (.d (.sl a211 a212)), (.d (.sl a213 a214))] (.ret v215)))
noncomputable def F60 (a210 : Int) (a211 : Nat) (a212 : List DV) (a213 : Nat) (a214 : List DV) : Option (Int) := res B60 (.c0 a210 a211 a212 a213 a214)
noncomputable def D60_0 (a210 : Int) (a211 : Nat) (a212 : List DV) (a213 : Nat) (a214 : List DV) : DT cfz := (.go 13 [] [] (.bind (f130 a210 a211 a212 a213 a214) fun v215 => (.go 4 [(.ck 0)] [] .fin)))
theorem k60_0 (a210 : Int) (a211 : Nat) (a212 : List DV) (a213 : Nat) (a214 : List DV) : xrun cfz 60 (D60_0 a210 a211 a212 a213 a214) [] (st60 (.c0 a210 a211 a212 a213 a214)) = (B60 (.c0 a210 a211 a212 a213 a214)).mach st60 out60 := by kernel_rfl
theorem ok60 : ∀ s, ∃ d, xrun cfz 60 d [] (st60 s) = (B60 s).mach st60 out60
  | .c0 a210 a211 a212 a213 a214 => ⟨_, k60_0 a210 a211 a212 a213 a214⟩
theorem f60 (a210 : Int) (a211 : Nat) (a212 : List DV) (a213 : Nat) (a214 : List DV) (v : Int) (h : F60 a210 a211 a212 a213 a214 = some v) : PureCalls cfz.P cfz.glob 60 [(.agg [(.d (.v (.int .i64 a210))), (.d (.sl a211 a212)), (.d (.sl a213 a214))])] (out60 v) := tree_pure knil ok60 (s := .c0 a210 a211 a212 a213 a214) rfl (by kernel_rfl) v h

/-! F61 -/
inductive S61 where
  | c0 (a221 : Int) (a222 : Nat) (a223 : List DV) (a224 : Nat) (a225 : List DV) (a226 : Int) (a227 : Nat) (a228 : List DV)
def out61 (v : Int × Nat × List DV × Nat × List DV × Int × Int) : AV := (.tup [(.agg [(.d (.v (.int .i64 v.fst))), (.d (.sl v.snd.fst v.snd.snd.fst)), (.d (.sl v.snd.snd.snd.fst v.snd.snd.snd.snd.fst))]), (.d (.v (.int .i64 v.snd.snd.snd.snd.snd.fst))), (.d (.v (.int .i64 v.snd.snd.snd.snd.snd.snd)))])
noncomputable def st61 : S61 → ASt
  | .c0 a221 a222 a223 a224 a225 a226 a227 a228 => ent cfz 61 [(.agg [(.d (.v (.int .i64 a221))), (.d (.sl a222 a223)), (.d (.sl a224 a225))]), (.d (.v (.int .i64 a226))), (.d (.sl a227 a228))]
noncomputable def B61 : S61 → Tr S61 (Int × Nat × List DV × Nat × List DV × Int × Int)
  | .c0 a221 a222 a223 a224 a225 a226 a227 a228 => (.br (decide (a226 ≤ a221))
  (.ret (a221, a222, a223, a224, a225, a221, 0))
  (.ask (.in64 (a221 + 1)) (.br (decide (a226 > a221 + 1))
  (.ret (0, 0, [], 0, [], 0, 7))
  (.br (decide ((↑a224 : Int) > 0))
  (.bind (F65 a224 a225 a227 a228) fun v229 =>
  (.sees [(.d (.sl a224 a225)), (.d (.sl a227 a228))] (.br (!v229)
  (.ret (0, 0, [], 0, [], 0, 24))
  (.ret (a221, a222, a223, a227, a228, a226, 0)))))
  (.ret (a221, a222, a223, a227, a228, a226, 0))))))
noncomputable def F61 (a221 : Int) (a222 : Nat) (a223 : List DV) (a224 : Nat) (a225 : List DV) (a226 : Int) (a227 : Nat) (a228 : List DV) : Option (Int × Nat × List DV × Nat × List DV × Int × Int) := res B61 (.c0 a221 a222 a223 a224 a225 a226 a227 a228)
noncomputable def D61_0 (a221 : Int) (a222 : Nat) (a223 : List DV) (a224 : Nat) (a225 : List DV) (a226 : Int) (a227 : Nat) (a228 : List DV) : DT cfz := (.go 15 [] [] (.split 12 (.go 5 [(.br true)] [0] .fin) (.go 11 [(.br false)] [0] (.split 20 (.go 9 [(.br true)] [0] .fin) (.go 10 [(.br false)] [0] (.split 26 (.go 3 [(.br true), (.br true), .none, (.br true)] [0, 1, 2] (.bind (f65 a224 a225 a227 a228) fun v229 => (.go 4 [(.br true), (.ck 0), (.br true)] [1, 2] (.split 32 (.go 9 [(.br true)] [0] .fin) (.go 16 [(.br false)] [0] .fin))))) (.go 23 [(.br false), (.br false), (.br false), (.br false), (.br false), .none, (.br false)] [0, 1, 2, 3, 4, 5] .fin)))))))
theorem k61_0 (a221 : Int) (a222 : Nat) (a223 : List DV) (a224 : Nat) (a225 : List DV) (a226 : Int) (a227 : Nat) (a228 : List DV) : xrun cfz 61 (D61_0 a221 a222 a223 a224 a225 a226 a227 a228) [] (st61 (.c0 a221 a222 a223 a224 a225 a226 a227 a228)) = (B61 (.c0 a221 a222 a223 a224 a225 a226 a227 a228)).mach st61 out61 := by kernel_rfl
theorem ok61 : ∀ s, ∃ d, xrun cfz 61 d [] (st61 s) = (B61 s).mach st61 out61
  | .c0 a221 a222 a223 a224 a225 a226 a227 a228 => ⟨_, k61_0 a221 a222 a223 a224 a225 a226 a227 a228⟩
theorem f61 (a221 : Int) (a222 : Nat) (a223 : List DV) (a224 : Nat) (a225 : List DV) (a226 : Int) (a227 : Nat) (a228 : List DV) (v : Int × Nat × List DV × Nat × List DV × Int × Int) (h : F61 a221 a222 a223 a224 a225 a226 a227 a228 = some v) : PureCalls cfz.P cfz.glob 61 [(.agg [(.d (.v (.int .i64 a221))), (.d (.sl a222 a223)), (.d (.sl a224 a225))]), (.d (.v (.int .i64 a226))), (.d (.sl a227 a228))] (out61 v) := tree_pure knil ok61 (s := .c0 a221 a222 a223 a224 a225 a226 a227 a228) rfl (by kernel_rfl) v h

/-! F62 -/
inductive S62 where
  | c0 (a231 : Int) (a232 : Nat) (a233 : List DV) (a234 : Nat) (a235 : List DV) (a236 : Int)
def out62 (v : Int × Nat × List DV × Nat × List DV × Nat × List DV × Int) : AV := (.tup [(.agg [(.d (.v (.int .i64 v.fst))), (.d (.sl v.snd.fst v.snd.snd.fst)), (.d (.sl v.snd.snd.snd.fst v.snd.snd.snd.snd.fst))]), (.d (.sl v.snd.snd.snd.snd.snd.fst v.snd.snd.snd.snd.snd.snd.fst)), (.d (.v (.int .i64 v.snd.snd.snd.snd.snd.snd.snd)))])
noncomputable def st62 : S62 → ASt
  | .c0 a231 a232 a233 a234 a235 a236 => ent cfz 62 [(.agg [(.d (.v (.int .i64 a231))), (.d (.sl a232 a233)), (.d (.sl a234 a235))]), (.d (.v (.int .i64 a236)))]
noncomputable def B62 : S62 → Tr S62 (Int × Nat × List DV × Nat × List DV × Nat × List DV × Int)
  | .c0 a231 a232 a233 a234 a235 a236 => (.br (decide (a236 < a231))
  (.ret (0, 0, [], 0, [], 0, [], 35))
  (.br (a236 == a231)
  (.ret (a231, a232, a233, a234, a235, a232, a233, 0))
  (.ask (.in64 (a231 + 1)) (.br (decide (a236 > a231 + 1))
  (.ret (0, 0, [], 0, [], 0, [], 7))
  (.br ((↑a234 : Int) == 0)
  (.ret (0, 0, [], 0, [], 0, [], 7))
  (.ret (a236, a234, a235, 0, [], a234, a235, 0)))))))
noncomputable def F62 (a231 : Int) (a232 : Nat) (a233 : List DV) (a234 : Nat) (a235 : List DV) (a236 : Int) : Option (Int × Nat × List DV × Nat × List DV × Nat × List DV × Int) := res B62 (.c0 a231 a232 a233 a234 a235 a236)
noncomputable def D62_0 (a231 : Int) (a232 : Nat) (a233 : List DV) (a234 : Nat) (a235 : List DV) (a236 : Int) : DT cfz := (.go 15 [] [] (.split 10 (.go 9 [(.br true)] [0] .fin) (.go 10 [(.br false)] [0] (.split 15 (.go 5 [(.br true)] [0] .fin) (.go 11 [(.br false)] [0] (.split 24 (.go 15 [(.br true), (.br true), (.br true), (.br true), .none, (.br true)] [0, 1, 2, 3, 4] .fin) (.go 6 [(.br false), (.br false), .none, (.br false), (.br false)] [0, 1, 2, 3] (.split 29 (.go 9 [(.br true)] [0] .fin) (.go 6 [(.br false)] [0] .fin)))))))))
theorem k62_0 (a231 : Int) (a232 : Nat) (a233 : List DV) (a234 : Nat) (a235 : List DV) (a236 : Int) : xrun cfz 62 (D62_0 a231 a232 a233 a234 a235 a236) [] (st62 (.c0 a231 a232 a233 a234 a235 a236)) = (B62 (.c0 a231 a232 a233 a234 a235 a236)).mach st62 out62 := by kernel_rfl
theorem ok62 : ∀ s, ∃ d, xrun cfz 62 d [] (st62 s) = (B62 s).mach st62 out62
  | .c0 a231 a232 a233 a234 a235 a236 => ⟨_, k62_0 a231 a232 a233 a234 a235 a236⟩
theorem f62 (a231 : Int) (a232 : Nat) (a233 : List DV) (a234 : Nat) (a235 : List DV) (a236 : Int) (v : Int × Nat × List DV × Nat × List DV × Nat × List DV × Int) (h : F62 a231 a232 a233 a234 a235 a236 = some v) : PureCalls cfz.P cfz.glob 62 [(.agg [(.d (.v (.int .i64 a231))), (.d (.sl a232 a233)), (.d (.sl a234 a235))]), (.d (.v (.int .i64 a236)))] (out62 v) := tree_pure knil ok62 (s := .c0 a231 a232 a233 a234 a235 a236) rfl (by kernel_rfl) v h

/-! F64 -/
inductive S64 where
  | c0 (a239 : Int) (a240 : Nat) (a241 : List DV) (a242 : Nat) (a243 : List DV) (a244 : Int) (a245 : Int) (a246 : Int) (a247 : Nat) (a248 : List DV) (a249 : Nat) (a250 : List DV)
def out64 (v : Bool) : AV := (.d (.v (.bool v)))
noncomputable def st64 : S64 → ASt
  | .c0 a239 a240 a241 a242 a243 a244 a245 a246 a247 a248 a249 a250 => ent cfz 64 [(.agg [(.d (.v (.int .i64 a239))), (.d (.sl a240 a241)), (.d (.sl a242 a243))]), (.d (.v (.int .i64 a244))), (.d (.v (.int .i64 a245))), (.agg [(.d (.v (.int .i64 a246))), (.d (.sl a247 a248)), (.d (.sl a249 a250))])]
noncomputable def B64 : S64 → Tr S64 (Bool)
  | .c0 a239 a240 a241 a242 a243 a244 a245 a246 a247 a248 a249 a250 => (.br (a245 != 0)
  (.br (a244 == a245)
  (.br (a239 == 0)
  (.bind (F65 a240 a241 0 []) fun v251 =>
  (.sees [(.d (.sl a240 a241)), (.d (.sl 0 []))] (.br v251
  (.bind (F65 a242 a243 0 []) fun v252 =>
  (.sees [(.d (.sl a242 a243)), (.d (.sl 0 []))] (.ret v252)))
  (.ret false))))
  (.ret false))
  (.ret false))
  (.br (a244 == a245)
  (.br (a239 == a246)
  (.bind (F65 a240 a241 a247 a248) fun v253 =>
  (.sees [(.d (.sl a240 a241)), (.d (.sl a247 a248))] (.br v253
  (.bind (F65 a242 a243 a249 a250) fun v254 =>
  (.sees [(.d (.sl a242 a243)), (.d (.sl a249 a250))] (.ret v254)))
  (.ret false))))
  (.ret false))
  (.ret false)))
noncomputable def F64 (a239 : Int) (a240 : Nat) (a241 : List DV) (a242 : Nat) (a243 : List DV) (a244 : Int) (a245 : Int) (a246 : Int) (a247 : Nat) (a248 : List DV) (a249 : Nat) (a250 : List DV) : Option (Bool) := res B64 (.c0 a239 a240 a241 a242 a243 a244 a245 a246 a247 a248 a249 a250)
noncomputable def D64_0 (a239 : Int) (a240 : Nat) (a241 : List DV) (a242 : Nat) (a243 : List DV) (a244 : Int) (a245 : Int) (a246 : Int) (a247 : Nat) (a248 : List DV) (a249 : Nat) (a250 : List DV) : DT cfz := (.go 12 [] [] (.split 10 (.go 11 [(.br true)] [0] (.split 15 (.go 7 [(.br true), (.br true), .none, (.br true), (.br true), .none, (.br true)] [0, 1, 2, 3, 4] (.split 22 (.go 4 [(.br true), (.br true), .none, (.br true), (.br true)] [0, 1, 2, 3] (.bind (f65 a240 a241 0 []) fun v251 => (.go 3 [(.br true), (.ck 0)] [1] (.split 29 (.go 4 [(.br true), (.br true), .none, (.br true), (.br true)] [0, 1, 2, 3] (.bind (f65 a242 a243 0 []) fun v252 => (.go 5 [(.br true), (.ck 1)] [1] .fin))) (.go 9 [(.br false), (.br false), (.br false), (.br false), (.br false)] [0, 1, 2, 3, 4] .fin))))) (.go 16 [(.br false), (.br false), (.br false), (.br false), (.br false), .none, (.br false), (.br false), (.br false), (.br false), (.br false)] [0, 1, 2, 3, 4, 5, 6, 7, 8, 9] .fin))) (.go 23 [(.br false), (.br false), (.br false), (.br false), (.br false), .none, (.br false), (.br false), (.br false), (.br false), (.br false), .none, (.br false), (.br false), (.br false), (.br false), (.br false)] [0, 1, 2, 3, 4, 5, 6, 7, 8, 9, 10, 11, 12, 13, 14] .fin))) (.go 8 [(.br false)] [0] (.split 15 (.go 7 [(.br true), (.br true), .none, (.br true), (.br true), .none, (.br true)] [0, 1, 2, 3, 4] (.split 22 (.go 4 [(.br true), (.br true), .none, (.br true), (.br true)] [0, 1, 2, 3] (.bind (f65 a240 a241 a247 a248) fun v253 => (.go 3 [(.br true), (.ck 0)] [1] (.split 29 (.go 4 [(.br true), (.br true), .none, (.br true), (.br true)] [0, 1, 2, 3] (.bind (f65 a242 a243 a249 a250) fun v254 => (.go 5 [(.br true), (.ck 1)] [1] .fin))) (.go 9 [(.br false), (.br false), (.br false), (.br false), (.br false)] [0, 1, 2, 3, 4] .fin))))) (.go 16 [(.br false), (.br false), (.br false), (.br false), (.br false), .none, (.br false), (.br false), (.br false), (.br false), (.br false)] [0, 1, 2, 3, 4, 5, 6, 7, 8, 9] .fin))) (.go 23 [(.br false), (.br false), (.br false), (.br false), (.br false), .none, (.br false), (.br false), (.br false), (.br false), (.br false), .none, (.br false), (.br false), (.br false), (.br false), (.br false)] [0, 1, 2, 3, 4, 5, 6, 7, 8, 9, 10, 11, 12, 13, 14] .fin)))))
theorem k64_0 (a239 : Int) (a240 : Nat) (a241 : List DV) (a242 : Nat) (a243 : List DV) (a244 : Int) (a245 : Int) (a246 : Int) (a247 : Nat) (a248 : List DV) (a249 : Nat) (a250 : List DV) : xrun cfz 64 (D64_0 a239 a240 a241 a242 a243 a244 a245 a246 a247 a248 a249 a250) [] (st64 (.c0 a239 a240 a241 a242 a243 a244 a245 a246 a247 a248 a249 a250)) = (B64 (.c0 a239 a240 a241 a242 a243 a244 a245 a246 a247 a248 a249 a250)).mach st64 out64 := by kernel_rfl
theorem ok64 : ∀ s, ∃ d, xrun cfz 64 d [] (st64 s) = (B64 s).mach st64 out64
  | .c0 a239 a240 a241 a242 a243 a244 a245 a246 a247 a248 a249 a250 => ⟨_, k64_0 a239 a240 a241 a242 a243 a244 a245 a246 a247 a248 a249 a250⟩
theorem f64 (a239 : Int) (a240 : Nat) (a241 : List DV) (a242 : Nat) (a243 : List DV) (a244 : Int) (a245 : Int) (a246 : Int) (a247 : Nat) (a248 : List DV) (a249 : Nat) (a250 : List DV) (v : Bool) (h : F64 a239 a240 a241 a242 a243 a244 a245 a246 a247 a248 a249 a250 = some v) : PureCalls cfz.P cfz.glob 64 [(.agg [(.d (.v (.int .i64 a239))), (.d (.sl a240 a241)), (.d (.sl a242 a243))]), (.d (.v (.int .i64 a244))), (.d (.v (.int .i64 a245))), (.agg [(.d (.v (.int .i64 a246))), (.d (.sl a247 a248)), (.d (.sl a249 a250))])] (out64 v) := tree_pure knil ok64 (s := .c0 a239 a240 a241 a242 a243 a244 a245 a246 a247 a248 a249 a250) rfl (by kernel_rfl) v h

end Go.Kv
