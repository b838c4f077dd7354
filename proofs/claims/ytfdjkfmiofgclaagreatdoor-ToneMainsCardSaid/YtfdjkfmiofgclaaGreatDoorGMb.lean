import Derived.Test.YtfdjkfmiofgclaaGreatDoorGMa
import Derived.Test.YtfdjkfmiofgclaaGreatDoorKCl
namespace Go.Kv
set_option linter.unusedVariables false
set_option linter.unusedSimpArgs false
set_option linter.unnecessarySimpa false
noncomputable section
open Go Go.RowKit Go.Proofs
set_option maxRecDepth 100000
inductive S153 where
  | c0 (x0 : Int) (x1 : List DV)
def out153 (v : Bool) : AV := (.d (.v (.bool v)))
def st153 : S153 → ASt
  | .c0 x0 x1 => ent cfz 153 [(aI x0), (.ip x1)]
def B153 : S153 → Tr S153 (Bool)
  | .c0 x0 x1 => (.ask (.leN 4 x1.length) (.ask (.prop (List.map AV.d (List.take 4 x1) = [AV.d (DV.v (Value.int IntKind.i64 (dI (cel x1 0)))), AV.d (DV.sl (dN (cel x1 1)) (dL (cel x1 1))), AV.d (DV.sl (dN (cel x1 2)) (dL (cel x1 2))), AV.d (DV.sl (dN (cel x1 3)) (dL (cel x1 3)))])) (.bind (F112 (dI (cel x1 0)) (dN (cel x1 1)) (dL (cel x1 1)) (dN (cel x1 2)) (dL (cel x1 2)) (dN (cel x1 3)) (dL (cel x1 3)) x0) fun x2 =>
  (.sees [(.agg [(aI (dI (cel x1 0))), (.d (.sl (dN (cel x1 1)) (dL (cel x1 1)))), (.d (.sl (dN (cel x1 2)) (dL (cel x1 2)))), (.d (.sl (dN (cel x1 3)) (dL (cel x1 3))))]), (aI x0)] (.ret (!x2))))))
def F153 (x0 : Int) (x1 : List DV) : Option (Bool) := res B153 (.c0 x0 x1)
def D153_0 (x0 : Int) (x1 : List DV) : DT cfz := (.go 8 [(.as (.agg [(aI (dI (cel x1 0))), (.d (.sl (dN (cel x1 1)) (dL (cel x1 1)))), (.d (.sl (dN (cel x1 2)) (dL (cel x1 2)))), (.d (.sl (dN (cel x1 3)) (dL (cel x1 3))))]))] [] (.bind (f112 (dI (cel x1 0)) (dN (cel x1 1)) (dL (cel x1 1)) (dN (cel x1 2)) (dL (cel x1 2)) (dN (cel x1 3)) (dL (cel x1 3)) x0) fun x2 => (.go 5 [(.ck 0)] [] .fin)))
theorem k153_0 (x0 : Int) (x1 : List DV) : xrun cfz 153 (D153_0 x0 x1) [] (st153 (.c0 x0 x1)) = (B153 (.c0 x0 x1)).mach st153 out153 := by kernel_rfl
theorem ok153 : ∀ s, ∃ d, xrun cfz 153 d [] (st153 s) = (B153 s).mach st153 out153
  | .c0 x0 x1 => ⟨_, k153_0 x0 x1⟩
theorem f153 (x0 : Int) (x1 : List DV) (v : Bool) (h : F153 x0 x1 = some v) : PureCalls cfz.P cfz.glob 153 [(aI x0), (.ip x1)] (out153 v) := tree_pure knil ok153 (s := .c0 x0 x1) rfl (by kernel_rfl) v h
inductive S155 where
  | c0 (x0 : Nat) (x1 x2 : List DV)
  | c1 (x0 : Nat) (x1 x2 : List DV) (x3 x4 : Int)
def out155 (v : Int) : AV := (.d (.v (.int .i64 v)))
def st155 : S155 → ASt
  | .c0 x0 x1 x2 => ent cfz 155 [(.d (.sl x0 x1)), (.fn (.func 153) [] [(.ip x2)])]
  | .c1 x0 x1 x2 x3 x4 => ⟨⟨155, sp 19 0 [(0, (.d (.sl x0 x1))), (1, (.fn (.func 153) [] [(.ip x2)])), (7, (aI x3)), (8, (aI x4))], [(.code (cd cfz.P 155 [1, 0, 1, 0, 0])), (.inLoop (cd cfz.P 155 [1, 0, 1, 0, 0])), (.inBlock 0), (.code (cd cfz.P 155 [1, 1]))], [], false, .none⟩, [], []⟩
def B155 : S155 → Tr S155 (Int)
  | .c0 x0 x1 x2 => (.nxt (.c1 x0 x1 x2 ((↑x0 : Int)) 0))
  | .c1 x0 x1 x2 x3 x4 => (.br (decide (x4 < x3))
  (.ask (.le 0 x4) (.ask (.lt x4 ((↑x0 : Int))) (.ask (.leN (x4.toNat * 1) x1.length) (.ask (.prop (Option.map AV.d (List.drop (x4.toNat * 1) x1)[0]? = some (AV.d (DV.v (Value.int IntKind.i64 (dI (cel x1 (x4.toNat * 1)))))))) (.bind (F153 (dI (cel x1 (x4.toNat * 1))) x2) fun x5 =>
  (.sees [(aI (dI (cel x1 (x4.toNat * 1)))), (.ip x2)] (.br x5
  (.ret x4)
  (.ask (.in64 (x4 + 1)) (.nxt (.c1 x0 x1 x2 x3 (x4 + 1)))))))))))
  (.ret (-1)))
def F155 (x0 : Nat) (x1 x2 : List DV) : Option (Int) := res B155 (.c0 x0 x1 x2)
def D155_0 (x0 : Nat) (x1 x2 : List DV) : DT cfz := (.go 13 [] [] (.cut 0 [[0, 1, 7, 8]] []))
theorem k155_0 (x0 : Nat) (x1 x2 : List DV) : xrun cfz 155 (D155_0 x0 x1 x2) [] (st155 (.c0 x0 x1 x2)) = (B155 (.c0 x0 x1 x2)).mach st155 out155 := by kernel_rfl
def D155_1 (x0 : Nat) (x1 x2 : List DV) (x3 x4 : Int) : DT cfz := (.go 5 [] [] (.split 9 (.go 16 [(.br true), (.as (aI (dI (cel x1 (x4.toNat * 1)))))] [0] (.bind (f153 (dI (cel x1 (x4.toNat * 1))) x2) fun x5 => (.go 2 [(.ck 0)] [] (.split 16 (.go 7 [(.br true)] [0] .fin) (.go 8 [(.br false)] [0] (.cut 0 [[0, 1, 7, 8]] [])))))) (.go 7 [(.br false)] [0] .fin)))
theorem k155_1 (x0 : Nat) (x1 x2 : List DV) (x3 x4 : Int) : xrun cfz 155 (D155_1 x0 x1 x2 x3 x4) [] (st155 (.c1 x0 x1 x2 x3 x4)) = (B155 (.c1 x0 x1 x2 x3 x4)).mach st155 out155 := by kernel_rfl
theorem ok155 : ∀ s, ∃ d, xrun cfz 155 d [] (st155 s) = (B155 s).mach st155 out155
  | .c0 x0 x1 x2 => ⟨_, k155_0 x0 x1 x2⟩
  | .c1 x0 x1 x2 x3 x4 => ⟨_, k155_1 x0 x1 x2 x3 x4⟩
theorem f155 (x0 : Nat) (x1 x2 : List DV) (v : Int) (h : F155 x0 x1 x2 = some v) : PureCalls cfz.P cfz.glob 155 [(.d (.sl x0 x1)), (.fn (.func 153) [] [(.ip x2)])] (out155 v) := tree_pure knil ok155 (s := .c0 x0 x1 x2) rfl (by kernel_rfl) v h
inductive S152 where
  | c0 (x0 : Nat) (x1 x2 : List DV)
def out152 (v : Bool) : AV := (.d (.v (.bool v)))
def st152 : S152 → ASt
  | .c0 x0 x1 x2 => ent cfz 152 [(.d (.sl x0 x1)), (.fn (.func 153) [] [(.ip x2)])]
def B152 : S152 → Tr S152 (Bool)
  | .c0 x0 x1 x2 => (.bind (F155 x0 x1 x2) fun x3 =>
  (.sees [(.d (.sl x0 x1)), (.fn (.func 153) [] [(.ip x2)])] (.ret (decide (x3 ≥ 0)))))
def F152 (x0 : Nat) (x1 x2 : List DV) : Option (Bool) := res B152 (.c0 x0 x1 x2)
def D152_0 (x0 : Nat) (x1 x2 : List DV) : DT cfz := (.go 8 [] [] (.bind (f155 x0 x1 x2) fun x3 => (.go 5 [(.ck 0)] [] .fin)))
theorem k152_0 (x0 : Nat) (x1 x2 : List DV) : xrun cfz 152 (D152_0 x0 x1 x2) [] (st152 (.c0 x0 x1 x2)) = (B152 (.c0 x0 x1 x2)).mach st152 out152 := by kernel_rfl
theorem ok152 : ∀ s, ∃ d, xrun cfz 152 d [] (st152 s) = (B152 s).mach st152 out152
  | .c0 x0 x1 x2 => ⟨_, k152_0 x0 x1 x2⟩
theorem f152 (x0 : Nat) (x1 x2 : List DV) (v : Bool) (h : F152 x0 x1 x2 = some v) : PureCalls cfz.P cfz.glob 152 [(.d (.sl x0 x1)), (.fn (.func 153) [] [(.ip x2)])] (out152 v) := tree_pure knil ok152 (s := .c0 x0 x1 x2) rfl (by kernel_rfl) v h
inductive S101 where
  | c0 (x0 : Int) (x1 : Nat) (x2 : List DV) (x3 : Nat) (x4 : List DV) (x5 : Nat) (x6 : List DV) (x7 : Nat) (x8 : List DV)
def out101 (v : Int) : AV := (.d (.v (.int .i64 v)))
def st101 : S101 → ASt
  | .c0 x0 x1 x2 x3 x4 x5 x6 x7 x8 => ent cfz 101 [(.agg [(aI x0), (.d (.sl x1 x2)), (.d (.sl x3 x4)), (.d (.sl x5 x6))]), (.d (.sl x7 x8))]
def B101 : S101 → Tr S101 (Int)
  | .c0 x0 x1 x2 x3 x4 x5 x6 x7 x8 => (.bind (F23 x0 x1 x2 x3 x4 x5 x6) fun x9 =>
  (.sees [(.agg [(aI x0), (.d (.sl x1 x2)), (.d (.sl x3 x4)), (.d (.sl x5 x6))])] (.bind (F152 x7 x8 [(.v (.int .i64 x0)), (.sl x1 x2), (.sl x3 x4), (.sl x5 x6)]) fun xa =>
  (.sees [(.d (.sl x7 x8)), (.fn (.func 153) [] [(.ip [(vI x0), (.sl x1 x2), (.sl x3 x4), (.sl x5 x6)])])] (.bind (F109 xa 10) fun xb =>
  (.sees [(.d (.v (.bool xa))), (aI 10)] (.bind (F107 2 [(.v (.int .i64 x9)), (.v (.int .i64 xb))]) fun xc =>
  (.sees [(.d (.sl 2 [(vI x9), (vI xb)]))] (.ret xc)))))))))
def F101 (x0 : Int) (x1 : Nat) (x2 : List DV) (x3 : Nat) (x4 : List DV) (x5 : Nat) (x6 : List DV) (x7 : Nat) (x8 : List DV) : Option (Int) := res B101 (.c0 x0 x1 x2 x3 x4 x5 x6 x7 x8)
def D101_0 (x0 : Int) (x1 : Nat) (x2 : List DV) (x3 : Nat) (x4 : List DV) (x5 : Nat) (x6 : List DV) (x7 : Nat) (x8 : List DV) : DT cfz := (.go 8 [] [] (.bind (f23 x0 x1 x2 x3 x4 x5 x6) fun x9 => (.go 3 [(.ck 0)] [] (.bind (f152 x7 x8 [(vI x0), (.sl x1 x2), (.sl x3 x4), (.sl x5 x6)]) fun xa => (.go 1 [(.ck 1)] [] (.bind (f109 xa 10) fun xb => (.go 2 [(.ck 2)] [] (.bind (f107 2 [(vI x9), (vI xb)]) fun xc => (.go 4 [(.ck 3)] [] .fin)))))))))
theorem k101_0 (x0 : Int) (x1 : Nat) (x2 : List DV) (x3 : Nat) (x4 : List DV) (x5 : Nat) (x6 : List DV) (x7 : Nat) (x8 : List DV) : xrun cfz 101 (D101_0 x0 x1 x2 x3 x4 x5 x6 x7 x8) [] (st101 (.c0 x0 x1 x2 x3 x4 x5 x6 x7 x8)) = (B101 (.c0 x0 x1 x2 x3 x4 x5 x6 x7 x8)).mach st101 out101 := by kernel_rfl
theorem ok101 : ∀ s, ∃ d, xrun cfz 101 d [] (st101 s) = (B101 s).mach st101 out101
  | .c0 x0 x1 x2 x3 x4 x5 x6 x7 x8 => ⟨_, k101_0 x0 x1 x2 x3 x4 x5 x6 x7 x8⟩
theorem f101 (x0 : Int) (x1 : Nat) (x2 : List DV) (x3 : Nat) (x4 : List DV) (x5 : Nat) (x6 : List DV) (x7 : Nat) (x8 : List DV) (v : Int) (h : F101 x0 x1 x2 x3 x4 x5 x6 x7 x8 = some v) : PureCalls cfz.P cfz.glob 101 [(.agg [(aI x0), (.d (.sl x1 x2)), (.d (.sl x3 x4)), (.d (.sl x5 x6))]), (.d (.sl x7 x8))] (out101 v) := tree_pure knil ok101 (s := .c0 x0 x1 x2 x3 x4 x5 x6 x7 x8) rfl (by kernel_rfl) v h
inductive S154 where
  | c0 (x0 : Int) (x1 : Nat) (x2 : List DV) (x3 : Nat) (x4 : List DV) (x5 : Nat) (x6 : List DV) (x7 : Int)
  | c1 (x0 : Int) (x1 x2 : Nat) (x3 : List DV) (x4 : Int) (x5 : Nat) (x6 : List DV) (x7 : Nat) (x8 : List DV) (x9 : Nat) (xa : List DV) (xb : Nat)
def out154 (v : Nat × List DV) : AV := (.d (.sl v.fst v.snd))
def st154 : S154 → ASt
  | .c0 x0 x1 x2 x3 x4 x5 x6 x7 => ent cfz 154 [(.agg [(aI x0), (.d (.sl x1 x2)), (.d (.sl x3 x4)), (.d (.sl x5 x6))]), (aI x7)]
  | .c1 x0 x1 x2 x3 x4 x5 x6 x7 x8 x9 xa xb => ⟨⟨154, sp 21 0 [(1, (aI x0)), (2, (.ptr 0 0)), (5, (.own 1 x1 1 x2 x3))], [(.code (cd cfz.P 154 [1, 1, 0, 0, 0])), (.inLoop (cd cfz.P 154 [1, 1, 0, 0, 0])), (.inBlock 0), (.code (cd cfz.P 154 [1, 1, 1]))], [], false, .none⟩, [], [(.cells [(aI x4), (.d (.sl x5 x6)), (.d (.sl x7 x8)), (.d (.sl x9 xa))] 37), (.tail xb)]⟩
def B154 : S154 → Tr S154 (Nat × List DV)
  | .c0 x0 x1 x2 x3 x4 x5 x6 x7 => (.nxt (.c1 x7 0 1 [(.v (.int .i64 x7))] x0 x1 x2 x3 x4 x5 x6 0))
  | .c1 x0 x1 x2 x3 x4 x5 x6 x7 x8 x9 xa xb => (.br (decide (x0 > 0))
  (.ask (.le 0 x0) (.ask (.lt x0 ((↑x7 : Int))) (.ask (.leN (x0.toNat * 4) x8.length) (.ask (.leN 1 ((List.drop (x0.toNat * 4) x8).length)) (.ask (.prop (Option.map AV.d (List.drop 1 (List.drop (x0.toNat * 4) x8))[0]? = some (AV.d (DV.v (Value.int IntKind.i64 (dI (cel (List.drop (x0.toNat * 4) x8) 1))))))) (.ask (.eqN x1 xb) (.ask (.fits (x2 + 1) 8) (.nxt (.c1 (dI (cel (List.drop (x0.toNat * 4) x8) 1)) (xb + 1) (x2 + 1) (x3 ++ [DV.v (Value.int IntKind.i64 (dI (cel (List.drop (x0.toNat * 4) x8) 1)))]) x4 x5 x6 x7 x8 x9 xa (xb + 1))))))))))
  (.ret (x2, x3)))
def F154 (x0 : Int) (x1 : Nat) (x2 : List DV) (x3 : Nat) (x4 : List DV) (x5 : Nat) (x6 : List DV) (x7 : Int) : Option (Nat × List DV) := res B154 (.c0 x0 x1 x2 x3 x4 x5 x6 x7)
def D154_0 (x0 : Int) (x1 : Nat) (x2 : List DV) (x3 : Nat) (x4 : List DV) (x5 : Nat) (x6 : List DV) (x7 : Int) : DT cfz := (.go 14 [] [] (.cut 2 [[1, 2, 5]] []))
theorem k154_0 (x0 : Int) (x1 : Nat) (x2 : List DV) (x3 : Nat) (x4 : List DV) (x5 : Nat) (x6 : List DV) (x7 : Int) : xrun cfz 154 (D154_0 x0 x1 x2 x3 x4 x5 x6 x7) [] (st154 (.c0 x0 x1 x2 x3 x4 x5 x6 x7)) = (B154 (.c0 x0 x1 x2 x3 x4 x5 x6 x7)).mach st154 out154 := by kernel_rfl
def D154_1 (x0 : Int) (x1 x2 : Nat) (x3 : List DV) (x4 : Int) (x5 : Nat) (x6 : List DV) (x7 : Nat) (x8 : List DV) (x9 : Nat) (xa : List DV) (xb : Nat) : DT cfz := (.go 6 [] [] (.split 9 (.go 22 [(.br true), .none, (.as (aI (dI (cel (List.drop (x0.toNat * 4) x8) 1))))] [0, 7, 8] (.cut 2 [[1, 2, 5]] [])) (.go 8 [(.br false)] [0] .fin)))
theorem k154_1 (x0 : Int) (x1 x2 : Nat) (x3 : List DV) (x4 : Int) (x5 : Nat) (x6 : List DV) (x7 : Nat) (x8 : List DV) (x9 : Nat) (xa : List DV) (xb : Nat) : xrun cfz 154 (D154_1 x0 x1 x2 x3 x4 x5 x6 x7 x8 x9 xa xb) [] (st154 (.c1 x0 x1 x2 x3 x4 x5 x6 x7 x8 x9 xa xb)) = (B154 (.c1 x0 x1 x2 x3 x4 x5 x6 x7 x8 x9 xa xb)).mach st154 out154 := by kernel_rfl
theorem ok154 : ∀ s, ∃ d, xrun cfz 154 d [] (st154 s) = (B154 s).mach st154 out154
  | .c0 x0 x1 x2 x3 x4 x5 x6 x7 => ⟨_, k154_0 x0 x1 x2 x3 x4 x5 x6 x7⟩
  | .c1 x0 x1 x2 x3 x4 x5 x6 x7 x8 x9 xa xb => ⟨_, k154_1 x0 x1 x2 x3 x4 x5 x6 x7 x8 x9 xa xb⟩
theorem f154 (x0 : Int) (x1 : Nat) (x2 : List DV) (x3 : Nat) (x4 : List DV) (x5 : Nat) (x6 : List DV) (x7 : Int) (v : Nat × List DV) (h : F154 x0 x1 x2 x3 x4 x5 x6 x7 = some v) : PureCalls cfz.P cfz.glob 154 [(.agg [(aI x0), (.d (.sl x1 x2)), (.d (.sl x3 x4)), (.d (.sl x5 x6))]), (aI x7)] (out154 v) := tree_pure knil ok154 (s := .c0 x0 x1 x2 x3 x4 x5 x6 x7) rfl (by kernel_rfl) v h
inductive S156 where
  | c0 (x0 : Int) (x1 : List DV)
def out156 (v : Bool) : AV := (.d (.v (.bool v)))
def st156 : S156 → ASt
  | .c0 x0 x1 => ent cfz 156 [(aI x0), (.ip x1)]
def B156 : S156 → Tr S156 (Bool)
  | .c0 x0 x1 => (.ask (.prop (Option.map AV.d x1[0]? = some (AV.d (DV.sl (dN (cel x1 0)) (dL (cel x1 0)))))) (.bind (F157 (dN (cel x1 0)) (dL (cel x1 0)) x0) fun x2 =>
  (.sees [(.d (.sl (dN (cel x1 0)) (dL (cel x1 0)))), (aI x0)] (.ret x2))))
def F156 (x0 : Int) (x1 : List DV) : Option (Bool) := res B156 (.c0 x0 x1)
def D156_0 (x0 : Int) (x1 : List DV) : DT cfz := (.go 8 [(.as (.d (.sl (dN (cel x1 0)) (dL (cel x1 0)))))] [] (.bind (f157 (dN (cel x1 0)) (dL (cel x1 0)) x0) fun x2 => (.go 4 [(.ck 0)] [] .fin)))
theorem k156_0 (x0 : Int) (x1 : List DV) : xrun cfz 156 (D156_0 x0 x1) [] (st156 (.c0 x0 x1)) = (B156 (.c0 x0 x1)).mach st156 out156 := by kernel_rfl
theorem ok156 : ∀ s, ∃ d, xrun cfz 156 d [] (st156 s) = (B156 s).mach st156 out156
  | .c0 x0 x1 => ⟨_, k156_0 x0 x1⟩
theorem f156 (x0 : Int) (x1 : List DV) (v : Bool) (h : F156 x0 x1 = some v) : PureCalls cfz.P cfz.glob 156 [(aI x0), (.ip x1)] (out156 v) := tree_pure knil ok156 (s := .c0 x0 x1) rfl (by kernel_rfl) v h
inductive S155_1 where
  | c0 (x0 : Nat) (x1 x2 : List DV)
  | c1 (x0 : Nat) (x1 x2 : List DV) (x3 x4 : Int)
def out155_1 (v : Int) : AV := (.d (.v (.int .i64 v)))
def st155_1 : S155_1 → ASt
  | .c0 x0 x1 x2 => ent cfz 155 [(.d (.sl x0 x1)), (.fn (.func 156) [] [(.ip x2)])]
  | .c1 x0 x1 x2 x3 x4 => ⟨⟨155, sp 19 0 [(0, (.d (.sl x0 x1))), (1, (.fn (.func 156) [] [(.ip x2)])), (7, (aI x3)), (8, (aI x4))], [(.code (cd cfz.P 155 [1, 0, 1, 0, 0])), (.inLoop (cd cfz.P 155 [1, 0, 1, 0, 0])), (.inBlock 0), (.code (cd cfz.P 155 [1, 1]))], [], false, .none⟩, [], []⟩
def B155_1 : S155_1 → Tr S155_1 (Int)
  | .c0 x0 x1 x2 => (.nxt (.c1 x0 x1 x2 ((↑x0 : Int)) 0))
  | .c1 x0 x1 x2 x3 x4 => (.br (decide (x4 < x3))
  (.ask (.le 0 x4) (.ask (.lt x4 ((↑x0 : Int))) (.ask (.leN (x4.toNat * 1) x1.length) (.ask (.prop (Option.map AV.d (List.drop (x4.toNat * 1) x1)[0]? = some (AV.d (DV.v (Value.int IntKind.i64 (dI (cel x1 (x4.toNat * 1)))))))) (.bind (F156 (dI (cel x1 (x4.toNat * 1))) x2) fun x5 =>
  (.sees [(aI (dI (cel x1 (x4.toNat * 1)))), (.ip x2)] (.br x5
  (.ret x4)
  (.ask (.in64 (x4 + 1)) (.nxt (.c1 x0 x1 x2 x3 (x4 + 1)))))))))))
  (.ret (-1)))
def F155_1 (x0 : Nat) (x1 x2 : List DV) : Option (Int) := res B155_1 (.c0 x0 x1 x2)
def D155_1_0 (x0 : Nat) (x1 x2 : List DV) : DT cfz := (.go 13 [] [] (.cut 0 [[0, 1, 7, 8]] []))
theorem k155_1_0 (x0 : Nat) (x1 x2 : List DV) : xrun cfz 155 (D155_1_0 x0 x1 x2) [] (st155_1 (.c0 x0 x1 x2)) = (B155_1 (.c0 x0 x1 x2)).mach st155_1 out155_1 := by kernel_rfl
def D155_1_1 (x0 : Nat) (x1 x2 : List DV) (x3 x4 : Int) : DT cfz := (.go 5 [] [] (.split 9 (.go 16 [(.br true), (.as (aI (dI (cel x1 (x4.toNat * 1)))))] [0] (.bind (f156 (dI (cel x1 (x4.toNat * 1))) x2) fun x5 => (.go 2 [(.ck 0)] [] (.split 16 (.go 7 [(.br true)] [0] .fin) (.go 8 [(.br false)] [0] (.cut 0 [[0, 1, 7, 8]] [])))))) (.go 7 [(.br false)] [0] .fin)))
theorem k155_1_1 (x0 : Nat) (x1 x2 : List DV) (x3 x4 : Int) : xrun cfz 155 (D155_1_1 x0 x1 x2 x3 x4) [] (st155_1 (.c1 x0 x1 x2 x3 x4)) = (B155_1 (.c1 x0 x1 x2 x3 x4)).mach st155_1 out155_1 := by kernel_rfl
theorem ok155_1 : ∀ s, ∃ d, xrun cfz 155 d [] (st155_1 s) = (B155_1 s).mach st155_1 out155_1
  | .c0 x0 x1 x2 => ⟨_, k155_1_0 x0 x1 x2⟩
  | .c1 x0 x1 x2 x3 x4 => ⟨_, k155_1_1 x0 x1 x2 x3 x4⟩
theorem f155_1 (x0 : Nat) (x1 x2 : List DV) (v : Int) (h : F155_1 x0 x1 x2 = some v) : PureCalls cfz.P cfz.glob 155 [(.d (.sl x0 x1)), (.fn (.func 156) [] [(.ip x2)])] (out155_1 v) := tree_pure knil ok155_1 (s := .c0 x0 x1 x2) rfl (by kernel_rfl) v h
inductive S105 where
  | c0 (x0 : Int) (x1 : Nat) (x2 : List DV) (x3 : Nat) (x4 : List DV) (x5 : Nat) (x6 : List DV) (x7 : Int)
  | c1 (x0 : Int) (x1 x2 : Nat) (x3 : List DV) (x4 : Int) (x5 : Nat) (x6 : List DV) (x7 : Nat) (x8 : List DV) (x9 : Nat) (xa : List DV) (xb : Nat)
def out105 (v : Nat × List DV) : AV := (.d (.sl v.fst v.snd))
def st105 : S105 → ASt
  | .c0 x0 x1 x2 x3 x4 x5 x6 x7 => ent cfz 105 [(.agg [(aI x0), (.d (.sl x1 x2)), (.d (.sl x3 x4)), (.d (.sl x5 x6))]), (aI x7)]
  | .c1 x0 x1 x2 x3 x4 x5 x6 x7 x8 x9 xa xb => ⟨⟨105, sp 21 0 [(1, (aI x0)), (2, (.ptr 0 0)), (5, (.own 1 x1 1 x2 x3))], [(.code (cd cfz.P 105 [1, 1, 0, 0, 0])), (.inLoop (cd cfz.P 105 [1, 1, 0, 0, 0])), (.inBlock 0), (.code (cd cfz.P 105 [1, 1, 1]))], [], false, .none⟩, [], [(.cells [(aI x4), (.d (.sl x5 x6)), (.d (.sl x7 x8)), (.d (.sl x9 xa))] 26), (.tail xb)]⟩
def B105 : S105 → Tr S105 (Nat × List DV)
  | .c0 x0 x1 x2 x3 x4 x5 x6 x7 => (.nxt (.c1 x7 0 1 [(.v (.int .i64 x7))] x0 x1 x2 x3 x4 x5 x6 0))
  | .c1 x0 x1 x2 x3 x4 x5 x6 x7 x8 x9 xa xb => (.br (decide (x0 > 0))
  (.ask (.le 0 x0) (.ask (.lt x0 ((↑x7 : Int))) (.ask (.leN (x0.toNat * 4) x8.length) (.ask (.leN 1 ((List.drop (x0.toNat * 4) x8).length)) (.ask (.prop (Option.map AV.d (List.drop 1 (List.drop (x0.toNat * 4) x8))[0]? = some (AV.d (DV.v (Value.int IntKind.i64 (dI (cel (List.drop (x0.toNat * 4) x8) 1))))))) (.ask (.eqN x1 xb) (.ask (.fits (x2 + 1) 8) (.nxt (.c1 (dI (cel (List.drop (x0.toNat * 4) x8) 1)) (xb + 1) (x2 + 1) (x3 ++ [DV.v (Value.int IntKind.i64 (dI (cel (List.drop (x0.toNat * 4) x8) 1)))]) x4 x5 x6 x7 x8 x9 xa (xb + 1))))))))))
  (.ret (x2, x3)))
def F105 (x0 : Int) (x1 : Nat) (x2 : List DV) (x3 : Nat) (x4 : List DV) (x5 : Nat) (x6 : List DV) (x7 : Int) : Option (Nat × List DV) := res B105 (.c0 x0 x1 x2 x3 x4 x5 x6 x7)
def D105_0 (x0 : Int) (x1 : Nat) (x2 : List DV) (x3 : Nat) (x4 : List DV) (x5 : Nat) (x6 : List DV) (x7 : Int) : DT cfz := (.go 14 [] [] (.cut 2 [[1, 2, 5]] []))
theorem k105_0 (x0 : Int) (x1 : Nat) (x2 : List DV) (x3 : Nat) (x4 : List DV) (x5 : Nat) (x6 : List DV) (x7 : Int) : xrun cfz 105 (D105_0 x0 x1 x2 x3 x4 x5 x6 x7) [] (st105 (.c0 x0 x1 x2 x3 x4 x5 x6 x7)) = (B105 (.c0 x0 x1 x2 x3 x4 x5 x6 x7)).mach st105 out105 := by kernel_rfl
def D105_1 (x0 : Int) (x1 x2 : Nat) (x3 : List DV) (x4 : Int) (x5 : Nat) (x6 : List DV) (x7 : Nat) (x8 : List DV) (x9 : Nat) (xa : List DV) (xb : Nat) : DT cfz := (.go 6 [] [] (.split 9 (.go 22 [(.br true), .none, (.as (aI (dI (cel (List.drop (x0.toNat * 4) x8) 1))))] [0, 7, 8] (.cut 2 [[1, 2, 5]] [])) (.go 8 [(.br false)] [0] .fin)))
theorem k105_1 (x0 : Int) (x1 x2 : Nat) (x3 : List DV) (x4 : Int) (x5 : Nat) (x6 : List DV) (x7 : Nat) (x8 : List DV) (x9 : Nat) (xa : List DV) (xb : Nat) : xrun cfz 105 (D105_1 x0 x1 x2 x3 x4 x5 x6 x7 x8 x9 xa xb) [] (st105 (.c1 x0 x1 x2 x3 x4 x5 x6 x7 x8 x9 xa xb)) = (B105 (.c1 x0 x1 x2 x3 x4 x5 x6 x7 x8 x9 xa xb)).mach st105 out105 := by kernel_rfl
theorem ok105 : ∀ s, ∃ d, xrun cfz 105 d [] (st105 s) = (B105 s).mach st105 out105
  | .c0 x0 x1 x2 x3 x4 x5 x6 x7 => ⟨_, k105_0 x0 x1 x2 x3 x4 x5 x6 x7⟩
  | .c1 x0 x1 x2 x3 x4 x5 x6 x7 x8 x9 xa xb => ⟨_, k105_1 x0 x1 x2 x3 x4 x5 x6 x7 x8 x9 xa xb⟩
theorem f105 (x0 : Int) (x1 : Nat) (x2 : List DV) (x3 : Nat) (x4 : List DV) (x5 : Nat) (x6 : List DV) (x7 : Int) (v : Nat × List DV) (h : F105 x0 x1 x2 x3 x4 x5 x6 x7 = some v) : PureCalls cfz.P cfz.glob 105 [(.agg [(aI x0), (.d (.sl x1 x2)), (.d (.sl x3 x4)), (.d (.sl x5 x6))]), (aI x7)] (out105 v) := tree_pure knil ok105 (s := .c0 x0 x1 x2 x3 x4 x5 x6 x7) rfl (by kernel_rfl) v h
inductive S144f where
  | c0 (x0 : Nat) (x1 : List DV)
def out144f (v : Nat × List DV) : AV := (.own 0 0 1 v.fst v.snd)
def st144f : S144f → ASt
  | .c0 x0 x1 => ent cfz 144 [(.d (.sl x0 x1))]
def B144f : S144f → Tr S144f (Nat × List DV)
  | .c0 x0 x1 => (.ask (.ltN 0 x0) (.br (x0.beq 0)
  (.ask (.eqN x0 0) (.ret (0, [])))
  (.ask (.ltN 0 x0) (.ask (.eqN x1.length (x0 * 1)) (.ask (.fits x0 8) (.ask (.eqN 0 0) (.ask (.ltN 0 x0) (.ret (x0, x1)))))))))
def F144f (x0 : Nat) (x1 : List DV) : Option (Nat × List DV) := res B144f (.c0 x0 x1)
def D144f_0 (x0 : Nat) (x1 : List DV) : DT cfz := (.go 16 [(.br false)] [1] (.br (x0.beq 0) (.go 4 [(.br false)] [] (.finF 1 false [])) (.go 4 [(.br true)] [] (.finF 1 false []))))
theorem k144f_0 (x0 : Nat) (x1 : List DV) : xrunF cfz 144 false (D144f_0 x0 x1) [] (st144f (.c0 x0 x1)) = (B144f (.c0 x0 x1)).mach st144f out144f := by kernel_rfl
theorem ok144f : ∀ s, ∃ d, xrunF cfz 144 false d [] (st144f s) = (B144f s).mach st144f out144f
  | .c0 x0 x1 => ⟨_, k144f_0 x0 x1⟩
theorem f144f (x0 : Nat) (x1 : List DV) (v : Nat × List DV) (h : F144f x0 x1 = some v) : PureCallsF cfz.P cfz.glob 144 [(.d (.sl x0 x1))] (out144f v) false := tree_pureF knil ok144f (s := .c0 x0 x1) rfl (by kernel_rfl) v h
inductive S102 where
  | c0 (x0 : Int) (x1 : Nat) (x2 : List DV) (x3 : Nat) (x4 : List DV) (x5 : Nat) (x6 : List DV) (x7 x8 : Int)
  | c1 (x0 : Nat) (x1 x2 : Int) (x3 : List AV)
  | c2 (x0 : Nat) (x1 x2 : Int) (x3 : Nat) (x4 : List DV) (x5 : List AV)
def out102 (v : Nat × List DV) : AV := (.d (.sl v.fst v.snd))
def st102 : S102 → ASt
  | .c0 x0 x1 x2 x3 x4 x5 x6 x7 x8 => ent cfz 102 [(.agg [(aI x0), (.d (.sl x1 x2)), (.d (.sl x3 x4)), (.d (.sl x5 x6))]), (aI x7), (aI x8)]
  | .c1 x0 x1 x2 x3 => ⟨⟨159, sp 28 0 [(0, (.ms 0 0 1 x0 x0)), (2, (aI x1)), (3, (aI x2))], [(.code (cd cfz.P 159 [1, 0, 0])), (.inLoop (cd cfz.P 159 [1, 0, 0])), (.inBlock 0)], [], false, .none⟩, [⟨102, sp 40 0 [(10, .em), (11, (.ms 0 0 1 x0 x0))], [(.regC (opsAt cfz.P 102 [1, 1, 1, 1, 1, 0]) false 1), (.code (cd cfz.P 102 [1, 1, 1, 1, 1, 1]))], [], false, .none⟩], [(.cells x3 3)]⟩
  | .c2 x0 x1 x2 x3 x4 x5 => ⟨⟨159, sp 28 0 [(0, (.ms 1 0 1 x0 x0)), (2, (aI x1)), (3, (aI x2))], [(.code (cd cfz.P 159 [1, 0, 0])), (.inLoop (cd cfz.P 159 [1, 0, 0])), (.inBlock 0)], [], false, .none⟩, [⟨102, sp 40 0 [(10, (.own 0 0 1 x3 x4)), (11, (.ms 1 0 1 x0 x0))], [(.regC (opsAt cfz.P 102 [1, 1, 1, 1, 1, 0]) false 1), (.code (cd cfz.P 102 [1, 1, 1, 1, 1, 1]))], [], false, .none⟩], [(.tail 0), (.cells x5 3)]⟩
def B102 : S102 → Tr S102 (Nat × List DV)
  | .c0 x0 x1 x2 x3 x4 x5 x6 x7 x8 => (.bind (F154 x0 x1 x2 x3 x4 x5 x6 x7) fun x9 =>
  (.bind (F154 x0 x1 x2 x3 x4 x5 x6 x8) fun xa =>
  (.sees [(.agg [(aI x0), (.d (.sl x1 x2)), (.d (.sl x3 x4)), (.d (.sl x5 x6))]), (aI x7)] (.sees [(.agg [(aI x0), (.d (.sl x1 x2)), (.d (.sl x3 x4)), (.d (.sl x5 x6))]), (aI x8)] (.bind (F155_1 x9.fst x9.snd [(.sl xa.fst xa.snd)]) fun xb =>
  (.sees [(.d (.sl x9.fst x9.snd)), (.fn (.func 156) [] [(.ip [(.sl xa.fst xa.snd)])])] (.ask (.in64 (xb + 1)) (.ask (.le 0 (xb + 1)) (.ask (.le (xb + 1) ((↑x9.fst : Int))) (.ask (.eqN x9.snd.length (x9.fst * 1)) (.bind (F144f ((xb + 1).toNat - 0) (List.take (((xb + 1).toNat - 0) * 1) (List.drop 0 x9.snd))) fun xc =>
  (.br ((ownN (AV.own 0 0 1 xc.fst xc.snd)).beq 0)
  (.sees [(.d (.sl ((xb + 1).toNat - 0) (List.take (((xb + 1).toNat - 0) * 1) (List.drop 0 x9.snd))))] (.ask (.eqN (ownN (AV.own 0 0 1 xc.fst xc.snd)) 0) (.bind (F158 xa.fst xa.snd (dI (cel x9.snd (xb.toNat * 1)))) fun xd =>
  (.br ((xd.toNat - 0).beq 0)
  (.bind (F144z (xd.toNat - 0) (List.take ((xd.toNat - 0) * 1) (List.drop 0 xa.snd))) fun xe =>
  (.ask (.le 0 xb) (.ask (.lt xb ((↑x9.fst : Int))) (.ask (.leN (xb.toNat * 1) x9.snd.length) (.ask (.prop (Option.map AV.d (List.drop (xb.toNat * 1) x9.snd)[0]? = some (AV.d (DV.v (Value.int IntKind.i64 (dI (cel x9.snd (xb.toNat * 1)))))))) (.sees [(.d (.sl xa.fst xa.snd)), (aI (dI (cel x9.snd (xb.toNat * 1))))] (.ask (.le 0 xd) (.ask (.le xd ((↑xa.fst : Int))) (.ask (.eqN xa.snd.length (xa.fst * 1)) (.sees [(.d (.sl (xd.toNat - 0) (List.take ((xd.toNat - 0) * 1) (List.drop 0 xa.snd))))] (.ret (0, []))))))))))))
  (.ask (.le 0 xb) (.ask (.lt xb ((↑x9.fst : Int))) (.ask (.leN (xb.toNat * 1) x9.snd.length) (.ask (.prop (Option.map AV.d (List.drop (xb.toNat * 1) x9.snd)[0]? = some (AV.d (DV.v (Value.int IntKind.i64 (dI (cel x9.snd (xb.toNat * 1)))))))) (.sees [(.d (.sl xa.fst xa.snd)), (aI (dI (cel x9.snd (xb.toNat * 1))))] (.ask (.le 0 xd) (.ask (.le xd ((↑xa.fst : Int))) (.ask (.eqN xa.snd.length (xa.fst * 1)) (.ask (.ltN 0 (xd.toNat - 0)) (.ask (.ltN 0 (xd.toNat - 0)) (.ask (.eqN ((List.take ((xd.toNat - 0) * 1) (List.drop 0 xa.snd)).length) ((xd.toNat - 0) * 1)) (.ask (.fits (xd.toNat - 0) 8) (.ask (.in64 ((↑(xd.toNat - 0) : Int) - 1)) (.ask (.prop (flatK (ABlk.cells (List.map AV.d (List.take ((xd.toNat - 0) * 1) (List.drop 0 xa.snd))) 3) = true)) (.ask (.prop (refK 1 (ABlk.cells (List.map AV.d (List.take ((xd.toNat - 0) * 1) (List.drop 0 xa.snd))) 3) = true)) (.nxt (.c1 (xd.toNat - 0) 0 ((↑(xd.toNat - 0) : Int) - 1) (List.map AV.d (List.take ((xd.toNat - 0) * 1) (List.drop 0 xa.snd))))))))))))))))))))))))
  (.sees [(.d (.sl ((xb + 1).toNat - 0) (List.take (((xb + 1).toNat - 0) * 1) (List.drop 0 x9.snd))))] (.ask (.ltN 0 (ownN (AV.own 0 0 1 xc.fst xc.snd))) (.bind (F158 xa.fst xa.snd (dI (cel x9.snd (xb.toNat * 1)))) fun xf =>
  (.br ((xf.toNat - 0).beq 0)
  (.bind (F144z (xf.toNat - 0) (List.take ((xf.toNat - 0) * 1) (List.drop 0 xa.snd))) fun xg =>
  (.ask (.le 0 xb) (.ask (.lt xb ((↑x9.fst : Int))) (.ask (.leN (xb.toNat * 1) x9.snd.length) (.ask (.prop (Option.map AV.d (List.drop (xb.toNat * 1) x9.snd)[0]? = some (AV.d (DV.v (Value.int IntKind.i64 (dI (cel x9.snd (xb.toNat * 1)))))))) (.sees [(.d (.sl xa.fst xa.snd)), (aI (dI (cel x9.snd (xb.toNat * 1))))] (.ask (.le 0 xf) (.ask (.le xf ((↑xa.fst : Int))) (.ask (.eqN xa.snd.length (xa.fst * 1)) (.sees [(.d (.sl (xf.toNat - 0) (List.take ((xf.toNat - 0) * 1) (List.drop 0 xa.snd))))] (.ret (xc.fst, xc.snd))))))))))))
  (.ask (.le 0 xb) (.ask (.lt xb ((↑x9.fst : Int))) (.ask (.leN (xb.toNat * 1) x9.snd.length) (.ask (.prop (Option.map AV.d (List.drop (xb.toNat * 1) x9.snd)[0]? = some (AV.d (DV.v (Value.int IntKind.i64 (dI (cel x9.snd (xb.toNat * 1)))))))) (.sees [(.d (.sl xa.fst xa.snd)), (aI (dI (cel x9.snd (xb.toNat * 1))))] (.ask (.le 0 xf) (.ask (.le xf ((↑xa.fst : Int))) (.ask (.eqN xa.snd.length (xa.fst * 1)) (.ask (.ltN 0 (xf.toNat - 0)) (.ask (.ltN 0 (xf.toNat - 0)) (.ask (.eqN ((List.take ((xf.toNat - 0) * 1) (List.drop 0 xa.snd)).length) ((xf.toNat - 0) * 1)) (.ask (.fits (xf.toNat - 0) 8) (.ask (.in64 ((↑(xf.toNat - 0) : Int) - 1)) (.ask (.prop (flatK (ABlk.cells (List.map AV.d (List.take ((xf.toNat - 0) * 1) (List.drop 0 xa.snd))) 3) = true)) (.ask (.prop (flatK (ABlk.cells (List.map AV.d (List.take ((xf.toNat - 0) * 1) (List.drop 0 xa.snd))) 3) = true)) (.ask (.prop (refK 2 (ABlk.cells (List.map AV.d (List.take ((xf.toNat - 0) * 1) (List.drop 0 xa.snd))) 3) = true)) (.nxt (.c2 (xf.toNat - 0) 0 ((↑(xf.toNat - 0) : Int) - 1) xc.fst xc.snd (List.map AV.d (List.take ((xf.toNat - 0) * 1) (List.drop 0 xa.snd)))))))))))))))))))))))))))))))))))))
  | .c1 x0 x1 x2 x3 => (.br (decide (x1 < x2))
  (.ask (.le 0 x2) (.ask (.lt x2 ((↑x0 : Int))) (.ask (.prop (x3[0 + x2.toNat * 1]? = some (AV.d (DV.v (Value.int IntKind.i64 (dI (celA x3 (0 + x2.toNat * 1)))))))) (.ask (.le 0 x1) (.ask (.lt x1 ((↑x0 : Int))) (.ask (.prop (x3[0 + x1.toNat * 1]? = some (AV.d (DV.v (Value.int IntKind.i64 (dI (celA x3 (0 + x1.toNat * 1)))))))) (.ask (.le 0 x1) (.ask (.lt x1 ((↑x0 : Int))) (.ask (.leN (0 + x1.toNat * 1 + 1) x3.length) (.triv _ (tv_p (spliceA x3 (0 + x1.toNat * 1) [AV.d (DV.v (Value.int IntKind.i64 (dI (celA x3 (0 + x2.toNat * 1)))))])) (.ask (.le 0 x2) (.ask (.lt x2 ((↑x0 : Int))) (.ask (.leN (0 + x2.toNat * 1 + 1) ((spliceA x3 (0 + x1.toNat * 1) [AV.d (DV.v (Value.int IntKind.i64 (dI (celA x3 (0 + x2.toNat * 1)))))]).length)) (.triv _ (tv_p (spliceA (spliceA x3 (0 + x1.toNat * 1) [AV.d (DV.v (Value.int IntKind.i64 (dI (celA x3 (0 + x2.toNat * 1)))))]) (0 + x2.toNat * 1) [AV.d (DV.v (Value.int IntKind.i64 (dI (celA x3 (0 + x1.toNat * 1)))))])) (.ask (.in64 (x1 + 1)) (.ask (.in64 (x2 - 1)) (.ask (.prop (refK 1 (ABlk.cells (spliceA (spliceA x3 (0 + x1.toNat * 1) [AV.d (DV.v (Value.int IntKind.i64 (dI (celA x3 (0 + x2.toNat * 1)))))]) (0 + x2.toNat * 1) [AV.d (DV.v (Value.int IntKind.i64 (dI (celA x3 (0 + x1.toNat * 1)))))]) 3) = true)) (.nxt (.c1 x0 (x1 + 1) (x2 - 1) (spliceA (spliceA x3 (0 + x1.toNat * 1) [AV.d (DV.v (Value.int IntKind.i64 (dI (celA x3 (0 + x2.toNat * 1)))))]) (0 + x2.toNat * 1) [AV.d (DV.v (Value.int IntKind.i64 (dI (celA x3 (0 + x1.toNat * 1)))))]))))))))))))))))))))
  (.ask (.leN (0 + x0 * 1) x3.length) (.ask (.prop (toDs (List.take (x0 * 1) (List.drop 0 x3)) = some (List.map aD (List.take (x0 * 1) (List.drop 0 x3))))) (.br (x0.beq 0)
  (.ask (.eqN x0 0) (.ret (0, [])))
  (.ask (.ltN 0 x0) (.ask (.eqN ((List.map aD (List.take (x0 * 1) (List.drop 0 x3))).length) (x0 * 1)) (.ask (.fits x0 8) (.ret (x0, (List.map aD (List.take (x0 * 1) (List.drop 0 x3))))))))))))
  | .c2 x0 x1 x2 x3 x4 x5 => (.br (decide (x1 < x2))
  (.ask (.le 0 x2) (.ask (.lt x2 ((↑x0 : Int))) (.ask (.prop (x5[0 + x2.toNat * 1]? = some (AV.d (DV.v (Value.int IntKind.i64 (dI (celA x5 (0 + x2.toNat * 1)))))))) (.ask (.le 0 x1) (.ask (.lt x1 ((↑x0 : Int))) (.ask (.prop (x5[0 + x1.toNat * 1]? = some (AV.d (DV.v (Value.int IntKind.i64 (dI (celA x5 (0 + x1.toNat * 1)))))))) (.ask (.le 0 x1) (.ask (.lt x1 ((↑x0 : Int))) (.ask (.leN (0 + x1.toNat * 1 + 1) x5.length) (.triv _ (tv_p (spliceA x5 (0 + x1.toNat * 1) [AV.d (DV.v (Value.int IntKind.i64 (dI (celA x5 (0 + x2.toNat * 1)))))])) (.ask (.le 0 x2) (.ask (.lt x2 ((↑x0 : Int))) (.ask (.leN (0 + x2.toNat * 1 + 1) ((spliceA x5 (0 + x1.toNat * 1) [AV.d (DV.v (Value.int IntKind.i64 (dI (celA x5 (0 + x2.toNat * 1)))))]).length)) (.triv _ (tv_p (spliceA (spliceA x5 (0 + x1.toNat * 1) [AV.d (DV.v (Value.int IntKind.i64 (dI (celA x5 (0 + x2.toNat * 1)))))]) (0 + x2.toNat * 1) [AV.d (DV.v (Value.int IntKind.i64 (dI (celA x5 (0 + x1.toNat * 1)))))])) (.ask (.in64 (x1 + 1)) (.ask (.in64 (x2 - 1)) (.ask (.prop (refK 2 (ABlk.cells (spliceA (spliceA x5 (0 + x1.toNat * 1) [AV.d (DV.v (Value.int IntKind.i64 (dI (celA x5 (0 + x2.toNat * 1)))))]) (0 + x2.toNat * 1) [AV.d (DV.v (Value.int IntKind.i64 (dI (celA x5 (0 + x1.toNat * 1)))))]) 3) = true)) (.nxt (.c2 x0 (x1 + 1) (x2 - 1) x3 x4 (spliceA (spliceA x5 (0 + x1.toNat * 1) [AV.d (DV.v (Value.int IntKind.i64 (dI (celA x5 (0 + x2.toNat * 1)))))]) (0 + x2.toNat * 1) [AV.d (DV.v (Value.int IntKind.i64 (dI (celA x5 (0 + x1.toNat * 1)))))]))))))))))))))))))))
  (.ask (.leN (0 + x0 * 1) x5.length) (.ask (.prop (toDs (List.take (x0 * 1) (List.drop 0 x5)) = some (List.map aD (List.take (x0 * 1) (List.drop 0 x5))))) (.br (x0.beq 0)
  (.ask (.eqN x0 0) (.ret (x3, x4)))
  (.ask (.ltN 0 x0) (.ask (.eqN ((List.map aD (List.take (x0 * 1) (List.drop 0 x5))).length) (x0 * 1)) (.ask (.fits (x3 + x0) 8) (.ret ((x3 + x0), (x4 ++ List.map aD (List.take (x0 * 1) (List.drop 0 x5))))))))))))
def F102 (x0 : Int) (x1 : Nat) (x2 : List DV) (x3 : Nat) (x4 : List DV) (x5 : Nat) (x6 : List DV) (x7 x8 : Int) : Option (Nat × List DV) := res B102 (.c0 x0 x1 x2 x3 x4 x5 x6 x7 x8)
def D102_0 (x0 : Int) (x1 : Nat) (x2 : List DV) (x3 : Nat) (x4 : List DV) (x5 : Nat) (x6 : List DV) (x7 x8 : Int) : DT cfz := (.go 7 [] [] (.bind (f154 x0 x1 x2 x3 x4 x5 x6 x7) fun x9 => (.bind (f154 x0 x1 x2 x3 x4 x5 x6 x8) fun xa => (.go 5 [(.ck 0), (.ck 1)] [] (.bind (f155_1 x9.fst x9.snd [(.sl xa.fst xa.snd)]) fun xb => (.go 9 [(.ck 2)] [2] (.bindF (f144f ((xb + 1).toNat - 0) (List.take (((xb + 1).toNat - 0) * 1) (List.drop 0 x9.snd))) fun xc => (.br ((ownN (AV.own 0 0 1 xc.fst xc.snd)).beq 0) (.go 5 [(.ce 3)] [] (.bind (f158 xa.fst xa.snd (dI (cel x9.snd (xb.toNat * 1)))) fun xd => (.br ((xd.toNat - 0).beq 0) (.bind (f144z (xd.toNat - 0) (List.take ((xd.toNat - 0) * 1) (List.drop 0 xa.snd))) fun xe => (.go 35 [.none, .none, (.as (aI (dI (cel x9.snd (xb.toNat * 1))))), (.ck 4), (.ck 5), .enter, (.br false)] [5, 10, 11, 12] .fin)) (.go 37 [.none, .none, (.as (aI (dI (cel x9.snd (xb.toNat * 1))))), (.ck 4), .enter, (.br false), .mg, .enter] [5, 10] (.ren 0 9 [9] [[0, 2, 3], [10, 11]] [0, 7] (.cutP 1 [0] [[0, 2, 3], [10, 11]] [])))))) (.go 5 [(.cq 3)] [] (.bind (f158 xa.fst xa.snd (dI (cel x9.snd (xb.toNat * 1)))) fun xf => (.br ((xf.toNat - 0).beq 0) (.bind (f144z (xf.toNat - 0) (List.take ((xf.toNat - 0) * 1) (List.drop 0 xa.snd))) fun xg => (.go 35 [.none, .none, (.as (aI (dI (cel x9.snd (xb.toNat * 1))))), (.ck 4), (.ck 5), .enter, (.br false)] [5, 10, 11, 12] .fin)) (.go 37 [.none, .none, (.as (aI (dI (cel x9.snd (xb.toNat * 1))))), (.ck 4), .enter, (.br false), .mg, .enter] [5, 10] (.ren 0 8 [10] [[0, 2, 3], [10, 11]] [0, 7] (.ren 1 10 [10] [[0, 2, 3], [10, 11]] [] (.cutP 2 [1] [[0, 2, 3], [10, 11]] [])))))))))))))))
theorem k102_0 (x0 : Int) (x1 : Nat) (x2 : List DV) (x3 : Nat) (x4 : List DV) (x5 : Nat) (x6 : List DV) (x7 x8 : Int) : xrun cfz 102 (D102_0 x0 x1 x2 x3 x4 x5 x6 x7 x8) [] (st102 (.c0 x0 x1 x2 x3 x4 x5 x6 x7 x8)) = (B102 (.c0 x0 x1 x2 x3 x4 x5 x6 x7 x8)).mach st102 out102 := by kernel_rfl
def D102_1 (x0 : Nat) (x1 x2 : Int) (x3 : List AV) : DT cfz := (.go 7 [] [] (.split 9 (.go 16 [(.br true), (.as (aI (dI (celA x3 (0 + x2.toNat * 1))))), (.as (aI (dI (celA x3 (0 + x1.toNat * 1))))), (.as (.agg (spliceA x3 (0 + x1.toNat * 1) [aI (dI (celA x3 (0 + x2.toNat * 1)))]))), (.as (.agg (spliceA (spliceA x3 (0 + x1.toNat * 1) [aI (dI (celA x3 (0 + x2.toNat * 1)))]) (0 + x2.toNat * 1) [aI (dI (celA x3 (0 + x1.toNat * 1)))])))] [0, 9, 14] (.cutP 1 [0] [[0, 2, 3], [10, 11]] [])) (.go 6 [(.br false)] [0] (.frz 11 (.go 3 [] [] (.br (x0.beq 0) (.go 4 [(.br false)] [] .fin) (.go 4 [(.br true)] [] .fin)))))))
theorem k102_1 (x0 : Nat) (x1 x2 : Int) (x3 : List AV) : xrun cfz 102 (D102_1 x0 x1 x2 x3) [] (st102 (.c1 x0 x1 x2 x3)) = (B102 (.c1 x0 x1 x2 x3)).mach st102 out102 := by kernel_rfl
def D102_2 (x0 : Nat) (x1 x2 : Int) (x3 : Nat) (x4 : List DV) (x5 : List AV) : DT cfz := (.go 7 [] [] (.split 9 (.go 16 [(.br true), (.as (aI (dI (celA x5 (0 + x2.toNat * 1))))), (.as (aI (dI (celA x5 (0 + x1.toNat * 1))))), (.as (.agg (spliceA x5 (0 + x1.toNat * 1) [aI (dI (celA x5 (0 + x2.toNat * 1)))]))), (.as (.agg (spliceA (spliceA x5 (0 + x1.toNat * 1) [aI (dI (celA x5 (0 + x2.toNat * 1)))]) (0 + x2.toNat * 1) [aI (dI (celA x5 (0 + x1.toNat * 1)))])))] [0, 9, 14] (.cutP 2 [1] [[0, 2, 3], [10, 11]] [])) (.go 6 [(.br false)] [0] (.frz 11 (.go 3 [] [] (.br (x0.beq 0) (.go 4 [(.br false)] [] .fin) (.go 4 [(.br true)] [0] .fin)))))))
theorem k102_2 (x0 : Nat) (x1 x2 : Int) (x3 : Nat) (x4 : List DV) (x5 : List AV) : xrun cfz 102 (D102_2 x0 x1 x2 x3 x4 x5) [] (st102 (.c2 x0 x1 x2 x3 x4 x5)) = (B102 (.c2 x0 x1 x2 x3 x4 x5)).mach st102 out102 := by kernel_rfl
theorem ok102 : ∀ s, ∃ d, xrun cfz 102 d [] (st102 s) = (B102 s).mach st102 out102
  | .c0 x0 x1 x2 x3 x4 x5 x6 x7 x8 => ⟨_, k102_0 x0 x1 x2 x3 x4 x5 x6 x7 x8⟩
  | .c1 x0 x1 x2 x3 => ⟨_, k102_1 x0 x1 x2 x3⟩
  | .c2 x0 x1 x2 x3 x4 x5 => ⟨_, k102_2 x0 x1 x2 x3 x4 x5⟩
theorem f102 (x0 : Int) (x1 : Nat) (x2 : List DV) (x3 : Nat) (x4 : List DV) (x5 : Nat) (x6 : List DV) (x7 x8 : Int) (v : Nat × List DV) (h : F102 x0 x1 x2 x3 x4 x5 x6 x7 x8 = some v) : PureCalls cfz.P cfz.glob 102 [(.agg [(aI x0), (.d (.sl x1 x2)), (.d (.sl x3 x4)), (.d (.sl x5 x6))]), (aI x7), (aI x8)] (out102 v) := tree_pure knil ok102 (s := .c0 x0 x1 x2 x3 x4 x5 x6 x7 x8) rfl (by kernel_rfl) v h
inductive S17 where
  | c0 (x0 : Int) (x1 : Nat) (x2 : List DV) (x3 : Nat) (x4 : List DV) (x5 : Nat) (x6 : List DV) (x7 x8 : Int)
def out17 (v : Nat × List DV × Int) : AV := (.tup [(.d (.sl v.fst v.snd.fst)), (.d (.v (.int .i64 v.snd.snd)))])
def st17 : S17 → ASt
  | .c0 x0 x1 x2 x3 x4 x5 x6 x7 x8 => ent cfz 17 [(.agg [(aI x0), (.d (.sl x1 x2)), (.d (.sl x3 x4)), (.d (.sl x5 x6))]), (aI x7), (aI x8)]
def B17 : S17 → Tr S17 (Nat × List DV × Int)
  | .c0 x0 x1 x2 x3 x4 x5 x6 x7 x8 => (.bind (F101 x0 x1 x2 x3 x4 x5 x6 2 [(.v (.int .i64 x7)), (.v (.int .i64 x8))]) fun x9 =>
  (.sees [(.agg [(aI x0), (.d (.sl x1 x2)), (.d (.sl x3 x4)), (.d (.sl x5 x6))]), (.d (.sl 2 [(vI x7), (vI x8)]))] (.br (x9 != 0)
  (.ret (0, [], x9))
  (.bind (F102 x0 x1 x2 x3 x4 x5 x6 x7 x8) fun xa =>
  (.sees [(.agg [(aI x0), (.d (.sl x1 x2)), (.d (.sl x3 x4)), (.d (.sl x5 x6))]), (aI x7), (aI x8)] (.ret (xa.fst, xa.snd, 0)))))))
def F17 (x0 : Int) (x1 : Nat) (x2 : List DV) (x3 : Nat) (x4 : List DV) (x5 : Nat) (x6 : List DV) (x7 x8 : Int) : Option (Nat × List DV × Int) := res B17 (.c0 x0 x1 x2 x3 x4 x5 x6 x7 x8)
def D17_0 (x0 : Int) (x1 : Nat) (x2 : List DV) (x3 : Nat) (x4 : List DV) (x5 : Nat) (x6 : List DV) (x7 x8 : Int) : DT cfz := (.go 13 [] [] (.bind (f101 x0 x1 x2 x3 x4 x5 x6 2 [(vI x7), (vI x8)]) fun x9 => (.go 8 [(.ck 0)] [] (.split 15 (.go 8 [(.br true)] [0] .fin) (.go 7 [(.br false)] [0] (.bind (f102 x0 x1 x2 x3 x4 x5 x6 x7 x8) fun xa => (.go 5 [(.ck 1)] [] .fin)))))))
theorem k17_0 (x0 : Int) (x1 : Nat) (x2 : List DV) (x3 : Nat) (x4 : List DV) (x5 : Nat) (x6 : List DV) (x7 x8 : Int) : xrun cfz 17 (D17_0 x0 x1 x2 x3 x4 x5 x6 x7 x8) [] (st17 (.c0 x0 x1 x2 x3 x4 x5 x6 x7 x8)) = (B17 (.c0 x0 x1 x2 x3 x4 x5 x6 x7 x8)).mach st17 out17 := by kernel_rfl
theorem ok17 : ∀ s, ∃ d, xrun cfz 17 d [] (st17 s) = (B17 s).mach st17 out17
  | .c0 x0 x1 x2 x3 x4 x5 x6 x7 x8 => ⟨_, k17_0 x0 x1 x2 x3 x4 x5 x6 x7 x8⟩
theorem f17 (x0 : Int) (x1 : Nat) (x2 : List DV) (x3 : Nat) (x4 : List DV) (x5 : Nat) (x6 : List DV) (x7 x8 : Int) (v : Nat × List DV × Int) (h : F17 x0 x1 x2 x3 x4 x5 x6 x7 x8 = some v) : PureCalls cfz.P cfz.glob 17 [(.agg [(aI x0), (.d (.sl x1 x2)), (.d (.sl x3 x4)), (.d (.sl x5 x6))]), (aI x7), (aI x8)] (out17 v) := tree_pure knil ok17 (s := .c0 x0 x1 x2 x3 x4 x5 x6 x7 x8) rfl (by kernel_rfl) v h
inductive S22 where
  | c0 (x0 : Int) (x1 : Nat) (x2 : List DV) (x3 : Nat) (x4 : List DV) (x5 : Nat) (x6 : List DV) (x7 x8 : Int)
  | c1 (x0 : Nat) (x1 : List DV) (x2 : Nat) (x3 : List DV) (x4 : Int)
  | c2 (x0 : Nat) (x1 : List DV) (x2 : Nat) (x3 : List DV) (x4 x5 : Nat) (x6 : List DV) (x7 : Int) (x8 : Nat)
  | c3 (x0 : Nat) (x1 : List DV) (x2 : Nat) (x3 : List DV) (x4 x5 : Nat) (x6 : List DV) (x7 x8 : Int) (x9 : Nat)
  | c4 (x0 : Nat) (x1 : List DV) (x2 x3 : Nat) (x4 : List DV) (x5 : Int) (x6 : Nat)
def out22 (v : Nat × List DV) : AV := (.d (.sl v.fst v.snd))
def st22 : S22 → ASt
  | .c0 x0 x1 x2 x3 x4 x5 x6 x7 x8 => ent cfz 22 [(.agg [(aI x0), (.d (.sl x1 x2)), (.d (.sl x3 x4)), (.d (.sl x5 x6))]), (aI x7), (aI x8)]
  | .c1 x0 x1 x2 x3 x4 => ⟨⟨22, sp 66 0 [(7, (.d (.sl x0 x1))), (8, (.d (.sl x2 x3))), (9, (.d (.v (.slice .none 0 0)))), (10, (aI x4))], [(.code (cd cfz.P 22 [1, 1, 1, 1, 0, 0, 0])), (.inLoop (cd cfz.P 22 [1, 1, 1, 1, 0, 0, 0])), (.inBlock 0), (.code (cd cfz.P 22 [1, 1, 1, 1, 1]))], [], false, .none⟩, [], []⟩
  | .c2 x0 x1 x2 x3 x4 x5 x6 x7 x8 => ⟨⟨22, sp 66 0 [(7, (.d (.sl x0 x1))), (8, (.d (.sl x2 x3))), (9, (.own 0 x4 1 x5 x6)), (10, (aI x7))], [(.code (cd cfz.P 22 [1, 1, 1, 1, 0, 0, 0])), (.inLoop (cd cfz.P 22 [1, 1, 1, 1, 0, 0, 0])), (.inBlock 0), (.code (cd cfz.P 22 [1, 1, 1, 1, 1]))], [], false, .none⟩, [], [(.tail x8)]⟩
  | .c3 x0 x1 x2 x3 x4 x5 x6 x7 x8 x9 => ⟨⟨22, sp 66 0 [(7, (.d (.sl x0 x1))), (8, (.d (.sl x2 x3))), (9, (.own 0 x4 1 x5 x6)), (10, (aI x7)), (11, (aI x8))], [(.code (cd cfz.P 22 [1, 1, 1, 1, 1, 1, 1, 0, 0, 0])), (.inLoop (cd cfz.P 22 [1, 1, 1, 1, 1, 1, 1, 0, 0, 0])), (.inBlock 2), (.code (cd cfz.P 22 [1, 1, 1, 1, 1, 1, 1, 1]))], [], false, .none⟩, [], [(.tail x9)]⟩
  | .c4 x0 x1 x2 x3 x4 x5 x6 => ⟨⟨22, sp 66 0 [(8, (.d (.sl x0 x1))), (9, (.own 0 x2 1 x3 x4)), (11, (aI x5))], [(.code (cd cfz.P 22 [1, 1, 1, 1, 1, 1, 1, 1, 0, 1, 0, 0])), (.inLoop (cd cfz.P 22 [1, 1, 1, 1, 1, 1, 1, 1, 0, 1, 0, 0])), (.inBlock 4), (.code (cd cfz.P 22 [1, 1, 1, 1, 1, 1, 1, 1, 1]))], [], false, .none⟩, [], [(.tail x6)]⟩
def B22 : S22 → Tr S22 (Nat × List DV)
  | .c0 x0 x1 x2 x3 x4 x5 x6 x7 x8 => (.bind (F105 x0 x1 x2 x3 x4 x5 x6 x7) fun x9 =>
  (.bind (F105 x0 x1 x2 x3 x4 x5 x6 x8) fun xa =>
  (.sees [(.agg [(aI x0), (.d (.sl x1 x2)), (.d (.sl x3 x4)), (.d (.sl x5 x6))]), (aI x7)] (.sees [(.agg [(aI x0), (.d (.sl x1 x2)), (.d (.sl x3 x4)), (.d (.sl x5 x6))]), (aI x8)] (.nxt (.c1 x9.fst x9.snd xa.fst xa.snd 0))))))
  | .c1 x0 x1 x2 x3 x4 => (.ask (.le 0 x4) (.ask (.lt x4 ((↑x0 : Int))) (.ask (.leN (x4.toNat * 1) x1.length) (.ask (.prop (Option.map AV.d (List.drop (x4.toNat * 1) x1)[0]? = some (AV.d (DV.v (Value.int IntKind.i64 (dI (cel x1 (x4.toNat * 1)))))))) (.bind (F66 x2 x3 (dI (cel x1 (x4.toNat * 1)))) fun x5 =>
  (.sees [(.d (.sl x2 x3)), (aI (dI (cel x1 (x4.toNat * 1))))] (.br (!x5)
  (.ask (.le 0 x4) (.ask (.lt x4 ((↑x0 : Int))) (.ask (.leN (x4.toNat * 1) x1.length) (.ask (.prop (Option.map AV.d (List.drop (x4.toNat * 1) x1)[0]? = some (AV.d (DV.v (Value.int IntKind.i64 (dI (cel x1 (x4.toNat * 1)))))))) (.ask (.in64 (x4 + 1)) (.nxt (.c2 x0 x1 x2 x3 0 1 [(.v (.int .i64 (dI (cel x1 (x4.toNat * 1)))))] (x4 + 1) 0)))))))
  (.ask (.le 0 x4) (.ask (.lt x4 ((↑x0 : Int))) (.ask (.leN (x4.toNat * 1) x1.length) (.ask (.prop (Option.map AV.d (List.drop (x4.toNat * 1) x1)[0]? = some (AV.d (DV.v (Value.int IntKind.i64 (dI (cel x1 (x4.toNat * 1)))))))) (.nxt (.c3 x0 x1 x2 x3 0 1 [(.v (.int .i64 (dI (cel x1 (x4.toNat * 1)))))] x4 0 0)))))))))))))
  | .c2 x0 x1 x2 x3 x4 x5 x6 x7 x8 => (.ask (.le 0 x7) (.ask (.lt x7 ((↑x0 : Int))) (.ask (.leN (x7.toNat * 1) x1.length) (.ask (.prop (Option.map AV.d (List.drop (x7.toNat * 1) x1)[0]? = some (AV.d (DV.v (Value.int IntKind.i64 (dI (cel x1 (x7.toNat * 1)))))))) (.bind (F66 x2 x3 (dI (cel x1 (x7.toNat * 1)))) fun x9 =>
  (.sees [(.d (.sl x2 x3)), (aI (dI (cel x1 (x7.toNat * 1))))] (.br (!x9)
  (.ask (.le 0 x7) (.ask (.lt x7 ((↑x0 : Int))) (.ask (.leN (x7.toNat * 1) x1.length) (.ask (.prop (Option.map AV.d (List.drop (x7.toNat * 1) x1)[0]? = some (AV.d (DV.v (Value.int IntKind.i64 (dI (cel x1 (x7.toNat * 1)))))))) (.ask (.eqN x4 x8) (.ask (.fits (x5 + 1) 8) (.ask (.in64 (x7 + 1)) (.nxt (.c2 x0 x1 x2 x3 (x8 + 1) (x5 + 1) (x6 ++ [DV.v (Value.int IntKind.i64 (dI (cel x1 (x7.toNat * 1))))]) (x7 + 1) (x8 + 1))))))))))
  (.ask (.le 0 x7) (.ask (.lt x7 ((↑x0 : Int))) (.ask (.leN (x7.toNat * 1) x1.length) (.ask (.prop (Option.map AV.d (List.drop (x7.toNat * 1) x1)[0]? = some (AV.d (DV.v (Value.int IntKind.i64 (dI (cel x1 (x7.toNat * 1)))))))) (.ask (.eqN x4 x8) (.ask (.fits (x5 + 1) 8) (.nxt (.c3 x0 x1 x2 x3 (x8 + 1) (x5 + 1) (x6 ++ [DV.v (Value.int IntKind.i64 (dI (cel x1 (x7.toNat * 1))))]) x7 0 (x8 + 1))))))))))))))))
  | .c3 x0 x1 x2 x3 x4 x5 x6 x7 x8 x9 => (.ask (.le 0 x8) (.ask (.lt x8 ((↑x2 : Int))) (.ask (.leN (x8.toNat * 1) x3.length) (.ask (.prop (Option.map AV.d (List.drop (x8.toNat * 1) x3)[0]? = some (AV.d (DV.v (Value.int IntKind.i64 (dI (cel x3 (x8.toNat * 1)))))))) (.ask (.le 0 x7) (.ask (.lt x7 ((↑x0 : Int))) (.ask (.leN (x7.toNat * 1) x1.length) (.ask (.prop (Option.map AV.d (List.drop (x7.toNat * 1) x1)[0]? = some (AV.d (DV.v (Value.int IntKind.i64 (dI (cel x1 (x7.toNat * 1)))))))) (.br (dI (cel x3 (x8.toNat * 1)) != dI (cel x1 (x7.toNat * 1)))
  (.ask (.in64 (x8 + 1)) (.nxt (.c3 x0 x1 x2 x3 x4 x5 x6 x7 (x8 + 1) x9)))
  (.ask (.in64 (x8 - 1)) (.nxt (.c4 x2 x3 x4 x5 x6 (x8 - 1) x9))))))))))))
  | .c4 x0 x1 x2 x3 x4 x5 x6 => (.br (decide (x5 ≥ 0))
  (.ask (.le 0 x5) (.ask (.lt x5 ((↑x0 : Int))) (.ask (.leN (x5.toNat * 1) x1.length) (.ask (.prop (Option.map AV.d (List.drop (x5.toNat * 1) x1)[0]? = some (AV.d (DV.v (Value.int IntKind.i64 (dI (cel x1 (x5.toNat * 1)))))))) (.ask (.eqN x2 x6) (.ask (.fits (x3 + 1) 8) (.ask (.in64 (x5 - 1)) (.nxt (.c4 x0 x1 (x6 + 1) (x3 + 1) (x4 ++ [DV.v (Value.int IntKind.i64 (dI (cel x1 (x5.toNat * 1))))]) (x5 - 1) (x6 + 1))))))))))
  (.ret (x3, x4)))
def F22 (x0 : Int) (x1 : Nat) (x2 : List DV) (x3 : Nat) (x4 : List DV) (x5 : Nat) (x6 : List DV) (x7 x8 : Int) : Option (Nat × List DV) := res B22 (.c0 x0 x1 x2 x3 x4 x5 x6 x7 x8)
def D22_0 (x0 : Int) (x1 : Nat) (x2 : List DV) (x3 : Nat) (x4 : List DV) (x5 : Nat) (x6 : List DV) (x7 x8 : Int) : DT cfz := (.go 7 [] [] (.bind (f105 x0 x1 x2 x3 x4 x5 x6 x7) fun x9 => (.bind (f105 x0 x1 x2 x3 x4 x5 x6 x8) fun xa => (.go 12 [(.ck 0), (.ck 1)] [] (.cut 0 [[7, 8, 9, 10]] [])))))
theorem k22_0 (x0 : Int) (x1 : Nat) (x2 : List DV) (x3 : Nat) (x4 : List DV) (x5 : Nat) (x6 : List DV) (x7 x8 : Int) : xrun cfz 22 (D22_0 x0 x1 x2 x3 x4 x5 x6 x7 x8) [] (st22 (.c0 x0 x1 x2 x3 x4 x5 x6 x7 x8)) = (B22 (.c0 x0 x1 x2 x3 x4 x5 x6 x7 x8)).mach st22 out22 := by kernel_rfl
def D22_1 (x0 : Nat) (x1 : List DV) (x2 : Nat) (x3 : List DV) (x4 : Int) : DT cfz := (.go 8 [(.as (aI (dI (cel x1 (x4.toNat * 1)))))] [] (.bind (f66 x2 x3 (dI (cel x1 (x4.toNat * 1)))) fun x5 => (.go 3 [(.ck 0)] [] (.split 24 (.go 21 [(.br true), (.as (aI (dI (cel x1 (x4.toNat * 1)))))] [0, 5, 6, 7] (.ren 0 1 [] [[7, 8, 9, 10]] [] (.cut 1 [[7, 8, 9, 10]] []))) (.go 20 [(.br false), (.as (aI (dI (cel x1 (x4.toNat * 1)))))] [0, 5, 6, 7] (.ren 0 1 [] [[7, 8, 9, 10, 11]] [] (.cut 1 [[7, 8, 9, 10, 11]] [])))))))
theorem k22_1 (x0 : Nat) (x1 : List DV) (x2 : Nat) (x3 : List DV) (x4 : Int) : xrun cfz 22 (D22_1 x0 x1 x2 x3 x4) [] (st22 (.c1 x0 x1 x2 x3 x4)) = (B22 (.c1 x0 x1 x2 x3 x4)).mach st22 out22 := by kernel_rfl
def D22_2 (x0 : Nat) (x1 : List DV) (x2 : Nat) (x3 : List DV) (x4 x5 : Nat) (x6 : List DV) (x7 : Int) (x8 : Nat) : DT cfz := (.go 8 [(.as (aI (dI (cel x1 (x7.toNat * 1)))))] [] (.bind (f66 x2 x3 (dI (cel x1 (x7.toNat * 1)))) fun x9 => (.go 3 [(.ck 0)] [] (.split 24 (.go 21 [(.br true), (.as (aI (dI (cel x1 (x7.toNat * 1)))))] [0, 6, 7] (.cut 1 [[7, 8, 9, 10]] [])) (.go 20 [(.br false), (.as (aI (dI (cel x1 (x7.toNat * 1)))))] [0, 6, 7] (.cut 1 [[7, 8, 9, 10, 11]] []))))))
theorem k22_2 (x0 : Nat) (x1 : List DV) (x2 : Nat) (x3 : List DV) (x4 x5 : Nat) (x6 : List DV) (x7 : Int) (x8 : Nat) : xrun cfz 22 (D22_2 x0 x1 x2 x3 x4 x5 x6 x7 x8) [] (st22 (.c2 x0 x1 x2 x3 x4 x5 x6 x7 x8)) = (B22 (.c2 x0 x1 x2 x3 x4 x5 x6 x7 x8)).mach st22 out22 := by kernel_rfl
def D22_3 (x0 : Nat) (x1 : List DV) (x2 : Nat) (x3 : List DV) (x4 x5 : Nat) (x6 : List DV) (x7 x8 : Int) (x9 : Nat) : DT cfz := (.go 4 [(.as (aI (dI (cel x3 (x8.toNat * 1))))), (.as (aI (dI (cel x1 (x7.toNat * 1)))))] [] (.split 49 (.go 10 [(.br true)] [0] (.cut 1 [[7, 8, 9, 10, 11]] [])) (.go 11 [(.br false)] [0] (.cut 1 [[8, 9, 11]] []))))
theorem k22_3 (x0 : Nat) (x1 : List DV) (x2 : Nat) (x3 : List DV) (x4 x5 : Nat) (x6 : List DV) (x7 x8 : Int) (x9 : Nat) : xrun cfz 22 (D22_3 x0 x1 x2 x3 x4 x5 x6 x7 x8 x9) [] (st22 (.c3 x0 x1 x2 x3 x4 x5 x6 x7 x8 x9)) = (B22 (.c3 x0 x1 x2 x3 x4 x5 x6 x7 x8 x9)).mach st22 out22 := by kernel_rfl
def D22_4 (x0 : Nat) (x1 : List DV) (x2 x3 : Nat) (x4 : List DV) (x5 : Int) (x6 : Nat) : DT cfz := (.go 6 [] [] (.split 55 (.go 21 [(.br true), (.as (aI (dI (cel x1 (x5.toNat * 1)))))] [0, 6, 7] (.cut 1 [[8, 9, 11]] [])) (.go 8 [(.br false)] [0] .fin)))
theorem k22_4 (x0 : Nat) (x1 : List DV) (x2 x3 : Nat) (x4 : List DV) (x5 : Int) (x6 : Nat) : xrun cfz 22 (D22_4 x0 x1 x2 x3 x4 x5 x6) [] (st22 (.c4 x0 x1 x2 x3 x4 x5 x6)) = (B22 (.c4 x0 x1 x2 x3 x4 x5 x6)).mach st22 out22 := by kernel_rfl
theorem ok22 : ∀ s, ∃ d, xrun cfz 22 d [] (st22 s) = (B22 s).mach st22 out22
  | .c0 x0 x1 x2 x3 x4 x5 x6 x7 x8 => ⟨_, k22_0 x0 x1 x2 x3 x4 x5 x6 x7 x8⟩
  | .c1 x0 x1 x2 x3 x4 => ⟨_, k22_1 x0 x1 x2 x3 x4⟩
  | .c2 x0 x1 x2 x3 x4 x5 x6 x7 x8 => ⟨_, k22_2 x0 x1 x2 x3 x4 x5 x6 x7 x8⟩
  | .c3 x0 x1 x2 x3 x4 x5 x6 x7 x8 x9 => ⟨_, k22_3 x0 x1 x2 x3 x4 x5 x6 x7 x8 x9⟩
  | .c4 x0 x1 x2 x3 x4 x5 x6 => ⟨_, k22_4 x0 x1 x2 x3 x4 x5 x6⟩
theorem f22 (x0 : Int) (x1 : Nat) (x2 : List DV) (x3 : Nat) (x4 : List DV) (x5 : Nat) (x6 : List DV) (x7 x8 : Int) (v : Nat × List DV) (h : F22 x0 x1 x2 x3 x4 x5 x6 x7 x8 = some v) : PureCalls cfz.P cfz.glob 22 [(.agg [(aI x0), (.d (.sl x1 x2)), (.d (.sl x3 x4)), (.d (.sl x5 x6))]), (aI x7), (aI x8)] (out22 v) := tree_pure knil ok22 (s := .c0 x0 x1 x2 x3 x4 x5 x6 x7 x8) rfl (by kernel_rfl) v h
inductive S3 where
  | c0 (x0 : Int) (x1 : Nat) (x2 : List DV) (x3 : Nat) (x4 : List DV) (x5 : Nat) (x6 : List DV) (x7 x8 x9 : Int)
def out3 (v : Bool) : AV := (.d (.v (.bool v)))
def st3 : S3 → ASt
  | .c0 x0 x1 x2 x3 x4 x5 x6 x7 x8 x9 => ent cfz 3 [(.agg [(aI x0), (.d (.sl x1 x2)), (.d (.sl x3 x4)), (.d (.sl x5 x6))]), (.agg [(aI x7), (aI x8), (aI x9)])]
def B3 : S3 → Tr S3 (Bool)
  | .c0 x0 x1 x2 x3 x4 x5 x6 x7 x8 x9 => (.bind (F15) fun xa =>
  (.sees [] (.bind (F16 x0 x1 x2 x3 x4 x5 x6) fun xb =>
  (.sees [(.agg [(aI x0), (.d (.sl x1 x2)), (.d (.sl x3 x4)), (.d (.sl x5 x6))])] (.triv _ (tv_s ((!xa) == false)) (.triv _ (tv_s ((!xa) == false)) (.triv _ (tv_f (!xa)) (.br (if (!xa) = true then true else !xb)
  (.sees [] (.ret xa))
  (.bind (F18 x0 x1 x2 x3 x4 x5 x6) fun xc =>
  (.bind (F17 xc.fst xc.snd.fst xc.snd.snd.fst xc.snd.snd.snd.fst xc.snd.snd.snd.snd.fst xc.snd.snd.snd.snd.snd.fst xc.snd.snd.snd.snd.snd.snd x7 x8) fun xd =>
  (.sees [(.agg [(aI x0), (.d (.sl x1 x2)), (.d (.sl x3 x4)), (.d (.sl x5 x6))])] (.sees [(.agg [(aI xc.fst), (.d (.sl xc.snd.fst xc.snd.snd.fst)), (.d (.sl xc.snd.snd.snd.fst xc.snd.snd.snd.snd.fst)), (.d (.sl xc.snd.snd.snd.snd.snd.fst xc.snd.snd.snd.snd.snd.snd))]), (aI x7), (aI x8)] (.bind (F19 x0 x1 x2 x3 x4 x5 x6) fun xe =>
  (.sees [(.agg [(aI x0), (.d (.sl x1 x2)), (.d (.sl x3 x4)), (.d (.sl x5 x6))])] (.br (xe == 0)
  (.bind (F21 x0 x1 x2 x3 x4 x5 x6 x7) fun xf =>
  (.bind (F21 x0 x1 x2 x3 x4 x5 x6 x8) fun xg =>
  (.bind (F20 2 [(.v (.int .i64 xf)), (.v (.int .i64 xg))]) fun xh =>
  (.sees [(.agg [(aI x0), (.d (.sl x1 x2)), (.d (.sl x3 x4)), (.d (.sl x5 x6))]), (aI x7)] (.sees [(.agg [(aI x0), (.d (.sl x1 x2)), (.d (.sl x3 x4)), (.d (.sl x5 x6))]), (aI x8)] (.sees [(.d (.sl 2 [(vI xf), (vI xg)]))] (.br (xh == 0)
  (.bind (F22 x0 x1 x2 x3 x4 x5 x6 x7 x8) fun xi =>
  (.sees [(.agg [(aI x0), (.d (.sl x1 x2)), (.d (.sl x3 x4)), (.d (.sl x5 x6))]), (aI x7), (aI x8)] (.sees [(.agg [(aI x0), (.d (.sl x1 x2)), (.d (.sl x3 x4)), (.d (.sl x5 x6))])] (.bind (F23 xc.fst xc.snd.fst xc.snd.snd.fst xc.snd.snd.snd.fst xc.snd.snd.snd.snd.fst xc.snd.snd.snd.snd.snd.fst xc.snd.snd.snd.snd.snd.snd) fun xj =>
  (.sees [(.agg [(aI xc.fst), (.d (.sl xc.snd.fst xc.snd.snd.fst)), (.d (.sl xc.snd.snd.snd.fst xc.snd.snd.snd.snd.fst)), (.d (.sl xc.snd.snd.snd.snd.snd.fst xc.snd.snd.snd.snd.snd.snd))])] (.bind (F24 xd.fst xd.snd.fst xd.snd.snd xh xi.fst xi.snd) fun xk =>
  (.sees [(.d (.sl xd.fst xd.snd.fst)), (aI xd.snd.snd), (aI xh), (.d (.sl xi.fst xi.snd))] (.triv _ (tv_s ((xj == xe) == true)) (.triv _ (tv_s ((xj == xe) == true)) (.triv _ (tv_s ((xj == xe) == true)) (.triv _ (tv_s ((xj == xe) == true)) (.triv _ (tv_t (xj == xe)) (.ret (if (xj == xe) = true then xk else false))))))))))))))
  (.sees [(.agg [(aI x0), (.d (.sl x1 x2)), (.d (.sl x3 x4)), (.d (.sl x5 x6))])] (.bind (F23 xc.fst xc.snd.fst xc.snd.snd.fst xc.snd.snd.snd.fst xc.snd.snd.snd.snd.fst xc.snd.snd.snd.snd.snd.fst xc.snd.snd.snd.snd.snd.snd) fun xl =>
  (.sees [(.agg [(aI xc.fst), (.d (.sl xc.snd.fst xc.snd.snd.fst)), (.d (.sl xc.snd.snd.snd.fst xc.snd.snd.snd.snd.fst)), (.d (.sl xc.snd.snd.snd.snd.snd.fst xc.snd.snd.snd.snd.snd.snd))])] (.bind (F24 xd.fst xd.snd.fst xd.snd.snd xh 0 []) fun xm =>
  (.sees [(.d (.sl xd.fst xd.snd.fst)), (aI xd.snd.snd), (aI xh), (.d (.sl 0 []))] (.triv _ (tv_s ((xl == xe) == true)) (.triv _ (tv_s ((xl == xe) == true)) (.triv _ (tv_s ((xl == xe) == true)) (.triv _ (tv_s ((xl == xe) == true)) (.triv _ (tv_t (xl == xe)) (.ret (if (xl == xe) = true then xm else false)))))))))))))))))))
  (.ask (.eqB (xe == 0) false) (.sees [(.agg [(aI x0), (.d (.sl x1 x2)), (.d (.sl x3 x4)), (.d (.sl x5 x6))])] (.bind (F23 xc.fst xc.snd.fst xc.snd.snd.fst xc.snd.snd.snd.fst xc.snd.snd.snd.snd.fst xc.snd.snd.snd.snd.snd.fst xc.snd.snd.snd.snd.snd.snd) fun xn =>
  (.sees [(.agg [(aI xc.fst), (.d (.sl xc.snd.fst xc.snd.snd.fst)), (.d (.sl xc.snd.snd.snd.fst xc.snd.snd.snd.snd.fst)), (.d (.sl xc.snd.snd.snd.snd.snd.fst xc.snd.snd.snd.snd.snd.snd))])] (.bind (F24 xd.fst xd.snd.fst xd.snd.snd xe 0 []) fun xo =>
  (.sees [(.d (.sl xd.fst xd.snd.fst)), (aI xd.snd.snd), (aI xe), (.d (.sl 0 []))] (.triv _ (tv_s ((xn == xe) == true)) (.triv _ (tv_s ((xn == xe) == true)) (.triv _ (tv_s ((xn == xe) == true)) (.triv _ (tv_s ((xn == xe) == true)) (.triv _ (tv_t (xn == xe)) (.ret (if (xn == xe) = true then xo else false))))))))))))))))))))))))))))
def F3 (x0 : Int) (x1 : Nat) (x2 : List DV) (x3 : Nat) (x4 : List DV) (x5 : Nat) (x6 : List DV) (x7 x8 x9 : Int) : Option (Bool) := res B3 (.c0 x0 x1 x2 x3 x4 x5 x6 x7 x8 x9)
def D3_0 (x0 : Int) (x1 : Nat) (x2 : List DV) (x3 : Nat) (x4 : List DV) (x5 : Nat) (x6 : List DV) (x7 x8 x9 : Int) : DT cfz := (.go 9 [] [] (.bind (f15) fun xa => (.go 4 [(.ck 0), (.sp .none)] [] (.bind (f16 x0 x1 x2 x3 x4 x5 x6) fun xb => (.go 4 [(.sp (.some 1)), (.sp .none), .mg] [] (.split 16 (.go 7 [(.br true), (.ck 0)] [0] .fin) (.go 4 [(.br false)] [0] (.bind (f18 x0 x1 x2 x3 x4 x5 x6) fun xc => (.bind (f17 xc.fst xc.snd.fst xc.snd.snd.fst xc.snd.snd.snd.fst xc.snd.snd.snd.snd.fst xc.snd.snd.snd.snd.snd.fst xc.snd.snd.snd.snd.snd.snd x7 x8) fun xd => (.go 4 [(.ck 2), (.ck 3)] [1, 2, 3, 4] (.bind (f19 x0 x1 x2 x3 x4 x5 x6) fun xe => (.go 14 [(.ck 4)] [] (.split 32 (.go 2 [(.br true)] [0] (.bind (f21 x0 x1 x2 x3 x4 x5 x6 x7) fun xf => (.bind (f21 x0 x1 x2 x3 x4 x5 x6 x8) fun xg => (.bind (f20 2 [(vI xf), (vI xg)]) fun xh => (.go 11 [(.ck 5), (.ck 6), (.ck 7)] [0, 1, 3, 4] (.split 44 (.go 7 [(.br true)] [0, 1, 2, 3, 4] (.bind (f22 x0 x1 x2 x3 x4 x5 x6 x7 x8) fun xi => (.go 7 [(.ck 8), (.ck 2)] [] (.bind (f23 xc.fst xc.snd.fst xc.snd.snd.fst xc.snd.snd.snd.fst xc.snd.snd.snd.snd.fst xc.snd.snd.snd.snd.snd.fst xc.snd.snd.snd.snd.snd.snd) fun xj => (.go 8 [(.ck 9), (.sp .none), (.sp .none), (.sp .none), (.sp .none)] [] (.bind (f24 xd.fst xd.snd.fst xd.snd.snd xh xi.fst xi.snd) fun xk => (.go 5 [(.sp (.some 10)), .mg] [] .fin))))))) (.go 6 [(.br false), (.ck 2)] [0] (.bind (f23 xc.fst xc.snd.fst xc.snd.snd.fst xc.snd.snd.snd.fst xc.snd.snd.snd.snd.fst xc.snd.snd.snd.snd.snd.fst xc.snd.snd.snd.snd.snd.snd) fun xl => (.go 8 [(.ck 8), (.sp .none), (.sp .none), (.sp .none), (.sp .none)] [] (.bind (f24 xd.fst xd.snd.fst xd.snd.snd xh 0 []) fun xm => (.go 5 [(.sp (.some 9)), .mg] [] .fin))))))))))) (.go 12 [(.br false)] [0] (.assume 44 false (.go 6 [(.br false), (.ck 2)] [0] (.bind (f23 xc.fst xc.snd.fst xc.snd.snd.fst xc.snd.snd.snd.fst xc.snd.snd.snd.snd.fst xc.snd.snd.snd.snd.snd.fst xc.snd.snd.snd.snd.snd.snd) fun xn => (.go 8 [(.ck 5), (.sp .none), (.sp .none), (.sp .none), (.sp .none)] [] (.bind (f24 xd.fst xd.snd.fst xd.snd.snd xe 0 []) fun xo => (.go 5 [(.sp (.some 6)), .mg] [] .fin))))))))))))))))))))
theorem k3_0 (x0 : Int) (x1 : Nat) (x2 : List DV) (x3 : Nat) (x4 : List DV) (x5 : Nat) (x6 : List DV) (x7 x8 x9 : Int) : xrun cfz 3 (D3_0 x0 x1 x2 x3 x4 x5 x6 x7 x8 x9) [] (st3 (.c0 x0 x1 x2 x3 x4 x5 x6 x7 x8 x9)) = (B3 (.c0 x0 x1 x2 x3 x4 x5 x6 x7 x8 x9)).mach st3 out3 := by kernel_rfl
theorem ok3 : ∀ s, ∃ d, xrun cfz 3 d [] (st3 s) = (B3 s).mach st3 out3
  | .c0 x0 x1 x2 x3 x4 x5 x6 x7 x8 x9 => ⟨_, k3_0 x0 x1 x2 x3 x4 x5 x6 x7 x8 x9⟩
theorem f3 (x0 : Int) (x1 : Nat) (x2 : List DV) (x3 : Nat) (x4 : List DV) (x5 : Nat) (x6 : List DV) (x7 x8 x9 : Int) (v : Bool) (h : F3 x0 x1 x2 x3 x4 x5 x6 x7 x8 x9 = some v) : PureCalls cfz.P cfz.glob 3 [(.agg [(aI x0), (.d (.sl x1 x2)), (.d (.sl x3 x4)), (.d (.sl x5 x6))]), (.agg [(aI x7), (aI x8), (aI x9)])] (out3 v) := tree_pure knil ok3 (s := .c0 x0 x1 x2 x3 x4 x5 x6 x7 x8 x9) rfl (by kernel_rfl) v h
end
end Go.Kv
