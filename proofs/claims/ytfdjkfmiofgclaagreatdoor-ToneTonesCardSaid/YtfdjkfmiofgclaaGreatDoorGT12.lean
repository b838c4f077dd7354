import Derived.Test.YtfdjkfmiofgclaaGreatDoorGT7b
namespace Go.Kv
set_option linter.unusedVariables false
set_option linter.unusedSimpArgs false
set_option linter.unnecessarySimpa false
open Go Go.RowKit Go.Proofs
set_option maxRecDepth 100000
inductive S72 where
  | c0 (x0 : Nat) (x1 : List DV) (x2 : Nat) (x3 : List DV) (x4 x5 : Int) (x6 : Nat) (x7 : List DV)
  | c1 (x0 : Int) (x1 : Nat) (x2 : List DV) (x3 : Nat) (x4 : List DV) (x5 x6 : Int) (x7 : Nat) (x8 : List DV)
def out72 (v : Bool) : AV := (.d (.v (.bool v)))
noncomputable def st72 : S72 → ASt
  | .c0 x0 x1 x2 x3 x4 x5 x6 x7 => ent cfz 72 [(.agg [(.d (.sl x0 x1)), (.d (.sl x2 x3)), (aI x4), (aI x5), (.d (.sl x6 x7))])]
  | .c1 x0 x1 x2 x3 x4 x5 x6 x7 x8 => ⟨⟨72, sp 34 0 [(1, (.ptr 0 0)), (3, (aI x0))], [(.code (cd cfz.P 72 [1, 0, 1, 0, 0])), (.inLoop (cd cfz.P 72 [1, 0, 1, 0, 0])), (.inBlock 0), (.code (cd cfz.P 72 [1, 1]))], [], false, .none⟩, [], [(.cells [(.d (.sl x1 x2)), (.d (.sl x3 x4)), (aI x5), (aI x6), (.d (.sl x7 x8))] 130)]⟩
noncomputable def B72 : S72 → Tr S72 (Bool)
  | .c0 x0 x1 x2 x3 x4 x5 x6 x7 => (.nxt (.c1 0 x0 x1 x2 x3 x4 x5 x6 x7))
  | .c1 x0 x1 x2 x3 x4 x5 x6 x7 x8 => (.br (decide (x0 < (↑x3 : Int)))
  (.ask (.le 0 x0) (.ask (.lt x0 ((↑x3 : Int))) (.ask (.leN (x0.toNat * 1) x4.length) (.ask (.prop (Option.map AV.d (List.drop (x0.toNat * 1) x4)[0]? = some (AV.d (DV.sl (dN (cel x4 (x0.toNat * 1))) (dL (cel x4 (x0.toNat * 1))))))) (.br (decide ((↑(dN (cel x4 (x0.toNat * 1))) : Int) > 9))
  (.ret false)
  (.ask (.in64 (x0 + 1)) (.nxt (.c1 (x0 + 1) x1 x2 x3 x4 x5 x6 x7 x8))))))))
  (.br (decide ((↑x1 : Int) ≤ 9))
  (.br (decide ((↑x3 : Int) ≤ 9))
  (.ret (decide ((↑x7 : Int) ≤ 9)))
  (.ret false))
  (.ret false)))
noncomputable def F72 (x0 : Nat) (x1 : List DV) (x2 : Nat) (x3 : List DV) (x4 x5 : Int) (x6 : Nat) (x7 : List DV) : Option (Bool) := res B72 (.c0 x0 x1 x2 x3 x4 x5 x6 x7)
noncomputable def D72_0 (x0 : Nat) (x1 : List DV) (x2 : Nat) (x3 : List DV) (x4 x5 : Int) (x6 : Nat) (x7 : List DV) : DT cfz := (.go 12 [] [] (.cut 1 [[1, 3]] []))
theorem k72_0 (x0 : Nat) (x1 : List DV) (x2 : Nat) (x3 : List DV) (x4 x5 : Int) (x6 : Nat) (x7 : List DV) : xrun cfz 72 (D72_0 x0 x1 x2 x3 x4 x5 x6 x7) [] (st72 (.c0 x0 x1 x2 x3 x4 x5 x6 x7)) = (B72 (.c0 x0 x1 x2 x3 x4 x5 x6 x7)).mach st72 out72 := by kernel_rfl
noncomputable def D72_1 (x0 : Int) (x1 : Nat) (x2 : List DV) (x3 : Nat) (x4 : List DV) (x5 x6 : Int) (x7 : Nat) (x8 : List DV) : DT cfz := (.go 9 [] [] (.split 8 (.go 14 [(.br true), .none, (.as (.d (.sl (dN (cel x4 (x0.toNat * 1))) (dL (cel x4 (x0.toNat * 1))))))] [0] (.split 17 (.go 6 [(.br true)] [0] .fin) (.go 9 [(.br false)] [0] (.cut 1 [[1, 3]] [])))) (.go 9 [(.br false)] [0] (.split 22 (.go 6 [(.br true), (.br true), .none, (.br true), (.br true)] [0, 1, 2, 3] (.split 28 (.go 8 [(.br true), (.br true), .none, (.br true), (.br true)] [0, 1, 2, 3] .fin) (.go 8 [(.br false), (.br false), (.br false), (.br false)] [0, 1, 2, 3] .fin))) (.go 14 [(.br false), (.br false), (.br false), (.br false), .none, (.br false), (.br false), (.br false), (.br false)] [0, 1, 2, 3, 4, 5, 6, 7] .fin)))))
theorem k72_1 (x0 : Int) (x1 : Nat) (x2 : List DV) (x3 : Nat) (x4 : List DV) (x5 x6 : Int) (x7 : Nat) (x8 : List DV) : xrun cfz 72 (D72_1 x0 x1 x2 x3 x4 x5 x6 x7 x8) [] (st72 (.c1 x0 x1 x2 x3 x4 x5 x6 x7 x8)) = (B72 (.c1 x0 x1 x2 x3 x4 x5 x6 x7 x8)).mach st72 out72 := by kernel_rfl
theorem ok72 : ∀ s, ∃ d, xrun cfz 72 d [] (st72 s) = (B72 s).mach st72 out72
  | .c0 x0 x1 x2 x3 x4 x5 x6 x7 => ⟨_, k72_0 x0 x1 x2 x3 x4 x5 x6 x7⟩
  | .c1 x0 x1 x2 x3 x4 x5 x6 x7 x8 => ⟨_, k72_1 x0 x1 x2 x3 x4 x5 x6 x7 x8⟩
theorem f72 (x0 : Nat) (x1 : List DV) (x2 : Nat) (x3 : List DV) (x4 x5 : Int) (x6 : Nat) (x7 : List DV) (v : Bool) (h : F72 x0 x1 x2 x3 x4 x5 x6 x7 = some v) : PureCalls cfz.P cfz.glob 72 [(.agg [(.d (.sl x0 x1)), (.d (.sl x2 x3)), (aI x4), (aI x5), (.d (.sl x6 x7))])] (out72 v) := tree_pure knil ok72 (s := .c0 x0 x1 x2 x3 x4 x5 x6 x7) rfl (by kernel_rfl) v h
inductive S35 where
  | c0 (x0 : Nat) (x1 : List DV)
  | c1 (x0 : Nat) (x1 : List DV) (x2 x3 : Int)
  | c2 (x0 x1 : Nat) (x2 : List DV) (x3 : Nat) (x4 : List DV) (x5 x6 : Int) (x7 : Nat)
def out35 (v : Nat × List DV) : AV := (.d (.sl v.fst v.snd))
noncomputable def st35 : S35 → ASt
  | .c0 x0 x1 => ent cfz 35 [(.d (.sl x0 x1))]
  | .c1 x0 x1 x2 x3 => ⟨⟨35, sp 19 0 [(3, (.d (.v (.slice .none 0 0)))), (6, (.d (.sl x0 x1))), (7, (aI x2)), (8, (aI x3))], [(.code (cd cfz.P 35 [1, 1, 0, 1, 0, 0])), (.inLoop (cd cfz.P 35 [1, 1, 0, 1, 0, 0])), (.inBlock 0), (.code (cd cfz.P 35 [1, 1, 1]))], [], false, .none⟩, [], []⟩
  | .c2 x0 x1 x2 x3 x4 x5 x6 x7 => ⟨⟨35, sp 19 0 [(3, (.own 1 x0 1 x1 x2)), (6, (.d (.sl x3 x4))), (7, (aI x5)), (8, (aI x6))], [(.code (cd cfz.P 35 [1, 1, 0, 1, 0, 0])), (.inLoop (cd cfz.P 35 [1, 1, 0, 1, 0, 0])), (.inBlock 0), (.code (cd cfz.P 35 [1, 1, 1]))], [], false, .none⟩, [], [(.tail 0), (.tail x7)]⟩
noncomputable def B35 : S35 → Tr S35 (Nat × List DV)
  | .c0 x0 x1 => (.nxt (.c1 x0 x1 ((↑x0 : Int)) 0))
  | .c1 x0 x1 x2 x3 => (.br (decide (x3 < x2))
  (.ask (.le 0 x3) (.ask (.lt x3 ((↑x0 : Int))) (.ask (.leN (x3.toNat * 1) x1.length) (.ask (.prop (Option.map AV.d (List.drop (x3.toNat * 1) x1)[0]? = some (AV.d (DV.sl (dN (cel x1 (x3.toNat * 1))) (dL (cel x1 (x3.toNat * 1))))))) (.bind (F33 (dN (cel x1 (x3.toNat * 1))) (dL (cel x1 (x3.toNat * 1)))) fun x4 =>
  (.sees [(.d (.sl (dN (cel x1 (x3.toNat * 1))) (dL (cel x1 (x3.toNat * 1)))))] (.ask (.in64 (x3 + 1)) (.nxt (.c2 0 1 [(.sl x4.fst x4.snd)] x0 x1 x2 (x3 + 1) 0)))))))))
  (.ret (0, [])))
  | .c2 x0 x1 x2 x3 x4 x5 x6 x7 => (.br (decide (x6 < x5))
  (.ask (.le 0 x6) (.ask (.lt x6 ((↑x3 : Int))) (.ask (.leN (x6.toNat * 1) x4.length) (.ask (.prop (Option.map AV.d (List.drop (x6.toNat * 1) x4)[0]? = some (AV.d (DV.sl (dN (cel x4 (x6.toNat * 1))) (dL (cel x4 (x6.toNat * 1))))))) (.bind (F33 (dN (cel x4 (x6.toNat * 1))) (dL (cel x4 (x6.toNat * 1)))) fun x8 =>
  (.sees [(.d (.sl (dN (cel x4 (x6.toNat * 1))) (dL (cel x4 (x6.toNat * 1)))))] (.ask (.eqN x0 x7) (.ask (.fits (x1 + 1) 24) (.ask (.in64 (x6 + 1)) (.nxt (.c2 (x7 + 1) (x1 + 1) (x2 ++ [DV.sl x8.fst x8.snd]) x3 x4 x5 (x6 + 1) (x7 + 1))))))))))))
  (.ret (x1, x2)))
noncomputable def F35 (x0 : Nat) (x1 : List DV) : Option (Nat × List DV) := res B35 (.c0 x0 x1)
noncomputable def D35_0 (x0 : Nat) (x1 : List DV) : DT cfz := (.go 17 [] [] (.cut 0 [[3, 6, 7, 8]] []))
theorem k35_0 (x0 : Nat) (x1 : List DV) : xrun cfz 35 (D35_0 x0 x1) [] (st35 (.c0 x0 x1)) = (B35 (.c0 x0 x1)).mach st35 out35 := by kernel_rfl
noncomputable def D35_1 (x0 : Nat) (x1 : List DV) (x2 x3 : Int) : DT cfz := (.go 5 [] [] (.split 9 (.go 13 [(.br true), (.as (.d (.sl (dN (cel x1 (x3.toNat * 1))) (dL (cel x1 (x3.toNat * 1))))))] [0] (.bind (f33 (dN (cel x1 (x3.toNat * 1))) (dL (cel x1 (x3.toNat * 1)))) fun x4 => (.go 11 [(.ck 0)] [1, 2, 3] (.cut 2 [[3, 6, 7, 8]] [])))) (.go 8 [(.br false)] [0] .fin)))
theorem k35_1 (x0 : Nat) (x1 : List DV) (x2 x3 : Int) : xrun cfz 35 (D35_1 x0 x1 x2 x3) [] (st35 (.c1 x0 x1 x2 x3)) = (B35 (.c1 x0 x1 x2 x3)).mach st35 out35 := by kernel_rfl
noncomputable def D35_2 (x0 x1 : Nat) (x2 : List DV) (x3 : Nat) (x4 : List DV) (x5 x6 : Int) (x7 : Nat) : DT cfz := (.go 5 [] [] (.split 9 (.go 13 [(.br true), (.as (.d (.sl (dN (cel x4 (x6.toNat * 1))) (dL (cel x4 (x6.toNat * 1))))))] [0] (.bind (f33 (dN (cel x4 (x6.toNat * 1))) (dL (cel x4 (x6.toNat * 1)))) fun x8 => (.go 11 [(.ck 0)] [2, 3] (.cut 2 [[3, 6, 7, 8]] [])))) (.go 8 [(.br false)] [0] .fin)))
theorem k35_2 (x0 x1 : Nat) (x2 : List DV) (x3 : Nat) (x4 : List DV) (x5 x6 : Int) (x7 : Nat) : xrun cfz 35 (D35_2 x0 x1 x2 x3 x4 x5 x6 x7) [] (st35 (.c2 x0 x1 x2 x3 x4 x5 x6 x7)) = (B35 (.c2 x0 x1 x2 x3 x4 x5 x6 x7)).mach st35 out35 := by kernel_rfl
theorem ok35 : ∀ s, ∃ d, xrun cfz 35 d [] (st35 s) = (B35 s).mach st35 out35
  | .c0 x0 x1 => ⟨_, k35_0 x0 x1⟩
  | .c1 x0 x1 x2 x3 => ⟨_, k35_1 x0 x1 x2 x3⟩
  | .c2 x0 x1 x2 x3 x4 x5 x6 x7 => ⟨_, k35_2 x0 x1 x2 x3 x4 x5 x6 x7⟩
theorem f35 (x0 : Nat) (x1 : List DV) (v : Nat × List DV) (h : F35 x0 x1 = some v) : PureCalls cfz.P cfz.glob 35 [(.d (.sl x0 x1))] (out35 v) := tree_pure knil ok35 (s := .c0 x0 x1) rfl (by kernel_rfl) v h
inductive S74 where
  | c0 (x0 : Nat) (x1 : List DV) (x2 : Nat) (x3 : List DV) (x4 x5 : Int) (x6 : Nat) (x7 : List DV)
def out74 (v : Nat × List DV × Nat × List DV × Int × Int × Nat × List DV) : AV := (.agg [(.d (.sl v.fst v.snd.fst)), (.d (.sl v.snd.snd.fst v.snd.snd.snd.fst)), (.d (.v (.int .i64 v.snd.snd.snd.snd.fst))), (.d (.v (.int .i64 v.snd.snd.snd.snd.snd.fst))), (.d (.sl v.snd.snd.snd.snd.snd.snd.fst v.snd.snd.snd.snd.snd.snd.snd))])
noncomputable def st74 : S74 → ASt
  | .c0 x0 x1 x2 x3 x4 x5 x6 x7 => ent cfz 74 [(.agg [(.d (.sl x0 x1)), (.d (.sl x2 x3)), (aI x4), (aI x5), (.d (.sl x6 x7))])]
noncomputable def B74 : S74 → Tr S74 (Nat × List DV × Nat × List DV × Int × Int × Nat × List DV)
  | .c0 x0 x1 x2 x3 x4 x5 x6 x7 => (.bind (F33 x0 x1) fun x8 =>
  (.bind (F35 x2 x3) fun x9 =>
  (.bind (F33 x6 x7) fun xa =>
  (.sees [(.d (.sl x0 x1))] (.sees [(.d (.sl x2 x3))] (.sees [(.d (.sl x6 x7))] (.ret (x8.fst, x8.snd, x9.fst, x9.snd, x4, x5, xa.fst, xa.snd))))))))
noncomputable def F74 (x0 : Nat) (x1 : List DV) (x2 : Nat) (x3 : List DV) (x4 x5 : Int) (x6 : Nat) (x7 : List DV) : Option (Nat × List DV × Nat × List DV × Int × Int × Nat × List DV) := res B74 (.c0 x0 x1 x2 x3 x4 x5 x6 x7)
noncomputable def D74_0 (x0 : Nat) (x1 : List DV) (x2 : Nat) (x3 : List DV) (x4 x5 : Int) (x6 : Nat) (x7 : List DV) : DT cfz := (.go 7 [] [] (.bind (f33 x0 x1) fun x8 => (.bind (f35 x2 x3) fun x9 => (.bind (f33 x6 x7) fun xa => (.go 2 [(.ck 0), (.ck 1), (.ck 2)] [] .fin)))))
theorem k74_0 (x0 : Nat) (x1 : List DV) (x2 : Nat) (x3 : List DV) (x4 x5 : Int) (x6 : Nat) (x7 : List DV) : xrun cfz 74 (D74_0 x0 x1 x2 x3 x4 x5 x6 x7) [] (st74 (.c0 x0 x1 x2 x3 x4 x5 x6 x7)) = (B74 (.c0 x0 x1 x2 x3 x4 x5 x6 x7)).mach st74 out74 := by kernel_rfl
theorem ok74 : ∀ s, ∃ d, xrun cfz 74 d [] (st74 s) = (B74 s).mach st74 out74
  | .c0 x0 x1 x2 x3 x4 x5 x6 x7 => ⟨_, k74_0 x0 x1 x2 x3 x4 x5 x6 x7⟩
theorem f74 (x0 : Nat) (x1 : List DV) (x2 : Nat) (x3 : List DV) (x4 x5 : Int) (x6 : Nat) (x7 : List DV) (v : Nat × List DV × Nat × List DV × Int × Int × Nat × List DV) (h : F74 x0 x1 x2 x3 x4 x5 x6 x7 = some v) : PureCalls cfz.P cfz.glob 74 [(.agg [(.d (.sl x0 x1)), (.d (.sl x2 x3)), (aI x4), (aI x5), (.d (.sl x6 x7))])] (out74 v) := tree_pure knil ok74 (s := .c0 x0 x1 x2 x3 x4 x5 x6 x7) rfl (by kernel_rfl) v h
inductive S82 where
  | c0 (x0 : Nat) (x1 : List DV) (x2 : Nat) (x3 : List DV) (x4 x5 : Int) (x6 : Nat) (x7 : List DV)
  | c1 (x0 : Nat) (x1 : List DV) (x2 x3 : Int) (x4 : Nat) (x5 : List DV) (x6 x7 : Int) (x8 : Nat) (x9 : List DV)
  | c2 (x0 : Int) (x1 : Nat) (x2 : List DV) (x3 x4 : Int) (x5 : Nat) (x6 : List DV) (x7 : Nat) (x8 : List DV) (x9 xa : Int)
def out82 (v : Int) : AV := (.d (.v (.int .i64 v)))
noncomputable def st82 : S82 → ASt
  | .c0 x0 x1 x2 x3 x4 x5 x6 x7 => ent cfz 82 [(.agg [(.d (.sl x0 x1)), (.d (.sl x2 x3)), (aI x4), (aI x5), (.d (.sl x6 x7))])]
  | .c1 x0 x1 x2 x3 x4 x5 x6 x7 x8 x9 => ⟨⟨82, sp 101 0 [(1, (.ptr 0 0)), (41, (.d (.sl x0 x1))), (42, (aI x2)), (43, (aI x3))], [(.code (cd cfz.P 82 [1, 1, 0, 1, 0, 0])), (.inLoop (cd cfz.P 82 [1, 1, 0, 1, 0, 0])), (.inBlock 0), (.code (cd cfz.P 82 [1, 1, 1]))], [], false, .none⟩, [], [(.cells [(.d (.sl x4 x5)), (.d (.sl x0 x1)), (aI x6), (aI x7), (.d (.sl x8 x9))] 134)]⟩
  | .c2 x0 x1 x2 x3 x4 x5 x6 x7 x8 x9 xa => ⟨⟨82, sp 101 0 [(1, (.ptr 0 0)), (8, (aI x0)), (74, (.d (.sl x1 x2))), (75, (aI x3)), (76, (aI x4))], [(.code (cd cfz.P 82 [1, 1, 1, 1, 1, 0, 1, 0, 0])), (.inLoop (cd cfz.P 82 [1, 1, 1, 1, 1, 0, 1, 0, 0])), (.inBlock 2), (.code (cd cfz.P 82 [1, 1, 1, 1, 1, 1]))], [], false, .none⟩, [], [(.cells [(.d (.sl x5 x6)), (.d (.sl x7 x8)), (aI x9), (aI xa), (.d (.sl x1 x2))] 134)]⟩
noncomputable def B82 : S82 → Tr S82 (Int)
  | .c0 x0 x1 x2 x3 x4 x5 x6 x7 => (.bind (F109 ((↑x0 : Int) == 0) 12) fun x8 =>
  (.bind (F109 (decide ((↑x0 : Int) > 8)) 5) fun x9 =>
  (.bind (F126 x0 x1 0 1000000000) fun xa =>
  (.bind (F109 ((↑x2 : Int) == 0) 12) fun xb =>
  (.bind (F109 (decide ((↑x2 : Int) > 8)) 5) fun xc =>
  (.bind (F107 5 [(.v (.int .i64 x8)), (.v (.int .i64 x9)), (.v (.int .i64 xa)), (.v (.int .i64 xb)), (.v (.int .i64 xc))]) fun xd =>
  (.sees [(.d (.v (.bool ((↑x0 : Int) == 0)))), (aI 12)] (.sees [(.d (.v (.bool (decide ((↑x0 : Int) > 8))))), (aI 5)] (.sees [(.d (.sl x0 x1)), (aI 0), (aI 1000000000)] (.sees [(.d (.v (.bool ((↑x2 : Int) == 0)))), (aI 12)] (.sees [(.d (.v (.bool (decide ((↑x2 : Int) > 8))))), (aI 5)] (.sees [(.d (.sl 5 [(vI x8), (vI x9), (vI xa), (vI xb), (vI xc)]))] (.br (xd != 0)
  (.ret xd)
  (.nxt (.c1 x2 x3 ((↑x2 : Int)) 0 x0 x1 x4 x5 x6 x7)))))))))))))))
  | .c1 x0 x1 x2 x3 x4 x5 x6 x7 x8 x9 => (.br (decide (x3 < x2))
  (.ask (.le 0 x3) (.ask (.lt x3 ((↑x0 : Int))) (.ask (.leN (x3.toNat * 1) x1.length) (.ask (.prop (Option.map AV.d (List.drop (x3.toNat * 1) x1)[0]? = some (AV.d (DV.sl (dN (cel x1 (x3.toNat * 1))) (dL (cel x1 (x3.toNat * 1))))))) (.bind (F109 ((↑(dN (cel x1 (x3.toNat * 1))) : Int) != (↑x4 : Int)) 2) fun xa =>
  (.sees [(.d (.v (.bool ((↑(dN (cel x1 (x3.toNat * 1))) : Int) != (↑x4 : Int))))), (aI 2)] (.bind (F126 (dN (cel x1 (x3.toNat * 1))) (dL (cel x1 (x3.toNat * 1))) 1 1000000) fun xb =>
  (.sees [(.d (.sl (dN (cel x1 (x3.toNat * 1))) (dL (cel x1 (x3.toNat * 1))))), (aI 1), (aI 1000000)] (.bind (F107 2 [(.v (.int .i64 xa)), (.v (.int .i64 xb))]) fun xc =>
  (.sees [(.d (.sl 2 [(vI xa), (vI xb)]))] (.br (xc != 0)
  (.ret xc)
  (.ask (.in64 (x3 + 1)) (.nxt (.c1 x0 x1 x2 (x3 + 1) x4 x5 x6 x7 x8 x9))))))))))))))
  (.bind (F106 x6 1 100) fun xd =>
  (.bind (F106 x7 1 1000000) fun xe =>
  (.bind (F107 2 [(.v (.int .i64 xd)), (.v (.int .i64 xe))]) fun xf =>
  (.sees [(aI x6), (aI 1), (aI 100)] (.sees [(aI x7), (aI 1), (aI 1000000)] (.sees [(.d (.sl 2 [(vI xd), (vI xe)]))] (.br (xf != 0)
  (.ret xf)
  (.nxt (.c2 (-1) x8 x9 ((↑x8 : Int)) 0 x4 x5 x0 x1 x6 x7))))))))))
  | .c2 x0 x1 x2 x3 x4 x5 x6 x7 x8 x9 xa => (.br (decide (x4 < x3))
  (.ask (.le 0 x4) (.ask (.lt x4 ((↑x1 : Int))) (.ask (.leN (x4.toNat * 1) x2.length) (.ask (.prop (Option.map AV.d (List.drop (x4.toNat * 1) x2)[0]? = some (AV.d (DV.v (Value.int IntKind.i64 (dI (cel x2 (x4.toNat * 1)))))))) (.br (decide (dI (cel x2 (x4.toNat * 1)) < 0))
  (.bind (F109 true 10) fun xb =>
  (.sees [(.d (.v (.bool true))), (aI 10)] (.bind (F109 (decide (dI (cel x2 (x4.toNat * 1)) ≤ x0)) 11) fun xc =>
  (.sees [(.d (.v (.bool (decide (dI (cel x2 (x4.toNat * 1)) ≤ x0))))), (aI 11)] (.bind (F107 2 [(.v (.int .i64 xb)), (.v (.int .i64 xc))]) fun xd =>
  (.sees [(.d (.sl 2 [(vI xb), (vI xc)]))] (.br (xd != 0)
  (.ret xd)
  (.ask (.in64 (x4 + 1)) (.nxt (.c2 (dI (cel x2 (x4.toNat * 1))) x1 x2 x3 (x4 + 1) x5 x6 x7 x8 x9 xa))))))))))
  (.ask (.eqB (decide (dI (cel x2 (x4.toNat * 1)) < 0) == false) true) (.bind (F109 (decide (dI (cel x2 (x4.toNat * 1)) ≥ (↑x5 : Int))) 10) fun xe =>
  (.sees [(.d (.v (.bool (decide (dI (cel x2 (x4.toNat * 1)) ≥ (↑x5 : Int)))))), (aI 10)] (.bind (F109 (decide (dI (cel x2 (x4.toNat * 1)) ≤ x0)) 11) fun xf =>
  (.sees [(.d (.v (.bool (decide (dI (cel x2 (x4.toNat * 1)) ≤ x0))))), (aI 11)] (.bind (F107 2 [(.v (.int .i64 xe)), (.v (.int .i64 xf))]) fun xg =>
  (.sees [(.d (.sl 2 [(vI xe), (vI xf)]))] (.br (xg != 0)
  (.ret xg)
  (.ask (.in64 (x4 + 1)) (.nxt (.c2 (dI (cel x2 (x4.toNat * 1))) x1 x2 x3 (x4 + 1) x5 x6 x7 x8 x9 xa))))))))))))))))
  (.ret 0))
noncomputable def F82 (x0 : Nat) (x1 : List DV) (x2 : Nat) (x3 : List DV) (x4 x5 : Int) (x6 : Nat) (x7 : List DV) : Option (Int) := res B82 (.c0 x0 x1 x2 x3 x4 x5 x6 x7)
noncomputable def D82_0 (x0 : Nat) (x1 : List DV) (x2 : Nat) (x3 : List DV) (x4 x5 : Int) (x6 : Nat) (x7 : List DV) : DT cfz := (.go 8 [] [] (.bind (f109 ((↑x0 : Int) == 0) 12) fun x8 => (.bind (f109 (decide ((↑x0 : Int) > 8)) 5) fun x9 => (.bind (f126 x0 x1 0 1000000000) fun xa => (.bind (f109 ((↑x2 : Int) == 0) 12) fun xb => (.bind (f109 (decide ((↑x2 : Int) > 8)) 5) fun xc => (.bind (f107 5 [(vI x8), (vI x9), (vI xa), (vI xb), (vI xc)]) fun xd => (.go 6 [(.ck 0), (.ck 1), (.ck 2), (.ck 3), (.ck 4), (.ck 5)] [] (.split 38 (.go 7 [(.br true)] [0] .fin) (.go 12 [(.br false)] [0] (.cut 1 [[1, 41, 42, 43]] [])))))))))))
theorem k82_0 (x0 : Nat) (x1 : List DV) (x2 : Nat) (x3 : List DV) (x4 x5 : Int) (x6 : Nat) (x7 : List DV) : xrun cfz 82 (D82_0 x0 x1 x2 x3 x4 x5 x6 x7) [] (st82 (.c0 x0 x1 x2 x3 x4 x5 x6 x7)) = (B82 (.c0 x0 x1 x2 x3 x4 x5 x6 x7)).mach st82 out82 := by kernel_rfl
noncomputable def D82_1 (x0 : Nat) (x1 : List DV) (x2 x3 : Int) (x4 : Nat) (x5 : List DV) (x6 x7 : Int) (x8 : Nat) (x9 : List DV) : DT cfz := (.go 5 [] [] (.split 44 (.go 18 [(.br true), (.as (.d (.sl (dN (cel x1 (x3.toNat * 1))) (dL (cel x1 (x3.toNat * 1))))))] [0] (.bind (f109 ((↑(dN (cel x1 (x3.toNat * 1))) : Int) != (↑x4 : Int)) 2) fun xa => (.go 2 [(.ck 0)] [] (.bind (f126 (dN (cel x1 (x3.toNat * 1))) (dL (cel x1 (x3.toNat * 1))) 1 1000000) fun xb => (.go 2 [(.ck 1)] [] (.bind (f107 2 [(vI xa), (vI xb)]) fun xc => (.go 8 [(.ck 2)] [] (.split 59 (.go 7 [(.br true)] [0] .fin) (.go 8 [(.br false)] [0] (.cut 1 [[1, 41, 42, 43]] [])))))))))) (.go 5 [(.br false)] [0] (.bind (f106 x6 1 100) fun xd => (.bind (f106 x7 1 1000000) fun xe => (.bind (f107 2 [(vI xd), (vI xe)]) fun xf => (.go 6 [(.ck 0), (.ck 1), (.ck 2)] [] (.split 71 (.go 7 [(.br true)] [0] .fin) (.go 16 [(.br false)] [0] (.cut 1 [[1, 8, 74, 75, 76]] []))))))))))
theorem k82_1 (x0 : Nat) (x1 : List DV) (x2 x3 : Int) (x4 : Nat) (x5 : List DV) (x6 x7 : Int) (x8 : Nat) (x9 : List DV) : xrun cfz 82 (D82_1 x0 x1 x2 x3 x4 x5 x6 x7 x8 x9) [] (st82 (.c1 x0 x1 x2 x3 x4 x5 x6 x7 x8 x9)) = (B82 (.c1 x0 x1 x2 x3 x4 x5 x6 x7 x8 x9)).mach st82 out82 := by kernel_rfl
noncomputable def D82_2 (x0 : Int) (x1 : Nat) (x2 : List DV) (x3 x4 : Int) (x5 : Nat) (x6 : List DV) (x7 : Nat) (x8 : List DV) (x9 xa : Int) : DT cfz := (.go 5 [] [] (.split 77 (.go 17 [(.br true), (.as (aI (dI (cel x2 (x4.toNat * 1))))), (.sp .none)] [0] (.split 82 (.go 5 [(.br true), (.br true), (.br true), (.br true)] [0, 1, 2, 3] (.bind (f109 true 10) fun xb => (.go 4 [(.ck 0)] [] (.bind (f109 (decide (dI (cel x2 (x4.toNat * 1)) ≤ x0)) 11) fun xc => (.go 2 [(.ck 1)] [] (.bind (f107 2 [(vI xb), (vI xc)]) fun xd => (.go 8 [(.ck 2)] [] (.split 97 (.go 7 [(.br true)] [0] .fin) (.go 12 [(.br false)] [0] (.cut 1 [[1, 8, 74, 75, 76]] [])))))))))) (.go 3 [(.br false), (.br false), .none, (.br false)] [0, 1, 2] (.strip 83 (.go 2 [(.br false)] [0] (.bind (f109 (decide (dI (cel x2 (x4.toNat * 1)) ≥ (↑x5 : Int))) 10) fun xe => (.go 4 [(.ck 0)] [] (.bind (f109 (decide (dI (cel x2 (x4.toNat * 1)) ≤ x0)) 11) fun xf => (.go 2 [(.ck 1)] [] (.bind (f107 2 [(vI xe), (vI xf)]) fun xg => (.go 8 [(.ck 2)] [] (.split 97 (.go 7 [(.br true)] [0] .fin) (.go 12 [(.br false)] [0] (.cut 1 [[1, 8, 74, 75, 76]] [])))))))))))))) (.go 7 [(.br false)] [0] .fin)))
theorem k82_2 (x0 : Int) (x1 : Nat) (x2 : List DV) (x3 x4 : Int) (x5 : Nat) (x6 : List DV) (x7 : Nat) (x8 : List DV) (x9 xa : Int) : xrun cfz 82 (D82_2 x0 x1 x2 x3 x4 x5 x6 x7 x8 x9 xa) [] (st82 (.c2 x0 x1 x2 x3 x4 x5 x6 x7 x8 x9 xa)) = (B82 (.c2 x0 x1 x2 x3 x4 x5 x6 x7 x8 x9 xa)).mach st82 out82 := by kernel_rfl
theorem ok82 : ∀ s, ∃ d, xrun cfz 82 d [] (st82 s) = (B82 s).mach st82 out82
  | .c0 x0 x1 x2 x3 x4 x5 x6 x7 => ⟨_, k82_0 x0 x1 x2 x3 x4 x5 x6 x7⟩
  | .c1 x0 x1 x2 x3 x4 x5 x6 x7 x8 x9 => ⟨_, k82_1 x0 x1 x2 x3 x4 x5 x6 x7 x8 x9⟩
  | .c2 x0 x1 x2 x3 x4 x5 x6 x7 x8 x9 xa => ⟨_, k82_2 x0 x1 x2 x3 x4 x5 x6 x7 x8 x9 xa⟩
theorem f82 (x0 : Nat) (x1 : List DV) (x2 : Nat) (x3 : List DV) (x4 x5 : Int) (x6 : Nat) (x7 : List DV) (v : Int) (h : F82 x0 x1 x2 x3 x4 x5 x6 x7 = some v) : PureCalls cfz.P cfz.glob 82 [(.agg [(.d (.sl x0 x1)), (.d (.sl x2 x3)), (aI x4), (aI x5), (.d (.sl x6 x7))])] (out82 v) := tree_pure knil ok82 (s := .c0 x0 x1 x2 x3 x4 x5 x6 x7) rfl (by kernel_rfl) v h
inductive S138 where
  | c0 (x0 : Nat) (x1 : List DV) (x2 : Nat) (x3 : List DV) (x4 x5 : Int) (x6 : Nat) (x7 : List DV) (x8 : Int)
def out138 (v : Int) : AV := (.d (.v (.int .i64 v)))
noncomputable def st138 : S138 → ASt
  | .c0 x0 x1 x2 x3 x4 x5 x6 x7 x8 => ent cfz 138 [(.agg [(.d (.sl x0 x1)), (.d (.sl x2 x3)), (aI x4), (aI x5), (.d (.sl x6 x7))]), (aI x8)]
noncomputable def B138 : S138 → Tr S138 (Int)
  | .c0 x0 x1 x2 x3 x4 x5 x6 x7 x8 => (.bind (F82 x0 x1 x2 x3 x4 x5 x6 x7) fun x9 =>
  (.sees [(.agg [(.d (.sl x0 x1)), (.d (.sl x2 x3)), (aI x4), (aI x5), (.d (.sl x6 x7))])] (.br (decide (x8 < 0))
  (.bind (F109 true 10) fun xa =>
  (.sees [(.d (.v (.bool true))), (aI 10)] (.bind (F107 2 [(.v (.int .i64 x9)), (.v (.int .i64 xa))]) fun xb =>
  (.sees [(.d (.sl 2 [(vI x9), (vI xa)]))] (.ret xb)))))
  (.ask (.eqB (decide (x8 < 0) == false) true) (.bind (F109 (decide (x8 ≥ (↑x2 : Int))) 10) fun xc =>
  (.sees [(.d (.v (.bool (decide (x8 ≥ (↑x2 : Int)))))), (aI 10)] (.bind (F107 2 [(.v (.int .i64 x9)), (.v (.int .i64 xc))]) fun xd =>
  (.sees [(.d (.sl 2 [(vI x9), (vI xc)]))] (.ret xd)))))))))
noncomputable def F138 (x0 : Nat) (x1 : List DV) (x2 : Nat) (x3 : List DV) (x4 x5 : Int) (x6 : Nat) (x7 : List DV) (x8 : Int) : Option (Int) := res B138 (.c0 x0 x1 x2 x3 x4 x5 x6 x7 x8)
noncomputable def D138_0 (x0 : Nat) (x1 : List DV) (x2 : Nat) (x3 : List DV) (x4 x5 : Int) (x6 : Nat) (x7 : List DV) (x8 : Int) : DT cfz := (.go 8 [] [] (.bind (f82 x0 x1 x2 x3 x4 x5 x6 x7) fun x9 => (.go 5 [(.ck 0), (.sp .none)] [] (.split 9 (.go 5 [(.br true), (.br true), (.br true), (.br true)] [0, 1, 2, 3] (.bind (f109 true 10) fun xa => (.go 2 [(.ck 1)] [] (.bind (f107 2 [(vI x9), (vI xa)]) fun xb => (.go 4 [(.ck 2)] [] .fin))))) (.go 3 [(.br false), (.br false), .none, (.br false)] [0, 1, 2] (.strip 10 (.go 2 [(.br false)] [0] (.bind (f109 (decide (x8 ≥ (↑x2 : Int))) 10) fun xc => (.go 2 [(.ck 1)] [] (.bind (f107 2 [(vI x9), (vI xc)]) fun xd => (.go 4 [(.ck 2)] [] .fin)))))))))))
theorem k138_0 (x0 : Nat) (x1 : List DV) (x2 : Nat) (x3 : List DV) (x4 x5 : Int) (x6 : Nat) (x7 : List DV) (x8 : Int) : xrun cfz 138 (D138_0 x0 x1 x2 x3 x4 x5 x6 x7 x8) [] (st138 (.c0 x0 x1 x2 x3 x4 x5 x6 x7 x8)) = (B138 (.c0 x0 x1 x2 x3 x4 x5 x6 x7 x8)).mach st138 out138 := by kernel_rfl
theorem ok138 : ∀ s, ∃ d, xrun cfz 138 d [] (st138 s) = (B138 s).mach st138 out138
  | .c0 x0 x1 x2 x3 x4 x5 x6 x7 x8 => ⟨_, k138_0 x0 x1 x2 x3 x4 x5 x6 x7 x8⟩
theorem f138 (x0 : Nat) (x1 : List DV) (x2 : Nat) (x3 : List DV) (x4 x5 : Int) (x6 : Nat) (x7 : List DV) (x8 v : Int) (h : F138 x0 x1 x2 x3 x4 x5 x6 x7 x8 = some v) : PureCalls cfz.P cfz.glob 138 [(.agg [(.d (.sl x0 x1)), (.d (.sl x2 x3)), (aI x4), (aI x5), (.d (.sl x6 x7))]), (aI x8)] (out138 v) := tree_pure knil ok138 (s := .c0 x0 x1 x2 x3 x4 x5 x6 x7 x8) rfl (by kernel_rfl) v h
inductive S139 where
  | c0 (x0 : Nat) (x1 : List DV) (x2 : Nat) (x3 : List DV) (x4 x5 : Int) (x6 : Nat) (x7 : List DV) (x8 x9 xa : Int)
def out139 (v : Int × Bool) : AV := (.tup [(.d (.v (.int .i64 v.fst))), (.d (.v (.bool v.snd)))])
noncomputable def st139 : S139 → ASt
  | .c0 x0 x1 x2 x3 x4 x5 x6 x7 x8 x9 xa => ent cfz 139 [(.agg [(.d (.sl x0 x1)), (.d (.sl x2 x3)), (aI x4), (aI x5), (.d (.sl x6 x7))]), (aI x8), (aI x9), (aI xa)]
noncomputable def B139 : S139 → Tr S139 (Int × Bool)
  | .c0 x0 x1 x2 x3 x4 x5 x6 x7 x8 x9 xa => (.ask (.nlt xa 0) (.ask (.in64 (IntKind.i64.wrap (1 * 2 ^ min xa.toNat 64) - 1)) (.ask (.in64 (x4 * (IntKind.i64.wrap (1 * 2 ^ min xa.toNat 64) - 1))) (.ask (.le 0 x8) (.ask (.lt x8 ((↑x2 : Int))) (.ask (.leN (x8.toNat * 1) x3.length) (.ask (.prop (Option.map AV.d (List.drop (x8.toNat * 1) x3)[0]? = some (AV.d (DV.sl (dN (cel x3 (x8.toNat * 1))) (dL (cel x3 (x8.toNat * 1))))))) (.ask (.le 0 x9) (.ask (.lt x9 ((↑(dN (cel x3 (x8.toNat * 1))) : Int))) (.ask (.leN (x9.toNat * 1) ((dL (cel x3 (x8.toNat * 1))).length)) (.ask (.prop (Option.map AV.d (List.drop (x9.toNat * 1) (dL (cel x3 (x8.toNat * 1))))[0]? = some (AV.d (DV.v (Value.int IntKind.i64 (dI (cel (dL (cel x3 (x8.toNat * 1))) (x9.toNat * 1)))))))) (.ask (.in64 (x4 * (IntKind.i64.wrap (1 * 2 ^ min xa.toNat 64) - 1) * dI (cel (dL (cel x3 (x8.toNat * 1))) (x9.toNat * 1)))) (.br (x4 * (IntKind.i64.wrap (1 * 2 ^ min xa.toNat 64) - 1) * dI (cel (dL (cel x3 (x8.toNat * 1))) (x9.toNat * 1)) == 0)
  (.ret (0, true))
  (.ask (.le 0 x9) (.ask (.lt x9 ((↑x0 : Int))) (.ask (.leN (x9.toNat * 1) x1.length) (.ask (.prop (Option.map AV.d (List.drop (x9.toNat * 1) x1)[0]? = some (AV.d (DV.v (Value.int IntKind.i64 (dI (cel x1 (x9.toNat * 1)))))))) (.br (dI (cel x1 (x9.toNat * 1)) == 0)
  (.ret (0, false))
  (.ask (.in64 (x4 * (IntKind.i64.wrap (1 * 2 ^ min xa.toNat 64) - 1) * dI (cel (dL (cel x3 (x8.toNat * 1))) (x9.toNat * 1)) + dI (cel x1 (x9.toNat * 1)))) (.ask (.in64 (x4 * (IntKind.i64.wrap (1 * 2 ^ min xa.toNat 64) - 1) * dI (cel (dL (cel x3 (x8.toNat * 1))) (x9.toNat * 1)) + dI (cel x1 (x9.toNat * 1)) - 1)) (.ask (.neI (dI (cel x1 (x9.toNat * 1))) 0) (.ask (.in64 ((x4 * (IntKind.i64.wrap (1 * 2 ^ min xa.toNat 64) - 1) * dI (cel (dL (cel x3 (x8.toNat * 1))) (x9.toNat * 1)) + dI (cel x1 (x9.toNat * 1)) - 1).tdiv (dI (cel x1 (x9.toNat * 1))))) (.ret (((x4 * (IntKind.i64.wrap (1 * 2 ^ min xa.toNat 64) - 1) * dI (cel (dL (cel x3 (x8.toNat * 1))) (x9.toNat * 1)) + dI (cel x1 (x9.toNat * 1)) - 1).tdiv (dI (cel x1 (x9.toNat * 1)))), true))))))))))))))))))))))))
noncomputable def F139 (x0 : Nat) (x1 : List DV) (x2 : Nat) (x3 : List DV) (x4 x5 : Int) (x6 : Nat) (x7 : List DV) (x8 x9 xa : Int) : Option (Int × Bool) := res B139 (.c0 x0 x1 x2 x3 x4 x5 x6 x7 x8 x9 xa)
noncomputable def D139_0 (x0 : Nat) (x1 : List DV) (x2 : Nat) (x3 : List DV) (x4 x5 : Int) (x6 : Nat) (x7 : List DV) (x8 x9 xa : Int) : DT cfz := (.go 15 [.none, .none, (.as (.d (.sl (dN (cel x3 (x8.toNat * 1))) (dL (cel x3 (x8.toNat * 1)))))), (.as (aI (dI (cel (dL (cel x3 (x8.toNat * 1))) (x9.toNat * 1)))))] [] (.split 28 (.go 7 [(.br true)] [0] .fin) (.go 17 [(.br false), .none, (.as (aI (dI (cel x1 (x9.toNat * 1)))))] [0] (.split 35 (.go 7 [(.br true)] [0] .fin) (.go 14 [(.br false)] [0] .fin)))))
theorem k139_0 (x0 : Nat) (x1 : List DV) (x2 : Nat) (x3 : List DV) (x4 x5 : Int) (x6 : Nat) (x7 : List DV) (x8 x9 xa : Int) : xrun cfz 139 (D139_0 x0 x1 x2 x3 x4 x5 x6 x7 x8 x9 xa) [] (st139 (.c0 x0 x1 x2 x3 x4 x5 x6 x7 x8 x9 xa)) = (B139 (.c0 x0 x1 x2 x3 x4 x5 x6 x7 x8 x9 xa)).mach st139 out139 := by kernel_rfl
theorem ok139 : ∀ s, ∃ d, xrun cfz 139 d [] (st139 s) = (B139 s).mach st139 out139
  | .c0 x0 x1 x2 x3 x4 x5 x6 x7 x8 x9 xa => ⟨_, k139_0 x0 x1 x2 x3 x4 x5 x6 x7 x8 x9 xa⟩
theorem f139 (x0 : Nat) (x1 : List DV) (x2 : Nat) (x3 : List DV) (x4 x5 : Int) (x6 : Nat) (x7 : List DV) (x8 x9 xa : Int) (v : Int × Bool) (h : F139 x0 x1 x2 x3 x4 x5 x6 x7 x8 x9 xa = some v) : PureCalls cfz.P cfz.glob 139 [(.agg [(.d (.sl x0 x1)), (.d (.sl x2 x3)), (aI x4), (aI x5), (.d (.sl x6 x7))]), (aI x8), (aI x9), (aI xa)] (out139 v) := tree_pure knil ok139 (s := .c0 x0 x1 x2 x3 x4 x5 x6 x7 x8 x9 xa) rfl (by kernel_rfl) v h
inductive S73 where
  | c0 (x0 : Nat) (x1 : List DV) (x2 : Nat) (x3 : List DV) (x4 x5 : Int) (x6 : Nat) (x7 : List DV) (x8 x9 xa : Int)
def out73 (v : Int × Int) : AV := (.tup [(.d (.v (.int .i64 v.fst))), (.d (.v (.int .i64 v.snd)))])
noncomputable def st73 : S73 → ASt
  | .c0 x0 x1 x2 x3 x4 x5 x6 x7 x8 x9 xa => ent cfz 73 [(.agg [(.d (.sl x0 x1)), (.d (.sl x2 x3)), (aI x4), (aI x5), (.d (.sl x6 x7))]), (aI x8), (aI x9), (aI xa)]
noncomputable def B73 : S73 → Tr S73 (Int × Int)
  | .c0 x0 x1 x2 x3 x4 x5 x6 x7 x8 x9 xa => (.bind (F138 x0 x1 x2 x3 x4 x5 x6 x7 x8) fun xb =>
  (.sees [(.agg [(.d (.sl x0 x1)), (.d (.sl x2 x3)), (aI x4), (aI x5), (.d (.sl x6 x7))]), (aI x8)] (.br (decide (x9 < 0))
  (.bind (F109 true 10) fun xc =>
  (.sees [(.d (.v (.bool true))), (aI 10)] (.bind (F106 xa 0 6) fun xd =>
  (.sees [(aI xa), (aI 0), (aI 6)] (.bind (F107 3 [(.v (.int .i64 xb)), (.v (.int .i64 xc)), (.v (.int .i64 xd))]) fun xe =>
  (.sees [(.d (.sl 3 [(vI xb), (vI xc), (vI xd)]))] (.br (xe != 0)
  (.ret (0, xe))
  (.bind (F139 x0 x1 x2 x3 x4 x5 x6 x7 x8 x9 xa) fun xf =>
  (.sees [(.agg [(.d (.sl x0 x1)), (.d (.sl x2 x3)), (aI x4), (aI x5), (.d (.sl x6 x7))]), (aI x8), (aI x9), (aI xa)] (.bind (F109 (!xf.snd) 7) fun xg =>
  (.sees [(.d (.v (.bool (!xf.snd)))), (aI 7)] (.ret (xf.fst, xg)))))))))))))
  (.ask (.eqB (decide (x9 < 0) == false) true) (.bind (F109 (decide (x9 ≥ (↑x0 : Int))) 10) fun xh =>
  (.sees [(.d (.v (.bool (decide (x9 ≥ (↑x0 : Int)))))), (aI 10)] (.bind (F106 xa 0 6) fun xi =>
  (.sees [(aI xa), (aI 0), (aI 6)] (.bind (F107 3 [(.v (.int .i64 xb)), (.v (.int .i64 xh)), (.v (.int .i64 xi))]) fun xj =>
  (.sees [(.d (.sl 3 [(vI xb), (vI xh), (vI xi)]))] (.br (xj != 0)
  (.ret (0, xj))
  (.bind (F139 x0 x1 x2 x3 x4 x5 x6 x7 x8 x9 xa) fun xk =>
  (.sees [(.agg [(.d (.sl x0 x1)), (.d (.sl x2 x3)), (aI x4), (aI x5), (.d (.sl x6 x7))]), (aI x8), (aI x9), (aI xa)] (.bind (F109 (!xk.snd) 7) fun xl =>
  (.sees [(.d (.v (.bool (!xk.snd)))), (aI 7)] (.ret (xk.fst, xl)))))))))))))))))
noncomputable def F73 (x0 : Nat) (x1 : List DV) (x2 : Nat) (x3 : List DV) (x4 x5 : Int) (x6 : Nat) (x7 : List DV) (x8 x9 xa : Int) : Option (Int × Int) := res B73 (.c0 x0 x1 x2 x3 x4 x5 x6 x7 x8 x9 xa)
noncomputable def D73_0 (x0 : Nat) (x1 : List DV) (x2 : Nat) (x3 : List DV) (x4 x5 : Int) (x6 : Nat) (x7 : List DV) (x8 x9 xa : Int) : DT cfz := (.go 11 [] [] (.bind (f138 x0 x1 x2 x3 x4 x5 x6 x7 x8) fun xb => (.go 5 [(.ck 0), (.sp .none)] [] (.split 18 (.go 5 [(.br true), (.br true), (.br true), (.br true)] [0, 1, 2, 3] (.bind (f109 true 10) fun xc => (.go 2 [(.ck 1)] [] (.bind (f106 xa 0 6) fun xd => (.go 2 [(.ck 2)] [] (.bind (f107 3 [(vI xb), (vI xc), (vI xd)]) fun xe => (.go 8 [(.ck 3)] [] (.split 31 (.go 8 [(.br true)] [0] .fin) (.go 8 [(.br false)] [0] (.bind (f139 x0 x1 x2 x3 x4 x5 x6 x7 x8 x9 xa) fun xf => (.go 12 [(.ck 4)] [] (.bind (f109 (!xf.snd) 7) fun xg => (.go 5 [(.ck 5)] [] .fin))))))))))))) (.go 3 [(.br false), (.br false), .none, (.br false)] [0, 1, 2] (.strip 19 (.go 2 [(.br false)] [0] (.bind (f109 (decide (x9 ≥ (↑x0 : Int))) 10) fun xh => (.go 2 [(.ck 1)] [] (.bind (f106 xa 0 6) fun xi => (.go 2 [(.ck 2)] [] (.bind (f107 3 [(vI xb), (vI xh), (vI xi)]) fun xj => (.go 8 [(.ck 3)] [] (.split 31 (.go 8 [(.br true)] [0] .fin) (.go 8 [(.br false)] [0] (.bind (f139 x0 x1 x2 x3 x4 x5 x6 x7 x8 x9 xa) fun xk => (.go 12 [(.ck 4)] [] (.bind (f109 (!xk.snd) 7) fun xl => (.go 5 [(.ck 5)] [] .fin)))))))))))))))))))
theorem k73_0 (x0 : Nat) (x1 : List DV) (x2 : Nat) (x3 : List DV) (x4 x5 : Int) (x6 : Nat) (x7 : List DV) (x8 x9 xa : Int) : xrun cfz 73 (D73_0 x0 x1 x2 x3 x4 x5 x6 x7 x8 x9 xa) [] (st73 (.c0 x0 x1 x2 x3 x4 x5 x6 x7 x8 x9 xa)) = (B73 (.c0 x0 x1 x2 x3 x4 x5 x6 x7 x8 x9 xa)).mach st73 out73 := by kernel_rfl
theorem ok73 : ∀ s, ∃ d, xrun cfz 73 d [] (st73 s) = (B73 s).mach st73 out73
  | .c0 x0 x1 x2 x3 x4 x5 x6 x7 x8 x9 xa => ⟨_, k73_0 x0 x1 x2 x3 x4 x5 x6 x7 x8 x9 xa⟩
theorem f73 (x0 : Nat) (x1 : List DV) (x2 : Nat) (x3 : List DV) (x4 x5 : Int) (x6 : Nat) (x7 : List DV) (x8 x9 xa : Int) (v : Int × Int) (h : F73 x0 x1 x2 x3 x4 x5 x6 x7 x8 x9 xa = some v) : PureCalls cfz.P cfz.glob 73 [(.agg [(.d (.sl x0 x1)), (.d (.sl x2 x3)), (aI x4), (aI x5), (.d (.sl x6 x7))]), (aI x8), (aI x9), (aI xa)] (out73 v) := tree_pure knil ok73 (s := .c0 x0 x1 x2 x3 x4 x5 x6 x7 x8 x9 xa) rfl (by kernel_rfl) v h
inductive S158 where
  | c0 (x0 : Nat) (x1 : List DV) (x2 : Int)
  | c1 (x0 : Nat) (x1 : List DV) (x2 x3 x4 : Int)
def out158 (v : Int) : AV := (.d (.v (.int .i64 v)))
noncomputable def st158 : S158 → ASt
  | .c0 x0 x1 x2 => ent cfz 158 [(.d (.sl x0 x1)), (aI x2)]
  | .c1 x0 x1 x2 x3 x4 => ⟨⟨158, sp 19 0 [(0, (.d (.sl x0 x1))), (1, (aI x2)), (7, (aI x3)), (8, (aI x4))], [(.code (cd cfz.P 158 [1, 0, 1, 0, 0])), (.inLoop (cd cfz.P 158 [1, 0, 1, 0, 0])), (.inBlock 0), (.code (cd cfz.P 158 [1, 1]))], [], false, .none⟩, [], []⟩
noncomputable def B158 : S158 → Tr S158 (Int)
  | .c0 x0 x1 x2 => (.nxt (.c1 x0 x1 x2 ((↑x0 : Int)) 0))
  | .c1 x0 x1 x2 x3 x4 => (.br (decide (x4 < x3))
  (.ask (.le 0 x4) (.ask (.lt x4 ((↑x0 : Int))) (.ask (.leN (x4.toNat * 1) x1.length) (.ask (.prop (Option.map AV.d (List.drop (x4.toNat * 1) x1)[0]? = some (AV.d (DV.v (Value.int IntKind.i64 (dI (cel x1 (x4.toNat * 1)))))))) (.br (x2 == dI (cel x1 (x4.toNat * 1)))
  (.ret x4)
  (.ask (.in64 (x4 + 1)) (.nxt (.c1 x0 x1 x2 x3 (x4 + 1)))))))))
  (.ret (-1)))
noncomputable def F158 (x0 : Nat) (x1 : List DV) (x2 : Int) : Option (Int) := res B158 (.c0 x0 x1 x2)
noncomputable def D158_0 (x0 : Nat) (x1 : List DV) (x2 : Int) : DT cfz := (.go 13 [] [] (.cut 0 [[0, 1, 7, 8]] []))
theorem k158_0 (x0 : Nat) (x1 : List DV) (x2 : Int) : xrun cfz 158 (D158_0 x0 x1 x2) [] (st158 (.c0 x0 x1 x2)) = (B158 (.c0 x0 x1 x2)).mach st158 out158 := by kernel_rfl
noncomputable def D158_1 (x0 : Nat) (x1 : List DV) (x2 x3 x4 : Int) : DT cfz := (.go 5 [] [] (.split 9 (.go 18 [(.br true), (.as (aI (dI (cel x1 (x4.toNat * 1)))))] [0] (.split 16 (.go 7 [(.br true)] [0] .fin) (.go 8 [(.br false)] [0] (.cut 0 [[0, 1, 7, 8]] [])))) (.go 7 [(.br false)] [0] .fin)))
theorem k158_1 (x0 : Nat) (x1 : List DV) (x2 x3 x4 : Int) : xrun cfz 158 (D158_1 x0 x1 x2 x3 x4) [] (st158 (.c1 x0 x1 x2 x3 x4)) = (B158 (.c1 x0 x1 x2 x3 x4)).mach st158 out158 := by kernel_rfl
theorem ok158 : ∀ s, ∃ d, xrun cfz 158 d [] (st158 s) = (B158 s).mach st158 out158
  | .c0 x0 x1 x2 => ⟨_, k158_0 x0 x1 x2⟩
  | .c1 x0 x1 x2 x3 x4 => ⟨_, k158_1 x0 x1 x2 x3 x4⟩
theorem f158 (x0 : Nat) (x1 : List DV) (x2 v : Int) (h : F158 x0 x1 x2 = some v) : PureCalls cfz.P cfz.glob 158 [(.d (.sl x0 x1)), (aI x2)] (out158 v) := tree_pure knil ok158 (s := .c0 x0 x1 x2) rfl (by kernel_rfl) v h
inductive S157 where
  | c0 (x0 : Nat) (x1 : List DV) (x2 : Int)
def out157 (v : Bool) : AV := (.d (.v (.bool v)))
noncomputable def st157 : S157 → ASt
  | .c0 x0 x1 x2 => ent cfz 157 [(.d (.sl x0 x1)), (aI x2)]
noncomputable def B157 : S157 → Tr S157 (Bool)
  | .c0 x0 x1 x2 => (.bind (F158 x0 x1 x2) fun x3 =>
  (.sees [(.d (.sl x0 x1)), (aI x2)] (.ret (decide (x3 ≥ 0)))))
noncomputable def F157 (x0 : Nat) (x1 : List DV) (x2 : Int) : Option (Bool) := res B157 (.c0 x0 x1 x2)
noncomputable def D157_0 (x0 : Nat) (x1 : List DV) (x2 : Int) : DT cfz := (.go 8 [] [] (.bind (f158 x0 x1 x2) fun x3 => (.go 5 [(.ck 0)] [] .fin)))
theorem k157_0 (x0 : Nat) (x1 : List DV) (x2 : Int) : xrun cfz 157 (D157_0 x0 x1 x2) [] (st157 (.c0 x0 x1 x2)) = (B157 (.c0 x0 x1 x2)).mach st157 out157 := by kernel_rfl
theorem ok157 : ∀ s, ∃ d, xrun cfz 157 d [] (st157 s) = (B157 s).mach st157 out157
  | .c0 x0 x1 x2 => ⟨_, k157_0 x0 x1 x2⟩
theorem f157 (x0 : Nat) (x1 : List DV) (x2 : Int) (v : Bool) (h : F157 x0 x1 x2 = some v) : PureCalls cfz.P cfz.glob 157 [(.d (.sl x0 x1)), (aI x2)] (out157 v) := tree_pure knil ok157 (s := .c0 x0 x1 x2) rfl (by kernel_rfl) v h
inductive S142 where
  | c0 (x0 : Nat) (x1 : List DV) (x2 : Nat) (x3 : List DV) (x4 x5 : Int) (x6 : Nat) (x7 : List DV) (x8 x9 : Int)
  | c1 (x0 x1 x2 x3 : Int) (x4 : Nat) (x5 : List DV) (x6 : Nat) (x7 : List DV) (x8 x9 : Int) (xa : Nat) (xb : List DV)
def out142 (v : Int) : AV := (.d (.v (.int .i64 v)))
noncomputable def st142 : S142 → ASt
  | .c0 x0 x1 x2 x3 x4 x5 x6 x7 x8 x9 => ent cfz 142 [(.agg [(.d (.sl x0 x1)), (.d (.sl x2 x3)), (aI x4), (aI x5), (.d (.sl x6 x7))]), (aI x8), (aI x9)]
  | .c1 x0 x1 x2 x3 x4 x5 x6 x7 x8 x9 xa xb => ⟨⟨142, sp 39 0 [(1, (aI x0)), (2, (aI x1)), (3, (.ptr 0 0)), (7, (aI x2)), (11, (aI x3))], [(.code (cd cfz.P 142 [1, 1, 0, 1, 0, 0])), (.inLoop (cd cfz.P 142 [1, 1, 0, 1, 0, 0])), (.inBlock 0), (.code (cd cfz.P 142 [1, 1, 1]))], [], false, .none⟩, [], [(.cells [(.d (.sl x4 x5)), (.d (.sl x6 x7)), (aI x8), (aI x9), (.d (.sl xa xb))] 134)]⟩
noncomputable def B142 : S142 → Tr S142 (Int)
  | .c0 x0 x1 x2 x3 x4 x5 x6 x7 x8 x9 => (.nxt (.c1 x8 x9 0 0 x0 x1 x2 x3 x4 x5 x6 x7))
  | .c1 x0 x1 x2 x3 x4 x5 x6 x7 x8 x9 xa xb => (.br (decide (x3 < 7))
  (.bind (F139 x4 x5 x6 x7 x8 x9 xa xb x0 x1 x3) fun xc =>
  (.sees [(.agg [(.d (.sl x4 x5)), (.d (.sl x6 x7)), (aI x8), (aI x9), (.d (.sl xa xb))]), (aI x0), (aI x1), (aI x3)] (.br xc.snd
  (.ask (.eqB (xc.snd == true) true) (.br (decide (xc.fst ≤ x9))
  (.bind (F157 xa xb x1) fun xd =>
  (.sees [(.d (.sl xa xb)), (aI x1)] (.br (!xd)
  (.ask (.in64 (x3 + 1)) (.nxt (.c1 x0 x1 x3 (x3 + 1) x4 x5 x6 x7 x8 x9 xa xb)))
  (.ask (.in64 (x3 + 1)) (.nxt (.c1 x0 x1 x2 (x3 + 1) x4 x5 x6 x7 x8 x9 xa xb))))))
  (.ask (.in64 (x3 + 1)) (.nxt (.c1 x0 x1 x2 (x3 + 1) x4 x5 x6 x7 x8 x9 xa xb)))))
  (.ask (.in64 (x3 + 1)) (.nxt (.c1 x0 x1 x2 (x3 + 1) x4 x5 x6 x7 x8 x9 xa xb))))))
  (.ret x2))
noncomputable def F142 (x0 : Nat) (x1 : List DV) (x2 : Nat) (x3 : List DV) (x4 x5 : Int) (x6 : Nat) (x7 : List DV) (x8 x9 : Int) : Option (Int) := res B142 (.c0 x0 x1 x2 x3 x4 x5 x6 x7 x8 x9)
noncomputable def D142_0 (x0 : Nat) (x1 : List DV) (x2 : Nat) (x3 : List DV) (x4 x5 : Int) (x6 : Nat) (x7 : List DV) (x8 x9 : Int) : DT cfz := (.go 16 [] [] (.cut 1 [[1, 2, 3, 7, 11]] []))
theorem k142_0 (x0 : Nat) (x1 : List DV) (x2 : Nat) (x3 : List DV) (x4 x5 : Int) (x6 : Nat) (x7 : List DV) (x8 x9 : Int) : xrun cfz 142 (D142_0 x0 x1 x2 x3 x4 x5 x6 x7 x8 x9) [] (st142 (.c0 x0 x1 x2 x3 x4 x5 x6 x7 x8 x9)) = (B142 (.c0 x0 x1 x2 x3 x4 x5 x6 x7 x8 x9)).mach st142 out142 := by kernel_rfl
noncomputable def D142_1 (x0 x1 x2 x3 : Int) (x4 : Nat) (x5 : List DV) (x6 : Nat) (x7 : List DV) (x8 x9 : Int) (xa : Nat) (xb : List DV) : DT cfz := (.go 5 [] [] (.split 12 (.go 15 [(.br true)] [0] (.bind (f139 x4 x5 x6 x7 x8 x9 xa xb x0 x1 x3) fun xc => (.go 12 [(.ck 0), (.sp .none)] [] (.split 23 (.go 2 [(.br true), (.br true)] [0, 1] (.strip 24 (.go 3 [(.br true)] [0] (.split 29 (.go 3 [(.br true), (.br true), .none, (.br true)] [0, 1, 2] (.bind (f157 xa xb x1) fun xd => (.go 4 [(.br true), (.ck 1), (.br true)] [1, 2] (.split 35 (.go 11 [(.br true)] [0] (.cut 1 [[1, 2, 3, 7, 11]] [])) (.go 8 [(.br false)] [0] (.cut 1 [[1, 2, 3, 7, 11]] [])))))) (.go 15 [(.br false), (.br false), (.br false), (.br false), (.br false), .none, (.br false)] [0, 1, 2, 3, 4, 5] (.cut 1 [[1, 2, 3, 7, 11]] [])))))) (.go 20 [(.br false), (.br false), (.br false), .none, (.br false), (.br false), (.br false), (.br false), (.br false), .none, (.br false)] [0, 1, 2, 3, 4, 5, 6, 7, 8] (.cut 1 [[1, 2, 3, 7, 11]] [])))))) (.go 8 [(.br false)] [0] .fin)))
theorem k142_1 (x0 x1 x2 x3 : Int) (x4 : Nat) (x5 : List DV) (x6 : Nat) (x7 : List DV) (x8 x9 : Int) (xa : Nat) (xb : List DV) : xrun cfz 142 (D142_1 x0 x1 x2 x3 x4 x5 x6 x7 x8 x9 xa xb) [] (st142 (.c1 x0 x1 x2 x3 x4 x5 x6 x7 x8 x9 xa xb)) = (B142 (.c1 x0 x1 x2 x3 x4 x5 x6 x7 x8 x9 xa xb)).mach st142 out142 := by kernel_rfl
theorem ok142 : ∀ s, ∃ d, xrun cfz 142 d [] (st142 s) = (B142 s).mach st142 out142
  | .c0 x0 x1 x2 x3 x4 x5 x6 x7 x8 x9 => ⟨_, k142_0 x0 x1 x2 x3 x4 x5 x6 x7 x8 x9⟩
  | .c1 x0 x1 x2 x3 x4 x5 x6 x7 x8 x9 xa xb => ⟨_, k142_1 x0 x1 x2 x3 x4 x5 x6 x7 x8 x9 xa xb⟩
theorem f142 (x0 : Nat) (x1 : List DV) (x2 : Nat) (x3 : List DV) (x4 x5 : Int) (x6 : Nat) (x7 : List DV) (x8 x9 v : Int) (h : F142 x0 x1 x2 x3 x4 x5 x6 x7 x8 x9 = some v) : PureCalls cfz.P cfz.glob 142 [(.agg [(.d (.sl x0 x1)), (.d (.sl x2 x3)), (aI x4), (aI x5), (.d (.sl x6 x7))]), (aI x8), (aI x9)] (out142 v) := tree_pure knil ok142 (s := .c0 x0 x1 x2 x3 x4 x5 x6 x7 x8 x9) rfl (by kernel_rfl) v h
inductive S78 where
  | c0 (x0 x1 : Int)
def out78 (v : Int) : AV := (.d (.v (.int .i64 v)))
noncomputable def st78 : S78 → ASt
  | .c0 x0 x1 => ent cfz 78 [(aI x0), (aI x1)]
noncomputable def B78 : S78 → Tr S78 (Int)
  | .c0 x0 x1 => (.triv _ (tv_s (decide (x1 < 0) == false)) (.triv _ (tv_s (decide (x1 < 0) == false)) (.triv _ (tv_f (decide (x1 < 0))) (.bind (F37 (if decide (x1 < 0) = true then true else decide (x1 ≥ x0)) 10) fun x2 =>
  (.sees [(.d (.v (.bool (if decide (x1 < 0) = true then true else decide (x1 ≥ x0))))), (aI 10)] (.ret x2))))))
noncomputable def F78 (x0 x1 : Int) : Option (Int) := res B78 (.c0 x0 x1)
noncomputable def D78_0 (x0 x1 : Int) : DT cfz := (.go 13 [(.sp .none), (.sp .none), (.sp .none), .mg] [] (.bind (f37 (if decide (x1 < 0) = true then true else decide (x1 ≥ x0)) 10) fun x2 => (.go 4 [(.ck 0)] [] .fin)))
theorem k78_0 (x0 x1 : Int) : xrun cfz 78 (D78_0 x0 x1) [] (st78 (.c0 x0 x1)) = (B78 (.c0 x0 x1)).mach st78 out78 := by kernel_rfl
theorem ok78 : ∀ s, ∃ d, xrun cfz 78 d [] (st78 s) = (B78 s).mach st78 out78
  | .c0 x0 x1 => ⟨_, k78_0 x0 x1⟩
theorem f78 (x0 x1 v : Int) (h : F78 x0 x1 = some v) : PureCalls cfz.P cfz.glob 78 [(aI x0), (aI x1)] (out78 v) := tree_pure knil ok78 (s := .c0 x0 x1) rfl (by kernel_rfl) v h
inductive S77 where
  | c0 (x0 : Nat) (x1 : List DV) (x2 : Nat) (x3 : List DV) (x4 x5 : Int) (x6 : Nat) (x7 : List DV)
  | c1 (x0 : Int) (x1 : Nat) (x2 : List DV) (x3 : Nat) (x4 : List DV) (x5 x6 : Int) (x7 : Nat) (x8 : List DV)
  | c2 (x0 : Int) (x1 : Nat) (x2 : List DV) (x3 : Nat) (x4 : List DV) (x5 x6 : Int) (x7 : Nat) (x8 : List DV)
  | c3 (x0 x1 : Int) (x2 : Nat) (x3 : List DV) (x4 : Nat) (x5 : List DV) (x6 x7 : Int) (x8 : Nat) (x9 : List DV)
  | c4 (x0 : Int) (x1 : Nat) (x2 : List DV) (x3 : Nat) (x4 : List DV) (x5 x6 : Int) (x7 : Nat) (x8 : List DV)
def out77 (v : Int) : AV := (.d (.v (.int .i64 v)))
noncomputable def st77 : S77 → ASt
  | .c0 x0 x1 x2 x3 x4 x5 x6 x7 => ent cfz 77 [(.agg [(.d (.sl x0 x1)), (.d (.sl x2 x3)), (aI x4), (aI x5), (.d (.sl x6 x7))])]
  | .c1 x0 x1 x2 x3 x4 x5 x6 x7 x8 => ⟨⟨77, sp 148 0 [(1, (.ptr 0 0)), (4, (aI x0))], [(.code (cd cfz.P 77 [1, 1, 0, 1, 0, 0])), (.inLoop (cd cfz.P 77 [1, 1, 0, 1, 0, 0])), (.inBlock 0), (.code (cd cfz.P 77 [1, 1, 1]))], [], false, .none⟩, [], [(.cells [(.d (.sl x1 x2)), (.d (.sl x3 x4)), (aI x5), (aI x6), (.d (.sl x7 x8))] 130)]⟩
  | .c2 x0 x1 x2 x3 x4 x5 x6 x7 x8 => ⟨⟨77, sp 148 0 [(1, (.ptr 0 0)), (7, (aI x0))], [(.code (cd cfz.P 77 [1, 1, 1, 1, 0, 1, 0, 0])), (.inLoop (cd cfz.P 77 [1, 1, 1, 1, 0, 1, 0, 0])), (.inBlock 2), (.code (cd cfz.P 77 [1, 1, 1, 1, 1]))], [], false, .none⟩, [], [(.cells [(.d (.sl x1 x2)), (.d (.sl x3 x4)), (aI x5), (aI x6), (.d (.sl x7 x8))] 130)]⟩
  | .c3 x0 x1 x2 x3 x4 x5 x6 x7 x8 x9 => ⟨⟨77, sp 148 0 [(1, (.ptr 0 0)), (7, (aI x0)), (8, (aI x1))], [(.code (cd cfz.P 77 [1, 1, 1, 1, 0, 1, 0, 0, 1, 0, 0, 1, 1, 0, 0])), (.inLoop (cd cfz.P 77 [1, 1, 1, 1, 0, 1, 0, 0, 1, 0, 0, 1, 1, 0, 0])), (.inBlock 4), (.inBlock 3), (.code (cd cfz.P 77 [1, 1, 1, 1, 0, 1, 0, 0, 1, 1])), (.inLoop (cd cfz.P 77 [1, 1, 1, 1, 0, 1, 0, 0])), (.inBlock 2), (.code (cd cfz.P 77 [1, 1, 1, 1, 1]))], [], false, .none⟩, [], [(.cells [(.d (.sl x2 x3)), (.d (.sl x4 x5)), (aI x6), (aI x7), (.d (.sl x8 x9))] 130)]⟩
  | .c4 x0 x1 x2 x3 x4 x5 x6 x7 x8 => ⟨⟨77, sp 148 0 [(1, (.ptr 0 0)), (11, (aI x0))], [(.code (cd cfz.P 77 [1, 1, 1, 1, 1, 1, 0, 1, 0, 0])), (.inLoop (cd cfz.P 77 [1, 1, 1, 1, 1, 1, 0, 1, 0, 0])), (.inBlock 6), (.code (cd cfz.P 77 [1, 1, 1, 1, 1, 1, 1]))], [], false, .none⟩, [], [(.cells [(.d (.sl x1 x2)), (.d (.sl x3 x4)), (aI x5), (aI x6), (.d (.sl x7 x8))] 130)]⟩
noncomputable def B77 : S77 → Tr S77 (Int)
  | .c0 x0 x1 x2 x3 x4 x5 x6 x7 => (.bind (F37 ((↑x0 : Int) == 0) 12) fun x8 =>
  (.bind (F37 (decide ((↑x0 : Int) > 8)) 5) fun x9 =>
  (.bind (F20 2 [(.v (.int .i64 x8)), (.v (.int .i64 x9))]) fun xa =>
  (.sees [(.d (.v (.bool ((↑x0 : Int) == 0)))), (aI 12)] (.sees [(.d (.v (.bool (decide ((↑x0 : Int) > 8))))), (aI 5)] (.sees [(.d (.sl 2 [(vI x8), (vI x9)]))] (.br (xa != 0)
  (.ret xa)
  (.nxt (.c1 0 x0 x1 x2 x3 x4 x5 x6 x7)))))))))
  | .c1 x0 x1 x2 x3 x4 x5 x6 x7 x8 => (.br (decide (x0 < (↑x1 : Int)))
  (.ask (.le 0 x0) (.ask (.lt x0 ((↑x1 : Int))) (.ask (.leN (x0.toNat * 1) x2.length) (.ask (.prop (Option.map AV.d (List.drop (x0.toNat * 1) x2)[0]? = some (AV.d (DV.v (Value.int IntKind.i64 (dI (cel x2 (x0.toNat * 1)))))))) (.bind (F39 (dI (cel x2 (x0.toNat * 1))) 0 1000000000) fun x9 =>
  (.sees [(aI (dI (cel x2 (x0.toNat * 1)))), (aI 0), (aI 1000000000)] (.br (x9 != 0)
  (.ret x9)
  (.ask (.in64 (x0 + 1)) (.nxt (.c1 (x0 + 1) x1 x2 x3 x4 x5 x6 x7 x8))))))))))
  (.bind (F37 ((↑x3 : Int) == 0) 12) fun xa =>
  (.bind (F37 (decide ((↑x3 : Int) > 8)) 5) fun xb =>
  (.bind (F20 2 [(.v (.int .i64 xa)), (.v (.int .i64 xb))]) fun xc =>
  (.sees [(.d (.v (.bool ((↑x3 : Int) == 0)))), (aI 12)] (.sees [(.d (.v (.bool (decide ((↑x3 : Int) > 8))))), (aI 5)] (.sees [(.d (.sl 2 [(vI xa), (vI xb)]))] (.br (xc != 0)
  (.ret xc)
  (.nxt (.c2 0 x1 x2 x3 x4 x5 x6 x7 x8))))))))))
  | .c2 x0 x1 x2 x3 x4 x5 x6 x7 x8 => (.br (decide (x0 < (↑x3 : Int)))
  (.ask (.le 0 x0) (.ask (.lt x0 ((↑x3 : Int))) (.ask (.leN (x0.toNat * 1) x4.length) (.ask (.prop (Option.map AV.d (List.drop (x0.toNat * 1) x4)[0]? = some (AV.d (DV.sl (dN (cel x4 (x0.toNat * 1))) (dL (cel x4 (x0.toNat * 1))))))) (.br ((↑(dN (cel x4 (x0.toNat * 1))) : Int) != (↑x1 : Int))
  (.ret 2)
  (.nxt (.c3 x0 0 x1 x2 x3 x4 x5 x6 x7 x8)))))))
  (.bind (F39 x5 1 100) fun x9 =>
  (.bind (F39 x6 1 1000000) fun xa =>
  (.bind (F20 2 [(.v (.int .i64 x9)), (.v (.int .i64 xa))]) fun xb =>
  (.sees [(aI x5), (aI 1), (aI 100)] (.sees [(aI x6), (aI 1), (aI 1000000)] (.sees [(.d (.sl 2 [(vI x9), (vI xa)]))] (.br (xb != 0)
  (.ret xb)
  (.nxt (.c4 0 x1 x2 x3 x4 x5 x6 x7 x8))))))))))
  | .c3 x0 x1 x2 x3 x4 x5 x6 x7 x8 x9 => (.ask (.le 0 x0) (.ask (.lt x0 ((↑x4 : Int))) (.ask (.leN (x0.toNat * 1) x5.length) (.ask (.prop (Option.map AV.d (List.drop (x0.toNat * 1) x5)[0]? = some (AV.d (DV.sl (dN (cel x5 (x0.toNat * 1))) (dL (cel x5 (x0.toNat * 1))))))) (.br (decide (x1 < (↑(dN (cel x5 (x0.toNat * 1))) : Int)))
  (.ask (.le 0 x0) (.ask (.lt x0 ((↑x4 : Int))) (.ask (.leN (x0.toNat * 1) x5.length) (.ask (.prop (Option.map AV.d (List.drop (x0.toNat * 1) x5)[0]? = some (AV.d (DV.sl (dN (cel x5 (x0.toNat * 1))) (dL (cel x5 (x0.toNat * 1))))))) (.ask (.le 0 x1) (.ask (.lt x1 ((↑(dN (cel x5 (x0.toNat * 1))) : Int))) (.ask (.leN (x1.toNat * 1) ((dL (cel x5 (x0.toNat * 1))).length)) (.ask (.prop (Option.map AV.d (List.drop (x1.toNat * 1) (dL (cel x5 (x0.toNat * 1))))[0]? = some (AV.d (DV.v (Value.int IntKind.i64 (dI (cel (dL (cel x5 (x0.toNat * 1))) (x1.toNat * 1)))))))) (.bind (F39 (dI (cel (dL (cel x5 (x0.toNat * 1))) (x1.toNat * 1))) 1 1000000) fun xa =>
  (.sees [(aI (dI (cel (dL (cel x5 (x0.toNat * 1))) (x1.toNat * 1)))), (aI 1), (aI 1000000)] (.br (xa != 0)
  (.ret xa)
  (.ask (.in64 (x1 + 1)) (.nxt (.c3 x0 (x1 + 1) x2 x3 x4 x5 x6 x7 x8 x9))))))))))))))
  (.ask (.in64 (x0 + 1)) (.nxt (.c2 (x0 + 1) x2 x3 x4 x5 x6 x7 x8 x9))))))))
  | .c4 x0 x1 x2 x3 x4 x5 x6 x7 x8 => (.br (decide (x0 < (↑x7 : Int)))
  (.bind (F78 ((↑x1 : Int)) (dI (cel x8 (x0.toNat * 1)))) fun x9 =>
  (.br (decide (x0 > 0))
  (.bind (F37 (decide (dI (cel x8 (x0.toNat * 1)) ≤ dI (cel x8 ((if x0 - 1 > 0 then x0 - 1 else 0).toNat * 1)))) 11) fun xa =>
  (.bind (F20 2 [(.v (.int .i64 x9)), (.v (.int .i64 xa))]) fun xb =>
  (.ask (.le 0 x0) (.ask (.lt x0 ((↑x7 : Int))) (.ask (.leN (x0.toNat * 1) x8.length) (.ask (.prop (Option.map AV.d (List.drop (x0.toNat * 1) x8)[0]? = some (AV.d (DV.v (Value.int IntKind.i64 (dI (cel x8 (x0.toNat * 1)))))))) (.sees [(aI ((↑x1 : Int))), (aI (dI (cel x8 (x0.toNat * 1))))] (.ask (.eqB (decide (x0 > 0)) true) (.ask (.eqB (decide (x0 > 0)) true) (.ask (.eqB (decide (x0 > 0)) true) (.ask (.le 0 x0) (.ask (.lt x0 ((↑x7 : Int))) (.ask (.leN (x0.toNat * 1) x8.length) (.ask (.eqB (decide (x0 > 0)) true) (.ask (.prop (Option.map AV.d (List.drop (x0.toNat * 1) x8)[0]? = some (AV.d (DV.v (Value.int IntKind.i64 (dI (cel x8 (x0.toNat * 1)))))))) (.ask (.eqB (decide (x0 > 0)) true) (.ask (.eqB (decide (x0 > 0)) true) (.ask (.eqB (decide (x0 > 0)) true) (.ask (.eqB (decide (x0 > 0)) true) (.ask (.in64 (x0 - 1)) (.ask (.eqB (decide (x0 > 0)) true) (.ask (.eqB (decide (x0 > 0)) true) (.ask (.le 0 (if x0 - 1 > 0 then x0 - 1 else 0)) (.ask (.lt (if x0 - 1 > 0 then x0 - 1 else 0) ((↑x7 : Int))) (.ask (.leN ((if x0 - 1 > 0 then x0 - 1 else 0).toNat * 1) x8.length) (.ask (.eqB (decide (x0 > 0)) true) (.ask (.prop (Option.map AV.d (List.drop ((if x0 - 1 > 0 then x0 - 1 else 0).toNat * 1) x8)[0]? = some (AV.d (DV.v (Value.int IntKind.i64 (dI (cel x8 ((if x0 - 1 > 0 then x0 - 1 else 0).toNat * 1)))))))) (.ask (.eqB (decide (x0 > 0)) true) (.ask (.eqB (decide (x0 > 0)) true) (.ask (.eqB (decide (x0 > 0)) true) (.sees [(.d (.v (.bool (decide (dI (cel x8 (x0.toNat * 1)) ≤ dI (cel x8 ((if x0 - 1 > 0 then x0 - 1 else 0).toNat * 1))))))), (aI 11)] (.sees [(.d (.sl 2 [(vI x9), (vI xa)]))] (.br (xb != 0)
  (.ret xb)
  (.ask (.in64 (x0 + 1)) (.nxt (.c4 (x0 + 1) x1 x2 x3 x4 x5 x6 x7 x8))))))))))))))))))))))))))))))))))))
  (.bind (F37 false 11) fun xc =>
  (.bind (F20 2 [(.v (.int .i64 x9)), (.v (.int .i64 xc))]) fun xd =>
  (.ask (.le 0 x0) (.ask (.lt x0 ((↑x7 : Int))) (.ask (.leN (x0.toNat * 1) x8.length) (.ask (.prop (Option.map AV.d (List.drop (x0.toNat * 1) x8)[0]? = some (AV.d (DV.v (Value.int IntKind.i64 (dI (cel x8 (x0.toNat * 1)))))))) (.sees [(aI ((↑x1 : Int))), (aI (dI (cel x8 (x0.toNat * 1))))] (.ask (.eqB (decide (x0 > 0)) false) (.ask (.eqB (decide (x0 > 0)) false) (.ask (.eqB (decide (x0 > 0)) false) (.ask (.eqB (decide (x0 > 0)) false) (.ask (.eqB (decide (x0 > 0)) false) (.ask (.eqB (decide (x0 > 0)) false) (.ask (.eqB (decide (x0 > 0)) false) (.ask (.eqB (decide (x0 > 0)) false) (.ask (.eqB (decide (x0 > 0)) false) (.ask (.eqB (decide (x0 > 0)) false) (.ask (.eqB (decide (x0 > 0)) false) (.ask (.eqB (decide (x0 > 0)) false) (.ask (.eqB (decide (x0 > 0)) false) (.ask (.eqB (decide (x0 > 0)) false) (.sees [(.d (.v (.bool false))), (aI 11)] (.sees [(.d (.sl 2 [(vI x9), (vI xc)]))] (.br (xd != 0)
  (.ret xd)
  (.ask (.in64 (x0 + 1)) (.nxt (.c4 (x0 + 1) x1 x2 x3 x4 x5 x6 x7 x8)))))))))))))))))))))))))))))
  (.ret 0))
noncomputable def F77 (x0 : Nat) (x1 : List DV) (x2 : Nat) (x3 : List DV) (x4 x5 : Int) (x6 : Nat) (x7 : List DV) : Option (Int) := res B77 (.c0 x0 x1 x2 x3 x4 x5 x6 x7)
noncomputable def D77_0 (x0 : Nat) (x1 : List DV) (x2 : Nat) (x3 : List DV) (x4 x5 : Int) (x6 : Nat) (x7 : List DV) : DT cfz := (.go 8 [] [] (.bind (f37 ((↑x0 : Int) == 0) 12) fun x8 => (.bind (f37 (decide ((↑x0 : Int) > 8)) 5) fun x9 => (.bind (f20 2 [(vI x8), (vI x9)]) fun xa => (.go 6 [(.ck 0), (.ck 1), (.ck 2)] [] (.split 26 (.go 7 [(.br true)] [0] .fin) (.go 9 [(.br false)] [0] (.cut 1 [[1, 4]] []))))))))
theorem k77_0 (x0 : Nat) (x1 : List DV) (x2 : Nat) (x3 : List DV) (x4 x5 : Int) (x6 : Nat) (x7 : List DV) : xrun cfz 77 (D77_0 x0 x1 x2 x3 x4 x5 x6 x7) [] (st77 (.c0 x0 x1 x2 x3 x4 x5 x6 x7)) = (B77 (.c0 x0 x1 x2 x3 x4 x5 x6 x7)).mach st77 out77 := by kernel_rfl
noncomputable def D77_1 (x0 : Int) (x1 : Nat) (x2 : List DV) (x3 : Nat) (x4 : List DV) (x5 x6 : Int) (x7 : Nat) (x8 : List DV) : DT cfz := (.go 9 [] [] (.split 32 (.go 11 [(.br true), .none, (.as (aI (dI (cel x2 (x0.toNat * 1)))))] [0] (.bind (f39 (dI (cel x2 (x0.toNat * 1))) 0 1000000000) fun x9 => (.go 8 [(.ck 0)] [] (.split 42 (.go 7 [(.br true)] [0] .fin) (.go 9 [(.br false)] [0] (.cut 1 [[1, 4]] [])))))) (.go 5 [(.br false)] [0] (.bind (f37 ((↑x3 : Int) == 0) 12) fun xa => (.bind (f37 (decide ((↑x3 : Int) > 8)) 5) fun xb => (.bind (f20 2 [(vI xa), (vI xb)]) fun xc => (.go 6 [(.ck 0), (.ck 1), (.ck 2)] [] (.split 57 (.go 7 [(.br true)] [0] .fin) (.go 9 [(.br false)] [0] (.cut 1 [[1, 7]] []))))))))))
theorem k77_1 (x0 : Int) (x1 : Nat) (x2 : List DV) (x3 : Nat) (x4 : List DV) (x5 x6 : Int) (x7 : Nat) (x8 : List DV) : xrun cfz 77 (D77_1 x0 x1 x2 x3 x4 x5 x6 x7 x8) [] (st77 (.c1 x0 x1 x2 x3 x4 x5 x6 x7 x8)) = (B77 (.c1 x0 x1 x2 x3 x4 x5 x6 x7 x8)).mach st77 out77 := by kernel_rfl
noncomputable def D77_2 (x0 : Int) (x1 : Nat) (x2 : List DV) (x3 : Nat) (x4 : List DV) (x5 x6 : Int) (x7 : Nat) (x8 : List DV) : DT cfz := (.go 9 [] [] (.split 63 (.go 8 [(.br true), .none, (.as (.d (.sl (dN (cel x4 (x0.toNat * 1))) (dL (cel x4 (x0.toNat * 1))))))] [0] (.split 75 (.go 6 [(.br true)] [0] .fin) (.go 8 [(.br false)] [0] (.cut 1 [[1, 7, 8]] [])))) (.go 5 [(.br false)] [0] (.bind (f39 x5 1 100) fun x9 => (.bind (f39 x6 1 1000000) fun xa => (.bind (f20 2 [(vI x9), (vI xa)]) fun xb => (.go 6 [(.ck 0), (.ck 1), (.ck 2)] [] (.split 107 (.go 7 [(.br true)] [0] .fin) (.go 9 [(.br false)] [0] (.cut 1 [[1, 11]] []))))))))))
theorem k77_2 (x0 : Int) (x1 : Nat) (x2 : List DV) (x3 : Nat) (x4 : List DV) (x5 x6 : Int) (x7 : Nat) (x8 : List DV) : xrun cfz 77 (D77_2 x0 x1 x2 x3 x4 x5 x6 x7 x8) [] (st77 (.c2 x0 x1 x2 x3 x4 x5 x6 x7 x8)) = (B77 (.c2 x0 x1 x2 x3 x4 x5 x6 x7 x8)).mach st77 out77 := by kernel_rfl
noncomputable def D77_3 (x0 x1 : Int) (x2 : Nat) (x3 : List DV) (x4 : Nat) (x5 : List DV) (x6 x7 : Int) (x8 : Nat) (x9 : List DV) : DT cfz := (.go 12 [.none, (.as (.d (.sl (dN (cel x5 (x0.toNat * 1))) (dL (cel x5 (x0.toNat * 1))))))] [] (.split 83 (.go 14 [(.br true), .none, (.as (.d (.sl (dN (cel x5 (x0.toNat * 1))) (dL (cel x5 (x0.toNat * 1)))))), (.as (aI (dI (cel (dL (cel x5 (x0.toNat * 1))) (x1.toNat * 1)))))] [0] (.bind (f39 (dI (cel (dL (cel x5 (x0.toNat * 1))) (x1.toNat * 1))) 1 1000000) fun xa => (.go 8 [(.ck 0)] [] (.split 96 (.go 7 [(.br true)] [0] .fin) (.go 9 [(.br false)] [0] (.cut 1 [[1, 7, 8]] [])))))) (.go 9 [(.br false)] [0] (.cut 1 [[1, 7]] []))))
theorem k77_3 (x0 x1 : Int) (x2 : Nat) (x3 : List DV) (x4 : Nat) (x5 : List DV) (x6 x7 : Int) (x8 : Nat) (x9 : List DV) : xrun cfz 77 (D77_3 x0 x1 x2 x3 x4 x5 x6 x7 x8 x9) [] (st77 (.c3 x0 x1 x2 x3 x4 x5 x6 x7 x8 x9)) = (B77 (.c3 x0 x1 x2 x3 x4 x5 x6 x7 x8 x9)).mach st77 out77 := by kernel_rfl
noncomputable def D77_4 (x0 : Int) (x1 : Nat) (x2 : List DV) (x3 : Nat) (x4 : List DV) (x5 x6 : Int) (x7 : Nat) (x8 : List DV) : DT cfz := (.go 9 [] [] (.split 113 (.go 6 [(.br true)] [0] (.bind (f78 ((↑x1 : Int)) (dI (cel x8 (x0.toNat * 1)))) fun x9 => (.br (decide (x0 > 0)) (.bind (f37 (decide (dI (cel x8 (x0.toNat * 1)) ≤ dI (cel x8 ((if x0 - 1 > 0 then x0 - 1 else 0).toNat * 1)))) 11) fun xa => (.bind (f20 2 [(vI x9), (vI xa)]) fun xb => (.go 6 [.none, .none, (.as (aI (dI (cel x8 (x0.toNat * 1))))), (.ck 0), (.br true), (.br true), .none, (.br true), (.br true), (.br true), (.as (aI (dI (cel x8 (x0.toNat * 1))))), (.br true), (.br true), .none, (.br true), (.br true), (.br true), (.br true), (.br true), (.as (aI (dI (cel x8 ((if x0 - 1 > 0 then x0 - 1 else 0).toNat * 1))))), (.br true), (.br true), (.ck 1), (.ck 2)] [] (.split 146 (.go 7 [(.br true)] [0] .fin) (.go 9 [(.br false)] [0] (.cut 1 [[1, 11]] [])))))) (.bind (f37 false 11) fun xc => (.bind (f20 2 [(vI x9), (vI xc)]) fun xd => (.go 6 [.none, .none, (.as (aI (dI (cel x8 (x0.toNat * 1))))), (.ck 0), (.br false), (.br false), (.br false), (.br false), (.br false), (.br false), (.br false), (.br false), (.br false), (.br false), (.br false), (.br false), (.br false), (.br false), (.ck 1), (.ck 2)] [] (.split 146 (.go 7 [(.br true)] [0] .fin) (.go 9 [(.br false)] [0] (.cut 1 [[1, 11]] []))))))))) (.go 7 [(.br false)] [0] .fin)))
theorem k77_4 (x0 : Int) (x1 : Nat) (x2 : List DV) (x3 : Nat) (x4 : List DV) (x5 x6 : Int) (x7 : Nat) (x8 : List DV) : xrun cfz 77 (D77_4 x0 x1 x2 x3 x4 x5 x6 x7 x8) [] (st77 (.c4 x0 x1 x2 x3 x4 x5 x6 x7 x8)) = (B77 (.c4 x0 x1 x2 x3 x4 x5 x6 x7 x8)).mach st77 out77 := by kernel_rfl
theorem ok77 : ∀ s, ∃ d, xrun cfz 77 d [] (st77 s) = (B77 s).mach st77 out77
  | .c0 x0 x1 x2 x3 x4 x5 x6 x7 => ⟨_, k77_0 x0 x1 x2 x3 x4 x5 x6 x7⟩
  | .c1 x0 x1 x2 x3 x4 x5 x6 x7 x8 => ⟨_, k77_1 x0 x1 x2 x3 x4 x5 x6 x7 x8⟩
  | .c2 x0 x1 x2 x3 x4 x5 x6 x7 x8 => ⟨_, k77_2 x0 x1 x2 x3 x4 x5 x6 x7 x8⟩
  | .c3 x0 x1 x2 x3 x4 x5 x6 x7 x8 x9 => ⟨_, k77_3 x0 x1 x2 x3 x4 x5 x6 x7 x8 x9⟩
  | .c4 x0 x1 x2 x3 x4 x5 x6 x7 x8 => ⟨_, k77_4 x0 x1 x2 x3 x4 x5 x6 x7 x8⟩
theorem f77 (x0 : Nat) (x1 : List DV) (x2 : Nat) (x3 : List DV) (x4 x5 : Int) (x6 : Nat) (x7 : List DV) (v : Int) (h : F77 x0 x1 x2 x3 x4 x5 x6 x7 = some v) : PureCalls cfz.P cfz.glob 77 [(.agg [(.d (.sl x0 x1)), (.d (.sl x2 x3)), (aI x4), (aI x5), (.d (.sl x6 x7))])] (out77 v) := tree_pure knil ok77 (s := .c0 x0 x1 x2 x3 x4 x5 x6 x7) rfl (by kernel_rfl) v h
inductive S124 where
  | c0 (x0 : Int)
  | c1 (x0 x1 x2 : Int)
def out124 (v : Int) : AV := (.d (.v (.int .i64 v)))
noncomputable def st124 : S124 → ASt
  | .c0 x0 => ent cfz 124 [(aI x0)]
  | .c1 x0 x1 x2 => ⟨⟨124, sp 13 0 [(0, (aI x0)), (3, (aI x1)), (4, (aI x2))], [(.code (cd cfz.P 124 [1, 1, 0, 1, 0, 0])), (.inLoop (cd cfz.P 124 [1, 1, 0, 1, 0, 0])), (.inBlock 0), (.code (cd cfz.P 124 [1, 1, 1]))], [], false, .none⟩, [], []⟩
noncomputable def B124 : S124 → Tr S124 (Int)
  | .c0 x0 => (.nxt (.c1 x0 1 0))
  | .c1 x0 x1 x2 => (.br (decide (x2 < x0))
  (.ask (.in64 (2 * x1)) (.ask (.in64 (x2 + 1)) (.nxt (.c1 x0 (2 * x1) (x2 + 1)))))
  (.ret x1))
noncomputable def F124 (x0 : Int) : Option (Int) := res B124 (.c0 x0)
noncomputable def D124_0 (x0 : Int) : DT cfz := (.go 15 [] [] (.cut 0 [[0, 3, 4]] []))
theorem k124_0 (x0 : Int) : xrun cfz 124 (D124_0 x0) [] (st124 (.c0 x0)) = (B124 (.c0 x0)).mach st124 out124 := by kernel_rfl
noncomputable def D124_1 (x0 x1 x2 : Int) : DT cfz := (.go 7 [] [] (.split 7 (.go 16 [(.br true)] [0] (.cut 0 [[0, 3, 4]] [])) (.go 8 [(.br false)] [0] .fin)))
theorem k124_1 (x0 x1 x2 : Int) : xrun cfz 124 (D124_1 x0 x1 x2) [] (st124 (.c1 x0 x1 x2)) = (B124 (.c1 x0 x1 x2)).mach st124 out124 := by kernel_rfl
theorem ok124 : ∀ s, ∃ d, xrun cfz 124 d [] (st124 s) = (B124 s).mach st124 out124
  | .c0 x0 => ⟨_, k124_0 x0⟩
  | .c1 x0 x1 x2 => ⟨_, k124_1 x0 x1 x2⟩
theorem f124 (x0 v : Int) (h : F124 x0 = some v) : PureCalls cfz.P cfz.glob 124 [(aI x0)] (out124 v) := tree_pure knil ok124 (s := .c0 x0) rfl (by kernel_rfl) v h
inductive S79 where
  | c0 (x0 : Nat) (x1 : List DV) (x2 : Nat) (x3 : List DV) (x4 x5 : Int) (x6 : Nat) (x7 : List DV) (x8 x9 xa : Int)
def out79 (v : Int × Int) : AV := (.tup [(.d (.v (.int .i64 v.fst))), (.d (.v (.int .i64 v.snd)))])
noncomputable def st79 : S79 → ASt
  | .c0 x0 x1 x2 x3 x4 x5 x6 x7 x8 x9 xa => ent cfz 79 [(.agg [(.d (.sl x0 x1)), (.d (.sl x2 x3)), (aI x4), (aI x5), (.d (.sl x6 x7))]), (aI x8), (aI x9), (aI xa)]
noncomputable def B79 : S79 → Tr S79 (Int × Int)
  | .c0 x0 x1 x2 x3 x4 x5 x6 x7 x8 x9 xa => (.bind (F124 xa) fun xb =>
  (.sees [(aI xa)] (.ask (.in64 (xb - 1)) (.ask (.in64 (x4 * (xb - 1))) (.ask (.le 0 x8) (.ask (.lt x8 ((↑x2 : Int))) (.ask (.leN (x8.toNat * 1) x3.length) (.ask (.prop (Option.map AV.d (List.drop (x8.toNat * 1) x3)[0]? = some (AV.d (DV.sl (dN (cel x3 (x8.toNat * 1))) (dL (cel x3 (x8.toNat * 1))))))) (.ask (.le 0 x9) (.ask (.lt x9 ((↑(dN (cel x3 (x8.toNat * 1))) : Int))) (.ask (.leN (x9.toNat * 1) ((dL (cel x3 (x8.toNat * 1))).length)) (.ask (.prop (Option.map AV.d (List.drop (x9.toNat * 1) (dL (cel x3 (x8.toNat * 1))))[0]? = some (AV.d (DV.v (Value.int IntKind.i64 (dI (cel (dL (cel x3 (x8.toNat * 1))) (x9.toNat * 1)))))))) (.ask (.in64 (x4 * (xb - 1) * dI (cel (dL (cel x3 (x8.toNat * 1))) (x9.toNat * 1)))) (.br (x4 * (xb - 1) * dI (cel (dL (cel x3 (x8.toNat * 1))) (x9.toNat * 1)) == 0)
  (.ret (0, 0))
  (.ask (.le 0 x9) (.ask (.lt x9 ((↑x0 : Int))) (.ask (.leN (x9.toNat * 1) x1.length) (.ask (.prop (Option.map AV.d (List.drop (x9.toNat * 1) x1)[0]? = some (AV.d (DV.v (Value.int IntKind.i64 (dI (cel x1 (x9.toNat * 1)))))))) (.br (dI (cel x1 (x9.toNat * 1)) == 0)
  (.ret (0, 7))
  (.ask (.in64 (x4 * (xb - 1) * dI (cel (dL (cel x3 (x8.toNat * 1))) (x9.toNat * 1)) + dI (cel x1 (x9.toNat * 1)))) (.ask (.in64 (x4 * (xb - 1) * dI (cel (dL (cel x3 (x8.toNat * 1))) (x9.toNat * 1)) + dI (cel x1 (x9.toNat * 1)) - 1)) (.ask (.neI (dI (cel x1 (x9.toNat * 1))) 0) (.ask (.in64 ((x4 * (xb - 1) * dI (cel (dL (cel x3 (x8.toNat * 1))) (x9.toNat * 1)) + dI (cel x1 (x9.toNat * 1)) - 1).tdiv (dI (cel x1 (x9.toNat * 1))))) (.ret (((x4 * (xb - 1) * dI (cel (dL (cel x3 (x8.toNat * 1))) (x9.toNat * 1)) + dI (cel x1 (x9.toNat * 1)) - 1).tdiv (dI (cel x1 (x9.toNat * 1)))), 0)))))))))))))))))))))))))
noncomputable def F79 (x0 : Nat) (x1 : List DV) (x2 : Nat) (x3 : List DV) (x4 x5 : Int) (x6 : Nat) (x7 : List DV) (x8 x9 xa : Int) : Option (Int × Int) := res B79 (.c0 x0 x1 x2 x3 x4 x5 x6 x7 x8 x9 xa)
noncomputable def D79_0 (x0 : Nat) (x1 : List DV) (x2 : Nat) (x3 : List DV) (x4 x5 : Int) (x6 : Nat) (x7 : List DV) (x8 x9 xa : Int) : DT cfz := (.go 8 [] [] (.bind (f124 xa) fun xb => (.go 7 [.none, (.ck 0), .none, (.as (.d (.sl (dN (cel x3 (x8.toNat * 1))) (dL (cel x3 (x8.toNat * 1)))))), (.as (aI (dI (cel (dL (cel x3 (x8.toNat * 1))) (x9.toNat * 1)))))] [] (.split 28 (.go 7 [(.br true)] [0] .fin) (.go 17 [(.br false), .none, (.as (aI (dI (cel x1 (x9.toNat * 1)))))] [0] (.split 35 (.go 7 [(.br true)] [0] .fin) (.go 14 [(.br false)] [0] .fin)))))))
theorem k79_0 (x0 : Nat) (x1 : List DV) (x2 : Nat) (x3 : List DV) (x4 x5 : Int) (x6 : Nat) (x7 : List DV) (x8 x9 xa : Int) : xrun cfz 79 (D79_0 x0 x1 x2 x3 x4 x5 x6 x7 x8 x9 xa) [] (st79 (.c0 x0 x1 x2 x3 x4 x5 x6 x7 x8 x9 xa)) = (B79 (.c0 x0 x1 x2 x3 x4 x5 x6 x7 x8 x9 xa)).mach st79 out79 := by kernel_rfl
theorem ok79 : ∀ s, ∃ d, xrun cfz 79 d [] (st79 s) = (B79 s).mach st79 out79
  | .c0 x0 x1 x2 x3 x4 x5 x6 x7 x8 x9 xa => ⟨_, k79_0 x0 x1 x2 x3 x4 x5 x6 x7 x8 x9 xa⟩
theorem f79 (x0 : Nat) (x1 : List DV) (x2 : Nat) (x3 : List DV) (x4 x5 : Int) (x6 : Nat) (x7 : List DV) (x8 x9 xa : Int) (v : Int × Int) (h : F79 x0 x1 x2 x3 x4 x5 x6 x7 x8 x9 xa = some v) : PureCalls cfz.P cfz.glob 79 [(.agg [(.d (.sl x0 x1)), (.d (.sl x2 x3)), (aI x4), (aI x5), (.d (.sl x6 x7))]), (aI x8), (aI x9), (aI xa)] (out79 v) := tree_pure knil ok79 (s := .c0 x0 x1 x2 x3 x4 x5 x6 x7 x8 x9 xa) rfl (by kernel_rfl) v h
inductive S66 where
  | c0 (x0 : Nat) (x1 : List DV) (x2 : Int)
  | c1 (x0 : Nat) (x1 : List DV) (x2 x3 : Int)
def out66 (v : Bool) : AV := (.d (.v (.bool v)))
noncomputable def st66 : S66 → ASt
  | .c0 x0 x1 x2 => ent cfz 66 [(.d (.sl x0 x1)), (aI x2)]
  | .c1 x0 x1 x2 x3 => ⟨⟨66, sp 18 0 [(0, (.d (.sl x0 x1))), (1, (aI x2)), (5, (aI x3))], [(.code (cd cfz.P 66 [1, 0, 1, 0, 0])), (.inLoop (cd cfz.P 66 [1, 0, 1, 0, 0])), (.inBlock 0), (.code (cd cfz.P 66 [1, 1]))], [], false, .none⟩, [], []⟩
noncomputable def B66 : S66 → Tr S66 (Bool)
  | .c0 x0 x1 x2 => (.nxt (.c1 x0 x1 x2 0))
  | .c1 x0 x1 x2 x3 => (.br (decide (x3 < (↑x0 : Int)))
  (.ask (.le 0 x3) (.ask (.lt x3 ((↑x0 : Int))) (.ask (.leN (x3.toNat * 1) x1.length) (.ask (.prop (Option.map AV.d (List.drop (x3.toNat * 1) x1)[0]? = some (AV.d (DV.v (Value.int IntKind.i64 (dI (cel x1 (x3.toNat * 1)))))))) (.br (dI (cel x1 (x3.toNat * 1)) == x2)
  (.ret true)
  (.ask (.in64 (x3 + 1)) (.nxt (.c1 x0 x1 x2 (x3 + 1)))))))))
  (.ret false))
noncomputable def F66 (x0 : Nat) (x1 : List DV) (x2 : Int) : Option (Bool) := res B66 (.c0 x0 x1 x2)
noncomputable def D66_0 (x0 : Nat) (x1 : List DV) (x2 : Int) : DT cfz := (.go 11 [] [] (.cut 0 [[0, 1, 5]] []))
theorem k66_0 (x0 : Nat) (x1 : List DV) (x2 : Int) : xrun cfz 66 (D66_0 x0 x1 x2) [] (st66 (.c0 x0 x1 x2)) = (B66 (.c0 x0 x1 x2)).mach st66 out66 := by kernel_rfl
noncomputable def D66_1 (x0 : Nat) (x1 : List DV) (x2 x3 : Int) : DT cfz := (.go 8 [] [] (.split 9 (.go 13 [(.br true), (.as (aI (dI (cel x1 (x3.toNat * 1)))))] [0] (.split 17 (.go 6 [(.br true)] [0] .fin) (.go 9 [(.br false)] [0] (.cut 0 [[0, 1, 5]] [])))) (.go 7 [(.br false)] [0] .fin)))
theorem k66_1 (x0 : Nat) (x1 : List DV) (x2 x3 : Int) : xrun cfz 66 (D66_1 x0 x1 x2 x3) [] (st66 (.c1 x0 x1 x2 x3)) = (B66 (.c1 x0 x1 x2 x3)).mach st66 out66 := by kernel_rfl
theorem ok66 : ∀ s, ∃ d, xrun cfz 66 d [] (st66 s) = (B66 s).mach st66 out66
  | .c0 x0 x1 x2 => ⟨_, k66_0 x0 x1 x2⟩
  | .c1 x0 x1 x2 x3 => ⟨_, k66_1 x0 x1 x2 x3⟩
theorem f66 (x0 : Nat) (x1 : List DV) (x2 : Int) (v : Bool) (h : F66 x0 x1 x2 = some v) : PureCalls cfz.P cfz.glob 66 [(.d (.sl x0 x1)), (aI x2)] (out66 v) := tree_pure knil ok66 (s := .c0 x0 x1 x2) rfl (by kernel_rfl) v h
inductive S141 where
  | c0 (x0 : Nat) (x1 : List DV) (x2 : Nat) (x3 : List DV) (x4 x5 : Int) (x6 : Nat) (x7 : List DV) (x8 x9 : Int)
  | c1 (x0 x1 x2 x3 : Int) (x4 : Nat) (x5 : List DV) (x6 : Nat) (x7 : List DV) (x8 x9 : Int) (xa : Nat) (xb : List DV)
def out141 (v : Int) : AV := (.d (.v (.int .i64 v)))
noncomputable def st141 : S141 → ASt
  | .c0 x0 x1 x2 x3 x4 x5 x6 x7 x8 x9 => ent cfz 141 [(.agg [(.d (.sl x0 x1)), (.d (.sl x2 x3)), (aI x4), (aI x5), (.d (.sl x6 x7))]), (aI x8), (aI x9)]
  | .c1 x0 x1 x2 x3 x4 x5 x6 x7 x8 x9 xa xb => ⟨⟨141, sp 37 0 [(1, (aI x0)), (2, (aI x1)), (3, (.ptr 0 0)), (7, (aI x2)), (8, (aI x3))], [(.code (cd cfz.P 141 [1, 1, 1, 0, 1, 0, 0])), (.inLoop (cd cfz.P 141 [1, 1, 1, 0, 1, 0, 0])), (.inBlock 0), (.code (cd cfz.P 141 [1, 1, 1, 1]))], [], false, .none⟩, [], [(.cells [(.d (.sl x4 x5)), (.d (.sl x6 x7)), (aI x8), (aI x9), (.d (.sl xa xb))] 130)]⟩
noncomputable def B141 : S141 → Tr S141 (Int)
  | .c0 x0 x1 x2 x3 x4 x5 x6 x7 x8 x9 => (.bind (F66 x6 x7 x9) fun xa =>
  (.sees [(.d (.sl x6 x7)), (aI x9)] (.br xa
  (.ret 0)
  (.nxt (.c1 x8 x9 0 1 x0 x1 x2 x3 x4 x5 x6 x7)))))
  | .c1 x0 x1 x2 x3 x4 x5 x6 x7 x8 x9 xa xb => (.br (decide (x3 ≤ 6))
  (.bind (F79 x4 x5 x6 x7 x8 x9 xa xb x0 x1 x3) fun xc =>
  (.sees [(.agg [(.d (.sl x4 x5)), (.d (.sl x6 x7)), (aI x8), (aI x9), (.d (.sl xa xb))]), (aI x0), (aI x1), (aI x3)] (.br (xc.snd == 0)
  (.ask (.eqB ((xc.snd == 0) == true) true) (.br (decide (xc.fst ≤ x9))
  (.ask (.in64 (x3 + 1)) (.nxt (.c1 x0 x1 x3 (x3 + 1) x4 x5 x6 x7 x8 x9 xa xb)))
  (.ask (.in64 (x3 + 1)) (.nxt (.c1 x0 x1 x2 (x3 + 1) x4 x5 x6 x7 x8 x9 xa xb)))))
  (.ask (.in64 (x3 + 1)) (.nxt (.c1 x0 x1 x2 (x3 + 1) x4 x5 x6 x7 x8 x9 xa xb))))))
  (.ret x2))
noncomputable def F141 (x0 : Nat) (x1 : List DV) (x2 : Nat) (x3 : List DV) (x4 x5 : Int) (x6 : Nat) (x7 : List DV) (x8 x9 : Int) : Option (Int) := res B141 (.c0 x0 x1 x2 x3 x4 x5 x6 x7 x8 x9)
noncomputable def D141_0 (x0 : Nat) (x1 : List DV) (x2 : Nat) (x3 : List DV) (x4 x5 : Int) (x6 : Nat) (x7 : List DV) (x8 x9 : Int) : DT cfz := (.go 11 [] [] (.bind (f66 x6 x7 x9) fun xa => (.go 2 [(.ck 0)] [] (.split 14 (.go 6 [(.br true)] [0] .fin) (.go 13 [(.br false)] [0] (.cut 1 [[1, 2, 3, 7, 8]] []))))))
theorem k141_0 (x0 : Nat) (x1 : List DV) (x2 : Nat) (x3 : List DV) (x4 x5 : Int) (x6 : Nat) (x7 : List DV) (x8 x9 : Int) : xrun cfz 141 (D141_0 x0 x1 x2 x3 x4 x5 x6 x7 x8 x9) [] (st141 (.c0 x0 x1 x2 x3 x4 x5 x6 x7 x8 x9)) = (B141 (.c0 x0 x1 x2 x3 x4 x5 x6 x7 x8 x9)).mach st141 out141 := by kernel_rfl
noncomputable def D141_1 (x0 x1 x2 x3 : Int) (x4 : Nat) (x5 : List DV) (x6 : Nat) (x7 : List DV) (x8 x9 : Int) (xa : Nat) (xb : List DV) : DT cfz := (.go 6 [] [] (.split 16 (.go 10 [(.br true)] [0] (.bind (f79 x4 x5 x6 x7 x8 x9 xa xb x0 x1 x3) fun xc => (.go 13 [(.ck 0), (.sp .none)] [] (.split 29 (.go 2 [(.br true), (.br true)] [0, 1] (.strip 30 (.go 3 [(.br true)] [0] (.split 34 (.go 12 [(.br true)] [0] (.cut 1 [[1, 2, 3, 7, 8]] [])) (.go 9 [(.br false)] [0] (.cut 1 [[1, 2, 3, 7, 8]] [])))))) (.go 14 [(.br false), (.br false), (.br false), .none, (.br false)] [0, 1, 2, 3] (.cut 1 [[1, 2, 3, 7, 8]] [])))))) (.go 8 [(.br false)] [0] .fin)))
theorem k141_1 (x0 x1 x2 x3 : Int) (x4 : Nat) (x5 : List DV) (x6 : Nat) (x7 : List DV) (x8 x9 : Int) (xa : Nat) (xb : List DV) : xrun cfz 141 (D141_1 x0 x1 x2 x3 x4 x5 x6 x7 x8 x9 xa xb) [] (st141 (.c1 x0 x1 x2 x3 x4 x5 x6 x7 x8 x9 xa xb)) = (B141 (.c1 x0 x1 x2 x3 x4 x5 x6 x7 x8 x9 xa xb)).mach st141 out141 := by kernel_rfl
theorem ok141 : ∀ s, ∃ d, xrun cfz 141 d [] (st141 s) = (B141 s).mach st141 out141
  | .c0 x0 x1 x2 x3 x4 x5 x6 x7 x8 x9 => ⟨_, k141_0 x0 x1 x2 x3 x4 x5 x6 x7 x8 x9⟩
  | .c1 x0 x1 x2 x3 x4 x5 x6 x7 x8 x9 xa xb => ⟨_, k141_1 x0 x1 x2 x3 x4 x5 x6 x7 x8 x9 xa xb⟩
theorem f141 (x0 : Nat) (x1 : List DV) (x2 : Nat) (x3 : List DV) (x4 x5 : Int) (x6 : Nat) (x7 : List DV) (x8 x9 v : Int) (h : F141 x0 x1 x2 x3 x4 x5 x6 x7 x8 x9 = some v) : PureCalls cfz.P cfz.glob 141 [(.agg [(.d (.sl x0 x1)), (.d (.sl x2 x3)), (aI x4), (aI x5), (.d (.sl x6 x7))]), (aI x8), (aI x9)] (out141 v) := tree_pure knil ok141 (s := .c0 x0 x1 x2 x3 x4 x5 x6 x7 x8 x9) rfl (by kernel_rfl) v h
inductive S83 where
  | c0 (x0 x1 x2 x3 : Int)
def out83 (v : Bool) : AV := (.d (.v (.bool v)))
noncomputable def st83 : S83 → ASt
  | .c0 x0 x1 x2 x3 => ent cfz 83 [(aI x0), (aI x1), (aI x2), (aI x3)]
noncomputable def B83 : S83 → Tr S83 (Bool)
  | .c0 x0 x1 x2 x3 => (.triv _ (tv_s ((x1 == x2) == true)) (.br (x1 == x2)
  (.ask (.eqB ((x1 == x2) == true) true) (.triv _ (tv_s ((x2 != 0) == true)) (.triv _ (tv_t (x2 != 0)) (.triv _ (tv_s ((if (x2 != 0) = true then x0 == 0 else false) == false)) (.br (if (x2 != 0) = true then x0 == 0 else false)
  (.ret true)
  (.ask (.eqB ((if (x2 != 0) = true then x0 == 0 else false) == false) true) (.triv _ (tv_s ((x2 == 0) == true)) (.triv _ (tv_s ((x2 == 0) == true)) (.triv _ (tv_t (x2 == 0)) (.ret (if (x2 == 0) = true then x0 == x3 else false)))))))))))
  (.ret false)))
noncomputable def F83 (x0 x1 x2 x3 : Int) : Option (Bool) := res B83 (.c0 x0 x1 x2 x3)
noncomputable def D83_0 (x0 x1 x2 x3 : Int) : DT cfz := (.go 12 [(.sp .none), (.sp .none)] [] (.split 12 (.strip 14 (.go 7 [(.br true), (.sp .none), (.sp .none), (.br true), .mg, (.br true), (.sp .none), (.sp .none)] [0, 3, 4] (.split 19 (.go 10 [(.br true), (.br false), (.br false), (.br false), (.br true), (.br true)] [0, 1, 2] .fin) (.strip 21 (.go 10 [(.br false), (.sp .none), (.sp .none), (.sp .none), (.br false), .mg, (.br true)] [0, 4, 5] .fin))))) (.go 17 [(.br false), (.br false), (.br false), (.br false), (.br false), (.br true), (.br true), (.br true), (.br false), (.br false), (.br false), (.br true), (.br false)] [0, 1, 2, 3] .fin)))
theorem k83_0 (x0 x1 x2 x3 : Int) : xrun cfz 83 (D83_0 x0 x1 x2 x3) [] (st83 (.c0 x0 x1 x2 x3)) = (B83 (.c0 x0 x1 x2 x3)).mach st83 out83 := by kernel_rfl
theorem ok83 : ∀ s, ∃ d, xrun cfz 83 d [] (st83 s) = (B83 s).mach st83 out83
  | .c0 x0 x1 x2 x3 => ⟨_, k83_0 x0 x1 x2 x3⟩
theorem f83 (x0 x1 x2 x3 : Int) (v : Bool) (h : F83 x0 x1 x2 x3 = some v) : PureCalls cfz.P cfz.glob 83 [(aI x0), (aI x1), (aI x2), (aI x3)] (out83 v) := tree_pure knil ok83 (s := .c0 x0 x1 x2 x3) rfl (by kernel_rfl) v h
inductive S24 where
  | c0 (x0 : Nat) (x1 : List DV) (x2 x3 : Int) (x4 : Nat) (x5 : List DV)
def out24 (v : Bool) : AV := (.d (.v (.bool v)))
noncomputable def st24 : S24 → ASt
  | .c0 x0 x1 x2 x3 x4 x5 => ent cfz 24 [(.d (.sl x0 x1)), (aI x2), (aI x3), (.d (.sl x4 x5))]
noncomputable def B24 : S24 → Tr S24 (Bool)
  | .c0 x0 x1 x2 x3 x4 x5 => (.triv _ (tv_s ((x2 == x3) == true)) (.br (x2 == x3)
  (.ask (.eqB ((x2 == x3) == true) true) (.triv _ (tv_s ((x3 != 0) == true)) (.triv _ (tv_s ((x3 != 0) == true)) (.triv _ (tv_t (x3 != 0)) (.triv _ (tv_s ((if (x3 != 0) = true then (↑x0 : Int) == 0 else false) == false)) (.br (if (x3 != 0) = true then (↑x0 : Int) == 0 else false)
  (.ret true)
  (.ask (.eqB ((if (x3 != 0) = true then (↑x0 : Int) == 0 else false) == false) true) (.bind (F65 x0 x1 x4 x5) fun x6 =>
  (.sees [(.d (.sl x0 x1)), (.d (.sl x4 x5))] (.triv _ (tv_s ((x3 == 0) == true)) (.triv _ (tv_s ((x3 == 0) == true)) (.triv _ (tv_t (x3 == 0)) (.ret (if (x3 == 0) = true then x6 else false))))))))))))))
  (.ret false)))
noncomputable def F24 (x0 : Nat) (x1 : List DV) (x2 x3 : Int) (x4 : Nat) (x5 : List DV) : Option (Bool) := res B24 (.c0 x0 x1 x2 x3 x4 x5)
noncomputable def D24_0 (x0 : Nat) (x1 : List DV) (x2 x3 : Int) (x4 : Nat) (x5 : List DV) : DT cfz := (.go 12 [(.sp .none), (.sp .none)] [] (.split 12 (.strip 14 (.go 8 [(.br true), (.sp .none), (.sp .none), (.sp .none), (.br true), .mg, (.br true), (.sp .none), (.sp .none)] [0, 4, 5] (.split 20 (.go 10 [(.br true), (.br false), (.br false), (.br false), (.br true), (.br true)] [0, 1, 2] .fin) (.strip 22 (.go 3 [(.br false), (.sp .none), (.sp .none)] [0] (.bind (f65 x0 x1 x4 x5) fun x6 => (.go 7 [(.sp (.some 0)), (.br false), .mg, (.br true)] [4, 5] .fin))))))) (.go 18 [(.br false), (.br false), (.br false), (.br false), (.br false), (.br false), (.br true), (.br true), (.br true), (.br false), (.br false), (.br false), (.br true), (.br false)] [0, 1, 2, 3] .fin)))
theorem k24_0 (x0 : Nat) (x1 : List DV) (x2 x3 : Int) (x4 : Nat) (x5 : List DV) : xrun cfz 24 (D24_0 x0 x1 x2 x3 x4 x5) [] (st24 (.c0 x0 x1 x2 x3 x4 x5)) = (B24 (.c0 x0 x1 x2 x3 x4 x5)).mach st24 out24 := by kernel_rfl
theorem ok24 : ∀ s, ∃ d, xrun cfz 24 d [] (st24 s) = (B24 s).mach st24 out24
  | .c0 x0 x1 x2 x3 x4 x5 => ⟨_, k24_0 x0 x1 x2 x3 x4 x5⟩
theorem f24 (x0 : Nat) (x1 : List DV) (x2 x3 : Int) (x4 : Nat) (x5 : List DV) (v : Bool) (h : F24 x0 x1 x2 x3 x4 x5 = some v) : PureCalls cfz.P cfz.glob 24 [(.d (.sl x0 x1)), (aI x2), (aI x3), (.d (.sl x4 x5))] (out24 v) := tree_pure knil ok24 (s := .c0 x0 x1 x2 x3 x4 x5) rfl (by kernel_rfl) v h
inductive S140 where
  | c0 (x0 : Nat) (x1 : List DV) (x2 : Nat) (x3 : List DV) (x4 x5 : Int) (x6 : Nat) (x7 : List DV) (x8 : Int)
  | c1 (x0 x1 x2 : Int) (x3 : Nat) (x4 : List DV) (x5 : Nat) (x6 : List DV) (x7 x8 : Int) (x9 : Nat) (xa : List DV)
  | c2 (x0 : Int) (x1 x2 : Nat) (x3 : List DV) (x4 x5 : Int) (x6 : Nat) (x7 : List DV) (x8 : Nat) (x9 : List DV) (xa xb : Int) (xc : Nat) (xd : List DV) (xe : Nat)
def out140 (v : Nat × List DV) : AV := (.d (.sl v.fst v.snd))
noncomputable def st140 : S140 → ASt
  | .c0 x0 x1 x2 x3 x4 x5 x6 x7 x8 => ent cfz 140 [(.agg [(.d (.sl x0 x1)), (.d (.sl x2 x3)), (aI x4), (aI x5), (.d (.sl x6 x7))]), (aI x8)]
  | .c1 x0 x1 x2 x3 x4 x5 x6 x7 x8 x9 xa => ⟨⟨140, sp 22 0 [(1, (aI x0)), (2, (.ptr 0 0)), (5, (.d (.v (.slice .none 0 0)))), (9, (aI x1)), (10, (aI x2))], [(.code (cd cfz.P 140 [1, 1, 0, 1, 0, 0])), (.inLoop (cd cfz.P 140 [1, 1, 0, 1, 0, 0])), (.inBlock 0), (.code (cd cfz.P 140 [1, 1, 1]))], [], false, .none⟩, [], [(.cells [(.d (.sl x3 x4)), (.d (.sl x5 x6)), (aI x7), (aI x8), (.d (.sl x9 xa))] 134)]⟩
  | .c2 x0 x1 x2 x3 x4 x5 x6 x7 x8 x9 xa xb xc xd xe => ⟨⟨140, sp 22 0 [(1, (aI x0)), (2, (.ptr 0 0)), (5, (.own 2 x1 1 x2 x3)), (9, (aI x4)), (10, (aI x5))], [(.code (cd cfz.P 140 [1, 1, 0, 1, 0, 0])), (.inLoop (cd cfz.P 140 [1, 1, 0, 1, 0, 0])), (.inBlock 0), (.code (cd cfz.P 140 [1, 1, 1]))], [], false, .none⟩, [], [(.cells [(.d (.sl x6 x7)), (.d (.sl x8 x9)), (aI xa), (aI xb), (.d (.sl xc xd))] 134), (.tail 0), (.tail xe)]⟩
noncomputable def B140 : S140 → Tr S140 (Nat × List DV)
  | .c0 x0 x1 x2 x3 x4 x5 x6 x7 x8 => (.nxt (.c1 x8 ((↑x0 : Int)) 0 x0 x1 x2 x3 x4 x5 x6 x7))
  | .c1 x0 x1 x2 x3 x4 x5 x6 x7 x8 x9 xa => (.br (decide (x2 < x1))
  (.bind (F142 x3 x4 x5 x6 x7 x8 x9 xa x0 x2) fun xb =>
  (.sees [(.agg [(.d (.sl x3 x4)), (.d (.sl x5 x6)), (aI x7), (aI x8), (.d (.sl x9 xa))]), (aI x0), (aI x2)] (.ask (.in64 (x2 + 1)) (.nxt (.c2 x0 0 1 [(.v (.int .i64 xb))] x1 (x2 + 1) x3 x4 x5 x6 x7 x8 x9 xa 0)))))
  (.ret (0, [])))
  | .c2 x0 x1 x2 x3 x4 x5 x6 x7 x8 x9 xa xb xc xd xe => (.br (decide (x5 < x4))
  (.bind (F142 x6 x7 x8 x9 xa xb xc xd x0 x5) fun xf =>
  (.sees [(.agg [(.d (.sl x6 x7)), (.d (.sl x8 x9)), (aI xa), (aI xb), (.d (.sl xc xd))]), (aI x0), (aI x5)] (.ask (.eqN x1 xe) (.ask (.fits (x2 + 1) 8) (.ask (.in64 (x5 + 1)) (.nxt (.c2 x0 (xe + 1) (x2 + 1) (x3 ++ [DV.v (Value.int IntKind.i64 xf)]) x4 (x5 + 1) x6 x7 x8 x9 xa xb xc xd (xe + 1))))))))
  (.ret (x2, x3)))
noncomputable def F140 (x0 : Nat) (x1 : List DV) (x2 : Nat) (x3 : List DV) (x4 x5 : Int) (x6 : Nat) (x7 : List DV) (x8 : Int) : Option (Nat × List DV) := res B140 (.c0 x0 x1 x2 x3 x4 x5 x6 x7 x8)
noncomputable def D140_0 (x0 : Nat) (x1 : List DV) (x2 : Nat) (x3 : List DV) (x4 x5 : Int) (x6 : Nat) (x7 : List DV) (x8 : Int) : DT cfz := (.go 19 [] [] (.cut 1 [[1, 2, 5, 9, 10]] []))
theorem k140_0 (x0 : Nat) (x1 : List DV) (x2 : Nat) (x3 : List DV) (x4 x5 : Int) (x6 : Nat) (x7 : List DV) (x8 : Int) : xrun cfz 140 (D140_0 x0 x1 x2 x3 x4 x5 x6 x7 x8) [] (st140 (.c0 x0 x1 x2 x3 x4 x5 x6 x7 x8)) = (B140 (.c0 x0 x1 x2 x3 x4 x5 x6 x7 x8)).mach st140 out140 := by kernel_rfl
noncomputable def D140_1 (x0 x1 x2 : Int) (x3 : Nat) (x4 : List DV) (x5 : Nat) (x6 : List DV) (x7 x8 : Int) (x9 : Nat) (xa : List DV) : DT cfz := (.go 5 [] [] (.split 11 (.go 14 [(.br true)] [0] (.bind (f142 x3 x4 x5 x6 x7 x8 x9 xa x0 x2) fun xb => (.go 11 [(.ck 0)] [1, 2, 3] (.cut 3 [[1, 2, 5, 9, 10]] [])))) (.go 8 [(.br false)] [0] .fin)))
theorem k140_1 (x0 x1 x2 : Int) (x3 : Nat) (x4 : List DV) (x5 : Nat) (x6 : List DV) (x7 x8 : Int) (x9 : Nat) (xa : List DV) : xrun cfz 140 (D140_1 x0 x1 x2 x3 x4 x5 x6 x7 x8 x9 xa) [] (st140 (.c1 x0 x1 x2 x3 x4 x5 x6 x7 x8 x9 xa)) = (B140 (.c1 x0 x1 x2 x3 x4 x5 x6 x7 x8 x9 xa)).mach st140 out140 := by kernel_rfl
noncomputable def D140_2 (x0 : Int) (x1 x2 : Nat) (x3 : List DV) (x4 x5 : Int) (x6 : Nat) (x7 : List DV) (x8 : Nat) (x9 : List DV) (xa xb : Int) (xc : Nat) (xd : List DV) (xe : Nat) : DT cfz := (.go 5 [] [] (.split 11 (.go 14 [(.br true)] [0] (.bind (f142 x6 x7 x8 x9 xa xb xc xd x0 x5) fun xf => (.go 11 [(.ck 0)] [2, 3] (.cut 3 [[1, 2, 5, 9, 10]] [])))) (.go 8 [(.br false)] [0] .fin)))
theorem k140_2 (x0 : Int) (x1 x2 : Nat) (x3 : List DV) (x4 x5 : Int) (x6 : Nat) (x7 : List DV) (x8 : Nat) (x9 : List DV) (xa xb : Int) (xc : Nat) (xd : List DV) (xe : Nat) : xrun cfz 140 (D140_2 x0 x1 x2 x3 x4 x5 x6 x7 x8 x9 xa xb xc xd xe) [] (st140 (.c2 x0 x1 x2 x3 x4 x5 x6 x7 x8 x9 xa xb xc xd xe)) = (B140 (.c2 x0 x1 x2 x3 x4 x5 x6 x7 x8 x9 xa xb xc xd xe)).mach st140 out140 := by kernel_rfl
theorem ok140 : ∀ s, ∃ d, xrun cfz 140 d [] (st140 s) = (B140 s).mach st140 out140
  | .c0 x0 x1 x2 x3 x4 x5 x6 x7 x8 => ⟨_, k140_0 x0 x1 x2 x3 x4 x5 x6 x7 x8⟩
  | .c1 x0 x1 x2 x3 x4 x5 x6 x7 x8 x9 xa => ⟨_, k140_1 x0 x1 x2 x3 x4 x5 x6 x7 x8 x9 xa⟩
  | .c2 x0 x1 x2 x3 x4 x5 x6 x7 x8 x9 xa xb xc xd xe => ⟨_, k140_2 x0 x1 x2 x3 x4 x5 x6 x7 x8 x9 xa xb xc xd xe⟩
theorem f140 (x0 : Nat) (x1 : List DV) (x2 : Nat) (x3 : List DV) (x4 x5 : Int) (x6 : Nat) (x7 : List DV) (x8 : Int) (v : Nat × List DV) (h : F140 x0 x1 x2 x3 x4 x5 x6 x7 x8 = some v) : PureCalls cfz.P cfz.glob 140 [(.agg [(.d (.sl x0 x1)), (.d (.sl x2 x3)), (aI x4), (aI x5), (.d (.sl x6 x7))]), (aI x8)] (out140 v) := tree_pure knil ok140 (s := .c0 x0 x1 x2 x3 x4 x5 x6 x7 x8) rfl (by kernel_rfl) v h
inductive S75 where
  | c0 (x0 : Nat) (x1 : List DV) (x2 : Nat) (x3 : List DV) (x4 x5 : Int) (x6 : Nat) (x7 : List DV) (x8 : Int)
def out75 (v : Nat × List DV × Int) : AV := (.tup [(.d (.sl v.fst v.snd.fst)), (.d (.v (.int .i64 v.snd.snd)))])
noncomputable def st75 : S75 → ASt
  | .c0 x0 x1 x2 x3 x4 x5 x6 x7 x8 => ent cfz 75 [(.agg [(.d (.sl x0 x1)), (.d (.sl x2 x3)), (aI x4), (aI x5), (.d (.sl x6 x7))]), (aI x8)]
noncomputable def B75 : S75 → Tr S75 (Nat × List DV × Int)
  | .c0 x0 x1 x2 x3 x4 x5 x6 x7 x8 => (.bind (F138 x0 x1 x2 x3 x4 x5 x6 x7 x8) fun x9 =>
  (.sees [(.agg [(.d (.sl x0 x1)), (.d (.sl x2 x3)), (aI x4), (aI x5), (.d (.sl x6 x7))]), (aI x8)] (.br (x9 != 0)
  (.ret (0, [], x9))
  (.bind (F140 x0 x1 x2 x3 x4 x5 x6 x7 x8) fun xa =>
  (.sees [(.agg [(.d (.sl x0 x1)), (.d (.sl x2 x3)), (aI x4), (aI x5), (.d (.sl x6 x7))]), (aI x8)] (.ret (xa.fst, xa.snd, 0)))))))
noncomputable def F75 (x0 : Nat) (x1 : List DV) (x2 : Nat) (x3 : List DV) (x4 x5 : Int) (x6 : Nat) (x7 : List DV) (x8 : Int) : Option (Nat × List DV × Int) := res B75 (.c0 x0 x1 x2 x3 x4 x5 x6 x7 x8)
noncomputable def D75_0 (x0 : Nat) (x1 : List DV) (x2 : Nat) (x3 : List DV) (x4 x5 : Int) (x6 : Nat) (x7 : List DV) (x8 : Int) : DT cfz := (.go 11 [] [] (.bind (f138 x0 x1 x2 x3 x4 x5 x6 x7 x8) fun x9 => (.go 8 [(.ck 0)] [] (.split 11 (.go 8 [(.br true)] [0] .fin) (.go 6 [(.br false)] [0] (.bind (f140 x0 x1 x2 x3 x4 x5 x6 x7 x8) fun xa => (.go 5 [(.ck 1)] [] .fin)))))))
theorem k75_0 (x0 : Nat) (x1 : List DV) (x2 : Nat) (x3 : List DV) (x4 x5 : Int) (x6 : Nat) (x7 : List DV) (x8 : Int) : xrun cfz 75 (D75_0 x0 x1 x2 x3 x4 x5 x6 x7 x8) [] (st75 (.c0 x0 x1 x2 x3 x4 x5 x6 x7 x8)) = (B75 (.c0 x0 x1 x2 x3 x4 x5 x6 x7 x8)).mach st75 out75 := by kernel_rfl
theorem ok75 : ∀ s, ∃ d, xrun cfz 75 d [] (st75 s) = (B75 s).mach st75 out75
  | .c0 x0 x1 x2 x3 x4 x5 x6 x7 x8 => ⟨_, k75_0 x0 x1 x2 x3 x4 x5 x6 x7 x8⟩
theorem f75 (x0 : Nat) (x1 : List DV) (x2 : Nat) (x3 : List DV) (x4 x5 : Int) (x6 : Nat) (x7 : List DV) (x8 : Int) (v : Nat × List DV × Int) (h : F75 x0 x1 x2 x3 x4 x5 x6 x7 x8 = some v) : PureCalls cfz.P cfz.glob 75 [(.agg [(.d (.sl x0 x1)), (.d (.sl x2 x3)), (aI x4), (aI x5), (.d (.sl x6 x7))]), (aI x8)] (out75 v) := tree_pure knil ok75 (s := .c0 x0 x1 x2 x3 x4 x5 x6 x7 x8) rfl (by kernel_rfl) v h
inductive S80 where
  | c0 (x0 : Nat) (x1 : List DV) (x2 : Nat) (x3 : List DV) (x4 x5 : Int) (x6 : Nat) (x7 : List DV) (x8 : Int)
  | c1 (x0 x1 : Int) (x2 : Nat) (x3 : List DV) (x4 : Nat) (x5 : List DV) (x6 x7 : Int) (x8 : Nat) (x9 : List DV)
  | c2 (x0 : Int) (x1 x2 : Nat) (x3 : List DV) (x4 : Int) (x5 : Nat) (x6 : List DV) (x7 : Nat) (x8 : List DV) (x9 xa : Int) (xb : Nat) (xc : List DV) (xd : Nat)
def out80 (v : Nat × List DV) : AV := (.d (.sl v.fst v.snd))
noncomputable def st80 : S80 → ASt
  | .c0 x0 x1 x2 x3 x4 x5 x6 x7 x8 => ent cfz 80 [(.agg [(.d (.sl x0 x1)), (.d (.sl x2 x3)), (aI x4), (aI x5), (.d (.sl x6 x7))]), (aI x8)]
  | .c1 x0 x1 x2 x3 x4 x5 x6 x7 x8 x9 => ⟨⟨80, sp 22 0 [(1, (aI x0)), (2, (.ptr 0 0)), (5, (.d (.v (.slice .none 0 0)))), (6, (aI x1))], [(.code (cd cfz.P 80 [1, 1, 0, 1, 0, 0])), (.inLoop (cd cfz.P 80 [1, 1, 0, 1, 0, 0])), (.inBlock 0), (.code (cd cfz.P 80 [1, 1, 1]))], [], false, .none⟩, [], [(.cells [(.d (.sl x2 x3)), (.d (.sl x4 x5)), (aI x6), (aI x7), (.d (.sl x8 x9))] 130)]⟩
  | .c2 x0 x1 x2 x3 x4 x5 x6 x7 x8 x9 xa xb xc xd => ⟨⟨80, sp 22 0 [(1, (aI x0)), (2, (.ptr 0 0)), (5, (.own 2 x1 1 x2 x3)), (6, (aI x4))], [(.code (cd cfz.P 80 [1, 1, 0, 1, 0, 0])), (.inLoop (cd cfz.P 80 [1, 1, 0, 1, 0, 0])), (.inBlock 0), (.code (cd cfz.P 80 [1, 1, 1]))], [], false, .none⟩, [], [(.cells [(.d (.sl x5 x6)), (.d (.sl x7 x8)), (aI x9), (aI xa), (.d (.sl xb xc))] 130), (.tail 0), (.tail xd)]⟩
noncomputable def B80 : S80 → Tr S80 (Nat × List DV)
  | .c0 x0 x1 x2 x3 x4 x5 x6 x7 x8 => (.nxt (.c1 x8 0 x0 x1 x2 x3 x4 x5 x6 x7))
  | .c1 x0 x1 x2 x3 x4 x5 x6 x7 x8 x9 => (.br (decide (x1 < (↑x2 : Int)))
  (.bind (F141 x2 x3 x4 x5 x6 x7 x8 x9 x0 x1) fun xa =>
  (.sees [(.agg [(.d (.sl x2 x3)), (.d (.sl x4 x5)), (aI x6), (aI x7), (.d (.sl x8 x9))]), (aI x0), (aI x1)] (.ask (.in64 (x1 + 1)) (.nxt (.c2 x0 0 1 [(.v (.int .i64 xa))] (x1 + 1) x2 x3 x4 x5 x6 x7 x8 x9 0)))))
  (.ret (0, [])))
  | .c2 x0 x1 x2 x3 x4 x5 x6 x7 x8 x9 xa xb xc xd => (.br (decide (x4 < (↑x5 : Int)))
  (.bind (F141 x5 x6 x7 x8 x9 xa xb xc x0 x4) fun xe =>
  (.sees [(.agg [(.d (.sl x5 x6)), (.d (.sl x7 x8)), (aI x9), (aI xa), (.d (.sl xb xc))]), (aI x0), (aI x4)] (.ask (.eqN x1 xd) (.ask (.fits (x2 + 1) 8) (.ask (.in64 (x4 + 1)) (.nxt (.c2 x0 (xd + 1) (x2 + 1) (x3 ++ [DV.v (Value.int IntKind.i64 xe)]) (x4 + 1) x5 x6 x7 x8 x9 xa xb xc (xd + 1))))))))
  (.ret (x2, x3)))
noncomputable def F80 (x0 : Nat) (x1 : List DV) (x2 : Nat) (x3 : List DV) (x4 x5 : Int) (x6 : Nat) (x7 : List DV) (x8 : Int) : Option (Nat × List DV) := res B80 (.c0 x0 x1 x2 x3 x4 x5 x6 x7 x8)
noncomputable def D80_0 (x0 : Nat) (x1 : List DV) (x2 : Nat) (x3 : List DV) (x4 x5 : Int) (x6 : Nat) (x7 : List DV) (x8 : Int) : DT cfz := (.go 16 [] [] (.cut 1 [[1, 2, 5, 6]] []))
theorem k80_0 (x0 : Nat) (x1 : List DV) (x2 : Nat) (x3 : List DV) (x4 x5 : Int) (x6 : Nat) (x7 : List DV) (x8 : Int) : xrun cfz 80 (D80_0 x0 x1 x2 x3 x4 x5 x6 x7 x8) [] (st80 (.c0 x0 x1 x2 x3 x4 x5 x6 x7 x8)) = (B80 (.c0 x0 x1 x2 x3 x4 x5 x6 x7 x8)).mach st80 out80 := by kernel_rfl
noncomputable def D80_1 (x0 x1 : Int) (x2 : Nat) (x3 : List DV) (x4 : Nat) (x5 : List DV) (x6 x7 : Int) (x8 : Nat) (x9 : List DV) : DT cfz := (.go 9 [] [] (.split 11 (.go 9 [(.br true)] [0] (.bind (f141 x2 x3 x4 x5 x6 x7 x8 x9 x0 x1) fun xa => (.go 12 [(.ck 0)] [1, 2, 3] (.cut 3 [[1, 2, 5, 6]] [])))) (.go 8 [(.br false)] [0] .fin)))
theorem k80_1 (x0 x1 : Int) (x2 : Nat) (x3 : List DV) (x4 : Nat) (x5 : List DV) (x6 x7 : Int) (x8 : Nat) (x9 : List DV) : xrun cfz 80 (D80_1 x0 x1 x2 x3 x4 x5 x6 x7 x8 x9) [] (st80 (.c1 x0 x1 x2 x3 x4 x5 x6 x7 x8 x9)) = (B80 (.c1 x0 x1 x2 x3 x4 x5 x6 x7 x8 x9)).mach st80 out80 := by kernel_rfl
noncomputable def D80_2 (x0 : Int) (x1 x2 : Nat) (x3 : List DV) (x4 : Int) (x5 : Nat) (x6 : List DV) (x7 : Nat) (x8 : List DV) (x9 xa : Int) (xb : Nat) (xc : List DV) (xd : Nat) : DT cfz := (.go 9 [] [] (.split 11 (.go 9 [(.br true)] [0] (.bind (f141 x5 x6 x7 x8 x9 xa xb xc x0 x4) fun xe => (.go 12 [(.ck 0)] [2, 3] (.cut 3 [[1, 2, 5, 6]] [])))) (.go 8 [(.br false)] [0] .fin)))
theorem k80_2 (x0 : Int) (x1 x2 : Nat) (x3 : List DV) (x4 : Int) (x5 : Nat) (x6 : List DV) (x7 : Nat) (x8 : List DV) (x9 xa : Int) (xb : Nat) (xc : List DV) (xd : Nat) : xrun cfz 80 (D80_2 x0 x1 x2 x3 x4 x5 x6 x7 x8 x9 xa xb xc xd) [] (st80 (.c2 x0 x1 x2 x3 x4 x5 x6 x7 x8 x9 xa xb xc xd)) = (B80 (.c2 x0 x1 x2 x3 x4 x5 x6 x7 x8 x9 xa xb xc xd)).mach st80 out80 := by kernel_rfl
theorem ok80 : ∀ s, ∃ d, xrun cfz 80 d [] (st80 s) = (B80 s).mach st80 out80
  | .c0 x0 x1 x2 x3 x4 x5 x6 x7 x8 => ⟨_, k80_0 x0 x1 x2 x3 x4 x5 x6 x7 x8⟩
  | .c1 x0 x1 x2 x3 x4 x5 x6 x7 x8 x9 => ⟨_, k80_1 x0 x1 x2 x3 x4 x5 x6 x7 x8 x9⟩
  | .c2 x0 x1 x2 x3 x4 x5 x6 x7 x8 x9 xa xb xc xd => ⟨_, k80_2 x0 x1 x2 x3 x4 x5 x6 x7 x8 x9 xa xb xc xd⟩
theorem f80 (x0 : Nat) (x1 : List DV) (x2 : Nat) (x3 : List DV) (x4 x5 : Int) (x6 : Nat) (x7 : List DV) (x8 : Int) (v : Nat × List DV) (h : F80 x0 x1 x2 x3 x4 x5 x6 x7 x8 = some v) : PureCalls cfz.P cfz.glob 80 [(.agg [(.d (.sl x0 x1)), (.d (.sl x2 x3)), (aI x4), (aI x5), (.d (.sl x6 x7))]), (aI x8)] (out80 v) := tree_pure knil ok80 (s := .c0 x0 x1 x2 x3 x4 x5 x6 x7 x8) rfl (by kernel_rfl) v h
inductive S76 where
  | c0 (x0 : Nat) (x1 : List DV) (x2 : Nat) (x3 : List DV) (x4 x5 : Int) (x6 : Nat) (x7 : List DV)
  | c1 (x0 x1 : Int) (x2 : Nat) (x3 : List DV) (x4 : Nat) (x5 : List DV) (x6 x7 : Int) (x8 : Nat) (x9 : List DV)
  | c2 (x0 x1 : Nat) (x2 x3 : Int) (x4 : Nat) (x5 : List DV) (x6 : Nat) (x7 : List DV) (x8 x9 : Int) (xa : Nat) (xb : List DV) (xc : Int)
  | c3 (x0 x1 : Int) (x2 : Nat) (x3 : List DV) (x4 : Nat) (x5 : List DV) (x6 x7 : Int) (x8 : Nat) (x9 : List DV)
  | c4 (x0 x1 : Nat) (x2 x3 : Int) (x4 : Nat) (x5 : List DV) (x6 : Nat) (x7 : List DV) (x8 x9 : Int) (xa : Nat) (xb : List DV) (xc : List AV)
  | c5 (x0 x1 : Nat) (x2 x3 : Int) (x4 : Nat) (x5 : List DV) (x6 : Nat) (x7 : List DV) (x8 x9 : Int) (xa : Nat) (xb : List DV) (xc : Int)
  | c6 (x0 x1 : Int) (x2 : Nat) (x3 : List DV) (x4 x5 : Int) (x6 : Nat) (x7 : List DV) (x8 : Nat) (x9 : List DV) (xa xb : Int) (xc : Nat) (xd : List DV)
  | c7 (x0 x1 : Nat) (x2 x3 : Int) (x4 : Nat) (x5 : List DV) (x6 : Nat) (x7 : List DV) (x8 x9 : Int) (xa : Nat) (xb : List DV) (xc : List AV)
  | c8 (x0 x1 : Nat) (x2 x3 : Int) (x4 : Nat) (x5 : List DV) (x6 x7 : Int) (x8 : Nat) (x9 : List DV) (xa : Nat) (xb : List DV) (xc xd : Int) (xe : Nat) (xf : List DV) (xg : Int)
  | c9 (x0 x1 : Nat) (x2 x3 : Int) (x4 : Nat) (x5 : List DV) (x6 x7 : Int) (x8 : Nat) (x9 : List DV) (xa : Nat) (xb : List DV) (xc xd : Int) (xe : Nat) (xf : List DV) (xg : List AV)
def out76 (v : Nat × List DV × Int) : AV := (.tup [(.d (.sl v.fst v.snd.fst)), (.d (.v (.int .i64 v.snd.snd)))])
noncomputable def st76 : S76 → ASt
  | .c0 x0 x1 x2 x3 x4 x5 x6 x7 => ent cfz 76 [(.agg [(.d (.sl x0 x1)), (.d (.sl x2 x3)), (aI x4), (aI x5), (.d (.sl x6 x7))])]
  | .c1 x0 x1 x2 x3 x4 x5 x6 x7 x8 x9 => ⟨⟨140, sp 22 0 [(1, (aI 0)), (2, (.ptr 1 0)), (5, (.d (.v (.slice .none 0 0)))), (9, (aI x0)), (10, (aI x1))], [(.code (cd cfz.P 140 [1, 1, 0, 1, 0, 0])), (.inLoop (cd cfz.P 140 [1, 1, 0, 1, 0, 0])), (.inBlock 0), (.code (cd cfz.P 140 [1, 1, 1]))], [], false, .none⟩, [⟨76, sp 43 0 [(1, (.ptr 0 0))], [(.regC (opsAt cfz.P 76 [1, 1, 0]) false 1), (.code (cd cfz.P 76 [1, 1, 1]))], [], false, .none⟩], [(.cells [(.d (.sl x2 x3)), (.d (.sl x4 x5)), (aI x6), (aI x7), (.d (.sl x8 x9))] 134), (.cells [(.d (.sl x2 x3)), (.d (.sl x4 x5)), (aI x6), (aI x7), (.d (.sl x8 x9))] 134)]⟩
  | .c2 x0 x1 x2 x3 x4 x5 x6 x7 x8 x9 xa xb xc => ⟨⟨140, sp 22 0 [(1, (aI 0)), (2, (.ptr 1 0)), (5, (.ms 2 0 1 x0 x1)), (9, (aI x2)), (10, (aI x3))], [(.code (cd cfz.P 140 [1, 1, 0, 1, 0, 0])), (.inLoop (cd cfz.P 140 [1, 1, 0, 1, 0, 0])), (.inBlock 0), (.code (cd cfz.P 140 [1, 1, 1]))], [], false, .none⟩, [⟨76, sp 43 0 [(1, (.ptr 0 0))], [(.regC (opsAt cfz.P 76 [1, 1, 0]) false 1), (.code (cd cfz.P 76 [1, 1, 1]))], [], false, .none⟩], [(.cells [(.d (.sl x4 x5)), (.d (.sl x6 x7)), (aI x8), (aI x9), (.d (.sl xa xb))] 134), (.cells [(.d (.sl x4 x5)), (.d (.sl x6 x7)), (aI x8), (aI x9), (.d (.sl xa xb))] 134), (.cells [(aI xc)] 3)]⟩
  | .c3 x0 x1 x2 x3 x4 x5 x6 x7 x8 x9 => ⟨⟨76, sp 43 0 [(1, (.ptr 0 0)), (5, (.d (.v (.slice .none 0 0)))), (18, (aI x0)), (19, (aI x1))], [(.code (cd cfz.P 76 [1, 1, 1, 0, 1, 0, 0])), (.inLoop (cd cfz.P 76 [1, 1, 1, 0, 1, 0, 0])), (.inBlock 0), (.code (cd cfz.P 76 [1, 1, 1, 1]))], [], false, .none⟩, [], [(.cells [(.d (.sl x2 x3)), (.d (.sl x4 x5)), (aI x6), (aI x7), (.d (.sl x8 x9))] 134)]⟩
  | .c4 x0 x1 x2 x3 x4 x5 x6 x7 x8 x9 xa xb xc => ⟨⟨140, sp 22 0 [(1, (aI 0)), (2, (.ptr 1 0)), (5, (.ms 2 0 1 x0 x1)), (9, (aI x2)), (10, (aI x3))], [(.code (cd cfz.P 140 [1, 1, 0, 1, 0, 0])), (.inLoop (cd cfz.P 140 [1, 1, 0, 1, 0, 0])), (.inBlock 0), (.code (cd cfz.P 140 [1, 1, 1]))], [], false, .none⟩, [⟨76, sp 43 0 [(1, (.ptr 0 0))], [(.regC (opsAt cfz.P 76 [1, 1, 0]) false 1), (.code (cd cfz.P 76 [1, 1, 1]))], [], false, .none⟩], [(.cells [(.d (.sl x4 x5)), (.d (.sl x6 x7)), (aI x8), (aI x9), (.d (.sl xa xb))] 134), (.cells [(.d (.sl x4 x5)), (.d (.sl x6 x7)), (aI x8), (aI x9), (.d (.sl xa xb))] 134), (.cells xc 3)]⟩
  | .c5 x0 x1 x2 x3 x4 x5 x6 x7 x8 x9 xa xb xc => ⟨⟨76, sp 43 0 [(1, (.ptr 0 0)), (5, (.ms 1 0 1 x0 x1)), (18, (aI x2)), (19, (aI x3))], [(.code (cd cfz.P 76 [1, 1, 1, 0, 1, 0, 0])), (.inLoop (cd cfz.P 76 [1, 1, 1, 0, 1, 0, 0])), (.inBlock 0), (.code (cd cfz.P 76 [1, 1, 1, 1]))], [], false, .none⟩, [], [(.cells [(.d (.sl x4 x5)), (.d (.sl x6 x7)), (aI x8), (aI x9), (.d (.sl xa xb))] 134), (.cells [(aI xc)] 3)]⟩
  | .c6 x0 x1 x2 x3 x4 x5 x6 x7 x8 x9 xa xb xc xd => ⟨⟨76, sp 43 0 [(1, (.ptr 0 0)), (5, (.d (.v (.slice .none 0 0)))), (18, (aI x0)), (19, (aI x1)), (24, (.d (.sl x2 x3))), (25, (aI x4)), (26, (aI x5))], [(.code (cd cfz.P 76 [1, 1, 1, 0, 1, 0, 0, 1, 1, 0, 0, 1, 1, 0, 0])), (.inLoop (cd cfz.P 76 [1, 1, 1, 0, 1, 0, 0, 1, 1, 0, 0, 1, 1, 0, 0])), (.inBlock 2), (.inBlock 1), (.code (cd cfz.P 76 [1, 1, 1, 0, 1, 0, 0, 1, 1, 1])), (.inLoop (cd cfz.P 76 [1, 1, 1, 0, 1, 0, 0])), (.inBlock 0), (.code (cd cfz.P 76 [1, 1, 1, 1]))], [], false, .none⟩, [], [(.cells [(.d (.sl x6 x7)), (.d (.sl x8 x9)), (aI xa), (aI xb), (.d (.sl xc xd))] 134)]⟩
  | .c7 x0 x1 x2 x3 x4 x5 x6 x7 x8 x9 xa xb xc => ⟨⟨76, sp 43 0 [(1, (.ptr 0 0)), (5, (.ms 1 0 1 x0 x1)), (18, (aI x2)), (19, (aI x3))], [(.code (cd cfz.P 76 [1, 1, 1, 0, 1, 0, 0])), (.inLoop (cd cfz.P 76 [1, 1, 1, 0, 1, 0, 0])), (.inBlock 0), (.code (cd cfz.P 76 [1, 1, 1, 1]))], [], false, .none⟩, [], [(.cells [(.d (.sl x4 x5)), (.d (.sl x6 x7)), (aI x8), (aI x9), (.d (.sl xa xb))] 134), (.cells xc 3)]⟩
  | .c8 x0 x1 x2 x3 x4 x5 x6 x7 x8 x9 xa xb xc xd xe xf xg => ⟨⟨76, sp 43 0 [(1, (.ptr 0 0)), (5, (.ms 1 0 1 x0 x1)), (18, (aI x2)), (19, (aI x3)), (24, (.d (.sl x4 x5))), (25, (aI x6)), (26, (aI x7))], [(.code (cd cfz.P 76 [1, 1, 1, 0, 1, 0, 0, 1, 1, 0, 0, 1, 1, 0, 0])), (.inLoop (cd cfz.P 76 [1, 1, 1, 0, 1, 0, 0, 1, 1, 0, 0, 1, 1, 0, 0])), (.inBlock 2), (.inBlock 1), (.code (cd cfz.P 76 [1, 1, 1, 0, 1, 0, 0, 1, 1, 1])), (.inLoop (cd cfz.P 76 [1, 1, 1, 0, 1, 0, 0])), (.inBlock 0), (.code (cd cfz.P 76 [1, 1, 1, 1]))], [], false, .none⟩, [], [(.cells [(.d (.sl x8 x9)), (.d (.sl xa xb)), (aI xc), (aI xd), (.d (.sl xe xf))] 134), (.cells [(aI xg)] 3)]⟩
  | .c9 x0 x1 x2 x3 x4 x5 x6 x7 x8 x9 xa xb xc xd xe xf xg => ⟨⟨76, sp 43 0 [(1, (.ptr 0 0)), (5, (.ms 1 0 1 x0 x1)), (18, (aI x2)), (19, (aI x3)), (24, (.d (.sl x4 x5))), (25, (aI x6)), (26, (aI x7))], [(.code (cd cfz.P 76 [1, 1, 1, 0, 1, 0, 0, 1, 1, 0, 0, 1, 1, 0, 0])), (.inLoop (cd cfz.P 76 [1, 1, 1, 0, 1, 0, 0, 1, 1, 0, 0, 1, 1, 0, 0])), (.inBlock 2), (.inBlock 1), (.code (cd cfz.P 76 [1, 1, 1, 0, 1, 0, 0, 1, 1, 1])), (.inLoop (cd cfz.P 76 [1, 1, 1, 0, 1, 0, 0])), (.inBlock 0), (.code (cd cfz.P 76 [1, 1, 1, 1]))], [], false, .none⟩, [], [(.cells [(.d (.sl x8 x9)), (.d (.sl xa xb)), (aI xc), (aI xd), (.d (.sl xe xf))] 134), (.cells xg 3)]⟩
noncomputable def B76 : S76 → Tr S76 (Nat × List DV × Int)
  | .c0 x0 x1 x2 x3 x4 x5 x6 x7 => (.bind (F82 x0 x1 x2 x3 x4 x5 x6 x7) fun x8 =>
  (.sees [(.agg [(.d (.sl x0 x1)), (.d (.sl x2 x3)), (aI x4), (aI x5), (.d (.sl x6 x7))])] (.br (x8 != 0)
  (.ret (0, [], x8))
  (.nxt (.c1 ((↑x0 : Int)) 0 x0 x1 x2 x3 x4 x5 x6 x7)))))
  | .c1 x0 x1 x2 x3 x4 x5 x6 x7 x8 x9 => (.br (decide (x1 < x0))
  (.bind (F142 x2 x3 x4 x5 x6 x7 x8 x9 0 x1) fun xa =>
  (.sees [(.agg [(.d (.sl x2 x3)), (.d (.sl x4 x5)), (aI x6), (aI x7), (.d (.sl x8 x9))]), (aI 0), (aI x1)] (.ask (.in64 (x1 + 1)) (.nxt (.c2 1 1 x0 (x1 + 1) x2 x3 x4 x5 x6 x7 x8 x9 xa)))))
  (.nxt (.c3 ((↑x4 : Int)) 0 x2 x3 x4 x5 x6 x7 x8 x9)))
  | .c2 x0 x1 x2 x3 x4 x5 x6 x7 x8 x9 xa xb xc => (.br (decide (x3 < x2))
  (.bind (F142 x4 x5 x6 x7 x8 x9 xa xb 0 x3) fun xd =>
  (.sees [(.agg [(.d (.sl x4 x5)), (.d (.sl x6 x7)), (aI x8), (aI x9), (.d (.sl xa xb))]), (aI 0), (aI x3)] (.ask (.fits (x0 + 1) 8) (.ask (.leN (x1 * 1) 1) (.ask (.in64 (x3 + 1)) (.ask (.prop (flatK (ABlk.cells (List.take (x0 * 1) [AV.d (DV.v (Value.int IntKind.i64 xc))] ++ List.map AV.d [DV.v (Value.int IntKind.i64 xd)]) 3) = true)) (.ask (.prop (refK 3 (ABlk.cells (List.take (x0 * 1) [AV.d (DV.v (Value.int IntKind.i64 xc))] ++ List.map AV.d [DV.v (Value.int IntKind.i64 xd)]) 3) = true)) (.nxt (.c4 (x0 + 1) (x0 + 1) x2 (x3 + 1) x4 x5 x6 x7 x8 x9 xa xb (List.take (x0 * 1) [AV.d (DV.v (Value.int IntKind.i64 xc))] ++ List.map AV.d [DV.v (Value.int IntKind.i64 xd)]))))))))))
  (.nxt (.c5 x0 x1 ((↑x6 : Int)) 0 x4 x5 x6 x7 x8 x9 xa xb xc)))
  | .c3 x0 x1 x2 x3 x4 x5 x6 x7 x8 x9 => (.br (decide (x1 < x0))
  (.bind (F140 x2 x3 x4 x5 x6 x7 x8 x9 x1) fun xa =>
  (.sees [(.agg [(.d (.sl x2 x3)), (.d (.sl x4 x5)), (aI x6), (aI x7), (.d (.sl x8 x9))]), (aI x1)] (.nxt (.c6 x0 x1 xa.fst xa.snd ((↑xa.fst : Int)) 0 x2 x3 x4 x5 x6 x7 x8 x9))))
  (.ret (0, [], 0)))
  | .c4 x0 x1 x2 x3 x4 x5 x6 x7 x8 x9 xa xb xc => (.br (decide (x3 < x2))
  (.bind (F142 x4 x5 x6 x7 x8 x9 xa xb 0 x3) fun xd =>
  (.sees [(.agg [(.d (.sl x4 x5)), (.d (.sl x6 x7)), (aI x8), (aI x9), (.d (.sl xa xb))]), (aI 0), (aI x3)] (.ask (.fits (x0 + 1) 8) (.ask (.leN (x1 * 1) xc.length) (.ask (.in64 (x3 + 1)) (.ask (.prop (flatK (ABlk.cells (List.take (x0 * 1) xc ++ List.map AV.d [DV.v (Value.int IntKind.i64 xd)]) 3) = true)) (.ask (.prop (refK 3 (ABlk.cells (List.take (x0 * 1) xc ++ List.map AV.d [DV.v (Value.int IntKind.i64 xd)]) 3) = true)) (.nxt (.c4 (x0 + 1) (x0 + 1) x2 (x3 + 1) x4 x5 x6 x7 x8 x9 xa xb (List.take (x0 * 1) xc ++ List.map AV.d [DV.v (Value.int IntKind.i64 xd)]))))))))))
  (.ask (.prop (flatK (ABlk.cells xc 3) = true)) (.ask (.prop (refK 2 (ABlk.cells xc 3) = true)) (.nxt (.c7 x0 x1 ((↑x6 : Int)) 0 x4 x5 x6 x7 x8 x9 xa xb xc)))))
  | .c5 x0 x1 x2 x3 x4 x5 x6 x7 x8 x9 xa xb xc => (.br (decide (x3 < x2))
  (.bind (F140 x4 x5 x6 x7 x8 x9 xa xb x3) fun xd =>
  (.sees [(.agg [(.d (.sl x4 x5)), (.d (.sl x6 x7)), (aI x8), (aI x9), (.d (.sl xa xb))]), (aI x3)] (.nxt (.c8 x0 x1 x2 x3 xd.fst xd.snd ((↑xd.fst : Int)) 0 x4 x5 x6 x7 x8 x9 xa xb xc))))
  (.ask (.leN (0 + x0 * 1) 1) (.ask (.prop (toDs (List.take (x0 * 1) (List.drop 0 [AV.d (DV.v (Value.int IntKind.i64 xc))])) = some (List.map aD (List.take (x0 * 1) (List.drop 0 [AV.d (DV.v (Value.int IntKind.i64 xc))]))))) (.ret (x0, (List.map aD (List.take (x0 * 1) (List.drop 0 [AV.d (DV.v (Value.int IntKind.i64 xc))]))), 0)))))
  | .c6 x0 x1 x2 x3 x4 x5 x6 x7 x8 x9 xa xb xc xd => (.br (decide (x5 < x4))
  .stuck
  (.ask (.in64 (x1 + 1)) (.nxt (.c3 x0 (x1 + 1) x6 x7 x8 x9 xa xb xc xd))))
  | .c7 x0 x1 x2 x3 x4 x5 x6 x7 x8 x9 xa xb xc => (.br (decide (x3 < x2))
  (.bind (F140 x4 x5 x6 x7 x8 x9 xa xb x3) fun xd =>
  (.sees [(.agg [(.d (.sl x4 x5)), (.d (.sl x6 x7)), (aI x8), (aI x9), (.d (.sl xa xb))]), (aI x3)] (.ask (.prop (refK 2 (ABlk.cells xc 3) = true)) (.nxt (.c9 x0 x1 x2 x3 xd.fst xd.snd ((↑xd.fst : Int)) 0 x4 x5 x6 x7 x8 x9 xa xb xc)))))
  (.ask (.leN (0 + x0 * 1) xc.length) (.ask (.prop (toDs (List.take (x0 * 1) (List.drop 0 xc)) = some (List.map aD (List.take (x0 * 1) (List.drop 0 xc))))) (.ret (x0, (List.map aD (List.take (x0 * 1) (List.drop 0 xc))), 0)))))
  | .c8 x0 x1 x2 x3 x4 x5 x6 x7 x8 x9 xa xb xc xd xe xf xg => (.br (decide (x7 < x6))
  (.ask (.le 0 x7) (.ask (.lt x7 ((↑x4 : Int))) (.ask (.leN (x7.toNat * 1) x5.length) (.ask (.prop (Option.map AV.d (List.drop (x7.toNat * 1) x5)[0]? = some (AV.d (DV.v (Value.int IntKind.i64 (dI (cel x5 (x7.toNat * 1)))))))) (.ask (.le 0 x7) (.ask (.lt x7 ((↑x0 : Int))) (.ask (.prop ([AV.d (DV.v (Value.int IntKind.i64 xg))][0 + x7.toNat * 1]? = some (AV.d (DV.v (Value.int IntKind.i64 (dI (celA [AV.d (DV.v (Value.int IntKind.i64 xg))] (0 + x7.toNat * 1)))))))) (.ask (.le 0 x7) (.ask (.lt x7 ((↑x0 : Int))) (.ask (.leN (0 + x7.toNat * 1 + 1) 1) (.triv _ (tv_p (spliceA [AV.d (DV.v (Value.int IntKind.i64 xg))] (0 + x7.toNat * 1) [AV.d (DV.v (Value.int IntKind.i64 (if dI (cel x5 (x7.toNat * 1)) < dI (celA [AV.d (DV.v (Value.int IntKind.i64 xg))] (0 + x7.toNat * 1)) then dI (cel x5 (x7.toNat * 1)) else dI (celA [AV.d (DV.v (Value.int IntKind.i64 xg))] (0 + x7.toNat * 1)))))])) (.ask (.in64 (x7 + 1)) (.ask (.prop (refK 2 (ABlk.cells (spliceA [AV.d (DV.v (Value.int IntKind.i64 xg))] (0 + x7.toNat * 1) [AV.d (DV.v (Value.int IntKind.i64 (if dI (cel x5 (x7.toNat * 1)) < dI (celA [AV.d (DV.v (Value.int IntKind.i64 xg))] (0 + x7.toNat * 1)) then dI (cel x5 (x7.toNat * 1)) else dI (celA [AV.d (DV.v (Value.int IntKind.i64 xg))] (0 + x7.toNat * 1)))))]) 3) = true)) (.nxt (.c9 x0 x1 x2 x3 x4 x5 x6 (x7 + 1) x8 x9 xa xb xc xd xe xf (spliceA [AV.d (DV.v (Value.int IntKind.i64 xg))] (0 + x7.toNat * 1) [AV.d (DV.v (Value.int IntKind.i64 (if dI (cel x5 (x7.toNat * 1)) < dI (celA [AV.d (DV.v (Value.int IntKind.i64 xg))] (0 + x7.toNat * 1)) then dI (cel x5 (x7.toNat * 1)) else dI (celA [AV.d (DV.v (Value.int IntKind.i64 xg))] (0 + x7.toNat * 1)))))]))))))))))))))))
  (.ask (.in64 (x3 + 1)) (.nxt (.c5 x0 x1 x2 (x3 + 1) x8 x9 xa xb xc xd xe xf xg))))
  | .c9 x0 x1 x2 x3 x4 x5 x6 x7 x8 x9 xa xb xc xd xe xf xg => (.br (decide (x7 < x6))
  (.ask (.le 0 x7) (.ask (.lt x7 ((↑x4 : Int))) (.ask (.leN (x7.toNat * 1) x5.length) (.ask (.prop (Option.map AV.d (List.drop (x7.toNat * 1) x5)[0]? = some (AV.d (DV.v (Value.int IntKind.i64 (dI (cel x5 (x7.toNat * 1)))))))) (.ask (.le 0 x7) (.ask (.lt x7 ((↑x0 : Int))) (.ask (.prop (xg[0 + x7.toNat * 1]? = some (AV.d (DV.v (Value.int IntKind.i64 (dI (celA xg (0 + x7.toNat * 1)))))))) (.ask (.le 0 x7) (.ask (.lt x7 ((↑x0 : Int))) (.ask (.leN (0 + x7.toNat * 1 + 1) xg.length) (.triv _ (tv_p (spliceA xg (0 + x7.toNat * 1) [AV.d (DV.v (Value.int IntKind.i64 (if dI (cel x5 (x7.toNat * 1)) < dI (celA xg (0 + x7.toNat * 1)) then dI (cel x5 (x7.toNat * 1)) else dI (celA xg (0 + x7.toNat * 1)))))])) (.ask (.in64 (x7 + 1)) (.ask (.prop (refK 2 (ABlk.cells (spliceA xg (0 + x7.toNat * 1) [AV.d (DV.v (Value.int IntKind.i64 (if dI (cel x5 (x7.toNat * 1)) < dI (celA xg (0 + x7.toNat * 1)) then dI (cel x5 (x7.toNat * 1)) else dI (celA xg (0 + x7.toNat * 1)))))]) 3) = true)) (.nxt (.c9 x0 x1 x2 x3 x4 x5 x6 (x7 + 1) x8 x9 xa xb xc xd xe xf (spliceA xg (0 + x7.toNat * 1) [AV.d (DV.v (Value.int IntKind.i64 (if dI (cel x5 (x7.toNat * 1)) < dI (celA xg (0 + x7.toNat * 1)) then dI (cel x5 (x7.toNat * 1)) else dI (celA xg (0 + x7.toNat * 1)))))]))))))))))))))))
  (.ask (.in64 (x3 + 1)) (.ask (.prop (refK 2 (ABlk.cells xg 3) = true)) (.nxt (.c7 x0 x1 x2 (x3 + 1) x8 x9 xa xb xc xd xe xf xg)))))
noncomputable def F76 (x0 : Nat) (x1 : List DV) (x2 : Nat) (x3 : List DV) (x4 x5 : Int) (x6 : Nat) (x7 : List DV) : Option (Nat × List DV × Int) := res B76 (.c0 x0 x1 x2 x3 x4 x5 x6 x7)
noncomputable def D76_0 (x0 : Nat) (x1 : List DV) (x2 : Nat) (x3 : List DV) (x4 x5 : Int) (x6 : Nat) (x7 : List DV) : DT cfz := (.go 10 [] [] (.bind (f82 x0 x1 x2 x3 x4 x5 x6 x7) fun x8 => (.go 8 [(.ck 0)] [] (.split 12 (.go 8 [(.br true)] [0] .fin) (.go 25 [(.br false), .enter] [0] (.cut 2 [[1, 2, 5, 9, 10], [1]] []))))))
theorem k76_0 (x0 : Nat) (x1 : List DV) (x2 : Nat) (x3 : List DV) (x4 x5 : Int) (x6 : Nat) (x7 : List DV) : xrun cfz 76 (D76_0 x0 x1 x2 x3 x4 x5 x6 x7) [] (st76 (.c0 x0 x1 x2 x3 x4 x5 x6 x7)) = (B76 (.c0 x0 x1 x2 x3 x4 x5 x6 x7)).mach st76 out76 := by kernel_rfl
noncomputable def D76_1 (x0 x1 : Int) (x2 : Nat) (x3 : List DV) (x4 : Nat) (x5 : List DV) (x6 x7 : Int) (x8 : Nat) (x9 : List DV) : DT cfz := (.go 5 [] [] (.split 11 (.go 14 [(.br true)] [0] (.bind (f142 x2 x3 x4 x5 x6 x7 x8 x9 0 x1) fun xa => (.go 11 [(.ck 0), .mg] [1, 2, 3] (.ren 2 3 [] [[1, 2, 5, 9, 10], [1]] [] (.cut 3 [[1, 2, 5, 9, 10], [1]] []))))) (.go 21 [(.br false)] [0] (.cut 1 [[1, 5, 18, 19]] []))))
theorem k76_1 (x0 x1 : Int) (x2 : Nat) (x3 : List DV) (x4 : Nat) (x5 : List DV) (x6 x7 : Int) (x8 : Nat) (x9 : List DV) : xrun cfz 76 (D76_1 x0 x1 x2 x3 x4 x5 x6 x7 x8 x9) [] (st76 (.c1 x0 x1 x2 x3 x4 x5 x6 x7 x8 x9)) = (B76 (.c1 x0 x1 x2 x3 x4 x5 x6 x7 x8 x9)).mach st76 out76 := by kernel_rfl
noncomputable def D76_2 (x0 x1 : Nat) (x2 x3 : Int) (x4 : Nat) (x5 : List DV) (x6 : Nat) (x7 : List DV) (x8 x9 : Int) (xa : Nat) (xb : List DV) (xc : Int) : DT cfz := (.go 5 [] [] (.split 11 (.go 14 [(.br true)] [0] (.bind (f142 x4 x5 x6 x7 x8 x9 xa xb 0 x3) fun xd => (.go 11 [(.ck 0), .mg] [1, 2] (.ren 2 4 [4] [[1, 2, 5, 9, 10], [1]] [] (.cutP 3 [2] [[1, 2, 5, 9, 10], [1]] []))))) (.go 21 [(.br false)] [0] (.ren 1 2 [] [[1, 5, 18, 19]] [1] (.cut 2 [[1, 5, 18, 19]] [])))))
theorem k76_2 (x0 x1 : Nat) (x2 x3 : Int) (x4 : Nat) (x5 : List DV) (x6 : Nat) (x7 : List DV) (x8 x9 : Int) (xa : Nat) (xb : List DV) (xc : Int) : xrun cfz 76 (D76_2 x0 x1 x2 x3 x4 x5 x6 x7 x8 x9 xa xb xc) [] (st76 (.c2 x0 x1 x2 x3 x4 x5 x6 x7 x8 x9 xa xb xc)) = (B76 (.c2 x0 x1 x2 x3 x4 x5 x6 x7 x8 x9 xa xb xc)).mach st76 out76 := by kernel_rfl
noncomputable def D76_3 (x0 x1 : Int) (x2 : Nat) (x3 : List DV) (x4 : Nat) (x5 : List DV) (x6 x7 : Int) (x8 : Nat) (x9 : List DV) : DT cfz := (.go 5 [] [] (.split 20 (.go 13 [(.br true)] [0] (.bind (f140 x2 x3 x4 x5 x6 x7 x8 x9 x1) fun xa => (.go 6 [(.ck 0)] [] (.cut 1 [[1, 5, 18, 19, 24, 25, 26]] [])))) (.go 9 [(.br false)] [0] .fin)))
theorem k76_3 (x0 x1 : Int) (x2 : Nat) (x3 : List DV) (x4 : Nat) (x5 : List DV) (x6 x7 : Int) (x8 : Nat) (x9 : List DV) : xrun cfz 76 (D76_3 x0 x1 x2 x3 x4 x5 x6 x7 x8 x9) [] (st76 (.c3 x0 x1 x2 x3 x4 x5 x6 x7 x8 x9)) = (B76 (.c3 x0 x1 x2 x3 x4 x5 x6 x7 x8 x9)).mach st76 out76 := by kernel_rfl
noncomputable def D76_4 (x0 x1 : Nat) (x2 x3 : Int) (x4 : Nat) (x5 : List DV) (x6 : Nat) (x7 : List DV) (x8 x9 : Int) (xa : Nat) (xb : List DV) (xc : List AV) : DT cfz := (.go 5 [] [] (.split 11 (.go 14 [(.br true)] [0] (.bind (f142 x4 x5 x6 x7 x8 x9 xa xb 0 x3) fun xd => (.go 11 [(.ck 0), .mg] [1, 2] (.ren 2 4 [4] [[1, 2, 5, 9, 10], [1]] [] (.cutP 3 [2] [[1, 2, 5, 9, 10], [1]] []))))) (.go 21 [(.br false)] [0] (.ren 1 2 [2] [[1, 5, 18, 19]] [1] (.cutP 2 [1] [[1, 5, 18, 19]] [])))))
theorem k76_4 (x0 x1 : Nat) (x2 x3 : Int) (x4 : Nat) (x5 : List DV) (x6 : Nat) (x7 : List DV) (x8 x9 : Int) (xa : Nat) (xb : List DV) (xc : List AV) : xrun cfz 76 (D76_4 x0 x1 x2 x3 x4 x5 x6 x7 x8 x9 xa xb xc) [] (st76 (.c4 x0 x1 x2 x3 x4 x5 x6 x7 x8 x9 xa xb xc)) = (B76 (.c4 x0 x1 x2 x3 x4 x5 x6 x7 x8 x9 xa xb xc)).mach st76 out76 := by kernel_rfl
noncomputable def D76_5 (x0 x1 : Nat) (x2 x3 : Int) (x4 : Nat) (x5 : List DV) (x6 : Nat) (x7 : List DV) (x8 x9 : Int) (xa : Nat) (xb : List DV) (xc : Int) : DT cfz := (.go 5 [] [] (.split 20 (.go 13 [(.br true)] [0] (.bind (f140 x4 x5 x6 x7 x8 x9 xa xb x3) fun xd => (.go 6 [(.ck 0)] [] (.cut 2 [[1, 5, 18, 19, 24, 25, 26]] [])))) (.go 9 [(.br false)] [0] .finP)))
theorem k76_5 (x0 x1 : Nat) (x2 x3 : Int) (x4 : Nat) (x5 : List DV) (x6 : Nat) (x7 : List DV) (x8 x9 : Int) (xa : Nat) (xb : List DV) (xc : Int) : xrun cfz 76 (D76_5 x0 x1 x2 x3 x4 x5 x6 x7 x8 x9 xa xb xc) [] (st76 (.c5 x0 x1 x2 x3 x4 x5 x6 x7 x8 x9 xa xb xc)) = (B76 (.c5 x0 x1 x2 x3 x4 x5 x6 x7 x8 x9 xa xb xc)).mach st76 out76 := by kernel_rfl
noncomputable def D76_6 (x0 x1 : Int) (x2 : Nat) (x3 : List DV) (x4 x5 : Int) (x6 : Nat) (x7 : List DV) (x8 : Nat) (x9 : List DV) (xa xb : Int) (xc : Nat) (xd : List DV) : DT cfz := (.go 5 [] [] (.split 27  .dead (.go 8 [(.br false)] [0] (.cut 1 [[1, 5, 18, 19]] []))))
theorem k76_6 (x0 x1 : Int) (x2 : Nat) (x3 : List DV) (x4 x5 : Int) (x6 : Nat) (x7 : List DV) (x8 : Nat) (x9 : List DV) (xa xb : Int) (xc : Nat) (xd : List DV) : xrun cfz 76 (D76_6 x0 x1 x2 x3 x4 x5 x6 x7 x8 x9 xa xb xc xd) [] (st76 (.c6 x0 x1 x2 x3 x4 x5 x6 x7 x8 x9 xa xb xc xd)) = (B76 (.c6 x0 x1 x2 x3 x4 x5 x6 x7 x8 x9 xa xb xc xd)).mach st76 out76 := by kernel_rfl
noncomputable def D76_7 (x0 x1 : Nat) (x2 x3 : Int) (x4 : Nat) (x5 : List DV) (x6 : Nat) (x7 : List DV) (x8 x9 : Int) (xa : Nat) (xb : List DV) (xc : List AV) : DT cfz := (.go 5 [] [] (.split 20 (.go 13 [(.br true)] [0] (.bind (f140 x4 x5 x6 x7 x8 x9 xa xb x3) fun xd => (.go 6 [(.ck 0)] [] (.cutP 2 [1] [[1, 5, 18, 19, 24, 25, 26]] [])))) (.go 9 [(.br false)] [0] .finP)))
theorem k76_7 (x0 x1 : Nat) (x2 x3 : Int) (x4 : Nat) (x5 : List DV) (x6 : Nat) (x7 : List DV) (x8 x9 : Int) (xa : Nat) (xb : List DV) (xc : List AV) : xrun cfz 76 (D76_7 x0 x1 x2 x3 x4 x5 x6 x7 x8 x9 xa xb xc) [] (st76 (.c7 x0 x1 x2 x3 x4 x5 x6 x7 x8 x9 xa xb xc)) = (B76 (.c7 x0 x1 x2 x3 x4 x5 x6 x7 x8 x9 xa xb xc)).mach st76 out76 := by kernel_rfl
noncomputable def D76_8 (x0 x1 : Nat) (x2 x3 : Int) (x4 : Nat) (x5 : List DV) (x6 x7 : Int) (x8 : Nat) (x9 : List DV) (xa : Nat) (xb : List DV) (xc xd : Int) (xe : Nat) (xf : List DV) (xg : Int) : DT cfz := (.go 5 [] [] (.split 27 (.go 30 [(.br true), (.as (aI (dI (cel x5 (x7.toNat * 1))))), (.as (aI (dI (celA [aI xg] (0 + x7.toNat * 1))))), (.as (.agg (spliceA [aI xg] (0 + x7.toNat * 1) [aI (if dI (cel x5 (x7.toNat * 1)) < dI (celA [AV.d (vI xg)] (0 + x7.toNat * 1)) then dI (cel x5 (x7.toNat * 1)) else dI (celA [AV.d (vI xg)] (0 + x7.toNat * 1)))])))] [0, 10] (.cutP 2 [1] [[1, 5, 18, 19, 24, 25, 26]] [])) (.go 8 [(.br false)] [0] (.cut 2 [[1, 5, 18, 19]] []))))
theorem k76_8 (x0 x1 : Nat) (x2 x3 : Int) (x4 : Nat) (x5 : List DV) (x6 x7 : Int) (x8 : Nat) (x9 : List DV) (xa : Nat) (xb : List DV) (xc xd : Int) (xe : Nat) (xf : List DV) (xg : Int) : xrun cfz 76 (D76_8 x0 x1 x2 x3 x4 x5 x6 x7 x8 x9 xa xb xc xd xe xf xg) [] (st76 (.c8 x0 x1 x2 x3 x4 x5 x6 x7 x8 x9 xa xb xc xd xe xf xg)) = (B76 (.c8 x0 x1 x2 x3 x4 x5 x6 x7 x8 x9 xa xb xc xd xe xf xg)).mach st76 out76 := by kernel_rfl
noncomputable def D76_9 (x0 x1 : Nat) (x2 x3 : Int) (x4 : Nat) (x5 : List DV) (x6 x7 : Int) (x8 : Nat) (x9 : List DV) (xa : Nat) (xb : List DV) (xc xd : Int) (xe : Nat) (xf : List DV) (xg : List AV) : DT cfz := (.go 5 [] [] (.split 27 (.go 30 [(.br true), (.as (aI (dI (cel x5 (x7.toNat * 1))))), (.as (aI (dI (celA xg (0 + x7.toNat * 1))))), (.as (.agg (spliceA xg (0 + x7.toNat * 1) [aI (if dI (cel x5 (x7.toNat * 1)) < dI (celA xg (0 + x7.toNat * 1)) then dI (cel x5 (x7.toNat * 1)) else dI (celA xg (0 + x7.toNat * 1)))])))] [0, 10] (.cutP 2 [1] [[1, 5, 18, 19, 24, 25, 26]] [])) (.go 8 [(.br false)] [0] (.cutP 2 [1] [[1, 5, 18, 19]] []))))
theorem k76_9 (x0 x1 : Nat) (x2 x3 : Int) (x4 : Nat) (x5 : List DV) (x6 x7 : Int) (x8 : Nat) (x9 : List DV) (xa : Nat) (xb : List DV) (xc xd : Int) (xe : Nat) (xf : List DV) (xg : List AV) : xrun cfz 76 (D76_9 x0 x1 x2 x3 x4 x5 x6 x7 x8 x9 xa xb xc xd xe xf xg) [] (st76 (.c9 x0 x1 x2 x3 x4 x5 x6 x7 x8 x9 xa xb xc xd xe xf xg)) = (B76 (.c9 x0 x1 x2 x3 x4 x5 x6 x7 x8 x9 xa xb xc xd xe xf xg)).mach st76 out76 := by kernel_rfl
theorem ok76 : ∀ s, ∃ d, xrun cfz 76 d [] (st76 s) = (B76 s).mach st76 out76
  | .c0 x0 x1 x2 x3 x4 x5 x6 x7 => ⟨_, k76_0 x0 x1 x2 x3 x4 x5 x6 x7⟩
  | .c1 x0 x1 x2 x3 x4 x5 x6 x7 x8 x9 => ⟨_, k76_1 x0 x1 x2 x3 x4 x5 x6 x7 x8 x9⟩
  | .c2 x0 x1 x2 x3 x4 x5 x6 x7 x8 x9 xa xb xc => ⟨_, k76_2 x0 x1 x2 x3 x4 x5 x6 x7 x8 x9 xa xb xc⟩
  | .c3 x0 x1 x2 x3 x4 x5 x6 x7 x8 x9 => ⟨_, k76_3 x0 x1 x2 x3 x4 x5 x6 x7 x8 x9⟩
  | .c4 x0 x1 x2 x3 x4 x5 x6 x7 x8 x9 xa xb xc => ⟨_, k76_4 x0 x1 x2 x3 x4 x5 x6 x7 x8 x9 xa xb xc⟩
  | .c5 x0 x1 x2 x3 x4 x5 x6 x7 x8 x9 xa xb xc => ⟨_, k76_5 x0 x1 x2 x3 x4 x5 x6 x7 x8 x9 xa xb xc⟩
  | .c6 x0 x1 x2 x3 x4 x5 x6 x7 x8 x9 xa xb xc xd => ⟨_, k76_6 x0 x1 x2 x3 x4 x5 x6 x7 x8 x9 xa xb xc xd⟩
  | .c7 x0 x1 x2 x3 x4 x5 x6 x7 x8 x9 xa xb xc => ⟨_, k76_7 x0 x1 x2 x3 x4 x5 x6 x7 x8 x9 xa xb xc⟩
  | .c8 x0 x1 x2 x3 x4 x5 x6 x7 x8 x9 xa xb xc xd xe xf xg => ⟨_, k76_8 x0 x1 x2 x3 x4 x5 x6 x7 x8 x9 xa xb xc xd xe xf xg⟩
  | .c9 x0 x1 x2 x3 x4 x5 x6 x7 x8 x9 xa xb xc xd xe xf xg => ⟨_, k76_9 x0 x1 x2 x3 x4 x5 x6 x7 x8 x9 xa xb xc xd xe xf xg⟩
theorem f76 (x0 : Nat) (x1 : List DV) (x2 : Nat) (x3 : List DV) (x4 x5 : Int) (x6 : Nat) (x7 : List DV) (v : Nat × List DV × Int) (h : F76 x0 x1 x2 x3 x4 x5 x6 x7 = some v) : PureCalls cfz.P cfz.glob 76 [(.agg [(.d (.sl x0 x1)), (.d (.sl x2 x3)), (aI x4), (aI x5), (.d (.sl x6 x7))])] (out76 v) := tree_pure knil ok76 (s := .c0 x0 x1 x2 x3 x4 x5 x6 x7) rfl (by kernel_rfl) v h
inductive S81 where
  | c0 (x0 : Nat) (x1 : List DV) (x2 : Nat) (x3 : List DV) (x4 x5 : Int) (x6 : Nat) (x7 : List DV)
  | c1 (x0 : Int) (x1 : Nat) (x2 : List DV) (x3 : Nat) (x4 : List DV) (x5 x6 : Int) (x7 : Nat) (x8 : List DV)
  | c2 (x0 x1 : Nat) (x2 : Int) (x3 : Nat) (x4 : List DV) (x5 : Nat) (x6 : List DV) (x7 x8 : Int) (x9 : Nat) (xa : List DV) (xb : Int)
  | c3 (x0 : Int) (x1 : Nat) (x2 : List DV) (x3 : Nat) (x4 : List DV) (x5 x6 : Int) (x7 : Nat) (x8 : List DV)
  | c4 (x0 x1 : Nat) (x2 : Int) (x3 : Nat) (x4 : List DV) (x5 : Nat) (x6 : List DV) (x7 x8 : Int) (x9 : Nat) (xa : List DV) (xb : List AV)
  | c5 (x0 x1 : Nat) (x2 : Int) (x3 : Nat) (x4 : List DV) (x5 : Nat) (x6 : List DV) (x7 x8 : Int) (x9 : Nat) (xa : List DV) (xb : Int)
  | c6 (x0 x1 : Nat) (x2 : Int) (x3 : Nat) (x4 : List DV) (x5 : Nat) (x6 : List DV) (x7 x8 : Int) (x9 : Nat) (xa : List DV) (xb : List AV)
  | c7 (x0 x1 : Nat) (x2 : Int) (x3 : Nat) (x4 : List DV) (x5 : Int) (x6 : Nat) (x7 : List DV) (x8 : Nat) (x9 : List DV) (xa xb : Int) (xc : Nat) (xd : List DV) (xe : Int)
  | c8 (x0 x1 : Nat) (x2 : Int) (x3 : Nat) (x4 : List DV) (x5 : Int) (x6 : Nat) (x7 : List DV) (x8 : Nat) (x9 : List DV) (xa xb : Int) (xc : Nat) (xd : List DV) (xe : List AV)
def out81 (v : Nat × List DV) : AV := (.d (.sl v.fst v.snd))
noncomputable def st81 : S81 → ASt
  | .c0 x0 x1 x2 x3 x4 x5 x6 x7 => ent cfz 81 [(.agg [(.d (.sl x0 x1)), (.d (.sl x2 x3)), (aI x4), (aI x5), (.d (.sl x6 x7))])]
  | .c1 x0 x1 x2 x3 x4 x5 x6 x7 x8 => ⟨⟨80, sp 22 0 [(1, (aI 0)), (2, (.ptr 1 0)), (5, (.d (.v (.slice .none 0 0)))), (6, (aI x0))], [(.code (cd cfz.P 80 [1, 1, 0, 1, 0, 0])), (.inLoop (cd cfz.P 80 [1, 1, 0, 1, 0, 0])), (.inBlock 0), (.code (cd cfz.P 80 [1, 1, 1]))], [], false, .none⟩, [⟨81, sp 38 0 [(1, (.ptr 0 0))], [(.regC (opsAt cfz.P 81 [1, 0]) false 1), (.code (cd cfz.P 81 [1, 1]))], [], false, .none⟩], [(.cells [(.d (.sl x1 x2)), (.d (.sl x3 x4)), (aI x5), (aI x6), (.d (.sl x7 x8))] 130), (.cells [(.d (.sl x1 x2)), (.d (.sl x3 x4)), (aI x5), (aI x6), (.d (.sl x7 x8))] 130)]⟩
  | .c2 x0 x1 x2 x3 x4 x5 x6 x7 x8 x9 xa xb => ⟨⟨80, sp 22 0 [(1, (aI 0)), (2, (.ptr 1 0)), (5, (.ms 2 0 1 x0 x1)), (6, (aI x2))], [(.code (cd cfz.P 80 [1, 1, 0, 1, 0, 0])), (.inLoop (cd cfz.P 80 [1, 1, 0, 1, 0, 0])), (.inBlock 0), (.code (cd cfz.P 80 [1, 1, 1]))], [], false, .none⟩, [⟨81, sp 38 0 [(1, (.ptr 0 0))], [(.regC (opsAt cfz.P 81 [1, 0]) false 1), (.code (cd cfz.P 81 [1, 1]))], [], false, .none⟩], [(.cells [(.d (.sl x3 x4)), (.d (.sl x5 x6)), (aI x7), (aI x8), (.d (.sl x9 xa))] 130), (.cells [(.d (.sl x3 x4)), (.d (.sl x5 x6)), (aI x7), (aI x8), (.d (.sl x9 xa))] 130), (.cells [(aI xb)] 3)]⟩
  | .c3 x0 x1 x2 x3 x4 x5 x6 x7 x8 => ⟨⟨81, sp 38 0 [(1, (.ptr 0 0)), (3, (.d (.v (.slice .none 0 0)))), (4, (aI x0))], [(.code (cd cfz.P 81 [1, 1, 0, 1, 0, 0])), (.inLoop (cd cfz.P 81 [1, 1, 0, 1, 0, 0])), (.inBlock 0), (.code (cd cfz.P 81 [1, 1, 1]))], [], false, .none⟩, [], [(.cells [(.d (.sl x1 x2)), (.d (.sl x3 x4)), (aI x5), (aI x6), (.d (.sl x7 x8))] 130)]⟩
  | .c4 x0 x1 x2 x3 x4 x5 x6 x7 x8 x9 xa xb => ⟨⟨80, sp 22 0 [(1, (aI 0)), (2, (.ptr 1 0)), (5, (.ms 2 0 1 x0 x1)), (6, (aI x2))], [(.code (cd cfz.P 80 [1, 1, 0, 1, 0, 0])), (.inLoop (cd cfz.P 80 [1, 1, 0, 1, 0, 0])), (.inBlock 0), (.code (cd cfz.P 80 [1, 1, 1]))], [], false, .none⟩, [⟨81, sp 38 0 [(1, (.ptr 0 0))], [(.regC (opsAt cfz.P 81 [1, 0]) false 1), (.code (cd cfz.P 81 [1, 1]))], [], false, .none⟩], [(.cells [(.d (.sl x3 x4)), (.d (.sl x5 x6)), (aI x7), (aI x8), (.d (.sl x9 xa))] 130), (.cells [(.d (.sl x3 x4)), (.d (.sl x5 x6)), (aI x7), (aI x8), (.d (.sl x9 xa))] 130), (.cells xb 3)]⟩
  | .c5 x0 x1 x2 x3 x4 x5 x6 x7 x8 x9 xa xb => ⟨⟨81, sp 38 0 [(1, (.ptr 0 0)), (3, (.ms 1 0 1 x0 x1)), (4, (aI x2))], [(.code (cd cfz.P 81 [1, 1, 0, 1, 0, 0])), (.inLoop (cd cfz.P 81 [1, 1, 0, 1, 0, 0])), (.inBlock 0), (.code (cd cfz.P 81 [1, 1, 1]))], [], false, .none⟩, [], [(.cells [(.d (.sl x3 x4)), (.d (.sl x5 x6)), (aI x7), (aI x8), (.d (.sl x9 xa))] 130), (.cells [(aI xb)] 3)]⟩
  | .c6 x0 x1 x2 x3 x4 x5 x6 x7 x8 x9 xa xb => ⟨⟨81, sp 38 0 [(1, (.ptr 0 0)), (3, (.ms 1 0 1 x0 x1)), (4, (aI x2))], [(.code (cd cfz.P 81 [1, 1, 0, 1, 0, 0])), (.inLoop (cd cfz.P 81 [1, 1, 0, 1, 0, 0])), (.inBlock 0), (.code (cd cfz.P 81 [1, 1, 1]))], [], false, .none⟩, [], [(.cells [(.d (.sl x3 x4)), (.d (.sl x5 x6)), (aI x7), (aI x8), (.d (.sl x9 xa))] 130), (.cells xb 3)]⟩
  | .c7 x0 x1 x2 x3 x4 x5 x6 x7 x8 x9 xa xb xc xd xe => ⟨⟨81, sp 38 0 [(1, (.ptr 0 0)), (3, (.ms 1 0 1 x0 x1)), (4, (aI x2)), (5, (.d (.sl x3 x4))), (6, (aI x5))], [(.code (cd cfz.P 81 [1, 1, 0, 1, 0, 0, 1, 0, 0, 1, 1, 0, 0])), (.inLoop (cd cfz.P 81 [1, 1, 0, 1, 0, 0, 1, 0, 0, 1, 1, 0, 0])), (.inBlock 2), (.inBlock 1), (.code (cd cfz.P 81 [1, 1, 0, 1, 0, 0, 1, 1])), (.inLoop (cd cfz.P 81 [1, 1, 0, 1, 0, 0])), (.inBlock 0), (.code (cd cfz.P 81 [1, 1, 1]))], [], false, .none⟩, [], [(.cells [(.d (.sl x6 x7)), (.d (.sl x8 x9)), (aI xa), (aI xb), (.d (.sl xc xd))] 130), (.cells [(aI xe)] 3)]⟩
  | .c8 x0 x1 x2 x3 x4 x5 x6 x7 x8 x9 xa xb xc xd xe => ⟨⟨81, sp 38 0 [(1, (.ptr 0 0)), (3, (.ms 1 0 1 x0 x1)), (4, (aI x2)), (5, (.d (.sl x3 x4))), (6, (aI x5))], [(.code (cd cfz.P 81 [1, 1, 0, 1, 0, 0, 1, 0, 0, 1, 1, 0, 0])), (.inLoop (cd cfz.P 81 [1, 1, 0, 1, 0, 0, 1, 0, 0, 1, 1, 0, 0])), (.inBlock 2), (.inBlock 1), (.code (cd cfz.P 81 [1, 1, 0, 1, 0, 0, 1, 1])), (.inLoop (cd cfz.P 81 [1, 1, 0, 1, 0, 0])), (.inBlock 0), (.code (cd cfz.P 81 [1, 1, 1]))], [], false, .none⟩, [], [(.cells [(.d (.sl x6 x7)), (.d (.sl x8 x9)), (aI xa), (aI xb), (.d (.sl xc xd))] 130), (.cells xe 3)]⟩
noncomputable def B81 : S81 → Tr S81 (Nat × List DV)
  | .c0 x0 x1 x2 x3 x4 x5 x6 x7 => (.nxt (.c1 0 x0 x1 x2 x3 x4 x5 x6 x7))
  | .c1 x0 x1 x2 x3 x4 x5 x6 x7 x8 => (.br (decide (x0 < (↑x1 : Int)))
  (.bind (F141 x1 x2 x3 x4 x5 x6 x7 x8 0 x0) fun x9 =>
  (.sees [(.agg [(.d (.sl x1 x2)), (.d (.sl x3 x4)), (aI x5), (aI x6), (.d (.sl x7 x8))]), (aI 0), (aI x0)] (.ask (.in64 (x0 + 1)) (.nxt (.c2 1 1 (x0 + 1) x1 x2 x3 x4 x5 x6 x7 x8 x9)))))
  (.nxt (.c3 1 x1 x2 x3 x4 x5 x6 x7 x8)))
  | .c2 x0 x1 x2 x3 x4 x5 x6 x7 x8 x9 xa xb => (.br (decide (x2 < (↑x3 : Int)))
  (.bind (F141 x3 x4 x5 x6 x7 x8 x9 xa 0 x2) fun xc =>
  (.sees [(.agg [(.d (.sl x3 x4)), (.d (.sl x5 x6)), (aI x7), (aI x8), (.d (.sl x9 xa))]), (aI 0), (aI x2)] (.ask (.fits (x0 + 1) 8) (.ask (.leN (x1 * 1) 1) (.ask (.in64 (x2 + 1)) (.ask (.prop (flatK (ABlk.cells (List.take (x0 * 1) [AV.d (DV.v (Value.int IntKind.i64 xb))] ++ List.map AV.d [DV.v (Value.int IntKind.i64 xc)]) 3) = true)) (.ask (.prop (refK 3 (ABlk.cells (List.take (x0 * 1) [AV.d (DV.v (Value.int IntKind.i64 xb))] ++ List.map AV.d [DV.v (Value.int IntKind.i64 xc)]) 3) = true)) (.nxt (.c4 (x0 + 1) (x0 + 1) (x2 + 1) x3 x4 x5 x6 x7 x8 x9 xa (List.take (x0 * 1) [AV.d (DV.v (Value.int IntKind.i64 xb))] ++ List.map AV.d [DV.v (Value.int IntKind.i64 xc)]))))))))))
  (.nxt (.c5 x0 x1 1 x3 x4 x5 x6 x7 x8 x9 xa xb)))
  | .c3 x0 x1 x2 x3 x4 x5 x6 x7 x8 => (.br (decide (x0 < (↑x3 : Int)))
  (.bind (F80 x1 x2 x3 x4 x5 x6 x7 x8 x0) fun x9 =>
  (.sees [(.agg [(.d (.sl x1 x2)), (.d (.sl x3 x4)), (aI x5), (aI x6), (.d (.sl x7 x8))]), (aI x0)] (.ask (.in64 (x0 + 1)) (.nxt (.c3 (x0 + 1) x1 x2 x3 x4 x5 x6 x7 x8)))))
  (.ret (0, [])))
  | .c4 x0 x1 x2 x3 x4 x5 x6 x7 x8 x9 xa xb => (.br (decide (x2 < (↑x3 : Int)))
  (.bind (F141 x3 x4 x5 x6 x7 x8 x9 xa 0 x2) fun xc =>
  (.sees [(.agg [(.d (.sl x3 x4)), (.d (.sl x5 x6)), (aI x7), (aI x8), (.d (.sl x9 xa))]), (aI 0), (aI x2)] (.ask (.fits (x0 + 1) 8) (.ask (.leN (x1 * 1) xb.length) (.ask (.in64 (x2 + 1)) (.ask (.prop (flatK (ABlk.cells (List.take (x0 * 1) xb ++ List.map AV.d [DV.v (Value.int IntKind.i64 xc)]) 3) = true)) (.ask (.prop (refK 3 (ABlk.cells (List.take (x0 * 1) xb ++ List.map AV.d [DV.v (Value.int IntKind.i64 xc)]) 3) = true)) (.nxt (.c4 (x0 + 1) (x0 + 1) (x2 + 1) x3 x4 x5 x6 x7 x8 x9 xa (List.take (x0 * 1) xb ++ List.map AV.d [DV.v (Value.int IntKind.i64 xc)]))))))))))
  (.ask (.prop (flatK (ABlk.cells xb 3) = true)) (.ask (.prop (refK 2 (ABlk.cells xb 3) = true)) (.nxt (.c6 x0 x1 1 x3 x4 x5 x6 x7 x8 x9 xa xb)))))
  | .c5 x0 x1 x2 x3 x4 x5 x6 x7 x8 x9 xa xb => (.br (decide (x2 < (↑x5 : Int)))
  (.bind (F80 x3 x4 x5 x6 x7 x8 x9 xa x2) fun xc =>
  (.sees [(.agg [(.d (.sl x3 x4)), (.d (.sl x5 x6)), (aI x7), (aI x8), (.d (.sl x9 xa))]), (aI x2)] (.nxt (.c7 x0 x1 x2 xc.fst xc.snd 0 x3 x4 x5 x6 x7 x8 x9 xa xb))))
  (.ask (.leN (0 + x0 * 1) 1) (.ask (.prop (toDs (List.take (x0 * 1) (List.drop 0 [AV.d (DV.v (Value.int IntKind.i64 xb))])) = some (List.map aD (List.take (x0 * 1) (List.drop 0 [AV.d (DV.v (Value.int IntKind.i64 xb))]))))) (.ret (x0, (List.map aD (List.take (x0 * 1) (List.drop 0 [AV.d (DV.v (Value.int IntKind.i64 xb))]))))))))
  | .c6 x0 x1 x2 x3 x4 x5 x6 x7 x8 x9 xa xb => (.br (decide (x2 < (↑x5 : Int)))
  (.bind (F80 x3 x4 x5 x6 x7 x8 x9 xa x2) fun xc =>
  (.sees [(.agg [(.d (.sl x3 x4)), (.d (.sl x5 x6)), (aI x7), (aI x8), (.d (.sl x9 xa))]), (aI x2)] (.ask (.prop (refK 2 (ABlk.cells xb 3) = true)) (.nxt (.c8 x0 x1 x2 xc.fst xc.snd 0 x3 x4 x5 x6 x7 x8 x9 xa xb)))))
  (.ask (.leN (0 + x0 * 1) xb.length) (.ask (.prop (toDs (List.take (x0 * 1) (List.drop 0 xb)) = some (List.map aD (List.take (x0 * 1) (List.drop 0 xb))))) (.ret (x0, (List.map aD (List.take (x0 * 1) (List.drop 0 xb))))))))
  | .c7 x0 x1 x2 x3 x4 x5 x6 x7 x8 x9 xa xb xc xd xe => (.br (decide (x5 < (↑x0 : Int)))
  (.ask (.le 0 x5) (.ask (.lt x5 ((↑x0 : Int))) (.ask (.prop ([AV.d (DV.v (Value.int IntKind.i64 xe))][0 + x5.toNat * 1]? = some (AV.d (DV.v (Value.int IntKind.i64 (dI (celA [AV.d (DV.v (Value.int IntKind.i64 xe))] (0 + x5.toNat * 1)))))))) (.ask (.le 0 x5) (.ask (.lt x5 ((↑x3 : Int))) (.ask (.leN (x5.toNat * 1) x4.length) (.ask (.prop (Option.map AV.d (List.drop (x5.toNat * 1) x4)[0]? = some (AV.d (DV.v (Value.int IntKind.i64 (dI (cel x4 (x5.toNat * 1)))))))) (.ask (.le 0 x5) (.ask (.lt x5 ((↑x0 : Int))) (.ask (.leN (0 + x5.toNat * 1 + 1) 1) (.triv _ (tv_p (spliceA [AV.d (DV.v (Value.int IntKind.i64 xe))] (0 + x5.toNat * 1) [AV.d (DV.v (Value.int IntKind.i64 (if dI (cel x4 (x5.toNat * 1)) < dI (celA [AV.d (DV.v (Value.int IntKind.i64 xe))] (0 + x5.toNat * 1)) then dI (cel x4 (x5.toNat * 1)) else dI (celA [AV.d (DV.v (Value.int IntKind.i64 xe))] (0 + x5.toNat * 1)))))])) (.ask (.in64 (x5 + 1)) (.ask (.prop (refK 2 (ABlk.cells (spliceA [AV.d (DV.v (Value.int IntKind.i64 xe))] (0 + x5.toNat * 1) [AV.d (DV.v (Value.int IntKind.i64 (if dI (cel x4 (x5.toNat * 1)) < dI (celA [AV.d (DV.v (Value.int IntKind.i64 xe))] (0 + x5.toNat * 1)) then dI (cel x4 (x5.toNat * 1)) else dI (celA [AV.d (DV.v (Value.int IntKind.i64 xe))] (0 + x5.toNat * 1)))))]) 3) = true)) (.nxt (.c8 x0 x1 x2 x3 x4 (x5 + 1) x6 x7 x8 x9 xa xb xc xd (spliceA [AV.d (DV.v (Value.int IntKind.i64 xe))] (0 + x5.toNat * 1) [AV.d (DV.v (Value.int IntKind.i64 (if dI (cel x4 (x5.toNat * 1)) < dI (celA [AV.d (DV.v (Value.int IntKind.i64 xe))] (0 + x5.toNat * 1)) then dI (cel x4 (x5.toNat * 1)) else dI (celA [AV.d (DV.v (Value.int IntKind.i64 xe))] (0 + x5.toNat * 1)))))]))))))))))))))))
  (.ask (.in64 (x2 + 1)) (.nxt (.c5 x0 x1 (x2 + 1) x6 x7 x8 x9 xa xb xc xd xe))))
  | .c8 x0 x1 x2 x3 x4 x5 x6 x7 x8 x9 xa xb xc xd xe => (.br (decide (x5 < (↑x0 : Int)))
  (.ask (.le 0 x5) (.ask (.lt x5 ((↑x0 : Int))) (.ask (.prop (xe[0 + x5.toNat * 1]? = some (AV.d (DV.v (Value.int IntKind.i64 (dI (celA xe (0 + x5.toNat * 1)))))))) (.ask (.le 0 x5) (.ask (.lt x5 ((↑x3 : Int))) (.ask (.leN (x5.toNat * 1) x4.length) (.ask (.prop (Option.map AV.d (List.drop (x5.toNat * 1) x4)[0]? = some (AV.d (DV.v (Value.int IntKind.i64 (dI (cel x4 (x5.toNat * 1)))))))) (.ask (.le 0 x5) (.ask (.lt x5 ((↑x0 : Int))) (.ask (.leN (0 + x5.toNat * 1 + 1) xe.length) (.triv _ (tv_p (spliceA xe (0 + x5.toNat * 1) [AV.d (DV.v (Value.int IntKind.i64 (if dI (cel x4 (x5.toNat * 1)) < dI (celA xe (0 + x5.toNat * 1)) then dI (cel x4 (x5.toNat * 1)) else dI (celA xe (0 + x5.toNat * 1)))))])) (.ask (.in64 (x5 + 1)) (.ask (.prop (refK 2 (ABlk.cells (spliceA xe (0 + x5.toNat * 1) [AV.d (DV.v (Value.int IntKind.i64 (if dI (cel x4 (x5.toNat * 1)) < dI (celA xe (0 + x5.toNat * 1)) then dI (cel x4 (x5.toNat * 1)) else dI (celA xe (0 + x5.toNat * 1)))))]) 3) = true)) (.nxt (.c8 x0 x1 x2 x3 x4 (x5 + 1) x6 x7 x8 x9 xa xb xc xd (spliceA xe (0 + x5.toNat * 1) [AV.d (DV.v (Value.int IntKind.i64 (if dI (cel x4 (x5.toNat * 1)) < dI (celA xe (0 + x5.toNat * 1)) then dI (cel x4 (x5.toNat * 1)) else dI (celA xe (0 + x5.toNat * 1)))))]))))))))))))))))
  (.ask (.in64 (x2 + 1)) (.ask (.prop (refK 2 (ABlk.cells xe 3) = true)) (.nxt (.c6 x0 x1 (x2 + 1) x6 x7 x8 x9 xa xb xc xd xe)))))
noncomputable def F81 (x0 : Nat) (x1 : List DV) (x2 : Nat) (x3 : List DV) (x4 x5 : Int) (x6 : Nat) (x7 : List DV) : Option (Nat × List DV) := res B81 (.c0 x0 x1 x2 x3 x4 x5 x6 x7)
noncomputable def D81_0 (x0 : Nat) (x1 : List DV) (x2 : Nat) (x3 : List DV) (x4 x5 : Int) (x6 : Nat) (x7 : List DV) : DT cfz := (.go 25 [.enter] [] (.cut 2 [[1, 2, 5, 6], [1]] []))
theorem k81_0 (x0 : Nat) (x1 : List DV) (x2 : Nat) (x3 : List DV) (x4 x5 : Int) (x6 : Nat) (x7 : List DV) : xrun cfz 81 (D81_0 x0 x1 x2 x3 x4 x5 x6 x7) [] (st81 (.c0 x0 x1 x2 x3 x4 x5 x6 x7)) = (B81 (.c0 x0 x1 x2 x3 x4 x5 x6 x7)).mach st81 out81 := by kernel_rfl
noncomputable def D81_1 (x0 : Int) (x1 : Nat) (x2 : List DV) (x3 : Nat) (x4 : List DV) (x5 x6 : Int) (x7 : Nat) (x8 : List DV) : DT cfz := (.go 9 [] [] (.split 11 (.go 9 [(.br true)] [0] (.bind (f141 x1 x2 x3 x4 x5 x6 x7 x8 0 x0) fun x9 => (.go 12 [(.ck 0), .mg] [1, 2, 3] (.ren 2 3 [] [[1, 2, 5, 6], [1]] [] (.cut 3 [[1, 2, 5, 6], [1]] []))))) (.go 18 [(.br false)] [0] (.cut 1 [[1, 3, 4]] []))))
theorem k81_1 (x0 : Int) (x1 : Nat) (x2 : List DV) (x3 : Nat) (x4 : List DV) (x5 x6 : Int) (x7 : Nat) (x8 : List DV) : xrun cfz 81 (D81_1 x0 x1 x2 x3 x4 x5 x6 x7 x8) [] (st81 (.c1 x0 x1 x2 x3 x4 x5 x6 x7 x8)) = (B81 (.c1 x0 x1 x2 x3 x4 x5 x6 x7 x8)).mach st81 out81 := by kernel_rfl
noncomputable def D81_2 (x0 x1 : Nat) (x2 : Int) (x3 : Nat) (x4 : List DV) (x5 : Nat) (x6 : List DV) (x7 x8 : Int) (x9 : Nat) (xa : List DV) (xb : Int) : DT cfz := (.go 9 [] [] (.split 11 (.go 9 [(.br true)] [0] (.bind (f141 x3 x4 x5 x6 x7 x8 x9 xa 0 x2) fun xc => (.go 12 [(.ck 0), .mg] [1, 2] (.ren 2 4 [4] [[1, 2, 5, 6], [1]] [] (.cutP 3 [2] [[1, 2, 5, 6], [1]] []))))) (.go 18 [(.br false)] [0] (.ren 1 2 [] [[1, 3, 4]] [1] (.cut 2 [[1, 3, 4]] [])))))
theorem k81_2 (x0 x1 : Nat) (x2 : Int) (x3 : Nat) (x4 : List DV) (x5 : Nat) (x6 : List DV) (x7 x8 : Int) (x9 : Nat) (xa : List DV) (xb : Int) : xrun cfz 81 (D81_2 x0 x1 x2 x3 x4 x5 x6 x7 x8 x9 xa xb) [] (st81 (.c2 x0 x1 x2 x3 x4 x5 x6 x7 x8 x9 xa xb)) = (B81 (.c2 x0 x1 x2 x3 x4 x5 x6 x7 x8 x9 xa xb)).mach st81 out81 := by kernel_rfl
noncomputable def D81_3 (x0 : Int) (x1 : Nat) (x2 : List DV) (x3 : Nat) (x4 : List DV) (x5 x6 : Int) (x7 : Nat) (x8 : List DV) : DT cfz := (.go 9 [] [] (.split 13 (.go 8 [(.br true)] [0] (.bind (f80 x1 x2 x3 x4 x5 x6 x7 x8 x0) fun x9 => (.go 26 [(.ck 0), (.br false)] [1] (.cut 1 [[1, 3, 4]] [])))) (.go 8 [(.br false)] [0] .fin)))
theorem k81_3 (x0 : Int) (x1 : Nat) (x2 : List DV) (x3 : Nat) (x4 : List DV) (x5 x6 : Int) (x7 : Nat) (x8 : List DV) : xrun cfz 81 (D81_3 x0 x1 x2 x3 x4 x5 x6 x7 x8) [] (st81 (.c3 x0 x1 x2 x3 x4 x5 x6 x7 x8)) = (B81 (.c3 x0 x1 x2 x3 x4 x5 x6 x7 x8)).mach st81 out81 := by kernel_rfl
noncomputable def D81_4 (x0 x1 : Nat) (x2 : Int) (x3 : Nat) (x4 : List DV) (x5 : Nat) (x6 : List DV) (x7 x8 : Int) (x9 : Nat) (xa : List DV) (xb : List AV) : DT cfz := (.go 9 [] [] (.split 11 (.go 9 [(.br true)] [0] (.bind (f141 x3 x4 x5 x6 x7 x8 x9 xa 0 x2) fun xc => (.go 12 [(.ck 0), .mg] [1, 2] (.ren 2 4 [4] [[1, 2, 5, 6], [1]] [] (.cutP 3 [2] [[1, 2, 5, 6], [1]] []))))) (.go 18 [(.br false)] [0] (.ren 1 2 [2] [[1, 3, 4]] [1] (.cutP 2 [1] [[1, 3, 4]] [])))))
theorem k81_4 (x0 x1 : Nat) (x2 : Int) (x3 : Nat) (x4 : List DV) (x5 : Nat) (x6 : List DV) (x7 x8 : Int) (x9 : Nat) (xa : List DV) (xb : List AV) : xrun cfz 81 (D81_4 x0 x1 x2 x3 x4 x5 x6 x7 x8 x9 xa xb) [] (st81 (.c4 x0 x1 x2 x3 x4 x5 x6 x7 x8 x9 xa xb)) = (B81 (.c4 x0 x1 x2 x3 x4 x5 x6 x7 x8 x9 xa xb)).mach st81 out81 := by kernel_rfl
noncomputable def D81_5 (x0 x1 : Nat) (x2 : Int) (x3 : Nat) (x4 : List DV) (x5 : Nat) (x6 : List DV) (x7 x8 : Int) (x9 : Nat) (xa : List DV) (xb : Int) : DT cfz := (.go 9 [] [] (.split 13 (.go 8 [(.br true)] [0] (.bind (f80 x3 x4 x5 x6 x7 x8 x9 xa x2) fun xc => (.go 9 [(.ck 0)] [] (.cut 2 [[1, 3, 4, 5, 6]] [])))) (.go 8 [(.br false)] [0] .finP)))
theorem k81_5 (x0 x1 : Nat) (x2 : Int) (x3 : Nat) (x4 : List DV) (x5 : Nat) (x6 : List DV) (x7 x8 : Int) (x9 : Nat) (xa : List DV) (xb : Int) : xrun cfz 81 (D81_5 x0 x1 x2 x3 x4 x5 x6 x7 x8 x9 xa xb) [] (st81 (.c5 x0 x1 x2 x3 x4 x5 x6 x7 x8 x9 xa xb)) = (B81 (.c5 x0 x1 x2 x3 x4 x5 x6 x7 x8 x9 xa xb)).mach st81 out81 := by kernel_rfl
noncomputable def D81_6 (x0 x1 : Nat) (x2 : Int) (x3 : Nat) (x4 : List DV) (x5 : Nat) (x6 : List DV) (x7 x8 : Int) (x9 : Nat) (xa : List DV) (xb : List AV) : DT cfz := (.go 9 [] [] (.split 13 (.go 8 [(.br true)] [0] (.bind (f80 x3 x4 x5 x6 x7 x8 x9 xa x2) fun xc => (.go 9 [(.ck 0)] [] (.cutP 2 [1] [[1, 3, 4, 5, 6]] [])))) (.go 8 [(.br false)] [0] .finP)))
theorem k81_6 (x0 x1 : Nat) (x2 : Int) (x3 : Nat) (x4 : List DV) (x5 : Nat) (x6 : List DV) (x7 x8 : Int) (x9 : Nat) (xa : List DV) (xb : List AV) : xrun cfz 81 (D81_6 x0 x1 x2 x3 x4 x5 x6 x7 x8 x9 xa xb) [] (st81 (.c6 x0 x1 x2 x3 x4 x5 x6 x7 x8 x9 xa xb)) = (B81 (.c6 x0 x1 x2 x3 x4 x5 x6 x7 x8 x9 xa xb)).mach st81 out81 := by kernel_rfl
noncomputable def D81_7 (x0 x1 : Nat) (x2 : Int) (x3 : Nat) (x4 : List DV) (x5 : Int) (x6 : Nat) (x7 : List DV) (x8 : Nat) (x9 : List DV) (xa xb : Int) (xc : Nat) (xd : List DV) (xe : Int) : DT cfz := (.go 8 [] [] (.split 22 (.go 13 [(.br true), (.as (aI (dI (celA [aI xe] (0 + x5.toNat * 1))))), (.as (aI (dI (cel x4 (x5.toNat * 1))))), (.as (.agg (spliceA [aI xe] (0 + x5.toNat * 1) [aI (if dI (cel x4 (x5.toNat * 1)) < dI (celA [AV.d (vI xe)] (0 + x5.toNat * 1)) then dI (cel x4 (x5.toNat * 1)) else dI (celA [AV.d (vI xe)] (0 + x5.toNat * 1)))])))] [0, 10] (.cutP 2 [1] [[1, 3, 4, 5, 6]] [])) (.go 9 [(.br false)] [0] (.cut 2 [[1, 3, 4]] []))))
theorem k81_7 (x0 x1 : Nat) (x2 : Int) (x3 : Nat) (x4 : List DV) (x5 : Int) (x6 : Nat) (x7 : List DV) (x8 : Nat) (x9 : List DV) (xa xb : Int) (xc : Nat) (xd : List DV) (xe : Int) : xrun cfz 81 (D81_7 x0 x1 x2 x3 x4 x5 x6 x7 x8 x9 xa xb xc xd xe) [] (st81 (.c7 x0 x1 x2 x3 x4 x5 x6 x7 x8 x9 xa xb xc xd xe)) = (B81 (.c7 x0 x1 x2 x3 x4 x5 x6 x7 x8 x9 xa xb xc xd xe)).mach st81 out81 := by kernel_rfl
noncomputable def D81_8 (x0 x1 : Nat) (x2 : Int) (x3 : Nat) (x4 : List DV) (x5 : Int) (x6 : Nat) (x7 : List DV) (x8 : Nat) (x9 : List DV) (xa xb : Int) (xc : Nat) (xd : List DV) (xe : List AV) : DT cfz := (.go 8 [] [] (.split 22 (.go 13 [(.br true), (.as (aI (dI (celA xe (0 + x5.toNat * 1))))), (.as (aI (dI (cel x4 (x5.toNat * 1))))), (.as (.agg (spliceA xe (0 + x5.toNat * 1) [aI (if dI (cel x4 (x5.toNat * 1)) < dI (celA xe (0 + x5.toNat * 1)) then dI (cel x4 (x5.toNat * 1)) else dI (celA xe (0 + x5.toNat * 1)))])))] [0, 10] (.cutP 2 [1] [[1, 3, 4, 5, 6]] [])) (.go 9 [(.br false)] [0] (.cutP 2 [1] [[1, 3, 4]] []))))
theorem k81_8 (x0 x1 : Nat) (x2 : Int) (x3 : Nat) (x4 : List DV) (x5 : Int) (x6 : Nat) (x7 : List DV) (x8 : Nat) (x9 : List DV) (xa xb : Int) (xc : Nat) (xd : List DV) (xe : List AV) : xrun cfz 81 (D81_8 x0 x1 x2 x3 x4 x5 x6 x7 x8 x9 xa xb xc xd xe) [] (st81 (.c8 x0 x1 x2 x3 x4 x5 x6 x7 x8 x9 xa xb xc xd xe)) = (B81 (.c8 x0 x1 x2 x3 x4 x5 x6 x7 x8 x9 xa xb xc xd xe)).mach st81 out81 := by kernel_rfl
theorem ok81 : ∀ s, ∃ d, xrun cfz 81 d [] (st81 s) = (B81 s).mach st81 out81
  | .c0 x0 x1 x2 x3 x4 x5 x6 x7 => ⟨_, k81_0 x0 x1 x2 x3 x4 x5 x6 x7⟩
  | .c1 x0 x1 x2 x3 x4 x5 x6 x7 x8 => ⟨_, k81_1 x0 x1 x2 x3 x4 x5 x6 x7 x8⟩
  | .c2 x0 x1 x2 x3 x4 x5 x6 x7 x8 x9 xa xb => ⟨_, k81_2 x0 x1 x2 x3 x4 x5 x6 x7 x8 x9 xa xb⟩
  | .c3 x0 x1 x2 x3 x4 x5 x6 x7 x8 => ⟨_, k81_3 x0 x1 x2 x3 x4 x5 x6 x7 x8⟩
  | .c4 x0 x1 x2 x3 x4 x5 x6 x7 x8 x9 xa xb => ⟨_, k81_4 x0 x1 x2 x3 x4 x5 x6 x7 x8 x9 xa xb⟩
  | .c5 x0 x1 x2 x3 x4 x5 x6 x7 x8 x9 xa xb => ⟨_, k81_5 x0 x1 x2 x3 x4 x5 x6 x7 x8 x9 xa xb⟩
  | .c6 x0 x1 x2 x3 x4 x5 x6 x7 x8 x9 xa xb => ⟨_, k81_6 x0 x1 x2 x3 x4 x5 x6 x7 x8 x9 xa xb⟩
  | .c7 x0 x1 x2 x3 x4 x5 x6 x7 x8 x9 xa xb xc xd xe => ⟨_, k81_7 x0 x1 x2 x3 x4 x5 x6 x7 x8 x9 xa xb xc xd xe⟩
  | .c8 x0 x1 x2 x3 x4 x5 x6 x7 x8 x9 xa xb xc xd xe => ⟨_, k81_8 x0 x1 x2 x3 x4 x5 x6 x7 x8 x9 xa xb xc xd xe⟩
theorem f81 (x0 : Nat) (x1 : List DV) (x2 : Nat) (x3 : List DV) (x4 x5 : Int) (x6 : Nat) (x7 : List DV) (v : Nat × List DV) (h : F81 x0 x1 x2 x3 x4 x5 x6 x7 = some v) : PureCalls cfz.P cfz.glob 81 [(.agg [(.d (.sl x0 x1)), (.d (.sl x2 x3)), (aI x4), (aI x5), (.d (.sl x6 x7))])] (out81 v) := tree_pure knil ok81 (s := .c0 x0 x1 x2 x3 x4 x5 x6 x7) rfl (by kernel_rfl) v h
inductive S12 where
  | c0 (x0 : Nat) (x1 : List DV) (x2 : Nat) (x3 : List DV) (x4 x5 : Int) (x6 : Nat) (x7 : List DV) (x8 x9 xa : Int)
  | c1 (x0 x1 : Int) (x2 : Nat) (x3 : List DV) (x4 : Int) (x5 : Nat) (x6 : List DV) (x7 x8 x9 xa : Int) (xb : Nat) (xc : List DV) (xd : Nat) (xe : List DV) (xf xg : Int) (xh : Nat) (xi : List DV) (xj xk xl : Int)
  | c2 (x0 x1 : Int) (x2 : Nat) (x3 : List DV) (x4 : Int) (x5 : Nat) (x6 : List DV) (x7 x8 x9 xa xb : Int) (xc : Nat) (xd : List DV) (xe : Nat) (xf : List DV) (xg xh : Int) (xi : Nat) (xj : List DV) (xk xl xm : Int)
  | c3 (x0 x1 : Int) (x2 : Nat) (x3 : List DV) (x4 : Int) (x5 : Nat) (x6 : List DV) (x7 x8 x9 xa xb : Int) (xc : Nat) (xd : List DV) (xe : Nat) (xf : List DV) (xg : Nat) (xh : List DV) (xi xj : Int) (xk : Nat) (xl : List DV)
  | c4 (x0 x1 : Int) (x2 : Nat) (x3 : List DV) (x4 : Int) (x5 : Nat) (x6 : List DV) (x7 x8 x9 xa xb : Int) (xc : Nat) (xd : List DV) (xe : Nat) (xf : List DV) (xg xh : Int) (xi : Nat) (xj : List DV)
  | c5 (x0 x1 : Int) (x2 : Nat) (x3 : List DV) (x4 : Int) (x5 : Nat) (x6 : List DV) (x7 x8 x9 xa xb : Int) (xc : Nat) (xd : List DV) (xe : Nat) (xf : List DV) (xg : Nat) (xh : List DV) (xi : Nat) (xj : List DV) (xk xl : Int) (xm : Nat) (xn : List DV)
  | c6 (x0 x1 : Int) (x2 : Nat) (x3 : List DV) (x4 : Int) (x5 : Nat) (x6 : List DV) (x7 x8 x9 xa xb : Int) (xc : Nat) (xd : List DV) (xe : Nat) (xf : List DV) (xg : Nat) (xh : List DV) (xi xj : Int) (xk : Nat) (xl : List DV)
  | c7 (x0 x1 : Int) (x2 : Nat) (x3 : List DV) (x4 : Int) (x5 : Nat) (x6 : List DV) (x7 x8 x9 xa xb : Int) (xc : Nat) (xd : List DV) (xe : Nat) (xf : List DV) (xg : Nat) (xh : List DV) (xi xj : Int) (xk : Nat) (xl : List DV)
  | c8 (x0 x1 : Int) (x2 : Nat) (x3 : List DV) (x4 : Int) (x5 : Nat) (x6 : List DV) (x7 x8 x9 xa xb : Int) (xc : Nat) (xd : List DV) (xe : Nat) (xf : List DV) (xg xh : Int) (xi : Nat) (xj : List DV)
def out12 (v : Bool) : AV := (.d (.v (.bool v)))
noncomputable def st12 : S12 → ASt
  | .c0 x0 x1 x2 x3 x4 x5 x6 x7 x8 x9 xa => ent cfz 12 [(.agg [(.d (.sl x0 x1)), (.d (.sl x2 x3)), (aI x4), (aI x5), (.d (.sl x6 x7))]), (.agg [(aI x8), (aI x9), (aI xa)])]
  | .c1 x0 x1 x2 x3 x4 x5 x6 x7 x8 x9 xa xb xc xd xe xf xg xh xi xj xk xl => ⟨⟨12, sp 124 0 [(2, (.ptr 0 0)), (3, (.ptr 1 0)), (5, (aI x0)), (6, (aI x1)), (7, (.d (.sl x2 x3))), (8, (aI x4)), (9, (.d (.sl x5 x6))), (10, (aI x7)), (11, (aI x8)), (12, (aI x9)), (13, (aI xa))], [(.code (cd cfz.P 12 [1, 1, 1, 1, 1, 1, 1, 1]))], [], false, .none⟩, [], [(.cells [(.d (.sl xb xc)), (.d (.sl xd xe)), (aI xf), (aI xg), (.d (.sl xh xi))] 130), (.cells [(aI xj), (aI xk), (aI xl)] 27)]⟩
  | .c2 x0 x1 x2 x3 x4 x5 x6 x7 x8 x9 xa xb xc xd xe xf xg xh xi xj xk xl xm => ⟨⟨12, sp 124 0 [(2, (.ptr 0 0)), (3, (.ptr 1 0)), (5, (aI x0)), (6, (aI x1)), (7, (.d (.sl x2 x3))), (8, (aI x4)), (9, (.d (.sl x5 x6))), (10, (aI x7)), (11, (aI x8)), (12, (aI x9)), (13, (aI xa)), (14, (aI xb)), (15, (.d (.v (.slice .none 0 0)))), (16, (.d (.v (.slice .none 0 0))))], [(.code (cd cfz.P 12 [1, 1, 1, 1, 1, 1, 1, 1, 1, 1, 1]))], [], false, .none⟩, [], [(.cells [(.d (.sl xc xd)), (.d (.sl xe xf)), (aI xg), (aI xh), (.d (.sl xi xj))] 130), (.cells [(aI xk), (aI xl), (aI xm)] 27)]⟩
  | .c3 x0 x1 x2 x3 x4 x5 x6 x7 x8 x9 xa xb xc xd xe xf xg xh xi xj xk xl => ⟨⟨12, sp 124 0 [(2, (.ptr 0 0)), (5, (aI x0)), (6, (aI x1)), (7, (.d (.sl x2 x3))), (8, (aI x4)), (9, (.d (.sl x5 x6))), (10, (aI x7)), (11, (aI x8)), (12, (aI x9)), (13, (aI xa)), (14, (aI xb)), (15, (.d (.sl xc xd))), (16, (.d (.v (.slice .none 0 0))))], [(.code (cd cfz.P 12 [1, 1, 1, 1, 1, 1, 1, 1, 1, 1, 1, 1]))], [], false, .none⟩, [], [(.cells [(.d (.sl xe xf)), (.d (.sl xg xh)), (aI xi), (aI xj), (.d (.sl xk xl))] 130)]⟩
  | .c4 x0 x1 x2 x3 x4 x5 x6 x7 x8 x9 xa xb xc xd xe xf xg xh xi xj => ⟨⟨12, sp 124 0 [(2, (.ptr 0 0)), (5, (aI x0)), (6, (aI x1)), (7, (.d (.sl x2 x3))), (8, (aI x4)), (9, (.d (.sl x5 x6))), (10, (aI x7)), (11, (aI x8)), (12, (aI x9)), (13, (aI xa)), (14, (aI xb)), (15, (.d (.v (.slice .none 0 0)))), (16, (.d (.v (.slice .none 0 0))))], [(.code (cd cfz.P 12 [1, 1, 1, 1, 1, 1, 1, 1, 1, 1, 1, 1]))], [], false, .none⟩, [], [(.cells [(.d (.sl xc xd)), (.d (.sl xe xf)), (aI xg), (aI xh), (.d (.sl xi xj))] 130)]⟩
  | .c5 x0 x1 x2 x3 x4 x5 x6 x7 x8 x9 xa xb xc xd xe xf xg xh xi xj xk xl xm xn => ⟨⟨12, sp 124 0 [(2, (.ptr 0 0)), (5, (aI x0)), (6, (aI x1)), (7, (.d (.sl x2 x3))), (8, (aI x4)), (9, (.d (.sl x5 x6))), (10, (aI x7)), (11, (aI x8)), (12, (aI x9)), (13, (aI xa)), (14, (aI xb)), (15, (.d (.sl xc xd))), (16, (.d (.sl xe xf)))], [(.code (cd cfz.P 12 [1, 1, 1, 1, 1, 1, 1, 1, 1, 1, 1, 1, 1]))], [], false, .none⟩, [], [(.cells [(.d (.sl xg xh)), (.d (.sl xi xj)), (aI xk), (aI xl), (.d (.sl xm xn))] 130)]⟩
  | .c6 x0 x1 x2 x3 x4 x5 x6 x7 x8 x9 xa xb xc xd xe xf xg xh xi xj xk xl => ⟨⟨12, sp 124 0 [(2, (.ptr 0 0)), (5, (aI x0)), (6, (aI x1)), (7, (.d (.sl x2 x3))), (8, (aI x4)), (9, (.d (.sl x5 x6))), (10, (aI x7)), (11, (aI x8)), (12, (aI x9)), (13, (aI xa)), (14, (aI xb)), (15, (.d (.sl xc xd))), (16, (.d (.v (.slice .none 0 0))))], [(.code (cd cfz.P 12 [1, 1, 1, 1, 1, 1, 1, 1, 1, 1, 1, 1, 1]))], [], false, .none⟩, [], [(.cells [(.d (.sl xe xf)), (.d (.sl xg xh)), (aI xi), (aI xj), (.d (.sl xk xl))] 130)]⟩
  | .c7 x0 x1 x2 x3 x4 x5 x6 x7 x8 x9 xa xb xc xd xe xf xg xh xi xj xk xl => ⟨⟨12, sp 124 0 [(2, (.ptr 0 0)), (5, (aI x0)), (6, (aI x1)), (7, (.d (.sl x2 x3))), (8, (aI x4)), (9, (.d (.sl x5 x6))), (10, (aI x7)), (11, (aI x8)), (12, (aI x9)), (13, (aI xa)), (14, (aI xb)), (15, (.d (.v (.slice .none 0 0)))), (16, (.d (.sl xc xd)))], [(.code (cd cfz.P 12 [1, 1, 1, 1, 1, 1, 1, 1, 1, 1, 1, 1, 1]))], [], false, .none⟩, [], [(.cells [(.d (.sl xe xf)), (.d (.sl xg xh)), (aI xi), (aI xj), (.d (.sl xk xl))] 130)]⟩
  | .c8 x0 x1 x2 x3 x4 x5 x6 x7 x8 x9 xa xb xc xd xe xf xg xh xi xj => ⟨⟨12, sp 124 0 [(2, (.ptr 0 0)), (5, (aI x0)), (6, (aI x1)), (7, (.d (.sl x2 x3))), (8, (aI x4)), (9, (.d (.sl x5 x6))), (10, (aI x7)), (11, (aI x8)), (12, (aI x9)), (13, (aI xa)), (14, (aI xb)), (15, (.d (.v (.slice .none 0 0)))), (16, (.d (.v (.slice .none 0 0))))], [(.code (cd cfz.P 12 [1, 1, 1, 1, 1, 1, 1, 1, 1, 1, 1, 1, 1]))], [], false, .none⟩, [], [(.cells [(.d (.sl xc xd)), (.d (.sl xe xf)), (aI xg), (aI xh), (.d (.sl xi xj))] 130)]⟩
noncomputable def B12 : S12 → Tr S12 (Bool)
  | .c0 x0 x1 x2 x3 x4 x5 x6 x7 x8 x9 xa => (.bind (F15) fun xb =>
  (.sees [] (.bind (F72 x0 x1 x2 x3 x4 x5 x6 x7) fun xc =>
  (.sees [(.agg [(.d (.sl x0 x1)), (.d (.sl x2 x3)), (aI x4), (aI x5), (.d (.sl x6 x7))])] (.triv _ (tv_s ((!xb) == false)) (.triv _ (tv_s ((!xb) == false)) (.triv _ (tv_f (!xb)) (.br (if (!xb) = true then true else !xc)
  (.sees [] (.ret xb))
  (.bind (F74 x0 x1 x2 x3 x4 x5 x6 x7) fun xd =>
  (.bind (F73 xd.fst xd.snd.fst xd.snd.snd.fst xd.snd.snd.snd.fst xd.snd.snd.snd.snd.fst xd.snd.snd.snd.snd.snd.fst xd.snd.snd.snd.snd.snd.snd.fst xd.snd.snd.snd.snd.snd.snd.snd x8 x9 xa) fun xe =>
  (.sees [(.agg [(.d (.sl x0 x1)), (.d (.sl x2 x3)), (aI x4), (aI x5), (.d (.sl x6 x7))])] (.sees [(.agg [(.d (.sl xd.fst xd.snd.fst)), (.d (.sl xd.snd.snd.fst xd.snd.snd.snd.fst)), (aI xd.snd.snd.snd.snd.fst), (aI xd.snd.snd.snd.snd.snd.fst), (.d (.sl xd.snd.snd.snd.snd.snd.snd.fst xd.snd.snd.snd.snd.snd.snd.snd))]), (aI x8), (aI x9), (aI xa)] (.bind (F75 xd.fst xd.snd.fst xd.snd.snd.fst xd.snd.snd.snd.fst xd.snd.snd.snd.snd.fst xd.snd.snd.snd.snd.snd.fst xd.snd.snd.snd.snd.snd.snd.fst xd.snd.snd.snd.snd.snd.snd.snd x8) fun xf =>
  (.sees [(.agg [(.d (.sl x0 x1)), (.d (.sl x2 x3)), (aI x4), (aI x5), (.d (.sl x6 x7))])] (.sees [(.agg [(.d (.sl xd.fst xd.snd.fst)), (.d (.sl xd.snd.snd.fst xd.snd.snd.snd.fst)), (aI xd.snd.snd.snd.snd.fst), (aI xd.snd.snd.snd.snd.snd.fst), (.d (.sl xd.snd.snd.snd.snd.snd.snd.fst xd.snd.snd.snd.snd.snd.snd.snd))]), (aI x8)] (.sees [(.agg [(.d (.sl x0 x1)), (.d (.sl x2 x3)), (aI x4), (aI x5), (.d (.sl x6 x7))])] (.bind (F76 xd.fst xd.snd.fst xd.snd.snd.fst xd.snd.snd.snd.fst xd.snd.snd.snd.snd.fst xd.snd.snd.snd.snd.snd.fst xd.snd.snd.snd.snd.snd.snd.fst xd.snd.snd.snd.snd.snd.snd.snd) fun xg =>
  (.sees [(.agg [(.d (.sl xd.fst xd.snd.fst)), (.d (.sl xd.snd.snd.fst xd.snd.snd.snd.fst)), (aI xd.snd.snd.snd.snd.fst), (aI xd.snd.snd.snd.snd.snd.fst), (.d (.sl xd.snd.snd.snd.snd.snd.snd.fst xd.snd.snd.snd.snd.snd.snd.snd))])] (.bind (F77 x0 x1 x2 x3 x4 x5 x6 x7) fun xh =>
  (.sees [(.agg [(.d (.sl x0 x1)), (.d (.sl x2 x3)), (aI x4), (aI x5), (.d (.sl x6 x7))])] (.br (xh == 0)
  (.bind (F78 ((↑x2 : Int)) x8) fun xi =>
  (.sees [(aI ((↑x2 : Int))), (aI x8)] (.bind (F78 ((↑x0 : Int)) x9) fun xj =>
  (.bind (F39 xa 0 6) fun xk =>
  (.bind (F20 3 [(.v (.int .i64 xi)), (.v (.int .i64 xj)), (.v (.int .i64 xk))]) fun xl =>
  (.sees [(aI ((↑x0 : Int))), (aI x9)] (.sees [(aI xa), (aI 0), (aI 6)] (.sees [(.d (.sl 3 [(vI xi), (vI xj), (vI xk)]))] (.nxt (.c1 xe.fst xe.snd xf.fst xf.snd.fst xf.snd.snd xg.fst xg.snd.fst xg.snd.snd xh xl xi x0 x1 x2 x3 x4 x5 x6 x7 x8 x9 xa))))))))))
  (.nxt (.c1 xe.fst xe.snd xf.fst xf.snd.fst xf.snd.snd xg.fst xg.snd.fst xg.snd.snd xh xh xh x0 x1 x2 x3 x4 x5 x6 x7 x8 x9 xa)))))))))))))))))))))))
  | .c1 x0 x1 x2 x3 x4 x5 x6 x7 x8 x9 xa xb xc xd xe xf xg xh xi xj xk xl => (.br (x9 == 0)
  (.bind (F79 xb xc xd xe xf xg xh xi xj xk xl) fun xm =>
  (.sees [(.agg [(.d (.sl xb xc)), (.d (.sl xd xe)), (aI xf), (aI xg), (.d (.sl xh xi))]), (aI xj), (aI xk), (aI xl)] (.nxt (.c2 x0 x1 x2 x3 x4 x5 x6 x7 x8 xm.snd xa xm.fst xb xc xd xe xf xg xh xi xj xk xl))))
  (.nxt (.c2 x0 x1 x2 x3 x4 x5 x6 x7 x8 x9 xa 0 xb xc xd xe xf xg xh xi xj xk xl)))
  | .c2 x0 x1 x2 x3 x4 x5 x6 x7 x8 x9 xa xb xc xd xe xf xg xh xi xj xk xl xm => (.br (xa == 0)
  (.bind (F80 xc xd xe xf xg xh xi xj xk) fun xn =>
  (.sees [(.agg [(.d (.sl xc xd)), (.d (.sl xe xf)), (aI xg), (aI xh), (.d (.sl xi xj))]), (aI xk)] (.nxt (.c3 x0 x1 x2 x3 x4 x5 x6 x7 x8 x9 xa xb xn.fst xn.snd xc xd xe xf xg xh xi xj))))
  (.nxt (.c4 x0 x1 x2 x3 x4 x5 x6 x7 x8 x9 xa xb xc xd xe xf xg xh xi xj)))
  | .c3 x0 x1 x2 x3 x4 x5 x6 x7 x8 x9 xa xb xc xd xe xf xg xh xi xj xk xl => (.br (x8 == 0)
  (.bind (F81 xe xf xg xh xi xj xk xl) fun xm =>
  (.sees [(.agg [(.d (.sl xe xf)), (.d (.sl xg xh)), (aI xi), (aI xj), (.d (.sl xk xl))])] (.nxt (.c5 x0 x1 x2 x3 x4 x5 x6 x7 x8 x9 xa xb xc xd xm.fst xm.snd xe xf xg xh xi xj xk xl))))
  (.nxt (.c6 x0 x1 x2 x3 x4 x5 x6 x7 x8 x9 xa xb xc xd xe xf xg xh xi xj xk xl)))
  | .c4 x0 x1 x2 x3 x4 x5 x6 x7 x8 x9 xa xb xc xd xe xf xg xh xi xj => (.br (x8 == 0)
  (.bind (F81 xc xd xe xf xg xh xi xj) fun xk =>
  (.sees [(.agg [(.d (.sl xc xd)), (.d (.sl xe xf)), (aI xg), (aI xh), (.d (.sl xi xj))])] (.nxt (.c7 x0 x1 x2 x3 x4 x5 x6 x7 x8 x9 xa xb xk.fst xk.snd xc xd xe xf xg xh xi xj))))
  (.nxt (.c8 x0 x1 x2 x3 x4 x5 x6 x7 x8 x9 xa xb xc xd xe xf xg xh xi xj)))
  | .c5 x0 x1 x2 x3 x4 x5 x6 x7 x8 x9 xa xb xc xd xe xf xg xh xi xj xk xl xm xn => (.bind (F74 xg xh xi xj xk xl xm xn) fun xo =>
  (.sees [(.agg [(.d (.sl xg xh)), (.d (.sl xi xj)), (aI xk), (aI xl), (.d (.sl xm xn))])] (.bind (F82 xo.fst xo.snd.fst xo.snd.snd.fst xo.snd.snd.snd.fst xo.snd.snd.snd.snd.fst xo.snd.snd.snd.snd.snd.fst xo.snd.snd.snd.snd.snd.snd.fst xo.snd.snd.snd.snd.snd.snd.snd) fun xp =>
  (.sees [(.agg [(.d (.sl xo.fst xo.snd.fst)), (.d (.sl xo.snd.snd.fst xo.snd.snd.snd.fst)), (aI xo.snd.snd.snd.snd.fst), (aI xo.snd.snd.snd.snd.snd.fst), (.d (.sl xo.snd.snd.snd.snd.snd.snd.fst xo.snd.snd.snd.snd.snd.snd.snd))])] (.bind (F83 x0 x1 x9 xb) fun xq =>
  (.sees [(aI x0), (aI x1), (aI x9), (aI xb)] (.triv _ (tv_s ((xp == x8) == true)) (.triv _ (tv_s ((xp == x8) == true)) (.triv _ (tv_s ((xp == x8) == true)) (.triv _ (tv_s ((xp == x8) == true)) (.triv _ (tv_t (xp == x8)) (.bind (F24 x2 x3 x4 xa xc xd) fun xr =>
  (.sees [(.d (.sl x2 x3)), (aI x4), (aI xa), (.d (.sl xc xd))] (.triv _ (tv_s ((if (xp == x8) = true then xq else false) == true)) (.triv _ (tv_s ((if (xp == x8) = true then xq else false) == true)) (.triv _ (tv_s ((if (xp == x8) = true then xq else false) == true)) (.triv _ (tv_s ((if (xp == x8) = true then xq else false) == true)) (.triv _ (tv_t (if (xp == x8) = true then xq else false)) (.bind (F24 x5 x6 x7 x8 xe xf) fun xs =>
  (.sees [(.d (.sl x5 x6)), (aI x7), (aI x8), (.d (.sl xe xf))] (.triv _ (tv_s ((if (if (xp == x8) = true then xq else false) = true then xr else false) == true)) (.triv _ (tv_s ((if (if (xp == x8) = true then xq else false) = true then xr else false) == true)) (.triv _ (tv_s ((if (if (xp == x8) = true then xq else false) = true then xr else false) == true)) (.triv _ (tv_s ((if (if (xp == x8) = true then xq else false) = true then xr else false) == true)) (.triv _ (tv_t (if (if (xp == x8) = true then xq else false) = true then xr else false)) (.ret (if (if (if (xp == x8) = true then xq else false) = true then xr else false) = true then xs else false)))))))))))))))))))))))))))
  | .c6 x0 x1 x2 x3 x4 x5 x6 x7 x8 x9 xa xb xc xd xe xf xg xh xi xj xk xl => (.bind (F74 xe xf xg xh xi xj xk xl) fun xm =>
  (.sees [(.agg [(.d (.sl xe xf)), (.d (.sl xg xh)), (aI xi), (aI xj), (.d (.sl xk xl))])] (.bind (F82 xm.fst xm.snd.fst xm.snd.snd.fst xm.snd.snd.snd.fst xm.snd.snd.snd.snd.fst xm.snd.snd.snd.snd.snd.fst xm.snd.snd.snd.snd.snd.snd.fst xm.snd.snd.snd.snd.snd.snd.snd) fun xn =>
  (.sees [(.agg [(.d (.sl xm.fst xm.snd.fst)), (.d (.sl xm.snd.snd.fst xm.snd.snd.snd.fst)), (aI xm.snd.snd.snd.snd.fst), (aI xm.snd.snd.snd.snd.snd.fst), (.d (.sl xm.snd.snd.snd.snd.snd.snd.fst xm.snd.snd.snd.snd.snd.snd.snd))])] (.bind (F83 x0 x1 x9 xb) fun xo =>
  (.sees [(aI x0), (aI x1), (aI x9), (aI xb)] (.triv _ (tv_s ((xn == x8) == true)) (.triv _ (tv_s ((xn == x8) == true)) (.triv _ (tv_s ((xn == x8) == true)) (.triv _ (tv_s ((xn == x8) == true)) (.triv _ (tv_t (xn == x8)) (.bind (F24 x2 x3 x4 xa xc xd) fun xp =>
  (.sees [(.d (.sl x2 x3)), (aI x4), (aI xa), (.d (.sl xc xd))] (.triv _ (tv_s ((if (xn == x8) = true then xo else false) == true)) (.triv _ (tv_s ((if (xn == x8) = true then xo else false) == true)) (.triv _ (tv_s ((if (xn == x8) = true then xo else false) == true)) (.triv _ (tv_s ((if (xn == x8) = true then xo else false) == true)) (.triv _ (tv_t (if (xn == x8) = true then xo else false)) (.bind (F24 x5 x6 x7 x8 0 []) fun xq =>
  (.sees [(.d (.sl x5 x6)), (aI x7), (aI x8), (.d (.sl 0 []))] (.triv _ (tv_s ((if (if (xn == x8) = true then xo else false) = true then xp else false) == true)) (.triv _ (tv_s ((if (if (xn == x8) = true then xo else false) = true then xp else false) == true)) (.triv _ (tv_s ((if (if (xn == x8) = true then xo else false) = true then xp else false) == true)) (.triv _ (tv_s ((if (if (xn == x8) = true then xo else false) = true then xp else false) == true)) (.triv _ (tv_t (if (if (xn == x8) = true then xo else false) = true then xp else false)) (.ret (if (if (if (xn == x8) = true then xo else false) = true then xp else false) = true then xq else false)))))))))))))))))))))))))))
  | .c7 x0 x1 x2 x3 x4 x5 x6 x7 x8 x9 xa xb xc xd xe xf xg xh xi xj xk xl => (.bind (F74 xe xf xg xh xi xj xk xl) fun xm =>
  (.sees [(.agg [(.d (.sl xe xf)), (.d (.sl xg xh)), (aI xi), (aI xj), (.d (.sl xk xl))])] (.bind (F82 xm.fst xm.snd.fst xm.snd.snd.fst xm.snd.snd.snd.fst xm.snd.snd.snd.snd.fst xm.snd.snd.snd.snd.snd.fst xm.snd.snd.snd.snd.snd.snd.fst xm.snd.snd.snd.snd.snd.snd.snd) fun xn =>
  (.sees [(.agg [(.d (.sl xm.fst xm.snd.fst)), (.d (.sl xm.snd.snd.fst xm.snd.snd.snd.fst)), (aI xm.snd.snd.snd.snd.fst), (aI xm.snd.snd.snd.snd.snd.fst), (.d (.sl xm.snd.snd.snd.snd.snd.snd.fst xm.snd.snd.snd.snd.snd.snd.snd))])] (.bind (F83 x0 x1 x9 xb) fun xo =>
  (.sees [(aI x0), (aI x1), (aI x9), (aI xb)] (.triv _ (tv_s ((xn == x8) == true)) (.triv _ (tv_s ((xn == x8) == true)) (.triv _ (tv_s ((xn == x8) == true)) (.triv _ (tv_s ((xn == x8) == true)) (.triv _ (tv_t (xn == x8)) (.bind (F24 x2 x3 x4 xa 0 []) fun xp =>
  (.sees [(.d (.sl x2 x3)), (aI x4), (aI xa), (.d (.sl 0 []))] (.triv _ (tv_s ((if (xn == x8) = true then xo else false) == true)) (.triv _ (tv_s ((if (xn == x8) = true then xo else false) == true)) (.triv _ (tv_s ((if (xn == x8) = true then xo else false) == true)) (.triv _ (tv_s ((if (xn == x8) = true then xo else false) == true)) (.triv _ (tv_t (if (xn == x8) = true then xo else false)) (.bind (F24 x5 x6 x7 x8 xc xd) fun xq =>
  (.sees [(.d (.sl x5 x6)), (aI x7), (aI x8), (.d (.sl xc xd))] (.triv _ (tv_s ((if (if (xn == x8) = true then xo else false) = true then xp else false) == true)) (.triv _ (tv_s ((if (if (xn == x8) = true then xo else false) = true then xp else false) == true)) (.triv _ (tv_s ((if (if (xn == x8) = true then xo else false) = true then xp else false) == true)) (.triv _ (tv_s ((if (if (xn == x8) = true then xo else false) = true then xp else false) == true)) (.triv _ (tv_t (if (if (xn == x8) = true then xo else false) = true then xp else false)) (.ret (if (if (if (xn == x8) = true then xo else false) = true then xp else false) = true then xq else false)))))))))))))))))))))))))))
  | .c8 x0 x1 x2 x3 x4 x5 x6 x7 x8 x9 xa xb xc xd xe xf xg xh xi xj => (.bind (F74 xc xd xe xf xg xh xi xj) fun xk =>
  (.sees [(.agg [(.d (.sl xc xd)), (.d (.sl xe xf)), (aI xg), (aI xh), (.d (.sl xi xj))])] (.bind (F82 xk.fst xk.snd.fst xk.snd.snd.fst xk.snd.snd.snd.fst xk.snd.snd.snd.snd.fst xk.snd.snd.snd.snd.snd.fst xk.snd.snd.snd.snd.snd.snd.fst xk.snd.snd.snd.snd.snd.snd.snd) fun xl =>
  (.sees [(.agg [(.d (.sl xk.fst xk.snd.fst)), (.d (.sl xk.snd.snd.fst xk.snd.snd.snd.fst)), (aI xk.snd.snd.snd.snd.fst), (aI xk.snd.snd.snd.snd.snd.fst), (.d (.sl xk.snd.snd.snd.snd.snd.snd.fst xk.snd.snd.snd.snd.snd.snd.snd))])] (.bind (F83 x0 x1 x9 xb) fun xm =>
  (.sees [(aI x0), (aI x1), (aI x9), (aI xb)] (.triv _ (tv_s ((xl == x8) == true)) (.triv _ (tv_s ((xl == x8) == true)) (.triv _ (tv_s ((xl == x8) == true)) (.triv _ (tv_s ((xl == x8) == true)) (.triv _ (tv_t (xl == x8)) (.bind (F24 x2 x3 x4 xa 0 []) fun xn =>
  (.sees [(.d (.sl x2 x3)), (aI x4), (aI xa), (.d (.sl 0 []))] (.triv _ (tv_s ((if (xl == x8) = true then xm else false) == true)) (.triv _ (tv_s ((if (xl == x8) = true then xm else false) == true)) (.triv _ (tv_s ((if (xl == x8) = true then xm else false) == true)) (.triv _ (tv_s ((if (xl == x8) = true then xm else false) == true)) (.triv _ (tv_t (if (xl == x8) = true then xm else false)) (.bind (F24 x5 x6 x7 x8 0 []) fun xo =>
  (.sees [(.d (.sl x5 x6)), (aI x7), (aI x8), (.d (.sl 0 []))] (.triv _ (tv_s ((if (if (xl == x8) = true then xm else false) = true then xn else false) == true)) (.triv _ (tv_s ((if (if (xl == x8) = true then xm else false) = true then xn else false) == true)) (.triv _ (tv_s ((if (if (xl == x8) = true then xm else false) = true then xn else false) == true)) (.triv _ (tv_s ((if (if (xl == x8) = true then xm else false) = true then xn else false) == true)) (.triv _ (tv_t (if (if (xl == x8) = true then xm else false) = true then xn else false)) (.ret (if (if (if (xl == x8) = true then xm else false) = true then xn else false) = true then xo else false)))))))))))))))))))))))))))
noncomputable def F12 (x0 : Nat) (x1 : List DV) (x2 : Nat) (x3 : List DV) (x4 x5 : Int) (x6 : Nat) (x7 : List DV) (x8 x9 xa : Int) : Option (Bool) := res B12 (.c0 x0 x1 x2 x3 x4 x5 x6 x7 x8 x9 xa)
noncomputable def D12_0 (x0 : Nat) (x1 : List DV) (x2 : Nat) (x3 : List DV) (x4 x5 : Int) (x6 : Nat) (x7 : List DV) (x8 x9 xa : Int) : DT cfz := (.go 9 [] [] (.bind (f15) fun xb => (.go 4 [(.ck 0), (.sp .none)] [] (.bind (f72 x0 x1 x2 x3 x4 x5 x6 x7) fun xc => (.go 4 [(.sp (.some 1)), (.sp .none), .mg] [] (.split 23 (.go 7 [(.br true), (.ck 0)] [0] .fin) (.go 4 [(.br false)] [0] (.bind (f74 x0 x1 x2 x3 x4 x5 x6 x7) fun xd => (.bind (f73 xd.fst xd.snd.fst xd.snd.snd.fst xd.snd.snd.snd.fst xd.snd.snd.snd.snd.fst xd.snd.snd.snd.snd.snd.fst xd.snd.snd.snd.snd.snd.snd.fst xd.snd.snd.snd.snd.snd.snd.snd x8 x9 xa) fun xe => (.go 3 [(.ck 2), (.ck 3)] [1, 2, 3, 4, 5, 6] (.bind (f75 xd.fst xd.snd.fst xd.snd.snd.fst xd.snd.snd.snd.fst xd.snd.snd.snd.snd.fst xd.snd.snd.snd.snd.snd.fst xd.snd.snd.snd.snd.snd.snd.fst xd.snd.snd.snd.snd.snd.snd.snd x8) fun xf => (.go 5 [(.ck 2), (.ck 4), (.ck 2)] [1, 2] (.bind (f76 xd.fst xd.snd.fst xd.snd.snd.fst xd.snd.snd.snd.fst xd.snd.snd.snd.snd.fst xd.snd.snd.snd.snd.snd.fst xd.snd.snd.snd.snd.snd.snd.fst xd.snd.snd.snd.snd.snd.snd.snd) fun xg => (.go 10 [(.ck 5)] [] (.bind (f77 x0 x1 x2 x3 x4 x5 x6 x7) fun xh => (.go 16 [(.ck 6)] [] (.split 56 (.go 8 [(.br true)] [0, 1, 2] (.bind (f78 ((↑x2 : Int)) x8) fun xi => (.go 4 [(.ck 7)] [] (.bind (f78 ((↑x0 : Int)) x9) fun xj => (.bind (f39 xa 0 6) fun xk => (.bind (f20 3 [(vI xi), (vI xj), (vI xk)]) fun xl => (.go 1 [(.ck 8), (.ck 9), (.ck 10)] [0, 1, 3, 4] (.cut 2 [[2, 3, 5, 6, 7, 8, 9, 10, 11, 12, 13]] [])))))))) (.go 2 [(.br false)] [0] (.cut 2 [[2, 3, 5, 6, 7, 8, 9, 10, 11, 12, 13]] [])))))))))))))))))))
theorem k12_0 (x0 : Nat) (x1 : List DV) (x2 : Nat) (x3 : List DV) (x4 x5 : Int) (x6 : Nat) (x7 : List DV) (x8 x9 xa : Int) : xrun cfz 12 (D12_0 x0 x1 x2 x3 x4 x5 x6 x7 x8 x9 xa) [] (st12 (.c0 x0 x1 x2 x3 x4 x5 x6 x7 x8 x9 xa)) = (B12 (.c0 x0 x1 x2 x3 x4 x5 x6 x7 x8 x9 xa)).mach st12 out12 := by kernel_rfl
noncomputable def D12_1 (x0 x1 : Int) (x2 : Nat) (x3 : List DV) (x4 : Int) (x5 : Nat) (x6 : List DV) (x7 x8 x9 xa : Int) (xb : Nat) (xc : List DV) (xd : Nat) (xe : List DV) (xf xg : Int) (xh : Nat) (xi : List DV) (xj xk xl : Int) : DT cfz := (.go 15 [] [] (.split 76 (.go 9 [(.br true)] [0, 1, 2, 3, 4, 5, 6] (.bind (f79 xb xc xd xe xf xg xh xi xj xk xl) fun xm => (.go 7 [(.ck 0)] [] (.cut 2 [[2, 3, 5, 6, 7, 8, 9, 10, 11, 12, 13, 14, 15, 16]] [])))) (.go 2 [(.br false)] [0] (.cut 2 [[2, 3, 5, 6, 7, 8, 9, 10, 11, 12, 13, 14, 15, 16]] []))))
theorem k12_1 (x0 x1 : Int) (x2 : Nat) (x3 : List DV) (x4 : Int) (x5 : Nat) (x6 : List DV) (x7 x8 x9 xa : Int) (xb : Nat) (xc : List DV) (xd : Nat) (xe : List DV) (xf xg : Int) (xh : Nat) (xi : List DV) (xj xk xl : Int) : xrun cfz 12 (D12_1 x0 x1 x2 x3 x4 x5 x6 x7 x8 x9 xa xb xc xd xe xf xg xh xi xj xk xl) [] (st12 (.c1 x0 x1 x2 x3 x4 x5 x6 x7 x8 x9 xa xb xc xd xe xf xg xh xi xj xk xl)) = (B12 (.c1 x0 x1 x2 x3 x4 x5 x6 x7 x8 x9 xa xb xc xd xe xf xg xh xi xj xk xl)).mach st12 out12 := by kernel_rfl
noncomputable def D12_2 (x0 x1 : Int) (x2 : Nat) (x3 : List DV) (x4 : Int) (x5 : Nat) (x6 : List DV) (x7 x8 x9 xa xb : Int) (xc : Nat) (xd : List DV) (xe : Nat) (xf : List DV) (xg xh : Int) (xi : Nat) (xj : List DV) (xk xl xm : Int) : DT cfz := (.go 6 [] [] (.split 89 (.go 5 [(.br true)] [0, 1, 2] (.bind (f80 xc xd xe xf xg xh xi xj xk) fun xn => (.go 3 [(.ck 0)] [] (.cut 1 [[2, 5, 6, 7, 8, 9, 10, 11, 12, 13, 14, 15, 16]] [])))) (.go 2 [(.br false)] [0] (.cut 1 [[2, 5, 6, 7, 8, 9, 10, 11, 12, 13, 14, 15, 16]] []))))
theorem k12_2 (x0 x1 : Int) (x2 : Nat) (x3 : List DV) (x4 : Int) (x5 : Nat) (x6 : List DV) (x7 x8 x9 xa xb : Int) (xc : Nat) (xd : List DV) (xe : Nat) (xf : List DV) (xg xh : Int) (xi : Nat) (xj : List DV) (xk xl xm : Int) : xrun cfz 12 (D12_2 x0 x1 x2 x3 x4 x5 x6 x7 x8 x9 xa xb xc xd xe xf xg xh xi xj xk xl xm) [] (st12 (.c2 x0 x1 x2 x3 x4 x5 x6 x7 x8 x9 xa xb xc xd xe xf xg xh xi xj xk xl xm)) = (B12 (.c2 x0 x1 x2 x3 x4 x5 x6 x7 x8 x9 xa xb xc xd xe xf xg xh xi xj xk xl xm)).mach st12 out12 := by kernel_rfl
noncomputable def D12_3 (x0 x1 : Int) (x2 : Nat) (x3 : List DV) (x4 : Int) (x5 : Nat) (x6 : List DV) (x7 x8 x9 xa xb : Int) (xc : Nat) (xd : List DV) (xe : Nat) (xf : List DV) (xg : Nat) (xh : List DV) (xi xj : Int) (xk : Nat) (xl : List DV) : DT cfz := (.go 6 [] [] (.split 95 (.go 3 [(.br true)] [0] (.bind (f81 xe xf xg xh xi xj xk xl) fun xm => (.go 3 [(.ck 0)] [] (.cut 1 [[2, 5, 6, 7, 8, 9, 10, 11, 12, 13, 14, 15, 16]] [])))) (.go 2 [(.br false)] [0] (.cut 1 [[2, 5, 6, 7, 8, 9, 10, 11, 12, 13, 14, 15, 16]] []))))
theorem k12_3 (x0 x1 : Int) (x2 : Nat) (x3 : List DV) (x4 : Int) (x5 : Nat) (x6 : List DV) (x7 x8 x9 xa xb : Int) (xc : Nat) (xd : List DV) (xe : Nat) (xf : List DV) (xg : Nat) (xh : List DV) (xi xj : Int) (xk : Nat) (xl : List DV) : xrun cfz 12 (D12_3 x0 x1 x2 x3 x4 x5 x6 x7 x8 x9 xa xb xc xd xe xf xg xh xi xj xk xl) [] (st12 (.c3 x0 x1 x2 x3 x4 x5 x6 x7 x8 x9 xa xb xc xd xe xf xg xh xi xj xk xl)) = (B12 (.c3 x0 x1 x2 x3 x4 x5 x6 x7 x8 x9 xa xb xc xd xe xf xg xh xi xj xk xl)).mach st12 out12 := by kernel_rfl
noncomputable def D12_4 (x0 x1 : Int) (x2 : Nat) (x3 : List DV) (x4 : Int) (x5 : Nat) (x6 : List DV) (x7 x8 x9 xa xb : Int) (xc : Nat) (xd : List DV) (xe : Nat) (xf : List DV) (xg xh : Int) (xi : Nat) (xj : List DV) : DT cfz := (.go 6 [] [] (.split 95 (.go 3 [(.br true)] [0] (.bind (f81 xc xd xe xf xg xh xi xj) fun xk => (.go 3 [(.ck 0)] [] (.cut 1 [[2, 5, 6, 7, 8, 9, 10, 11, 12, 13, 14, 15, 16]] [])))) (.go 2 [(.br false)] [0] (.cut 1 [[2, 5, 6, 7, 8, 9, 10, 11, 12, 13, 14, 15, 16]] []))))
theorem k12_4 (x0 x1 : Int) (x2 : Nat) (x3 : List DV) (x4 : Int) (x5 : Nat) (x6 : List DV) (x7 x8 x9 xa xb : Int) (xc : Nat) (xd : List DV) (xe : Nat) (xf : List DV) (xg xh : Int) (xi : Nat) (xj : List DV) : xrun cfz 12 (D12_4 x0 x1 x2 x3 x4 x5 x6 x7 x8 x9 xa xb xc xd xe xf xg xh xi xj) [] (st12 (.c4 x0 x1 x2 x3 x4 x5 x6 x7 x8 x9 xa xb xc xd xe xf xg xh xi xj)) = (B12 (.c4 x0 x1 x2 x3 x4 x5 x6 x7 x8 x9 xa xb xc xd xe xf xg xh xi xj)).mach st12 out12 := by kernel_rfl
noncomputable def D12_5 (x0 x1 : Int) (x2 : Nat) (x3 : List DV) (x4 : Int) (x5 : Nat) (x6 : List DV) (x7 x8 x9 xa xb : Int) (xc : Nat) (xd : List DV) (xe : Nat) (xf : List DV) (xg : Nat) (xh : List DV) (xi : Nat) (xj : List DV) (xk xl : Int) (xm : Nat) (xn : List DV) : DT cfz := (.go 3 [] [] (.bind (f74 xg xh xi xj xk xl xm xn) fun xo => (.go 1 [(.ck 0)] [] (.bind (f82 xo.fst xo.snd.fst xo.snd.snd.fst xo.snd.snd.snd.fst xo.snd.snd.snd.snd.fst xo.snd.snd.snd.snd.snd.fst xo.snd.snd.snd.snd.snd.snd.fst xo.snd.snd.snd.snd.snd.snd.snd) fun xp => (.go 8 [(.ck 1), (.sp .none), (.sp .none), (.sp .none), (.sp .none)] [] (.bind (f83 x0 x1 x9 xb) fun xq => (.go 7 [(.sp (.some 2)), .mg, (.sp .none), (.sp .none), (.sp .none), (.sp .none)] [] (.bind (f24 x2 x3 x4 xa xc xd) fun xr => (.go 7 [(.sp (.some 3)), .mg, (.sp .none), (.sp .none), (.sp .none), (.sp .none)] [] (.bind (f24 x5 x6 x7 x8 xe xf) fun xs => (.go 5 [(.sp (.some 4)), .mg] [] .fin)))))))))))
theorem k12_5 (x0 x1 : Int) (x2 : Nat) (x3 : List DV) (x4 : Int) (x5 : Nat) (x6 : List DV) (x7 x8 x9 xa xb : Int) (xc : Nat) (xd : List DV) (xe : Nat) (xf : List DV) (xg : Nat) (xh : List DV) (xi : Nat) (xj : List DV) (xk xl : Int) (xm : Nat) (xn : List DV) : xrun cfz 12 (D12_5 x0 x1 x2 x3 x4 x5 x6 x7 x8 x9 xa xb xc xd xe xf xg xh xi xj xk xl xm xn) [] (st12 (.c5 x0 x1 x2 x3 x4 x5 x6 x7 x8 x9 xa xb xc xd xe xf xg xh xi xj xk xl xm xn)) = (B12 (.c5 x0 x1 x2 x3 x4 x5 x6 x7 x8 x9 xa xb xc xd xe xf xg xh xi xj xk xl xm xn)).mach st12 out12 := by kernel_rfl
noncomputable def D12_6 (x0 x1 : Int) (x2 : Nat) (x3 : List DV) (x4 : Int) (x5 : Nat) (x6 : List DV) (x7 x8 x9 xa xb : Int) (xc : Nat) (xd : List DV) (xe : Nat) (xf : List DV) (xg : Nat) (xh : List DV) (xi xj : Int) (xk : Nat) (xl : List DV) : DT cfz := (.go 3 [] [] (.bind (f74 xe xf xg xh xi xj xk xl) fun xm => (.go 1 [(.ck 0)] [] (.bind (f82 xm.fst xm.snd.fst xm.snd.snd.fst xm.snd.snd.snd.fst xm.snd.snd.snd.snd.fst xm.snd.snd.snd.snd.snd.fst xm.snd.snd.snd.snd.snd.snd.fst xm.snd.snd.snd.snd.snd.snd.snd) fun xn => (.go 8 [(.ck 1), (.sp .none), (.sp .none), (.sp .none), (.sp .none)] [] (.bind (f83 x0 x1 x9 xb) fun xo => (.go 7 [(.sp (.some 2)), .mg, (.sp .none), (.sp .none), (.sp .none), (.sp .none)] [] (.bind (f24 x2 x3 x4 xa xc xd) fun xp => (.go 7 [(.sp (.some 3)), .mg, (.sp .none), (.sp .none), (.sp .none), (.sp .none)] [] (.bind (f24 x5 x6 x7 x8 0 []) fun xq => (.go 5 [(.sp (.some 4)), .mg] [] .fin)))))))))))
theorem k12_6 (x0 x1 : Int) (x2 : Nat) (x3 : List DV) (x4 : Int) (x5 : Nat) (x6 : List DV) (x7 x8 x9 xa xb : Int) (xc : Nat) (xd : List DV) (xe : Nat) (xf : List DV) (xg : Nat) (xh : List DV) (xi xj : Int) (xk : Nat) (xl : List DV) : xrun cfz 12 (D12_6 x0 x1 x2 x3 x4 x5 x6 x7 x8 x9 xa xb xc xd xe xf xg xh xi xj xk xl) [] (st12 (.c6 x0 x1 x2 x3 x4 x5 x6 x7 x8 x9 xa xb xc xd xe xf xg xh xi xj xk xl)) = (B12 (.c6 x0 x1 x2 x3 x4 x5 x6 x7 x8 x9 xa xb xc xd xe xf xg xh xi xj xk xl)).mach st12 out12 := by kernel_rfl
noncomputable def D12_7 (x0 x1 : Int) (x2 : Nat) (x3 : List DV) (x4 : Int) (x5 : Nat) (x6 : List DV) (x7 x8 x9 xa xb : Int) (xc : Nat) (xd : List DV) (xe : Nat) (xf : List DV) (xg : Nat) (xh : List DV) (xi xj : Int) (xk : Nat) (xl : List DV) : DT cfz := (.go 3 [] [] (.bind (f74 xe xf xg xh xi xj xk xl) fun xm => (.go 1 [(.ck 0)] [] (.bind (f82 xm.fst xm.snd.fst xm.snd.snd.fst xm.snd.snd.snd.fst xm.snd.snd.snd.snd.fst xm.snd.snd.snd.snd.snd.fst xm.snd.snd.snd.snd.snd.snd.fst xm.snd.snd.snd.snd.snd.snd.snd) fun xn => (.go 8 [(.ck 1), (.sp .none), (.sp .none), (.sp .none), (.sp .none)] [] (.bind (f83 x0 x1 x9 xb) fun xo => (.go 7 [(.sp (.some 2)), .mg, (.sp .none), (.sp .none), (.sp .none), (.sp .none)] [] (.bind (f24 x2 x3 x4 xa 0 []) fun xp => (.go 7 [(.sp (.some 3)), .mg, (.sp .none), (.sp .none), (.sp .none), (.sp .none)] [] (.bind (f24 x5 x6 x7 x8 xc xd) fun xq => (.go 5 [(.sp (.some 4)), .mg] [] .fin)))))))))))
theorem k12_7 (x0 x1 : Int) (x2 : Nat) (x3 : List DV) (x4 : Int) (x5 : Nat) (x6 : List DV) (x7 x8 x9 xa xb : Int) (xc : Nat) (xd : List DV) (xe : Nat) (xf : List DV) (xg : Nat) (xh : List DV) (xi xj : Int) (xk : Nat) (xl : List DV) : xrun cfz 12 (D12_7 x0 x1 x2 x3 x4 x5 x6 x7 x8 x9 xa xb xc xd xe xf xg xh xi xj xk xl) [] (st12 (.c7 x0 x1 x2 x3 x4 x5 x6 x7 x8 x9 xa xb xc xd xe xf xg xh xi xj xk xl)) = (B12 (.c7 x0 x1 x2 x3 x4 x5 x6 x7 x8 x9 xa xb xc xd xe xf xg xh xi xj xk xl)).mach st12 out12 := by kernel_rfl
noncomputable def D12_8 (x0 x1 : Int) (x2 : Nat) (x3 : List DV) (x4 : Int) (x5 : Nat) (x6 : List DV) (x7 x8 x9 xa xb : Int) (xc : Nat) (xd : List DV) (xe : Nat) (xf : List DV) (xg xh : Int) (xi : Nat) (xj : List DV) : DT cfz := (.go 3 [] [] (.bind (f74 xc xd xe xf xg xh xi xj) fun xk => (.go 1 [(.ck 0)] [] (.bind (f82 xk.fst xk.snd.fst xk.snd.snd.fst xk.snd.snd.snd.fst xk.snd.snd.snd.snd.fst xk.snd.snd.snd.snd.snd.fst xk.snd.snd.snd.snd.snd.snd.fst xk.snd.snd.snd.snd.snd.snd.snd) fun xl => (.go 8 [(.ck 1), (.sp .none), (.sp .none), (.sp .none), (.sp .none)] [] (.bind (f83 x0 x1 x9 xb) fun xm => (.go 7 [(.sp (.some 2)), .mg, (.sp .none), (.sp .none), (.sp .none), (.sp .none)] [] (.bind (f24 x2 x3 x4 xa 0 []) fun xn => (.go 7 [(.sp (.some 3)), .mg, (.sp .none), (.sp .none), (.sp .none), (.sp .none)] [] (.bind (f24 x5 x6 x7 x8 0 []) fun xo => (.go 5 [(.sp (.some 4)), .mg] [] .fin)))))))))))
theorem k12_8 (x0 x1 : Int) (x2 : Nat) (x3 : List DV) (x4 : Int) (x5 : Nat) (x6 : List DV) (x7 x8 x9 xa xb : Int) (xc : Nat) (xd : List DV) (xe : Nat) (xf : List DV) (xg xh : Int) (xi : Nat) (xj : List DV) : xrun cfz 12 (D12_8 x0 x1 x2 x3 x4 x5 x6 x7 x8 x9 xa xb xc xd xe xf xg xh xi xj) [] (st12 (.c8 x0 x1 x2 x3 x4 x5 x6 x7 x8 x9 xa xb xc xd xe xf xg xh xi xj)) = (B12 (.c8 x0 x1 x2 x3 x4 x5 x6 x7 x8 x9 xa xb xc xd xe xf xg xh xi xj)).mach st12 out12 := by kernel_rfl
theorem ok12 : ∀ s, ∃ d, xrun cfz 12 d [] (st12 s) = (B12 s).mach st12 out12
  | .c0 x0 x1 x2 x3 x4 x5 x6 x7 x8 x9 xa => ⟨_, k12_0 x0 x1 x2 x3 x4 x5 x6 x7 x8 x9 xa⟩
  | .c1 x0 x1 x2 x3 x4 x5 x6 x7 x8 x9 xa xb xc xd xe xf xg xh xi xj xk xl => ⟨_, k12_1 x0 x1 x2 x3 x4 x5 x6 x7 x8 x9 xa xb xc xd xe xf xg xh xi xj xk xl⟩
  | .c2 x0 x1 x2 x3 x4 x5 x6 x7 x8 x9 xa xb xc xd xe xf xg xh xi xj xk xl xm => ⟨_, k12_2 x0 x1 x2 x3 x4 x5 x6 x7 x8 x9 xa xb xc xd xe xf xg xh xi xj xk xl xm⟩
  | .c3 x0 x1 x2 x3 x4 x5 x6 x7 x8 x9 xa xb xc xd xe xf xg xh xi xj xk xl => ⟨_, k12_3 x0 x1 x2 x3 x4 x5 x6 x7 x8 x9 xa xb xc xd xe xf xg xh xi xj xk xl⟩
  | .c4 x0 x1 x2 x3 x4 x5 x6 x7 x8 x9 xa xb xc xd xe xf xg xh xi xj => ⟨_, k12_4 x0 x1 x2 x3 x4 x5 x6 x7 x8 x9 xa xb xc xd xe xf xg xh xi xj⟩
  | .c5 x0 x1 x2 x3 x4 x5 x6 x7 x8 x9 xa xb xc xd xe xf xg xh xi xj xk xl xm xn => ⟨_, k12_5 x0 x1 x2 x3 x4 x5 x6 x7 x8 x9 xa xb xc xd xe xf xg xh xi xj xk xl xm xn⟩
  | .c6 x0 x1 x2 x3 x4 x5 x6 x7 x8 x9 xa xb xc xd xe xf xg xh xi xj xk xl => ⟨_, k12_6 x0 x1 x2 x3 x4 x5 x6 x7 x8 x9 xa xb xc xd xe xf xg xh xi xj xk xl⟩
  | .c7 x0 x1 x2 x3 x4 x5 x6 x7 x8 x9 xa xb xc xd xe xf xg xh xi xj xk xl => ⟨_, k12_7 x0 x1 x2 x3 x4 x5 x6 x7 x8 x9 xa xb xc xd xe xf xg xh xi xj xk xl⟩
  | .c8 x0 x1 x2 x3 x4 x5 x6 x7 x8 x9 xa xb xc xd xe xf xg xh xi xj => ⟨_, k12_8 x0 x1 x2 x3 x4 x5 x6 x7 x8 x9 xa xb xc xd xe xf xg xh xi xj⟩
theorem f12 (x0 : Nat) (x1 : List DV) (x2 : Nat) (x3 : List DV) (x4 x5 : Int) (x6 : Nat) (x7 : List DV) (x8 x9 xa : Int) (v : Bool) (h : F12 x0 x1 x2 x3 x4 x5 x6 x7 x8 x9 xa = some v) : PureCalls cfz.P cfz.glob 12 [(.agg [(.d (.sl x0 x1)), (.d (.sl x2 x3)), (aI x4), (aI x5), (.d (.sl x6 x7))]), (.agg [(aI x8), (aI x9), (aI xa)])] (out12 v) := tree_pure knil ok12 (s := .c0 x0 x1 x2 x3 x4 x5 x6 x7 x8 x9 xa) rfl (by kernel_rfl) v h
end Go.Kv
