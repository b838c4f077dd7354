import Derived.Test.YtfojgeoicgmncaaGB
namespace Go.Kv
set_option linter.unusedVariables false
set_option linter.unusedSimpArgs false
open Go Go.RowKit Go.Proofs
set_option maxRecDepth 100000
inductive S42 where
  | c0 (x0 : Int) (x1 : Nat) (x2 : List DV)
def out42 (v : Int) : AV := (.d (.v (.int .i64 v)))
noncomputable def st42 : S42 → ASt
  | .c0 x0 x1 x2 => ent cfz 42 [(.agg [(aI x0), (.d (.sl x1 x2))])]
noncomputable def B42 : S42 → Tr S42 (Int)
  | .c0 x0 x1 x2 => (.bind (F53 x1 x2) fun x3 =>
  (.bind (F39 (x0 != (↑x1 : Int)) 2) fun x4 =>
  (.bind (F37 2 [(.v (.int .i64 x3)), (.v (.int .i64 x4))]) fun x5 =>
  (.sees [(.d (.sl x1 x2))] (.sees [(.d (.v (.bool (x0 != (↑x1 : Int))))), (aI 2)] (.sees [(.d (.sl 2 [(vI x3), (vI x4)]))] (.ret x5)))))))
noncomputable def F42 (x0 : Int) (x1 : Nat) (x2 : List DV) : Option (Int) := res B42 (.c0 x0 x1 x2)
noncomputable def D42_0 (x0 : Int) (x1 : Nat) (x2 : List DV) : DT cfz := (.go 7 [] [] (.bind (f53 x1 x2) fun x3 => (.bind (f39 (x0 != (↑x1 : Int)) 2) fun x4 => (.bind (f37 2 [(vI x3), (vI x4)]) fun x5 => (.go 2 [(.ck 0), (.ck 1), (.ck 2)] [] .fin)))))
theorem k42_0 (x0 : Int) (x1 : Nat) (x2 : List DV) : xrun cfz 42 (D42_0 x0 x1 x2) [] (st42 (.c0 x0 x1 x2)) = (B42 (.c0 x0 x1 x2)).mach st42 out42 := by kernel_rfl
theorem ok42 : ∀ s, ∃ d, xrun cfz 42 d [] (st42 s) = (B42 s).mach st42 out42
  | .c0 x0 x1 x2 => ⟨_, k42_0 x0 x1 x2⟩
theorem f42 (x0 : Int) (x1 : Nat) (x2 : List DV) (v : Int) (h : F42 x0 x1 x2 = some v) : PureCalls cfz.P cfz.glob 42 [(.agg [(aI x0), (.d (.sl x1 x2))])] (out42 v) := tree_pure knil ok42 (s := .c0 x0 x1 x2) rfl (by kernel_rfl) v h
inductive S63f where
  | c0 (x0 : Nat) (x1 : List DV)
  | c1 (x0 : Nat) (x1 : List DV) (x2 x3 : Int)
  | c2 (x0 x1 : Nat) (x2 : List DV) (x3 : Nat) (x4 : List DV) (x5 x6 : Int) (x7 : Nat)
def out63f (v : Nat × List DV) : AV := (.own 0 0 4 v.fst v.snd)
noncomputable def st63f : S63f → ASt
  | .c0 x0 x1 => ent cfz 63 [(.d (.sl x0 x1)), (.d (.v (.func (.func 40) (#[]) (#[]))))]
  | .c1 x0 x1 x2 x3 => ⟨⟨63, sp 22 0 [(1, (.d (.v (.func (.func 40) (#[]) (#[]))))), (5, (.d (.v (.slice .none 0 0)))), (8, (.d (.sl x0 x1))), (9, (aI x2)), (10, (aI x3))], [(.code (cd cfz.P 63 [1, 1, 0, 1, 0, 0])), (.inLoop (cd cfz.P 63 [1, 1, 0, 1, 0, 0])), (.inBlock 0), (.code (cd cfz.P 63 [1, 1, 1]))], [], false, .none⟩, [], []⟩
  | .c2 x0 x1 x2 x3 x4 x5 x6 x7 => ⟨⟨63, sp 22 0 [(1, (.d (.v (.func (.func 40) (#[]) (#[]))))), (5, (.own 2 x0 4 x1 x2)), (8, (.d (.sl x3 x4))), (9, (aI x5)), (10, (aI x6))], [(.code (cd cfz.P 63 [1, 1, 0, 1, 0, 0])), (.inLoop (cd cfz.P 63 [1, 1, 0, 1, 0, 0])), (.inBlock 0), (.code (cd cfz.P 63 [1, 1, 1]))], [], false, .none⟩, [], [.dead, (.tail 0), (.tail x7)]⟩
noncomputable def B63f : S63f → Tr S63f (Nat × List DV)
  | .c0 x0 x1 => (.nxt (.c1 x0 x1 ((↑x0 : Int)) 0))
  | .c1 x0 x1 x2 x3 => (.br (decide (x3 < x2))
  (.ask (.le 0 x3) (.ask (.lt x3 ((↑x0 : Int))) (.ask (.leN (x3.toNat * 4) x1.length) (.ask (.leN 4 ((List.drop (x3.toNat * 4) x1).length)) (.ask (.prop (List.map AV.d (List.take 4 (List.drop (x3.toNat * 4) x1)) = [AV.d (DV.v (Value.int IntKind.i64 (dI (cel x1 (x3.toNat * 4))))), AV.d (DV.v (Value.int IntKind.i64 (dI (cel x1 (x3.toNat * 4 + 1))))), AV.d (DV.v (Value.int IntKind.i64 (dI (cel x1 (x3.toNat * 4 + 2))))), AV.d (DV.sl (dN (cel x1 (x3.toNat * 4 + 3))) (dL (cel x1 (x3.toNat * 4 + 3))))])) (.bind (F40 (dI (cel x1 (x3.toNat * 4))) (dI (cel x1 (x3.toNat * 4 + 1))) (dI (cel x1 (x3.toNat * 4 + 2))) (dN (cel x1 (x3.toNat * 4 + 3))) (dL (cel x1 (x3.toNat * 4 + 3)))) fun x4 =>
  (.sees [(.agg [(aI (dI (cel x1 (x3.toNat * 4)))), (aI (dI (cel x1 (x3.toNat * 4 + 1)))), (aI (dI (cel x1 (x3.toNat * 4 + 2)))), (.d (.sl (dN (cel x1 (x3.toNat * 4 + 3))) (dL (cel x1 (x3.toNat * 4 + 3)))))])] (.ask (.in64 (x3 + 1)) (.nxt (.c2 0 1 [(.v (.int .i64 x4.fst)), (.v (.int .i64 x4.snd.fst)), (.v (.int .i64 x4.snd.snd.fst)), (.sl x4.snd.snd.snd.fst x4.snd.snd.snd.snd)] x0 x1 x2 (x3 + 1) 0))))))))))
  (.ret (0, [])))
  | .c2 x0 x1 x2 x3 x4 x5 x6 x7 => (.br (decide (x6 < x5))
  (.ask (.le 0 x6) (.ask (.lt x6 ((↑x3 : Int))) (.ask (.leN (x6.toNat * 4) x4.length) (.ask (.leN 4 ((List.drop (x6.toNat * 4) x4).length)) (.ask (.prop (List.map AV.d (List.take 4 (List.drop (x6.toNat * 4) x4)) = [AV.d (DV.v (Value.int IntKind.i64 (dI (cel x4 (x6.toNat * 4))))), AV.d (DV.v (Value.int IntKind.i64 (dI (cel x4 (x6.toNat * 4 + 1))))), AV.d (DV.v (Value.int IntKind.i64 (dI (cel x4 (x6.toNat * 4 + 2))))), AV.d (DV.sl (dN (cel x4 (x6.toNat * 4 + 3))) (dL (cel x4 (x6.toNat * 4 + 3))))])) (.bind (F40 (dI (cel x4 (x6.toNat * 4))) (dI (cel x4 (x6.toNat * 4 + 1))) (dI (cel x4 (x6.toNat * 4 + 2))) (dN (cel x4 (x6.toNat * 4 + 3))) (dL (cel x4 (x6.toNat * 4 + 3)))) fun x8 =>
  (.sees [(.agg [(aI (dI (cel x4 (x6.toNat * 4)))), (aI (dI (cel x4 (x6.toNat * 4 + 1)))), (aI (dI (cel x4 (x6.toNat * 4 + 2)))), (.d (.sl (dN (cel x4 (x6.toNat * 4 + 3))) (dL (cel x4 (x6.toNat * 4 + 3)))))])] (.ask (.eqN x0 x7) (.ask (.fits (x1 + 1) 48) (.ask (.in64 (x6 + 1)) (.nxt (.c2 (x7 + 1) (x1 + 1) (x2 ++ [DV.v (Value.int IntKind.i64 x8.fst), DV.v (Value.int IntKind.i64 x8.snd.fst), DV.v (Value.int IntKind.i64 x8.snd.snd.fst), DV.sl x8.snd.snd.snd.fst x8.snd.snd.snd.snd]) x3 x4 x5 (x6 + 1) (x7 + 1)))))))))))))
  (.ask (.eqN x0 x7) (.ask (.ltN 0 x1) (.ret (x1, x2)))))
noncomputable def F63f (x0 : Nat) (x1 : List DV) : Option (Nat × List DV) := res B63f (.c0 x0 x1)
noncomputable def D63f_0 (x0 : Nat) (x1 : List DV) : DT cfz := (.go 17 [] [] (.cut 0 [[1, 5, 8, 9, 10]] []))
theorem k63f_0 (x0 : Nat) (x1 : List DV) : xrunF cfz 63 false (D63f_0 x0 x1) [] (st63f (.c0 x0 x1)) = (B63f (.c0 x0 x1)).mach st63f out63f := by kernel_rfl
noncomputable def D63f_1 (x0 : Nat) (x1 : List DV) (x2 x3 : Int) : DT cfz := (.go 5 [] [] (.split 11 (.go 15 [(.br true), (.as (.agg [(aI (dI (cel x1 (x3.toNat * 4)))), (aI (dI (cel x1 (x3.toNat * 4 + 1)))), (aI (dI (cel x1 (x3.toNat * 4 + 2)))), (.d (.sl (dN (cel x1 (x3.toNat * 4 + 3))) (dL (cel x1 (x3.toNat * 4 + 3)))))]))] [0] (.bind (f40 (dI (cel x1 (x3.toNat * 4))) (dI (cel x1 (x3.toNat * 4 + 1))) (dI (cel x1 (x3.toNat * 4 + 2))) (dN (cel x1 (x3.toNat * 4 + 3))) (dL (cel x1 (x3.toNat * 4 + 3)))) fun x4 => (.go 11 [(.ck 0)] [1, 2, 3] (.cut 3 [[1, 5, 8, 9, 10]] [0])))) (.go 8 [(.br false)] [0] (.finF 4 false []))))
theorem k63f_1 (x0 : Nat) (x1 : List DV) (x2 x3 : Int) : xrunF cfz 63 false (D63f_1 x0 x1 x2 x3) [] (st63f (.c1 x0 x1 x2 x3)) = (B63f (.c1 x0 x1 x2 x3)).mach st63f out63f := by kernel_rfl
noncomputable def D63f_2 (x0 x1 : Nat) (x2 : List DV) (x3 : Nat) (x4 : List DV) (x5 x6 : Int) (x7 : Nat) : DT cfz := (.go 5 [] [] (.split 11 (.go 15 [(.br true), (.as (.agg [(aI (dI (cel x4 (x6.toNat * 4)))), (aI (dI (cel x4 (x6.toNat * 4 + 1)))), (aI (dI (cel x4 (x6.toNat * 4 + 2)))), (.d (.sl (dN (cel x4 (x6.toNat * 4 + 3))) (dL (cel x4 (x6.toNat * 4 + 3)))))]))] [0] (.bind (f40 (dI (cel x4 (x6.toNat * 4))) (dI (cel x4 (x6.toNat * 4 + 1))) (dI (cel x4 (x6.toNat * 4 + 2))) (dN (cel x4 (x6.toNat * 4 + 3))) (dL (cel x4 (x6.toNat * 4 + 3)))) fun x8 => (.go 11 [(.ck 0)] [2, 3] (.cut 3 [[1, 5, 8, 9, 10]] [])))) (.go 8 [(.br false)] [0] (.finF 4 false []))))
theorem k63f_2 (x0 x1 : Nat) (x2 : List DV) (x3 : Nat) (x4 : List DV) (x5 x6 : Int) (x7 : Nat) : xrunF cfz 63 false (D63f_2 x0 x1 x2 x3 x4 x5 x6 x7) [] (st63f (.c2 x0 x1 x2 x3 x4 x5 x6 x7)) = (B63f (.c2 x0 x1 x2 x3 x4 x5 x6 x7)).mach st63f out63f := by kernel_rfl
theorem ok63f : ∀ s, ∃ d, xrunF cfz 63 false d [] (st63f s) = (B63f s).mach st63f out63f
  | .c0 x0 x1 => ⟨_, k63f_0 x0 x1⟩
  | .c1 x0 x1 x2 x3 => ⟨_, k63f_1 x0 x1 x2 x3⟩
  | .c2 x0 x1 x2 x3 x4 x5 x6 x7 => ⟨_, k63f_2 x0 x1 x2 x3 x4 x5 x6 x7⟩
theorem f63f (x0 : Nat) (x1 : List DV) (v : Nat × List DV) (h : F63f x0 x1 = some v) : PureCallsF cfz.P cfz.glob 63 [(.d (.sl x0 x1)), (.d (.v (.func (.func 40) (#[]) (#[]))))] (out63f v) false := tree_pureF knil ok63f (s := .c0 x0 x1) rfl (by kernel_rfl) v h
inductive S45f where
  | c0 (x0 : Nat) (x1 : List DV)
def out45f (v : Nat × List DV) : AV := (.own 0 0 4 v.fst v.snd)
noncomputable def st45f : S45f → ASt
  | .c0 x0 x1 => ent cfz 45 [(.d (.sl x0 x1))]
noncomputable def B45f : S45f → Tr S45f (Nat × List DV)
  | .c0 x0 x1 => (.ask (.le 0 ((↑x0 : Int))) (.ask (.le ((↑x0 : Int)) ((↑x0 : Int))) (.ask (.le (48 * (↑x0 : Int)) 281474976710656) (.ask (.le ((↑x0 : Int)) 9223372036854775807) (.ask (.eqN x1.length (x0 * 4)) (.ask (.leN (0 + min x0 (↑x0 : Int).toNat * 4) ((zerosA (List.map (fun (x : Value) => AV.d (DV.v x)) (Value.agg #[Value.int IntKind.i64 0, Value.int IntKind.i64 0, Value.int IntKind.i64 0, Value.slice none 0 0]).cells.toList) (↑x0 : Int).toNat).length)) (.ask (.leN (0 + (↑x0 : Int).toNat * 4) ((spliceA (zerosA (List.map (fun (x : Value) => AV.d (DV.v x)) (Value.agg #[Value.int IntKind.i64 0, Value.int IntKind.i64 0, Value.int IntKind.i64 0, Value.slice none 0 0]).cells.toList) (↑x0 : Int).toNat) 0 (List.map AV.d (List.take (min x0 (↑x0 : Int).toNat * 4) x1))).length)) (.ask (.prop (toDs (List.take ((↑x0 : Int).toNat * 4) (List.drop 0 (spliceA (zerosA (List.map (fun (x : Value) => AV.d (DV.v x)) (Value.agg #[Value.int IntKind.i64 0, Value.int IntKind.i64 0, Value.int IntKind.i64 0, Value.slice none 0 0]).cells.toList) (↑x0 : Int).toNat) 0 (List.map AV.d (List.take (min x0 (↑x0 : Int).toNat * 4) x1))))) = some (List.map aD (List.take ((↑x0 : Int).toNat * 4) (List.drop 0 (spliceA (zerosA (List.map (fun (x : Value) => AV.d (DV.v x)) (Value.agg #[Value.int IntKind.i64 0, Value.int IntKind.i64 0, Value.int IntKind.i64 0, Value.slice none 0 0]).cells.toList) (↑x0 : Int).toNat) 0 (List.map AV.d (List.take (min x0 (↑x0 : Int).toNat * 4) x1)))))))) (.bind (F63f ((↑x0 : Int).toNat) (List.map aD (List.take ((↑x0 : Int).toNat * 4) (List.drop 0 (spliceA (zerosA (List.map (fun (x : Value) => AV.d (DV.v x)) (Value.agg #[Value.int IntKind.i64 0, Value.int IntKind.i64 0, Value.int IntKind.i64 0, Value.slice none 0 0]).cells.toList) (↑x0 : Int).toNat) 0 (List.map AV.d (List.take (min x0 (↑x0 : Int).toNat * 4) x1))))))) fun x2 =>
  (.br ((ownN (AV.own 0 0 4 x2.fst x2.snd)).beq 0)
  (.sees [(.d (.sl ((↑x0 : Int).toNat) (List.map aD (List.take ((↑x0 : Int).toNat * 4) (List.drop 0 (spliceA (zerosA (List.map (fun (x : Value) => AV.d (DV.v x)) (Value.agg #[Value.int IntKind.i64 0, Value.int IntKind.i64 0, Value.int IntKind.i64 0, Value.slice none 0 0]).cells.toList) (↑x0 : Int).toNat) 0 (List.map AV.d (List.take (min x0 (↑x0 : Int).toNat * 4) x1)))))))), (.d (.v (.func (.func 40) (#[]) (#[]))))] (.ask (.eqN (ownN (AV.own 0 0 4 x2.fst x2.snd)) 0) (.ret (0, []))))
  (.sees [(.d (.sl ((↑x0 : Int).toNat) (List.map aD (List.take ((↑x0 : Int).toNat * 4) (List.drop 0 (spliceA (zerosA (List.map (fun (x : Value) => AV.d (DV.v x)) (Value.agg #[Value.int IntKind.i64 0, Value.int IntKind.i64 0, Value.int IntKind.i64 0, Value.slice none 0 0]).cells.toList) (↑x0 : Int).toNat) 0 (List.map AV.d (List.take (min x0 (↑x0 : Int).toNat * 4) x1)))))))), (.d (.v (.func (.func 40) (#[]) (#[]))))] (.ask (.ltN 0 (ownN (AV.own 0 0 4 x2.fst x2.snd))) (.ask (.eqN 0 0) (.ask (.ltN 0 x2.fst) (.ret (x2.fst, x2.snd))))))))))))))))
noncomputable def F45f (x0 : Nat) (x1 : List DV) : Option (Nat × List DV) := res B45f (.c0 x0 x1)
noncomputable def D45f_0 (x0 : Nat) (x1 : List DV) : DT cfz := (.go 18 [] [] (.frz 3 (.go 2 [] [] (.bindF (f63f ((↑x0 : Int).toNat) (List.map aD (List.take ((↑x0 : Int).toNat * 4) (List.drop 0 (spliceA (zerosA (List.map (fun (x : Value) => AV.d (DV.v x)) (Value.agg #[Value.int IntKind.i64 0, Value.int IntKind.i64 0, Value.int IntKind.i64 0, Value.slice none 0 0]).cells.toList) (↑x0 : Int).toNat) 0 (List.map AV.d (List.take (min x0 (↑x0 : Int).toNat * 4) x1))))))) fun x2 => (.br ((ownN (AV.own 0 0 4 x2.fst x2.snd)).beq 0) (.go 4 [(.ce 0)] [] (.finF 4 false [])) (.go 4 [(.cq 0)] [] (.finF 4 false [])))))))
theorem k45f_0 (x0 : Nat) (x1 : List DV) : xrunF cfz 45 false (D45f_0 x0 x1) [] (st45f (.c0 x0 x1)) = (B45f (.c0 x0 x1)).mach st45f out45f := by kernel_rfl
theorem ok45f : ∀ s, ∃ d, xrunF cfz 45 false d [] (st45f s) = (B45f s).mach st45f out45f
  | .c0 x0 x1 => ⟨_, k45f_0 x0 x1⟩
theorem f45f (x0 : Nat) (x1 : List DV) (v : Nat × List DV) (h : F45f x0 x1 = some v) : PureCallsF cfz.P cfz.glob 45 [(.d (.sl x0 x1))] (out45f v) false := tree_pureF knil ok45f (s := .c0 x0 x1) rfl (by kernel_rfl) v h
inductive S49 where
  | c0 (x0 : List DV)
  | c1 (x0 : List DV) (x1 : Int)
  | c2 (x0 : List DV) (x1 : Int) (x2 x3 : Nat) (x4 : List DV) (x5 : Nat)
def out49 (v : Nat × List DV) : AV := (.d (.sl v.fst v.snd))
noncomputable def st49 : S49 → ASt
  | .c0 x0 => ent cfz 49 [(.fn (.func 65) [] [(.ip x0)])]
  | .c1 x0 x1 => ⟨⟨65, sp 30 0 [(0, (.yl 2)), (1, (.ip x0)), (3, (aI x1))], [(.code (cd cfz.P 65 [1, 0, 0])), (.inLoop (cd cfz.P 65 [1, 0, 0])), (.inBlock 0)], [], false, .none⟩, [⟨64, sp 13 0 [(2, (.ptr 0 0)), (4, (.d (.v (.slice .none 0 0))))], [(.inRng 2), (.inBlock 0), (.code (cd cfz.P 64 [1, 1]))], [1], false, .none⟩, ⟨49, sp 5 0 [], [(.regC (opsAt cfz.P 49 [1, 0]) false 1), (.code (cd cfz.P 65 [1, 0, 0, 1, 0, 0, 1, 0]))], [], false, .none⟩], [(.cells [(.d (.v (.slice .none 0 0)))] 95), .defd, (.loop ⟨.ready, .none, 64, [(.d (.v (.slice .none 0 0))), (.fn (.func 65) [] [(.ip x0)]), (.ptr 0 0), .any, (.d (.v (.slice .none 0 0))), .any, (.fn (.func 65) [] [(.ip x0)]), .any, .any, .any, .any, .any, .any], (#[7]), (cd cfz.P 64 [1, 0, 1, 0, 0]), (cd cfz.P 64 [1, 0, 1, 0, 1]), 1⟩)]⟩
  | .c2 x0 x1 x2 x3 x4 x5 => ⟨⟨65, sp 30 0 [(0, (.yl 2)), (1, (.ip x0)), (3, (aI x1))], [(.code (cd cfz.P 65 [1, 0, 0])), (.inLoop (cd cfz.P 65 [1, 0, 0])), (.inBlock 0)], [], false, .none⟩, [⟨64, sp 13 0 [(2, (.ptr 0 0)), (4, (.d (.v (.slice .none 0 0))))], [(.inRng 2), (.inBlock 0), (.code (cd cfz.P 64 [1, 1]))], [1], false, .none⟩, ⟨49, sp 5 0 [], [(.regC (opsAt cfz.P 49 [1, 0]) false 1), (.code (cd cfz.P 65 [1, 0, 0, 1, 0, 0, 1, 0]))], [], false, .none⟩], [(.cells [(.own 5 x2 5 x3 x4)] 95), .defd, (.loop ⟨.ready, .none, 64, [(.d (.v (.slice .none 0 0))), (.fn (.func 65) [] [(.ip x0)]), (.ptr 0 0), .any, (.d (.v (.slice .none 0 0))), .any, (.fn (.func 65) [] [(.ip x0)]), .any, .any, .any, .any, .any, .any], (#[7]), (cd cfz.P 64 [1, 0, 1, 0, 0]), (cd cfz.P 64 [1, 0, 1, 0, 1]), 1⟩), .dead, (.tail 0), (.tail x5)]⟩
noncomputable def B49 : S49 → Tr S49 (Nat × List DV)
  | .c0 x0 => (.ask (.leN 1 x0.length) (.ask (.prop (Option.map AV.d (List.drop 1 x0)[0]? = some (AV.d (DV.v (Value.int IntKind.i64 (dI (cel x0 1))))))) (.nxt (.c1 x0 (dI (cel x0 1))))))
  | .c1 x0 x1 => (.ask (.leN 0 x0.length) (.ask (.prop (Option.map AV.d (List.drop 0 x0)[0]? = some (AV.d (DV.sl (dN (cel x0 0)) (dL (cel x0 0)))))) (.ask (.leN 1 x0.length) (.ask (.prop (Option.map AV.d (List.drop 1 x0)[0]? = some (AV.d (DV.v (Value.int IntKind.i64 (dI (cel x0 1))))))) (.ask (.leN 2 x0.length) (.ask (.prop (Option.map AV.d (List.drop 2 x0)[0]? = some (AV.d (DV.v (Value.int IntKind.i64 (dI (cel x0 2))))))) (.ask (.in64 (dI (cel x0 1) + dI (cel x0 2))) (.br (decide (x1 < if dI (cel x0 1) + dI (cel x0 2) < (↑(dN (cel x0 0)) : Int) then dI (cel x0 1) + dI (cel x0 2) else (↑(dN (cel x0 0)) : Int)))
  (.ask (.leN 0 x0.length) (.ask (.prop (Option.map AV.d (List.drop 0 x0)[0]? = some (AV.d (DV.sl (dN (cel x0 0)) (dL (cel x0 0)))))) (.ask (.le 0 x1) (.ask (.lt x1 ((↑(dN (cel x0 0)) : Int))) (.ask (.leN (x1.toNat * 4) ((dL (cel x0 0)).length)) (.ask (.leN 4 ((List.drop (x1.toNat * 4) (dL (cel x0 0))).length)) (.ask (.prop (List.map AV.d (List.take 4 (List.drop (x1.toNat * 4) (dL (cel x0 0)))) = [AV.d (DV.v (Value.int IntKind.i64 (dI (cel (dL (cel x0 0)) (x1.toNat * 4))))), AV.d (DV.v (Value.int IntKind.i64 (dI (cel (dL (cel x0 0)) (x1.toNat * 4 + 1))))), AV.d (DV.v (Value.int IntKind.i64 (dI (cel (dL (cel x0 0)) (x1.toNat * 4 + 2))))), AV.d (DV.sl (dN (cel (dL (cel x0 0)) (x1.toNat * 4 + 3))) (dL (cel (dL (cel x0 0)) (x1.toNat * 4 + 3))))])) (.ask (.in64 (x1 + 1)) (.nxt (.c2 x0 (x1 + 1) 0 1 [(.v (.int .i64 (dI (cel (dL (cel x0 0)) (x1.toNat * 4))))), (.v (.int .i64 (dI (cel (dL (cel x0 0)) (x1.toNat * 4 + 1))))), (.v (.int .i64 (dI (cel (dL (cel x0 0)) (x1.toNat * 4 + 2))))), (.sl (dN (cel (dL (cel x0 0)) (x1.toNat * 4 + 3))) (dL (cel (dL (cel x0 0)) (x1.toNat * 4 + 3)))), (.v (.int .i64 (x1.tmod 16)))] 0))))))))))
  (.ret (0, []))))))))))
  | .c2 x0 x1 x2 x3 x4 x5 => (.ask (.leN 0 x0.length) (.ask (.prop (Option.map AV.d (List.drop 0 x0)[0]? = some (AV.d (DV.sl (dN (cel x0 0)) (dL (cel x0 0)))))) (.ask (.leN 1 x0.length) (.ask (.prop (Option.map AV.d (List.drop 1 x0)[0]? = some (AV.d (DV.v (Value.int IntKind.i64 (dI (cel x0 1))))))) (.ask (.leN 2 x0.length) (.ask (.prop (Option.map AV.d (List.drop 2 x0)[0]? = some (AV.d (DV.v (Value.int IntKind.i64 (dI (cel x0 2))))))) (.ask (.in64 (dI (cel x0 1) + dI (cel x0 2))) (.br (decide (x1 < if dI (cel x0 1) + dI (cel x0 2) < (↑(dN (cel x0 0)) : Int) then dI (cel x0 1) + dI (cel x0 2) else (↑(dN (cel x0 0)) : Int)))
  (.ask (.leN 0 x0.length) (.ask (.prop (Option.map AV.d (List.drop 0 x0)[0]? = some (AV.d (DV.sl (dN (cel x0 0)) (dL (cel x0 0)))))) (.ask (.le 0 x1) (.ask (.lt x1 ((↑(dN (cel x0 0)) : Int))) (.ask (.leN (x1.toNat * 4) ((dL (cel x0 0)).length)) (.ask (.leN 4 ((List.drop (x1.toNat * 4) (dL (cel x0 0))).length)) (.ask (.prop (List.map AV.d (List.take 4 (List.drop (x1.toNat * 4) (dL (cel x0 0)))) = [AV.d (DV.v (Value.int IntKind.i64 (dI (cel (dL (cel x0 0)) (x1.toNat * 4))))), AV.d (DV.v (Value.int IntKind.i64 (dI (cel (dL (cel x0 0)) (x1.toNat * 4 + 1))))), AV.d (DV.v (Value.int IntKind.i64 (dI (cel (dL (cel x0 0)) (x1.toNat * 4 + 2))))), AV.d (DV.sl (dN (cel (dL (cel x0 0)) (x1.toNat * 4 + 3))) (dL (cel (dL (cel x0 0)) (x1.toNat * 4 + 3))))])) (.ask (.eqN x2 x5) (.ask (.fits (x3 + 1) 56) (.ask (.in64 (x1 + 1)) (.nxt (.c2 x0 (x1 + 1) (x5 + 1) (x3 + 1) (x4 ++ [DV.v (Value.int IntKind.i64 (dI (cel (dL (cel x0 0)) (x1.toNat * 4)))), DV.v (Value.int IntKind.i64 (dI (cel (dL (cel x0 0)) (x1.toNat * 4 + 1)))), DV.v (Value.int IntKind.i64 (dI (cel (dL (cel x0 0)) (x1.toNat * 4 + 2)))), DV.sl (dN (cel (dL (cel x0 0)) (x1.toNat * 4 + 3))) (dL (cel (dL (cel x0 0)) (x1.toNat * 4 + 3))), DV.v (Value.int IntKind.i64 (x1.tmod 16))]) (x5 + 1)))))))))))))
  (.ret (x3, x4))))))))))
noncomputable def F49 (x0 : List DV) : Option (Nat × List DV) := res B49 (.c0 x0)
noncomputable def D49_0 (x0 : List DV) : DT cfz := (.go 28 [.enter, (.as (aI (dI (cel x0 1))))] [] (.cut 3 [[0, 1, 3], [2, 4], []] []))
theorem k49_0 (x0 : List DV) : xrun cfz 49 (D49_0 x0) [] (st49 (.c0 x0)) = (B49 (.c0 x0)).mach st49 out49 := by kernel_rfl
noncomputable def D49_1 (x0 : List DV) (x1 : Int) : DT cfz := (.go 15 [(.as (.d (.sl (dN (cel x0 0)) (dL (cel x0 0))))), (.as (aI (dI (cel x0 1)))), (.as (aI (dI (cel x0 2))))] [] (.split 16 (.go 42 [(.br true), (.as (.d (.sl (dN (cel x0 0)) (dL (cel x0 0))))), (.as (.agg [(aI (dI (cel (dL (cel x0 0)) (x1.toNat * 4)))), (aI (dI (cel (dL (cel x0 0)) (x1.toNat * 4 + 1)))), (aI (dI (cel (dL (cel x0 0)) (x1.toNat * 4 + 2)))), (.d (.sl (dN (cel (dL (cel x0 0)) (x1.toNat * 4 + 3))) (dL (cel (dL (cel x0 0)) (x1.toNat * 4 + 3)))))])), .enter, .none, .none, .none, .none, .none, (.br false)] [0, 8, 9, 10, 11, 12] (.cut 6 [[0, 1, 3], [2, 4], []] [3])) (.go 17 [(.br false)] [0] .fin)))
theorem k49_1 (x0 : List DV) (x1 : Int) : xrun cfz 49 (D49_1 x0 x1) [] (st49 (.c1 x0 x1)) = (B49 (.c1 x0 x1)).mach st49 out49 := by kernel_rfl
noncomputable def D49_2 (x0 : List DV) (x1 : Int) (x2 x3 : Nat) (x4 : List DV) (x5 : Nat) : DT cfz := (.go 15 [(.as (.d (.sl (dN (cel x0 0)) (dL (cel x0 0))))), (.as (aI (dI (cel x0 1)))), (.as (aI (dI (cel x0 2))))] [] (.split 16 (.go 42 [(.br true), (.as (.d (.sl (dN (cel x0 0)) (dL (cel x0 0))))), (.as (.agg [(aI (dI (cel (dL (cel x0 0)) (x1.toNat * 4)))), (aI (dI (cel (dL (cel x0 0)) (x1.toNat * 4 + 1)))), (aI (dI (cel (dL (cel x0 0)) (x1.toNat * 4 + 2)))), (.d (.sl (dN (cel (dL (cel x0 0)) (x1.toNat * 4 + 3))) (dL (cel (dL (cel x0 0)) (x1.toNat * 4 + 3)))))])), .enter, .none, .none, .none, .none, .none, (.br false)] [0, 8, 10, 11, 13] (.cut 6 [[0, 1, 3], [2, 4], []] [])) (.go 17 [(.br false)] [0] .fin)))
theorem k49_2 (x0 : List DV) (x1 : Int) (x2 x3 : Nat) (x4 : List DV) (x5 : Nat) : xrun cfz 49 (D49_2 x0 x1 x2 x3 x4 x5) [] (st49 (.c2 x0 x1 x2 x3 x4 x5)) = (B49 (.c2 x0 x1 x2 x3 x4 x5)).mach st49 out49 := by kernel_rfl
theorem ok49 : ∀ s, ∃ d, xrun cfz 49 d [] (st49 s) = (B49 s).mach st49 out49
  | .c0 x0 => ⟨_, k49_0 x0⟩
  | .c1 x0 x1 => ⟨_, k49_1 x0 x1⟩
  | .c2 x0 x1 x2 x3 x4 x5 => ⟨_, k49_2 x0 x1 x2 x3 x4 x5⟩
theorem f49 (x0 : List DV) (v : Nat × List DV) (h : F49 x0 = some v) : PureCalls cfz.P cfz.glob 49 [(.fn (.func 65) [] [(.ip x0)])] (out49 v) := tree_pure knil ok49 (s := .c0 x0) rfl (by kernel_rfl) v h
inductive S66 where
  | c0 (x0 : Nat) (x1 : List DV) (x2 : Int)
  | c1 (x0 : Nat) (x1 : List DV) (x2 x3 x4 : Int)
def out66 (v : Int) : AV := (.d (.v (.int .i64 v)))
noncomputable def st66 : S66 → ASt
  | .c0 x0 x1 x2 => ent cfz 66 [(.d (.sl x0 x1)), (aI x2)]
  | .c1 x0 x1 x2 x3 x4 => ⟨⟨66, sp 19 0 [(0, (.d (.sl x0 x1))), (1, (aI x2)), (7, (aI x3)), (8, (aI x4))], [(.code (cd cfz.P 66 [1, 0, 1, 0, 0])), (.inLoop (cd cfz.P 66 [1, 0, 1, 0, 0])), (.inBlock 0), (.code (cd cfz.P 66 [1, 1]))], [], false, .none⟩, [], []⟩
noncomputable def B66 : S66 → Tr S66 (Int)
  | .c0 x0 x1 x2 => (.nxt (.c1 x0 x1 x2 ((↑x0 : Int)) 0))
  | .c1 x0 x1 x2 x3 x4 => (.br (decide (x4 < x3))
  (.ask (.le 0 x4) (.ask (.lt x4 ((↑x0 : Int))) (.ask (.leN (x4.toNat * 1) x1.length) (.ask (.prop (Option.map AV.d (List.drop (x4.toNat * 1) x1)[0]? = some (AV.d (DV.v (Value.int IntKind.i64 (dI (cel x1 (x4.toNat * 1)))))))) (.br (x2 == dI (cel x1 (x4.toNat * 1)))
  (.ret x4)
  (.ask (.in64 (x4 + 1)) (.nxt (.c1 x0 x1 x2 x3 (x4 + 1)))))))))
  (.ret (-1)))
noncomputable def F66 (x0 : Nat) (x1 : List DV) (x2 : Int) : Option (Int) := res B66 (.c0 x0 x1 x2)
noncomputable def D66_0 (x0 : Nat) (x1 : List DV) (x2 : Int) : DT cfz := (.go 13 [] [] (.cut 0 [[0, 1, 7, 8]] []))
theorem k66_0 (x0 : Nat) (x1 : List DV) (x2 : Int) : xrun cfz 66 (D66_0 x0 x1 x2) [] (st66 (.c0 x0 x1 x2)) = (B66 (.c0 x0 x1 x2)).mach st66 out66 := by kernel_rfl
noncomputable def D66_1 (x0 : Nat) (x1 : List DV) (x2 x3 x4 : Int) : DT cfz := (.go 5 [] [] (.split 9 (.go 18 [(.br true), (.as (aI (dI (cel x1 (x4.toNat * 1)))))] [0] (.split 16 (.go 7 [(.br true)] [0] .fin) (.go 8 [(.br false)] [0] (.cut 0 [[0, 1, 7, 8]] [])))) (.go 7 [(.br false)] [0] .fin)))
theorem k66_1 (x0 : Nat) (x1 : List DV) (x2 x3 x4 : Int) : xrun cfz 66 (D66_1 x0 x1 x2 x3 x4) [] (st66 (.c1 x0 x1 x2 x3 x4)) = (B66 (.c1 x0 x1 x2 x3 x4)).mach st66 out66 := by kernel_rfl
theorem ok66 : ∀ s, ∃ d, xrun cfz 66 d [] (st66 s) = (B66 s).mach st66 out66
  | .c0 x0 x1 x2 => ⟨_, k66_0 x0 x1 x2⟩
  | .c1 x0 x1 x2 x3 x4 => ⟨_, k66_1 x0 x1 x2 x3 x4⟩
theorem f66 (x0 : Nat) (x1 : List DV) (x2 v : Int) (h : F66 x0 x1 x2 = some v) : PureCalls cfz.P cfz.glob 66 [(.d (.sl x0 x1)), (aI x2)] (out66 v) := tree_pure knil ok66 (s := .c0 x0 x1 x2) rfl (by kernel_rfl) v h
inductive S51 where
  | c0 (x0 : Nat) (x1 : List DV) (x2 : Int)
def out51 (v : Bool) : AV := (.d (.v (.bool v)))
noncomputable def st51 : S51 → ASt
  | .c0 x0 x1 x2 => ent cfz 51 [(.d (.sl x0 x1)), (aI x2)]
noncomputable def B51 : S51 → Tr S51 (Bool)
  | .c0 x0 x1 x2 => (.bind (F66 x0 x1 x2) fun x3 =>
  (.sees [(.d (.sl x0 x1)), (aI x2)] (.ret (decide (x3 ≥ 0)))))
noncomputable def F51 (x0 : Nat) (x1 : List DV) (x2 : Int) : Option (Bool) := res B51 (.c0 x0 x1 x2)
noncomputable def D51_0 (x0 : Nat) (x1 : List DV) (x2 : Int) : DT cfz := (.go 8 [] [] (.bind (f66 x0 x1 x2) fun x3 => (.go 5 [(.ck 0)] [] .fin)))
theorem k51_0 (x0 : Nat) (x1 : List DV) (x2 : Int) : xrun cfz 51 (D51_0 x0 x1 x2) [] (st51 (.c0 x0 x1 x2)) = (B51 (.c0 x0 x1 x2)).mach st51 out51 := by kernel_rfl
theorem ok51 : ∀ s, ∃ d, xrun cfz 51 d [] (st51 s) = (B51 s).mach st51 out51
  | .c0 x0 x1 x2 => ⟨_, k51_0 x0 x1 x2⟩
theorem f51 (x0 : Nat) (x1 : List DV) (x2 : Int) (v : Bool) (h : F51 x0 x1 x2 = some v) : PureCalls cfz.P cfz.glob 51 [(.d (.sl x0 x1)), (aI x2)] (out51 v) := tree_pure knil ok51 (s := .c0 x0 x1 x2) rfl (by kernel_rfl) v h
inductive S47 where
  | c0 (x0 : Int) (x1 : Nat) (x2 : List DV) (x3 : Int)
def out47 (v : Bool) : AV := (.d (.v (.bool v)))
noncomputable def st47 : S47 → ASt
  | .c0 x0 x1 x2 x3 => ent cfz 47 [(.agg [(aI x0), (.d (.sl x1 x2))]), (aI x3)]
noncomputable def B47 : S47 → Tr S47 (Bool)
  | .c0 x0 x1 x2 x3 => (.ret (x3 == x0.tmod 16))
noncomputable def F47 (x0 : Int) (x1 : Nat) (x2 : List DV) (x3 : Int) : Option (Bool) := res B47 (.c0 x0 x1 x2 x3)
noncomputable def D47_0 (x0 : Int) (x1 : Nat) (x2 : List DV) (x3 : Int) : DT cfz := (.go 15 [] [0] .fin)
theorem k47_0 (x0 : Int) (x1 : Nat) (x2 : List DV) (x3 : Int) : xrun cfz 47 (D47_0 x0 x1 x2 x3) [] (st47 (.c0 x0 x1 x2 x3)) = (B47 (.c0 x0 x1 x2 x3)).mach st47 out47 := by kernel_rfl
theorem ok47 : ∀ s, ∃ d, xrun cfz 47 d [] (st47 s) = (B47 s).mach st47 out47
  | .c0 x0 x1 x2 x3 => ⟨_, k47_0 x0 x1 x2 x3⟩
theorem f47 (x0 : Int) (x1 : Nat) (x2 : List DV) (x3 : Int) (v : Bool) (h : F47 x0 x1 x2 x3 = some v) : PureCalls cfz.P cfz.glob 47 [(.agg [(aI x0), (.d (.sl x1 x2))]), (aI x3)] (out47 v) := tree_pure knil ok47 (s := .c0 x0 x1 x2 x3) rfl (by kernel_rfl) v h
inductive S48 where
  | c0 (x0 : Int) (x1 : Nat) (x2 : List DV) (x3 x4 x5 : Int) (x6 : Nat) (x7 : List DV)
def out48 (v : Int × Nat × List DV) : AV := (.agg [(.d (.v (.int .i64 v.fst))), (.d (.sl v.snd.fst v.snd.snd))])
noncomputable def st48 : S48 → ASt
  | .c0 x0 x1 x2 x3 x4 x5 x6 x7 => ent cfz 48 [(.agg [(aI x0), (.d (.sl x1 x2))]), (.agg [(aI x3), (aI x4), (aI x5), (.d (.sl x6 x7))])]
noncomputable def B48 : S48 → Tr S48 (Int × Nat × List DV)
  | .c0 x0 x1 x2 x3 x4 x5 x6 x7 => (.bind (F45f x1 x2) fun x8 =>
  (.br ((ownN (AV.own 0 0 4 x8.fst x8.snd)).beq 0)
  (.bind (F40 x3 x4 x5 x6 x7) fun x9 =>
  (.sees [(.d (.sl x1 x2))] (.ask (.eqN (ownN (AV.own 0 0 4 x8.fst x8.snd)) 0) (.sees [(.agg [(aI x3), (aI x4), (aI x5), (.d (.sl x6 x7))])] (.ret (1, 1, [(.v (.int .i64 x9.fst)), (.v (.int .i64 x9.snd.fst)), (.v (.int .i64 x9.snd.snd.fst)), (.sl x9.snd.snd.snd.fst x9.snd.snd.snd.snd)]))))))
  (.bind (F40 x3 x4 x5 x6 x7) fun xa =>
  (.sees [(.d (.sl x1 x2))] (.ask (.ltN 0 (ownN (AV.own 0 0 4 x8.fst x8.snd))) (.sees [(.agg [(aI x3), (aI x4), (aI x5), (.d (.sl x6 x7))])] (.ask (.fits (x8.fst + 1) 48) (.ret (((↑(x8.fst + 1) : Int)), (x8.fst + 1), (x8.snd ++ [DV.v (Value.int IntKind.i64 xa.fst), DV.v (Value.int IntKind.i64 xa.snd.fst), DV.v (Value.int IntKind.i64 xa.snd.snd.fst), DV.sl xa.snd.snd.snd.fst xa.snd.snd.snd.snd]))))))))))
noncomputable def F48 (x0 : Int) (x1 : Nat) (x2 : List DV) (x3 x4 x5 : Int) (x6 : Nat) (x7 : List DV) : Option (Int × Nat × List DV) := res B48 (.c0 x0 x1 x2 x3 x4 x5 x6 x7)
noncomputable def D48_0 (x0 : Int) (x1 : Nat) (x2 : List DV) (x3 x4 x5 : Int) (x6 : Nat) (x7 : List DV) : DT cfz := (.go 8 [] [] (.bindF (f45f x1 x2) fun x8 => (.br ((ownN (AV.own 0 0 4 x8.fst x8.snd)).beq 0) (.bind (f40 x3 x4 x5 x6 x7) fun x9 => (.go 10 [(.ce 0), (.ck 1)] [3, 4, 5] .fin)) (.bind (f40 x3 x4 x5 x6 x7) fun xa => (.go 10 [(.cq 0), (.ck 1)] [3, 4, 5] .fin)))))
theorem k48_0 (x0 : Int) (x1 : Nat) (x2 : List DV) (x3 x4 x5 : Int) (x6 : Nat) (x7 : List DV) : xrun cfz 48 (D48_0 x0 x1 x2 x3 x4 x5 x6 x7) [] (st48 (.c0 x0 x1 x2 x3 x4 x5 x6 x7)) = (B48 (.c0 x0 x1 x2 x3 x4 x5 x6 x7)).mach st48 out48 := by kernel_rfl
theorem ok48 : ∀ s, ∃ d, xrun cfz 48 d [] (st48 s) = (B48 s).mach st48 out48
  | .c0 x0 x1 x2 x3 x4 x5 x6 x7 => ⟨_, k48_0 x0 x1 x2 x3 x4 x5 x6 x7⟩
theorem f48 (x0 : Int) (x1 : Nat) (x2 : List DV) (x3 x4 x5 : Int) (x6 : Nat) (x7 : List DV) (v : Int × Nat × List DV) (h : F48 x0 x1 x2 x3 x4 x5 x6 x7 = some v) : PureCalls cfz.P cfz.glob 48 [(.agg [(aI x0), (.d (.sl x1 x2))]), (.agg [(aI x3), (aI x4), (aI x5), (.d (.sl x6 x7))])] (out48 v) := tree_pure knil ok48 (s := .c0 x0 x1 x2 x3 x4 x5 x6 x7) rfl (by kernel_rfl) v h
inductive S52 where
  | c0 (x0 : Nat) (x1 : List DV) (x2 x3 x4 : Int)
def out52 (v : Int) : AV := (.d (.v (.int .i64 v)))
noncomputable def st52 : S52 → ASt
  | .c0 x0 x1 x2 x3 x4 => ent cfz 52 [(.agg [(.d (.sl x0 x1)), (aI x2), (aI x3)]), (aI x4)]
noncomputable def B52 : S52 → Tr S52 (Int)
  | .c0 x0 x1 x2 x3 x4 => (.ask (.in64 (x4 - x2.tmod 16)) (.ask (.in64 (x4 - x2.tmod 16 + 16)) (.ask (.in64 ((↑x0 : Int) - x2)) (.br (decide ((x4 - x2.tmod 16 + 16).tmod 16 ≤ if (↑x0 : Int) - x2 < x3 then (↑x0 : Int) - x2 else x3))
  (.ask (.in64 (x2 + (x4 - x2.tmod 16 + 16).tmod 16)) (.ret (x2 + (x4 - x2.tmod 16 + 16).tmod 16)))
  (.ret x2)))))
noncomputable def F52 (x0 : Nat) (x1 : List DV) (x2 x3 x4 : Int) : Option (Int) := res B52 (.c0 x0 x1 x2 x3 x4)
noncomputable def D52_0 (x0 : Nat) (x1 : List DV) (x2 x3 x4 : Int) : DT cfz := (.go 31 [] [0, 3] (.split 23 (.go 10 [(.br true)] [0] .fin) (.go 9 [(.br false)] [0] .fin)))
theorem k52_0 (x0 : Nat) (x1 : List DV) (x2 x3 x4 : Int) : xrun cfz 52 (D52_0 x0 x1 x2 x3 x4) [] (st52 (.c0 x0 x1 x2 x3 x4)) = (B52 (.c0 x0 x1 x2 x3 x4)).mach st52 out52 := by kernel_rfl
theorem ok52 : ∀ s, ∃ d, xrun cfz 52 d [] (st52 s) = (B52 s).mach st52 out52
  | .c0 x0 x1 x2 x3 x4 => ⟨_, k52_0 x0 x1 x2 x3 x4⟩
theorem f52 (x0 : Nat) (x1 : List DV) (x2 x3 x4 v : Int) (h : F52 x0 x1 x2 x3 x4 = some v) : PureCalls cfz.P cfz.glob 52 [(.agg [(.d (.sl x0 x1)), (aI x2), (aI x3)]), (aI x4)] (out52 v) := tree_pure knil ok52 (s := .c0 x0 x1 x2 x3 x4) rfl (by kernel_rfl) v h
end Go.Kv
