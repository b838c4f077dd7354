import Derived.Test.YtjpmpeknnfhccaaGreatDoorGE3
namespace Go.Kv
set_option linter.unusedVariables false
set_option linter.unusedSimpArgs false
open Go Go.RowKit Go.Proofs
set_option maxRecDepth 100000
inductive S30 where
  | c0 (a370 : Nat) (a371 : List DV)
  | c1 (x372 : Nat) (x373 : List DV) (x374 y375 : Int)
  | c2 (y376 y377 : Nat) (y378 : List DV) (x379 : Nat) (x380 : List DV) (x381 y382 : Int) (y383 : Nat)
def out30 (v : Nat × List DV) : AV := (.d (.sl v.fst v.snd))
noncomputable def st30 : S30 → ASt
  | .c0 a370 a371 => ent cfz 30 [(.d (.sl a370 a371))]
  | .c1 x372 x373 x374 y375 => ⟨⟨30, sp 18 0 [(3, (.d (.v (.slice .none 0 0)))), (6, (.d (.sl x372 x373))), (7, (aI x374)), (8, (aI y375))], [(.code (cd cfz.P 30 [1, 1, 0, 1, 0, 0])), (.inLoop (cd cfz.P 30 [1, 1, 0, 1, 0, 0])), (.inBlock 0), (.code (cd cfz.P 30 [1, 1, 1]))], [], false, .none⟩, [], []⟩
  | .c2 y376 y377 y378 x379 x380 x381 y382 y383 => ⟨⟨30, sp 18 0 [(3, (.own 2 y376 5 y377 y378)), (6, (.d (.sl x379 x380))), (7, (aI x381)), (8, (aI y382))], [(.code (cd cfz.P 30 [1, 1, 0, 1, 0, 0])), (.inLoop (cd cfz.P 30 [1, 1, 0, 1, 0, 0])), (.inBlock 0), (.code (cd cfz.P 30 [1, 1, 1]))], [], false, .none⟩, [], [.dead, (.tail 0), (.tail y383)]⟩
noncomputable def B30 : S30 → Tr S30 (Nat × List DV)
  | .c0 a370 a371 => (.nxt (.c1 a370 a371 ((↑a370 : Int)) 0))
  | .c1 x372 x373 x374 y375 => (.br (decide (y375 < x374))
  (.ask (.le 0 y375) (.ask (.lt y375 ((↑x372 : Int))) (.ask (.leN (y375.toNat * 5) x373.length) (.ask (.leN 5 ((List.drop (y375.toNat * 5) x373).length)) (.ask (.prop (List.map AV.d (List.take 5 (List.drop (y375.toNat * 5) x373)) = [AV.d (DV.v (Value.int IntKind.i64 (dI (cel x373 (y375.toNat * 5))))), AV.d (DV.v (Value.int IntKind.i64 (dI (cel x373 (y375.toNat * 5 + 1))))), AV.d (DV.v (Value.int IntKind.i64 (dI (cel x373 (y375.toNat * 5 + 2))))), AV.d (DV.v (Value.int IntKind.i64 (dI (cel x373 (y375.toNat * 5 + 3))))), AV.d (DV.v (Value.int IntKind.i64 (dI (cel x373 (y375.toNat * 5 + 4)))))])) (.ask (.in64 (y375 + 1)) (.nxt (.c2 0 1 [(.v (.int .i64 (dI (cel x373 (y375.toNat * 5))))), (.v (.int .i64 (dI (cel x373 (y375.toNat * 5 + 1))))), (.v (.int .i64 (dI (cel x373 (y375.toNat * 5 + 2))))), (.v (.int .i64 (dI (cel x373 (y375.toNat * 5 + 3))))), (.v (.int .i64 (dI (cel x373 (y375.toNat * 5 + 4)))))] x372 x373 x374 (y375 + 1) 0))))))))
  (.ret (0, [])))
  | .c2 y376 y377 y378 x379 x380 x381 y382 y383 => (.br (decide (y382 < x381))
  (.ask (.le 0 y382) (.ask (.lt y382 ((↑x379 : Int))) (.ask (.leN (y382.toNat * 5) x380.length) (.ask (.leN 5 ((List.drop (y382.toNat * 5) x380).length)) (.ask (.prop (List.map AV.d (List.take 5 (List.drop (y382.toNat * 5) x380)) = [AV.d (DV.v (Value.int IntKind.i64 (dI (cel x380 (y382.toNat * 5))))), AV.d (DV.v (Value.int IntKind.i64 (dI (cel x380 (y382.toNat * 5 + 1))))), AV.d (DV.v (Value.int IntKind.i64 (dI (cel x380 (y382.toNat * 5 + 2))))), AV.d (DV.v (Value.int IntKind.i64 (dI (cel x380 (y382.toNat * 5 + 3))))), AV.d (DV.v (Value.int IntKind.i64 (dI (cel x380 (y382.toNat * 5 + 4)))))])) (.ask (.eqN y376 y383) (.ask (.fits (y377 + 1) 40) (.ask (.in64 (y382 + 1)) (.nxt (.c2 (y383 + 1) (y377 + 1) (y378 ++ [DV.v (Value.int IntKind.i64 (dI (cel x380 (y382.toNat * 5)))), DV.v (Value.int IntKind.i64 (dI (cel x380 (y382.toNat * 5 + 1)))), DV.v (Value.int IntKind.i64 (dI (cel x380 (y382.toNat * 5 + 2)))), DV.v (Value.int IntKind.i64 (dI (cel x380 (y382.toNat * 5 + 3)))), DV.v (Value.int IntKind.i64 (dI (cel x380 (y382.toNat * 5 + 4))))]) x379 x380 x381 (y382 + 1) (y383 + 1)))))))))))
  (.ret (y377, y378)))
noncomputable def F30 (a370 : Nat) (a371 : List DV) : Option (Nat × List DV) := res B30 (.c0 a370 a371)
noncomputable def D30_0 (a370 : Nat) (a371 : List DV) : DT cfz := (.go 17 [] [] (.cut 0 [[3, 6, 7, 8]] []))
theorem k30_0 (a370 : Nat) (a371 : List DV) : xrun cfz 30 (D30_0 a370 a371) [] (st30 (.c0 a370 a371)) = (B30 (.c0 a370 a371)).mach st30 out30 := by kernel_rfl
noncomputable def D30_1 (x372 : Nat) (x373 : List DV) (x374 y375 : Int) : DT cfz := (.go 5 [] [] (.split 9 (.go 24 [(.br true), (.as (.agg [(aI (dI (cel x373 (y375.toNat * 5)))), (aI (dI (cel x373 (y375.toNat * 5 + 1)))), (aI (dI (cel x373 (y375.toNat * 5 + 2)))), (aI (dI (cel x373 (y375.toNat * 5 + 3)))), (aI (dI (cel x373 (y375.toNat * 5 + 4))))]))] [0, 6, 7, 8] (.cut 3 [[3, 6, 7, 8]] [0])) (.go 8 [(.br false)] [0] .fin)))
theorem k30_1 (x372 : Nat) (x373 : List DV) (x374 y375 : Int) : xrun cfz 30 (D30_1 x372 x373 x374 y375) [] (st30 (.c1 x372 x373 x374 y375)) = (B30 (.c1 x372 x373 x374 y375)).mach st30 out30 := by kernel_rfl
noncomputable def D30_2 (y376 y377 : Nat) (y378 : List DV) (x379 : Nat) (x380 : List DV) (x381 y382 : Int) (y383 : Nat) : DT cfz := (.go 5 [] [] (.split 9 (.go 24 [(.br true), (.as (.agg [(aI (dI (cel x380 (y382.toNat * 5)))), (aI (dI (cel x380 (y382.toNat * 5 + 1)))), (aI (dI (cel x380 (y382.toNat * 5 + 2)))), (aI (dI (cel x380 (y382.toNat * 5 + 3)))), (aI (dI (cel x380 (y382.toNat * 5 + 4))))]))] [0, 7, 8] (.cut 3 [[3, 6, 7, 8]] [])) (.go 8 [(.br false)] [0] .fin)))
theorem k30_2 (y376 y377 : Nat) (y378 : List DV) (x379 : Nat) (x380 : List DV) (x381 y382 : Int) (y383 : Nat) : xrun cfz 30 (D30_2 y376 y377 y378 x379 x380 x381 y382 y383) [] (st30 (.c2 y376 y377 y378 x379 x380 x381 y382 y383)) = (B30 (.c2 y376 y377 y378 x379 x380 x381 y382 y383)).mach st30 out30 := by kernel_rfl
theorem ok30 : ∀ s, ∃ d, xrun cfz 30 d [] (st30 s) = (B30 s).mach st30 out30
  | .c0 a370 a371 => ⟨_, k30_0 a370 a371⟩
  | .c1 x372 x373 x374 y375 => ⟨_, k30_1 x372 x373 x374 y375⟩
  | .c2 y376 y377 y378 x379 x380 x381 y382 y383 => ⟨_, k30_2 y376 y377 y378 x379 x380 x381 y382 y383⟩
theorem f30 (a370 : Nat) (a371 : List DV) (v : Nat × List DV) (h : F30 a370 a371 = some v) : PureCalls cfz.P cfz.glob 30 [(.d (.sl a370 a371))] (out30 v) := tree_pure knil ok30 (s := .c0 a370 a371) rfl (by kernel_rfl) v h
inductive S14 where
  | c0 (a367 : Int) (a368 : Nat) (a369 : List DV)
def out14 (v : Int × Nat × List DV) : AV := (.agg [(.d (.v (.int .i64 v.fst))), (.d (.sl v.snd.fst v.snd.snd))])
noncomputable def st14 : S14 → ASt
  | .c0 a367 a368 a369 => ent cfz 14 [(.agg [(aI a367), (.d (.sl a368 a369))])]
noncomputable def B14 : S14 → Tr S14 (Int × Nat × List DV)
  | .c0 a367 a368 a369 => (.bind (F30 a368 a369) fun v384 =>
  (.sees [(.d (.sl a368 a369))] (.ret (a367, v384.fst, v384.snd))))
noncomputable def F14 (a367 : Int) (a368 : Nat) (a369 : List DV) : Option (Int × Nat × List DV) := res B14 (.c0 a367 a368 a369)
noncomputable def D14_0 (a367 : Int) (a368 : Nat) (a369 : List DV) : DT cfz := (.go 7 [] [] (.bind (f30 a368 a369) fun v384 => (.go 2 [(.ck 0)] [] .fin)))
theorem k14_0 (a367 : Int) (a368 : Nat) (a369 : List DV) : xrun cfz 14 (D14_0 a367 a368 a369) [] (st14 (.c0 a367 a368 a369)) = (B14 (.c0 a367 a368 a369)).mach st14 out14 := by kernel_rfl
theorem ok14 : ∀ s, ∃ d, xrun cfz 14 d [] (st14 s) = (B14 s).mach st14 out14
  | .c0 a367 a368 a369 => ⟨_, k14_0 a367 a368 a369⟩
theorem f14 (a367 : Int) (a368 : Nat) (a369 : List DV) (v : Int × Nat × List DV) (h : F14 a367 a368 a369 = some v) : PureCalls cfz.P cfz.glob 14 [(.agg [(aI a367), (.d (.sl a368 a369))])] (out14 v) := tree_pure knil ok14 (s := .c0 a367 a368 a369) rfl (by kernel_rfl) v h
inductive S29 where
  | c0 (a391 : Nat) (a392 : List DV) (a393 : Nat) (a394 : List DV)
  | c1 (x395 : Nat) (x396 : List DV) (x397 : Nat) (x398 : List DV) (y399 : Int)
def out29 (v : Bool) : AV := (.d (.v (.bool v)))
noncomputable def st29 : S29 → ASt
  | .c0 a391 a392 a393 a394 => ent cfz 29 [(.d (.sl a391 a392)), (.d (.sl a393 a394))]
  | .c1 x395 x396 x397 x398 y399 => ⟨⟨29, sp 26 0 [(0, (.d (.sl x395 x396))), (1, (.d (.sl x397 x398))), (5, (aI y399))], [(.code (cd cfz.P 29 [1, 1, 0, 1, 0, 0])), (.inLoop (cd cfz.P 29 [1, 1, 0, 1, 0, 0])), (.inBlock 0), (.code (cd cfz.P 29 [1, 1, 1]))], [], false, .none⟩, [], []⟩
noncomputable def B29 : S29 → Tr S29 (Bool)
  | .c0 a391 a392 a393 a394 => (.br ((↑a391 : Int) != (↑a393 : Int))
  (.ret false)
  (.nxt (.c1 a391 a392 a393 a394 0)))
  | .c1 x395 x396 x397 x398 y399 => (.br (decide (y399 < (↑x395 : Int)))
  (.ask (.le 0 y399) (.ask (.lt y399 ((↑x395 : Int))) (.ask (.leN (y399.toNat * 5) x396.length) (.ask (.leN 5 ((List.drop (y399.toNat * 5) x396).length)) (.ask (.prop (List.map AV.d (List.take 5 (List.drop (y399.toNat * 5) x396)) = [AV.d (DV.v (Value.int IntKind.i64 (dI (cel x396 (y399.toNat * 5))))), AV.d (DV.v (Value.int IntKind.i64 (dI (cel x396 (y399.toNat * 5 + 1))))), AV.d (DV.v (Value.int IntKind.i64 (dI (cel x396 (y399.toNat * 5 + 2))))), AV.d (DV.v (Value.int IntKind.i64 (dI (cel x396 (y399.toNat * 5 + 3))))), AV.d (DV.v (Value.int IntKind.i64 (dI (cel x396 (y399.toNat * 5 + 4)))))])) (.ask (.le 0 y399) (.ask (.lt y399 ((↑x397 : Int))) (.ask (.leN (y399.toNat * 5) x398.length) (.ask (.leN 5 ((List.drop (y399.toNat * 5) x398).length)) (.ask (.prop (List.map AV.d (List.take 5 (List.drop (y399.toNat * 5) x398)) = [AV.d (DV.v (Value.int IntKind.i64 (dI (cel x398 (y399.toNat * 5))))), AV.d (DV.v (Value.int IntKind.i64 (dI (cel x398 (y399.toNat * 5 + 1))))), AV.d (DV.v (Value.int IntKind.i64 (dI (cel x398 (y399.toNat * 5 + 2))))), AV.d (DV.v (Value.int IntKind.i64 (dI (cel x398 (y399.toNat * 5 + 3))))), AV.d (DV.v (Value.int IntKind.i64 (dI (cel x398 (y399.toNat * 5 + 4)))))])) (.br (if false = true then dI (cel x396 (y399.toNat * 5)) == dI (cel x398 (y399.toNat * 5)) && (dI (cel x396 (y399.toNat * 5 + 1)) == dI (cel x398 (y399.toNat * 5 + 1)) && (dI (cel x396 (y399.toNat * 5 + 2)) == dI (cel x398 (y399.toNat * 5 + 2)) && (dI (cel x396 (y399.toNat * 5 + 3)) == dI (cel x398 (y399.toNat * 5 + 3)) && (dI (cel x396 (y399.toNat * 5 + 4)) == dI (cel x398 (y399.toNat * 5 + 4)) && true)))) else !(dI (cel x396 (y399.toNat * 5)) == dI (cel x398 (y399.toNat * 5)) && (dI (cel x396 (y399.toNat * 5 + 1)) == dI (cel x398 (y399.toNat * 5 + 1)) && (dI (cel x396 (y399.toNat * 5 + 2)) == dI (cel x398 (y399.toNat * 5 + 2)) && (dI (cel x396 (y399.toNat * 5 + 3)) == dI (cel x398 (y399.toNat * 5 + 3)) && (dI (cel x396 (y399.toNat * 5 + 4)) == dI (cel x398 (y399.toNat * 5 + 4)) && true))))))
  (.ret false)
  (.ask (.in64 (y399 + 1)) (.nxt (.c1 x395 x396 x397 x398 (y399 + 1)))))))))))))))
  (.ret true))
noncomputable def F29 (a391 : Nat) (a392 : List DV) (a393 : Nat) (a394 : List DV) : Option (Bool) := res B29 (.c0 a391 a392 a393 a394)
noncomputable def D29_0 (a391 : Nat) (a392 : List DV) (a393 : Nat) (a394 : List DV) : DT cfz := (.go 13 [] [] (.split 10 (.go 6 [(.br true)] [0] .fin) (.go 9 [(.br false)] [0] (.cut 0 [[0, 1, 5]] []))))
theorem k29_0 (a391 : Nat) (a392 : List DV) (a393 : Nat) (a394 : List DV) : xrun cfz 29 (D29_0 a391 a392 a393 a394) [] (st29 (.c0 a391 a392 a393 a394)) = (B29 (.c0 a391 a392 a393 a394)).mach st29 out29 := by kernel_rfl
noncomputable def D29_1 (x395 : Nat) (x396 : List DV) (x397 : Nat) (x398 : List DV) (y399 : Int) : DT cfz := (.go 8 [] [] (.split 14 (.go 7 [(.br true), (.as (.agg [(aI (dI (cel x396 (y399.toNat * 5)))), (aI (dI (cel x396 (y399.toNat * 5 + 1)))), (aI (dI (cel x396 (y399.toNat * 5 + 2)))), (aI (dI (cel x396 (y399.toNat * 5 + 3)))), (aI (dI (cel x396 (y399.toNat * 5 + 4))))])), (.as (.agg [(aI (dI (cel x398 (y399.toNat * 5)))), (aI (dI (cel x398 (y399.toNat * 5 + 1)))), (aI (dI (cel x398 (y399.toNat * 5 + 2)))), (aI (dI (cel x398 (y399.toNat * 5 + 3)))), (aI (dI (cel x398 (y399.toNat * 5 + 4))))]))] [0] (.split 25 (.go 6 [(.br true)] [0] .fin) (.go 9 [(.br false)] [0] (.cut 0 [[0, 1, 5]] [])))) (.go 7 [(.br false)] [0] .fin)))
theorem k29_1 (x395 : Nat) (x396 : List DV) (x397 : Nat) (x398 : List DV) (y399 : Int) : xrun cfz 29 (D29_1 x395 x396 x397 x398 y399) [] (st29 (.c1 x395 x396 x397 x398 y399)) = (B29 (.c1 x395 x396 x397 x398 y399)).mach st29 out29 := by kernel_rfl
theorem ok29 : ∀ s, ∃ d, xrun cfz 29 d [] (st29 s) = (B29 s).mach st29 out29
  | .c0 a391 a392 a393 a394 => ⟨_, k29_0 a391 a392 a393 a394⟩
  | .c1 x395 x396 x397 x398 y399 => ⟨_, k29_1 x395 x396 x397 x398 y399⟩
theorem f29 (a391 : Nat) (a392 : List DV) (a393 : Nat) (a394 : List DV) (v : Bool) (h : F29 a391 a392 a393 a394 = some v) : PureCalls cfz.P cfz.glob 29 [(.d (.sl a391 a392)), (.d (.sl a393 a394))] (out29 v) := tree_pure knil ok29 (s := .c0 a391 a392 a393 a394) rfl (by kernel_rfl) v h
inductive S13 where
  | c0 (a385 : Int) (a386 : Nat) (a387 : List DV) (a388 : Int) (a389 : Nat) (a390 : List DV)
def out13 (v : Bool) : AV := (.d (.v (.bool v)))
noncomputable def st13 : S13 → ASt
  | .c0 a385 a386 a387 a388 a389 a390 => ent cfz 13 [(.agg [(aI a385), (.d (.sl a386 a387))]), (.agg [(aI a388), (.d (.sl a389 a390))])]
noncomputable def B13 : S13 → Tr S13 (Bool)
  | .c0 a385 a386 a387 a388 a389 a390 => (.br (a385 == a388)
  (.bind (F29 a386 a387 a389 a390) fun v400 =>
  (.sees [(.d (.sl a386 a387)), (.d (.sl a389 a390))] (.ret v400)))
  (.ret false))
noncomputable def F13 (a385 : Int) (a386 : Nat) (a387 : List DV) (a388 : Int) (a389 : Nat) (a390 : List DV) : Option (Bool) := res B13 (.c0 a385 a386 a387 a388 a389 a390)
noncomputable def D13_0 (a385 : Int) (a386 : Nat) (a387 : List DV) (a388 : Int) (a389 : Nat) (a390 : List DV) : DT cfz := (.go 14 [] [] (.split 10 (.go 4 [(.br true), (.br true), .none, (.br true), (.br true)] [0, 1, 2, 3] (.bind (f29 a386 a387 a389 a390) fun v400 => (.go 5 [(.br true), (.ck 0)] [1] .fin))) (.go 9 [(.br false), (.br false), (.br false), (.br false), (.br false)] [0, 1, 2, 3, 4] .fin)))
theorem k13_0 (a385 : Int) (a386 : Nat) (a387 : List DV) (a388 : Int) (a389 : Nat) (a390 : List DV) : xrun cfz 13 (D13_0 a385 a386 a387 a388 a389 a390) [] (st13 (.c0 a385 a386 a387 a388 a389 a390)) = (B13 (.c0 a385 a386 a387 a388 a389 a390)).mach st13 out13 := by kernel_rfl
theorem ok13 : ∀ s, ∃ d, xrun cfz 13 d [] (st13 s) = (B13 s).mach st13 out13
  | .c0 a385 a386 a387 a388 a389 a390 => ⟨_, k13_0 a385 a386 a387 a388 a389 a390⟩
theorem f13 (a385 : Int) (a386 : Nat) (a387 : List DV) (a388 : Int) (a389 : Nat) (a390 : List DV) (v : Bool) (h : F13 a385 a386 a387 a388 a389 a390 = some v) : PureCalls cfz.P cfz.glob 13 [(.agg [(aI a385), (.d (.sl a386 a387))]), (.agg [(aI a388), (.d (.sl a389 a390))])] (out13 v) := tree_pure knil ok13 (s := .c0 a385 a386 a387 a388 a389 a390) rfl (by kernel_rfl) v h
end Go.Kv
