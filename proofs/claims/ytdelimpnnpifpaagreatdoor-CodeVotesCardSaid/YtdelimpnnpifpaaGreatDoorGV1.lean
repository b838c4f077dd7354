/- Printed: what functions of the program come to, and the kernel's proof of it. -/
import Derived.Test.YtdelimpnnpifpaaGreatDoorKvW
import Derived.Test.YtdelimpnnpifpaaGreatDoorKvZ
import Derived.Test.YtdelimpnnpifpaaGreatDoorKzA
import Derived.Test.YtdelimpnnpifpaaGreatDoorGCk
import Derived.Test.YtdelimpnnpifpaaGreatDoorGAl
import Derived.Test.YtdelimpnnpifpaaGreatDoorKCl
set_option linter.all false
namespace Go.Kv
open Go Go.RowKit Go.Proofs
set_option maxRecDepth 100000
/-! F42 -/
inductive S42 where
  | c0 (a13 : Nat) (a14 : List DV)
  | c1 (x15 : Nat) (x16 : List DV) (y17 : Int)
def out42 (v : Bool) : AV := (.d (.v (.bool v)))
noncomputable def st42 : S42 → ASt
  | .c0 a13 a14 => ent cfz 42 [(.d (.sl a13 a14))]
  | .c1 x15 x16 y17 => ⟨⟨42, sp 19 0 [(0, (.d (.sl x15 x16))), (3, (aI y17))], [(.code (cd cfz.P 42 [1, 0, 1, 0, 0])), (.inLoop (cd cfz.P 42 [1, 0, 1, 0, 0])), (.inBlock 0), (.code (cd cfz.P 42 [1, 1]))], [], false, .none⟩, [], []⟩
noncomputable def B42 : S42 → Tr S42 (Bool)
  | .c0 a13 a14 => (.nxt (.c1 a13 a14 0))
  | .c1 x15 x16 y17 => (.br (decide (y17 < (↑x15 : Int)))
  (.ask (.le 0 y17) (.ask (.lt y17 ((↑x15 : Int))) (.ask (.leN (y17.toNat * 1) x16.length) (.ask (.prop (Option.map AV.d (List.drop (y17.toNat * 1) x16)[0]? = some (AV.d (DV.sl (dN (cel x16 (y17.toNat * 1))) (dL (cel x16 (y17.toNat * 1))))))) (.br (decide ((↑(dN (cel x16 (y17.toNat * 1))) : Int) > 17))
  (.ret false)
  (.ask (.in64 (y17 + 1)) (.nxt (.c1 x15 x16 (y17 + 1)))))))))
  (.ret (decide ((↑x15 : Int) ≤ 17))))
noncomputable def F42 (a13 : Nat) (a14 : List DV) : Option (Bool) := res B42 (.c0 a13 a14)
theorem ok42 : ∀ s, ∃ d, xrun cfz 42 d [] (st42 s) = (B42 s).mach st42 out42 := fun s => match s with
  | .c0 a13 a14 => ⟨(.go 11 [] [] (.cut 0 [[0, 3]] [])), by kernel_rfl⟩
  | .c1 x15 x16 y17 => ⟨(.go 8 [] [] (.split 7 (.go 13 [(.br true), (.as (.d (.sl (dN (cel x16 (y17.toNat * 1))) (dL (cel x16 (y17.toNat * 1))))))] [0] (.split 15 (.go 6 [(.br true)] [0] .fin) (.go 9 [(.br false)] [0] (.cut 0 [[0, 3]] [])))) (.go 10 [(.br false)] [0] .fin))), by kernel_rfl⟩
theorem f42 (a13 : Nat) (a14 : List DV) (v : Bool) (h : F42 a13 a14 = some v) : PQ 42 [(.d (.sl a13 a14))] (out42 v) := tree_pure knil ok42 (s := .c0 a13 a14) rfl (by kernel_rfl) v h

/-! F60 -/
inductive S60 where
  | c0 (a24 : Nat) (a25 : List DV) (a26 : Int)
  | c1 (x71 : Nat) (x72 : List DV) (x73 y74 : Int)
  | c2 (x76 : Nat) (x77 : List DV) (y78 y79 : Nat) (y80 : List DV) (x81 y82 : Int) (y84 : Nat)
def out60 (v : Nat × List DV × Int) : AV := (.tup [(.d (.sl v.fst v.snd.fst)), (aI v.snd.snd)])
noncomputable def st60 : S60 → ASt
  | .c0 a24 a25 a26 => ent cfz 60 [(.d (.sl a24 a25)), (aI a26)]
  | .c1 x71 x72 x73 y74 => ⟨⟨60, sp 31 0 [(0, (.d (.sl x71 x72))), (7, (.d (.v (.slice .none 0 0)))), (21, (aI x73)), (22, (aI y74))], [(.code (cd cfz.P 60 [1, 1, 1, 0, 1, 0, 0])), (.inLoop (cd cfz.P 60 [1, 1, 1, 0, 1, 0, 0])), (.inBlock 0), (.code (cd cfz.P 60 [1, 1, 1, 1]))], [], false, .none⟩, [], []⟩
  | .c2 x76 x77 y78 y79 y80 x81 y82 y84 => ⟨⟨60, sp 31 0 [(0, (.d (.sl x76 x77))), (7, (.own 1 y78 1 y79 y80)), (21, (aI x81)), (22, (aI y82))], [(.code (cd cfz.P 60 [1, 1, 1, 0, 1, 0, 0])), (.inLoop (cd cfz.P 60 [1, 1, 1, 0, 1, 0, 0])), (.inBlock 0), (.code (cd cfz.P 60 [1, 1, 1, 1]))], [], false, .none⟩, [], [(.tail 0), (.tail y84)]⟩
noncomputable def B60 : S60 → Tr S60 (Nat × List DV × Int)
  | .c0 a24 a25 a26 => (.bind (F105 a24 a25) fun v67 =>
  (.sees [(.d (.sl a24 a25))] (.bind (F91 a26 1 15) fun v68 =>
  (.sees [(aI a26), (aI 1), (aI 15)] (.bind (F83 (decide ((↑a24 : Int) > 16)) 5) fun v69 =>
  (.sees [(.d (.v (.bool (decide ((↑a24 : Int) > 16))))), (aI 5)] (.bind (F82 3 [(vI v67), (vI v68), (vI v69)]) fun v70 =>
  (.sees [(.d (.sl 3 [(vI v67), (vI v68), (vI v69)]))] (.br (v70 != 0)
  (.ret (0, [], v70))
  (.nxt (.c1 a24 a25 a26 0)))))))))))
  | .c1 x71 x72 x73 y74 => (.br (decide (y74 < x73))
  (.bind (F86c x71 x72) fun v75 =>
  (.sees [(.d (.sl x71 x72))] (.ask (.in64 (y74 + 1)) (.nxt (.c2 x71 x72 0 1 [(.sl v75.fst v75.snd)] x73 (y74 + 1) 0)))))
  (.ret (0, [], 0)))
  | .c2 x76 x77 y78 y79 y80 x81 y82 y84 => (.br (decide (y82 < x81))
  (.bind (F86c x76 x77) fun v85 =>
  (.sees [(.d (.sl x76 x77))] (.ask (.eqN y78 y84) (.ask (.fits (y79 + 1) 24) (.ask (.in64 (y82 + 1)) (.nxt (.c2 x76 x77 (y84 + 1) (y79 + 1) (y80 ++ [DV.sl v85.fst v85.snd]) x81 (y82 + 1) (y84 + 1))))))))
  (.ret (y79, y80, 0)))
noncomputable def F60 (a24 : Nat) (a25 : List DV) (a26 : Int) : Option (Nat × List DV × Int) := res B60 (.c0 a24 a25 a26)
theorem ok60 : ∀ s, ∃ d, xrun cfz 60 d [] (st60 s) = (B60 s).mach st60 out60 := fun s => match s with
  | .c0 a24 a25 a26 => ⟨(.go 9 [] [] (.bind (f105 a24 a25) fun v67 => (.go 2 [(.ck 0)] [] (.bind (f91 a26 1 15) fun v68 => (.go 4 [(.ck 1)] [] (.bind (f83 (decide ((↑a24 : Int) > 16)) 5) fun v69 => (.go 2 [(.ck 2)] [] (.bind (f82 3 [(vI v67), (vI v68), (vI v69)]) fun v70 => (.go 8 [(.ck 3)] [] (.split 19 (.go 8 [(.br true)] [0] .fin) (.go 14 [(.br false)] [0] (.cut 0 [[0, 7, 21, 22]] [])))))))))))), by kernel_rfl⟩
  | .c1 x71 x72 x73 y74 => ⟨(.go 5 [] [] (.split 23 (.go 7 [(.br true)] [0] (.bind (f86c x71 x72) fun v75 => (.go 11 [(.ck 0)] [1, 2, 3] (.cut 2 [[0, 7, 21, 22]] [])))) (.go 9 [(.br false)] [0] .fin))), by kernel_rfl⟩
  | .c2 x76 x77 y78 y79 y80 x81 y82 y84 => ⟨(.go 5 [] [] (.split 23 (.go 7 [(.br true)] [0] (.bind (f86c x76 x77) fun v85 => (.go 11 [(.ck 0)] [2, 3] (.cut 2 [[0, 7, 21, 22]] [])))) (.go 9 [(.br false)] [0] .fin))), by kernel_rfl⟩
theorem f60 (a24 : Nat) (a25 : List DV) (a26 : Int) (v : Nat × List DV × Int) (h : F60 a24 a25 a26 = some v) : PQ 60 [(.d (.sl a24 a25)), (aI a26)] (out60 v) := tree_pure knil ok60 (s := .c0 a24 a25 a26) rfl (by kernel_rfl) v h

/-! F143 -/
inductive S143 where
  | c0 (x0 : Nat) (x1 x4 : List DV)
def out143 (v : Bool) : AV := (.d (.v (.bool v)))
noncomputable def st143 : S143 → ASt
  | .c0 x0 x1 x4 => ent cfz 143 [(.d (.sl x0 x1)), (.ip x4)]
noncomputable def B143 : S143 → Tr S143 (Bool)
  | .c0 x0 x1 x4 => (.ask (.prop (Option.map AV.d x4[0]? = some (AV.d (DV.sl (dN (cel x4 0)) (dL (cel x4 0)))))) (.ask (.lt 0 ((↑(dN (cel x4 0)) : Int))) (.ask (.leN 0 ((dL (cel x4 0)).length)) (.ask (.prop (Option.map AV.d (List.drop 0 (dL (cel x4 0)))[0]? = some (AV.d (DV.sl (dN (cel (dL (cel x4 0)) 0)) (dL (cel (dL (cel x4 0)) 0)))))) (.ret ((↑x0 : Int) != (↑(dN (cel (dL (cel x4 0)) 0)) : Int)))))))
noncomputable def F143 (x0 : Nat) (x1 x4 : List DV) : Option (Bool) := res B143 (.c0 x0 x1 x4)
theorem ok143 : ∀ s, ∃ d, xrun cfz 143 d [] (st143 s) = (B143 s).mach st143 out143 := fun s => match s with
  | .c0 x0 x1 x4 => ⟨(.go 16 [(.as (.d (.sl (dN (cel x4 0)) (dL (cel x4 0))))), (.as (.d (.sl (dN (cel (dL (cel x4 0)) 0)) (dL (cel (dL (cel x4 0)) 0)))))] [1] .fin), by kernel_rfl⟩
theorem f143 (x0 : Nat) (x1 x4 : List DV) (v : Bool) (h : F143 x0 x1 x4 = some v) : PQ 143 [(.d (.sl x0 x1)), (.ip x4)] (out143 v) := tree_pure knil ok143 (s := .c0 x0 x1 x4) rfl (by kernel_rfl) v h

/-! F133 -/
inductive S133 where
  | c0 (x0 : Nat) (x1 x4 : List DV)
  | c1 (x0 : Nat) (x1 x4 : List DV) (x8 x9 : Int)
def out133 (v : Int) : AV := (aI v)
noncomputable def st133 : S133 → ASt
  | .c0 x0 x1 x4 => ent cfz 133 [(.d (.sl x0 x1)), (.fn (.func 143) [] [(.ip x4)])]
  | .c1 x0 x1 x4 x8 x9 => ⟨⟨133, sp 19 0 [(0, (.d (.sl x0 x1))), (1, (.fn (.func 143) [] [(.ip x4)])), (7, (aI x8)), (8, (aI x9))], [(.code (cd cfz.P 133 [1, 0, 1, 0, 0])), (.inLoop (cd cfz.P 133 [1, 0, 1, 0, 0])), (.inBlock 0), (.code (cd cfz.P 133 [1, 1]))], [], false, .none⟩, [], []⟩
noncomputable def B133 : S133 → Tr S133 (Int)
  | .c0 x0 x1 x4 => (.nxt (.c1 x0 x1 x4 ((↑x0 : Int)) 0))
  | .c1 x0 x1 x4 x8 x9 => (.br (decide (x9 < x8))
  (.ask (.le 0 x9) (.ask (.lt x9 ((↑x0 : Int))) (.ask (.leN (x9.toNat * 1) x1.length) (.ask (.prop (Option.map AV.d (List.drop (x9.toNat * 1) x1)[0]? = some (AV.d (DV.sl (dN (cel x1 (x9.toNat * 1))) (dL (cel x1 (x9.toNat * 1))))))) (.bind (F143 (dN (cel x1 (x9.toNat * 1))) (dL (cel x1 (x9.toNat * 1))) x4) fun xa =>
  (.sees [(.d (.sl (dN (cel x1 (x9.toNat * 1))) (dL (cel x1 (x9.toNat * 1))))), (.ip x4)] (.br xa
  (.ret x9)
  (.ask (.in64 (x9 + 1)) (.nxt (.c1 x0 x1 x4 x8 (x9 + 1)))))))))))
  (.ret (-1)))
noncomputable def F133 (x0 : Nat) (x1 x4 : List DV) : Option (Int) := res B133 (.c0 x0 x1 x4)
theorem ok133 : ∀ s, ∃ d, xrun cfz 133 d [] (st133 s) = (B133 s).mach st133 out133 := fun s => match s with
  | .c0 x0 x1 x4 => ⟨(.go 13 [] [] (.cut 0 [[0, 1, 7, 8]] [])), by kernel_rfl⟩
  | .c1 x0 x1 x4 x8 x9 => ⟨(.go 5 [] [] (.split 9 (.go 16 [(.br true), (.as (.d (.sl (dN (cel x1 (x9.toNat * 1))) (dL (cel x1 (x9.toNat * 1))))))] [0] (.bind (f143 (dN (cel x1 (x9.toNat * 1))) (dL (cel x1 (x9.toNat * 1))) x4) fun xa => (.go 2 [(.ck 0)] [] (.split 16 (.go 7 [(.br true)] [0] .fin) (.go 8 [(.br false)] [0] (.cut 0 [[0, 1, 7, 8]] [])))))) (.go 7 [(.br false)] [0] .fin))), by kernel_rfl⟩
theorem f133 (x0 : Nat) (x1 x4 : List DV) (v : Int) (h : F133 x0 x1 x4 = some v) : PQ 133 [(.d (.sl x0 x1)), (.fn (.func 143) [] [(.ip x4)])] (out133 v) := tree_pure knil ok133 (s := .c0 x0 x1 x4) rfl (by kernel_rfl) v h

/-! F142 -/
inductive S142 where
  | c0 (x0 : Nat) (x1 x4 : List DV)
def out142 (v : Bool) : AV := (.d (.v (.bool v)))
noncomputable def st142 : S142 → ASt
  | .c0 x0 x1 x4 => ent cfz 142 [(.d (.sl x0 x1)), (.fn (.func 143) [] [(.ip x4)])]
noncomputable def B142 : S142 → Tr S142 (Bool)
  | .c0 x0 x1 x4 => (.bind (F133 x0 x1 x4) fun x8 =>
  (.sees [(.d (.sl x0 x1)), (.fn (.func 143) [] [(.ip x4)])] (.ret (decide (x8 ≥ 0)))))
noncomputable def F142 (x0 : Nat) (x1 x4 : List DV) : Option (Bool) := res B142 (.c0 x0 x1 x4)
theorem ok142 : ∀ s, ∃ d, xrun cfz 142 d [] (st142 s) = (B142 s).mach st142 out142 := fun s => match s with
  | .c0 x0 x1 x4 => ⟨(.go 8 [] [] (.bind (f133 x0 x1 x4) fun x8 => (.go 5 [(.ck 0)] [] .fin))), by kernel_rfl⟩
theorem f142 (x0 : Nat) (x1 x4 : List DV) (v : Bool) (h : F142 x0 x1 x4 = some v) : PQ 142 [(.d (.sl x0 x1)), (.fn (.func 143) [] [(.ip x4)])] (out142 v) := tree_pure knil ok142 (s := .c0 x0 x1 x4) rfl (by kernel_rfl) v h

/-! F144 -/
inductive S144 where
  | c0 (x0 : Nat) (x1 : List DV)
  | c1 (x0 : Nat) (x1 : List DV) (x4 x8 : Int)
  | c2 (x0 x1 : Nat) (x4 : List DV) (x8 : Nat) (x9 : List DV) (xa xb : Int) (xc : Nat)
def out144 (v : Nat × List DV) : AV := (.d (.sl v.fst v.snd))
noncomputable def st144 : S144 → ASt
  | .c0 x0 x1 => ent cfz 144 [(.d (.sl x0 x1)), (.d (.v (.func (.func 84) (#[]) (#[]))))]
  | .c1 x0 x1 x4 x8 => ⟨⟨144, sp 22 0 [(1, (.d (.v (.func (.func 84) (#[]) (#[]))))), (5, (.d (.v (.slice .none 0 0)))), (8, (.d (.sl x0 x1))), (9, (aI x4)), (10, (aI x8))], [(.code (cd cfz.P 144 [1, 1, 0, 1, 0, 0])), (.inLoop (cd cfz.P 144 [1, 1, 0, 1, 0, 0])), (.inBlock 0), (.code (cd cfz.P 144 [1, 1, 1]))], [], false, .none⟩, [], []⟩
  | .c2 x0 x1 x4 x8 x9 xa xb xc => ⟨⟨144, sp 22 0 [(1, (.d (.v (.func (.func 84) (#[]) (#[]))))), (5, (.own 1 x0 1 x1 x4)), (8, (.d (.sl x8 x9))), (9, (aI xa)), (10, (aI xb))], [(.code (cd cfz.P 144 [1, 1, 0, 1, 0, 0])), (.inLoop (cd cfz.P 144 [1, 1, 0, 1, 0, 0])), (.inBlock 0), (.code (cd cfz.P 144 [1, 1, 1]))], [], false, .none⟩, [], [(.tail 0), (.tail xc)]⟩
noncomputable def B144 : S144 → Tr S144 (Nat × List DV)
  | .c0 x0 x1 => (.nxt (.c1 x0 x1 ((↑x0 : Int)) 0))
  | .c1 x0 x1 x4 x8 => (.br (decide (x8 < x4))
  (.ask (.le 0 x8) (.ask (.lt x8 ((↑x0 : Int))) (.ask (.leN (x8.toNat * 1) x1.length) (.ask (.prop (Option.map AV.d (List.drop (x8.toNat * 1) x1)[0]? = some (AV.d (DV.sl (dN (cel x1 (x8.toNat * 1))) (dL (cel x1 (x8.toNat * 1))))))) (.bind (F84 (dN (cel x1 (x8.toNat * 1))) (dL (cel x1 (x8.toNat * 1)))) fun x9 =>
  (.sees [(.d (.sl (dN (cel x1 (x8.toNat * 1))) (dL (cel x1 (x8.toNat * 1)))))] (.ask (.in64 (x8 + 1)) (.nxt (.c2 0 1 [(vI x9)] x0 x1 x4 (x8 + 1) 0)))))))))
  (.ret (0, [])))
  | .c2 x0 x1 x4 x8 x9 xa xb xc => (.br (decide (xb < xa))
  (.ask (.le 0 xb) (.ask (.lt xb ((↑x8 : Int))) (.ask (.leN (xb.toNat * 1) x9.length) (.ask (.prop (Option.map AV.d (List.drop (xb.toNat * 1) x9)[0]? = some (AV.d (DV.sl (dN (cel x9 (xb.toNat * 1))) (dL (cel x9 (xb.toNat * 1))))))) (.bind (F84 (dN (cel x9 (xb.toNat * 1))) (dL (cel x9 (xb.toNat * 1)))) fun xd =>
  (.sees [(.d (.sl (dN (cel x9 (xb.toNat * 1))) (dL (cel x9 (xb.toNat * 1)))))] (.ask (.eqN x0 xc) (.ask (.fits (x1 + 1) 8) (.ask (.in64 (xb + 1)) (.nxt (.c2 (xc + 1) (x1 + 1) (x4 ++ [vI xd]) x8 x9 xa (xb + 1) (xc + 1))))))))))))
  (.ret (x1, x4)))
noncomputable def F144 (x0 : Nat) (x1 : List DV) : Option (Nat × List DV) := res B144 (.c0 x0 x1)
theorem ok144 : ∀ s, ∃ d, xrun cfz 144 d [] (st144 s) = (B144 s).mach st144 out144 := fun s => match s with
  | .c0 x0 x1 => ⟨(.go 17 [] [] (.cut 0 [[1, 5, 8, 9, 10]] [])), by kernel_rfl⟩
  | .c1 x0 x1 x4 x8 => ⟨(.go 5 [] [] (.split 11 (.go 14 [(.br true), (.as (.d (.sl (dN (cel x1 (x8.toNat * 1))) (dL (cel x1 (x8.toNat * 1))))))] [0] (.bind (f84 (dN (cel x1 (x8.toNat * 1))) (dL (cel x1 (x8.toNat * 1)))) fun x9 => (.go 11 [(.ck 0)] [1, 2, 3] (.cut 2 [[1, 5, 8, 9, 10]] [])))) (.go 8 [(.br false)] [0] .fin))), by kernel_rfl⟩
  | .c2 x0 x1 x4 x8 x9 xa xb xc => ⟨(.go 5 [] [] (.split 11 (.go 14 [(.br true), (.as (.d (.sl (dN (cel x9 (xb.toNat * 1))) (dL (cel x9 (xb.toNat * 1))))))] [0] (.bind (f84 (dN (cel x9 (xb.toNat * 1))) (dL (cel x9 (xb.toNat * 1)))) fun xd => (.go 11 [(.ck 0)] [2, 3] (.cut 2 [[1, 5, 8, 9, 10]] [])))) (.go 8 [(.br false)] [0] .fin))), by kernel_rfl⟩
theorem f144 (x0 : Nat) (x1 : List DV) (v : Nat × List DV) (h : F144 x0 x1 = some v) : PQ 144 [(.d (.sl x0 x1)), (.d (.v (.func (.func 84) (#[]) (#[]))))] (out144 v) := tree_pure knil ok144 (s := .c0 x0 x1) rfl (by kernel_rfl) v h

/-! F104 -/
inductive S104 where
  | c0 (x0 : Nat) (x1 : List DV) (x4 : Int)
def out104 (v : Int) : AV := (aI v)
noncomputable def st104 : S104 → ASt
  | .c0 x0 x1 x4 => ent cfz 104 [(.d (.sl x0 x1)), (aI x4)]
noncomputable def B104 : S104 → Tr S104 (Int)
  | .c0 x0 x1 x4 => (.bind (F83 ((↑x0 : Int) == 0) 12) fun x8 =>
  (.bind (F83 (decide ((↑x0 : Int) > x4)) 5) fun x9 =>
  (.bind (F82 2 [(vI x8), (vI x9)]) fun xa =>
  (.sees [(.d (.v (.bool ((↑x0 : Int) == 0)))), (aI 12)] (.sees [(.d (.v (.bool (decide ((↑x0 : Int) > x4))))), (aI 5)] (.sees [(.d (.sl 2 [(vI x8), (vI x9)]))] (.br (xa != 0)
  (.ret xa)
  (.bind (F142 x0 x1 [(.sl x0 x1)]) fun xb =>
  (.sees [(.d (.sl x0 x1)), (.fn (.func 143) [] [(.ip [(.sl x0 x1)])])] (.bind (F83 xb 2) fun xc =>
  (.bind (F83 (decide ((↑(dN (cel x1 0)) : Int) > 16)) 5) fun xd =>
  (.bind (F82 2 [(vI xc), (vI xd)]) fun xe =>
  (.sees [(.d (.v (.bool xb))), (aI 2)] (.ask (.lt 0 ((↑x0 : Int))) (.ask (.leN 0 x1.length) (.ask (.prop (Option.map AV.d (List.drop 0 x1)[0]? = some (AV.d (DV.sl (dN (cel x1 0)) (dL (cel x1 0)))))) (.sees [(.d (.v (.bool (decide ((↑(dN (cel x1 0)) : Int) > 16))))), (aI 5)] (.sees [(.d (.sl 2 [(vI xc), (vI xd)]))] (.br (xe != 0)
  (.ret xe)
  (.bind (F144 x0 x1) fun xf =>
  (.sees [(.d (.sl x0 x1)), (.d (.v (.func (.func 84) (#[]) (#[]))))] (.bind (F82 xf.fst xf.snd) fun xg =>
  (.sees [(.d (.sl xf.fst xf.snd))] (.ret xg))))))))))))))))))))))))
noncomputable def F104 (x0 : Nat) (x1 : List DV) (x4 : Int) : Option (Int) := res B104 (.c0 x0 x1 x4)
theorem ok104 : ∀ s, ∃ d, xrun cfz 104 d [] (st104 s) = (B104 s).mach st104 out104 := fun s => match s with
  | .c0 x0 x1 x4 => ⟨(.go 8 [] [] (.bind (f83 ((↑x0 : Int) == 0) 12) fun x8 => (.bind (f83 (decide ((↑x0 : Int) > x4)) 5) fun x9 => (.bind (f82 2 [(vI x8), (vI x9)]) fun xa => (.go 6 [(.ck 0), (.ck 1), (.ck 2)] [] (.split 20 (.go 7 [(.br true)] [0] .fin) (.go 6 [(.br false)] [0] (.bind (f142 x0 x1 [(.sl x0 x1)]) fun xb => (.go 6 [(.ck 3)] [] (.bind (f83 xb 2) fun xc => (.bind (f83 (decide ((↑(dN (cel x1 0)) : Int) > 16)) 5) fun xd => (.bind (f82 2 [(vI xc), (vI xd)]) fun xe => (.go 6 [(.ck 4), .none, (.as (.d (.sl (dN (cel x1 0)) (dL (cel x1 0))))), (.ck 5), (.ck 6)] [1] (.split 36 (.go 7 [(.br true)] [0] .fin) (.go 5 [(.br false)] [0] (.bind (f144 x0 x1) fun xf => (.go 1 [(.ck 7)] [] (.bind (f82 xf.fst xf.snd) fun xg => (.go 4 [(.ck 8)] [] .fin))))))))))))))))))), by kernel_rfl⟩
theorem f104 (x0 : Nat) (x1 : List DV) (x4 v : Int) (h : F104 x0 x1 x4 = some v) : PQ 104 [(.d (.sl x0 x1)), (aI x4)] (out104 v) := tree_pure knil ok104 (s := .c0 x0 x1 x4) rfl (by kernel_rfl) v h

/-! F109 -/
inductive S109 where
  | c0 (x0 : Nat) (x1 x4 : List DV)
def out109 (v : Int) : AV := (aI v)
noncomputable def st109 : S109 → ASt
  | .c0 x0 x1 x4 => ent cfz 109 [(.d (.sl x0 x1)), (.ip x4)]
noncomputable def B109 : S109 → Tr S109 (Int)
  | .c0 x0 x1 x4 => (.ask (.prop (Option.map AV.d x4[0]? = some (AV.d (vI (dI (cel x4 0)))))) (.ask (.le 0 (dI (cel x4 0))) (.ask (.lt (dI (cel x4 0)) ((↑x0 : Int))) (.ask (.leN ((dI (cel x4 0)).toNat * 1) x1.length) (.ask (.prop (Option.map AV.d (List.drop ((dI (cel x4 0)).toNat * 1) x1)[0]? = some (AV.d (vI (dI (cel x1 ((dI (cel x4 0)).toNat * 1))))))) (.ret (dI (cel x1 ((dI (cel x4 0)).toNat * 1)))))))))
noncomputable def F109 (x0 : Nat) (x1 x4 : List DV) : Option (Int) := res B109 (.c0 x0 x1 x4)
theorem ok109 : ∀ s, ∃ d, xrun cfz 109 d [] (st109 s) = (B109 s).mach st109 out109 := fun s => match s with
  | .c0 x0 x1 x4 => ⟨(.go 13 [(.as (aI (dI (cel x4 0)))), (.as (aI (dI (cel x1 ((dI (cel x4 0)).toNat * 1)))))] [] .fin), by kernel_rfl⟩
theorem f109 (x0 : Nat) (x1 x4 : List DV) (v : Int) (h : F109 x0 x1 x4 = some v) : PQ 109 [(.d (.sl x0 x1)), (.ip x4)] (out109 v) := tree_pure knil ok109 (s := .c0 x0 x1 x4) rfl (by kernel_rfl) v h

/-! F145 -/
inductive S145 where
  | c0 (x0 : Nat) (x1 : List DV)
  | c1 (x0 : Nat) (x1 : List DV) (x4 x8 : Int)
def out145 (v : Int) : AV := (aI v)
noncomputable def st145 : S145 → ASt
  | .c0 x0 x1 => ent cfz 145 [(.d (.sl x0 x1))]
  | .c1 x0 x1 x4 x8 => ⟨⟨145, sp 25 0 [(0, (.d (.sl x0 x1))), (3, (aI x4)), (4, (aI x8))], [(.code (cd cfz.P 145 [1, 1, 1, 0, 1, 0, 0])), (.inLoop (cd cfz.P 145 [1, 1, 1, 0, 1, 0, 0])), (.inBlock 0), (.code (cd cfz.P 145 [1, 1, 1, 1]))], [], false, .none⟩, [], []⟩
noncomputable def B145 : S145 → Tr S145 (Int)
  | .c0 x0 x1 => (.ask (.eqB (decide ((↑x0 : Int) < 1)) false) (.ask (.lt 0 ((↑x0 : Int))) (.ask (.leN 0 x1.length) (.ask (.prop (Option.map AV.d (List.drop 0 x1)[0]? = some (AV.d (vI (dI (cel x1 0)))))) (.nxt (.c1 x0 x1 (dI (cel x1 0)) 1))))))
  | .c1 x0 x1 x4 x8 => (.br (decide (x8 < (↑x0 : Int)))
  (.ask (.le 0 x8) (.ask (.lt x8 ((↑x0 : Int))) (.ask (.leN (x8.toNat * 1) x1.length) (.ask (.prop (Option.map AV.d (List.drop (x8.toNat * 1) x1)[0]? = some (AV.d (vI (dI (cel x1 (x8.toNat * 1))))))) (.ask (.in64 (x8 + 1)) (.nxt (.c1 x0 x1 (if dI (cel x1 (x8.toNat * 1)) > x4 then dI (cel x1 (x8.toNat * 1)) else x4) (x8 + 1))))))))
  (.ret x4))
noncomputable def F145 (x0 : Nat) (x1 : List DV) : Option (Int) := res B145 (.c0 x0 x1)
theorem ok145 : ∀ s, ∃ d, xrun cfz 145 d [] (st145 s) = (B145 s).mach st145 out145 := fun s => match s with
  | .c0 x0 x1 => ⟨(.go 11 [] [] (.assume 7 false (.go 16 [(.br false), (.as (aI (dI (cel x1 0))))] [0, 1] (.cut 0 [[0, 3, 4]] [])))), by kernel_rfl⟩
  | .c1 x0 x1 x4 x8 => ⟨(.go 8 [] [] (.split 15 (.go 20 [(.br true), (.as (aI (dI (cel x1 (x8.toNat * 1)))))] [0] (.cut 0 [[0, 3, 4]] [])) (.go 8 [(.br false)] [0] .fin))), by kernel_rfl⟩
theorem f145 (x0 : Nat) (x1 : List DV) (v : Int) (h : F145 x0 x1 = some v) : PQ 145 [(.d (.sl x0 x1))] (out145 v) := tree_pure knil ok145 (s := .c0 x0 x1) rfl (by kernel_rfl) v h

/-! F110 -/
inductive S110 where
  | c0 (x0 : Nat) (x1 : List DV) (x4 : Int)
def out110 (v : Bool) : AV := (.d (.v (.bool v)))
noncomputable def st110 : S110 → ASt
  | .c0 x0 x1 x4 => ent cfz 110 [(.d (.sl x0 x1)), (aI x4)]
noncomputable def B110 : S110 → Tr S110 (Bool)
  | .c0 x0 x1 x4 => (.bind (F146 x0 x1 x4) fun x8 =>
  (.sees [(.d (.sl x0 x1)), (aI x4)] (.ret (decide (x8 ≥ 0)))))
noncomputable def F110 (x0 : Nat) (x1 : List DV) (x4 : Int) : Option (Bool) := res B110 (.c0 x0 x1 x4)
theorem ok110 : ∀ s, ∃ d, xrun cfz 110 d [] (st110 s) = (B110 s).mach st110 out110 := fun s => match s with
  | .c0 x0 x1 x4 => ⟨(.go 8 [] [] (.bind (f146 x0 x1 x4) fun x8 => (.go 5 [(.ck 0)] [] .fin))), by kernel_rfl⟩
theorem f110 (x0 : Nat) (x1 : List DV) (x4 : Int) (v : Bool) (h : F110 x0 x1 x4 = some v) : PQ 110 [(.d (.sl x0 x1)), (aI x4)] (out110 v) := tree_pure knil ok110 (s := .c0 x0 x1 x4) rfl (by kernel_rfl) v h

/-! F107 -/
inductive S107 where
  | c0 (a8 : Nat) (a9 : List DV)
  | c1 (x10 : Nat) (x11 : List DV) (x12 y13 : Int)
  | c2 (x14 : Nat) (x15 : List DV) (x16 y17 : Int) (x18 : List AV)
def out107 (v : Int × Bool) : AV := (.tup [(aI v.fst), (.d (.v (.bool v.snd)))])
noncomputable def st107 : S107 → ASt
  | .c0 a8 a9 => ent cfz 107 [(.d (.sl a8 a9))]
  | .c1 x10 x11 x12 y13 => ⟨⟨107, sp 33 0 [(4, (.ptr 0 0)), (9, (.d (.sl x10 x11))), (10, (aI x12)), (11, (aI y13))], [(.code (cd cfz.P 107 [1, 1, 0, 1, 0, 0])), (.inLoop (cd cfz.P 107 [1, 1, 0, 1, 0, 0])), (.inBlock 0), (.code (cd cfz.P 107 [1, 1, 1]))], [], false, .none⟩, [], [(.cells [(aI 0), (aI 0), (aI 0), (aI 0), (aI 0), (aI 0), (aI 0), (aI 0), (aI 0), (aI 0), (aI 0), (aI 0), (aI 0), (aI 0), (aI 0), (aI 0), (aI 0)] 188)]⟩
  | .c2 x14 x15 x16 y17 x18 => ⟨⟨107, sp 33 0 [(4, (.ptr 0 0)), (9, (.d (.sl x14 x15))), (10, (aI x16)), (11, (aI y17))], [(.code (cd cfz.P 107 [1, 1, 0, 1, 0, 0])), (.inLoop (cd cfz.P 107 [1, 1, 0, 1, 0, 0])), (.inBlock 0), (.code (cd cfz.P 107 [1, 1, 1]))], [], false, .none⟩, [], [(.cells x18 188)]⟩
noncomputable def B107 : S107 → Tr S107 (Int × Bool)
  | .c0 a8 a9 => (.nxt (.c1 a8 a9 ((↑a8 : Int)) 0))
  | .c1 x10 x11 x12 y13 => (.br (decide (y13 < x12))
  (.ask (.le 0 y13) (.ask (.lt y13 ((↑x10 : Int))) (.ask (.leN (y13.toNat * 1) x11.length) (.ask (.prop (Option.map AV.d (List.drop (y13.toNat * 1) x11)[0]? = some (AV.d (vI (dI (cel x11 (y13.toNat * 1))))))) (.ask (.le 0 (dI (cel x11 (y13.toNat * 1)))) (.ask (.lt (dI (cel x11 (y13.toNat * 1))) 17) (.ask (.prop ([AV.d (vI 0), AV.d (vI 0), AV.d (vI 0), AV.d (vI 0), AV.d (vI 0), AV.d (vI 0), AV.d (vI 0), AV.d (vI 0), AV.d (vI 0), AV.d (vI 0), AV.d (vI 0), AV.d (vI 0), AV.d (vI 0), AV.d (vI 0), AV.d (vI 0), AV.d (vI 0), AV.d (vI 0)][0 + (dI (cel x11 (y13.toNat * 1))).toNat * 1]? = some (AV.d (vI (dI (celA [aI 0, aI 0, aI 0, aI 0, aI 0, aI 0, aI 0, aI 0, aI 0, aI 0, aI 0, aI 0, aI 0, aI 0, aI 0, aI 0, aI 0] (0 + (dI (cel x11 (y13.toNat * 1))).toNat * 1))))))) (.ask (.in64 (dI (celA [AV.d (vI 0), AV.d (vI 0), AV.d (vI 0), AV.d (vI 0), AV.d (vI 0), AV.d (vI 0), AV.d (vI 0), AV.d (vI 0), AV.d (vI 0), AV.d (vI 0), AV.d (vI 0), AV.d (vI 0), AV.d (vI 0), AV.d (vI 0), AV.d (vI 0), AV.d (vI 0), AV.d (vI 0)] (0 + (dI (cel x11 (y13.toNat * 1))).toNat * 1)) + 1)) (.ask (.le 0 (dI (cel x11 (y13.toNat * 1)))) (.ask (.lt (dI (cel x11 (y13.toNat * 1))) 17) (.ask (.leN (0 + (dI (cel x11 (y13.toNat * 1))).toNat * 1 + 1) 17) (.triv _ (tv_p (spliceA [AV.d (vI 0), AV.d (vI 0), AV.d (vI 0), AV.d (vI 0), AV.d (vI 0), AV.d (vI 0), AV.d (vI 0), AV.d (vI 0), AV.d (vI 0), AV.d (vI 0), AV.d (vI 0), AV.d (vI 0), AV.d (vI 0), AV.d (vI 0), AV.d (vI 0), AV.d (vI 0), AV.d (vI 0)] (0 + (dI (cel x11 (y13.toNat * 1))).toNat * 1) [AV.d (vI (dI (celA [aI 0, aI 0, aI 0, aI 0, aI 0, aI 0, aI 0, aI 0, aI 0, aI 0, aI 0, aI 0, aI 0, aI 0, aI 0, aI 0, aI 0] (0 + (dI (cel x11 (y13.toNat * 1))).toNat * 1)) + 1))])) (.ask (.in64 (y13 + 1)) (.ask (.prop (refK 1 (ABlk.cells (spliceA [AV.d (vI 0), AV.d (vI 0), AV.d (vI 0), AV.d (vI 0), AV.d (vI 0), AV.d (vI 0), AV.d (vI 0), AV.d (vI 0), AV.d (vI 0), AV.d (vI 0), AV.d (vI 0), AV.d (vI 0), AV.d (vI 0), AV.d (vI 0), AV.d (vI 0), AV.d (vI 0), AV.d (vI 0)] (0 + (dI (cel x11 (y13.toNat * 1))).toNat * 1) [AV.d (vI (dI (celA [aI 0, aI 0, aI 0, aI 0, aI 0, aI 0, aI 0, aI 0, aI 0, aI 0, aI 0, aI 0, aI 0, aI 0, aI 0, aI 0, aI 0] (0 + (dI (cel x11 (y13.toNat * 1))).toNat * 1)) + 1))]) 188) = true)) (.nxt (.c2 x10 x11 x12 (y13 + 1) (spliceA [AV.d (vI 0), AV.d (vI 0), AV.d (vI 0), AV.d (vI 0), AV.d (vI 0), AV.d (vI 0), AV.d (vI 0), AV.d (vI 0), AV.d (vI 0), AV.d (vI 0), AV.d (vI 0), AV.d (vI 0), AV.d (vI 0), AV.d (vI 0), AV.d (vI 0), AV.d (vI 0), AV.d (vI 0)] (0 + (dI (cel x11 (y13.toNat * 1))).toNat * 1) [AV.d (vI (dI (celA [aI 0, aI 0, aI 0, aI 0, aI 0, aI 0, aI 0, aI 0, aI 0, aI 0, aI 0, aI 0, aI 0, aI 0, aI 0, aI 0, aI 0] (0 + (dI (cel x11 (y13.toNat * 1))).toNat * 1)) + 1))])))))))))))))))))
  (.bind (F145 17 [(vI 0), (vI 0), (vI 0), (vI 0), (vI 0), (vI 0), (vI 0), (vI 0), (vI 0), (vI 0), (vI 0), (vI 0), (vI 0), (vI 0), (vI 0), (vI 0), (vI 0)]) fun v20 =>
  (.sees [(.d (.sl 17 [(vI 0), (vI 0), (vI 0), (vI 0), (vI 0), (vI 0), (vI 0), (vI 0), (vI 0), (vI 0), (vI 0), (vI 0), (vI 0), (vI 0), (vI 0), (vI 0), (vI 0)]))] (.bind (F146 17 [(vI 0), (vI 0), (vI 0), (vI 0), (vI 0), (vI 0), (vI 0), (vI 0), (vI 0), (vI 0), (vI 0), (vI 0), (vI 0), (vI 0), (vI 0), (vI 0), (vI 0)] v20) fun v22 =>
  (.sees [(.d (.sl 17 [(vI 0), (vI 0), (vI 0), (vI 0), (vI 0), (vI 0), (vI 0), (vI 0), (vI 0), (vI 0), (vI 0), (vI 0), (vI 0), (vI 0), (vI 0), (vI 0), (vI 0)])), (aI v20)] (.ask (.in64 (v22 + 1)) (.ask (.le 0 (v22 + 1)) (.ask (.le (v22 + 1) 17) (.ask (.lt0 (v22 + 1) 17) (.bind (F110 (17 - (v22 + 1).toNat) (List.map aD (List.take ((17 - (v22 + 1).toNat) * 1) (List.drop (if Nat.beq 17 (v22 + 1).toNat = true then 0 else 0 + (v22 + 1).toNat * 1) [AV.d (vI 0), AV.d (vI 0), AV.d (vI 0), AV.d (vI 0), AV.d (vI 0), AV.d (vI 0), AV.d (vI 0), AV.d (vI 0), AV.d (vI 0), AV.d (vI 0), AV.d (vI 0), AV.d (vI 0), AV.d (vI 0), AV.d (vI 0), AV.d (vI 0), AV.d (vI 0), AV.d (vI 0)]))) v20) fun v23 =>
  (.sees [(.d (.sl (17 - (v22 + 1).toNat) (List.map aD (List.take ((17 - (v22 + 1).toNat) * 1) (List.drop (if Nat.beq 17 (v22 + 1).toNat = true then 0 else 0 + (v22 + 1).toNat * 1) [aI 0, aI 0, aI 0, aI 0, aI 0, aI 0, aI 0, aI 0, aI 0, aI 0, aI 0, aI 0, aI 0, aI 0, aI 0, aI 0, aI 0]))))), (aI v20)] (.ask (.leN ((if Nat.beq 17 (v22 + 1).toNat = true then 0 else 0 + (v22 + 1).toNat * 1) + (17 - (v22 + 1).toNat) * 1) 17) (.ask (.prop (toDs (List.take ((17 - (v22 + 1).toNat) * 1) (List.drop (if Nat.beq 17 (v22 + 1).toNat = true then 0 else 0 + (v22 + 1).toNat * 1) [AV.d (vI 0), AV.d (vI 0), AV.d (vI 0), AV.d (vI 0), AV.d (vI 0), AV.d (vI 0), AV.d (vI 0), AV.d (vI 0), AV.d (vI 0), AV.d (vI 0), AV.d (vI 0), AV.d (vI 0), AV.d (vI 0), AV.d (vI 0), AV.d (vI 0), AV.d (vI 0), AV.d (vI 0)])) = some (List.map aD (List.take ((17 - (v22 + 1).toNat) * 1) (List.drop (if Nat.beq 17 (v22 + 1).toNat = true then 0 else 0 + (v22 + 1).toNat * 1) [AV.d (vI 0), AV.d (vI 0), AV.d (vI 0), AV.d (vI 0), AV.d (vI 0), AV.d (vI 0), AV.d (vI 0), AV.d (vI 0), AV.d (vI 0), AV.d (vI 0), AV.d (vI 0), AV.d (vI 0), AV.d (vI 0), AV.d (vI 0), AV.d (vI 0), AV.d (vI 0), AV.d (vI 0)]))))) (.ret (v22, (!v23))))))))))))))))
  | .c2 x14 x15 x16 y17 x18 => (.br (decide (y17 < x16))
  (.ask (.le 0 y17) (.ask (.lt y17 ((↑x14 : Int))) (.ask (.leN (y17.toNat * 1) x15.length) (.ask (.prop (Option.map AV.d (List.drop (y17.toNat * 1) x15)[0]? = some (AV.d (vI (dI (cel x15 (y17.toNat * 1))))))) (.ask (.le 0 (dI (cel x15 (y17.toNat * 1)))) (.ask (.lt (dI (cel x15 (y17.toNat * 1))) 17) (.ask (.prop (x18[0 + (dI (cel x15 (y17.toNat * 1))).toNat * 1]? = some (AV.d (vI (dI (celA x18 (0 + (dI (cel x15 (y17.toNat * 1))).toNat * 1))))))) (.ask (.in64 (dI (celA x18 (0 + (dI (cel x15 (y17.toNat * 1))).toNat * 1)) + 1)) (.ask (.le 0 (dI (cel x15 (y17.toNat * 1)))) (.ask (.lt (dI (cel x15 (y17.toNat * 1))) 17) (.ask (.leN (0 + (dI (cel x15 (y17.toNat * 1))).toNat * 1 + 1) x18.length) (.triv _ (tv_p (spliceA x18 (0 + (dI (cel x15 (y17.toNat * 1))).toNat * 1) [AV.d (vI (dI (celA x18 (0 + (dI (cel x15 (y17.toNat * 1))).toNat * 1)) + 1))])) (.ask (.in64 (y17 + 1)) (.ask (.prop (refK 1 (ABlk.cells (spliceA x18 (0 + (dI (cel x15 (y17.toNat * 1))).toNat * 1) [AV.d (vI (dI (celA x18 (0 + (dI (cel x15 (y17.toNat * 1))).toNat * 1)) + 1))]) 188) = true)) (.nxt (.c2 x14 x15 x16 (y17 + 1) (spliceA x18 (0 + (dI (cel x15 (y17.toNat * 1))).toNat * 1) [AV.d (vI (dI (celA x18 (0 + (dI (cel x15 (y17.toNat * 1))).toNat * 1)) + 1))])))))))))))))))))
  (.bind (F145 17 (List.map aD (List.take 17 (List.drop 0 x18)))) fun v24 =>
  (.sees [(.d (.sl 17 (List.map aD (List.take 17 (List.drop 0 x18)))))] (.ask (.leN 17 x18.length) (.ask (.prop (toDs (List.take 17 (List.drop 0 x18)) = some (List.map aD (List.take 17 (List.drop 0 x18))))) (.bind (F146 17 (List.map aD (List.take 17 (List.drop 0 x18))) v24) fun v25 =>
  (.sees [(.d (.sl 17 (List.map aD (List.take 17 (List.drop 0 x18))))), (aI v24)] (.ask (.leN 17 x18.length) (.ask (.prop (toDs (List.take 17 (List.drop 0 x18)) = some (List.map aD (List.take 17 (List.drop 0 x18))))) (.ask (.in64 (v25 + 1)) (.ask (.le 0 (v25 + 1)) (.ask (.le (v25 + 1) 17) (.ask (.lt0 (v25 + 1) 17) (.bind (F110 (17 - (v25 + 1).toNat) (List.map aD (List.take ((17 - (v25 + 1).toNat) * 1) (List.drop (if Nat.beq 17 (v25 + 1).toNat = true then 0 else 0 + (v25 + 1).toNat * 1) x18))) v24) fun v26 =>
  (.sees [(.d (.sl (17 - (v25 + 1).toNat) (List.map aD (List.take ((17 - (v25 + 1).toNat) * 1) (List.drop (if Nat.beq 17 (v25 + 1).toNat = true then 0 else 0 + (v25 + 1).toNat * 1) x18))))), (aI v24)] (.ask (.leN ((if Nat.beq 17 (v25 + 1).toNat = true then 0 else 0 + (v25 + 1).toNat * 1) + (17 - (v25 + 1).toNat) * 1) x18.length) (.ask (.prop (toDs (List.take ((17 - (v25 + 1).toNat) * 1) (List.drop (if Nat.beq 17 (v25 + 1).toNat = true then 0 else 0 + (v25 + 1).toNat * 1) x18)) = some (List.map aD (List.take ((17 - (v25 + 1).toNat) * 1) (List.drop (if Nat.beq 17 (v25 + 1).toNat = true then 0 else 0 + (v25 + 1).toNat * 1) x18))))) (.ret (v25, (!v26))))))))))))))))))))
noncomputable def F107 (a8 : Nat) (a9 : List DV) : Option (Int × Bool) := res B107 (.c0 a8 a9)
theorem ok107 : ∀ s, ∃ d, xrun cfz 107 d [] (st107 s) = (B107 s).mach st107 out107 := fun s => match s with
  | .c0 a8 a9 => ⟨(.go 18 [] [] (.cut 1 [[4, 9, 10, 11]] [])), by kernel_rfl⟩
  | .c1 x10 x11 x12 y13 => ⟨(.go 5 [] [] (.split 12 (.go 24 [(.br true), (.as (aI (dI (cel x11 (y13.toNat * 1))))), (.as (aI (dI (celA [aI 0, aI 0, aI 0, aI 0, aI 0, aI 0, aI 0, aI 0, aI 0, aI 0, aI 0, aI 0, aI 0, aI 0, aI 0, aI 0, aI 0] (0 + (dI (cel x11 (y13.toNat * 1))).toNat * 1))))), (.as (.agg (spliceA [aI 0, aI 0, aI 0, aI 0, aI 0, aI 0, aI 0, aI 0, aI 0, aI 0, aI 0, aI 0, aI 0, aI 0, aI 0, aI 0, aI 0] (0 + (dI (cel x11 (y13.toNat * 1))).toNat * 1) [aI (dI (celA [AV.d (vI 0), AV.d (vI 0), AV.d (vI 0), AV.d (vI 0), AV.d (vI 0), AV.d (vI 0), AV.d (vI 0), AV.d (vI 0), AV.d (vI 0), AV.d (vI 0), AV.d (vI 0), AV.d (vI 0), AV.d (vI 0), AV.d (vI 0), AV.d (vI 0), AV.d (vI 0), AV.d (vI 0)] (0 + (dI (cel x11 (y13.toNat * 1))).toNat * 1)) + 1)])))] [0, 11] (.cutP 1 [0] [[4, 9, 10, 11]] [])) (.go 5 [(.br false)] [0, 1, 2, 3, 4] (.bind (f145 17 [(vI 0), (vI 0), (vI 0), (vI 0), (vI 0), (vI 0), (vI 0), (vI 0), (vI 0), (vI 0), (vI 0), (vI 0), (vI 0), (vI 0), (vI 0), (vI 0), (vI 0)]) fun v20 => (.go 7 [(.ck 0)] [1, 2, 3, 4] (.bind (f146 17 [(vI 0), (vI 0), (vI 0), (vI 0), (vI 0), (vI 0), (vI 0), (vI 0), (vI 0), (vI 0), (vI 0), (vI 0), (vI 0), (vI 0), (vI 0), (vI 0), (vI 0)] v20) fun v22 => (.go 10 [(.ck 1)] [4] (.bind (f110 (17 - (v22 + 1).toNat) (List.map aD (List.take ((17 - (v22 + 1).toNat) * 1) (List.drop (if Nat.beq 17 (v22 + 1).toNat = true then 0 else 0 + (v22 + 1).toNat * 1) [aI 0, aI 0, aI 0, aI 0, aI 0, aI 0, aI 0, aI 0, aI 0, aI 0, aI 0, aI 0, aI 0, aI 0, aI 0, aI 0, aI 0]))) v20) fun v23 => (.go 6 [(.cq 2)] [] .fin))))))))), by kernel_rfl⟩
  | .c2 x14 x15 x16 y17 x18 => ⟨(.go 5 [] [] (.split 12 (.go 24 [(.br true), (.as (aI (dI (cel x15 (y17.toNat * 1))))), (.as (aI (dI (celA x18 (0 + (dI (cel x15 (y17.toNat * 1))).toNat * 1))))), (.as (.agg (spliceA x18 (0 + (dI (cel x15 (y17.toNat * 1))).toNat * 1) [aI (dI (celA x18 (0 + (dI (cel x15 (y17.toNat * 1))).toNat * 1)) + 1)])))] [0, 11] (.cutP 1 [0] [[4, 9, 10, 11]] [])) (.go 5 [(.br false)] [0, 1, 2, 3, 4] (.bind (f145 17 (List.map aD (List.take 17 (List.drop 0 x18)))) fun v24 => (.go 7 [(.cq 0)] [3, 4, 5, 6] (.bind (f146 17 (List.map aD (List.take 17 (List.drop 0 x18))) v24) fun v25 => (.go 10 [(.cq 1)] [6] (.bind (f110 (17 - (v25 + 1).toNat) (List.map aD (List.take ((17 - (v25 + 1).toNat) * 1) (List.drop (if Nat.beq 17 (v25 + 1).toNat = true then 0 else 0 + (v25 + 1).toNat * 1) x18))) v24) fun v26 => (.go 6 [(.cq 2)] [] .fin))))))))), by kernel_rfl⟩
theorem f107 (a8 : Nat) (a9 : List DV) (v : Int × Bool) (h : F107 a8 a9 = some v) : PQ 107 [(.d (.sl a8 a9))] (out107 v) := tree_pure knil ok107 (s := .c0 a8 a9) rfl (by kernel_rfl) v h

/-! F62 -/
inductive S62 where
  | c0 (x0 : Nat) (x1 : List DV)
  | c1 (x0 : Nat) (x1 : List DV) (x4 x8 : Int)
  | c2 (x0 x1 : Nat) (x4 : List DV) (x8 : Nat) (x9 : List DV) (xa xb : Int) (xc : Nat)
def out62 (v : Nat × List DV × Int) : AV := (.tup [(.d (.sl v.fst v.snd.fst)), (aI v.snd.snd)])
noncomputable def st62 : S62 → ASt
  | .c0 x0 x1 => ent cfz 62 [(.d (.sl x0 x1))]
  | .c1 x0 x1 x4 x8 => ⟨⟨62, sp 27 0 [(4, (.d (.v (.slice .none 0 0)))), (10, (.d (.sl x0 x1))), (11, (aI x4)), (12, (aI x8))], [(.code (cd cfz.P 62 [1, 1, 1, 0, 1, 0, 0])), (.inLoop (cd cfz.P 62 [1, 1, 1, 0, 1, 0, 0])), (.inBlock 0), (.code (cd cfz.P 62 [1, 1, 1, 1]))], [], false, .none⟩, [], []⟩
  | .c2 x0 x1 x4 x8 x9 xa xb xc => ⟨⟨62, sp 27 0 [(4, (.own 1 x0 1 x1 x4)), (10, (.d (.sl x8 x9))), (11, (aI xa)), (12, (aI xb))], [(.code (cd cfz.P 62 [1, 1, 1, 0, 1, 0, 0])), (.inLoop (cd cfz.P 62 [1, 1, 1, 0, 1, 0, 0])), (.inBlock 0), (.code (cd cfz.P 62 [1, 1, 1, 1]))], [], false, .none⟩, [], [(.tail 0), (.tail xc)]⟩
noncomputable def B62 : S62 → Tr S62 (Nat × List DV × Int)
  | .c0 x0 x1 => (.br (decide ((↑x0 : Int) > 128))
  (.ret (0, [], 5))
  (.nxt (.c1 x0 x1 ((↑x0 : Int)) 0)))
  | .c1 x0 x1 x4 x8 => (.br (decide (x8 < x4))
  (.ask (.le 0 x8) (.ask (.lt x8 ((↑x0 : Int))) (.ask (.leN (x8.toNat * 1) x1.length) (.ask (.prop (Option.map AV.d (List.drop (x8.toNat * 1) x1)[0]? = some (AV.d (DV.v (Value.int IntKind.u8 (dI (cel x1 (x8.toNat * 1)))))))) (.ask (.in64 (x8 + 1)) (.nxt (.c2 0 2 [(vI (IntKind.i64.wrap ((dI (cel x1 (x8.toNat * 1))).fdiv 16))), (vI (IntKind.i64.wrap (IntKind.u8.wrap (↑(BitVec.ofInt 8 (dI (cel x1 (x8.toNat * 1))) &&& BitVec.ofInt 8 15).toNat : Int))))] x0 x1 x4 (x8 + 1) 0)))))))
  (.ret (0, [], 0)))
  | .c2 x0 x1 x4 x8 x9 xa xb xc => (.br (decide (xb < xa))
  (.ask (.le 0 xb) (.ask (.lt xb ((↑x8 : Int))) (.ask (.leN (xb.toNat * 1) x9.length) (.ask (.prop (Option.map AV.d (List.drop (xb.toNat * 1) x9)[0]? = some (AV.d (DV.v (Value.int IntKind.u8 (dI (cel x9 (xb.toNat * 1)))))))) (.ask (.eqN x0 xc) (.ask (.fits (x1 + 2) 8) (.ask (.in64 (xb + 1)) (.nxt (.c2 (xc + 2) (x1 + 2) (x4 ++ [vI (IntKind.i64.wrap ((dI (cel x9 (xb.toNat * 1))).fdiv 16)), vI (IntKind.i64.wrap (IntKind.u8.wrap (↑(BitVec.ofInt 8 (dI (cel x9 (xb.toNat * 1))) &&& BitVec.ofInt 8 15).toNat : Int)))]) x8 x9 xa (xb + 1) (xc + 2))))))))))
  (.ret (x1, x4, 0)))
noncomputable def F62 (x0 : Nat) (x1 : List DV) : Option (Nat × List DV × Int) := res B62 (.c0 x0 x1)
theorem ok62 : ∀ s, ∃ d, xrun cfz 62 d [] (st62 s) = (B62 s).mach st62 out62 := fun s => match s with
  | .c0 x0 x1 => ⟨(.go 12 [] [] (.split 9 (.go 7 [(.br true)] [0] .fin) (.go 15 [(.br false)] [0] (.cut 0 [[4, 10, 11, 12]] [])))), by kernel_rfl⟩
  | .c1 x0 x1 x4 x8 => ⟨(.go 5 [] [] (.split 13 (.go 28 [(.br true), (.as (a8 (dI (cel x1 (x8.toNat * 1)))))] [0, 5, 6, 7, 8] (.cut 2 [[4, 10, 11, 12]] [])) (.go 9 [(.br false)] [0] .fin))), by kernel_rfl⟩
  | .c2 x0 x1 x4 x8 x9 xa xb xc => ⟨(.go 5 [] [] (.split 13 (.go 28 [(.br true), (.as (a8 (dI (cel x9 (xb.toNat * 1)))))] [0, 5, 7, 8] (.cut 2 [[4, 10, 11, 12]] [])) (.go 9 [(.br false)] [0] .fin))), by kernel_rfl⟩
theorem f62 (x0 : Nat) (x1 : List DV) (v : Nat × List DV × Int) (h : F62 x0 x1 = some v) : PQ 62 [(.d (.sl x0 x1))] (out62 v) := tree_pure knil ok62 (s := .c0 x0 x1) rfl (by kernel_rfl) v h

/-! F111 -/
inductive S111 where
  | c0 (x0 : Nat) (x1 : List DV) (x4 : Int)
def out111 (v : List DV × List DV) : AV := (.fn (.func 147) [] [(.ip v.fst), (.ip v.snd)])
noncomputable def st111 : S111 → ASt
  | .c0 x0 x1 x4 => ent cfz 111 [(.d (.sl x0 x1)), (aI x4)]
noncomputable def B111 : S111 → Tr S111 (List DV × List DV)
  | .c0 x0 x1 x4 => (.ask (.eqB (decide (x4 < 1)) false) (.ret ([(.sl x0 x1)], [(vI x4)])))
noncomputable def F111 (x0 : Nat) (x1 : List DV) (x4 : Int) : Option (List DV × List DV) := res B111 (.c0 x0 x1 x4)
theorem ok111 : ∀ s, ∃ d, xrun cfz 111 d [] (st111 s) = (B111 s).mach st111 out111 := fun s => match s with
  | .c0 x0 x1 x4 => ⟨(.go 12 [] [] (.assume 6 false (.go 8 [(.br false)] [0] .fin))), by kernel_rfl⟩
theorem f111 (x0 : Nat) (x1 : List DV) (x4 : Int) (v : List DV × List DV) (h : F111 x0 x1 x4 = some v) : PQ 111 [(.d (.sl x0 x1)), (aI x4)] (out111 v) := tree_pure knil ok111 (s := .c0 x0 x1 x4) rfl (by kernel_rfl) v h

/-! F63 -/
inductive S63 where
  | c0 (x0 : Nat) (x1 : List DV)
  | c1 (x0 x1 : List DV) (x4 : Int) (x8 : Nat) (x9 : List DV) (xa xb xc xd : Int) (xe : Bool) (xf : Int) (xg : Bool) (xh : Int) (xi : List DV)
  | c2 (x0 x1 : List DV) (x4 : Int) (x8 x9 : Nat) (xa : List DV) (xb : Nat) (xc : List DV) (xd xe xf xg : Int) (xh : Bool) (xi : Int) (xj : Bool) (xk : Int) (xl : List DV) (xm : Nat)
def out63 (v : Nat × List DV × Int) : AV := (.tup [(.d (.sl v.fst v.snd.fst)), (aI v.snd.snd)])
noncomputable def st63 : S63 → ASt
  | .c0 x0 x1 => ent cfz 63 [(.d (.sl x0 x1))]
  | .c1 x0 x1 x4 x8 x9 xa xb xc xd xe xf xg xh xi => ⟨⟨147, sp 31 0 [(0, (.yl 3)), (1, (.ip x0)), (2, (.ip x1)), (4, (aI x4))], [(.code (cd cfz.P 147 [1, 0, 0])), (.inLoop (cd cfz.P 147 [1, 0, 0])), (.inBlock 0)], [], false, .none⟩, [⟨63, sp 38 0 [(2, (.d (.v (.slice .none 0 0)))), (3, (aI 0)), (5, (.ptr 1 0))], [(.inRng 3), (.inBlock 0), (.code (cd cfz.P 63 [1, 1, 1, 1]))], [2], false, .none⟩], [(.tail 0), (.cells [(.d (.v (.slice .none 0 0)))] 86), .defd, (.loop ⟨.ready, .none, 63, [(.d (.sl x8 x9)), .any, (.d (.v (.slice .none 0 0))), (aI 0), (aI xa), (.ptr 1 0), .any, (.d (.sl x8 x9)), (aI xb), (.d (.sl x8 x9)), (aI xc), (aI xd), (.d (.v (.bool xe))), (aI xf), (.d (.sl x8 x9)), (.d (.v (.bool xg))), (aI xh), (.own 0 0 1 3 xi), (aI xa), (aI xa), (.d (.v (.bool false))), .any, (.d (.sl x8 x9)), (.fn (.func 147) [] [(.ip x0), (.ip x1)]), .any, .any, .any, .any, .any, .any, .any, .any, .any, .any, .any, .any, .any, .any], (#[24]), (cd cfz.P 63 [1, 1, 1, 0, 1, 0, 0]), (cd cfz.P 63 [1, 1, 1, 0, 1, 0, 1]), 2⟩)]⟩
  | .c2 x0 x1 x4 x8 x9 xa xb xc xd xe xf xg xh xi xj xk xl xm => ⟨⟨147, sp 31 0 [(0, (.yl 3)), (1, (.ip x0)), (2, (.ip x1)), (4, (aI x4))], [(.code (cd cfz.P 147 [1, 0, 0])), (.inLoop (cd cfz.P 147 [1, 0, 0])), (.inBlock 0)], [], false, .none⟩, [⟨63, sp 38 0 [(2, (.d (.v (.slice .none 0 0)))), (3, (aI 0)), (5, (.ptr 1 0))], [(.inRng 3), (.inBlock 0), (.code (cd cfz.P 63 [1, 1, 1, 1]))], [2], false, .none⟩], [(.tail 0), (.cells [(.own 15 x8 1 x9 xa)] 86), .defd, (.loop ⟨.ready, .none, 63, [(.d (.sl xb xc)), .any, (.d (.v (.slice .none 0 0))), (aI 0), (aI xd), (.ptr 1 0), .any, (.d (.sl xb xc)), (aI xe), (.d (.sl xb xc)), (aI xf), (aI xg), (.d (.v (.bool xh))), (aI xi), (.d (.sl xb xc)), (.d (.v (.bool xj))), (aI xk), (.own 0 0 1 3 xl), (aI xd), (aI xd), (.d (.v (.bool false))), .any, (.d (.sl xb xc)), (.fn (.func 147) [] [(.ip x0), (.ip x1)]), .any, .any, .any, .any, .any, .any, .any, .any, .any, .any, .any, .any, .any, .any], (#[24]), (cd cfz.P 63 [1, 1, 1, 0, 1, 0, 0]), (cd cfz.P 63 [1, 1, 1, 0, 1, 0, 1]), 2⟩), .gone, .gone, .gone, .gone, .gone, .gone, .gone, .gone, .gone, .gone, (.tail 0), (.tail xm)]⟩
noncomputable def B63 : S63 → Tr S63 (Nat × List DV × Int)
  | .c0 x0 x1 => (.bind (F105 x0 x1) fun x4 =>
  (.sees [(.d (.sl x0 x1))] (.bind (F83 ((↑x0 : Int).tmod 2 != 0) 2) fun x8 =>
  (.sees [(.d (.v (.bool ((↑x0 : Int).tmod 2 != 0)))), (aI 2)] (.bind (F110 x0 x1 16) fun x9 =>
  (.sees [(.d (.sl x0 x1)), (aI 16)] (.bind (F83 x9 1) fun xa =>
  (.sees [(.d (.v (.bool x9))), (aI 1)] (.bind (F82 3 [(vI x4), (vI x8), (vI xa)]) fun xb =>
  (.sees [(.d (.sl 3 [(vI x4), (vI x8), (vI xa)]))] (.br (xb != 0)
  (.ret (0, [], xb))
  (.bind (F111 x0 x1 2) fun xc =>
  (.sees [(.d (.sl x0 x1)), (aI 2)] (.nxt (.c1 xc.fst xc.snd 0 x0 x1 xb x4 ((↑x0 : Int)) ((↑x0 : Int).tmod 2) ((↑x0 : Int).tmod 2 != 0) x8 x9 xa [(vI x4), (vI x8), (vI xa)])))))))))))))))
  | .c1 x0 x1 x4 x8 x9 xa xb xc xd xe xf xg xh xi => (.ask (.prop (Option.map AV.d x0[0]? = some (AV.d (DV.sl (dN (cel x0 0)) (dL (cel x0 0)))))) (.br (decide (x4 < (↑(dN (cel x0 0)) : Int)))
  (.ask (.prop (Option.map AV.d x1[0]? = some (AV.d (vI (dI (cel x1 0)))))) (.ask (.prop (Option.map AV.d x0[0]? = some (AV.d (DV.sl (dN (cel x0 0)) (dL (cel x0 0)))))) (.ask (.le 0 x4) (.ask (.le x4 ((↑(dN (cel x0 0)) : Int))) (.ask (.le ((↑(dN (cel x0 0)) : Int)) ((↑(dN (cel x0 0)) : Int))) (.ask (.eqN ((dL (cel x0 0)).length) (dN (cel x0 0) * 1)) (.ask (.prop (Option.map AV.d x0[0]? = some (AV.d (DV.sl (dN (cel x0 0)) (dL (cel x0 0)))))) (.ask (.in64 (x4 + if (↑((↑(dN (cel x0 0)) : Int).toNat - x4.toNat) : Int) < dI (cel x1 0) then (↑((↑(dN (cel x0 0)) : Int).toNat - x4.toNat) : Int) else dI (cel x1 0))) (.ask (.in64 (x4 + if (↑((↑(dN (cel x0 0)) : Int).toNat - x4.toNat) : Int) < dI (cel x1 0) then (↑((↑(dN (cel x0 0)) : Int).toNat - x4.toNat) : Int) else dI (cel x1 0))) (.ask (.le 0 x4) (.ask (.le x4 (x4 + if (↑((↑(dN (cel x0 0)) : Int).toNat - x4.toNat) : Int) < dI (cel x1 0) then (↑((↑(dN (cel x0 0)) : Int).toNat - x4.toNat) : Int) else dI (cel x1 0))) (.ask (.le (x4 + if (↑((↑(dN (cel x0 0)) : Int).toNat - x4.toNat) : Int) < dI (cel x1 0) then (↑((↑(dN (cel x0 0)) : Int).toNat - x4.toNat) : Int) else dI (cel x1 0)) (x4 + if (↑((↑(dN (cel x0 0)) : Int).toNat - x4.toNat) : Int) < dI (cel x1 0) then (↑((↑(dN (cel x0 0)) : Int).toNat - x4.toNat) : Int) else dI (cel x1 0))) (.ask (.le (x4 + if (↑((↑(dN (cel x0 0)) : Int).toNat - x4.toNat) : Int) < dI (cel x1 0) then (↑((↑(dN (cel x0 0)) : Int).toNat - x4.toNat) : Int) else dI (cel x1 0)) ((↑(dN (cel x0 0)) : Int))) (.ask (.eqN ((dL (cel x0 0)).length) (dN (cel x0 0) * 1)) (.ask (.lt 0 ((↑((x4 + if (↑((↑(dN (cel x0 0)) : Int).toNat - x4.toNat) : Int) < dI (cel x1 0) then (↑((↑(dN (cel x0 0)) : Int).toNat - x4.toNat) : Int) else dI (cel x1 0)).toNat - x4.toNat) : Int))) (.ask (.leN 0 ((List.take (((x4 + if (↑((↑(dN (cel x0 0)) : Int).toNat - x4.toNat) : Int) < dI (cel x1 0) then (↑((↑(dN (cel x0 0)) : Int).toNat - x4.toNat) : Int) else dI (cel x1 0)).toNat - x4.toNat) * 1) (List.drop (x4.toNat * 1) (dL (cel x0 0)))).length)) (.ask (.prop (Option.map AV.d (List.drop 0 (List.take (((x4 + if (↑((↑(dN (cel x0 0)) : Int).toNat - x4.toNat) : Int) < dI (cel x1 0) then (↑((↑(dN (cel x0 0)) : Int).toNat - x4.toNat) : Int) else dI (cel x1 0)).toNat - x4.toNat) * 1) (List.drop (x4.toNat * 1) (dL (cel x0 0)))))[0]? = some (AV.d (vI (dI (cel (List.take (((x4 + if (↑((↑(dN (cel x0 0)) : Int).toNat - x4.toNat) : Int) < dI (cel x1 0) then (↑((↑(dN (cel x0 0)) : Int).toNat - x4.toNat) : Int) else dI (cel x1 0)).toNat - x4.toNat) * 1) (List.drop (x4.toNat * 1) (dL (cel x0 0)))) 0)))))) (.ask (.lt 1 ((↑((x4 + if (↑((↑(dN (cel x0 0)) : Int).toNat - x4.toNat) : Int) < dI (cel x1 0) then (↑((↑(dN (cel x0 0)) : Int).toNat - x4.toNat) : Int) else dI (cel x1 0)).toNat - x4.toNat) : Int))) (.ask (.leN 1 ((List.take (((x4 + if (↑((↑(dN (cel x0 0)) : Int).toNat - x4.toNat) : Int) < dI (cel x1 0) then (↑((↑(dN (cel x0 0)) : Int).toNat - x4.toNat) : Int) else dI (cel x1 0)).toNat - x4.toNat) * 1) (List.drop (x4.toNat * 1) (dL (cel x0 0)))).length)) (.ask (.prop (Option.map AV.d (List.drop 1 (List.take (((x4 + if (↑((↑(dN (cel x0 0)) : Int).toNat - x4.toNat) : Int) < dI (cel x1 0) then (↑((↑(dN (cel x0 0)) : Int).toNat - x4.toNat) : Int) else dI (cel x1 0)).toNat - x4.toNat) * 1) (List.drop (x4.toNat * 1) (dL (cel x0 0)))))[0]? = some (AV.d (vI (dI (cel (List.take (((x4 + if (↑((↑(dN (cel x0 0)) : Int).toNat - x4.toNat) : Int) < dI (cel x1 0) then (↑((↑(dN (cel x0 0)) : Int).toNat - x4.toNat) : Int) else dI (cel x1 0)).toNat - x4.toNat) * 1) (List.drop (x4.toNat * 1) (dL (cel x0 0)))) 1)))))) (.ask (.prop (Option.map AV.d x1[0]? = some (AV.d (vI (dI (cel x1 0)))))) (.ask (.in64 (x4 + dI (cel x1 0))) (.nxt (.c2 x0 x1 (x4 + dI (cel x1 0)) 0 1 [(.v (.int .u8 (IntKind.u8.wrap (IntKind.i64.wrap (↑(BitVec.ofInt 64 (IntKind.i64.wrap (dI (cel (List.take (((x4 + if (↑((↑(dN (cel x0 0)) : Int).toNat - x4.toNat) : Int) < dI (cel x1 0) then (↑((↑(dN (cel x0 0)) : Int).toNat - x4.toNat) : Int) else dI (cel x1 0)).toNat - x4.toNat) * 1) (List.drop (x4.toNat * 1) (dL (cel x0 0)))) 0) * 16)) ||| BitVec.ofInt 64 (dI (cel (List.take (((x4 + if (↑((↑(dN (cel x0 0)) : Int).toNat - x4.toNat) : Int) < dI (cel x1 0) then (↑((↑(dN (cel x0 0)) : Int).toNat - x4.toNat) : Int) else dI (cel x1 0)).toNat - x4.toNat) * 1) (List.drop (x4.toNat * 1) (dL (cel x0 0)))) 1))).toNat : Int)))))] x8 x9 xa xb xc xd xe xf xg xh xi 0))))))))))))))))))))))))
  (.ret (0, [], 0))))
  | .c2 x0 x1 x4 x8 x9 xa xb xc xd xe xf xg xh xi xj xk xl xm => (.ask (.prop (Option.map AV.d x0[0]? = some (AV.d (DV.sl (dN (cel x0 0)) (dL (cel x0 0)))))) (.br (decide (x4 < (↑(dN (cel x0 0)) : Int)))
  (.ask (.prop (Option.map AV.d x1[0]? = some (AV.d (vI (dI (cel x1 0)))))) (.ask (.prop (Option.map AV.d x0[0]? = some (AV.d (DV.sl (dN (cel x0 0)) (dL (cel x0 0)))))) (.ask (.le 0 x4) (.ask (.le x4 ((↑(dN (cel x0 0)) : Int))) (.ask (.le ((↑(dN (cel x0 0)) : Int)) ((↑(dN (cel x0 0)) : Int))) (.ask (.eqN ((dL (cel x0 0)).length) (dN (cel x0 0) * 1)) (.ask (.prop (Option.map AV.d x0[0]? = some (AV.d (DV.sl (dN (cel x0 0)) (dL (cel x0 0)))))) (.ask (.in64 (x4 + if (↑((↑(dN (cel x0 0)) : Int).toNat - x4.toNat) : Int) < dI (cel x1 0) then (↑((↑(dN (cel x0 0)) : Int).toNat - x4.toNat) : Int) else dI (cel x1 0))) (.ask (.in64 (x4 + if (↑((↑(dN (cel x0 0)) : Int).toNat - x4.toNat) : Int) < dI (cel x1 0) then (↑((↑(dN (cel x0 0)) : Int).toNat - x4.toNat) : Int) else dI (cel x1 0))) (.ask (.le 0 x4) (.ask (.le x4 (x4 + if (↑((↑(dN (cel x0 0)) : Int).toNat - x4.toNat) : Int) < dI (cel x1 0) then (↑((↑(dN (cel x0 0)) : Int).toNat - x4.toNat) : Int) else dI (cel x1 0))) (.ask (.le (x4 + if (↑((↑(dN (cel x0 0)) : Int).toNat - x4.toNat) : Int) < dI (cel x1 0) then (↑((↑(dN (cel x0 0)) : Int).toNat - x4.toNat) : Int) else dI (cel x1 0)) (x4 + if (↑((↑(dN (cel x0 0)) : Int).toNat - x4.toNat) : Int) < dI (cel x1 0) then (↑((↑(dN (cel x0 0)) : Int).toNat - x4.toNat) : Int) else dI (cel x1 0))) (.ask (.le (x4 + if (↑((↑(dN (cel x0 0)) : Int).toNat - x4.toNat) : Int) < dI (cel x1 0) then (↑((↑(dN (cel x0 0)) : Int).toNat - x4.toNat) : Int) else dI (cel x1 0)) ((↑(dN (cel x0 0)) : Int))) (.ask (.eqN ((dL (cel x0 0)).length) (dN (cel x0 0) * 1)) (.ask (.lt 0 ((↑((x4 + if (↑((↑(dN (cel x0 0)) : Int).toNat - x4.toNat) : Int) < dI (cel x1 0) then (↑((↑(dN (cel x0 0)) : Int).toNat - x4.toNat) : Int) else dI (cel x1 0)).toNat - x4.toNat) : Int))) (.ask (.leN 0 ((List.take (((x4 + if (↑((↑(dN (cel x0 0)) : Int).toNat - x4.toNat) : Int) < dI (cel x1 0) then (↑((↑(dN (cel x0 0)) : Int).toNat - x4.toNat) : Int) else dI (cel x1 0)).toNat - x4.toNat) * 1) (List.drop (x4.toNat * 1) (dL (cel x0 0)))).length)) (.ask (.prop (Option.map AV.d (List.drop 0 (List.take (((x4 + if (↑((↑(dN (cel x0 0)) : Int).toNat - x4.toNat) : Int) < dI (cel x1 0) then (↑((↑(dN (cel x0 0)) : Int).toNat - x4.toNat) : Int) else dI (cel x1 0)).toNat - x4.toNat) * 1) (List.drop (x4.toNat * 1) (dL (cel x0 0)))))[0]? = some (AV.d (vI (dI (cel (List.take (((x4 + if (↑((↑(dN (cel x0 0)) : Int).toNat - x4.toNat) : Int) < dI (cel x1 0) then (↑((↑(dN (cel x0 0)) : Int).toNat - x4.toNat) : Int) else dI (cel x1 0)).toNat - x4.toNat) * 1) (List.drop (x4.toNat * 1) (dL (cel x0 0)))) 0)))))) (.ask (.lt 1 ((↑((x4 + if (↑((↑(dN (cel x0 0)) : Int).toNat - x4.toNat) : Int) < dI (cel x1 0) then (↑((↑(dN (cel x0 0)) : Int).toNat - x4.toNat) : Int) else dI (cel x1 0)).toNat - x4.toNat) : Int))) (.ask (.leN 1 ((List.take (((x4 + if (↑((↑(dN (cel x0 0)) : Int).toNat - x4.toNat) : Int) < dI (cel x1 0) then (↑((↑(dN (cel x0 0)) : Int).toNat - x4.toNat) : Int) else dI (cel x1 0)).toNat - x4.toNat) * 1) (List.drop (x4.toNat * 1) (dL (cel x0 0)))).length)) (.ask (.prop (Option.map AV.d (List.drop 1 (List.take (((x4 + if (↑((↑(dN (cel x0 0)) : Int).toNat - x4.toNat) : Int) < dI (cel x1 0) then (↑((↑(dN (cel x0 0)) : Int).toNat - x4.toNat) : Int) else dI (cel x1 0)).toNat - x4.toNat) * 1) (List.drop (x4.toNat * 1) (dL (cel x0 0)))))[0]? = some (AV.d (vI (dI (cel (List.take (((x4 + if (↑((↑(dN (cel x0 0)) : Int).toNat - x4.toNat) : Int) < dI (cel x1 0) then (↑((↑(dN (cel x0 0)) : Int).toNat - x4.toNat) : Int) else dI (cel x1 0)).toNat - x4.toNat) * 1) (List.drop (x4.toNat * 1) (dL (cel x0 0)))) 1)))))) (.ask (.eqN x8 xm) (.ask (.fits (x9 + 1) 1) (.ask (.prop (Option.map AV.d x1[0]? = some (AV.d (vI (dI (cel x1 0)))))) (.ask (.in64 (x4 + dI (cel x1 0))) (.nxt (.c2 x0 x1 (x4 + dI (cel x1 0)) (xm + 1) (x9 + 1) (xa ++ [DV.v (Value.int IntKind.u8 (IntKind.u8.wrap (IntKind.i64.wrap (↑(BitVec.ofInt 64 (IntKind.i64.wrap (dI (cel (List.take (((x4 + if (↑((↑(dN (cel x0 0)) : Int).toNat - x4.toNat) : Int) < dI (cel x1 0) then (↑((↑(dN (cel x0 0)) : Int).toNat - x4.toNat) : Int) else dI (cel x1 0)).toNat - x4.toNat) * 1) (List.drop (x4.toNat * 1) (dL (cel x0 0)))) 0) * 16)) ||| BitVec.ofInt 64 (dI (cel (List.take (((x4 + if (↑((↑(dN (cel x0 0)) : Int).toNat - x4.toNat) : Int) < dI (cel x1 0) then (↑((↑(dN (cel x0 0)) : Int).toNat - x4.toNat) : Int) else dI (cel x1 0)).toNat - x4.toNat) * 1) (List.drop (x4.toNat * 1) (dL (cel x0 0)))) 1))).toNat : Int))))]) xb xc xd xe xf xg xh xi xj xk xl (xm + 1)))))))))))))))))))))))))))
  (.ret (x9, xa, 0))))
noncomputable def F63 (x0 : Nat) (x1 : List DV) : Option (Nat × List DV × Int) := res B63 (.c0 x0 x1)
theorem ok63 : ∀ s, ∃ d, xrun cfz 63 d [] (st63 s) = (B63 s).mach st63 out63 := fun s => match s with
  | .c0 x0 x1 => ⟨(.go 9 [] [] (.bind (f105 x0 x1) fun x4 => (.go 5 [(.ck 0)] [1] (.bind (f83 ((↑x0 : Int).tmod 2 != 0) 2) fun x8 => (.go 2 [(.ck 1)] [] (.bind (f110 x0 x1 16) fun x9 => (.go 1 [(.ck 2)] [] (.bind (f83 x9 1) fun xa => (.go 2 [(.ck 3)] [] (.bind (f82 3 [(vI x4), (vI x8), (vI xa)]) fun xb => (.go 8 [(.ck 4)] [] (.split 20 (.go 8 [(.br true)] [0] .fin) (.go 10 [(.br false)] [0] (.bind (f111 x0 x1 2) fun xc => (.go 10 [(.ck 5)] [] (.cut 4 [[0, 1, 2, 4], [2, 3, 5]] [])))))))))))))))), by kernel_rfl⟩
  | .c1 x0 x1 x4 x8 x9 xa xb xc xd xe xf xg xh xi => ⟨(.go 8 [(.as (.d (.sl (dN (cel x0 0)) (dL (cel x0 0)))))] [] (.split 9 (.go 41 [(.br true), (.as (aI (dI (cel x1 0)))), (.as (.d (.sl (dN (cel x0 0)) (dL (cel x0 0))))), (.as (.d (.sl (dN (cel x0 0)) (dL (cel x0 0))))), .enter, .none, (.as (aI (dI (cel (List.take (((x4 + if (↑((↑(dN (cel x0 0)) : Int).toNat - x4.toNat) : Int) < dI (cel x1 0) then (↑((↑(dN (cel x0 0)) : Int).toNat - x4.toNat) : Int) else dI (cel x1 0)).toNat - x4.toNat) * 1) (List.drop (x4.toNat * 1) (dL (cel x0 0)))) 0)))), (.as (aI (dI (cel (List.take (((x4 + if (↑((↑(dN (cel x0 0)) : Int).toNat - x4.toNat) : Int) < dI (cel x1 0) then (↑((↑(dN (cel x0 0)) : Int).toNat - x4.toNat) : Int) else dI (cel x1 0)).toNat - x4.toNat) * 1) (List.drop (x4.toNat * 1) (dL (cel x0 0)))) 1)))), .none, .none, (.br false), (.as (aI (dI (cel x1 0))))] [0, 15, 19, 20, 24, 25, 26, 27] (.cut 16 [[0, 1, 2, 4], [2, 3, 5]] [])) (.go 14 [(.br false)] [0] .fin))), by kernel_rfl⟩
  | .c2 x0 x1 x4 x8 x9 xa xb xc xd xe xf xg xh xi xj xk xl xm => ⟨(.go 8 [(.as (.d (.sl (dN (cel x0 0)) (dL (cel x0 0)))))] [] (.split 9 (.go 41 [(.br true), (.as (aI (dI (cel x1 0)))), (.as (.d (.sl (dN (cel x0 0)) (dL (cel x0 0))))), (.as (.d (.sl (dN (cel x0 0)) (dL (cel x0 0))))), .enter, .none, (.as (aI (dI (cel (List.take (((x4 + if (↑((↑(dN (cel x0 0)) : Int).toNat - x4.toNat) : Int) < dI (cel x1 0) then (↑((↑(dN (cel x0 0)) : Int).toNat - x4.toNat) : Int) else dI (cel x1 0)).toNat - x4.toNat) * 1) (List.drop (x4.toNat * 1) (dL (cel x0 0)))) 0)))), (.as (aI (dI (cel (List.take (((x4 + if (↑((↑(dN (cel x0 0)) : Int).toNat - x4.toNat) : Int) < dI (cel x1 0) then (↑((↑(dN (cel x0 0)) : Int).toNat - x4.toNat) : Int) else dI (cel x1 0)).toNat - x4.toNat) * 1) (List.drop (x4.toNat * 1) (dL (cel x0 0)))) 1)))), .none, .none, (.br false), (.as (aI (dI (cel x1 0))))] [0, 15, 19, 20, 25, 26, 28] (.cut 16 [[0, 1, 2, 4], [2, 3, 5]] [])) (.go 14 [(.br false)] [0] .fin))), by kernel_rfl⟩
theorem f63 (x0 : Nat) (x1 : List DV) (v : Nat × List DV × Int) (h : F63 x0 x1 = some v) : PQ 63 [(.d (.sl x0 x1))] (out63 v) := tree_pure knil ok63 (s := .c0 x0 x1) rfl (by kernel_rfl) v h

/-! F64 -/
inductive S64 where
  | c0 (x0 : Nat) (x1 : List DV) (x4 : Int)
def out64 (v : Int) : AV := (aI v)
noncomputable def st64 : S64 → ASt
  | .c0 x0 x1 x4 => ent cfz 64 [(.d (.sl x0 x1)), (aI x4)]
noncomputable def B64 : S64 → Tr S64 (Int)
  | .c0 x0 x1 x4 => (.bind (F56 x0 x1) fun x8 =>
  (.sees [(.d (.sl x0 x1))] (.bind (F54 x4 1 15) fun x9 =>
  (.sees [(aI x4), (aI 1), (aI 15)] (.bind (F25 (decide ((↑x0 : Int) > 16)) 5) fun xa =>
  (.sees [(.d (.v (.bool (decide ((↑x0 : Int) > 16))))), (aI 5)] (.bind (F87 3 [(vI x8), (vI x9), (vI xa)]) fun xb =>
  (.sees [(.d (.sl 3 [(vI x8), (vI x9), (vI xa)]))] (.ret xb)))))))))
noncomputable def F64 (x0 : Nat) (x1 : List DV) (x4 : Int) : Option (Int) := res B64 (.c0 x0 x1 x4)
theorem ok64 : ∀ s, ∃ d, xrun cfz 64 d [] (st64 s) = (B64 s).mach st64 out64 := fun s => match s with
  | .c0 x0 x1 x4 => ⟨(.go 7 [] [] (.bind (f56 x0 x1) fun x8 => (.go 2 [(.ck 0)] [] (.bind (f54 x4 1 15) fun x9 => (.go 4 [(.ck 1)] [] (.bind (f25 (decide ((↑x0 : Int) > 16)) 5) fun xa => (.go 2 [(.ck 2)] [] (.bind (f87 3 [(vI x8), (vI x9), (vI xa)]) fun xb => (.go 4 [(.ck 3)] [] .fin))))))))), by kernel_rfl⟩
theorem f64 (x0 : Nat) (x1 : List DV) (x4 v : Int) (h : F64 x0 x1 x4 = some v) : PQ 64 [(.d (.sl x0 x1)), (aI x4)] (out64 v) := tree_pure knil ok64 (s := .c0 x0 x1 x4) rfl (by kernel_rfl) v h

/-! F46 -/
inductive S46 where
  | c0 (x0 : Nat) (x1 : List DV) (x4 : Int)
  | c1 (x0 : Nat) (x1 : List DV) (x4 : Int)
  | c2 (x0 : Nat) (x1 : List DV) (x4 : Int)
def out46 (v : Int) : AV := (aI v)
noncomputable def st46 : S46 → ASt
  | .c0 x0 x1 x4 => ent cfz 46 [(.d (.sl x0 x1)), (aI x4)]
  | .c1 x0 x1 x4 => ⟨⟨46, sp 58 0 [(0, (.d (.sl x0 x1))), (6, (aI x4))], [(.code (cd cfz.P 46 [1, 1, 0, 1, 0, 0])), (.inLoop (cd cfz.P 46 [1, 1, 0, 1, 0, 0])), (.inBlock 0), (.code (cd cfz.P 46 [1, 1, 1]))], [], false, .none⟩, [], []⟩
  | .c2 x0 x1 x4 => ⟨⟨46, sp 58 0 [(0, (.d (.sl x0 x1))), (7, (aI x4))], [(.code (cd cfz.P 46 [1, 1, 1, 1, 0, 1, 0, 0])), (.inLoop (cd cfz.P 46 [1, 1, 1, 1, 0, 1, 0, 0])), (.inBlock 2), (.code (cd cfz.P 46 [1, 1, 1, 1, 1]))], [], false, .none⟩, [], []⟩
noncomputable def B46 : S46 → Tr S46 (Int)
  | .c0 x0 x1 x4 => (.bind (F25 ((↑x0 : Int) == 0) 12) fun x8 =>
  (.sees [(.d (.v (.bool ((↑x0 : Int) == 0)))), (aI 12)] (.bind (F25 (decide ((↑x0 : Int) > x4)) 5) fun x9 =>
  (.sees [(.d (.v (.bool (decide ((↑x0 : Int) > x4))))), (aI 5)] (.bind (F87 2 [(vI x8), (vI x9)]) fun xa =>
  (.sees [(.d (.sl 2 [(vI x8), (vI x9)]))] (.br (xa != 0)
  (.ret xa)
  (.nxt (.c1 x0 x1 0)))))))))
  | .c1 x0 x1 x4 => (.br (decide (x4 < (↑x0 : Int)))
  (.ask (.le 0 x4) (.ask (.lt x4 ((↑x0 : Int))) (.ask (.leN (x4.toNat * 1) x1.length) (.ask (.prop (Option.map AV.d (List.drop (x4.toNat * 1) x1)[0]? = some (AV.d (DV.sl (dN (cel x1 (x4.toNat * 1))) (dL (cel x1 (x4.toNat * 1))))))) (.ask (.lt 0 ((↑x0 : Int))) (.ask (.leN 0 x1.length) (.ask (.prop (Option.map AV.d (List.drop 0 x1)[0]? = some (AV.d (DV.sl (dN (cel x1 0)) (dL (cel x1 0)))))) (.br ((↑(dN (cel x1 (x4.toNat * 1))) : Int) != (↑(dN (cel x1 0)) : Int))
  (.ret 2)
  (.ask (.in64 (x4 + 1)) (.nxt (.c1 x0 x1 (x4 + 1))))))))))))
  (.ask (.lt 0 ((↑x0 : Int))) (.ask (.leN 0 x1.length) (.ask (.prop (Option.map AV.d (List.drop 0 x1)[0]? = some (AV.d (DV.sl (dN (cel x1 0)) (dL (cel x1 0)))))) (.br (decide ((↑(dN (cel x1 0)) : Int) > 16))
  (.ret 5)
  (.nxt (.c2 x0 x1 0)))))))
  | .c2 x0 x1 x4 => (.br (decide (x4 < (↑x0 : Int)))
  (.ask (.le 0 x4) (.ask (.lt x4 ((↑x0 : Int))) (.ask (.leN (x4.toNat * 1) x1.length) (.ask (.prop (Option.map AV.d (List.drop (x4.toNat * 1) x1)[0]? = some (AV.d (DV.sl (dN (cel x1 (x4.toNat * 1))) (dL (cel x1 (x4.toNat * 1))))))) (.bind (F78 (dN (cel x1 (x4.toNat * 1))) (dL (cel x1 (x4.toNat * 1)))) fun x8 =>
  (.sees [(.d (.sl (dN (cel x1 (x4.toNat * 1))) (dL (cel x1 (x4.toNat * 1)))))] (.br (x8 != 0)
  (.ret x8)
  (.ask (.in64 (x4 + 1)) (.nxt (.c2 x0 x1 (x4 + 1)))))))))))
  (.ret 0))
noncomputable def F46 (x0 : Nat) (x1 : List DV) (x4 : Int) : Option (Int) := res B46 (.c0 x0 x1 x4)
theorem ok46 : ∀ s, ∃ d, xrun cfz 46 d [] (st46 s) = (B46 s).mach st46 out46 := fun s => match s with
  | .c0 x0 x1 x4 => ⟨(.go 10 [] [] (.bind (f25 ((↑x0 : Int) == 0) 12) fun x8 => (.go 5 [(.ck 0)] [] (.bind (f25 (decide ((↑x0 : Int) > x4)) 5) fun x9 => (.go 2 [(.ck 1)] [] (.bind (f87 2 [(vI x8), (vI x9)]) fun xa => (.go 8 [(.ck 2)] [] (.split 21 (.go 7 [(.br true)] [0] .fin) (.go 9 [(.br false)] [0] (.cut 0 [[0, 6]] [])))))))))), by kernel_rfl⟩
  | .c1 x0 x1 x4 => ⟨(.go 8 [] [] (.split 26 (.go 7 [(.br true), (.as (.d (.sl (dN (cel x1 (x4.toNat * 1))) (dL (cel x1 (x4.toNat * 1)))))), (.as (.d (.sl (dN (cel x1 0)) (dL (cel x1 0)))))] [0, 5] (.split 38 (.go 6 [(.br true)] [0] .fin) (.go 9 [(.br false)] [0] (.cut 0 [[0, 6]] [])))) (.go 11 [(.br false), (.as (.d (.sl (dN (cel x1 0)) (dL (cel x1 0)))))] [0, 1] (.split 43 (.go 6 [(.br true)] [0] .fin) (.go 9 [(.br false)] [0] (.cut 0 [[0, 7]] [])))))), by kernel_rfl⟩
  | .c2 x0 x1 x4 => ⟨(.go 8 [] [] (.split 47 (.go 10 [(.br true), (.as (.d (.sl (dN (cel x1 (x4.toNat * 1))) (dL (cel x1 (x4.toNat * 1))))))] [0] (.bind (f78 (dN (cel x1 (x4.toNat * 1))) (dL (cel x1 (x4.toNat * 1)))) fun x8 => (.go 8 [(.ck 0)] [] (.split 56 (.go 7 [(.br true)] [0] .fin) (.go 9 [(.br false)] [0] (.cut 0 [[0, 7]] [])))))) (.go 7 [(.br false)] [0] .fin))), by kernel_rfl⟩
theorem f46 (x0 : Nat) (x1 : List DV) (x4 v : Int) (h : F46 x0 x1 x4 = some v) : PQ 46 [(.d (.sl x0 x1)), (aI x4)] (out46 v) := tree_pure knil ok46 (s := .c0 x0 x1 x4) rfl (by kernel_rfl) v h

/-! F71 -/
inductive S71 where
  | c0 (x0 : Nat) (x1 : List DV) (x4 : Int)
  | c1 (x0 : Nat) (x1 : List DV) (x4 x8 : Int)
def out71 (v : Bool) : AV := (.d (.v (.bool v)))
noncomputable def st71 : S71 → ASt
  | .c0 x0 x1 x4 => ent cfz 71 [(.d (.sl x0 x1)), (aI x4)]
  | .c1 x0 x1 x4 x8 => ⟨⟨71, sp 18 0 [(0, (.d (.sl x0 x1))), (1, (aI x4)), (5, (aI x8))], [(.code (cd cfz.P 71 [1, 0, 1, 0, 0])), (.inLoop (cd cfz.P 71 [1, 0, 1, 0, 0])), (.inBlock 0), (.code (cd cfz.P 71 [1, 1]))], [], false, .none⟩, [], []⟩
noncomputable def B71 : S71 → Tr S71 (Bool)
  | .c0 x0 x1 x4 => (.nxt (.c1 x0 x1 x4 0))
  | .c1 x0 x1 x4 x8 => (.br (decide (x8 < (↑x0 : Int)))
  (.ask (.le 0 x8) (.ask (.lt x8 ((↑x0 : Int))) (.ask (.leN (x8.toNat * 1) x1.length) (.ask (.prop (Option.map AV.d (List.drop (x8.toNat * 1) x1)[0]? = some (AV.d (vI (dI (cel x1 (x8.toNat * 1))))))) (.br (dI (cel x1 (x8.toNat * 1)) == x4)
  (.ret true)
  (.ask (.in64 (x8 + 1)) (.nxt (.c1 x0 x1 x4 (x8 + 1)))))))))
  (.ret false))
noncomputable def F71 (x0 : Nat) (x1 : List DV) (x4 : Int) : Option (Bool) := res B71 (.c0 x0 x1 x4)
theorem ok71 : ∀ s, ∃ d, xrun cfz 71 d [] (st71 s) = (B71 s).mach st71 out71 := fun s => match s with
  | .c0 x0 x1 x4 => ⟨(.go 11 [] [] (.cut 0 [[0, 1, 5]] [])), by kernel_rfl⟩
  | .c1 x0 x1 x4 x8 => ⟨(.go 8 [] [] (.split 9 (.go 13 [(.br true), (.as (aI (dI (cel x1 (x8.toNat * 1)))))] [0] (.split 17 (.go 6 [(.br true)] [0] .fin) (.go 9 [(.br false)] [0] (.cut 0 [[0, 1, 5]] [])))) (.go 7 [(.br false)] [0] .fin))), by kernel_rfl⟩
theorem f71 (x0 : Nat) (x1 : List DV) (x4 : Int) (v : Bool) (h : F71 x0 x1 x4 = some v) : PQ 71 [(.d (.sl x0 x1)), (aI x4)] (out71 v) := tree_pure knil ok71 (s := .c0 x0 x1 x4) rfl (by kernel_rfl) v h

/-! F65 -/
inductive S65 where
  | c0 (x0 : Nat) (x1 : List DV)
def out65 (v : Int) : AV := (aI v)
noncomputable def st65 : S65 → ASt
  | .c0 x0 x1 => ent cfz 65 [(.d (.sl x0 x1))]
noncomputable def B65 : S65 → Tr S65 (Int)
  | .c0 x0 x1 => (.bind (F56 x0 x1) fun x4 =>
  (.sees [(.d (.sl x0 x1))] (.bind (F25 ((↑x0 : Int).tmod 2 != 0) 2) fun x8 =>
  (.sees [(.d (.v (.bool ((↑x0 : Int).tmod 2 != 0)))), (aI 2)] (.bind (F71 x0 x1 16) fun x9 =>
  (.sees [(.d (.sl x0 x1)), (aI 16)] (.bind (F25 x9 1) fun xa =>
  (.sees [(.d (.v (.bool x9))), (aI 1)] (.bind (F87 3 [(vI x4), (vI x8), (vI xa)]) fun xb =>
  (.sees [(.d (.sl 3 [(vI x4), (vI x8), (vI xa)]))] (.ret xb)))))))))))
noncomputable def F65 (x0 : Nat) (x1 : List DV) : Option (Int) := res B65 (.c0 x0 x1)
theorem ok65 : ∀ s, ∃ d, xrun cfz 65 d [] (st65 s) = (B65 s).mach st65 out65 := fun s => match s with
  | .c0 x0 x1 => ⟨(.go 7 [] [] (.bind (f56 x0 x1) fun x4 => (.go 5 [(.ck 0)] [1] (.bind (f25 ((↑x0 : Int).tmod 2 != 0) 2) fun x8 => (.go 2 [(.ck 1)] [] (.bind (f71 x0 x1 16) fun x9 => (.go 1 [(.ck 2)] [] (.bind (f25 x9 1) fun xa => (.go 2 [(.ck 3)] [] (.bind (f87 3 [(vI x4), (vI x8), (vI xa)]) fun xb => (.go 4 [(.ck 4)] [] .fin))))))))))), by kernel_rfl⟩
theorem f65 (x0 : Nat) (x1 : List DV) (v : Int) (h : F65 x0 x1 = some v) : PQ 65 [(.d (.sl x0 x1))] (out65 v) := tree_pure knil ok65 (s := .c0 x0 x1) rfl (by kernel_rfl) v h

/-! F67 -/
inductive S67 where
  | c0 (x0 : Nat) (x1 : List DV)
  | c1 (x0 : Nat) (x1 : List DV) (x4 : Int)
  | c2 (x0 : Nat) (x1 : List DV) (x4 x8 : Nat) (x9 : List DV) (xa : Int) (xb : Nat)
def out67 (v : Nat × List DV) : AV := (.d (.sl v.fst v.snd))
noncomputable def st67 : S67 → ASt
  | .c0 x0 x1 => ent cfz 67 [(.d (.sl x0 x1))]
  | .c1 x0 x1 x4 => ⟨⟨67, sp 29 0 [(0, (.d (.sl x0 x1))), (3, (.d (.v (.slice .none 0 0)))), (4, (aI x4))], [(.code (cd cfz.P 67 [1, 1, 0, 1, 0, 0])), (.inLoop (cd cfz.P 67 [1, 1, 0, 1, 0, 0])), (.inBlock 0), (.code (cd cfz.P 67 [1, 1, 1]))], [], false, .none⟩, [], []⟩
  | .c2 x0 x1 x4 x8 x9 xa xb => ⟨⟨67, sp 29 0 [(0, (.d (.sl x0 x1))), (3, (.own 8 x4 1 x8 x9)), (4, (aI xa))], [(.code (cd cfz.P 67 [1, 1, 0, 1, 0, 0])), (.inLoop (cd cfz.P 67 [1, 1, 0, 1, 0, 0])), (.inBlock 0), (.code (cd cfz.P 67 [1, 1, 1]))], [], false, .none⟩, [], [.gone, .gone, .gone, .gone, .gone, .gone, .gone, (.tail 0), (.tail xb)]⟩
noncomputable def B67 : S67 → Tr S67 (Nat × List DV)
  | .c0 x0 x1 => (.nxt (.c1 x0 x1 0))
  | .c1 x0 x1 x4 => (.br (decide (x4 < (↑x0 : Int)))
  (.ask (.le 0 x4) (.ask (.lt x4 ((↑x0 : Int))) (.ask (.leN (x4.toNat * 1) x1.length) (.ask (.prop (Option.map AV.d (List.drop (x4.toNat * 1) x1)[0]? = some (AV.d (DV.v (Value.int IntKind.u8 (dI (cel x1 (x4.toNat * 1)))))))) (.ask (.in64 ((IntKind.i64.wrap (dI (cel x1 (x4.toNat * 1)))).tdiv 16)) (.ask (.le 0 x4) (.ask (.lt x4 ((↑x0 : Int))) (.ask (.leN (x4.toNat * 1) x1.length) (.ask (.prop (Option.map AV.d (List.drop (x4.toNat * 1) x1)[0]? = some (AV.d (DV.v (Value.int IntKind.u8 (dI (cel x1 (x4.toNat * 1)))))))) (.ask (.in64 (x4 + 1)) (.nxt (.c2 x0 x1 1 2 [(vI ((IntKind.i64.wrap (dI (cel x1 (x4.toNat * 1)))).tdiv 16)), (vI ((IntKind.i64.wrap (dI (cel x1 (x4.toNat * 1)))).tmod 16))] (x4 + 1) 1))))))))))))
  (.ret (0, [])))
  | .c2 x0 x1 x4 x8 x9 xa xb => (.br (decide (xa < (↑x0 : Int)))
  (.ask (.le 0 xa) (.ask (.lt xa ((↑x0 : Int))) (.ask (.leN (xa.toNat * 1) x1.length) (.ask (.prop (Option.map AV.d (List.drop (xa.toNat * 1) x1)[0]? = some (AV.d (DV.v (Value.int IntKind.u8 (dI (cel x1 (xa.toNat * 1)))))))) (.ask (.in64 ((IntKind.i64.wrap (dI (cel x1 (xa.toNat * 1)))).tdiv 16)) (.ask (.eqN x4 xb) (.ask (.fits (x8 + 1) 8) (.ask (.le 0 xa) (.ask (.lt xa ((↑x0 : Int))) (.ask (.leN (xa.toNat * 1) x1.length) (.ask (.prop (Option.map AV.d (List.drop (xa.toNat * 1) x1)[0]? = some (AV.d (DV.v (Value.int IntKind.u8 (dI (cel x1 (xa.toNat * 1)))))))) (.ask (.eqN (xb + 1) (xb + 1)) (.ask (.fits (x8 + 1 + 1) 8) (.ask (.in64 (xa + 1)) (.nxt (.c2 x0 x1 (xb + 1 + 1) (x8 + 1 + 1) (x9 ++ [vI ((IntKind.i64.wrap (dI (cel x1 (xa.toNat * 1)))).tdiv 16)] ++ [vI ((IntKind.i64.wrap (dI (cel x1 (xa.toNat * 1)))).tmod 16)]) (xa + 1) (xb + 1 + 1)))))))))))))))))
  (.ret (x8, x9)))
noncomputable def F67 (x0 : Nat) (x1 : List DV) : Option (Nat × List DV) := res B67 (.c0 x0 x1)
theorem ok67 : ∀ s, ∃ d, xrun cfz 67 d [] (st67 s) = (B67 s).mach st67 out67 := fun s => match s with
  | .c0 x0 x1 => ⟨(.go 15 [] [] (.cut 0 [[0, 3, 4]] [])), by kernel_rfl⟩
  | .c1 x0 x1 x4 => ⟨(.go 8 [] [] (.split 8 (.go 13 [(.br true), (.as (a8 (dI (cel x1 (x4.toNat * 1))))), .none, (.as (a8 (dI (cel x1 (x4.toNat * 1)))))] [0, 5, 7, 8, 9, 14, 15, 16, 17, 18] (.cut 9 [[0, 3, 4]] [])) (.go 8 [(.br false)] [0] .fin))), by kernel_rfl⟩
  | .c2 x0 x1 x4 x8 x9 xa xb => ⟨(.go 8 [] [] (.split 8 (.go 13 [(.br true), (.as (a8 (dI (cel x1 (xa.toNat * 1))))), .none, (.as (a8 (dI (cel x1 (xa.toNat * 1)))))] [0, 5, 8, 9, 15, 17, 18] (.cut 9 [[0, 3, 4]] [])) (.go 8 [(.br false)] [0] .fin))), by kernel_rfl⟩
theorem f67 (x0 : Nat) (x1 : List DV) (v : Nat × List DV) (h : F67 x0 x1 = some v) : PQ 67 [(.d (.sl x0 x1))] (out67 v) := tree_pure knil ok67 (s := .c0 x0 x1) rfl (by kernel_rfl) v h

/-! F68 -/
inductive S68 where
  | c0 (x0 : Nat) (x1 : List DV)
  | c1 (x0 : Nat) (x1 : List DV) (x4 : Int)
  | c2 (x0 : Nat) (x1 : List DV) (x4 x8 : Nat) (x9 : List DV) (xa : Int) (xb : Nat)
def out68 (v : Nat × List DV) : AV := (.d (.sl v.fst v.snd))
noncomputable def st68 : S68 → ASt
  | .c0 x0 x1 => ent cfz 68 [(.d (.sl x0 x1))]
  | .c1 x0 x1 x4 => ⟨⟨68, sp 28 0 [(0, (.d (.sl x0 x1))), (3, (.d (.v (.slice .none 0 0)))), (4, (aI x4))], [(.code (cd cfz.P 68 [1, 1, 0, 1, 0, 0])), (.inLoop (cd cfz.P 68 [1, 1, 0, 1, 0, 0])), (.inBlock 0), (.code (cd cfz.P 68 [1, 1, 1]))], [], false, .none⟩, [], []⟩
  | .c2 x0 x1 x4 x8 x9 xa xb => ⟨⟨68, sp 28 0 [(0, (.d (.sl x0 x1))), (3, (.own 14 x4 1 x8 x9)), (4, (aI xa))], [(.code (cd cfz.P 68 [1, 1, 0, 1, 0, 0])), (.inLoop (cd cfz.P 68 [1, 1, 0, 1, 0, 0])), (.inBlock 0), (.code (cd cfz.P 68 [1, 1, 1]))], [], false, .none⟩, [], [.gone, .gone, .gone, .gone, .gone, .gone, .gone, .gone, .gone, .gone, .gone, .gone, .gone, (.tail 0), (.tail xb)]⟩
noncomputable def B68 : S68 → Tr S68 (Nat × List DV)
  | .c0 x0 x1 => (.nxt (.c1 x0 x1 0))
  | .c1 x0 x1 x4 => (.ask (.in64 (x4 + 1)) (.br (decide (x4 + 1 < (↑x0 : Int)))
  (.ask (.le 0 x4) (.ask (.lt x4 ((↑x0 : Int))) (.ask (.leN (x4.toNat * 1) x1.length) (.ask (.prop (Option.map AV.d (List.drop (x4.toNat * 1) x1)[0]? = some (AV.d (vI (dI (cel x1 (x4.toNat * 1))))))) (.ask (.in64 (16 * dI (cel x1 (x4.toNat * 1)))) (.ask (.in64 (x4 + 1)) (.ask (.le 0 (x4 + 1)) (.ask (.lt (x4 + 1) ((↑x0 : Int))) (.ask (.leN ((x4 + 1).toNat * 1) x1.length) (.ask (.prop (Option.map AV.d (List.drop ((x4 + 1).toNat * 1) x1)[0]? = some (AV.d (vI (dI (cel x1 ((x4 + 1).toNat * 1))))))) (.ask (.in64 (16 * dI (cel x1 (x4.toNat * 1)) + dI (cel x1 ((x4 + 1).toNat * 1)))) (.ask (.in64 (x4 + 2)) (.nxt (.c2 x0 x1 0 1 [(.v (.int .u8 (IntKind.u8.wrap (16 * dI (cel x1 (x4.toNat * 1)) + dI (cel x1 ((x4 + 1).toNat * 1))))))] (x4 + 2) 0))))))))))))))
  (.ret (0, []))))
  | .c2 x0 x1 x4 x8 x9 xa xb => (.ask (.in64 (xa + 1)) (.br (decide (xa + 1 < (↑x0 : Int)))
  (.ask (.le 0 xa) (.ask (.lt xa ((↑x0 : Int))) (.ask (.leN (xa.toNat * 1) x1.length) (.ask (.prop (Option.map AV.d (List.drop (xa.toNat * 1) x1)[0]? = some (AV.d (vI (dI (cel x1 (xa.toNat * 1))))))) (.ask (.in64 (16 * dI (cel x1 (xa.toNat * 1)))) (.ask (.in64 (xa + 1)) (.ask (.le 0 (xa + 1)) (.ask (.lt (xa + 1) ((↑x0 : Int))) (.ask (.leN ((xa + 1).toNat * 1) x1.length) (.ask (.prop (Option.map AV.d (List.drop ((xa + 1).toNat * 1) x1)[0]? = some (AV.d (vI (dI (cel x1 ((xa + 1).toNat * 1))))))) (.ask (.in64 (16 * dI (cel x1 (xa.toNat * 1)) + dI (cel x1 ((xa + 1).toNat * 1)))) (.ask (.eqN x4 xb) (.ask (.fits (x8 + 1) 1) (.ask (.in64 (xa + 2)) (.nxt (.c2 x0 x1 (xb + 1) (x8 + 1) (x9 ++ [DV.v (Value.int IntKind.u8 (IntKind.u8.wrap (16 * dI (cel x1 (xa.toNat * 1)) + dI (cel x1 ((xa + 1).toNat * 1)))))]) (xa + 2) (xb + 1)))))))))))))))))
  (.ret (x8, x9))))
noncomputable def F68 (x0 : Nat) (x1 : List DV) : Option (Nat × List DV) := res B68 (.c0 x0 x1)
theorem ok68 : ∀ s, ∃ d, xrun cfz 68 d [] (st68 s) = (B68 s).mach st68 out68 := fun s => match s with
  | .c0 x0 x1 => ⟨(.go 15 [] [] (.cut 0 [[0, 3, 4]] [])), by kernel_rfl⟩
  | .c1 x0 x1 x4 => ⟨(.go 9 [] [] (.split 9 (.go 13 [(.br true), (.as (aI (dI (cel x1 (x4.toNat * 1))))), (.as (aI (dI (cel x1 ((x4 + 1).toNat * 1)))))] [0, 12, 13, 14] (.cut 15 [[0, 3, 4]] [])) (.go 8 [(.br false)] [0] .fin))), by kernel_rfl⟩
  | .c2 x0 x1 x4 x8 x9 xa xb => ⟨(.go 9 [] [] (.split 9 (.go 13 [(.br true), (.as (aI (dI (cel x1 (xa.toNat * 1))))), (.as (aI (dI (cel x1 ((xa + 1).toNat * 1)))))] [0, 13, 14] (.cut 15 [[0, 3, 4]] [])) (.go 8 [(.br false)] [0] .fin))), by kernel_rfl⟩
theorem f68 (x0 : Nat) (x1 : List DV) (v : Nat × List DV) (h : F68 x0 x1 = some v) : PQ 68 [(.d (.sl x0 x1))] (out68 v) := tree_pure knil ok68 (s := .c0 x0 x1) rfl (by kernel_rfl) v h

/-! F30 -/
inductive S30 where
  | c0 (x0 : Nat) (x1 : List DV) (x4 : Nat) (x8 : List DV)
  | c1 (x0 : Nat) (x1 : List DV) (x4 : Nat) (x8 : List DV) (x9 : Int)
def out30 (v : Bool) : AV := (.d (.v (.bool v)))
noncomputable def st30 : S30 → ASt
  | .c0 x0 x1 x4 x8 => ent cfz 30 [(.d (.sl x0 x1)), (.d (.sl x4 x8))]
  | .c1 x0 x1 x4 x8 x9 => ⟨⟨30, sp 26 0 [(0, (.d (.sl x0 x1))), (1, (.d (.sl x4 x8))), (5, (aI x9))], [(.code (cd cfz.P 30 [1, 1, 0, 1, 0, 0])), (.inLoop (cd cfz.P 30 [1, 1, 0, 1, 0, 0])), (.inBlock 0), (.code (cd cfz.P 30 [1, 1, 1]))], [], false, .none⟩, [], []⟩
noncomputable def B30 : S30 → Tr S30 (Bool)
  | .c0 x0 x1 x4 x8 => (.br ((↑x0 : Int) != (↑x4 : Int))
  (.ret false)
  (.nxt (.c1 x0 x1 x4 x8 0)))
  | .c1 x0 x1 x4 x8 x9 => (.br (decide (x9 < (↑x0 : Int)))
  (.ask (.le 0 x9) (.ask (.lt x9 ((↑x0 : Int))) (.ask (.leN (x9.toNat * 1) x1.length) (.ask (.prop (Option.map AV.d (List.drop (x9.toNat * 1) x1)[0]? = some (AV.d (vI (dI (cel x1 (x9.toNat * 1))))))) (.ask (.le 0 x9) (.ask (.lt x9 ((↑x4 : Int))) (.ask (.leN (x9.toNat * 1) x8.length) (.ask (.prop (Option.map AV.d (List.drop (x9.toNat * 1) x8)[0]? = some (AV.d (vI (dI (cel x8 (x9.toNat * 1))))))) (.br (dI (cel x1 (x9.toNat * 1)) != dI (cel x8 (x9.toNat * 1)))
  (.ret false)
  (.ask (.in64 (x9 + 1)) (.nxt (.c1 x0 x1 x4 x8 (x9 + 1)))))))))))))
  (.ret true))
noncomputable def F30 (x0 : Nat) (x1 : List DV) (x4 : Nat) (x8 : List DV) : Option (Bool) := res B30 (.c0 x0 x1 x4 x8)
theorem ok30 : ∀ s, ∃ d, xrun cfz 30 d [] (st30 s) = (B30 s).mach st30 out30 := fun s => match s with
  | .c0 x0 x1 x4 x8 => ⟨(.go 13 [] [] (.split 10 (.go 6 [(.br true)] [0] .fin) (.go 9 [(.br false)] [0] (.cut 0 [[0, 1, 5]] [])))), by kernel_rfl⟩
  | .c1 x0 x1 x4 x8 x9 => ⟨(.go 8 [] [] (.split 14 (.go 7 [(.br true), (.as (aI (dI (cel x1 (x9.toNat * 1))))), (.as (aI (dI (cel x8 (x9.toNat * 1)))))] [0] (.split 25 (.go 6 [(.br true)] [0] .fin) (.go 9 [(.br false)] [0] (.cut 0 [[0, 1, 5]] [])))) (.go 7 [(.br false)] [0] .fin))), by kernel_rfl⟩
theorem f30 (x0 : Nat) (x1 : List DV) (x4 : Nat) (x8 : List DV) (v : Bool) (h : F30 x0 x1 x4 x8 = some v) : PQ 30 [(.d (.sl x0 x1)), (.d (.sl x4 x8))] (out30 v) := tree_pure knil ok30 (s := .c0 x0 x1 x4 x8) rfl (by kernel_rfl) v h

/-! F50 -/
inductive S50 where
  | c0 (x0 : Nat) (x1 : List DV) (x4 : Nat) (x8 : List DV)
  | c1 (x0 : Nat) (x1 : List DV) (x4 : Nat) (x8 : List DV) (x9 : Int)
def out50 (v : Bool) : AV := (.d (.v (.bool v)))
noncomputable def st50 : S50 → ASt
  | .c0 x0 x1 x4 x8 => ent cfz 50 [(.d (.sl x0 x1)), (.d (.sl x4 x8))]
  | .c1 x0 x1 x4 x8 x9 => ⟨⟨50, sp 27 0 [(0, (.d (.sl x0 x1))), (1, (.d (.sl x4 x8))), (5, (aI x9))], [(.code (cd cfz.P 50 [1, 1, 0, 1, 0, 0])), (.inLoop (cd cfz.P 50 [1, 1, 0, 1, 0, 0])), (.inBlock 0), (.code (cd cfz.P 50 [1, 1, 1]))], [], false, .none⟩, [], []⟩
noncomputable def B50 : S50 → Tr S50 (Bool)
  | .c0 x0 x1 x4 x8 => (.br ((↑x0 : Int) != (↑x4 : Int))
  (.ret false)
  (.nxt (.c1 x0 x1 x4 x8 0)))
  | .c1 x0 x1 x4 x8 x9 => (.br (decide (x9 < (↑x0 : Int)))
  (.bind (F30 (dN (cel x1 (x9.toNat * 1))) (dL (cel x1 (x9.toNat * 1))) (dN (cel x8 (x9.toNat * 1))) (dL (cel x8 (x9.toNat * 1)))) fun xa =>
  (.ask (.le 0 x9) (.ask (.lt x9 ((↑x0 : Int))) (.ask (.leN (x9.toNat * 1) x1.length) (.ask (.prop (Option.map AV.d (List.drop (x9.toNat * 1) x1)[0]? = some (AV.d (DV.sl (dN (cel x1 (x9.toNat * 1))) (dL (cel x1 (x9.toNat * 1))))))) (.ask (.le 0 x9) (.ask (.lt x9 ((↑x4 : Int))) (.ask (.leN (x9.toNat * 1) x8.length) (.ask (.prop (Option.map AV.d (List.drop (x9.toNat * 1) x8)[0]? = some (AV.d (DV.sl (dN (cel x8 (x9.toNat * 1))) (dL (cel x8 (x9.toNat * 1))))))) (.sees [(.d (.sl (dN (cel x1 (x9.toNat * 1))) (dL (cel x1 (x9.toNat * 1))))), (.d (.sl (dN (cel x8 (x9.toNat * 1))) (dL (cel x8 (x9.toNat * 1)))))] (.br (!xa)
  (.ret false)
  (.ask (.in64 (x9 + 1)) (.nxt (.c1 x0 x1 x4 x8 (x9 + 1)))))))))))))))
  (.ret true))
noncomputable def F50 (x0 : Nat) (x1 : List DV) (x4 : Nat) (x8 : List DV) : Option (Bool) := res B50 (.c0 x0 x1 x4 x8)
theorem ok50 : ∀ s, ∃ d, xrun cfz 50 d [] (st50 s) = (B50 s).mach st50 out50 := fun s => match s with
  | .c0 x0 x1 x4 x8 => ⟨(.go 13 [] [] (.split 10 (.go 6 [(.br true)] [0] .fin) (.go 9 [(.br false)] [0] (.cut 0 [[0, 1, 5]] [])))), by kernel_rfl⟩
  | .c1 x0 x1 x4 x8 x9 => ⟨(.go 8 [] [] (.split 14 (.go 6 [(.br true)] [0] (.bind (f30 (dN (cel x1 (x9.toNat * 1))) (dL (cel x1 (x9.toNat * 1))) (dN (cel x8 (x9.toNat * 1))) (dL (cel x8 (x9.toNat * 1)))) fun xa => (.go 1 [(.as (.d (.sl (dN (cel x1 (x9.toNat * 1))) (dL (cel x1 (x9.toNat * 1)))))), (.as (.d (.sl (dN (cel x8 (x9.toNat * 1))) (dL (cel x8 (x9.toNat * 1)))))), (.ck 0)] [] (.split 26 (.go 6 [(.br true)] [0] .fin) (.go 9 [(.br false)] [0] (.cut 0 [[0, 1, 5]] [])))))) (.go 7 [(.br false)] [0] .fin))), by kernel_rfl⟩
theorem f50 (x0 : Nat) (x1 : List DV) (x4 : Nat) (x8 : List DV) (v : Bool) (h : F50 x0 x1 x4 x8 = some v) : PQ 50 [(.d (.sl x0 x1)), (.d (.sl x4 x8))] (out50 v) := tree_pure knil ok50 (s := .c0 x0 x1 x4 x8) rfl (by kernel_rfl) v h

/-! F69 -/
inductive S69 where
  | c0 (x0 : Nat) (x1 : List DV) (x4 : Nat) (x8 : List DV)
def out69 (v : Bool) : AV := (.d (.v (.bool v)))
noncomputable def st69 : S69 → ASt
  | .c0 x0 x1 x4 x8 => ent cfz 69 [(.d (.sl x0 x1)), (.d (.sl x4 x8))]
noncomputable def B69 : S69 → Tr S69 (Bool)
  | .c0 x0 x1 x4 x8 => (.ask (.eqN x1.length x0) (.ask (.eqB (x1.all isB) true) (.ask (.eqN x8.length x4) (.ask (.eqB (x8.all isB) true) (.ret (eqS (pushAll (List.map byB x1) ByteArray.empty) (pushAll (List.map byB x8) ByteArray.empty)))))))
noncomputable def F69 (x0 : Nat) (x1 : List DV) (x4 : Nat) (x8 : List DV) : Option (Bool) := res B69 (.c0 x0 x1 x4 x8)
theorem ok69 : ∀ s, ∃ d, xrun cfz 69 d [] (st69 s) = (B69 s).mach st69 out69 := fun s => match s with
  | .c0 x0 x1 x4 x8 => ⟨(.go 14 [] [] .fin), by kernel_rfl⟩
theorem f69 (x0 : Nat) (x1 : List DV) (x4 : Nat) (x8 : List DV) (v : Bool) (h : F69 x0 x1 x4 x8 = some v) : PQ 69 [(.d (.sl x0 x1)), (.d (.sl x4 x8))] (out69 v) := tree_pure knil ok69 (s := .c0 x0 x1 x4 x8) rfl (by kernel_rfl) v h

/-! F108f -/
inductive S108f where
  | c0 (a56 : Nat) (a57 a58 : List DV)
  | c1 (x59 : List DV) (x60 : Nat) (x61 : List DV) (x62 y63 : Int)
  | c2 (x65 : List DV) (y66 y67 : Nat) (y68 : List DV) (x69 : Nat) (x70 : List DV) (x71 y72 : Int) (y74 : Nat)
def out108f (v : Nat × List DV) : AV := (.own 0 0 1 v.fst v.snd)
noncomputable def st108f : S108f → ASt
  | .c0 a56 a57 a58 => ent cfz 108 [(.d (.sl a56 a57)), (.fn (.func 109) [] [(.ip a58)])]
  | .c1 x59 x60 x61 x62 y63 => ⟨⟨108, sp 22 0 [(1, (.fn (.func 109) [] [(.ip x59)])), (5, (.d (.v (.slice .none 0 0)))), (8, (.d (.sl x60 x61))), (9, (aI x62)), (10, (aI y63))], [(.code (cd cfz.P 108 [1, 1, 0, 1, 0, 0])), (.inLoop (cd cfz.P 108 [1, 1, 0, 1, 0, 0])), (.inBlock 0), (.code (cd cfz.P 108 [1, 1, 1]))], [], false, .none⟩, [], []⟩
  | .c2 x65 y66 y67 y68 x69 x70 x71 y72 y74 => ⟨⟨108, sp 22 0 [(1, (.fn (.func 109) [] [(.ip x65)])), (5, (.own 0 y66 1 y67 y68)), (8, (.d (.sl x69 x70))), (9, (aI x71)), (10, (aI y72))], [(.code (cd cfz.P 108 [1, 1, 0, 1, 0, 0])), (.inLoop (cd cfz.P 108 [1, 1, 0, 1, 0, 0])), (.inBlock 0), (.code (cd cfz.P 108 [1, 1, 1]))], [], false, .none⟩, [], [(.tail y74)]⟩
noncomputable def B108f : S108f → Tr S108f (Nat × List DV)
  | .c0 a56 a57 a58 => (.nxt (.c1 a58 a56 a57 ((↑a56 : Int)) 0))
  | .c1 x59 x60 x61 x62 y63 => (.br (decide (y63 < x62))
  (.ask (.le 0 y63) (.ask (.lt y63 ((↑x60 : Int))) (.ask (.leN (y63.toNat * 1) x61.length) (.ask (.prop (Option.map AV.d (List.drop (y63.toNat * 1) x61)[0]? = some (AV.d (DV.sl (dN (cel x61 (y63.toNat * 1))) (dL (cel x61 (y63.toNat * 1))))))) (.bind (F109 (dN (cel x61 (y63.toNat * 1))) (dL (cel x61 (y63.toNat * 1))) x59) fun v64 =>
  (.sees [(.d (.sl (dN (cel x61 (y63.toNat * 1))) (dL (cel x61 (y63.toNat * 1))))), (.ip x59)] (.ask (.in64 (y63 + 1)) (.nxt (.c2 x59 0 1 [(vI v64)] x60 x61 x62 (y63 + 1) 0)))))))))
  (.ret (0, [])))
  | .c2 x65 y66 y67 y68 x69 x70 x71 y72 y74 => (.br (decide (y72 < x71))
  (.ask (.le 0 y72) (.ask (.lt y72 ((↑x69 : Int))) (.ask (.leN (y72.toNat * 1) x70.length) (.ask (.prop (Option.map AV.d (List.drop (y72.toNat * 1) x70)[0]? = some (AV.d (DV.sl (dN (cel x70 (y72.toNat * 1))) (dL (cel x70 (y72.toNat * 1))))))) (.bind (F109 (dN (cel x70 (y72.toNat * 1))) (dL (cel x70 (y72.toNat * 1))) x65) fun v75 =>
  (.sees [(.d (.sl (dN (cel x70 (y72.toNat * 1))) (dL (cel x70 (y72.toNat * 1))))), (.ip x65)] (.ask (.eqN y66 y74) (.ask (.fits (y67 + 1) 8) (.ask (.in64 (y72 + 1)) (.nxt (.c2 x65 (y74 + 1) (y67 + 1) (y68 ++ [vI v75]) x69 x70 x71 (y72 + 1) (y74 + 1))))))))))))
  (.ask (.eqN y66 y74) (.ask (.ltN 0 y67) (.ret (y67, y68)))))
noncomputable def F108f (a56 : Nat) (a57 a58 : List DV) : Option (Nat × List DV) := res B108f (.c0 a56 a57 a58)
theorem ok108f : ∀ s, ∃ d, xrunF cfz 108 false d [] (st108f s) = (B108f s).mach st108f out108f := fun s => match s with
  | .c0 a56 a57 a58 => ⟨(.go 17 [] [] (.cut 0 [[1, 5, 8, 9, 10]] [])), by kernel_rfl⟩
  | .c1 x59 x60 x61 x62 y63 => ⟨(.go 5 [] [] (.split 11 (.go 14 [(.br true), (.as (.d (.sl (dN (cel x61 (y63.toNat * 1))) (dL (cel x61 (y63.toNat * 1))))))] [0] (.bind (f109 (dN (cel x61 (y63.toNat * 1))) (dL (cel x61 (y63.toNat * 1))) x59) fun v64 => (.go 11 [(.ck 0)] [1, 2, 3] (.ren 0 1 [] [[1, 5, 8, 9, 10]] [] (.cut 1 [[1, 5, 8, 9, 10]] []))))) (.go 8 [(.br false)] [0] (.finF 1 false [])))), by kernel_rfl⟩
  | .c2 x65 y66 y67 y68 x69 x70 x71 y72 y74 => ⟨(.go 5 [] [] (.split 11 (.go 14 [(.br true), (.as (.d (.sl (dN (cel x70 (y72.toNat * 1))) (dL (cel x70 (y72.toNat * 1))))))] [0] (.bind (f109 (dN (cel x70 (y72.toNat * 1))) (dL (cel x70 (y72.toNat * 1))) x65) fun v75 => (.go 11 [(.ck 0)] [2, 3] (.cut 1 [[1, 5, 8, 9, 10]] [])))) (.go 8 [(.br false)] [0] (.finF 1 false [])))), by kernel_rfl⟩
theorem f108f (a56 : Nat) (a57 a58 : List DV) (v : Nat × List DV) (h : F108f a56 a57 a58 = some v) : PureCallsF cfz.P cfz.glob 108 [(.d (.sl a56 a57)), (.fn (.func 109) [] [(.ip a58)])] (out108f v) false := tree_pureF knil ok108f (s := .c0 a56 a57 a58) rfl (by kernel_rfl) v h

/-! F61 -/
inductive S61 where
  | c0 (a49 : Nat) (a50 : List DV)
  | c1 (x52 : Nat) (x53 : List DV) (x54 y55 : Int)
  | c2 (x78 : Nat) (x79 : List DV) (y80 y81 : Nat) (y82 : List DV) (y83 y84 : Nat) (y85 : List DV) (x86 y87 : Int) (y98 y99 : Nat)
  | c3 (x88 : Nat) (x89 : List DV) (y90 y91 : Nat) (y92 : List DV) (x93 y94 : Int) (x0 : Nat)
  | c4 (x0 : Nat) (x1 : List DV) (x4 x8 : Nat) (x9 : List DV) (xa xb : Nat) (xc : List DV) (xd xe : Int) (xf xg : Nat)
def out61 (v : Nat × List DV × Nat × List DV × Int) : AV := (.tup [(.d (.sl v.fst v.snd.fst)), (.d (.sl v.snd.snd.fst v.snd.snd.snd.fst)), (aI v.snd.snd.snd.snd)])
noncomputable def st61 : S61 → ASt
  | .c0 a49 a50 => ent cfz 61 [(.d (.sl a49 a50))]
  | .c1 x52 x53 x54 y55 => ⟨⟨61, sp 43 0 [(0, (.d (.sl x52 x53))), (6, (.d (.v (.slice .none 0 0)))), (7, (.d (.v (.slice .none 0 0)))), (19, (aI x54)), (20, (aI y55))], [(.code (cd cfz.P 61 [1, 1, 1, 0, 1, 0, 0])), (.inLoop (cd cfz.P 61 [1, 1, 1, 0, 1, 0, 0])), (.inBlock 0), (.code (cd cfz.P 61 [1, 1, 1, 1]))], [], false, .none⟩, [], []⟩
  | .c2 x78 x79 y80 y81 y82 y83 y84 y85 x86 y87 y98 y99 => ⟨⟨61, sp 43 0 [(0, (.d (.sl x78 x79))), (6, (.own 1 y80 1 y81 y82)), (7, (.own 0 y83 1 y84 y85)), (19, (aI x86)), (20, (aI y87))], [(.code (cd cfz.P 61 [1, 1, 1, 0, 1, 0, 0])), (.inLoop (cd cfz.P 61 [1, 1, 1, 0, 1, 0, 0])), (.inBlock 0), (.code (cd cfz.P 61 [1, 1, 1, 1]))], [], false, .none⟩, [], [(.tail y98), (.tail y99)]⟩
  | .c3 x88 x89 y90 y91 y92 x93 y94 x0 => ⟨⟨61, sp 43 0 [(0, (.d (.sl x88 x89))), (6, (.own 0 y90 1 y91 y92)), (7, (.d (.v (.slice .none 0 0)))), (19, (aI x93)), (20, (aI y94))], [(.code (cd cfz.P 61 [1, 1, 1, 0, 1, 0, 0])), (.inLoop (cd cfz.P 61 [1, 1, 1, 0, 1, 0, 0])), (.inBlock 0), (.code (cd cfz.P 61 [1, 1, 1, 1]))], [], false, .none⟩, [], [(.tail x0)]⟩
  | .c4 x0 x1 x4 x8 x9 xa xb xc xd xe xf xg => ⟨⟨61, sp 43 0 [(0, (.d (.sl x0 x1))), (6, (.own 0 x4 1 x8 x9)), (7, (.own 1 xa 1 xb xc)), (19, (aI xd)), (20, (aI xe))], [(.code (cd cfz.P 61 [1, 1, 1, 0, 1, 0, 0])), (.inLoop (cd cfz.P 61 [1, 1, 1, 0, 1, 0, 0])), (.inBlock 0), (.code (cd cfz.P 61 [1, 1, 1, 1]))], [], false, .none⟩, [], [(.tail xf), (.tail xg)]⟩
noncomputable def B61 : S61 → Tr S61 (Nat × List DV × Nat × List DV × Int)
  | .c0 a49 a50 => (.bind (F104 a49 a50 15) fun v51 =>
  (.sees [(.d (.sl a49 a50)), (aI 15)] (.br (v51 != 0)
  (.ret (0, [], 0, [], v51))
  (.ask (.lt 0 ((↑a49 : Int))) (.ask (.leN 0 a50.length) (.ask (.prop (Option.map AV.d (List.drop 0 a50)[0]? = some (AV.d (DV.sl (dN (cel a50 0)) (dL (cel a50 0)))))) (.nxt (.c1 a49 a50 ((↑(dN (cel a50 0)) : Int)) 0))))))))
  | .c1 x52 x53 x54 y55 => (.br (decide (y55 < x54))
  (.bind (F108f x52 x53 [(vI y55)]) fun v76 =>
  (.br ((ownN (AV.own 0 0 1 v76.fst v76.snd)).beq 0)
  (.sees [(.d (.sl x52 x53)), (.fn (.func 109) [] [(.ip [(vI y55)])])] (.ask (.eqN (ownN (AV.own 0 0 1 v76.fst v76.snd)) 0) (.bind (F107 0 []) fun v77 =>
  (.sees [(.d (.sl 0 []))] (.br (!v77.snd)
  (.ask (.in64 (y55 + 1)) (.nxt (.c2 x52 x53 0 1 [(vI 0)] 0 1 [(vI y55)] x54 (y55 + 1) 0 0)))
  (.ask (.in64 (y55 + 1)) (.nxt (.c3 x52 x53 0 1 [(vI v77.fst)] x54 (y55 + 1) 0))))))))
  (.sees [(.d (.sl x52 x53)), (.fn (.func 109) [] [(.ip [(vI y55)])])] (.ask (.ltN 0 (ownN (AV.own 0 0 1 v76.fst v76.snd))) (.ask (.prop (flatDs v76.snd = true)) (.bind (F107 v76.fst v76.snd) fun v95 =>
  (.sees [(.d (.sl v76.fst v76.snd))] (.br (!v95.snd)
  (.ask (.in64 (y55 + 1)) (.nxt (.c2 x52 x53 0 1 [(vI 0)] 0 1 [(vI y55)] x54 (y55 + 1) 0 0)))
  (.ask (.in64 (y55 + 1)) (.nxt (.c3 x52 x53 0 1 [(vI v95.fst)] x54 (y55 + 1) 0)))))))))))
  (.ret (0, [], 0, [], 0)))
  | .c2 x78 x79 y80 y81 y82 y83 y84 y85 x86 y87 y98 y99 => (.br (decide (y87 < x86))
  (.bind (F108f x78 x79 [(vI y87)]) fun x0 =>
  (.br ((ownN (AV.own 0 0 1 x0.fst x0.snd)).beq 0)
  (.sees [(.d (.sl x78 x79)), (.fn (.func 109) [] [(.ip [(vI y87)])])] (.ask (.eqN (ownN (AV.own 0 0 1 x0.fst x0.snd)) 0) (.bind (F107 0 []) fun x1 =>
  (.sees [(.d (.sl 0 []))] (.br (!x1.snd)
  (.ask (.eqN y83 y98) (.ask (.fits (y84 + 1) 8) (.ask (.eqN y80 y99) (.ask (.fits (y81 + 1) 8) (.ask (.in64 (y87 + 1)) (.nxt (.c2 x78 x79 (y99 + 1) (y81 + 1) (y82 ++ [vI 0]) (y98 + 1) (y84 + 1) (y85 ++ [vI y87]) x86 (y87 + 1) (y98 + 1) (y99 + 1))))))))
  (.ask (.eqN y80 y99) (.ask (.fits (y81 + 1) 8) (.ask (.in64 (y87 + 1)) (.nxt (.c2 x78 x79 (y99 + 1) (y81 + 1) (y82 ++ [vI x1.fst]) y83 y84 y85 x86 (y87 + 1) y98 (y99 + 1)))))))))))
  (.sees [(.d (.sl x78 x79)), (.fn (.func 109) [] [(.ip [(vI y87)])])] (.ask (.ltN 0 (ownN (AV.own 0 0 1 x0.fst x0.snd))) (.ask (.prop (flatDs x0.snd = true)) (.bind (F107 x0.fst x0.snd) fun x4 =>
  (.sees [(.d (.sl x0.fst x0.snd))] (.br (!x4.snd)
  (.ask (.eqN y83 y98) (.ask (.fits (y84 + 1) 8) (.ask (.eqN y80 y99) (.ask (.fits (y81 + 1) 8) (.ask (.in64 (y87 + 1)) (.nxt (.c2 x78 x79 (y99 + 1) (y81 + 1) (y82 ++ [vI 0]) (y98 + 1) (y84 + 1) (y85 ++ [vI y87]) x86 (y87 + 1) (y98 + 1) (y99 + 1))))))))
  (.ask (.eqN y80 y99) (.ask (.fits (y81 + 1) 8) (.ask (.in64 (y87 + 1)) (.nxt (.c2 x78 x79 (y99 + 1) (y81 + 1) (y82 ++ [vI x4.fst]) y83 y84 y85 x86 (y87 + 1) y98 (y99 + 1))))))))))))))
  (.ret (y81, y82, y84, y85, 0)))
  | .c3 x88 x89 y90 y91 y92 x93 y94 x0 => (.br (decide (y94 < x93))
  (.bind (F108f x88 x89 [(vI y94)]) fun x1 =>
  (.br ((ownN (AV.own 0 0 1 x1.fst x1.snd)).beq 0)
  (.sees [(.d (.sl x88 x89)), (.fn (.func 109) [] [(.ip [(vI y94)])])] (.ask (.eqN (ownN (AV.own 0 0 1 x1.fst x1.snd)) 0) (.bind (F107 0 []) fun x4 =>
  (.sees [(.d (.sl 0 []))] (.br (!x4.snd)
  (.ask (.eqN y90 x0) (.ask (.fits (y91 + 1) 8) (.ask (.in64 (y94 + 1)) (.nxt (.c4 x88 x89 (x0 + 1) (y91 + 1) (y92 ++ [vI 0]) 0 1 [(vI y94)] x93 (y94 + 1) (x0 + 1) 0)))))
  (.ask (.eqN y90 x0) (.ask (.fits (y91 + 1) 8) (.ask (.in64 (y94 + 1)) (.nxt (.c3 x88 x89 (x0 + 1) (y91 + 1) (y92 ++ [vI x4.fst]) x93 (y94 + 1) (x0 + 1)))))))))))
  (.sees [(.d (.sl x88 x89)), (.fn (.func 109) [] [(.ip [(vI y94)])])] (.ask (.ltN 0 (ownN (AV.own 0 0 1 x1.fst x1.snd))) (.ask (.prop (flatDs x1.snd = true)) (.bind (F107 x1.fst x1.snd) fun x8 =>
  (.sees [(.d (.sl x1.fst x1.snd))] (.br (!x8.snd)
  (.ask (.eqN y90 x0) (.ask (.fits (y91 + 1) 8) (.ask (.in64 (y94 + 1)) (.nxt (.c4 x88 x89 (x0 + 1) (y91 + 1) (y92 ++ [vI 0]) 0 1 [(vI y94)] x93 (y94 + 1) (x0 + 1) 0)))))
  (.ask (.eqN y90 x0) (.ask (.fits (y91 + 1) 8) (.ask (.in64 (y94 + 1)) (.nxt (.c3 x88 x89 (x0 + 1) (y91 + 1) (y92 ++ [vI x8.fst]) x93 (y94 + 1) (x0 + 1))))))))))))))
  (.ret (y91, y92, 0, [], 0)))
  | .c4 x0 x1 x4 x8 x9 xa xb xc xd xe xf xg => (.br (decide (xe < xd))
  (.bind (F108f x0 x1 [(vI xe)]) fun xh =>
  (.br ((ownN (AV.own 0 0 1 xh.fst xh.snd)).beq 0)
  (.sees [(.d (.sl x0 x1)), (.fn (.func 109) [] [(.ip [(vI xe)])])] (.ask (.eqN (ownN (AV.own 0 0 1 xh.fst xh.snd)) 0) (.bind (F107 0 []) fun xi =>
  (.sees [(.d (.sl 0 []))] (.br (!xi.snd)
  (.ask (.eqN xa xg) (.ask (.fits (xb + 1) 8) (.ask (.eqN x4 xf) (.ask (.fits (x8 + 1) 8) (.ask (.in64 (xe + 1)) (.nxt (.c4 x0 x1 (xf + 1) (x8 + 1) (x9 ++ [vI 0]) (xg + 1) (xb + 1) (xc ++ [vI xe]) xd (xe + 1) (xf + 1) (xg + 1))))))))
  (.ask (.eqN x4 xf) (.ask (.fits (x8 + 1) 8) (.ask (.in64 (xe + 1)) (.nxt (.c4 x0 x1 (xf + 1) (x8 + 1) (x9 ++ [vI xi.fst]) xa xb xc xd (xe + 1) (xf + 1) xg))))))))))
  (.sees [(.d (.sl x0 x1)), (.fn (.func 109) [] [(.ip [(vI xe)])])] (.ask (.ltN 0 (ownN (AV.own 0 0 1 xh.fst xh.snd))) (.ask (.prop (flatDs xh.snd = true)) (.bind (F107 xh.fst xh.snd) fun xj =>
  (.sees [(.d (.sl xh.fst xh.snd))] (.br (!xj.snd)
  (.ask (.eqN xa xg) (.ask (.fits (xb + 1) 8) (.ask (.eqN x4 xf) (.ask (.fits (x8 + 1) 8) (.ask (.in64 (xe + 1)) (.nxt (.c4 x0 x1 (xf + 1) (x8 + 1) (x9 ++ [vI 0]) (xg + 1) (xb + 1) (xc ++ [vI xe]) xd (xe + 1) (xf + 1) (xg + 1))))))))
  (.ask (.eqN x4 xf) (.ask (.fits (x8 + 1) 8) (.ask (.in64 (xe + 1)) (.nxt (.c4 x0 x1 (xf + 1) (x8 + 1) (x9 ++ [vI xj.fst]) xa xb xc xd (xe + 1) (xf + 1) xg)))))))))))))
  (.ret (x8, x9, xb, xc, 0)))
noncomputable def F61 (a49 : Nat) (a50 : List DV) : Option (Nat × List DV × Nat × List DV × Int) := res B61 (.c0 a49 a50)
theorem ok61 : ∀ s, ∃ d, xrun cfz 61 d [] (st61 s) = (B61 s).mach st61 out61 := fun s => match s with
  | .c0 a49 a50 => ⟨(.go 10 [] [] (.bind (f104 a49 a50 15) fun v51 => (.go 8 [(.ck 0)] [] (.split 14 (.go 9 [(.br true)] [0] .fin) (.go 18 [(.br false), (.as (.d (.sl (dN (cel a50 0)) (dL (cel a50 0)))))] [0, 1] (.cut 0 [[0, 6, 7, 19, 20]] [])))))), by kernel_rfl⟩
  | .c1 x52 x53 x54 y55 => ⟨(.go 5 [] [] (.split 21 (.go 14 [(.br true)] [0] (.bindF (f108f x52 x53 [(vI y55)]) fun v76 => (.br ((ownN (AV.own 0 0 1 v76.fst v76.snd)).beq 0) (.go 1 [(.ce 0)] [] (.bind (f107 0 []) fun v77 => (.go 13 [(.ck 1)] [] (.split 31 (.go 25 [(.br true)] [0, 1, 2, 3, 4, 5, 6] (.ren 0 2 [] [[0, 6, 7, 19, 20]] [0] (.ren 1 4 [] [[0, 6, 7, 19, 20]] [] (.cut 2 [[0, 6, 7, 19, 20]] [])))) (.go 15 [(.br false)] [0, 1, 2, 3] (.ren 0 2 [] [[0, 6, 7, 19, 20]] [0] (.cut 1 [[0, 6, 7, 19, 20]] []))))))) (.go 1 [(.cq 0)] [] (.bind (f107 v76.fst v76.snd) fun v95 => (.go 13 [(.ck 1)] [] (.split 31 (.go 25 [(.br true)] [0, 1, 2, 3, 4, 5, 6] (.ren 0 3 [] [[0, 6, 7, 19, 20]] [0] (.ren 1 5 [] [[0, 6, 7, 19, 20]] [] (.cut 2 [[0, 6, 7, 19, 20]] [])))) (.go 15 [(.br false)] [0, 1, 2, 3] (.ren 0 3 [] [[0, 6, 7, 19, 20]] [0] (.cut 1 [[0, 6, 7, 19, 20]] [])))))))))) (.go 11 [(.br false)] [0] .fin))), by kernel_rfl⟩
  | .c2 x78 x79 y80 y81 y82 y83 y84 y85 x86 y87 y98 y99 => ⟨(.go 5 [] [] (.split 21 (.go 14 [(.br true)] [0] (.bindF (f108f x78 x79 [(vI y87)]) fun x0 => (.br ((ownN (AV.own 0 0 1 x0.fst x0.snd)).beq 0) (.go 1 [(.ce 0)] [] (.bind (f107 0 []) fun x1 => (.go 13 [(.ck 1)] [] (.split 31 (.go 25 [(.br true)] [0, 2, 3, 6, 7] (.cut 2 [[0, 6, 7, 19, 20]] [])) (.go 15 [(.br false)] [0, 2, 3] (.cut 2 [[0, 6, 7, 19, 20]] [])))))) (.go 1 [(.cq 0)] [] (.bind (f107 x0.fst x0.snd) fun x4 => (.go 13 [(.ck 1)] [] (.split 31 (.go 25 [(.br true)] [0, 2, 3, 6, 7] (.cut 2 [[0, 6, 7, 19, 20]] [])) (.go 15 [(.br false)] [0, 2, 3] (.cut 2 [[0, 6, 7, 19, 20]] []))))))))) (.go 11 [(.br false)] [0] .fin))), by kernel_rfl⟩
  | .c3 x88 x89 y90 y91 y92 x93 y94 x0 => ⟨(.go 5 [] [] (.split 21 (.go 14 [(.br true)] [0] (.bindF (f108f x88 x89 [(vI y94)]) fun x1 => (.br ((ownN (AV.own 0 0 1 x1.fst x1.snd)).beq 0) (.go 1 [(.ce 0)] [] (.bind (f107 0 []) fun x4 => (.go 13 [(.ck 1)] [] (.split 31 (.go 25 [(.br true)] [0, 1, 2, 3, 5, 6] (.ren 1 3 [] [[0, 6, 7, 19, 20]] [1] (.cut 2 [[0, 6, 7, 19, 20]] []))) (.go 15 [(.br false)] [0, 2, 3] (.cut 1 [[0, 6, 7, 19, 20]] [])))))) (.go 1 [(.cq 0)] [] (.bind (f107 x1.fst x1.snd) fun x8 => (.go 13 [(.ck 1)] [] (.split 31 (.go 25 [(.br true)] [0, 1, 2, 3, 5, 6] (.ren 1 4 [] [[0, 6, 7, 19, 20]] [1] (.cut 2 [[0, 6, 7, 19, 20]] []))) (.go 15 [(.br false)] [0, 2, 3] (.cut 1 [[0, 6, 7, 19, 20]] []))))))))) (.go 11 [(.br false)] [0] .fin))), by kernel_rfl⟩
  | .c4 x0 x1 x4 x8 x9 xa xb xc xd xe xf xg => ⟨(.go 5 [] [] (.split 21 (.go 14 [(.br true)] [0] (.bindF (f108f x0 x1 [(vI xe)]) fun xh => (.br ((ownN (AV.own 0 0 1 xh.fst xh.snd)).beq 0) (.go 1 [(.ce 0)] [] (.bind (f107 0 []) fun xi => (.go 13 [(.ck 1)] [] (.split 31 (.go 25 [(.br true)] [0, 2, 3, 6, 7] (.cut 2 [[0, 6, 7, 19, 20]] [])) (.go 15 [(.br false)] [0, 2, 3] (.cut 2 [[0, 6, 7, 19, 20]] [])))))) (.go 1 [(.cq 0)] [] (.bind (f107 xh.fst xh.snd) fun xj => (.go 13 [(.ck 1)] [] (.split 31 (.go 25 [(.br true)] [0, 2, 3, 6, 7] (.cut 2 [[0, 6, 7, 19, 20]] [])) (.go 15 [(.br false)] [0, 2, 3] (.cut 2 [[0, 6, 7, 19, 20]] []))))))))) (.go 11 [(.br false)] [0] .fin))), by kernel_rfl⟩
theorem f61 (a49 : Nat) (a50 : List DV) (v : Nat × List DV × Nat × List DV × Int) (h : F61 a49 a50 = some v) : PQ 61 [(.d (.sl a49 a50))] (out61 v) := tree_pure knil ok61 (s := .c0 a49 a50) rfl (by kernel_rfl) v h

/-! F66 -/
inductive S66 where
  | c0 (a0 : Nat) (a1 : List DV)
  | c1 (x2 : Nat) (x3 : List DV) (y4 : Int)
  | c2 (x5 : Nat) (x6 : List DV) (x7 y20 y35 : Int) (y21 : Bool) (y22 y8 y9 : Int)
  | c3 (x10 : Nat) (x11 : List DV) (x12 y23 y44 : Int) (y24 : Bool) (y25 x13 x14 : Int)
  | c4 (x15 : Nat) (x16 : List DV) (x17 x18 y26 : Int) (y19 : Bool) (y27 : Int)
  | c5 (x28 : Nat) (x29 : List DV) (x30 y31 y32 : Int) (y33 : Bool) (y34 : Int)
  | c6 (x36 : Nat) (x37 : List DV) (x0 x1 : Nat) (x4 : List DV) (x8 x9 : Nat) (x38 : List DV) (x39 : Int) (xa xb : Nat)
  | c7 (x40 : Nat) (x41 : List DV) (x0 x1 : Nat) (x42 : List DV) (x43 : Int) (x4 : Nat)
  | c8 (x45 : Nat) (x46 : List DV) (y47 y48 : Nat) (y49 : List DV) (y50 y51 : Nat) (y52 : List DV) (y53 : Int) (x0 x1 : Nat)
  | c9 (x54 : Nat) (x55 : List DV) (y56 y57 : Nat) (y58 : List DV) (y59 : Int) (x0 : Nat)
  | c10 (x60 : Nat) (x61 : List DV) (x62 x63 : Nat) (x64 : List DV) (x65 x66 : Nat) (x67 : List DV) (x68 x0 x1 : Int) (x4 : Bool) (x8 y69 y70 : Int) (x9 xa : Nat)
  | c11 (x71 : Nat) (x72 : List DV) (x73 x74 : Nat) (x75 : List DV) (x76 x0 x1 : Int) (x4 : Bool) (x8 y77 y78 : Int) (x9 : Nat)
  | c12 (x79 : Nat) (x80 : List DV) (x81 x82 : Nat) (x83 : List DV) (x84 x85 : Nat) (x86 : List DV) (x87 x0 x1 : Int) (x4 : Bool) (x8 x88 x89 : Int) (x9 xa : Nat)
  | c13 (x90 : Nat) (x91 : List DV) (x92 x93 : Nat) (x94 : List DV) (x95 x96 : Nat) (x97 : List DV) (x98 x99 x0 : Int) (x1 : Bool) (x4 : Int) (x8 x9 : Nat)
  | c14 (x0 : Nat) (x1 : List DV) (x4 x8 : Nat) (x9 : List DV) (xa xb xc : Int) (xd : Bool) (xe xf xg : Int) (xh : Nat)
  | c15 (x0 : Nat) (x1 : List DV) (x4 x8 : Nat) (x9 : List DV) (xa xb xc : Int) (xd : Bool) (xe : Int) (xf : Nat)
  | c16 (x0 : Nat) (x1 : List DV) (x4 x8 : Nat) (x9 : List DV) (xa xb : Nat) (xc : List DV) (xd xe xf : Int) (xg : Bool) (xh : Int) (xi xj : Nat)
  | c17 (x0 : Nat) (x1 : List DV) (x4 x8 : Nat) (x9 : List DV) (xa xb xc : Int) (xd : Bool) (xe : Int) (xf : Nat)
def out66 (v : Nat × List DV × Nat × List DV) : AV := (.tup [(.d (.sl v.fst v.snd.fst)), (.d (.sl v.snd.snd.fst v.snd.snd.snd))])
noncomputable def st66 : S66 → ASt
  | .c0 a0 a1 => ent cfz 66 [(.d (.sl a0 a1))]
  | .c1 x2 x3 y4 => ⟨⟨66, sp 64 0 [(0, (.d (.sl x2 x3))), (4, (.d (.v (.slice .none 0 0)))), (5, (.d (.v (.slice .none 0 0)))), (6, (aI y4))], [(.code (cd cfz.P 66 [1, 1, 0, 1, 0, 0])), (.inLoop (cd cfz.P 66 [1, 1, 0, 1, 0, 0])), (.inBlock 0), (.code (cd cfz.P 66 [1, 1, 1]))], [], false, .none⟩, [], []⟩
  | .c2 x5 x6 x7 y20 y35 y21 y22 y8 y9 => ⟨⟨66, sp 64 0 [(0, (.d (.sl x5 x6))), (4, (.d (.v (.slice .none 0 0)))), (5, (.d (.v (.slice .none 0 0)))), (6, (aI x7)), (7, (aI y20)), (8, (aI y35)), (9, (.d (.v (.bool y21)))), (10, (aI y22)), (11, (aI y8)), (12, (aI y9))], [(.code (cd cfz.P 66 [1, 1, 0, 1, 0, 0, 1, 0, 0, 1, 0, 1, 0, 0, 1, 0, 0, 1, 0, 1, 0, 0])), (.inLoop (cd cfz.P 66 [1, 1, 0, 1, 0, 0, 1, 0, 0, 1, 0, 1, 0, 0, 1, 0, 0, 1, 0, 1, 0, 0])), (.inBlock 4), (.code (cd cfz.P 66 [1, 1, 0, 1, 0, 0, 1, 0, 0, 1, 0, 1, 0, 0, 1, 0, 0, 1, 1])), (.inBlock 3), (.code (cd cfz.P 66 [1, 1, 0, 1, 0, 0, 1, 0, 0, 1, 0, 1, 0, 0, 1, 1])), (.inLoop (cd cfz.P 66 [1, 1, 0, 1, 0, 0, 1, 0, 0, 1, 0, 1, 0, 0])), (.inBlock 2), (.code (cd cfz.P 66 [1, 1, 0, 1, 0, 0, 1, 0, 0, 1, 1])), (.inBlock 1), (.code (cd cfz.P 66 [1, 1, 0, 1, 0, 0, 1, 1])), (.inLoop (cd cfz.P 66 [1, 1, 0, 1, 0, 0])), (.inBlock 0), (.code (cd cfz.P 66 [1, 1, 1]))], [], false, .none⟩, [], []⟩
  | .c3 x10 x11 x12 y23 y44 y24 y25 x13 x14 => ⟨⟨66, sp 64 0 [(0, (.d (.sl x10 x11))), (4, (.d (.v (.slice .none 0 0)))), (5, (.d (.v (.slice .none 0 0)))), (6, (aI x12)), (7, (aI y23)), (8, (aI y44)), (9, (.d (.v (.bool y24)))), (10, (aI y25)), (11, (aI x13)), (12, (aI x14))], [(.inBlock 5), (.code (cd cfz.P 66 [1, 1, 0, 1, 0, 0, 1, 0, 0, 1, 0, 1, 0, 0, 1, 0, 0, 1, 0, 1, 0, 0, 1, 1])), (.inLoop (cd cfz.P 66 [1, 1, 0, 1, 0, 0, 1, 0, 0, 1, 0, 1, 0, 0, 1, 0, 0, 1, 0, 1, 0, 0])), (.inBlock 4), (.code (cd cfz.P 66 [1, 1, 0, 1, 0, 0, 1, 0, 0, 1, 0, 1, 0, 0, 1, 0, 0, 1, 1])), (.inBlock 3), (.code (cd cfz.P 66 [1, 1, 0, 1, 0, 0, 1, 0, 0, 1, 0, 1, 0, 0, 1, 1])), (.inLoop (cd cfz.P 66 [1, 1, 0, 1, 0, 0, 1, 0, 0, 1, 0, 1, 0, 0])), (.inBlock 2), (.code (cd cfz.P 66 [1, 1, 0, 1, 0, 0, 1, 0, 0, 1, 1])), (.inBlock 1), (.code (cd cfz.P 66 [1, 1, 0, 1, 0, 0, 1, 1])), (.inLoop (cd cfz.P 66 [1, 1, 0, 1, 0, 0])), (.inBlock 0), (.code (cd cfz.P 66 [1, 1, 1]))], [], false, .none⟩, [], []⟩
  | .c4 x15 x16 x17 x18 y26 y19 y27 => ⟨⟨66, sp 64 0 [(0, (.d (.sl x15 x16))), (4, (.d (.v (.slice .none 0 0)))), (5, (.d (.v (.slice .none 0 0)))), (6, (aI x17)), (7, (aI x18)), (8, (aI y26)), (9, (.d (.v (.bool y19)))), (10, (aI y27))], [(.inBlock 3), (.code (cd cfz.P 66 [1, 1, 0, 1, 0, 0, 1, 0, 0, 1, 0, 1, 0, 0, 1, 1])), (.inLoop (cd cfz.P 66 [1, 1, 0, 1, 0, 0, 1, 0, 0, 1, 0, 1, 0, 0])), (.inBlock 2), (.code (cd cfz.P 66 [1, 1, 0, 1, 0, 0, 1, 0, 0, 1, 1])), (.inBlock 1), (.code (cd cfz.P 66 [1, 1, 0, 1, 0, 0, 1, 1])), (.inLoop (cd cfz.P 66 [1, 1, 0, 1, 0, 0])), (.inBlock 0), (.code (cd cfz.P 66 [1, 1, 1]))], [], false, .none⟩, [], []⟩
  | .c5 x28 x29 x30 y31 y32 y33 y34 => ⟨⟨66, sp 64 0 [(0, (.d (.sl x28 x29))), (4, (.d (.v (.slice .none 0 0)))), (5, (.d (.v (.slice .none 0 0)))), (6, (aI x30)), (7, (aI y31)), (8, (aI y32)), (9, (.d (.v (.bool y33)))), (10, (aI y34))], [(.code (cd cfz.P 66 [1, 1, 0, 1, 0, 0, 1, 0, 0, 1, 0, 1, 0, 0])), (.inLoop (cd cfz.P 66 [1, 1, 0, 1, 0, 0, 1, 0, 0, 1, 0, 1, 0, 0])), (.inBlock 2), (.code (cd cfz.P 66 [1, 1, 0, 1, 0, 0, 1, 0, 0, 1, 1])), (.inBlock 1), (.code (cd cfz.P 66 [1, 1, 0, 1, 0, 0, 1, 1])), (.inLoop (cd cfz.P 66 [1, 1, 0, 1, 0, 0])), (.inBlock 0), (.code (cd cfz.P 66 [1, 1, 1]))], [], false, .none⟩, [], []⟩
  | .c6 x36 x37 x0 x1 x4 x8 x9 x38 x39 xa xb => ⟨⟨66, sp 64 0 [(0, (.d (.sl x36 x37))), (4, (.own 0 x0 1 x1 x4)), (5, (.own 1 x8 1 x9 x38)), (6, (aI x39))], [(.inBlock 1), (.code (cd cfz.P 66 [1, 1, 0, 1, 0, 0, 1, 1])), (.inLoop (cd cfz.P 66 [1, 1, 0, 1, 0, 0])), (.inBlock 0), (.code (cd cfz.P 66 [1, 1, 1]))], [], false, .none⟩, [], [(.tail xa), (.tail xb)]⟩
  | .c7 x40 x41 x0 x1 x42 x43 x4 => ⟨⟨66, sp 64 0 [(0, (.d (.sl x40 x41))), (4, (.own 0 x0 1 x1 x42)), (5, (.d (.v (.slice .none 0 0)))), (6, (aI x43))], [(.inBlock 1), (.code (cd cfz.P 66 [1, 1, 0, 1, 0, 0, 1, 1])), (.inLoop (cd cfz.P 66 [1, 1, 0, 1, 0, 0])), (.inBlock 0), (.code (cd cfz.P 66 [1, 1, 1]))], [], false, .none⟩, [], [(.tail x4)]⟩
  | .c8 x45 x46 y47 y48 y49 y50 y51 y52 y53 x0 x1 => ⟨⟨66, sp 64 0 [(0, (.d (.sl x45 x46))), (4, (.own 0 y47 1 y48 y49)), (5, (.own 1 y50 1 y51 y52)), (6, (aI y53))], [(.code (cd cfz.P 66 [1, 1, 0, 1, 0, 0])), (.inLoop (cd cfz.P 66 [1, 1, 0, 1, 0, 0])), (.inBlock 0), (.code (cd cfz.P 66 [1, 1, 1]))], [], false, .none⟩, [], [(.tail x0), (.tail x1)]⟩
  | .c9 x54 x55 y56 y57 y58 y59 x0 => ⟨⟨66, sp 64 0 [(0, (.d (.sl x54 x55))), (4, (.own 0 y56 1 y57 y58)), (5, (.d (.v (.slice .none 0 0)))), (6, (aI y59))], [(.code (cd cfz.P 66 [1, 1, 0, 1, 0, 0])), (.inLoop (cd cfz.P 66 [1, 1, 0, 1, 0, 0])), (.inBlock 0), (.code (cd cfz.P 66 [1, 1, 1]))], [], false, .none⟩, [], [(.tail x0)]⟩
  | .c10 x60 x61 x62 x63 x64 x65 x66 x67 x68 x0 x1 x4 x8 y69 y70 x9 xa => ⟨⟨66, sp 64 0 [(0, (.d (.sl x60 x61))), (4, (.own 0 x62 1 x63 x64)), (5, (.own 1 x65 1 x66 x67)), (6, (aI x68)), (7, (aI x0)), (8, (aI x1)), (9, (.d (.v (.bool x4)))), (10, (aI x8)), (11, (aI y69)), (12, (aI y70))], [(.code (cd cfz.P 66 [1, 1, 0, 1, 0, 0, 1, 0, 0, 1, 0, 1, 0, 0, 1, 0, 0, 1, 0, 1, 0, 0])), (.inLoop (cd cfz.P 66 [1, 1, 0, 1, 0, 0, 1, 0, 0, 1, 0, 1, 0, 0, 1, 0, 0, 1, 0, 1, 0, 0])), (.inBlock 4), (.code (cd cfz.P 66 [1, 1, 0, 1, 0, 0, 1, 0, 0, 1, 0, 1, 0, 0, 1, 0, 0, 1, 1])), (.inBlock 3), (.code (cd cfz.P 66 [1, 1, 0, 1, 0, 0, 1, 0, 0, 1, 0, 1, 0, 0, 1, 1])), (.inLoop (cd cfz.P 66 [1, 1, 0, 1, 0, 0, 1, 0, 0, 1, 0, 1, 0, 0])), (.inBlock 2), (.code (cd cfz.P 66 [1, 1, 0, 1, 0, 0, 1, 0, 0, 1, 1])), (.inBlock 1), (.code (cd cfz.P 66 [1, 1, 0, 1, 0, 0, 1, 1])), (.inLoop (cd cfz.P 66 [1, 1, 0, 1, 0, 0])), (.inBlock 0), (.code (cd cfz.P 66 [1, 1, 1]))], [], false, .none⟩, [], [(.tail x9), (.tail xa)]⟩
  | .c11 x71 x72 x73 x74 x75 x76 x0 x1 x4 x8 y77 y78 x9 => ⟨⟨66, sp 64 0 [(0, (.d (.sl x71 x72))), (4, (.own 0 x73 1 x74 x75)), (5, (.d (.v (.slice .none 0 0)))), (6, (aI x76)), (7, (aI x0)), (8, (aI x1)), (9, (.d (.v (.bool x4)))), (10, (aI x8)), (11, (aI y77)), (12, (aI y78))], [(.code (cd cfz.P 66 [1, 1, 0, 1, 0, 0, 1, 0, 0, 1, 0, 1, 0, 0, 1, 0, 0, 1, 0, 1, 0, 0])), (.inLoop (cd cfz.P 66 [1, 1, 0, 1, 0, 0, 1, 0, 0, 1, 0, 1, 0, 0, 1, 0, 0, 1, 0, 1, 0, 0])), (.inBlock 4), (.code (cd cfz.P 66 [1, 1, 0, 1, 0, 0, 1, 0, 0, 1, 0, 1, 0, 0, 1, 0, 0, 1, 1])), (.inBlock 3), (.code (cd cfz.P 66 [1, 1, 0, 1, 0, 0, 1, 0, 0, 1, 0, 1, 0, 0, 1, 1])), (.inLoop (cd cfz.P 66 [1, 1, 0, 1, 0, 0, 1, 0, 0, 1, 0, 1, 0, 0])), (.inBlock 2), (.code (cd cfz.P 66 [1, 1, 0, 1, 0, 0, 1, 0, 0, 1, 1])), (.inBlock 1), (.code (cd cfz.P 66 [1, 1, 0, 1, 0, 0, 1, 1])), (.inLoop (cd cfz.P 66 [1, 1, 0, 1, 0, 0])), (.inBlock 0), (.code (cd cfz.P 66 [1, 1, 1]))], [], false, .none⟩, [], [(.tail x9)]⟩
  | .c12 x79 x80 x81 x82 x83 x84 x85 x86 x87 x0 x1 x4 x8 x88 x89 x9 xa => ⟨⟨66, sp 64 0 [(0, (.d (.sl x79 x80))), (4, (.own 0 x81 1 x82 x83)), (5, (.own 1 x84 1 x85 x86)), (6, (aI x87)), (7, (aI x0)), (8, (aI x1)), (9, (.d (.v (.bool x4)))), (10, (aI x8)), (11, (aI x88)), (12, (aI x89))], [(.inBlock 5), (.code (cd cfz.P 66 [1, 1, 0, 1, 0, 0, 1, 0, 0, 1, 0, 1, 0, 0, 1, 0, 0, 1, 0, 1, 0, 0, 1, 1])), (.inLoop (cd cfz.P 66 [1, 1, 0, 1, 0, 0, 1, 0, 0, 1, 0, 1, 0, 0, 1, 0, 0, 1, 0, 1, 0, 0])), (.inBlock 4), (.code (cd cfz.P 66 [1, 1, 0, 1, 0, 0, 1, 0, 0, 1, 0, 1, 0, 0, 1, 0, 0, 1, 1])), (.inBlock 3), (.code (cd cfz.P 66 [1, 1, 0, 1, 0, 0, 1, 0, 0, 1, 0, 1, 0, 0, 1, 1])), (.inLoop (cd cfz.P 66 [1, 1, 0, 1, 0, 0, 1, 0, 0, 1, 0, 1, 0, 0])), (.inBlock 2), (.code (cd cfz.P 66 [1, 1, 0, 1, 0, 0, 1, 0, 0, 1, 1])), (.inBlock 1), (.code (cd cfz.P 66 [1, 1, 0, 1, 0, 0, 1, 1])), (.inLoop (cd cfz.P 66 [1, 1, 0, 1, 0, 0])), (.inBlock 0), (.code (cd cfz.P 66 [1, 1, 1]))], [], false, .none⟩, [], [(.tail x9), (.tail xa)]⟩
  | .c13 x90 x91 x92 x93 x94 x95 x96 x97 x98 x99 x0 x1 x4 x8 x9 => ⟨⟨66, sp 64 0 [(0, (.d (.sl x90 x91))), (4, (.own 0 x92 1 x93 x94)), (5, (.own 1 x95 1 x96 x97)), (6, (aI x98)), (7, (aI x99)), (8, (aI x0)), (9, (.d (.v (.bool x1)))), (10, (aI x4))], [(.inBlock 3), (.code (cd cfz.P 66 [1, 1, 0, 1, 0, 0, 1, 0, 0, 1, 0, 1, 0, 0, 1, 1])), (.inLoop (cd cfz.P 66 [1, 1, 0, 1, 0, 0, 1, 0, 0, 1, 0, 1, 0, 0])), (.inBlock 2), (.code (cd cfz.P 66 [1, 1, 0, 1, 0, 0, 1, 0, 0, 1, 1])), (.inBlock 1), (.code (cd cfz.P 66 [1, 1, 0, 1, 0, 0, 1, 1])), (.inLoop (cd cfz.P 66 [1, 1, 0, 1, 0, 0])), (.inBlock 0), (.code (cd cfz.P 66 [1, 1, 1]))], [], false, .none⟩, [], [(.tail x8), (.tail x9)]⟩
  | .c14 x0 x1 x4 x8 x9 xa xb xc xd xe xf xg xh => ⟨⟨66, sp 64 0 [(0, (.d (.sl x0 x1))), (4, (.own 0 x4 1 x8 x9)), (5, (.d (.v (.slice .none 0 0)))), (6, (aI xa)), (7, (aI xb)), (8, (aI xc)), (9, (.d (.v (.bool xd)))), (10, (aI xe)), (11, (aI xf)), (12, (aI xg))], [(.inBlock 5), (.code (cd cfz.P 66 [1, 1, 0, 1, 0, 0, 1, 0, 0, 1, 0, 1, 0, 0, 1, 0, 0, 1, 0, 1, 0, 0, 1, 1])), (.inLoop (cd cfz.P 66 [1, 1, 0, 1, 0, 0, 1, 0, 0, 1, 0, 1, 0, 0, 1, 0, 0, 1, 0, 1, 0, 0])), (.inBlock 4), (.code (cd cfz.P 66 [1, 1, 0, 1, 0, 0, 1, 0, 0, 1, 0, 1, 0, 0, 1, 0, 0, 1, 1])), (.inBlock 3), (.code (cd cfz.P 66 [1, 1, 0, 1, 0, 0, 1, 0, 0, 1, 0, 1, 0, 0, 1, 1])), (.inLoop (cd cfz.P 66 [1, 1, 0, 1, 0, 0, 1, 0, 0, 1, 0, 1, 0, 0])), (.inBlock 2), (.code (cd cfz.P 66 [1, 1, 0, 1, 0, 0, 1, 0, 0, 1, 1])), (.inBlock 1), (.code (cd cfz.P 66 [1, 1, 0, 1, 0, 0, 1, 1])), (.inLoop (cd cfz.P 66 [1, 1, 0, 1, 0, 0])), (.inBlock 0), (.code (cd cfz.P 66 [1, 1, 1]))], [], false, .none⟩, [], [(.tail xh)]⟩
  | .c15 x0 x1 x4 x8 x9 xa xb xc xd xe xf => ⟨⟨66, sp 64 0 [(0, (.d (.sl x0 x1))), (4, (.own 0 x4 1 x8 x9)), (5, (.d (.v (.slice .none 0 0)))), (6, (aI xa)), (7, (aI xb)), (8, (aI xc)), (9, (.d (.v (.bool xd)))), (10, (aI xe))], [(.inBlock 3), (.code (cd cfz.P 66 [1, 1, 0, 1, 0, 0, 1, 0, 0, 1, 0, 1, 0, 0, 1, 1])), (.inLoop (cd cfz.P 66 [1, 1, 0, 1, 0, 0, 1, 0, 0, 1, 0, 1, 0, 0])), (.inBlock 2), (.code (cd cfz.P 66 [1, 1, 0, 1, 0, 0, 1, 0, 0, 1, 1])), (.inBlock 1), (.code (cd cfz.P 66 [1, 1, 0, 1, 0, 0, 1, 1])), (.inLoop (cd cfz.P 66 [1, 1, 0, 1, 0, 0])), (.inBlock 0), (.code (cd cfz.P 66 [1, 1, 1]))], [], false, .none⟩, [], [(.tail xf)]⟩
  | .c16 x0 x1 x4 x8 x9 xa xb xc xd xe xf xg xh xi xj => ⟨⟨66, sp 64 0 [(0, (.d (.sl x0 x1))), (4, (.own 0 x4 1 x8 x9)), (5, (.own 1 xa 1 xb xc)), (6, (aI xd)), (7, (aI xe)), (8, (aI xf)), (9, (.d (.v (.bool xg)))), (10, (aI xh))], [(.code (cd cfz.P 66 [1, 1, 0, 1, 0, 0, 1, 0, 0, 1, 0, 1, 0, 0])), (.inLoop (cd cfz.P 66 [1, 1, 0, 1, 0, 0, 1, 0, 0, 1, 0, 1, 0, 0])), (.inBlock 2), (.code (cd cfz.P 66 [1, 1, 0, 1, 0, 0, 1, 0, 0, 1, 1])), (.inBlock 1), (.code (cd cfz.P 66 [1, 1, 0, 1, 0, 0, 1, 1])), (.inLoop (cd cfz.P 66 [1, 1, 0, 1, 0, 0])), (.inBlock 0), (.code (cd cfz.P 66 [1, 1, 1]))], [], false, .none⟩, [], [(.tail xi), (.tail xj)]⟩
  | .c17 x0 x1 x4 x8 x9 xa xb xc xd xe xf => ⟨⟨66, sp 64 0 [(0, (.d (.sl x0 x1))), (4, (.own 0 x4 1 x8 x9)), (5, (.d (.v (.slice .none 0 0)))), (6, (aI xa)), (7, (aI xb)), (8, (aI xc)), (9, (.d (.v (.bool xd)))), (10, (aI xe))], [(.code (cd cfz.P 66 [1, 1, 0, 1, 0, 0, 1, 0, 0, 1, 0, 1, 0, 0])), (.inLoop (cd cfz.P 66 [1, 1, 0, 1, 0, 0, 1, 0, 0, 1, 0, 1, 0, 0])), (.inBlock 2), (.code (cd cfz.P 66 [1, 1, 0, 1, 0, 0, 1, 0, 0, 1, 1])), (.inBlock 1), (.code (cd cfz.P 66 [1, 1, 0, 1, 0, 0, 1, 1])), (.inLoop (cd cfz.P 66 [1, 1, 0, 1, 0, 0])), (.inBlock 0), (.code (cd cfz.P 66 [1, 1, 1]))], [], false, .none⟩, [], [(.tail xf)]⟩
noncomputable def B66 : S66 → Tr S66 (Nat × List DV × Nat × List DV)
  | .c0 a0 a1 => (.nxt (.c1 a0 a1 0))
  | .c1 x2 x3 y4 => (.ask (.lt 0 ((↑x2 : Int))) (.ask (.leN 0 x3.length) (.ask (.prop (Option.map AV.d (List.drop 0 x3)[0]? = some (AV.d (DV.sl (dN (cel x3 0)) (dL (cel x3 0)))))) (.br (decide (y4 < (↑(dN (cel x3 0)) : Int)))
  (.nxt (.c2 x2 x3 y4 0 0 false 0 0 0))
  (.ret (0, [], 0, []))))))
  | .c2 x5 x6 x7 y20 y35 y21 y22 y8 y9 => (.br (decide (y9 < (↑x5 : Int)))
  (.ask (.le 0 y9) (.ask (.lt y9 ((↑x5 : Int))) (.ask (.leN (y9.toNat * 1) x6.length) (.ask (.prop (Option.map AV.d (List.drop (y9.toNat * 1) x6)[0]? = some (AV.d (DV.sl (dN (cel x6 (y9.toNat * 1))) (dL (cel x6 (y9.toNat * 1))))))) (.ask (.le 0 x7) (.ask (.lt x7 ((↑(dN (cel x6 (y9.toNat * 1))) : Int))) (.ask (.leN (x7.toNat * 1) ((dL (cel x6 (y9.toNat * 1))).length)) (.ask (.prop (Option.map AV.d (List.drop (x7.toNat * 1) (dL (cel x6 (y9.toNat * 1))))[0]? = some (AV.d (vI (dI (cel (dL (cel x6 (y9.toNat * 1))) (x7.toNat * 1))))))) (.br (dI (cel (dL (cel x6 (y9.toNat * 1))) (x7.toNat * 1)) == y22)
  (.ask (.in64 (y8 + 1)) (.nxt (.c3 x5 x6 x7 y20 y35 y21 y22 (y8 + 1) y9)))
  (.nxt (.c3 x5 x6 x7 y20 y35 y21 y22 y8 y9)))))))))))
  (.br (decide (y8 > y20))
  (.nxt (.c4 x5 x6 x7 y8 y22 false y22))
  (.br (y8 == y20)
  (.nxt (.c4 x5 x6 x7 y20 y35 true y22))
  (.nxt (.c4 x5 x6 x7 y20 y35 y21 y22)))))
  | .c3 x10 x11 x12 y23 y44 y24 y25 x13 x14 => (.ask (.in64 (x14 + 1)) (.nxt (.c2 x10 x11 x12 y23 y44 y24 y25 x13 (x14 + 1))))
  | .c4 x15 x16 x17 x18 y26 y19 y27 => (.ask (.in64 (y27 + 1)) (.nxt (.c5 x15 x16 x17 x18 y26 y19 (y27 + 1))))
  | .c5 x28 x29 x30 y31 y32 y33 y34 => (.br (decide (y34 < 17))
  (.nxt (.c2 x28 x29 x30 y31 y32 y33 y34 0 0))
  (.br y33
  (.nxt (.c6 x28 x29 0 1 [(vI 0)] 0 1 [(vI x30)] x30 0 0))
  (.nxt (.c7 x28 x29 0 1 [(vI y32)] x30 0))))
  | .c6 x36 x37 x0 x1 x4 x8 x9 x38 x39 xa xb => (.ask (.in64 (x39 + 1)) (.nxt (.c8 x36 x37 x0 x1 x4 x8 x9 x38 (x39 + 1) xa xb)))
  | .c7 x40 x41 x0 x1 x42 x43 x4 => (.ask (.in64 (x43 + 1)) (.nxt (.c9 x40 x41 x0 x1 x42 (x43 + 1) x4)))
  | .c8 x45 x46 y47 y48 y49 y50 y51 y52 y53 x0 x1 => (.ask (.lt 0 ((↑x45 : Int))) (.ask (.leN 0 x46.length) (.ask (.prop (Option.map AV.d (List.drop 0 x46)[0]? = some (AV.d (DV.sl (dN (cel x46 0)) (dL (cel x46 0)))))) (.br (decide (y53 < (↑(dN (cel x46 0)) : Int)))
  (.nxt (.c10 x45 x46 y47 y48 y49 y50 y51 y52 y53 0 0 false 0 0 0 x0 x1))
  (.ret (y48, y49, y51, y52))))))
  | .c9 x54 x55 y56 y57 y58 y59 x0 => (.ask (.lt 0 ((↑x54 : Int))) (.ask (.leN 0 x55.length) (.ask (.prop (Option.map AV.d (List.drop 0 x55)[0]? = some (AV.d (DV.sl (dN (cel x55 0)) (dL (cel x55 0)))))) (.br (decide (y59 < (↑(dN (cel x55 0)) : Int)))
  (.nxt (.c11 x54 x55 y56 y57 y58 y59 0 0 false 0 0 0 x0))
  (.ret (y57, y58, 0, []))))))
  | .c10 x60 x61 x62 x63 x64 x65 x66 x67 x68 x0 x1 x4 x8 y69 y70 x9 xa => (.br (decide (y70 < (↑x60 : Int)))
  (.ask (.le 0 y70) (.ask (.lt y70 ((↑x60 : Int))) (.ask (.leN (y70.toNat * 1) x61.length) (.ask (.prop (Option.map AV.d (List.drop (y70.toNat * 1) x61)[0]? = some (AV.d (DV.sl (dN (cel x61 (y70.toNat * 1))) (dL (cel x61 (y70.toNat * 1))))))) (.ask (.le 0 x68) (.ask (.lt x68 ((↑(dN (cel x61 (y70.toNat * 1))) : Int))) (.ask (.leN (x68.toNat * 1) ((dL (cel x61 (y70.toNat * 1))).length)) (.ask (.prop (Option.map AV.d (List.drop (x68.toNat * 1) (dL (cel x61 (y70.toNat * 1))))[0]? = some (AV.d (vI (dI (cel (dL (cel x61 (y70.toNat * 1))) (x68.toNat * 1))))))) (.br (dI (cel (dL (cel x61 (y70.toNat * 1))) (x68.toNat * 1)) == x8)
  (.ask (.in64 (y69 + 1)) (.nxt (.c12 x60 x61 x62 x63 x64 x65 x66 x67 x68 x0 x1 x4 x8 (y69 + 1) y70 x9 xa)))
  (.nxt (.c12 x60 x61 x62 x63 x64 x65 x66 x67 x68 x0 x1 x4 x8 y69 y70 x9 xa)))))))))))
  (.br (decide (y69 > x0))
  (.nxt (.c13 x60 x61 x62 x63 x64 x65 x66 x67 x68 y69 x8 false x8 x9 xa))
  (.br (y69 == x0)
  (.nxt (.c13 x60 x61 x62 x63 x64 x65 x66 x67 x68 x0 x1 true x8 x9 xa))
  (.nxt (.c13 x60 x61 x62 x63 x64 x65 x66 x67 x68 x0 x1 x4 x8 x9 xa)))))
  | .c11 x71 x72 x73 x74 x75 x76 x0 x1 x4 x8 y77 y78 x9 => (.br (decide (y78 < (↑x71 : Int)))
  (.ask (.le 0 y78) (.ask (.lt y78 ((↑x71 : Int))) (.ask (.leN (y78.toNat * 1) x72.length) (.ask (.prop (Option.map AV.d (List.drop (y78.toNat * 1) x72)[0]? = some (AV.d (DV.sl (dN (cel x72 (y78.toNat * 1))) (dL (cel x72 (y78.toNat * 1))))))) (.ask (.le 0 x76) (.ask (.lt x76 ((↑(dN (cel x72 (y78.toNat * 1))) : Int))) (.ask (.leN (x76.toNat * 1) ((dL (cel x72 (y78.toNat * 1))).length)) (.ask (.prop (Option.map AV.d (List.drop (x76.toNat * 1) (dL (cel x72 (y78.toNat * 1))))[0]? = some (AV.d (vI (dI (cel (dL (cel x72 (y78.toNat * 1))) (x76.toNat * 1))))))) (.br (dI (cel (dL (cel x72 (y78.toNat * 1))) (x76.toNat * 1)) == x8)
  (.ask (.in64 (y77 + 1)) (.nxt (.c14 x71 x72 x73 x74 x75 x76 x0 x1 x4 x8 (y77 + 1) y78 x9)))
  (.nxt (.c14 x71 x72 x73 x74 x75 x76 x0 x1 x4 x8 y77 y78 x9)))))))))))
  (.br (decide (y77 > x0))
  (.nxt (.c15 x71 x72 x73 x74 x75 x76 y77 x8 false x8 x9))
  (.br (y77 == x0)
  (.nxt (.c15 x71 x72 x73 x74 x75 x76 x0 x1 true x8 x9))
  (.nxt (.c15 x71 x72 x73 x74 x75 x76 x0 x1 x4 x8 x9)))))
  | .c12 x79 x80 x81 x82 x83 x84 x85 x86 x87 x0 x1 x4 x8 x88 x89 x9 xa => (.ask (.in64 (x89 + 1)) (.nxt (.c10 x79 x80 x81 x82 x83 x84 x85 x86 x87 x0 x1 x4 x8 x88 (x89 + 1) x9 xa)))
  | .c13 x90 x91 x92 x93 x94 x95 x96 x97 x98 x99 x0 x1 x4 x8 x9 => (.ask (.in64 (x4 + 1)) (.nxt (.c16 x90 x91 x92 x93 x94 x95 x96 x97 x98 x99 x0 x1 (x4 + 1) x8 x9)))
  | .c14 x0 x1 x4 x8 x9 xa xb xc xd xe xf xg xh => (.ask (.in64 (xg + 1)) (.nxt (.c11 x0 x1 x4 x8 x9 xa xb xc xd xe xf (xg + 1) xh)))
  | .c15 x0 x1 x4 x8 x9 xa xb xc xd xe xf => (.ask (.in64 (xe + 1)) (.nxt (.c17 x0 x1 x4 x8 x9 xa xb xc xd (xe + 1) xf)))
  | .c16 x0 x1 x4 x8 x9 xa xb xc xd xe xf xg xh xi xj => (.br (decide (xh < 17))
  (.nxt (.c10 x0 x1 x4 x8 x9 xa xb xc xd xe xf xg xh 0 0 xi xj))
  (.br xg
  (.ask (.eqN x4 xi) (.ask (.fits (x8 + 1) 8) (.ask (.eqN xa xj) (.ask (.fits (xb + 1) 8) (.nxt (.c6 x0 x1 (xi + 1) (x8 + 1) (x9 ++ [vI 0]) (xj + 1) (xb + 1) (xc ++ [vI xd]) xd (xi + 1) (xj + 1)))))))
  (.ask (.eqN x4 xi) (.ask (.fits (x8 + 1) 8) (.nxt (.c6 x0 x1 (xi + 1) (x8 + 1) (x9 ++ [vI xf]) xa xb xc xd (xi + 1) xj))))))
  | .c17 x0 x1 x4 x8 x9 xa xb xc xd xe xf => (.br (decide (xe < 17))
  (.nxt (.c11 x0 x1 x4 x8 x9 xa xb xc xd xe 0 0 xf))
  (.br xd
  (.ask (.eqN x4 xf) (.ask (.fits (x8 + 1) 8) (.nxt (.c6 x0 x1 (xf + 1) (x8 + 1) (x9 ++ [vI 0]) 0 1 [(vI xa)] xa (xf + 1) 0))))
  (.ask (.eqN x4 xf) (.ask (.fits (x8 + 1) 8) (.nxt (.c7 x0 x1 (xf + 1) (x8 + 1) (x9 ++ [vI xc]) xa (xf + 1)))))))
noncomputable def F66 (a0 : Nat) (a1 : List DV) : Option (Nat × List DV × Nat × List DV) := res B66 (.c0 a0 a1)
theorem ok66 : ∀ s, ∃ d, xrun cfz 66 d [] (st66 s) = (B66 s).mach st66 out66 := fun s => match s with
  | .c0 a0 a1 => ⟨(.go 17 [] [] (.cut 0 [[0, 4, 5, 6]] [])), by kernel_rfl⟩
  | .c1 x2 x3 y4 => ⟨(.go 10 [(.as (.d (.sl (dN (cel x3 0)) (dL (cel x3 0)))))] [0] (.split 18 (.go 38 [(.br true), (.br true)] [0, 1] (.cut 0 [[0, 4, 5, 6, 7, 8, 9, 10, 11, 12]] [])) (.go 10 [(.br false)] [0] .fin))), by kernel_rfl⟩
  | .c2 x5 x6 x7 y20 y35 y21 y22 y8 y9 => ⟨(.go 8 [] [] (.split 28 (.go 16 [(.br true), (.as (.d (.sl (dN (cel x6 (y9.toNat * 1))) (dL (cel x6 (y9.toNat * 1)))))), (.as (aI (dI (cel (dL (cel x6 (y9.toNat * 1))) (x7.toNat * 1)))))] [0] (.split 39 (.go 6 [(.br true)] [0] (.cut 0 [[0, 4, 5, 6, 7, 8, 9, 10, 11, 12]] [])) (.go 2 [(.br false)] [0] (.cut 0 [[0, 4, 5, 6, 7, 8, 9, 10, 11, 12]] [])))) (.go 8 [(.br false)] [0] (.split 44 (.go 8 [(.br true)] [0] (.cut 0 [[0, 4, 5, 6, 7, 8, 9, 10]] [])) (.go 7 [(.br false)] [0] (.split 49 (.go 4 [(.br true)] [0] (.cut 0 [[0, 4, 5, 6, 7, 8, 9, 10]] [])) (.go 2 [(.br false)] [0] (.cut 0 [[0, 4, 5, 6, 7, 8, 9, 10]] [])))))))), by kernel_rfl⟩
  | .c3 x10 x11 x12 y23 y44 y24 y25 x13 x14 => ⟨(.go 7 [] [] (.cut 0 [[0, 4, 5, 6, 7, 8, 9, 10, 11, 12]] [])), by kernel_rfl⟩
  | .c4 x15 x16 x17 x18 y26 y19 y27 => ⟨(.go 7 [] [] (.cut 0 [[0, 4, 5, 6, 7, 8, 9, 10]] [])), by kernel_rfl⟩
  | .c5 x28 x29 x30 y31 y32 y33 y34 => ⟨(.go 6 [] [] (.split 22 (.go 15 [(.br true)] [0] (.cut 0 [[0, 4, 5, 6, 7, 8, 9, 10, 11, 12]] [])) (.go 6 [(.br false)] [0] (.split 50 (.go 12 [(.br true)] [0, 1, 2, 3, 4, 5, 6] (.ren 0 1 [] [[0, 4, 5, 6]] [] (.ren 1 3 [] [[0, 4, 5, 6]] [] (.cut 2 [[0, 4, 5, 6]] [])))) (.go 8 [(.br false)] [0, 1, 2, 3] (.ren 0 1 [] [[0, 4, 5, 6]] [] (.cut 1 [[0, 4, 5, 6]] []))))))), by kernel_rfl⟩
  | .c6 x36 x37 x0 x1 x4 x8 x9 x38 x39 xa xb => ⟨(.go 7 [] [] (.cut 2 [[0, 4, 5, 6]] [])), by kernel_rfl⟩
  | .c7 x40 x41 x0 x1 x42 x43 x4 => ⟨(.go 7 [] [] (.cut 1 [[0, 4, 5, 6]] [])), by kernel_rfl⟩
  | .c8 x45 x46 y47 y48 y49 y50 y51 y52 y53 x0 x1 => ⟨(.go 10 [(.as (.d (.sl (dN (cel x46 0)) (dL (cel x46 0)))))] [0] (.split 18 (.go 38 [(.br true), (.br true)] [0, 1] (.cut 2 [[0, 4, 5, 6, 7, 8, 9, 10, 11, 12]] [])) (.go 10 [(.br false)] [0] .fin))), by kernel_rfl⟩
  | .c9 x54 x55 y56 y57 y58 y59 x0 => ⟨(.go 10 [(.as (.d (.sl (dN (cel x55 0)) (dL (cel x55 0)))))] [0] (.split 18 (.go 38 [(.br true), (.br true)] [0, 1] (.cut 1 [[0, 4, 5, 6, 7, 8, 9, 10, 11, 12]] [])) (.go 10 [(.br false)] [0] .fin))), by kernel_rfl⟩
  | .c10 x60 x61 x62 x63 x64 x65 x66 x67 x68 x0 x1 x4 x8 y69 y70 x9 xa => ⟨(.go 8 [] [] (.split 28 (.go 16 [(.br true), (.as (.d (.sl (dN (cel x61 (y70.toNat * 1))) (dL (cel x61 (y70.toNat * 1)))))), (.as (aI (dI (cel (dL (cel x61 (y70.toNat * 1))) (x68.toNat * 1)))))] [0] (.split 39 (.go 6 [(.br true)] [0] (.cut 2 [[0, 4, 5, 6, 7, 8, 9, 10, 11, 12]] [])) (.go 2 [(.br false)] [0] (.cut 2 [[0, 4, 5, 6, 7, 8, 9, 10, 11, 12]] [])))) (.go 8 [(.br false)] [0] (.split 44 (.go 8 [(.br true)] [0] (.cut 2 [[0, 4, 5, 6, 7, 8, 9, 10]] [])) (.go 7 [(.br false)] [0] (.split 49 (.go 4 [(.br true)] [0] (.cut 2 [[0, 4, 5, 6, 7, 8, 9, 10]] [])) (.go 2 [(.br false)] [0] (.cut 2 [[0, 4, 5, 6, 7, 8, 9, 10]] [])))))))), by kernel_rfl⟩
  | .c11 x71 x72 x73 x74 x75 x76 x0 x1 x4 x8 y77 y78 x9 => ⟨(.go 8 [] [] (.split 28 (.go 16 [(.br true), (.as (.d (.sl (dN (cel x72 (y78.toNat * 1))) (dL (cel x72 (y78.toNat * 1)))))), (.as (aI (dI (cel (dL (cel x72 (y78.toNat * 1))) (x76.toNat * 1)))))] [0] (.split 39 (.go 6 [(.br true)] [0] (.cut 1 [[0, 4, 5, 6, 7, 8, 9, 10, 11, 12]] [])) (.go 2 [(.br false)] [0] (.cut 1 [[0, 4, 5, 6, 7, 8, 9, 10, 11, 12]] [])))) (.go 8 [(.br false)] [0] (.split 44 (.go 8 [(.br true)] [0] (.cut 1 [[0, 4, 5, 6, 7, 8, 9, 10]] [])) (.go 7 [(.br false)] [0] (.split 49 (.go 4 [(.br true)] [0] (.cut 1 [[0, 4, 5, 6, 7, 8, 9, 10]] [])) (.go 2 [(.br false)] [0] (.cut 1 [[0, 4, 5, 6, 7, 8, 9, 10]] [])))))))), by kernel_rfl⟩
  | .c12 x79 x80 x81 x82 x83 x84 x85 x86 x87 x0 x1 x4 x8 x88 x89 x9 xa => ⟨(.go 7 [] [] (.cut 2 [[0, 4, 5, 6, 7, 8, 9, 10, 11, 12]] [])), by kernel_rfl⟩
  | .c13 x90 x91 x92 x93 x94 x95 x96 x97 x98 x99 x0 x1 x4 x8 x9 => ⟨(.go 7 [] [] (.cut 2 [[0, 4, 5, 6, 7, 8, 9, 10]] [])), by kernel_rfl⟩
  | .c14 x0 x1 x4 x8 x9 xa xb xc xd xe xf xg xh => ⟨(.go 7 [] [] (.cut 1 [[0, 4, 5, 6, 7, 8, 9, 10, 11, 12]] [])), by kernel_rfl⟩
  | .c15 x0 x1 x4 x8 x9 xa xb xc xd xe xf => ⟨(.go 7 [] [] (.cut 1 [[0, 4, 5, 6, 7, 8, 9, 10]] [])), by kernel_rfl⟩
  | .c16 x0 x1 x4 x8 x9 xa xb xc xd xe xf xg xh xi xj => ⟨(.go 6 [] [] (.split 22 (.go 15 [(.br true)] [0] (.cut 2 [[0, 4, 5, 6, 7, 8, 9, 10, 11, 12]] [])) (.go 6 [(.br false)] [0] (.split 50 (.go 12 [(.br true)] [0, 2, 3, 6, 7] (.cut 2 [[0, 4, 5, 6]] [])) (.go 8 [(.br false)] [0, 2, 3] (.cut 2 [[0, 4, 5, 6]] [])))))), by kernel_rfl⟩
  | .c17 x0 x1 x4 x8 x9 xa xb xc xd xe xf => ⟨(.go 6 [] [] (.split 22 (.go 15 [(.br true)] [0] (.cut 1 [[0, 4, 5, 6, 7, 8, 9, 10, 11, 12]] [])) (.go 6 [(.br false)] [0] (.split 50 (.go 12 [(.br true)] [0, 2, 3, 5, 6, 7] (.ren 1 3 [] [[0, 4, 5, 6]] [] (.cut 2 [[0, 4, 5, 6]] []))) (.go 8 [(.br false)] [0, 2, 3] (.cut 1 [[0, 4, 5, 6]] [])))))), by kernel_rfl⟩
theorem f66 (a0 : Nat) (a1 : List DV) (v : Nat × List DV × Nat × List DV) (h : F66 a0 a1 = some v) : PQ 66 [(.d (.sl a0 a1))] (out66 v) := tree_pure knil ok66 (s := .c0 a0 a1) rfl (by kernel_rfl) v h

end Go.Kv
