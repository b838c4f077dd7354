import Derived.Test.YtfdjkfmiofgclaaGreatDoorKvW
import Derived.Test.YtfdjkfmiofgclaaGreatDoorKvZ
import Derived.Test.YtfdjkfmiofgclaaGreatDoorKzA
import Derived.Test.YtfdjkfmiofgclaaGreatDoorKzW
namespace Go.Kv
set_option linter.all false
noncomputable section
open Go Go.RowKit Go.Proofs
set_option maxRecDepth 100000
inductive S109 where
 | c0 (a45 : Bool) (a46 : Int)
def out109 (v : Int) : AV := (.d (.v (.int .i64 v)))
def st109 : S109 → ASt
 | .c0 a45 a46 => ent cfz 109 [(.d (.v (.bool a45))), (aI a46)]
def B109 : S109 → Tr S109 (Int)
 | .c0 a45 a46 => (.br a45
 (.ret a46)
 (.ret 0))
def F109 (a45 : Bool) (a46 : Int) : Option (Int) := res B109 (.c0 a45 a46)
theorem ok109 : ∀ s, ∃ d, xrun cfz 109 d [] (st109 s) = (B109 s).mach st109 out109 := fun s => match s with
 | .c0 a45 a46 => ⟨(.go 9 [] [] (.split 5 (.go 7 [(.br true)] [0] .fin) (.go 7 [(.br false)] [0] .fin))), by kernel_rfl⟩
theorem f109 (a45 : Bool) (a46 v : Int) (h : F109 a45 a46 = some v) : PQ 109 [(.d (.v (.bool a45))), (aI a46)] (out109 v) := tree_pure knil ok109 (s := .c0 a45 a46) rfl (by kernel_rfl) v h
inductive S106 where
 | c0 (a42 a43 a44 : Int)
def out106 (v : Int) : AV := (.d (.v (.int .i64 v)))
def st106 : S106 → ASt
 | .c0 a42 a43 a44 => ent cfz 106 [(aI a42), (aI a43), (aI a44)]
def B106 : S106 → Tr S106 (Int)
 | .c0 a42 a43 a44 => (.triv _ (tv_s (decide (a42 < a43) == false)) (.triv _ (tv_s (decide (a42 < a43) == false)) (.triv _ (tv_f (decide (a42 < a43))) (.bind (F109 (if decide (a42 < a43) = true then true else decide (a42 > a44)) 3) fun v47 =>
 (.sees [(.d (.v (.bool (if decide (a42 < a43) = true then true else decide (a42 > a44))))), (aI 3)] (.ret v47))))))
def F106 (a42 a43 a44 : Int) : Option (Int) := res B106 (.c0 a42 a43 a44)
theorem ok106 : ∀ s, ∃ d, xrun cfz 106 d [] (st106 s) = (B106 s).mach st106 out106 := fun s => match s with
 | .c0 a42 a43 a44 => ⟨(.go 14 [(.sp .none), (.sp .none), (.sp .none), .mg] [] (.bind (f109 (if decide (a42 < a43) = true then true else decide (a42 > a44)) 3) fun v47 => (.go 4 [(.ck 0)] [] .fin))), by kernel_rfl⟩
theorem f106 (a42 a43 a44 v : Int) (h : F106 a42 a43 a44 = some v) : PQ 106 [(aI a42), (aI a43), (aI a44)] (out106 v) := tree_pure knil ok106 (s := .c0 a42 a43 a44) rfl (by kernel_rfl) v h
inductive S107 where
 | c0 (x0 : Nat) (x1 : List DV)
 | c1 (x0 : Nat) (x1 : List DV) (x2 x3 : Int)
def out107 (v : Int) : AV := (.d (.v (.int .i64 v)))
def st107 : S107 → ASt
 | .c0 x0 x1 => ent cfz 107 [(.d (.sl x0 x1))]
 | .c1 x0 x1 x2 x3 => ⟨⟨107, sp 15 0 [(5, (.d (.sl x0 x1))), (6, (aI x2)), (7, (aI x3))], [(.code (cd cfz.P 107 [1, 0, 1, 0, 0])), (.inLoop (cd cfz.P 107 [1, 0, 1, 0, 0])), (.inBlock 0), (.code (cd cfz.P 107 [1, 1]))], [], false, .none⟩, [], []⟩
def B107 : S107 → Tr S107 (Int)
 | .c0 x0 x1 => (.nxt (.c1 x0 x1 ((↑x0 : Int)) 0))
 | .c1 x0 x1 x2 x3 => (.br (decide (x3 < x2))
 (.ask (.le 0 x3) (.ask (.lt x3 ((↑x0 : Int))) (.ask (.leN (x3.toNat * 1) x1.length) (.ask (.prop (Option.map AV.d (List.drop (x3.toNat * 1) x1)[0]? = some (AV.d (DV.v (Value.int IntKind.i64 (dI (cel x1 (x3.toNat * 1)))))))) (.br (dI (cel x1 (x3.toNat * 1)) != 0)
 (.ret (dI (cel x1 (x3.toNat * 1))))
 (.ask (.in64 (x3 + 1)) (.nxt (.c1 x0 x1 x2 (x3 + 1)))))))))
 (.ret 0))
def F107 (x0 : Nat) (x1 : List DV) : Option (Int) := res B107 (.c0 x0 x1)
theorem ok107 : ∀ s, ∃ d, xrun cfz 107 d [] (st107 s) = (B107 s).mach st107 out107 := fun s => match s with
 | .c0 x0 x1 => ⟨(.go 13 [] [] (.cut 0 [[5, 6, 7]] [])), by kernel_rfl⟩
 | .c1 x0 x1 x2 x3 => ⟨(.go 5 [] [] (.split 8 (.go 15 [(.br true), (.as (aI (dI (cel x1 (x3.toNat * 1)))))] [0] (.split 12 (.go 7 [(.br true)] [0] .fin) (.go 8 [(.br false)] [0] (.cut 0 [[5, 6, 7]] [])))) (.go 7 [(.br false)] [0] .fin))), by kernel_rfl⟩
theorem f107 (x0 : Nat) (x1 : List DV) (v : Int) (h : F107 x0 x1 = some v) : PQ 107 [(.d (.sl x0 x1))] (out107 v) := tree_pure knil ok107 (s := .c0 x0 x1) rfl (by kernel_rfl) v h
inductive S37 where
 | c0 (x0 : Bool) (x1 : Int)
def out37 (v : Int) : AV := (.d (.v (.int .i64 v)))
def st37 : S37 → ASt
 | .c0 x0 x1 => ent cfz 37 [(.d (.v (.bool x0))), (aI x1)]
def B37 : S37 → Tr S37 (Int)
 | .c0 x0 x1 => (.br x0
 (.ret x1)
 (.ret 0))
def F37 (x0 : Bool) (x1 : Int) : Option (Int) := res B37 (.c0 x0 x1)
theorem ok37 : ∀ s, ∃ d, xrun cfz 37 d [] (st37 s) = (B37 s).mach st37 out37 := fun s => match s with
 | .c0 x0 x1 => ⟨(.go 9 [] [] (.split 5 (.go 7 [(.br true)] [0] .fin) (.go 7 [(.br false)] [0] .fin))), by kernel_rfl⟩
theorem f37 (x0 : Bool) (x1 v : Int) (h : F37 x0 x1 = some v) : PQ 37 [(.d (.v (.bool x0))), (aI x1)] (out37 v) := tree_pure knil ok37 (s := .c0 x0 x1) rfl (by kernel_rfl) v h
inductive S39 where
 | c0 (x0 x1 x2 : Int)
def out39 (v : Int) : AV := (.d (.v (.int .i64 v)))
def st39 : S39 → ASt
 | .c0 x0 x1 x2 => ent cfz 39 [(aI x0), (aI x1), (aI x2)]
def B39 : S39 → Tr S39 (Int)
 | .c0 x0 x1 x2 => (.triv _ (tv_s (decide (x0 < x1) == false)) (.triv _ (tv_s (decide (x0 < x1) == false)) (.triv _ (tv_f (decide (x0 < x1))) (.bind (F37 (if decide (x0 < x1) = true then true else decide (x0 > x2)) 3) fun x3 =>
 (.sees [(.d (.v (.bool (if decide (x0 < x1) = true then true else decide (x0 > x2))))), (aI 3)] (.ret x3))))))
def F39 (x0 x1 x2 : Int) : Option (Int) := res B39 (.c0 x0 x1 x2)
theorem ok39 : ∀ s, ∃ d, xrun cfz 39 d [] (st39 s) = (B39 s).mach st39 out39 := fun s => match s with
 | .c0 x0 x1 x2 => ⟨(.go 14 [(.sp .none), (.sp .none), (.sp .none), .mg] [] (.bind (f37 (if decide (x0 < x1) = true then true else decide (x0 > x2)) 3) fun x3 => (.go 4 [(.ck 0)] [] .fin))), by kernel_rfl⟩
theorem f39 (x0 x1 x2 v : Int) (h : F39 x0 x1 x2 = some v) : PQ 39 [(aI x0), (aI x1), (aI x2)] (out39 v) := tree_pure knil ok39 (s := .c0 x0 x1 x2) rfl (by kernel_rfl) v h
inductive S20 where
 | c0 (x0 : Nat) (x1 : List DV)
 | c1 (x0 : Nat) (x1 : List DV) (x2 : Int)
def out20 (v : Int) : AV := (.d (.v (.int .i64 v)))
def st20 : S20 → ASt
 | .c0 x0 x1 => ent cfz 20 [(.d (.sl x0 x1))]
 | .c1 x0 x1 x2 => ⟨⟨20, sp 19 0 [(0, (.d (.sl x0 x1))), (3, (aI x2))], [(.code (cd cfz.P 20 [1, 0, 1, 0, 0])), (.inLoop (cd cfz.P 20 [1, 0, 1, 0, 0])), (.inBlock 0), (.code (cd cfz.P 20 [1, 1]))], [], false, .none⟩, [], []⟩
def B20 : S20 → Tr S20 (Int)
 | .c0 x0 x1 => (.nxt (.c1 x0 x1 0))
 | .c1 x0 x1 x2 => (.br (decide (x2 < (↑x0 : Int)))
 (.ask (.le 0 x2) (.ask (.lt x2 ((↑x0 : Int))) (.ask (.leN (x2.toNat * 1) x1.length) (.ask (.prop (Option.map AV.d (List.drop (x2.toNat * 1) x1)[0]? = some (AV.d (DV.v (Value.int IntKind.i64 (dI (cel x1 (x2.toNat * 1)))))))) (.br (dI (cel x1 (x2.toNat * 1)) != 0)
 (.ask (.le 0 x2) (.ask (.lt x2 ((↑x0 : Int))) (.ask (.leN (x2.toNat * 1) x1.length) (.ask (.prop (Option.map AV.d (List.drop (x2.toNat * 1) x1)[0]? = some (AV.d (DV.v (Value.int IntKind.i64 (dI (cel x1 (x2.toNat * 1)))))))) (.ret (dI (cel x1 (x2.toNat * 1))))))))
 (.ask (.in64 (x2 + 1)) (.nxt (.c1 x0 x1 (x2 + 1)))))))))
 (.ret 0))
def F20 (x0 : Nat) (x1 : List DV) : Option (Int) := res B20 (.c0 x0 x1)
theorem ok20 : ∀ s, ∃ d, xrun cfz 20 d [] (st20 s) = (B20 s).mach st20 out20 := fun s => match s with
 | .c0 x0 x1 => ⟨(.go 11 [] [] (.cut 0 [[0, 3]] [])), by kernel_rfl⟩
 | .c1 x0 x1 x2 => ⟨(.go 8 [] [] (.split 7 (.go 12 [(.br true), (.as (aI (dI (cel x1 (x2.toNat * 1)))))] [0] (.split 14 (.go 10 [(.br true), (.as (aI (dI (cel x1 (x2.toNat * 1)))))] [0] .fin) (.go 9 [(.br false)] [0] (.cut 0 [[0, 3]] [])))) (.go 7 [(.br false)] [0] .fin))), by kernel_rfl⟩
theorem f20 (x0 : Nat) (x1 : List DV) (v : Int) (h : F20 x0 x1 = some v) : PQ 20 [(.d (.sl x0 x1))] (out20 v) := tree_pure knil ok20 (s := .c0 x0 x1) rfl (by kernel_rfl) v h
inductive S158 where
 | c0 (x0 : Nat) (x1 : List DV) (x2 : Int)
 | c1 (x0 : Nat) (x1 : List DV) (x2 x3 x4 : Int)
def out158 (v : Int) : AV := (.d (.v (.int .i64 v)))
def st158 : S158 → ASt
 | .c0 x0 x1 x2 => ent cfz 158 [(.d (.sl x0 x1)), (aI x2)]
 | .c1 x0 x1 x2 x3 x4 => ⟨⟨158, sp 19 0 [(0, (.d (.sl x0 x1))), (1, (aI x2)), (7, (aI x3)), (8, (aI x4))], [(.code (cd cfz.P 158 [1, 0, 1, 0, 0])), (.inLoop (cd cfz.P 158 [1, 0, 1, 0, 0])), (.inBlock 0), (.code (cd cfz.P 158 [1, 1]))], [], false, .none⟩, [], []⟩
def B158 : S158 → Tr S158 (Int)
 | .c0 x0 x1 x2 => (.nxt (.c1 x0 x1 x2 ((↑x0 : Int)) 0))
 | .c1 x0 x1 x2 x3 x4 => (.br (decide (x4 < x3))
 (.ask (.le 0 x4) (.ask (.lt x4 ((↑x0 : Int))) (.ask (.leN (x4.toNat * 1) x1.length) (.ask (.prop (Option.map AV.d (List.drop (x4.toNat * 1) x1)[0]? = some (AV.d (DV.v (Value.int IntKind.i64 (dI (cel x1 (x4.toNat * 1)))))))) (.br (x2 == dI (cel x1 (x4.toNat * 1)))
 (.ret x4)
 (.ask (.in64 (x4 + 1)) (.nxt (.c1 x0 x1 x2 x3 (x4 + 1)))))))))
 (.ret (-1)))
def F158 (x0 : Nat) (x1 : List DV) (x2 : Int) : Option (Int) := res B158 (.c0 x0 x1 x2)
theorem ok158 : ∀ s, ∃ d, xrun cfz 158 d [] (st158 s) = (B158 s).mach st158 out158 := fun s => match s with
 | .c0 x0 x1 x2 => ⟨(.go 13 [] [] (.cut 0 [[0, 1, 7, 8]] [])), by kernel_rfl⟩
 | .c1 x0 x1 x2 x3 x4 => ⟨(.go 5 [] [] (.split 9 (.go 18 [(.br true), (.as (aI (dI (cel x1 (x4.toNat * 1)))))] [0] (.split 16 (.go 7 [(.br true)] [0] .fin) (.go 8 [(.br false)] [0] (.cut 0 [[0, 1, 7, 8]] [])))) (.go 7 [(.br false)] [0] .fin))), by kernel_rfl⟩
theorem f158 (x0 : Nat) (x1 : List DV) (x2 v : Int) (h : F158 x0 x1 x2 = some v) : PQ 158 [(.d (.sl x0 x1)), (aI x2)] (out158 v) := tree_pure knil ok158 (s := .c0 x0 x1 x2) rfl (by kernel_rfl) v h
inductive S157 where
 | c0 (x0 : Nat) (x1 : List DV) (x2 : Int)
def out157 (v : Bool) : AV := (.d (.v (.bool v)))
def st157 : S157 → ASt
 | .c0 x0 x1 x2 => ent cfz 157 [(.d (.sl x0 x1)), (aI x2)]
def B157 : S157 → Tr S157 (Bool)
 | .c0 x0 x1 x2 => (.bind (F158 x0 x1 x2) fun x3 =>
 (.sees [(.d (.sl x0 x1)), (aI x2)] (.ret (decide (x3 ≥ 0)))))
def F157 (x0 : Nat) (x1 : List DV) (x2 : Int) : Option (Bool) := res B157 (.c0 x0 x1 x2)
theorem ok157 : ∀ s, ∃ d, xrun cfz 157 d [] (st157 s) = (B157 s).mach st157 out157 := fun s => match s with
 | .c0 x0 x1 x2 => ⟨(.go 8 [] [] (.bind (f158 x0 x1 x2) fun x3 => (.go 5 [(.ck 0)] [] .fin))), by kernel_rfl⟩
theorem f157 (x0 : Nat) (x1 : List DV) (x2 : Int) (v : Bool) (h : F157 x0 x1 x2 = some v) : PQ 157 [(.d (.sl x0 x1)), (aI x2)] (out157 v) := tree_pure knil ok157 (s := .c0 x0 x1 x2) rfl (by kernel_rfl) v h
inductive S78 where
 | c0 (x0 x1 : Int)
def out78 (v : Int) : AV := (.d (.v (.int .i64 v)))
def st78 : S78 → ASt
 | .c0 x0 x1 => ent cfz 78 [(aI x0), (aI x1)]
def B78 : S78 → Tr S78 (Int)
 | .c0 x0 x1 => (.triv _ (tv_s (decide (x1 < 0) == false)) (.triv _ (tv_s (decide (x1 < 0) == false)) (.triv _ (tv_f (decide (x1 < 0))) (.bind (F37 (if decide (x1 < 0) = true then true else decide (x1 ≥ x0)) 10) fun x2 =>
 (.sees [(.d (.v (.bool (if decide (x1 < 0) = true then true else decide (x1 ≥ x0))))), (aI 10)] (.ret x2))))))
def F78 (x0 x1 : Int) : Option (Int) := res B78 (.c0 x0 x1)
theorem ok78 : ∀ s, ∃ d, xrun cfz 78 d [] (st78 s) = (B78 s).mach st78 out78 := fun s => match s with
 | .c0 x0 x1 => ⟨(.go 13 [(.sp .none), (.sp .none), (.sp .none), .mg] [] (.bind (f37 (if decide (x1 < 0) = true then true else decide (x1 ≥ x0)) 10) fun x2 => (.go 4 [(.ck 0)] [] .fin))), by kernel_rfl⟩
theorem f78 (x0 x1 v : Int) (h : F78 x0 x1 = some v) : PQ 78 [(aI x0), (aI x1)] (out78 v) := tree_pure knil ok78 (s := .c0 x0 x1) rfl (by kernel_rfl) v h
inductive S66 where
 | c0 (x0 : Nat) (x1 : List DV) (x2 : Int)
 | c1 (x0 : Nat) (x1 : List DV) (x2 x3 : Int)
def out66 (v : Bool) : AV := (.d (.v (.bool v)))
def st66 : S66 → ASt
 | .c0 x0 x1 x2 => ent cfz 66 [(.d (.sl x0 x1)), (aI x2)]
 | .c1 x0 x1 x2 x3 => ⟨⟨66, sp 18 0 [(0, (.d (.sl x0 x1))), (1, (aI x2)), (5, (aI x3))], [(.code (cd cfz.P 66 [1, 0, 1, 0, 0])), (.inLoop (cd cfz.P 66 [1, 0, 1, 0, 0])), (.inBlock 0), (.code (cd cfz.P 66 [1, 1]))], [], false, .none⟩, [], []⟩
def B66 : S66 → Tr S66 (Bool)
 | .c0 x0 x1 x2 => (.nxt (.c1 x0 x1 x2 0))
 | .c1 x0 x1 x2 x3 => (.br (decide (x3 < (↑x0 : Int)))
 (.ask (.le 0 x3) (.ask (.lt x3 ((↑x0 : Int))) (.ask (.leN (x3.toNat * 1) x1.length) (.ask (.prop (Option.map AV.d (List.drop (x3.toNat * 1) x1)[0]? = some (AV.d (DV.v (Value.int IntKind.i64 (dI (cel x1 (x3.toNat * 1)))))))) (.br (dI (cel x1 (x3.toNat * 1)) == x2)
 (.ret true)
 (.ask (.in64 (x3 + 1)) (.nxt (.c1 x0 x1 x2 (x3 + 1)))))))))
 (.ret false))
def F66 (x0 : Nat) (x1 : List DV) (x2 : Int) : Option (Bool) := res B66 (.c0 x0 x1 x2)
theorem ok66 : ∀ s, ∃ d, xrun cfz 66 d [] (st66 s) = (B66 s).mach st66 out66 := fun s => match s with
 | .c0 x0 x1 x2 => ⟨(.go 11 [] [] (.cut 0 [[0, 1, 5]] [])), by kernel_rfl⟩
 | .c1 x0 x1 x2 x3 => ⟨(.go 8 [] [] (.split 9 (.go 13 [(.br true), (.as (aI (dI (cel x1 (x3.toNat * 1)))))] [0] (.split 17 (.go 6 [(.br true)] [0] .fin) (.go 9 [(.br false)] [0] (.cut 0 [[0, 1, 5]] [])))) (.go 7 [(.br false)] [0] .fin))), by kernel_rfl⟩
theorem f66 (x0 : Nat) (x1 : List DV) (x2 : Int) (v : Bool) (h : F66 x0 x1 x2 = some v) : PQ 66 [(.d (.sl x0 x1)), (aI x2)] (out66 v) := tree_pure knil ok66 (s := .c0 x0 x1 x2) rfl (by kernel_rfl) v h
inductive S16 where
 | c0 (x0 : Int) (x1 : Nat) (x2 : List DV) (x3 : Nat) (x4 : List DV) (x5 : Nat) (x6 : List DV)
 | c1 (x0 x1 : Int) (x2 : Nat) (x3 : List DV) (x4 : Nat) (x5 : List DV) (x6 : Nat) (x7 : List DV)
 | c2 (x0 x1 : Int) (x2 : Nat) (x3 : List DV) (x4 : Nat) (x5 : List DV) (x6 : Nat) (x7 : List DV)
def out16 (v : Bool) : AV := (.d (.v (.bool v)))
def st16 : S16 → ASt
 | .c0 x0 x1 x2 x3 x4 x5 x6 => ent cfz 16 [(.agg [(aI x0), (.d (.sl x1 x2)), (.d (.sl x3 x4)), (.d (.sl x5 x6))])]
 | .c1 x0 x1 x2 x3 x4 x5 x6 x7 => ⟨⟨16, sp 71 0 [(1, (.ptr 0 0)), (3, (aI x0))], [(.code (cd cfz.P 16 [1, 1, 0, 1, 0, 0])), (.inLoop (cd cfz.P 16 [1, 1, 0, 1, 0, 0])), (.inBlock 0), (.code (cd cfz.P 16 [1, 1, 1]))], [], false, .none⟩, [], [(.cells [(aI x1), (.d (.sl x2 x3)), (.d (.sl x4 x5)), (.d (.sl x6 x7))] 26)]⟩
 | .c2 x0 x1 x2 x3 x4 x5 x6 x7 => ⟨⟨16, sp 71 0 [(1, (.ptr 0 0)), (4, (aI x0))], [(.code (cd cfz.P 16 [1, 1, 1, 0, 1, 0, 0])), (.inLoop (cd cfz.P 16 [1, 1, 1, 0, 1, 0, 0])), (.inBlock 2), (.code (cd cfz.P 16 [1, 1, 1, 1]))], [], false, .none⟩, [], [(.cells [(aI x1), (.d (.sl x2 x3)), (.d (.sl x4 x5)), (.d (.sl x6 x7))] 26)]⟩
def B16 : S16 → Tr S16 (Bool)
 | .c0 x0 x1 x2 x3 x4 x5 x6 => (.br (decide ((↑x1 : Int) > 9))
 (.ret false)
 (.br (decide ((↑x3 : Int) > 17))
 (.ret false)
 (.br (decide ((↑x5 : Int) > 17))
 (.ret false)
 (.nxt (.c1 0 x0 x1 x2 x3 x4 x5 x6)))))
 | .c1 x0 x1 x2 x3 x4 x5 x6 x7 => (.br (decide (x0 < (↑x4 : Int)))
 (.ask (.le 0 x0) (.ask (.lt x0 ((↑x4 : Int))) (.ask (.leN (x0.toNat * 4) x5.length) (.ask (.leN 0 ((List.drop (x0.toNat * 4) x5).length)) (.ask (.prop (Option.map AV.d (List.drop 0 (List.drop (x0.toNat * 4) x5))[0]? = some (AV.d (DV.v (Value.string (dS (cel (List.drop (x0.toNat * 4) x5) 0))))))) (.br (decide ((↑(dS (cel (List.drop (x0.toNat * 4) x5) 0)).size : Int) > 40))
 (.ret false)
 (.ask (.le 0 x0) (.ask (.lt x0 ((↑x4 : Int))) (.ask (.leN (x0.toNat * 4) x5.length) (.ask (.leN 3 ((List.drop (x0.toNat * 4) x5).length)) (.ask (.prop (Option.map AV.d (List.drop 3 (List.drop (x0.toNat * 4) x5))[0]? = some (AV.d (DV.sl (dN (cel (List.drop (x0.toNat * 4) x5) 3)) (dL (cel (List.drop (x0.toNat * 4) x5) 3)))))) (.br (decide ((↑(dN (cel (List.drop (x0.toNat * 4) x5) 3)) : Int) > 9))
 (.ret false)
 (.ask (.in64 (x0 + 1)) (.nxt (.c1 (x0 + 1) x1 x2 x3 x4 x5 x6 x7)))))))))))))))
 (.nxt (.c2 0 x1 x2 x3 x4 x5 x6 x7)))
 | .c2 x0 x1 x2 x3 x4 x5 x6 x7 => (.br (decide (x0 < (↑x6 : Int)))
 (.ask (.le 0 x0) (.ask (.lt x0 ((↑x6 : Int))) (.ask (.leN (x0.toNat * 3) x7.length) (.ask (.leN 1 ((List.drop (x0.toNat * 3) x7).length)) (.ask (.prop (Option.map AV.d (List.drop 1 (List.drop (x0.toNat * 3) x7))[0]? = some (AV.d (DV.v (Value.string (dS (cel (List.drop (x0.toNat * 3) x7) 1))))))) (.br (decide ((↑(dS (cel (List.drop (x0.toNat * 3) x7) 1)).size : Int) > 40))
 (.ret false)
 (.ask (.le 0 x0) (.ask (.lt x0 ((↑x6 : Int))) (.ask (.leN (x0.toNat * 3) x7.length) (.ask (.leN 2 ((List.drop (x0.toNat * 3) x7).length)) (.ask (.prop (Option.map AV.d (List.drop 2 (List.drop (x0.toNat * 3) x7))[0]? = some (AV.d (DV.sl (dN (cel (List.drop (x0.toNat * 3) x7) 2)) (dL (cel (List.drop (x0.toNat * 3) x7) 2)))))) (.br (decide ((↑(dN (cel (List.drop (x0.toNat * 3) x7) 2)) : Int) > 9))
 (.ret false)
 (.ask (.in64 (x0 + 1)) (.nxt (.c2 (x0 + 1) x1 x2 x3 x4 x5 x6 x7)))))))))))))))
 (.ret true))
def F16 (x0 : Int) (x1 : Nat) (x2 : List DV) (x3 : Nat) (x4 : List DV) (x5 : Nat) (x6 : List DV) : Option (Bool) := res B16 (.c0 x0 x1 x2 x3 x4 x5 x6)
theorem ok16 : ∀ s, ∃ d, xrun cfz 16 d [] (st16 s) = (B16 s).mach st16 out16 := fun s => match s with
 | .c0 x0 x1 x2 x3 x4 x5 x6 => ⟨(.go 13 [] [] (.split 9 (.go 18 [(.br true), (.br true), (.br true), (.br true), .none, (.br true), (.br true), (.br true), (.br true), .none, (.br true)] [0, 1, 2, 3, 4, 5, 6, 7, 8] .fin) (.go 6 [(.br false), (.br false), .none, (.br false), (.br false)] [0, 1, 2, 3] (.split 15 (.go 12 [(.br true), (.br true), (.br true), (.br true), .none, (.br true)] [0, 1, 2, 3, 4] .fin) (.go 6 [(.br false), (.br false), .none, (.br false), (.br false)] [0, 1, 2, 3] (.split 20 (.go 6 [(.br true)] [0] .fin) (.go 9 [(.br false)] [0] (.cut 1 [[1, 3]] [])))))))), by kernel_rfl⟩
 | .c1 x0 x1 x2 x3 x4 x5 x6 x7 => ⟨(.go 9 [] [] (.split 25 (.go 15 [(.br true), .none, (.as (.d (.v (.string (dS (cel (List.drop (x0.toNat * 4) x5) 0))))))] [0] (.split 36 (.go 16 [(.br true), (.br true), (.br true), (.br true), (.br true), (.br true), (.br true), (.br true), .none, (.br true)] [0, 1, 2, 3, 4, 5, 6, 7, 8] .fin) (.go 10 [(.br false), (.br false), .none, (.br false), (.br false), (.br false), (.br false), (.as (.d (.sl (dN (cel (List.drop (x0.toNat * 4) x5) 3)) (dL (cel (List.drop (x0.toNat * 4) x5) 3))))), (.br false), (.br false)] [0, 1, 2, 6, 8, 10, 11, 12] (.split 45 (.go 6 [(.br true)] [0] .fin) (.go 9 [(.br false)] [0] (.cut 1 [[1, 3]] [])))))) (.go 9 [(.br false)] [0] (.cut 1 [[1, 4]] [])))), by kernel_rfl⟩
 | .c2 x0 x1 x2 x3 x4 x5 x6 x7 => ⟨(.go 9 [] [] (.split 50 (.go 15 [(.br true), .none, (.as (.d (.v (.string (dS (cel (List.drop (x0.toNat * 3) x7) 1))))))] [0] (.split 61 (.go 16 [(.br true), (.br true), (.br true), (.br true), (.br true), (.br true), (.br true), (.br true), .none, (.br true)] [0, 1, 2, 3, 4, 5, 6, 7, 8] .fin) (.go 10 [(.br false), (.br false), .none, (.br false), (.br false), (.br false), (.br false), (.as (.d (.sl (dN (cel (List.drop (x0.toNat * 3) x7) 2)) (dL (cel (List.drop (x0.toNat * 3) x7) 2))))), (.br false), (.br false)] [0, 1, 2, 6, 8, 10, 11, 12] (.split 70 (.go 6 [(.br true)] [0] .fin) (.go 9 [(.br false)] [0] (.cut 1 [[1, 4]] [])))))) (.go 7 [(.br false)] [0] .fin))), by kernel_rfl⟩
theorem f16 (x0 : Int) (x1 : Nat) (x2 : List DV) (x3 : Nat) (x4 : List DV) (x5 : Nat) (x6 : List DV) (v : Bool) (h : F16 x0 x1 x2 x3 x4 x5 x6 = some v) : PQ 16 [(.agg [(aI x0), (.d (.sl x1 x2)), (.d (.sl x3 x4)), (.d (.sl x5 x6))])] (out16 v) := tree_pure knil ok16 (s := .c0 x0 x1 x2 x3 x4 x5 x6) rfl (by kernel_rfl) v h
inductive S18 where
 | c0 (x0 : Int) (x1 : Nat) (x2 : List DV) (x3 : Nat) (x4 : List DV) (x5 : Nat) (x6 : List DV)
 | c1 (x0 : Nat) (x1 : List DV) (x2 x3 x4 : Int) (x5 : Nat) (x6 : List DV) (x7 : Nat) (x8 : List DV)
 | c2 (x0 : Nat) (x1 : List DV) (x2 x3 x4 : Int) (x5 : Nat) (x6 : List DV) (x7 : Nat) (x8 : List DV)
 | c3 (x0 : Nat) (x1 : List DV) (x2 x3 x4 : Int) (x5 : Nat) (x6 : List DV) (x7 : Nat) (x8 : List DV) (x9 xa : Nat) (xb : List DV) (xc : Nat)
 | c4 (x0 : Nat) (x1 : List DV) (x2 x3 x4 : Int)
 | c5 (x0 : Nat) (x1 : List DV) (x2 x3 x4 : Int) (x5 : Nat) (x6 : List DV) (x7 : Nat) (x8 : List DV) (x9 xa : Nat) (xb : List DV) (xc : Nat)
 | c6 (x0 : Nat) (x1 : List DV) (x2 x3 x4 : Int) (x5 : Nat) (x6 : List DV)
 | c7 (x0 : Nat) (x1 : List DV) (x2 x3 x4 : Int) (x5 x6 : Nat) (x7 : List DV) (x8 : Nat)
 | c8 (x0 : Nat) (x1 : List DV) (x2 x3 x4 : Int) (x5 x6 : Nat) (x7 : List DV) (x8 : Nat)
 | c9 (x0 : Nat) (x1 : List DV) (x2 x3 x4 : Int) (x5 : Nat) (x6 : List DV) (x7 x8 : Nat) (x9 : List DV) (xa : Nat)
 | c10 (x0 : Nat) (x1 : List DV) (x2 x3 x4 : Int) (x5 : Nat) (x6 : List DV) (x7 x8 : Nat) (x9 : List DV) (xa : Nat)
 | c11 (x0 : Nat) (x1 : List DV) (x2 x3 x4 : Int) (x5 x6 : Nat) (x7 : List DV) (x8 x9 : Nat) (xa : List DV) (xb xc : Nat)
 | c12 (x0 : Nat) (x1 : List DV) (x2 x3 x4 : Int) (x5 : Nat) (x6 : List DV) (x7 x8 : Nat) (x9 : List DV) (xa xb : Nat) (xc : List DV) (xd xe : Nat)
def out18 (v : Int × Nat × List DV × Nat × List DV × Nat × List DV) : AV := (.agg [(.d (.v (.int .i64 v.fst))), (.d (.sl v.snd.fst v.snd.snd.fst)), (.d (.sl v.snd.snd.snd.fst v.snd.snd.snd.snd.fst)), (.d (.sl v.snd.snd.snd.snd.snd.fst v.snd.snd.snd.snd.snd.snd))])
def st18 : S18 → ASt
 | .c0 x0 x1 x2 x3 x4 x5 x6 => ent cfz 18 [(.agg [(aI x0), (.d (.sl x1 x2)), (.d (.sl x3 x4)), (.d (.sl x5 x6))])]
 | .c1 x0 x1 x2 x3 x4 x5 x6 x7 x8 => ⟨⟨18, sp 62 0 [(1, (.ptr 0 0)), (2, (.ptr 1 0)), (3, (.ptr 2 0)), (16, (.d (.sl x0 x1))), (17, (aI x2)), (18, (aI x3))], [(.code (cd cfz.P 18 [1, 1, 0, 1, 0, 0])), (.inLoop (cd cfz.P 18 [1, 1, 0, 1, 0, 0])), (.inBlock 0), (.code (cd cfz.P 18 [1, 1, 1]))], [], false, .none⟩, [], [(.cells [(aI x4), (.d (.sl x5 x6)), (.d (.sl x0 x1)), (.d (.sl x7 x8))] 26), (.cells [(aI 0), (.d (.v (.slice .none 0 0))), (.d (.v (.slice .none 0 0))), (.d (.v (.slice .none 0 0)))] 37), (.cells [(aI x4), .em, (.d (.v (.slice .none 0 0))), (.d (.v (.slice .none 0 0)))] 37)]⟩
 | .c2 x0 x1 x2 x3 x4 x5 x6 x7 x8 => ⟨⟨18, sp 62 0 [(1, (.ptr 0 0)), (2, (.ptr 1 0)), (3, (.ptr 3 0)), (16, (.d (.sl x0 x1))), (17, (aI x2)), (18, (aI x3))], [(.code (cd cfz.P 18 [1, 1, 0, 1, 0, 0])), (.inLoop (cd cfz.P 18 [1, 1, 0, 1, 0, 0])), (.inBlock 0), (.code (cd cfz.P 18 [1, 1, 1]))], [], false, .none⟩, [], [(.cells [(aI x4), (.d (.sl x5 x6)), (.d (.sl x0 x1)), (.d (.sl x7 x8))] 26), (.cells [(aI 0), (.d (.v (.slice .none 0 0))), (.d (.v (.slice .none 0 0))), (.d (.v (.slice .none 0 0)))] 37), (.tail 0), (.cells [(aI x4), (.own 2 0 2 x5 x6), (.d (.v (.slice .none 0 0))), (.d (.v (.slice .none 0 0)))] 37)]⟩
 | .c3 x0 x1 x2 x3 x4 x5 x6 x7 x8 x9 xa xb xc => ⟨⟨18, sp 62 0 [(1, (.ptr 0 0)), (2, (.ptr 1 0)), (3, (.ptr 2 0)), (16, (.d (.sl x0 x1))), (17, (aI x2)), (18, (aI x3))], [(.code (cd cfz.P 18 [1, 1, 0, 1, 0, 0])), (.inLoop (cd cfz.P 18 [1, 1, 0, 1, 0, 0])), (.inBlock 0), (.code (cd cfz.P 18 [1, 1, 1]))], [], false, .none⟩, [], [(.cells [(aI x4), (.d (.sl x5 x6)), (.d (.sl x0 x1)), (.d (.sl x7 x8))] 26), (.cells [(aI 0), (.d (.v (.slice .none 0 0))), (.d (.v (.slice .none 0 0))), (.d (.v (.slice .none 0 0)))] 37), (.cells [(aI x4), .em, (.own 3 x9 4 xa xb), (.d (.v (.slice .none 0 0)))] 37), (.tail xc)]⟩
 | .c4 x0 x1 x2 x3 x4 => ⟨⟨18, sp 62 0 [(2, (.ptr 0 0)), (3, (.ptr 1 0)), (40, (.d (.sl x0 x1))), (41, (aI x2)), (42, (aI x3))], [(.code (cd cfz.P 18 [1, 1, 1, 0, 1, 0, 0])), (.inLoop (cd cfz.P 18 [1, 1, 1, 0, 1, 0, 0])), (.inBlock 2), (.code (cd cfz.P 18 [1, 1, 1, 1]))], [], false, .none⟩, [], [(.cells [(aI 0), (.d (.v (.slice .none 0 0))), (.d (.v (.slice .none 0 0))), (.d (.v (.slice .none 0 0)))] 37), (.cells [(aI x4), .em, (.d (.v (.slice .none 0 0))), (.d (.v (.slice .none 0 0)))] 37)]⟩
 | .c5 x0 x1 x2 x3 x4 x5 x6 x7 x8 x9 xa xb xc => ⟨⟨18, sp 62 0 [(1, (.ptr 0 0)), (2, (.ptr 1 0)), (3, (.ptr 3 0)), (16, (.d (.sl x0 x1))), (17, (aI x2)), (18, (aI x3))], [(.code (cd cfz.P 18 [1, 1, 0, 1, 0, 0])), (.inLoop (cd cfz.P 18 [1, 1, 0, 1, 0, 0])), (.inBlock 0), (.code (cd cfz.P 18 [1, 1, 1]))], [], false, .none⟩, [], [(.cells [(aI x4), (.d (.sl x5 x6)), (.d (.sl x0 x1)), (.d (.sl x7 x8))] 26), (.cells [(aI 0), (.d (.v (.slice .none 0 0))), (.d (.v (.slice .none 0 0))), (.d (.v (.slice .none 0 0)))] 37), (.tail 0), (.cells [(aI x4), (.own 2 0 2 x5 x6), (.own 4 x9 4 xa xb), (.d (.v (.slice .none 0 0)))] 37), (.tail xc)]⟩
 | .c6 x0 x1 x2 x3 x4 x5 x6 => ⟨⟨18, sp 62 0 [(2, (.ptr 0 0)), (3, (.ptr 2 0)), (40, (.d (.sl x0 x1))), (41, (aI x2)), (42, (aI x3))], [(.code (cd cfz.P 18 [1, 1, 1, 0, 1, 0, 0])), (.inLoop (cd cfz.P 18 [1, 1, 1, 0, 1, 0, 0])), (.inBlock 2), (.code (cd cfz.P 18 [1, 1, 1, 1]))], [], false, .none⟩, [], [(.cells [(aI 0), (.d (.v (.slice .none 0 0))), (.d (.v (.slice .none 0 0))), (.d (.v (.slice .none 0 0)))] 37), (.tail 0), (.cells [(aI x4), (.own 1 0 2 x5 x6), (.d (.v (.slice .none 0 0))), (.d (.v (.slice .none 0 0)))] 37)]⟩
 | .c7 x0 x1 x2 x3 x4 x5 x6 x7 x8 => ⟨⟨18, sp 62 0 [(2, (.ptr 0 0)), (3, (.ptr 1 0)), (40, (.d (.sl x0 x1))), (41, (aI x2)), (42, (aI x3))], [(.code (cd cfz.P 18 [1, 1, 1, 0, 1, 0, 0])), (.inLoop (cd cfz.P 18 [1, 1, 1, 0, 1, 0, 0])), (.inBlock 2), (.code (cd cfz.P 18 [1, 1, 1, 1]))], [], false, .none⟩, [], [(.cells [(aI 0), (.d (.v (.slice .none 0 0))), (.d (.v (.slice .none 0 0))), (.d (.v (.slice .none 0 0)))] 37), (.cells [(aI x4), .em, (.own 2 x5 4 x6 x7), (.d (.v (.slice .none 0 0)))] 37), (.tail x8)]⟩
 | .c8 x0 x1 x2 x3 x4 x5 x6 x7 x8 => ⟨⟨18, sp 62 0 [(2, (.ptr 0 0)), (3, (.ptr 1 0)), (40, (.d (.sl x0 x1))), (41, (aI x2)), (42, (aI x3))], [(.code (cd cfz.P 18 [1, 1, 1, 0, 1, 0, 0])), (.inLoop (cd cfz.P 18 [1, 1, 1, 0, 1, 0, 0])), (.inBlock 2), (.code (cd cfz.P 18 [1, 1, 1, 1]))], [], false, .none⟩, [], [(.cells [(aI 0), (.d (.v (.slice .none 0 0))), (.d (.v (.slice .none 0 0))), (.d (.v (.slice .none 0 0)))] 37), (.cells [(aI x4), .em, (.d (.v (.slice .none 0 0))), (.own 2 x5 3 x6 x7)] 37), (.tail x8)]⟩
 | .c9 x0 x1 x2 x3 x4 x5 x6 x7 x8 x9 xa => ⟨⟨18, sp 62 0 [(2, (.ptr 0 0)), (3, (.ptr 2 0)), (40, (.d (.sl x0 x1))), (41, (aI x2)), (42, (aI x3))], [(.code (cd cfz.P 18 [1, 1, 1, 0, 1, 0, 0])), (.inLoop (cd cfz.P 18 [1, 1, 1, 0, 1, 0, 0])), (.inBlock 2), (.code (cd cfz.P 18 [1, 1, 1, 1]))], [], false, .none⟩, [], [(.cells [(aI 0), (.d (.v (.slice .none 0 0))), (.d (.v (.slice .none 0 0))), (.d (.v (.slice .none 0 0)))] 37), (.tail 0), (.cells [(aI x4), (.own 1 0 2 x5 x6), (.own 3 x7 4 x8 x9), (.d (.v (.slice .none 0 0)))] 37), (.tail xa)]⟩
 | .c10 x0 x1 x2 x3 x4 x5 x6 x7 x8 x9 xa => ⟨⟨18, sp 62 0 [(2, (.ptr 0 0)), (3, (.ptr 2 0)), (40, (.d (.sl x0 x1))), (41, (aI x2)), (42, (aI x3))], [(.code (cd cfz.P 18 [1, 1, 1, 0, 1, 0, 0])), (.inLoop (cd cfz.P 18 [1, 1, 1, 0, 1, 0, 0])), (.inBlock 2), (.code (cd cfz.P 18 [1, 1, 1, 1]))], [], false, .none⟩, [], [(.cells [(aI 0), (.d (.v (.slice .none 0 0))), (.d (.v (.slice .none 0 0))), (.d (.v (.slice .none 0 0)))] 37), (.tail 0), (.cells [(aI x4), (.own 1 0 2 x5 x6), (.d (.v (.slice .none 0 0))), (.own 3 x7 3 x8 x9)] 37), (.tail xa)]⟩
 | .c11 x0 x1 x2 x3 x4 x5 x6 x7 x8 x9 xa xb xc => ⟨⟨18, sp 62 0 [(2, (.ptr 0 0)), (3, (.ptr 1 0)), (40, (.d (.sl x0 x1))), (41, (aI x2)), (42, (aI x3))], [(.code (cd cfz.P 18 [1, 1, 1, 0, 1, 0, 0])), (.inLoop (cd cfz.P 18 [1, 1, 1, 0, 1, 0, 0])), (.inBlock 2), (.code (cd cfz.P 18 [1, 1, 1, 1]))], [], false, .none⟩, [], [(.cells [(aI 0), (.d (.v (.slice .none 0 0))), (.d (.v (.slice .none 0 0))), (.d (.v (.slice .none 0 0)))] 37), (.cells [(aI x4), .em, (.own 2 x5 4 x6 x7), (.own 3 x8 3 x9 xa)] 37), (.tail xb), (.tail xc)]⟩
 | .c12 x0 x1 x2 x3 x4 x5 x6 x7 x8 x9 xa xb xc xd xe => ⟨⟨18, sp 62 0 [(2, (.ptr 0 0)), (3, (.ptr 2 0)), (40, (.d (.sl x0 x1))), (41, (aI x2)), (42, (aI x3))], [(.code (cd cfz.P 18 [1, 1, 1, 0, 1, 0, 0])), (.inLoop (cd cfz.P 18 [1, 1, 1, 0, 1, 0, 0])), (.inBlock 2), (.code (cd cfz.P 18 [1, 1, 1, 1]))], [], false, .none⟩, [], [(.cells [(aI 0), (.d (.v (.slice .none 0 0))), (.d (.v (.slice .none 0 0))), (.d (.v (.slice .none 0 0)))] 37), (.tail 0), (.cells [(aI x4), (.own 1 0 2 x5 x6), (.own 3 x7 4 x8 x9), (.own 4 xa 3 xb xc)] 37), (.tail xd), (.tail xe)]⟩
def B18 : S18 → Tr S18 (Int × Nat × List DV × Nat × List DV × Nat × List DV)
 | .c0 x0 x1 x2 x3 x4 x5 x6 => (.br (x1.beq 0)
 (.ask (.eqN x1 0) (.nxt (.c1 x3 x4 ((↑x3 : Int)) 0 x0 x1 x2 x5 x6)))
 (.ask (.ltN 0 x1) (.ask (.eqN x2.length (x1 * 2)) (.ask (.fits x1 16) (.nxt (.c2 x3 x4 ((↑x3 : Int)) 0 x0 x1 x2 x5 x6))))))
 | .c1 x0 x1 x2 x3 x4 x5 x6 x7 x8 => (.br (decide (x3 < x2))
 (.ask (.le 0 x3) (.ask (.lt x3 ((↑x0 : Int))) (.ask (.leN (x3.toNat * 4) x1.length) (.ask (.leN 4 ((List.drop (x3.toNat * 4) x1).length)) (.ask (.prop (List.map AV.d (List.take 4 (List.drop (x3.toNat * 4) x1)) = [AV.d (DV.v (Value.string (dS (cel x1 (x3.toNat * 4))))), AV.d (DV.v (Value.int IntKind.i64 (dI (cel x1 (x3.toNat * 4 + 1))))), AV.d (DV.v (Value.int IntKind.i64 (dI (cel x1 (x3.toNat * 4 + 2))))), AV.d (DV.sl (dN (cel x1 (x3.toNat * 4 + 3))) (dL (cel x1 (x3.toNat * 4 + 3))))])) (.br ((dN (cel x1 (x3.toNat * 4 + 3))).beq 0)
 (.ask (.eqN (dN (cel x1 (x3.toNat * 4 + 3))) 0) (.ask (.in64 (x3 + 1)) (.nxt (.c3 x0 x1 x2 (x3 + 1) x4 x5 x6 x7 x8 0 1 [(.v (.string (dS (cel x1 (x3.toNat * 4))))), (.v (.int .i64 (dI (cel x1 (x3.toNat * 4 + 1))))), (.v (.int .i64 (dI (cel x1 (x3.toNat * 4 + 2))))), (.sl 0 [])] 0))))
 (.ask (.ltN 0 (dN (cel x1 (x3.toNat * 4 + 3)))) (.ask (.eqN ((dL (cel x1 (x3.toNat * 4 + 3))).length) (dN (cel x1 (x3.toNat * 4 + 3)) * 2)) (.ask (.fits (dN (cel x1 (x3.toNat * 4 + 3))) 16) (.ask (.in64 (x3 + 1)) (.nxt (.c3 x0 x1 x2 (x3 + 1) x4 x5 x6 x7 x8 0 1 [(.v (.string (dS (cel x1 (x3.toNat * 4))))), (.v (.int .i64 (dI (cel x1 (x3.toNat * 4 + 1))))), (.v (.int .i64 (dI (cel x1 (x3.toNat * 4 + 2))))), (.sl (dN (cel x1 (x3.toNat * 4 + 3))) (dL (cel x1 (x3.toNat * 4 + 3))))] 0))))))))))))
 (.nxt (.c4 x7 x8 ((↑x7 : Int)) 0 x4)))
 | .c2 x0 x1 x2 x3 x4 x5 x6 x7 x8 => (.br (decide (x3 < x2))
 (.ask (.le 0 x3) (.ask (.lt x3 ((↑x0 : Int))) (.ask (.leN (x3.toNat * 4) x1.length) (.ask (.leN 4 ((List.drop (x3.toNat * 4) x1).length)) (.ask (.prop (List.map AV.d (List.take 4 (List.drop (x3.toNat * 4) x1)) = [AV.d (DV.v (Value.string (dS (cel x1 (x3.toNat * 4))))), AV.d (DV.v (Value.int IntKind.i64 (dI (cel x1 (x3.toNat * 4 + 1))))), AV.d (DV.v (Value.int IntKind.i64 (dI (cel x1 (x3.toNat * 4 + 2))))), AV.d (DV.sl (dN (cel x1 (x3.toNat * 4 + 3))) (dL (cel x1 (x3.toNat * 4 + 3))))])) (.br ((dN (cel x1 (x3.toNat * 4 + 3))).beq 0)
 (.ask (.eqN (dN (cel x1 (x3.toNat * 4 + 3))) 0) (.ask (.in64 (x3 + 1)) (.nxt (.c5 x0 x1 x2 (x3 + 1) x4 x5 x6 x7 x8 0 1 [(.v (.string (dS (cel x1 (x3.toNat * 4))))), (.v (.int .i64 (dI (cel x1 (x3.toNat * 4 + 1))))), (.v (.int .i64 (dI (cel x1 (x3.toNat * 4 + 2))))), (.sl 0 [])] 0))))
 (.ask (.ltN 0 (dN (cel x1 (x3.toNat * 4 + 3)))) (.ask (.eqN ((dL (cel x1 (x3.toNat * 4 + 3))).length) (dN (cel x1 (x3.toNat * 4 + 3)) * 2)) (.ask (.fits (dN (cel x1 (x3.toNat * 4 + 3))) 16) (.ask (.in64 (x3 + 1)) (.nxt (.c5 x0 x1 x2 (x3 + 1) x4 x5 x6 x7 x8 0 1 [(.v (.string (dS (cel x1 (x3.toNat * 4))))), (.v (.int .i64 (dI (cel x1 (x3.toNat * 4 + 1))))), (.v (.int .i64 (dI (cel x1 (x3.toNat * 4 + 2))))), (.sl (dN (cel x1 (x3.toNat * 4 + 3))) (dL (cel x1 (x3.toNat * 4 + 3))))] 0))))))))))))
 (.nxt (.c6 x7 x8 ((↑x7 : Int)) 0 x4 x5 x6)))
 | .c3 x0 x1 x2 x3 x4 x5 x6 x7 x8 x9 xa xb xc => (.br (decide (x3 < x2))
 (.ask (.le 0 x3) (.ask (.lt x3 ((↑x0 : Int))) (.ask (.leN (x3.toNat * 4) x1.length) (.ask (.leN 4 ((List.drop (x3.toNat * 4) x1).length)) (.ask (.prop (List.map AV.d (List.take 4 (List.drop (x3.toNat * 4) x1)) = [AV.d (DV.v (Value.string (dS (cel x1 (x3.toNat * 4))))), AV.d (DV.v (Value.int IntKind.i64 (dI (cel x1 (x3.toNat * 4 + 1))))), AV.d (DV.v (Value.int IntKind.i64 (dI (cel x1 (x3.toNat * 4 + 2))))), AV.d (DV.sl (dN (cel x1 (x3.toNat * 4 + 3))) (dL (cel x1 (x3.toNat * 4 + 3))))])) (.br ((dN (cel x1 (x3.toNat * 4 + 3))).beq 0)
 (.ask (.eqN (dN (cel x1 (x3.toNat * 4 + 3))) 0) (.ask (.eqN x9 xc) (.ask (.fits (xa + 1) 56) (.ask (.in64 (x3 + 1)) (.nxt (.c3 x0 x1 x2 (x3 + 1) x4 x5 x6 x7 x8 (xc + 1) (xa + 1) (xb ++ [DV.v (Value.string (dS (cel x1 (x3.toNat * 4)))), DV.v (Value.int IntKind.i64 (dI (cel x1 (x3.toNat * 4 + 1)))), DV.v (Value.int IntKind.i64 (dI (cel x1 (x3.toNat * 4 + 2)))), DV.sl 0 []]) (xc + 1)))))))
 (.ask (.ltN 0 (dN (cel x1 (x3.toNat * 4 + 3)))) (.ask (.eqN ((dL (cel x1 (x3.toNat * 4 + 3))).length) (dN (cel x1 (x3.toNat * 4 + 3)) * 2)) (.ask (.fits (dN (cel x1 (x3.toNat * 4 + 3))) 16) (.ask (.eqN x9 xc) (.ask (.fits (xa + 1) 56) (.ask (.in64 (x3 + 1)) (.nxt (.c3 x0 x1 x2 (x3 + 1) x4 x5 x6 x7 x8 (xc + 1) (xa + 1) (xb ++ [DV.v (Value.string (dS (cel x1 (x3.toNat * 4)))), DV.v (Value.int IntKind.i64 (dI (cel x1 (x3.toNat * 4 + 1)))), DV.v (Value.int IntKind.i64 (dI (cel x1 (x3.toNat * 4 + 2)))), DV.sl (dN (cel x1 (x3.toNat * 4 + 3))) (dL (cel x1 (x3.toNat * 4 + 3)))]) (xc + 1)))))))))))))))
 (.nxt (.c7 x7 x8 ((↑x7 : Int)) 0 x4 x9 xa xb xc)))
 | .c4 x0 x1 x2 x3 x4 => (.br (decide (x3 < x2))
 (.ask (.le 0 x3) (.ask (.lt x3 ((↑x0 : Int))) (.ask (.leN (x3.toNat * 3) x1.length) (.ask (.leN 3 ((List.drop (x3.toNat * 3) x1).length)) (.ask (.prop (List.map AV.d (List.take 3 (List.drop (x3.toNat * 3) x1)) = [AV.d (DV.v (Value.int IntKind.i64 (dI (cel x1 (x3.toNat * 3))))), AV.d (DV.v (Value.string (dS (cel x1 (x3.toNat * 3 + 1))))), AV.d (DV.sl (dN (cel x1 (x3.toNat * 3 + 2))) (dL (cel x1 (x3.toNat * 3 + 2))))])) (.br ((dN (cel x1 (x3.toNat * 3 + 2))).beq 0)
 (.ask (.eqN (dN (cel x1 (x3.toNat * 3 + 2))) 0) (.ask (.in64 (x3 + 1)) (.nxt (.c8 x0 x1 x2 (x3 + 1) x4 0 1 [(.v (.int .i64 (dI (cel x1 (x3.toNat * 3))))), (.v (.string (dS (cel x1 (x3.toNat * 3 + 1))))), (.sl 0 [])] 0))))
 (.ask (.ltN 0 (dN (cel x1 (x3.toNat * 3 + 2)))) (.ask (.eqN ((dL (cel x1 (x3.toNat * 3 + 2))).length) (dN (cel x1 (x3.toNat * 3 + 2)) * 2)) (.ask (.fits (dN (cel x1 (x3.toNat * 3 + 2))) 16) (.ask (.in64 (x3 + 1)) (.nxt (.c8 x0 x1 x2 (x3 + 1) x4 0 1 [(.v (.int .i64 (dI (cel x1 (x3.toNat * 3))))), (.v (.string (dS (cel x1 (x3.toNat * 3 + 1))))), (.sl (dN (cel x1 (x3.toNat * 3 + 2))) (dL (cel x1 (x3.toNat * 3 + 2))))] 0))))))))))))
 (.ret (x4, 0, [], 0, [], 0, [])))
 | .c5 x0 x1 x2 x3 x4 x5 x6 x7 x8 x9 xa xb xc => (.br (decide (x3 < x2))
 (.ask (.le 0 x3) (.ask (.lt x3 ((↑x0 : Int))) (.ask (.leN (x3.toNat * 4) x1.length) (.ask (.leN 4 ((List.drop (x3.toNat * 4) x1).length)) (.ask (.prop (List.map AV.d (List.take 4 (List.drop (x3.toNat * 4) x1)) = [AV.d (DV.v (Value.string (dS (cel x1 (x3.toNat * 4))))), AV.d (DV.v (Value.int IntKind.i64 (dI (cel x1 (x3.toNat * 4 + 1))))), AV.d (DV.v (Value.int IntKind.i64 (dI (cel x1 (x3.toNat * 4 + 2))))), AV.d (DV.sl (dN (cel x1 (x3.toNat * 4 + 3))) (dL (cel x1 (x3.toNat * 4 + 3))))])) (.br ((dN (cel x1 (x3.toNat * 4 + 3))).beq 0)
 (.ask (.eqN (dN (cel x1 (x3.toNat * 4 + 3))) 0) (.ask (.eqN x9 xc) (.ask (.fits (xa + 1) 56) (.ask (.in64 (x3 + 1)) (.nxt (.c5 x0 x1 x2 (x3 + 1) x4 x5 x6 x7 x8 (xc + 1) (xa + 1) (xb ++ [DV.v (Value.string (dS (cel x1 (x3.toNat * 4)))), DV.v (Value.int IntKind.i64 (dI (cel x1 (x3.toNat * 4 + 1)))), DV.v (Value.int IntKind.i64 (dI (cel x1 (x3.toNat * 4 + 2)))), DV.sl 0 []]) (xc + 1)))))))
 (.ask (.ltN 0 (dN (cel x1 (x3.toNat * 4 + 3)))) (.ask (.eqN ((dL (cel x1 (x3.toNat * 4 + 3))).length) (dN (cel x1 (x3.toNat * 4 + 3)) * 2)) (.ask (.fits (dN (cel x1 (x3.toNat * 4 + 3))) 16) (.ask (.eqN x9 xc) (.ask (.fits (xa + 1) 56) (.ask (.in64 (x3 + 1)) (.nxt (.c5 x0 x1 x2 (x3 + 1) x4 x5 x6 x7 x8 (xc + 1) (xa + 1) (xb ++ [DV.v (Value.string (dS (cel x1 (x3.toNat * 4)))), DV.v (Value.int IntKind.i64 (dI (cel x1 (x3.toNat * 4 + 1)))), DV.v (Value.int IntKind.i64 (dI (cel x1 (x3.toNat * 4 + 2)))), DV.sl (dN (cel x1 (x3.toNat * 4 + 3))) (dL (cel x1 (x3.toNat * 4 + 3)))]) (xc + 1)))))))))))))))
 (.nxt (.c9 x7 x8 ((↑x7 : Int)) 0 x4 x5 x6 x9 xa xb xc)))
 | .c6 x0 x1 x2 x3 x4 x5 x6 => (.br (decide (x3 < x2))
 (.ask (.le 0 x3) (.ask (.lt x3 ((↑x0 : Int))) (.ask (.leN (x3.toNat * 3) x1.length) (.ask (.leN 3 ((List.drop (x3.toNat * 3) x1).length)) (.ask (.prop (List.map AV.d (List.take 3 (List.drop (x3.toNat * 3) x1)) = [AV.d (DV.v (Value.int IntKind.i64 (dI (cel x1 (x3.toNat * 3))))), AV.d (DV.v (Value.string (dS (cel x1 (x3.toNat * 3 + 1))))), AV.d (DV.sl (dN (cel x1 (x3.toNat * 3 + 2))) (dL (cel x1 (x3.toNat * 3 + 2))))])) (.br ((dN (cel x1 (x3.toNat * 3 + 2))).beq 0)
 (.ask (.eqN (dN (cel x1 (x3.toNat * 3 + 2))) 0) (.ask (.in64 (x3 + 1)) (.nxt (.c10 x0 x1 x2 (x3 + 1) x4 x5 x6 0 1 [(.v (.int .i64 (dI (cel x1 (x3.toNat * 3))))), (.v (.string (dS (cel x1 (x3.toNat * 3 + 1))))), (.sl 0 [])] 0))))
 (.ask (.ltN 0 (dN (cel x1 (x3.toNat * 3 + 2)))) (.ask (.eqN ((dL (cel x1 (x3.toNat * 3 + 2))).length) (dN (cel x1 (x3.toNat * 3 + 2)) * 2)) (.ask (.fits (dN (cel x1 (x3.toNat * 3 + 2))) 16) (.ask (.in64 (x3 + 1)) (.nxt (.c10 x0 x1 x2 (x3 + 1) x4 x5 x6 0 1 [(.v (.int .i64 (dI (cel x1 (x3.toNat * 3))))), (.v (.string (dS (cel x1 (x3.toNat * 3 + 1))))), (.sl (dN (cel x1 (x3.toNat * 3 + 2))) (dL (cel x1 (x3.toNat * 3 + 2))))] 0))))))))))))
 (.ret (x4, x5, x6, 0, [], 0, [])))
 | .c7 x0 x1 x2 x3 x4 x5 x6 x7 x8 => (.br (decide (x3 < x2))
 (.ask (.le 0 x3) (.ask (.lt x3 ((↑x0 : Int))) (.ask (.leN (x3.toNat * 3) x1.length) (.ask (.leN 3 ((List.drop (x3.toNat * 3) x1).length)) (.ask (.prop (List.map AV.d (List.take 3 (List.drop (x3.toNat * 3) x1)) = [AV.d (DV.v (Value.int IntKind.i64 (dI (cel x1 (x3.toNat * 3))))), AV.d (DV.v (Value.string (dS (cel x1 (x3.toNat * 3 + 1))))), AV.d (DV.sl (dN (cel x1 (x3.toNat * 3 + 2))) (dL (cel x1 (x3.toNat * 3 + 2))))])) (.br ((dN (cel x1 (x3.toNat * 3 + 2))).beq 0)
 (.ask (.eqN (dN (cel x1 (x3.toNat * 3 + 2))) 0) (.ask (.in64 (x3 + 1)) (.nxt (.c11 x0 x1 x2 (x3 + 1) x4 x5 x6 x7 0 1 [(.v (.int .i64 (dI (cel x1 (x3.toNat * 3))))), (.v (.string (dS (cel x1 (x3.toNat * 3 + 1))))), (.sl 0 [])] x8 0))))
 (.ask (.ltN 0 (dN (cel x1 (x3.toNat * 3 + 2)))) (.ask (.eqN ((dL (cel x1 (x3.toNat * 3 + 2))).length) (dN (cel x1 (x3.toNat * 3 + 2)) * 2)) (.ask (.fits (dN (cel x1 (x3.toNat * 3 + 2))) 16) (.ask (.in64 (x3 + 1)) (.nxt (.c11 x0 x1 x2 (x3 + 1) x4 x5 x6 x7 0 1 [(.v (.int .i64 (dI (cel x1 (x3.toNat * 3))))), (.v (.string (dS (cel x1 (x3.toNat * 3 + 1))))), (.sl (dN (cel x1 (x3.toNat * 3 + 2))) (dL (cel x1 (x3.toNat * 3 + 2))))] x8 0))))))))))))
 (.ret (x4, 0, [], x6, x7, 0, [])))
 | .c8 x0 x1 x2 x3 x4 x5 x6 x7 x8 => (.br (decide (x3 < x2))
 (.ask (.le 0 x3) (.ask (.lt x3 ((↑x0 : Int))) (.ask (.leN (x3.toNat * 3) x1.length) (.ask (.leN 3 ((List.drop (x3.toNat * 3) x1).length)) (.ask (.prop (List.map AV.d (List.take 3 (List.drop (x3.toNat * 3) x1)) = [AV.d (DV.v (Value.int IntKind.i64 (dI (cel x1 (x3.toNat * 3))))), AV.d (DV.v (Value.string (dS (cel x1 (x3.toNat * 3 + 1))))), AV.d (DV.sl (dN (cel x1 (x3.toNat * 3 + 2))) (dL (cel x1 (x3.toNat * 3 + 2))))])) (.br ((dN (cel x1 (x3.toNat * 3 + 2))).beq 0)
 (.ask (.eqN (dN (cel x1 (x3.toNat * 3 + 2))) 0) (.ask (.eqN x5 x8) (.ask (.fits (x6 + 1) 48) (.ask (.in64 (x3 + 1)) (.nxt (.c8 x0 x1 x2 (x3 + 1) x4 (x8 + 1) (x6 + 1) (x7 ++ [DV.v (Value.int IntKind.i64 (dI (cel x1 (x3.toNat * 3)))), DV.v (Value.string (dS (cel x1 (x3.toNat * 3 + 1)))), DV.sl 0 []]) (x8 + 1)))))))
 (.ask (.ltN 0 (dN (cel x1 (x3.toNat * 3 + 2)))) (.ask (.eqN ((dL (cel x1 (x3.toNat * 3 + 2))).length) (dN (cel x1 (x3.toNat * 3 + 2)) * 2)) (.ask (.fits (dN (cel x1 (x3.toNat * 3 + 2))) 16) (.ask (.eqN x5 x8) (.ask (.fits (x6 + 1) 48) (.ask (.in64 (x3 + 1)) (.nxt (.c8 x0 x1 x2 (x3 + 1) x4 (x8 + 1) (x6 + 1) (x7 ++ [DV.v (Value.int IntKind.i64 (dI (cel x1 (x3.toNat * 3)))), DV.v (Value.string (dS (cel x1 (x3.toNat * 3 + 1)))), DV.sl (dN (cel x1 (x3.toNat * 3 + 2))) (dL (cel x1 (x3.toNat * 3 + 2)))]) (x8 + 1)))))))))))))))
 (.ret (x4, 0, [], 0, [], x6, x7)))
 | .c9 x0 x1 x2 x3 x4 x5 x6 x7 x8 x9 xa => (.br (decide (x3 < x2))
 (.ask (.le 0 x3) (.ask (.lt x3 ((↑x0 : Int))) (.ask (.leN (x3.toNat * 3) x1.length) (.ask (.leN 3 ((List.drop (x3.toNat * 3) x1).length)) (.ask (.prop (List.map AV.d (List.take 3 (List.drop (x3.toNat * 3) x1)) = [AV.d (DV.v (Value.int IntKind.i64 (dI (cel x1 (x3.toNat * 3))))), AV.d (DV.v (Value.string (dS (cel x1 (x3.toNat * 3 + 1))))), AV.d (DV.sl (dN (cel x1 (x3.toNat * 3 + 2))) (dL (cel x1 (x3.toNat * 3 + 2))))])) (.br ((dN (cel x1 (x3.toNat * 3 + 2))).beq 0)
 (.ask (.eqN (dN (cel x1 (x3.toNat * 3 + 2))) 0) (.ask (.in64 (x3 + 1)) (.nxt (.c12 x0 x1 x2 (x3 + 1) x4 x5 x6 x7 x8 x9 0 1 [(.v (.int .i64 (dI (cel x1 (x3.toNat * 3))))), (.v (.string (dS (cel x1 (x3.toNat * 3 + 1))))), (.sl 0 [])] xa 0))))
 (.ask (.ltN 0 (dN (cel x1 (x3.toNat * 3 + 2)))) (.ask (.eqN ((dL (cel x1 (x3.toNat * 3 + 2))).length) (dN (cel x1 (x3.toNat * 3 + 2)) * 2)) (.ask (.fits (dN (cel x1 (x3.toNat * 3 + 2))) 16) (.ask (.in64 (x3 + 1)) (.nxt (.c12 x0 x1 x2 (x3 + 1) x4 x5 x6 x7 x8 x9 0 1 [(.v (.int .i64 (dI (cel x1 (x3.toNat * 3))))), (.v (.string (dS (cel x1 (x3.toNat * 3 + 1))))), (.sl (dN (cel x1 (x3.toNat * 3 + 2))) (dL (cel x1 (x3.toNat * 3 + 2))))] xa 0))))))))))))
 (.ret (x4, x5, x6, x8, x9, 0, [])))
 | .c10 x0 x1 x2 x3 x4 x5 x6 x7 x8 x9 xa => (.br (decide (x3 < x2))
 (.ask (.le 0 x3) (.ask (.lt x3 ((↑x0 : Int))) (.ask (.leN (x3.toNat * 3) x1.length) (.ask (.leN 3 ((List.drop (x3.toNat * 3) x1).length)) (.ask (.prop (List.map AV.d (List.take 3 (List.drop (x3.toNat * 3) x1)) = [AV.d (DV.v (Value.int IntKind.i64 (dI (cel x1 (x3.toNat * 3))))), AV.d (DV.v (Value.string (dS (cel x1 (x3.toNat * 3 + 1))))), AV.d (DV.sl (dN (cel x1 (x3.toNat * 3 + 2))) (dL (cel x1 (x3.toNat * 3 + 2))))])) (.br ((dN (cel x1 (x3.toNat * 3 + 2))).beq 0)
 (.ask (.eqN (dN (cel x1 (x3.toNat * 3 + 2))) 0) (.ask (.eqN x7 xa) (.ask (.fits (x8 + 1) 48) (.ask (.in64 (x3 + 1)) (.nxt (.c10 x0 x1 x2 (x3 + 1) x4 x5 x6 (xa + 1) (x8 + 1) (x9 ++ [DV.v (Value.int IntKind.i64 (dI (cel x1 (x3.toNat * 3)))), DV.v (Value.string (dS (cel x1 (x3.toNat * 3 + 1)))), DV.sl 0 []]) (xa + 1)))))))
 (.ask (.ltN 0 (dN (cel x1 (x3.toNat * 3 + 2)))) (.ask (.eqN ((dL (cel x1 (x3.toNat * 3 + 2))).length) (dN (cel x1 (x3.toNat * 3 + 2)) * 2)) (.ask (.fits (dN (cel x1 (x3.toNat * 3 + 2))) 16) (.ask (.eqN x7 xa) (.ask (.fits (x8 + 1) 48) (.ask (.in64 (x3 + 1)) (.nxt (.c10 x0 x1 x2 (x3 + 1) x4 x5 x6 (xa + 1) (x8 + 1) (x9 ++ [DV.v (Value.int IntKind.i64 (dI (cel x1 (x3.toNat * 3)))), DV.v (Value.string (dS (cel x1 (x3.toNat * 3 + 1)))), DV.sl (dN (cel x1 (x3.toNat * 3 + 2))) (dL (cel x1 (x3.toNat * 3 + 2)))]) (xa + 1)))))))))))))))
 (.ret (x4, x5, x6, 0, [], x8, x9)))
 | .c11 x0 x1 x2 x3 x4 x5 x6 x7 x8 x9 xa xb xc => (.br (decide (x3 < x2))
 (.ask (.le 0 x3) (.ask (.lt x3 ((↑x0 : Int))) (.ask (.leN (x3.toNat * 3) x1.length) (.ask (.leN 3 ((List.drop (x3.toNat * 3) x1).length)) (.ask (.prop (List.map AV.d (List.take 3 (List.drop (x3.toNat * 3) x1)) = [AV.d (DV.v (Value.int IntKind.i64 (dI (cel x1 (x3.toNat * 3))))), AV.d (DV.v (Value.string (dS (cel x1 (x3.toNat * 3 + 1))))), AV.d (DV.sl (dN (cel x1 (x3.toNat * 3 + 2))) (dL (cel x1 (x3.toNat * 3 + 2))))])) (.br ((dN (cel x1 (x3.toNat * 3 + 2))).beq 0)
 (.ask (.eqN (dN (cel x1 (x3.toNat * 3 + 2))) 0) (.ask (.eqN x8 xc) (.ask (.fits (x9 + 1) 48) (.ask (.in64 (x3 + 1)) (.nxt (.c11 x0 x1 x2 (x3 + 1) x4 x5 x6 x7 (xc + 1) (x9 + 1) (xa ++ [DV.v (Value.int IntKind.i64 (dI (cel x1 (x3.toNat * 3)))), DV.v (Value.string (dS (cel x1 (x3.toNat * 3 + 1)))), DV.sl 0 []]) xb (xc + 1)))))))
 (.ask (.ltN 0 (dN (cel x1 (x3.toNat * 3 + 2)))) (.ask (.eqN ((dL (cel x1 (x3.toNat * 3 + 2))).length) (dN (cel x1 (x3.toNat * 3 + 2)) * 2)) (.ask (.fits (dN (cel x1 (x3.toNat * 3 + 2))) 16) (.ask (.eqN x8 xc) (.ask (.fits (x9 + 1) 48) (.ask (.in64 (x3 + 1)) (.nxt (.c11 x0 x1 x2 (x3 + 1) x4 x5 x6 x7 (xc + 1) (x9 + 1) (xa ++ [DV.v (Value.int IntKind.i64 (dI (cel x1 (x3.toNat * 3)))), DV.v (Value.string (dS (cel x1 (x3.toNat * 3 + 1)))), DV.sl (dN (cel x1 (x3.toNat * 3 + 2))) (dL (cel x1 (x3.toNat * 3 + 2)))]) xb (xc + 1)))))))))))))))
 (.ret (x4, 0, [], x6, x7, x9, xa)))
 | .c12 x0 x1 x2 x3 x4 x5 x6 x7 x8 x9 xa xb xc xd xe => (.br (decide (x3 < x2))
 (.ask (.le 0 x3) (.ask (.lt x3 ((↑x0 : Int))) (.ask (.leN (x3.toNat * 3) x1.length) (.ask (.leN 3 ((List.drop (x3.toNat * 3) x1).length)) (.ask (.prop (List.map AV.d (List.take 3 (List.drop (x3.toNat * 3) x1)) = [AV.d (DV.v (Value.int IntKind.i64 (dI (cel x1 (x3.toNat * 3))))), AV.d (DV.v (Value.string (dS (cel x1 (x3.toNat * 3 + 1))))), AV.d (DV.sl (dN (cel x1 (x3.toNat * 3 + 2))) (dL (cel x1 (x3.toNat * 3 + 2))))])) (.br ((dN (cel x1 (x3.toNat * 3 + 2))).beq 0)
 (.ask (.eqN (dN (cel x1 (x3.toNat * 3 + 2))) 0) (.ask (.eqN xa xe) (.ask (.fits (xb + 1) 48) (.ask (.in64 (x3 + 1)) (.nxt (.c12 x0 x1 x2 (x3 + 1) x4 x5 x6 x7 x8 x9 (xe + 1) (xb + 1) (xc ++ [DV.v (Value.int IntKind.i64 (dI (cel x1 (x3.toNat * 3)))), DV.v (Value.string (dS (cel x1 (x3.toNat * 3 + 1)))), DV.sl 0 []]) xd (xe + 1)))))))
 (.ask (.ltN 0 (dN (cel x1 (x3.toNat * 3 + 2)))) (.ask (.eqN ((dL (cel x1 (x3.toNat * 3 + 2))).length) (dN (cel x1 (x3.toNat * 3 + 2)) * 2)) (.ask (.fits (dN (cel x1 (x3.toNat * 3 + 2))) 16) (.ask (.eqN xa xe) (.ask (.fits (xb + 1) 48) (.ask (.in64 (x3 + 1)) (.nxt (.c12 x0 x1 x2 (x3 + 1) x4 x5 x6 x7 x8 x9 (xe + 1) (xb + 1) (xc ++ [DV.v (Value.int IntKind.i64 (dI (cel x1 (x3.toNat * 3)))), DV.v (Value.string (dS (cel x1 (x3.toNat * 3 + 1)))), DV.sl (dN (cel x1 (x3.toNat * 3 + 2))) (dL (cel x1 (x3.toNat * 3 + 2)))]) xd (xe + 1)))))))))))))))
 (.ret (x4, x5, x6, x8, x9, xb, xc)))
def F18 (x0 : Int) (x1 : Nat) (x2 : List DV) (x3 : Nat) (x4 : List DV) (x5 : Nat) (x6 : List DV) : Option (Int × Nat × List DV × Nat × List DV × Nat × List DV) := res B18 (.c0 x0 x1 x2 x3 x4 x5 x6)
theorem ok18 : ∀ s, ∃ d, xrun cfz 18 d [] (st18 s) = (B18 s).mach st18 out18 := fun s => match s with
 | .c0 x0 x1 x2 x3 x4 x5 x6 => ⟨(.go 7 [] [] (.br (x1.beq 0) (.go 11 [.none, .none, (.br false)] [] (.ren 2 9 [] [[1, 2, 3, 16, 17, 18]] [] (.cut 3 [[1, 2, 3, 16, 17, 18]] []))) (.go 11 [.none, .none, (.br true)] [] (.ren 2 7 [] [[1, 2, 3, 16, 17, 18]] [] (.ren 3 9 [] [[1, 2, 3, 16, 17, 18]] [] (.cut 4 [[1, 2, 3, 16, 17, 18]] [])))))), by kernel_rfl⟩
 | .c1 x0 x1 x2 x3 x4 x5 x6 x7 x8 => ⟨(.go 5 [] [] (.split 19 (.go 12 [(.br true), (.as (.agg [(.d (.v (.string (dS (cel x1 (x3.toNat * 4)))))), (aI (dI (cel x1 (x3.toNat * 4 + 1)))), (aI (dI (cel x1 (x3.toNat * 4 + 2)))), (.d (.sl (dN (cel x1 (x3.toNat * 4 + 3))) (dL (cel x1 (x3.toNat * 4 + 3)))))]))] [0] (.br ((dN (cel x1 (x3.toNat * 4 + 3))).beq 0) (.go 7 [.none, .none, .none, .none, .none, (.br false)] [1, 2, 3] (.ren 3 18 [] [[1, 2, 3, 16, 17, 18]] [3] (.cut 4 [[1, 2, 3, 16, 17, 18]] []))) (.go 7 [.none, .none, .none, .none, .none, (.br true)] [3, 4, 5] (.ren 3 18 [] [[1, 2, 3, 16, 17, 18]] [3] (.cut 4 [[1, 2, 3, 16, 17, 18]] []))))) (.go 12 [(.br false)] [0] (.ren 0 1 [] [[2, 3, 40, 41, 42]] [0] (.ren 1 2 [] [[2, 3, 40, 41, 42]] [] (.cut 2 [[2, 3, 40, 41, 42]] [])))))), by kernel_rfl⟩
 | .c2 x0 x1 x2 x3 x4 x5 x6 x7 x8 => ⟨(.go 5 [] [] (.split 19 (.go 12 [(.br true), (.as (.agg [(.d (.v (.string (dS (cel x1 (x3.toNat * 4)))))), (aI (dI (cel x1 (x3.toNat * 4 + 1)))), (aI (dI (cel x1 (x3.toNat * 4 + 2)))), (.d (.sl (dN (cel x1 (x3.toNat * 4 + 3))) (dL (cel x1 (x3.toNat * 4 + 3)))))]))] [0] (.br ((dN (cel x1 (x3.toNat * 4 + 3))).beq 0) (.go 7 [.none, .none, .none, .none, .none, (.br false)] [1, 2, 3] (.ren 4 19 [] [[1, 2, 3, 16, 17, 18]] [4] (.cut 5 [[1, 2, 3, 16, 17, 18]] []))) (.go 7 [.none, .none, .none, .none, .none, (.br true)] [3, 4, 5] (.ren 4 19 [] [[1, 2, 3, 16, 17, 18]] [4] (.cut 5 [[1, 2, 3, 16, 17, 18]] []))))) (.go 12 [(.br false)] [0] (.ren 0 1 [] [[2, 3, 40, 41, 42]] [0] (.ren 1 2 [] [[2, 3, 40, 41, 42]] [] (.ren 2 3 [] [[2, 3, 40, 41, 42]] [] (.cut 3 [[2, 3, 40, 41, 42]] []))))))), by kernel_rfl⟩
 | .c3 x0 x1 x2 x3 x4 x5 x6 x7 x8 x9 xa xb xc => ⟨(.go 5 [] [] (.split 19 (.go 12 [(.br true), (.as (.agg [(.d (.v (.string (dS (cel x1 (x3.toNat * 4)))))), (aI (dI (cel x1 (x3.toNat * 4 + 1)))), (aI (dI (cel x1 (x3.toNat * 4 + 2)))), (.d (.sl (dN (cel x1 (x3.toNat * 4 + 3))) (dL (cel x1 (x3.toNat * 4 + 3)))))]))] [0] (.br ((dN (cel x1 (x3.toNat * 4 + 3))).beq 0) (.go 7 [.none, .none, .none, .none, .none, (.br false)] [2, 3] (.cut 4 [[1, 2, 3, 16, 17, 18]] [])) (.go 7 [.none, .none, .none, .none, .none, (.br true)] [4, 5] (.cut 4 [[1, 2, 3, 16, 17, 18]] [])))) (.go 12 [(.br false)] [0] (.ren 0 1 [] [[2, 3, 40, 41, 42]] [0] (.ren 1 2 [] [[2, 3, 40, 41, 42]] [] (.ren 2 3 [] [[2, 3, 40, 41, 42]] [] (.cut 3 [[2, 3, 40, 41, 42]] []))))))), by kernel_rfl⟩
 | .c4 x0 x1 x2 x3 x4 => ⟨(.go 5 [] [] (.split 43 (.go 12 [(.br true), (.as (.agg [(aI (dI (cel x1 (x3.toNat * 3)))), (.d (.v (.string (dS (cel x1 (x3.toNat * 3 + 1)))))), (.d (.sl (dN (cel x1 (x3.toNat * 3 + 2))) (dL (cel x1 (x3.toNat * 3 + 2)))))]))] [0] (.br ((dN (cel x1 (x3.toNat * 3 + 2))).beq 0) (.go 7 [.none, .none, .none, .none, (.br false)] [1, 2, 3] (.ren 2 15 [] [[2, 3, 40, 41, 42]] [2] (.cut 3 [[2, 3, 40, 41, 42]] []))) (.go 7 [.none, .none, .none, .none, (.br true)] [3, 4, 5] (.ren 2 15 [] [[2, 3, 40, 41, 42]] [2] (.cut 3 [[2, 3, 40, 41, 42]] []))))) (.go 8 [(.br false)] [0] .fin))), by kernel_rfl⟩
 | .c5 x0 x1 x2 x3 x4 x5 x6 x7 x8 x9 xa xb xc => ⟨(.go 5 [] [] (.split 19 (.go 12 [(.br true), (.as (.agg [(.d (.v (.string (dS (cel x1 (x3.toNat * 4)))))), (aI (dI (cel x1 (x3.toNat * 4 + 1)))), (aI (dI (cel x1 (x3.toNat * 4 + 2)))), (.d (.sl (dN (cel x1 (x3.toNat * 4 + 3))) (dL (cel x1 (x3.toNat * 4 + 3)))))]))] [0] (.br ((dN (cel x1 (x3.toNat * 4 + 3))).beq 0) (.go 7 [.none, .none, .none, .none, .none, (.br false)] [2, 3] (.cut 5 [[1, 2, 3, 16, 17, 18]] [])) (.go 7 [.none, .none, .none, .none, .none, (.br true)] [4, 5] (.cut 5 [[1, 2, 3, 16, 17, 18]] [])))) (.go 12 [(.br false)] [0] (.ren 0 1 [] [[2, 3, 40, 41, 42]] [0] (.ren 1 2 [] [[2, 3, 40, 41, 42]] [] (.ren 2 3 [] [[2, 3, 40, 41, 42]] [] (.ren 3 4 [] [[2, 3, 40, 41, 42]] [] (.cut 4 [[2, 3, 40, 41, 42]] [])))))))), by kernel_rfl⟩
 | .c6 x0 x1 x2 x3 x4 x5 x6 => ⟨(.go 5 [] [] (.split 43 (.go 12 [(.br true), (.as (.agg [(aI (dI (cel x1 (x3.toNat * 3)))), (.d (.v (.string (dS (cel x1 (x3.toNat * 3 + 1)))))), (.d (.sl (dN (cel x1 (x3.toNat * 3 + 2))) (dL (cel x1 (x3.toNat * 3 + 2)))))]))] [0] (.br ((dN (cel x1 (x3.toNat * 3 + 2))).beq 0) (.go 7 [.none, .none, .none, .none, (.br false)] [1, 2, 3] (.ren 3 16 [] [[2, 3, 40, 41, 42]] [3] (.cut 4 [[2, 3, 40, 41, 42]] []))) (.go 7 [.none, .none, .none, .none, (.br true)] [3, 4, 5] (.ren 3 16 [] [[2, 3, 40, 41, 42]] [3] (.cut 4 [[2, 3, 40, 41, 42]] []))))) (.go 8 [(.br false)] [0] .fin))), by kernel_rfl⟩
 | .c7 x0 x1 x2 x3 x4 x5 x6 x7 x8 => ⟨(.go 5 [] [] (.split 43 (.go 12 [(.br true), (.as (.agg [(aI (dI (cel x1 (x3.toNat * 3)))), (.d (.v (.string (dS (cel x1 (x3.toNat * 3 + 1)))))), (.d (.sl (dN (cel x1 (x3.toNat * 3 + 2))) (dL (cel x1 (x3.toNat * 3 + 2)))))]))] [0] (.br ((dN (cel x1 (x3.toNat * 3 + 2))).beq 0) (.go 7 [.none, .none, .none, .none, (.br false)] [1, 2, 3] (.ren 3 16 [] [[2, 3, 40, 41, 42]] [3] (.cut 4 [[2, 3, 40, 41, 42]] []))) (.go 7 [.none, .none, .none, .none, (.br true)] [3, 4, 5] (.ren 3 16 [] [[2, 3, 40, 41, 42]] [3] (.cut 4 [[2, 3, 40, 41, 42]] []))))) (.go 8 [(.br false)] [0] .fin))), by kernel_rfl⟩
 | .c8 x0 x1 x2 x3 x4 x5 x6 x7 x8 => ⟨(.go 5 [] [] (.split 43 (.go 12 [(.br true), (.as (.agg [(aI (dI (cel x1 (x3.toNat * 3)))), (.d (.v (.string (dS (cel x1 (x3.toNat * 3 + 1)))))), (.d (.sl (dN (cel x1 (x3.toNat * 3 + 2))) (dL (cel x1 (x3.toNat * 3 + 2)))))]))] [0] (.br ((dN (cel x1 (x3.toNat * 3 + 2))).beq 0) (.go 7 [.none, .none, .none, .none, (.br false)] [2, 3] (.cut 3 [[2, 3, 40, 41, 42]] [])) (.go 7 [.none, .none, .none, .none, (.br true)] [4, 5] (.cut 3 [[2, 3, 40, 41, 42]] [])))) (.go 8 [(.br false)] [0] .fin))), by kernel_rfl⟩
 | .c9 x0 x1 x2 x3 x4 x5 x6 x7 x8 x9 xa => ⟨(.go 5 [] [] (.split 43 (.go 12 [(.br true), (.as (.agg [(aI (dI (cel x1 (x3.toNat * 3)))), (.d (.v (.string (dS (cel x1 (x3.toNat * 3 + 1)))))), (.d (.sl (dN (cel x1 (x3.toNat * 3 + 2))) (dL (cel x1 (x3.toNat * 3 + 2)))))]))] [0] (.br ((dN (cel x1 (x3.toNat * 3 + 2))).beq 0) (.go 7 [.none, .none, .none, .none, (.br false)] [1, 2, 3] (.ren 4 17 [] [[2, 3, 40, 41, 42]] [4] (.cut 5 [[2, 3, 40, 41, 42]] []))) (.go 7 [.none, .none, .none, .none, (.br true)] [3, 4, 5] (.ren 4 17 [] [[2, 3, 40, 41, 42]] [4] (.cut 5 [[2, 3, 40, 41, 42]] []))))) (.go 8 [(.br false)] [0] .fin))), by kernel_rfl⟩
 | .c10 x0 x1 x2 x3 x4 x5 x6 x7 x8 x9 xa => ⟨(.go 5 [] [] (.split 43 (.go 12 [(.br true), (.as (.agg [(aI (dI (cel x1 (x3.toNat * 3)))), (.d (.v (.string (dS (cel x1 (x3.toNat * 3 + 1)))))), (.d (.sl (dN (cel x1 (x3.toNat * 3 + 2))) (dL (cel x1 (x3.toNat * 3 + 2)))))]))] [0] (.br ((dN (cel x1 (x3.toNat * 3 + 2))).beq 0) (.go 7 [.none, .none, .none, .none, (.br false)] [2, 3] (.cut 4 [[2, 3, 40, 41, 42]] [])) (.go 7 [.none, .none, .none, .none, (.br true)] [4, 5] (.cut 4 [[2, 3, 40, 41, 42]] [])))) (.go 8 [(.br false)] [0] .fin))), by kernel_rfl⟩
 | .c11 x0 x1 x2 x3 x4 x5 x6 x7 x8 x9 xa xb xc => ⟨(.go 5 [] [] (.split 43 (.go 12 [(.br true), (.as (.agg [(aI (dI (cel x1 (x3.toNat * 3)))), (.d (.v (.string (dS (cel x1 (x3.toNat * 3 + 1)))))), (.d (.sl (dN (cel x1 (x3.toNat * 3 + 2))) (dL (cel x1 (x3.toNat * 3 + 2)))))]))] [0] (.br ((dN (cel x1 (x3.toNat * 3 + 2))).beq 0) (.go 7 [.none, .none, .none, .none, (.br false)] [2, 3] (.cut 4 [[2, 3, 40, 41, 42]] [])) (.go 7 [.none, .none, .none, .none, (.br true)] [4, 5] (.cut 4 [[2, 3, 40, 41, 42]] [])))) (.go 8 [(.br false)] [0] .fin))), by kernel_rfl⟩
 | .c12 x0 x1 x2 x3 x4 x5 x6 x7 x8 x9 xa xb xc xd xe => ⟨(.go 5 [] [] (.split 43 (.go 12 [(.br true), (.as (.agg [(aI (dI (cel x1 (x3.toNat * 3)))), (.d (.v (.string (dS (cel x1 (x3.toNat * 3 + 1)))))), (.d (.sl (dN (cel x1 (x3.toNat * 3 + 2))) (dL (cel x1 (x3.toNat * 3 + 2)))))]))] [0] (.br ((dN (cel x1 (x3.toNat * 3 + 2))).beq 0) (.go 7 [.none, .none, .none, .none, (.br false)] [2, 3] (.cut 5 [[2, 3, 40, 41, 42]] [])) (.go 7 [.none, .none, .none, .none, (.br true)] [4, 5] (.cut 5 [[2, 3, 40, 41, 42]] [])))) (.go 8 [(.br false)] [0] .fin))), by kernel_rfl⟩
theorem f18 (x0 : Int) (x1 : Nat) (x2 : List DV) (x3 : Nat) (x4 : List DV) (x5 : Nat) (x6 : List DV) (v : Int × Nat × List DV × Nat × List DV × Nat × List DV) (h : F18 x0 x1 x2 x3 x4 x5 x6 = some v) : PQ 18 [(.agg [(aI x0), (.d (.sl x1 x2)), (.d (.sl x3 x4)), (.d (.sl x5 x6))])] (out18 v) := tree_pure knil ok18 (s := .c0 x0 x1 x2 x3 x4 x5 x6) rfl (by kernel_rfl) v h
inductive S162 where
 | c0 (x0 x1 : Int)
def out162 (v : Int) : AV := (.d (.v (.int .i64 v)))
def st162 : S162 → ASt
 | .c0 x0 x1 => ent cfz 162 [(.agg [(aI x0), (aI x1)])]
def B162 : S162 → Tr S162 (Int)
 | .c0 x0 x1 => (.bind (F106 x0 (-2) 2) fun x2 =>
 (.bind (F106 x1 (-2) 2) fun x3 =>
 (.bind (F109 (if true = true then x0 == 0 && (x1 == 0 && true) else !(x0 == 0 && (x1 == 0 && true))) 6) fun x4 =>
 (.bind (F107 3 [(.v (.int .i64 x2)), (.v (.int .i64 x3)), (.v (.int .i64 x4))]) fun x5 =>
 (.sees [(aI x0), (aI (-2)), (aI 2)] (.sees [(aI x1), (aI (-2)), (aI 2)] (.sees [(.d (.v (.bool (if true = true then x0 == 0 && (x1 == 0 && true) else !(x0 == 0 && (x1 == 0 && true)))))), (aI 6)] (.sees [(.d (.sl 3 [(vI x2), (vI x3), (vI x4)]))] (.ret x5)))))))))
def F162 (x0 x1 : Int) : Option (Int) := res B162 (.c0 x0 x1)
theorem ok162 : ∀ s, ∃ d, xrun cfz 162 d [] (st162 s) = (B162 s).mach st162 out162 := fun s => match s with
 | .c0 x0 x1 => ⟨(.go 7 [] [] (.bind (f106 x0 (-2) 2) fun x2 => (.bind (f106 x1 (-2) 2) fun x3 => (.bind (f109 (if true = true then x0 == 0 && (x1 == 0 && true) else !(x0 == 0 && (x1 == 0 && true))) 6) fun x4 => (.bind (f107 3 [(vI x2), (vI x3), (vI x4)]) fun x5 => (.go 2 [(.ck 0), (.ck 1), (.ck 2), (.ck 3)] [] .fin)))))), by kernel_rfl⟩
theorem f162 (x0 x1 v : Int) (h : F162 x0 x1 = some v) : PQ 162 [(.agg [(aI x0), (aI x1)])] (out162 v) := tree_pure knil ok162 (s := .c0 x0 x1) rfl (by kernel_rfl) v h
inductive S161 where
 | c0 (x0 : Nat) (x1 : List DV)
 | c1 (x0 : Nat) (x1 : List DV) (x2 x3 : Int)
 | c2 (x0 x1 : Nat) (x2 : List DV) (x3 : Nat) (x4 : List DV) (x5 x6 : Int) (x7 : Nat)
def out161 (v : Nat × List DV) : AV := (.d (.sl v.fst v.snd))
def st161 : S161 → ASt
 | .c0 x0 x1 => ent cfz 161 [(.d (.sl x0 x1)), (.d (.v (.func (.func 162) (#[]) (#[]))))]
 | .c1 x0 x1 x2 x3 => ⟨⟨161, sp 22 0 [(1, (.d (.v (.func (.func 162) (#[]) (#[]))))), (5, (.d (.v (.slice .none 0 0)))), (8, (.d (.sl x0 x1))), (9, (aI x2)), (10, (aI x3))], [(.code (cd cfz.P 161 [1, 1, 0, 1, 0, 0])), (.inLoop (cd cfz.P 161 [1, 1, 0, 1, 0, 0])), (.inBlock 0), (.code (cd cfz.P 161 [1, 1, 1]))], [], false, .none⟩, [], []⟩
 | .c2 x0 x1 x2 x3 x4 x5 x6 x7 => ⟨⟨161, sp 22 0 [(1, (.d (.v (.func (.func 162) (#[]) (#[]))))), (5, (.own 0 x0 1 x1 x2)), (8, (.d (.sl x3 x4))), (9, (aI x5)), (10, (aI x6))], [(.code (cd cfz.P 161 [1, 1, 0, 1, 0, 0])), (.inLoop (cd cfz.P 161 [1, 1, 0, 1, 0, 0])), (.inBlock 0), (.code (cd cfz.P 161 [1, 1, 1]))], [], false, .none⟩, [], [(.tail x7)]⟩
def B161 : S161 → Tr S161 (Nat × List DV)
 | .c0 x0 x1 => (.nxt (.c1 x0 x1 ((↑x0 : Int)) 0))
 | .c1 x0 x1 x2 x3 => (.br (decide (x3 < x2))
 (.ask (.le 0 x3) (.ask (.lt x3 ((↑x0 : Int))) (.ask (.leN (x3.toNat * 2) x1.length) (.ask (.leN 2 ((List.drop (x3.toNat * 2) x1).length)) (.ask (.prop (List.map AV.d (List.take 2 (List.drop (x3.toNat * 2) x1)) = [AV.d (DV.v (Value.int IntKind.i64 (dI (cel x1 (x3.toNat * 2))))), AV.d (DV.v (Value.int IntKind.i64 (dI (cel x1 (x3.toNat * 2 + 1)))))])) (.bind (F162 (dI (cel x1 (x3.toNat * 2))) (dI (cel x1 (x3.toNat * 2 + 1)))) fun x4 =>
 (.sees [(.agg [(aI (dI (cel x1 (x3.toNat * 2)))), (aI (dI (cel x1 (x3.toNat * 2 + 1))))])] (.ask (.in64 (x3 + 1)) (.nxt (.c2 0 1 [(.v (.int .i64 x4))] x0 x1 x2 (x3 + 1) 0))))))))))
 (.ret (0, [])))
 | .c2 x0 x1 x2 x3 x4 x5 x6 x7 => (.br (decide (x6 < x5))
 (.ask (.le 0 x6) (.ask (.lt x6 ((↑x3 : Int))) (.ask (.leN (x6.toNat * 2) x4.length) (.ask (.leN 2 ((List.drop (x6.toNat * 2) x4).length)) (.ask (.prop (List.map AV.d (List.take 2 (List.drop (x6.toNat * 2) x4)) = [AV.d (DV.v (Value.int IntKind.i64 (dI (cel x4 (x6.toNat * 2))))), AV.d (DV.v (Value.int IntKind.i64 (dI (cel x4 (x6.toNat * 2 + 1)))))])) (.bind (F162 (dI (cel x4 (x6.toNat * 2))) (dI (cel x4 (x6.toNat * 2 + 1)))) fun x8 =>
 (.sees [(.agg [(aI (dI (cel x4 (x6.toNat * 2)))), (aI (dI (cel x4 (x6.toNat * 2 + 1))))])] (.ask (.eqN x0 x7) (.ask (.fits (x1 + 1) 8) (.ask (.in64 (x6 + 1)) (.nxt (.c2 (x7 + 1) (x1 + 1) (x2 ++ [DV.v (Value.int IntKind.i64 x8)]) x3 x4 x5 (x6 + 1) (x7 + 1)))))))))))))
 (.ret (x1, x2)))
def F161 (x0 : Nat) (x1 : List DV) : Option (Nat × List DV) := res B161 (.c0 x0 x1)
theorem ok161 : ∀ s, ∃ d, xrun cfz 161 d [] (st161 s) = (B161 s).mach st161 out161 := fun s => match s with
 | .c0 x0 x1 => ⟨(.go 17 [] [] (.cut 0 [[1, 5, 8, 9, 10]] [])), by kernel_rfl⟩
 | .c1 x0 x1 x2 x3 => ⟨(.go 5 [] [] (.split 11 (.go 15 [(.br true), (.as (.agg [(aI (dI (cel x1 (x3.toNat * 2)))), (aI (dI (cel x1 (x3.toNat * 2 + 1))))]))] [0] (.bind (f162 (dI (cel x1 (x3.toNat * 2))) (dI (cel x1 (x3.toNat * 2 + 1)))) fun x4 => (.go 11 [(.ck 0)] [1, 2, 3] (.ren 0 2 [] [[1, 5, 8, 9, 10]] [0] (.cut 1 [[1, 5, 8, 9, 10]] []))))) (.go 8 [(.br false)] [0] .fin))), by kernel_rfl⟩
 | .c2 x0 x1 x2 x3 x4 x5 x6 x7 => ⟨(.go 5 [] [] (.split 11 (.go 15 [(.br true), (.as (.agg [(aI (dI (cel x4 (x6.toNat * 2)))), (aI (dI (cel x4 (x6.toNat * 2 + 1))))]))] [0] (.bind (f162 (dI (cel x4 (x6.toNat * 2))) (dI (cel x4 (x6.toNat * 2 + 1)))) fun x8 => (.go 11 [(.ck 0)] [2, 3] (.cut 1 [[1, 5, 8, 9, 10]] [])))) (.go 8 [(.br false)] [0] .fin))), by kernel_rfl⟩
theorem f161 (x0 : Nat) (x1 : List DV) (v : Nat × List DV) (h : F161 x0 x1 = some v) : PQ 161 [(.d (.sl x0 x1)), (.d (.v (.func (.func 162) (#[]) (#[]))))] (out161 v) := tree_pure knil ok161 (s := .c0 x0 x1) rfl (by kernel_rfl) v h
inductive S108 where
 | c0 (x0 : Int) (x1 : Nat) (x2 : List DV) (x3 : Nat) (x4 : List DV) (x5 : Nat) (x6 : List DV) (x7 : Nat) (x8 : List DV)
def out108 (v : Int) : AV := (.d (.v (.int .i64 v)))
def st108 : S108 → ASt
 | .c0 x0 x1 x2 x3 x4 x5 x6 x7 x8 => ent cfz 108 [(.agg [(aI x0), (.d (.sl x1 x2)), (.d (.sl x3 x4)), (.d (.sl x5 x6))]), (.d (.sl x7 x8))]
def B108 : S108 → Tr S108 (Int)
 | .c0 x0 x1 x2 x3 x4 x5 x6 x7 x8 => (.br ((↑x7 : Int) != x0)
 (.ret 2)
 (.bind (F161 x7 x8) fun x9 =>
 (.sees [(.d (.sl x7 x8)), (.d (.v (.func (.func 162) (#[]) (#[]))))] (.bind (F107 x9.fst x9.snd) fun xa =>
 (.sees [(.d (.sl x9.fst x9.snd))] (.ret xa))))))
def F108 (x0 : Int) (x1 : Nat) (x2 : List DV) (x3 : Nat) (x4 : List DV) (x5 : Nat) (x6 : List DV) (x7 : Nat) (x8 : List DV) : Option (Int) := res B108 (.c0 x0 x1 x2 x3 x4 x5 x6 x7 x8)
theorem ok108 : ∀ s, ∃ d, xrun cfz 108 d [] (st108 s) = (B108 s).mach st108 out108 := fun s => match s with
 | .c0 x0 x1 x2 x3 x4 x5 x6 x7 x8 => ⟨(.go 14 [] [] (.split 9 (.go 6 [(.br true)] [0] .fin) (.go 5 [(.br false)] [0] (.bind (f161 x7 x8) fun x9 => (.go 1 [(.ck 0)] [] (.bind (f107 x9.fst x9.snd) fun xa => (.go 4 [(.ck 1)] [] .fin))))))), by kernel_rfl⟩
theorem f108 (x0 : Int) (x1 : Nat) (x2 : List DV) (x3 : Nat) (x4 : List DV) (x5 : Nat) (x6 : List DV) (x7 : Nat) (x8 : List DV) (v : Int) (h : F108 x0 x1 x2 x3 x4 x5 x6 x7 x8 = some v) : PQ 108 [(.agg [(aI x0), (.d (.sl x1 x2)), (.d (.sl x3 x4)), (.d (.sl x5 x6))]), (.d (.sl x7 x8))] (out108 v) := tree_pure knil ok108 (s := .c0 x0 x1 x2 x3 x4 x5 x6 x7 x8) rfl (by kernel_rfl) v h
inductive S111 where
 | c0 (x0 : Int) (x1 : Nat) (x2 : List DV) (x3 : Nat) (x4 : List DV) (x5 : Nat) (x6 : List DV) (x7 : Int)
def out111 (v : Int) : AV := (.d (.v (.int .i64 v)))
def st111 : S111 → ASt
 | .c0 x0 x1 x2 x3 x4 x5 x6 x7 => ent cfz 111 [(.agg [(aI x0), (.d (.sl x1 x2)), (.d (.sl x3 x4)), (.d (.sl x5 x6))]), (aI x7)]
def B111 : S111 → Tr S111 (Int)
 | .c0 x0 x1 x2 x3 x4 x5 x6 x7 => (.ask (.le 0 x7) (.ask (.lt x7 ((↑x3 : Int))) (.ask (.leN (x7.toNat * 4) x4.length) (.ask (.leN 4 ((List.drop (x7.toNat * 4) x4).length)) (.ask (.prop (List.map AV.d (List.take 4 (List.drop (x7.toNat * 4) x4)) = [AV.d (DV.v (Value.string (dS (cel x4 (x7.toNat * 4))))), AV.d (DV.v (Value.int IntKind.i64 (dI (cel x4 (x7.toNat * 4 + 1))))), AV.d (DV.v (Value.int IntKind.i64 (dI (cel x4 (x7.toNat * 4 + 2))))), AV.d (DV.sl (dN (cel x4 (x7.toNat * 4 + 3))) (dL (cel x4 (x7.toNat * 4 + 3))))])) (.br (x7 == 0)
 (.br (dI (cel x4 (x7.toNat * 4 + 1)) != 0)
 (.bind (F109 true 21) fun x8 =>
 (.sees [(.d (.v (.bool true))), (aI 21)] (.ret x8)))
 (.br (dI (cel x4 (x7.toNat * 4 + 2)) != 0)
 (.bind (F109 true 21) fun x9 =>
 (.sees [(.d (.v (.bool true))), (aI 21)] (.ret x9)))
 (.bind (F109 (decide ((↑(dN (cel x4 (x7.toNat * 4 + 3))) : Int) > 0)) 21) fun xa =>
 (.sees [(.d (.v (.bool (decide ((↑(dN (cel x4 (x7.toNat * 4 + 3))) : Int) > 0))))), (aI 21)] (.ret xa)))))
 (.br (decide (dI (cel x4 (x7.toNat * 4 + 1)) < 0))
 (.ret 10)
 (.br (decide (dI (cel x4 (x7.toNat * 4 + 1)) ≥ x7))
 (.ret 10)
 (.bind (F106 (dI (cel x4 (x7.toNat * 4 + 2))) 1 3) fun xb =>
 (.br (decide (dI (cel x4 (x7.toNat * 4 + 1)) > 0))
 (.bind (F109 (dI (cel (List.drop ((dI (cel x4 (x7.toNat * 4 + 1))).toNat * 4) x4) 2) != dI (cel x4 (x7.toNat * 4 + 2))) 24) fun xc =>
 (.bind (F108 x0 x1 x2 x3 x4 x5 x6 (dN (cel x4 (x7.toNat * 4 + 3))) (dL (cel x4 (x7.toNat * 4 + 3)))) fun xd =>
 (.bind (F107 3 [(.v (.int .i64 xb)), (.v (.int .i64 xc)), (.v (.int .i64 xd))]) fun xe =>
 (.sees [(aI (dI (cel x4 (x7.toNat * 4 + 2)))), (aI 1), (aI 3)] (.ask (.eqB (decide (dI (cel x4 (x7.toNat * 4 + 1)) > 0)) true) (.ask (.eqB (decide (dI (cel x4 (x7.toNat * 4 + 1)) > 0)) true) (.ask (.eqB (decide (dI (cel x4 (x7.toNat * 4 + 1)) > 0)) true) (.ask (.eqB (decide (dI (cel x4 (x7.toNat * 4 + 1)) > 0)) true) (.ask (.le 0 (dI (cel x4 (x7.toNat * 4 + 1)))) (.ask (.lt (dI (cel x4 (x7.toNat * 4 + 1))) ((↑x3 : Int))) (.ask (.leN ((dI (cel x4 (x7.toNat * 4 + 1))).toNat * 4) x4.length) (.ask (.eqB (decide (dI (cel x4 (x7.toNat * 4 + 1)) > 0)) true) (.ask (.leN 2 ((List.drop ((dI (cel x4 (x7.toNat * 4 + 1))).toNat * 4) x4).length)) (.ask (.eqB (decide (dI (cel x4 (x7.toNat * 4 + 1)) > 0)) true) (.ask (.prop (Option.map AV.d (List.drop 2 (List.drop ((dI (cel x4 (x7.toNat * 4 + 1))).toNat * 4) x4))[0]? = some (AV.d (DV.v (Value.int IntKind.i64 (dI (cel (List.drop ((dI (cel x4 (x7.toNat * 4 + 1))).toNat * 4) x4) 2))))))) (.ask (.eqB (decide (dI (cel x4 (x7.toNat * 4 + 1)) > 0)) true) (.ask (.eqB (decide (dI (cel x4 (x7.toNat * 4 + 1)) > 0)) true) (.ask (.eqB (decide (dI (cel x4 (x7.toNat * 4 + 1)) > 0)) true) (.ask (.eqB (decide (dI (cel x4 (x7.toNat * 4 + 1)) > 0)) true) (.ask (.eqB (decide (dI (cel x4 (x7.toNat * 4 + 1)) > 0)) true) (.sees [(.d (.v (.bool (dI (cel (List.drop ((dI (cel x4 (x7.toNat * 4 + 1))).toNat * 4) x4) 2) != dI (cel x4 (x7.toNat * 4 + 2)))))), (aI 24)] (.sees [(.agg [(aI x0), (.d (.sl x1 x2)), (.d (.sl x3 x4)), (.d (.sl x5 x6))]), (.d (.sl (dN (cel x4 (x7.toNat * 4 + 3))) (dL (cel x4 (x7.toNat * 4 + 3)))))] (.sees [(.d (.sl 3 [(vI xb), (vI xc), (vI xd)]))] (.ret xe))))))))))))))))))))))))
 (.bind (F109 false 24) fun xf =>
 (.bind (F108 x0 x1 x2 x3 x4 x5 x6 (dN (cel x4 (x7.toNat * 4 + 3))) (dL (cel x4 (x7.toNat * 4 + 3)))) fun xg =>
 (.bind (F107 3 [(.v (.int .i64 xb)), (.v (.int .i64 xf)), (.v (.int .i64 xg))]) fun xh =>
 (.sees [(aI (dI (cel x4 (x7.toNat * 4 + 2)))), (aI 1), (aI 3)] (.ask (.eqB (decide (dI (cel x4 (x7.toNat * 4 + 1)) > 0)) false) (.ask (.eqB (decide (dI (cel x4 (x7.toNat * 4 + 1)) > 0)) false) (.ask (.eqB (decide (dI (cel x4 (x7.toNat * 4 + 1)) > 0)) false) (.ask (.eqB (decide (dI (cel x4 (x7.toNat * 4 + 1)) > 0)) false) (.ask (.eqB (decide (dI (cel x4 (x7.toNat * 4 + 1)) > 0)) false) (.ask (.eqB (decide (dI (cel x4 (x7.toNat * 4 + 1)) > 0)) false) (.ask (.eqB (decide (dI (cel x4 (x7.toNat * 4 + 1)) > 0)) false) (.ask (.eqB (decide (dI (cel x4 (x7.toNat * 4 + 1)) > 0)) false) (.ask (.eqB (decide (dI (cel x4 (x7.toNat * 4 + 1)) > 0)) false) (.ask (.eqB (decide (dI (cel x4 (x7.toNat * 4 + 1)) > 0)) false) (.ask (.eqB (decide (dI (cel x4 (x7.toNat * 4 + 1)) > 0)) false) (.sees [(.d (.v (.bool false))), (aI 24)] (.sees [(.agg [(aI x0), (.d (.sl x1 x2)), (.d (.sl x3 x4)), (.d (.sl x5 x6))]), (.d (.sl (dN (cel x4 (x7.toNat * 4 + 3))) (dL (cel x4 (x7.toNat * 4 + 3)))))] (.sees [(.d (.sl 3 [(vI xb), (vI xf), (vI xg)]))] (.ret xh)))))))))))))))))))))))))))))
def F111 (x0 : Int) (x1 : Nat) (x2 : List DV) (x3 : Nat) (x4 : List DV) (x5 : Nat) (x6 : List DV) (x7 : Int) : Option (Int) := res B111 (.c0 x0 x1 x2 x3 x4 x5 x6 x7)
theorem ok111 : ∀ s, ∃ d, xrun cfz 111 d [] (st111 s) = (B111 s).mach st111 out111 := fun s => match s with
 | .c0 x0 x1 x2 x3 x4 x5 x6 x7 => ⟨(.go 21 [.none, (.as (.agg [(.d (.v (.string (dS (cel x4 (x7.toNat * 4)))))), (aI (dI (cel x4 (x7.toNat * 4 + 1)))), (aI (dI (cel x4 (x7.toNat * 4 + 2)))), (.d (.sl (dN (cel x4 (x7.toNat * 4 + 3))) (dL (cel x4 (x7.toNat * 4 + 3)))))]))] [] (.split 12 (.go 7 [(.br true)] [0] (.split 16 (.go 10 [(.br true), (.br true), (.br true), .none, (.br true), (.br true), (.br true), (.br true)] [0, 1, 2, 3, 4, 5, 6] (.bind (f109 true 21) fun x8 => (.go 4 [(.ck 0)] [] .fin))) (.go 5 [(.br false), (.br false), .none, (.br false)] [0, 1, 2] (.split 21 (.go 5 [(.br true), (.br true), (.br true), (.br true)] [0, 1, 2, 3] (.bind (f109 true 21) fun x9 => (.go 4 [(.ck 0)] [] .fin))) (.go 5 [(.br false), (.br false), .none, (.br false), (.br false)] [0, 1, 2, 3] (.bind (f109 (decide ((↑(dN (cel x4 (x7.toNat * 4 + 3))) : Int) > 0)) 21) fun xa => (.go 4 [(.ck 0)] [] .fin))))))) (.go 9 [(.br false)] [0] (.split 31 (.go 12 [(.br true), (.br true), (.br true), (.br true), .none, (.br true)] [0, 1, 2, 3, 4] .fin) (.go 6 [(.br false), (.br false), .none, (.br false), (.br false)] [0, 1, 2, 3] (.split 36 (.go 6 [(.br true)] [0] .fin) (.go 4 [(.br false)] [0] (.bind (f106 (dI (cel x4 (x7.toNat * 4 + 2))) 1 3) fun xb => (.br (decide (dI (cel x4 (x7.toNat * 4 + 1)) > 0)) (.bind (f109 (dI (cel (List.drop ((dI (cel x4 (x7.toNat * 4 + 1))).toNat * 4) x4) 2) != dI (cel x4 (x7.toNat * 4 + 2))) 24) fun xc => (.bind (f108 x0 x1 x2 x3 x4 x5 x6 (dN (cel x4 (x7.toNat * 4 + 3))) (dL (cel x4 (x7.toNat * 4 + 3)))) fun xd => (.bind (f107 3 [(vI xb), (vI xc), (vI xd)]) fun xe => (.go 2 [.none, (.ck 0), .none, (.br true), (.br true), .none, (.br true), (.br true), .none, (.br true), (.br true), (.br true), (.as (aI (dI (cel (List.drop ((dI (cel x4 (x7.toNat * 4 + 1))).toNat * 4) x4) 2)))), (.br true), (.br true), .none, (.br true), (.br true), (.ck 1), (.ck 2), (.ck 3)] [] .fin)))) (.bind (f109 false 24) fun xf => (.bind (f108 x0 x1 x2 x3 x4 x5 x6 (dN (cel x4 (x7.toNat * 4 + 3))) (dL (cel x4 (x7.toNat * 4 + 3)))) fun xg => (.bind (f107 3 [(vI xb), (vI xf), (vI xg)]) fun xh => (.go 2 [.none, (.ck 0), .none, (.br false), (.br false), (.br false), (.br false), (.br false), (.br false), (.br false), (.br false), (.br false), (.br false), (.br false), (.ck 1), (.ck 2), (.ck 3)] [] .fin))))))))))))), by kernel_rfl⟩
theorem f111 (x0 : Int) (x1 : Nat) (x2 : List DV) (x3 : Nat) (x4 : List DV) (x5 : Nat) (x6 : List DV) (x7 v : Int) (h : F111 x0 x1 x2 x3 x4 x5 x6 x7 = some v) : PQ 111 [(.agg [(aI x0), (.d (.sl x1 x2)), (.d (.sl x3 x4)), (.d (.sl x5 x6))]), (aI x7)] (out111 v) := tree_pure knil ok111 (s := .c0 x0 x1 x2 x3 x4 x5 x6 x7) rfl (by kernel_rfl) v h
inductive S112 where
 | c0 (x0 : Int) (x1 : Nat) (x2 : List DV) (x3 : Nat) (x4 : List DV) (x5 : Nat) (x6 : List DV) (x7 : Int)
def out112 (v : Bool) : AV := (.d (.v (.bool v)))
def st112 : S112 → ASt
 | .c0 x0 x1 x2 x3 x4 x5 x6 x7 => ent cfz 112 [(.agg [(aI x0), (.d (.sl x1 x2)), (.d (.sl x3 x4)), (.d (.sl x5 x6))]), (aI x7)]
def B112 : S112 → Tr S112 (Bool)
 | .c0 x0 x1 x2 x3 x4 x5 x6 x7 => (.br (decide (x7 ≥ 0))
 (.ask (.eqB (decide (x7 ≥ 0) == true) true) (.ret (decide (x7 < (↑x3 : Int)))))
 (.ret false))
def F112 (x0 : Int) (x1 : Nat) (x2 : List DV) (x3 : Nat) (x4 : List DV) (x5 : Nat) (x6 : List DV) (x7 : Int) : Option (Bool) := res B112 (.c0 x0 x1 x2 x3 x4 x5 x6 x7)
theorem ok112 : ∀ s, ∃ d, xrun cfz 112 d [] (st112 s) = (B112 s).mach st112 out112 := fun s => match s with
 | .c0 x0 x1 x2 x3 x4 x5 x6 x7 => ⟨(.go 11 [(.sp .none)] [] (.split 7 (.go 3 [(.br true), (.br true), .none, (.br true)] [0, 1, 2] (.strip 8 (.go 5 [(.br true)] [0] .fin))) (.go 8 [(.br false), (.br false), (.br false), (.br false)] [0, 1, 2, 3] .fin))), by kernel_rfl⟩
theorem f112 (x0 : Int) (x1 : Nat) (x2 : List DV) (x3 : Nat) (x4 : List DV) (x5 : Nat) (x6 : List DV) (x7 : Int) (v : Bool) (h : F112 x0 x1 x2 x3 x4 x5 x6 x7 = some v) : PQ 112 [(.agg [(aI x0), (.d (.sl x1 x2)), (.d (.sl x3 x4)), (.d (.sl x5 x6))]), (aI x7)] (out112 v) := tree_pure knil ok112 (s := .c0 x0 x1 x2 x3 x4 x5 x6 x7) rfl (by kernel_rfl) v h
inductive S103 where
 | c0 (x0 : Int) (x1 : Nat) (x2 : List DV)
 | c1 (x0 : Nat) (x1 : List DV) (x2 : Int)
def out103 (v : Int) : AV := (.d (.v (.int .i64 v)))
def st103 : S103 → ASt
 | .c0 x0 x1 x2 => ent cfz 103 [(aI x0), (.d (.sl x1 x2))]
 | .c1 x0 x1 x2 => ⟨⟨103, sp 41 0 [(1, (.d (.sl x0 x1))), (5, (aI x2))], [(.code (cd cfz.P 103 [1, 1, 0, 1, 0, 0])), (.inLoop (cd cfz.P 103 [1, 1, 0, 1, 0, 0])), (.inBlock 0), (.code (cd cfz.P 103 [1, 1, 1]))], [], false, .none⟩, [], []⟩
def B103 : S103 → Tr S103 (Int)
 | .c0 x0 x1 x2 => (.br ((↑x1 : Int) != x0)
 (.ret 2)
 (.nxt (.c1 x1 x2 0)))
 | .c1 x0 x1 x2 => (.br (decide (x2 < (↑x0 : Int)))
 (.bind (F39 (dI (cel (List.drop (x2.toNat * 2) x1) 0)) (-2) 2) fun x3 =>
 (.bind (F39 (dI (cel (List.drop (x2.toNat * 2) x1) 1)) (-2) 2) fun x4 =>
 (.bind (F37 (if true = true then dI (cel x1 (x2.toNat * 2)) == 0 && (dI (cel x1 (x2.toNat * 2 + 1)) == 0 && true) else !(dI (cel x1 (x2.toNat * 2)) == 0 && (dI (cel x1 (x2.toNat * 2 + 1)) == 0 && true))) 6) fun x5 =>
 (.bind (F20 3 [(.v (.int .i64 x3)), (.v (.int .i64 x4)), (.v (.int .i64 x5))]) fun x6 =>
 (.ask (.le 0 x2) (.ask (.lt x2 ((↑x0 : Int))) (.ask (.leN (x2.toNat * 2) x1.length) (.ask (.leN 0 ((List.drop (x2.toNat * 2) x1).length)) (.ask (.prop (Option.map AV.d (List.drop 0 (List.drop (x2.toNat * 2) x1))[0]? = some (AV.d (DV.v (Value.int IntKind.i64 (dI (cel (List.drop (x2.toNat * 2) x1) 0))))))) (.sees [(aI (dI (cel (List.drop (x2.toNat * 2) x1) 0))), (aI (-2)), (aI 2)] (.ask (.le 0 x2) (.ask (.lt x2 ((↑x0 : Int))) (.ask (.leN (x2.toNat * 2) x1.length) (.ask (.leN 1 ((List.drop (x2.toNat * 2) x1).length)) (.ask (.prop (Option.map AV.d (List.drop 1 (List.drop (x2.toNat * 2) x1))[0]? = some (AV.d (DV.v (Value.int IntKind.i64 (dI (cel (List.drop (x2.toNat * 2) x1) 1))))))) (.sees [(aI (dI (cel (List.drop (x2.toNat * 2) x1) 1))), (aI (-2)), (aI 2)] (.ask (.le 0 x2) (.ask (.lt x2 ((↑x0 : Int))) (.ask (.leN (x2.toNat * 2) x1.length) (.ask (.leN 2 ((List.drop (x2.toNat * 2) x1).length)) (.ask (.prop (List.map AV.d (List.take 2 (List.drop (x2.toNat * 2) x1)) = [AV.d (DV.v (Value.int IntKind.i64 (dI (cel x1 (x2.toNat * 2))))), AV.d (DV.v (Value.int IntKind.i64 (dI (cel x1 (x2.toNat * 2 + 1)))))])) (.sees [(.d (.v (.bool (if true = true then dI (cel x1 (x2.toNat * 2)) == 0 && (dI (cel x1 (x2.toNat * 2 + 1)) == 0 && true) else !(dI (cel x1 (x2.toNat * 2)) == 0 && (dI (cel x1 (x2.toNat * 2 + 1)) == 0 && true)))))), (aI 6)] (.sees [(.d (.sl 3 [(vI x3), (vI x4), (vI x5)]))] (.br (x6 != 0)
 (.ret x6)
 (.ask (.in64 (x2 + 1)) (.nxt (.c1 x0 x1 (x2 + 1))))))))))))))))))))))))))))
 (.ret 0))
def F103 (x0 : Int) (x1 : Nat) (x2 : List DV) : Option (Int) := res B103 (.c0 x0 x1 x2)
theorem ok103 : ∀ s, ∃ d, xrun cfz 103 d [] (st103 s) = (B103 s).mach st103 out103 := fun s => match s with
 | .c0 x0 x1 x2 => ⟨(.go 12 [] [] (.split 10 (.go 6 [(.br true)] [0] .fin) (.go 9 [(.br false)] [0] (.cut 0 [[1, 5]] [])))), by kernel_rfl⟩
 | .c1 x0 x1 x2 => ⟨(.go 8 [] [] (.split 14 (.go 6 [(.br true)] [0] (.bind (f39 (dI (cel (List.drop (x2.toNat * 2) x1) 0)) (-2) 2) fun x3 => (.bind (f39 (dI (cel (List.drop (x2.toNat * 2) x1) 1)) (-2) 2) fun x4 => (.bind (f37 (if true = true then dI (cel x1 (x2.toNat * 2)) == 0 && (dI (cel x1 (x2.toNat * 2 + 1)) == 0 && true) else !(dI (cel x1 (x2.toNat * 2)) == 0 && (dI (cel x1 (x2.toNat * 2 + 1)) == 0 && true))) 6) fun x5 => (.bind (f20 3 [(vI x3), (vI x4), (vI x5)]) fun x6 => (.go 6 [(.as (aI (dI (cel (List.drop (x2.toNat * 2) x1) 0)))), (.ck 0), (.as (aI (dI (cel (List.drop (x2.toNat * 2) x1) 1)))), (.ck 1), (.as (.agg [(aI (dI (cel x1 (x2.toNat * 2)))), (aI (dI (cel x1 (x2.toNat * 2 + 1))))])), (.ck 2), (.ck 3)] [] (.split 39 (.go 7 [(.br true)] [0] .fin) (.go 9 [(.br false)] [0] (.cut 0 [[1, 5]] []))))))))) (.go 7 [(.br false)] [0] .fin))), by kernel_rfl⟩
theorem f103 (x0 : Int) (x1 : Nat) (x2 : List DV) (v : Int) (h : F103 x0 x1 x2 = some v) : PQ 103 [(aI x0), (.d (.sl x1 x2))] (out103 v) := tree_pure knil ok103 (s := .c0 x0 x1 x2) rfl (by kernel_rfl) v h
inductive S21 where
 | c0 (x0 : Int) (x1 : Nat) (x2 : List DV) (x3 : Nat) (x4 : List DV) (x5 : Nat) (x6 : List DV) (x7 : Int)
def out21 (v : Int) : AV := (.d (.v (.int .i64 v)))
def st21 : S21 → ASt
 | .c0 x0 x1 x2 x3 x4 x5 x6 x7 => ent cfz 21 [(.agg [(aI x0), (.d (.sl x1 x2)), (.d (.sl x3 x4)), (.d (.sl x5 x6))]), (aI x7)]
def B21 : S21 → Tr S21 (Int)
 | .c0 x0 x1 x2 x3 x4 x5 x6 x7 => (.bind (F78 ((↑x3 : Int)) x7) fun x8 =>
 (.sees [(aI ((↑x3 : Int))), (aI x7)] (.ret x8)))
def F21 (x0 : Int) (x1 : Nat) (x2 : List DV) (x3 : Nat) (x4 : List DV) (x5 : Nat) (x6 : List DV) (x7 : Int) : Option (Int) := res B21 (.c0 x0 x1 x2 x3 x4 x5 x6 x7)
theorem ok21 : ∀ s, ∃ d, xrun cfz 21 d [] (st21 s) = (B21 s).mach st21 out21 := fun s => match s with
 | .c0 x0 x1 x2 x3 x4 x5 x6 x7 => ⟨(.go 11 [] [] (.bind (f78 ((↑x3 : Int)) x7) fun x8 => (.go 4 [(.ck 0)] [] .fin))), by kernel_rfl⟩
theorem f21 (x0 : Int) (x1 : Nat) (x2 : List DV) (x3 : Nat) (x4 : List DV) (x5 : Nat) (x6 : List DV) (x7 v : Int) (h : F21 x0 x1 x2 x3 x4 x5 x6 x7 = some v) : PQ 21 [(.agg [(aI x0), (.d (.sl x1 x2)), (.d (.sl x3 x4)), (.d (.sl x5 x6))]), (aI x7)] (out21 v) := tree_pure knil ok21 (s := .c0 x0 x1 x2 x3 x4 x5 x6 x7) rfl (by kernel_rfl) v h
inductive S110 where
 | c0 (x0 : ByteArray)
 | c1 (x0 : ByteArray) (x1 : Nat)
def out110 (v : Bool) : AV := (.d (.v (.bool v)))
def st110 : S110 → ASt
 | .c0 x0 => ent cfz 110 [(.d (.v (.string x0)))]
 | .c1 x0 x1 => ⟨⟨110, sp 51 0 [(0, (.d (.v (.string x0)))), (7, (.ptr 0 0))], [(.code (cd cfz.P 110 [1, 0, 1, 0, 0])), (.inLoop (cd cfz.P 110 [1, 0, 1, 0, 0])), (.inBlock 0), (.code (cd cfz.P 110 [1, 1]))], [], false, .none⟩, [], [(.itr (.si x0 x1))]⟩
def B110 : S110 → Tr S110 (Bool)
 | .c0 x0 => (.nxt (.c1 x0 0))
 | .c1 x0 x1 => (.br (x1.blt x0.size)
 (.ask (.ltN x1 x0.size) (.triv _ (tv_s (decide ((↑(Utf8.decode x0 x1).fst : Int) ≥ 97) == true)) (.triv _ (tv_t (decide ((↑(Utf8.decode x0 x1).fst : Int) ≥ 97))) (.triv _ (tv_s ((if decide ((↑(Utf8.decode x0 x1).fst : Int) ≥ 97) = true then decide ((↑(Utf8.decode x0 x1).fst : Int) ≤ 122) else false) == false)) (.br (if decide ((↑(Utf8.decode x0 x1).fst : Int) ≥ 97) = true then decide ((↑(Utf8.decode x0 x1).fst : Int) ≤ 122) else false)
 (.nxt (.c1 x0 (x1 + (Utf8.decode x0 x1).snd)))
 (.ask (.eqB ((if decide ((↑(Utf8.decode x0 x1).fst : Int) ≥ 97) = true then decide ((↑(Utf8.decode x0 x1).fst : Int) ≤ 122) else false) == false) true) (.triv _ (tv_s (decide ((↑(Utf8.decode x0 x1).fst : Int) ≥ 65) == true)) (.triv _ (tv_t (decide ((↑(Utf8.decode x0 x1).fst : Int) ≥ 65))) (.triv _ (tv_s ((!if decide ((↑(Utf8.decode x0 x1).fst : Int) ≥ 65) = true then decide ((↑(Utf8.decode x0 x1).fst : Int) ≤ 90) else false) == true)) (.br (!if decide ((↑(Utf8.decode x0 x1).fst : Int) ≥ 65) = true then decide ((↑(Utf8.decode x0 x1).fst : Int) ≤ 90) else false)
 (.ask (.eqB ((!if decide ((↑(Utf8.decode x0 x1).fst : Int) ≥ 65) = true then decide ((↑(Utf8.decode x0 x1).fst : Int) ≤ 90) else false) == true) true) (.triv _ (tv_s (((↑x1 : Int) == 0) == false)) (.br ((↑x1 : Int) == 0)
 (.ret false)
 (.ask (.eqB (((↑x1 : Int) == 0) == false) true) (.triv _ (tv_s (((↑(Utf8.decode x0 x1).fst : Int) != 95) == true)) (.br ((↑(Utf8.decode x0 x1).fst : Int) != 95)
 (.ask (.eqB (((↑(Utf8.decode x0 x1).fst : Int) != 95) == true) true) (.triv _ (tv_s (decide ((↑(Utf8.decode x0 x1).fst : Int) < 48) == false)) (.triv _ (tv_f (decide ((↑(Utf8.decode x0 x1).fst : Int) < 48))) (.br (if decide ((↑(Utf8.decode x0 x1).fst : Int) < 48) = true then true else decide ((↑(Utf8.decode x0 x1).fst : Int) > 57))
 (.ret false)
 (.nxt (.c1 x0 (x1 + (Utf8.decode x0 x1).snd)))))))
 (.nxt (.c1 x0 (x1 + (Utf8.decode x0 x1).snd)))))))))
 (.nxt (.c1 x0 (x1 + (Utf8.decode x0 x1).snd)))))))))))))
 (.ask (.leN x0.size x1) (.triv _ (tv_s ((!eqS x0 (ByteArray.mk #[])) == true)) (.triv _ (tv_s ((!eqS x0 (ByteArray.mk #[])) == true)) (.triv _ (tv_t (!eqS x0 (ByteArray.mk #[]))) (.ret (if (!eqS x0 (ByteArray.mk #[])) = true then decide ((↑x0.size : Int) ≤ 24) else false)))))))
def F110 (x0 : ByteArray) : Option (Bool) := res B110 (.c0 x0)
theorem ok110 : ∀ s, ∃ d, xrun cfz 110 d [] (st110 s) = (B110 s).mach st110 out110 := fun s => match s with
 | .c0 x0 => ⟨(.go 12 [] [] (.cut 1 [[0, 7]] [])), by kernel_rfl⟩
 | .c1 x0 x1 => ⟨(.go 2 [] [] (.br (x1.blt x0.size) (.go 25 [(.nx true), (.br true), (.sp .none), (.sp .none), .mg, (.sp .none), (.sp .none)] [1] (.split 18 (.go 32 [(.br true), (.br false), (.br false), (.br true), .none, (.br false), (.br false), (.br false), (.br true), (.br true), (.br true), (.br false), (.br false), (.br false), (.br true), (.br true), (.br false), (.br true), (.br false), .none, (.br false)] [0, 1, 2, 3, 4, 5, 6] (.cut 1 [[0, 7]] [])) (.strip 20 (.go 14 [(.br false), (.sp .none), (.sp .none), (.br false), .mg, .none, (.sp .none), (.sp .none)] [0, 3] (.split 28 (.strip 30 (.go 3 [(.br true), (.sp .none), (.sp .none)] [0] (.split 31 (.go 17 [(.br true), (.br false), (.br false), (.br false), (.br true), (.br true), (.br false), (.br true), (.br true), .none, .none, (.br true)] [0, 1, 2, 3] .fin) (.strip 33 (.go 3 [(.br false), (.sp .none), (.sp .none)] [0] (.split 34 (.strip 36 (.go 8 [(.br true), (.sp .none), (.sp .none), (.br true), .mg, (.br false), .none, (.br true)] [0, 3, 4, 5] (.split 43 (.go 6 [(.br true)] [0] .fin) (.go 4 [(.br false)] [0] (.cut 1 [[0, 7]] []))))) (.go 12 [(.br false), (.br true), (.br true), (.br false), (.br false), .none, (.br true), .none, .none, (.br false)] [0, 1, 2, 3, 4] (.cut 1 [[0, 7]] [])))))))) (.go 18 [(.br false), (.br true), (.br true), (.br true), (.br false), (.br false), (.br false), (.br true), (.br true), (.br false), (.br true), (.br false), .none, (.br false)] [0, 1, 2] (.cut 1 [[0, 7]] []))))))) (.go 18 [(.nx false), (.br false), (.sp .none), (.sp .none), (.sp .none), .mg] [1] .fin))), by kernel_rfl⟩
theorem f110 (x0 : ByteArray) (v : Bool) (h : F110 x0 = some v) : PQ 110 [(.d (.v (.string x0)))] (out110 v) := tree_pure knil ok110 (s := .c0 x0) rfl (by kernel_rfl) v h
inductive S186 where
 | c0 (x0 : Nat) (x1 : List DV) (x2 : ByteArray)
 | c1 (x0 : Nat) (x1 : List DV) (x2 : ByteArray) (x3 x4 : Int)
def out186 (v : Int) : AV := (.d (.v (.int .i64 v)))
def st186 : S186 → ASt
 | .c0 x0 x1 x2 => ent cfz 186 [(.d (.sl x0 x1)), (.d (.v (.string x2)))]
 | .c1 x0 x1 x2 x3 x4 => ⟨⟨186, sp 19 0 [(0, (.d (.sl x0 x1))), (1, (.d (.v (.string x2)))), (7, (aI x3)), (8, (aI x4))], [(.code (cd cfz.P 186 [1, 0, 1, 0, 0])), (.inLoop (cd cfz.P 186 [1, 0, 1, 0, 0])), (.inBlock 0), (.code (cd cfz.P 186 [1, 1]))], [], false, .none⟩, [], []⟩
def B186 : S186 → Tr S186 (Int)
 | .c0 x0 x1 x2 => (.nxt (.c1 x0 x1 x2 ((↑x0 : Int)) 0))
 | .c1 x0 x1 x2 x3 x4 => (.br (decide (x4 < x3))
 (.ask (.le 0 x4) (.ask (.lt x4 ((↑x0 : Int))) (.ask (.leN (x4.toNat * 1) x1.length) (.ask (.prop (Option.map AV.d (List.drop (x4.toNat * 1) x1)[0]? = some (AV.d (DV.v (Value.string (dS (cel x1 (x4.toNat * 1)))))))) (.br (eqS x2 (dS (cel x1 (x4.toNat * 1))))
 (.ret x4)
 (.ask (.in64 (x4 + 1)) (.nxt (.c1 x0 x1 x2 x3 (x4 + 1)))))))))
 (.ret (-1)))
def F186 (x0 : Nat) (x1 : List DV) (x2 : ByteArray) : Option (Int) := res B186 (.c0 x0 x1 x2)
theorem ok186 : ∀ s, ∃ d, xrun cfz 186 d [] (st186 s) = (B186 s).mach st186 out186 := fun s => match s with
 | .c0 x0 x1 x2 => ⟨(.go 13 [] [] (.cut 0 [[0, 1, 7, 8]] [])), by kernel_rfl⟩
 | .c1 x0 x1 x2 x3 x4 => ⟨(.go 5 [] [] (.split 9 (.go 18 [(.br true), (.as (.d (.v (.string (dS (cel x1 (x4.toNat * 1)))))))] [0] (.split 16 (.go 7 [(.br true)] [0] .fin) (.go 8 [(.br false)] [0] (.cut 0 [[0, 1, 7, 8]] [])))) (.go 7 [(.br false)] [0] .fin))), by kernel_rfl⟩
theorem f186 (x0 : Nat) (x1 : List DV) (x2 : ByteArray) (v : Int) (h : F186 x0 x1 x2 = some v) : PQ 186 [(.d (.sl x0 x1)), (.d (.v (.string x2)))] (out186 v) := tree_pure knil ok186 (s := .c0 x0 x1 x2) rfl (by kernel_rfl) v h
inductive S163 where
 | c0 (x0 : Nat) (x1 : List DV) (x2 : ByteArray)
def out163 (v : Bool) : AV := (.d (.v (.bool v)))
def st163 : S163 → ASt
 | .c0 x0 x1 x2 => ent cfz 163 [(.d (.sl x0 x1)), (.d (.v (.string x2)))]
def B163 : S163 → Tr S163 (Bool)
 | .c0 x0 x1 x2 => (.bind (F186 x0 x1 x2) fun x3 =>
 (.sees [(.d (.sl x0 x1)), (.d (.v (.string x2)))] (.ret (decide (x3 ≥ 0)))))
def F163 (x0 : Nat) (x1 : List DV) (x2 : ByteArray) : Option (Bool) := res B163 (.c0 x0 x1 x2)
theorem ok163 : ∀ s, ∃ d, xrun cfz 163 d [] (st163 s) = (B163 s).mach st163 out163 := fun s => match s with
 | .c0 x0 x1 x2 => ⟨(.go 8 [] [] (.bind (f186 x0 x1 x2) fun x3 => (.go 5 [(.ck 0)] [] .fin))), by kernel_rfl⟩
theorem f163 (x0 : Nat) (x1 : List DV) (x2 : ByteArray) (v : Bool) (h : F163 x0 x1 x2 = some v) : PQ 163 [(.d (.sl x0 x1)), (.d (.v (.string x2)))] (out163 v) := tree_pure knil ok163 (s := .c0 x0 x1 x2) rfl (by kernel_rfl) v h
inductive S113 where
 | c0 (x0 : ByteArray)
def out113 (v : Int) : AV := (.d (.v (.int .i64 v)))
def st113 : S113 → ASt
 | .c0 x0 => ent cfz 113 [(.d (.v (.string x0)))]
def B113 : S113 → Tr S113 (Int)
 | .c0 x0 => (.bind (F163 3 [(.v (.string (.mk (#[111, 110])))), (.v (.string (.mk (#[111, 102, 102])))), (.v (.string (.mk (#[109, 97, 121]))))] x0) fun x1 =>
 (.sees [(.d (.sl 3 [(.v (.string (.mk (#[111, 110])))), (.v (.string (.mk (#[111, 102, 102])))), (.v (.string (.mk (#[109, 97, 121]))))])), (.d (.v (.string x0)))] (.bind (F109 (!x1) 13) fun x2 =>
 (.sees [(.d (.v (.bool (!x1)))), (aI 13)] (.ret x2)))))
def F113 (x0 : ByteArray) : Option (Int) := res B113 (.c0 x0)
theorem ok113 : ∀ s, ∃ d, xrun cfz 113 d [] (st113 s) = (B113 s).mach st113 out113 := fun s => match s with
 | .c0 x0 => ⟨(.go 8 [] [0, 1, 2, 3] (.bind (f163 3 [(.v (.string (.mk (#[111, 110])))), (.v (.string (.mk (#[111, 102, 102])))), (.v (.string (.mk (#[109, 97, 121]))))] x0) fun x1 => (.go 2 [(.ck 0)] [] (.bind (f109 (!x1) 13) fun x2 => (.go 4 [(.ck 1)] [] .fin))))), by kernel_rfl⟩
theorem f113 (x0 : ByteArray) (v : Int) (h : F113 x0 = some v) : PQ 113 [(.d (.v (.string x0)))] (out113 v) := tree_pure knil ok113 (s := .c0 x0) rfl (by kernel_rfl) v h
inductive S23 where
 | c0 (x0 : Int) (x1 : Nat) (x2 : List DV) (x3 : Nat) (x4 : List DV) (x5 : Nat) (x6 : List DV)
 | c1 (x0 : Nat) (x1 : List DV) (x2 x3 x4 : Int) (x5 : Nat) (x6 : List DV) (x7 : Nat) (x8 : List DV) (x9 : MSB)
 | c2 (x0 : Nat) (x1 : List DV) (x2 x3 x4 : Int) (x5 : Nat) (x6 : List DV) (x7 : Nat) (x8 : List DV)
def out23 (v : Int) : AV := (.d (.v (.int .i64 v)))
def st23 : S23 → ASt
 | .c0 x0 x1 x2 x3 x4 x5 x6 => ent cfz 23 [(.agg [(aI x0), (.d (.sl x1 x2)), (.d (.sl x3 x4)), (.d (.sl x5 x6))])]
 | .c1 x0 x1 x2 x3 x4 x5 x6 x7 x8 x9 => ⟨⟨23, sp 98 0 [(1, (.ptr 0 0)), (5, (.mp 1)), (39, (.d (.sl x0 x1))), (40, (aI x2)), (41, (aI x3))], [(.code (cd cfz.P 23 [1, 1, 1, 1, 0, 1, 0, 0])), (.inLoop (cd cfz.P 23 [1, 1, 1, 1, 0, 1, 0, 0])), (.inBlock 0), (.code (cd cfz.P 23 [1, 1, 1, 1, 1]))], [], false, .none⟩, [], [(.cells [(aI x4), (.d (.sl x5 x6)), (.d (.sl x0 x1)), (.d (.sl x7 x8))] 37), (.mp (.sb x9))]⟩
 | .c2 x0 x1 x2 x3 x4 x5 x6 x7 x8 => ⟨⟨23, sp 98 0 [(1, (.ptr 0 0)), (73, (.d (.sl x0 x1))), (74, (aI x2)), (75, (aI x3))], [(.code (cd cfz.P 23 [1, 1, 1, 1, 1, 1, 0, 1, 0, 0])), (.inLoop (cd cfz.P 23 [1, 1, 1, 1, 1, 1, 0, 1, 0, 0])), (.inBlock 2), (.code (cd cfz.P 23 [1, 1, 1, 1, 1, 1, 1]))], [], false, .none⟩, [], [(.cells [(aI x4), (.d (.sl x5 x6)), (.d (.sl x7 x8)), (.d (.sl x0 x1))] 37)]⟩
def B23 : S23 → Tr S23 (Int)
 | .c0 x0 x1 x2 x3 x4 x5 x6 => (.bind (F106 x0 1 8) fun x7 =>
 (.sees [(aI x0), (aI 1), (aI 8)] (.br (x7 != 0)
 (.ret x7)
 (.bind (F108 x0 x1 x2 x3 x4 x5 x6 x1 x2) fun x8 =>
 (.bind (F109 ((↑x3 : Int) == 0) 12) fun x9 =>
 (.bind (F109 (decide ((↑x3 : Int) > 16)) 5) fun xa =>
 (.bind (F107 3 [(.v (.int .i64 x8)), (.v (.int .i64 x9)), (.v (.int .i64 xa))]) fun xb =>
 (.sees [(.agg [(aI x0), (.d (.sl x1 x2)), (.d (.sl x3 x4)), (.d (.sl x5 x6))]), (.d (.sl x1 x2))] (.sees [(.d (.v (.bool ((↑x3 : Int) == 0)))), (aI 12)] (.sees [(.d (.v (.bool (decide ((↑x3 : Int) > 16))))), (aI 5)] (.sees [(.d (.sl 3 [(vI x8), (vI x9), (vI xa)]))] (.br (xb != 0)
 (.ret xb)
 (.nxt (.c1 x3 x4 ((↑x3 : Int)) 0 x0 x1 x2 x5 x6 []))))))))))))))
 | .c1 x0 x1 x2 x3 x4 x5 x6 x7 x8 x9 => (.br (decide (x3 < x2))
 (.ask (.le 0 x3) (.ask (.lt x3 ((↑x0 : Int))) (.ask (.leN (x3.toNat * 4) x1.length) (.ask (.leN 4 ((List.drop (x3.toNat * 4) x1).length)) (.ask (.prop (List.map AV.d (List.take 4 (List.drop (x3.toNat * 4) x1)) = [AV.d (DV.v (Value.string (dS (cel x1 (x3.toNat * 4))))), AV.d (DV.v (Value.int IntKind.i64 (dI (cel x1 (x3.toNat * 4 + 1))))), AV.d (DV.v (Value.int IntKind.i64 (dI (cel x1 (x3.toNat * 4 + 2))))), AV.d (DV.sl (dN (cel x1 (x3.toNat * 4 + 3))) (dL (cel x1 (x3.toNat * 4 + 3))))])) (.bind (F110 (dS (cel x1 (x3.toNat * 4)))) fun xa =>
 (.bind (F109 (!xa) 8) fun xb =>
 (.bind (F109 (mgetS x9 (dS (cel x1 (x3.toNat * 4)))) 9) fun xc =>
 (.bind (F111 x4 x5 x6 x0 x1 x7 x8 x3) fun xd =>
 (.bind (F107 3 [(.v (.int .i64 xb)), (.v (.int .i64 xc)), (.v (.int .i64 xd))]) fun xe =>
 (.sees [(.d (.v (.string (dS (cel x1 (x3.toNat * 4))))))] (.sees [(.d (.v (.bool (!xa)))), (aI 8)] (.sees [(.d (.v (.bool (mgetS x9 (dS (cel x1 (x3.toNat * 4))))))), (aI 9)] (.sees [(.agg [(aI x4), (.d (.sl x5 x6)), (.d (.sl x0 x1)), (.d (.sl x7 x8))]), (aI x3)] (.sees [(.d (.sl 3 [(vI xb), (vI xc), (vI xd)]))] (.br (xe != 0)
 (.ret xe)
 (.ask (.in64 (x3 + 1)) (.nxt (.c1 x0 x1 x2 (x3 + 1) x4 x5 x6 x7 x8 (mset x9 (dS (cel x1 (x3.toNat * 4))) true))))))))))))))))))))
 (.br (decide ((↑x7 : Int) > 16))
 (.ret 5)
 (.nxt (.c2 x7 x8 ((↑x7 : Int)) 0 x4 x5 x6 x0 x1))))
 | .c2 x0 x1 x2 x3 x4 x5 x6 x7 x8 => (.br (decide (x3 < x2))
 (.ask (.le 0 x3) (.ask (.lt x3 ((↑x0 : Int))) (.ask (.leN (x3.toNat * 3) x1.length) (.ask (.leN 3 ((List.drop (x3.toNat * 3) x1).length)) (.ask (.prop (List.map AV.d (List.take 3 (List.drop (x3.toNat * 3) x1)) = [AV.d (DV.v (Value.int IntKind.i64 (dI (cel x1 (x3.toNat * 3))))), AV.d (DV.v (Value.string (dS (cel x1 (x3.toNat * 3 + 1))))), AV.d (DV.sl (dN (cel x1 (x3.toNat * 3 + 2))) (dL (cel x1 (x3.toNat * 3 + 2))))])) (.bind (F112 x4 x5 x6 x7 x8 x0 x1 (dI (cel x1 (x3.toNat * 3)))) fun x9 =>
 (.bind (F109 (!x9) 10) fun xa =>
 (.bind (F113 (dS (cel x1 (x3.toNat * 3 + 1)))) fun xb =>
 (.bind (F108 x4 x5 x6 x7 x8 x0 x1 (dN (cel x1 (x3.toNat * 3 + 2))) (dL (cel x1 (x3.toNat * 3 + 2)))) fun xc =>
 (.bind (F107 3 [(.v (.int .i64 xa)), (.v (.int .i64 xb)), (.v (.int .i64 xc))]) fun xd =>
 (.sees [(.agg [(aI x4), (.d (.sl x5 x6)), (.d (.sl x7 x8)), (.d (.sl x0 x1))]), (aI (dI (cel x1 (x3.toNat * 3))))] (.sees [(.d (.v (.bool (!x9)))), (aI 10)] (.sees [(.d (.v (.string (dS (cel x1 (x3.toNat * 3 + 1))))))] (.sees [(.agg [(aI x4), (.d (.sl x5 x6)), (.d (.sl x7 x8)), (.d (.sl x0 x1))]), (.d (.sl (dN (cel x1 (x3.toNat * 3 + 2))) (dL (cel x1 (x3.toNat * 3 + 2)))))] (.sees [(.d (.sl 3 [(vI xa), (vI xb), (vI xc)]))] (.br (xd != 0)
 (.ret xd)
 (.ask (.in64 (x3 + 1)) (.nxt (.c2 x0 x1 x2 (x3 + 1) x4 x5 x6 x7 x8)))))))))))))))))))
 (.ret 0))
def F23 (x0 : Int) (x1 : Nat) (x2 : List DV) (x3 : Nat) (x4 : List DV) (x5 : Nat) (x6 : List DV) : Option (Int) := res B23 (.c0 x0 x1 x2 x3 x4 x5 x6)
theorem ok23 : ∀ s, ∃ d, xrun cfz 23 d [] (st23 s) = (B23 s).mach st23 out23 := fun s => match s with
 | .c0 x0 x1 x2 x3 x4 x5 x6 => ⟨(.go 10 [] [] (.bind (f106 x0 1 8) fun x7 => (.go 8 [(.ck 0)] [] (.split 16 (.go 7 [(.br true)] [0] .fin) (.go 5 [(.br false)] [0] (.bind (f108 x0 x1 x2 x3 x4 x5 x6 x1 x2) fun x8 => (.bind (f109 ((↑x3 : Int) == 0) 12) fun x9 => (.bind (f109 (decide ((↑x3 : Int) > 16)) 5) fun xa => (.bind (f107 3 [(vI x8), (vI x9), (vI xa)]) fun xb => (.go 6 [(.ck 1), (.ck 2), (.ck 3), (.ck 4)] [] (.split 35 (.go 7 [(.br true)] [0] .fin) (.go 17 [(.br false)] [0] (.ren 1 16 [] [[1, 5, 39, 40, 41]] [] (.cut 2 [[1, 5, 39, 40, 41]] [])))))))))))))), by kernel_rfl⟩
 | .c1 x0 x1 x2 x3 x4 x5 x6 x7 x8 x9 => ⟨(.go 5 [] [] (.split 42 (.go 16 [(.br true), (.as (.agg [(.d (.v (.string (dS (cel x1 (x3.toNat * 4)))))), (aI (dI (cel x1 (x3.toNat * 4 + 1)))), (aI (dI (cel x1 (x3.toNat * 4 + 2)))), (.d (.sl (dN (cel x1 (x3.toNat * 4 + 3))) (dL (cel x1 (x3.toNat * 4 + 3)))))]))] [0] (.bind (f110 (dS (cel x1 (x3.toNat * 4)))) fun xa => (.bind (f109 (!xa) 8) fun xb => (.bind (f109 (mgetS x9 (dS (cel x1 (x3.toNat * 4)))) 9) fun xc => (.bind (f111 x4 x5 x6 x0 x1 x7 x8 x3) fun xd => (.bind (f107 3 [(vI xb), (vI xc), (vI xd)]) fun xe => (.go 6 [(.ck 0), (.ck 1), (.ck 2), (.ck 3), (.ck 4)] [] (.split 62 (.go 7 [(.br true)] [0] .fin) (.go 14 [(.br false)] [0] (.cut 2 [[1, 5, 39, 40, 41]] [])))))))))) (.go 10 [(.br false)] [0] (.split 71 (.go 6 [(.br true)] [0] .fin) (.go 12 [(.br false)] [0] (.cut 1 [[1, 73, 74, 75]] [])))))), by kernel_rfl⟩
 | .c2 x0 x1 x2 x3 x4 x5 x6 x7 x8 => ⟨(.go 5 [] [] (.split 76 (.go 13 [(.br true), (.as (.agg [(aI (dI (cel x1 (x3.toNat * 3)))), (.d (.v (.string (dS (cel x1 (x3.toNat * 3 + 1)))))), (.d (.sl (dN (cel x1 (x3.toNat * 3 + 2))) (dL (cel x1 (x3.toNat * 3 + 2)))))]))] [0] (.bind (f112 x4 x5 x6 x7 x8 x0 x1 (dI (cel x1 (x3.toNat * 3)))) fun x9 => (.bind (f109 (!x9) 10) fun xa => (.bind (f113 (dS (cel x1 (x3.toNat * 3 + 1)))) fun xb => (.bind (f108 x4 x5 x6 x7 x8 x0 x1 (dN (cel x1 (x3.toNat * 3 + 2))) (dL (cel x1 (x3.toNat * 3 + 2)))) fun xc => (.bind (f107 3 [(vI xa), (vI xb), (vI xc)]) fun xd => (.go 6 [(.ck 0), (.ck 1), (.ck 2), (.ck 3), (.ck 4)] [] (.split 95 (.go 7 [(.br true)] [0] .fin) (.go 8 [(.br false)] [0] (.cut 1 [[1, 73, 74, 75]] [])))))))))) (.go 7 [(.br false)] [0] .fin))), by kernel_rfl⟩
theorem f23 (x0 : Int) (x1 : Nat) (x2 : List DV) (x3 : Nat) (x4 : List DV) (x5 : Nat) (x6 : List DV) (v : Int) (h : F23 x0 x1 x2 x3 x4 x5 x6 = some v) : PQ 23 [(.agg [(aI x0), (.d (.sl x1 x2)), (.d (.sl x3 x4)), (.d (.sl x5 x6))])] (out23 v) := tree_pure knil ok23 (s := .c0 x0 x1 x2 x3 x4 x5 x6) rfl (by kernel_rfl) v h
inductive S185 where
 | c0 (x0 : ByteArray)
 | c1 (x0 : ByteArray) (x1 : Int)
def out185 (v : Bool) : AV := (.d (.v (.bool v)))
def st185 : S185 → ASt
 | .c0 x0 => ent cfz 185 [(.d (.v (.string x0)))]
 | .c1 x0 x1 => ⟨⟨185, sp 67 0 [(0, (.d (.v (.string x0)))), (3, (aI x1))], [(.code (cd cfz.P 185 [1, 1, 0, 1, 0, 0])), (.inLoop (cd cfz.P 185 [1, 1, 0, 1, 0, 0])), (.inBlock 0), (.code (cd cfz.P 185 [1, 1, 1]))], [], false, .none⟩, [], []⟩
def B185 : S185 → Tr S185 (Bool)
 | .c0 x0 => (.triv _ (tv_s (eqS x0 (ByteArray.mk #[]) == false)) (.triv _ (tv_s (eqS x0 (ByteArray.mk #[]) == false)) (.triv _ (tv_f (eqS x0 (ByteArray.mk #[]))) (.br (if eqS x0 (ByteArray.mk #[]) = true then true else decide ((↑x0.size : Int) > 24))
 (.ret false)
 (.nxt (.c1 x0 0))))))
 | .c1 x0 x1 => (.br (decide (x1 < (↑x0.size : Int)))
 (.ask (.le 0 x1) (.ask (.ltN x1.toNat x0.size) (.br (decide ((↑(x0.data.toList.getD x1.toNat 0).toNat : Int) ≥ 97))
 (.ask (.eqB (decide ((↑(x0.data.toList.getD x1.toNat 0).toNat : Int) ≥ 97) == true) true) (.ask (.eqB (decide ((↑(x0.data.toList.getD x1.toNat 0).toNat : Int) ≥ 97) == true) true) (.ask (.le 0 x1) (.ask (.ltN x1.toNat x0.size) (.br (decide ((↑(x0.data.toList.getD x1.toNat 0).toNat : Int) ≤ 122))
 (.ask (.le 0 x1) (.ask (.ltN x1.toNat x0.size) (.br (decide ((↑(x0.data.toList.getD x1.toNat 0).toNat : Int) ≥ 48))
 (.ask (.eqB (decide ((↑(x0.data.toList.getD x1.toNat 0).toNat : Int) ≥ 48) == true) true) (.ask (.eqB (decide ((↑(x0.data.toList.getD x1.toNat 0).toNat : Int) ≥ 48) == true) true) (.ask (.le 0 x1) (.ask (.ltN x1.toNat x0.size) (.br (decide ((↑(x0.data.toList.getD x1.toNat 0).toNat : Int) ≤ 57))
 (.ask (.in64 (x1 + 1)) (.nxt (.c1 x0 (x1 + 1))))
 (.ask (.eqB (decide ((↑(x0.data.toList.getD x1.toNat 0).toNat : Int) ≤ 57) == false) true) (.ask (.eqB (decide ((↑(x0.data.toList.getD x1.toNat 0).toNat : Int) ≤ 57) == false) true) (.ask (.le 0 x1) (.ask (.ltN x1.toNat x0.size) (.ask (.in64 (x1 + 1)) (.nxt (.c1 x0 (x1 + 1)))))))))))))
 (.ask (.le 0 x1) (.ask (.ltN x1.toNat x0.size) (.ask (.in64 (x1 + 1)) (.nxt (.c1 x0 (x1 + 1)))))))))
 (.ask (.eqB (decide ((↑(x0.data.toList.getD x1.toNat 0).toNat : Int) ≤ 122) == false) true) (.ask (.eqB (decide ((↑(x0.data.toList.getD x1.toNat 0).toNat : Int) ≤ 122) == false) true) (.ask (.le 0 x1) (.ask (.ltN x1.toNat x0.size) (.br (decide ((↑(x0.data.toList.getD x1.toNat 0).toNat : Int) ≥ 65))
 (.ask (.eqB (decide ((↑(x0.data.toList.getD x1.toNat 0).toNat : Int) ≥ 65) == true) true) (.ask (.eqB (decide ((↑(x0.data.toList.getD x1.toNat 0).toNat : Int) ≥ 65) == true) true) (.ask (.le 0 x1) (.ask (.ltN x1.toNat x0.size) (.ask (.le 0 x1) (.ask (.ltN x1.toNat x0.size) (.br (decide ((↑(x0.data.toList.getD x1.toNat 0).toNat : Int) ≥ 48))
 (.ask (.eqB (decide ((↑(x0.data.toList.getD x1.toNat 0).toNat : Int) ≥ 48) == true) true) (.ask (.eqB (decide ((↑(x0.data.toList.getD x1.toNat 0).toNat : Int) ≥ 48) == true) true) (.ask (.le 0 x1) (.ask (.ltN x1.toNat x0.size) (.br (decide ((↑(x0.data.toList.getD x1.toNat 0).toNat : Int) ≤ 57))
 (.triv _ (tv_s ((!decide ((↑(x0.data.toList.getD x1.toNat 0).toNat : Int) ≤ 90)) == true)) (.br (!decide ((↑(x0.data.toList.getD x1.toNat 0).toNat : Int) ≤ 90))
 (.ask (.eqB ((!decide ((↑(x0.data.toList.getD x1.toNat 0).toNat : Int) ≤ 90)) == true) true) (.triv _ (tv_s ((x1 == 0) == false)) (.triv _ (tv_f (x1 == 0)) (.br (if (x1 == 0) = true then true else false)
 (.ret false)
 (.ask (.in64 (x1 + 1)) (.nxt (.c1 x0 (x1 + 1))))))))
 (.ask (.in64 (x1 + 1)) (.nxt (.c1 x0 (x1 + 1))))))
 (.ask (.eqB (decide ((↑(x0.data.toList.getD x1.toNat 0).toNat : Int) ≤ 57) == false) true) (.ask (.eqB (decide ((↑(x0.data.toList.getD x1.toNat 0).toNat : Int) ≤ 57) == false) true) (.ask (.le 0 x1) (.ask (.ltN x1.toNat x0.size) (.triv _ (tv_s ((!decide ((↑(x0.data.toList.getD x1.toNat 0).toNat : Int) ≤ 90)) == true)) (.br (!decide ((↑(x0.data.toList.getD x1.toNat 0).toNat : Int) ≤ 90))
 (.ask (.eqB ((!decide ((↑(x0.data.toList.getD x1.toNat 0).toNat : Int) ≤ 90)) == true) true) (.triv _ (tv_s ((x1 == 0) == false)) (.triv _ (tv_f (x1 == 0)) (.br (if (x1 == 0) = true then true else !(↑(x0.data.toList.getD x1.toNat 0).toNat : Int) == 95)
 (.ret false)
 (.ask (.in64 (x1 + 1)) (.nxt (.c1 x0 (x1 + 1))))))))
 (.ask (.in64 (x1 + 1)) (.nxt (.c1 x0 (x1 + 1)))))))))))))))
 (.ask (.le 0 x1) (.ask (.ltN x1.toNat x0.size) (.triv _ (tv_s ((!decide ((↑(x0.data.toList.getD x1.toNat 0).toNat : Int) ≤ 90)) == true)) (.br (!decide ((↑(x0.data.toList.getD x1.toNat 0).toNat : Int) ≤ 90))
 (.ask (.eqB ((!decide ((↑(x0.data.toList.getD x1.toNat 0).toNat : Int) ≤ 90)) == true) true) (.triv _ (tv_s ((x1 == 0) == false)) (.triv _ (tv_f (x1 == 0)) (.br (if (x1 == 0) = true then true else !(↑(x0.data.toList.getD x1.toNat 0).toNat : Int) == 95)
 (.ret false)
 (.ask (.in64 (x1 + 1)) (.nxt (.c1 x0 (x1 + 1))))))))
 (.ask (.in64 (x1 + 1)) (.nxt (.c1 x0 (x1 + 1)))))))))))))))
 (.ask (.le 0 x1) (.ask (.ltN x1.toNat x0.size) (.br (decide ((↑(x0.data.toList.getD x1.toNat 0).toNat : Int) ≥ 48))
 (.ask (.eqB (decide ((↑(x0.data.toList.getD x1.toNat 0).toNat : Int) ≥ 48) == true) true) (.ask (.eqB (decide ((↑(x0.data.toList.getD x1.toNat 0).toNat : Int) ≥ 48) == true) true) (.ask (.le 0 x1) (.ask (.ltN x1.toNat x0.size) (.br (decide ((↑(x0.data.toList.getD x1.toNat 0).toNat : Int) ≤ 57))
 (.triv _ (tv_s ((x1 == 0) == false)) (.triv _ (tv_f (x1 == 0)) (.br (if (x1 == 0) = true then true else false)
 (.ret false)
 (.ask (.in64 (x1 + 1)) (.nxt (.c1 x0 (x1 + 1)))))))
 (.ask (.eqB (decide ((↑(x0.data.toList.getD x1.toNat 0).toNat : Int) ≤ 57) == false) true) (.ask (.eqB (decide ((↑(x0.data.toList.getD x1.toNat 0).toNat : Int) ≤ 57) == false) true) (.ask (.le 0 x1) (.ask (.ltN x1.toNat x0.size) (.triv _ (tv_s ((x1 == 0) == false)) (.triv _ (tv_f (x1 == 0)) (.br (if (x1 == 0) = true then true else !(↑(x0.data.toList.getD x1.toNat 0).toNat : Int) == 95)
 (.ret false)
 (.ask (.in64 (x1 + 1)) (.nxt (.c1 x0 (x1 + 1))))))))))))))))
 (.ask (.le 0 x1) (.ask (.ltN x1.toNat x0.size) (.triv _ (tv_s ((x1 == 0) == false)) (.triv _ (tv_f (x1 == 0)) (.br (if (x1 == 0) = true then true else !(↑(x0.data.toList.getD x1.toNat 0).toNat : Int) == 95)
 (.ret false)
 (.ask (.in64 (x1 + 1)) (.nxt (.c1 x0 (x1 + 1))))))))))))))))))))))
 (.ask (.le 0 x1) (.ask (.ltN x1.toNat x0.size) (.br (decide ((↑(x0.data.toList.getD x1.toNat 0).toNat : Int) ≥ 65))
 (.ask (.eqB (decide ((↑(x0.data.toList.getD x1.toNat 0).toNat : Int) ≥ 65) == true) true) (.ask (.eqB (decide ((↑(x0.data.toList.getD x1.toNat 0).toNat : Int) ≥ 65) == true) true) (.ask (.le 0 x1) (.ask (.ltN x1.toNat x0.size) (.ask (.le 0 x1) (.ask (.ltN x1.toNat x0.size) (.br (decide ((↑(x0.data.toList.getD x1.toNat 0).toNat : Int) ≥ 48))
 (.ask (.eqB (decide ((↑(x0.data.toList.getD x1.toNat 0).toNat : Int) ≥ 48) == true) true) (.ask (.eqB (decide ((↑(x0.data.toList.getD x1.toNat 0).toNat : Int) ≥ 48) == true) true) (.ask (.le 0 x1) (.ask (.ltN x1.toNat x0.size) (.br (decide ((↑(x0.data.toList.getD x1.toNat 0).toNat : Int) ≤ 57))
 (.triv _ (tv_s ((!decide ((↑(x0.data.toList.getD x1.toNat 0).toNat : Int) ≤ 90)) == true)) (.br (!decide ((↑(x0.data.toList.getD x1.toNat 0).toNat : Int) ≤ 90))
 (.ask (.eqB ((!decide ((↑(x0.data.toList.getD x1.toNat 0).toNat : Int) ≤ 90)) == true) true) (.triv _ (tv_s ((x1 == 0) == false)) (.triv _ (tv_f (x1 == 0)) (.br (if (x1 == 0) = true then true else false)
 (.ret false)
 (.ask (.in64 (x1 + 1)) (.nxt (.c1 x0 (x1 + 1))))))))
 (.ask (.in64 (x1 + 1)) (.nxt (.c1 x0 (x1 + 1))))))
 (.ask (.eqB (decide ((↑(x0.data.toList.getD x1.toNat 0).toNat : Int) ≤ 57) == false) true) (.ask (.eqB (decide ((↑(x0.data.toList.getD x1.toNat 0).toNat : Int) ≤ 57) == false) true) (.ask (.le 0 x1) (.ask (.ltN x1.toNat x0.size) (.triv _ (tv_s ((!decide ((↑(x0.data.toList.getD x1.toNat 0).toNat : Int) ≤ 90)) == true)) (.br (!decide ((↑(x0.data.toList.getD x1.toNat 0).toNat : Int) ≤ 90))
 (.ask (.eqB ((!decide ((↑(x0.data.toList.getD x1.toNat 0).toNat : Int) ≤ 90)) == true) true) (.triv _ (tv_s ((x1 == 0) == false)) (.triv _ (tv_f (x1 == 0)) (.br (if (x1 == 0) = true then true else !(↑(x0.data.toList.getD x1.toNat 0).toNat : Int) == 95)
 (.ret false)
 (.ask (.in64 (x1 + 1)) (.nxt (.c1 x0 (x1 + 1))))))))
 (.ask (.in64 (x1 + 1)) (.nxt (.c1 x0 (x1 + 1)))))))))))))))
 (.ask (.le 0 x1) (.ask (.ltN x1.toNat x0.size) (.triv _ (tv_s ((!decide ((↑(x0.data.toList.getD x1.toNat 0).toNat : Int) ≤ 90)) == true)) (.br (!decide ((↑(x0.data.toList.getD x1.toNat 0).toNat : Int) ≤ 90))
 (.ask (.eqB ((!decide ((↑(x0.data.toList.getD x1.toNat 0).toNat : Int) ≤ 90)) == true) true) (.triv _ (tv_s ((x1 == 0) == false)) (.triv _ (tv_f (x1 == 0)) (.br (if (x1 == 0) = true then true else !(↑(x0.data.toList.getD x1.toNat 0).toNat : Int) == 95)
 (.ret false)
 (.ask (.in64 (x1 + 1)) (.nxt (.c1 x0 (x1 + 1))))))))
 (.ask (.in64 (x1 + 1)) (.nxt (.c1 x0 (x1 + 1)))))))))))))))
 (.ask (.le 0 x1) (.ask (.ltN x1.toNat x0.size) (.br (decide ((↑(x0.data.toList.getD x1.toNat 0).toNat : Int) ≥ 48))
 (.ask (.eqB (decide ((↑(x0.data.toList.getD x1.toNat 0).toNat : Int) ≥ 48) == true) true) (.ask (.eqB (decide ((↑(x0.data.toList.getD x1.toNat 0).toNat : Int) ≥ 48) == true) true) (.ask (.le 0 x1) (.ask (.ltN x1.toNat x0.size) (.br (decide ((↑(x0.data.toList.getD x1.toNat 0).toNat : Int) ≤ 57))
 (.triv _ (tv_s ((x1 == 0) == false)) (.triv _ (tv_f (x1 == 0)) (.br (if (x1 == 0) = true then true else false)
 (.ret false)
 (.ask (.in64 (x1 + 1)) (.nxt (.c1 x0 (x1 + 1)))))))
 (.ask (.eqB (decide ((↑(x0.data.toList.getD x1.toNat 0).toNat : Int) ≤ 57) == false) true) (.ask (.eqB (decide ((↑(x0.data.toList.getD x1.toNat 0).toNat : Int) ≤ 57) == false) true) (.ask (.le 0 x1) (.ask (.ltN x1.toNat x0.size) (.triv _ (tv_s ((x1 == 0) == false)) (.triv _ (tv_f (x1 == 0)) (.br (if (x1 == 0) = true then true else !(↑(x0.data.toList.getD x1.toNat 0).toNat : Int) == 95)
 (.ret false)
 (.ask (.in64 (x1 + 1)) (.nxt (.c1 x0 (x1 + 1))))))))))))))))
 (.ask (.le 0 x1) (.ask (.ltN x1.toNat x0.size) (.triv _ (tv_s ((x1 == 0) == false)) (.triv _ (tv_f (x1 == 0)) (.br (if (x1 == 0) = true then true else !(↑(x0.data.toList.getD x1.toNat 0).toNat : Int) == 95)
 (.ret false)
 (.ask (.in64 (x1 + 1)) (.nxt (.c1 x0 (x1 + 1))))))))))))))))))
 (.ret true))
def F185 (x0 : ByteArray) : Option (Bool) := res B185 (.c0 x0)
theorem ok185 : ∀ s, ∃ d, xrun cfz 185 d [] (st185 s) = (B185 s).mach st185 out185 := fun s => match s with
 | .c0 x0 => ⟨(.go 15 [(.sp .none), (.sp .none), (.sp .none), .mg] [] (.split 12 (.go 6 [(.br true)] [0] .fin) (.go 9 [(.br false)] [0] (.cut 0 [[0, 3]] [])))), by kernel_rfl⟩
 | .c1 x0 x1 => ⟨(.go 8 [] [] (.split 16 (.go 13 [(.br true), .none, (.sp .none), (.sp .none)] [0] (.split 23 (.strip 24 (.strip 25 (.go 6 [(.br true), .none, (.br true), .none, (.sp .none), (.sp .none)] [2, 3] (.split 29 (.go 20 [(.br true), (.br true), (.br true), (.br false), (.br false), (.br false), (.br false), (.br true), .none, .none, (.sp .none), (.sp .none)] [0, 1, 2, 3] (.split 45 (.strip 46 (.strip 47 (.go 6 [(.br true), .none, (.br true), .none, (.sp .none), (.sp .none)] [2, 3] (.split 51 (.go 27 [(.br true), (.br true), .none, (.br false), (.br false), (.br false), (.br true), (.br true), (.br false), .none, (.br false)] [0, 1, 2, 3, 4, 5, 6] (.cut 0 [[0, 3]] [])) (.strip 52 (.strip 53 (.go 27 [(.br false), .none, (.br false), .none, (.br false), (.br false), (.br false), (.br true), (.br true), (.br false), .none, (.br false)] [2, 3, 4, 5, 6, 7, 8] (.cut 0 [[0, 3]] [])))))))) (.go 33 [(.br false), (.br false), .none, (.br false), (.br false), (.br false), .none, (.br false), .none, (.br false), (.br false), (.br false), (.br true), (.br true), (.br false), .none, (.br false)] [0, 1, 2, 3, 6, 7, 8, 9, 10, 11, 12] (.cut 0 [[0, 3]] [])))) (.strip 30 (.strip 31 (.go 5 [(.br false), .none, (.br false), (.br false), (.sp .none), (.sp .none)] [2, 3, 4] (.split 34 (.strip 35 (.strip 36 (.go 15 [(.br true), .none, (.br true), (.br false), .none, .none, .none, (.sp .none), (.sp .none)] [2, 3, 4] (.split 45 (.strip 46 (.strip 47 (.go 6 [(.br true), .none, (.br true), .none, (.sp .none), (.sp .none)] [2, 3] (.split 51 (.go 12 [(.br true), (.br true), .none, (.sp .none), (.sp .none)] [0, 1] (.split 59 (.strip 61 (.go 6 [(.br true), (.sp .none), (.sp .none), (.br true), .mg] [0, 3] (.split 66 (.go 6 [(.br true)] [0] .fin) (.go 9 [(.br false)] [0] (.cut 0 [[0, 3]] []))))) (.go 15 [(.br false), (.br true), (.br true), (.br false), .none, (.br false)] [0, 1, 2] (.cut 0 [[0, 3]] [])))) (.strip 52 (.strip 53 (.go 12 [(.br false), .none, (.br false), .none, (.sp .none), (.sp .none)] [2, 3] (.split 59 (.strip 61 (.go 6 [(.br true), (.sp .none), (.sp .none), (.br true), .mg] [0, 3] (.split 66 (.go 6 [(.br true)] [0] .fin) (.go 9 [(.br false)] [0] (.cut 0 [[0, 3]] []))))) (.go 15 [(.br false), (.br true), (.br true), (.br false), .none, (.br false)] [0, 1, 2] (.cut 0 [[0, 3]] [])))))))))) (.go 18 [(.br false), (.br false), .none, (.br false), (.br false), (.br false), .none, (.br false), .none, (.sp .none), (.sp .none)] [0, 1, 2, 3, 6, 7] (.split 59 (.strip 61 (.go 6 [(.br true), (.sp .none), (.sp .none), (.br true), .mg] [0, 3] (.split 66 (.go 6 [(.br true)] [0] .fin) (.go 9 [(.br false)] [0] (.cut 0 [[0, 3]] []))))) (.go 15 [(.br false), (.br true), (.br true), (.br false), .none, (.br false)] [0, 1, 2] (.cut 0 [[0, 3]] [])))))))) (.go 15 [(.br false), (.br false), (.br false), .none, .none, .none, (.sp .none), (.sp .none)] [0, 1, 2] (.split 45 (.strip 46 (.strip 47 (.go 6 [(.br true), .none, (.br true), .none, (.sp .none), (.sp .none)] [2, 3] (.split 51 (.go 18 [(.br true), (.br true), .none, (.br true), (.br true), (.br true), (.sp .none), (.sp .none), (.br true), .mg] [0, 1, 2, 3, 4, 7] (.split 66 (.go 6 [(.br true)] [0] .fin) (.go 9 [(.br false)] [0] (.cut 0 [[0, 3]] [])))) (.strip 52 (.strip 53 (.go 18 [(.br false), .none, (.br false), .none, (.br true), (.br true), (.br true), (.sp .none), (.sp .none), (.br true), .mg] [2, 3, 4, 5, 6, 9] (.split 66 (.go 6 [(.br true)] [0] .fin) (.go 9 [(.br false)] [0] (.cut 0 [[0, 3]] [])))))))))) (.go 24 [(.br false), (.br false), .none, (.br false), (.br false), (.br false), .none, (.br false), .none, (.br true), (.br true), (.br true), (.sp .none), (.sp .none), (.br true), .mg] [0, 1, 2, 3, 6, 7, 8, 9, 10, 13] (.split 66 (.go 6 [(.br true)] [0] .fin) (.go 9 [(.br false)] [0] (.cut 0 [[0, 3]] [])))))))))))))) (.go 11 [(.br false), (.br false), .none, (.br false), (.br false), (.br false), .none, (.br false), (.br false), (.sp .none), (.sp .none)] [0, 1, 2, 3, 6, 7, 8] (.split 34 (.strip 35 (.strip 36 (.go 15 [(.br true), .none, (.br true), (.br false), .none, .none, .none, (.sp .none), (.sp .none)] [2, 3, 4] (.split 45 (.strip 46 (.strip 47 (.go 6 [(.br true), .none, (.br true), .none, (.sp .none), (.sp .none)] [2, 3] (.split 51 (.go 12 [(.br true), (.br true), .none, (.sp .none), (.sp .none)] [0, 1] (.split 59 (.strip 61 (.go 6 [(.br true), (.sp .none), (.sp .none), (.br true), .mg] [0, 3] (.split 66 (.go 6 [(.br true)] [0] .fin) (.go 9 [(.br false)] [0] (.cut 0 [[0, 3]] []))))) (.go 15 [(.br false), (.br true), (.br true), (.br false), .none, (.br false)] [0, 1, 2] (.cut 0 [[0, 3]] [])))) (.strip 52 (.strip 53 (.go 12 [(.br false), .none, (.br false), .none, (.sp .none), (.sp .none)] [2, 3] (.split 59 (.strip 61 (.go 6 [(.br true), (.sp .none), (.sp .none), (.br true), .mg] [0, 3] (.split 66 (.go 6 [(.br true)] [0] .fin) (.go 9 [(.br false)] [0] (.cut 0 [[0, 3]] []))))) (.go 15 [(.br false), (.br true), (.br true), (.br false), .none, (.br false)] [0, 1, 2] (.cut 0 [[0, 3]] [])))))))))) (.go 18 [(.br false), (.br false), .none, (.br false), (.br false), (.br false), .none, (.br false), .none, (.sp .none), (.sp .none)] [0, 1, 2, 3, 6, 7] (.split 59 (.strip 61 (.go 6 [(.br true), (.sp .none), (.sp .none), (.br true), .mg] [0, 3] (.split 66 (.go 6 [(.br true)] [0] .fin) (.go 9 [(.br false)] [0] (.cut 0 [[0, 3]] []))))) (.go 15 [(.br false), (.br true), (.br true), (.br false), .none, (.br false)] [0, 1, 2] (.cut 0 [[0, 3]] [])))))))) (.go 15 [(.br false), (.br false), (.br false), .none, .none, .none, (.sp .none), (.sp .none)] [0, 1, 2] (.split 45 (.strip 46 (.strip 47 (.go 6 [(.br true), .none, (.br true), .none, (.sp .none), (.sp .none)] [2, 3] (.split 51 (.go 18 [(.br true), (.br true), .none, (.br true), (.br true), (.br true), (.sp .none), (.sp .none), (.br true), .mg] [0, 1, 2, 3, 4, 7] (.split 66 (.go 6 [(.br true)] [0] .fin) (.go 9 [(.br false)] [0] (.cut 0 [[0, 3]] [])))) (.strip 52 (.strip 53 (.go 18 [(.br false), .none, (.br false), .none, (.br true), (.br true), (.br true), (.sp .none), (.sp .none), (.br true), .mg] [2, 3, 4, 5, 6, 9] (.split 66 (.go 6 [(.br true)] [0] .fin) (.go 9 [(.br false)] [0] (.cut 0 [[0, 3]] [])))))))))) (.go 24 [(.br false), (.br false), .none, (.br false), (.br false), (.br false), .none, (.br false), .none, (.br true), (.br true), (.br true), (.sp .none), (.sp .none), (.br true), .mg] [0, 1, 2, 3, 6, 7, 8, 9, 10, 13] (.split 66 (.go 6 [(.br true)] [0] .fin) (.go 9 [(.br false)] [0] (.cut 0 [[0, 3]] [])))))))))) (.go 7 [(.br false)] [0] .fin))), by kernel_rfl⟩
theorem f185 (x0 : ByteArray) (v : Bool) (h : F185 x0 = some v) : PQ 185 [(.d (.v (.string x0)))] (out185 v) := tree_pure knil ok185 (s := .c0 x0) rfl (by kernel_rfl) v h
inductive S160 where
 | c0 (x0 : ByteArray)
def out160 (v : Int) : AV := (.d (.v (.int .i64 v)))
def st160 : S160 → ASt
 | .c0 x0 => ent cfz 160 [(.d (.v (.string x0)))]
def B160 : S160 → Tr S160 (Int)
 | .c0 x0 => (.bind (F185 x0) fun x1 =>
 (.sees [(.d (.v (.string x0)))] (.bind (F37 (!x1) 8) fun x2 =>
 (.sees [(.d (.v (.bool (!x1)))), (aI 8)] (.ret x2)))))
def F160 (x0 : ByteArray) : Option (Int) := res B160 (.c0 x0)
theorem ok160 : ∀ s, ∃ d, xrun cfz 160 d [] (st160 s) = (B160 s).mach st160 out160 := fun s => match s with
 | .c0 x0 => ⟨(.go 7 [] [] (.bind (f185 x0) fun x1 => (.go 2 [(.ck 0)] [] (.bind (f37 (!x1) 8) fun x2 => (.go 4 [(.ck 1)] [] .fin))))), by kernel_rfl⟩
theorem f160 (x0 : ByteArray) (v : Int) (h : F160 x0 = some v) : PQ 160 [(.d (.v (.string x0)))] (out160 v) := tree_pure knil ok160 (s := .c0 x0) rfl (by kernel_rfl) v h
inductive S104 where
 | c0 (x0 : Int) (x1 : Nat) (x2 : List DV) (x3 : Nat) (x4 : List DV) (x5 : Nat) (x6 : List DV) (x7 : Int)
 | c1 (x0 x1 x2 : Int) (x3 : Nat) (x4 : List DV) (x5 : Nat) (x6 : List DV) (x7 : Nat) (x8 : List DV) (x9 : ByteArray) (xa xb : Int) (xc : Nat) (xd : List DV)
def out104 (v : Int) : AV := (.d (.v (.int .i64 v)))
def st104 : S104 → ASt
 | .c0 x0 x1 x2 x3 x4 x5 x6 x7 => ent cfz 104 [(.agg [(aI x0), (.d (.sl x1 x2)), (.d (.sl x3 x4)), (.d (.sl x5 x6))]), (aI x7)]
 | .c1 x0 x1 x2 x3 x4 x5 x6 x7 x8 x9 xa xb xc xd => ⟨⟨104, sp 85 0 [(1, (aI x0)), (2, (.ptr 0 0)), (5, (.ptr 1 0)), (7, (aI x1))], [(.code (cd cfz.P 104 [1, 1, 1, 0, 1, 0, 0])), (.inLoop (cd cfz.P 104 [1, 1, 1, 0, 1, 0, 0])), (.inBlock 0), (.code (cd cfz.P 104 [1, 1, 1, 1]))], [], false, .none⟩, [], [(.cells [(aI x2), (.d (.sl x3 x4)), (.d (.sl x5 x6)), (.d (.sl x7 x8))] 26), (.cells [(.d (.v (.string x9))), (aI xa), (aI xb), (.d (.sl xc xd))] 119)]⟩
def B104 : S104 → Tr S104 (Int)
 | .c0 x0 x1 x2 x3 x4 x5 x6 x7 => (.ask (.le 0 x7) (.ask (.lt x7 ((↑x3 : Int))) (.ask (.leN (x7.toNat * 4) x4.length) (.ask (.leN 4 ((List.drop (x7.toNat * 4) x4).length)) (.ask (.prop (List.map AV.d (List.take 4 (List.drop (x7.toNat * 4) x4)) = [AV.d (DV.v (Value.string (dS (cel x4 (x7.toNat * 4))))), AV.d (DV.v (Value.int IntKind.i64 (dI (cel x4 (x7.toNat * 4 + 1))))), AV.d (DV.v (Value.int IntKind.i64 (dI (cel x4 (x7.toNat * 4 + 2))))), AV.d (DV.sl (dN (cel x4 (x7.toNat * 4 + 3))) (dL (cel x4 (x7.toNat * 4 + 3))))])) (.bind (F160 (dS (cel x4 (x7.toNat * 4)))) fun x8 =>
 (.sees [(.d (.v (.string (dS (cel x4 (x7.toNat * 4))))))] (.br (x8 != 0)
 (.ret x8)
 (.nxt (.c1 x7 0 x0 x1 x2 x3 x4 x5 x6 (dS (cel x4 (x7.toNat * 4))) (dI (cel x4 (x7.toNat * 4 + 1))) (dI (cel x4 (x7.toNat * 4 + 2))) (dN (cel x4 (x7.toNat * 4 + 3))) (dL (cel x4 (x7.toNat * 4 + 3)))))))))))))
 | .c1 x0 x1 x2 x3 x4 x5 x6 x7 x8 x9 xa xb xc xd => (.br (decide (x1 < x0))
 (.ask (.le 0 x1) (.ask (.lt x1 ((↑x5 : Int))) (.ask (.leN (x1.toNat * 4) x6.length) (.ask (.leN 0 ((List.drop (x1.toNat * 4) x6).length)) (.ask (.prop (Option.map AV.d (List.drop 0 (List.drop (x1.toNat * 4) x6))[0]? = some (AV.d (DV.v (Value.string (dS (cel (List.drop (x1.toNat * 4) x6) 0))))))) (.br (eqS (dS (cel (List.drop (x1.toNat * 4) x6) 0)) x9)
 (.ret 9)
 (.ask (.in64 (x1 + 1)) (.nxt (.c1 x0 (x1 + 1) x2 x3 x4 x5 x6 x7 x8 x9 xa xb xc xd)))))))))
 (.br (x0 == 0)
 (.br (xa != 0)
 (.bind (F37 true 21) fun xe =>
 (.sees [(.d (.v (.bool true))), (aI 21)] (.ret xe)))
 (.br (xb != 0)
 (.bind (F37 true 21) fun xf =>
 (.sees [(.d (.v (.bool true))), (aI 21)] (.ret xf)))
 (.bind (F37 (decide ((↑xc : Int) > 0)) 21) fun xg =>
 (.sees [(.d (.v (.bool (decide ((↑xc : Int) > 0))))), (aI 21)] (.ret xg)))))
 (.br (decide (xa < 0))
 (.ret 10)
 (.br (decide (xa ≥ x0))
 (.ret 10)
 (.bind (F39 xb 1 3) fun xh =>
 (.br (decide (xa > 0))
 (.bind (F37 (dI (cel (List.drop (xa.toNat * 4) x6) 2) != xb) 24) fun xi =>
 (.bind (F103 x2 xc xd) fun xj =>
 (.bind (F20 3 [(.v (.int .i64 xh)), (.v (.int .i64 xi)), (.v (.int .i64 xj))]) fun xk =>
 (.sees [(aI xb), (aI 1), (aI 3)] (.ask (.eqB (decide (xa > 0)) true) (.ask (.eqB (decide (xa > 0)) true) (.ask (.eqB (decide (xa > 0)) true) (.ask (.eqB (decide (xa > 0)) true) (.ask (.le 0 xa) (.ask (.lt xa ((↑x5 : Int))) (.ask (.leN (xa.toNat * 4) x6.length) (.ask (.eqB (decide (xa > 0)) true) (.ask (.leN 2 ((List.drop (xa.toNat * 4) x6).length)) (.ask (.eqB (decide (xa > 0)) true) (.ask (.prop (Option.map AV.d (List.drop 2 (List.drop (xa.toNat * 4) x6))[0]? = some (AV.d (DV.v (Value.int IntKind.i64 (dI (cel (List.drop (xa.toNat * 4) x6) 2))))))) (.ask (.eqB (decide (xa > 0)) true) (.ask (.eqB (decide (xa > 0)) true) (.ask (.eqB (decide (xa > 0)) true) (.ask (.eqB (decide (xa > 0)) true) (.ask (.eqB (decide (xa > 0)) true) (.sees [(.d (.v (.bool (dI (cel (List.drop (xa.toNat * 4) x6) 2) != xb)))), (aI 24)] (.sees [(aI x2), (.d (.sl xc xd))] (.sees [(.d (.sl 3 [(vI xh), (vI xi), (vI xj)]))] (.ret xk))))))))))))))))))))))))
 (.bind (F37 false 24) fun xl =>
 (.bind (F103 x2 xc xd) fun xm =>
 (.bind (F20 3 [(.v (.int .i64 xh)), (.v (.int .i64 xl)), (.v (.int .i64 xm))]) fun xn =>
 (.sees [(aI xb), (aI 1), (aI 3)] (.ask (.eqB (decide (xa > 0)) false) (.ask (.eqB (decide (xa > 0)) false) (.ask (.eqB (decide (xa > 0)) false) (.ask (.eqB (decide (xa > 0)) false) (.ask (.eqB (decide (xa > 0)) false) (.ask (.eqB (decide (xa > 0)) false) (.ask (.eqB (decide (xa > 0)) false) (.ask (.eqB (decide (xa > 0)) false) (.ask (.eqB (decide (xa > 0)) false) (.ask (.eqB (decide (xa > 0)) false) (.ask (.eqB (decide (xa > 0)) false) (.sees [(.d (.v (.bool false))), (aI 24)] (.sees [(aI x2), (.d (.sl xc xd))] (.sees [(.d (.sl 3 [(vI xh), (vI xl), (vI xm)]))] (.ret xn)))))))))))))))))))))))))
def F104 (x0 : Int) (x1 : Nat) (x2 : List DV) (x3 : Nat) (x4 : List DV) (x5 : Nat) (x6 : List DV) (x7 : Int) : Option (Int) := res B104 (.c0 x0 x1 x2 x3 x4 x5 x6 x7)
theorem ok104 : ∀ s, ∃ d, xrun cfz 104 d [] (st104 s) = (B104 s).mach st104 out104 := fun s => match s with
 | .c0 x0 x1 x2 x3 x4 x5 x6 x7 => ⟨(.go 20 [.none, (.as (.agg [(.d (.v (.string (dS (cel x4 (x7.toNat * 4)))))), (aI (dI (cel x4 (x7.toNat * 4 + 1)))), (aI (dI (cel x4 (x7.toNat * 4 + 2)))), (.d (.sl (dN (cel x4 (x7.toNat * 4 + 3))) (dL (cel x4 (x7.toNat * 4 + 3)))))]))] [] (.bind (f160 (dS (cel x4 (x7.toNat * 4)))) fun x8 => (.go 8 [(.ck 0)] [] (.split 17 (.go 7 [(.br true)] [0] .fin) (.go 9 [(.br false)] [0] (.cut 2 [[1, 2, 5, 7]] [])))))), by kernel_rfl⟩
 | .c1 x0 x1 x2 x3 x4 x5 x6 x7 x8 x9 xa xb xc xd => ⟨(.go 7 [] [] (.split 21 (.go 7 [(.br true), .none, (.as (.d (.v (.string (dS (cel (List.drop (x1.toNat * 4) x6) 0))))))] [0] (.split 32 (.go 6 [(.br true)] [0] .fin) (.go 9 [(.br false)] [0] (.cut 2 [[1, 2, 5, 7]] [])))) (.go 8 [(.br false)] [0] (.split 34 (.go 7 [(.br true)] [0] (.split 38 (.go 10 [(.br true), (.br true), (.br true), .none, (.br true), (.br true), (.br true), (.br true)] [0, 1, 2, 3, 4, 5, 6] (.bind (f37 true 21) fun xe => (.go 4 [(.ck 0)] [] .fin))) (.go 5 [(.br false), (.br false), .none, (.br false)] [0, 1, 2] (.split 43 (.go 5 [(.br true), (.br true), (.br true), (.br true)] [0, 1, 2, 3] (.bind (f37 true 21) fun xf => (.go 4 [(.ck 0)] [] .fin))) (.go 5 [(.br false), (.br false), .none, (.br false), (.br false)] [0, 1, 2, 3] (.bind (f37 (decide ((↑xc : Int) > 0)) 21) fun xg => (.go 4 [(.ck 0)] [] .fin))))))) (.go 9 [(.br false)] [0] (.split 53 (.go 12 [(.br true), (.br true), (.br true), (.br true), .none, (.br true)] [0, 1, 2, 3, 4] .fin) (.go 6 [(.br false), (.br false), .none, (.br false), (.br false)] [0, 1, 2, 3] (.split 58 (.go 6 [(.br true)] [0] .fin) (.go 4 [(.br false)] [0] (.bind (f39 xb 1 3) fun xh => (.br (decide (xa > 0)) (.bind (f37 (dI (cel (List.drop (xa.toNat * 4) x6) 2) != xb) 24) fun xi => (.bind (f103 x2 xc xd) fun xj => (.bind (f20 3 [(vI xh), (vI xi), (vI xj)]) fun xk => (.go 2 [.none, (.ck 0), .none, (.br true), (.br true), .none, (.br true), (.br true), .none, (.br true), (.br true), (.br true), (.as (aI (dI (cel (List.drop (xa.toNat * 4) x6) 2)))), (.br true), (.br true), .none, (.br true), (.br true), (.ck 1), (.ck 2), (.ck 3)] [] .fin)))) (.bind (f37 false 24) fun xl => (.bind (f103 x2 xc xd) fun xm => (.bind (f20 3 [(vI xh), (vI xl), (vI xm)]) fun xn => (.go 2 [.none, (.ck 0), .none, (.br false), (.br false), (.br false), (.br false), (.br false), (.br false), (.br false), (.br false), (.br false), (.br false), (.br false), (.ck 1), (.ck 2), (.ck 3)] [] .fin))))))))))))))), by kernel_rfl⟩
theorem f104 (x0 : Int) (x1 : Nat) (x2 : List DV) (x3 : Nat) (x4 : List DV) (x5 : Nat) (x6 : List DV) (x7 v : Int) (h : F104 x0 x1 x2 x3 x4 x5 x6 x7 = some v) : PQ 104 [(.agg [(aI x0), (.d (.sl x1 x2)), (.d (.sl x3 x4)), (.d (.sl x5 x6))]), (aI x7)] (out104 v) := tree_pure knil ok104 (s := .c0 x0 x1 x2 x3 x4 x5 x6 x7) rfl (by kernel_rfl) v h
inductive S93 where
 | c0 (x0 : ByteArray)
def out93 (v : Int) : AV := (.d (.v (.int .i64 v)))
def st93 : S93 → ASt
 | .c0 x0 => ent cfz 93 [(.d (.v (.string x0)))]
def B93 : S93 → Tr S93 (Int)
 | .c0 x0 => (.triv _ (tv_s ((!eqS x0 (ByteArray.mk #[111, 110])) == true)) (.triv _ (tv_t (!eqS x0 (ByteArray.mk #[111, 110]))) (.triv _ (tv_s ((if (!eqS x0 (ByteArray.mk #[111, 110])) = true then !eqS x0 (ByteArray.mk #[111, 102, 102]) else false) == true)) (.triv _ (tv_t (if (!eqS x0 (ByteArray.mk #[111, 110])) = true then !eqS x0 (ByteArray.mk #[111, 102, 102]) else false)) (.bind (F37 (if (if (!eqS x0 (ByteArray.mk #[111, 110])) = true then !eqS x0 (ByteArray.mk #[111, 102, 102]) else false) = true then !eqS x0 (ByteArray.mk #[109, 97, 121]) else false) 13) fun x1 =>
 (.sees [(.d (.v (.bool (if (if (!eqS x0 (ByteArray.mk #[111, 110])) = true then !eqS x0 (ByteArray.mk #[111, 102, 102]) else false) = true then !eqS x0 (ByteArray.mk #[109, 97, 121]) else false)))), (aI 13)] (.ret x1)))))))
def F93 (x0 : ByteArray) : Option (Int) := res B93 (.c0 x0)
theorem ok93 : ∀ s, ∃ d, xrun cfz 93 d [] (st93 s) = (B93 s).mach st93 out93 := fun s => match s with
 | .c0 x0 => ⟨(.go 16 [(.sp .none), (.sp .none), .mg, (.sp .none), (.sp .none), .mg] [] (.bind (f37 (if (if (!eqS x0 (ByteArray.mk #[111, 110])) = true then !eqS x0 (ByteArray.mk #[111, 102, 102]) else false) = true then !eqS x0 (ByteArray.mk #[109, 97, 121]) else false) 13) fun x1 => (.go 4 [(.ck 0)] [] .fin))), by kernel_rfl⟩
theorem f93 (x0 : ByteArray) (v : Int) (h : F93 x0 = some v) : PQ 93 [(.d (.v (.string x0)))] (out93 v) := tree_pure knil ok93 (s := .c0 x0) rfl (by kernel_rfl) v h
inductive S19 where
 | c0 (x0 : Int) (x1 : Nat) (x2 : List DV) (x3 : Nat) (x4 : List DV) (x5 : Nat) (x6 : List DV)
 | c1 (x0 x1 : Int) (x2 : Nat) (x3 : List DV) (x4 : Nat) (x5 : List DV) (x6 : Nat) (x7 : List DV)
 | c2 (x0 x1 : Int) (x2 : Nat) (x3 : List DV) (x4 : Nat) (x5 : List DV) (x6 : Nat) (x7 : List DV)
def out19 (v : Int) : AV := (.d (.v (.int .i64 v)))
def st19 : S19 → ASt
 | .c0 x0 x1 x2 x3 x4 x5 x6 => ent cfz 19 [(.agg [(aI x0), (.d (.sl x1 x2)), (.d (.sl x3 x4)), (.d (.sl x5 x6))])]
 | .c1 x0 x1 x2 x3 x4 x5 x6 x7 => ⟨⟨19, sp 82 0 [(1, (.ptr 0 0)), (5, (aI x0))], [(.code (cd cfz.P 19 [1, 1, 1, 0, 1, 0, 0])), (.inLoop (cd cfz.P 19 [1, 1, 1, 0, 1, 0, 0])), (.inBlock 0), (.code (cd cfz.P 19 [1, 1, 1, 1]))], [], false, .none⟩, [], [(.cells [(aI x1), (.d (.sl x2 x3)), (.d (.sl x4 x5)), (.d (.sl x6 x7))] 26)]⟩
 | .c2 x0 x1 x2 x3 x4 x5 x6 x7 => ⟨⟨19, sp 82 0 [(1, (.ptr 0 0)), (7, (aI x0))], [(.code (cd cfz.P 19 [1, 1, 1, 1, 1, 0, 1, 0, 0])), (.inLoop (cd cfz.P 19 [1, 1, 1, 1, 1, 0, 1, 0, 0])), (.inBlock 2), (.code (cd cfz.P 19 [1, 1, 1, 1, 1, 1]))], [], false, .none⟩, [], [(.cells [(aI x1), (.d (.sl x2 x3)), (.d (.sl x4 x5)), (.d (.sl x6 x7))] 26)]⟩
def B19 : S19 → Tr S19 (Int)
 | .c0 x0 x1 x2 x3 x4 x5 x6 => (.bind (F39 x0 1 8) fun x7 =>
 (.sees [(aI x0), (aI 1), (aI 8)] (.br (x7 != 0)
 (.ret x7)
 (.bind (F103 x0 x1 x2) fun x8 =>
 (.bind (F37 ((↑x3 : Int) == 0) 12) fun x9 =>
 (.bind (F37 (decide ((↑x3 : Int) > 16)) 5) fun xa =>
 (.bind (F20 3 [(.v (.int .i64 x8)), (.v (.int .i64 x9)), (.v (.int .i64 xa))]) fun xb =>
 (.sees [(aI x0), (.d (.sl x1 x2))] (.sees [(.d (.v (.bool ((↑x3 : Int) == 0)))), (aI 12)] (.sees [(.d (.v (.bool (decide ((↑x3 : Int) > 16))))), (aI 5)] (.sees [(.d (.sl 3 [(vI x8), (vI x9), (vI xa)]))] (.br (xb != 0)
 (.ret xb)
 (.nxt (.c1 0 x0 x1 x2 x3 x4 x5 x6))))))))))))))
 | .c1 x0 x1 x2 x3 x4 x5 x6 x7 => (.br (decide (x0 < (↑x4 : Int)))
 (.bind (F104 x1 x2 x3 x4 x5 x6 x7 x0) fun x8 =>
 (.sees [(.agg [(aI x1), (.d (.sl x2 x3)), (.d (.sl x4 x5)), (.d (.sl x6 x7))]), (aI x0)] (.br (x8 != 0)
 (.ret x8)
 (.ask (.in64 (x0 + 1)) (.nxt (.c1 (x0 + 1) x1 x2 x3 x4 x5 x6 x7))))))
 (.br (decide ((↑x6 : Int) > 16))
 (.ret 5)
 (.nxt (.c2 0 x1 x2 x3 x4 x5 x6 x7))))
 | .c2 x0 x1 x2 x3 x4 x5 x6 x7 => (.br (decide (x0 < (↑x6 : Int)))
 (.ask (.le 0 x0) (.ask (.lt x0 ((↑x6 : Int))) (.ask (.leN (x0.toNat * 3) x7.length) (.ask (.leN 3 ((List.drop (x0.toNat * 3) x7).length)) (.ask (.prop (List.map AV.d (List.take 3 (List.drop (x0.toNat * 3) x7)) = [AV.d (DV.v (Value.int IntKind.i64 (dI (cel x7 (x0.toNat * 3))))), AV.d (DV.v (Value.string (dS (cel x7 (x0.toNat * 3 + 1))))), AV.d (DV.sl (dN (cel x7 (x0.toNat * 3 + 2))) (dL (cel x7 (x0.toNat * 3 + 2))))])) (.bind (F21 x1 x2 x3 x4 x5 x6 x7 (dI (cel x7 (x0.toNat * 3)))) fun x8 =>
 (.bind (F93 (dS (cel x7 (x0.toNat * 3 + 1)))) fun x9 =>
 (.bind (F103 x1 (dN (cel x7 (x0.toNat * 3 + 2))) (dL (cel x7 (x0.toNat * 3 + 2)))) fun xa =>
 (.bind (F20 3 [(.v (.int .i64 x8)), (.v (.int .i64 x9)), (.v (.int .i64 xa))]) fun xb =>
 (.sees [(.agg [(aI x1), (.d (.sl x2 x3)), (.d (.sl x4 x5)), (.d (.sl x6 x7))]), (aI (dI (cel x7 (x0.toNat * 3))))] (.sees [(.d (.v (.string (dS (cel x7 (x0.toNat * 3 + 1))))))] (.sees [(aI x1), (.d (.sl (dN (cel x7 (x0.toNat * 3 + 2))) (dL (cel x7 (x0.toNat * 3 + 2)))))] (.sees [(.d (.sl 3 [(vI x8), (vI x9), (vI xa)]))] (.br (xb != 0)
 (.ret xb)
 (.ask (.in64 (x0 + 1)) (.nxt (.c2 (x0 + 1) x1 x2 x3 x4 x5 x6 x7)))))))))))))))))
 (.ret 0))
def F19 (x0 : Int) (x1 : Nat) (x2 : List DV) (x3 : Nat) (x4 : List DV) (x5 : Nat) (x6 : List DV) : Option (Int) := res B19 (.c0 x0 x1 x2 x3 x4 x5 x6)
theorem ok19 : ∀ s, ∃ d, xrun cfz 19 d [] (st19 s) = (B19 s).mach st19 out19 := fun s => match s with
 | .c0 x0 x1 x2 x3 x4 x5 x6 => ⟨(.go 10 [] [] (.bind (f39 x0 1 8) fun x7 => (.go 8 [(.ck 0)] [] (.split 14 (.go 7 [(.br true)] [0] .fin) (.go 5 [(.br false)] [0] (.bind (f103 x0 x1 x2) fun x8 => (.bind (f37 ((↑x3 : Int) == 0) 12) fun x9 => (.bind (f37 (decide ((↑x3 : Int) > 16)) 5) fun xa => (.bind (f20 3 [(vI x8), (vI x9), (vI xa)]) fun xb => (.go 6 [(.ck 1), (.ck 2), (.ck 3), (.ck 4)] [] (.split 34 (.go 7 [(.br true)] [0] .fin) (.go 9 [(.br false)] [0] (.cut 1 [[1, 5]] []))))))))))))), by kernel_rfl⟩
 | .c1 x0 x1 x2 x3 x4 x5 x6 x7 => ⟨(.go 9 [] [] (.split 40 (.go 8 [(.br true)] [0] (.bind (f104 x1 x2 x3 x4 x5 x6 x7 x0) fun x8 => (.go 8 [(.ck 0)] [] (.split 47 (.go 7 [(.br true)] [0] .fin) (.go 9 [(.br false)] [0] (.cut 1 [[1, 5]] [])))))) (.go 10 [(.br false)] [0] (.split 52 (.go 6 [(.br true)] [0] .fin) (.go 9 [(.br false)] [0] (.cut 1 [[1, 7]] [])))))), by kernel_rfl⟩
 | .c2 x0 x1 x2 x3 x4 x5 x6 x7 => ⟨(.go 9 [] [] (.split 57 (.go 16 [(.br true), .none, (.as (.agg [(aI (dI (cel x7 (x0.toNat * 3)))), (.d (.v (.string (dS (cel x7 (x0.toNat * 3 + 1)))))), (.d (.sl (dN (cel x7 (x0.toNat * 3 + 2))) (dL (cel x7 (x0.toNat * 3 + 2)))))]))] [0] (.bind (f21 x1 x2 x3 x4 x5 x6 x7 (dI (cel x7 (x0.toNat * 3)))) fun x8 => (.bind (f93 (dS (cel x7 (x0.toNat * 3 + 1)))) fun x9 => (.bind (f103 x1 (dN (cel x7 (x0.toNat * 3 + 2))) (dL (cel x7 (x0.toNat * 3 + 2)))) fun xa => (.bind (f20 3 [(vI x8), (vI x9), (vI xa)]) fun xb => (.go 6 [(.ck 0), (.ck 1), (.ck 2), (.ck 3)] [] (.split 80 (.go 7 [(.br true)] [0] .fin) (.go 9 [(.br false)] [0] (.cut 1 [[1, 7]] []))))))))) (.go 7 [(.br false)] [0] .fin))), by kernel_rfl⟩
theorem f19 (x0 : Int) (x1 : Nat) (x2 : List DV) (x3 : Nat) (x4 : List DV) (x5 : Nat) (x6 : List DV) (v : Int) (h : F19 x0 x1 x2 x3 x4 x5 x6 = some v) : PQ 19 [(.agg [(aI x0), (.d (.sl x1 x2)), (.d (.sl x3 x4)), (.d (.sl x5 x6))])] (out19 v) := tree_pure knil ok19 (s := .c0 x0 x1 x2 x3 x4 x5 x6) rfl (by kernel_rfl) v h
end
end Go.Kv
