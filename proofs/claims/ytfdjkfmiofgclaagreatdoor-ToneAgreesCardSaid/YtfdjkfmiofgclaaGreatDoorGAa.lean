import Derived.Test.YtfdjkfmiofgclaaGreatDoorKvW
import Derived.Test.YtfdjkfmiofgclaaGreatDoorKvZ
import Derived.Test.YtfdjkfmiofgclaaGreatDoorKzA
import Derived.Test.YtfdjkfmiofgclaaGreatDoorKzW
import Derived.Test.YtfdjkfmiofgclaaGreatDoorKQ
namespace Go.Kv
set_option linter.all false
noncomputable section
open Go Go.RowKit Go.Proofs
set_option maxRecDepth 100000
def cfw : Cfg := { P := cfz.P, ex := false, glob := cfz.glob }
theorem knilw : KnowOk cfw.P cfw.glob cfw.K := ⟨namesB_ok names_z, by intro j kn h; simp [cfw] at h⟩
inductive S30 where
 | c0 (a9 : Nat) (a10 : List DV)
def out30 (v : Bool) : AV := (.d (.v (.bool v)))
def st30 : S30 → ASt
 | .c0 a9 a10 => ent cfz 30 [(.d (.sl a9 a10))]
def B30 : S30 → Tr S30 (Bool)
 | .c0 a9 a10 => (.ret (decide ((↑a9 : Int) ≤ 9)))
def F30 (a9 : Nat) (a10 : List DV) : Option (Bool) := res B30 (.c0 a9 a10)
theorem ok30 : ∀ s, ∃ d, xrun cfz 30 d [] (st30 s) = (B30 s).mach st30 out30 := fun s => match s with
 | .c0 a9 a10 => ⟨(.go 12 [] [] .fin), by kernel_rfl⟩
theorem f30 (a9 : Nat) (a10 : List DV) (v : Bool) (h : F30 a9 a10 = some v) : PQ 30 [(.d (.sl a9 a10))] (out30 v) := tree_pure knil ok30 (s := .c0 a9 a10) rfl (by kernel_rfl) v h
inductive S33 where
 | c0 (a19 : Nat) (a20 : List DV)
def out33 (v : Nat × List DV) : AV := (.d (.sl v.fst v.snd))
def st33 : S33 → ASt
 | .c0 a19 a20 => ent cfz 33 [(.d (.sl a19 a20))]
def B33 : S33 → Tr S33 (Nat × List DV)
 | .c0 a19 a20 => (.br (a19.beq 0)
 (.ask (.eqN a19 0) (.ret (0, [])))
 (.ask (.ltN 0 a19) (.ask (.eqN a20.length (a19 * 1)) (.ask (.fits a19 8) (.ret (a19, a20))))))
def F33 (a19 : Nat) (a20 : List DV) : Option (Nat × List DV) := res B33 (.c0 a19 a20)
theorem ok33 : ∀ s, ∃ d, xrun cfz 33 d [] (st33 s) = (B33 s).mach st33 out33 := fun s => match s with
 | .c0 a19 a20 => ⟨(.go 8 [] [] (.br (a19.beq 0) (.go 4 [(.br false)] [] .fin) (.go 4 [(.br true)] [] .fin))), by kernel_rfl⟩
theorem f33 (a19 : Nat) (a20 : List DV) (v : Nat × List DV) (h : F33 a19 a20 = some v) : PQ 33 [(.d (.sl a19 a20))] (out33 v) := tree_pure knil ok33 (s := .c0 a19 a20) rfl (by kernel_rfl) v h
inductive S109 where
 | c0 (a45 : Bool) (a46 : Int)
def out109 (v : Int) : AV := (aI v)
def st109 : S109 → ASt
 | .c0 a45 a46 => ent cfz 109 [(.d (.v (.bool a45))), (aI a46)]
def B109 : S109 → Tr S109 (Int)
 | .c0 a45 a46 => (.br a45
 (.ret a46)
 (.ret 0))
def F109 (a45 : Bool) (a46 : Int) : Option (Int) := res B109 (.c0 a45 a46)
theorem ok109 : ∀ s, ∃ d, xrun cfz 109 d [] (st109 s) = (B109 s).mach st109 out109 := fun s => match s with
 | .c0 a45 a46 => ⟨(.go 9 [] [] (.split 5 (.go 7 [(.br true)] [0] .fin) (.go 7 [(.br false)] [0] .fin))), by kernel_rfl⟩
theorem f109 (a45 : Bool) (a46 v : Int) (h : F109 a45 a46 = some v) : PQ 109 [(.d (.v (.bool a45))), (aI a46)] (out109 v) := tree_pure knil ok109 (s := .c0 a45 a46) rfl (by kernel_rfl) v h
inductive S106 where
 | c0 (a42 a43 a44 : Int)
def out106 (v : Int) : AV := (aI v)
def st106 : S106 → ASt
 | .c0 a42 a43 a44 => ent cfz 106 [(aI a42), (aI a43), (aI a44)]
def B106 : S106 → Tr S106 (Int)
 | .c0 a42 a43 a44 => (.triv _ (tv_s (decide (a42 < a43) == false)) (.triv _ (tv_s (decide (a42 < a43) == false)) (.triv _ (tv_f (decide (a42 < a43))) (.bind (F109 (if decide (a42 < a43) = true then true else decide (a42 > a44)) 3) fun v47 =>
 (.sees [(.d (.v (.bool (if decide (a42 < a43) = true then true else decide (a42 > a44))))), (aI 3)] (.ret v47))))))
def F106 (a42 a43 a44 : Int) : Option (Int) := res B106 (.c0 a42 a43 a44)
theorem ok106 : ∀ s, ∃ d, xrun cfz 106 d [] (st106 s) = (B106 s).mach st106 out106 := fun s => match s with
 | .c0 a42 a43 a44 => ⟨(.go 14 [(.sp .none), (.sp .none), (.sp .none), .mg] [] (.bind (f109 (if decide (a42 < a43) = true then true else decide (a42 > a44)) 3) fun v47 => (.go 4 [(.ck 0)] [] .fin))), by kernel_rfl⟩
theorem f106 (a42 a43 a44 v : Int) (h : F106 a42 a43 a44 = some v) : PQ 106 [(aI a42), (aI a43), (aI a44)] (out106 v) := tree_pure knil ok106 (s := .c0 a42 a43 a44) rfl (by kernel_rfl) v h
inductive S172 where
 | c0 (a67 : Int) (a68 a69 : List DV)
def out172 (v : Int) : AV := (aI v)
def st172 : S172 → ASt
 | .c0 a67 a68 a69 => ent cfz 172 [(aI a67), (.ip a68), (.ip a69)]
def B172 : S172 → Tr S172 (Int)
 | .c0 a67 a68 a69 => (.ask (.prop (Option.map AV.d a68[0]? = some (AV.d (vI (dI (cel a68 0)))))) (.ask (.prop (Option.map AV.d a69[0]? = some (AV.d (vI (dI (cel a69 0)))))) (.bind (F106 a67 (dI (cel a68 0)) (dI (cel a69 0))) fun v70 =>
 (.sees [(aI a67), (aI (dI (cel a68 0))), (aI (dI (cel a69 0)))] (.ret v70)))))
def F172 (a67 : Int) (a68 a69 : List DV) : Option (Int) := res B172 (.c0 a67 a68 a69)
theorem ok172 : ∀ s, ∃ d, xrun cfz 172 d [] (st172 s) = (B172 s).mach st172 out172 := fun s => match s with
 | .c0 a67 a68 a69 => ⟨(.go 9 [(.as (aI (dI (cel a68 0)))), (.as (aI (dI (cel a69 0))))] [] (.bind (f106 a67 (dI (cel a68 0)) (dI (cel a69 0))) fun v70 => (.go 4 [(.ck 0)] [] .fin))), by kernel_rfl⟩
theorem f172 (a67 : Int) (a68 a69 : List DV) (v : Int) (h : F172 a67 a68 a69 = some v) : PQ 172 [(aI a67), (.ip a68), (.ip a69)] (out172 v) := tree_pure knil ok172 (s := .c0 a67 a68 a69) rfl (by kernel_rfl) v h
inductive S107 where
 | c0 (x0 : Nat) (x1 : List DV)
 | c1 (x0 : Nat) (x1 : List DV) (x2 x3 : Int)
def out107 (v : Int) : AV := (aI v)
def st107 : S107 → ASt
 | .c0 x0 x1 => ent cfz 107 [(.d (.sl x0 x1))]
 | .c1 x0 x1 x2 x3 => ⟨⟨107, sp 15 0 [(5, (.d (.sl x0 x1))), (6, (aI x2)), (7, (aI x3))], [(.code (cd cfz.P 107 [1, 0, 1, 0, 0])), (.inLoop (cd cfz.P 107 [1, 0, 1, 0, 0])), (.inBlock 0), (.code (cd cfz.P 107 [1, 1]))], [], false, .none⟩, [], []⟩
def B107 : S107 → Tr S107 (Int)
 | .c0 x0 x1 => (.nxt (.c1 x0 x1 ((↑x0 : Int)) 0))
 | .c1 x0 x1 x2 x3 => (.br (decide (x3 < x2))
 (.ask (.le 0 x3) (.ask (.lt x3 ((↑x0 : Int))) (.ask (.leN (x3.toNat * 1) x1.length) (.ask (.prop (Option.map AV.d (List.drop (x3.toNat * 1) x1)[0]? = some (AV.d (vI (dI (cel x1 (x3.toNat * 1))))))) (.br (dI (cel x1 (x3.toNat * 1)) != 0)
 (.ret (dI (cel x1 (x3.toNat * 1))))
 (.ask (.in64 (x3 + 1)) (.nxt (.c1 x0 x1 x2 (x3 + 1)))))))))
 (.ret 0))
def F107 (x0 : Nat) (x1 : List DV) : Option (Int) := res B107 (.c0 x0 x1)
theorem ok107 : ∀ s, ∃ d, xrun cfz 107 d [] (st107 s) = (B107 s).mach st107 out107 := fun s => match s with
 | .c0 x0 x1 => ⟨(.go 13 [] [] (.cut 0 [[5, 6, 7]] [])), by kernel_rfl⟩
 | .c1 x0 x1 x2 x3 => ⟨(.go 5 [] [] (.split 8 (.go 15 [(.br true), (.as (aI (dI (cel x1 (x3.toNat * 1)))))] [0] (.split 12 (.go 7 [(.br true)] [0] .fin) (.go 8 [(.br false)] [0] (.cut 0 [[5, 6, 7]] [])))) (.go 7 [(.br false)] [0] .fin))), by kernel_rfl⟩
theorem f107 (x0 : Nat) (x1 : List DV) (v : Int) (h : F107 x0 x1 = some v) : PQ 107 [(.d (.sl x0 x1))] (out107 v) := tree_pure knil ok107 (s := .c0 x0 x1) rfl (by kernel_rfl) v h
inductive S126 where
 | c0 (a53 : Nat) (a54 : List DV) (a55 a56 : Int)
 | c1 (x85 : Nat) (x86 : List DV) (x87 y88 x89 x90 : Int)
 | c2 (y93 y94 : Nat) (y95 : List DV) (x96 : Nat) (x97 : List DV) (x98 y99 x0 x1 : Int) (x2 : Nat)
def out126 (v : Int) : AV := (aI v)
def st126 : S126 → ASt
 | .c0 a53 a54 a55 a56 => ent cfz 126 [(.d (.sl a53 a54)), (aI a55), (aI a56)]
 | .c1 x85 x86 x87 y88 x89 x90 => ⟨⟨171, sp 22 0 [(1, (.fn (.func 172) [] [(.ptr 0 0), (.ptr 1 0)])), (5, (.d (.v (.slice .none 0 0)))), (8, (.d (.sl x85 x86))), (9, (aI x87)), (10, (aI y88))], [(.code (cd cfz.P 171 [1, 1, 0, 1, 0, 0])), (.inLoop (cd cfz.P 171 [1, 1, 0, 1, 0, 0])), (.inBlock 0), (.code (cd cfz.P 171 [1, 1, 1]))], [], false, .none⟩, [⟨126, sp 11 0 [], [(.regC (opsAt cfz.P 126 [1, 0]) false 2), (.code (cd cfz.P 171 [1, 1, 1, 1]))], [], false, .none⟩], [(.cells [(aI x89)] 3), (.cells [(aI x90)] 3)]⟩
 | .c2 y93 y94 y95 x96 x97 x98 y99 x0 x1 x2 => ⟨⟨171, sp 22 0 [(1, (.fn (.func 172) [] [(.ptr 0 0), (.ptr 1 0)])), (5, (.own 3 y93 1 y94 y95)), (8, (.d (.sl x96 x97))), (9, (aI x98)), (10, (aI y99))], [(.code (cd cfz.P 171 [1, 1, 0, 1, 0, 0])), (.inLoop (cd cfz.P 171 [1, 1, 0, 1, 0, 0])), (.inBlock 0), (.code (cd cfz.P 171 [1, 1, 1]))], [], false, .none⟩, [⟨126, sp 11 0 [], [(.regC (opsAt cfz.P 126 [1, 0]) false 2), (.code (cd cfz.P 171 [1, 1, 1, 1]))], [], false, .none⟩], [(.cells [(aI x0)] 3), (.cells [(aI x1)] 3), (.tail 0), (.tail x2)]⟩
def B126 : S126 → Tr S126 (Int)
 | .c0 a53 a54 a55 a56 => (.nxt (.c1 a53 a54 ((↑a53 : Int)) 0 a55 a56))
 | .c1 x85 x86 x87 y88 x89 x90 => (.br (decide (y88 < x87))
 (.ask (.le 0 y88) (.ask (.lt y88 ((↑x85 : Int))) (.ask (.leN (y88.toNat * 1) x86.length) (.ask (.prop (Option.map AV.d (List.drop (y88.toNat * 1) x86)[0]? = some (AV.d (vI (dI (cel x86 (y88.toNat * 1))))))) (.bind (F172 (dI (cel x86 (y88.toNat * 1))) [(vI x89)] [(vI x90)]) fun v92 =>
 (.sees [(aI (dI (cel x86 (y88.toNat * 1)))), (.ip [(vI x89)]), (.ip [(vI x90)])] (.ask (.in64 (y88 + 1)) (.nxt (.c2 0 1 [(vI v92)] x85 x86 x87 (y88 + 1) x89 x90 0)))))))))
 (.bind (F107 0 []) fun x0 =>
 (.sees [(.d (.sl 0 []))] (.ret x0))))
 | .c2 y93 y94 y95 x96 x97 x98 y99 x0 x1 x2 => (.br (decide (y99 < x98))
 (.ask (.le 0 y99) (.ask (.lt y99 ((↑x96 : Int))) (.ask (.leN (y99.toNat * 1) x97.length) (.ask (.prop (Option.map AV.d (List.drop (y99.toNat * 1) x97)[0]? = some (AV.d (vI (dI (cel x97 (y99.toNat * 1))))))) (.bind (F172 (dI (cel x97 (y99.toNat * 1))) [(vI x0)] [(vI x1)]) fun x3 =>
 (.sees [(aI (dI (cel x97 (y99.toNat * 1)))), (.ip [(vI x0)]), (.ip [(vI x1)])] (.ask (.eqN y93 x2) (.ask (.fits (y94 + 1) 8) (.ask (.in64 (y99 + 1)) (.nxt (.c2 (x2 + 1) (y94 + 1) (y95 ++ [vI x3]) x96 x97 x98 (y99 + 1) x0 x1 (x2 + 1))))))))))))
 (.bind (F107 y94 y95) fun x4 =>
 (.sees [(.d (.sl y94 y95))] (.ret x4))))
def F126 (a53 : Nat) (a54 : List DV) (a55 a56 : Int) : Option (Int) := res B126 (.c0 a53 a54 a55 a56)
theorem ok126 : ∀ s, ∃ d, xrun cfz 126 d [] (st126 s) = (B126 s).mach st126 out126 := fun s => match s with
 | .c0 a53 a54 a55 a56 => ⟨(.go 28 [.enter] [] (.cut 2 [[1, 5, 8, 9, 10], []] [])), by kernel_rfl⟩
 | .c1 x85 x86 x87 y88 x89 x90 => ⟨(.go 5 [] [] (.split 11 (.go 14 [(.br true), (.as (aI (dI (cel x86 (y88.toNat * 1)))))] [0] (.bind (f172 (dI (cel x86 (y88.toNat * 1))) [(vI x89)] [(vI x90)]) fun v92 => (.go 11 [(.ck 0)] [1, 2, 3] (.cut 4 [[1, 5, 8, 9, 10], []] [])))) (.go 9 [(.br false)] [0] (.bind (f107 0 []) fun x0 => (.go 4 [(.ck 0)] [] .fin))))), by kernel_rfl⟩
 | .c2 y93 y94 y95 x96 x97 x98 y99 x0 x1 x2 => ⟨(.go 5 [] [] (.split 11 (.go 14 [(.br true), (.as (aI (dI (cel x97 (y99.toNat * 1)))))] [0] (.bind (f172 (dI (cel x97 (y99.toNat * 1))) [(vI x0)] [(vI x1)]) fun x3 => (.go 11 [(.ck 0)] [2, 3] (.cut 4 [[1, 5, 8, 9, 10], []] [])))) (.go 9 [(.br false)] [0] (.bind (f107 y94 y95) fun x4 => (.go 4 [(.ck 0)] [] .fin))))), by kernel_rfl⟩
theorem f126 (a53 : Nat) (a54 : List DV) (a55 a56 v : Int) (h : F126 a53 a54 a55 a56 = some v) : PQ 126 [(.d (.sl a53 a54)), (aI a55), (aI a56)] (out126 v) := tree_pure knil ok126 (s := .c0 a53 a54 a55 a56) rfl (by kernel_rfl) v h
inductive S169 where
 | c0 (a49 : Nat) (a50 : List DV)
def out169 (v : Int) : AV := (aI v)
def st169 : S169 → ASt
 | .c0 a49 a50 => ent cfz 169 [(.d (.sl a49 a50))]
def B169 : S169 → Tr S169 (Int)
 | .c0 a49 a50 => (.bind (F109 ((↑a49 : Int) == 0) 12) fun v51 =>
 (.sees [(.d (.v (.bool ((↑a49 : Int) == 0)))), (aI 12)] (.bind (F109 (decide ((↑a49 : Int) > 8)) 5) fun v52 =>
 (.sees [(.d (.v (.bool (decide ((↑a49 : Int) > 8))))), (aI 5)] (.bind (F126 a49 a50 0 6) fun x0 =>
 (.sees [(.d (.sl a49 a50)), (aI 0), (aI 6)] (.bind (F107 3 [(vI v51), (vI v52), (vI x0)]) fun x1 =>
 (.sees [(.d (.sl 3 [(vI v51), (vI v52), (vI x0)]))] (.ret x1)))))))))
def F169 (a49 : Nat) (a50 : List DV) : Option (Int) := res B169 (.c0 a49 a50)
theorem ok169 : ∀ s, ∃ d, xrun cfz 169 d [] (st169 s) = (B169 s).mach st169 out169 := fun s => match s with
 | .c0 a49 a50 => ⟨(.go 9 [] [] (.bind (f109 ((↑a49 : Int) == 0) 12) fun v51 => (.go 4 [(.ck 0)] [] (.bind (f109 (decide ((↑a49 : Int) > 8)) 5) fun v52 => (.go 2 [(.ck 1)] [] (.bind (f126 a49 a50 0 6) fun x0 => (.go 2 [(.ck 2)] [] (.bind (f107 3 [(vI v51), (vI v52), (vI x0)]) fun x1 => (.go 4 [(.ck 3)] [] .fin))))))))), by kernel_rfl⟩
theorem f169 (a49 : Nat) (a50 : List DV) (v : Int) (h : F169 a49 a50 = some v) : PQ 169 [(.d (.sl a49 a50))] (out169 v) := tree_pure knil ok169 (s := .c0 a49 a50) rfl (by kernel_rfl) v h
inductive S127 where
 | c0 (x0 : Nat) (x1 : List DV) (x2 : Nat) (x3 : List DV)
def out127 (v : Int) : AV := (aI v)
def st127 : S127 → ASt
 | .c0 x0 x1 x2 x3 => ent cfz 127 [(.d (.sl x0 x1)), (.d (.sl x2 x3))]
def B127 : S127 → Tr S127 (Int)
 | .c0 x0 x1 x2 x3 => (.bind (F109 ((↑x2 : Int) != (↑x0 : Int)) 2) fun x4 =>
 (.sees [(.d (.v (.bool ((↑x2 : Int) != (↑x0 : Int))))), (aI 2)] (.bind (F169 x2 x3) fun x5 =>
 (.sees [(.d (.sl x2 x3))] (.bind (F107 2 [(vI x4), (vI x5)]) fun x6 =>
 (.sees [(.d (.sl 2 [(vI x4), (vI x5)]))] (.ret x6)))))))
def F127 (x0 : Nat) (x1 : List DV) (x2 : Nat) (x3 : List DV) : Option (Int) := res B127 (.c0 x0 x1 x2 x3)
theorem ok127 : ∀ s, ∃ d, xrun cfz 127 d [] (st127 s) = (B127 s).mach st127 out127 := fun s => match s with
 | .c0 x0 x1 x2 x3 => ⟨(.go 11 [] [] (.bind (f109 ((↑x2 : Int) != (↑x0 : Int)) 2) fun x4 => (.go 2 [(.ck 0)] [] (.bind (f169 x2 x3) fun x5 => (.go 2 [(.ck 1)] [] (.bind (f107 2 [(vI x4), (vI x5)]) fun x6 => (.go 4 [(.ck 2)] [] .fin))))))), by kernel_rfl⟩
theorem f127 (x0 : Nat) (x1 : List DV) (x2 : Nat) (x3 : List DV) (v : Int) (h : F127 x0 x1 x2 x3 = some v) : PQ 127 [(.d (.sl x0 x1)), (.d (.sl x2 x3))] (out127 v) := tree_pure knil ok127 (s := .c0 x0 x1 x2 x3) rfl (by kernel_rfl) v h
inductive S131 where
 | c0 (a37 : Int) (a38 : Nat) (a39 : List DV) (a40 : Nat) (a41 : List DV)
def out131 (v : Int) : AV := (aI v)
def st131 : S131 → ASt
 | .c0 a37 a38 a39 a40 a41 => ent cfz 131 [(aI a37), (.d (.sl a38 a39)), (.d (.sl a40 a41))]
def B131 : S131 → Tr S131 (Int)
 | .c0 a37 a38 a39 a40 a41 => (.bind (F106 a37 0 1000000) fun v48 =>
 (.sees [(aI a37), (aI 0), (aI 1000000)] (.bind (F169 a38 a39) fun x0 =>
 (.sees [(.d (.sl a38 a39))] (.bind (F107 2 [(vI v48), (vI x0)]) fun x1 =>
 (.sees [(.d (.sl 2 [(vI v48), (vI x0)]))] (.triv _ (tv_s ((x1 != 0) == false)) (.triv _ (tv_s ((x1 != 0) == false)) (.triv _ (tv_f (x1 != 0)) (.br (if (x1 != 0) = true then true else (↑a40 : Int) == 0)
 (.ret x1)
 (.bind (F127 a38 a39 a40 a41) fun x2 =>
 (.sees [(.d (.sl a38 a39)), (.d (.sl a40 a41))] (.ret x2)))))))))))))
def F131 (a37 : Int) (a38 : Nat) (a39 : List DV) (a40 : Nat) (a41 : List DV) : Option (Int) := res B131 (.c0 a37 a38 a39 a40 a41)
theorem ok131 : ∀ s, ∃ d, xrun cfz 131 d [] (st131 s) = (B131 s).mach st131 out131 := fun s => match s with
 | .c0 a37 a38 a39 a40 a41 => ⟨(.go 8 [] [] (.bind (f106 a37 0 1000000) fun v48 => (.go 2 [(.ck 0)] [] (.bind (f169 a38 a39) fun x0 => (.go 2 [(.ck 1)] [] (.bind (f107 2 [(vI v48), (vI x0)]) fun x1 => (.go 13 [(.ck 2), (.sp .none), (.sp .none), (.sp .none), .mg] [] (.split 20 (.go 7 [(.br true)] [0] .fin) (.go 6 [(.br false)] [0] (.bind (f127 a38 a39 a40 a41) fun x2 => (.go 4 [(.ck 3)] [] .fin))))))))))), by kernel_rfl⟩
theorem f131 (a37 : Int) (a38 : Nat) (a39 : List DV) (a40 : Nat) (a41 : List DV) (v : Int) (h : F131 a37 a38 a39 a40 a41 = some v) : PQ 131 [(aI a37), (.d (.sl a38 a39)), (.d (.sl a40 a41))] (out131 v) := tree_pure knil ok131 (s := .c0 a37 a38 a39 a40 a41) rfl (by kernel_rfl) v h
inductive S55 where
 | c0 (a32 : Int) (a33 : Nat) (a34 : List DV) (a35 : Nat) (a36 : List DV)
def out55 (v : Int) : AV := (aI v)
def st55 : S55 → ASt
 | .c0 a32 a33 a34 a35 a36 => ent cfz 55 [(.agg [(aI a32), (.d (.sl a33 a34)), (.d (.sl a35 a36))])]
def B55 : S55 → Tr S55 (Int)
 | .c0 a32 a33 a34 a35 a36 => (.bind (F131 a32 a33 a34 a35 a36) fun x0 =>
 (.sees [(aI a32), (.d (.sl a33 a34)), (.d (.sl a35 a36))] (.ret x0)))
def F55 (a32 : Int) (a33 : Nat) (a34 : List DV) (a35 : Nat) (a36 : List DV) : Option (Int) := res B55 (.c0 a32 a33 a34 a35 a36)
theorem ok55 : ∀ s, ∃ d, xrun cfz 55 d [] (st55 s) = (B55 s).mach st55 out55 := fun s => match s with
 | .c0 a32 a33 a34 a35 a36 => ⟨(.go 13 [] [] (.bind (f131 a32 a33 a34 a35 a36) fun x0 => (.go 4 [(.ck 0)] [] .fin))), by kernel_rfl⟩
theorem f55 (a32 : Int) (a33 : Nat) (a34 : List DV) (a35 : Nat) (a36 : List DV) (v : Int) (h : F55 a32 a33 a34 a35 a36 = some v) : PQ 55 [(.agg [(aI a32), (.d (.sl a33 a34)), (.d (.sl a35 a36))])] (out55 v) := tree_pure knil ok55 (s := .c0 a32 a33 a34 a35 a36) rfl (by kernel_rfl) v h
inductive S129 where
 | c0 (x0 : Nat) (x1 : List DV)
def out129 (v : Nat × List DV) : AV := (.d (.sl v.fst v.snd))
def st129 : S129 → ASt
 | .c0 x0 x1 => ent cfz 129 [(.d (.sl x0 x1))]
def B129 : S129 → Tr S129 (Nat × List DV)
 | .c0 x0 x1 => (.ask (.le 0 ((↑x0 : Int))) (.ask (.le ((↑x0 : Int)) ((↑x0 : Int))) (.ask (.le (8 * (↑x0 : Int)) 281474976710656) (.ask (.le ((↑x0 : Int)) 9223372036854775807) (.ask (.eqN x1.length (x0 * 1)) (.ask (.leN (0 + min x0 (↑x0 : Int).toNat * 1) ((zerosA (List.map (fun (x : Value) => AV.d (DV.v x)) (Value.int IntKind.i64 0).cells.toList) (↑x0 : Int).toNat).length)) (.ask (.leN (0 + (↑x0 : Int).toNat * 1) ((spliceA (zerosA (List.map (fun (x : Value) => AV.d (DV.v x)) (Value.int IntKind.i64 0).cells.toList) (↑x0 : Int).toNat) 0 (List.map AV.d (List.take (min x0 (↑x0 : Int).toNat * 1) x1))).length)) (.ask (.prop (toDs (List.take ((↑x0 : Int).toNat * 1) (List.drop 0 (spliceA (zerosA (List.map (fun (x : Value) => AV.d (DV.v x)) (Value.int IntKind.i64 0).cells.toList) (↑x0 : Int).toNat) 0 (List.map AV.d (List.take (min x0 (↑x0 : Int).toNat * 1) x1))))) = some (List.map aD (List.take ((↑x0 : Int).toNat * 1) (List.drop 0 (spliceA (zerosA (List.map (fun (x : Value) => AV.d (DV.v x)) (Value.int IntKind.i64 0).cells.toList) (↑x0 : Int).toNat) 0 (List.map AV.d (List.take (min x0 (↑x0 : Int).toNat * 1) x1)))))))) (.ret (((↑x0 : Int).toNat), (List.map aD (List.take ((↑x0 : Int).toNat * 1) (List.drop 0 (spliceA (zerosA (List.map (fun (x : Value) => AV.d (DV.v x)) (Value.int IntKind.i64 0).cells.toList) (↑x0 : Int).toNat) 0 (List.map AV.d (List.take (min x0 (↑x0 : Int).toNat * 1) x1))))))))))))))))
def F129 (x0 : Nat) (x1 : List DV) : Option (Nat × List DV) := res B129 (.c0 x0 x1)
theorem ok129 : ∀ s, ∃ d, xrun cfz 129 d [] (st129 s) = (B129 s).mach st129 out129 := fun s => match s with
 | .c0 x0 x1 => ⟨(.go 23 [] [] .finP), by kernel_rfl⟩
theorem f129 (x0 : Nat) (x1 : List DV) (v : Nat × List DV) (h : F129 x0 x1 = some v) : PQ 129 [(.d (.sl x0 x1))] (out129 v) := tree_pure knil ok129 (s := .c0 x0 x1) rfl (by kernel_rfl) v h
inductive S128 where
 | c0 (x0 : Int) (x1 : Nat) (x2 : List DV) (x3 : Nat) (x4 : List DV)
def out128 (v : Int × Nat × List DV × Nat × List DV) : AV := (.agg [(aI v.fst), (.d (.sl v.snd.fst v.snd.snd.fst)), (.d (.sl v.snd.snd.snd.fst v.snd.snd.snd.snd))])
def st128 : S128 → ASt
 | .c0 x0 x1 x2 x3 x4 => ent cfz 128 [(.agg [(aI x0), (.d (.sl x1 x2)), (.d (.sl x3 x4))])]
def B128 : S128 → Tr S128 (Int × Nat × List DV × Nat × List DV)
 | .c0 x0 x1 x2 x3 x4 => (.bind (F129 x1 x2) fun x5 =>
 (.bind (F129 x3 x4) fun x6 =>
 (.sees [(.d (.sl x1 x2))] (.sees [(.d (.sl x3 x4))] (.ret (x0, x5.fst, x5.snd, x6.fst, x6.snd))))))
def F128 (x0 : Int) (x1 : Nat) (x2 : List DV) (x3 : Nat) (x4 : List DV) : Option (Int × Nat × List DV × Nat × List DV) := res B128 (.c0 x0 x1 x2 x3 x4)
theorem ok128 : ∀ s, ∃ d, xrun cfz 128 d [] (st128 s) = (B128 s).mach st128 out128 := fun s => match s with
 | .c0 x0 x1 x2 x3 x4 => ⟨(.go 7 [] [] (.bind (f129 x1 x2) fun x5 => (.bind (f129 x3 x4) fun x6 => (.go 2 [(.ck 0), (.ck 1)] [] .fin)))), by kernel_rfl⟩
theorem f128 (x0 : Int) (x1 : Nat) (x2 : List DV) (x3 : Nat) (x4 : List DV) (v : Int × Nat × List DV × Nat × List DV) (h : F128 x0 x1 x2 x3 x4 = some v) : PQ 128 [(.agg [(aI x0), (.d (.sl x1 x2)), (.d (.sl x3 x4))])] (out128 v) := tree_pure knil ok128 (s := .c0 x0 x1 x2 x3 x4) rfl (by kernel_rfl) v h
inductive S47 where
 | c0 (a25 : Int) (a26 : Nat) (a27 : List DV) (a28 : Nat) (a29 : List DV) (a30 : Nat) (a31 : List DV)
def out47 (v : Int × Nat × List DV × Nat × List DV × Int) : AV := (.tup [(.agg [(aI v.fst), (.d (.sl v.snd.fst v.snd.snd.fst)), (.d (.sl v.snd.snd.snd.fst v.snd.snd.snd.snd.fst))]), (aI v.snd.snd.snd.snd.snd)])
def st47 : S47 → ASt
 | .c0 a25 a26 a27 a28 a29 a30 a31 => ent cfz 47 [(.agg [(aI a25), (.d (.sl a26 a27)), (.d (.sl a28 a29))]), (.d (.sl a30 a31))]
def B47 : S47 → Tr S47 (Int × Nat × List DV × Nat × List DV × Int)
 | .c0 a25 a26 a27 a28 a29 a30 a31 => (.bind (F55 a25 a26 a27 a28 a29) fun x0 =>
 (.bind (F127 a26 a27 a30 a31) fun x1 =>
 (.bind (F109 (decide ((↑a28 : Int) > 0)) 31) fun x2 =>
 (.bind (F109 (a25 == 1000000) 20) fun x3 =>
 (.bind (F107 4 [(vI x0), (vI x1), (vI x2), (vI x3)]) fun x4 =>
 (.sees [(.agg [(aI a25), (.d (.sl a26 a27)), (.d (.sl a28 a29))])] (.sees [(.d (.sl a26 a27)), (.d (.sl a30 a31))] (.sees [(.d (.v (.bool (decide ((↑a28 : Int) > 0))))), (aI 31)] (.sees [(.d (.v (.bool (a25 == 1000000)))), (aI 20)] (.sees [(.d (.sl 4 [(vI x0), (vI x1), (vI x2), (vI x3)]))] (.br (x4 != 0)
 (.ret (0, 0, [], 0, [], x4))
 (.bind (F128 a25 a26 a27 a28 a29) fun x5 =>
 (.sees [(.agg [(aI a25), (.d (.sl a26 a27)), (.d (.sl a28 a29))])] (.bind (F129 a30 a31) fun x6 =>
 (.sees [(.d (.sl a30 a31))] (.ret (x5.fst, x5.snd.fst, x5.snd.snd.fst, x6.fst, x6.snd, 0)))))))))))))))))
def F47 (a25 : Int) (a26 : Nat) (a27 : List DV) (a28 : Nat) (a29 : List DV) (a30 : Nat) (a31 : List DV) : Option (Int × Nat × List DV × Nat × List DV × Int) := res B47 (.c0 a25 a26 a27 a28 a29 a30 a31)
theorem ok47 : ∀ s, ∃ d, xrun cfz 47 d [] (st47 s) = (B47 s).mach st47 out47 := fun s => match s with
 | .c0 a25 a26 a27 a28 a29 a30 a31 => ⟨(.go 9 [] [] (.bind (f55 a25 a26 a27 a28 a29) fun x0 => (.bind (f127 a26 a27 a30 a31) fun x1 => (.bind (f109 (decide ((↑a28 : Int) > 0)) 31) fun x2 => (.bind (f109 (a25 == 1000000) 20) fun x3 => (.bind (f107 4 [(vI x0), (vI x1), (vI x2), (vI x3)]) fun x4 => (.go 6 [(.ck 0), (.ck 1), (.ck 2), (.ck 3), (.ck 4)] [] (.split 26 (.go 9 [(.br true)] [0] .fin) (.go 5 [(.br false)] [0] (.bind (f128 a25 a26 a27 a28 a29) fun x5 => (.go 7 [(.ck 5)] [] (.bind (f129 a30 a31) fun x6 => (.go 11 [(.ck 6)] [] .fin))))))))))))), by kernel_rfl⟩
theorem f47 (a25 : Int) (a26 : Nat) (a27 : List DV) (a28 : Nat) (a29 : List DV) (a30 : Nat) (a31 : List DV) (v : Int × Nat × List DV × Nat × List DV × Int) (h : F47 a25 a26 a27 a28 a29 a30 a31 = some v) : PQ 47 [(.agg [(aI a25), (.d (.sl a26 a27)), (.d (.sl a28 a29))]), (.d (.sl a30 a31))] (out47 v) := tree_pure knil ok47 (s := .c0 a25 a26 a27 a28 a29 a30 a31) rfl (by kernel_rfl) v h
inductive S37 where
 | c0 (x0 : Bool) (x1 : Int)
def out37 (v : Int) : AV := (aI v)
def st37 : S37 → ASt
 | .c0 x0 x1 => ent cfz 37 [(.d (.v (.bool x0))), (aI x1)]
def B37 : S37 → Tr S37 (Int)
 | .c0 x0 x1 => (.br x0
 (.ret x1)
 (.ret 0))
def F37 (x0 : Bool) (x1 : Int) : Option (Int) := res B37 (.c0 x0 x1)
theorem ok37 : ∀ s, ∃ d, xrun cfz 37 d [] (st37 s) = (B37 s).mach st37 out37 := fun s => match s with
 | .c0 x0 x1 => ⟨(.go 9 [] [] (.split 5 (.go 7 [(.br true)] [0] .fin) (.go 7 [(.br false)] [0] .fin))), by kernel_rfl⟩
theorem f37 (x0 : Bool) (x1 v : Int) (h : F37 x0 x1 = some v) : PQ 37 [(.d (.v (.bool x0))), (aI x1)] (out37 v) := tree_pure knil ok37 (s := .c0 x0 x1) rfl (by kernel_rfl) v h
inductive S39 where
 | c0 (x0 x1 x2 : Int)
def out39 (v : Int) : AV := (aI v)
def st39 : S39 → ASt
 | .c0 x0 x1 x2 => ent cfz 39 [(aI x0), (aI x1), (aI x2)]
def B39 : S39 → Tr S39 (Int)
 | .c0 x0 x1 x2 => (.triv _ (tv_s (decide (x0 < x1) == false)) (.triv _ (tv_s (decide (x0 < x1) == false)) (.triv _ (tv_f (decide (x0 < x1))) (.bind (F37 (if decide (x0 < x1) = true then true else decide (x0 > x2)) 3) fun x3 =>
 (.sees [(.d (.v (.bool (if decide (x0 < x1) = true then true else decide (x0 > x2))))), (aI 3)] (.ret x3))))))
def F39 (x0 x1 x2 : Int) : Option (Int) := res B39 (.c0 x0 x1 x2)
theorem ok39 : ∀ s, ∃ d, xrun cfz 39 d [] (st39 s) = (B39 s).mach st39 out39 := fun s => match s with
 | .c0 x0 x1 x2 => ⟨(.go 14 [(.sp .none), (.sp .none), (.sp .none), .mg] [] (.bind (f37 (if decide (x0 < x1) = true then true else decide (x0 > x2)) 3) fun x3 => (.go 4 [(.ck 0)] [] .fin))), by kernel_rfl⟩
theorem f39 (x0 x1 x2 v : Int) (h : F39 x0 x1 x2 = some v) : PQ 39 [(aI x0), (aI x1), (aI x2)] (out39 v) := tree_pure knil ok39 (s := .c0 x0 x1 x2) rfl (by kernel_rfl) v h
inductive S20 where
 | c0 (x0 : Nat) (x1 : List DV)
 | c1 (x0 : Nat) (x1 : List DV) (x2 : Int)
def out20 (v : Int) : AV := (aI v)
def st20 : S20 → ASt
 | .c0 x0 x1 => ent cfz 20 [(.d (.sl x0 x1))]
 | .c1 x0 x1 x2 => ⟨⟨20, sp 19 0 [(0, (.d (.sl x0 x1))), (3, (aI x2))], [(.code (cd cfz.P 20 [1, 0, 1, 0, 0])), (.inLoop (cd cfz.P 20 [1, 0, 1, 0, 0])), (.inBlock 0), (.code (cd cfz.P 20 [1, 1]))], [], false, .none⟩, [], []⟩
def B20 : S20 → Tr S20 (Int)
 | .c0 x0 x1 => (.nxt (.c1 x0 x1 0))
 | .c1 x0 x1 x2 => (.br (decide (x2 < (↑x0 : Int)))
 (.ask (.le 0 x2) (.ask (.lt x2 ((↑x0 : Int))) (.ask (.leN (x2.toNat * 1) x1.length) (.ask (.prop (Option.map AV.d (List.drop (x2.toNat * 1) x1)[0]? = some (AV.d (vI (dI (cel x1 (x2.toNat * 1))))))) (.br (dI (cel x1 (x2.toNat * 1)) != 0)
 (.ask (.le 0 x2) (.ask (.lt x2 ((↑x0 : Int))) (.ask (.leN (x2.toNat * 1) x1.length) (.ask (.prop (Option.map AV.d (List.drop (x2.toNat * 1) x1)[0]? = some (AV.d (vI (dI (cel x1 (x2.toNat * 1))))))) (.ret (dI (cel x1 (x2.toNat * 1))))))))
 (.ask (.in64 (x2 + 1)) (.nxt (.c1 x0 x1 (x2 + 1)))))))))
 (.ret 0))
def F20 (x0 : Nat) (x1 : List DV) : Option (Int) := res B20 (.c0 x0 x1)
theorem ok20 : ∀ s, ∃ d, xrun cfz 20 d [] (st20 s) = (B20 s).mach st20 out20 := fun s => match s with
 | .c0 x0 x1 => ⟨(.go 11 [] [] (.cut 0 [[0, 3]] [])), by kernel_rfl⟩
 | .c1 x0 x1 x2 => ⟨(.go 8 [] [] (.split 7 (.go 12 [(.br true), (.as (aI (dI (cel x1 (x2.toNat * 1)))))] [0] (.split 14 (.go 10 [(.br true), (.as (aI (dI (cel x1 (x2.toNat * 1)))))] [0] .fin) (.go 9 [(.br false)] [0] (.cut 0 [[0, 3]] [])))) (.go 7 [(.br false)] [0] .fin))), by kernel_rfl⟩
theorem f20 (x0 : Nat) (x1 : List DV) (v : Int) (h : F20 x0 x1 = some v) : PQ 20 [(.d (.sl x0 x1))] (out20 v) := tree_pure knil ok20 (s := .c0 x0 x1) rfl (by kernel_rfl) v h
inductive S71 where
 | c0 (x0 : Nat) (x1 : List DV)
 | c1 (x0 : Nat) (x1 : List DV) (x2 : Int)
def out71 (v : Int) : AV := (aI v)
def st71 : S71 → ASt
 | .c0 x0 x1 => ent cfz 71 [(.d (.sl x0 x1))]
 | .c1 x0 x1 x2 => ⟨⟨71, sp 33 0 [(0, (.d (.sl x0 x1))), (4, (aI x2))], [(.code (cd cfz.P 71 [1, 1, 0, 1, 0, 0])), (.inLoop (cd cfz.P 71 [1, 1, 0, 1, 0, 0])), (.inBlock 0), (.code (cd cfz.P 71 [1, 1, 1]))], [], false, .none⟩, [], []⟩
def B71 : S71 → Tr S71 (Int)
 | .c0 x0 x1 => (.bind (F37 ((↑x0 : Int) == 0) 12) fun x2 =>
 (.sees [(.d (.v (.bool ((↑x0 : Int) == 0)))), (aI 12)] (.bind (F37 (decide ((↑x0 : Int) > 8)) 5) fun x3 =>
 (.sees [(.d (.v (.bool (decide ((↑x0 : Int) > 8))))), (aI 5)] (.bind (F20 2 [(vI x2), (vI x3)]) fun x4 =>
 (.sees [(.d (.sl 2 [(vI x2), (vI x3)]))] (.br (x4 != 0)
 (.ret x4)
 (.nxt (.c1 x0 x1 0)))))))))
 | .c1 x0 x1 x2 => (.br (decide (x2 < (↑x0 : Int)))
 (.ask (.le 0 x2) (.ask (.lt x2 ((↑x0 : Int))) (.ask (.leN (x2.toNat * 1) x1.length) (.ask (.prop (Option.map AV.d (List.drop (x2.toNat * 1) x1)[0]? = some (AV.d (vI (dI (cel x1 (x2.toNat * 1))))))) (.bind (F39 (dI (cel x1 (x2.toNat * 1))) 0 6) fun x3 =>
 (.sees [(aI (dI (cel x1 (x2.toNat * 1)))), (aI 0), (aI 6)] (.br (x3 != 0)
 (.ret x3)
 (.ask (.in64 (x2 + 1)) (.nxt (.c1 x0 x1 (x2 + 1)))))))))))
 (.ret 0))
def F71 (x0 : Nat) (x1 : List DV) : Option (Int) := res B71 (.c0 x0 x1)
theorem ok71 : ∀ s, ∃ d, xrun cfz 71 d [] (st71 s) = (B71 s).mach st71 out71 := fun s => match s with
 | .c0 x0 x1 => ⟨(.go 10 [] [] (.bind (f37 ((↑x0 : Int) == 0) 12) fun x2 => (.go 4 [(.ck 0)] [] (.bind (f37 (decide ((↑x0 : Int) > 8)) 5) fun x3 => (.go 2 [(.ck 1)] [] (.bind (f20 2 [(vI x2), (vI x3)]) fun x4 => (.go 8 [(.ck 2)] [] (.split 17 (.go 7 [(.br true)] [0] .fin) (.go 9 [(.br false)] [0] (.cut 0 [[0, 4]] [])))))))))), by kernel_rfl⟩
 | .c1 x0 x1 x2 => ⟨(.go 8 [] [] (.split 22 (.go 10 [(.br true), (.as (aI (dI (cel x1 (x2.toNat * 1)))))] [0] (.bind (f39 (dI (cel x1 (x2.toNat * 1))) 0 6) fun x3 => (.go 8 [(.ck 0)] [] (.split 31 (.go 7 [(.br true)] [0] .fin) (.go 9 [(.br false)] [0] (.cut 0 [[0, 4]] [])))))) (.go 7 [(.br false)] [0] .fin))), by kernel_rfl⟩
theorem f71 (x0 : Nat) (x1 : List DV) (v : Int) (h : F71 x0 x1 = some v) : PQ 71 [(.d (.sl x0 x1))] (out71 v) := tree_pure knil ok71 (s := .c0 x0 x1) rfl (by kernel_rfl) v h
inductive S65 where
 | c0 (x0 : Nat) (x1 : List DV) (x2 : Nat) (x3 : List DV)
 | c1 (x0 : Nat) (x1 : List DV) (x2 : Nat) (x3 : List DV) (x4 : Int)
def out65 (v : Bool) : AV := (.d (.v (.bool v)))
def st65 : S65 → ASt
 | .c0 x0 x1 x2 x3 => ent cfz 65 [(.d (.sl x0 x1)), (.d (.sl x2 x3))]
 | .c1 x0 x1 x2 x3 x4 => ⟨⟨65, sp 26 0 [(0, (.d (.sl x0 x1))), (1, (.d (.sl x2 x3))), (5, (aI x4))], [(.code (cd cfz.P 65 [1, 1, 0, 1, 0, 0])), (.inLoop (cd cfz.P 65 [1, 1, 0, 1, 0, 0])), (.inBlock 0), (.code (cd cfz.P 65 [1, 1, 1]))], [], false, .none⟩, [], []⟩
def B65 : S65 → Tr S65 (Bool)
 | .c0 x0 x1 x2 x3 => (.br ((↑x0 : Int) != (↑x2 : Int))
 (.ret false)
 (.nxt (.c1 x0 x1 x2 x3 0)))
 | .c1 x0 x1 x2 x3 x4 => (.br (decide (x4 < (↑x0 : Int)))
 (.ask (.le 0 x4) (.ask (.lt x4 ((↑x0 : Int))) (.ask (.leN (x4.toNat * 1) x1.length) (.ask (.prop (Option.map AV.d (List.drop (x4.toNat * 1) x1)[0]? = some (AV.d (vI (dI (cel x1 (x4.toNat * 1))))))) (.ask (.le 0 x4) (.ask (.lt x4 ((↑x2 : Int))) (.ask (.leN (x4.toNat * 1) x3.length) (.ask (.prop (Option.map AV.d (List.drop (x4.toNat * 1) x3)[0]? = some (AV.d (vI (dI (cel x3 (x4.toNat * 1))))))) (.br (dI (cel x1 (x4.toNat * 1)) != dI (cel x3 (x4.toNat * 1)))
 (.ret false)
 (.ask (.in64 (x4 + 1)) (.nxt (.c1 x0 x1 x2 x3 (x4 + 1)))))))))))))
 (.ret true))
def F65 (x0 : Nat) (x1 : List DV) (x2 : Nat) (x3 : List DV) : Option (Bool) := res B65 (.c0 x0 x1 x2 x3)
theorem ok65 : ∀ s, ∃ d, xrun cfz 65 d [] (st65 s) = (B65 s).mach st65 out65 := fun s => match s with
 | .c0 x0 x1 x2 x3 => ⟨(.go 13 [] [] (.split 10 (.go 6 [(.br true)] [0] .fin) (.go 9 [(.br false)] [0] (.cut 0 [[0, 1, 5]] [])))), by kernel_rfl⟩
 | .c1 x0 x1 x2 x3 x4 => ⟨(.go 8 [] [] (.split 14 (.go 7 [(.br true), (.as (aI (dI (cel x1 (x4.toNat * 1))))), (.as (aI (dI (cel x3 (x4.toNat * 1)))))] [0] (.split 25 (.go 6 [(.br true)] [0] .fin) (.go 9 [(.br false)] [0] (.cut 0 [[0, 1, 5]] [])))) (.go 7 [(.br false)] [0] .fin))), by kernel_rfl⟩
theorem f65 (x0 : Nat) (x1 : List DV) (x2 : Nat) (x3 : List DV) (v : Bool) (h : F65 x0 x1 x2 x3 = some v) : PQ 65 [(.d (.sl x0 x1)), (.d (.sl x2 x3))] (out65 v) := tree_pure knil ok65 (s := .c0 x0 x1 x2 x3) rfl (by kernel_rfl) v h
inductive S63 where
 | c0 (x0 : Int) (x1 : Nat) (x2 : List DV) (x3 : Nat) (x4 : List DV)
def out63 (v : Int) : AV := (aI v)
def st63 : S63 → ASt
 | .c0 x0 x1 x2 x3 x4 => ent cfz 63 [(.agg [(aI x0), (.d (.sl x1 x2)), (.d (.sl x3 x4))])]
def B63 : S63 → Tr S63 (Int)
 | .c0 x0 x1 x2 x3 x4 => (.bind (F131 x0 x1 x2 x3 x4) fun x5 =>
 (.sees [(aI x0), (.d (.sl x1 x2)), (.d (.sl x3 x4))] (.ret x5)))
def F63 (x0 : Int) (x1 : Nat) (x2 : List DV) (x3 : Nat) (x4 : List DV) : Option (Int) := res B63 (.c0 x0 x1 x2 x3 x4)
theorem ok63 : ∀ s, ∃ d, xrun cfz 63 d [] (st63 s) = (B63 s).mach st63 out63 := fun s => match s with
 | .c0 x0 x1 x2 x3 x4 => ⟨(.go 13 [] [] (.bind (f131 x0 x1 x2 x3 x4) fun x5 => (.go 4 [(.ck 0)] [] .fin))), by kernel_rfl⟩
theorem f63 (x0 : Int) (x1 : Nat) (x2 : List DV) (x3 : Nat) (x4 : List DV) (v : Int) (h : F63 x0 x1 x2 x3 x4 = some v) : PQ 63 [(.agg [(aI x0), (.d (.sl x1 x2)), (.d (.sl x3 x4))])] (out63 v) := tree_pure knil ok63 (s := .c0 x0 x1 x2 x3 x4) rfl (by kernel_rfl) v h
inductive S132 where
 | c0 (x0 : Int) (x1 : Nat) (x2 : List DV) (x3 : Nat) (x4 : List DV)
def out132 (v : Int × Nat × List DV × Nat × List DV) : AV := (.agg [(aI v.fst), (.d (.sl v.snd.fst v.snd.snd.fst)), (.d (.sl v.snd.snd.snd.fst v.snd.snd.snd.snd))])
def st132 : S132 → ASt
 | .c0 x0 x1 x2 x3 x4 => ent cfz 132 [(.agg [(aI x0), (.d (.sl x1 x2)), (.d (.sl x3 x4))])]
def B132 : S132 → Tr S132 (Int × Nat × List DV × Nat × List DV)
 | .c0 x0 x1 x2 x3 x4 => (.bind (F129 x1 x2) fun x5 =>
 (.bind (F129 x3 x4) fun x6 =>
 (.sees [(.d (.sl x1 x2))] (.sees [(.d (.sl x3 x4))] (.ret (x0, x5.fst, x5.snd, x6.fst, x6.snd))))))
def F132 (x0 : Int) (x1 : Nat) (x2 : List DV) (x3 : Nat) (x4 : List DV) : Option (Int × Nat × List DV × Nat × List DV) := res B132 (.c0 x0 x1 x2 x3 x4)
theorem ok132 : ∀ s, ∃ d, xrun cfz 132 d [] (st132 s) = (B132 s).mach st132 out132 := fun s => match s with
 | .c0 x0 x1 x2 x3 x4 => ⟨(.go 7 [] [] (.bind (f129 x1 x2) fun x5 => (.bind (f129 x3 x4) fun x6 => (.go 2 [(.ck 0), (.ck 1)] [] .fin)))), by kernel_rfl⟩
theorem f132 (x0 : Int) (x1 : Nat) (x2 : List DV) (x3 : Nat) (x4 : List DV) (v : Int × Nat × List DV × Nat × List DV) (h : F132 x0 x1 x2 x3 x4 = some v) : PQ 132 [(.agg [(aI x0), (.d (.sl x1 x2)), (.d (.sl x3 x4))])] (out132 v) := tree_pure knil ok132 (s := .c0 x0 x1 x2 x3 x4) rfl (by kernel_rfl) v h
inductive S133 where
 | c0 (x0 : Nat) (x1 : List DV) (x2 : Nat) (x3 : List DV)
 | c1 (x0 : Nat) (x1 : List DV) (x2 : Nat) (x3 : List DV) (x4 x5 : Int)
def out133 (v : Bool) : AV := (.d (.v (.bool v)))
def st133 : S133 → ASt
 | .c0 x0 x1 x2 x3 => ent cfz 133 [(.d (.sl x0 x1)), (.d (.sl x2 x3))]
 | .c1 x0 x1 x2 x3 x4 x5 => ⟨⟨133, sp 26 0 [(0, (.d (.sl x0 x1))), (1, (.d (.sl x2 x3))), (12, (aI x4)), (13, (aI x5))], [(.code (cd cfz.P 133 [1, 1, 0, 1, 0, 0])), (.inLoop (cd cfz.P 133 [1, 1, 0, 1, 0, 0])), (.inBlock 0), (.code (cd cfz.P 133 [1, 1, 1]))], [], false, .none⟩, [], []⟩
def B133 : S133 → Tr S133 (Bool)
 | .c0 x0 x1 x2 x3 => (.br ((↑x0 : Int) != (↑x2 : Int))
 (.ret false)
 (.nxt (.c1 x0 x1 x2 x3 ((↑x0 : Int)) 0)))
 | .c1 x0 x1 x2 x3 x4 x5 => (.br (decide (x5 < x4))
 (.ask (.le 0 x5) (.ask (.lt x5 ((↑x0 : Int))) (.ask (.leN (x5.toNat * 1) x1.length) (.ask (.prop (Option.map AV.d (List.drop (x5.toNat * 1) x1)[0]? = some (AV.d (vI (dI (cel x1 (x5.toNat * 1))))))) (.ask (.le 0 x5) (.ask (.lt x5 ((↑x2 : Int))) (.ask (.leN (x5.toNat * 1) x3.length) (.ask (.prop (Option.map AV.d (List.drop (x5.toNat * 1) x3)[0]? = some (AV.d (vI (dI (cel x3 (x5.toNat * 1))))))) (.br (dI (cel x1 (x5.toNat * 1)) != dI (cel x3 (x5.toNat * 1)))
 (.ret false)
 (.ask (.in64 (x5 + 1)) (.nxt (.c1 x0 x1 x2 x3 x4 (x5 + 1)))))))))))))
 (.ret true))
def F133 (x0 : Nat) (x1 : List DV) (x2 : Nat) (x3 : List DV) : Option (Bool) := res B133 (.c0 x0 x1 x2 x3)
theorem ok133 : ∀ s, ∃ d, xrun cfz 133 d [] (st133 s) = (B133 s).mach st133 out133 := fun s => match s with
 | .c0 x0 x1 x2 x3 => ⟨(.go 13 [] [] (.split 10 (.go 6 [(.br true)] [0] .fin) (.go 11 [(.br false)] [0] (.cut 0 [[0, 1, 12, 13]] [])))), by kernel_rfl⟩
 | .c1 x0 x1 x2 x3 x4 x5 => ⟨(.go 5 [] [] (.split 14 (.go 12 [(.br true), (.as (aI (dI (cel x1 (x5.toNat * 1))))), (.as (aI (dI (cel x3 (x5.toNat * 1)))))] [0] (.split 24 (.go 6 [(.br true)] [0] .fin) (.go 8 [(.br false)] [0] (.cut 0 [[0, 1, 12, 13]] [])))) (.go 7 [(.br false)] [0] .fin))), by kernel_rfl⟩
theorem f133 (x0 : Nat) (x1 : List DV) (x2 : Nat) (x3 : List DV) (v : Bool) (h : F133 x0 x1 x2 x3 = some v) : PQ 133 [(.d (.sl x0 x1)), (.d (.sl x2 x3))] (out133 v) := tree_pure knil ok133 (s := .c0 x0 x1 x2 x3) rfl (by kernel_rfl) v h
inductive S49 where
 | c0 (x0 : Int) (x1 : Nat) (x2 : List DV) (x3 : Nat) (x4 : List DV) (x5 : Int)
def out49 (v : Int × Nat × List DV × Nat × List DV × Int) : AV := (.tup [(.agg [(aI v.fst), (.d (.sl v.snd.fst v.snd.snd.fst)), (.d (.sl v.snd.snd.snd.fst v.snd.snd.snd.snd.fst))]), (aI v.snd.snd.snd.snd.snd)])
def st49 : S49 → ASt
 | .c0 x0 x1 x2 x3 x4 x5 => ent cfw 49 [(.agg [(aI x0), (.d (.sl x1 x2)), (.d (.sl x3 x4))]), (aI x5)]
def B49 : S49 → Tr S49 (Int × Nat × List DV × Nat × List DV × Int)
 | .c0 x0 x1 x2 x3 x4 x5 => (.bind (F55 x0 x1 x2 x3 x4) fun x6 =>
 (.bind (F106 x5 0 1000000) fun x7 =>
 (.bind (F109 (decide (x5 > IntKind.i64.wrap (x0 + 1))) 24) fun x8 =>
 (.br (x5 == IntKind.i64.wrap (x0 + 1))
 (.bind (F109 ((↑x3 : Int) == 0) 7) fun x9 =>
 (.bind (F107 4 [(vI x6), (vI x7), (vI x8), (vI x9)]) fun xa =>
 (.sees [(.agg [(aI x0), (.d (.sl x1 x2)), (.d (.sl x3 x4))])] (.sees [(aI x5), (aI 0), (aI 1000000)] (.sees [(.d (.v (.bool (decide (x5 > IntKind.i64.wrap (x0 + 1)))))), (aI 24)] (.ask (.eqB (x5 == IntKind.i64.wrap (x0 + 1)) true) (.ask (.eqB (x5 == IntKind.i64.wrap (x0 + 1)) true) (.ask (.eqB (x5 == IntKind.i64.wrap (x0 + 1)) true) (.ask (.eqB (x5 == IntKind.i64.wrap (x0 + 1)) true) (.ask (.eqB (x5 == IntKind.i64.wrap (x0 + 1)) true) (.sees [(.d (.v (.bool ((↑x3 : Int) == 0)))), (aI 7)] (.sees [(.d (.sl 4 [(vI x6), (vI x7), (vI x8), (vI x9)]))] (.br (xa != 0)
 (.ret (0, 0, [], 0, [], xa))
 (.bind (F128 x0 x1 x2 x3 x4) fun xb =>
 (.sees [(.agg [(aI x0), (.d (.sl x1 x2)), (.d (.sl x3 x4))])] (.ask (.eqB (x5 == IntKind.i64.wrap (x0 + 1)) true) (.bind (F129 x3 x4) fun xc =>
 (.sees [(.d (.sl x3 x4))] (.ret (x5, xc.fst, xc.snd, 0, [], 0))))))))))))))))))))
 (.bind (F109 false 7) fun xd =>
 (.bind (F107 4 [(vI x6), (vI x7), (vI x8), (vI xd)]) fun xe =>
 (.sees [(.agg [(aI x0), (.d (.sl x1 x2)), (.d (.sl x3 x4))])] (.sees [(aI x5), (aI 0), (aI 1000000)] (.sees [(.d (.v (.bool (decide (x5 > IntKind.i64.wrap (x0 + 1)))))), (aI 24)] (.ask (.eqB (x5 == IntKind.i64.wrap (x0 + 1)) false) (.ask (.eqB (x5 == IntKind.i64.wrap (x0 + 1)) false) (.ask (.eqB (x5 == IntKind.i64.wrap (x0 + 1)) false) (.ask (.eqB (x5 == IntKind.i64.wrap (x0 + 1)) false) (.ask (.eqB (x5 == IntKind.i64.wrap (x0 + 1)) false) (.sees [(.d (.v (.bool false))), (aI 7)] (.sees [(.d (.sl 4 [(vI x6), (vI x7), (vI x8), (vI xd)]))] (.br (xe != 0)
 (.ret (0, 0, [], 0, [], xe))
 (.bind (F128 x0 x1 x2 x3 x4) fun xf =>
 (.sees [(.agg [(aI x0), (.d (.sl x1 x2)), (.d (.sl x3 x4))])] (.ask (.eqB (x5 == IntKind.i64.wrap (x0 + 1)) false) (.ret (xf.fst, xf.snd.fst, xf.snd.snd.fst, xf.snd.snd.snd.fst, xf.snd.snd.snd.snd, 0))))))))))))))))))))))
def F49 (x0 : Int) (x1 : Nat) (x2 : List DV) (x3 : Nat) (x4 : List DV) (x5 : Int) : Option (Int × Nat × List DV × Nat × List DV × Int) := res B49 (.c0 x0 x1 x2 x3 x4 x5)
def D49_0 (x0 : Int) (x1 : Nat) (x2 : List DV) (x3 : Nat) (x4 : List DV) (x5 : Int) : DT cfw := (.go 9 [] [] (.bind (f55 x0 x1 x2 x3 x4) fun x6 => (.bind (f106 x5 0 1000000) fun x7 => (.bind (f109 (decide (x5 > IntKind.i64.wrap (x0 + 1))) 24) fun x8 => (.br (x5 == IntKind.i64.wrap (x0 + 1)) (.bind (f109 ((↑x3 : Int) == 0) 7) fun x9 => (.bind (f107 4 [(vI x6), (vI x7), (vI x8), (vI x9)]) fun xa => (.go 6 [.none, (.ck 0), (.ck 1), .none, (.ck 2), .none, (.br true), (.br true), .none, (.br true), (.br true), (.br true), (.ck 3), (.ck 4)] [] (.split 33 (.go 9 [(.br true)] [0] .fin) (.go 5 [(.br false)] [0] (.bind (f128 x0 x1 x2 x3 x4) fun xb => (.go 13 [(.ck 5)] [] (.assume 42 true (.go 5 [(.br true)] [0] (.bind (f129 x3 x4) fun xc => (.go 11 [(.ck 6)] [] .fin))))))))))) (.bind (f109 false 7) fun xd => (.bind (f107 4 [(vI x6), (vI x7), (vI x8), (vI xd)]) fun xe => (.go 6 [.none, (.ck 0), (.ck 1), .none, (.ck 2), .none, (.br false), (.br false), (.br false), (.br false), (.br false), (.ck 3), (.ck 4)] [] (.split 33 (.go 9 [(.br true)] [0] .fin) (.go 5 [(.br false)] [0] (.bind (f128 x0 x1 x2 x3 x4) fun xf => (.go 13 [(.ck 5)] [] (.assume 42 false (.go 9 [(.br false)] [0] .fin))))))))))))))
theorem k49_0 (x0 : Int) (x1 : Nat) (x2 : List DV) (x3 : Nat) (x4 : List DV) (x5 : Int) : xrun cfw 49 (D49_0 x0 x1 x2 x3 x4 x5) [] (st49 (.c0 x0 x1 x2 x3 x4 x5)) = (B49 (.c0 x0 x1 x2 x3 x4 x5)).mach st49 out49 := by kernel_rfl
theorem ok49 : ∀ s, ∃ d, xrun cfw 49 d [] (st49 s) = (B49 s).mach st49 out49
 | .c0 x0 x1 x2 x3 x4 x5 => ⟨_, k49_0 x0 x1 x2 x3 x4 x5⟩
theorem f49 (x0 : Int) (x1 : Nat) (x2 : List DV) (x3 : Nat) (x4 : List DV) (x5 : Int) (v : Int × Nat × List DV × Nat × List DV × Int) (h : F49 x0 x1 x2 x3 x4 x5 = some v) : PureCalls cfw.P cfw.glob 49 [(.agg [(aI x0), (.d (.sl x1 x2)), (.d (.sl x3 x4))]), (aI x5)] (out49 v) := tree_pure knilw ok49 (s := .c0 x0 x1 x2 x3 x4 x5) rfl (by kernel_rfl) v h
inductive S57 where
 | c0 (x0 : Int) (x1 : Nat) (x2 : List DV) (x3 : Nat) (x4 : List DV) (x5 : Int) (x6 : Nat) (x7 : List DV)
def out57 (v : Int × Nat × List DV × Nat × List DV × Int × Int) : AV := (.tup [(.agg [(aI v.fst), (.d (.sl v.snd.fst v.snd.snd.fst)), (.d (.sl v.snd.snd.snd.fst v.snd.snd.snd.snd.fst))]), (aI v.snd.snd.snd.snd.snd.fst), (aI v.snd.snd.snd.snd.snd.snd)])
def st57 : S57 → ASt
 | .c0 x0 x1 x2 x3 x4 x5 x6 x7 => ent cfw 57 [(.agg [(aI x0), (.d (.sl x1 x2)), (.d (.sl x3 x4))]), (aI x5), (.d (.sl x6 x7))]
def B57 : S57 → Tr S57 (Int × Nat × List DV × Nat × List DV × Int × Int)
 | .c0 x0 x1 x2 x3 x4 x5 x6 x7 => (.bind (F63 x0 x1 x2 x3 x4) fun x8 =>
 (.bind (F106 x5 0 1000000) fun x9 =>
 (.bind (F127 x1 x2 x6 x7) fun xa =>
 (.bind (F109 (decide (x5 > IntKind.i64.wrap (x0 + 1))) 7) fun xb =>
 (.bind (F107 4 [(vI x8), (vI x9), (vI xa), (vI xb)]) fun xc =>
 (.sees [(.agg [(aI x0), (.d (.sl x1 x2)), (.d (.sl x3 x4))])] (.sees [(aI x5), (aI 0), (aI 1000000)] (.sees [(.d (.sl x1 x2)), (.d (.sl x6 x7))] (.sees [(.d (.v (.bool (decide (x5 > IntKind.i64.wrap (x0 + 1)))))), (aI 7)] (.sees [(.d (.sl 4 [(vI x8), (vI x9), (vI xa), (vI xb)]))] (.br (xc != 0)
 (.ret (0, 0, [], 0, [], 0, xc))
 (.bind (F132 x0 x1 x2 x3 x4) fun xd =>
 (.sees [(.agg [(aI x0), (.d (.sl x1 x2)), (.d (.sl x3 x4))])] (.br (decide (x5 ≤ x0))
 (.ret (xd.fst, xd.snd.fst, xd.snd.snd.fst, xd.snd.snd.snd.fst, xd.snd.snd.snd.snd, x0, 0))
 (.br ((↑x3 : Int) == 0)
 (.bind (F129 x6 x7) fun xe =>
 (.sees [(.d (.sl x6 x7))] (.ret (xd.fst, xd.snd.fst, xd.snd.snd.fst, xe.fst, xe.snd, x5, 0))))
 (.bind (F133 x3 x4 x6 x7) fun xf =>
 (.sees [(.d (.sl x3 x4)), (.d (.sl x6 x7))] (.br (!xf)
 (.ret (0, 0, [], 0, [], 0, 24))
 (.ret (xd.fst, xd.snd.fst, xd.snd.snd.fst, xd.snd.snd.snd.fst, xd.snd.snd.snd.snd, x5, 0))))))))))))))))))))
def F57 (x0 : Int) (x1 : Nat) (x2 : List DV) (x3 : Nat) (x4 : List DV) (x5 : Int) (x6 : Nat) (x7 : List DV) : Option (Int × Nat × List DV × Nat × List DV × Int × Int) := res B57 (.c0 x0 x1 x2 x3 x4 x5 x6 x7)
def D57_0 (x0 : Int) (x1 : Nat) (x2 : List DV) (x3 : Nat) (x4 : List DV) (x5 : Int) (x6 : Nat) (x7 : List DV) : DT cfw := (.go 10 [] [] (.bind (f63 x0 x1 x2 x3 x4) fun x8 => (.bind (f106 x5 0 1000000) fun x9 => (.bind (f127 x1 x2 x6 x7) fun xa => (.bind (f109 (decide (x5 > IntKind.i64.wrap (x0 + 1))) 7) fun xb => (.bind (f107 4 [(vI x8), (vI x9), (vI xa), (vI xb)]) fun xc => (.go 6 [(.ck 0), (.ck 1), (.ck 2), (.ck 3), (.ck 4)] [] (.split 28 (.go 10 [(.br true)] [0] .fin) (.go 5 [(.br false)] [0] (.bind (f132 x0 x1 x2 x3 x4) fun xd => (.go 12 [(.ck 5)] [] (.split 36 (.go 5 [(.br true)] [0] .fin) (.go 10 [(.br false)] [0] (.split 43 (.go 3 [(.br true)] [0] (.bind (f129 x6 x7) fun xe => (.go 13 [(.ck 6)] [] .fin))) (.go 6 [(.br false)] [0] (.bind (f133 x3 x4 x6 x7) fun xf => (.go 3 [(.ck 6)] [] (.split 51 (.go 9 [(.br true)] [0] .fin) (.go 11 [(.br false)] [0] .fin)))))))))))))))))))
theorem k57_0 (x0 : Int) (x1 : Nat) (x2 : List DV) (x3 : Nat) (x4 : List DV) (x5 : Int) (x6 : Nat) (x7 : List DV) : xrun cfw 57 (D57_0 x0 x1 x2 x3 x4 x5 x6 x7) [] (st57 (.c0 x0 x1 x2 x3 x4 x5 x6 x7)) = (B57 (.c0 x0 x1 x2 x3 x4 x5 x6 x7)).mach st57 out57 := by kernel_rfl
theorem ok57 : ∀ s, ∃ d, xrun cfw 57 d [] (st57 s) = (B57 s).mach st57 out57
 | .c0 x0 x1 x2 x3 x4 x5 x6 x7 => ⟨_, k57_0 x0 x1 x2 x3 x4 x5 x6 x7⟩
theorem f57 (x0 : Int) (x1 : Nat) (x2 : List DV) (x3 : Nat) (x4 : List DV) (x5 : Int) (x6 : Nat) (x7 : List DV) (v : Int × Nat × List DV × Nat × List DV × Int × Int) (h : F57 x0 x1 x2 x3 x4 x5 x6 x7 = some v) : PureCalls cfw.P cfw.glob 57 [(.agg [(aI x0), (.d (.sl x1 x2)), (.d (.sl x3 x4))]), (aI x5), (.d (.sl x6 x7))] (out57 v) := tree_pure knilw ok57 (s := .c0 x0 x1 x2 x3 x4 x5 x6 x7) rfl (by kernel_rfl) v h
inductive S59 where
 | c0 (x0 : Int) (x1 : Nat) (x2 : List DV) (x3 : Nat) (x4 : List DV) (x5 : Int)
def out59 (v : Int × Nat × List DV × Nat × List DV × Nat × List DV × Int) : AV := (.tup [(.agg [(aI v.fst), (.d (.sl v.snd.fst v.snd.snd.fst)), (.d (.sl v.snd.snd.snd.fst v.snd.snd.snd.snd.fst))]), (.d (.sl v.snd.snd.snd.snd.snd.fst v.snd.snd.snd.snd.snd.snd.fst)), (aI v.snd.snd.snd.snd.snd.snd.snd)])
def st59 : S59 → ASt
 | .c0 x0 x1 x2 x3 x4 x5 => ent cfw 59 [(.agg [(aI x0), (.d (.sl x1 x2)), (.d (.sl x3 x4))]), (aI x5)]
def B59 : S59 → Tr S59 (Int × Nat × List DV × Nat × List DV × Nat × List DV × Int)
 | .c0 x0 x1 x2 x3 x4 x5 => (.bind (F63 x0 x1 x2 x3 x4) fun x6 =>
 (.bind (F106 x5 0 1000000) fun x7 =>
 (.bind (F109 (decide (x5 < x0)) 35) fun x8 =>
 (.br (decide (x5 > IntKind.i64.wrap (x0 + 1)))
 (.bind (F109 true 7) fun x9 =>
 (.bind (F107 4 [(vI x6), (vI x7), (vI x8), (vI x9)]) fun xa =>
 (.sees [(.agg [(aI x0), (.d (.sl x1 x2)), (.d (.sl x3 x4))])] (.sees [(aI x5), (aI 0), (aI 1000000)] (.sees [(.d (.v (.bool (decide (x5 < x0))))), (aI 35)] (.ask (.eqB (decide (x5 > IntKind.i64.wrap (x0 + 1))) true) (.ask (.eqB (decide (x5 > IntKind.i64.wrap (x0 + 1))) true) (.ask (.eqB (decide (x5 > IntKind.i64.wrap (x0 + 1))) true) (.ask (.eqB (decide (x5 > IntKind.i64.wrap (x0 + 1))) true) (.ask (.eqB (decide (x5 > IntKind.i64.wrap (x0 + 1))) true) (.ask (.eqB (decide (x5 > IntKind.i64.wrap (x0 + 1))) true) (.sees [(.d (.v (.bool true))), (aI 7)] (.sees [(.d (.sl 4 [(vI x6), (vI x7), (vI x8), (vI x9)]))] (.br (xa != 0)
 (.ret (0, 0, [], 0, [], 0, [], xa))
 (.bind (F132 x0 x1 x2 x3 x4) fun xb =>
 (.sees [(.agg [(aI x0), (.d (.sl x1 x2)), (.d (.sl x3 x4))])] (.br (decide (x5 > x0))
 (.bind (F129 x3 x4) fun xc =>
 (.sees [(.d (.sl x3 x4))] (.bind (F129 xc.fst xc.snd) fun xd =>
 (.sees [(.d (.sl xc.fst xc.snd))] (.ret (x5, xc.fst, xc.snd, 0, [], xd.fst, xd.snd, 0))))))
 (.bind (F129 xb.snd.fst xb.snd.snd.fst) fun xe =>
 (.sees [(.d (.sl xb.snd.fst xb.snd.snd.fst))] (.ret (xb.fst, xb.snd.fst, xb.snd.snd.fst, xb.snd.snd.snd.fst, xb.snd.snd.snd.snd, xe.fst, xe.snd, 0)))))))))))))))))))))
 (.br (decide (x5 > x0))
 (.bind (F109 ((↑x3 : Int) == 0) 7) fun xf =>
 (.bind (F107 4 [(vI x6), (vI x7), (vI x8), (vI xf)]) fun xg =>
 (.sees [(.agg [(aI x0), (.d (.sl x1 x2)), (.d (.sl x3 x4))])] (.sees [(aI x5), (aI 0), (aI 1000000)] (.sees [(.d (.v (.bool (decide (x5 < x0))))), (aI 35)] (.ask (.eqB (decide (x5 > IntKind.i64.wrap (x0 + 1))) false) (.ask (.eqB (decide (x5 > IntKind.i64.wrap (x0 + 1))) false) (.ask (.eqB (decide (x5 > IntKind.i64.wrap (x0 + 1))) false) (.ask (.eqB (decide (x5 > IntKind.i64.wrap (x0 + 1)) == false) true) (.ask (.eqB (decide (x5 > IntKind.i64.wrap (x0 + 1))) false) (.ask (.eqB (decide (x5 > x0)) true) (.ask (.eqB (decide (x5 > x0)) true) (.ask (.eqB (decide (x5 > x0)) true) (.ask (.eqB (decide (x5 > x0)) true) (.ask (.eqB (decide (x5 > x0)) true) (.ask (.eqB (decide (x5 > IntKind.i64.wrap (x0 + 1))) false) (.ask (.eqB (decide (x5 > IntKind.i64.wrap (x0 + 1))) false) (.sees [(.d (.v (.bool ((↑x3 : Int) == 0)))), (aI 7)] (.sees [(.d (.sl 4 [(vI x6), (vI x7), (vI x8), (vI xf)]))] (.br (xg != 0)
 (.ret (0, 0, [], 0, [], 0, [], xg))
 (.bind (F132 x0 x1 x2 x3 x4) fun xh =>
 (.sees [(.agg [(aI x0), (.d (.sl x1 x2)), (.d (.sl x3 x4))])] (.ask (.eqB (decide (x5 > x0)) true) (.bind (F129 x3 x4) fun xi =>
 (.sees [(.d (.sl x3 x4))] (.bind (F129 xi.fst xi.snd) fun xj =>
 (.sees [(.d (.sl xi.fst xi.snd))] (.ret (x5, xi.fst, xi.snd, 0, [], xj.fst, xj.snd, 0)))))))))))))))))))))))))))))
 (.bind (F109 false 7) fun xk =>
 (.bind (F107 4 [(vI x6), (vI x7), (vI x8), (vI xk)]) fun xl =>
 (.sees [(.agg [(aI x0), (.d (.sl x1 x2)), (.d (.sl x3 x4))])] (.sees [(aI x5), (aI 0), (aI 1000000)] (.sees [(.d (.v (.bool (decide (x5 < x0))))), (aI 35)] (.ask (.eqB (decide (x5 > IntKind.i64.wrap (x0 + 1))) false) (.ask (.eqB (decide (x5 > IntKind.i64.wrap (x0 + 1))) false) (.ask (.eqB (decide (x5 > IntKind.i64.wrap (x0 + 1))) false) (.ask (.eqB (decide (x5 > IntKind.i64.wrap (x0 + 1)) == false) true) (.ask (.eqB (decide (x5 > IntKind.i64.wrap (x0 + 1))) false) (.ask (.eqB (decide (x5 > x0)) false) (.ask (.eqB (decide (x5 > x0)) false) (.ask (.eqB (decide (x5 > x0)) false) (.ask (.eqB (decide (x5 > x0)) false) (.ask (.eqB (decide (x5 > x0)) false) (.ask (.eqB (decide (x5 > IntKind.i64.wrap (x0 + 1))) false) (.ask (.eqB (decide (x5 > IntKind.i64.wrap (x0 + 1))) false) (.sees [(.d (.v (.bool false))), (aI 7)] (.sees [(.d (.sl 4 [(vI x6), (vI x7), (vI x8), (vI xk)]))] (.br (xl != 0)
 (.ret (0, 0, [], 0, [], 0, [], xl))
 (.bind (F132 x0 x1 x2 x3 x4) fun xm =>
 (.sees [(.agg [(aI x0), (.d (.sl x1 x2)), (.d (.sl x3 x4))])] (.ask (.eqB (decide (x5 > x0)) false) (.bind (F129 xm.snd.fst xm.snd.snd.fst) fun xn =>
 (.sees [(.d (.sl xm.snd.fst xm.snd.snd.fst))] (.ret (xm.fst, xm.snd.fst, xm.snd.snd.fst, xm.snd.snd.snd.fst, xm.snd.snd.snd.snd, xn.fst, xn.snd, 0))))))))))))))))))))))))))))))))
def F59 (x0 : Int) (x1 : Nat) (x2 : List DV) (x3 : Nat) (x4 : List DV) (x5 : Int) : Option (Int × Nat × List DV × Nat × List DV × Nat × List DV × Int) := res B59 (.c0 x0 x1 x2 x3 x4 x5)
def D59_0 (x0 : Int) (x1 : Nat) (x2 : List DV) (x3 : Nat) (x4 : List DV) (x5 : Int) : DT cfw := (.go 10 [] [] (.bind (f63 x0 x1 x2 x3 x4) fun x6 => (.bind (f106 x5 0 1000000) fun x7 => (.bind (f109 (decide (x5 < x0)) 35) fun x8 => (.br (decide (x5 > IntKind.i64.wrap (x0 + 1))) (.bind (f109 true 7) fun x9 => (.bind (f107 4 [(vI x6), (vI x7), (vI x8), (vI x9)]) fun xa => (.go 6 [.none, (.ck 0), (.ck 1), .none, (.ck 2), .none, (.sp .none), (.br true), (.br true), (.br true), (.br true), (.br false), (.br false), (.br false), (.br false), (.br true), (.br true), (.ck 3), (.ck 4)] [] (.split 39 (.go 10 [(.br true)] [0] .fin) (.go 5 [(.br false)] [0] (.bind (f132 x0 x1 x2 x3 x4) fun xb => (.go 12 [(.ck 5)] [] (.split 47 (.go 5 [(.br true)] [0] (.bind (f129 x3 x4) fun xc => (.go 6 [(.ck 6)] [] (.bind (f129 xc.fst xc.snd) fun xd => (.go 2 [(.ck 7)] [] .fin))))) (.go 4 [(.br false)] [0] (.bind (f129 xb.snd.fst xb.snd.snd.fst) fun xe => (.go 2 [(.ck 6)] [] .fin))))))))))) (.br (decide (x5 > x0)) (.bind (f109 ((↑x3 : Int) == 0) 7) fun xf => (.bind (f107 4 [(vI x6), (vI x7), (vI x8), (vI xf)]) fun xg => (.go 6 [.none, (.ck 0), (.ck 1), .none, (.ck 2), .none, (.sp .none), (.br false), (.br false), .none, (.br false), (.br false), (.br true), (.br true), .none, (.br true), (.br true), (.br false), (.br true), (.br false), (.ck 3), (.ck 4)] [] (.split 39 (.go 10 [(.br true)] [0] .fin) (.go 5 [(.br false)] [0] (.bind (f132 x0 x1 x2 x3 x4) fun xh => (.go 12 [(.ck 5)] [] (.assume 47 true (.go 5 [(.br true)] [0] (.bind (f129 x3 x4) fun xi => (.go 6 [(.ck 6)] [] (.bind (f129 xi.fst xi.snd) fun xj => (.go 2 [(.ck 7)] [] .fin))))))))))))) (.bind (f109 false 7) fun xk => (.bind (f107 4 [(vI x6), (vI x7), (vI x8), (vI xk)]) fun xl => (.go 6 [.none, (.ck 0), (.ck 1), .none, (.ck 2), .none, (.sp .none), (.br false), (.br false), .none, (.br false), (.br false), (.br false), (.br false), (.br false), (.br false), (.br false), (.br false), (.br false), (.ck 3), (.ck 4)] [] (.split 39 (.go 10 [(.br true)] [0] .fin) (.go 5 [(.br false)] [0] (.bind (f132 x0 x1 x2 x3 x4) fun xm => (.go 12 [(.ck 5)] [] (.assume 47 false (.go 4 [(.br false)] [0] (.bind (f129 xm.snd.fst xm.snd.snd.fst) fun xn => (.go 2 [(.ck 6)] [] .fin)))))))))))))))))
theorem k59_0 (x0 : Int) (x1 : Nat) (x2 : List DV) (x3 : Nat) (x4 : List DV) (x5 : Int) : xrun cfw 59 (D59_0 x0 x1 x2 x3 x4 x5) [] (st59 (.c0 x0 x1 x2 x3 x4 x5)) = (B59 (.c0 x0 x1 x2 x3 x4 x5)).mach st59 out59 := by kernel_rfl
theorem ok59 : ∀ s, ∃ d, xrun cfw 59 d [] (st59 s) = (B59 s).mach st59 out59
 | .c0 x0 x1 x2 x3 x4 x5 => ⟨_, k59_0 x0 x1 x2 x3 x4 x5⟩
theorem f59 (x0 : Int) (x1 : Nat) (x2 : List DV) (x3 : Nat) (x4 : List DV) (x5 : Int) (v : Int × Nat × List DV × Nat × List DV × Nat × List DV × Int) (h : F59 x0 x1 x2 x3 x4 x5 = some v) : PureCalls cfw.P cfw.glob 59 [(.agg [(aI x0), (.d (.sl x1 x2)), (.d (.sl x3 x4))]), (aI x5)] (out59 v) := tree_pure knilw ok59 (s := .c0 x0 x1 x2 x3 x4 x5) rfl (by kernel_rfl) v h
end
end Go.Kv
