import Derived.Test.YtfdjkfmiofgclaaGreatDoorKQ
import Derived.Test.YtfdjkfmiofgclaaGreatDoorKvW
import Derived.Test.YtfdjkfmiofgclaaGreatDoorKvWp
import Derived.Test.YtfdjkfmiofgclaaGreatDoorKzA
namespace Go.Kv.Bst
set_option linter.all false
noncomputable section
open Go Go.RowKit Go.Proofs Go.Kv
set_option maxRecDepth 100000
inductive S109 where
 | c0 (a5 : Bool) (a6 : Int)
def out109 (v : Int) : AV := (aI v)
def st109 : S109 → ASt
 | .c0 a5 a6 => ent cfz 109 [(.d (.v (.bool a5))), (aI a6)]
def B109 : S109 → Tr S109 (Int)
 | .c0 a5 a6 => (.br a5
 (.ret a6)
 (.ret 0))
def F109 (a5 : Bool) (a6 : Int) : Option (Int) := res B109 (.c0 a5 a6)
theorem ok109 : ∀ s, ∃ d, xrun cfz 109 d [] (st109 s) = (B109 s).mach st109 out109 := fun s => match s with
 | .c0 a5 a6 => ⟨(.go 9 [] [] (.split 5 (.go 7 [(.br true)] [0] .fin) (.go 7 [(.br false)] [0] .fin))), by kernel_rfl⟩
theorem f109 (a5 : Bool) (a6 : Int) (v : Int) (h : F109 a5 a6 = some v) : PQ 109 [(.d (.v (.bool a5))), (aI a6)] (out109 v) := tree_pure knil ok109 (s := .c0 a5 a6) rfl (by kernel_rfl) v h
inductive S106 where
 | c0 (a2 : Int) (a3 : Int) (a4 : Int)
def out106 (v : Int) : AV := (aI v)
def st106 : S106 → ASt
 | .c0 a2 a3 a4 => ent cfz 106 [(aI a2), (aI a3), (aI a4)]
def B106 : S106 → Tr S106 (Int)
 | .c0 a2 a3 a4 => (.triv _ (tv_s (decide (a2 < a3) == false)) (.triv _ (tv_s (decide (a2 < a3) == false)) (.triv _ (tv_f (decide (a2 < a3))) (.bind (F109 (if decide (a2 < a3) = true then true else decide (a2 > a4)) 3) fun v7 =>
 (.sees [(.d (.v (.bool (if decide (a2 < a3) = true then true else decide (a2 > a4))))), (aI 3)] (.ret v7))))))
def F106 (a2 : Int) (a3 : Int) (a4 : Int) : Option (Int) := res B106 (.c0 a2 a3 a4)
theorem ok106 : ∀ s, ∃ d, xrun cfz 106 d [] (st106 s) = (B106 s).mach st106 out106 := fun s => match s with
 | .c0 a2 a3 a4 => ⟨(.go 14 [(.sp .none), (.sp .none), (.sp .none), .mg] [] (.bind (f109 (if decide (a2 < a3) = true then true else decide (a2 > a4)) 3) fun v7 => (.go 4 [(.ck 0)] [] .fin))), by kernel_rfl⟩
theorem f106 (a2 : Int) (a3 : Int) (a4 : Int) (v : Int) (h : F106 a2 a3 a4 = some v) : PQ 106 [(aI a2), (aI a3), (aI a4)] (out106 v) := tree_pure knil ok106 (s := .c0 a2 a3 a4) rfl (by kernel_rfl) v h
inductive S107 where
 | c0 (a9 : Nat) (a10 : List DV)
 | c1 (x11 : Nat) (x12 : List DV) (x13 : Int) (y14 : Int)
def out107 (v : Int) : AV := (aI v)
def st107 : S107 → ASt
 | .c0 a9 a10 => ent cfz 107 [(.d (.sl a9 a10))]
 | .c1 x11 x12 x13 y14 => ⟨⟨107, sp 15 0 [(5, (.d (.sl x11 x12))), (6, (aI x13)), (7, (aI y14))], [(.code (cd cfz.P 107 [1, 0, 1, 0, 0])), (.inLoop (cd cfz.P 107 [1, 0, 1, 0, 0])), (.inBlock 0), (.code (cd cfz.P 107 [1, 1]))], [], false, .none⟩, [], []⟩
def B107 : S107 → Tr S107 (Int)
 | .c0 a9 a10 => (.nxt (.c1 a9 a10 ((↑a9 : Int)) 0))
 | .c1 x11 x12 x13 y14 => (.br (decide (y14 < x13))
 (.ask (.le 0 y14) (.ask (.lt y14 ((↑x11 : Int))) (.ask (.leN (y14.toNat * 1) x12.length) (.ask (.prop (Option.map AV.d (List.drop (y14.toNat * 1) x12)[0]? = some (AV.d (vI (dI (cel x12 (y14.toNat * 1))))))) (.br (dI (cel x12 (y14.toNat * 1)) != 0)
 (.ret (dI (cel x12 (y14.toNat * 1))))
 (.ask (.in64 (y14 + 1)) (.nxt (.c1 x11 x12 x13 (y14 + 1)))))))))
 (.ret 0))
def F107 (a9 : Nat) (a10 : List DV) : Option (Int) := res B107 (.c0 a9 a10)
theorem ok107 : ∀ s, ∃ d, xrun cfz 107 d [] (st107 s) = (B107 s).mach st107 out107 := fun s => match s with
 | .c0 a9 a10 => ⟨(.go 13 [] [] (.cut 0 [[5, 6, 7]] [])), by kernel_rfl⟩
 | .c1 x11 x12 x13 y14 => ⟨(.go 5 [] [] (.split 8 (.go 15 [(.br true), (.as (aI (dI (cel x12 (y14.toNat * 1)))))] [0] (.split 12 (.go 7 [(.br true)] [0] .fin) (.go 8 [(.br false)] [0] (.cut 0 [[5, 6, 7]] [])))) (.go 7 [(.br false)] [0] .fin))), by kernel_rfl⟩
theorem f107 (a9 : Nat) (a10 : List DV) (v : Int) (h : F107 a9 a10 = some v) : PQ 107 [(.d (.sl a9 a10))] (out107 v) := tree_pure knil ok107 (s := .c0 a9 a10) rfl (by kernel_rfl) v h
inductive S175 where
 | c0 (a66 : Int)
def out175 (v : Bool) : AV := (.d (.v (.bool v)))
def st175 : S175 → ASt
 | .c0 a66 => ent cfz 175 [(aI a66)]
def B175 : S175 → Tr S175 (Bool)
 | .c0 a66 => (.ret (a66 != a66))
def F175 (a66 : Int) : Option (Bool) := res B175 (.c0 a66)
theorem ok175 : ∀ s, ∃ d, xrun cfz 175 d [] (st175 s) = (B175 s).mach st175 out175 := fun s => match s with
 | .c0 a66 => ⟨(.go 12 [] [] .fin), by kernel_rfl⟩
theorem f175 (a66 : Int) (v : Bool) (h : F175 a66 = some v) : PQ 175 [(aI a66)] (out175 v) := tree_pure knil ok175 (s := .c0 a66) rfl (by kernel_rfl) v h
inductive S137 where
 | c0 (a64 : Int) (a65 : Int)
def out137 (v : Int) : AV := (aI v)
def st137 : S137 → ASt
 | .c0 a64 a65 => ent cfz 137 [(aI a64), (aI a65)]
def B137 : S137 → Tr S137 (Int)
 | .c0 a64 a65 => (.bind (F175 a64) fun v67 =>
 (.sees [(aI a64)] (.bind (F175 a65) fun v68 =>
 (.sees [(aI a65)] (.br v67
 (.br v68
 (.ret 0)
 (.ret (-1)))
 (.br v68
 (.ret 1)
 (.br (decide (a64 < a65))
 (.ret (-1))
 (.br (decide (a64 > a65))
 (.ret 1)
 (.ret 0)))))))))
def F137 (a64 : Int) (a65 : Int) : Option (Int) := res B137 (.c0 a64 a65)
theorem ok137 : ∀ s, ∃ d, xrun cfz 137 d [] (st137 s) = (B137 s).mach st137 out137 := fun s => match s with
 | .c0 a64 a65 => ⟨(.go 7 [] [] (.bind (f175 a64) fun v67 => (.go 6 [(.ck 0)] [] (.bind (f175 a65) fun v68 => (.go 8 [(.ck 1)] [] (.split 11 (.go 6 [(.br true)] [0] (.split 12 (.go 6 [(.br true)] [0] .fin) (.go 7 [(.br false)] [0] .fin))) (.go 7 [(.br false)] [0] (.split 13 (.go 6 [(.br true)] [0] .fin) (.go 9 [(.br false)] [0] (.split 16 (.go 6 [(.br true)] [0] .fin) (.go 9 [(.br false)] [0] (.split 19 (.go 6 [(.br true)] [0] .fin) (.go 7 [(.br false)] [0] .fin))))))))))))), by kernel_rfl⟩
theorem f137 (a64 : Int) (a65 : Int) (v : Int) (h : F137 a64 a65 = some v) : PQ 137 [(aI a64), (aI a65)] (out137 v) := tree_pure knil ok137 (s := .c0 a64 a65) rfl (by kernel_rfl) v h
inductive S198 where
 | c0 (a54 : Nat) (a55 : List DV) (a56 : Nat) (a57 : List DV)
 | c1 (x58 : Nat) (x59 : List DV) (x60 : Nat) (x61 : List DV) (x62 : Int) (y63 : Int)
def out198 (v : Int) : AV := (aI v)
def st198 : S198 → ASt
 | .c0 a54 a55 a56 a57 => ent cfz 198 [(.d (.sl a54 a55)), (.d (.sl a56 a57))]
 | .c1 x58 x59 x60 x61 x62 y63 => ⟨⟨198, sp 36 0 [(0, (.d (.sl x58 x59))), (1, (.d (.sl x60 x61))), (9, (.d (.sl x58 x59))), (10, (aI x62)), (11, (aI y63))], [(.code (cd cfz.P 198 [1, 0, 1, 0, 0])), (.inLoop (cd cfz.P 198 [1, 0, 1, 0, 0])), (.inBlock 0), (.code (cd cfz.P 198 [1, 1]))], [], false, .none⟩, [], []⟩
def B198 : S198 → Tr S198 (Int)
 | .c0 a54 a55 a56 a57 => (.nxt (.c1 a54 a55 a56 a57 ((↑a54 : Int)) 0))
 | .c1 x58 x59 x60 x61 x62 y63 => (.br (decide (y63 < x62))
 (.ask (.le 0 y63) (.ask (.lt y63 ((↑x58 : Int))) (.ask (.leN (y63.toNat * 1) x59.length) (.ask (.prop (Option.map AV.d (List.drop (y63.toNat * 1) x59)[0]? = some (AV.d (vI (dI (cel x59 (y63.toNat * 1))))))) (.br (decide (y63 ≥ (↑x60 : Int)))
 (.ret 1)
 (.ask (.le 0 y63) (.ask (.lt y63 ((↑x60 : Int))) (.ask (.leN (y63.toNat * 1) x61.length) (.ask (.prop (Option.map AV.d (List.drop (y63.toNat * 1) x61)[0]? = some (AV.d (vI (dI (cel x61 (y63.toNat * 1))))))) (.bind (F137 (dI (cel x59 (y63.toNat * 1))) (dI (cel x61 (y63.toNat * 1)))) fun v69 =>
 (.sees [(aI (dI (cel x59 (y63.toNat * 1)))), (aI (dI (cel x61 (y63.toNat * 1))))] (.br (v69 != 0)
 (.ret v69)
 (.ask (.in64 (y63 + 1)) (.nxt (.c1 x58 x59 x60 x61 x62 (y63 + 1))))))))))))))))
 (.br (decide ((↑x58 : Int) < (↑x60 : Int)))
 (.ret (-1))
 (.ret 0)))
def F198 (a54 : Nat) (a55 : List DV) (a56 : Nat) (a57 : List DV) : Option (Int) := res B198 (.c0 a54 a55 a56 a57)
theorem ok198 : ∀ s, ∃ d, xrun cfz 198 d [] (st198 s) = (B198 s).mach st198 out198 := fun s => match s with
 | .c0 a54 a55 a56 a57 => ⟨(.go 13 [] [] (.cut 0 [[0, 1, 9, 10, 11]] [])), by kernel_rfl⟩
 | .c1 x58 x59 x60 x61 x62 y63 => ⟨(.go 5 [] [] (.split 12 (.go 20 [(.br true), (.as (aI (dI (cel x59 (y63.toNat * 1)))))] [0] (.split 19 (.go 6 [(.br true)] [0] .fin) (.go 14 [(.br false), (.as (aI (dI (cel x61 (y63.toNat * 1)))))] [0] (.bind (f137 (dI (cel x59 (y63.toNat * 1))) (dI (cel x61 (y63.toNat * 1)))) fun v69 => (.go 8 [(.ck 0)] [] (.split 28 (.go 7 [(.br true)] [0] .fin) (.go 8 [(.br false)] [0] (.cut 0 [[0, 1, 9, 10, 11]] [])))))))) (.go 11 [(.br false)] [0] (.split 35 (.go 6 [(.br true)] [0] .fin) (.go 7 [(.br false)] [0] .fin))))), by kernel_rfl⟩
theorem f198 (a54 : Nat) (a55 : List DV) (a56 : Nat) (a57 : List DV) (v : Int) (h : F198 a54 a55 a56 a57 = some v) : PQ 198 [(.d (.sl a54 a55)), (.d (.sl a56 a57))] (out198 v) := tree_pure knil ok198 (s := .c0 a54 a55 a56 a57) rfl (by kernel_rfl) v h
inductive S176 where
 | c0 (a46 : Int) (a47 : Int) (a48 : Nat) (a49 : List DV) (a50 : Int) (a51 : Int) (a52 : Nat) (a53 : List DV)
def out176 (v : Bool) : AV := (.d (.v (.bool v)))
def st176 : S176 → ASt
 | .c0 a46 a47 a48 a49 a50 a51 a52 a53 => ent cfz 176 [(.agg [(aI a46), (aI a47), (.d (.sl a48 a49))]), (.agg [(aI a50), (aI a51), (.d (.sl a52 a53))])]
def B176 : S176 → Tr S176 (Bool)
 | .c0 a46 a47 a48 a49 a50 a51 a52 a53 => (.br (decide (a47 < a51))
 (.ret true)
 (.br (a47 == a51)
 (.bind (F198 a48 a49 a52 a53) fun v70 =>
 (.sees [(.d (.sl a48 a49)), (.d (.sl a52 a53))] (.ret (decide (v70 < 0)))))
 (.ret false)))
def F176 (a46 : Int) (a47 : Int) (a48 : Nat) (a49 : List DV) (a50 : Int) (a51 : Int) (a52 : Nat) (a53 : List DV) : Option (Bool) := res B176 (.c0 a46 a47 a48 a49 a50 a51 a52 a53)
theorem ok176 : ∀ s, ∃ d, xrun cfz 176 d [] (st176 s) = (B176 s).mach st176 out176 := fun s => match s with
 | .c0 a46 a47 a48 a49 a50 a51 a52 a53 => ⟨(.go 16 [] [] (.split 12 (.go 19 [(.br true), (.br true), (.br true), (.br true), (.br true), (.br true), (.br true), (.br true), (.br false), (.br false), (.br false), (.br false), (.br false), (.br false), (.br true)] [0, 1, 2, 3, 4, 5, 6, 7, 8] .fin) (.go 8 [(.br false), (.br false), (.br false), .none, (.br false), (.br false), (.br false), .none, (.br false), (.br false)] [0, 1, 2, 3, 4, 5, 6, 7] (.split 20 (.go 4 [(.br true), (.br true), .none, (.br true), (.br true)] [0, 1, 2, 3] (.bind (f198 a48 a49 a52 a53) fun v70 => (.go 7 [(.br true), (.ck 0), (.br true), (.br false)] [1, 2, 3] .fin))) (.go 11 [(.br false), (.br false), (.br false), (.br false), (.br false), (.br false), (.br false)] [0, 1, 2, 3, 4, 5, 6] .fin))))), by kernel_rfl⟩
theorem f176 (a46 : Int) (a47 : Int) (a48 : Nat) (a49 : List DV) (a50 : Int) (a51 : Int) (a52 : Nat) (a53 : List DV) (v : Bool) (h : F176 a46 a47 a48 a49 a50 a51 a52 a53 = some v) : PQ 176 [(.agg [(aI a46), (aI a47), (.d (.sl a48 a49))]), (.agg [(aI a50), (aI a51), (.d (.sl a52 a53))])] (out176 v) := tree_pure knil ok176 (s := .c0 a46 a47 a48 a49 a50 a51 a52 a53) rfl (by kernel_rfl) v h
inductive S139_8 where
 | c0 (a74 : Nat) (a75 : List DV) (a76 : Nat) (a77 : List DV) (a78 : Int) (a79 : Int) (a80 : Nat) (a81 : List DV) (a82 : Int) (a83 : Int) (a84 : Int)
def out139_8 (v : Int × Bool) : AV := (.tup [(aI v.fst), (.d (.v (.bool v.snd)))])
def st139_8 : S139_8 → ASt
 | .c0 a74 a75 a76 a77 a78 a79 a80 a81 a82 a83 a84 => ent cfz 139 [(.agg [(.d (.sl a74 a75)), (.d (.sl a76 a77)), (aI a78), (aI a79), (.d (.sl a80 a81))]), (aI a82), (aI a83), (aI a84)]
def B139_8 : S139_8 → Tr S139_8 (Int × Bool)
 | .c0 a74 a75 a76 a77 a78 a79 a80 a81 a82 a83 a84 => (.ask (.nlt a84 0) (.ask (.in64 (IntKind.i64.wrap (1 * 2 ^ min a84.toNat 64) - 1)) (.ask (.in64 (a78 * (IntKind.i64.wrap (1 * 2 ^ min a84.toNat 64) - 1))) (.ask (.le 0 a82) (.ask (.lt a82 ((↑a76 : Int))) (.ask (.leN (a82.toNat * 1) a77.length) (.ask (.prop (Option.map AV.d (List.drop (a82.toNat * 1) a77)[0]? = some (AV.d (DV.sl (dN (cel a77 (a82.toNat * 1))) (dL (cel a77 (a82.toNat * 1))))))) (.ask (.le 0 a83) (.ask (.lt a83 ((↑(dN (cel a77 (a82.toNat * 1))) : Int))) (.ask (.leN (a83.toNat * 1) ((dL (cel a77 (a82.toNat * 1))).length)) (.ask (.prop (Option.map AV.d (List.drop (a83.toNat * 1) (dL (cel a77 (a82.toNat * 1))))[0]? = some (AV.d (vI (dI (cel (dL (cel a77 (a82.toNat * 1))) (a83.toNat * 1))))))) (.ask (.in64 (a78 * (IntKind.i64.wrap (1 * 2 ^ min a84.toNat 64) - 1) * dI (cel (dL (cel a77 (a82.toNat * 1))) (a83.toNat * 1)))) (.br (a78 * (IntKind.i64.wrap (1 * 2 ^ min a84.toNat 64) - 1) * dI (cel (dL (cel a77 (a82.toNat * 1))) (a83.toNat * 1)) == 0)
 (.ret (0, true))
 (.ask (.le 0 a83) (.ask (.lt a83 ((↑a74 : Int))) (.ask (.leN (a83.toNat * 1) a75.length) (.ask (.prop (Option.map AV.d (List.drop (a83.toNat * 1) a75)[0]? = some (AV.d (vI (dI (cel a75 (a83.toNat * 1))))))) (.br (dI (cel a75 (a83.toNat * 1)) == 0)
 (.ret (0, false))
 (.ask (.in64 (a78 * (IntKind.i64.wrap (1 * 2 ^ min a84.toNat 64) - 1) * dI (cel (dL (cel a77 (a82.toNat * 1))) (a83.toNat * 1)) + dI (cel a75 (a83.toNat * 1)))) (.ask (.in64 (a78 * (IntKind.i64.wrap (1 * 2 ^ min a84.toNat 64) - 1) * dI (cel (dL (cel a77 (a82.toNat * 1))) (a83.toNat * 1)) + dI (cel a75 (a83.toNat * 1)) - 1)) (.ask (.neI (dI (cel a75 (a83.toNat * 1))) 0) (.ask (.in64 ((a78 * (IntKind.i64.wrap (1 * 2 ^ min a84.toNat 64) - 1) * dI (cel (dL (cel a77 (a82.toNat * 1))) (a83.toNat * 1)) + dI (cel a75 (a83.toNat * 1)) - 1).tdiv (dI (cel a75 (a83.toNat * 1))))) (.ret (((a78 * (IntKind.i64.wrap (1 * 2 ^ min a84.toNat 64) - 1) * dI (cel (dL (cel a77 (a82.toNat * 1))) (a83.toNat * 1)) + dI (cel a75 (a83.toNat * 1)) - 1).tdiv (dI (cel a75 (a83.toNat * 1)))), true))))))))))))))))))))))))
def F139_8 (a74 : Nat) (a75 : List DV) (a76 : Nat) (a77 : List DV) (a78 : Int) (a79 : Int) (a80 : Nat) (a81 : List DV) (a82 : Int) (a83 : Int) (a84 : Int) : Option (Int × Bool) := res B139_8 (.c0 a74 a75 a76 a77 a78 a79 a80 a81 a82 a83 a84)
theorem ok139_8 : ∀ s, ∃ d, xrun cfz 139 d [] (st139_8 s) = (B139_8 s).mach st139_8 out139_8 := fun s => match s with
 | .c0 a74 a75 a76 a77 a78 a79 a80 a81 a82 a83 a84 => ⟨(.go 15 [.none, .none, (.as (.d (.sl (dN (cel a77 (a82.toNat * 1))) (dL (cel a77 (a82.toNat * 1)))))), (.as (aI (dI (cel (dL (cel a77 (a82.toNat * 1))) (a83.toNat * 1)))))] [] (.split 28 (.go 7 [(.br true)] [0] .fin) (.go 17 [(.br false), .none, (.as (aI (dI (cel a75 (a83.toNat * 1)))))] [0] (.split 35 (.go 7 [(.br true)] [0] .fin) (.go 14 [(.br false)] [0] .fin))))), by kernel_rfl⟩
theorem f139_8 (a74 : Nat) (a75 : List DV) (a76 : Nat) (a77 : List DV) (a78 : Int) (a79 : Int) (a80 : Nat) (a81 : List DV) (a82 : Int) (a83 : Int) (a84 : Int) (v : Int × Bool) (h : F139_8 a74 a75 a76 a77 a78 a79 a80 a81 a82 a83 a84 = some v) : PQ 139 [(.agg [(.d (.sl a74 a75)), (.d (.sl a76 a77)), (aI a78), (aI a79), (.d (.sl a80 a81))]), (aI a82), (aI a83), (aI a84)] (out139_8 v) := tree_pure knil ok139_8 (s := .c0 a74 a75 a76 a77 a78 a79 a80 a81 a82 a83 a84) rfl (by kernel_rfl) v h
inductive S144 where
 | c0 (a89 : Nat) (a90 : List DV)
def out144 (v : Nat × List DV) : AV := (.d (.sl v.fst v.snd))
def st144 : S144 → ASt
 | .c0 a89 a90 => ent cfz 144 [(.d (.sl a89 a90))]
def B144 : S144 → Tr S144 (Nat × List DV)
 | .c0 a89 a90 => (.ask (.ltN 0 a89) (.br (a89.beq 0)
 (.ask (.eqN a89 0) (.ret (0, [])))
 (.ask (.ltN 0 a89) (.ask (.eqN a90.length (a89 * 1)) (.ask (.fits a89 8) (.ret (a89, a90)))))))
def F144 (a89 : Nat) (a90 : List DV) : Option (Nat × List DV) := res B144 (.c0 a89 a90)
theorem ok144 : ∀ s, ∃ d, xrun cfz 144 d [] (st144 s) = (B144 s).mach st144 out144 := fun s => match s with
 | .c0 a89 a90 => ⟨(.go 16 [(.br false)] [1] (.br (a89.beq 0) (.go 4 [(.br false)] [] .fin) (.go 4 [(.br true)] [] .fin))), by kernel_rfl⟩
theorem f144 (a89 : Nat) (a90 : List DV) (v : Nat × List DV) (h : F144 a89 a90 = some v) : PQ 144 [(.d (.sl a89 a90))] (out144 v) := tree_pure knil ok144 (s := .c0 a89 a90) rfl (by kernel_rfl) v h
open Go Go.RowKit Go.Proofs Go.Kv
set_option maxRecDepth 100000
def qb66 : List DV := [(vI 1000000000)]
def qb65 : List AV := [(.d (.sl 0 [])), (aI 0)]
def qb64 : List AV := [(.d (.sl 0 [])), (aI 1)]
def qb63 : List AV := [(.d (.sl 0 [])), (aI 2)]
def qb62 : List AV := [(.d (.v (.bool false))), (aI 2)]
def qb61 : List AV := [(.d (.v (.bool false))), (aI 3)]
def qb60 : List AV := [(.d (.v (.bool false))), (aI 5)]
def qb59 : List AV := [(.d (.v (.bool false))), (aI 10)]
def qb58 : List AV := [(.d (.v (.bool false))), (aI 12)]
def qb57 : List AV := [(.d (.sl 2 [(vI 0), (vI 0)]))]
def qb56 : AV := (.tup [(aI 4), (.d (.v (.bool true)))])
def qb55 : AV := (.tup [(aI 2), (.d (.v (.bool true)))])
def qb54 : AV := (.tup [(aI 7), (.d (.v (.bool true)))])
def qb53 : AV := (.tup [(aI 3), (.d (.v (.bool true)))])
def qb52 : AV := (.tup [(aI 1), (.d (.v (.bool true)))])
def qb51 : AV := (.tup [(aI 0), (.d (.v (.bool true)))])
def qb50 : AV := (.tup [(aI 63), (.d (.v (.bool true)))])
def qb49 : AV := (.tup [(aI 31), (.d (.v (.bool true)))])
def qb48 : AV := (.tup [(aI 15), (.d (.v (.bool true)))])
def qb47 : AV := (.tup [(aI 0), (.d (.v (.bool false)))])
def qb46 : DV := (.sl 3 [(vI 1), (vI 1), (vI 1)])
def qb45 : AV := (.d qb46)
def qb44 : AV := (.d (.sl 3 [(vI 0), (vI 0), (vI 0)]))
def qb43 : List AV := [qb44]
def qb42 : AV := (.d (.sl 3 [(vI 100), (vI 10), (vI 0)]))
def qb41 : List AV := [(aI 10), (aI 1), (aI 100)]
def qb40 : List AV := [(aI 1), (aI 1), (aI 1000000)]
def qb39 : List AV := [(aI 20), (aI 1), (aI 1000000)]
def qb38 : List AV := [(aI 0), (aI 0), (aI 1000000000)]
def qb37 : List AV := [(aI 10), (aI 0), (aI 1000000000)]
def qb36 : List AV := [(aI 100), (aI 0), (aI 1000000000)]
def qb35 : List AV := [(aI 1), (.ip [(vI 1)]), (.ip [(vI 1000000)])]
def qb34 : List AV := [(aI 0), (.ip [(vI 0)]), (.ip qb66)]
def qb33 : List AV := [(aI 10), (.ip [(vI 0)]), (.ip qb66)]
def qb32 : List AV := [(aI 100), (.ip [(vI 0)]), (.ip qb66)]
def qb31 : List AV := [(.d (.sl 5 [(vI 0), (vI 0), (vI 0), (vI 0), (vI 0)]))]
def qb30 : List AV := [qb45, (aI 1), (aI 1000000)]
def qb29 : List AV := [qb42, (aI 0), (aI 1000000000)]
def qb26 : AV := (.agg [qb42, (.d (.sl 1 [qb46])), (aI 10), (aI 20), (.d (.sl 0 []))])
def qb25 : List AV := [qb26]
def qb24 : List AV := [qb26, (aI 0)]
def qb23 : List AV := [qb26, (aI 0), (aI 0)]
def qb22 : List AV := [qb26, (aI 0), (aI 1)]
def qb21 : List AV := [qb26, (aI 0), (aI 2)]
def qb20 : List AV := [qb26, (aI 0), (aI 0), (aI 6)]
def qb19 : List AV := [qb26, (aI 0), (aI 0), (aI 5)]
def qb18 : List AV := [qb26, (aI 0), (aI 0), (aI 4)]
def qb17 : List AV := [qb26, (aI 0), (aI 0), (aI 3)]
def qb16 : List AV := [qb26, (aI 0), (aI 0), (aI 2)]
def qb15 : List AV := [qb26, (aI 0), (aI 0), (aI 1)]
def qb14 : List AV := [qb26, (aI 0), (aI 0), (aI 0)]
def qb13 : List AV := [qb26, (aI 0), (aI 1), (aI 6)]
def qb12 : List AV := [qb26, (aI 0), (aI 1), (aI 5)]
def qb11 : List AV := [qb26, (aI 0), (aI 1), (aI 4)]
def qb10 : List AV := [qb26, (aI 0), (aI 1), (aI 3)]
def qb9 : List AV := [qb26, (aI 0), (aI 1), (aI 2)]
def qb8 : List AV := [qb26, (aI 0), (aI 1), (aI 1)]
def qb7 : List AV := [qb26, (aI 0), (aI 1), (aI 0)]
def qb6 : List AV := [qb26, (aI 0), (aI 2), (aI 6)]
def qb5 : List AV := [qb26, (aI 0), (aI 2), (aI 5)]
def qb4 : List AV := [qb26, (aI 0), (aI 2), (aI 4)]
def qb3 : List AV := [qb26, (aI 0), (aI 2), (aI 3)]
def qb2 : List AV := [qb26, (aI 0), (aI 2), (aI 2)]
def qb1 : List AV := [qb26, (aI 0), (aI 2), (aI 1)]
def qb0 : List AV := [qb26, (aI 0), (aI 2), (aI 0)]
theorem bc0 : PQ 109 qb58 (aI 0) := cq (.run 16 [] <| .fin) []
theorem bc1 : PQ 109 qb60 (aI 0) := cq (.run 16 [] <| .fin) []
theorem bc2 : PQ 109 qb61 (aI 0) := cq (.run 16 [] <| .fin) []
theorem bc3 : PQ 106 qb36 (aI 0) := cq (.run 14 [] <| .use bc2 <| .run 1 [(.ck 0)] <| .run 3 [] <| .fin) [.eqA qb61 qb61]
theorem bc4 : PQ 172 qb32 (aI 0) := cq (.run 9 [] <| .use bc3 <| .run 1 [(.ck 0)] <| .run 3 [] <| .fin) [.eqA qb36 qb36]
theorem bc5 : PQ 106 qb37 (aI 0) := cq (.run 14 [] <| .use bc2 <| .run 1 [(.ck 0)] <| .run 3 [] <| .fin) [.eqA qb61 qb61]
theorem bc6 : PQ 172 qb33 (aI 0) := cq (.run 9 [] <| .use bc5 <| .run 1 [(.ck 0)] <| .run 3 [] <| .fin) [.eqA qb37 qb37]
theorem bc7 : PQ 106 qb38 (aI 0) := cq (.run 14 [] <| .use bc2 <| .run 1 [(.ck 0)] <| .run 3 [] <| .fin) [.eqA qb61 qb61]
theorem bc8 : PQ 172 qb34 (aI 0) := cq (.run 9 [] <| .use bc7 <| .run 1 [(.ck 0)] <| .run 3 [] <| .fin) [.eqA qb38 qb38]
theorem bc10 : PQ 107 qb43 (aI 0) := cq (.run 109 [] <| .fin) []
theorem bc11 : PQ 126 qb29 (aI 0) := cq (.run 10 [] <| .run 1 [.enter] <| .run 36 [] <| .use bc4 <| .run 1 [(.ck 0)] <| .run 29 [] <| .use bc6 <| .run 1 [(.ck 1)] <| .run 29 [] <| .use bc8 <| .run 1 [(.ck 2)] <| .run 24 [] <| .use bc10 <| .run 1 [(.ck 3)] <| .run 3 [] <| .fin) [.eqA qb32 qb32, .eqA qb33 qb33, .eqA qb34 qb34, .eqA qb43 qb43]
theorem bc12 : PQ 107 qb31 (aI 0) := cq (.run 165 [] <| .fin) []
theorem bc13 : PQ 109 qb62 (aI 0) := cq (.run 16 [] <| .fin) []
theorem bc14 : PQ 106 qb40 (aI 0) := cq (.run 14 [] <| .use bc2 <| .run 1 [(.ck 0)] <| .run 3 [] <| .fin) [.eqA qb61 qb61]
theorem bc15 : PQ 172 qb35 (aI 0) := cq (.run 9 [] <| .use bc14 <| .run 1 [(.ck 0)] <| .run 3 [] <| .fin) [.eqA qb40 qb40]
theorem bc17 : PQ 126 qb30 (aI 0) := cq (.run 10 [] <| .run 1 [.enter] <| .run 36 [] <| .use bc15 <| .run 1 [(.ck 0)] <| .run 29 [] <| .run 1 [(.ck 0)] <| .run 29 [] <| .run 1 [(.ck 0)] <| .run 24 [] <| .use bc10 <| .run 1 [(.ck 1)] <| .run 3 [] <| .fin) [.eqA qb35 qb35, .eqA qb35 qb35, .eqA qb35 qb35, .eqA qb43 qb43]
theorem bc18 : PQ 107 qb57 (aI 0) := cq (.run 81 [] <| .fin) []
theorem bc19 : PQ 106 qb41 (aI 0) := cq (.run 14 [] <| .use bc2 <| .run 1 [(.ck 0)] <| .run 3 [] <| .fin) [.eqA qb61 qb61]
theorem bc20 : PQ 106 qb39 (aI 0) := cq (.run 14 [] <| .use bc2 <| .run 1 [(.ck 0)] <| .run 3 [] <| .fin) [.eqA qb61 qb61]
theorem bc21 : PQ 82 qb25 (aI 0) := cq (.run 8 [] <| .use bc0 <| .use bc1 <| .use bc11 <| .use bc12 <| .run 1 [.none, (.ck 0), .none, (.ck 1), .none, (.ck 2), .none, (.ck 0), .none, (.ck 1), (.ck 3)] <| .run 40 [] <| .use bc13 <| .run 1 [(.ck 4)] <| .run 1 [] <| .use bc17 <| .run 1 [(.ck 5)] <| .run 1 [] <| .use bc18 <| .run 1 [(.ck 6)] <| .run 25 [] <| .use bc19 <| .use bc20 <| .run 1 [.none, (.ck 7), .none, (.ck 8), (.ck 6)] <| .run 33 [] <| .fin) [.eqA qb58 qb58, .eqA qb60 qb60, .eqA qb29 qb29, .eqA qb58 qb58, .eqA qb60 qb60, .eqA qb31 qb31, .eqA qb62 qb62, .eqA qb30 qb30, .eqA qb57 qb57, .eqA qb41 qb41, .eqA qb39 qb39, .eqA qb57 qb57]
theorem bc22 : PQ 109 qb59 (aI 0) := cq (.run 16 [] <| .fin) []
theorem bc23 : PQ 138 qb24 (aI 0) := cq (.run 8 [] <| .use bc21 <| .run 1 [(.ck 0)] <| .run 9 [] <| .use bc22 <| .run 1 [(.ck 1)] <| .run 1 [] <| .use bc18 <| .run 1 [(.ck 2)] <| .run 3 [] <| .fin) [.eqA qb25 qb25, .eqA qb59 qb59, .eqA qb57 qb57]
def F138_bc23 : Option Unit := some ()
def out138_bc23 (_ : Unit) : AV := (aI 0)
theorem f138_bc23 (v : Unit) (_ : F138_bc23 = some v) : PQ 138 qb24 (out138_bc23 v) := bc23
theorem bc24 : PQ 139 qb0 qb51 := cq (.run 22 [] <| .fin) []
theorem bc25 : PQ 158 qb63 (aI (-1)) := cq (.run 25 [] <| .fin) []
theorem bc26 : PQ 157 qb63 (.d (.v (.bool false))) := cq (.run 8 [] <| .use bc25 <| .run 1 [(.ck 0)] <| .run 4 [] <| .fin) [.eqA qb63 qb63]
theorem bc27 : PQ 139 qb1 qb47 := cq (.run 39 [] <| .fin) []
theorem bc28 : PQ 139 qb2 qb47 := cq (.run 39 [] <| .fin) []
theorem bc29 : PQ 139 qb3 qb47 := cq (.run 39 [] <| .fin) []
theorem bc30 : PQ 139 qb4 qb47 := cq (.run 39 [] <| .fin) []
theorem bc31 : PQ 139 qb5 qb47 := cq (.run 39 [] <| .fin) []
theorem bc32 : PQ 139 qb6 qb47 := cq (.run 39 [] <| .fin) []
theorem bc33 : PQ 142 qb21 (aI 0) := cq (.run 36 [] <| .use bc24 <| .run 1 [(.ck 0)] <| .run 19 [] <| .use bc26 <| .run 1 [(.br true), (.ck 1)] <| .run 34 [] <| .use bc27 <| .run 1 [(.ck 2)] <| .run 19 [] <| .run 1 [(.br false)] <| .run 31 [] <| .use bc28 <| .run 1 [(.ck 3)] <| .run 19 [] <| .run 1 [(.br false)] <| .run 31 [] <| .use bc29 <| .run 1 [(.ck 4)] <| .run 19 [] <| .run 1 [(.br false)] <| .run 31 [] <| .use bc30 <| .run 1 [(.ck 5)] <| .run 19 [] <| .run 1 [(.br false)] <| .run 31 [] <| .use bc31 <| .run 1 [(.ck 6)] <| .run 19 [] <| .run 1 [(.br false)] <| .run 31 [] <| .use bc32 <| .run 1 [(.ck 7)] <| .run 19 [] <| .run 1 [(.br false)] <| .run 24 [] <| .fin) [.eqA qb0 qb0, .eqA qb63 qb63, .eqA qb1 qb1, .eqA qb2 qb2, .eqA qb3 qb3, .eqA qb4 qb4, .eqA qb5 qb5, .eqA qb6 qb6]
def F142_bc33 : Option Unit := some ()
def out142_bc33 (_ : Unit) : AV := (aI 0)
theorem f142_bc33 (v : Unit) (_ : F142_bc33 = some v) : PQ 142 qb21 (out142_bc33 v) := bc33
def F139_bc24 : Option Unit := some ()
def out139_bc24 (_ : Unit) : AV := qb51
theorem f139_bc24 (v : Unit) (_ : F139_bc24 = some v) : PQ 139 qb0 (out139_bc24 v) := bc24
theorem bc34 : PQ 139 qb7 qb51 := cq (.run 22 [] <| .fin) []
theorem bc35 : PQ 158 qb64 (aI (-1)) := cq (.run 25 [] <| .fin) []
theorem bc36 : PQ 157 qb64 (.d (.v (.bool false))) := cq (.run 8 [] <| .use bc35 <| .run 1 [(.ck 0)] <| .run 4 [] <| .fin) [.eqA qb64 qb64]
theorem bc37 : PQ 139 qb8 qb52 := cq (.run 46 [] <| .fin) []
theorem bc38 : PQ 139 qb9 qb53 := cq (.run 46 [] <| .fin) []
theorem bc39 : PQ 139 qb10 qb54 := cq (.run 46 [] <| .fin) []
theorem bc40 : PQ 139 qb11 qb48 := cq (.run 46 [] <| .fin) []
theorem bc41 : PQ 139 qb12 qb49 := cq (.run 46 [] <| .fin) []
theorem bc42 : PQ 139 qb13 qb50 := cq (.run 46 [] <| .fin) []
theorem bc43 : PQ 142 qb22 (aI 4) := cq (.run 36 [] <| .use bc34 <| .run 1 [(.ck 0)] <| .run 19 [] <| .use bc36 <| .run 1 [(.br true), (.ck 1)] <| .run 34 [] <| .use bc37 <| .run 1 [(.ck 2)] <| .run 19 [] <| .run 1 [(.br true), (.ck 1)] <| .run 34 [] <| .use bc38 <| .run 1 [(.ck 3)] <| .run 19 [] <| .run 1 [(.br true), (.ck 1)] <| .run 34 [] <| .use bc39 <| .run 1 [(.ck 4)] <| .run 19 [] <| .run 1 [(.br true), (.ck 1)] <| .run 34 [] <| .use bc40 <| .run 1 [(.ck 5)] <| .run 19 [] <| .run 1 [(.br true), (.ck 1)] <| .run 34 [] <| .use bc41 <| .run 1 [(.ck 6)] <| .run 19 [] <| .run 1 [(.br false)] <| .run 31 [] <| .use bc42 <| .run 1 [(.ck 7)] <| .run 19 [] <| .run 1 [(.br false)] <| .run 24 [] <| .fin) [.eqA qb7 qb7, .eqA qb64 qb64, .eqA qb8 qb8, .eqA qb64 qb64, .eqA qb9 qb9, .eqA qb64 qb64, .eqA qb10 qb10, .eqA qb64 qb64, .eqA qb11 qb11, .eqA qb64 qb64, .eqA qb12 qb12, .eqA qb13 qb13]
def F142_bc43 : Option Unit := some ()
def out142_bc43 (_ : Unit) : AV := (aI 4)
theorem f142_bc43 (v : Unit) (_ : F142_bc43 = some v) : PQ 142 qb22 (out142_bc43 v) := bc43
def F139_bc34 : Option Unit := some ()
def out139_bc34 (_ : Unit) : AV := qb51
theorem f139_bc34 (v : Unit) (_ : F139_bc34 = some v) : PQ 139 qb7 (out139_bc34 v) := bc34
def F139_bc37 : Option Unit := some ()
def out139_bc37 (_ : Unit) : AV := qb52
theorem f139_bc37 (v : Unit) (_ : F139_bc37 = some v) : PQ 139 qb8 (out139_bc37 v) := bc37
def F139_bc38 : Option Unit := some ()
def out139_bc38 (_ : Unit) : AV := qb53
theorem f139_bc38 (v : Unit) (_ : F139_bc38 = some v) : PQ 139 qb9 (out139_bc38 v) := bc38
def F139_bc39 : Option Unit := some ()
def out139_bc39 (_ : Unit) : AV := qb54
theorem f139_bc39 (v : Unit) (_ : F139_bc39 = some v) : PQ 139 qb10 (out139_bc39 v) := bc39
def F139_bc40 : Option Unit := some ()
def out139_bc40 (_ : Unit) : AV := qb48
theorem f139_bc40 (v : Unit) (_ : F139_bc40 = some v) : PQ 139 qb11 (out139_bc40 v) := bc40
theorem bc44 : PQ 139 qb14 qb51 := cq (.run 22 [] <| .fin) []
theorem bc45 : PQ 158 qb65 (aI (-1)) := cq (.run 25 [] <| .fin) []
theorem bc46 : PQ 157 qb65 (.d (.v (.bool false))) := cq (.run 8 [] <| .use bc45 <| .run 1 [(.ck 0)] <| .run 4 [] <| .fin) [.eqA qb65 qb65]
theorem bc47 : PQ 139 qb15 qb52 := cq (.run 46 [] <| .fin) []
theorem bc48 : PQ 139 qb16 qb52 := cq (.run 46 [] <| .fin) []
theorem bc49 : PQ 139 qb17 qb52 := cq (.run 46 [] <| .fin) []
theorem bc50 : PQ 139 qb18 qb55 := cq (.run 46 [] <| .fin) []
theorem bc51 : PQ 139 qb19 qb56 := cq (.run 46 [] <| .fin) []
theorem bc52 : PQ 139 qb20 qb54 := cq (.run 46 [] <| .fin) []
theorem bc53 : PQ 142 qb23 (aI 6) := cq (.run 36 [] <| .use bc44 <| .run 1 [(.ck 0)] <| .run 19 [] <| .use bc46 <| .run 1 [(.br true), (.ck 1)] <| .run 34 [] <| .use bc47 <| .run 1 [(.ck 2)] <| .run 19 [] <| .run 1 [(.br true), (.ck 1)] <| .run 34 [] <| .use bc48 <| .run 1 [(.ck 3)] <| .run 19 [] <| .run 1 [(.br true), (.ck 1)] <| .run 34 [] <| .use bc49 <| .run 1 [(.ck 4)] <| .run 19 [] <| .run 1 [(.br true), (.ck 1)] <| .run 34 [] <| .use bc50 <| .run 1 [(.ck 5)] <| .run 19 [] <| .run 1 [(.br true), (.ck 1)] <| .run 34 [] <| .use bc51 <| .run 1 [(.ck 6)] <| .run 19 [] <| .run 1 [(.br true), (.ck 1)] <| .run 34 [] <| .use bc52 <| .run 1 [(.ck 7)] <| .run 19 [] <| .run 1 [(.br true), (.ck 1)] <| .run 27 [] <| .fin) [.eqA qb14 qb14, .eqA qb65 qb65, .eqA qb15 qb15, .eqA qb65 qb65, .eqA qb16 qb16, .eqA qb65 qb65, .eqA qb17 qb17, .eqA qb65 qb65, .eqA qb18 qb18, .eqA qb65 qb65, .eqA qb19 qb19, .eqA qb65 qb65, .eqA qb20 qb20, .eqA qb65 qb65]
def F142_bc53 : Option Unit := some ()
def out142_bc53 (_ : Unit) : AV := (aI 6)
theorem f142_bc53 (v : Unit) (_ : F142_bc53 = some v) : PQ 142 qb23 (out142_bc53 v) := bc53
def F139_bc44 : Option Unit := some ()
def out139_bc44 (_ : Unit) : AV := qb51
theorem f139_bc44 (v : Unit) (_ : F139_bc44 = some v) : PQ 139 qb14 (out139_bc44 v) := bc44
end
end Go.Kv.Bst
