/- Printed: what functions of the program come to, and the kernel's proof of it. -/
import Derived.Test.YtdelimpnnpifpaaGreatDoorKCk
import Derived.Test.YtdelimpnnpifpaaGreatDoorKzW
namespace Go.Kv
set_option linter.all false
open Go Go.RowKit Go.Proofs
set_option maxRecDepth 100000
/-! F106 -/
inductive S106 where
  | c0 (a34 a35 a36 : Int)
def out106 (v : Int) : AV := (.d (.v (.int .i64 v)))
noncomputable def st106 : S106 → ASt
  | .c0 a34 a35 a36 => ent cfz 106 [(aI a34), (aI a35), (aI a36)]
noncomputable def B106 : S106 → Tr S106 (Int)
  | .c0 a34 a35 a36 => (.ask (.in64 (a34 * a35)) (.ask (.in64 ((if a34 * a35 < a36 then a34 * a35 else a36) + a34)) (.ask (.in64 ((if a34 * a35 < a36 then a34 * a35 else a36) + a34 - 1)) (.ask (.neI a34 0) (.ask (.in64 (((if a34 * a35 < a36 then a34 * a35 else a36) + a34 - 1).tdiv a34)) (.ret (((if a34 * a35 < a36 then a34 * a35 else a36) + a34 - 1).tdiv a34)))))))
noncomputable def F106 (a34 a35 a36 : Int) : Option (Int) := res B106 (.c0 a34 a35 a36)
noncomputable def D106_0 (a34 a35 a36 : Int) : DT cfz := (.go 19 [] [] .fin)
theorem k106_0 (a34 a35 a36 : Int) : xrun cfz 106 (D106_0 a34 a35 a36) [] (st106 (.c0 a34 a35 a36)) = (B106 (.c0 a34 a35 a36)).mach st106 out106 := by kernel_rfl
theorem ok106 : ∀ s, ∃ d, xrun cfz 106 d [] (st106 s) = (B106 s).mach st106 out106
  | .c0 a34 a35 a36 => ⟨_, k106_0 a34 a35 a36⟩
theorem f106 (a34 a35 a36 v : Int) (h : F106 a34 a35 a36 = some v) : PureCalls cfz.P cfz.glob 106 [(aI a34), (aI a35), (aI a36)] (out106 v) := tree_pure knil ok106 (s := .c0 a34 a35 a36) rfl (by kernel_rfl) v h

/-! F51 -/
inductive S51 where
  | c0 (a15 a16 a17 : Int)
def out51 (v : Int × Int) : AV := (.tup [(.d (.v (.int .i64 v.fst))), (.d (.v (.int .i64 v.snd)))])
noncomputable def st51 : S51 → ASt
  | .c0 a15 a16 a17 => ent cfz 51 [(aI a15), (aI a16), (aI a17)]
noncomputable def B51 : S51 → Tr S51 (Int × Int)
  | .c0 a15 a16 a17 => (.bind (F91 a15 1 16) fun v24 =>
  (.sees [(aI a15), (aI 1), (aI 16)] (.bind (F91 a16 1 16) fun v25 =>
  (.sees [(aI a16), (aI 1), (aI 16)] (.bind (F91 a17 0 256) fun v26 =>
  (.sees [(aI a17), (aI 0), (aI 256)] (.bind (F82 3 [(.v (.int .i64 v24)), (.v (.int .i64 v25)), (.v (.int .i64 v26))]) fun v33 =>
  (.sees [(.d (.sl 3 [(vI v24), (vI v25), (vI v26)]))] (.br (v33 != 0)
  (.ret (0, v33))
  (.bind (F106 a15 a16 a17) fun v37 =>
  (.sees [(aI a15), (aI a16), (aI a17)] (.ret (v37, 0)))))))))))))
noncomputable def F51 (a15 a16 a17 : Int) : Option (Int × Int) := res B51 (.c0 a15 a16 a17)
noncomputable def D51_0 (a15 a16 a17 : Int) : DT cfz := (.go 9 [] [] (.bind (f91 a15 1 16) fun v24 => (.go 2 [(.ck 0)] [] (.bind (f91 a16 1 16) fun v25 => (.go 2 [(.ck 1)] [] (.bind (f91 a17 0 256) fun v26 => (.go 2 [(.ck 2)] [] (.bind (f82 3 [(vI v24), (vI v25), (vI v26)]) fun v33 => (.go 8 [(.ck 3)] [] (.split 18 (.go 8 [(.br true)] [0] .fin) (.go 7 [(.br false)] [0] (.bind (f106 a15 a16 a17) fun v37 => (.go 5 [(.ck 4)] [] .fin)))))))))))))
theorem k51_0 (a15 a16 a17 : Int) : xrun cfz 51 (D51_0 a15 a16 a17) [] (st51 (.c0 a15 a16 a17)) = (B51 (.c0 a15 a16 a17)).mach st51 out51 := by kernel_rfl
theorem ok51 : ∀ s, ∃ d, xrun cfz 51 d [] (st51 s) = (B51 s).mach st51 out51
  | .c0 a15 a16 a17 => ⟨_, k51_0 a15 a16 a17⟩
theorem f51 (a15 a16 a17 : Int) (v : Int × Int) (h : F51 a15 a16 a17 = some v) : PureCalls cfz.P cfz.glob 51 [(aI a15), (aI a16), (aI a17)] (out51 v) := tree_pure knil ok51 (s := .c0 a15 a16 a17) rfl (by kernel_rfl) v h

/-! F52 -/
inductive S52 where
  | c0 (a39 a40 a41 a42 : Int) (a43 : Bool)
def out52 (v : Bool × Int) : AV := (.tup [(.d (.v (.bool v.fst))), (.d (.v (.int .i64 v.snd)))])
noncomputable def st52 : S52 → ASt
  | .c0 a39 a40 a41 a42 a43 => ent cfz 52 [(.agg [(aI a39), (aI a40)]), (aI a41), (aI a42), (.d (.v (.bool a43)))]
noncomputable def B52 : S52 → Tr S52 (Bool × Int)
  | .c0 a39 a40 a41 a42 a43 => (.bind (F27 a39 a40) fun v50 =>
  (.sees [(.agg [(aI a39), (aI a40)])] (.bind (F91 a41 1 16) fun v51 =>
  (.sees [(aI a41), (aI 1), (aI 16)] (.bind (F91 a42 0 256) fun v52 =>
  (.sees [(aI a42), (aI 0), (aI 256)] (.bind (F82 3 [(.v (.int .i64 v50)), (.v (.int .i64 v51)), (.v (.int .i64 v52))]) fun v53 =>
  (.sees [(.d (.sl 3 [(vI v50), (vI v51), (vI v52)]))] (.br (v53 != 0)
  (.ret (false, v53))
  (.bind (F106 a41 a39 a42) fun v54 =>
  (.sees [(aI a41), (aI a39), (aI a42)] (.br (!a43)
  (.ask (.in64 (v54 * 2)) (.ret ((if true = true then a39 == a39 && ((v54 * 2 == if a40 < v54 * 2 then a40 else v54 * 2) && true) else !(a39 == a39 && ((v54 * 2 == if a40 < v54 * 2 then a40 else v54 * 2) && true))), 0)))
  (.ret ((if true = true then a39 == a39 && ((v54 == if a40 < v54 then a40 else v54) && true) else !(a39 == a39 && ((v54 == if a40 < v54 then a40 else v54) && true))), 0))))))))))))))
noncomputable def F52 (a39 a40 a41 a42 : Int) (a43 : Bool) : Option (Bool × Int) := res B52 (.c0 a39 a40 a41 a42 a43)
noncomputable def D52_0 (a39 a40 a41 a42 : Int) (a43 : Bool) : DT cfz := (.go 10 [] [] (.bind (f27 a39 a40) fun v50 => (.go 2 [(.ck 0)] [] (.bind (f91 a41 1 16) fun v51 => (.go 2 [(.ck 1)] [] (.bind (f91 a42 0 256) fun v52 => (.go 2 [(.ck 2)] [] (.bind (f82 3 [(vI v50), (vI v51), (vI v52)]) fun v53 => (.go 8 [(.ck 3)] [] (.split 22 (.go 8 [(.br true)] [0] .fin) (.go 8 [(.br false)] [0] (.bind (f106 a41 a39 a42) fun v54 => (.go 9 [(.ck 4)] [] (.split 30 (.go 34 [(.br true)] [0] .fin) (.go 30 [(.br false)] [0] .fin)))))))))))))))
theorem k52_0 (a39 a40 a41 a42 : Int) (a43 : Bool) : xrun cfz 52 (D52_0 a39 a40 a41 a42 a43) [] (st52 (.c0 a39 a40 a41 a42 a43)) = (B52 (.c0 a39 a40 a41 a42 a43)).mach st52 out52 := by kernel_rfl
theorem ok52 : ∀ s, ∃ d, xrun cfz 52 d [] (st52 s) = (B52 s).mach st52 out52
  | .c0 a39 a40 a41 a42 a43 => ⟨_, k52_0 a39 a40 a41 a42 a43⟩
theorem f52 (a39 a40 a41 a42 : Int) (a43 : Bool) (v : Bool × Int) (h : F52 a39 a40 a41 a42 a43 = some v) : PureCalls cfz.P cfz.glob 52 [(.agg [(aI a39), (aI a40)]), (aI a41), (aI a42), (.d (.v (.bool a43)))] (out52 v) := tree_pure knil ok52 (s := .c0 a39 a40 a41 a42 a43) rfl (by kernel_rfl) v h

/-! F94 -/
inductive S94 where
  | c0 (a97 : Nat) (a98 : List DV) (a99 : Nat) (a100 : List DV)
  | c1 (x101 : Nat) (x102 : List DV) (x103 : Nat) (x104 : List DV) (x105 y106 : Int)
  | c2 (x107 : Nat) (x108 : List DV) (y109 y110 : Nat) (y111 : List DV) (x112 : Nat) (x113 : List DV) (x114 y115 : Int) (y116 : Nat)
def out94 (v : Nat × List DV) : AV := (.d (.sl v.fst v.snd))
noncomputable def st94 : S94 → ASt
  | .c0 a97 a98 a99 a100 => ent cfz 94 [(.d (.sl a97 a98)), (.d (.sl a99 a100))]
  | .c1 x101 x102 x103 x104 x105 y106 => ⟨⟨94, sp 27 0 [(1, (.d (.sl x101 x102))), (5, (.d (.v (.slice .none 0 0)))), (8, (.d (.sl x103 x104))), (9, (aI x105)), (10, (aI y106))], [(.code (cd cfz.P 94 [1, 1, 0, 1, 0, 0])), (.inLoop (cd cfz.P 94 [1, 1, 0, 1, 0, 0])), (.inBlock 0), (.code (cd cfz.P 94 [1, 1, 1]))], [], false, .none⟩, [], []⟩
  | .c2 x107 x108 y109 y110 y111 x112 x113 x114 y115 y116 => ⟨⟨94, sp 27 0 [(1, (.d (.sl x107 x108))), (5, (.own 1 y109 1 y110 y111)), (8, (.d (.sl x112 x113))), (9, (aI x114)), (10, (aI y115))], [(.code (cd cfz.P 94 [1, 1, 0, 1, 0, 0])), (.inLoop (cd cfz.P 94 [1, 1, 0, 1, 0, 0])), (.inBlock 0), (.code (cd cfz.P 94 [1, 1, 1]))], [], false, .none⟩, [], [(.tail 0), (.tail y116)]⟩
noncomputable def B94 : S94 → Tr S94 (Nat × List DV)
  | .c0 a97 a98 a99 a100 => (.nxt (.c1 a99 a100 a97 a98 ((↑a97 : Int)) 0))
  | .c1 x101 x102 x103 x104 x105 y106 => (.br (decide (y106 < x105))
  (.ask (.le 0 y106) (.ask (.lt y106 ((↑x103 : Int))) (.ask (.leN (y106.toNat * 1) x104.length) (.ask (.prop (Option.map AV.d (List.drop (y106.toNat * 1) x104)[0]? = some (AV.d (DV.v (Value.int IntKind.i64 (dI (cel x104 (y106.toNat * 1)))))))) (.ask (.le 0 y106) (.ask (.lt y106 ((↑x101 : Int))) (.ask (.leN (y106.toNat * 1) x102.length) (.ask (.prop (Option.map AV.d (List.drop (y106.toNat * 1) x102)[0]? = some (AV.d (DV.v (Value.int IntKind.i64 (dI (cel x102 (y106.toNat * 1)))))))) (.br (dI (cel x104 (y106.toNat * 1)) != dI (cel x102 (y106.toNat * 1)))
  (.ask (.in64 (y106 + 1)) (.nxt (.c2 x101 x102 0 1 [(.v (.int .i64 y106))] x103 x104 x105 (y106 + 1) 0)))
  (.ask (.in64 (y106 + 1)) (.nxt (.c1 x101 x102 x103 x104 x105 (y106 + 1)))))))))))))
  (.ret (0, [])))
  | .c2 x107 x108 y109 y110 y111 x112 x113 x114 y115 y116 => (.br (decide (y115 < x114))
  (.ask (.le 0 y115) (.ask (.lt y115 ((↑x112 : Int))) (.ask (.leN (y115.toNat * 1) x113.length) (.ask (.prop (Option.map AV.d (List.drop (y115.toNat * 1) x113)[0]? = some (AV.d (DV.v (Value.int IntKind.i64 (dI (cel x113 (y115.toNat * 1)))))))) (.ask (.le 0 y115) (.ask (.lt y115 ((↑x107 : Int))) (.ask (.leN (y115.toNat * 1) x108.length) (.ask (.prop (Option.map AV.d (List.drop (y115.toNat * 1) x108)[0]? = some (AV.d (DV.v (Value.int IntKind.i64 (dI (cel x108 (y115.toNat * 1)))))))) (.br (dI (cel x113 (y115.toNat * 1)) != dI (cel x108 (y115.toNat * 1)))
  (.ask (.eqN y109 y116) (.ask (.fits (y110 + 1) 8) (.ask (.in64 (y115 + 1)) (.nxt (.c2 x107 x108 (y116 + 1) (y110 + 1) (y111 ++ [DV.v (Value.int IntKind.i64 y115)]) x112 x113 x114 (y115 + 1) (y116 + 1))))))
  (.ask (.in64 (y115 + 1)) (.nxt (.c2 x107 x108 y109 y110 y111 x112 x113 x114 (y115 + 1) y116))))))))))))
  (.ret (y110, y111)))
noncomputable def F94 (a97 : Nat) (a98 : List DV) (a99 : Nat) (a100 : List DV) : Option (Nat × List DV) := res B94 (.c0 a97 a98 a99 a100)
noncomputable def D94_0 (a97 : Nat) (a98 : List DV) (a99 : Nat) (a100 : List DV) : DT cfz := (.go 17 [] [] (.cut 0 [[1, 5, 8, 9, 10]] []))
theorem k94_0 (a97 : Nat) (a98 : List DV) (a99 : Nat) (a100 : List DV) : xrun cfz 94 (D94_0 a97 a98 a99 a100) [] (st94 (.c0 a97 a98 a99 a100)) = (B94 (.c0 a97 a98 a99 a100)).mach st94 out94 := by kernel_rfl
noncomputable def D94_1 (x101 : Nat) (x102 : List DV) (x103 : Nat) (x104 : List DV) (x105 y106 : Int) : DT cfz := (.go 5 [] [] (.split 11 (.go 21 [(.br true), (.as (aI (dI (cel x104 (y106.toNat * 1))))), (.as (aI (dI (cel x102 (y106.toNat * 1)))))] [0] (.split 20 (.go 14 [(.br true)] [0, 1, 2, 3] (.cut 2 [[1, 5, 8, 9, 10]] [])) (.go 8 [(.br false)] [0] (.cut 0 [[1, 5, 8, 9, 10]] [])))) (.go 8 [(.br false)] [0] .fin)))
theorem k94_1 (x101 : Nat) (x102 : List DV) (x103 : Nat) (x104 : List DV) (x105 y106 : Int) : xrun cfz 94 (D94_1 x101 x102 x103 x104 x105 y106) [] (st94 (.c1 x101 x102 x103 x104 x105 y106)) = (B94 (.c1 x101 x102 x103 x104 x105 y106)).mach st94 out94 := by kernel_rfl
noncomputable def D94_2 (x107 : Nat) (x108 : List DV) (y109 y110 : Nat) (y111 : List DV) (x112 : Nat) (x113 : List DV) (x114 y115 : Int) (y116 : Nat) : DT cfz := (.go 5 [] [] (.split 11 (.go 21 [(.br true), (.as (aI (dI (cel x113 (y115.toNat * 1))))), (.as (aI (dI (cel x108 (y115.toNat * 1)))))] [0] (.split 20 (.go 14 [(.br true)] [0, 2, 3] (.cut 2 [[1, 5, 8, 9, 10]] [])) (.go 8 [(.br false)] [0] (.cut 2 [[1, 5, 8, 9, 10]] [])))) (.go 8 [(.br false)] [0] .fin)))
theorem k94_2 (x107 : Nat) (x108 : List DV) (y109 y110 : Nat) (y111 : List DV) (x112 : Nat) (x113 : List DV) (x114 y115 : Int) (y116 : Nat) : xrun cfz 94 (D94_2 x107 x108 y109 y110 y111 x112 x113 x114 y115 y116) [] (st94 (.c2 x107 x108 y109 y110 y111 x112 x113 x114 y115 y116)) = (B94 (.c2 x107 x108 y109 y110 y111 x112 x113 x114 y115 y116)).mach st94 out94 := by kernel_rfl
theorem ok94 : ∀ s, ∃ d, xrun cfz 94 d [] (st94 s) = (B94 s).mach st94 out94
  | .c0 a97 a98 a99 a100 => ⟨_, k94_0 a97 a98 a99 a100⟩
  | .c1 x101 x102 x103 x104 x105 y106 => ⟨_, k94_1 x101 x102 x103 x104 x105 y106⟩
  | .c2 x107 x108 y109 y110 y111 x112 x113 x114 y115 y116 => ⟨_, k94_2 x107 x108 y109 y110 y111 x112 x113 x114 y115 y116⟩
theorem f94 (a97 : Nat) (a98 : List DV) (a99 : Nat) (a100 : List DV) (v : Nat × List DV) (h : F94 a97 a98 a99 a100 = some v) : PureCalls cfz.P cfz.glob 94 [(.d (.sl a97 a98)), (.d (.sl a99 a100))] (out94 v) := tree_pure knil ok94 (s := .c0 a97 a98 a99 a100) rfl (by kernel_rfl) v h

/-! F53 -/
inductive S53 where
  | c0 (a61 : Nat) (a62 : List DV) (a63 : Nat) (a64 : List DV)
def out53 (v : Int × Int) : AV := (.tup [(.d (.v (.int .i64 v.fst))), (.d (.v (.int .i64 v.snd)))])
noncomputable def st53 : S53 → ASt
  | .c0 a61 a62 a63 a64 => ent cfz 53 [(.d (.sl a61 a62)), (.d (.sl a63 a64))]
noncomputable def B53 : S53 → Tr S53 (Int × Int)
  | .c0 a61 a62 a63 a64 => (.bind (F105 a61 a62) fun v93 =>
  (.sees [(.d (.sl a61 a62))] (.bind (F105 a63 a64) fun v94 =>
  (.sees [(.d (.sl a63 a64))] (.bind (F83 ((↑a61 : Int) != (↑a63 : Int)) 2) fun v95 =>
  (.sees [(.d (.v (.bool ((↑a61 : Int) != (↑a63 : Int))))), (aI 2)] (.bind (F82 3 [(.v (.int .i64 v93)), (.v (.int .i64 v94)), (.v (.int .i64 v95))]) fun v96 =>
  (.sees [(.d (.sl 3 [(vI v93), (vI v94), (vI v95)]))] (.br (v96 != 0)
  (.ret (0, v96))
  (.bind (F94 a61 a62 a63 a64) fun v117 =>
  (.sees [(.d (.sl a61 a62)), (.d (.sl a63 a64))] (.ret (((↑v117.fst : Int)), 0)))))))))))))
noncomputable def F53 (a61 : Nat) (a62 : List DV) (a63 : Nat) (a64 : List DV) : Option (Int × Int) := res B53 (.c0 a61 a62 a63 a64)
noncomputable def D53_0 (a61 : Nat) (a62 : List DV) (a63 : Nat) (a64 : List DV) : DT cfz := (.go 9 [] [] (.bind (f105 a61 a62) fun v93 => (.go 2 [(.ck 0)] [] (.bind (f105 a63 a64) fun v94 => (.go 6 [(.ck 1)] [] (.bind (f83 ((↑a61 : Int) != (↑a63 : Int)) 2) fun v95 => (.go 2 [(.ck 2)] [] (.bind (f82 3 [(vI v93), (vI v94), (vI v95)]) fun v96 => (.go 8 [(.ck 3)] [] (.split 20 (.go 8 [(.br true)] [0] .fin) (.go 6 [(.br false)] [0] (.bind (f94 a61 a62 a63 a64) fun v117 => (.go 6 [(.ck 4)] [] .fin)))))))))))))
theorem k53_0 (a61 : Nat) (a62 : List DV) (a63 : Nat) (a64 : List DV) : xrun cfz 53 (D53_0 a61 a62 a63 a64) [] (st53 (.c0 a61 a62 a63 a64)) = (B53 (.c0 a61 a62 a63 a64)).mach st53 out53 := by kernel_rfl
theorem ok53 : ∀ s, ∃ d, xrun cfz 53 d [] (st53 s) = (B53 s).mach st53 out53
  | .c0 a61 a62 a63 a64 => ⟨_, k53_0 a61 a62 a63 a64⟩
theorem f53 (a61 : Nat) (a62 : List DV) (a63 : Nat) (a64 : List DV) (v : Int × Int) (h : F53 a61 a62 a63 a64 = some v) : PureCalls cfz.P cfz.glob 53 [(.d (.sl a61 a62)), (.d (.sl a63 a64))] (out53 v) := tree_pure knil ok53 (s := .c0 a61 a62 a63 a64) rfl (by kernel_rfl) v h

/-! F57 -/
inductive S57 where
  | c0 (a161 a162 a163 : Int)
  | c1 (x164 x165 x166 y167 y168 : Int)
  | c2 (x169 x170 x171 y172 x173 y174 : Int)
  | c3 (x175 x176 x177 x178 x179 x180 y181 y182 : Int)
def out57 (v : Int) : AV := (.d (.v (.int .i64 v)))
noncomputable def st57 : S57 → ASt
  | .c0 a161 a162 a163 => ent cfz 57 [(aI a161), (aI a162), (aI a163)]
  | .c1 x164 x165 x166 y167 y168 => ⟨⟨57, sp 51 0 [(0, (aI x164)), (2, (aI x165)), (7, (aI x166)), (8, (aI y167)), (9, (aI y168))], [(.code (cd cfz.P 57 [1, 1, 1, 0, 1, 0, 0])), (.inLoop (cd cfz.P 57 [1, 1, 1, 0, 1, 0, 0])), (.inBlock 0), (.code (cd cfz.P 57 [1, 1, 1, 1]))], [], false, .none⟩, [], []⟩
  | .c2 x169 x170 x171 y172 x173 y174 => ⟨⟨57, sp 51 0 [(0, (aI x169)), (2, (aI x170)), (7, (aI x171)), (8, (aI y172)), (9, (aI x173)), (10, (aI y174))], [(.code (cd cfz.P 57 [1, 1, 1, 0, 1, 0, 0, 1, 0, 0, 1, 0, 0])), (.inLoop (cd cfz.P 57 [1, 1, 1, 0, 1, 0, 0, 1, 0, 0, 1, 0, 0])), (.inBlock 2), (.inBlock 1), (.code (cd cfz.P 57 [1, 1, 1, 0, 1, 0, 0, 1, 1])), (.inLoop (cd cfz.P 57 [1, 1, 1, 0, 1, 0, 0])), (.inBlock 0), (.code (cd cfz.P 57 [1, 1, 1, 1]))], [], false, .none⟩, [], []⟩
  | .c3 x175 x176 x177 x178 x179 x180 y181 y182 => ⟨⟨57, sp 51 0 [(0, (aI x175)), (2, (aI x176)), (7, (aI x177)), (8, (aI x178)), (9, (aI x179)), (10, (aI x180)), (11, (aI y181)), (12, (aI y182))], [(.code (cd cfz.P 57 [1, 1, 1, 0, 1, 0, 0, 1, 0, 0, 1, 0, 0, 1, 0, 0, 1, 0, 1, 0, 0])), (.inLoop (cd cfz.P 57 [1, 1, 1, 0, 1, 0, 0, 1, 0, 0, 1, 0, 0, 1, 0, 0, 1, 0, 1, 0, 0])), (.inBlock 4), (.code (cd cfz.P 57 [1, 1, 1, 0, 1, 0, 0, 1, 0, 0, 1, 0, 0, 1, 0, 0, 1, 1])), (.inBlock 3), (.code (cd cfz.P 57 [1, 1, 1, 0, 1, 0, 0, 1, 0, 0, 1, 0, 0, 1, 1])), (.inLoop (cd cfz.P 57 [1, 1, 1, 0, 1, 0, 0, 1, 0, 0, 1, 0, 0])), (.inBlock 2), (.inBlock 1), (.code (cd cfz.P 57 [1, 1, 1, 0, 1, 0, 0, 1, 1])), (.inLoop (cd cfz.P 57 [1, 1, 1, 0, 1, 0, 0])), (.inBlock 0), (.code (cd cfz.P 57 [1, 1, 1, 1]))], [], false, .none⟩, [], []⟩
noncomputable def B57 : S57 → Tr S57 (Int)
  | .c0 a161 a162 a163 => (.ask (.in64 (a161 * a162)) (.nxt (.c1 a161 a163 (a161 * a162) 0 0)))
  | .c1 x164 x165 x166 y167 y168 => (.ask (.in64 (y168 + if x166 < x165 then x166 else x165)) (.br (decide ((y168 + if x166 < x165 then x166 else x165) ≤ x166))
  (.nxt (.c2 x164 x165 x166 y167 y168 0))
  (.ret y167)))
  | .c2 x169 x170 x171 y172 x173 y174 => (.br (decide (y174 < x169))
  (.nxt (.c3 x169 x170 x171 y172 x173 y174 0 x173))
  (.ask (.in64 (x173 + 1)) (.nxt (.c1 x169 x170 x171 y172 (x173 + 1)))))
  | .c3 x175 x176 x177 x178 x179 x180 y181 y182 => (.ask (.in64 (x179 + if x177 < x176 then x177 else x176)) (.br (decide (y182 < x179 + if x177 < x176 then x177 else x176))
  (.ask (.neI x175 0) (.br (y182.tmod x175 == x180)
  (.ask (.in64 (y181 + 1)) (.ask (.in64 (y182 + 1)) (.nxt (.c3 x175 x176 x177 x178 x179 x180 (y181 + 1) (y182 + 1)))))
  (.ask (.in64 (y182 + 1)) (.nxt (.c3 x175 x176 x177 x178 x179 x180 y181 (y182 + 1))))))
  (.ask (.in64 (x180 + 1)) (.nxt (.c2 x175 x176 x177 (if y181 > x178 then y181 else x178) x179 (x180 + 1))))))
noncomputable def F57 (a161 a162 a163 : Int) : Option (Int) := res B57 (.c0 a161 a162 a163)
noncomputable def D57_0 (a161 a162 a163 : Int) : DT cfz := (.go 22 [] [] (.cut 0 [[0, 2, 7, 8, 9]] []))
theorem k57_0 (a161 a162 a163 : Int) : xrun cfz 57 (D57_0 a161 a162 a163) [] (st57 (.c0 a161 a162 a163)) = (B57 (.c0 a161 a162 a163)).mach st57 out57 := by kernel_rfl
noncomputable def D57_1 (x164 x165 x166 y167 y168 : Int) : DT cfz := (.go 11 [] [] (.split 22 (.go 10 [(.br true)] [0] (.cut 0 [[0, 2, 7, 8, 9, 10]] [])) (.go 8 [(.br false)] [0] .fin)))
theorem k57_1 (x164 x165 x166 y167 y168 : Int) : xrun cfz 57 (D57_1 x164 x165 x166 y167 y168) [] (st57 (.c1 x164 x165 x166 y167 y168)) = (B57 (.c1 x164 x165 x166 y167 y168)).mach st57 out57 := by kernel_rfl
noncomputable def D57_2 (x169 x170 x171 y172 x173 y174 : Int) : DT cfz := (.go 7 [] [] (.split 27 (.go 16 [(.br true)] [0] (.cut 0 [[0, 2, 7, 8, 9, 10, 11, 12]] [])) (.go 9 [(.br false)] [0] (.cut 0 [[0, 2, 7, 8, 9]] []))))
theorem k57_2 (x169 x170 x171 y172 x173 y174 : Int) : xrun cfz 57 (D57_2 x169 x170 x171 y172 x173 y174) [] (st57 (.c2 x169 x170 x171 y172 x173 y174)) = (B57 (.c2 x169 x170 x171 y172 x173 y174)).mach st57 out57 := by kernel_rfl
noncomputable def D57_3 (x175 x176 x177 x178 x179 x180 y181 y182 : Int) : DT cfz := (.go 11 [] [] (.split 37 (.go 12 [(.br true)] [0] (.split 44 (.go 13 [(.br true)] [0] (.cut 0 [[0, 2, 7, 8, 9, 10, 11, 12]] [])) (.go 9 [(.br false)] [0] (.cut 0 [[0, 2, 7, 8, 9, 10, 11, 12]] [])))) (.go 15 [(.br false)] [0] (.cut 0 [[0, 2, 7, 8, 9, 10]] []))))
theorem k57_3 (x175 x176 x177 x178 x179 x180 y181 y182 : Int) : xrun cfz 57 (D57_3 x175 x176 x177 x178 x179 x180 y181 y182) [] (st57 (.c3 x175 x176 x177 x178 x179 x180 y181 y182)) = (B57 (.c3 x175 x176 x177 x178 x179 x180 y181 y182)).mach st57 out57 := by kernel_rfl
theorem ok57 : ∀ s, ∃ d, xrun cfz 57 d [] (st57 s) = (B57 s).mach st57 out57
  | .c0 a161 a162 a163 => ⟨_, k57_0 a161 a162 a163⟩
  | .c1 x164 x165 x166 y167 y168 => ⟨_, k57_1 x164 x165 x166 y167 y168⟩
  | .c2 x169 x170 x171 y172 x173 y174 => ⟨_, k57_2 x169 x170 x171 y172 x173 y174⟩
  | .c3 x175 x176 x177 x178 x179 x180 y181 y182 => ⟨_, k57_3 x175 x176 x177 x178 x179 x180 y181 y182⟩
theorem f57 (a161 a162 a163 v : Int) (h : F57 a161 a162 a163 = some v) : PureCalls cfz.P cfz.glob 57 [(aI a161), (aI a162), (aI a163)] (out57 v) := tree_pure knil ok57 (s := .c0 a161 a162 a163) rfl (by kernel_rfl) v h

/-! F58 -/
inductive S58 where
  | c0 (a208 a209 a210 a211 : Int) (a212 : Bool)
def out58 (v : Bool) : AV := (.d (.v (.bool v)))
noncomputable def st58 : S58 → ASt
  | .c0 a208 a209 a210 a211 a212 => ent cfz 58 [(.agg [(aI a208), (aI a209)]), (aI a210), (aI a211), (.d (.v (.bool a212)))]
noncomputable def B58 : S58 → Tr S58 (Bool)
  | .c0 a208 a209 a210 a211 a212 => (.bind (F57 a210 a208 a211) fun v213 =>
  (.sees [(aI a210), (aI a208), (aI a211)] (.br a212
  (.ret (decide (v213 ≤ a209)))
  (.ask (.in64 (2 * v213)) (.ret (decide (2 * v213 ≤ a209)))))))
noncomputable def F58 (a208 a209 a210 a211 : Int) (a212 : Bool) : Option (Bool) := res B58 (.c0 a208 a209 a210 a211 a212)
noncomputable def D58_0 (a208 a209 a210 a211 : Int) (a212 : Bool) : DT cfz := (.go 11 [] [] (.bind (f57 a210 a208 a211) fun v213 => (.go 8 [(.ck 0)] [] (.split 15 (.go 10 [(.br true)] [0] .fin) (.go 12 [(.br false)] [0] .fin)))))
theorem k58_0 (a208 a209 a210 a211 : Int) (a212 : Bool) : xrun cfz 58 (D58_0 a208 a209 a210 a211 a212) [] (st58 (.c0 a208 a209 a210 a211 a212)) = (B58 (.c0 a208 a209 a210 a211 a212)).mach st58 out58 := by kernel_rfl
theorem ok58 : ∀ s, ∃ d, xrun cfz 58 d [] (st58 s) = (B58 s).mach st58 out58
  | .c0 a208 a209 a210 a211 a212 => ⟨_, k58_0 a208 a209 a210 a211 a212⟩
theorem f58 (a208 a209 a210 a211 : Int) (a212 v : Bool) (h : F58 a208 a209 a210 a211 a212 = some v) : PureCalls cfz.P cfz.glob 58 [(.agg [(aI a208), (aI a209)]), (aI a210), (aI a211), (.d (.v (.bool a212)))] (out58 v) := tree_pure knil ok58 (s := .c0 a208 a209 a210 a211 a212) rfl (by kernel_rfl) v h

/-! F59 -/
inductive S59 where
  | c0 (a235 : Nat) (a236 : List DV) (a237 : Nat) (a238 : List DV)
  | c1 (x239 : Nat) (x240 : List DV) (x241 : Nat) (x242 : List DV) (y243 y244 : Int)
def out59 (v : Int) : AV := (.d (.v (.int .i64 v)))
noncomputable def st59 : S59 → ASt
  | .c0 a235 a236 a237 a238 => ent cfz 59 [(.d (.sl a235 a236)), (.d (.sl a237 a238))]
  | .c1 x239 x240 x241 x242 y243 y244 => ⟨⟨59, sp 25 0 [(0, (.d (.sl x239 x240))), (1, (.d (.sl x241 x242))), (5, (aI y243)), (6, (aI y244))], [(.code (cd cfz.P 59 [1, 1, 0, 1, 0, 0])), (.inLoop (cd cfz.P 59 [1, 1, 0, 1, 0, 0])), (.inBlock 0), (.code (cd cfz.P 59 [1, 1, 1]))], [], false, .none⟩, [], []⟩
noncomputable def B59 : S59 → Tr S59 (Int)
  | .c0 a235 a236 a237 a238 => (.nxt (.c1 a235 a236 a237 a238 0 0))
  | .c1 x239 x240 x241 x242 y243 y244 => (.br (decide (y244 < (↑x239 : Int)))
  (.ask (.le 0 y244) (.ask (.lt y244 ((↑x239 : Int))) (.ask (.leN (y244.toNat * 1) x240.length) (.ask (.prop (Option.map AV.d (List.drop (y244.toNat * 1) x240)[0]? = some (AV.d (DV.v (Value.int IntKind.i64 (dI (cel x240 (y244.toNat * 1)))))))) (.ask (.le 0 y244) (.ask (.lt y244 ((↑x241 : Int))) (.ask (.leN (y244.toNat * 1) x242.length) (.ask (.prop (Option.map AV.d (List.drop (y244.toNat * 1) x242)[0]? = some (AV.d (DV.v (Value.int IntKind.i64 (dI (cel x242 (y244.toNat * 1)))))))) (.br (dI (cel x240 (y244.toNat * 1)) != dI (cel x242 (y244.toNat * 1)))
  (.ask (.in64 (y243 + 1)) (.ask (.in64 (y244 + 1)) (.nxt (.c1 x239 x240 x241 x242 (y243 + 1) (y244 + 1)))))
  (.ask (.in64 (y244 + 1)) (.nxt (.c1 x239 x240 x241 x242 y243 (y244 + 1)))))))))))))
  (.ret y243))
noncomputable def F59 (a235 : Nat) (a236 : List DV) (a237 : Nat) (a238 : List DV) : Option (Int) := res B59 (.c0 a235 a236 a237 a238)
noncomputable def D59_0 (a235 : Nat) (a236 : List DV) (a237 : Nat) (a238 : List DV) : DT cfz := (.go 15 [] [] (.cut 0 [[0, 1, 5, 6]] []))
theorem k59_0 (a235 : Nat) (a236 : List DV) (a237 : Nat) (a238 : List DV) : xrun cfz 59 (D59_0 a235 a236 a237 a238) [] (st59 (.c0 a235 a236 a237 a238)) = (B59 (.c0 a235 a236 a237 a238)).mach st59 out59 := by kernel_rfl
noncomputable def D59_1 (x239 : Nat) (x240 : List DV) (x241 : Nat) (x242 : List DV) (y243 y244 : Int) : DT cfz := (.go 8 [] [] (.split 10 (.go 7 [(.br true), (.as (aI (dI (cel x240 (y244.toNat * 1))))), (.as (aI (dI (cel x242 (y244.toNat * 1)))))] [0] (.split 21 (.go 13 [(.br true)] [0] (.cut 0 [[0, 1, 5, 6]] [])) (.go 9 [(.br false)] [0] (.cut 0 [[0, 1, 5, 6]] [])))) (.go 8 [(.br false)] [0] .fin)))
theorem k59_1 (x239 : Nat) (x240 : List DV) (x241 : Nat) (x242 : List DV) (y243 y244 : Int) : xrun cfz 59 (D59_1 x239 x240 x241 x242 y243 y244) [] (st59 (.c1 x239 x240 x241 x242 y243 y244)) = (B59 (.c1 x239 x240 x241 x242 y243 y244)).mach st59 out59 := by kernel_rfl
theorem ok59 : ∀ s, ∃ d, xrun cfz 59 d [] (st59 s) = (B59 s).mach st59 out59
  | .c0 a235 a236 a237 a238 => ⟨_, k59_0 a235 a236 a237 a238⟩
  | .c1 x239 x240 x241 x242 y243 y244 => ⟨_, k59_1 x239 x240 x241 x242 y243 y244⟩
theorem f59 (a235 : Nat) (a236 : List DV) (a237 : Nat) (a238 : List DV) (v : Int) (h : F59 a235 a236 a237 a238 = some v) : PureCalls cfz.P cfz.glob 59 [(.d (.sl a235 a236)), (.d (.sl a237 a238))] (out59 v) := tree_pure knil ok59 (s := .c0 a235 a236 a237 a238) rfl (by kernel_rfl) v h

/-! F7 -/
inductive S7 where
  | c0 (a0 a1 a2 a3 a4 : Int) (a5 : Nat) (a6 : List DV) (a7 : Nat) (a8 : List DV)
  | c1 (x184 x185 : Int) (x186 : Bool) (x187 : Int) (x188 : Bool) (x189 x190 x191 x192 x193 x194 x195 y196 : Int) (y197 y198 : Bool) (x199 x200 x201 x202 x203 : Int) (x204 : Nat) (x205 : List DV) (x206 : Nat) (x207 : List DV)
  | c2 (x216 x217 : Int) (x218 : Bool) (x219 : Int) (x220 : Bool) (x221 x222 x223 x224 x225 x226 x227 y228 : Int) (x229 x230 : Bool) (x231 : Nat) (x232 : List DV) (x233 : Nat) (x234 : List DV)
  | c3 (x246 x247 : Int) (x248 : Bool) (x249 : Int) (x250 : Bool) (x251 x252 x253 x254 x255 x256 x257 x258 : Int) (x259 x260 : Bool)
def out7 (v : Bool) : AV := (.d (.v (.bool v)))
noncomputable def st7 : S7 → ASt
  | .c0 a0 a1 a2 a3 a4 a5 a6 a7 a8 => ent cfz 7 [(.agg [(aI a0), (aI a1)]), (.agg [(aI a2), (aI a3), (aI a4)]), (.agg [(.d (.sl a5 a6)), (.d (.sl a7 a8))])]
  | .c1 x184 x185 x186 x187 x188 x189 x190 x191 x192 x193 x194 x195 y196 y197 y198 x199 x200 x201 x202 x203 x204 x205 x206 x207 => ⟨⟨7, sp 179 0 [(3, (.ptr 0 0)), (4, (.ptr 1 0)), (5, (.ptr 2 0)), (7, (aI x184)), (8, (aI x185)), (9, (.d (.v (.bool x186)))), (10, (aI x187)), (11, (.d (.v (.bool x188)))), (12, (aI x189)), (13, (aI x190)), (14, (aI x191)), (15, (aI x192)), (16, (aI x193)), (17, (aI x194)), (18, (aI x195)), (19, (aI y196)), (20, (.d (.v (.bool y197)))), (21, (.d (.v (.bool y198))))], [(.code (cd cfz.P 7 [1, 1, 1, 1, 1, 1, 1, 1, 1, 1]))], [], false, .none⟩, [], [(.cells [(aI x199), (aI x200)] 23), (.cells [(aI x201), (aI x202), (aI x203)] 73), (.cells [(.d (.sl x204 x205)), (.d (.sl x206 x207))] 74)]⟩
  | .c2 x216 x217 x218 x219 x220 x221 x222 x223 x224 x225 x226 x227 y228 x229 x230 x231 x232 x233 x234 => ⟨⟨7, sp 179 0 [(5, (.ptr 2 0)), (7, (aI x216)), (8, (aI x217)), (9, (.d (.v (.bool x218)))), (10, (aI x219)), (11, (.d (.v (.bool x220)))), (12, (aI x221)), (13, (aI x222)), (14, (aI x223)), (15, (aI x224)), (16, (aI x225)), (17, (aI x226)), (18, (aI x227)), (19, (aI y228)), (20, (.d (.v (.bool x229)))), (21, (.d (.v (.bool x230))))], [(.code (cd cfz.P 7 [1, 1, 1, 1, 1, 1, 1, 1, 1, 1, 1]))], [], false, .none⟩, [], [.dead, .dead, (.cells [(.d (.sl x231 x232)), (.d (.sl x233 x234))] 74)]⟩
  | .c3 x246 x247 x248 x249 x250 x251 x252 x253 x254 x255 x256 x257 x258 x259 x260 => ⟨⟨7, sp 179 0 [(7, (aI x246)), (8, (aI x247)), (9, (.d (.v (.bool x248)))), (10, (aI x249)), (11, (.d (.v (.bool x250)))), (12, (aI x251)), (13, (aI x252)), (14, (aI x253)), (15, (aI x254)), (16, (aI x255)), (17, (aI x256)), (18, (aI x257)), (19, (aI x258)), (20, (.d (.v (.bool x259)))), (21, (.d (.v (.bool x260))))], [(.code (cd cfz.P 7 [1, 1, 1, 1, 1, 1, 1, 1, 1, 1, 1, 1]))], [], false, .none⟩, [], []⟩
noncomputable def B7 : S7 → Tr S7 (Bool)
  | .c0 a0 a1 a2 a3 a4 a5 a6 a7 a8 => (.bind (F14 a5 a6) fun v11 =>
  (.sees [(.d (.sl a5 a6))] (.br (!v11)
  (.bind (F15) fun v12 =>
  (.sees [] (.ret v12)))
  (.bind (F14 a7 a8) fun v13 =>
  (.sees [(.d (.sl a7 a8))] (.br (!v13)
  (.bind (F15) fun v14 =>
  (.sees [] (.ret v14)))
  (.bind (F51 a2 a3 a4) fun v38 =>
  (.sees [(aI a2), (aI a3), (aI a4)] (.bind (F52 a0 a1 a2 a4 false) fun v55 =>
  (.sees [(.agg [(aI a0), (aI a1)]), (aI a2), (aI a4), (.d (.v (.bool false)))] (.bind (F52 a0 a1 a2 a4 true) fun v56 =>
  (.sees [(.agg [(aI a0), (aI a1)]), (aI a2), (aI a4), (.d (.v (.bool true)))] (.bind (F17 a5 a6) fun v59 =>
  (.bind (F17 a7 a8) fun v60 =>
  (.bind (F53 v59.fst v59.snd v60.fst v60.snd) fun v118 =>
  (.sees [(.d (.sl a5 a6))] (.sees [(.d (.sl a7 a8))] (.sees [(.d (.sl v59.fst v59.snd)), (.d (.sl v60.fst v60.snd))] (.bind (F54 a2 1 16) fun v125 =>
  (.bind (F54 a3 1 16) fun v126 =>
  (.bind (F55 a4) fun v129 =>
  (.bind (F39 3 [(.v (.int .i64 v125)), (.v (.int .i64 v126)), (.v (.int .i64 v129))]) fun v138 =>
  (.bind (F28 a0 a1) fun v145 =>
  (.bind (F39 3 [(.v (.int .i64 v145)), (.v (.int .i64 v125)), (.v (.int .i64 v129))]) fun v146 =>
  (.bind (F56 a5 a6) fun v157 =>
  (.bind (F56 a7 a8) fun v158 =>
  (.bind (F25 ((↑a5 : Int) != (↑a7 : Int)) 2) fun v159 =>
  (.bind (F39 3 [(.v (.int .i64 v157)), (.v (.int .i64 v158)), (.v (.int .i64 v159))]) fun v160 =>
  (.sees [(aI a2), (aI 1), (aI 16)] (.sees [(aI a3), (aI 1), (aI 16)] (.sees [(aI a4)] (.sees [(.d (.sl 3 [(vI v125), (vI v126), (vI v129)]))] (.sees [(.agg [(aI a0), (aI a1)])] (.sees [(aI a2), (aI 1), (aI 16)] (.sees [(aI a4)] (.sees [(.d (.sl 3 [(vI v145), (vI v125), (vI v129)]))] (.sees [(.d (.sl a5 a6))] (.sees [(.d (.sl a7 a8))] (.sees [(.d (.v (.bool ((↑a5 : Int) != (↑a7 : Int))))), (aI 2)] (.sees [(.d (.sl 3 [(vI v157), (vI v158), (vI v159)]))] (.br (v138 == 0)
  (.bind (F57 a2 a3 a4) fun v183 =>
  (.sees [(aI a2), (aI a3), (aI a4)] (.nxt (.c1 v38.fst v38.snd v55.fst v55.snd v56.fst v56.snd v118.fst v118.snd v138 v146 v160 v183 0 false false a0 a1 a2 a3 a4 a5 a6 a7 a8))))
  (.nxt (.c1 v38.fst v38.snd v55.fst v55.snd v56.fst v56.snd v118.fst v118.snd v138 v146 v160 0 0 false false a0 a1 a2 a3 a4 a5 a6 a7 a8)))))))))))))))))))))))))))))))))))))))))))
  | .c1 x184 x185 x186 x187 x188 x189 x190 x191 x192 x193 x194 x195 y196 y197 y198 x199 x200 x201 x202 x203 x204 x205 x206 x207 => (.br (x193 == 0)
  (.bind (F58 x199 x200 x201 x203 false) fun v214 =>
  (.bind (F58 x199 x200 x201 x203 true) fun v215 =>
  (.sees [(.agg [(aI x199), (aI x200)]), (aI x201), (aI x203), (.d (.v (.bool false)))] (.sees [(.agg [(aI x199), (aI x200)]), (aI x201), (aI x203), (.d (.v (.bool true)))] (.nxt (.c2 x184 x185 x186 x187 x188 x189 x190 x191 x192 x193 x194 x195 y196 v214 v215 x204 x205 x206 x207))))))
  (.nxt (.c2 x184 x185 x186 x187 x188 x189 x190 x191 x192 x193 x194 x195 y196 y197 y198 x204 x205 x206 x207)))
  | .c2 x216 x217 x218 x219 x220 x221 x222 x223 x224 x225 x226 x227 y228 x229 x230 x231 x232 x233 x234 => (.br (x226 == 0)
  (.bind (F59 x231 x232 x233 x234) fun v245 =>
  (.sees [(.d (.sl x231 x232)), (.d (.sl x233 x234))] (.nxt (.c3 x216 x217 x218 x219 x220 x221 x222 x223 x224 x225 x226 x227 v245 x229 x230))))
  (.nxt (.c3 x216 x217 x218 x219 x220 x221 x222 x223 x224 x225 x226 x227 y228 x229 x230)))
  | .c3 x246 x247 x248 x249 x250 x251 x252 x253 x254 x255 x256 x257 x258 x259 x260 => (.triv _ (tv_s ((x246 == x257) == true)) (.triv _ (tv_s ((x246 == x257) == true)) (.triv _ (tv_t (x246 == x257)) (.triv _ (tv_s ((if (x246 == x257) = true then x247 == x254 else false) == true)) (.triv _ (tv_s ((if (x246 == x257) = true then x247 == x254 else false) == true)) (.triv _ (tv_t (if (x246 == x257) = true then x247 == x254 else false)) (.triv _ (tv_s ((if (if (x246 == x257) = true then x247 == x254 else false) = true then x248 == x259 else false) == true)) (.triv _ (tv_s ((if (if (x246 == x257) = true then x247 == x254 else false) = true then x248 == x259 else false) == true)) (.triv _ (tv_t (if (if (x246 == x257) = true then x247 == x254 else false) = true then x248 == x259 else false)) (.triv _ (tv_s ((if (if (if (x246 == x257) = true then x247 == x254 else false) = true then x248 == x259 else false) = true then x249 == x255 else false) == true)) (.triv _ (tv_s ((if (if (if (x246 == x257) = true then x247 == x254 else false) = true then x248 == x259 else false) = true then x249 == x255 else false) == true)) (.triv _ (tv_t (if (if (if (x246 == x257) = true then x247 == x254 else false) = true then x248 == x259 else false) = true then x249 == x255 else false)) (.triv _ (tv_s ((if (if (if (if (x246 == x257) = true then x247 == x254 else false) = true then x248 == x259 else false) = true then x249 == x255 else false) = true then x250 == x260 else false) == true)) (.triv _ (tv_s ((if (if (if (if (x246 == x257) = true then x247 == x254 else false) = true then x248 == x259 else false) = true then x249 == x255 else false) = true then x250 == x260 else false) == true)) (.triv _ (tv_t (if (if (if (if (x246 == x257) = true then x247 == x254 else false) = true then x248 == x259 else false) = true then x249 == x255 else false) = true then x250 == x260 else false)) (.triv _ (tv_s ((if (if (if (if (if (x246 == x257) = true then x247 == x254 else false) = true then x248 == x259 else false) = true then x249 == x255 else false) = true then x250 == x260 else false) = true then x251 == x255 else false) == true)) (.triv _ (tv_s ((if (if (if (if (if (x246 == x257) = true then x247 == x254 else false) = true then x248 == x259 else false) = true then x249 == x255 else false) = true then x250 == x260 else false) = true then x251 == x255 else false) == true)) (.triv _ (tv_t (if (if (if (if (if (x246 == x257) = true then x247 == x254 else false) = true then x248 == x259 else false) = true then x249 == x255 else false) = true then x250 == x260 else false) = true then x251 == x255 else false)) (.triv _ (tv_s ((if (if (if (if (if (if (x246 == x257) = true then x247 == x254 else false) = true then x248 == x259 else false) = true then x249 == x255 else false) = true then x250 == x260 else false) = true then x251 == x255 else false) = true then x252 == x258 else false) == true)) (.triv _ (tv_s ((if (if (if (if (if (if (x246 == x257) = true then x247 == x254 else false) = true then x248 == x259 else false) = true then x249 == x255 else false) = true then x250 == x260 else false) = true then x251 == x255 else false) = true then x252 == x258 else false) == true)) (.triv _ (tv_t (if (if (if (if (if (if (x246 == x257) = true then x247 == x254 else false) = true then x248 == x259 else false) = true then x249 == x255 else false) = true then x250 == x260 else false) = true then x251 == x255 else false) = true then x252 == x258 else false)) (.bind (F15) fun v261 =>
  (.sees [] (.triv _ (tv_t (if (if (if (if (if (if (if (x246 == x257) = true then x247 == x254 else false) = true then x248 == x259 else false) = true then x249 == x255 else false) = true then x250 == x260 else false) = true then x251 == x255 else false) = true then x252 == x258 else false) = true then x253 == x256 else false)) (.ret (if (if (if (if (if (if (if (if (x246 == x257) = true then x247 == x254 else false) = true then x248 == x259 else false) = true then x249 == x255 else false) = true then x250 == x260 else false) = true then x251 == x255 else false) = true then x252 == x258 else false) = true then x253 == x256 else false) = true then v261 else false))))))))))))))))))))))))))
noncomputable def F7 (a0 a1 a2 a3 a4 : Int) (a5 : Nat) (a6 : List DV) (a7 : Nat) (a8 : List DV) : Option (Bool) := res B7 (.c0 a0 a1 a2 a3 a4 a5 a6 a7 a8)
noncomputable def D7_0 (a0 a1 a2 a3 a4 : Int) (a5 : Nat) (a6 : List DV) (a7 : Nat) (a8 : List DV) : DT cfz := (.go 12 [] [0, 1] (.bind (f14 a5 a6) fun v11 => (.go 3 [(.ck 0)] [] (.split 26 (.go 9 [(.br true), (.br true), (.br true), (.br true), .none, (.br true)] [0, 1, 2, 3, 4] (.bind (f15) fun v12 => (.go 4 [(.ck 1)] [] .fin))) (.go 2 [(.br false), (.br false)] [0, 1, 2, 3] (.bind (f14 a7 a8) fun v13 => (.go 4 [(.br false), (.ck 1), (.br false)] [1, 2] (.split 31 (.go 3 [(.br true)] [0] (.bind (f15) fun v14 => (.go 4 [(.ck 2)] [] .fin))) (.go 10 [(.br false)] [0, 1, 2, 3, 4, 5, 6] (.bind (f51 a2 a3 a4) fun v38 => (.go 14 [(.ck 2)] [1, 2, 3, 4] (.bind (f52 a0 a1 a2 a4 false) fun v55 => (.go 14 [(.ck 3)] [1, 2, 3, 4] (.bind (f52 a0 a1 a2 a4 true) fun v56 => (.go 9 [(.ck 4)] [] (.bind (f17 a5 a6) fun v59 => (.bind (f17 a7 a8) fun v60 => (.bind (f53 v59.fst v59.snd v60.fst v60.snd) fun v118 => (.go 3 [(.ck 5), (.ck 6), (.ck 7)] [0, 1, 3, 4] (.bind (f54 a2 1 16) fun v125 => (.bind (f54 a3 1 16) fun v126 => (.bind (f55 a4) fun v129 => (.bind (f39 3 [(vI v125), (vI v126), (vI v129)]) fun v138 => (.bind (f28 a0 a1) fun v145 => (.bind (f39 3 [(vI v145), (vI v125), (vI v129)]) fun v146 => (.bind (f56 a5 a6) fun v157 => (.bind (f56 a7 a8) fun v158 => (.bind (f25 ((↑a5 : Int) != (↑a7 : Int)) 2) fun v159 => (.bind (f39 3 [(vI v157), (vI v158), (vI v159)]) fun v160 => (.go 17 [(.ck 8), (.ck 9), (.ck 10), (.ck 11), (.ck 12), (.ck 8), (.ck 10), (.ck 13), (.ck 14), (.ck 15), (.ck 16), (.ck 17)] [0, 1, 3, 4, 6, 7, 11, 12, 14, 15, 18, 19, 21, 22, 24, 25, 26, 27] (.split 109 (.go 8 [(.br true)] [0, 1, 2, 3, 4, 5, 6] (.bind (f57 a2 a3 a4) fun v183 => (.go 3 [(.ck 18)] [] (.cut 3 [[3, 4, 5, 7, 8, 9, 10, 11, 12, 13, 14, 15, 16, 17, 18, 19, 20, 21]] [])))) (.go 2 [(.br false)] [0] (.cut 3 [[3, 4, 5, 7, 8, 9, 10, 11, 12, 13, 14, 15, 16, 17, 18, 19, 20, 21]] [])))))))))))))))))))))))))))))))))
theorem k7_0 (a0 a1 a2 a3 a4 : Int) (a5 : Nat) (a6 : List DV) (a7 : Nat) (a8 : List DV) : xrun cfz 7 (D7_0 a0 a1 a2 a3 a4 a5 a6 a7 a8) [] (st7 (.c0 a0 a1 a2 a3 a4 a5 a6 a7 a8)) = (B7 (.c0 a0 a1 a2 a3 a4 a5 a6 a7 a8)).mach st7 out7 := by kernel_rfl
noncomputable def D7_1 (x184 x185 : Int) (x186 : Bool) (x187 : Int) (x188 : Bool) (x189 x190 x191 x192 x193 x194 x195 y196 : Int) (y197 y198 : Bool) (x199 x200 x201 x202 x203 : Int) (x204 : Nat) (x205 : List DV) (x206 : Nat) (x207 : List DV) : DT cfz := (.go 6 [] [] (.split 118 (.go 2 [(.br true)] [0] (.bind (f58 x199 x200 x201 x203 false) fun v214 => (.bind (f58 x199 x200 x201 x203 true) fun v215 => (.go 1 [(.ck 0), (.ck 1)] [0, 1, 2, 3, 5, 6, 7, 8] (.cut 3 [[5, 7, 8, 9, 10, 11, 12, 13, 14, 15, 16, 17, 18, 19, 20, 21]] [0, 1]))))) (.go 2 [(.br false)] [0] (.cut 3 [[5, 7, 8, 9, 10, 11, 12, 13, 14, 15, 16, 17, 18, 19, 20, 21]] [0, 1]))))
theorem k7_1 (x184 x185 : Int) (x186 : Bool) (x187 : Int) (x188 : Bool) (x189 x190 x191 x192 x193 x194 x195 y196 : Int) (y197 y198 : Bool) (x199 x200 x201 x202 x203 : Int) (x204 : Nat) (x205 : List DV) (x206 : Nat) (x207 : List DV) : xrun cfz 7 (D7_1 x184 x185 x186 x187 x188 x189 x190 x191 x192 x193 x194 x195 y196 y197 y198 x199 x200 x201 x202 x203 x204 x205 x206 x207) [] (st7 (.c1 x184 x185 x186 x187 x188 x189 x190 x191 x192 x193 x194 x195 y196 y197 y198 x199 x200 x201 x202 x203 x204 x205 x206 x207)) = (B7 (.c1 x184 x185 x186 x187 x188 x189 x190 x191 x192 x193 x194 x195 y196 y197 y198 x199 x200 x201 x202 x203 x204 x205 x206 x207)).mach st7 out7 := by kernel_rfl
noncomputable def D7_2 (x216 x217 : Int) (x218 : Bool) (x219 : Int) (x220 : Bool) (x221 x222 x223 x224 x225 x226 x227 y228 : Int) (x229 x230 : Bool) (x231 : Nat) (x232 : List DV) (x233 : Nat) (x234 : List DV) : DT cfz := (.go 6 [] [] (.split 132 (.go 6 [(.br true)] [0, 1, 2, 3, 4] (.bind (f59 x231 x232 x233 x234) fun v245 => (.go 3 [(.ck 0)] [] (.cut 0 [[7, 8, 9, 10, 11, 12, 13, 14, 15, 16, 17, 18, 19, 20, 21]] [])))) (.go 2 [(.br false)] [0] (.cut 0 [[7, 8, 9, 10, 11, 12, 13, 14, 15, 16, 17, 18, 19, 20, 21]] []))))
theorem k7_2 (x216 x217 : Int) (x218 : Bool) (x219 : Int) (x220 : Bool) (x221 x222 x223 x224 x225 x226 x227 y228 : Int) (x229 x230 : Bool) (x231 : Nat) (x232 : List DV) (x233 : Nat) (x234 : List DV) : xrun cfz 7 (D7_2 x216 x217 x218 x219 x220 x221 x222 x223 x224 x225 x226 x227 y228 x229 x230 x231 x232 x233 x234) [] (st7 (.c2 x216 x217 x218 x219 x220 x221 x222 x223 x224 x225 x226 x227 y228 x229 x230 x231 x232 x233 x234)) = (B7 (.c2 x216 x217 x218 x219 x220 x221 x222 x223 x224 x225 x226 x227 y228 x229 x230 x231 x232 x233 x234)).mach st7 out7 := by kernel_rfl
noncomputable def D7_3 (x246 x247 : Int) (x248 : Bool) (x249 : Int) (x250 : Bool) (x251 x252 x253 x254 x255 x256 x257 x258 : Int) (x259 x260 : Bool) : DT cfz := (.go 41 [(.sp .none), (.sp .none), (.sp .none), .mg, (.sp .none), (.sp .none), (.sp .none), .mg, (.sp .none), (.sp .none), (.sp .none), .mg, (.sp .none), (.sp .none), (.sp .none), .mg, (.sp .none), (.sp .none), (.sp .none), .mg, (.sp .none), (.sp .none), (.sp .none), .mg, (.sp .none), (.sp .none), (.sp .none), .mg] [] (.bind (f15) fun v261 => (.go 5 [(.sp (.some 0)), .mg] [] .fin)))
theorem k7_3 (x246 x247 : Int) (x248 : Bool) (x249 : Int) (x250 : Bool) (x251 x252 x253 x254 x255 x256 x257 x258 : Int) (x259 x260 : Bool) : xrun cfz 7 (D7_3 x246 x247 x248 x249 x250 x251 x252 x253 x254 x255 x256 x257 x258 x259 x260) [] (st7 (.c3 x246 x247 x248 x249 x250 x251 x252 x253 x254 x255 x256 x257 x258 x259 x260)) = (B7 (.c3 x246 x247 x248 x249 x250 x251 x252 x253 x254 x255 x256 x257 x258 x259 x260)).mach st7 out7 := by kernel_rfl
theorem ok7 : ∀ s, ∃ d, xrun cfz 7 d [] (st7 s) = (B7 s).mach st7 out7
  | .c0 a0 a1 a2 a3 a4 a5 a6 a7 a8 => ⟨_, k7_0 a0 a1 a2 a3 a4 a5 a6 a7 a8⟩
  | .c1 x184 x185 x186 x187 x188 x189 x190 x191 x192 x193 x194 x195 y196 y197 y198 x199 x200 x201 x202 x203 x204 x205 x206 x207 => ⟨_, k7_1 x184 x185 x186 x187 x188 x189 x190 x191 x192 x193 x194 x195 y196 y197 y198 x199 x200 x201 x202 x203 x204 x205 x206 x207⟩
  | .c2 x216 x217 x218 x219 x220 x221 x222 x223 x224 x225 x226 x227 y228 x229 x230 x231 x232 x233 x234 => ⟨_, k7_2 x216 x217 x218 x219 x220 x221 x222 x223 x224 x225 x226 x227 y228 x229 x230 x231 x232 x233 x234⟩
  | .c3 x246 x247 x248 x249 x250 x251 x252 x253 x254 x255 x256 x257 x258 x259 x260 => ⟨_, k7_3 x246 x247 x248 x249 x250 x251 x252 x253 x254 x255 x256 x257 x258 x259 x260⟩
theorem f7 (a0 a1 a2 a3 a4 : Int) (a5 : Nat) (a6 : List DV) (a7 : Nat) (a8 : List DV) (v : Bool) (h : F7 a0 a1 a2 a3 a4 a5 a6 a7 a8 = some v) : PureCalls cfz.P cfz.glob 7 [(.agg [(aI a0), (aI a1)]), (.agg [(aI a2), (aI a3), (aI a4)]), (.agg [(.d (.sl a5 a6)), (.d (.sl a7 a8))])] (out7 v) := tree_pure knil ok7 (s := .c0 a0 a1 a2 a3 a4 a5 a6 a7 a8) rfl (by kernel_rfl) v h

end Go.Kv
