import Derived.Test.YtfojgeoicgmncaaKvW
import Derived.Test.YtfojgeoicgmncaaKvZ
import Derived.Test.YtfojgeoicgmncaaKzA
namespace Go.Kv
set_option linter.unusedVariables false
set_option linter.unusedSimpArgs false
open Go Go.RowKit Go.Proofs
set_option maxRecDepth 100000
inductive S23 where
  | c0 (a20 : Bool) (a21 : Int)
def out23 (v : Int) : AV := (.d (.v (.int .i64 v)))
noncomputable def st23 : S23 → ASt
  | .c0 a20 a21 => ent cfz 23 [(.d (.v (.bool a20))), (aI a21)]
noncomputable def B23 : S23 → Tr S23 (Int)
  | .c0 a20 a21 => (.br a20
  (.ret a21)
  (.ret 0))
noncomputable def F23 (a20 : Bool) (a21 : Int) : Option (Int) := res B23 (.c0 a20 a21)
noncomputable def D23_0 (a20 : Bool) (a21 : Int) : DT cfz := (.go 9 [] [] (.split 5 (.go 7 [(.br true)] [0] .fin) (.go 7 [(.br false)] [0] .fin)))
theorem k23_0 (a20 : Bool) (a21 : Int) : xrun cfz 23 (D23_0 a20 a21) [] (st23 (.c0 a20 a21)) = (B23 (.c0 a20 a21)).mach st23 out23 := by kernel_rfl
theorem ok23 : ∀ s, ∃ d, xrun cfz 23 d [] (st23 s) = (B23 s).mach st23 out23
  | .c0 a20 a21 => ⟨_, k23_0 a20 a21⟩
theorem f23 (a20 : Bool) (a21 v : Int) (h : F23 a20 a21 = some v) : PureCalls cfz.P cfz.glob 23 [(.d (.v (.bool a20))), (aI a21)] (out23 v) := tree_pure knil ok23 (s := .c0 a20 a21) rfl (by kernel_rfl) v h
inductive S32 where
  | c0 (a17 a18 a19 : Int)
def out32 (v : Int) : AV := (.d (.v (.int .i64 v)))
noncomputable def st32 : S32 → ASt
  | .c0 a17 a18 a19 => ent cfz 32 [(aI a17), (aI a18), (aI a19)]
noncomputable def B32 : S32 → Tr S32 (Int)
  | .c0 a17 a18 a19 => (.triv _ (tv_s (decide (a17 < a18) == false)) (.triv _ (tv_s (decide (a17 < a18) == false)) (.triv _ (tv_f (decide (a17 < a18))) (.bind (F23 (if decide (a17 < a18) = true then true else decide (a17 > a19)) 3) fun v22 =>
  (.sees [(.d (.v (.bool (if decide (a17 < a18) = true then true else decide (a17 > a19))))), (aI 3)] (.ret v22))))))
noncomputable def F32 (a17 a18 a19 : Int) : Option (Int) := res B32 (.c0 a17 a18 a19)
noncomputable def D32_0 (a17 a18 a19 : Int) : DT cfz := (.go 14 [(.sp .none), (.sp .none), (.sp .none), .mg] [] (.bind (f23 (if decide (a17 < a18) = true then true else decide (a17 > a19)) 3) fun v22 => (.go 4 [(.ck 0)] [] .fin)))
theorem k32_0 (a17 a18 a19 : Int) : xrun cfz 32 (D32_0 a17 a18 a19) [] (st32 (.c0 a17 a18 a19)) = (B32 (.c0 a17 a18 a19)).mach st32 out32 := by kernel_rfl
theorem ok32 : ∀ s, ∃ d, xrun cfz 32 d [] (st32 s) = (B32 s).mach st32 out32
  | .c0 a17 a18 a19 => ⟨_, k32_0 a17 a18 a19⟩
theorem f32 (a17 a18 a19 v : Int) (h : F32 a17 a18 a19 = some v) : PureCalls cfz.P cfz.glob 32 [(aI a17), (aI a18), (aI a19)] (out32 v) := tree_pure knil ok32 (s := .c0 a17 a18 a19) rfl (by kernel_rfl) v h
inductive S70 where
  | c0 (a42 : Int) (a43 a44 : List DV)
def out70 (v : Int) : AV := (.d (.v (.int .i64 v)))
noncomputable def st70 : S70 → ASt
  | .c0 a42 a43 a44 => ent cfz 70 [(aI a42), (.ip a43), (.ip a44)]
noncomputable def B70 : S70 → Tr S70 (Int)
  | .c0 a42 a43 a44 => (.ask (.prop (Option.map AV.d a43[0]? = some (AV.d (DV.v (Value.int IntKind.i64 (dI (cel a43 0))))))) (.ask (.prop (Option.map AV.d a44[0]? = some (AV.d (DV.v (Value.int IntKind.i64 (dI (cel a44 0))))))) (.bind (F32 a42 (dI (cel a43 0)) (dI (cel a44 0))) fun v45 =>
  (.sees [(aI a42), (aI (dI (cel a43 0))), (aI (dI (cel a44 0)))] (.ret v45)))))
noncomputable def F70 (a42 : Int) (a43 a44 : List DV) : Option (Int) := res B70 (.c0 a42 a43 a44)
noncomputable def D70_0 (a42 : Int) (a43 a44 : List DV) : DT cfz := (.go 9 [(.as (aI (dI (cel a43 0)))), (.as (aI (dI (cel a44 0))))] [] (.bind (f32 a42 (dI (cel a43 0)) (dI (cel a44 0))) fun v45 => (.go 4 [(.ck 0)] [] .fin)))
theorem k70_0 (a42 : Int) (a43 a44 : List DV) : xrun cfz 70 (D70_0 a42 a43 a44) [] (st70 (.c0 a42 a43 a44)) = (B70 (.c0 a42 a43 a44)).mach st70 out70 := by kernel_rfl
theorem ok70 : ∀ s, ∃ d, xrun cfz 70 d [] (st70 s) = (B70 s).mach st70 out70
  | .c0 a42 a43 a44 => ⟨_, k70_0 a42 a43 a44⟩
theorem f70 (a42 : Int) (a43 a44 : List DV) (v : Int) (h : F70 a42 a43 a44 = some v) : PureCalls cfz.P cfz.glob 70 [(aI a42), (.ip a43), (.ip a44)] (out70 v) := tree_pure knil ok70 (s := .c0 a42 a43 a44) rfl (by kernel_rfl) v h
inductive S69 where
  | c0 (a32 : Nat) (a33 a34 a35 : List DV)
  | c1 (x36 x37 : List DV) (x38 : Nat) (x39 : List DV) (x40 y41 : Int)
  | c2 (x47 x48 : List DV) (y49 y50 : Nat) (y51 : List DV) (x52 : Nat) (x53 : List DV) (x54 y55 : Int) (y57 : Nat)
def out69 (v : Nat × List DV) : AV := (.d (.sl v.fst v.snd))
noncomputable def st69 : S69 → ASt
  | .c0 a32 a33 a34 a35 => ent cfz 69 [(.d (.sl a32 a33)), (.fn (.func 70) [] [(.ip a34), (.ip a35)])]
  | .c1 x36 x37 x38 x39 x40 y41 => ⟨⟨69, sp 22 0 [(1, (.fn (.func 70) [] [(.ip x36), (.ip x37)])), (5, (.d (.v (.slice .none 0 0)))), (8, (.d (.sl x38 x39))), (9, (aI x40)), (10, (aI y41))], [(.code (cd cfz.P 69 [1, 1, 0, 1, 0, 0])), (.inLoop (cd cfz.P 69 [1, 1, 0, 1, 0, 0])), (.inBlock 0), (.code (cd cfz.P 69 [1, 1, 1]))], [], false, .none⟩, [], []⟩
  | .c2 x47 x48 y49 y50 y51 x52 x53 x54 y55 y57 => ⟨⟨69, sp 22 0 [(1, (.fn (.func 70) [] [(.ip x47), (.ip x48)])), (5, (.own 1 y49 1 y50 y51)), (8, (.d (.sl x52 x53))), (9, (aI x54)), (10, (aI y55))], [(.code (cd cfz.P 69 [1, 1, 0, 1, 0, 0])), (.inLoop (cd cfz.P 69 [1, 1, 0, 1, 0, 0])), (.inBlock 0), (.code (cd cfz.P 69 [1, 1, 1]))], [], false, .none⟩, [], [(.tail 0), (.tail y57)]⟩
noncomputable def B69 : S69 → Tr S69 (Nat × List DV)
  | .c0 a32 a33 a34 a35 => (.nxt (.c1 a34 a35 a32 a33 ((↑a32 : Int)) 0))
  | .c1 x36 x37 x38 x39 x40 y41 => (.br (decide (y41 < x40))
  (.ask (.le 0 y41) (.ask (.lt y41 ((↑x38 : Int))) (.ask (.leN (y41.toNat * 1) x39.length) (.ask (.prop (Option.map AV.d (List.drop (y41.toNat * 1) x39)[0]? = some (AV.d (DV.v (Value.int IntKind.i64 (dI (cel x39 (y41.toNat * 1)))))))) (.bind (F70 (dI (cel x39 (y41.toNat * 1))) x36 x37) fun v46 =>
  (.sees [(aI (dI (cel x39 (y41.toNat * 1)))), (.ip x36), (.ip x37)] (.ask (.in64 (y41 + 1)) (.nxt (.c2 x36 x37 0 1 [(.v (.int .i64 v46))] x38 x39 x40 (y41 + 1) 0)))))))))
  (.ret (0, [])))
  | .c2 x47 x48 y49 y50 y51 x52 x53 x54 y55 y57 => (.br (decide (y55 < x54))
  (.ask (.le 0 y55) (.ask (.lt y55 ((↑x52 : Int))) (.ask (.leN (y55.toNat * 1) x53.length) (.ask (.prop (Option.map AV.d (List.drop (y55.toNat * 1) x53)[0]? = some (AV.d (DV.v (Value.int IntKind.i64 (dI (cel x53 (y55.toNat * 1)))))))) (.bind (F70 (dI (cel x53 (y55.toNat * 1))) x47 x48) fun v58 =>
  (.sees [(aI (dI (cel x53 (y55.toNat * 1)))), (.ip x47), (.ip x48)] (.ask (.eqN y49 y57) (.ask (.fits (y50 + 1) 8) (.ask (.in64 (y55 + 1)) (.nxt (.c2 x47 x48 (y57 + 1) (y50 + 1) (y51 ++ [DV.v (Value.int IntKind.i64 v58)]) x52 x53 x54 (y55 + 1) (y57 + 1))))))))))))
  (.ret (y50, y51)))
noncomputable def F69 (a32 : Nat) (a33 a34 a35 : List DV) : Option (Nat × List DV) := res B69 (.c0 a32 a33 a34 a35)
noncomputable def D69_0 (a32 : Nat) (a33 a34 a35 : List DV) : DT cfz := (.go 17 [] [] (.cut 0 [[1, 5, 8, 9, 10]] []))
theorem k69_0 (a32 : Nat) (a33 a34 a35 : List DV) : xrun cfz 69 (D69_0 a32 a33 a34 a35) [] (st69 (.c0 a32 a33 a34 a35)) = (B69 (.c0 a32 a33 a34 a35)).mach st69 out69 := by kernel_rfl
noncomputable def D69_1 (x36 x37 : List DV) (x38 : Nat) (x39 : List DV) (x40 y41 : Int) : DT cfz := (.go 5 [] [] (.split 11 (.go 14 [(.br true), (.as (aI (dI (cel x39 (y41.toNat * 1)))))] [0] (.bind (f70 (dI (cel x39 (y41.toNat * 1))) x36 x37) fun v46 => (.go 11 [(.ck 0)] [1, 2, 3] (.cut 2 [[1, 5, 8, 9, 10]] [])))) (.go 8 [(.br false)] [0] .fin)))
theorem k69_1 (x36 x37 : List DV) (x38 : Nat) (x39 : List DV) (x40 y41 : Int) : xrun cfz 69 (D69_1 x36 x37 x38 x39 x40 y41) [] (st69 (.c1 x36 x37 x38 x39 x40 y41)) = (B69 (.c1 x36 x37 x38 x39 x40 y41)).mach st69 out69 := by kernel_rfl
noncomputable def D69_2 (x47 x48 : List DV) (y49 y50 : Nat) (y51 : List DV) (x52 : Nat) (x53 : List DV) (x54 y55 : Int) (y57 : Nat) : DT cfz := (.go 5 [] [] (.split 11 (.go 14 [(.br true), (.as (aI (dI (cel x53 (y55.toNat * 1)))))] [0] (.bind (f70 (dI (cel x53 (y55.toNat * 1))) x47 x48) fun v58 => (.go 11 [(.ck 0)] [2, 3] (.cut 2 [[1, 5, 8, 9, 10]] [])))) (.go 8 [(.br false)] [0] .fin)))
theorem k69_2 (x47 x48 : List DV) (y49 y50 : Nat) (y51 : List DV) (x52 : Nat) (x53 : List DV) (x54 y55 : Int) (y57 : Nat) : xrun cfz 69 (D69_2 x47 x48 y49 y50 y51 x52 x53 x54 y55 y57) [] (st69 (.c2 x47 x48 y49 y50 y51 x52 x53 x54 y55 y57)) = (B69 (.c2 x47 x48 y49 y50 y51 x52 x53 x54 y55 y57)).mach st69 out69 := by kernel_rfl
theorem ok69 : ∀ s, ∃ d, xrun cfz 69 d [] (st69 s) = (B69 s).mach st69 out69
  | .c0 a32 a33 a34 a35 => ⟨_, k69_0 a32 a33 a34 a35⟩
  | .c1 x36 x37 x38 x39 x40 y41 => ⟨_, k69_1 x36 x37 x38 x39 x40 y41⟩
  | .c2 x47 x48 y49 y50 y51 x52 x53 x54 y55 y57 => ⟨_, k69_2 x47 x48 y49 y50 y51 x52 x53 x54 y55 y57⟩
theorem f69 (a32 : Nat) (a33 a34 a35 : List DV) (v : Nat × List DV) (h : F69 a32 a33 a34 a35 = some v) : PureCalls cfz.P cfz.glob 69 [(.d (.sl a32 a33)), (.fn (.func 70) [] [(.ip a34), (.ip a35)])] (out69 v) := tree_pure knil ok69 (s := .c0 a32 a33 a34 a35) rfl (by kernel_rfl) v h
inductive S20 where
  | c0 (a77 : Nat) (a78 : List DV)
  | c1 (x79 : Nat) (x80 : List DV) (x81 y82 : Int)
def out20 (v : Int) : AV := (.d (.v (.int .i64 v)))
noncomputable def st20 : S20 → ASt
  | .c0 a77 a78 => ent cfz 20 [(.d (.sl a77 a78))]
  | .c1 x79 x80 x81 y82 => ⟨⟨20, sp 15 0 [(5, (.d (.sl x79 x80))), (6, (aI x81)), (7, (aI y82))], [(.code (cd cfz.P 20 [1, 0, 1, 0, 0])), (.inLoop (cd cfz.P 20 [1, 0, 1, 0, 0])), (.inBlock 0), (.code (cd cfz.P 20 [1, 1]))], [], false, .none⟩, [], []⟩
noncomputable def B20 : S20 → Tr S20 (Int)
  | .c0 a77 a78 => (.nxt (.c1 a77 a78 ((↑a77 : Int)) 0))
  | .c1 x79 x80 x81 y82 => (.br (decide (y82 < x81))
  (.ask (.le 0 y82) (.ask (.lt y82 ((↑x79 : Int))) (.ask (.leN (y82.toNat * 1) x80.length) (.ask (.prop (Option.map AV.d (List.drop (y82.toNat * 1) x80)[0]? = some (AV.d (DV.v (Value.int IntKind.i64 (dI (cel x80 (y82.toNat * 1)))))))) (.br (dI (cel x80 (y82.toNat * 1)) != 0)
  (.ret (dI (cel x80 (y82.toNat * 1))))
  (.ask (.in64 (y82 + 1)) (.nxt (.c1 x79 x80 x81 (y82 + 1)))))))))
  (.ret 0))
noncomputable def F20 (a77 : Nat) (a78 : List DV) : Option (Int) := res B20 (.c0 a77 a78)
noncomputable def D20_0 (a77 : Nat) (a78 : List DV) : DT cfz := (.go 13 [] [] (.cut 0 [[5, 6, 7]] []))
theorem k20_0 (a77 : Nat) (a78 : List DV) : xrun cfz 20 (D20_0 a77 a78) [] (st20 (.c0 a77 a78)) = (B20 (.c0 a77 a78)).mach st20 out20 := by kernel_rfl
noncomputable def D20_1 (x79 : Nat) (x80 : List DV) (x81 y82 : Int) : DT cfz := (.go 5 [] [] (.split 8 (.go 15 [(.br true), (.as (aI (dI (cel x80 (y82.toNat * 1)))))] [0] (.split 12 (.go 7 [(.br true)] [0] .fin) (.go 8 [(.br false)] [0] (.cut 0 [[5, 6, 7]] [])))) (.go 7 [(.br false)] [0] .fin)))
theorem k20_1 (x79 : Nat) (x80 : List DV) (x81 y82 : Int) : xrun cfz 20 (D20_1 x79 x80 x81 y82) [] (st20 (.c1 x79 x80 x81 y82)) = (B20 (.c1 x79 x80 x81 y82)).mach st20 out20 := by kernel_rfl
theorem ok20 : ∀ s, ∃ d, xrun cfz 20 d [] (st20 s) = (B20 s).mach st20 out20
  | .c0 a77 a78 => ⟨_, k20_0 a77 a78⟩
  | .c1 x79 x80 x81 y82 => ⟨_, k20_1 x79 x80 x81 y82⟩
theorem f20 (a77 : Nat) (a78 : List DV) (v : Int) (h : F20 a77 a78 = some v) : PureCalls cfz.P cfz.glob 20 [(.d (.sl a77 a78))] (out20 v) := tree_pure knil ok20 (s := .c0 a77 a78) rfl (by kernel_rfl) v h
inductive S55 where
  | c0 (a28 : Nat) (a29 : List DV) (a30 a31 : Int)
  | c1 (x60 : Nat) (x61 : List DV) (x62 y63 x64 x65 : Int)
  | c2 (y68 y69 : Nat) (y70 : List DV) (x71 : Nat) (x72 : List DV) (x73 y74 x75 x76 : Int) (y86 : Nat)
def out55 (v : Int) : AV := (.d (.v (.int .i64 v)))
noncomputable def st55 : S55 → ASt
  | .c0 a28 a29 a30 a31 => ent cfz 55 [(.d (.sl a28 a29)), (aI a30), (aI a31)]
  | .c1 x60 x61 x62 y63 x64 x65 => ⟨⟨69, sp 22 0 [(1, (.fn (.func 70) [] [(.ptr 0 0), (.ptr 1 0)])), (5, (.d (.v (.slice .none 0 0)))), (8, (.d (.sl x60 x61))), (9, (aI x62)), (10, (aI y63))], [(.code (cd cfz.P 69 [1, 1, 0, 1, 0, 0])), (.inLoop (cd cfz.P 69 [1, 1, 0, 1, 0, 0])), (.inBlock 0), (.code (cd cfz.P 69 [1, 1, 1]))], [], false, .none⟩, [⟨55, sp 11 0 [], [(.regC (opsAt cfz.P 55 [1, 0]) false 2), (.code (cd cfz.P 69 [1, 1, 1, 1]))], [], false, .none⟩], [(.cells [(aI x64)] 3), (.cells [(aI x65)] 3)]⟩
  | .c2 y68 y69 y70 x71 x72 x73 y74 x75 x76 y86 => ⟨⟨69, sp 22 0 [(1, (.fn (.func 70) [] [(.ptr 0 0), (.ptr 1 0)])), (5, (.own 3 y68 1 y69 y70)), (8, (.d (.sl x71 x72))), (9, (aI x73)), (10, (aI y74))], [(.code (cd cfz.P 69 [1, 1, 0, 1, 0, 0])), (.inLoop (cd cfz.P 69 [1, 1, 0, 1, 0, 0])), (.inBlock 0), (.code (cd cfz.P 69 [1, 1, 1]))], [], false, .none⟩, [⟨55, sp 11 0 [], [(.regC (opsAt cfz.P 55 [1, 0]) false 2), (.code (cd cfz.P 69 [1, 1, 1, 1]))], [], false, .none⟩], [(.cells [(aI x75)] 3), (.cells [(aI x76)] 3), (.tail 0), (.tail y86)]⟩
noncomputable def B55 : S55 → Tr S55 (Int)
  | .c0 a28 a29 a30 a31 => (.nxt (.c1 a28 a29 ((↑a28 : Int)) 0 a30 a31))
  | .c1 x60 x61 x62 y63 x64 x65 => (.br (decide (y63 < x62))
  (.ask (.le 0 y63) (.ask (.lt y63 ((↑x60 : Int))) (.ask (.leN (y63.toNat * 1) x61.length) (.ask (.prop (Option.map AV.d (List.drop (y63.toNat * 1) x61)[0]? = some (AV.d (DV.v (Value.int IntKind.i64 (dI (cel x61 (y63.toNat * 1)))))))) (.bind (F70 (dI (cel x61 (y63.toNat * 1))) [(.v (.int .i64 x64))] [(.v (.int .i64 x65))]) fun v67 =>
  (.sees [(aI (dI (cel x61 (y63.toNat * 1)))), (.ip [(vI x64)]), (.ip [(vI x65)])] (.ask (.in64 (y63 + 1)) (.nxt (.c2 0 1 [(.v (.int .i64 v67))] x60 x61 x62 (y63 + 1) x64 x65 0)))))))))
  (.bind (F20 0 []) fun v83 =>
  (.sees [(.d (.sl 0 []))] (.ret v83))))
  | .c2 y68 y69 y70 x71 x72 x73 y74 x75 x76 y86 => (.br (decide (y74 < x73))
  (.ask (.le 0 y74) (.ask (.lt y74 ((↑x71 : Int))) (.ask (.leN (y74.toNat * 1) x72.length) (.ask (.prop (Option.map AV.d (List.drop (y74.toNat * 1) x72)[0]? = some (AV.d (DV.v (Value.int IntKind.i64 (dI (cel x72 (y74.toNat * 1)))))))) (.bind (F70 (dI (cel x72 (y74.toNat * 1))) [(.v (.int .i64 x75))] [(.v (.int .i64 x76))]) fun v89 =>
  (.sees [(aI (dI (cel x72 (y74.toNat * 1)))), (.ip [(vI x75)]), (.ip [(vI x76)])] (.ask (.eqN y68 y86) (.ask (.fits (y69 + 1) 8) (.ask (.in64 (y74 + 1)) (.nxt (.c2 (y86 + 1) (y69 + 1) (y70 ++ [DV.v (Value.int IntKind.i64 v89)]) x71 x72 x73 (y74 + 1) x75 x76 (y86 + 1))))))))))))
  (.bind (F20 y69 y70) fun v90 =>
  (.sees [(.d (.sl y69 y70))] (.ret v90))))
noncomputable def F55 (a28 : Nat) (a29 : List DV) (a30 a31 : Int) : Option (Int) := res B55 (.c0 a28 a29 a30 a31)
noncomputable def D55_0 (a28 : Nat) (a29 : List DV) (a30 a31 : Int) : DT cfz := (.go 28 [.enter] [] (.cut 2 [[1, 5, 8, 9, 10], []] []))
theorem k55_0 (a28 : Nat) (a29 : List DV) (a30 a31 : Int) : xrun cfz 55 (D55_0 a28 a29 a30 a31) [] (st55 (.c0 a28 a29 a30 a31)) = (B55 (.c0 a28 a29 a30 a31)).mach st55 out55 := by kernel_rfl
noncomputable def D55_1 (x60 : Nat) (x61 : List DV) (x62 y63 x64 x65 : Int) : DT cfz := (.go 5 [] [] (.split 11 (.go 14 [(.br true), (.as (aI (dI (cel x61 (y63.toNat * 1)))))] [0] (.bind (f70 (dI (cel x61 (y63.toNat * 1))) [(vI x64)] [(vI x65)]) fun v67 => (.go 11 [(.ck 0)] [1, 2, 3] (.cut 4 [[1, 5, 8, 9, 10], []] [])))) (.go 9 [(.br false)] [0] (.bind (f20 0 []) fun v83 => (.go 4 [(.ck 0)] [] .fin)))))
theorem k55_1 (x60 : Nat) (x61 : List DV) (x62 y63 x64 x65 : Int) : xrun cfz 55 (D55_1 x60 x61 x62 y63 x64 x65) [] (st55 (.c1 x60 x61 x62 y63 x64 x65)) = (B55 (.c1 x60 x61 x62 y63 x64 x65)).mach st55 out55 := by kernel_rfl
noncomputable def D55_2 (y68 y69 : Nat) (y70 : List DV) (x71 : Nat) (x72 : List DV) (x73 y74 x75 x76 : Int) (y86 : Nat) : DT cfz := (.go 5 [] [] (.split 11 (.go 14 [(.br true), (.as (aI (dI (cel x72 (y74.toNat * 1)))))] [0] (.bind (f70 (dI (cel x72 (y74.toNat * 1))) [(vI x75)] [(vI x76)]) fun v89 => (.go 11 [(.ck 0)] [2, 3] (.cut 4 [[1, 5, 8, 9, 10], []] [])))) (.go 9 [(.br false)] [0] (.bind (f20 y69 y70) fun v90 => (.go 4 [(.ck 0)] [] .fin)))))
theorem k55_2 (y68 y69 : Nat) (y70 : List DV) (x71 : Nat) (x72 : List DV) (x73 y74 x75 x76 : Int) (y86 : Nat) : xrun cfz 55 (D55_2 y68 y69 y70 x71 x72 x73 y74 x75 x76 y86) [] (st55 (.c2 y68 y69 y70 x71 x72 x73 y74 x75 x76 y86)) = (B55 (.c2 y68 y69 y70 x71 x72 x73 y74 x75 x76 y86)).mach st55 out55 := by kernel_rfl
theorem ok55 : ∀ s, ∃ d, xrun cfz 55 d [] (st55 s) = (B55 s).mach st55 out55
  | .c0 a28 a29 a30 a31 => ⟨_, k55_0 a28 a29 a30 a31⟩
  | .c1 x60 x61 x62 y63 x64 x65 => ⟨_, k55_1 x60 x61 x62 y63 x64 x65⟩
  | .c2 y68 y69 y70 x71 x72 x73 y74 x75 x76 y86 => ⟨_, k55_2 y68 y69 y70 x71 x72 x73 y74 x75 x76 y86⟩
theorem f55 (a28 : Nat) (a29 : List DV) (a30 a31 v : Int) (h : F55 a28 a29 a30 a31 = some v) : PureCalls cfz.P cfz.glob 55 [(.d (.sl a28 a29)), (aI a30), (aI a31)] (out55 v) := tree_pure knil ok55 (s := .c0 a28 a29 a30 a31) rfl (by kernel_rfl) v h
inductive S36 where
  | c0 (a24 : Nat) (a25 : List DV)
def out36 (v : Int) : AV := (.d (.v (.int .i64 v)))
noncomputable def st36 : S36 → ASt
  | .c0 a24 a25 => ent cfz 36 [(.d (.sl a24 a25))]
noncomputable def B36 : S36 → Tr S36 (Int)
  | .c0 a24 a25 => (.bind (F23 ((↑a24 : Int) == 0) 12) fun v26 =>
  (.sees [(.d (.v (.bool ((↑a24 : Int) == 0)))), (aI 12)] (.bind (F23 (decide ((↑a24 : Int) > 8)) 5) fun v27 =>
  (.sees [(.d (.v (.bool (decide ((↑a24 : Int) > 8))))), (aI 5)] (.bind (F55 a24 a25 0 6) fun v91 =>
  (.sees [(.d (.sl a24 a25)), (aI 0), (aI 6)] (.bind (F20 3 [(.v (.int .i64 v26)), (.v (.int .i64 v27)), (.v (.int .i64 v91))]) fun v92 =>
  (.sees [(.d (.sl 3 [(vI v26), (vI v27), (vI v91)]))] (.ret v92)))))))))
noncomputable def F36 (a24 : Nat) (a25 : List DV) : Option (Int) := res B36 (.c0 a24 a25)
noncomputable def D36_0 (a24 : Nat) (a25 : List DV) : DT cfz := (.go 9 [] [] (.bind (f23 ((↑a24 : Int) == 0) 12) fun v26 => (.go 4 [(.ck 0)] [] (.bind (f23 (decide ((↑a24 : Int) > 8)) 5) fun v27 => (.go 2 [(.ck 1)] [] (.bind (f55 a24 a25 0 6) fun v91 => (.go 2 [(.ck 2)] [] (.bind (f20 3 [(vI v26), (vI v27), (vI v91)]) fun v92 => (.go 4 [(.ck 3)] [] .fin)))))))))
theorem k36_0 (a24 : Nat) (a25 : List DV) : xrun cfz 36 (D36_0 a24 a25) [] (st36 (.c0 a24 a25)) = (B36 (.c0 a24 a25)).mach st36 out36 := by kernel_rfl
theorem ok36 : ∀ s, ∃ d, xrun cfz 36 d [] (st36 s) = (B36 s).mach st36 out36
  | .c0 a24 a25 => ⟨_, k36_0 a24 a25⟩
theorem f36 (a24 : Nat) (a25 : List DV) (v : Int) (h : F36 a24 a25 = some v) : PureCalls cfz.P cfz.glob 36 [(.d (.sl a24 a25))] (out36 v) := tree_pure knil ok36 (s := .c0 a24 a25) rfl (by kernel_rfl) v h
inductive S22 where
  | c0 (a95 : Nat) (a96 : List DV) (a97 : Nat) (a98 : List DV)
def out22 (v : Int) : AV := (.d (.v (.int .i64 v)))
noncomputable def st22 : S22 → ASt
  | .c0 a95 a96 a97 a98 => ent cfz 22 [(.d (.sl a95 a96)), (.d (.sl a97 a98))]
noncomputable def B22 : S22 → Tr S22 (Int)
  | .c0 a95 a96 a97 a98 => (.bind (F23 ((↑a97 : Int) != (↑a95 : Int)) 2) fun v99 =>
  (.sees [(.d (.v (.bool ((↑a97 : Int) != (↑a95 : Int))))), (aI 2)] (.bind (F36 a97 a98) fun x0 =>
  (.sees [(.d (.sl a97 a98))] (.bind (F20 2 [(.v (.int .i64 v99)), (.v (.int .i64 x0))]) fun x1 =>
  (.sees [(.d (.sl 2 [(vI v99), (vI x0)]))] (.ret x1)))))))
noncomputable def F22 (a95 : Nat) (a96 : List DV) (a97 : Nat) (a98 : List DV) : Option (Int) := res B22 (.c0 a95 a96 a97 a98)
noncomputable def D22_0 (a95 : Nat) (a96 : List DV) (a97 : Nat) (a98 : List DV) : DT cfz := (.go 11 [] [] (.bind (f23 ((↑a97 : Int) != (↑a95 : Int)) 2) fun v99 => (.go 2 [(.ck 0)] [] (.bind (f36 a97 a98) fun x0 => (.go 2 [(.ck 1)] [] (.bind (f20 2 [(vI v99), (vI x0)]) fun x1 => (.go 4 [(.ck 2)] [] .fin)))))))
theorem k22_0 (a95 : Nat) (a96 : List DV) (a97 : Nat) (a98 : List DV) : xrun cfz 22 (D22_0 a95 a96 a97 a98) [] (st22 (.c0 a95 a96 a97 a98)) = (B22 (.c0 a95 a96 a97 a98)).mach st22 out22 := by kernel_rfl
theorem ok22 : ∀ s, ∃ d, xrun cfz 22 d [] (st22 s) = (B22 s).mach st22 out22
  | .c0 a95 a96 a97 a98 => ⟨_, k22_0 a95 a96 a97 a98⟩
theorem f22 (a95 : Nat) (a96 : List DV) (a97 : Nat) (a98 : List DV) (v : Int) (h : F22 a95 a96 a97 a98 = some v) : PureCalls cfz.P cfz.glob 22 [(.d (.sl a95 a96)), (.d (.sl a97 a98))] (out22 v) := tree_pure knil ok22 (s := .c0 a95 a96 a97 a98) rfl (by kernel_rfl) v h
inductive S35 where
  | c0 (a12 : Int) (a13 : Nat) (a14 : List DV) (a15 : Nat) (a16 : List DV)
def out35 (v : Int) : AV := (.d (.v (.int .i64 v)))
noncomputable def st35 : S35 → ASt
  | .c0 a12 a13 a14 a15 a16 => ent cfz 35 [(aI a12), (.d (.sl a13 a14)), (.d (.sl a15 a16))]
noncomputable def B35 : S35 → Tr S35 (Int)
  | .c0 a12 a13 a14 a15 a16 => (.bind (F32 a12 0 1000000) fun v23 =>
  (.sees [(aI a12), (aI 0), (aI 1000000)] (.bind (F36 a13 a14) fun v93 =>
  (.sees [(.d (.sl a13 a14))] (.bind (F20 2 [(.v (.int .i64 v23)), (.v (.int .i64 v93))]) fun v94 =>
  (.sees [(.d (.sl 2 [(vI v23), (vI v93)]))] (.triv _ (tv_s ((v94 != 0) == false)) (.triv _ (tv_s ((v94 != 0) == false)) (.triv _ (tv_f (v94 != 0)) (.br (if (v94 != 0) = true then true else (↑a15 : Int) == 0)
  (.ret v94)
  (.bind (F22 a13 a14 a15 a16) fun x0 =>
  (.sees [(.d (.sl a13 a14)), (.d (.sl a15 a16))] (.ret x0)))))))))))))
noncomputable def F35 (a12 : Int) (a13 : Nat) (a14 : List DV) (a15 : Nat) (a16 : List DV) : Option (Int) := res B35 (.c0 a12 a13 a14 a15 a16)
noncomputable def D35_0 (a12 : Int) (a13 : Nat) (a14 : List DV) (a15 : Nat) (a16 : List DV) : DT cfz := (.go 8 [] [] (.bind (f32 a12 0 1000000) fun v23 => (.go 2 [(.ck 0)] [] (.bind (f36 a13 a14) fun v93 => (.go 2 [(.ck 1)] [] (.bind (f20 2 [(vI v23), (vI v93)]) fun v94 => (.go 13 [(.ck 2), (.sp .none), (.sp .none), (.sp .none), .mg] [] (.split 20 (.go 7 [(.br true)] [0] .fin) (.go 6 [(.br false)] [0] (.bind (f22 a13 a14 a15 a16) fun x0 => (.go 4 [(.ck 3)] [] .fin)))))))))))
theorem k35_0 (a12 : Int) (a13 : Nat) (a14 : List DV) (a15 : Nat) (a16 : List DV) : xrun cfz 35 (D35_0 a12 a13 a14 a15 a16) [] (st35 (.c0 a12 a13 a14 a15 a16)) = (B35 (.c0 a12 a13 a14 a15 a16)).mach st35 out35 := by kernel_rfl
theorem ok35 : ∀ s, ∃ d, xrun cfz 35 d [] (st35 s) = (B35 s).mach st35 out35
  | .c0 a12 a13 a14 a15 a16 => ⟨_, k35_0 a12 a13 a14 a15 a16⟩
theorem f35 (a12 : Int) (a13 : Nat) (a14 : List DV) (a15 : Nat) (a16 : List DV) (v : Int) (h : F35 a12 a13 a14 a15 a16 = some v) : PureCalls cfz.P cfz.glob 35 [(aI a12), (.d (.sl a13 a14)), (.d (.sl a15 a16))] (out35 v) := tree_pure knil ok35 (s := .c0 a12 a13 a14 a15 a16) rfl (by kernel_rfl) v h
inductive S21 where
  | c0 (a7 : Int) (a8 : Nat) (a9 : List DV) (a10 : Nat) (a11 : List DV)
def out21 (v : Int) : AV := (.d (.v (.int .i64 v)))
noncomputable def st21 : S21 → ASt
  | .c0 a7 a8 a9 a10 a11 => ent cfz 21 [(.agg [(aI a7), (.d (.sl a8 a9)), (.d (.sl a10 a11))])]
noncomputable def B21 : S21 → Tr S21 (Int)
  | .c0 a7 a8 a9 a10 a11 => (.bind (F35 a7 a8 a9 a10 a11) fun x0 =>
  (.sees [(aI a7), (.d (.sl a8 a9)), (.d (.sl a10 a11))] (.ret x0)))
noncomputable def F21 (a7 : Int) (a8 : Nat) (a9 : List DV) (a10 : Nat) (a11 : List DV) : Option (Int) := res B21 (.c0 a7 a8 a9 a10 a11)
noncomputable def D21_0 (a7 : Int) (a8 : Nat) (a9 : List DV) (a10 : Nat) (a11 : List DV) : DT cfz := (.go 13 [] [] (.bind (f35 a7 a8 a9 a10 a11) fun x0 => (.go 4 [(.ck 0)] [] .fin)))
theorem k21_0 (a7 : Int) (a8 : Nat) (a9 : List DV) (a10 : Nat) (a11 : List DV) : xrun cfz 21 (D21_0 a7 a8 a9 a10 a11) [] (st21 (.c0 a7 a8 a9 a10 a11)) = (B21 (.c0 a7 a8 a9 a10 a11)).mach st21 out21 := by kernel_rfl
theorem ok21 : ∀ s, ∃ d, xrun cfz 21 d [] (st21 s) = (B21 s).mach st21 out21
  | .c0 a7 a8 a9 a10 a11 => ⟨_, k21_0 a7 a8 a9 a10 a11⟩
theorem f21 (a7 : Int) (a8 : Nat) (a9 : List DV) (a10 : Nat) (a11 : List DV) (v : Int) (h : F21 a7 a8 a9 a10 a11 = some v) : PureCalls cfz.P cfz.glob 21 [(.agg [(aI a7), (.d (.sl a8 a9)), (.d (.sl a10 a11))])] (out21 v) := tree_pure knil ok21 (s := .c0 a7 a8 a9 a10 a11) rfl (by kernel_rfl) v h
inductive S25 where
  | c0 (x0 : Nat) (x1 : List DV)
def out25 (v : Nat × List DV) : AV := (.d (.sl v.fst v.snd))
noncomputable def st25 : S25 → ASt
  | .c0 x0 x1 => ent cfz 25 [(.d (.sl x0 x1))]
noncomputable def B25 : S25 → Tr S25 (Nat × List DV)
  | .c0 x0 x1 => (.ask (.le 0 ((↑x0 : Int))) (.ask (.le ((↑x0 : Int)) ((↑x0 : Int))) (.ask (.le (8 * (↑x0 : Int)) 281474976710656) (.ask (.le ((↑x0 : Int)) 9223372036854775807) (.ask (.eqN x1.length (x0 * 1)) (.ask (.leN (0 + min x0 (↑x0 : Int).toNat * 1) ((zerosA (List.map (fun (x : Value) => AV.d (DV.v x)) (Value.int IntKind.i64 0).cells.toList) (↑x0 : Int).toNat).length)) (.ask (.leN (0 + (↑x0 : Int).toNat * 1) ((spliceA (zerosA (List.map (fun (x : Value) => AV.d (DV.v x)) (Value.int IntKind.i64 0).cells.toList) (↑x0 : Int).toNat) 0 (List.map AV.d (List.take (min x0 (↑x0 : Int).toNat * 1) x1))).length)) (.ask (.prop (toDs (List.take ((↑x0 : Int).toNat * 1) (List.drop 0 (spliceA (zerosA (List.map (fun (x : Value) => AV.d (DV.v x)) (Value.int IntKind.i64 0).cells.toList) (↑x0 : Int).toNat) 0 (List.map AV.d (List.take (min x0 (↑x0 : Int).toNat * 1) x1))))) = some (List.map aD (List.take ((↑x0 : Int).toNat * 1) (List.drop 0 (spliceA (zerosA (List.map (fun (x : Value) => AV.d (DV.v x)) (Value.int IntKind.i64 0).cells.toList) (↑x0 : Int).toNat) 0 (List.map AV.d (List.take (min x0 (↑x0 : Int).toNat * 1) x1)))))))) (.ret (((↑x0 : Int).toNat), (List.map aD (List.take ((↑x0 : Int).toNat * 1) (List.drop 0 (spliceA (zerosA (List.map (fun (x : Value) => AV.d (DV.v x)) (Value.int IntKind.i64 0).cells.toList) (↑x0 : Int).toNat) 0 (List.map AV.d (List.take (min x0 (↑x0 : Int).toNat * 1) x1))))))))))))))))
noncomputable def F25 (x0 : Nat) (x1 : List DV) : Option (Nat × List DV) := res B25 (.c0 x0 x1)
noncomputable def D25_0 (x0 : Nat) (x1 : List DV) : DT cfz := (.go 23 [] [] .finP)
theorem k25_0 (x0 : Nat) (x1 : List DV) : xrun cfz 25 (D25_0 x0 x1) [] (st25 (.c0 x0 x1)) = (B25 (.c0 x0 x1)).mach st25 out25 := by kernel_rfl
theorem ok25 : ∀ s, ∃ d, xrun cfz 25 d [] (st25 s) = (B25 s).mach st25 out25
  | .c0 x0 x1 => ⟨_, k25_0 x0 x1⟩
theorem f25 (x0 : Nat) (x1 : List DV) (v : Nat × List DV) (h : F25 x0 x1 = some v) : PureCalls cfz.P cfz.glob 25 [(.d (.sl x0 x1))] (out25 v) := tree_pure knil ok25 (s := .c0 x0 x1) rfl (by kernel_rfl) v h
inductive S24 where
  | c0 (x0 : Int) (x1 : Nat) (x2 : List DV) (x3 : Nat) (x4 : List DV)
def out24 (v : Int × Nat × List DV × Nat × List DV) : AV := (.agg [(.d (.v (.int .i64 v.fst))), (.d (.sl v.snd.fst v.snd.snd.fst)), (.d (.sl v.snd.snd.snd.fst v.snd.snd.snd.snd))])
noncomputable def st24 : S24 → ASt
  | .c0 x0 x1 x2 x3 x4 => ent cfz 24 [(.agg [(aI x0), (.d (.sl x1 x2)), (.d (.sl x3 x4))])]
noncomputable def B24 : S24 → Tr S24 (Int × Nat × List DV × Nat × List DV)
  | .c0 x0 x1 x2 x3 x4 => (.bind (F25 x1 x2) fun x5 =>
  (.bind (F25 x3 x4) fun x6 =>
  (.sees [(.d (.sl x1 x2))] (.sees [(.d (.sl x3 x4))] (.ret (x0, x5.fst, x5.snd, x6.fst, x6.snd))))))
noncomputable def F24 (x0 : Int) (x1 : Nat) (x2 : List DV) (x3 : Nat) (x4 : List DV) : Option (Int × Nat × List DV × Nat × List DV) := res B24 (.c0 x0 x1 x2 x3 x4)
noncomputable def D24_0 (x0 : Int) (x1 : Nat) (x2 : List DV) (x3 : Nat) (x4 : List DV) : DT cfz := (.go 7 [] [] (.bind (f25 x1 x2) fun x5 => (.bind (f25 x3 x4) fun x6 => (.go 2 [(.ck 0), (.ck 1)] [] .fin))))
theorem k24_0 (x0 : Int) (x1 : Nat) (x2 : List DV) (x3 : Nat) (x4 : List DV) : xrun cfz 24 (D24_0 x0 x1 x2 x3 x4) [] (st24 (.c0 x0 x1 x2 x3 x4)) = (B24 (.c0 x0 x1 x2 x3 x4)).mach st24 out24 := by kernel_rfl
theorem ok24 : ∀ s, ∃ d, xrun cfz 24 d [] (st24 s) = (B24 s).mach st24 out24
  | .c0 x0 x1 x2 x3 x4 => ⟨_, k24_0 x0 x1 x2 x3 x4⟩
theorem f24 (x0 : Int) (x1 : Nat) (x2 : List DV) (x3 : Nat) (x4 : List DV) (v : Int × Nat × List DV × Nat × List DV) (h : F24 x0 x1 x2 x3 x4 = some v) : PureCalls cfz.P cfz.glob 24 [(.agg [(aI x0), (.d (.sl x1 x2)), (.d (.sl x3 x4))])] (out24 v) := tree_pure knil ok24 (s := .c0 x0 x1 x2 x3 x4) rfl (by kernel_rfl) v h
inductive S8 where
  | c0 (a0 : Int) (a1 : Nat) (a2 : List DV) (a3 : Nat) (a4 : List DV) (a5 : Nat) (a6 : List DV)
def out8 (v : Int × Nat × List DV × Nat × List DV × Int) : AV := (.tup [(.agg [(.d (.v (.int .i64 v.fst))), (.d (.sl v.snd.fst v.snd.snd.fst)), (.d (.sl v.snd.snd.snd.fst v.snd.snd.snd.snd.fst))]), (.d (.v (.int .i64 v.snd.snd.snd.snd.snd)))])
noncomputable def st8 : S8 → ASt
  | .c0 a0 a1 a2 a3 a4 a5 a6 => ent cfz 8 [(.agg [(aI a0), (.d (.sl a1 a2)), (.d (.sl a3 a4))]), (.d (.sl a5 a6))]
noncomputable def B8 : S8 → Tr S8 (Int × Nat × List DV × Nat × List DV × Int)
  | .c0 a0 a1 a2 a3 a4 a5 a6 => (.bind (F21 a0 a1 a2 a3 a4) fun x0 =>
  (.bind (F22 a1 a2 a5 a6) fun x1 =>
  (.bind (F23 (decide ((↑a3 : Int) > 0)) 31) fun x2 =>
  (.bind (F23 (a0 == 1000000) 20) fun x3 =>
  (.bind (F20 4 [(.v (.int .i64 x0)), (.v (.int .i64 x1)), (.v (.int .i64 x2)), (.v (.int .i64 x3))]) fun x4 =>
  (.sees [(.agg [(aI a0), (.d (.sl a1 a2)), (.d (.sl a3 a4))])] (.sees [(.d (.sl a1 a2)), (.d (.sl a5 a6))] (.sees [(.d (.v (.bool (decide ((↑a3 : Int) > 0))))), (aI 31)] (.sees [(.d (.v (.bool (a0 == 1000000)))), (aI 20)] (.sees [(.d (.sl 4 [(vI x0), (vI x1), (vI x2), (vI x3)]))] (.br (x4 != 0)
  (.ret (0, 0, [], 0, [], x4))
  (.bind (F24 a0 a1 a2 a3 a4) fun x5 =>
  (.sees [(.agg [(aI a0), (.d (.sl a1 a2)), (.d (.sl a3 a4))])] (.bind (F25 a5 a6) fun x6 =>
  (.sees [(.d (.sl a5 a6))] (.ret (x5.fst, x5.snd.fst, x5.snd.snd.fst, x6.fst, x6.snd, 0)))))))))))))))))
noncomputable def F8 (a0 : Int) (a1 : Nat) (a2 : List DV) (a3 : Nat) (a4 : List DV) (a5 : Nat) (a6 : List DV) : Option (Int × Nat × List DV × Nat × List DV × Int) := res B8 (.c0 a0 a1 a2 a3 a4 a5 a6)
noncomputable def D8_0 (a0 : Int) (a1 : Nat) (a2 : List DV) (a3 : Nat) (a4 : List DV) (a5 : Nat) (a6 : List DV) : DT cfz := (.go 9 [] [] (.bind (f21 a0 a1 a2 a3 a4) fun x0 => (.bind (f22 a1 a2 a5 a6) fun x1 => (.bind (f23 (decide ((↑a3 : Int) > 0)) 31) fun x2 => (.bind (f23 (a0 == 1000000) 20) fun x3 => (.bind (f20 4 [(vI x0), (vI x1), (vI x2), (vI x3)]) fun x4 => (.go 6 [(.ck 0), (.ck 1), (.ck 2), (.ck 3), (.ck 4)] [] (.split 26 (.go 9 [(.br true)] [0] .fin) (.go 5 [(.br false)] [0] (.bind (f24 a0 a1 a2 a3 a4) fun x5 => (.go 7 [(.ck 5)] [] (.bind (f25 a5 a6) fun x6 => (.go 11 [(.ck 6)] [] .fin)))))))))))))
theorem k8_0 (a0 : Int) (a1 : Nat) (a2 : List DV) (a3 : Nat) (a4 : List DV) (a5 : Nat) (a6 : List DV) : xrun cfz 8 (D8_0 a0 a1 a2 a3 a4 a5 a6) [] (st8 (.c0 a0 a1 a2 a3 a4 a5 a6)) = (B8 (.c0 a0 a1 a2 a3 a4 a5 a6)).mach st8 out8 := by kernel_rfl
theorem ok8 : ∀ s, ∃ d, xrun cfz 8 d [] (st8 s) = (B8 s).mach st8 out8
  | .c0 a0 a1 a2 a3 a4 a5 a6 => ⟨_, k8_0 a0 a1 a2 a3 a4 a5 a6⟩
theorem f8 (a0 : Int) (a1 : Nat) (a2 : List DV) (a3 : Nat) (a4 : List DV) (a5 : Nat) (a6 : List DV) (v : Int × Nat × List DV × Nat × List DV × Int) (h : F8 a0 a1 a2 a3 a4 a5 a6 = some v) : PureCalls cfz.P cfz.glob 8 [(.agg [(aI a0), (.d (.sl a1 a2)), (.d (.sl a3 a4))]), (.d (.sl a5 a6))] (out8 v) := tree_pure knil ok8 (s := .c0 a0 a1 a2 a3 a4 a5 a6) rfl (by kernel_rfl) v h
inductive S31 where
  | c0 (x0 : Int) (x1 : Nat) (x2 : List DV) (x3 : Nat) (x4 : List DV)
def out31 (v : Int) : AV := (.d (.v (.int .i64 v)))
noncomputable def st31 : S31 → ASt
  | .c0 x0 x1 x2 x3 x4 => ent cfz 31 [(.agg [(aI x0), (.d (.sl x1 x2)), (.d (.sl x3 x4))])]
noncomputable def B31 : S31 → Tr S31 (Int)
  | .c0 x0 x1 x2 x3 x4 => (.bind (F35 x0 x1 x2 x3 x4) fun x5 =>
  (.sees [(aI x0), (.d (.sl x1 x2)), (.d (.sl x3 x4))] (.ret x5)))
noncomputable def F31 (x0 : Int) (x1 : Nat) (x2 : List DV) (x3 : Nat) (x4 : List DV) : Option (Int) := res B31 (.c0 x0 x1 x2 x3 x4)
noncomputable def D31_0 (x0 : Int) (x1 : Nat) (x2 : List DV) (x3 : Nat) (x4 : List DV) : DT cfz := (.go 13 [] [] (.bind (f35 x0 x1 x2 x3 x4) fun x5 => (.go 4 [(.ck 0)] [] .fin)))
theorem k31_0 (x0 : Int) (x1 : Nat) (x2 : List DV) (x3 : Nat) (x4 : List DV) : xrun cfz 31 (D31_0 x0 x1 x2 x3 x4) [] (st31 (.c0 x0 x1 x2 x3 x4)) = (B31 (.c0 x0 x1 x2 x3 x4)).mach st31 out31 := by kernel_rfl
theorem ok31 : ∀ s, ∃ d, xrun cfz 31 d [] (st31 s) = (B31 s).mach st31 out31
  | .c0 x0 x1 x2 x3 x4 => ⟨_, k31_0 x0 x1 x2 x3 x4⟩
theorem f31 (x0 : Int) (x1 : Nat) (x2 : List DV) (x3 : Nat) (x4 : List DV) (v : Int) (h : F31 x0 x1 x2 x3 x4 = some v) : PureCalls cfz.P cfz.glob 31 [(.agg [(aI x0), (.d (.sl x1 x2)), (.d (.sl x3 x4))])] (out31 v) := tree_pure knil ok31 (s := .c0 x0 x1 x2 x3 x4) rfl (by kernel_rfl) v h
inductive S33 where
  | c0 (x0 : Int) (x1 : Nat) (x2 : List DV) (x3 : Nat) (x4 : List DV)
def out33 (v : Int × Nat × List DV × Nat × List DV) : AV := (.agg [(.d (.v (.int .i64 v.fst))), (.d (.sl v.snd.fst v.snd.snd.fst)), (.d (.sl v.snd.snd.snd.fst v.snd.snd.snd.snd))])
noncomputable def st33 : S33 → ASt
  | .c0 x0 x1 x2 x3 x4 => ent cfz 33 [(.agg [(aI x0), (.d (.sl x1 x2)), (.d (.sl x3 x4))])]
noncomputable def B33 : S33 → Tr S33 (Int × Nat × List DV × Nat × List DV)
  | .c0 x0 x1 x2 x3 x4 => (.bind (F25 x1 x2) fun x5 =>
  (.bind (F25 x3 x4) fun x6 =>
  (.sees [(.d (.sl x1 x2))] (.sees [(.d (.sl x3 x4))] (.ret (x0, x5.fst, x5.snd, x6.fst, x6.snd))))))
noncomputable def F33 (x0 : Int) (x1 : Nat) (x2 : List DV) (x3 : Nat) (x4 : List DV) : Option (Int × Nat × List DV × Nat × List DV) := res B33 (.c0 x0 x1 x2 x3 x4)
noncomputable def D33_0 (x0 : Int) (x1 : Nat) (x2 : List DV) (x3 : Nat) (x4 : List DV) : DT cfz := (.go 7 [] [] (.bind (f25 x1 x2) fun x5 => (.bind (f25 x3 x4) fun x6 => (.go 2 [(.ck 0), (.ck 1)] [] .fin))))
theorem k33_0 (x0 : Int) (x1 : Nat) (x2 : List DV) (x3 : Nat) (x4 : List DV) : xrun cfz 33 (D33_0 x0 x1 x2 x3 x4) [] (st33 (.c0 x0 x1 x2 x3 x4)) = (B33 (.c0 x0 x1 x2 x3 x4)).mach st33 out33 := by kernel_rfl
theorem ok33 : ∀ s, ∃ d, xrun cfz 33 d [] (st33 s) = (B33 s).mach st33 out33
  | .c0 x0 x1 x2 x3 x4 => ⟨_, k33_0 x0 x1 x2 x3 x4⟩
theorem f33 (x0 : Int) (x1 : Nat) (x2 : List DV) (x3 : Nat) (x4 : List DV) (v : Int × Nat × List DV × Nat × List DV) (h : F33 x0 x1 x2 x3 x4 = some v) : PureCalls cfz.P cfz.glob 33 [(.agg [(aI x0), (.d (.sl x1 x2)), (.d (.sl x3 x4))])] (out33 v) := tree_pure knil ok33 (s := .c0 x0 x1 x2 x3 x4) rfl (by kernel_rfl) v h
inductive S34 where
  | c0 (x0 : Nat) (x1 : List DV) (x2 : Nat) (x3 : List DV)
  | c1 (x0 : Nat) (x1 : List DV) (x2 : Nat) (x3 : List DV) (x4 x5 : Int)
def out34 (v : Bool) : AV := (.d (.v (.bool v)))
noncomputable def st34 : S34 → ASt
  | .c0 x0 x1 x2 x3 => ent cfz 34 [(.d (.sl x0 x1)), (.d (.sl x2 x3))]
  | .c1 x0 x1 x2 x3 x4 x5 => ⟨⟨34, sp 26 0 [(0, (.d (.sl x0 x1))), (1, (.d (.sl x2 x3))), (12, (aI x4)), (13, (aI x5))], [(.code (cd cfz.P 34 [1, 1, 0, 1, 0, 0])), (.inLoop (cd cfz.P 34 [1, 1, 0, 1, 0, 0])), (.inBlock 0), (.code (cd cfz.P 34 [1, 1, 1]))], [], false, .none⟩, [], []⟩
noncomputable def B34 : S34 → Tr S34 (Bool)
  | .c0 x0 x1 x2 x3 => (.br ((↑x0 : Int) != (↑x2 : Int))
  (.ret false)
  (.nxt (.c1 x0 x1 x2 x3 ((↑x0 : Int)) 0)))
  | .c1 x0 x1 x2 x3 x4 x5 => (.br (decide (x5 < x4))
  (.ask (.le 0 x5) (.ask (.lt x5 ((↑x0 : Int))) (.ask (.leN (x5.toNat * 1) x1.length) (.ask (.prop (Option.map AV.d (List.drop (x5.toNat * 1) x1)[0]? = some (AV.d (DV.v (Value.int IntKind.i64 (dI (cel x1 (x5.toNat * 1)))))))) (.ask (.le 0 x5) (.ask (.lt x5 ((↑x2 : Int))) (.ask (.leN (x5.toNat * 1) x3.length) (.ask (.prop (Option.map AV.d (List.drop (x5.toNat * 1) x3)[0]? = some (AV.d (DV.v (Value.int IntKind.i64 (dI (cel x3 (x5.toNat * 1)))))))) (.br (dI (cel x1 (x5.toNat * 1)) != dI (cel x3 (x5.toNat * 1)))
  (.ret false)
  (.ask (.in64 (x5 + 1)) (.nxt (.c1 x0 x1 x2 x3 x4 (x5 + 1)))))))))))))
  (.ret true))
noncomputable def F34 (x0 : Nat) (x1 : List DV) (x2 : Nat) (x3 : List DV) : Option (Bool) := res B34 (.c0 x0 x1 x2 x3)
noncomputable def D34_0 (x0 : Nat) (x1 : List DV) (x2 : Nat) (x3 : List DV) : DT cfz := (.go 13 [] [] (.split 10 (.go 6 [(.br true)] [0] .fin) (.go 11 [(.br false)] [0] (.cut 0 [[0, 1, 12, 13]] []))))
theorem k34_0 (x0 : Nat) (x1 : List DV) (x2 : Nat) (x3 : List DV) : xrun cfz 34 (D34_0 x0 x1 x2 x3) [] (st34 (.c0 x0 x1 x2 x3)) = (B34 (.c0 x0 x1 x2 x3)).mach st34 out34 := by kernel_rfl
noncomputable def D34_1 (x0 : Nat) (x1 : List DV) (x2 : Nat) (x3 : List DV) (x4 x5 : Int) : DT cfz := (.go 5 [] [] (.split 14 (.go 12 [(.br true), (.as (aI (dI (cel x1 (x5.toNat * 1))))), (.as (aI (dI (cel x3 (x5.toNat * 1)))))] [0] (.split 24 (.go 6 [(.br true)] [0] .fin) (.go 8 [(.br false)] [0] (.cut 0 [[0, 1, 12, 13]] [])))) (.go 7 [(.br false)] [0] .fin)))
theorem k34_1 (x0 : Nat) (x1 : List DV) (x2 : Nat) (x3 : List DV) (x4 x5 : Int) : xrun cfz 34 (D34_1 x0 x1 x2 x3 x4 x5) [] (st34 (.c1 x0 x1 x2 x3 x4 x5)) = (B34 (.c1 x0 x1 x2 x3 x4 x5)).mach st34 out34 := by kernel_rfl
theorem ok34 : ∀ s, ∃ d, xrun cfz 34 d [] (st34 s) = (B34 s).mach st34 out34
  | .c0 x0 x1 x2 x3 => ⟨_, k34_0 x0 x1 x2 x3⟩
  | .c1 x0 x1 x2 x3 x4 x5 => ⟨_, k34_1 x0 x1 x2 x3 x4 x5⟩
theorem f34 (x0 : Nat) (x1 : List DV) (x2 : Nat) (x3 : List DV) (v : Bool) (h : F34 x0 x1 x2 x3 = some v) : PureCalls cfz.P cfz.glob 34 [(.d (.sl x0 x1)), (.d (.sl x2 x3))] (out34 v) := tree_pure knil ok34 (s := .c0 x0 x1 x2 x3) rfl (by kernel_rfl) v h
inductive S13 where
  | c0 (x0 : Int) (x1 : Nat) (x2 : List DV) (x3 : Nat) (x4 : List DV) (x5 : Int) (x6 : Nat) (x7 : List DV)
def out13 (v : Int × Nat × List DV × Nat × List DV × Int × Int) : AV := (.tup [(.agg [(.d (.v (.int .i64 v.fst))), (.d (.sl v.snd.fst v.snd.snd.fst)), (.d (.sl v.snd.snd.snd.fst v.snd.snd.snd.snd.fst))]), (.d (.v (.int .i64 v.snd.snd.snd.snd.snd.fst))), (.d (.v (.int .i64 v.snd.snd.snd.snd.snd.snd)))])
noncomputable def st13 : S13 → ASt
  | .c0 x0 x1 x2 x3 x4 x5 x6 x7 => ent cfz 13 [(.agg [(aI x0), (.d (.sl x1 x2)), (.d (.sl x3 x4))]), (aI x5), (.d (.sl x6 x7))]
noncomputable def B13 : S13 → Tr S13 (Int × Nat × List DV × Nat × List DV × Int × Int)
  | .c0 x0 x1 x2 x3 x4 x5 x6 x7 => (.bind (F31 x0 x1 x2 x3 x4) fun x8 =>
  (.bind (F32 x5 0 1000000) fun x9 =>
  (.bind (F22 x1 x2 x6 x7) fun xa =>
  (.bind (F23 (decide (x5 > x0 + 1)) 7) fun xb =>
  (.bind (F20 4 [(.v (.int .i64 x8)), (.v (.int .i64 x9)), (.v (.int .i64 xa)), (.v (.int .i64 xb))]) fun xc =>
  (.sees [(.agg [(aI x0), (.d (.sl x1 x2)), (.d (.sl x3 x4))])] (.sees [(aI x5), (aI 0), (aI 1000000)] (.sees [(.d (.sl x1 x2)), (.d (.sl x6 x7))] (.ask (.in64 (x0 + 1)) (.sees [(.d (.v (.bool (decide (x5 > x0 + 1))))), (aI 7)] (.sees [(.d (.sl 4 [(vI x8), (vI x9), (vI xa), (vI xb)]))] (.br (xc != 0)
  (.ret (0, 0, [], 0, [], 0, xc))
  (.bind (F33 x0 x1 x2 x3 x4) fun xd =>
  (.sees [(.agg [(aI x0), (.d (.sl x1 x2)), (.d (.sl x3 x4))])] (.br (decide (x5 ≤ x0))
  (.ret (xd.fst, xd.snd.fst, xd.snd.snd.fst, xd.snd.snd.snd.fst, xd.snd.snd.snd.snd, x0, 0))
  (.br ((↑x3 : Int) == 0)
  (.bind (F25 x6 x7) fun xe =>
  (.sees [(.d (.sl x6 x7))] (.ret (xd.fst, xd.snd.fst, xd.snd.snd.fst, xe.fst, xe.snd, x5, 0))))
  (.bind (F34 x3 x4 x6 x7) fun xf =>
  (.sees [(.d (.sl x3 x4)), (.d (.sl x6 x7))] (.br (!xf)
  (.ret (0, 0, [], 0, [], 0, 24))
  (.ret (xd.fst, xd.snd.fst, xd.snd.snd.fst, xd.snd.snd.snd.fst, xd.snd.snd.snd.snd, x5, 0)))))))))))))))))))))
noncomputable def F13 (x0 : Int) (x1 : Nat) (x2 : List DV) (x3 : Nat) (x4 : List DV) (x5 : Int) (x6 : Nat) (x7 : List DV) : Option (Int × Nat × List DV × Nat × List DV × Int × Int) := res B13 (.c0 x0 x1 x2 x3 x4 x5 x6 x7)
noncomputable def D13_0 (x0 : Int) (x1 : Nat) (x2 : List DV) (x3 : Nat) (x4 : List DV) (x5 : Int) (x6 : Nat) (x7 : List DV) : DT cfz := (.go 10 [] [] (.bind (f31 x0 x1 x2 x3 x4) fun x8 => (.bind (f32 x5 0 1000000) fun x9 => (.bind (f22 x1 x2 x6 x7) fun xa => (.bind (f23 (decide (x5 > x0 + 1)) 7) fun xb => (.bind (f20 4 [(vI x8), (vI x9), (vI xa), (vI xb)]) fun xc => (.go 6 [(.ck 0), (.ck 1), (.ck 2), (.ck 3), (.ck 4)] [] (.split 28 (.go 10 [(.br true)] [0] .fin) (.go 5 [(.br false)] [0] (.bind (f33 x0 x1 x2 x3 x4) fun xd => (.go 12 [(.ck 5)] [] (.split 36 (.go 5 [(.br true)] [0] .fin) (.go 10 [(.br false)] [0] (.split 43 (.go 3 [(.br true)] [0] (.bind (f25 x6 x7) fun xe => (.go 13 [(.ck 6)] [] .fin))) (.go 6 [(.br false)] [0] (.bind (f34 x3 x4 x6 x7) fun xf => (.go 3 [(.ck 6)] [] (.split 51 (.go 9 [(.br true)] [0] .fin) (.go 11 [(.br false)] [0] .fin)))))))))))))))))))
theorem k13_0 (x0 : Int) (x1 : Nat) (x2 : List DV) (x3 : Nat) (x4 : List DV) (x5 : Int) (x6 : Nat) (x7 : List DV) : xrun cfz 13 (D13_0 x0 x1 x2 x3 x4 x5 x6 x7) [] (st13 (.c0 x0 x1 x2 x3 x4 x5 x6 x7)) = (B13 (.c0 x0 x1 x2 x3 x4 x5 x6 x7)).mach st13 out13 := by kernel_rfl
theorem ok13 : ∀ s, ∃ d, xrun cfz 13 d [] (st13 s) = (B13 s).mach st13 out13
  | .c0 x0 x1 x2 x3 x4 x5 x6 x7 => ⟨_, k13_0 x0 x1 x2 x3 x4 x5 x6 x7⟩
theorem f13 (x0 : Int) (x1 : Nat) (x2 : List DV) (x3 : Nat) (x4 : List DV) (x5 : Int) (x6 : Nat) (x7 : List DV) (v : Int × Nat × List DV × Nat × List DV × Int × Int) (h : F13 x0 x1 x2 x3 x4 x5 x6 x7 = some v) : PureCalls cfz.P cfz.glob 13 [(.agg [(aI x0), (.d (.sl x1 x2)), (.d (.sl x3 x4))]), (aI x5), (.d (.sl x6 x7))] (out13 v) := tree_pure knil ok13 (s := .c0 x0 x1 x2 x3 x4 x5 x6 x7) rfl (by kernel_rfl) v h
inductive S16 where
  | c0 (a52 : Int) (a53 : Nat) (a54 : List DV) (a55 : Nat) (a56 : List DV) (a57 : Int)
def out16 (v : Int × Nat × List DV × Nat × List DV × Int) : AV := (.tup [(.agg [(.d (.v (.int .i64 v.fst))), (.d (.sl v.snd.fst v.snd.snd.fst)), (.d (.sl v.snd.snd.snd.fst v.snd.snd.snd.snd.fst))]), (.d (.v (.int .i64 v.snd.snd.snd.snd.snd)))])
noncomputable def st16 : S16 → ASt
  | .c0 a52 a53 a54 a55 a56 a57 => ent cfz 16 [(.agg [(aI a52), (.d (.sl a53 a54)), (.d (.sl a55 a56))]), (aI a57)]
noncomputable def B16 : S16 → Tr S16 (Int × Nat × List DV × Nat × List DV × Int)
  | .c0 a52 a53 a54 a55 a56 a57 => (.bind (F21 a52 a53 a54 a55 a56) fun x0 =>
  (.bind (F32 a57 0 1000000) fun x1 =>
  (.bind (F23 (decide (a57 > a52 + 1)) 24) fun x2 =>
  (.br (a57 == a52 + 1)
  (.bind (F23 ((↑a55 : Int) == 0) 7) fun x3 =>
  (.bind (F20 4 [(.v (.int .i64 x0)), (.v (.int .i64 x1)), (.v (.int .i64 x2)), (.v (.int .i64 x3))]) fun x4 =>
  (.sees [(.agg [(aI a52), (.d (.sl a53 a54)), (.d (.sl a55 a56))])] (.sees [(aI a57), (aI 0), (aI 1000000)] (.ask (.in64 (a52 + 1)) (.sees [(.d (.v (.bool (decide (a57 > a52 + 1))))), (aI 24)] (.ask (.in64 (a52 + 1)) (.ask (.eqB (a57 == a52 + 1) true) (.ask (.eqB (a57 == a52 + 1) true) (.ask (.eqB (a57 == a52 + 1) true) (.ask (.eqB (a57 == a52 + 1) true) (.ask (.eqB (a57 == a52 + 1) true) (.sees [(.d (.v (.bool ((↑a55 : Int) == 0)))), (aI 7)] (.sees [(.d (.sl 4 [(vI x0), (vI x1), (vI x2), (vI x3)]))] (.br (x4 != 0)
  (.ret (0, 0, [], 0, [], x4))
  (.bind (F24 a52 a53 a54 a55 a56) fun x5 =>
  (.sees [(.agg [(aI a52), (.d (.sl a53 a54)), (.d (.sl a55 a56))])] (.ask (.in64 (a52 + 1)) (.ask (.eqB (a57 == a52 + 1) true) (.bind (F25 a55 a56) fun x6 =>
  (.sees [(.d (.sl a55 a56))] (.ret (a57, x6.fst, x6.snd, 0, [], 0)))))))))))))))))))))))
  (.bind (F23 false 7) fun x7 =>
  (.bind (F20 4 [(.v (.int .i64 x0)), (.v (.int .i64 x1)), (.v (.int .i64 x2)), (.v (.int .i64 x7))]) fun x8 =>
  (.sees [(.agg [(aI a52), (.d (.sl a53 a54)), (.d (.sl a55 a56))])] (.sees [(aI a57), (aI 0), (aI 1000000)] (.ask (.in64 (a52 + 1)) (.sees [(.d (.v (.bool (decide (a57 > a52 + 1))))), (aI 24)] (.ask (.in64 (a52 + 1)) (.ask (.eqB (a57 == a52 + 1) false) (.ask (.eqB (a57 == a52 + 1) false) (.ask (.eqB (a57 == a52 + 1) false) (.ask (.eqB (a57 == a52 + 1) false) (.ask (.eqB (a57 == a52 + 1) false) (.sees [(.d (.v (.bool false))), (aI 7)] (.sees [(.d (.sl 4 [(vI x0), (vI x1), (vI x2), (vI x7)]))] (.br (x8 != 0)
  (.ret (0, 0, [], 0, [], x8))
  (.bind (F24 a52 a53 a54 a55 a56) fun x9 =>
  (.sees [(.agg [(aI a52), (.d (.sl a53 a54)), (.d (.sl a55 a56))])] (.ask (.in64 (a52 + 1)) (.ask (.eqB (a57 == a52 + 1) false) (.ret (x9.fst, x9.snd.fst, x9.snd.snd.fst, x9.snd.snd.snd.fst, x9.snd.snd.snd.snd, 0)))))))))))))))))))))))))
noncomputable def F16 (a52 : Int) (a53 : Nat) (a54 : List DV) (a55 : Nat) (a56 : List DV) (a57 : Int) : Option (Int × Nat × List DV × Nat × List DV × Int) := res B16 (.c0 a52 a53 a54 a55 a56 a57)
noncomputable def D16_0 (a52 : Int) (a53 : Nat) (a54 : List DV) (a55 : Nat) (a56 : List DV) (a57 : Int) : DT cfz := (.go 9 [] [] (.bind (f21 a52 a53 a54 a55 a56) fun x0 => (.bind (f32 a57 0 1000000) fun x1 => (.bind (f23 (decide (a57 > a52 + 1)) 24) fun x2 => (.br (a57 == a52 + 1) (.bind (f23 ((↑a55 : Int) == 0) 7) fun x3 => (.bind (f20 4 [(vI x0), (vI x1), (vI x2), (vI x3)]) fun x4 => (.go 6 [.none, (.ck 0), (.ck 1), .none, (.ck 2), .none, (.br true), (.br true), .none, (.br true), (.br true), (.br true), (.ck 3), (.ck 4)] [] (.split 33 (.go 9 [(.br true)] [0] .fin) (.go 5 [(.br false)] [0] (.bind (f24 a52 a53 a54 a55 a56) fun x5 => (.go 13 [(.ck 5)] [] (.assume 42 true (.go 5 [(.br true)] [0] (.bind (f25 a55 a56) fun x6 => (.go 11 [(.ck 6)] [] .fin))))))))))) (.bind (f23 false 7) fun x7 => (.bind (f20 4 [(vI x0), (vI x1), (vI x2), (vI x7)]) fun x8 => (.go 6 [.none, (.ck 0), (.ck 1), .none, (.ck 2), .none, (.br false), (.br false), (.br false), (.br false), (.br false), (.ck 3), (.ck 4)] [] (.split 33 (.go 9 [(.br true)] [0] .fin) (.go 5 [(.br false)] [0] (.bind (f24 a52 a53 a54 a55 a56) fun x9 => (.go 13 [(.ck 5)] [] (.assume 42 false (.go 9 [(.br false)] [0] .fin))))))))))))))
theorem k16_0 (a52 : Int) (a53 : Nat) (a54 : List DV) (a55 : Nat) (a56 : List DV) (a57 : Int) : xrun cfz 16 (D16_0 a52 a53 a54 a55 a56 a57) [] (st16 (.c0 a52 a53 a54 a55 a56 a57)) = (B16 (.c0 a52 a53 a54 a55 a56 a57)).mach st16 out16 := by kernel_rfl
theorem ok16 : ∀ s, ∃ d, xrun cfz 16 d [] (st16 s) = (B16 s).mach st16 out16
  | .c0 a52 a53 a54 a55 a56 a57 => ⟨_, k16_0 a52 a53 a54 a55 a56 a57⟩
theorem f16 (a52 : Int) (a53 : Nat) (a54 : List DV) (a55 : Nat) (a56 : List DV) (a57 : Int) (v : Int × Nat × List DV × Nat × List DV × Int) (h : F16 a52 a53 a54 a55 a56 a57 = some v) : PureCalls cfz.P cfz.glob 16 [(.agg [(aI a52), (.d (.sl a53 a54)), (.d (.sl a55 a56))]), (aI a57)] (out16 v) := tree_pure knil ok16 (s := .c0 a52 a53 a54 a55 a56 a57) rfl (by kernel_rfl) v h
inductive S15 where
  | c0 (x0 : Int) (x1 : Nat) (x2 : List DV) (x3 : Nat) (x4 : List DV) (x5 : Int)
def out15 (v : Int × Nat × List DV × Nat × List DV × Nat × List DV × Int) : AV := (.tup [(.agg [(.d (.v (.int .i64 v.fst))), (.d (.sl v.snd.fst v.snd.snd.fst)), (.d (.sl v.snd.snd.snd.fst v.snd.snd.snd.snd.fst))]), (.d (.sl v.snd.snd.snd.snd.snd.fst v.snd.snd.snd.snd.snd.snd.fst)), (.d (.v (.int .i64 v.snd.snd.snd.snd.snd.snd.snd)))])
noncomputable def st15 : S15 → ASt
  | .c0 x0 x1 x2 x3 x4 x5 => ent cfz 15 [(.agg [(aI x0), (.d (.sl x1 x2)), (.d (.sl x3 x4))]), (aI x5)]
noncomputable def B15 : S15 → Tr S15 (Int × Nat × List DV × Nat × List DV × Nat × List DV × Int)
  | .c0 x0 x1 x2 x3 x4 x5 => (.bind (F31 x0 x1 x2 x3 x4) fun x6 =>
  (.bind (F32 x5 0 1000000) fun x7 =>
  (.bind (F23 (decide (x5 < x0)) 35) fun x8 =>
  (.br (decide (x5 > x0 + 1))
  (.bind (F23 true 7) fun x9 =>
  (.bind (F20 4 [(.v (.int .i64 x6)), (.v (.int .i64 x7)), (.v (.int .i64 x8)), (.v (.int .i64 x9))]) fun xa =>
  (.sees [(.agg [(aI x0), (.d (.sl x1 x2)), (.d (.sl x3 x4))])] (.sees [(aI x5), (aI 0), (aI 1000000)] (.sees [(.d (.v (.bool (decide (x5 < x0))))), (aI 35)] (.ask (.in64 (x0 + 1)) (.ask (.eqB (decide (x5 > x0 + 1)) true) (.ask (.eqB (decide (x5 > x0 + 1)) true) (.ask (.eqB (decide (x5 > x0 + 1)) true) (.ask (.eqB (decide (x5 > x0 + 1)) true) (.ask (.eqB (decide (x5 > x0 + 1)) true) (.ask (.eqB (decide (x5 > x0 + 1)) true) (.sees [(.d (.v (.bool true))), (aI 7)] (.sees [(.d (.sl 4 [(vI x6), (vI x7), (vI x8), (vI x9)]))] (.br (xa != 0)
  (.ret (0, 0, [], 0, [], 0, [], xa))
  (.bind (F33 x0 x1 x2 x3 x4) fun xb =>
  (.sees [(.agg [(aI x0), (.d (.sl x1 x2)), (.d (.sl x3 x4))])] (.br (decide (x5 > x0))
  (.bind (F25 x3 x4) fun xc =>
  (.sees [(.d (.sl x3 x4))] (.bind (F25 xc.fst xc.snd) fun xd =>
  (.sees [(.d (.sl xc.fst xc.snd))] (.ret (x5, xc.fst, xc.snd, 0, [], xd.fst, xd.snd, 0))))))
  (.bind (F25 xb.snd.fst xb.snd.snd.fst) fun xe =>
  (.sees [(.d (.sl xb.snd.fst xb.snd.snd.fst))] (.ret (xb.fst, xb.snd.fst, xb.snd.snd.fst, xb.snd.snd.snd.fst, xb.snd.snd.snd.snd, xe.fst, xe.snd, 0))))))))))))))))))))))
  (.br (decide (x5 > x0))
  (.bind (F23 ((↑x3 : Int) == 0) 7) fun xf =>
  (.bind (F20 4 [(.v (.int .i64 x6)), (.v (.int .i64 x7)), (.v (.int .i64 x8)), (.v (.int .i64 xf))]) fun xg =>
  (.sees [(.agg [(aI x0), (.d (.sl x1 x2)), (.d (.sl x3 x4))])] (.sees [(aI x5), (aI 0), (aI 1000000)] (.sees [(.d (.v (.bool (decide (x5 < x0))))), (aI 35)] (.ask (.in64 (x0 + 1)) (.ask (.eqB (decide (x5 > x0 + 1)) false) (.ask (.eqB (decide (x5 > x0 + 1)) false) (.ask (.eqB (decide (x5 > x0 + 1)) false) (.ask (.eqB (decide (x5 > x0 + 1) == false) true) (.ask (.eqB (decide (x5 > x0 + 1)) false) (.ask (.eqB (decide (x5 > x0)) true) (.ask (.eqB (decide (x5 > x0)) true) (.ask (.eqB (decide (x5 > x0)) true) (.ask (.eqB (decide (x5 > x0)) true) (.ask (.eqB (decide (x5 > x0)) true) (.ask (.eqB (decide (x5 > x0 + 1)) false) (.ask (.eqB (decide (x5 > x0 + 1)) false) (.sees [(.d (.v (.bool ((↑x3 : Int) == 0)))), (aI 7)] (.sees [(.d (.sl 4 [(vI x6), (vI x7), (vI x8), (vI xf)]))] (.br (xg != 0)
  (.ret (0, 0, [], 0, [], 0, [], xg))
  (.bind (F33 x0 x1 x2 x3 x4) fun xh =>
  (.sees [(.agg [(aI x0), (.d (.sl x1 x2)), (.d (.sl x3 x4))])] (.ask (.eqB (decide (x5 > x0)) true) (.bind (F25 x3 x4) fun xi =>
  (.sees [(.d (.sl x3 x4))] (.bind (F25 xi.fst xi.snd) fun xj =>
  (.sees [(.d (.sl xi.fst xi.snd))] (.ret (x5, xi.fst, xi.snd, 0, [], xj.fst, xj.snd, 0))))))))))))))))))))))))))))))
  (.bind (F23 false 7) fun xk =>
  (.bind (F20 4 [(.v (.int .i64 x6)), (.v (.int .i64 x7)), (.v (.int .i64 x8)), (.v (.int .i64 xk))]) fun xl =>
  (.sees [(.agg [(aI x0), (.d (.sl x1 x2)), (.d (.sl x3 x4))])] (.sees [(aI x5), (aI 0), (aI 1000000)] (.sees [(.d (.v (.bool (decide (x5 < x0))))), (aI 35)] (.ask (.in64 (x0 + 1)) (.ask (.eqB (decide (x5 > x0 + 1)) false) (.ask (.eqB (decide (x5 > x0 + 1)) false) (.ask (.eqB (decide (x5 > x0 + 1)) false) (.ask (.eqB (decide (x5 > x0 + 1) == false) true) (.ask (.eqB (decide (x5 > x0 + 1)) false) (.ask (.eqB (decide (x5 > x0)) false) (.ask (.eqB (decide (x5 > x0)) false) (.ask (.eqB (decide (x5 > x0)) false) (.ask (.eqB (decide (x5 > x0)) false) (.ask (.eqB (decide (x5 > x0)) false) (.ask (.eqB (decide (x5 > x0 + 1)) false) (.ask (.eqB (decide (x5 > x0 + 1)) false) (.sees [(.d (.v (.bool false))), (aI 7)] (.sees [(.d (.sl 4 [(vI x6), (vI x7), (vI x8), (vI xk)]))] (.br (xl != 0)
  (.ret (0, 0, [], 0, [], 0, [], xl))
  (.bind (F33 x0 x1 x2 x3 x4) fun xm =>
  (.sees [(.agg [(aI x0), (.d (.sl x1 x2)), (.d (.sl x3 x4))])] (.ask (.eqB (decide (x5 > x0)) false) (.bind (F25 xm.snd.fst xm.snd.snd.fst) fun xn =>
  (.sees [(.d (.sl xm.snd.fst xm.snd.snd.fst))] (.ret (xm.fst, xm.snd.fst, xm.snd.snd.fst, xm.snd.snd.snd.fst, xm.snd.snd.snd.snd, xn.fst, xn.snd, 0)))))))))))))))))))))))))))))))))
noncomputable def F15 (x0 : Int) (x1 : Nat) (x2 : List DV) (x3 : Nat) (x4 : List DV) (x5 : Int) : Option (Int × Nat × List DV × Nat × List DV × Nat × List DV × Int) := res B15 (.c0 x0 x1 x2 x3 x4 x5)
noncomputable def D15_0 (x0 : Int) (x1 : Nat) (x2 : List DV) (x3 : Nat) (x4 : List DV) (x5 : Int) : DT cfz := (.go 10 [] [] (.bind (f31 x0 x1 x2 x3 x4) fun x6 => (.bind (f32 x5 0 1000000) fun x7 => (.bind (f23 (decide (x5 < x0)) 35) fun x8 => (.br (decide (x5 > x0 + 1)) (.bind (f23 true 7) fun x9 => (.bind (f20 4 [(vI x6), (vI x7), (vI x8), (vI x9)]) fun xa => (.go 6 [.none, (.ck 0), (.ck 1), .none, (.ck 2), .none, (.sp .none), (.br true), (.br true), (.br true), (.br true), (.br false), (.br false), (.br false), (.br false), (.br true), (.br true), (.ck 3), (.ck 4)] [] (.split 39 (.go 10 [(.br true)] [0] .fin) (.go 5 [(.br false)] [0] (.bind (f33 x0 x1 x2 x3 x4) fun xb => (.go 12 [(.ck 5)] [] (.split 47 (.go 5 [(.br true)] [0] (.bind (f25 x3 x4) fun xc => (.go 6 [(.ck 6)] [] (.bind (f25 xc.fst xc.snd) fun xd => (.go 2 [(.ck 7)] [] .fin))))) (.go 4 [(.br false)] [0] (.bind (f25 xb.snd.fst xb.snd.snd.fst) fun xe => (.go 2 [(.ck 6)] [] .fin))))))))))) (.br (decide (x5 > x0)) (.bind (f23 ((↑x3 : Int) == 0) 7) fun xf => (.bind (f20 4 [(vI x6), (vI x7), (vI x8), (vI xf)]) fun xg => (.go 6 [.none, (.ck 0), (.ck 1), .none, (.ck 2), .none, (.sp .none), (.br false), (.br false), .none, (.br false), (.br false), (.br true), (.br true), .none, (.br true), (.br true), (.br false), (.br true), (.br false), (.ck 3), (.ck 4)] [] (.split 39 (.go 10 [(.br true)] [0] .fin) (.go 5 [(.br false)] [0] (.bind (f33 x0 x1 x2 x3 x4) fun xh => (.go 12 [(.ck 5)] [] (.assume 47 true (.go 5 [(.br true)] [0] (.bind (f25 x3 x4) fun xi => (.go 6 [(.ck 6)] [] (.bind (f25 xi.fst xi.snd) fun xj => (.go 2 [(.ck 7)] [] .fin))))))))))))) (.bind (f23 false 7) fun xk => (.bind (f20 4 [(vI x6), (vI x7), (vI x8), (vI xk)]) fun xl => (.go 6 [.none, (.ck 0), (.ck 1), .none, (.ck 2), .none, (.sp .none), (.br false), (.br false), .none, (.br false), (.br false), (.br false), (.br false), (.br false), (.br false), (.br false), (.br false), (.br false), (.ck 3), (.ck 4)] [] (.split 39 (.go 10 [(.br true)] [0] .fin) (.go 5 [(.br false)] [0] (.bind (f33 x0 x1 x2 x3 x4) fun xm => (.go 12 [(.ck 5)] [] (.assume 47 false (.go 4 [(.br false)] [0] (.bind (f25 xm.snd.fst xm.snd.snd.fst) fun xn => (.go 2 [(.ck 6)] [] .fin)))))))))))))))))
theorem k15_0 (x0 : Int) (x1 : Nat) (x2 : List DV) (x3 : Nat) (x4 : List DV) (x5 : Int) : xrun cfz 15 (D15_0 x0 x1 x2 x3 x4 x5) [] (st15 (.c0 x0 x1 x2 x3 x4 x5)) = (B15 (.c0 x0 x1 x2 x3 x4 x5)).mach st15 out15 := by kernel_rfl
theorem ok15 : ∀ s, ∃ d, xrun cfz 15 d [] (st15 s) = (B15 s).mach st15 out15
  | .c0 x0 x1 x2 x3 x4 x5 => ⟨_, k15_0 x0 x1 x2 x3 x4 x5⟩
theorem f15 (x0 : Int) (x1 : Nat) (x2 : List DV) (x3 : Nat) (x4 : List DV) (x5 : Int) (v : Int × Nat × List DV × Nat × List DV × Nat × List DV × Int) (h : F15 x0 x1 x2 x3 x4 x5 = some v) : PureCalls cfz.P cfz.glob 15 [(.agg [(aI x0), (.d (.sl x1 x2)), (.d (.sl x3 x4))]), (aI x5)] (out15 v) := tree_pure knil ok15 (s := .c0 x0 x1 x2 x3 x4 x5) rfl (by kernel_rfl) v h
inductive S18 where
  | c0 (a13 : Bool) (a14 : Int)
def out18 (v : Int) : AV := (.d (.v (.int .i64 v)))
noncomputable def st18 : S18 → ASt
  | .c0 a13 a14 => ent cfz 18 [(.d (.v (.bool a13))), (aI a14)]
noncomputable def B18 : S18 → Tr S18 (Int)
  | .c0 a13 a14 => (.br a13
  (.ret a14)
  (.ret 0))
noncomputable def F18 (a13 : Bool) (a14 : Int) : Option (Int) := res B18 (.c0 a13 a14)
noncomputable def D18_0 (a13 : Bool) (a14 : Int) : DT cfz := (.go 9 [] [] (.split 5 (.go 7 [(.br true)] [0] .fin) (.go 7 [(.br false)] [0] .fin)))
theorem k18_0 (a13 : Bool) (a14 : Int) : xrun cfz 18 (D18_0 a13 a14) [] (st18 (.c0 a13 a14)) = (B18 (.c0 a13 a14)).mach st18 out18 := by kernel_rfl
theorem ok18 : ∀ s, ∃ d, xrun cfz 18 d [] (st18 s) = (B18 s).mach st18 out18
  | .c0 a13 a14 => ⟨_, k18_0 a13 a14⟩
theorem f18 (a13 : Bool) (a14 v : Int) (h : F18 a13 a14 = some v) : PureCalls cfz.P cfz.glob 18 [(.d (.v (.bool a13))), (aI a14)] (out18 v) := tree_pure knil ok18 (s := .c0 a13 a14) rfl (by kernel_rfl) v h
inductive S19 where
  | c0 (a10 a11 a12 : Int)
def out19 (v : Int) : AV := (.d (.v (.int .i64 v)))
noncomputable def st19 : S19 → ASt
  | .c0 a10 a11 a12 => ent cfz 19 [(aI a10), (aI a11), (aI a12)]
noncomputable def B19 : S19 → Tr S19 (Int)
  | .c0 a10 a11 a12 => (.triv _ (tv_s (decide (a10 < a11) == false)) (.triv _ (tv_s (decide (a10 < a11) == false)) (.triv _ (tv_f (decide (a10 < a11))) (.bind (F18 (if decide (a10 < a11) = true then true else decide (a10 > a12)) 3) fun v15 =>
  (.sees [(.d (.v (.bool (if decide (a10 < a11) = true then true else decide (a10 > a12))))), (aI 3)] (.ret v15))))))
noncomputable def F19 (a10 a11 a12 : Int) : Option (Int) := res B19 (.c0 a10 a11 a12)
noncomputable def D19_0 (a10 a11 a12 : Int) : DT cfz := (.go 14 [(.sp .none), (.sp .none), (.sp .none), .mg] [] (.bind (f18 (if decide (a10 < a11) = true then true else decide (a10 > a12)) 3) fun v15 => (.go 4 [(.ck 0)] [] .fin)))
theorem k19_0 (a10 a11 a12 : Int) : xrun cfz 19 (D19_0 a10 a11 a12) [] (st19 (.c0 a10 a11 a12)) = (B19 (.c0 a10 a11 a12)).mach st19 out19 := by kernel_rfl
theorem ok19 : ∀ s, ∃ d, xrun cfz 19 d [] (st19 s) = (B19 s).mach st19 out19
  | .c0 a10 a11 a12 => ⟨_, k19_0 a10 a11 a12⟩
theorem f19 (a10 a11 a12 v : Int) (h : F19 a10 a11 a12 = some v) : PureCalls cfz.P cfz.glob 19 [(aI a10), (aI a11), (aI a12)] (out19 v) := tree_pure knil ok19 (s := .c0 a10 a11 a12) rfl (by kernel_rfl) v h
inductive S17 where
  | c0 (a21 : Nat) (a22 : List DV)
  | c1 (x23 : Nat) (x24 : List DV) (y25 : Int)
def out17 (v : Int) : AV := (.d (.v (.int .i64 v)))
noncomputable def st17 : S17 → ASt
  | .c0 a21 a22 => ent cfz 17 [(.d (.sl a21 a22))]
  | .c1 x23 x24 y25 => ⟨⟨17, sp 19 0 [(0, (.d (.sl x23 x24))), (3, (aI y25))], [(.code (cd cfz.P 17 [1, 0, 1, 0, 0])), (.inLoop (cd cfz.P 17 [1, 0, 1, 0, 0])), (.inBlock 0), (.code (cd cfz.P 17 [1, 1]))], [], false, .none⟩, [], []⟩
noncomputable def B17 : S17 → Tr S17 (Int)
  | .c0 a21 a22 => (.nxt (.c1 a21 a22 0))
  | .c1 x23 x24 y25 => (.br (decide (y25 < (↑x23 : Int)))
  (.ask (.le 0 y25) (.ask (.lt y25 ((↑x23 : Int))) (.ask (.leN (y25.toNat * 1) x24.length) (.ask (.prop (Option.map AV.d (List.drop (y25.toNat * 1) x24)[0]? = some (AV.d (DV.v (Value.int IntKind.i64 (dI (cel x24 (y25.toNat * 1)))))))) (.br (dI (cel x24 (y25.toNat * 1)) != 0)
  (.ask (.le 0 y25) (.ask (.lt y25 ((↑x23 : Int))) (.ask (.leN (y25.toNat * 1) x24.length) (.ask (.prop (Option.map AV.d (List.drop (y25.toNat * 1) x24)[0]? = some (AV.d (DV.v (Value.int IntKind.i64 (dI (cel x24 (y25.toNat * 1)))))))) (.ret (dI (cel x24 (y25.toNat * 1))))))))
  (.ask (.in64 (y25 + 1)) (.nxt (.c1 x23 x24 (y25 + 1)))))))))
  (.ret 0))
noncomputable def F17 (a21 : Nat) (a22 : List DV) : Option (Int) := res B17 (.c0 a21 a22)
noncomputable def D17_0 (a21 : Nat) (a22 : List DV) : DT cfz := (.go 11 [] [] (.cut 0 [[0, 3]] []))
theorem k17_0 (a21 : Nat) (a22 : List DV) : xrun cfz 17 (D17_0 a21 a22) [] (st17 (.c0 a21 a22)) = (B17 (.c0 a21 a22)).mach st17 out17 := by kernel_rfl
noncomputable def D17_1 (x23 : Nat) (x24 : List DV) (y25 : Int) : DT cfz := (.go 8 [] [] (.split 7 (.go 12 [(.br true), (.as (aI (dI (cel x24 (y25.toNat * 1)))))] [0] (.split 14 (.go 10 [(.br true), (.as (aI (dI (cel x24 (y25.toNat * 1)))))] [0] .fin) (.go 9 [(.br false)] [0] (.cut 0 [[0, 3]] [])))) (.go 7 [(.br false)] [0] .fin)))
theorem k17_1 (x23 : Nat) (x24 : List DV) (y25 : Int) : xrun cfz 17 (D17_1 x23 x24 y25) [] (st17 (.c1 x23 x24 y25)) = (B17 (.c1 x23 x24 y25)).mach st17 out17 := by kernel_rfl
theorem ok17 : ∀ s, ∃ d, xrun cfz 17 d [] (st17 s) = (B17 s).mach st17 out17
  | .c0 a21 a22 => ⟨_, k17_0 a21 a22⟩
  | .c1 x23 x24 y25 => ⟨_, k17_1 x23 x24 y25⟩
theorem f17 (a21 : Nat) (a22 : List DV) (v : Int) (h : F17 a21 a22 = some v) : PureCalls cfz.P cfz.glob 17 [(.d (.sl a21 a22))] (out17 v) := tree_pure knil ok17 (s := .c0 a21 a22) rfl (by kernel_rfl) v h
inductive S6 where
  | c0 (a17 : Nat) (a18 : List DV)
  | c1 (x27 : Nat) (x28 : List DV) (y29 : Int)
def out6 (v : Int) : AV := (.d (.v (.int .i64 v)))
noncomputable def st6 : S6 → ASt
  | .c0 a17 a18 => ent cfz 6 [(.d (.sl a17 a18))]
  | .c1 x27 x28 y29 => ⟨⟨6, sp 33 0 [(0, (.d (.sl x27 x28))), (4, (aI y29))], [(.code (cd cfz.P 6 [1, 1, 0, 1, 0, 0])), (.inLoop (cd cfz.P 6 [1, 1, 0, 1, 0, 0])), (.inBlock 0), (.code (cd cfz.P 6 [1, 1, 1]))], [], false, .none⟩, [], []⟩
noncomputable def B6 : S6 → Tr S6 (Int)
  | .c0 a17 a18 => (.bind (F18 ((↑a17 : Int) == 0) 12) fun v19 =>
  (.sees [(.d (.v (.bool ((↑a17 : Int) == 0)))), (aI 12)] (.bind (F18 (decide ((↑a17 : Int) > 8)) 5) fun v20 =>
  (.sees [(.d (.v (.bool (decide ((↑a17 : Int) > 8))))), (aI 5)] (.bind (F17 2 [(.v (.int .i64 v19)), (.v (.int .i64 v20))]) fun v26 =>
  (.sees [(.d (.sl 2 [(vI v19), (vI v20)]))] (.br (v26 != 0)
  (.ret v26)
  (.nxt (.c1 a17 a18 0)))))))))
  | .c1 x27 x28 y29 => (.br (decide (y29 < (↑x27 : Int)))
  (.ask (.le 0 y29) (.ask (.lt y29 ((↑x27 : Int))) (.ask (.leN (y29.toNat * 1) x28.length) (.ask (.prop (Option.map AV.d (List.drop (y29.toNat * 1) x28)[0]? = some (AV.d (DV.v (Value.int IntKind.i64 (dI (cel x28 (y29.toNat * 1)))))))) (.bind (F19 (dI (cel x28 (y29.toNat * 1))) 0 6) fun v30 =>
  (.sees [(aI (dI (cel x28 (y29.toNat * 1)))), (aI 0), (aI 6)] (.br (v30 != 0)
  (.ret v30)
  (.ask (.in64 (y29 + 1)) (.nxt (.c1 x27 x28 (y29 + 1)))))))))))
  (.ret 0))
noncomputable def F6 (a17 : Nat) (a18 : List DV) : Option (Int) := res B6 (.c0 a17 a18)
noncomputable def D6_0 (a17 : Nat) (a18 : List DV) : DT cfz := (.go 10 [] [] (.bind (f18 ((↑a17 : Int) == 0) 12) fun v19 => (.go 4 [(.ck 0)] [] (.bind (f18 (decide ((↑a17 : Int) > 8)) 5) fun v20 => (.go 2 [(.ck 1)] [] (.bind (f17 2 [(vI v19), (vI v20)]) fun v26 => (.go 8 [(.ck 2)] [] (.split 17 (.go 7 [(.br true)] [0] .fin) (.go 9 [(.br false)] [0] (.cut 0 [[0, 4]] []))))))))))
theorem k6_0 (a17 : Nat) (a18 : List DV) : xrun cfz 6 (D6_0 a17 a18) [] (st6 (.c0 a17 a18)) = (B6 (.c0 a17 a18)).mach st6 out6 := by kernel_rfl
noncomputable def D6_1 (x27 : Nat) (x28 : List DV) (y29 : Int) : DT cfz := (.go 8 [] [] (.split 22 (.go 10 [(.br true), (.as (aI (dI (cel x28 (y29.toNat * 1)))))] [0] (.bind (f19 (dI (cel x28 (y29.toNat * 1))) 0 6) fun v30 => (.go 8 [(.ck 0)] [] (.split 31 (.go 7 [(.br true)] [0] .fin) (.go 9 [(.br false)] [0] (.cut 0 [[0, 4]] [])))))) (.go 7 [(.br false)] [0] .fin)))
theorem k6_1 (x27 : Nat) (x28 : List DV) (y29 : Int) : xrun cfz 6 (D6_1 x27 x28 y29) [] (st6 (.c1 x27 x28 y29)) = (B6 (.c1 x27 x28 y29)).mach st6 out6 := by kernel_rfl
theorem ok6 : ∀ s, ∃ d, xrun cfz 6 d [] (st6 s) = (B6 s).mach st6 out6
  | .c0 a17 a18 => ⟨_, k6_0 a17 a18⟩
  | .c1 x27 x28 y29 => ⟨_, k6_1 x27 x28 y29⟩
theorem f6 (a17 : Nat) (a18 : List DV) (v : Int) (h : F6 a17 a18 = some v) : PureCalls cfz.P cfz.glob 6 [(.d (.sl a17 a18))] (out6 v) := tree_pure knil ok6 (s := .c0 a17 a18) rfl (by kernel_rfl) v h
inductive S26 where
  | c0 (a5 : Int) (a6 : Nat) (a7 : List DV) (a8 : Nat) (a9 : List DV)
def out26 (v : Int) : AV := (.d (.v (.int .i64 v)))
noncomputable def st26 : S26 → ASt
  | .c0 a5 a6 a7 a8 a9 => ent cfz 26 [(aI a5), (.d (.sl a6 a7)), (.d (.sl a8 a9))]
noncomputable def B26 : S26 → Tr S26 (Int)
  | .c0 a5 a6 a7 a8 a9 => (.bind (F19 a5 0 1000000) fun v16 =>
  (.sees [(aI a5), (aI 0), (aI 1000000)] (.bind (F6 a6 a7) fun v31 =>
  (.sees [(.d (.sl a6 a7))] (.bind (F17 2 [(.v (.int .i64 v16)), (.v (.int .i64 v31))]) fun v32 =>
  (.sees [(.d (.sl 2 [(vI v16), (vI v31)]))] (.br (v32 != 0)
  (.ret v32)
  (.br ((↑a8 : Int) == 0)
  (.ret 0)
  (.bind (F18 ((↑a8 : Int) != (↑a6 : Int)) 2) fun v33 =>
  (.sees [(.d (.v (.bool ((↑a8 : Int) != (↑a6 : Int))))), (aI 2)] (.bind (F6 a8 a9) fun v34 =>
  (.sees [(.d (.sl a8 a9))] (.bind (F17 2 [(.v (.int .i64 v33)), (.v (.int .i64 v34))]) fun v35 =>
  (.sees [(.d (.sl 2 [(vI v33), (vI v34)]))] (.ret v35)))))))))))))))
noncomputable def F26 (a5 : Int) (a6 : Nat) (a7 : List DV) (a8 : Nat) (a9 : List DV) : Option (Int) := res B26 (.c0 a5 a6 a7 a8 a9)
noncomputable def D26_0 (a5 : Int) (a6 : Nat) (a7 : List DV) (a8 : Nat) (a9 : List DV) : DT cfz := (.go 8 [] [] (.bind (f19 a5 0 1000000) fun v16 => (.go 2 [(.ck 0)] [] (.bind (f6 a6 a7) fun v31 => (.go 2 [(.ck 1)] [] (.bind (f17 2 [(vI v16), (vI v31)]) fun v32 => (.go 8 [(.ck 2)] [] (.split 15 (.go 7 [(.br true)] [0] .fin) (.go 9 [(.br false)] [0] (.split 19 (.go 6 [(.br true)] [0] .fin) (.go 9 [(.br false)] [0] (.bind (f18 ((↑a8 : Int) != (↑a6 : Int)) 2) fun v33 => (.go 2 [(.ck 3)] [] (.bind (f6 a8 a9) fun v34 => (.go 2 [(.ck 4)] [] (.bind (f17 2 [(vI v33), (vI v34)]) fun v35 => (.go 4 [(.ck 5)] [] .fin)))))))))))))))))
theorem k26_0 (a5 : Int) (a6 : Nat) (a7 : List DV) (a8 : Nat) (a9 : List DV) : xrun cfz 26 (D26_0 a5 a6 a7 a8 a9) [] (st26 (.c0 a5 a6 a7 a8 a9)) = (B26 (.c0 a5 a6 a7 a8 a9)).mach st26 out26 := by kernel_rfl
theorem ok26 : ∀ s, ∃ d, xrun cfz 26 d [] (st26 s) = (B26 s).mach st26 out26
  | .c0 a5 a6 a7 a8 a9 => ⟨_, k26_0 a5 a6 a7 a8 a9⟩
theorem f26 (a5 : Int) (a6 : Nat) (a7 : List DV) (a8 : Nat) (a9 : List DV) (v : Int) (h : F26 a5 a6 a7 a8 a9 = some v) : PureCalls cfz.P cfz.glob 26 [(aI a5), (.d (.sl a6 a7)), (.d (.sl a8 a9))] (out26 v) := tree_pure knil ok26 (s := .c0 a5 a6 a7 a8 a9) rfl (by kernel_rfl) v h
inductive S9 where
  | c0 (a0 : Int) (a1 : Nat) (a2 : List DV) (a3 : Nat) (a4 : List DV)
def out9 (v : Int) : AV := (.d (.v (.int .i64 v)))
noncomputable def st9 : S9 → ASt
  | .c0 a0 a1 a2 a3 a4 => ent cfz 9 [(.agg [(aI a0), (.d (.sl a1 a2)), (.d (.sl a3 a4))])]
noncomputable def B9 : S9 → Tr S9 (Int)
  | .c0 a0 a1 a2 a3 a4 => (.bind (F26 a0 a1 a2 a3 a4) fun v36 =>
  (.sees [(aI a0), (.d (.sl a1 a2)), (.d (.sl a3 a4))] (.ret v36)))
noncomputable def F9 (a0 : Int) (a1 : Nat) (a2 : List DV) (a3 : Nat) (a4 : List DV) : Option (Int) := res B9 (.c0 a0 a1 a2 a3 a4)
noncomputable def D9_0 (a0 : Int) (a1 : Nat) (a2 : List DV) (a3 : Nat) (a4 : List DV) : DT cfz := (.go 13 [] [] (.bind (f26 a0 a1 a2 a3 a4) fun v36 => (.go 4 [(.ck 0)] [] .fin)))
theorem k9_0 (a0 : Int) (a1 : Nat) (a2 : List DV) (a3 : Nat) (a4 : List DV) : xrun cfz 9 (D9_0 a0 a1 a2 a3 a4) [] (st9 (.c0 a0 a1 a2 a3 a4)) = (B9 (.c0 a0 a1 a2 a3 a4)).mach st9 out9 := by kernel_rfl
theorem ok9 : ∀ s, ∃ d, xrun cfz 9 d [] (st9 s) = (B9 s).mach st9 out9
  | .c0 a0 a1 a2 a3 a4 => ⟨_, k9_0 a0 a1 a2 a3 a4⟩
theorem f9 (a0 : Int) (a1 : Nat) (a2 : List DV) (a3 : Nat) (a4 : List DV) (v : Int) (h : F9 a0 a1 a2 a3 a4 = some v) : PureCalls cfz.P cfz.glob 9 [(.agg [(aI a0), (.d (.sl a1 a2)), (.d (.sl a3 a4))])] (out9 v) := tree_pure knil ok9 (s := .c0 a0 a1 a2 a3 a4) rfl (by kernel_rfl) v h
inductive S10 where
  | c0 (a37 : Nat) (a38 : List DV) (a39 : Nat) (a40 : List DV)
  | c1 (x41 : Nat) (x42 : List DV) (x43 : Nat) (x44 : List DV) (y45 : Int)
def out10 (v : Bool) : AV := (.d (.v (.bool v)))
noncomputable def st10 : S10 → ASt
  | .c0 a37 a38 a39 a40 => ent cfz 10 [(.d (.sl a37 a38)), (.d (.sl a39 a40))]
  | .c1 x41 x42 x43 x44 y45 => ⟨⟨10, sp 26 0 [(0, (.d (.sl x41 x42))), (1, (.d (.sl x43 x44))), (5, (aI y45))], [(.code (cd cfz.P 10 [1, 1, 0, 1, 0, 0])), (.inLoop (cd cfz.P 10 [1, 1, 0, 1, 0, 0])), (.inBlock 0), (.code (cd cfz.P 10 [1, 1, 1]))], [], false, .none⟩, [], []⟩
noncomputable def B10 : S10 → Tr S10 (Bool)
  | .c0 a37 a38 a39 a40 => (.br ((↑a37 : Int) != (↑a39 : Int))
  (.ret false)
  (.nxt (.c1 a37 a38 a39 a40 0)))
  | .c1 x41 x42 x43 x44 y45 => (.br (decide (y45 < (↑x41 : Int)))
  (.ask (.le 0 y45) (.ask (.lt y45 ((↑x41 : Int))) (.ask (.leN (y45.toNat * 1) x42.length) (.ask (.prop (Option.map AV.d (List.drop (y45.toNat * 1) x42)[0]? = some (AV.d (DV.v (Value.int IntKind.i64 (dI (cel x42 (y45.toNat * 1)))))))) (.ask (.le 0 y45) (.ask (.lt y45 ((↑x43 : Int))) (.ask (.leN (y45.toNat * 1) x44.length) (.ask (.prop (Option.map AV.d (List.drop (y45.toNat * 1) x44)[0]? = some (AV.d (DV.v (Value.int IntKind.i64 (dI (cel x44 (y45.toNat * 1)))))))) (.br (dI (cel x42 (y45.toNat * 1)) != dI (cel x44 (y45.toNat * 1)))
  (.ret false)
  (.ask (.in64 (y45 + 1)) (.nxt (.c1 x41 x42 x43 x44 (y45 + 1)))))))))))))
  (.ret true))
noncomputable def F10 (a37 : Nat) (a38 : List DV) (a39 : Nat) (a40 : List DV) : Option (Bool) := res B10 (.c0 a37 a38 a39 a40)
noncomputable def D10_0 (a37 : Nat) (a38 : List DV) (a39 : Nat) (a40 : List DV) : DT cfz := (.go 13 [] [] (.split 10 (.go 6 [(.br true)] [0] .fin) (.go 9 [(.br false)] [0] (.cut 0 [[0, 1, 5]] []))))
theorem k10_0 (a37 : Nat) (a38 : List DV) (a39 : Nat) (a40 : List DV) : xrun cfz 10 (D10_0 a37 a38 a39 a40) [] (st10 (.c0 a37 a38 a39 a40)) = (B10 (.c0 a37 a38 a39 a40)).mach st10 out10 := by kernel_rfl
noncomputable def D10_1 (x41 : Nat) (x42 : List DV) (x43 : Nat) (x44 : List DV) (y45 : Int) : DT cfz := (.go 8 [] [] (.split 14 (.go 7 [(.br true), (.as (aI (dI (cel x42 (y45.toNat * 1))))), (.as (aI (dI (cel x44 (y45.toNat * 1)))))] [0] (.split 25 (.go 6 [(.br true)] [0] .fin) (.go 9 [(.br false)] [0] (.cut 0 [[0, 1, 5]] [])))) (.go 7 [(.br false)] [0] .fin)))
theorem k10_1 (x41 : Nat) (x42 : List DV) (x43 : Nat) (x44 : List DV) (y45 : Int) : xrun cfz 10 (D10_1 x41 x42 x43 x44 y45) [] (st10 (.c1 x41 x42 x43 x44 y45)) = (B10 (.c1 x41 x42 x43 x44 y45)).mach st10 out10 := by kernel_rfl
theorem ok10 : ∀ s, ∃ d, xrun cfz 10 d [] (st10 s) = (B10 s).mach st10 out10
  | .c0 a37 a38 a39 a40 => ⟨_, k10_0 a37 a38 a39 a40⟩
  | .c1 x41 x42 x43 x44 y45 => ⟨_, k10_1 x41 x42 x43 x44 y45⟩
theorem f10 (a37 : Nat) (a38 : List DV) (a39 : Nat) (a40 : List DV) (v : Bool) (h : F10 a37 a38 a39 a40 = some v) : PureCalls cfz.P cfz.glob 10 [(.d (.sl a37 a38)), (.d (.sl a39 a40))] (out10 v) := tree_pure knil ok10 (s := .c0 a37 a38 a39 a40) rfl (by kernel_rfl) v h
inductive S12 where
  | c0 (a46 : Nat) (a47 : List DV) (a48 : Nat) (a49 : List DV)
def out12 (v : Bool) : AV := (.d (.v (.bool v)))
noncomputable def st12 : S12 → ASt
  | .c0 a46 a47 a48 a49 => ent cfz 12 [(.d (.sl a46 a47)), (.d (.sl a48 a49))]
noncomputable def B12 : S12 → Tr S12 (Bool)
  | .c0 a46 a47 a48 a49 => (.ask (.eqN a47.length a46) (.ask (.eqB (a47.all isB) true) (.ask (.eqN a49.length a48) (.ask (.eqB (a49.all isB) true) (.ret ((pushAll (List.map byB a47) ByteArray.empty).toList == (pushAll (List.map byB a49) ByteArray.empty).toList))))))
noncomputable def F12 (a46 : Nat) (a47 : List DV) (a48 : Nat) (a49 : List DV) : Option (Bool) := res B12 (.c0 a46 a47 a48 a49)
noncomputable def D12_0 (a46 : Nat) (a47 : List DV) (a48 : Nat) (a49 : List DV) : DT cfz := (.go 14 [] [] .fin)
theorem k12_0 (a46 : Nat) (a47 : List DV) (a48 : Nat) (a49 : List DV) : xrun cfz 12 (D12_0 a46 a47 a48 a49) [] (st12 (.c0 a46 a47 a48 a49)) = (B12 (.c0 a46 a47 a48 a49)).mach st12 out12 := by kernel_rfl
theorem ok12 : ∀ s, ∃ d, xrun cfz 12 d [] (st12 s) = (B12 s).mach st12 out12
  | .c0 a46 a47 a48 a49 => ⟨_, k12_0 a46 a47 a48 a49⟩
theorem f12 (a46 : Nat) (a47 : List DV) (a48 : Nat) (a49 : List DV) (v : Bool) (h : F12 a46 a47 a48 a49 = some v) : PureCalls cfz.P cfz.glob 12 [(.d (.sl a46 a47)), (.d (.sl a48 a49))] (out12 v) := tree_pure knil ok12 (s := .c0 a46 a47 a48 a49) rfl (by kernel_rfl) v h
inductive S7 where
  | c0 (a50 : Nat) (a51 : List DV)
def out7 (v : Nat × List DV) : AV := (.d (.sl v.fst v.snd))
noncomputable def st7 : S7 → ASt
  | .c0 a50 a51 => ent cfz 7 [(.d (.sl a50 a51))]
noncomputable def B7 : S7 → Tr S7 (Nat × List DV)
  | .c0 a50 a51 => (.br (a50.beq 0)
  (.ask (.eqN a50 0) (.ret (0, [])))
  (.ask (.ltN 0 a50) (.ask (.eqN a51.length (a50 * 1)) (.ask (.fits a50 8) (.ret (a50, a51))))))
noncomputable def F7 (a50 : Nat) (a51 : List DV) : Option (Nat × List DV) := res B7 (.c0 a50 a51)
noncomputable def D7_0 (a50 : Nat) (a51 : List DV) : DT cfz := (.go 8 [] [] (.br (a50.beq 0) (.go 4 [(.br false)] [] .fin) (.go 4 [(.br true)] [] .fin)))
theorem k7_0 (a50 : Nat) (a51 : List DV) : xrun cfz 7 (D7_0 a50 a51) [] (st7 (.c0 a50 a51)) = (B7 (.c0 a50 a51)).mach st7 out7 := by kernel_rfl
theorem ok7 : ∀ s, ∃ d, xrun cfz 7 d [] (st7 s) = (B7 s).mach st7 out7
  | .c0 a50 a51 => ⟨_, k7_0 a50 a51⟩
theorem f7 (a50 : Nat) (a51 : List DV) (v : Nat × List DV) (h : F7 a50 a51 = some v) : PureCalls cfz.P cfz.glob 7 [(.d (.sl a50 a51))] (out7 v) := tree_pure knil ok7 (s := .c0 a50 a51) rfl (by kernel_rfl) v h
inductive S14 where
  | c0 (a19 : Int) (a20 : Nat) (a21 : List DV) (a22 : Nat) (a23 : List DV)
def out14 (v : Int) : AV := (.d (.v (.int .i64 v)))
noncomputable def st14 : S14 → ASt
  | .c0 a19 a20 a21 a22 a23 => ent cfz 14 [(.agg [(aI a19), (.d (.sl a20 a21)), (.d (.sl a22 a23))])]
noncomputable def B14 : S14 → Tr S14 (Int)
  | .c0 a19 a20 a21 a22 a23 => (.bind (F26 a19 a20 a21 a22 a23) fun v24 =>
  (.sees [(aI a19), (.d (.sl a20 a21)), (.d (.sl a22 a23))] (.ret v24)))
noncomputable def F14 (a19 : Int) (a20 : Nat) (a21 : List DV) (a22 : Nat) (a23 : List DV) : Option (Int) := res B14 (.c0 a19 a20 a21 a22 a23)
noncomputable def D14_0 (a19 : Int) (a20 : Nat) (a21 : List DV) (a22 : Nat) (a23 : List DV) : DT cfz := (.go 13 [] [] (.bind (f26 a19 a20 a21 a22 a23) fun v24 => (.go 4 [(.ck 0)] [] .fin)))
theorem k14_0 (a19 : Int) (a20 : Nat) (a21 : List DV) (a22 : Nat) (a23 : List DV) : xrun cfz 14 (D14_0 a19 a20 a21 a22 a23) [] (st14 (.c0 a19 a20 a21 a22 a23)) = (B14 (.c0 a19 a20 a21 a22 a23)).mach st14 out14 := by kernel_rfl
theorem ok14 : ∀ s, ∃ d, xrun cfz 14 d [] (st14 s) = (B14 s).mach st14 out14
  | .c0 a19 a20 a21 a22 a23 => ⟨_, k14_0 a19 a20 a21 a22 a23⟩
theorem f14 (a19 : Int) (a20 : Nat) (a21 : List DV) (a22 : Nat) (a23 : List DV) (v : Int) (h : F14 a19 a20 a21 a22 a23 = some v) : PureCalls cfz.P cfz.glob 14 [(.agg [(aI a19), (.d (.sl a20 a21)), (.d (.sl a22 a23))])] (out14 v) := tree_pure knil ok14 (s := .c0 a19 a20 a21 a22 a23) rfl (by kernel_rfl) v h
inductive S5 where
  | c0 (a25 : Nat) (a26 : List DV)
def out5 (v : Bool) : AV := (.d (.v (.bool v)))
noncomputable def st5 : S5 → ASt
  | .c0 a25 a26 => ent cfz 5 [(.d (.sl a25 a26))]
noncomputable def B5 : S5 → Tr S5 (Bool)
  | .c0 a25 a26 => (.ret (decide ((↑a25 : Int) ≤ 9)))
noncomputable def F5 (a25 : Nat) (a26 : List DV) : Option (Bool) := res B5 (.c0 a25 a26)
noncomputable def D5_0 (a25 : Nat) (a26 : List DV) : DT cfz := (.go 12 [] [] .fin)
theorem k5_0 (a25 : Nat) (a26 : List DV) : xrun cfz 5 (D5_0 a25 a26) [] (st5 (.c0 a25 a26)) = (B5 (.c0 a25 a26)).mach st5 out5 := by kernel_rfl
theorem ok5 : ∀ s, ∃ d, xrun cfz 5 d [] (st5 s) = (B5 s).mach st5 out5
  | .c0 a25 a26 => ⟨_, k5_0 a25 a26⟩
theorem f5 (a25 : Nat) (a26 : List DV) (v : Bool) (h : F5 a25 a26 = some v) : PureCalls cfz.P cfz.glob 5 [(.d (.sl a25 a26))] (out5 v) := tree_pure knil ok5 (s := .c0 a25 a26) rfl (by kernel_rfl) v h
end Go.Kv
