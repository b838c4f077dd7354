/- Printed: what functions of the program come to, and the kernel's proof of it. -/
import Derived.Test.YtdelimpnnpifpaaGreatDoorGIs
namespace Go.Kv
set_option linter.all false
open Go Go.RowKit Go.Proofs
set_option maxRecDepth 100000
/-! F14 -/
inductive S14 where
  | c0 (a9 : Nat) (a10 : List DV)
def out14 (v : Bool) : AV := (.d (.v (.bool v)))
noncomputable def st14 : S14 → ASt
  | .c0 a9 a10 => ent cfz 14 [(.d (.sl a9 a10))]
noncomputable def B14 : S14 → Tr S14 (Bool)
  | .c0 a9 a10 => (.triv _ (tv_s (decide ((↑a9 : Int) ≤ 40) == false)) (.triv _ (tv_s (decide ((↑a9 : Int) ≤ 40) == false)) (.triv _ (tv_f (decide ((↑a9 : Int) ≤ 40))) (.ret (if decide ((↑a9 : Int) ≤ 40) = true then true else (↑a9 : Int) == 257)))))
noncomputable def F14 (a9 : Nat) (a10 : List DV) : Option (Bool) := res B14 (.c0 a9 a10)
noncomputable def D14_0 (a9 : Nat) (a10 : List DV) : DT cfz := (.go 17 [(.sp .none), (.sp .none), (.sp .none), .mg] [] .fin)
theorem k14_0 (a9 : Nat) (a10 : List DV) : xrun cfz 14 (D14_0 a9 a10) [] (st14 (.c0 a9 a10)) = (B14 (.c0 a9 a10)).mach st14 out14 := by kernel_rfl
theorem ok14 : ∀ s, ∃ d, xrun cfz 14 d [] (st14 s) = (B14 s).mach st14 out14
  | .c0 a9 a10 => ⟨_, k14_0 a9 a10⟩
theorem f14 (a9 : Nat) (a10 : List DV) (v : Bool) (h : F14 a9 a10 = some v) : PureCalls cfz.P cfz.glob 14 [(.d (.sl a9 a10))] (out14 v) := tree_pure knil ok14 (s := .c0 a9 a10) rfl (by kernel_rfl) v h

/-! F83 -/
inductive S83 where
  | c0 (a21 : Bool) (a22 : Int)
def out83 (v : Int) : AV := (.d (.v (.int .i64 v)))
noncomputable def st83 : S83 → ASt
  | .c0 a21 a22 => ent cfz 83 [(.d (.v (.bool a21))), (aI a22)]
noncomputable def B83 : S83 → Tr S83 (Int)
  | .c0 a21 a22 => (.br a21
  (.ret a22)
  (.ret 0))
noncomputable def F83 (a21 : Bool) (a22 : Int) : Option (Int) := res B83 (.c0 a21 a22)
noncomputable def D83_0 (a21 : Bool) (a22 : Int) : DT cfz := (.go 9 [] [] (.split 5 (.go 7 [(.br true)] [0] .fin) (.go 7 [(.br false)] [0] .fin)))
theorem k83_0 (a21 : Bool) (a22 : Int) : xrun cfz 83 (D83_0 a21 a22) [] (st83 (.c0 a21 a22)) = (B83 (.c0 a21 a22)).mach st83 out83 := by kernel_rfl
theorem ok83 : ∀ s, ∃ d, xrun cfz 83 d [] (st83 s) = (B83 s).mach st83 out83
  | .c0 a21 a22 => ⟨_, k83_0 a21 a22⟩
theorem f83 (a21 : Bool) (a22 v : Int) (h : F83 a21 a22 = some v) : PureCalls cfz.P cfz.glob 83 [(.d (.v (.bool a21))), (aI a22)] (out83 v) := tree_pure knil ok83 (s := .c0 a21 a22) rfl (by kernel_rfl) v h

/-! F91 -/
inductive S91 where
  | c0 (a18 a19 a20 : Int)
def out91 (v : Int) : AV := (.d (.v (.int .i64 v)))
noncomputable def st91 : S91 → ASt
  | .c0 a18 a19 a20 => ent cfz 91 [(aI a18), (aI a19), (aI a20)]
noncomputable def B91 : S91 → Tr S91 (Int)
  | .c0 a18 a19 a20 => (.triv _ (tv_s (decide (a18 < a19) == false)) (.triv _ (tv_s (decide (a18 < a19) == false)) (.triv _ (tv_f (decide (a18 < a19))) (.bind (F83 (if decide (a18 < a19) = true then true else decide (a18 > a20)) 3) fun v23 =>
  (.sees [(.d (.v (.bool (if decide (a18 < a19) = true then true else decide (a18 > a20))))), (aI 3)] (.ret v23))))))
noncomputable def F91 (a18 a19 a20 : Int) : Option (Int) := res B91 (.c0 a18 a19 a20)
noncomputable def D91_0 (a18 a19 a20 : Int) : DT cfz := (.go 14 [(.sp .none), (.sp .none), (.sp .none), .mg] [] (.bind (f83 (if decide (a18 < a19) = true then true else decide (a18 > a20)) 3) fun v23 => (.go 4 [(.ck 0)] [] .fin)))
theorem k91_0 (a18 a19 a20 : Int) : xrun cfz 91 (D91_0 a18 a19 a20) [] (st91 (.c0 a18 a19 a20)) = (B91 (.c0 a18 a19 a20)).mach st91 out91 := by kernel_rfl
theorem ok91 : ∀ s, ∃ d, xrun cfz 91 d [] (st91 s) = (B91 s).mach st91 out91
  | .c0 a18 a19 a20 => ⟨_, k91_0 a18 a19 a20⟩
theorem f91 (a18 a19 a20 v : Int) (h : F91 a18 a19 a20 = some v) : PureCalls cfz.P cfz.glob 91 [(aI a18), (aI a19), (aI a20)] (out91 v) := tree_pure knil ok91 (s := .c0 a18 a19 a20) rfl (by kernel_rfl) v h

/-! F82 -/
inductive S82 where
  | c0 (a27 : Nat) (a28 : List DV)
  | c1 (x29 : Nat) (x30 : List DV) (x31 y32 : Int)
def out82 (v : Int) : AV := (.d (.v (.int .i64 v)))
noncomputable def st82 : S82 → ASt
  | .c0 a27 a28 => ent cfz 82 [(.d (.sl a27 a28))]
  | .c1 x29 x30 x31 y32 => ⟨⟨82, sp 15 0 [(5, (.d (.sl x29 x30))), (6, (aI x31)), (7, (aI y32))], [(.code (cd cfz.P 82 [1, 0, 1, 0, 0])), (.inLoop (cd cfz.P 82 [1, 0, 1, 0, 0])), (.inBlock 0), (.code (cd cfz.P 82 [1, 1]))], [], false, .none⟩, [], []⟩
noncomputable def B82 : S82 → Tr S82 (Int)
  | .c0 a27 a28 => (.nxt (.c1 a27 a28 ((↑a27 : Int)) 0))
  | .c1 x29 x30 x31 y32 => (.br (decide (y32 < x31))
  (.ask (.le 0 y32) (.ask (.lt y32 ((↑x29 : Int))) (.ask (.leN (y32.toNat * 1) x30.length) (.ask (.prop (Option.map AV.d (List.drop (y32.toNat * 1) x30)[0]? = some (AV.d (DV.v (Value.int IntKind.i64 (dI (cel x30 (y32.toNat * 1)))))))) (.br (dI (cel x30 (y32.toNat * 1)) != 0)
  (.ret (dI (cel x30 (y32.toNat * 1))))
  (.ask (.in64 (y32 + 1)) (.nxt (.c1 x29 x30 x31 (y32 + 1)))))))))
  (.ret 0))
noncomputable def F82 (a27 : Nat) (a28 : List DV) : Option (Int) := res B82 (.c0 a27 a28)
noncomputable def D82_0 (a27 : Nat) (a28 : List DV) : DT cfz := (.go 13 [] [] (.cut 0 [[5, 6, 7]] []))
theorem k82_0 (a27 : Nat) (a28 : List DV) : xrun cfz 82 (D82_0 a27 a28) [] (st82 (.c0 a27 a28)) = (B82 (.c0 a27 a28)).mach st82 out82 := by kernel_rfl
noncomputable def D82_1 (x29 : Nat) (x30 : List DV) (x31 y32 : Int) : DT cfz := (.go 5 [] [] (.split 8 (.go 15 [(.br true), (.as (aI (dI (cel x30 (y32.toNat * 1)))))] [0] (.split 12 (.go 7 [(.br true)] [0] .fin) (.go 8 [(.br false)] [0] (.cut 0 [[5, 6, 7]] [])))) (.go 7 [(.br false)] [0] .fin)))
theorem k82_1 (x29 : Nat) (x30 : List DV) (x31 y32 : Int) : xrun cfz 82 (D82_1 x29 x30 x31 y32) [] (st82 (.c1 x29 x30 x31 y32)) = (B82 (.c1 x29 x30 x31 y32)).mach st82 out82 := by kernel_rfl
theorem ok82 : ∀ s, ∃ d, xrun cfz 82 d [] (st82 s) = (B82 s).mach st82 out82
  | .c0 a27 a28 => ⟨_, k82_0 a27 a28⟩
  | .c1 x29 x30 x31 y32 => ⟨_, k82_1 x29 x30 x31 y32⟩
theorem f82 (a27 : Nat) (a28 : List DV) (v : Int) (h : F82 a27 a28 = some v) : PureCalls cfz.P cfz.glob 82 [(.d (.sl a27 a28))] (out82 v) := tree_pure knil ok82 (s := .c0 a27 a28) rfl (by kernel_rfl) v h

/-! F27 -/
inductive S27 where
  | c0 (a44 a45 : Int)
def out27 (v : Int) : AV := (.d (.v (.int .i64 v)))
noncomputable def st27 : S27 → ASt
  | .c0 a44 a45 => ent cfz 27 [(.agg [(aI a44), (aI a45)])]
noncomputable def B27 : S27 → Tr S27 (Int)
  | .c0 a44 a45 => (.bind (F91 a44 2 16) fun v46 =>
  (.bind (F91 a45 1 8) fun v47 =>
  (.bind (F83 (decide (a45 ≥ a44)) 11) fun v48 =>
  (.bind (F82 3 [(.v (.int .i64 v46)), (.v (.int .i64 v47)), (.v (.int .i64 v48))]) fun v49 =>
  (.sees [(aI a44), (aI 2), (aI 16)] (.sees [(aI a45), (aI 1), (aI 8)] (.sees [(.d (.v (.bool (decide (a45 ≥ a44))))), (aI 11)] (.sees [(.d (.sl 3 [(vI v46), (vI v47), (vI v48)]))] (.ret v49)))))))))
noncomputable def F27 (a44 a45 : Int) : Option (Int) := res B27 (.c0 a44 a45)
noncomputable def D27_0 (a44 a45 : Int) : DT cfz := (.go 7 [] [] (.bind (f91 a44 2 16) fun v46 => (.bind (f91 a45 1 8) fun v47 => (.bind (f83 (decide (a45 ≥ a44)) 11) fun v48 => (.bind (f82 3 [(vI v46), (vI v47), (vI v48)]) fun v49 => (.go 2 [(.ck 0), (.ck 1), (.ck 2), (.ck 3)] [] .fin))))))
theorem k27_0 (a44 a45 : Int) : xrun cfz 27 (D27_0 a44 a45) [] (st27 (.c0 a44 a45)) = (B27 (.c0 a44 a45)).mach st27 out27 := by kernel_rfl
theorem ok27 : ∀ s, ∃ d, xrun cfz 27 d [] (st27 s) = (B27 s).mach st27 out27
  | .c0 a44 a45 => ⟨_, k27_0 a44 a45⟩
theorem f27 (a44 a45 v : Int) (h : F27 a44 a45 = some v) : PureCalls cfz.P cfz.glob 27 [(.agg [(aI a44), (aI a45)])] (out27 v) := tree_pure knil ok27 (s := .c0 a44 a45) rfl (by kernel_rfl) v h

/-! F17 -/
inductive S17 where
  | c0 (a57 : Nat) (a58 : List DV)
def out17 (v : Nat × List DV) : AV := (.d (.sl v.fst v.snd))
noncomputable def st17 : S17 → ASt
  | .c0 a57 a58 => ent cfz 17 [(.d (.sl a57 a58))]
noncomputable def B17 : S17 → Tr S17 (Nat × List DV)
  | .c0 a57 a58 => (.br (a57.beq 0)
  (.ask (.eqN a57 0) (.ret (0, [])))
  (.ask (.ltN 0 a57) (.ask (.eqN a58.length (a57 * 1)) (.ask (.fits a57 8) (.ret (a57, a58))))))
noncomputable def F17 (a57 : Nat) (a58 : List DV) : Option (Nat × List DV) := res B17 (.c0 a57 a58)
noncomputable def D17_0 (a57 : Nat) (a58 : List DV) : DT cfz := (.go 8 [] [] (.br (a57.beq 0) (.go 4 [(.br false)] [] .fin) (.go 4 [(.br true)] [] .fin)))
theorem k17_0 (a57 : Nat) (a58 : List DV) : xrun cfz 17 (D17_0 a57 a58) [] (st17 (.c0 a57 a58)) = (B17 (.c0 a57 a58)).mach st17 out17 := by kernel_rfl
theorem ok17 : ∀ s, ∃ d, xrun cfz 17 d [] (st17 s) = (B17 s).mach st17 out17
  | .c0 a57 a58 => ⟨_, k17_0 a57 a58⟩
theorem f17 (a57 : Nat) (a58 : List DV) (v : Nat × List DV) (h : F17 a57 a58 = some v) : PureCalls cfz.P cfz.glob 17 [(.d (.sl a57 a58))] (out17 v) := tree_pure knil ok17 (s := .c0 a57 a58) rfl (by kernel_rfl) v h

/-! F127 -/
inductive S127 where
  | c0 (a76 : Int)
def out127 (v : Int) : AV := (.d (.v (.int .i64 v)))
noncomputable def st127 : S127 → ASt
  | .c0 a76 => ent cfz 127 [(aI a76)]
noncomputable def B127 : S127 → Tr S127 (Int)
  | .c0 a76 => (.bind (F91 a76 0 16) fun v77 =>
  (.sees [(aI a76), (aI 0), (aI 16)] (.ret v77)))
noncomputable def F127 (a76 : Int) : Option (Int) := res B127 (.c0 a76)
noncomputable def D127_0 (a76 : Int) : DT cfz := (.go 7 [] [] (.bind (f91 a76 0 16) fun v77 => (.go 4 [(.ck 0)] [] .fin)))
theorem k127_0 (a76 : Int) : xrun cfz 127 (D127_0 a76) [] (st127 (.c0 a76)) = (B127 (.c0 a76)).mach st127 out127 := by kernel_rfl
theorem ok127 : ∀ s, ∃ d, xrun cfz 127 d [] (st127 s) = (B127 s).mach st127 out127
  | .c0 a76 => ⟨_, k127_0 a76⟩
theorem f127 (a76 v : Int) (h : F127 a76 = some v) : PureCalls cfz.P cfz.glob 127 [(aI a76)] (out127 v) := tree_pure knil ok127 (s := .c0 a76) rfl (by kernel_rfl) v h

/-! F126 -/
inductive S126 where
  | c0 (a70 : Nat) (a71 : List DV)
  | c1 (x72 : Nat) (x73 : List DV) (x74 y75 : Int)
  | c2 (y79 y80 : Nat) (y81 : List DV) (x82 : Nat) (x83 : List DV) (x84 y85 : Int) (y87 : Nat)
def out126 (v : Nat × List DV) : AV := (.d (.sl v.fst v.snd))
noncomputable def st126 : S126 → ASt
  | .c0 a70 a71 => ent cfz 126 [(.d (.sl a70 a71)), (.d (.v (.func (.func 127) (#[]) (#[]))))]
  | .c1 x72 x73 x74 y75 => ⟨⟨126, sp 22 0 [(1, (.d (.v (.func (.func 127) (#[]) (#[]))))), (5, (.d (.v (.slice .none 0 0)))), (8, (.d (.sl x72 x73))), (9, (aI x74)), (10, (aI y75))], [(.code (cd cfz.P 126 [1, 1, 0, 1, 0, 0])), (.inLoop (cd cfz.P 126 [1, 1, 0, 1, 0, 0])), (.inBlock 0), (.code (cd cfz.P 126 [1, 1, 1]))], [], false, .none⟩, [], []⟩
  | .c2 y79 y80 y81 x82 x83 x84 y85 y87 => ⟨⟨126, sp 22 0 [(1, (.d (.v (.func (.func 127) (#[]) (#[]))))), (5, (.own 1 y79 1 y80 y81)), (8, (.d (.sl x82 x83))), (9, (aI x84)), (10, (aI y85))], [(.code (cd cfz.P 126 [1, 1, 0, 1, 0, 0])), (.inLoop (cd cfz.P 126 [1, 1, 0, 1, 0, 0])), (.inBlock 0), (.code (cd cfz.P 126 [1, 1, 1]))], [], false, .none⟩, [], [(.tail 0), (.tail y87)]⟩
noncomputable def B126 : S126 → Tr S126 (Nat × List DV)
  | .c0 a70 a71 => (.nxt (.c1 a70 a71 ((↑a70 : Int)) 0))
  | .c1 x72 x73 x74 y75 => (.br (decide (y75 < x74))
  (.ask (.le 0 y75) (.ask (.lt y75 ((↑x72 : Int))) (.ask (.leN (y75.toNat * 1) x73.length) (.ask (.prop (Option.map AV.d (List.drop (y75.toNat * 1) x73)[0]? = some (AV.d (DV.v (Value.int IntKind.i64 (dI (cel x73 (y75.toNat * 1)))))))) (.bind (F127 (dI (cel x73 (y75.toNat * 1)))) fun v78 =>
  (.sees [(aI (dI (cel x73 (y75.toNat * 1))))] (.ask (.in64 (y75 + 1)) (.nxt (.c2 0 1 [(.v (.int .i64 v78))] x72 x73 x74 (y75 + 1) 0)))))))))
  (.ret (0, [])))
  | .c2 y79 y80 y81 x82 x83 x84 y85 y87 => (.br (decide (y85 < x84))
  (.ask (.le 0 y85) (.ask (.lt y85 ((↑x82 : Int))) (.ask (.leN (y85.toNat * 1) x83.length) (.ask (.prop (Option.map AV.d (List.drop (y85.toNat * 1) x83)[0]? = some (AV.d (DV.v (Value.int IntKind.i64 (dI (cel x83 (y85.toNat * 1)))))))) (.bind (F127 (dI (cel x83 (y85.toNat * 1)))) fun v88 =>
  (.sees [(aI (dI (cel x83 (y85.toNat * 1))))] (.ask (.eqN y79 y87) (.ask (.fits (y80 + 1) 8) (.ask (.in64 (y85 + 1)) (.nxt (.c2 (y87 + 1) (y80 + 1) (y81 ++ [DV.v (Value.int IntKind.i64 v88)]) x82 x83 x84 (y85 + 1) (y87 + 1))))))))))))
  (.ret (y80, y81)))
noncomputable def F126 (a70 : Nat) (a71 : List DV) : Option (Nat × List DV) := res B126 (.c0 a70 a71)
noncomputable def D126_0 (a70 : Nat) (a71 : List DV) : DT cfz := (.go 17 [] [] (.cut 0 [[1, 5, 8, 9, 10]] []))
theorem k126_0 (a70 : Nat) (a71 : List DV) : xrun cfz 126 (D126_0 a70 a71) [] (st126 (.c0 a70 a71)) = (B126 (.c0 a70 a71)).mach st126 out126 := by kernel_rfl
noncomputable def D126_1 (x72 : Nat) (x73 : List DV) (x74 y75 : Int) : DT cfz := (.go 5 [] [] (.split 11 (.go 14 [(.br true), (.as (aI (dI (cel x73 (y75.toNat * 1)))))] [0] (.bind (f127 (dI (cel x73 (y75.toNat * 1)))) fun v78 => (.go 11 [(.ck 0)] [1, 2, 3] (.cut 2 [[1, 5, 8, 9, 10]] [])))) (.go 8 [(.br false)] [0] .fin)))
theorem k126_1 (x72 : Nat) (x73 : List DV) (x74 y75 : Int) : xrun cfz 126 (D126_1 x72 x73 x74 y75) [] (st126 (.c1 x72 x73 x74 y75)) = (B126 (.c1 x72 x73 x74 y75)).mach st126 out126 := by kernel_rfl
noncomputable def D126_2 (y79 y80 : Nat) (y81 : List DV) (x82 : Nat) (x83 : List DV) (x84 y85 : Int) (y87 : Nat) : DT cfz := (.go 5 [] [] (.split 11 (.go 14 [(.br true), (.as (aI (dI (cel x83 (y85.toNat * 1)))))] [0] (.bind (f127 (dI (cel x83 (y85.toNat * 1)))) fun v88 => (.go 11 [(.ck 0)] [2, 3] (.cut 2 [[1, 5, 8, 9, 10]] [])))) (.go 8 [(.br false)] [0] .fin)))
theorem k126_2 (y79 y80 : Nat) (y81 : List DV) (x82 : Nat) (x83 : List DV) (x84 y85 : Int) (y87 : Nat) : xrun cfz 126 (D126_2 y79 y80 y81 x82 x83 x84 y85 y87) [] (st126 (.c2 y79 y80 y81 x82 x83 x84 y85 y87)) = (B126 (.c2 y79 y80 y81 x82 x83 x84 y85 y87)).mach st126 out126 := by kernel_rfl
theorem ok126 : ∀ s, ∃ d, xrun cfz 126 d [] (st126 s) = (B126 s).mach st126 out126
  | .c0 a70 a71 => ⟨_, k126_0 a70 a71⟩
  | .c1 x72 x73 x74 y75 => ⟨_, k126_1 x72 x73 x74 y75⟩
  | .c2 y79 y80 y81 x82 x83 x84 y85 y87 => ⟨_, k126_2 y79 y80 y81 x82 x83 x84 y85 y87⟩
theorem f126 (a70 : Nat) (a71 : List DV) (v : Nat × List DV) (h : F126 a70 a71 = some v) : PureCalls cfz.P cfz.glob 126 [(.d (.sl a70 a71)), (.d (.v (.func (.func 127) (#[]) (#[]))))] (out126 v) := tree_pure knil ok126 (s := .c0 a70 a71) rfl (by kernel_rfl) v h

/-! F84 -/
inductive S84 where
  | c0 (a68 : Nat) (a69 : List DV)
def out84 (v : Int) : AV := (.d (.v (.int .i64 v)))
noncomputable def st84 : S84 → ASt
  | .c0 a68 a69 => ent cfz 84 [(.d (.sl a68 a69))]
noncomputable def B84 : S84 → Tr S84 (Int)
  | .c0 a68 a69 => (.bind (F126 a68 a69) fun v89 =>
  (.sees [(.d (.sl a68 a69)), (.d (.v (.func (.func 127) (#[]) (#[]))))] (.bind (F82 v89.fst v89.snd) fun v90 =>
  (.sees [(.d (.sl v89.fst v89.snd))] (.ret v90)))))
noncomputable def F84 (a68 : Nat) (a69 : List DV) : Option (Int) := res B84 (.c0 a68 a69)
noncomputable def D84_0 (a68 : Nat) (a69 : List DV) : DT cfz := (.go 7 [] [] (.bind (f126 a68 a69) fun v89 => (.go 1 [(.ck 0)] [] (.bind (f82 v89.fst v89.snd) fun v90 => (.go 4 [(.ck 1)] [] .fin)))))
theorem k84_0 (a68 : Nat) (a69 : List DV) : xrun cfz 84 (D84_0 a68 a69) [] (st84 (.c0 a68 a69)) = (B84 (.c0 a68 a69)).mach st84 out84 := by kernel_rfl
theorem ok84 : ∀ s, ∃ d, xrun cfz 84 d [] (st84 s) = (B84 s).mach st84 out84
  | .c0 a68 a69 => ⟨_, k84_0 a68 a69⟩
theorem f84 (a68 : Nat) (a69 : List DV) (v : Int) (h : F84 a68 a69 = some v) : PureCalls cfz.P cfz.glob 84 [(.d (.sl a68 a69))] (out84 v) := tree_pure knil ok84 (s := .c0 a68 a69) rfl (by kernel_rfl) v h

/-! F105 -/
inductive S105 where
  | c0 (a65 : Nat) (a66 : List DV)
def out105 (v : Int) : AV := (.d (.v (.int .i64 v)))
noncomputable def st105 : S105 → ASt
  | .c0 a65 a66 => ent cfz 105 [(.d (.sl a65 a66))]
noncomputable def B105 : S105 → Tr S105 (Int)
  | .c0 a65 a66 => (.bind (F83 (decide ((↑a65 : Int) > 256)) 5) fun v67 =>
  (.sees [(.d (.v (.bool (decide ((↑a65 : Int) > 256))))), (aI 5)] (.bind (F84 a65 a66) fun v91 =>
  (.sees [(.d (.sl a65 a66))] (.bind (F82 2 [(.v (.int .i64 v67)), (.v (.int .i64 v91))]) fun v92 =>
  (.sees [(.d (.sl 2 [(vI v67), (vI v91)]))] (.ret v92)))))))
noncomputable def F105 (a65 : Nat) (a66 : List DV) : Option (Int) := res B105 (.c0 a65 a66)
noncomputable def D105_0 (a65 : Nat) (a66 : List DV) : DT cfz := (.go 9 [] [] (.bind (f83 (decide ((↑a65 : Int) > 256)) 5) fun v67 => (.go 2 [(.ck 0)] [] (.bind (f84 a65 a66) fun v91 => (.go 2 [(.ck 1)] [] (.bind (f82 2 [(vI v67), (vI v91)]) fun v92 => (.go 4 [(.ck 2)] [] .fin)))))))
theorem k105_0 (a65 : Nat) (a66 : List DV) : xrun cfz 105 (D105_0 a65 a66) [] (st105 (.c0 a65 a66)) = (B105 (.c0 a65 a66)).mach st105 out105 := by kernel_rfl
theorem ok105 : ∀ s, ∃ d, xrun cfz 105 d [] (st105 s) = (B105 s).mach st105 out105
  | .c0 a65 a66 => ⟨_, k105_0 a65 a66⟩
theorem f105 (a65 : Nat) (a66 : List DV) (v : Int) (h : F105 a65 a66 = some v) : PureCalls cfz.P cfz.glob 105 [(.d (.sl a65 a66))] (out105 v) := tree_pure knil ok105 (s := .c0 a65 a66) rfl (by kernel_rfl) v h

/-! F25 -/
inductive S25 where
  | c0 (a122 : Bool) (a123 : Int)
def out25 (v : Int) : AV := (.d (.v (.int .i64 v)))
noncomputable def st25 : S25 → ASt
  | .c0 a122 a123 => ent cfz 25 [(.d (.v (.bool a122))), (aI a123)]
noncomputable def B25 : S25 → Tr S25 (Int)
  | .c0 a122 a123 => (.br a122
  (.ret a123)
  (.ret 0))
noncomputable def F25 (a122 : Bool) (a123 : Int) : Option (Int) := res B25 (.c0 a122 a123)
noncomputable def D25_0 (a122 : Bool) (a123 : Int) : DT cfz := (.go 9 [] [] (.split 5 (.go 7 [(.br true)] [0] .fin) (.go 7 [(.br false)] [0] .fin)))
theorem k25_0 (a122 : Bool) (a123 : Int) : xrun cfz 25 (D25_0 a122 a123) [] (st25 (.c0 a122 a123)) = (B25 (.c0 a122 a123)).mach st25 out25 := by kernel_rfl
theorem ok25 : ∀ s, ∃ d, xrun cfz 25 d [] (st25 s) = (B25 s).mach st25 out25
  | .c0 a122 a123 => ⟨_, k25_0 a122 a123⟩
theorem f25 (a122 : Bool) (a123 v : Int) (h : F25 a122 a123 = some v) : PureCalls cfz.P cfz.glob 25 [(.d (.v (.bool a122))), (aI a123)] (out25 v) := tree_pure knil ok25 (s := .c0 a122 a123) rfl (by kernel_rfl) v h

/-! F54 -/
inductive S54 where
  | c0 (a119 a120 a121 : Int)
def out54 (v : Int) : AV := (.d (.v (.int .i64 v)))
noncomputable def st54 : S54 → ASt
  | .c0 a119 a120 a121 => ent cfz 54 [(aI a119), (aI a120), (aI a121)]
noncomputable def B54 : S54 → Tr S54 (Int)
  | .c0 a119 a120 a121 => (.triv _ (tv_s (decide (a119 < a120) == false)) (.triv _ (tv_s (decide (a119 < a120) == false)) (.triv _ (tv_f (decide (a119 < a120))) (.bind (F25 (if decide (a119 < a120) = true then true else decide (a119 > a121)) 3) fun v124 =>
  (.sees [(.d (.v (.bool (if decide (a119 < a120) = true then true else decide (a119 > a121))))), (aI 3)] (.ret v124))))))
noncomputable def F54 (a119 a120 a121 : Int) : Option (Int) := res B54 (.c0 a119 a120 a121)
noncomputable def D54_0 (a119 a120 a121 : Int) : DT cfz := (.go 14 [(.sp .none), (.sp .none), (.sp .none), .mg] [] (.bind (f25 (if decide (a119 < a120) = true then true else decide (a119 > a121)) 3) fun v124 => (.go 4 [(.ck 0)] [] .fin)))
theorem k54_0 (a119 a120 a121 : Int) : xrun cfz 54 (D54_0 a119 a120 a121) [] (st54 (.c0 a119 a120 a121)) = (B54 (.c0 a119 a120 a121)).mach st54 out54 := by kernel_rfl
theorem ok54 : ∀ s, ∃ d, xrun cfz 54 d [] (st54 s) = (B54 s).mach st54 out54
  | .c0 a119 a120 a121 => ⟨_, k54_0 a119 a120 a121⟩
theorem f54 (a119 a120 a121 v : Int) (h : F54 a119 a120 a121 = some v) : PureCalls cfz.P cfz.glob 54 [(aI a119), (aI a120), (aI a121)] (out54 v) := tree_pure knil ok54 (s := .c0 a119 a120 a121) rfl (by kernel_rfl) v h

/-! F55 -/
inductive S55 where
  | c0 (a127 : Int)
def out55 (v : Int) : AV := (.d (.v (.int .i64 v)))
noncomputable def st55 : S55 → ASt
  | .c0 a127 => ent cfz 55 [(aI a127)]
noncomputable def B55 : S55 → Tr S55 (Int)
  | .c0 a127 => (.bind (F54 a127 0 256) fun v128 =>
  (.sees [(aI a127), (aI 0), (aI 256)] (.ret v128)))
noncomputable def F55 (a127 : Int) : Option (Int) := res B55 (.c0 a127)
noncomputable def D55_0 (a127 : Int) : DT cfz := (.go 7 [] [] (.bind (f54 a127 0 256) fun v128 => (.go 4 [(.ck 0)] [] .fin)))
theorem k55_0 (a127 : Int) : xrun cfz 55 (D55_0 a127) [] (st55 (.c0 a127)) = (B55 (.c0 a127)).mach st55 out55 := by kernel_rfl
theorem ok55 : ∀ s, ∃ d, xrun cfz 55 d [] (st55 s) = (B55 s).mach st55 out55
  | .c0 a127 => ⟨_, k55_0 a127⟩
theorem f55 (a127 v : Int) (h : F55 a127 = some v) : PureCalls cfz.P cfz.glob 55 [(aI a127)] (out55 v) := tree_pure knil ok55 (s := .c0 a127) rfl (by kernel_rfl) v h

/-! F87 -/
inductive S87 where
  | c0 (a132 : Nat) (a133 : List DV)
  | c1 (x134 : Nat) (x135 : List DV) (y136 : Int)
def out87 (v : Int) : AV := (.d (.v (.int .i64 v)))
noncomputable def st87 : S87 → ASt
  | .c0 a132 a133 => ent cfz 87 [(.d (.sl a132 a133))]
  | .c1 x134 x135 y136 => ⟨⟨87, sp 19 0 [(0, (.d (.sl x134 x135))), (3, (aI y136))], [(.code (cd cfz.P 87 [1, 0, 1, 0, 0])), (.inLoop (cd cfz.P 87 [1, 0, 1, 0, 0])), (.inBlock 0), (.code (cd cfz.P 87 [1, 1]))], [], false, .none⟩, [], []⟩
noncomputable def B87 : S87 → Tr S87 (Int)
  | .c0 a132 a133 => (.nxt (.c1 a132 a133 0))
  | .c1 x134 x135 y136 => (.br (decide (y136 < (↑x134 : Int)))
  (.ask (.le 0 y136) (.ask (.lt y136 ((↑x134 : Int))) (.ask (.leN (y136.toNat * 1) x135.length) (.ask (.prop (Option.map AV.d (List.drop (y136.toNat * 1) x135)[0]? = some (AV.d (DV.v (Value.int IntKind.i64 (dI (cel x135 (y136.toNat * 1)))))))) (.br (dI (cel x135 (y136.toNat * 1)) != 0)
  (.ask (.le 0 y136) (.ask (.lt y136 ((↑x134 : Int))) (.ask (.leN (y136.toNat * 1) x135.length) (.ask (.prop (Option.map AV.d (List.drop (y136.toNat * 1) x135)[0]? = some (AV.d (DV.v (Value.int IntKind.i64 (dI (cel x135 (y136.toNat * 1)))))))) (.ret (dI (cel x135 (y136.toNat * 1))))))))
  (.ask (.in64 (y136 + 1)) (.nxt (.c1 x134 x135 (y136 + 1)))))))))
  (.ret 0))
noncomputable def F87 (a132 : Nat) (a133 : List DV) : Option (Int) := res B87 (.c0 a132 a133)
noncomputable def D87_0 (a132 : Nat) (a133 : List DV) : DT cfz := (.go 11 [] [] (.cut 0 [[0, 3]] []))
theorem k87_0 (a132 : Nat) (a133 : List DV) : xrun cfz 87 (D87_0 a132 a133) [] (st87 (.c0 a132 a133)) = (B87 (.c0 a132 a133)).mach st87 out87 := by kernel_rfl
noncomputable def D87_1 (x134 : Nat) (x135 : List DV) (y136 : Int) : DT cfz := (.go 8 [] [] (.split 7 (.go 12 [(.br true), (.as (aI (dI (cel x135 (y136.toNat * 1)))))] [0] (.split 14 (.go 10 [(.br true), (.as (aI (dI (cel x135 (y136.toNat * 1)))))] [0] .fin) (.go 9 [(.br false)] [0] (.cut 0 [[0, 3]] [])))) (.go 7 [(.br false)] [0] .fin)))
theorem k87_1 (x134 : Nat) (x135 : List DV) (y136 : Int) : xrun cfz 87 (D87_1 x134 x135 y136) [] (st87 (.c1 x134 x135 y136)) = (B87 (.c1 x134 x135 y136)).mach st87 out87 := by kernel_rfl
theorem ok87 : ∀ s, ∃ d, xrun cfz 87 d [] (st87 s) = (B87 s).mach st87 out87
  | .c0 a132 a133 => ⟨_, k87_0 a132 a133⟩
  | .c1 x134 x135 y136 => ⟨_, k87_1 x134 x135 y136⟩
theorem f87 (a132 : Nat) (a133 : List DV) (v : Int) (h : F87 a132 a133 = some v) : PureCalls cfz.P cfz.glob 87 [(.d (.sl a132 a133))] (out87 v) := tree_pure knil ok87 (s := .c0 a132 a133) rfl (by kernel_rfl) v h

/-! F39 -/
inductive S39 where
  | c0 (a130 : Nat) (a131 : List DV)
def out39 (v : Int) : AV := (.d (.v (.int .i64 v)))
noncomputable def st39 : S39 → ASt
  | .c0 a130 a131 => ent cfz 39 [(.d (.sl a130 a131))]
noncomputable def B39 : S39 → Tr S39 (Int)
  | .c0 a130 a131 => (.bind (F87 a130 a131) fun v137 =>
  (.sees [(.d (.sl a130 a131))] (.ret v137)))
noncomputable def F39 (a130 : Nat) (a131 : List DV) : Option (Int) := res B39 (.c0 a130 a131)
noncomputable def D39_0 (a130 : Nat) (a131 : List DV) : DT cfz := (.go 7 [] [] (.bind (f87 a130 a131) fun v137 => (.go 4 [(.ck 0)] [] .fin)))
theorem k39_0 (a130 : Nat) (a131 : List DV) : xrun cfz 39 (D39_0 a130 a131) [] (st39 (.c0 a130 a131)) = (B39 (.c0 a130 a131)).mach st39 out39 := by kernel_rfl
theorem ok39 : ∀ s, ∃ d, xrun cfz 39 d [] (st39 s) = (B39 s).mach st39 out39
  | .c0 a130 a131 => ⟨_, k39_0 a130 a131⟩
theorem f39 (a130 : Nat) (a131 : List DV) (v : Int) (h : F39 a130 a131 = some v) : PureCalls cfz.P cfz.glob 39 [(.d (.sl a130 a131))] (out39 v) := tree_pure knil ok39 (s := .c0 a130 a131) rfl (by kernel_rfl) v h

/-! F28 -/
inductive S28 where
  | c0 (a139 a140 : Int)
def out28 (v : Int) : AV := (.d (.v (.int .i64 v)))
noncomputable def st28 : S28 → ASt
  | .c0 a139 a140 => ent cfz 28 [(.agg [(aI a139), (aI a140)])]
noncomputable def B28 : S28 → Tr S28 (Int)
  | .c0 a139 a140 => (.bind (F54 a139 2 16) fun v141 =>
  (.bind (F54 a140 1 8) fun v142 =>
  (.bind (F25 (decide (a140 ≥ a139)) 11) fun v143 =>
  (.bind (F87 3 [(.v (.int .i64 v141)), (.v (.int .i64 v142)), (.v (.int .i64 v143))]) fun v144 =>
  (.sees [(aI a139), (aI 2), (aI 16)] (.sees [(aI a140), (aI 1), (aI 8)] (.sees [(.d (.v (.bool (decide (a140 ≥ a139))))), (aI 11)] (.sees [(.d (.sl 3 [(vI v141), (vI v142), (vI v143)]))] (.ret v144)))))))))
noncomputable def F28 (a139 a140 : Int) : Option (Int) := res B28 (.c0 a139 a140)
noncomputable def D28_0 (a139 a140 : Int) : DT cfz := (.go 7 [] [] (.bind (f54 a139 2 16) fun v141 => (.bind (f54 a140 1 8) fun v142 => (.bind (f25 (decide (a140 ≥ a139)) 11) fun v143 => (.bind (f87 3 [(vI v141), (vI v142), (vI v143)]) fun v144 => (.go 2 [(.ck 0), (.ck 1), (.ck 2), (.ck 3)] [] .fin))))))
theorem k28_0 (a139 a140 : Int) : xrun cfz 28 (D28_0 a139 a140) [] (st28 (.c0 a139 a140)) = (B28 (.c0 a139 a140)).mach st28 out28 := by kernel_rfl
theorem ok28 : ∀ s, ∃ d, xrun cfz 28 d [] (st28 s) = (B28 s).mach st28 out28
  | .c0 a139 a140 => ⟨_, k28_0 a139 a140⟩
theorem f28 (a139 a140 v : Int) (h : F28 a139 a140 = some v) : PureCalls cfz.P cfz.glob 28 [(.agg [(aI a139), (aI a140)])] (out28 v) := tree_pure knil ok28 (s := .c0 a139 a140) rfl (by kernel_rfl) v h

/-! F78 -/
inductive S78 where
  | c0 (a150 : Nat) (a151 : List DV)
  | c1 (x152 : Nat) (x153 : List DV) (y154 : Int)
def out78 (v : Int) : AV := (.d (.v (.int .i64 v)))
noncomputable def st78 : S78 → ASt
  | .c0 a150 a151 => ent cfz 78 [(.d (.sl a150 a151))]
  | .c1 x152 x153 y154 => ⟨⟨78, sp 22 0 [(0, (.d (.sl x152 x153))), (3, (aI y154))], [(.code (cd cfz.P 78 [1, 0, 1, 0, 0])), (.inLoop (cd cfz.P 78 [1, 0, 1, 0, 0])), (.inBlock 0), (.code (cd cfz.P 78 [1, 1]))], [], false, .none⟩, [], []⟩
noncomputable def B78 : S78 → Tr S78 (Int)
  | .c0 a150 a151 => (.nxt (.c1 a150 a151 0))
  | .c1 x152 x153 y154 => (.br (decide (y154 < (↑x152 : Int)))
  (.ask (.le 0 y154) (.ask (.lt y154 ((↑x152 : Int))) (.ask (.leN (y154.toNat * 1) x153.length) (.ask (.prop (Option.map AV.d (List.drop (y154.toNat * 1) x153)[0]? = some (AV.d (DV.v (Value.int IntKind.i64 (dI (cel x153 (y154.toNat * 1)))))))) (.br (decide (dI (cel x153 (y154.toNat * 1)) < 0))
  (.ret 3)
  (.ask (.eqB (decide (dI (cel x153 (y154.toNat * 1)) < 0) == false) true) (.ask (.eqB (decide (dI (cel x153 (y154.toNat * 1)) < 0) == false) true) (.ask (.le 0 y154) (.ask (.lt y154 ((↑x152 : Int))) (.ask (.leN (y154.toNat * 1) x153.length) (.ask (.prop (Option.map AV.d (List.drop (y154.toNat * 1) x153)[0]? = some (AV.d (DV.v (Value.int IntKind.i64 (dI (cel x153 (y154.toNat * 1)))))))) (.br (decide (dI (cel x153 (y154.toNat * 1)) ≥ 17))
  (.ret 3)
  (.ask (.in64 (y154 + 1)) (.nxt (.c1 x152 x153 (y154 + 1))))))))))))))))
  (.ret 0))
noncomputable def F78 (a150 : Nat) (a151 : List DV) : Option (Int) := res B78 (.c0 a150 a151)
noncomputable def D78_0 (a150 : Nat) (a151 : List DV) : DT cfz := (.go 11 [] [] (.cut 0 [[0, 3]] []))
theorem k78_0 (a150 : Nat) (a151 : List DV) : xrun cfz 78 (D78_0 a150 a151) [] (st78 (.c0 a150 a151)) = (B78 (.c0 a150 a151)).mach st78 out78 := by kernel_rfl
noncomputable def D78_1 (x152 : Nat) (x153 : List DV) (y154 : Int) : DT cfz := (.go 8 [] [] (.split 7 (.go 14 [(.br true), (.as (aI (dI (cel x153 (y154.toNat * 1))))), (.sp .none), (.sp .none)] [0] (.split 15 (.go 11 [(.br true), (.br true), (.br true), .none, (.br true)] [0, 1, 2, 3] .fin) (.strip 16 (.strip 17 (.go 5 [(.br false), (.br false), (.as (aI (dI (cel x153 (y154.toNat * 1))))), (.br false)] [3, 5, 6] (.split 21 (.go 6 [(.br true)] [0] .fin) (.go 9 [(.br false)] [0] (.cut 0 [[0, 3]] [])))))))) (.go 7 [(.br false)] [0] .fin)))
theorem k78_1 (x152 : Nat) (x153 : List DV) (y154 : Int) : xrun cfz 78 (D78_1 x152 x153 y154) [] (st78 (.c1 x152 x153 y154)) = (B78 (.c1 x152 x153 y154)).mach st78 out78 := by kernel_rfl
theorem ok78 : ∀ s, ∃ d, xrun cfz 78 d [] (st78 s) = (B78 s).mach st78 out78
  | .c0 a150 a151 => ⟨_, k78_0 a150 a151⟩
  | .c1 x152 x153 y154 => ⟨_, k78_1 x152 x153 y154⟩
theorem f78 (a150 : Nat) (a151 : List DV) (v : Int) (h : F78 a150 a151 = some v) : PureCalls cfz.P cfz.glob 78 [(.d (.sl a150 a151))] (out78 v) := tree_pure knil ok78 (s := .c0 a150 a151) rfl (by kernel_rfl) v h

/-! F56 -/
inductive S56 where
  | c0 (a147 : Nat) (a148 : List DV)
def out56 (v : Int) : AV := (.d (.v (.int .i64 v)))
noncomputable def st56 : S56 → ASt
  | .c0 a147 a148 => ent cfz 56 [(.d (.sl a147 a148))]
noncomputable def B56 : S56 → Tr S56 (Int)
  | .c0 a147 a148 => (.bind (F25 (decide ((↑a147 : Int) > 256)) 5) fun v149 =>
  (.sees [(.d (.v (.bool (decide ((↑a147 : Int) > 256))))), (aI 5)] (.bind (F78 a147 a148) fun v155 =>
  (.sees [(.d (.sl a147 a148))] (.bind (F87 2 [(.v (.int .i64 v149)), (.v (.int .i64 v155))]) fun v156 =>
  (.sees [(.d (.sl 2 [(vI v149), (vI v155)]))] (.ret v156)))))))
noncomputable def F56 (a147 : Nat) (a148 : List DV) : Option (Int) := res B56 (.c0 a147 a148)
noncomputable def D56_0 (a147 : Nat) (a148 : List DV) : DT cfz := (.go 9 [] [] (.bind (f25 (decide ((↑a147 : Int) > 256)) 5) fun v149 => (.go 2 [(.ck 0)] [] (.bind (f78 a147 a148) fun v155 => (.go 2 [(.ck 1)] [] (.bind (f87 2 [(vI v149), (vI v155)]) fun v156 => (.go 4 [(.ck 2)] [] .fin)))))))
theorem k56_0 (a147 : Nat) (a148 : List DV) : xrun cfz 56 (D56_0 a147 a148) [] (st56 (.c0 a147 a148)) = (B56 (.c0 a147 a148)).mach st56 out56 := by kernel_rfl
theorem ok56 : ∀ s, ∃ d, xrun cfz 56 d [] (st56 s) = (B56 s).mach st56 out56
  | .c0 a147 a148 => ⟨_, k56_0 a147 a148⟩
theorem f56 (a147 : Nat) (a148 : List DV) (v : Int) (h : F56 a147 a148 = some v) : PureCalls cfz.P cfz.glob 56 [(.d (.sl a147 a148))] (out56 v) := tree_pure knil ok56 (s := .c0 a147 a148) rfl (by kernel_rfl) v h

end Go.Kv
