/- Printed: what functions of the program come to, and the kernel's proof of it. -/
import Derived.Test.YtalhonodbajndaaDoorKvW
import Derived.Test.YtalhonodbajndaaDoorKvZ
import Derived.Test.YtalhonodbajndaaDoorKzA
namespace Go.Kv
set_option linter.unusedVariables false
set_option linter.unusedSimpArgs false
open Go Go.RowKit Go.Proofs
set_option maxRecDepth 100000
/-! F38 -/
inductive S38 where
  | c0 (a39 : Bool) (a40 : Int)
def out38 (v : Int) : AV := (.d (.v (.int .i64 v)))
noncomputable def st38 : S38 → ASt
  | .c0 a39 a40 => ent cfz 38 [(.d (.v (.bool a39))), (aI a40)]
noncomputable def B38 : S38 → Tr S38 (Int)
  | .c0 a39 a40 => (.br a39
  (.ret a40)
  (.ret 0))
noncomputable def F38 (a39 : Bool) (a40 : Int) : Option (Int) := res B38 (.c0 a39 a40)
noncomputable def D38_0 (a39 : Bool) (a40 : Int) : DT cfz := (.go 9 [] [] (.split 5 (.go 7 [(.br true)] [0] .fin) (.go 7 [(.br false)] [0] .fin)))
theorem k38_0 (a39 : Bool) (a40 : Int) : xrun cfz 38 (D38_0 a39 a40) [] (st38 (.c0 a39 a40)) = (B38 (.c0 a39 a40)).mach st38 out38 := by kernel_rfl
theorem ok38 : ∀ s, ∃ d, xrun cfz 38 d [] (st38 s) = (B38 s).mach st38 out38
  | .c0 a39 a40 => ⟨_, k38_0 a39 a40⟩
theorem f38 (a39 : Bool) (a40 v : Int) (h : F38 a39 a40 = some v) : PureCalls cfz.P cfz.glob 38 [(.d (.v (.bool a39))), (aI a40)] (out38 v) := tree_pure knil ok38 (s := .c0 a39 a40) rfl (by kernel_rfl) v h

/-! F49 -/
inductive S49 where
  | c0 (a36 a37 a38 : Int)
def out49 (v : Int) : AV := (.d (.v (.int .i64 v)))
noncomputable def st49 : S49 → ASt
  | .c0 a36 a37 a38 => ent cfz 49 [(aI a36), (aI a37), (aI a38)]
noncomputable def B49 : S49 → Tr S49 (Int)
  | .c0 a36 a37 a38 => (.triv _ (tv_s (decide (a36 < a37) == false)) (.triv _ (tv_s (decide (a36 < a37) == false)) (.triv _ (tv_f (decide (a36 < a37))) (.bind (F38 (if decide (a36 < a37) = true then true else decide (a36 > a38)) 3) fun v41 =>
  (.sees [(.d (.v (.bool (if decide (a36 < a37) = true then true else decide (a36 > a38))))), (aI 3)] (.ret v41))))))
noncomputable def F49 (a36 a37 a38 : Int) : Option (Int) := res B49 (.c0 a36 a37 a38)
noncomputable def D49_0 (a36 a37 a38 : Int) : DT cfz := (.go 14 [(.sp .none), (.sp .none), (.sp .none), .mg] [] (.bind (f38 (if decide (a36 < a37) = true then true else decide (a36 > a38)) 3) fun v41 => (.go 4 [(.ck 0)] [] .fin)))
theorem k49_0 (a36 a37 a38 : Int) : xrun cfz 49 (D49_0 a36 a37 a38) [] (st49 (.c0 a36 a37 a38)) = (B49 (.c0 a36 a37 a38)).mach st49 out49 := by kernel_rfl
theorem ok49 : ∀ s, ∃ d, xrun cfz 49 d [] (st49 s) = (B49 s).mach st49 out49
  | .c0 a36 a37 a38 => ⟨_, k49_0 a36 a37 a38⟩
theorem f49 (a36 a37 a38 v : Int) (h : F49 a36 a37 a38 = some v) : PureCalls cfz.P cfz.glob 49 [(aI a36), (aI a37), (aI a38)] (out49 v) := tree_pure knil ok49 (s := .c0 a36 a37 a38) rfl (by kernel_rfl) v h

/-! F35 -/
inductive S35 where
  | c0 (a44 : Nat) (a45 : List DV)
  | c1 (x46 : Nat) (x47 : List DV) (x48 y49 : Int)
def out35 (v : Int) : AV := (.d (.v (.int .i64 v)))
noncomputable def st35 : S35 → ASt
  | .c0 a44 a45 => ent cfz 35 [(.d (.sl a44 a45))]
  | .c1 x46 x47 x48 y49 => ⟨⟨35, sp 15 0 [(5, (.d (.sl x46 x47))), (6, (aI x48)), (7, (aI y49))], [(.code (cd cfz.P 35 [1, 0, 1, 0, 0])), (.inLoop (cd cfz.P 35 [1, 0, 1, 0, 0])), (.inBlock 0), (.code (cd cfz.P 35 [1, 1]))], [], false, .none⟩, [], []⟩
noncomputable def B35 : S35 → Tr S35 (Int)
  | .c0 a44 a45 => (.nxt (.c1 a44 a45 ((↑a44 : Int)) 0))
  | .c1 x46 x47 x48 y49 => (.br (decide (y49 < x48))
  (.ask (.le 0 y49) (.ask (.lt y49 ((↑x46 : Int))) (.ask (.leN (y49.toNat * 1) x47.length) (.ask (.prop (Option.map AV.d (List.drop (y49.toNat * 1) x47)[0]? = some (AV.d (DV.v (Value.int IntKind.i64 (dI (cel x47 (y49.toNat * 1)))))))) (.br (dI (cel x47 (y49.toNat * 1)) != 0)
  (.ret (dI (cel x47 (y49.toNat * 1))))
  (.ask (.in64 (y49 + 1)) (.nxt (.c1 x46 x47 x48 (y49 + 1)))))))))
  (.ret 0))
noncomputable def F35 (a44 : Nat) (a45 : List DV) : Option (Int) := res B35 (.c0 a44 a45)
noncomputable def D35_0 (a44 : Nat) (a45 : List DV) : DT cfz := (.go 13 [] [] (.cut 0 [[5, 6, 7]] []))
theorem k35_0 (a44 : Nat) (a45 : List DV) : xrun cfz 35 (D35_0 a44 a45) [] (st35 (.c0 a44 a45)) = (B35 (.c0 a44 a45)).mach st35 out35 := by kernel_rfl
noncomputable def D35_1 (x46 : Nat) (x47 : List DV) (x48 y49 : Int) : DT cfz := (.go 5 [] [] (.split 8 (.go 15 [(.br true), (.as (aI (dI (cel x47 (y49.toNat * 1)))))] [0] (.split 12 (.go 7 [(.br true)] [0] .fin) (.go 8 [(.br false)] [0] (.cut 0 [[5, 6, 7]] [])))) (.go 7 [(.br false)] [0] .fin)))
theorem k35_1 (x46 : Nat) (x47 : List DV) (x48 y49 : Int) : xrun cfz 35 (D35_1 x46 x47 x48 y49) [] (st35 (.c1 x46 x47 x48 y49)) = (B35 (.c1 x46 x47 x48 y49)).mach st35 out35 := by kernel_rfl
theorem ok35 : ∀ s, ∃ d, xrun cfz 35 d [] (st35 s) = (B35 s).mach st35 out35
  | .c0 a44 a45 => ⟨_, k35_0 a44 a45⟩
  | .c1 x46 x47 x48 y49 => ⟨_, k35_1 x46 x47 x48 y49⟩
theorem f35 (a44 : Nat) (a45 : List DV) (v : Int) (h : F35 a44 a45 = some v) : PureCalls cfz.P cfz.glob 35 [(.d (.sl a44 a45))] (out35 v) := tree_pure knil ok35 (s := .c0 a44 a45) rfl (by kernel_rfl) v h

/-! F42 -/
inductive S42 where
  | c0 (a34 a35 : Int)
def out42 (v : Int) : AV := (.d (.v (.int .i64 v)))
noncomputable def st42 : S42 → ASt
  | .c0 a34 a35 => ent cfz 42 [(.agg [(aI a34), (aI a35)])]
noncomputable def B42 : S42 → Tr S42 (Int)
  | .c0 a34 a35 => (.bind (F49 a34 0 999999) fun v42 =>
  (.bind (F49 a35 0 999999) fun v43 =>
  (.bind (F35 2 [(.v (.int .i64 v42)), (.v (.int .i64 v43))]) fun v50 =>
  (.sees [(aI a34), (aI 0), (aI 999999)] (.sees [(aI a35), (aI 0), (aI 999999)] (.sees [(.d (.sl 2 [(vI v42), (vI v43)]))] (.ret v50)))))))
noncomputable def F42 (a34 a35 : Int) : Option (Int) := res B42 (.c0 a34 a35)
noncomputable def D42_0 (a34 a35 : Int) : DT cfz := (.go 7 [] [] (.bind (f49 a34 0 999999) fun v42 => (.bind (f49 a35 0 999999) fun v43 => (.bind (f35 2 [(vI v42), (vI v43)]) fun v50 => (.go 2 [(.ck 0), (.ck 1), (.ck 2)] [] .fin)))))
theorem k42_0 (a34 a35 : Int) : xrun cfz 42 (D42_0 a34 a35) [] (st42 (.c0 a34 a35)) = (B42 (.c0 a34 a35)).mach st42 out42 := by kernel_rfl
theorem ok42 : ∀ s, ∃ d, xrun cfz 42 d [] (st42 s) = (B42 s).mach st42 out42
  | .c0 a34 a35 => ⟨_, k42_0 a34 a35⟩
theorem f42 (a34 a35 v : Int) (h : F42 a34 a35 = some v) : PureCalls cfz.P cfz.glob 42 [(.agg [(aI a34), (aI a35)])] (out42 v) := tree_pure knil ok42 (s := .c0 a34 a35) rfl (by kernel_rfl) v h

/-! F65 -/
inductive S65 where
  | c0 (a28 : Nat) (a29 : List DV)
  | c1 (x30 : Nat) (x31 : List DV) (x32 y33 : Int)
  | c2 (y52 y53 : Nat) (y54 : List DV) (x55 : Nat) (x56 : List DV) (x57 y58 : Int) (y60 : Nat)
def out65 (v : Nat × List DV) : AV := (.d (.sl v.fst v.snd))
noncomputable def st65 : S65 → ASt
  | .c0 a28 a29 => ent cfz 65 [(.d (.sl a28 a29)), (.d (.v (.func (.func 42) (#[]) (#[]))))]
  | .c1 x30 x31 x32 y33 => ⟨⟨65, sp 22 0 [(1, (.d (.v (.func (.func 42) (#[]) (#[]))))), (5, (.d (.v (.slice .none 0 0)))), (8, (.d (.sl x30 x31))), (9, (aI x32)), (10, (aI y33))], [(.code (cd cfz.P 65 [1, 1, 0, 1, 0, 0])), (.inLoop (cd cfz.P 65 [1, 1, 0, 1, 0, 0])), (.inBlock 0), (.code (cd cfz.P 65 [1, 1, 1]))], [], false, .none⟩, [], []⟩
  | .c2 y52 y53 y54 x55 x56 x57 y58 y60 => ⟨⟨65, sp 22 0 [(1, (.d (.v (.func (.func 42) (#[]) (#[]))))), (5, (.own 2 y52 1 y53 y54)), (8, (.d (.sl x55 x56))), (9, (aI x57)), (10, (aI y58))], [(.code (cd cfz.P 65 [1, 1, 0, 1, 0, 0])), (.inLoop (cd cfz.P 65 [1, 1, 0, 1, 0, 0])), (.inBlock 0), (.code (cd cfz.P 65 [1, 1, 1]))], [], false, .none⟩, [], [.dead, (.tail 0), (.tail y60)]⟩
noncomputable def B65 : S65 → Tr S65 (Nat × List DV)
  | .c0 a28 a29 => (.nxt (.c1 a28 a29 ((↑a28 : Int)) 0))
  | .c1 x30 x31 x32 y33 => (.br (decide (y33 < x32))
  (.ask (.le 0 y33) (.ask (.lt y33 ((↑x30 : Int))) (.ask (.leN (y33.toNat * 2) x31.length) (.ask (.leN 2 ((List.drop (y33.toNat * 2) x31).length)) (.ask (.prop (List.map AV.d (List.take 2 (List.drop (y33.toNat * 2) x31)) = [AV.d (DV.v (Value.int IntKind.i64 (dI (cel x31 (y33.toNat * 2))))), AV.d (DV.v (Value.int IntKind.i64 (dI (cel x31 (y33.toNat * 2 + 1)))))])) (.bind (F42 (dI (cel x31 (y33.toNat * 2))) (dI (cel x31 (y33.toNat * 2 + 1)))) fun v51 =>
  (.sees [(.agg [(aI (dI (cel x31 (y33.toNat * 2)))), (aI (dI (cel x31 (y33.toNat * 2 + 1))))])] (.ask (.in64 (y33 + 1)) (.nxt (.c2 0 1 [(.v (.int .i64 v51))] x30 x31 x32 (y33 + 1) 0))))))))))
  (.ret (0, [])))
  | .c2 y52 y53 y54 x55 x56 x57 y58 y60 => (.br (decide (y58 < x57))
  (.ask (.le 0 y58) (.ask (.lt y58 ((↑x55 : Int))) (.ask (.leN (y58.toNat * 2) x56.length) (.ask (.leN 2 ((List.drop (y58.toNat * 2) x56).length)) (.ask (.prop (List.map AV.d (List.take 2 (List.drop (y58.toNat * 2) x56)) = [AV.d (DV.v (Value.int IntKind.i64 (dI (cel x56 (y58.toNat * 2))))), AV.d (DV.v (Value.int IntKind.i64 (dI (cel x56 (y58.toNat * 2 + 1)))))])) (.bind (F42 (dI (cel x56 (y58.toNat * 2))) (dI (cel x56 (y58.toNat * 2 + 1)))) fun v61 =>
  (.sees [(.agg [(aI (dI (cel x56 (y58.toNat * 2)))), (aI (dI (cel x56 (y58.toNat * 2 + 1))))])] (.ask (.eqN y52 y60) (.ask (.fits (y53 + 1) 8) (.ask (.in64 (y58 + 1)) (.nxt (.c2 (y60 + 1) (y53 + 1) (y54 ++ [DV.v (Value.int IntKind.i64 v61)]) x55 x56 x57 (y58 + 1) (y60 + 1)))))))))))))
  (.ret (y53, y54)))
noncomputable def F65 (a28 : Nat) (a29 : List DV) : Option (Nat × List DV) := res B65 (.c0 a28 a29)
noncomputable def D65_0 (a28 : Nat) (a29 : List DV) : DT cfz := (.go 17 [] [] (.cut 0 [[1, 5, 8, 9, 10]] []))
theorem k65_0 (a28 : Nat) (a29 : List DV) : xrun cfz 65 (D65_0 a28 a29) [] (st65 (.c0 a28 a29)) = (B65 (.c0 a28 a29)).mach st65 out65 := by kernel_rfl
noncomputable def D65_1 (x30 : Nat) (x31 : List DV) (x32 y33 : Int) : DT cfz := (.go 5 [] [] (.split 11 (.go 15 [(.br true), (.as (.agg [(aI (dI (cel x31 (y33.toNat * 2)))), (aI (dI (cel x31 (y33.toNat * 2 + 1))))]))] [0] (.bind (f42 (dI (cel x31 (y33.toNat * 2))) (dI (cel x31 (y33.toNat * 2 + 1)))) fun v51 => (.go 11 [(.ck 0)] [1, 2, 3] (.cut 3 [[1, 5, 8, 9, 10]] [0])))) (.go 8 [(.br false)] [0] .fin)))
theorem k65_1 (x30 : Nat) (x31 : List DV) (x32 y33 : Int) : xrun cfz 65 (D65_1 x30 x31 x32 y33) [] (st65 (.c1 x30 x31 x32 y33)) = (B65 (.c1 x30 x31 x32 y33)).mach st65 out65 := by kernel_rfl
noncomputable def D65_2 (y52 y53 : Nat) (y54 : List DV) (x55 : Nat) (x56 : List DV) (x57 y58 : Int) (y60 : Nat) : DT cfz := (.go 5 [] [] (.split 11 (.go 15 [(.br true), (.as (.agg [(aI (dI (cel x56 (y58.toNat * 2)))), (aI (dI (cel x56 (y58.toNat * 2 + 1))))]))] [0] (.bind (f42 (dI (cel x56 (y58.toNat * 2))) (dI (cel x56 (y58.toNat * 2 + 1)))) fun v61 => (.go 11 [(.ck 0)] [2, 3] (.cut 3 [[1, 5, 8, 9, 10]] [])))) (.go 8 [(.br false)] [0] .fin)))
theorem k65_2 (y52 y53 : Nat) (y54 : List DV) (x55 : Nat) (x56 : List DV) (x57 y58 : Int) (y60 : Nat) : xrun cfz 65 (D65_2 y52 y53 y54 x55 x56 x57 y58 y60) [] (st65 (.c2 y52 y53 y54 x55 x56 x57 y58 y60)) = (B65 (.c2 y52 y53 y54 x55 x56 x57 y58 y60)).mach st65 out65 := by kernel_rfl
theorem ok65 : ∀ s, ∃ d, xrun cfz 65 d [] (st65 s) = (B65 s).mach st65 out65
  | .c0 a28 a29 => ⟨_, k65_0 a28 a29⟩
  | .c1 x30 x31 x32 y33 => ⟨_, k65_1 x30 x31 x32 y33⟩
  | .c2 y52 y53 y54 x55 x56 x57 y58 y60 => ⟨_, k65_2 y52 y53 y54 x55 x56 x57 y58 y60⟩
theorem f65 (a28 : Nat) (a29 : List DV) (v : Nat × List DV) (h : F65 a28 a29 = some v) : PureCalls cfz.P cfz.glob 65 [(.d (.sl a28 a29)), (.d (.v (.func (.func 42) (#[]) (#[]))))] (out65 v) := tree_pure knil ok65 (s := .c0 a28 a29) rfl (by kernel_rfl) v h

/-! F36 -/
inductive S36 where
  | c0 (a16 a17 a18 a19 a20 a21 a22 a23 a24 a25 a26 a27 : Int)
def out36 (v : Int) : AV := (.d (.v (.int .i64 v)))
noncomputable def st36 : S36 → ASt
  | .c0 a16 a17 a18 a19 a20 a21 a22 a23 a24 a25 a26 a27 => ent cfz 36 [(.agg [(aI a16), (aI a17), (aI a18), (aI a19), (aI a20), (aI a21), (aI a22), (aI a23), (aI a24), (aI a25), (aI a26), (aI a27)])]
noncomputable def B36 : S36 → Tr S36 (Int)
  | .c0 a16 a17 a18 a19 a20 a21 a22 a23 a24 a25 a26 a27 => (.bind (F42 a16 a17) fun v63 =>
  (.sees [(.agg [(aI a16), (aI a17)])] (.bind (F42 a18 a19) fun v64 =>
  (.sees [(.agg [(aI a18), (aI a19)])] (.bind (F42 a20 a21) fun v65 =>
  (.sees [(.agg [(aI a20), (aI a21)])] (.bind (F42 a22 a23) fun v66 =>
  (.sees [(.agg [(aI a22), (aI a23)])] (.bind (F42 a24 a25) fun v67 =>
  (.sees [(.agg [(aI a24), (aI a25)])] (.bind (F42 a26 a27) fun v68 =>
  (.sees [(.agg [(aI a26), (aI a27)])] (.bind (F35 6 [(.v (.int .i64 v63)), (.v (.int .i64 v64)), (.v (.int .i64 v65)), (.v (.int .i64 v66)), (.v (.int .i64 v67)), (.v (.int .i64 v68))]) fun v69 =>
  (.sees [(.d (.sl 6 [(vI v63), (vI v64), (vI v65), (vI v66), (vI v67), (vI v68)]))] (.ret v69)))))))))))))))
noncomputable def F36 (a16 a17 a18 a19 a20 a21 a22 a23 a24 a25 a26 a27 : Int) : Option (Int) := res B36 (.c0 a16 a17 a18 a19 a20 a21 a22 a23 a24 a25 a26 a27)
noncomputable def D36_0 (a16 a17 a18 a19 a20 a21 a22 a23 a24 a25 a26 a27 : Int) : DT cfz := (.go 46 [.enter, (.br true)] [0, 1, 2, 3, 4, 5, 6] (.bind (f42 a16 a17) fun v63 => (.go 31 [(.ck 0), .none, (.br true)] [1, 2, 3, 4, 5, 6, 7] (.bind (f42 a18 a19) fun v64 => (.go 31 [(.ck 1), .none, (.br true)] [1, 2, 3, 4, 5, 6, 7, 8] (.bind (f42 a20 a21) fun v65 => (.go 31 [(.ck 2), .none, (.br true)] [1, 2, 3, 4, 5, 6, 7, 8] (.bind (f42 a22 a23) fun v66 => (.go 31 [(.ck 3), .none, (.br true)] [1, 2, 3, 4, 5, 6, 7, 8] (.bind (f42 a24 a25) fun v67 => (.go 31 [(.ck 4), .none, (.br true)] [1, 2, 3, 4, 5, 6, 7, 8] (.bind (f42 a26 a27) fun v68 => (.go 25 [(.ck 5), .none, (.br false)] [1, 2, 3, 4, 5, 6] (.bind (f35 6 [(vI v63), (vI v64), (vI v65), (vI v66), (vI v67), (vI v68)]) fun v69 => (.go 4 [(.ck 6)] [] .fin)))))))))))))))
theorem k36_0 (a16 a17 a18 a19 a20 a21 a22 a23 a24 a25 a26 a27 : Int) : xrun cfz 36 (D36_0 a16 a17 a18 a19 a20 a21 a22 a23 a24 a25 a26 a27) [] (st36 (.c0 a16 a17 a18 a19 a20 a21 a22 a23 a24 a25 a26 a27)) = (B36 (.c0 a16 a17 a18 a19 a20 a21 a22 a23 a24 a25 a26 a27)).mach st36 out36 := by kernel_rfl
theorem ok36 : ∀ s, ∃ d, xrun cfz 36 d [] (st36 s) = (B36 s).mach st36 out36
  | .c0 a16 a17 a18 a19 a20 a21 a22 a23 a24 a25 a26 a27 => ⟨_, k36_0 a16 a17 a18 a19 a20 a21 a22 a23 a24 a25 a26 a27⟩
theorem f36 (a16 a17 a18 a19 a20 a21 a22 a23 a24 a25 a26 a27 v : Int) (h : F36 a16 a17 a18 a19 a20 a21 a22 a23 a24 a25 a26 a27 = some v) : PureCalls cfz.P cfz.glob 36 [(.agg [(aI a16), (aI a17), (aI a18), (aI a19), (aI a20), (aI a21), (aI a22), (aI a23), (aI a24), (aI a25), (aI a26), (aI a27)])] (out36 v) := tree_pure knil ok36 (s := .c0 a16 a17 a18 a19 a20 a21 a22 a23 a24 a25 a26 a27) rfl (by kernel_rfl) v h

/-! F60 -/
inductive S60 where
  | c0 (a81 : Nat)
def out60 (v : Bool) : AV := (.d (.v (.bool v)))
noncomputable def st60 : S60 → ASt
  | .c0 a81 => ent cfz 60 [(.d (.v (.float .f64 a81)))]
noncomputable def B60 : S60 → Tr S60 (Bool)
  | .c0 a81 => (.ret (FloatKind.f64.format.order a81 a81 != some Ordering.eq))
noncomputable def F60 (a81 : Nat) : Option (Bool) := res B60 (.c0 a81)
noncomputable def D60_0 (a81 : Nat) : DT cfz := (.go 12 [] [] .fin)
theorem k60_0 (a81 : Nat) : xrun cfz 60 (D60_0 a81) [] (st60 (.c0 a81)) = (B60 (.c0 a81)).mach st60 out60 := by kernel_rfl
theorem ok60 : ∀ s, ∃ d, xrun cfz 60 d [] (st60 s) = (B60 s).mach st60 out60
  | .c0 a81 => ⟨_, k60_0 a81⟩
theorem f60 (a81 : Nat) (v : Bool) (h : F60 a81 = some v) : PureCalls cfz.P cfz.glob 60 [(.d (.v (.float .f64 a81)))] (out60 v) := tree_pure knil ok60 (s := .c0 a81) rfl (by kernel_rfl) v h

/-! F71 -/
inductive S71 where
  | c0 (a85 : Nat)
def out71 (v : Nat) : AV := (.d (.v (.float .f64 v)))
noncomputable def st71 : S71 → ASt
  | .c0 a85 => ent cfz 71 [(.d (.v (.float .f64 a85)))]
noncomputable def B71 : S71 → Tr S71 (Nat)
  | .c0 a85 => (.ask (.prop (∀ (w : World), Sem.run cfz.P (callFunc 80 #[Value.float FloatKind.f64 a85]) w = Result.ok (Next.value (Value.int IntKind.u64 (↑a85 : Int))) w)) (.ask (.prop (∀ (w : World), Sem.run cfz.P (callFunc 79 #[Value.int IntKind.u64 (IntKind.u64.wrap (↑(BitVec.ofInt 64 (↑a85 : Int) &&& ~~~BitVec.ofInt 64 9223372036854775808).toNat : Int))]) w = Result.ok (Next.value (Value.float FloatKind.f64 (IntKind.u64.wrap (↑(BitVec.ofInt 64 (↑a85 : Int) &&& ~~~BitVec.ofInt 64 9223372036854775808).toNat : Int)).toNat)) w)) (.ret ((IntKind.u64.wrap (↑(BitVec.ofInt 64 (↑a85 : Int) &&& ~~~BitVec.ofInt 64 9223372036854775808).toNat : Int)).toNat))))
noncomputable def F71 (a85 : Nat) : Option (Nat) := res B71 (.c0 a85)
noncomputable def D71_0 (a85 : Nat) : DT cfz := (.go 13 [(.ext (.int .u64 ((↑a85 : Int)))), (.ext (.float .f64 ((IntKind.u64.wrap (↑(BitVec.ofInt 64 (↑a85 : Int) &&& ~~~BitVec.ofInt 64 9223372036854775808).toNat : Int)).toNat)))] [] .fin)
theorem k71_0 (a85 : Nat) : xrun cfz 71 (D71_0 a85) [] (st71 (.c0 a85)) = (B71 (.c0 a85)).mach st71 out71 := by kernel_rfl
theorem ok71 : ∀ s, ∃ d, xrun cfz 71 d [] (st71 s) = (B71 s).mach st71 out71
  | .c0 a85 => ⟨_, k71_0 a85⟩
theorem f71 (a85 v : Nat) (h : F71 a85 = some v) : PureCalls cfz.P cfz.glob 71 [(.d (.v (.float .f64 a85)))] (out71 v) := tree_pure knil ok71 (s := .c0 a85) rfl (by kernel_rfl) v h

/-! F61 -/
inductive S61 where
  | c0 (a83 : Nat) (a84 : Int)
def out61 (v : Bool) : AV := (.d (.v (.bool v)))
noncomputable def st61 : S61 → ASt
  | .c0 a83 a84 => ent cfz 61 [(.d (.v (.float .f64 a83))), (aI a84)]
noncomputable def B61 : S61 → Tr S61 (Bool)
  | .c0 a83 a84 => (.br (a84 == 0)
  (.bind (F71 a83) fun v86 =>
  (.sees [(.d (.v (.float .f64 a83)))] (.ret (FloatKind.f64.format.order v86 9218868437227405311 == some Ordering.gt))))
  (.br (decide (a84 < 0))
  (.ret (FloatKind.f64.format.order (Op.negFloat FloatKind.f64 a83) 9218868437227405311 == some Ordering.gt))
  (.ret (FloatKind.f64.format.order a83 9218868437227405311 == some Ordering.gt))))
noncomputable def F61 (a83 : Nat) (a84 : Int) : Option (Bool) := res B61 (.c0 a83 a84)
noncomputable def D61_0 (a83 : Nat) (a84 : Int) : DT cfz := (.go 10 [] [] (.split 6 (.go 3 [(.br true)] [0] (.bind (f71 a83) fun v86 => (.go 10 [(.ck 0)] [] .fin))) (.go 6 [(.br false)] [0] (.split 10 (.go 13 [(.br true)] [0] .fin) (.go 9 [(.br false)] [0] .fin)))))
theorem k61_0 (a83 : Nat) (a84 : Int) : xrun cfz 61 (D61_0 a83 a84) [] (st61 (.c0 a83 a84)) = (B61 (.c0 a83 a84)).mach st61 out61 := by kernel_rfl
theorem ok61 : ∀ s, ∃ d, xrun cfz 61 d [] (st61 s) = (B61 s).mach st61 out61
  | .c0 a83 a84 => ⟨_, k61_0 a83 a84⟩
theorem f61 (a83 : Nat) (a84 : Int) (v : Bool) (h : F61 a83 a84 = some v) : PureCalls cfz.P cfz.glob 61 [(.d (.v (.float .f64 a83))), (aI a84)] (out61 v) := tree_pure knil ok61 (s := .c0 a83 a84) rfl (by kernel_rfl) v h

/-! F77 -/
inductive S77 where
  | c0 (a80 : Nat)
def out77 (v : Bool) : AV := (.d (.v (.bool v)))
noncomputable def st77 : S77 → ASt
  | .c0 a80 => ent cfz 77 [(.d (.v (.float .f32 a80)))]
noncomputable def B77 : S77 → Tr S77 (Bool)
  | .c0 a80 => (.ask (.eqB (ftofOk FloatKind.f32 a80 FloatKind.f64) true) (.bind (F60 (ftof FloatKind.f32 a80 FloatKind.f64)) fun v82 =>
  (.sees [(.d (.v (.float .f64 (ftof FloatKind.f32 a80 FloatKind.f64))))] (.br v82
  (.ret true)
  (.ask (.eqB (v82 == false) true) (.ask (.eqB (ftofOk FloatKind.f32 a80 FloatKind.f64) true) (.bind (F61 (ftof FloatKind.f32 a80 FloatKind.f64) 0) fun v87 =>
  (.sees [(.d (.v (.float .f64 (ftof FloatKind.f32 a80 FloatKind.f64)))), (aI 0)] (.ret v87)))))))))
noncomputable def F77 (a80 : Nat) : Option (Bool) := res B77 (.c0 a80)
noncomputable def D77_0 (a80 : Nat) : DT cfz := (.go 8 [] [] (.bind (f60 (ftof FloatKind.f32 a80 FloatKind.f64)) fun v82 => (.go 3 [(.ck 0), (.sp .none)] [] (.split 6 (.go 6 [(.br true), (.br true)] [0, 1] .fin) (.strip 7 (.go 1 [(.br false)] [1] (.bind (f61 (ftof FloatKind.f32 a80 FloatKind.f64) 0) fun v87 => (.go 5 [(.br false), (.ck 1)] [1] .fin))))))))
theorem k77_0 (a80 : Nat) : xrun cfz 77 (D77_0 a80) [] (st77 (.c0 a80)) = (B77 (.c0 a80)).mach st77 out77 := by kernel_rfl
theorem ok77 : ∀ s, ∃ d, xrun cfz 77 d [] (st77 s) = (B77 s).mach st77 out77
  | .c0 a80 => ⟨_, k77_0 a80⟩
theorem f77 (a80 : Nat) (v : Bool) (h : F77 a80 = some v) : PureCalls cfz.P cfz.glob 77 [(.d (.v (.float .f32 a80)))] (out77 v) := tree_pure knil ok77 (s := .c0 a80) rfl (by kernel_rfl) v h

/-! F76 -/
inductive S76 where
  | c0 (a89 : Bool) (a90 : Int)
def out76 (v : Int) : AV := (.d (.v (.int .i64 v)))
noncomputable def st76 : S76 → ASt
  | .c0 a89 a90 => ent cfz 76 [(.d (.v (.bool a89))), (aI a90)]
noncomputable def B76 : S76 → Tr S76 (Int)
  | .c0 a89 a90 => (.br a89
  (.ret a90)
  (.ret 0))
noncomputable def F76 (a89 : Bool) (a90 : Int) : Option (Int) := res B76 (.c0 a89 a90)
noncomputable def D76_0 (a89 : Bool) (a90 : Int) : DT cfz := (.go 9 [] [] (.split 5 (.go 7 [(.br true)] [0] .fin) (.go 7 [(.br false)] [0] .fin)))
theorem k76_0 (a89 : Bool) (a90 : Int) : xrun cfz 76 (D76_0 a89 a90) [] (st76 (.c0 a89 a90)) = (B76 (.c0 a89 a90)).mach st76 out76 := by kernel_rfl
theorem ok76 : ∀ s, ∃ d, xrun cfz 76 d [] (st76 s) = (B76 s).mach st76 out76
  | .c0 a89 a90 => ⟨_, k76_0 a89 a90⟩
theorem f76 (a89 : Bool) (a90 v : Int) (h : F76 a89 a90 = some v) : PureCalls cfz.P cfz.glob 76 [(.d (.v (.bool a89))), (aI a90)] (out76 v) := tree_pure knil ok76 (s := .c0 a89 a90) rfl (by kernel_rfl) v h

/-! F72 -/
inductive S72 where
  | c0 (a95 : Nat)
def out72 (v : Nat) : AV := (.d (.v (.float .f64 v)))
noncomputable def st72 : S72 → ASt
  | .c0 a95 => ent cfz 72 [(.d (.v (.float .f64 a95)))]
noncomputable def B72 : S72 → Tr S72 (Nat)
  | .c0 a95 => (.ask (.prop (∀ (w : World), Sem.run cfz.P (callFunc 81 #[Value.float FloatKind.f64 a95]) w = Result.ok (Next.value (Value.float FloatKind.f64 (floorV a95))) w)) (.ret (floorV a95)))
noncomputable def F72 (a95 : Nat) : Option (Nat) := res B72 (.c0 a95)
noncomputable def D72_0 (a95 : Nat) : DT cfz := (.go 13 [(.br true), (.ext (.float .f64 (floorV a95)))] [0] .fin)
theorem k72_0 (a95 : Nat) : xrun cfz 72 (D72_0 a95) [] (st72 (.c0 a95)) = (B72 (.c0 a95)).mach st72 out72 := by kernel_rfl
theorem ok72 : ∀ s, ∃ d, xrun cfz 72 d [] (st72 s) = (B72 s).mach st72 out72
  | .c0 a95 => ⟨_, k72_0 a95⟩
theorem f72 (a95 v : Nat) (h : F72 a95 = some v) : PureCalls cfz.P cfz.glob 72 [(.d (.v (.float .f64 a95)))] (out72 v) := tree_pure knil ok72 (s := .c0 a95) rfl (by kernel_rfl) v h

/-! F78 -/
inductive S78 where
  | c0 (a92 a93 : Nat)
def out78 (v : Int) : AV := (.d (.v (.int .i64 v)))
noncomputable def st78 : S78 → ASt
  | .c0 a92 a93 => ent cfz 78 [(.d (.v (.float .f32 a92))), (.d (.v (.float .f32 a93)))]
noncomputable def B78 : S78 → Tr S78 (Int)
  | .c0 a92 a93 => (.triv _ (tv_s ((FloatKind.f32.format.order a92 (Op.negFloat FloatKind.f32 a93) == some Ordering.lt) == false)) (.triv _ (tv_s ((FloatKind.f32.format.order a92 (Op.negFloat FloatKind.f32 a93) == some Ordering.lt) == false)) (.triv _ (tv_f (FloatKind.f32.format.order a92 (Op.negFloat FloatKind.f32 a93) == some Ordering.lt)) (.br (if (FloatKind.f32.format.order a92 (Op.negFloat FloatKind.f32 a93) == some Ordering.lt) = true then true else FloatKind.f32.format.order a92 a93 == some Ordering.gt)
  (.bind (F76 true 3) fun v94 =>
  (.sees [(.d (.v (.bool true))), (aI 3)] (.ret v94)))
  (.ask (.eqB ((if (FloatKind.f32.format.order a92 (Op.negFloat FloatKind.f32 a93) == some Ordering.lt) = true then true else FloatKind.f32.format.order a92 a93 == some Ordering.gt) == false) true) (.ask (.eqB (fok BinOp.mul FloatKind.f32 1098907648 a92) true) (.ask (.eqB (ftofOk FloatKind.f32 (fval BinOp.mul FloatKind.f32 1098907648 a92) FloatKind.f64) true) (.bind (F72 (ftof FloatKind.f32 (fval BinOp.mul FloatKind.f32 1098907648 a92) FloatKind.f64)) fun v96 =>
  (.sees [(.d (.v (.float .f64 (ftof FloatKind.f32 (fval BinOp.mul FloatKind.f32 1098907648 a92) FloatKind.f64))))] (.ask (.eqB (ftofOk FloatKind.f64 v96 FloatKind.f32) true) (.ask (.eqB (fok BinOp.mul FloatKind.f32 1098907648 a92) true) (.bind (F76 (FloatKind.f32.format.order (ftof FloatKind.f64 v96 FloatKind.f32) (fval BinOp.mul FloatKind.f32 1098907648 a92) != some Ordering.eq) 3) fun v97 =>
  (.sees [(.d (.v (.bool (FloatKind.f32.format.order (ftof FloatKind.f64 v96 FloatKind.f32) (fval BinOp.mul FloatKind.f32 1098907648 a92) != some Ordering.eq)))), (aI 3)] (.ret v97))))))))))))))
noncomputable def F78 (a92 a93 : Nat) : Option (Int) := res B78 (.c0 a92 a93)
noncomputable def D78_0 (a92 a93 : Nat) : DT cfz := (.go 17 [(.sp .none), (.sp .none), (.sp .none), .mg, (.sp .none)] [] (.split 14 (.go 8 [(.br true), (.br true), (.br true), (.br true), (.br true), (.br true), (.br true)] [0, 1, 2, 3, 4, 5, 6] (.bind (f76 true 3) fun v94 => (.go 4 [(.ck 0)] [] .fin))) (.strip 15 (.go 2 [(.br false), (.br false)] [1, 3] (.bind (f72 (ftof FloatKind.f32 (fval BinOp.mul FloatKind.f32 1098907648 a92) FloatKind.f64)) fun v96 => (.go 6 [(.br false), (.ck 0), (.br false), (.br false), (.br false), (.br false)] [1, 3, 4, 6, 7] (.bind (f76 (FloatKind.f32.format.order (ftof FloatKind.f64 v96 FloatKind.f32) (fval BinOp.mul FloatKind.f32 1098907648 a92) != some Ordering.eq) 3) fun v97 => (.go 4 [(.ck 1)] [] .fin))))))))
theorem k78_0 (a92 a93 : Nat) : xrun cfz 78 (D78_0 a92 a93) [] (st78 (.c0 a92 a93)) = (B78 (.c0 a92 a93)).mach st78 out78 := by kernel_rfl
theorem ok78 : ∀ s, ∃ d, xrun cfz 78 d [] (st78 s) = (B78 s).mach st78 out78
  | .c0 a92 a93 => ⟨_, k78_0 a92 a93⟩
theorem f78 (a92 a93 : Nat) (v : Int) (h : F78 a92 a93 = some v) : PureCalls cfz.P cfz.glob 78 [(.d (.v (.float .f32 a92))), (.d (.v (.float .f32 a93)))] (out78 v) := tree_pure knil ok78 (s := .c0 a92 a93) rfl (by kernel_rfl) v h

/-! F75 -/
inductive S75 where
  | c0 (a99 : Nat) (a100 : List DV)
  | c1 (x101 : Nat) (x102 : List DV) (x103 y104 : Int)
def out75 (v : Int) : AV := (.d (.v (.int .i64 v)))
noncomputable def st75 : S75 → ASt
  | .c0 a99 a100 => ent cfz 75 [(.d (.sl a99 a100))]
  | .c1 x101 x102 x103 y104 => ⟨⟨75, sp 15 0 [(5, (.d (.sl x101 x102))), (6, (aI x103)), (7, (aI y104))], [(.code (cd cfz.P 75 [1, 0, 1, 0, 0])), (.inLoop (cd cfz.P 75 [1, 0, 1, 0, 0])), (.inBlock 0), (.code (cd cfz.P 75 [1, 1]))], [], false, .none⟩, [], []⟩
noncomputable def B75 : S75 → Tr S75 (Int)
  | .c0 a99 a100 => (.nxt (.c1 a99 a100 ((↑a99 : Int)) 0))
  | .c1 x101 x102 x103 y104 => (.br (decide (y104 < x103))
  (.ask (.le 0 y104) (.ask (.lt y104 ((↑x101 : Int))) (.ask (.leN (y104.toNat * 1) x102.length) (.ask (.prop (Option.map AV.d (List.drop (y104.toNat * 1) x102)[0]? = some (AV.d (DV.v (Value.int IntKind.i64 (dI (cel x102 (y104.toNat * 1)))))))) (.br (dI (cel x102 (y104.toNat * 1)) != 0)
  (.ret (dI (cel x102 (y104.toNat * 1))))
  (.ask (.in64 (y104 + 1)) (.nxt (.c1 x101 x102 x103 (y104 + 1)))))))))
  (.ret 0))
noncomputable def F75 (a99 : Nat) (a100 : List DV) : Option (Int) := res B75 (.c0 a99 a100)
noncomputable def D75_0 (a99 : Nat) (a100 : List DV) : DT cfz := (.go 13 [] [] (.cut 0 [[5, 6, 7]] []))
theorem k75_0 (a99 : Nat) (a100 : List DV) : xrun cfz 75 (D75_0 a99 a100) [] (st75 (.c0 a99 a100)) = (B75 (.c0 a99 a100)).mach st75 out75 := by kernel_rfl
noncomputable def D75_1 (x101 : Nat) (x102 : List DV) (x103 y104 : Int) : DT cfz := (.go 5 [] [] (.split 8 (.go 15 [(.br true), (.as (aI (dI (cel x102 (y104.toNat * 1)))))] [0] (.split 12 (.go 7 [(.br true)] [0] .fin) (.go 8 [(.br false)] [0] (.cut 0 [[5, 6, 7]] [])))) (.go 7 [(.br false)] [0] .fin)))
theorem k75_1 (x101 : Nat) (x102 : List DV) (x103 y104 : Int) : xrun cfz 75 (D75_1 x101 x102 x103 y104) [] (st75 (.c1 x101 x102 x103 y104)) = (B75 (.c1 x101 x102 x103 y104)).mach st75 out75 := by kernel_rfl
theorem ok75 : ∀ s, ∃ d, xrun cfz 75 d [] (st75 s) = (B75 s).mach st75 out75
  | .c0 a99 a100 => ⟨_, k75_0 a99 a100⟩
  | .c1 x101 x102 x103 y104 => ⟨_, k75_1 x101 x102 x103 y104⟩
theorem f75 (a99 : Nat) (a100 : List DV) (v : Int) (h : F75 a99 a100 = some v) : PureCalls cfz.P cfz.glob 75 [(.d (.sl a99 a100))] (out75 v) := tree_pure knil ok75 (s := .c0 a99 a100) rfl (by kernel_rfl) v h

/-! F67 -/
inductive S67 where
  | c0 (a79 : Nat)
def out67 (v : Int) : AV := (.d (.v (.int .i64 v)))
noncomputable def st67 : S67 → ASt
  | .c0 a79 => ent cfz 67 [(.d (.v (.float .f32 a79)))]
noncomputable def B67 : S67 → Tr S67 (Int)
  | .c0 a79 => (.bind (F77 a79) fun v88 =>
  (.sees [(.d (.v (.float .f32 a79)))] (.bind (F76 v88 1) fun v91 =>
  (.sees [(.d (.v (.bool v88))), (aI 1)] (.bind (F78 a79 1149239296) fun v98 =>
  (.sees [(.d (.v (.float .f32 a79))), (.d (.v (.float .f32 1149239296)))] (.bind (F75 2 [(.v (.int .i64 v91)), (.v (.int .i64 v98))]) fun v105 =>
  (.sees [(.d (.sl 2 [(vI v91), (vI v98)]))] (.ret v105)))))))))
noncomputable def F67 (a79 : Nat) : Option (Int) := res B67 (.c0 a79)
noncomputable def D67_0 (a79 : Nat) : DT cfz := (.go 7 [] [] (.bind (f77 a79) fun v88 => (.go 1 [(.ck 0)] [] (.bind (f76 v88 1) fun v91 => (.go 2 [(.ck 1)] [] (.bind (f78 a79 1149239296) fun v98 => (.go 2 [(.ck 2)] [] (.bind (f75 2 [(vI v91), (vI v98)]) fun v105 => (.go 4 [(.ck 3)] [] .fin)))))))))
theorem k67_0 (a79 : Nat) : xrun cfz 67 (D67_0 a79) [] (st67 (.c0 a79)) = (B67 (.c0 a79)).mach st67 out67 := by kernel_rfl
theorem ok67 : ∀ s, ∃ d, xrun cfz 67 d [] (st67 s) = (B67 s).mach st67 out67
  | .c0 a79 => ⟨_, k67_0 a79⟩
theorem f67 (a79 : Nat) (v : Int) (h : F67 a79 = some v) : PureCalls cfz.P cfz.glob 67 [(.d (.v (.float .f32 a79)))] (out67 v) := tree_pure knil ok67 (s := .c0 a79) rfl (by kernel_rfl) v h

/-! F66 -/
inductive S66 where
  | c0 (a73 : Nat) (a74 : List DV)
  | c1 (x75 : Nat) (x76 : List DV) (x77 y78 : Int)
  | c2 (y107 y108 : Nat) (y109 : List DV) (x110 : Nat) (x111 : List DV) (x112 y113 : Int) (y115 : Nat)
def out66 (v : Nat × List DV) : AV := (.d (.sl v.fst v.snd))
noncomputable def st66 : S66 → ASt
  | .c0 a73 a74 => ent cfz 66 [(.d (.sl a73 a74)), (.d (.v (.func (.func 67) (#[]) (#[]))))]
  | .c1 x75 x76 x77 y78 => ⟨⟨66, sp 22 0 [(1, (.d (.v (.func (.func 67) (#[]) (#[]))))), (5, (.d (.v (.slice .none 0 0)))), (8, (.d (.sl x75 x76))), (9, (aI x77)), (10, (aI y78))], [(.code (cd cfz.P 66 [1, 1, 0, 1, 0, 0])), (.inLoop (cd cfz.P 66 [1, 1, 0, 1, 0, 0])), (.inBlock 0), (.code (cd cfz.P 66 [1, 1, 1]))], [], false, .none⟩, [], []⟩
  | .c2 y107 y108 y109 x110 x111 x112 y113 y115 => ⟨⟨66, sp 22 0 [(1, (.d (.v (.func (.func 67) (#[]) (#[]))))), (5, (.own 1 y107 1 y108 y109)), (8, (.d (.sl x110 x111))), (9, (aI x112)), (10, (aI y113))], [(.code (cd cfz.P 66 [1, 1, 0, 1, 0, 0])), (.inLoop (cd cfz.P 66 [1, 1, 0, 1, 0, 0])), (.inBlock 0), (.code (cd cfz.P 66 [1, 1, 1]))], [], false, .none⟩, [], [(.tail 0), (.tail y115)]⟩
noncomputable def B66 : S66 → Tr S66 (Nat × List DV)
  | .c0 a73 a74 => (.nxt (.c1 a73 a74 ((↑a73 : Int)) 0))
  | .c1 x75 x76 x77 y78 => (.br (decide (y78 < x77))
  (.ask (.le 0 y78) (.ask (.lt y78 ((↑x75 : Int))) (.ask (.leN (y78.toNat * 1) x76.length) (.ask (.prop (Option.map AV.d (List.drop (y78.toNat * 1) x76)[0]? = some (AV.d (DV.v (Value.float FloatKind.f32 (dF (cel x76 (y78.toNat * 1)))))))) (.bind (F67 (dF (cel x76 (y78.toNat * 1)))) fun v106 =>
  (.sees [(.d (.v (.float .f32 (dF (cel x76 (y78.toNat * 1))))))] (.ask (.in64 (y78 + 1)) (.nxt (.c2 0 1 [(.v (.int .i64 v106))] x75 x76 x77 (y78 + 1) 0)))))))))
  (.ret (0, [])))
  | .c2 y107 y108 y109 x110 x111 x112 y113 y115 => (.br (decide (y113 < x112))
  (.ask (.le 0 y113) (.ask (.lt y113 ((↑x110 : Int))) (.ask (.leN (y113.toNat * 1) x111.length) (.ask (.prop (Option.map AV.d (List.drop (y113.toNat * 1) x111)[0]? = some (AV.d (DV.v (Value.float FloatKind.f32 (dF (cel x111 (y113.toNat * 1)))))))) (.bind (F67 (dF (cel x111 (y113.toNat * 1)))) fun v116 =>
  (.sees [(.d (.v (.float .f32 (dF (cel x111 (y113.toNat * 1))))))] (.ask (.eqN y107 y115) (.ask (.fits (y108 + 1) 8) (.ask (.in64 (y113 + 1)) (.nxt (.c2 (y115 + 1) (y108 + 1) (y109 ++ [DV.v (Value.int IntKind.i64 v116)]) x110 x111 x112 (y113 + 1) (y115 + 1))))))))))))
  (.ret (y108, y109)))
noncomputable def F66 (a73 : Nat) (a74 : List DV) : Option (Nat × List DV) := res B66 (.c0 a73 a74)
noncomputable def D66_0 (a73 : Nat) (a74 : List DV) : DT cfz := (.go 17 [] [] (.cut 0 [[1, 5, 8, 9, 10]] []))
theorem k66_0 (a73 : Nat) (a74 : List DV) : xrun cfz 66 (D66_0 a73 a74) [] (st66 (.c0 a73 a74)) = (B66 (.c0 a73 a74)).mach st66 out66 := by kernel_rfl
noncomputable def D66_1 (x75 : Nat) (x76 : List DV) (x77 y78 : Int) : DT cfz := (.go 5 [] [] (.split 11 (.go 14 [(.br true), (.as (.d (.v (.float .f32 (dF (cel x76 (y78.toNat * 1)))))))] [0] (.bind (f67 (dF (cel x76 (y78.toNat * 1)))) fun v106 => (.go 11 [(.ck 0)] [1, 2, 3] (.cut 2 [[1, 5, 8, 9, 10]] [])))) (.go 8 [(.br false)] [0] .fin)))
theorem k66_1 (x75 : Nat) (x76 : List DV) (x77 y78 : Int) : xrun cfz 66 (D66_1 x75 x76 x77 y78) [] (st66 (.c1 x75 x76 x77 y78)) = (B66 (.c1 x75 x76 x77 y78)).mach st66 out66 := by kernel_rfl
noncomputable def D66_2 (y107 y108 : Nat) (y109 : List DV) (x110 : Nat) (x111 : List DV) (x112 y113 : Int) (y115 : Nat) : DT cfz := (.go 5 [] [] (.split 11 (.go 14 [(.br true), (.as (.d (.v (.float .f32 (dF (cel x111 (y113.toNat * 1)))))))] [0] (.bind (f67 (dF (cel x111 (y113.toNat * 1)))) fun v116 => (.go 11 [(.ck 0)] [2, 3] (.cut 2 [[1, 5, 8, 9, 10]] [])))) (.go 8 [(.br false)] [0] .fin)))
theorem k66_2 (y107 y108 : Nat) (y109 : List DV) (x110 : Nat) (x111 : List DV) (x112 y113 : Int) (y115 : Nat) : xrun cfz 66 (D66_2 y107 y108 y109 x110 x111 x112 y113 y115) [] (st66 (.c2 y107 y108 y109 x110 x111 x112 y113 y115)) = (B66 (.c2 y107 y108 y109 x110 x111 x112 y113 y115)).mach st66 out66 := by kernel_rfl
theorem ok66 : ∀ s, ∃ d, xrun cfz 66 d [] (st66 s) = (B66 s).mach st66 out66
  | .c0 a73 a74 => ⟨_, k66_0 a73 a74⟩
  | .c1 x75 x76 x77 y78 => ⟨_, k66_1 x75 x76 x77 y78⟩
  | .c2 y107 y108 y109 x110 x111 x112 y113 y115 => ⟨_, k66_2 y107 y108 y109 x110 x111 x112 y113 y115⟩
theorem f66 (a73 : Nat) (a74 : List DV) (v : Nat × List DV) (h : F66 a73 a74 = some v) : PureCalls cfz.P cfz.glob 66 [(.d (.sl a73 a74)), (.d (.v (.func (.func 67) (#[]) (#[]))))] (out66 v) := tree_pure knil ok66 (s := .c0 a73 a74) rfl (by kernel_rfl) v h

/-! F37 -/
inductive S37 where
  | c0 (a71 : Nat) (a72 : List DV)
def out37 (v : Int) : AV := (.d (.v (.int .i64 v)))
noncomputable def st37 : S37 → ASt
  | .c0 a71 a72 => ent cfz 37 [(.d (.sl a71 a72))]
noncomputable def B37 : S37 → Tr S37 (Int)
  | .c0 a71 a72 => (.br (decide ((↑a71 : Int) > 4096))
  (.ret 5)
  (.bind (F66 a71 a72) fun v117 =>
  (.sees [(.d (.sl a71 a72)), (.d (.v (.func (.func 67) (#[]) (#[]))))] (.bind (F35 v117.fst v117.snd) fun v118 =>
  (.sees [(.d (.sl v117.fst v117.snd))] (.ret v118))))))
noncomputable def F37 (a71 : Nat) (a72 : List DV) : Option (Int) := res B37 (.c0 a71 a72)
noncomputable def D37_0 (a71 : Nat) (a72 : List DV) : DT cfz := (.go 11 [] [] (.split 5 (.go 6 [(.br true)] [0] .fin) (.go 5 [(.br false)] [0] (.bind (f66 a71 a72) fun v117 => (.go 1 [(.ck 0)] [] (.bind (f35 v117.fst v117.snd) fun v118 => (.go 4 [(.ck 1)] [] .fin)))))))
theorem k37_0 (a71 : Nat) (a72 : List DV) : xrun cfz 37 (D37_0 a71 a72) [] (st37 (.c0 a71 a72)) = (B37 (.c0 a71 a72)).mach st37 out37 := by kernel_rfl
theorem ok37 : ∀ s, ∃ d, xrun cfz 37 d [] (st37 s) = (B37 s).mach st37 out37
  | .c0 a71 a72 => ⟨_, k37_0 a71 a72⟩
theorem f37 (a71 : Nat) (a72 : List DV) (v : Int) (h : F37 a71 a72 = some v) : PureCalls cfz.P cfz.glob 37 [(.d (.sl a71 a72))] (out37 v) := tree_pure knil ok37 (s := .c0 a71 a72) rfl (by kernel_rfl) v h

/-! F70 -/
inductive S70 where
  | c0 (a165 : Nat)
def out70 (v : Int) : AV := (.d (.v (.int .i64 v)))
noncomputable def st70 : S70 → ASt
  | .c0 a165 => ent cfz 70 [(.d (.v (.float .f32 a165)))]
noncomputable def B70 : S70 → Tr S70 (Int)
  | .c0 a165 => (.ask (.eqB (fok BinOp.mul FloatKind.f32 1098907648 a165) true) (.ask (.eqB (ftoiOk FloatKind.f32 (fval BinOp.mul FloatKind.f32 1098907648 a165) IntKind.i64) true) (.ret (ftoi FloatKind.f32 (fval BinOp.mul FloatKind.f32 1098907648 a165) IntKind.i64))))
noncomputable def F70 (a165 : Nat) : Option (Int) := res B70 (.c0 a165)
noncomputable def D70_0 (a165 : Nat) : DT cfz := (.go 12 [] [] .fin)
theorem k70_0 (a165 : Nat) : xrun cfz 70 (D70_0 a165) [] (st70 (.c0 a165)) = (B70 (.c0 a165)).mach st70 out70 := by kernel_rfl
theorem ok70 : ∀ s, ∃ d, xrun cfz 70 d [] (st70 s) = (B70 s).mach st70 out70
  | .c0 a165 => ⟨_, k70_0 a165⟩
theorem f70 (a165 : Nat) (v : Int) (h : F70 a165 = some v) : PureCalls cfz.P cfz.glob 70 [(.d (.v (.float .f32 a165)))] (out70 v) := tree_pure knil ok70 (s := .c0 a165) rfl (by kernel_rfl) v h

/-! F58 -/
inductive S58 where
  | c0 (a157 a158 a159 a160 a161 a162 a163 a164 : Nat)
def out58 (v : Int × Int) : AV := (.agg [(.d (.v (.int .i64 v.fst))), (.d (.v (.int .i64 v.snd)))])
noncomputable def st58 : S58 → ASt
  | .c0 a157 a158 a159 a160 a161 a162 a163 a164 => ent cfz 58 [(.agg [(.d (.v (.float .f32 a157))), (.d (.v (.float .f32 a158))), (.d (.v (.float .f32 a159))), (.d (.v (.float .f32 a160)))]), (.agg [(.d (.v (.float .f32 a161))), (.d (.v (.float .f32 a162))), (.d (.v (.float .f32 a163))), (.d (.v (.float .f32 a164)))])]
noncomputable def B58 : S58 → Tr S58 (Int × Int)
  | .c0 a157 a158 a159 a160 a161 a162 a163 a164 => (.bind (F70 a157) fun v166 =>
  (.bind (F70 a161) fun v167 =>
  (.sees [(.d (.v (.float .f32 a157)))] (.sees [(.d (.v (.float .f32 a161)))] (.ask (.in64 (v166 * v167)) (.ask (.in64 (0 + v166 * v167)) (.bind (F70 a160) fun v168 =>
  (.sees [(.d (.v (.float .f32 a160)))] (.sees [(.d (.v (.float .f32 a161)))] (.ask (.in64 (v168 * v167)) (.ask (.in64 (0 + v168 * v167)) (.bind (F70 a158) fun v169 =>
  (.bind (F70 a162) fun v170 =>
  (.sees [(.d (.v (.float .f32 a158)))] (.sees [(.d (.v (.float .f32 a162)))] (.ask (.in64 (v169 * v170)) (.ask (.in64 (0 + v166 * v167 + v169 * v170)) (.sees [(.d (.v (.float .f32 a157)))] (.sees [(.d (.v (.float .f32 a162)))] (.ask (.in64 (v166 * v170)) (.ask (.in64 (0 + v168 * v167 + v166 * v170)) (.bind (F70 a159) fun v171 =>
  (.bind (F70 a163) fun v172 =>
  (.sees [(.d (.v (.float .f32 a159)))] (.sees [(.d (.v (.float .f32 a163)))] (.ask (.in64 (v171 * v172)) (.ask (.in64 (0 + v166 * v167 + v169 * v170 + v171 * v172)) (.sees [(.d (.v (.float .f32 a158)))] (.sees [(.d (.v (.float .f32 a163)))] (.ask (.in64 (v169 * v172)) (.ask (.in64 (0 + v168 * v167 + v166 * v170 + v169 * v172)) (.bind (F70 a164) fun v173 =>
  (.sees [(.d (.v (.float .f32 a160)))] (.sees [(.d (.v (.float .f32 a164)))] (.ask (.in64 (v168 * v173)) (.ask (.in64 (0 + v166 * v167 + v169 * v170 + v171 * v172 + v168 * v173)) (.sees [(.d (.v (.float .f32 a159)))] (.sees [(.d (.v (.float .f32 a164)))] (.ask (.in64 (v171 * v173)) (.ask (.in64 (0 + v168 * v167 + v166 * v170 + v169 * v172 + v171 * v173)) (.ret ((0 + v166 * v167 + v169 * v170 + v171 * v172 + v168 * v173), (0 + v168 * v167 + v166 * v170 + v169 * v172 + v171 * v173)))))))))))))))))))))))))))))))))))))))))))
noncomputable def F58 (a157 a158 a159 a160 a161 a162 a163 a164 : Nat) : Option (Int × Int) := res B58 (.c0 a157 a158 a159 a160 a161 a162 a163 a164)
noncomputable def D58_0 (a157 a158 a159 a160 a161 a162 a163 a164 : Nat) : DT cfz := (.go 33 [(.br true)] [0] (.bind (f70 a157) fun v166 => (.bind (f70 a161) fun v167 => (.go 2 [(.ck 0), (.ck 1)] [0, 1, 3, 4] (.bind (f70 a160) fun v168 => (.go 23 [.none, .none, (.ck 2), .none, (.ck 1), .none, (.br true)] [0, 1, 2, 3, 5, 6, 10, 11] (.bind (f70 a158) fun v169 => (.bind (f70 a162) fun v170 => (.go 25 [.none, .none, (.ck 3), .none, (.ck 4), .none, .none, .none, (.ck 0), .none, (.ck 4), .none, (.br true)] [0, 1, 3, 4, 8, 9, 10, 11, 13, 14, 18, 19] (.bind (f70 a159) fun v171 => (.bind (f70 a163) fun v172 => (.go 25 [.none, .none, (.ck 5), .none, (.ck 6), .none, .none, .none, (.ck 3), .none, (.ck 6), .none, (.br true)] [0, 1, 3, 4, 8, 9, 10, 11, 13, 14, 18, 19] (.bind (f70 a164) fun v173 => (.go 22 [.none, .none, (.ck 2), .none, (.ck 7), .none, .none, .none, (.ck 5), .none, (.ck 7), .none, (.br false)] [0, 1, 3, 4, 8, 9, 10, 11, 13, 14, 18, 19] .fin))))))))))))))
theorem k58_0 (a157 a158 a159 a160 a161 a162 a163 a164 : Nat) : xrun cfz 58 (D58_0 a157 a158 a159 a160 a161 a162 a163 a164) [] (st58 (.c0 a157 a158 a159 a160 a161 a162 a163 a164)) = (B58 (.c0 a157 a158 a159 a160 a161 a162 a163 a164)).mach st58 out58 := by kernel_rfl
theorem ok58 : ∀ s, ∃ d, xrun cfz 58 d [] (st58 s) = (B58 s).mach st58 out58
  | .c0 a157 a158 a159 a160 a161 a162 a163 a164 => ⟨_, k58_0 a157 a158 a159 a160 a161 a162 a163 a164⟩
theorem f58 (a157 a158 a159 a160 a161 a162 a163 a164 : Nat) (v : Int × Int) (h : F58 a157 a158 a159 a160 a161 a162 a163 a164 = some v) : PureCalls cfz.P cfz.glob 58 [(.agg [(.d (.v (.float .f32 a157))), (.d (.v (.float .f32 a158))), (.d (.v (.float .f32 a159))), (.d (.v (.float .f32 a160)))]), (.agg [(.d (.v (.float .f32 a161))), (.d (.v (.float .f32 a162))), (.d (.v (.float .f32 a163))), (.d (.v (.float .f32 a164)))])] (out58 v) := tree_pure knil ok58 (s := .c0 a157 a158 a159 a160 a161 a162 a163 a164) rfl (by kernel_rfl) v h

/-! F40 -/
inductive S40 where
  | c0 (a175 a176 a177 : Int)
def out40 (v : Int × Int) : AV := (.agg [(.d (.v (.int .i64 v.fst))), (.d (.v (.int .i64 v.snd)))])
noncomputable def st40 : S40 → ASt
  | .c0 a175 a176 a177 => ent cfz 40 [(.agg [(aI a175), (aI a176)]), (aI a177)]
noncomputable def B40 : S40 → Tr S40 (Int × Int)
  | .c0 a175 a176 a177 => (.ask (.in64 (a176 + a177)) (.ask (.in64 ((a176 + a177).tdiv 1000000)) (.ask (.in64 (a175 + (a176 + a177).tdiv 1000000)) (.ret (((a175 + (a176 + a177).tdiv 1000000).tmod 1000000), ((a176 + a177).tmod 1000000))))))
noncomputable def F40 (a175 a176 a177 : Int) : Option (Int × Int) := res B40 (.c0 a175 a176 a177)
noncomputable def D40_0 (a175 a176 a177 : Int) : DT cfz := (.go 27 [] [1, 4, 5] .fin)
theorem k40_0 (a175 a176 a177 : Int) : xrun cfz 40 (D40_0 a175 a176 a177) [] (st40 (.c0 a175 a176 a177)) = (B40 (.c0 a175 a176 a177)).mach st40 out40 := by kernel_rfl
theorem ok40 : ∀ s, ∃ d, xrun cfz 40 d [] (st40 s) = (B40 s).mach st40 out40
  | .c0 a175 a176 a177 => ⟨_, k40_0 a175 a176 a177⟩
theorem f40 (a175 a176 a177 : Int) (v : Int × Int) (h : F40 a175 a176 a177 = some v) : PureCalls cfz.P cfz.glob 40 [(.agg [(aI a175), (aI a176)]), (aI a177)] (out40 v) := tree_pure knil ok40 (s := .c0 a175 a176 a177) rfl (by kernel_rfl) v h

/-! F41 -/
inductive S41 where
  | c0 (a179 a180 : Int)
def out41 (v : Int) : AV := (.d (.v (.int .i64 v)))
noncomputable def st41 : S41 → ASt
  | .c0 a179 a180 => ent cfz 41 [(.agg [(aI a179), (aI a180)])]
noncomputable def B41 : S41 → Tr S41 (Int)
  | .c0 a179 a180 => (.br (if true = true then a179 == 0 && (a180 == 0 && true) else !(a179 == 0 && (a180 == 0 && true)))
  (.ret 0)
  (.br (decide (a179 ≥ 0))
  (.br (decide (a180 ≥ 0))
  (.ret 1)
  (.ask (.eqB (decide (a180 ≥ 0)) false) (.br (decide (a179 < 0))
  (.ret 3)
  (.ret 4))))
  (.br (decide (a180 ≥ 0))
  (.ret 2)
  (.br (decide (a179 < 0))
  (.ret 3)
  (.ret 4)))))
noncomputable def F41 (a179 a180 : Int) : Option (Int) := res B41 (.c0 a179 a180)
noncomputable def D41_0 (a179 a180 : Int) : DT cfz := (.go 14 [] [] (.split 3 (.go 6 [(.br true)] [0] .fin) (.go 7 [(.br false)] [0] (.split 11 (.go 6 [(.br true), (.br true), .none, (.br true)] [0, 1, 2] (.split 7 (.go 6 [(.br true)] [0] .fin) (.go 8 [(.br false)] [0] (.assume 16 false (.go 8 [(.br false)] [0] (.split 20 (.go 6 [(.br true)] [0] .fin) (.go 8 [(.br false)] [0] .fin))))))) (.go 14 [(.br false), (.br false), (.br false), .none, (.br false)] [0, 1, 2, 3] (.split 16 (.go 6 [(.br true)] [0] .fin) (.go 8 [(.br false)] [0] (.split 20 (.go 6 [(.br true)] [0] .fin) (.go 8 [(.br false)] [0] .fin)))))))))
theorem k41_0 (a179 a180 : Int) : xrun cfz 41 (D41_0 a179 a180) [] (st41 (.c0 a179 a180)) = (B41 (.c0 a179 a180)).mach st41 out41 := by kernel_rfl
theorem ok41 : ∀ s, ∃ d, xrun cfz 41 d [] (st41 s) = (B41 s).mach st41 out41
  | .c0 a179 a180 => ⟨_, k41_0 a179 a180⟩
theorem f41 (a179 a180 v : Int) (h : F41 a179 a180 = some v) : PureCalls cfz.P cfz.glob 41 [(.agg [(aI a179), (aI a180)])] (out41 v) := tree_pure knil ok41 (s := .c0 a179 a180) rfl (by kernel_rfl) v h

/-! F8 -/
inductive S8 where
  | c0 (a0 a1 a2 a3 a4 a5 a6 a7 a8 a9 a10 a11 : Int) (a12 : Nat) (a13 : List DV) (a14 : Nat) (a15 : List DV)
  | c1 (y128 x129 x130 x131 x132 x133 x134 x135 x136 x137 x138 x139 x140 : Int) (x141 : Nat) (x142 : List DV) (x143 : Nat) (x144 : List DV) (y220 y221 y213 y214 x145 y222 y223 y215 y216 x146 x147 x148 x149 x150 : Int) (x151 : Bool) (x152 x153 : Int) (x154 : Bool) (x155 : Int) (x156 : List DV)
  | c2 (y183 : Int) (x184 : List AV) (x185 : Nat) (x186 : List DV) (x187 : Nat) (x188 : List DV) (x189 x190 x191 x192 x193 x194 x195 x196 x197 x198 x199 x200 x201 y228 y229 y230 y231 x202 x203 x204 x205 x206 : Int) (x207 : Bool) (x208 x209 : Int) (x210 : Bool) (x211 : Int) (x212 : List DV)
def out8 (v : Int × Int × Int × Int × Int × Int × Int × Int × Int × Int × Int × Int × Int) : AV := (.tup [(.agg [(.d (.v (.int .i64 v.fst))), (.d (.v (.int .i64 v.snd.fst))), (.d (.v (.int .i64 v.snd.snd.fst))), (.d (.v (.int .i64 v.snd.snd.snd.fst))), (.d (.v (.int .i64 v.snd.snd.snd.snd.fst))), (.d (.v (.int .i64 v.snd.snd.snd.snd.snd.fst))), (.d (.v (.int .i64 v.snd.snd.snd.snd.snd.snd.fst))), (.d (.v (.int .i64 v.snd.snd.snd.snd.snd.snd.snd.fst))), (.d (.v (.int .i64 v.snd.snd.snd.snd.snd.snd.snd.snd.fst))), (.d (.v (.int .i64 v.snd.snd.snd.snd.snd.snd.snd.snd.snd.fst))), (.d (.v (.int .i64 v.snd.snd.snd.snd.snd.snd.snd.snd.snd.snd.fst))), (.d (.v (.int .i64 v.snd.snd.snd.snd.snd.snd.snd.snd.snd.snd.snd.fst)))]), (.d (.v (.int .i64 v.snd.snd.snd.snd.snd.snd.snd.snd.snd.snd.snd.snd)))])
noncomputable def st8 : S8 → ASt
  | .c0 a0 a1 a2 a3 a4 a5 a6 a7 a8 a9 a10 a11 a12 a13 a14 a15 => ent cfz 8 [(.agg [(aI a0), (aI a1), (aI a2), (aI a3), (aI a4), (aI a5), (aI a6), (aI a7), (aI a8), (aI a9), (aI a10), (aI a11)]), (.d (.sl a12 a13)), (.d (.sl a14 a15))]
  | .c1 y128 x129 x130 x131 x132 x133 x134 x135 x136 x137 x138 x139 x140 x141 x142 x143 x144 y220 y221 y213 y214 x145 y222 y223 y215 y216 x146 x147 x148 x149 x150 x151 x152 x153 x154 x155 x156 => ⟨⟨68, sp 30 0 [(0, (.yl 6)), (1, (.ptr 3 0)), (2, (.ptr 4 0)), (4, (aI y128))], [(.code (cd cfz.P 68 [1, 0, 0])), (.inLoop (cd cfz.P 68 [1, 0, 0])), (.inBlock 0)], [], false, .none⟩, [⟨8, sp 73 0 [(3, (.ptr 0 0)), (6, (.ptr 1 0)), (7, (aI 0))], [(.inRng 6), (.inBlock 0), (.code (cd cfz.P 8 [1, 1, 1]))], [5], false, .none⟩], [(.cells [(aI x129), (aI x130), (aI x131), (aI x132), (aI x133), (aI x134), (aI x135), (aI x136), (aI x137), (aI x138), (aI x139), (aI x140)] 37), (.cells [(aI 0), (aI 0), (aI 0), (aI 0), (aI 0), (aI 0), (aI 0), (aI 0), (aI 0), (aI 0), (aI 0), (aI 0)] 37), (.tail 0), (.cells [(.d (.sl x141 x142))] 29), (.cells [(.d (.sl x143 x144))] 29), .defd, (.loop ⟨.ready, .none, 8, [(.agg [(aI y220), (aI y221), (aI y213), (aI y214), (aI x133), (aI x134), (aI x135), (aI x136), (aI x137), (aI x138), (aI x139), (aI x140)]), (.d (.sl x141 x142)), (.d (.sl x143 x144)), (.ptr 0 0), .any, .any, (.ptr 1 0), (aI 0), (aI x145), .any, .any, .any, (.agg [(aI y222), (aI y223), (aI y215), (aI y216), (aI x133), (aI x134), (aI x135), (aI x136), (aI x137), (aI x138), (aI x139), (aI x140)]), (aI x146), (.d (.sl x141 x142)), (aI x147), (.d (.sl x143 x144)), (aI x148), (.d (.sl x141 x142)), (aI x149), (.d (.sl x143 x144)), (aI x150), (.d (.v (.bool x151))), (aI x152), (.d (.sl x141 x142)), (aI x149), (aI x153), (.d (.v (.bool x154))), (aI x155), (.own 2 0 1 5 x156), (aI x145), (aI x145), (.d (.v (.bool false))), .any, .any, (.d (.sl x141 x142)), (.d (.sl x143 x144)), (.fn (.func 68) [] [(.ptr 3 0), (.ptr 4 0)]), .any, .any, .any, .any, .any, .any, .any, .any, .any, .any, .any, .any, .any, .any, .any, .any, .any, .any, .any, .any, .any, .any, .any, .any, .any, .any, .any, .any, .any, .any, .any, .any, .any, .any, .any], (#[38]), (cd cfz.P 8 [1, 1, 0, 1, 0, 0]), (cd cfz.P 8 [1, 1, 0, 1, 0, 1]), 5⟩)]⟩
  | .c2 y183 x184 x185 x186 x187 x188 x189 x190 x191 x192 x193 x194 x195 x196 x197 x198 x199 x200 x201 y228 y229 y230 y231 x202 x203 x204 x205 x206 x207 x208 x209 x210 x211 x212 => ⟨⟨68, sp 30 0 [(0, (.yl 6)), (1, (.ptr 3 0)), (2, (.ptr 4 0)), (4, (aI y183))], [(.code (cd cfz.P 68 [1, 0, 0])), (.inLoop (cd cfz.P 68 [1, 0, 0])), (.inBlock 0)], [], false, .none⟩, [⟨8, sp 73 0 [(3, (.ptr 0 0)), (6, (.ptr 1 0)), (7, (aI 0))], [(.inRng 6), (.inBlock 0), (.code (cd cfz.P 8 [1, 1, 1]))], [5], false, .none⟩], [(.cells x184 37), (.cells [(aI 0), (aI 0), (aI 0), (aI 0), (aI 0), (aI 0), (aI 0), (aI 0), (aI 0), (aI 0), (aI 0), (aI 0)] 37), (.tail 0), (.cells [(.d (.sl x185 x186))] 29), (.cells [(.d (.sl x187 x188))] 29), .defd, (.loop ⟨.ready, .none, 8, [(.agg [(aI x189), (aI x190), (aI x191), (aI x192), (aI x193), (aI x194), (aI x195), (aI x196), (aI x197), (aI x198), (aI x199), (aI x200)]), (.d (.sl x185 x186)), (.d (.sl x187 x188)), (.ptr 0 0), .any, .any, (.ptr 1 0), (aI 0), (aI x201), .any, .any, .any, (.agg [(aI y228), (aI y229), (aI y230), (aI y231), (aI x193), (aI x194), (aI x195), (aI x196), (aI x197), (aI x198), (aI x199), (aI x200)]), (aI x202), (.d (.sl x185 x186)), (aI x203), (.d (.sl x187 x188)), (aI x204), (.d (.sl x185 x186)), (aI x205), (.d (.sl x187 x188)), (aI x206), (.d (.v (.bool x207))), (aI x208), (.d (.sl x185 x186)), (aI x205), (aI x209), (.d (.v (.bool x210))), (aI x211), (.own 2 0 1 5 x212), (aI x201), (aI x201), (.d (.v (.bool false))), .any, .any, (.d (.sl x185 x186)), (.d (.sl x187 x188)), (.fn (.func 68) [] [(.ptr 3 0), (.ptr 4 0)]), .any, .any, .any, .any, .any, .any, .any, .any, .any, .any, .any, .any, .any, .any, .any, .any, .any, .any, .any, .any, .any, .any, .any, .any, .any, .any, .any, .any, .any, .any, .any, .any, .any, .any, .any], (#[38]), (cd cfz.P 8 [1, 1, 0, 1, 0, 0]), (cd cfz.P 8 [1, 1, 0, 1, 0, 1]), 5⟩)]⟩
noncomputable def B8 : S8 → Tr S8 (Int × Int × Int × Int × Int × Int × Int × Int × Int × Int × Int × Int × Int)
  | .c0 a0 a1 a2 a3 a4 a5 a6 a7 a8 a9 a10 a11 a12 a13 a14 a15 => (.bind (F36 a0 a1 a2 a3 a4 a5 a6 a7 a8 a9 a10 a11) fun v70 =>
  (.sees [(.agg [(aI a0), (aI a1), (aI a2), (aI a3), (aI a4), (aI a5), (aI a6), (aI a7), (aI a8), (aI a9), (aI a10), (aI a11)])] (.bind (F37 a12 a13) fun v119 =>
  (.sees [(.d (.sl a12 a13))] (.bind (F37 a14 a15) fun v120 =>
  (.sees [(.d (.sl a14 a15))] (.bind (F38 ((↑a12 : Int) != (↑a14 : Int)) 2) fun v121 =>
  (.sees [(.d (.v (.bool ((↑a12 : Int) != (↑a14 : Int))))), (aI 2)] (.bind (F38 ((↑a12 : Int).tmod 4 != 0) 16) fun v122 =>
  (.sees [(.d (.v (.bool ((↑a12 : Int).tmod 4 != 0)))), (aI 16)] (.bind (F35 5 [(.v (.int .i64 v70)), (.v (.int .i64 v119)), (.v (.int .i64 v120)), (.v (.int .i64 v121)), (.v (.int .i64 v122))]) fun v123 =>
  (.sees [(.d (.sl 5 [(vI v70), (vI v119), (vI v120), (vI v121), (vI v122)]))] (.br (v123 != 0)
  (.ret (0, 0, 0, 0, 0, 0, 0, 0, 0, 0, 0, 0, v123))
  (.nxt (.c1 0 a0 a1 a2 a3 a4 a5 a6 a7 a8 a9 a10 a11 a12 a13 a14 a15 a0 a1 a2 a3 v123 a0 a1 a2 a3 v70 v119 v120 ((↑a12 : Int)) ((↑a14 : Int)) ((↑a12 : Int) != (↑a14 : Int)) v121 ((↑a12 : Int).tmod 4) ((↑a12 : Int).tmod 4 != 0) v122 [(.v (.int .i64 v70)), (.v (.int .i64 v119)), (.v (.int .i64 v120)), (.v (.int .i64 v121)), (.v (.int .i64 v122))])))))))))))))))
  | .c1 y128 x129 x130 x131 x132 x133 x134 x135 x136 x137 x138 x139 x140 x141 x142 x143 x144 y220 y221 y213 y214 x145 y222 y223 y215 y216 x146 x147 x148 x149 x150 x151 x152 x153 x154 x155 x156 => (.ask (.in64 (y128 + 4)) (.br (decide (y128 + 4 ≤ (↑x141 : Int)))
  (.bind (F58 (dF (cel (List.take (((y128 + 4).toNat - y128.toNat) * 1) (List.drop (y128.toNat * 1) x142)) 0)) (dF (cel (List.take (((y128 + 4).toNat - y128.toNat) * 1) (List.drop (y128.toNat * 1) x142)) 1)) (dF (cel (List.take (((y128 + 4).toNat - y128.toNat) * 1) (List.drop (y128.toNat * 1) x142)) 2)) (dF (cel (List.take (((y128 + 4).toNat - y128.toNat) * 1) (List.drop (y128.toNat * 1) x142)) 3)) (dF (cel (List.take (((y128 + 4).toNat - y128.toNat) * 1) (List.drop (y128.toNat * 1) x144)) 0)) (dF (cel (List.take (((y128 + 4).toNat - y128.toNat) * 1) (List.drop (y128.toNat * 1) x144)) 1)) (dF (cel (List.take (((y128 + 4).toNat - y128.toNat) * 1) (List.drop (y128.toNat * 1) x144)) 2)) (dF (cel (List.take (((y128 + 4).toNat - y128.toNat) * 1) (List.drop (y128.toNat * 1) x144)) 3))) fun v224 =>
  (.ask (.in64 (y128 + 4)) (.ask (.le 0 y128) (.ask (.le y128 (y128 + 4)) (.ask (.le (y128 + 4) ((↑x141 : Int))) (.ask (.eqN x142.length (x141 * 1)) (.ask (.leN 4 ((y128 + 4).toNat - y128.toNat)) (.ask (.leN 4 ((List.take (((y128 + 4).toNat - y128.toNat) * 1) (List.drop (y128.toNat * 1) x142)).length)) (.ask (.prop (List.map AV.d (List.take 4 (List.take (((y128 + 4).toNat - y128.toNat) * 1) (List.drop (y128.toNat * 1) x142))) = [AV.d (DV.v (Value.float FloatKind.f32 (dF (cel (List.take (((y128 + 4).toNat - y128.toNat) * 1) (List.drop (y128.toNat * 1) x142)) 0)))), AV.d (DV.v (Value.float FloatKind.f32 (dF (cel (List.take (((y128 + 4).toNat - y128.toNat) * 1) (List.drop (y128.toNat * 1) x142)) 1)))), AV.d (DV.v (Value.float FloatKind.f32 (dF (cel (List.take (((y128 + 4).toNat - y128.toNat) * 1) (List.drop (y128.toNat * 1) x142)) 2)))), AV.d (DV.v (Value.float FloatKind.f32 (dF (cel (List.take (((y128 + 4).toNat - y128.toNat) * 1) (List.drop (y128.toNat * 1) x142)) 3))))])) (.ask (.in64 (y128 + 4)) (.ask (.le 0 y128) (.ask (.le y128 (y128 + 4)) (.ask (.le (y128 + 4) ((↑x143 : Int))) (.ask (.eqN x144.length (x143 * 1)) (.ask (.leN 4 ((y128 + 4).toNat - y128.toNat)) (.ask (.leN 4 ((List.take (((y128 + 4).toNat - y128.toNat) * 1) (List.drop (y128.toNat * 1) x144)).length)) (.ask (.prop (List.map AV.d (List.take 4 (List.take (((y128 + 4).toNat - y128.toNat) * 1) (List.drop (y128.toNat * 1) x144))) = [AV.d (DV.v (Value.float FloatKind.f32 (dF (cel (List.take (((y128 + 4).toNat - y128.toNat) * 1) (List.drop (y128.toNat * 1) x144)) 0)))), AV.d (DV.v (Value.float FloatKind.f32 (dF (cel (List.take (((y128 + 4).toNat - y128.toNat) * 1) (List.drop (y128.toNat * 1) x144)) 1)))), AV.d (DV.v (Value.float FloatKind.f32 (dF (cel (List.take (((y128 + 4).toNat - y128.toNat) * 1) (List.drop (y128.toNat * 1) x144)) 2)))), AV.d (DV.v (Value.float FloatKind.f32 (dF (cel (List.take (((y128 + 4).toNat - y128.toNat) * 1) (List.drop (y128.toNat * 1) x144)) 3))))])) (.sees [(.agg [(.d (.v (.float .f32 (dF (cel (List.take (((y128 + 4).toNat - y128.toNat) * 1) (List.drop (y128.toNat * 1) x142)) 0))))), (.d (.v (.float .f32 (dF (cel (List.take (((y128 + 4).toNat - y128.toNat) * 1) (List.drop (y128.toNat * 1) x142)) 1))))), (.d (.v (.float .f32 (dF (cel (List.take (((y128 + 4).toNat - y128.toNat) * 1) (List.drop (y128.toNat * 1) x142)) 2))))), (.d (.v (.float .f32 (dF (cel (List.take (((y128 + 4).toNat - y128.toNat) * 1) (List.drop (y128.toNat * 1) x142)) 3)))))]), (.agg [(.d (.v (.float .f32 (dF (cel (List.take (((y128 + 4).toNat - y128.toNat) * 1) (List.drop (y128.toNat * 1) x144)) 0))))), (.d (.v (.float .f32 (dF (cel (List.take (((y128 + 4).toNat - y128.toNat) * 1) (List.drop (y128.toNat * 1) x144)) 1))))), (.d (.v (.float .f32 (dF (cel (List.take (((y128 + 4).toNat - y128.toNat) * 1) (List.drop (y128.toNat * 1) x144)) 2))))), (.d (.v (.float .f32 (dF (cel (List.take (((y128 + 4).toNat - y128.toNat) * 1) (List.drop (y128.toNat * 1) x144)) 3)))))])] (.br (decide (v224.fst < 0))
  (.bind (F40 x131 x132 (if -v224.fst > v224.fst then -v224.fst else v224.fst)) fun v225 =>
  (.ask (.in64 (-v224.fst)) (.sees [(.agg [(aI x131), (aI x132)]), (aI (if -v224.fst > v224.fst then -v224.fst else v224.fst))] (.br (v224.snd != 0)
  (.bind (F41 v224.fst v224.snd) fun v226 =>
  (.sees [(.agg [(aI v224.fst), (aI v224.snd)])] (.ask (.in64 (1 + v226)) (.bind (F40 (dI (celA [AV.d (DV.v (Value.int IntKind.i64 x129)), AV.d (DV.v (Value.int IntKind.i64 x130)), AV.d (DV.v (Value.int IntKind.i64 v225.fst)), AV.d (DV.v (Value.int IntKind.i64 v225.snd)), AV.d (DV.v (Value.int IntKind.i64 x133)), AV.d (DV.v (Value.int IntKind.i64 x134)), AV.d (DV.v (Value.int IntKind.i64 x135)), AV.d (DV.v (Value.int IntKind.i64 x136)), AV.d (DV.v (Value.int IntKind.i64 x137)), AV.d (DV.v (Value.int IntKind.i64 x138)), AV.d (DV.v (Value.int IntKind.i64 x139)), AV.d (DV.v (Value.int IntKind.i64 x140))] (0 + (1 + v226).toNat * 2))) (dI (celA [AV.d (DV.v (Value.int IntKind.i64 x129)), AV.d (DV.v (Value.int IntKind.i64 x130)), AV.d (DV.v (Value.int IntKind.i64 v225.fst)), AV.d (DV.v (Value.int IntKind.i64 v225.snd)), AV.d (DV.v (Value.int IntKind.i64 x133)), AV.d (DV.v (Value.int IntKind.i64 x134)), AV.d (DV.v (Value.int IntKind.i64 x135)), AV.d (DV.v (Value.int IntKind.i64 x136)), AV.d (DV.v (Value.int IntKind.i64 x137)), AV.d (DV.v (Value.int IntKind.i64 x138)), AV.d (DV.v (Value.int IntKind.i64 x139)), AV.d (DV.v (Value.int IntKind.i64 x140))] (0 + (1 + v226).toNat * 2 + 1))) (if -v224.snd > v224.snd then -v224.snd else v224.snd)) fun v227 =>
  (.ask (.le 0 (1 + v226)) (.ask (.lt (1 + v226) 6) (.ask (.leN (0 + (1 + v226).toNat * 2 + 2) 12) (.ask (.prop (List.take 2 (List.drop (0 + (1 + v226).toNat * 2) [AV.d (DV.v (Value.int IntKind.i64 x129)), AV.d (DV.v (Value.int IntKind.i64 x130)), AV.d (DV.v (Value.int IntKind.i64 v225.fst)), AV.d (DV.v (Value.int IntKind.i64 v225.snd)), AV.d (DV.v (Value.int IntKind.i64 x133)), AV.d (DV.v (Value.int IntKind.i64 x134)), AV.d (DV.v (Value.int IntKind.i64 x135)), AV.d (DV.v (Value.int IntKind.i64 x136)), AV.d (DV.v (Value.int IntKind.i64 x137)), AV.d (DV.v (Value.int IntKind.i64 x138)), AV.d (DV.v (Value.int IntKind.i64 x139)), AV.d (DV.v (Value.int IntKind.i64 x140))]) = [AV.d (DV.v (Value.int IntKind.i64 (dI (celA [AV.d (DV.v (Value.int IntKind.i64 x129)), AV.d (DV.v (Value.int IntKind.i64 x130)), AV.d (DV.v (Value.int IntKind.i64 v225.fst)), AV.d (DV.v (Value.int IntKind.i64 v225.snd)), AV.d (DV.v (Value.int IntKind.i64 x133)), AV.d (DV.v (Value.int IntKind.i64 x134)), AV.d (DV.v (Value.int IntKind.i64 x135)), AV.d (DV.v (Value.int IntKind.i64 x136)), AV.d (DV.v (Value.int IntKind.i64 x137)), AV.d (DV.v (Value.int IntKind.i64 x138)), AV.d (DV.v (Value.int IntKind.i64 x139)), AV.d (DV.v (Value.int IntKind.i64 x140))] (0 + (1 + v226).toNat * 2))))), AV.d (DV.v (Value.int IntKind.i64 (dI (celA [AV.d (DV.v (Value.int IntKind.i64 x129)), AV.d (DV.v (Value.int IntKind.i64 x130)), AV.d (DV.v (Value.int IntKind.i64 v225.fst)), AV.d (DV.v (Value.int IntKind.i64 v225.snd)), AV.d (DV.v (Value.int IntKind.i64 x133)), AV.d (DV.v (Value.int IntKind.i64 x134)), AV.d (DV.v (Value.int IntKind.i64 x135)), AV.d (DV.v (Value.int IntKind.i64 x136)), AV.d (DV.v (Value.int IntKind.i64 x137)), AV.d (DV.v (Value.int IntKind.i64 x138)), AV.d (DV.v (Value.int IntKind.i64 x139)), AV.d (DV.v (Value.int IntKind.i64 x140))] (0 + (1 + v226).toNat * 2 + 1)))))])) (.ask (.in64 (-v224.snd)) (.sees [(.agg [(aI (dI (celA [aI x129, aI x130, aI v225.fst, aI v225.snd, aI x133, aI x134, aI x135, aI x136, aI x137, aI x138, aI x139, aI x140] (0 + (1 + v226).toNat * 2)))), (aI (dI (celA [aI x129, aI x130, aI v225.fst, aI v225.snd, aI x133, aI x134, aI x135, aI x136, aI x137, aI x138, aI x139, aI x140] (0 + (1 + v226).toNat * 2 + 1))))]), (aI (if -v224.snd > v224.snd then -v224.snd else v224.snd))] (.ask (.le 0 (1 + v226)) (.ask (.lt (1 + v226) 6) (.ask (.leN (0 + (1 + v226).toNat * 2 + 2) 12) (.triv _ (tv_p (spliceA [AV.d (DV.v (Value.int IntKind.i64 x129)), AV.d (DV.v (Value.int IntKind.i64 x130)), AV.d (DV.v (Value.int IntKind.i64 v225.fst)), AV.d (DV.v (Value.int IntKind.i64 v225.snd)), AV.d (DV.v (Value.int IntKind.i64 x133)), AV.d (DV.v (Value.int IntKind.i64 x134)), AV.d (DV.v (Value.int IntKind.i64 x135)), AV.d (DV.v (Value.int IntKind.i64 x136)), AV.d (DV.v (Value.int IntKind.i64 x137)), AV.d (DV.v (Value.int IntKind.i64 x138)), AV.d (DV.v (Value.int IntKind.i64 x139)), AV.d (DV.v (Value.int IntKind.i64 x140))] (0 + (1 + v226).toNat * 2) [AV.d (DV.v (Value.int IntKind.i64 v227.fst)), AV.d (DV.v (Value.int IntKind.i64 v227.snd))])) (.ask (.in64 (y128 + 4)) (.ask (.prop (refK 7 (ABlk.cells (spliceA [AV.d (DV.v (Value.int IntKind.i64 x129)), AV.d (DV.v (Value.int IntKind.i64 x130)), AV.d (DV.v (Value.int IntKind.i64 v225.fst)), AV.d (DV.v (Value.int IntKind.i64 v225.snd)), AV.d (DV.v (Value.int IntKind.i64 x133)), AV.d (DV.v (Value.int IntKind.i64 x134)), AV.d (DV.v (Value.int IntKind.i64 x135)), AV.d (DV.v (Value.int IntKind.i64 x136)), AV.d (DV.v (Value.int IntKind.i64 x137)), AV.d (DV.v (Value.int IntKind.i64 x138)), AV.d (DV.v (Value.int IntKind.i64 x139)), AV.d (DV.v (Value.int IntKind.i64 x140))] (0 + (1 + v226).toNat * 2) [AV.d (DV.v (Value.int IntKind.i64 v227.fst)), AV.d (DV.v (Value.int IntKind.i64 v227.snd))]) 37) = true)) (.nxt (.c2 (y128 + 4) (spliceA [AV.d (DV.v (Value.int IntKind.i64 x129)), AV.d (DV.v (Value.int IntKind.i64 x130)), AV.d (DV.v (Value.int IntKind.i64 v225.fst)), AV.d (DV.v (Value.int IntKind.i64 v225.snd)), AV.d (DV.v (Value.int IntKind.i64 x133)), AV.d (DV.v (Value.int IntKind.i64 x134)), AV.d (DV.v (Value.int IntKind.i64 x135)), AV.d (DV.v (Value.int IntKind.i64 x136)), AV.d (DV.v (Value.int IntKind.i64 x137)), AV.d (DV.v (Value.int IntKind.i64 x138)), AV.d (DV.v (Value.int IntKind.i64 x139)), AV.d (DV.v (Value.int IntKind.i64 x140))] (0 + (1 + v226).toNat * 2) [AV.d (DV.v (Value.int IntKind.i64 v227.fst)), AV.d (DV.v (Value.int IntKind.i64 v227.snd))]) x141 x142 x143 x144 y220 y221 y213 y214 x133 x134 x135 x136 x137 x138 x139 x140 x145 y222 y223 y215 y216 x146 x147 x148 x149 x150 x151 x152 x153 x154 x155 x156))))))))))))))))))
  (.ask (.in64 (y128 + 4)) (.nxt (.c1 (y128 + 4) x129 x130 v225.fst v225.snd x133 x134 x135 x136 x137 x138 x139 x140 x141 x142 x143 x144 y220 y221 y213 y214 x145 y222 y223 y215 y216 x146 x147 x148 x149 x150 x151 x152 x153 x154 x155 x156)))))))
  (.bind (F40 x129 x130 (if -v224.fst > v224.fst then -v224.fst else v224.fst)) fun v232 =>
  (.ask (.in64 (-v224.fst)) (.sees [(.agg [(aI x129), (aI x130)]), (aI (if -v224.fst > v224.fst then -v224.fst else v224.fst))] (.br (v224.snd != 0)
  (.bind (F41 v224.fst v224.snd) fun v233 =>
  (.sees [(.agg [(aI v224.fst), (aI v224.snd)])] (.ask (.in64 (1 + v233)) (.bind (F40 (dI (celA [AV.d (DV.v (Value.int IntKind.i64 v232.fst)), AV.d (DV.v (Value.int IntKind.i64 v232.snd)), AV.d (DV.v (Value.int IntKind.i64 x131)), AV.d (DV.v (Value.int IntKind.i64 x132)), AV.d (DV.v (Value.int IntKind.i64 x133)), AV.d (DV.v (Value.int IntKind.i64 x134)), AV.d (DV.v (Value.int IntKind.i64 x135)), AV.d (DV.v (Value.int IntKind.i64 x136)), AV.d (DV.v (Value.int IntKind.i64 x137)), AV.d (DV.v (Value.int IntKind.i64 x138)), AV.d (DV.v (Value.int IntKind.i64 x139)), AV.d (DV.v (Value.int IntKind.i64 x140))] (0 + (1 + v233).toNat * 2))) (dI (celA [AV.d (DV.v (Value.int IntKind.i64 v232.fst)), AV.d (DV.v (Value.int IntKind.i64 v232.snd)), AV.d (DV.v (Value.int IntKind.i64 x131)), AV.d (DV.v (Value.int IntKind.i64 x132)), AV.d (DV.v (Value.int IntKind.i64 x133)), AV.d (DV.v (Value.int IntKind.i64 x134)), AV.d (DV.v (Value.int IntKind.i64 x135)), AV.d (DV.v (Value.int IntKind.i64 x136)), AV.d (DV.v (Value.int IntKind.i64 x137)), AV.d (DV.v (Value.int IntKind.i64 x138)), AV.d (DV.v (Value.int IntKind.i64 x139)), AV.d (DV.v (Value.int IntKind.i64 x140))] (0 + (1 + v233).toNat * 2 + 1))) (if -v224.snd > v224.snd then -v224.snd else v224.snd)) fun v234 =>
  (.ask (.le 0 (1 + v233)) (.ask (.lt (1 + v233) 6) (.ask (.leN (0 + (1 + v233).toNat * 2 + 2) 12) (.ask (.prop (List.take 2 (List.drop (0 + (1 + v233).toNat * 2) [AV.d (DV.v (Value.int IntKind.i64 v232.fst)), AV.d (DV.v (Value.int IntKind.i64 v232.snd)), AV.d (DV.v (Value.int IntKind.i64 x131)), AV.d (DV.v (Value.int IntKind.i64 x132)), AV.d (DV.v (Value.int IntKind.i64 x133)), AV.d (DV.v (Value.int IntKind.i64 x134)), AV.d (DV.v (Value.int IntKind.i64 x135)), AV.d (DV.v (Value.int IntKind.i64 x136)), AV.d (DV.v (Value.int IntKind.i64 x137)), AV.d (DV.v (Value.int IntKind.i64 x138)), AV.d (DV.v (Value.int IntKind.i64 x139)), AV.d (DV.v (Value.int IntKind.i64 x140))]) = [AV.d (DV.v (Value.int IntKind.i64 (dI (celA [AV.d (DV.v (Value.int IntKind.i64 v232.fst)), AV.d (DV.v (Value.int IntKind.i64 v232.snd)), AV.d (DV.v (Value.int IntKind.i64 x131)), AV.d (DV.v (Value.int IntKind.i64 x132)), AV.d (DV.v (Value.int IntKind.i64 x133)), AV.d (DV.v (Value.int IntKind.i64 x134)), AV.d (DV.v (Value.int IntKind.i64 x135)), AV.d (DV.v (Value.int IntKind.i64 x136)), AV.d (DV.v (Value.int IntKind.i64 x137)), AV.d (DV.v (Value.int IntKind.i64 x138)), AV.d (DV.v (Value.int IntKind.i64 x139)), AV.d (DV.v (Value.int IntKind.i64 x140))] (0 + (1 + v233).toNat * 2))))), AV.d (DV.v (Value.int IntKind.i64 (dI (celA [AV.d (DV.v (Value.int IntKind.i64 v232.fst)), AV.d (DV.v (Value.int IntKind.i64 v232.snd)), AV.d (DV.v (Value.int IntKind.i64 x131)), AV.d (DV.v (Value.int IntKind.i64 x132)), AV.d (DV.v (Value.int IntKind.i64 x133)), AV.d (DV.v (Value.int IntKind.i64 x134)), AV.d (DV.v (Value.int IntKind.i64 x135)), AV.d (DV.v (Value.int IntKind.i64 x136)), AV.d (DV.v (Value.int IntKind.i64 x137)), AV.d (DV.v (Value.int IntKind.i64 x138)), AV.d (DV.v (Value.int IntKind.i64 x139)), AV.d (DV.v (Value.int IntKind.i64 x140))] (0 + (1 + v233).toNat * 2 + 1)))))])) (.ask (.in64 (-v224.snd)) (.sees [(.agg [(aI (dI (celA [aI v232.fst, aI v232.snd, aI x131, aI x132, aI x133, aI x134, aI x135, aI x136, aI x137, aI x138, aI x139, aI x140] (0 + (1 + v233).toNat * 2)))), (aI (dI (celA [aI v232.fst, aI v232.snd, aI x131, aI x132, aI x133, aI x134, aI x135, aI x136, aI x137, aI x138, aI x139, aI x140] (0 + (1 + v233).toNat * 2 + 1))))]), (aI (if -v224.snd > v224.snd then -v224.snd else v224.snd))] (.ask (.le 0 (1 + v233)) (.ask (.lt (1 + v233) 6) (.ask (.leN (0 + (1 + v233).toNat * 2 + 2) 12) (.triv _ (tv_p (spliceA [AV.d (DV.v (Value.int IntKind.i64 v232.fst)), AV.d (DV.v (Value.int IntKind.i64 v232.snd)), AV.d (DV.v (Value.int IntKind.i64 x131)), AV.d (DV.v (Value.int IntKind.i64 x132)), AV.d (DV.v (Value.int IntKind.i64 x133)), AV.d (DV.v (Value.int IntKind.i64 x134)), AV.d (DV.v (Value.int IntKind.i64 x135)), AV.d (DV.v (Value.int IntKind.i64 x136)), AV.d (DV.v (Value.int IntKind.i64 x137)), AV.d (DV.v (Value.int IntKind.i64 x138)), AV.d (DV.v (Value.int IntKind.i64 x139)), AV.d (DV.v (Value.int IntKind.i64 x140))] (0 + (1 + v233).toNat * 2) [AV.d (DV.v (Value.int IntKind.i64 v234.fst)), AV.d (DV.v (Value.int IntKind.i64 v234.snd))])) (.ask (.in64 (y128 + 4)) (.ask (.prop (refK 7 (ABlk.cells (spliceA [AV.d (DV.v (Value.int IntKind.i64 v232.fst)), AV.d (DV.v (Value.int IntKind.i64 v232.snd)), AV.d (DV.v (Value.int IntKind.i64 x131)), AV.d (DV.v (Value.int IntKind.i64 x132)), AV.d (DV.v (Value.int IntKind.i64 x133)), AV.d (DV.v (Value.int IntKind.i64 x134)), AV.d (DV.v (Value.int IntKind.i64 x135)), AV.d (DV.v (Value.int IntKind.i64 x136)), AV.d (DV.v (Value.int IntKind.i64 x137)), AV.d (DV.v (Value.int IntKind.i64 x138)), AV.d (DV.v (Value.int IntKind.i64 x139)), AV.d (DV.v (Value.int IntKind.i64 x140))] (0 + (1 + v233).toNat * 2) [AV.d (DV.v (Value.int IntKind.i64 v234.fst)), AV.d (DV.v (Value.int IntKind.i64 v234.snd))]) 37) = true)) (.nxt (.c2 (y128 + 4) (spliceA [AV.d (DV.v (Value.int IntKind.i64 v232.fst)), AV.d (DV.v (Value.int IntKind.i64 v232.snd)), AV.d (DV.v (Value.int IntKind.i64 x131)), AV.d (DV.v (Value.int IntKind.i64 x132)), AV.d (DV.v (Value.int IntKind.i64 x133)), AV.d (DV.v (Value.int IntKind.i64 x134)), AV.d (DV.v (Value.int IntKind.i64 x135)), AV.d (DV.v (Value.int IntKind.i64 x136)), AV.d (DV.v (Value.int IntKind.i64 x137)), AV.d (DV.v (Value.int IntKind.i64 x138)), AV.d (DV.v (Value.int IntKind.i64 x139)), AV.d (DV.v (Value.int IntKind.i64 x140))] (0 + (1 + v233).toNat * 2) [AV.d (DV.v (Value.int IntKind.i64 v234.fst)), AV.d (DV.v (Value.int IntKind.i64 v234.snd))]) x141 x142 x143 x144 y220 y221 y213 y214 x133 x134 x135 x136 x137 x138 x139 x140 x145 y222 y223 y215 y216 x146 x147 x148 x149 x150 x151 x152 x153 x154 x155 x156))))))))))))))))))
  (.ask (.in64 (y128 + 4)) (.nxt (.c1 (y128 + 4) v232.fst v232.snd x131 x132 x133 x134 x135 x136 x137 x138 x139 x140 x141 x142 x143 x144 y220 y221 y213 y214 x145 y222 y223 y215 y216 x146 x147 x148 x149 x150 x151 x152 x153 x154 x155 x156))))))))))))))))))))))))))
  (.ret (x129, x130, x131, x132, x133, x134, x135, x136, x137, x138, x139, x140, 0))))
  | .c2 y183 x184 x185 x186 x187 x188 x189 x190 x191 x192 x193 x194 x195 x196 x197 x198 x199 x200 x201 y228 y229 y230 y231 x202 x203 x204 x205 x206 x207 x208 x209 x210 x211 x212 => (.ask (.in64 (y183 + 4)) (.br (decide (y183 + 4 ≤ (↑x185 : Int)))
  (.bind (F58 (dF (cel (List.take (((y183 + 4).toNat - y183.toNat) * 1) (List.drop (y183.toNat * 1) x186)) 0)) (dF (cel (List.take (((y183 + 4).toNat - y183.toNat) * 1) (List.drop (y183.toNat * 1) x186)) 1)) (dF (cel (List.take (((y183 + 4).toNat - y183.toNat) * 1) (List.drop (y183.toNat * 1) x186)) 2)) (dF (cel (List.take (((y183 + 4).toNat - y183.toNat) * 1) (List.drop (y183.toNat * 1) x186)) 3)) (dF (cel (List.take (((y183 + 4).toNat - y183.toNat) * 1) (List.drop (y183.toNat * 1) x188)) 0)) (dF (cel (List.take (((y183 + 4).toNat - y183.toNat) * 1) (List.drop (y183.toNat * 1) x188)) 1)) (dF (cel (List.take (((y183 + 4).toNat - y183.toNat) * 1) (List.drop (y183.toNat * 1) x188)) 2)) (dF (cel (List.take (((y183 + 4).toNat - y183.toNat) * 1) (List.drop (y183.toNat * 1) x188)) 3))) fun v235 =>
  (.ask (.in64 (y183 + 4)) (.ask (.le 0 y183) (.ask (.le y183 (y183 + 4)) (.ask (.le (y183 + 4) ((↑x185 : Int))) (.ask (.eqN x186.length (x185 * 1)) (.ask (.leN 4 ((y183 + 4).toNat - y183.toNat)) (.ask (.leN 4 ((List.take (((y183 + 4).toNat - y183.toNat) * 1) (List.drop (y183.toNat * 1) x186)).length)) (.ask (.prop (List.map AV.d (List.take 4 (List.take (((y183 + 4).toNat - y183.toNat) * 1) (List.drop (y183.toNat * 1) x186))) = [AV.d (DV.v (Value.float FloatKind.f32 (dF (cel (List.take (((y183 + 4).toNat - y183.toNat) * 1) (List.drop (y183.toNat * 1) x186)) 0)))), AV.d (DV.v (Value.float FloatKind.f32 (dF (cel (List.take (((y183 + 4).toNat - y183.toNat) * 1) (List.drop (y183.toNat * 1) x186)) 1)))), AV.d (DV.v (Value.float FloatKind.f32 (dF (cel (List.take (((y183 + 4).toNat - y183.toNat) * 1) (List.drop (y183.toNat * 1) x186)) 2)))), AV.d (DV.v (Value.float FloatKind.f32 (dF (cel (List.take (((y183 + 4).toNat - y183.toNat) * 1) (List.drop (y183.toNat * 1) x186)) 3))))])) (.ask (.in64 (y183 + 4)) (.ask (.le 0 y183) (.ask (.le y183 (y183 + 4)) (.ask (.le (y183 + 4) ((↑x187 : Int))) (.ask (.eqN x188.length (x187 * 1)) (.ask (.leN 4 ((y183 + 4).toNat - y183.toNat)) (.ask (.leN 4 ((List.take (((y183 + 4).toNat - y183.toNat) * 1) (List.drop (y183.toNat * 1) x188)).length)) (.ask (.prop (List.map AV.d (List.take 4 (List.take (((y183 + 4).toNat - y183.toNat) * 1) (List.drop (y183.toNat * 1) x188))) = [AV.d (DV.v (Value.float FloatKind.f32 (dF (cel (List.take (((y183 + 4).toNat - y183.toNat) * 1) (List.drop (y183.toNat * 1) x188)) 0)))), AV.d (DV.v (Value.float FloatKind.f32 (dF (cel (List.take (((y183 + 4).toNat - y183.toNat) * 1) (List.drop (y183.toNat * 1) x188)) 1)))), AV.d (DV.v (Value.float FloatKind.f32 (dF (cel (List.take (((y183 + 4).toNat - y183.toNat) * 1) (List.drop (y183.toNat * 1) x188)) 2)))), AV.d (DV.v (Value.float FloatKind.f32 (dF (cel (List.take (((y183 + 4).toNat - y183.toNat) * 1) (List.drop (y183.toNat * 1) x188)) 3))))])) (.sees [(.agg [(.d (.v (.float .f32 (dF (cel (List.take (((y183 + 4).toNat - y183.toNat) * 1) (List.drop (y183.toNat * 1) x186)) 0))))), (.d (.v (.float .f32 (dF (cel (List.take (((y183 + 4).toNat - y183.toNat) * 1) (List.drop (y183.toNat * 1) x186)) 1))))), (.d (.v (.float .f32 (dF (cel (List.take (((y183 + 4).toNat - y183.toNat) * 1) (List.drop (y183.toNat * 1) x186)) 2))))), (.d (.v (.float .f32 (dF (cel (List.take (((y183 + 4).toNat - y183.toNat) * 1) (List.drop (y183.toNat * 1) x186)) 3)))))]), (.agg [(.d (.v (.float .f32 (dF (cel (List.take (((y183 + 4).toNat - y183.toNat) * 1) (List.drop (y183.toNat * 1) x188)) 0))))), (.d (.v (.float .f32 (dF (cel (List.take (((y183 + 4).toNat - y183.toNat) * 1) (List.drop (y183.toNat * 1) x188)) 1))))), (.d (.v (.float .f32 (dF (cel (List.take (((y183 + 4).toNat - y183.toNat) * 1) (List.drop (y183.toNat * 1) x188)) 2))))), (.d (.v (.float .f32 (dF (cel (List.take (((y183 + 4).toNat - y183.toNat) * 1) (List.drop (y183.toNat * 1) x188)) 3)))))])] (.br (decide (v235.fst < 0))
  (.bind (F40 (dI (celA x184 2)) (dI (celA x184 3)) (if -v235.fst > v235.fst then -v235.fst else v235.fst)) fun v236 =>
  (.ask (.leN 4 x184.length) (.ask (.prop (List.take 2 (List.drop 2 x184) = [AV.d (DV.v (Value.int IntKind.i64 (dI (celA x184 2)))), AV.d (DV.v (Value.int IntKind.i64 (dI (celA x184 3))))])) (.ask (.in64 (-v235.fst)) (.sees [(.agg [(aI (dI (celA x184 2))), (aI (dI (celA x184 3)))]), (aI (if -v235.fst > v235.fst then -v235.fst else v235.fst))] (.ask (.leN 4 x184.length) (.triv _ (tv_p (spliceA x184 2 [AV.d (DV.v (Value.int IntKind.i64 v236.fst)), AV.d (DV.v (Value.int IntKind.i64 v236.snd))])) (.br (v235.snd != 0)
  (.bind (F41 v235.fst v235.snd) fun v237 =>
  (.sees [(.agg [(aI v235.fst), (aI v235.snd)])] (.ask (.in64 (1 + v237)) (.bind (F40 (dI (celA (spliceA x184 2 [AV.d (DV.v (Value.int IntKind.i64 v236.fst)), AV.d (DV.v (Value.int IntKind.i64 v236.snd))]) (0 + (1 + v237).toNat * 2))) (dI (celA (spliceA x184 2 [AV.d (DV.v (Value.int IntKind.i64 v236.fst)), AV.d (DV.v (Value.int IntKind.i64 v236.snd))]) (0 + (1 + v237).toNat * 2 + 1))) (if -v235.snd > v235.snd then -v235.snd else v235.snd)) fun v238 =>
  (.ask (.le 0 (1 + v237)) (.ask (.lt (1 + v237) 6) (.ask (.leN (0 + (1 + v237).toNat * 2 + 2) ((spliceA x184 2 [AV.d (DV.v (Value.int IntKind.i64 v236.fst)), AV.d (DV.v (Value.int IntKind.i64 v236.snd))]).length)) (.ask (.prop (List.take 2 (List.drop (0 + (1 + v237).toNat * 2) (spliceA x184 2 [AV.d (DV.v (Value.int IntKind.i64 v236.fst)), AV.d (DV.v (Value.int IntKind.i64 v236.snd))])) = [AV.d (DV.v (Value.int IntKind.i64 (dI (celA (spliceA x184 2 [AV.d (DV.v (Value.int IntKind.i64 v236.fst)), AV.d (DV.v (Value.int IntKind.i64 v236.snd))]) (0 + (1 + v237).toNat * 2))))), AV.d (DV.v (Value.int IntKind.i64 (dI (celA (spliceA x184 2 [AV.d (DV.v (Value.int IntKind.i64 v236.fst)), AV.d (DV.v (Value.int IntKind.i64 v236.snd))]) (0 + (1 + v237).toNat * 2 + 1)))))])) (.ask (.in64 (-v235.snd)) (.sees [(.agg [(aI (dI (celA (spliceA x184 2 [aI v236.fst, aI v236.snd]) (0 + (1 + v237).toNat * 2)))), (aI (dI (celA (spliceA x184 2 [aI v236.fst, aI v236.snd]) (0 + (1 + v237).toNat * 2 + 1))))]), (aI (if -v235.snd > v235.snd then -v235.snd else v235.snd))] (.ask (.le 0 (1 + v237)) (.ask (.lt (1 + v237) 6) (.ask (.leN (0 + (1 + v237).toNat * 2 + 2) ((spliceA x184 2 [AV.d (DV.v (Value.int IntKind.i64 v236.fst)), AV.d (DV.v (Value.int IntKind.i64 v236.snd))]).length)) (.triv _ (tv_p (spliceA (spliceA x184 2 [AV.d (DV.v (Value.int IntKind.i64 v236.fst)), AV.d (DV.v (Value.int IntKind.i64 v236.snd))]) (0 + (1 + v237).toNat * 2) [AV.d (DV.v (Value.int IntKind.i64 v238.fst)), AV.d (DV.v (Value.int IntKind.i64 v238.snd))])) (.ask (.in64 (y183 + 4)) (.ask (.prop (refK 7 (ABlk.cells (spliceA (spliceA x184 2 [AV.d (DV.v (Value.int IntKind.i64 v236.fst)), AV.d (DV.v (Value.int IntKind.i64 v236.snd))]) (0 + (1 + v237).toNat * 2) [AV.d (DV.v (Value.int IntKind.i64 v238.fst)), AV.d (DV.v (Value.int IntKind.i64 v238.snd))]) 37) = true)) (.nxt (.c2 (y183 + 4) (spliceA (spliceA x184 2 [AV.d (DV.v (Value.int IntKind.i64 v236.fst)), AV.d (DV.v (Value.int IntKind.i64 v236.snd))]) (0 + (1 + v237).toNat * 2) [AV.d (DV.v (Value.int IntKind.i64 v238.fst)), AV.d (DV.v (Value.int IntKind.i64 v238.snd))]) x185 x186 x187 x188 x189 x190 x191 x192 x193 x194 x195 x196 x197 x198 x199 x200 x201 y228 y229 y230 y231 x202 x203 x204 x205 x206 x207 x208 x209 x210 x211 x212))))))))))))))))))
  (.ask (.in64 (y183 + 4)) (.ask (.prop (refK 7 (ABlk.cells (spliceA x184 2 [AV.d (DV.v (Value.int IntKind.i64 v236.fst)), AV.d (DV.v (Value.int IntKind.i64 v236.snd))]) 37) = true)) (.nxt (.c2 (y183 + 4) (spliceA x184 2 [AV.d (DV.v (Value.int IntKind.i64 v236.fst)), AV.d (DV.v (Value.int IntKind.i64 v236.snd))]) x185 x186 x187 x188 x189 x190 x191 x192 x193 x194 x195 x196 x197 x198 x199 x200 x201 y228 y229 y230 y231 x202 x203 x204 x205 x206 x207 x208 x209 x210 x211 x212))))))))))))
  (.bind (F40 (dI (celA x184 0)) (dI (celA x184 1)) (if -v235.fst > v235.fst then -v235.fst else v235.fst)) fun v239 =>
  (.ask (.leN 2 x184.length) (.ask (.prop (List.take 2 (List.drop 0 x184) = [AV.d (DV.v (Value.int IntKind.i64 (dI (celA x184 0)))), AV.d (DV.v (Value.int IntKind.i64 (dI (celA x184 1))))])) (.ask (.in64 (-v235.fst)) (.sees [(.agg [(aI (dI (celA x184 0))), (aI (dI (celA x184 1)))]), (aI (if -v235.fst > v235.fst then -v235.fst else v235.fst))] (.ask (.leN 2 x184.length) (.triv _ (tv_p (spliceA x184 0 [AV.d (DV.v (Value.int IntKind.i64 v239.fst)), AV.d (DV.v (Value.int IntKind.i64 v239.snd))])) (.br (v235.snd != 0)
  (.bind (F41 v235.fst v235.snd) fun v240 =>
  (.sees [(.agg [(aI v235.fst), (aI v235.snd)])] (.ask (.in64 (1 + v240)) (.bind (F40 (dI (celA (spliceA x184 0 [AV.d (DV.v (Value.int IntKind.i64 v239.fst)), AV.d (DV.v (Value.int IntKind.i64 v239.snd))]) (0 + (1 + v240).toNat * 2))) (dI (celA (spliceA x184 0 [AV.d (DV.v (Value.int IntKind.i64 v239.fst)), AV.d (DV.v (Value.int IntKind.i64 v239.snd))]) (0 + (1 + v240).toNat * 2 + 1))) (if -v235.snd > v235.snd then -v235.snd else v235.snd)) fun v241 =>
  (.ask (.le 0 (1 + v240)) (.ask (.lt (1 + v240) 6) (.ask (.leN (0 + (1 + v240).toNat * 2 + 2) ((spliceA x184 0 [AV.d (DV.v (Value.int IntKind.i64 v239.fst)), AV.d (DV.v (Value.int IntKind.i64 v239.snd))]).length)) (.ask (.prop (List.take 2 (List.drop (0 + (1 + v240).toNat * 2) (spliceA x184 0 [AV.d (DV.v (Value.int IntKind.i64 v239.fst)), AV.d (DV.v (Value.int IntKind.i64 v239.snd))])) = [AV.d (DV.v (Value.int IntKind.i64 (dI (celA (spliceA x184 0 [AV.d (DV.v (Value.int IntKind.i64 v239.fst)), AV.d (DV.v (Value.int IntKind.i64 v239.snd))]) (0 + (1 + v240).toNat * 2))))), AV.d (DV.v (Value.int IntKind.i64 (dI (celA (spliceA x184 0 [AV.d (DV.v (Value.int IntKind.i64 v239.fst)), AV.d (DV.v (Value.int IntKind.i64 v239.snd))]) (0 + (1 + v240).toNat * 2 + 1)))))])) (.ask (.in64 (-v235.snd)) (.sees [(.agg [(aI (dI (celA (spliceA x184 0 [aI v239.fst, aI v239.snd]) (0 + (1 + v240).toNat * 2)))), (aI (dI (celA (spliceA x184 0 [aI v239.fst, aI v239.snd]) (0 + (1 + v240).toNat * 2 + 1))))]), (aI (if -v235.snd > v235.snd then -v235.snd else v235.snd))] (.ask (.le 0 (1 + v240)) (.ask (.lt (1 + v240) 6) (.ask (.leN (0 + (1 + v240).toNat * 2 + 2) ((spliceA x184 0 [AV.d (DV.v (Value.int IntKind.i64 v239.fst)), AV.d (DV.v (Value.int IntKind.i64 v239.snd))]).length)) (.triv _ (tv_p (spliceA (spliceA x184 0 [AV.d (DV.v (Value.int IntKind.i64 v239.fst)), AV.d (DV.v (Value.int IntKind.i64 v239.snd))]) (0 + (1 + v240).toNat * 2) [AV.d (DV.v (Value.int IntKind.i64 v241.fst)), AV.d (DV.v (Value.int IntKind.i64 v241.snd))])) (.ask (.in64 (y183 + 4)) (.ask (.prop (refK 7 (ABlk.cells (spliceA (spliceA x184 0 [AV.d (DV.v (Value.int IntKind.i64 v239.fst)), AV.d (DV.v (Value.int IntKind.i64 v239.snd))]) (0 + (1 + v240).toNat * 2) [AV.d (DV.v (Value.int IntKind.i64 v241.fst)), AV.d (DV.v (Value.int IntKind.i64 v241.snd))]) 37) = true)) (.nxt (.c2 (y183 + 4) (spliceA (spliceA x184 0 [AV.d (DV.v (Value.int IntKind.i64 v239.fst)), AV.d (DV.v (Value.int IntKind.i64 v239.snd))]) (0 + (1 + v240).toNat * 2) [AV.d (DV.v (Value.int IntKind.i64 v241.fst)), AV.d (DV.v (Value.int IntKind.i64 v241.snd))]) x185 x186 x187 x188 x189 x190 x191 x192 x193 x194 x195 x196 x197 x198 x199 x200 x201 y228 y229 y230 y231 x202 x203 x204 x205 x206 x207 x208 x209 x210 x211 x212))))))))))))))))))
  (.ask (.in64 (y183 + 4)) (.ask (.prop (refK 7 (ABlk.cells (spliceA x184 0 [AV.d (DV.v (Value.int IntKind.i64 v239.fst)), AV.d (DV.v (Value.int IntKind.i64 v239.snd))]) 37) = true)) (.nxt (.c2 (y183 + 4) (spliceA x184 0 [AV.d (DV.v (Value.int IntKind.i64 v239.fst)), AV.d (DV.v (Value.int IntKind.i64 v239.snd))]) x185 x186 x187 x188 x189 x190 x191 x192 x193 x194 x195 x196 x197 x198 x199 x200 x201 y228 y229 y230 y231 x202 x203 x204 x205 x206 x207 x208 x209 x210 x211 x212)))))))))))))))))))))))))))))))
  (.ask (.leN 12 x184.length) (.ask (.prop (List.take 12 (List.drop 0 x184) = [AV.d (DV.v (Value.int IntKind.i64 (dI (celA x184 0)))), AV.d (DV.v (Value.int IntKind.i64 (dI (celA x184 1)))), AV.d (DV.v (Value.int IntKind.i64 (dI (celA x184 2)))), AV.d (DV.v (Value.int IntKind.i64 (dI (celA x184 3)))), AV.d (DV.v (Value.int IntKind.i64 (dI (celA x184 4)))), AV.d (DV.v (Value.int IntKind.i64 (dI (celA x184 5)))), AV.d (DV.v (Value.int IntKind.i64 (dI (celA x184 6)))), AV.d (DV.v (Value.int IntKind.i64 (dI (celA x184 7)))), AV.d (DV.v (Value.int IntKind.i64 (dI (celA x184 8)))), AV.d (DV.v (Value.int IntKind.i64 (dI (celA x184 9)))), AV.d (DV.v (Value.int IntKind.i64 (dI (celA x184 10)))), AV.d (DV.v (Value.int IntKind.i64 (dI (celA x184 11))))])) (.ret ((dI (celA x184 0)), (dI (celA x184 1)), (dI (celA x184 2)), (dI (celA x184 3)), (dI (celA x184 4)), (dI (celA x184 5)), (dI (celA x184 6)), (dI (celA x184 7)), (dI (celA x184 8)), (dI (celA x184 9)), (dI (celA x184 10)), (dI (celA x184 11)), 0))))))
noncomputable def F8 (a0 a1 a2 a3 a4 a5 a6 a7 a8 a9 a10 a11 : Int) (a12 : Nat) (a13 : List DV) (a14 : Nat) (a15 : List DV) : Option (Int × Int × Int × Int × Int × Int × Int × Int × Int × Int × Int × Int × Int) := res B8 (.c0 a0 a1 a2 a3 a4 a5 a6 a7 a8 a9 a10 a11 a12 a13 a14 a15)
noncomputable def D8_0 (a0 a1 a2 a3 a4 a5 a6 a7 a8 a9 a10 a11 : Int) (a12 : Nat) (a13 : List DV) (a14 : Nat) (a15 : List DV) : DT cfz := (.go 10 [] [] (.bind (f36 a0 a1 a2 a3 a4 a5 a6 a7 a8 a9 a10 a11) fun v70 => (.go 2 [(.ck 0)] [] (.bind (f37 a12 a13) fun v119 => (.go 2 [(.ck 1)] [] (.bind (f37 a14 a15) fun v120 => (.go 6 [(.ck 2)] [] (.bind (f38 ((↑a12 : Int) != (↑a14 : Int)) 2) fun v121 => (.go 5 [(.ck 3)] [1] (.bind (f38 ((↑a12 : Int).tmod 4 != 0) 16) fun v122 => (.go 2 [(.ck 4)] [] (.bind (f35 5 [(vI v70), (vI v119), (vI v120), (vI v121), (vI v122)]) fun v123 => (.go 8 [(.ck 5)] [] (.split 32 (.go 9 [(.br true)] [0] .fin) (.go 30 [(.br false), .enter] [0] (.cut 7 [[0, 1, 2, 4], [3, 6, 7]] []))))))))))))))))
theorem k8_0 (a0 a1 a2 a3 a4 a5 a6 a7 a8 a9 a10 a11 : Int) (a12 : Nat) (a13 : List DV) (a14 : Nat) (a15 : List DV) : xrun cfz 8 (D8_0 a0 a1 a2 a3 a4 a5 a6 a7 a8 a9 a10 a11 a12 a13 a14 a15) [] (st8 (.c0 a0 a1 a2 a3 a4 a5 a6 a7 a8 a9 a10 a11 a12 a13 a14 a15)) = (B8 (.c0 a0 a1 a2 a3 a4 a5 a6 a7 a8 a9 a10 a11 a12 a13 a14 a15)).mach st8 out8 := by kernel_rfl
noncomputable def D8_1 (y128 x129 x130 x131 x132 x133 x134 x135 x136 x137 x138 x139 x140 : Int) (x141 : Nat) (x142 : List DV) (x143 : Nat) (x144 : List DV) (y220 y221 y213 y214 x145 y222 y223 y215 y216 x146 x147 x148 x149 x150 : Int) (x151 : Bool) (x152 x153 : Int) (x154 : Bool) (x155 : Int) (x156 : List DV) : DT cfz := (.go 9 [] [] (.split 9 (.go 6 [(.br true)] [0] (.bind (f58 (dF (cel (List.take (((y128 + 4).toNat - y128.toNat) * 1) (List.drop (y128.toNat * 1) x142)) 0)) (dF (cel (List.take (((y128 + 4).toNat - y128.toNat) * 1) (List.drop (y128.toNat * 1) x142)) 1)) (dF (cel (List.take (((y128 + 4).toNat - y128.toNat) * 1) (List.drop (y128.toNat * 1) x142)) 2)) (dF (cel (List.take (((y128 + 4).toNat - y128.toNat) * 1) (List.drop (y128.toNat * 1) x142)) 3)) (dF (cel (List.take (((y128 + 4).toNat - y128.toNat) * 1) (List.drop (y128.toNat * 1) x144)) 0)) (dF (cel (List.take (((y128 + 4).toNat - y128.toNat) * 1) (List.drop (y128.toNat * 1) x144)) 1)) (dF (cel (List.take (((y128 + 4).toNat - y128.toNat) * 1) (List.drop (y128.toNat * 1) x144)) 2)) (dF (cel (List.take (((y128 + 4).toNat - y128.toNat) * 1) (List.drop (y128.toNat * 1) x144)) 3))) fun v224 => (.go 18 [.none, (.as (.agg [(.d (.v (.float .f32 (dF (cel (List.take (((y128 + 4).toNat - y128.toNat) * 1) (List.drop (y128.toNat * 1) x142)) 0))))), (.d (.v (.float .f32 (dF (cel (List.take (((y128 + 4).toNat - y128.toNat) * 1) (List.drop (y128.toNat * 1) x142)) 1))))), (.d (.v (.float .f32 (dF (cel (List.take (((y128 + 4).toNat - y128.toNat) * 1) (List.drop (y128.toNat * 1) x142)) 2))))), (.d (.v (.float .f32 (dF (cel (List.take (((y128 + 4).toNat - y128.toNat) * 1) (List.drop (y128.toNat * 1) x142)) 3)))))])), .none, (.as (.agg [(.d (.v (.float .f32 (dF (cel (List.take (((y128 + 4).toNat - y128.toNat) * 1) (List.drop (y128.toNat * 1) x144)) 0))))), (.d (.v (.float .f32 (dF (cel (List.take (((y128 + 4).toNat - y128.toNat) * 1) (List.drop (y128.toNat * 1) x144)) 1))))), (.d (.v (.float .f32 (dF (cel (List.take (((y128 + 4).toNat - y128.toNat) * 1) (List.drop (y128.toNat * 1) x144)) 2))))), (.d (.v (.float .f32 (dF (cel (List.take (((y128 + 4).toNat - y128.toNat) * 1) (List.drop (y128.toNat * 1) x144)) 3)))))])), (.ck 0), .enter] [] (.split 41 (.go 6 [(.br true)] [0] (.bind (f40 x131 x132 (if -v224.fst > v224.fst then -v224.fst else v224.fst)) fun v225 => (.go 7 [(.ck 1)] [0, 1, 4, 5] (.split 56 (.go 4 [(.br true)] [0] (.bind (f41 v224.fst v224.snd) fun v226 => (.go 5 [(.ck 2)] [] (.bind (f40 (dI (celA [aI x129, aI x130, aI v225.fst, aI v225.snd, aI x133, aI x134, aI x135, aI x136, aI x137, aI x138, aI x139, aI x140] (0 + (1 + v226).toNat * 2))) (dI (celA [aI x129, aI x130, aI v225.fst, aI v225.snd, aI x133, aI x134, aI x135, aI x136, aI x137, aI x138, aI x139, aI x140] (0 + (1 + v226).toNat * 2 + 1))) (if -v224.snd > v224.snd then -v224.snd else v224.snd)) fun v227 => (.go 13 [(.as (.agg [(aI (dI (celA [aI x129, aI x130, aI v225.fst, aI v225.snd, aI x133, aI x134, aI x135, aI x136, aI x137, aI x138, aI x139, aI x140] (0 + (1 + v226).toNat * 2)))), (aI (dI (celA [aI x129, aI x130, aI v225.fst, aI v225.snd, aI x133, aI x134, aI x135, aI x136, aI x137, aI x138, aI x139, aI x140] (0 + (1 + v226).toNat * 2 + 1))))])), .none, .none, (.ck 3), (.as (.agg (spliceA [aI x129, aI x130, aI v225.fst, aI v225.snd, aI x133, aI x134, aI x135, aI x136, aI x137, aI x138, aI x139, aI x140] (0 + (1 + v226).toNat * 2) [aI v227.fst, aI v227.snd]))), (.br false)] [8, 11] (.cutP 7 [0] [[0, 1, 2, 4], [3, 6, 7]] [])))))) (.go 14 [(.br false), (.br false)] [0, 1] (.cut 7 [[0, 1, 2, 4], [3, 6, 7]] [])))))) (.go 4 [(.br false)] [0] (.bind (f40 x129 x130 (if -v224.fst > v224.fst then -v224.fst else v224.fst)) fun v232 => (.go 7 [(.ck 1)] [0, 1, 4, 5] (.split 56 (.go 4 [(.br true)] [0] (.bind (f41 v224.fst v224.snd) fun v233 => (.go 5 [(.ck 2)] [] (.bind (f40 (dI (celA [aI v232.fst, aI v232.snd, aI x131, aI x132, aI x133, aI x134, aI x135, aI x136, aI x137, aI x138, aI x139, aI x140] (0 + (1 + v233).toNat * 2))) (dI (celA [aI v232.fst, aI v232.snd, aI x131, aI x132, aI x133, aI x134, aI x135, aI x136, aI x137, aI x138, aI x139, aI x140] (0 + (1 + v233).toNat * 2 + 1))) (if -v224.snd > v224.snd then -v224.snd else v224.snd)) fun v234 => (.go 13 [(.as (.agg [(aI (dI (celA [aI v232.fst, aI v232.snd, aI x131, aI x132, aI x133, aI x134, aI x135, aI x136, aI x137, aI x138, aI x139, aI x140] (0 + (1 + v233).toNat * 2)))), (aI (dI (celA [aI v232.fst, aI v232.snd, aI x131, aI x132, aI x133, aI x134, aI x135, aI x136, aI x137, aI x138, aI x139, aI x140] (0 + (1 + v233).toNat * 2 + 1))))])), .none, .none, (.ck 3), (.as (.agg (spliceA [aI v232.fst, aI v232.snd, aI x131, aI x132, aI x133, aI x134, aI x135, aI x136, aI x137, aI x138, aI x139, aI x140] (0 + (1 + v233).toNat * 2) [aI v234.fst, aI v234.snd]))), (.br false)] [8, 11] (.cutP 7 [0] [[0, 1, 2, 4], [3, 6, 7]] [])))))) (.go 14 [(.br false), (.br false)] [0, 1] (.cut 7 [[0, 1, 2, 4], [3, 6, 7]] [])))))))))) (.go 14 [(.br false)] [0] .fin)))
theorem k8_1 (y128 x129 x130 x131 x132 x133 x134 x135 x136 x137 x138 x139 x140 : Int) (x141 : Nat) (x142 : List DV) (x143 : Nat) (x144 : List DV) (y220 y221 y213 y214 x145 y222 y223 y215 y216 x146 x147 x148 x149 x150 : Int) (x151 : Bool) (x152 x153 : Int) (x154 : Bool) (x155 : Int) (x156 : List DV) : xrun cfz 8 (D8_1 y128 x129 x130 x131 x132 x133 x134 x135 x136 x137 x138 x139 x140 x141 x142 x143 x144 y220 y221 y213 y214 x145 y222 y223 y215 y216 x146 x147 x148 x149 x150 x151 x152 x153 x154 x155 x156) [] (st8 (.c1 y128 x129 x130 x131 x132 x133 x134 x135 x136 x137 x138 x139 x140 x141 x142 x143 x144 y220 y221 y213 y214 x145 y222 y223 y215 y216 x146 x147 x148 x149 x150 x151 x152 x153 x154 x155 x156)) = (B8 (.c1 y128 x129 x130 x131 x132 x133 x134 x135 x136 x137 x138 x139 x140 x141 x142 x143 x144 y220 y221 y213 y214 x145 y222 y223 y215 y216 x146 x147 x148 x149 x150 x151 x152 x153 x154 x155 x156)).mach st8 out8 := by kernel_rfl
noncomputable def D8_2 (y183 : Int) (x184 : List AV) (x185 : Nat) (x186 : List DV) (x187 : Nat) (x188 : List DV) (x189 x190 x191 x192 x193 x194 x195 x196 x197 x198 x199 x200 x201 y228 y229 y230 y231 x202 x203 x204 x205 x206 : Int) (x207 : Bool) (x208 x209 : Int) (x210 : Bool) (x211 : Int) (x212 : List DV) : DT cfz := (.go 9 [] [] (.split 9 (.go 6 [(.br true)] [0] (.bind (f58 (dF (cel (List.take (((y183 + 4).toNat - y183.toNat) * 1) (List.drop (y183.toNat * 1) x186)) 0)) (dF (cel (List.take (((y183 + 4).toNat - y183.toNat) * 1) (List.drop (y183.toNat * 1) x186)) 1)) (dF (cel (List.take (((y183 + 4).toNat - y183.toNat) * 1) (List.drop (y183.toNat * 1) x186)) 2)) (dF (cel (List.take (((y183 + 4).toNat - y183.toNat) * 1) (List.drop (y183.toNat * 1) x186)) 3)) (dF (cel (List.take (((y183 + 4).toNat - y183.toNat) * 1) (List.drop (y183.toNat * 1) x188)) 0)) (dF (cel (List.take (((y183 + 4).toNat - y183.toNat) * 1) (List.drop (y183.toNat * 1) x188)) 1)) (dF (cel (List.take (((y183 + 4).toNat - y183.toNat) * 1) (List.drop (y183.toNat * 1) x188)) 2)) (dF (cel (List.take (((y183 + 4).toNat - y183.toNat) * 1) (List.drop (y183.toNat * 1) x188)) 3))) fun v235 => (.go 18 [.none, (.as (.agg [(.d (.v (.float .f32 (dF (cel (List.take (((y183 + 4).toNat - y183.toNat) * 1) (List.drop (y183.toNat * 1) x186)) 0))))), (.d (.v (.float .f32 (dF (cel (List.take (((y183 + 4).toNat - y183.toNat) * 1) (List.drop (y183.toNat * 1) x186)) 1))))), (.d (.v (.float .f32 (dF (cel (List.take (((y183 + 4).toNat - y183.toNat) * 1) (List.drop (y183.toNat * 1) x186)) 2))))), (.d (.v (.float .f32 (dF (cel (List.take (((y183 + 4).toNat - y183.toNat) * 1) (List.drop (y183.toNat * 1) x186)) 3)))))])), .none, (.as (.agg [(.d (.v (.float .f32 (dF (cel (List.take (((y183 + 4).toNat - y183.toNat) * 1) (List.drop (y183.toNat * 1) x188)) 0))))), (.d (.v (.float .f32 (dF (cel (List.take (((y183 + 4).toNat - y183.toNat) * 1) (List.drop (y183.toNat * 1) x188)) 1))))), (.d (.v (.float .f32 (dF (cel (List.take (((y183 + 4).toNat - y183.toNat) * 1) (List.drop (y183.toNat * 1) x188)) 2))))), (.d (.v (.float .f32 (dF (cel (List.take (((y183 + 4).toNat - y183.toNat) * 1) (List.drop (y183.toNat * 1) x188)) 3)))))])), (.ck 0), .enter] [] (.split 41 (.go 6 [(.br true)] [0] (.bind (f40 (dI (celA x184 2)) (dI (celA x184 3)) (if -v235.fst > v235.fst then -v235.fst else v235.fst)) fun v236 => (.go 7 [(.as (.agg [(aI (dI (celA x184 2))), (aI (dI (celA x184 3)))])), .none, .none, (.ck 1), (.as (.agg (spliceA x184 2 [aI v236.fst, aI v236.snd])))] [0, 1, 6, 7, 8] (.split 56 (.go 4 [(.br true)] [0] (.bind (f41 v235.fst v235.snd) fun v237 => (.go 5 [(.ck 2)] [] (.bind (f40 (dI (celA (spliceA x184 2 [aI v236.fst, aI v236.snd]) (0 + (1 + v237).toNat * 2))) (dI (celA (spliceA x184 2 [aI v236.fst, aI v236.snd]) (0 + (1 + v237).toNat * 2 + 1))) (if -v235.snd > v235.snd then -v235.snd else v235.snd)) fun v238 => (.go 13 [(.as (.agg [(aI (dI (celA (spliceA x184 2 [aI v236.fst, aI v236.snd]) (0 + (1 + v237).toNat * 2)))), (aI (dI (celA (spliceA x184 2 [aI v236.fst, aI v236.snd]) (0 + (1 + v237).toNat * 2 + 1))))])), .none, .none, (.ck 3), (.as (.agg (spliceA (spliceA x184 2 [aI v236.fst, aI v236.snd]) (0 + (1 + v237).toNat * 2) [aI v238.fst, aI v238.snd]))), (.br false)] [8, 11] (.cutP 7 [0] [[0, 1, 2, 4], [3, 6, 7]] [])))))) (.go 14 [(.br false), (.br false)] [0, 1] (.cutP 7 [0] [[0, 1, 2, 4], [3, 6, 7]] [])))))) (.go 4 [(.br false)] [0] (.bind (f40 (dI (celA x184 0)) (dI (celA x184 1)) (if -v235.fst > v235.fst then -v235.fst else v235.fst)) fun v239 => (.go 7 [(.as (.agg [(aI (dI (celA x184 0))), (aI (dI (celA x184 1)))])), .none, .none, (.ck 1), (.as (.agg (spliceA x184 0 [aI v239.fst, aI v239.snd])))] [0, 1, 6, 7, 8] (.split 56 (.go 4 [(.br true)] [0] (.bind (f41 v235.fst v235.snd) fun v240 => (.go 5 [(.ck 2)] [] (.bind (f40 (dI (celA (spliceA x184 0 [aI v239.fst, aI v239.snd]) (0 + (1 + v240).toNat * 2))) (dI (celA (spliceA x184 0 [aI v239.fst, aI v239.snd]) (0 + (1 + v240).toNat * 2 + 1))) (if -v235.snd > v235.snd then -v235.snd else v235.snd)) fun v241 => (.go 13 [(.as (.agg [(aI (dI (celA (spliceA x184 0 [aI v239.fst, aI v239.snd]) (0 + (1 + v240).toNat * 2)))), (aI (dI (celA (spliceA x184 0 [aI v239.fst, aI v239.snd]) (0 + (1 + v240).toNat * 2 + 1))))])), .none, .none, (.ck 3), (.as (.agg (spliceA (spliceA x184 0 [aI v239.fst, aI v239.snd]) (0 + (1 + v240).toNat * 2) [aI v241.fst, aI v241.snd]))), (.br false)] [8, 11] (.cutP 7 [0] [[0, 1, 2, 4], [3, 6, 7]] [])))))) (.go 14 [(.br false), (.br false)] [0, 1] (.cutP 7 [0] [[0, 1, 2, 4], [3, 6, 7]] [])))))))))) (.go 14 [(.br false), (.as (.agg [(aI (dI (celA x184 0))), (aI (dI (celA x184 1))), (aI (dI (celA x184 2))), (aI (dI (celA x184 3))), (aI (dI (celA x184 4))), (aI (dI (celA x184 5))), (aI (dI (celA x184 6))), (aI (dI (celA x184 7))), (aI (dI (celA x184 8))), (aI (dI (celA x184 9))), (aI (dI (celA x184 10))), (aI (dI (celA x184 11)))]))] [0] .fin)))
theorem k8_2 (y183 : Int) (x184 : List AV) (x185 : Nat) (x186 : List DV) (x187 : Nat) (x188 : List DV) (x189 x190 x191 x192 x193 x194 x195 x196 x197 x198 x199 x200 x201 y228 y229 y230 y231 x202 x203 x204 x205 x206 : Int) (x207 : Bool) (x208 x209 : Int) (x210 : Bool) (x211 : Int) (x212 : List DV) : xrun cfz 8 (D8_2 y183 x184 x185 x186 x187 x188 x189 x190 x191 x192 x193 x194 x195 x196 x197 x198 x199 x200 x201 y228 y229 y230 y231 x202 x203 x204 x205 x206 x207 x208 x209 x210 x211 x212) [] (st8 (.c2 y183 x184 x185 x186 x187 x188 x189 x190 x191 x192 x193 x194 x195 x196 x197 x198 x199 x200 x201 y228 y229 y230 y231 x202 x203 x204 x205 x206 x207 x208 x209 x210 x211 x212)) = (B8 (.c2 y183 x184 x185 x186 x187 x188 x189 x190 x191 x192 x193 x194 x195 x196 x197 x198 x199 x200 x201 y228 y229 y230 y231 x202 x203 x204 x205 x206 x207 x208 x209 x210 x211 x212)).mach st8 out8 := by kernel_rfl
theorem ok8 : ∀ s, ∃ d, xrun cfz 8 d [] (st8 s) = (B8 s).mach st8 out8
  | .c0 a0 a1 a2 a3 a4 a5 a6 a7 a8 a9 a10 a11 a12 a13 a14 a15 => ⟨_, k8_0 a0 a1 a2 a3 a4 a5 a6 a7 a8 a9 a10 a11 a12 a13 a14 a15⟩
  | .c1 y128 x129 x130 x131 x132 x133 x134 x135 x136 x137 x138 x139 x140 x141 x142 x143 x144 y220 y221 y213 y214 x145 y222 y223 y215 y216 x146 x147 x148 x149 x150 x151 x152 x153 x154 x155 x156 => ⟨_, k8_1 y128 x129 x130 x131 x132 x133 x134 x135 x136 x137 x138 x139 x140 x141 x142 x143 x144 y220 y221 y213 y214 x145 y222 y223 y215 y216 x146 x147 x148 x149 x150 x151 x152 x153 x154 x155 x156⟩
  | .c2 y183 x184 x185 x186 x187 x188 x189 x190 x191 x192 x193 x194 x195 x196 x197 x198 x199 x200 x201 y228 y229 y230 y231 x202 x203 x204 x205 x206 x207 x208 x209 x210 x211 x212 => ⟨_, k8_2 y183 x184 x185 x186 x187 x188 x189 x190 x191 x192 x193 x194 x195 x196 x197 x198 x199 x200 x201 y228 y229 y230 y231 x202 x203 x204 x205 x206 x207 x208 x209 x210 x211 x212⟩
theorem f8 (a0 a1 a2 a3 a4 a5 a6 a7 a8 a9 a10 a11 : Int) (a12 : Nat) (a13 : List DV) (a14 : Nat) (a15 : List DV) (v : Int × Int × Int × Int × Int × Int × Int × Int × Int × Int × Int × Int × Int) (h : F8 a0 a1 a2 a3 a4 a5 a6 a7 a8 a9 a10 a11 a12 a13 a14 a15 = some v) : PureCalls cfz.P cfz.glob 8 [(.agg [(aI a0), (aI a1), (aI a2), (aI a3), (aI a4), (aI a5), (aI a6), (aI a7), (aI a8), (aI a9), (aI a10), (aI a11)]), (.d (.sl a12 a13)), (.d (.sl a14 a15))] (out8 v) := tree_pure knil ok8 (s := .c0 a0 a1 a2 a3 a4 a5 a6 a7 a8 a9 a10 a11 a12 a13 a14 a15) rfl (by kernel_rfl) v h

end Go.Kv
