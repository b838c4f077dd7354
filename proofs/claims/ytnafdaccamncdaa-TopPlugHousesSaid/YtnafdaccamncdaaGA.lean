/- Printed: what functions of the program come to, and the kernel's proof of it. -/
import Derived.Test.YtnafdaccamncdaaKvW
import Derived.Test.YtnafdaccamncdaaKvZ
import Derived.Test.YtnafdaccamncdaaKzA
namespace Go.Kv
set_option linter.unusedVariables false
set_option linter.unusedSimpArgs false
open Go Go.RowKit Go.Proofs
set_option maxRecDepth 100000
/-! F17 -/
inductive S17 where
  | c0 (a39 : Bool) (a40 : Int)
def out17 (v : Int) : AV := (.d (.v (.int .i64 v)))
noncomputable def st17 : S17 → ASt
  | .c0 a39 a40 => ent cfz 17 [(.d (.v (.bool a39))), (aI a40)]
noncomputable def B17 : S17 → Tr S17 (Int)
  | .c0 a39 a40 => (.br a39
  (.ret a40)
  (.ret 0))
noncomputable def F17 (a39 : Bool) (a40 : Int) : Option (Int) := res B17 (.c0 a39 a40)
noncomputable def D17_0 (a39 : Bool) (a40 : Int) : DT cfz := (.go 9 [] [] (.split 5 (.go 7 [(.br true)] [0] .fin) (.go 7 [(.br false)] [0] .fin)))
theorem k17_0 (a39 : Bool) (a40 : Int) : xrun cfz 17 (D17_0 a39 a40) [] (st17 (.c0 a39 a40)) = (B17 (.c0 a39 a40)).mach st17 out17 := by kernel_rfl
theorem ok17 : ∀ s, ∃ d, xrun cfz 17 d [] (st17 s) = (B17 s).mach st17 out17
  | .c0 a39 a40 => ⟨_, k17_0 a39 a40⟩
theorem f17 (a39 : Bool) (a40 v : Int) (h : F17 a39 a40 = some v) : PureCalls cfz.P cfz.glob 17 [(.d (.v (.bool a39))), (aI a40)] (out17 v) := tree_pure knil ok17 (s := .c0 a39 a40) rfl (by kernel_rfl) v h

/-! F45 -/
inductive S45 where
  | c0 (a36 a37 a38 : Int)
def out45 (v : Int) : AV := (.d (.v (.int .i64 v)))
noncomputable def st45 : S45 → ASt
  | .c0 a36 a37 a38 => ent cfz 45 [(aI a36), (aI a37), (aI a38)]
noncomputable def B45 : S45 → Tr S45 (Int)
  | .c0 a36 a37 a38 => (.triv _ (tv_s (decide (a36 < a37) == false)) (.triv _ (tv_s (decide (a36 < a37) == false)) (.triv _ (tv_f (decide (a36 < a37))) (.bind (F17 (if decide (a36 < a37) = true then true else decide (a36 > a38)) 3) fun v41 =>
  (.sees [(.d (.v (.bool (if decide (a36 < a37) = true then true else decide (a36 > a38))))), (aI 3)] (.ret v41))))))
noncomputable def F45 (a36 a37 a38 : Int) : Option (Int) := res B45 (.c0 a36 a37 a38)
noncomputable def D45_0 (a36 a37 a38 : Int) : DT cfz := (.go 14 [(.sp .none), (.sp .none), (.sp .none), .mg] [] (.bind (f17 (if decide (a36 < a37) = true then true else decide (a36 > a38)) 3) fun v41 => (.go 4 [(.ck 0)] [] .fin)))
theorem k45_0 (a36 a37 a38 : Int) : xrun cfz 45 (D45_0 a36 a37 a38) [] (st45 (.c0 a36 a37 a38)) = (B45 (.c0 a36 a37 a38)).mach st45 out45 := by kernel_rfl
theorem ok45 : ∀ s, ∃ d, xrun cfz 45 d [] (st45 s) = (B45 s).mach st45 out45
  | .c0 a36 a37 a38 => ⟨_, k45_0 a36 a37 a38⟩
theorem f45 (a36 a37 a38 v : Int) (h : F45 a36 a37 a38 = some v) : PureCalls cfz.P cfz.glob 45 [(aI a36), (aI a37), (aI a38)] (out45 v) := tree_pure knil ok45 (s := .c0 a36 a37 a38) rfl (by kernel_rfl) v h

/-! F14 -/
inductive S14 where
  | c0 (a44 : Nat) (a45 : List DV)
  | c1 (x46 : Nat) (x47 : List DV) (x48 y49 : Int)
def out14 (v : Int) : AV := (.d (.v (.int .i64 v)))
noncomputable def st14 : S14 → ASt
  | .c0 a44 a45 => ent cfz 14 [(.d (.sl a44 a45))]
  | .c1 x46 x47 x48 y49 => ⟨⟨14, sp 15 0 [(5, (.d (.sl x46 x47))), (6, (aI x48)), (7, (aI y49))], [(.code (cd cfz.P 14 [1, 0, 1, 0, 0])), (.inLoop (cd cfz.P 14 [1, 0, 1, 0, 0])), (.inBlock 0), (.code (cd cfz.P 14 [1, 1]))], [], false, .none⟩, [], []⟩
noncomputable def B14 : S14 → Tr S14 (Int)
  | .c0 a44 a45 => (.nxt (.c1 a44 a45 ((↑a44 : Int)) 0))
  | .c1 x46 x47 x48 y49 => (.br (decide (y49 < x48))
  (.ask (.le 0 y49) (.ask (.lt y49 ((↑x46 : Int))) (.ask (.leN (y49.toNat * 1) x47.length) (.ask (.prop (Option.map AV.d (List.drop (y49.toNat * 1) x47)[0]? = some (AV.d (DV.v (Value.int IntKind.i64 (dI (cel x47 (y49.toNat * 1)))))))) (.br (dI (cel x47 (y49.toNat * 1)) != 0)
  (.ret (dI (cel x47 (y49.toNat * 1))))
  (.ask (.in64 (y49 + 1)) (.nxt (.c1 x46 x47 x48 (y49 + 1)))))))))
  (.ret 0))
noncomputable def F14 (a44 : Nat) (a45 : List DV) : Option (Int) := res B14 (.c0 a44 a45)
noncomputable def D14_0 (a44 : Nat) (a45 : List DV) : DT cfz := (.go 13 [] [] (.cut 0 [[5, 6, 7]] []))
theorem k14_0 (a44 : Nat) (a45 : List DV) : xrun cfz 14 (D14_0 a44 a45) [] (st14 (.c0 a44 a45)) = (B14 (.c0 a44 a45)).mach st14 out14 := by kernel_rfl
noncomputable def D14_1 (x46 : Nat) (x47 : List DV) (x48 y49 : Int) : DT cfz := (.go 5 [] [] (.split 8 (.go 15 [(.br true), (.as (aI (dI (cel x47 (y49.toNat * 1)))))] [0] (.split 12 (.go 7 [(.br true)] [0] .fin) (.go 8 [(.br false)] [0] (.cut 0 [[5, 6, 7]] [])))) (.go 7 [(.br false)] [0] .fin)))
theorem k14_1 (x46 : Nat) (x47 : List DV) (x48 y49 : Int) : xrun cfz 14 (D14_1 x46 x47 x48 y49) [] (st14 (.c1 x46 x47 x48 y49)) = (B14 (.c1 x46 x47 x48 y49)).mach st14 out14 := by kernel_rfl
theorem ok14 : ∀ s, ∃ d, xrun cfz 14 d [] (st14 s) = (B14 s).mach st14 out14
  | .c0 a44 a45 => ⟨_, k14_0 a44 a45⟩
  | .c1 x46 x47 x48 y49 => ⟨_, k14_1 x46 x47 x48 y49⟩
theorem f14 (a44 : Nat) (a45 : List DV) (v : Int) (h : F14 a44 a45 = some v) : PureCalls cfz.P cfz.glob 14 [(.d (.sl a44 a45))] (out14 v) := tree_pure knil ok14 (s := .c0 a44 a45) rfl (by kernel_rfl) v h

/-! F21 -/
inductive S21 where
  | c0 (a34 a35 : Int)
def out21 (v : Int) : AV := (.d (.v (.int .i64 v)))
noncomputable def st21 : S21 → ASt
  | .c0 a34 a35 => ent cfz 21 [(.agg [(aI a34), (aI a35)])]
noncomputable def B21 : S21 → Tr S21 (Int)
  | .c0 a34 a35 => (.bind (F45 a34 0 999999) fun v42 =>
  (.bind (F45 a35 0 999999) fun v43 =>
  (.bind (F14 2 [(.v (.int .i64 v42)), (.v (.int .i64 v43))]) fun v50 =>
  (.sees [(aI a34), (aI 0), (aI 999999)] (.sees [(aI a35), (aI 0), (aI 999999)] (.sees [(.d (.sl 2 [(vI v42), (vI v43)]))] (.ret v50)))))))
noncomputable def F21 (a34 a35 : Int) : Option (Int) := res B21 (.c0 a34 a35)
noncomputable def D21_0 (a34 a35 : Int) : DT cfz := (.go 7 [] [] (.bind (f45 a34 0 999999) fun v42 => (.bind (f45 a35 0 999999) fun v43 => (.bind (f14 2 [(vI v42), (vI v43)]) fun v50 => (.go 2 [(.ck 0), (.ck 1), (.ck 2)] [] .fin)))))
theorem k21_0 (a34 a35 : Int) : xrun cfz 21 (D21_0 a34 a35) [] (st21 (.c0 a34 a35)) = (B21 (.c0 a34 a35)).mach st21 out21 := by kernel_rfl
theorem ok21 : ∀ s, ∃ d, xrun cfz 21 d [] (st21 s) = (B21 s).mach st21 out21
  | .c0 a34 a35 => ⟨_, k21_0 a34 a35⟩
theorem f21 (a34 a35 v : Int) (h : F21 a34 a35 = some v) : PureCalls cfz.P cfz.glob 21 [(.agg [(aI a34), (aI a35)])] (out21 v) := tree_pure knil ok21 (s := .c0 a34 a35) rfl (by kernel_rfl) v h

/-! F40 -/
inductive S40 where
  | c0 (a28 : Nat) (a29 : List DV)
  | c1 (x30 : Nat) (x31 : List DV) (x32 y33 : Int)
  | c2 (y52 y53 : Nat) (y54 : List DV) (x55 : Nat) (x56 : List DV) (x57 y58 : Int) (y60 : Nat)
def out40 (v : Nat × List DV) : AV := (.d (.sl v.fst v.snd))
noncomputable def st40 : S40 → ASt
  | .c0 a28 a29 => ent cfz 40 [(.d (.sl a28 a29)), (.d (.v (.func (.func 21) (#[]) (#[]))))]
  | .c1 x30 x31 x32 y33 => ⟨⟨40, sp 22 0 [(1, (.d (.v (.func (.func 21) (#[]) (#[]))))), (5, (.d (.v (.slice .none 0 0)))), (8, (.d (.sl x30 x31))), (9, (aI x32)), (10, (aI y33))], [(.code (cd cfz.P 40 [1, 1, 0, 1, 0, 0])), (.inLoop (cd cfz.P 40 [1, 1, 0, 1, 0, 0])), (.inBlock 0), (.code (cd cfz.P 40 [1, 1, 1]))], [], false, .none⟩, [], []⟩
  | .c2 y52 y53 y54 x55 x56 x57 y58 y60 => ⟨⟨40, sp 22 0 [(1, (.d (.v (.func (.func 21) (#[]) (#[]))))), (5, (.own 2 y52 1 y53 y54)), (8, (.d (.sl x55 x56))), (9, (aI x57)), (10, (aI y58))], [(.code (cd cfz.P 40 [1, 1, 0, 1, 0, 0])), (.inLoop (cd cfz.P 40 [1, 1, 0, 1, 0, 0])), (.inBlock 0), (.code (cd cfz.P 40 [1, 1, 1]))], [], false, .none⟩, [], [.dead, (.tail 0), (.tail y60)]⟩
noncomputable def B40 : S40 → Tr S40 (Nat × List DV)
  | .c0 a28 a29 => (.nxt (.c1 a28 a29 ((↑a28 : Int)) 0))
  | .c1 x30 x31 x32 y33 => (.br (decide (y33 < x32))
  (.ask (.le 0 y33) (.ask (.lt y33 ((↑x30 : Int))) (.ask (.leN (y33.toNat * 2) x31.length) (.ask (.leN 2 ((List.drop (y33.toNat * 2) x31).length)) (.ask (.prop (List.map AV.d (List.take 2 (List.drop (y33.toNat * 2) x31)) = [AV.d (DV.v (Value.int IntKind.i64 (dI (cel x31 (y33.toNat * 2))))), AV.d (DV.v (Value.int IntKind.i64 (dI (cel x31 (y33.toNat * 2 + 1)))))])) (.bind (F21 (dI (cel x31 (y33.toNat * 2))) (dI (cel x31 (y33.toNat * 2 + 1)))) fun v51 =>
  (.sees [(.agg [(aI (dI (cel x31 (y33.toNat * 2)))), (aI (dI (cel x31 (y33.toNat * 2 + 1))))])] (.ask (.in64 (y33 + 1)) (.nxt (.c2 0 1 [(.v (.int .i64 v51))] x30 x31 x32 (y33 + 1) 0))))))))))
  (.ret (0, [])))
  | .c2 y52 y53 y54 x55 x56 x57 y58 y60 => (.br (decide (y58 < x57))
  (.ask (.le 0 y58) (.ask (.lt y58 ((↑x55 : Int))) (.ask (.leN (y58.toNat * 2) x56.length) (.ask (.leN 2 ((List.drop (y58.toNat * 2) x56).length)) (.ask (.prop (List.map AV.d (List.take 2 (List.drop (y58.toNat * 2) x56)) = [AV.d (DV.v (Value.int IntKind.i64 (dI (cel x56 (y58.toNat * 2))))), AV.d (DV.v (Value.int IntKind.i64 (dI (cel x56 (y58.toNat * 2 + 1)))))])) (.bind (F21 (dI (cel x56 (y58.toNat * 2))) (dI (cel x56 (y58.toNat * 2 + 1)))) fun v61 =>
  (.sees [(.agg [(aI (dI (cel x56 (y58.toNat * 2)))), (aI (dI (cel x56 (y58.toNat * 2 + 1))))])] (.ask (.eqN y52 y60) (.ask (.fits (y53 + 1) 8) (.ask (.in64 (y58 + 1)) (.nxt (.c2 (y60 + 1) (y53 + 1) (y54 ++ [DV.v (Value.int IntKind.i64 v61)]) x55 x56 x57 (y58 + 1) (y60 + 1)))))))))))))
  (.ret (y53, y54)))
noncomputable def F40 (a28 : Nat) (a29 : List DV) : Option (Nat × List DV) := res B40 (.c0 a28 a29)
noncomputable def D40_0 (a28 : Nat) (a29 : List DV) : DT cfz := (.go 17 [] [] (.cut 0 [[1, 5, 8, 9, 10]] []))
theorem k40_0 (a28 : Nat) (a29 : List DV) : xrun cfz 40 (D40_0 a28 a29) [] (st40 (.c0 a28 a29)) = (B40 (.c0 a28 a29)).mach st40 out40 := by kernel_rfl
noncomputable def D40_1 (x30 : Nat) (x31 : List DV) (x32 y33 : Int) : DT cfz := (.go 5 [] [] (.split 11 (.go 15 [(.br true), (.as (.agg [(aI (dI (cel x31 (y33.toNat * 2)))), (aI (dI (cel x31 (y33.toNat * 2 + 1))))]))] [0] (.bind (f21 (dI (cel x31 (y33.toNat * 2))) (dI (cel x31 (y33.toNat * 2 + 1)))) fun v51 => (.go 11 [(.ck 0)] [1, 2, 3] (.cut 3 [[1, 5, 8, 9, 10]] [0])))) (.go 8 [(.br false)] [0] .fin)))
theorem k40_1 (x30 : Nat) (x31 : List DV) (x32 y33 : Int) : xrun cfz 40 (D40_1 x30 x31 x32 y33) [] (st40 (.c1 x30 x31 x32 y33)) = (B40 (.c1 x30 x31 x32 y33)).mach st40 out40 := by kernel_rfl
noncomputable def D40_2 (y52 y53 : Nat) (y54 : List DV) (x55 : Nat) (x56 : List DV) (x57 y58 : Int) (y60 : Nat) : DT cfz := (.go 5 [] [] (.split 11 (.go 15 [(.br true), (.as (.agg [(aI (dI (cel x56 (y58.toNat * 2)))), (aI (dI (cel x56 (y58.toNat * 2 + 1))))]))] [0] (.bind (f21 (dI (cel x56 (y58.toNat * 2))) (dI (cel x56 (y58.toNat * 2 + 1)))) fun v61 => (.go 11 [(.ck 0)] [2, 3] (.cut 3 [[1, 5, 8, 9, 10]] [])))) (.go 8 [(.br false)] [0] .fin)))
theorem k40_2 (y52 y53 : Nat) (y54 : List DV) (x55 : Nat) (x56 : List DV) (x57 y58 : Int) (y60 : Nat) : xrun cfz 40 (D40_2 y52 y53 y54 x55 x56 x57 y58 y60) [] (st40 (.c2 y52 y53 y54 x55 x56 x57 y58 y60)) = (B40 (.c2 y52 y53 y54 x55 x56 x57 y58 y60)).mach st40 out40 := by kernel_rfl
theorem ok40 : ∀ s, ∃ d, xrun cfz 40 d [] (st40 s) = (B40 s).mach st40 out40
  | .c0 a28 a29 => ⟨_, k40_0 a28 a29⟩
  | .c1 x30 x31 x32 y33 => ⟨_, k40_1 x30 x31 x32 y33⟩
  | .c2 y52 y53 y54 x55 x56 x57 y58 y60 => ⟨_, k40_2 y52 y53 y54 x55 x56 x57 y58 y60⟩
theorem f40 (a28 : Nat) (a29 : List DV) (v : Nat × List DV) (h : F40 a28 a29 = some v) : PureCalls cfz.P cfz.glob 40 [(.d (.sl a28 a29)), (.d (.v (.func (.func 21) (#[]) (#[]))))] (out40 v) := tree_pure knil ok40 (s := .c0 a28 a29) rfl (by kernel_rfl) v h

/-! F15 -/
inductive S15 where
  | c0 (a16 a17 a18 a19 a20 a21 a22 a23 a24 a25 a26 a27 : Int)
def out15 (v : Int) : AV := (.d (.v (.int .i64 v)))
noncomputable def st15 : S15 → ASt
  | .c0 a16 a17 a18 a19 a20 a21 a22 a23 a24 a25 a26 a27 => ent cfz 15 [(.agg [(aI a16), (aI a17), (aI a18), (aI a19), (aI a20), (aI a21), (aI a22), (aI a23), (aI a24), (aI a25), (aI a26), (aI a27)])]
noncomputable def B15 : S15 → Tr S15 (Int)
  | .c0 a16 a17 a18 a19 a20 a21 a22 a23 a24 a25 a26 a27 => (.bind (F21 a16 a17) fun v63 =>
  (.sees [(.agg [(aI a16), (aI a17)])] (.bind (F21 a18 a19) fun v64 =>
  (.sees [(.agg [(aI a18), (aI a19)])] (.bind (F21 a20 a21) fun v65 =>
  (.sees [(.agg [(aI a20), (aI a21)])] (.bind (F21 a22 a23) fun v66 =>
  (.sees [(.agg [(aI a22), (aI a23)])] (.bind (F21 a24 a25) fun v67 =>
  (.sees [(.agg [(aI a24), (aI a25)])] (.bind (F21 a26 a27) fun v68 =>
  (.sees [(.agg [(aI a26), (aI a27)])] (.bind (F14 6 [(.v (.int .i64 v63)), (.v (.int .i64 v64)), (.v (.int .i64 v65)), (.v (.int .i64 v66)), (.v (.int .i64 v67)), (.v (.int .i64 v68))]) fun v69 =>
  (.sees [(.d (.sl 6 [(vI v63), (vI v64), (vI v65), (vI v66), (vI v67), (vI v68)]))] (.ret v69)))))))))))))))
noncomputable def F15 (a16 a17 a18 a19 a20 a21 a22 a23 a24 a25 a26 a27 : Int) : Option (Int) := res B15 (.c0 a16 a17 a18 a19 a20 a21 a22 a23 a24 a25 a26 a27)
noncomputable def D15_0 (a16 a17 a18 a19 a20 a21 a22 a23 a24 a25 a26 a27 : Int) : DT cfz := (.go 46 [.enter, (.br true)] [0, 1, 2, 3, 4, 5, 6] (.bind (f21 a16 a17) fun v63 => (.go 31 [(.ck 0), .none, (.br true)] [1, 2, 3, 4, 5, 6, 7] (.bind (f21 a18 a19) fun v64 => (.go 31 [(.ck 1), .none, (.br true)] [1, 2, 3, 4, 5, 6, 7, 8] (.bind (f21 a20 a21) fun v65 => (.go 31 [(.ck 2), .none, (.br true)] [1, 2, 3, 4, 5, 6, 7, 8] (.bind (f21 a22 a23) fun v66 => (.go 31 [(.ck 3), .none, (.br true)] [1, 2, 3, 4, 5, 6, 7, 8] (.bind (f21 a24 a25) fun v67 => (.go 31 [(.ck 4), .none, (.br true)] [1, 2, 3, 4, 5, 6, 7, 8] (.bind (f21 a26 a27) fun v68 => (.go 25 [(.ck 5), .none, (.br false)] [1, 2, 3, 4, 5, 6] (.bind (f14 6 [(vI v63), (vI v64), (vI v65), (vI v66), (vI v67), (vI v68)]) fun v69 => (.go 4 [(.ck 6)] [] .fin)))))))))))))))
theorem k15_0 (a16 a17 a18 a19 a20 a21 a22 a23 a24 a25 a26 a27 : Int) : xrun cfz 15 (D15_0 a16 a17 a18 a19 a20 a21 a22 a23 a24 a25 a26 a27) [] (st15 (.c0 a16 a17 a18 a19 a20 a21 a22 a23 a24 a25 a26 a27)) = (B15 (.c0 a16 a17 a18 a19 a20 a21 a22 a23 a24 a25 a26 a27)).mach st15 out15 := by kernel_rfl
theorem ok15 : ∀ s, ∃ d, xrun cfz 15 d [] (st15 s) = (B15 s).mach st15 out15
  | .c0 a16 a17 a18 a19 a20 a21 a22 a23 a24 a25 a26 a27 => ⟨_, k15_0 a16 a17 a18 a19 a20 a21 a22 a23 a24 a25 a26 a27⟩
theorem f15 (a16 a17 a18 a19 a20 a21 a22 a23 a24 a25 a26 a27 v : Int) (h : F15 a16 a17 a18 a19 a20 a21 a22 a23 a24 a25 a26 a27 = some v) : PureCalls cfz.P cfz.glob 15 [(.agg [(aI a16), (aI a17), (aI a18), (aI a19), (aI a20), (aI a21), (aI a22), (aI a23), (aI a24), (aI a25), (aI a26), (aI a27)])] (out15 v) := tree_pure knil ok15 (s := .c0 a16 a17 a18 a19 a20 a21 a22 a23 a24 a25 a26 a27) rfl (by kernel_rfl) v h

/-! F60 -/
inductive S60 where
  | c0 (a81 : Nat)
def out60 (v : Bool) : AV := (.d (.v (.bool v)))
noncomputable def st60 : S60 → ASt
  | .c0 a81 => ent cfz 60 [(.d (.v (.float .f64 a81)))]
noncomputable def B60 : S60 → Tr S60 (Bool)
  | .c0 a81 => (.ret (FloatKind.f64.format.order a81 a81 != some Ordering.eq))
noncomputable def F60 (a81 : Nat) : Option (Bool) := res B60 (.c0 a81)
noncomputable def D60_0 (a81 : Nat) : DT cfz := (.go 12 [] [] .fin)
theorem k60_0 (a81 : Nat) : xrun cfz 60 (D60_0 a81) [] (st60 (.c0 a81)) = (B60 (.c0 a81)).mach st60 out60 := by kernel_rfl
theorem ok60 : ∀ s, ∃ d, xrun cfz 60 d [] (st60 s) = (B60 s).mach st60 out60
  | .c0 a81 => ⟨_, k60_0 a81⟩
theorem f60 (a81 : Nat) (v : Bool) (h : F60 a81 = some v) : PureCalls cfz.P cfz.glob 60 [(.d (.v (.float .f64 a81)))] (out60 v) := tree_pure knil ok60 (s := .c0 a81) rfl (by kernel_rfl) v h

/-! F63 -/
inductive S63 where
  | c0 (a85 : Nat)
def out63 (v : Nat) : AV := (.d (.v (.float .f64 v)))
noncomputable def st63 : S63 → ASt
  | .c0 a85 => ent cfz 63 [(.d (.v (.float .f64 a85)))]
noncomputable def B63 : S63 → Tr S63 (Nat)
  | .c0 a85 => (.ask (.prop (∀ (w : World), Sem.run cfz.P (callFunc 67 #[Value.float FloatKind.f64 a85]) w = Result.ok (Next.value (Value.int IntKind.u64 (↑a85 : Int))) w)) (.ask (.prop (∀ (w : World), Sem.run cfz.P (callFunc 66 #[Value.int IntKind.u64 (IntKind.u64.wrap (↑(BitVec.ofInt 64 (↑a85 : Int) &&& ~~~BitVec.ofInt 64 9223372036854775808).toNat : Int))]) w = Result.ok (Next.value (Value.float FloatKind.f64 (IntKind.u64.wrap (↑(BitVec.ofInt 64 (↑a85 : Int) &&& ~~~BitVec.ofInt 64 9223372036854775808).toNat : Int)).toNat)) w)) (.ret ((IntKind.u64.wrap (↑(BitVec.ofInt 64 (↑a85 : Int) &&& ~~~BitVec.ofInt 64 9223372036854775808).toNat : Int)).toNat))))
noncomputable def F63 (a85 : Nat) : Option (Nat) := res B63 (.c0 a85)
noncomputable def D63_0 (a85 : Nat) : DT cfz := (.go 13 [(.ext (.int .u64 ((↑a85 : Int)))), (.ext (.float .f64 ((IntKind.u64.wrap (↑(BitVec.ofInt 64 (↑a85 : Int) &&& ~~~BitVec.ofInt 64 9223372036854775808).toNat : Int)).toNat)))] [] .fin)
theorem k63_0 (a85 : Nat) : xrun cfz 63 (D63_0 a85) [] (st63 (.c0 a85)) = (B63 (.c0 a85)).mach st63 out63 := by kernel_rfl
theorem ok63 : ∀ s, ∃ d, xrun cfz 63 d [] (st63 s) = (B63 s).mach st63 out63
  | .c0 a85 => ⟨_, k63_0 a85⟩
theorem f63 (a85 v : Nat) (h : F63 a85 = some v) : PureCalls cfz.P cfz.glob 63 [(.d (.v (.float .f64 a85)))] (out63 v) := tree_pure knil ok63 (s := .c0 a85) rfl (by kernel_rfl) v h

/-! F61 -/
inductive S61 where
  | c0 (a83 : Nat) (a84 : Int)
def out61 (v : Bool) : AV := (.d (.v (.bool v)))
noncomputable def st61 : S61 → ASt
  | .c0 a83 a84 => ent cfz 61 [(.d (.v (.float .f64 a83))), (aI a84)]
noncomputable def B61 : S61 → Tr S61 (Bool)
  | .c0 a83 a84 => (.br (a84 == 0)
  (.bind (F63 a83) fun v86 =>
  (.sees [(.d (.v (.float .f64 a83)))] (.ret (FloatKind.f64.format.order v86 9218868437227405311 == some Ordering.gt))))
  (.br (decide (a84 < 0))
  (.ret (FloatKind.f64.format.order (Op.negFloat FloatKind.f64 a83) 9218868437227405311 == some Ordering.gt))
  (.ret (FloatKind.f64.format.order a83 9218868437227405311 == some Ordering.gt))))
noncomputable def F61 (a83 : Nat) (a84 : Int) : Option (Bool) := res B61 (.c0 a83 a84)
noncomputable def D61_0 (a83 : Nat) (a84 : Int) : DT cfz := (.go 10 [] [] (.split 6 (.go 3 [(.br true)] [0] (.bind (f63 a83) fun v86 => (.go 10 [(.ck 0)] [] .fin))) (.go 6 [(.br false)] [0] (.split 10 (.go 13 [(.br true)] [0] .fin) (.go 9 [(.br false)] [0] .fin)))))
theorem k61_0 (a83 : Nat) (a84 : Int) : xrun cfz 61 (D61_0 a83 a84) [] (st61 (.c0 a83 a84)) = (B61 (.c0 a83 a84)).mach st61 out61 := by kernel_rfl
theorem ok61 : ∀ s, ∃ d, xrun cfz 61 d [] (st61 s) = (B61 s).mach st61 out61
  | .c0 a83 a84 => ⟨_, k61_0 a83 a84⟩
theorem f61 (a83 : Nat) (a84 : Int) (v : Bool) (h : F61 a83 a84 = some v) : PureCalls cfz.P cfz.glob 61 [(.d (.v (.float .f64 a83))), (aI a84)] (out61 v) := tree_pure knil ok61 (s := .c0 a83 a84) rfl (by kernel_rfl) v h

/-! F55 -/
inductive S55 where
  | c0 (a80 : Nat)
def out55 (v : Bool) : AV := (.d (.v (.bool v)))
noncomputable def st55 : S55 → ASt
  | .c0 a80 => ent cfz 55 [(.d (.v (.float .f32 a80)))]
noncomputable def B55 : S55 → Tr S55 (Bool)
  | .c0 a80 => (.ask (.eqB (ftofOk FloatKind.f32 a80 FloatKind.f64) true) (.bind (F60 (ftof FloatKind.f32 a80 FloatKind.f64)) fun v82 =>
  (.sees [(.d (.v (.float .f64 (ftof FloatKind.f32 a80 FloatKind.f64))))] (.br v82
  (.ret true)
  (.ask (.eqB (v82 == false) true) (.ask (.eqB (ftofOk FloatKind.f32 a80 FloatKind.f64) true) (.bind (F61 (ftof FloatKind.f32 a80 FloatKind.f64) 0) fun v87 =>
  (.sees [(.d (.v (.float .f64 (ftof FloatKind.f32 a80 FloatKind.f64)))), (aI 0)] (.ret v87)))))))))
noncomputable def F55 (a80 : Nat) : Option (Bool) := res B55 (.c0 a80)
noncomputable def D55_0 (a80 : Nat) : DT cfz := (.go 8 [] [] (.bind (f60 (ftof FloatKind.f32 a80 FloatKind.f64)) fun v82 => (.go 3 [(.ck 0), (.sp .none)] [] (.split 6 (.go 6 [(.br true), (.br true)] [0, 1] .fin) (.strip 7 (.go 1 [(.br false)] [1] (.bind (f61 (ftof FloatKind.f32 a80 FloatKind.f64) 0) fun v87 => (.go 5 [(.br false), (.ck 1)] [1] .fin))))))))
theorem k55_0 (a80 : Nat) : xrun cfz 55 (D55_0 a80) [] (st55 (.c0 a80)) = (B55 (.c0 a80)).mach st55 out55 := by kernel_rfl
theorem ok55 : ∀ s, ∃ d, xrun cfz 55 d [] (st55 s) = (B55 s).mach st55 out55
  | .c0 a80 => ⟨_, k55_0 a80⟩
theorem f55 (a80 : Nat) (v : Bool) (h : F55 a80 = some v) : PureCalls cfz.P cfz.glob 55 [(.d (.v (.float .f32 a80)))] (out55 v) := tree_pure knil ok55 (s := .c0 a80) rfl (by kernel_rfl) v h

/-! F54 -/
inductive S54 where
  | c0 (a89 : Bool) (a90 : Int)
def out54 (v : Int) : AV := (.d (.v (.int .i64 v)))
noncomputable def st54 : S54 → ASt
  | .c0 a89 a90 => ent cfz 54 [(.d (.v (.bool a89))), (aI a90)]
noncomputable def B54 : S54 → Tr S54 (Int)
  | .c0 a89 a90 => (.br a89
  (.ret a90)
  (.ret 0))
noncomputable def F54 (a89 : Bool) (a90 : Int) : Option (Int) := res B54 (.c0 a89 a90)
noncomputable def D54_0 (a89 : Bool) (a90 : Int) : DT cfz := (.go 9 [] [] (.split 5 (.go 7 [(.br true)] [0] .fin) (.go 7 [(.br false)] [0] .fin)))
theorem k54_0 (a89 : Bool) (a90 : Int) : xrun cfz 54 (D54_0 a89 a90) [] (st54 (.c0 a89 a90)) = (B54 (.c0 a89 a90)).mach st54 out54 := by kernel_rfl
theorem ok54 : ∀ s, ∃ d, xrun cfz 54 d [] (st54 s) = (B54 s).mach st54 out54
  | .c0 a89 a90 => ⟨_, k54_0 a89 a90⟩
theorem f54 (a89 : Bool) (a90 v : Int) (h : F54 a89 a90 = some v) : PureCalls cfz.P cfz.glob 54 [(.d (.v (.bool a89))), (aI a90)] (out54 v) := tree_pure knil ok54 (s := .c0 a89 a90) rfl (by kernel_rfl) v h

/-! F62 -/
inductive S62 where
  | c0 (a95 : Nat)
def out62 (v : Nat) : AV := (.d (.v (.float .f64 v)))
noncomputable def st62 : S62 → ASt
  | .c0 a95 => ent cfz 62 [(.d (.v (.float .f64 a95)))]
noncomputable def B62 : S62 → Tr S62 (Nat)
  | .c0 a95 => (.ask (.prop (∀ (w : World), Sem.run cfz.P (callFunc 64 #[Value.float FloatKind.f64 a95]) w = Result.ok (Next.value (Value.float FloatKind.f64 (floorV a95))) w)) (.ret (floorV a95)))
noncomputable def F62 (a95 : Nat) : Option (Nat) := res B62 (.c0 a95)
noncomputable def D62_0 (a95 : Nat) : DT cfz := (.go 13 [(.br true), (.ext (.float .f64 (floorV a95)))] [0] .fin)
theorem k62_0 (a95 : Nat) : xrun cfz 62 (D62_0 a95) [] (st62 (.c0 a95)) = (B62 (.c0 a95)).mach st62 out62 := by kernel_rfl
theorem ok62 : ∀ s, ∃ d, xrun cfz 62 d [] (st62 s) = (B62 s).mach st62 out62
  | .c0 a95 => ⟨_, k62_0 a95⟩
theorem f62 (a95 v : Nat) (h : F62 a95 = some v) : PureCalls cfz.P cfz.glob 62 [(.d (.v (.float .f64 a95)))] (out62 v) := tree_pure knil ok62 (s := .c0 a95) rfl (by kernel_rfl) v h

/-! F56 -/
inductive S56 where
  | c0 (a92 a93 : Nat)
def out56 (v : Int) : AV := (.d (.v (.int .i64 v)))
noncomputable def st56 : S56 → ASt
  | .c0 a92 a93 => ent cfz 56 [(.d (.v (.float .f32 a92))), (.d (.v (.float .f32 a93)))]
noncomputable def B56 : S56 → Tr S56 (Int)
  | .c0 a92 a93 => (.triv _ (tv_s ((FloatKind.f32.format.order a92 (Op.negFloat FloatKind.f32 a93) == some Ordering.lt) == false)) (.triv _ (tv_s ((FloatKind.f32.format.order a92 (Op.negFloat FloatKind.f32 a93) == some Ordering.lt) == false)) (.triv _ (tv_f (FloatKind.f32.format.order a92 (Op.negFloat FloatKind.f32 a93) == some Ordering.lt)) (.br (if (FloatKind.f32.format.order a92 (Op.negFloat FloatKind.f32 a93) == some Ordering.lt) = true then true else FloatKind.f32.format.order a92 a93 == some Ordering.gt)
  (.bind (F54 true 3) fun v94 =>
  (.sees [(.d (.v (.bool true))), (aI 3)] (.ret v94)))
  (.ask (.eqB ((if (FloatKind.f32.format.order a92 (Op.negFloat FloatKind.f32 a93) == some Ordering.lt) = true then true else FloatKind.f32.format.order a92 a93 == some Ordering.gt) == false) true) (.ask (.eqB (fok BinOp.mul FloatKind.f32 1098907648 a92) true) (.ask (.eqB (ftofOk FloatKind.f32 (fval BinOp.mul FloatKind.f32 1098907648 a92) FloatKind.f64) true) (.bind (F62 (ftof FloatKind.f32 (fval BinOp.mul FloatKind.f32 1098907648 a92) FloatKind.f64)) fun v96 =>
  (.sees [(.d (.v (.float .f64 (ftof FloatKind.f32 (fval BinOp.mul FloatKind.f32 1098907648 a92) FloatKind.f64))))] (.ask (.eqB (ftofOk FloatKind.f64 v96 FloatKind.f32) true) (.ask (.eqB (fok BinOp.mul FloatKind.f32 1098907648 a92) true) (.bind (F54 (FloatKind.f32.format.order (ftof FloatKind.f64 v96 FloatKind.f32) (fval BinOp.mul FloatKind.f32 1098907648 a92) != some Ordering.eq) 3) fun v97 =>
  (.sees [(.d (.v (.bool (FloatKind.f32.format.order (ftof FloatKind.f64 v96 FloatKind.f32) (fval BinOp.mul FloatKind.f32 1098907648 a92) != some Ordering.eq)))), (aI 3)] (.ret v97))))))))))))))
noncomputable def F56 (a92 a93 : Nat) : Option (Int) := res B56 (.c0 a92 a93)
noncomputable def D56_0 (a92 a93 : Nat) : DT cfz := (.go 17 [(.sp .none), (.sp .none), (.sp .none), .mg, (.sp .none)] [] (.split 14 (.go 8 [(.br true), (.br true), (.br true), (.br true), (.br true), (.br true), (.br true)] [0, 1, 2, 3, 4, 5, 6] (.bind (f54 true 3) fun v94 => (.go 4 [(.ck 0)] [] .fin))) (.strip 15 (.go 2 [(.br false), (.br false)] [1, 3] (.bind (f62 (ftof FloatKind.f32 (fval BinOp.mul FloatKind.f32 1098907648 a92) FloatKind.f64)) fun v96 => (.go 6 [(.br false), (.ck 0), (.br false), (.br false), (.br false), (.br false)] [1, 3, 4, 6, 7] (.bind (f54 (FloatKind.f32.format.order (ftof FloatKind.f64 v96 FloatKind.f32) (fval BinOp.mul FloatKind.f32 1098907648 a92) != some Ordering.eq) 3) fun v97 => (.go 4 [(.ck 1)] [] .fin))))))))
theorem k56_0 (a92 a93 : Nat) : xrun cfz 56 (D56_0 a92 a93) [] (st56 (.c0 a92 a93)) = (B56 (.c0 a92 a93)).mach st56 out56 := by kernel_rfl
theorem ok56 : ∀ s, ∃ d, xrun cfz 56 d [] (st56 s) = (B56 s).mach st56 out56
  | .c0 a92 a93 => ⟨_, k56_0 a92 a93⟩
theorem f56 (a92 a93 : Nat) (v : Int) (h : F56 a92 a93 = some v) : PureCalls cfz.P cfz.glob 56 [(.d (.v (.float .f32 a92))), (.d (.v (.float .f32 a93)))] (out56 v) := tree_pure knil ok56 (s := .c0 a92 a93) rfl (by kernel_rfl) v h

/-! F53 -/
inductive S53 where
  | c0 (a99 : Nat) (a100 : List DV)
  | c1 (x101 : Nat) (x102 : List DV) (x103 y104 : Int)
def out53 (v : Int) : AV := (.d (.v (.int .i64 v)))
noncomputable def st53 : S53 → ASt
  | .c0 a99 a100 => ent cfz 53 [(.d (.sl a99 a100))]
  | .c1 x101 x102 x103 y104 => ⟨⟨53, sp 15 0 [(5, (.d (.sl x101 x102))), (6, (aI x103)), (7, (aI y104))], [(.code (cd cfz.P 53 [1, 0, 1, 0, 0])), (.inLoop (cd cfz.P 53 [1, 0, 1, 0, 0])), (.inBlock 0), (.code (cd cfz.P 53 [1, 1]))], [], false, .none⟩, [], []⟩
noncomputable def B53 : S53 → Tr S53 (Int)
  | .c0 a99 a100 => (.nxt (.c1 a99 a100 ((↑a99 : Int)) 0))
  | .c1 x101 x102 x103 y104 => (.br (decide (y104 < x103))
  (.ask (.le 0 y104) (.ask (.lt y104 ((↑x101 : Int))) (.ask (.leN (y104.toNat * 1) x102.length) (.ask (.prop (Option.map AV.d (List.drop (y104.toNat * 1) x102)[0]? = some (AV.d (DV.v (Value.int IntKind.i64 (dI (cel x102 (y104.toNat * 1)))))))) (.br (dI (cel x102 (y104.toNat * 1)) != 0)
  (.ret (dI (cel x102 (y104.toNat * 1))))
  (.ask (.in64 (y104 + 1)) (.nxt (.c1 x101 x102 x103 (y104 + 1)))))))))
  (.ret 0))
noncomputable def F53 (a99 : Nat) (a100 : List DV) : Option (Int) := res B53 (.c0 a99 a100)
noncomputable def D53_0 (a99 : Nat) (a100 : List DV) : DT cfz := (.go 13 [] [] (.cut 0 [[5, 6, 7]] []))
theorem k53_0 (a99 : Nat) (a100 : List DV) : xrun cfz 53 (D53_0 a99 a100) [] (st53 (.c0 a99 a100)) = (B53 (.c0 a99 a100)).mach st53 out53 := by kernel_rfl
noncomputable def D53_1 (x101 : Nat) (x102 : List DV) (x103 y104 : Int) : DT cfz := (.go 5 [] [] (.split 8 (.go 15 [(.br true), (.as (aI (dI (cel x102 (y104.toNat * 1)))))] [0] (.split 12 (.go 7 [(.br true)] [0] .fin) (.go 8 [(.br false)] [0] (.cut 0 [[5, 6, 7]] [])))) (.go 7 [(.br false)] [0] .fin)))
theorem k53_1 (x101 : Nat) (x102 : List DV) (x103 y104 : Int) : xrun cfz 53 (D53_1 x101 x102 x103 y104) [] (st53 (.c1 x101 x102 x103 y104)) = (B53 (.c1 x101 x102 x103 y104)).mach st53 out53 := by kernel_rfl
theorem ok53 : ∀ s, ∃ d, xrun cfz 53 d [] (st53 s) = (B53 s).mach st53 out53
  | .c0 a99 a100 => ⟨_, k53_0 a99 a100⟩
  | .c1 x101 x102 x103 y104 => ⟨_, k53_1 x101 x102 x103 y104⟩
theorem f53 (a99 : Nat) (a100 : List DV) (v : Int) (h : F53 a99 a100 = some v) : PureCalls cfz.P cfz.glob 53 [(.d (.sl a99 a100))] (out53 v) := tree_pure knil ok53 (s := .c0 a99 a100) rfl (by kernel_rfl) v h

/-! F42 -/
inductive S42 where
  | c0 (a79 : Nat)
def out42 (v : Int) : AV := (.d (.v (.int .i64 v)))
noncomputable def st42 : S42 → ASt
  | .c0 a79 => ent cfz 42 [(.d (.v (.float .f32 a79)))]
noncomputable def B42 : S42 → Tr S42 (Int)
  | .c0 a79 => (.bind (F55 a79) fun v88 =>
  (.sees [(.d (.v (.float .f32 a79)))] (.bind (F54 v88 1) fun v91 =>
  (.sees [(.d (.v (.bool v88))), (aI 1)] (.bind (F56 a79 1149239296) fun v98 =>
  (.sees [(.d (.v (.float .f32 a79))), (.d (.v (.float .f32 1149239296)))] (.bind (F53 2 [(.v (.int .i64 v91)), (.v (.int .i64 v98))]) fun v105 =>
  (.sees [(.d (.sl 2 [(vI v91), (vI v98)]))] (.ret v105)))))))))
noncomputable def F42 (a79 : Nat) : Option (Int) := res B42 (.c0 a79)
noncomputable def D42_0 (a79 : Nat) : DT cfz := (.go 7 [] [] (.bind (f55 a79) fun v88 => (.go 1 [(.ck 0)] [] (.bind (f54 v88 1) fun v91 => (.go 2 [(.ck 1)] [] (.bind (f56 a79 1149239296) fun v98 => (.go 2 [(.ck 2)] [] (.bind (f53 2 [(vI v91), (vI v98)]) fun v105 => (.go 4 [(.ck 3)] [] .fin)))))))))
theorem k42_0 (a79 : Nat) : xrun cfz 42 (D42_0 a79) [] (st42 (.c0 a79)) = (B42 (.c0 a79)).mach st42 out42 := by kernel_rfl
theorem ok42 : ∀ s, ∃ d, xrun cfz 42 d [] (st42 s) = (B42 s).mach st42 out42
  | .c0 a79 => ⟨_, k42_0 a79⟩
theorem f42 (a79 : Nat) (v : Int) (h : F42 a79 = some v) : PureCalls cfz.P cfz.glob 42 [(.d (.v (.float .f32 a79)))] (out42 v) := tree_pure knil ok42 (s := .c0 a79) rfl (by kernel_rfl) v h

/-! F41 -/
inductive S41 where
  | c0 (a73 : Nat) (a74 : List DV)
  | c1 (x75 : Nat) (x76 : List DV) (x77 y78 : Int)
  | c2 (y107 y108 : Nat) (y109 : List DV) (x110 : Nat) (x111 : List DV) (x112 y113 : Int) (y115 : Nat)
def out41 (v : Nat × List DV) : AV := (.d (.sl v.fst v.snd))
noncomputable def st41 : S41 → ASt
  | .c0 a73 a74 => ent cfz 41 [(.d (.sl a73 a74)), (.d (.v (.func (.func 42) (#[]) (#[]))))]
  | .c1 x75 x76 x77 y78 => ⟨⟨41, sp 22 0 [(1, (.d (.v (.func (.func 42) (#[]) (#[]))))), (5, (.d (.v (.slice .none 0 0)))), (8, (.d (.sl x75 x76))), (9, (aI x77)), (10, (aI y78))], [(.code (cd cfz.P 41 [1, 1, 0, 1, 0, 0])), (.inLoop (cd cfz.P 41 [1, 1, 0, 1, 0, 0])), (.inBlock 0), (.code (cd cfz.P 41 [1, 1, 1]))], [], false, .none⟩, [], []⟩
  | .c2 y107 y108 y109 x110 x111 x112 y113 y115 => ⟨⟨41, sp 22 0 [(1, (.d (.v (.func (.func 42) (#[]) (#[]))))), (5, (.own 1 y107 1 y108 y109)), (8, (.d (.sl x110 x111))), (9, (aI x112)), (10, (aI y113))], [(.code (cd cfz.P 41 [1, 1, 0, 1, 0, 0])), (.inLoop (cd cfz.P 41 [1, 1, 0, 1, 0, 0])), (.inBlock 0), (.code (cd cfz.P 41 [1, 1, 1]))], [], false, .none⟩, [], [(.tail 0), (.tail y115)]⟩
noncomputable def B41 : S41 → Tr S41 (Nat × List DV)
  | .c0 a73 a74 => (.nxt (.c1 a73 a74 ((↑a73 : Int)) 0))
  | .c1 x75 x76 x77 y78 => (.br (decide (y78 < x77))
  (.ask (.le 0 y78) (.ask (.lt y78 ((↑x75 : Int))) (.ask (.leN (y78.toNat * 1) x76.length) (.ask (.prop (Option.map AV.d (List.drop (y78.toNat * 1) x76)[0]? = some (AV.d (DV.v (Value.float FloatKind.f32 (dF (cel x76 (y78.toNat * 1)))))))) (.bind (F42 (dF (cel x76 (y78.toNat * 1)))) fun v106 =>
  (.sees [(.d (.v (.float .f32 (dF (cel x76 (y78.toNat * 1))))))] (.ask (.in64 (y78 + 1)) (.nxt (.c2 0 1 [(.v (.int .i64 v106))] x75 x76 x77 (y78 + 1) 0)))))))))
  (.ret (0, [])))
  | .c2 y107 y108 y109 x110 x111 x112 y113 y115 => (.br (decide (y113 < x112))
  (.ask (.le 0 y113) (.ask (.lt y113 ((↑x110 : Int))) (.ask (.leN (y113.toNat * 1) x111.length) (.ask (.prop (Option.map AV.d (List.drop (y113.toNat * 1) x111)[0]? = some (AV.d (DV.v (Value.float FloatKind.f32 (dF (cel x111 (y113.toNat * 1)))))))) (.bind (F42 (dF (cel x111 (y113.toNat * 1)))) fun v116 =>
  (.sees [(.d (.v (.float .f32 (dF (cel x111 (y113.toNat * 1))))))] (.ask (.eqN y107 y115) (.ask (.fits (y108 + 1) 8) (.ask (.in64 (y113 + 1)) (.nxt (.c2 (y115 + 1) (y108 + 1) (y109 ++ [DV.v (Value.int IntKind.i64 v116)]) x110 x111 x112 (y113 + 1) (y115 + 1))))))))))))
  (.ret (y108, y109)))
noncomputable def F41 (a73 : Nat) (a74 : List DV) : Option (Nat × List DV) := res B41 (.c0 a73 a74)
noncomputable def D41_0 (a73 : Nat) (a74 : List DV) : DT cfz := (.go 17 [] [] (.cut 0 [[1, 5, 8, 9, 10]] []))
theorem k41_0 (a73 : Nat) (a74 : List DV) : xrun cfz 41 (D41_0 a73 a74) [] (st41 (.c0 a73 a74)) = (B41 (.c0 a73 a74)).mach st41 out41 := by kernel_rfl
noncomputable def D41_1 (x75 : Nat) (x76 : List DV) (x77 y78 : Int) : DT cfz := (.go 5 [] [] (.split 11 (.go 14 [(.br true), (.as (.d (.v (.float .f32 (dF (cel x76 (y78.toNat * 1)))))))] [0] (.bind (f42 (dF (cel x76 (y78.toNat * 1)))) fun v106 => (.go 11 [(.ck 0)] [1, 2, 3] (.cut 2 [[1, 5, 8, 9, 10]] [])))) (.go 8 [(.br false)] [0] .fin)))
theorem k41_1 (x75 : Nat) (x76 : List DV) (x77 y78 : Int) : xrun cfz 41 (D41_1 x75 x76 x77 y78) [] (st41 (.c1 x75 x76 x77 y78)) = (B41 (.c1 x75 x76 x77 y78)).mach st41 out41 := by kernel_rfl
noncomputable def D41_2 (y107 y108 : Nat) (y109 : List DV) (x110 : Nat) (x111 : List DV) (x112 y113 : Int) (y115 : Nat) : DT cfz := (.go 5 [] [] (.split 11 (.go 14 [(.br true), (.as (.d (.v (.float .f32 (dF (cel x111 (y113.toNat * 1)))))))] [0] (.bind (f42 (dF (cel x111 (y113.toNat * 1)))) fun v116 => (.go 11 [(.ck 0)] [2, 3] (.cut 2 [[1, 5, 8, 9, 10]] [])))) (.go 8 [(.br false)] [0] .fin)))
theorem k41_2 (y107 y108 : Nat) (y109 : List DV) (x110 : Nat) (x111 : List DV) (x112 y113 : Int) (y115 : Nat) : xrun cfz 41 (D41_2 y107 y108 y109 x110 x111 x112 y113 y115) [] (st41 (.c2 y107 y108 y109 x110 x111 x112 y113 y115)) = (B41 (.c2 y107 y108 y109 x110 x111 x112 y113 y115)).mach st41 out41 := by kernel_rfl
theorem ok41 : ∀ s, ∃ d, xrun cfz 41 d [] (st41 s) = (B41 s).mach st41 out41
  | .c0 a73 a74 => ⟨_, k41_0 a73 a74⟩
  | .c1 x75 x76 x77 y78 => ⟨_, k41_1 x75 x76 x77 y78⟩
  | .c2 y107 y108 y109 x110 x111 x112 y113 y115 => ⟨_, k41_2 y107 y108 y109 x110 x111 x112 y113 y115⟩
theorem f41 (a73 : Nat) (a74 : List DV) (v : Nat × List DV) (h : F41 a73 a74 = some v) : PureCalls cfz.P cfz.glob 41 [(.d (.sl a73 a74)), (.d (.v (.func (.func 42) (#[]) (#[]))))] (out41 v) := tree_pure knil ok41 (s := .c0 a73 a74) rfl (by kernel_rfl) v h

/-! F16 -/
inductive S16 where
  | c0 (a71 : Nat) (a72 : List DV)
def out16 (v : Int) : AV := (.d (.v (.int .i64 v)))
noncomputable def st16 : S16 → ASt
  | .c0 a71 a72 => ent cfz 16 [(.d (.sl a71 a72))]
noncomputable def B16 : S16 → Tr S16 (Int)
  | .c0 a71 a72 => (.br (decide ((↑a71 : Int) > 4096))
  (.ret 5)
  (.bind (F41 a71 a72) fun v117 =>
  (.sees [(.d (.sl a71 a72)), (.d (.v (.func (.func 42) (#[]) (#[]))))] (.bind (F14 v117.fst v117.snd) fun v118 =>
  (.sees [(.d (.sl v117.fst v117.snd))] (.ret v118))))))
noncomputable def F16 (a71 : Nat) (a72 : List DV) : Option (Int) := res B16 (.c0 a71 a72)
noncomputable def D16_0 (a71 : Nat) (a72 : List DV) : DT cfz := (.go 11 [] [] (.split 5 (.go 6 [(.br true)] [0] .fin) (.go 5 [(.br false)] [0] (.bind (f41 a71 a72) fun v117 => (.go 1 [(.ck 0)] [] (.bind (f14 v117.fst v117.snd) fun v118 => (.go 4 [(.ck 1)] [] .fin)))))))
theorem k16_0 (a71 : Nat) (a72 : List DV) : xrun cfz 16 (D16_0 a71 a72) [] (st16 (.c0 a71 a72)) = (B16 (.c0 a71 a72)).mach st16 out16 := by kernel_rfl
theorem ok16 : ∀ s, ∃ d, xrun cfz 16 d [] (st16 s) = (B16 s).mach st16 out16
  | .c0 a71 a72 => ⟨_, k16_0 a71 a72⟩
theorem f16 (a71 : Nat) (a72 : List DV) (v : Int) (h : F16 a71 a72 = some v) : PureCalls cfz.P cfz.glob 16 [(.d (.sl a71 a72))] (out16 v) := tree_pure knil ok16 (s := .c0 a71 a72) rfl (by kernel_rfl) v h

/-! F57 -/
inductive S57 where
  | c0 (a165 : Nat)
def out57 (v : Int) : AV := (.d (.v (.int .i64 v)))
noncomputable def st57 : S57 → ASt
  | .c0 a165 => ent cfz 57 [(.d (.v (.float .f32 a165)))]
noncomputable def B57 : S57 → Tr S57 (Int)
  | .c0 a165 => (.ask (.eqB (fok BinOp.mul FloatKind.f32 1098907648 a165) true) (.ask (.eqB (ftoiOk FloatKind.f32 (fval BinOp.mul FloatKind.f32 1098907648 a165) IntKind.i64) true) (.ret (ftoi FloatKind.f32 (fval BinOp.mul FloatKind.f32 1098907648 a165) IntKind.i64))))
noncomputable def F57 (a165 : Nat) : Option (Int) := res B57 (.c0 a165)
noncomputable def D57_0 (a165 : Nat) : DT cfz := (.go 12 [] [] .fin)
theorem k57_0 (a165 : Nat) : xrun cfz 57 (D57_0 a165) [] (st57 (.c0 a165)) = (B57 (.c0 a165)).mach st57 out57 := by kernel_rfl
theorem ok57 : ∀ s, ∃ d, xrun cfz 57 d [] (st57 s) = (B57 s).mach st57 out57
  | .c0 a165 => ⟨_, k57_0 a165⟩
theorem f57 (a165 : Nat) (v : Int) (h : F57 a165 = some v) : PureCalls cfz.P cfz.glob 57 [(.d (.v (.float .f32 a165)))] (out57 v) := tree_pure knil ok57 (s := .c0 a165) rfl (by kernel_rfl) v h

/-! F44 -/
inductive S44 where
  | c0 (a157 a158 a159 a160 a161 a162 a163 a164 : Nat)
def out44 (v : Int × Int) : AV := (.agg [(.d (.v (.int .i64 v.fst))), (.d (.v (.int .i64 v.snd)))])
noncomputable def st44 : S44 → ASt
  | .c0 a157 a158 a159 a160 a161 a162 a163 a164 => ent cfz 44 [(.agg [(.d (.v (.float .f32 a157))), (.d (.v (.float .f32 a158))), (.d (.v (.float .f32 a159))), (.d (.v (.float .f32 a160)))]), (.agg [(.d (.v (.float .f32 a161))), (.d (.v (.float .f32 a162))), (.d (.v (.float .f32 a163))), (.d (.v (.float .f32 a164)))])]
noncomputable def B44 : S44 → Tr S44 (Int × Int)
  | .c0 a157 a158 a159 a160 a161 a162 a163 a164 => (.bind (F57 a157) fun v166 =>
  (.bind (F57 a161) fun v167 =>
  (.sees [(.d (.v (.float .f32 a157)))] (.sees [(.d (.v (.float .f32 a161)))] (.ask (.in64 (v166 * v167)) (.ask (.in64 (0 + v166 * v167)) (.bind (F57 a160) fun v168 =>
  (.sees [(.d (.v (.float .f32 a160)))] (.sees [(.d (.v (.float .f32 a161)))] (.ask (.in64 (v168 * v167)) (.ask (.in64 (0 + v168 * v167)) (.bind (F57 a158) fun v169 =>
  (.bind (F57 a162) fun v170 =>
  (.sees [(.d (.v (.float .f32 a158)))] (.sees [(.d (.v (.float .f32 a162)))] (.ask (.in64 (v169 * v170)) (.ask (.in64 (0 + v166 * v167 + v169 * v170)) (.sees [(.d (.v (.float .f32 a157)))] (.sees [(.d (.v (.float .f32 a162)))] (.ask (.in64 (v166 * v170)) (.ask (.in64 (0 + v168 * v167 + v166 * v170)) (.bind (F57 a159) fun v171 =>
  (.bind (F57 a163) fun v172 =>
  (.sees [(.d (.v (.float .f32 a159)))] (.sees [(.d (.v (.float .f32 a163)))] (.ask (.in64 (v171 * v172)) (.ask (.in64 (0 + v166 * v167 + v169 * v170 + v171 * v172)) (.sees [(.d (.v (.float .f32 a158)))] (.sees [(.d (.v (.float .f32 a163)))] (.ask (.in64 (v169 * v172)) (.ask (.in64 (0 + v168 * v167 + v166 * v170 + v169 * v172)) (.bind (F57 a164) fun v173 =>
  (.sees [(.d (.v (.float .f32 a160)))] (.sees [(.d (.v (.float .f32 a164)))] (.ask (.in64 (v168 * v173)) (.ask (.in64 (0 + v166 * v167 + v169 * v170 + v171 * v172 + v168 * v173)) (.sees [(.d (.v (.float .f32 a159)))] (.sees [(.d (.v (.float .f32 a164)))] (.ask (.in64 (v171 * v173)) (.ask (.in64 (0 + v168 * v167 + v166 * v170 + v169 * v172 + v171 * v173)) (.ret ((0 + v166 * v167 + v169 * v170 + v171 * v172 + v168 * v173), (0 + v168 * v167 + v166 * v170 + v169 * v172 + v171 * v173)))))))))))))))))))))))))))))))))))))))))))
noncomputable def F44 (a157 a158 a159 a160 a161 a162 a163 a164 : Nat) : Option (Int × Int) := res B44 (.c0 a157 a158 a159 a160 a161 a162 a163 a164)
noncomputable def D44_0 (a157 a158 a159 a160 a161 a162 a163 a164 : Nat) : DT cfz := (.go 33 [(.br true)] [0] (.bind (f57 a157) fun v166 => (.bind (f57 a161) fun v167 => (.go 2 [(.ck 0), (.ck 1)] [0, 1, 3, 4] (.bind (f57 a160) fun v168 => (.go 23 [.none, .none, (.ck 2), .none, (.ck 1), .none, (.br true)] [0, 1, 2, 3, 5, 6, 10, 11] (.bind (f57 a158) fun v169 => (.bind (f57 a162) fun v170 => (.go 25 [.none, .none, (.ck 3), .none, (.ck 4), .none, .none, .none, (.ck 0), .none, (.ck 4), .none, (.br true)] [0, 1, 3, 4, 8, 9, 10, 11, 13, 14, 18, 19] (.bind (f57 a159) fun v171 => (.bind (f57 a163) fun v172 => (.go 25 [.none, .none, (.ck 5), .none, (.ck 6), .none, .none, .none, (.ck 3), .none, (.ck 6), .none, (.br true)] [0, 1, 3, 4, 8, 9, 10, 11, 13, 14, 18, 19] (.bind (f57 a164) fun v173 => (.go 22 [.none, .none, (.ck 2), .none, (.ck 7), .none, .none, .none, (.ck 5), .none, (.ck 7), .none, (.br false)] [0, 1, 3, 4, 8, 9, 10, 11, 13, 14, 18, 19] .fin))))))))))))))
theorem k44_0 (a157 a158 a159 a160 a161 a162 a163 a164 : Nat) : xrun cfz 44 (D44_0 a157 a158 a159 a160 a161 a162 a163 a164) [] (st44 (.c0 a157 a158 a159 a160 a161 a162 a163 a164)) = (B44 (.c0 a157 a158 a159 a160 a161 a162 a163 a164)).mach st44 out44 := by kernel_rfl
theorem ok44 : ∀ s, ∃ d, xrun cfz 44 d [] (st44 s) = (B44 s).mach st44 out44
  | .c0 a157 a158 a159 a160 a161 a162 a163 a164 => ⟨_, k44_0 a157 a158 a159 a160 a161 a162 a163 a164⟩
theorem f44 (a157 a158 a159 a160 a161 a162 a163 a164 : Nat) (v : Int × Int) (h : F44 a157 a158 a159 a160 a161 a162 a163 a164 = some v) : PureCalls cfz.P cfz.glob 44 [(.agg [(.d (.v (.float .f32 a157))), (.d (.v (.float .f32 a158))), (.d (.v (.float .f32 a159))), (.d (.v (.float .f32 a160)))]), (.agg [(.d (.v (.float .f32 a161))), (.d (.v (.float .f32 a162))), (.d (.v (.float .f32 a163))), (.d (.v (.float .f32 a164)))])] (out44 v) := tree_pure knil ok44 (s := .c0 a157 a158 a159 a160 a161 a162 a163 a164) rfl (by kernel_rfl) v h

/-! F19 -/
inductive S19 where
  | c0 (a175 a176 a177 : Int)
def out19 (v : Int × Int) : AV := (.agg [(.d (.v (.int .i64 v.fst))), (.d (.v (.int .i64 v.snd)))])
noncomputable def st19 : S19 → ASt
  | .c0 a175 a176 a177 => ent cfz 19 [(.agg [(aI a175), (aI a176)]), (aI a177)]
noncomputable def B19 : S19 → Tr S19 (Int × Int)
  | .c0 a175 a176 a177 => (.ask (.in64 (a176 + a177)) (.ask (.in64 ((a176 + a177).tdiv 1000000)) (.ask (.in64 (a175 + (a176 + a177).tdiv 1000000)) (.ret (((a175 + (a176 + a177).tdiv 1000000).tmod 1000000), ((a176 + a177).tmod 1000000))))))
noncomputable def F19 (a175 a176 a177 : Int) : Option (Int × Int) := res B19 (.c0 a175 a176 a177)
noncomputable def D19_0 (a175 a176 a177 : Int) : DT cfz := (.go 27 [] [1, 4, 5] .fin)
theorem k19_0 (a175 a176 a177 : Int) : xrun cfz 19 (D19_0 a175 a176 a177) [] (st19 (.c0 a175 a176 a177)) = (B19 (.c0 a175 a176 a177)).mach st19 out19 := by kernel_rfl
theorem ok19 : ∀ s, ∃ d, xrun cfz 19 d [] (st19 s) = (B19 s).mach st19 out19
  | .c0 a175 a176 a177 => ⟨_, k19_0 a175 a176 a177⟩
theorem f19 (a175 a176 a177 : Int) (v : Int × Int) (h : F19 a175 a176 a177 = some v) : PureCalls cfz.P cfz.glob 19 [(.agg [(aI a175), (aI a176)]), (aI a177)] (out19 v) := tree_pure knil ok19 (s := .c0 a175 a176 a177) rfl (by kernel_rfl) v h

/-! F20 -/
inductive S20 where
  | c0 (a179 a180 : Int)
def out20 (v : Int) : AV := (.d (.v (.int .i64 v)))
noncomputable def st20 : S20 → ASt
  | .c0 a179 a180 => ent cfz 20 [(.agg [(aI a179), (aI a180)])]
noncomputable def B20 : S20 → Tr S20 (Int)
  | .c0 a179 a180 => (.br (if true = true then a179 == 0 && (a180 == 0 && true) else !(a179 == 0 && (a180 == 0 && true)))
  (.ret 0)
  (.br (decide (a179 ≥ 0))
  (.br (decide (a180 ≥ 0))
  (.ret 1)
  (.ask (.eqB (decide (a180 ≥ 0)) false) (.br (decide (a179 < 0))
  (.ret 3)
  (.ret 4))))
  (.br (decide (a180 ≥ 0))
  (.ret 2)
  (.br (decide (a179 < 0))
  (.ret 3)
  (.ret 4)))))
noncomputable def F20 (a179 a180 : Int) : Option (Int) := res B20 (.c0 a179 a180)
noncomputable def D20_0 (a179 a180 : Int) : DT cfz := (.go 14 [] [] (.split 3 (.go 6 [(.br true)] [0] .fin) (.go 7 [(.br false)] [0] (.split 11 (.go 6 [(.br true), (.br true), .none, (.br true)] [0, 1, 2] (.split 7 (.go 6 [(.br true)] [0] .fin) (.go 8 [(.br false)] [0] (.assume 16 false (.go 8 [(.br false)] [0] (.split 20 (.go 6 [(.br true)] [0] .fin) (.go 8 [(.br false)] [0] .fin))))))) (.go 14 [(.br false), (.br false), (.br false), .none, (.br false)] [0, 1, 2, 3] (.split 16 (.go 6 [(.br true)] [0] .fin) (.go 8 [(.br false)] [0] (.split 20 (.go 6 [(.br true)] [0] .fin) (.go 8 [(.br false)] [0] .fin)))))))))
theorem k20_0 (a179 a180 : Int) : xrun cfz 20 (D20_0 a179 a180) [] (st20 (.c0 a179 a180)) = (B20 (.c0 a179 a180)).mach st20 out20 := by kernel_rfl
theorem ok20 : ∀ s, ∃ d, xrun cfz 20 d [] (st20 s) = (B20 s).mach st20 out20
  | .c0 a179 a180 => ⟨_, k20_0 a179 a180⟩
theorem f20 (a179 a180 v : Int) (h : F20 a179 a180 = some v) : PureCalls cfz.P cfz.glob 20 [(.agg [(aI a179), (aI a180)])] (out20 v) := tree_pure knil ok20 (s := .c0 a179 a180) rfl (by kernel_rfl) v h

/-! F6 -/
inductive S6 where
  | c0 (a0 a1 a2 a3 a4 a5 a6 a7 a8 a9 a10 a11 : Int) (a12 : Nat) (a13 : List DV) (a14 : Nat) (a15 : List DV)
  | c1 (y128 x129 x130 x131 x132 x133 x134 x135 x136 x137 x138 x139 x140 : Int) (x141 : Nat) (x142 : List DV) (x143 : Nat) (x144 : List DV) (y220 y221 y213 y214 x145 y222 y223 y215 y216 x146 x147 x148 x149 x150 : Int) (x151 : Bool) (x152 x153 : Int) (x154 : Bool) (x155 : Int) (x156 : List DV)
  | c2 (y183 : Int) (x184 : List AV) (x185 : Nat) (x186 : List DV) (x187 : Nat) (x188 : List DV) (x189 x190 x191 x192 x193 x194 x195 x196 x197 x198 x199 x200 x201 y228 y229 y230 y231 x202 x203 x204 x205 x206 : Int) (x207 : Bool) (x208 x209 : Int) (x210 : Bool) (x211 : Int) (x212 : List DV)
def out6 (v : Int × Int × Int × Int × Int × Int × Int × Int × Int × Int × Int × Int × Int) : AV := (.tup [(.agg [(.d (.v (.int .i64 v.fst))), (.d (.v (.int .i64 v.snd.fst))), (.d (.v (.int .i64 v.snd.snd.fst))), (.d (.v (.int .i64 v.snd.snd.snd.fst))), (.d (.v (.int .i64 v.snd.snd.snd.snd.fst))), (.d (.v (.int .i64 v.snd.snd.snd.snd.snd.fst))), (.d (.v (.int .i64 v.snd.snd.snd.snd.snd.snd.fst))), (.d (.v (.int .i64 v.snd.snd.snd.snd.snd.snd.snd.fst))), (.d (.v (.int .i64 v.snd.snd.snd.snd.snd.snd.snd.snd.fst))), (.d (.v (.int .i64 v.snd.snd.snd.snd.snd.snd.snd.snd.snd.fst))), (.d (.v (.int .i64 v.snd.snd.snd.snd.snd.snd.snd.snd.snd.snd.fst))), (.d (.v (.int .i64 v.snd.snd.snd.snd.snd.snd.snd.snd.snd.snd.snd.fst)))]), (.d (.v (.int .i64 v.snd.snd.snd.snd.snd.snd.snd.snd.snd.snd.snd.snd)))])
noncomputable def st6 : S6 → ASt
  | .c0 a0 a1 a2 a3 a4 a5 a6 a7 a8 a9 a10 a11 a12 a13 a14 a15 => ent cfz 6 [(.agg [(aI a0), (aI a1), (aI a2), (aI a3), (aI a4), (aI a5), (aI a6), (aI a7), (aI a8), (aI a9), (aI a10), (aI a11)]), (.d (.sl a12 a13)), (.d (.sl a14 a15))]
  | .c1 y128 x129 x130 x131 x132 x133 x134 x135 x136 x137 x138 x139 x140 x141 x142 x143 x144 y220 y221 y213 y214 x145 y222 y223 y215 y216 x146 x147 x148 x149 x150 x151 x152 x153 x154 x155 x156 => ⟨⟨43, sp 30 0 [(0, (.yl 6)), (1, (.ptr 3 0)), (2, (.ptr 4 0)), (4, (aI y128))], [(.code (cd cfz.P 43 [1, 0, 0])), (.inLoop (cd cfz.P 43 [1, 0, 0])), (.inBlock 0)], [], false, .none⟩, [⟨6, sp 73 0 [(3, (.ptr 0 0)), (6, (.ptr 1 0)), (7, (aI 0))], [(.inRng 6), (.inBlock 0), (.code (cd cfz.P 6 [1, 1, 1]))], [5], false, .none⟩], [(.cells [(aI x129), (aI x130), (aI x131), (aI x132), (aI x133), (aI x134), (aI x135), (aI x136), (aI x137), (aI x138), (aI x139), (aI x140)] 32), (.cells [(aI 0), (aI 0), (aI 0), (aI 0), (aI 0), (aI 0), (aI 0), (aI 0), (aI 0), (aI 0), (aI 0), (aI 0)] 32), (.tail 0), (.cells [(.d (.sl x141 x142))] 37), (.cells [(.d (.sl x143 x144))] 37), .defd, (.loop ⟨.ready, .none, 6, [(.agg [(aI y220), (aI y221), (aI y213), (aI y214), (aI x133), (aI x134), (aI x135), (aI x136), (aI x137), (aI x138), (aI x139), (aI x140)]), (.d (.sl x141 x142)), (.d (.sl x143 x144)), (.ptr 0 0), .any, .any, (.ptr 1 0), (aI 0), (aI x145), .any, .any, .any, (.agg [(aI y222), (aI y223), (aI y215), (aI y216), (aI x133), (aI x134), (aI x135), (aI x136), (aI x137), (aI x138), (aI x139), (aI x140)]), (aI x146), (.d (.sl x141 x142)), (aI x147), (.d (.sl x143 x144)), (aI x148), (.d (.sl x141 x142)), (aI x149), (.d (.sl x143 x144)), (aI x150), (.d (.v (.bool x151))), (aI x152), (.d (.sl x141 x142)), (aI x149), (aI x153), (.d (.v (.bool x154))), (aI x155), (.own 2 0 1 5 x156), (aI x145), (aI x145), (.d (.v (.bool false))), .any, .any, (.d (.sl x141 x142)), (.d (.sl x143 x144)), (.fn (.func 43) [] [(.ptr 3 0), (.ptr 4 0)]), .any, .any, .any, .any, .any, .any, .any, .any, .any, .any, .any, .any, .any, .any, .any, .any, .any, .any, .any, .any, .any, .any, .any, .any, .any, .any, .any, .any, .any, .any, .any, .any, .any, .any, .any], (#[38]), (cd cfz.P 6 [1, 1, 0, 1, 0, 0]), (cd cfz.P 6 [1, 1, 0, 1, 0, 1]), 5⟩)]⟩
  | .c2 y183 x184 x185 x186 x187 x188 x189 x190 x191 x192 x193 x194 x195 x196 x197 x198 x199 x200 x201 y228 y229 y230 y231 x202 x203 x204 x205 x206 x207 x208 x209 x210 x211 x212 => ⟨⟨43, sp 30 0 [(0, (.yl 6)), (1, (.ptr 3 0)), (2, (.ptr 4 0)), (4, (aI y183))], [(.code (cd cfz.P 43 [1, 0, 0])), (.inLoop (cd cfz.P 43 [1, 0, 0])), (.inBlock 0)], [], false, .none⟩, [⟨6, sp 73 0 [(3, (.ptr 0 0)), (6, (.ptr 1 0)), (7, (aI 0))], [(.inRng 6), (.inBlock 0), (.code (cd cfz.P 6 [1, 1, 1]))], [5], false, .none⟩], [(.cells x184 32), (.cells [(aI 0), (aI 0), (aI 0), (aI 0), (aI 0), (aI 0), (aI 0), (aI 0), (aI 0), (aI 0), (aI 0), (aI 0)] 32), (.tail 0), (.cells [(.d (.sl x185 x186))] 37), (.cells [(.d (.sl x187 x188))] 37), .defd, (.loop ⟨.ready, .none, 6, [(.agg [(aI x189), (aI x190), (aI x191), (aI x192), (aI x193), (aI x194), (aI x195), (aI x196), (aI x197), (aI x198), (aI x199), (aI x200)]), (.d (.sl x185 x186)), (.d (.sl x187 x188)), (.ptr 0 0), .any, .any, (.ptr 1 0), (aI 0), (aI x201), .any, .any, .any, (.agg [(aI y228), (aI y229), (aI y230), (aI y231), (aI x193), (aI x194), (aI x195), (aI x196), (aI x197), (aI x198), (aI x199), (aI x200)]), (aI x202), (.d (.sl x185 x186)), (aI x203), (.d (.sl x187 x188)), (aI x204), (.d (.sl x185 x186)), (aI x205), (.d (.sl x187 x188)), (aI x206), (.d (.v (.bool x207))), (aI x208), (.d (.sl x185 x186)), (aI x205), (aI x209), (.d (.v (.bool x210))), (aI x211), (.own 2 0 1 5 x212), (aI x201), (aI x201), (.d (.v (.bool false))), .any, .any, (.d (.sl x185 x186)), (.d (.sl x187 x188)), (.fn (.func 43) [] [(.ptr 3 0), (.ptr 4 0)]), .any, .any, .any, .any, .any, .any, .any, .any, .any, .any, .any, .any, .any, .any, .any, .any, .any, .any, .any, .any, .any, .any, .any, .any, .any, .any, .any, .any, .any, .any, .any, .any, .any, .any, .any], (#[38]), (cd cfz.P 6 [1, 1, 0, 1, 0, 0]), (cd cfz.P 6 [1, 1, 0, 1, 0, 1]), 5⟩)]⟩
noncomputable def B6 : S6 → Tr S6 (Int × Int × Int × Int × Int × Int × Int × Int × Int × Int × Int × Int × Int)
  | .c0 a0 a1 a2 a3 a4 a5 a6 a7 a8 a9 a10 a11 a12 a13 a14 a15 => (.bind (F15 a0 a1 a2 a3 a4 a5 a6 a7 a8 a9 a10 a11) fun v70 =>
  (.sees [(.agg [(aI a0), (aI a1), (aI a2), (aI a3), (aI a4), (aI a5), (aI a6), (aI a7), (aI a8), (aI a9), (aI a10), (aI a11)])] (.bind (F16 a12 a13) fun v119 =>
  (.sees [(.d (.sl a12 a13))] (.bind (F16 a14 a15) fun v120 =>
  (.sees [(.d (.sl a14 a15))] (.bind (F17 ((↑a12 : Int) != (↑a14 : Int)) 2) fun v121 =>
  (.sees [(.d (.v (.bool ((↑a12 : Int) != (↑a14 : Int))))), (aI 2)] (.bind (F17 ((↑a12 : Int).tmod 4 != 0) 16) fun v122 =>
  (.sees [(.d (.v (.bool ((↑a12 : Int).tmod 4 != 0)))), (aI 16)] (.bind (F14 5 [(.v (.int .i64 v70)), (.v (.int .i64 v119)), (.v (.int .i64 v120)), (.v (.int .i64 v121)), (.v (.int .i64 v122))]) fun v123 =>
  (.sees [(.d (.sl 5 [(vI v70), (vI v119), (vI v120), (vI v121), (vI v122)]))] (.br (v123 != 0)
  (.ret (0, 0, 0, 0, 0, 0, 0, 0, 0, 0, 0, 0, v123))
  (.nxt (.c1 0 a0 a1 a2 a3 a4 a5 a6 a7 a8 a9 a10 a11 a12 a13 a14 a15 a0 a1 a2 a3 v123 a0 a1 a2 a3 v70 v119 v120 ((↑a12 : Int)) ((↑a14 : Int)) ((↑a12 : Int) != (↑a14 : Int)) v121 ((↑a12 : Int).tmod 4) ((↑a12 : Int).tmod 4 != 0) v122 [(.v (.int .i64 v70)), (.v (.int .i64 v119)), (.v (.int .i64 v120)), (.v (.int .i64 v121)), (.v (.int .i64 v122))])))))))))))))))
  | .c1 y128 x129 x130 x131 x132 x133 x134 x135 x136 x137 x138 x139 x140 x141 x142 x143 x144 y220 y221 y213 y214 x145 y222 y223 y215 y216 x146 x147 x148 x149 x150 x151 x152 x153 x154 x155 x156 => (.ask (.in64 (y128 + 4)) (.br (decide (y128 + 4 ≤ (↑x141 : Int)))
  (.bind (F44 (dF (cel (List.take (((y128 + 4).toNat - y128.toNat) * 1) (List.drop (y128.toNat * 1) x142)) 0)) (dF (cel (List.take (((y128 + 4).toNat - y128.toNat) * 1) (List.drop (y128.toNat * 1) x142)) 1)) (dF (cel (List.take (((y128 + 4).toNat - y128.toNat) * 1) (List.drop (y128.toNat * 1) x142)) 2)) (dF (cel (List.take (((y128 + 4).toNat - y128.toNat) * 1) (List.drop (y128.toNat * 1) x142)) 3)) (dF (cel (List.take (((y128 + 4).toNat - y128.toNat) * 1) (List.drop (y128.toNat * 1) x144)) 0)) (dF (cel (List.take (((y128 + 4).toNat - y128.toNat) * 1) (List.drop (y128.toNat * 1) x144)) 1)) (dF (cel (List.take (((y128 + 4).toNat - y128.toNat) * 1) (List.drop (y128.toNat * 1) x144)) 2)) (dF (cel (List.take (((y128 + 4).toNat - y128.toNat) * 1) (List.drop (y128.toNat * 1) x144)) 3))) fun v224 =>
  (.ask (.in64 (y128 + 4)) (.ask (.le 0 y128) (.ask (.le y128 (y128 + 4)) (.ask (.le (y128 + 4) ((↑x141 : Int))) (.ask (.eqN x142.length (x141 * 1)) (.ask (.leN 4 ((y128 + 4).toNat - y128.toNat)) (.ask (.leN 4 ((List.take (((y128 + 4).toNat - y128.toNat) * 1) (List.drop (y128.toNat * 1) x142)).length)) (.ask (.prop (List.map AV.d (List.take 4 (List.take (((y128 + 4).toNat - y128.toNat) * 1) (List.drop (y128.toNat * 1) x142))) = [AV.d (DV.v (Value.float FloatKind.f32 (dF (cel (List.take (((y128 + 4).toNat - y128.toNat) * 1) (List.drop (y128.toNat * 1) x142)) 0)))), AV.d (DV.v (Value.float FloatKind.f32 (dF (cel (List.take (((y128 + 4).toNat - y128.toNat) * 1) (List.drop (y128.toNat * 1) x142)) 1)))), AV.d (DV.v (Value.float FloatKind.f32 (dF (cel (List.take (((y128 + 4).toNat - y128.toNat) * 1) (List.drop (y128.toNat * 1) x142)) 2)))), AV.d (DV.v (Value.float FloatKind.f32 (dF (cel (List.take (((y128 + 4).toNat - y128.toNat) * 1) (List.drop (y128.toNat * 1) x142)) 3))))])) (.ask (.in64 (y128 + 4)) (.ask (.le 0 y128) (.ask (.le y128 (y128 + 4)) (.ask (.le (y128 + 4) ((↑x143 : Int))) (.ask (.eqN x144.length (x143 * 1)) (.ask (.leN 4 ((y128 + 4).toNat - y128.toNat)) (.ask (.leN 4 ((List.take (((y128 + 4).toNat - y128.toNat) * 1) (List.drop (y128.toNat * 1) x144)).length)) (.ask (.prop (List.map AV.d (List.take 4 (List.take (((y128 + 4).toNat - y128.toNat) * 1) (List.drop (y128.toNat * 1) x144))) = [AV.d (DV.v (Value.float FloatKind.f32 (dF (cel (List.take (((y128 + 4).toNat - y128.toNat) * 1) (List.drop (y128.toNat * 1) x144)) 0)))), AV.d (DV.v (Value.float FloatKind.f32 (dF (cel (List.take (((y128 + 4).toNat - y128.toNat) * 1) (List.drop (y128.toNat * 1) x144)) 1)))), AV.d (DV.v (Value.float FloatKind.f32 (dF (cel (List.take (((y128 + 4).toNat - y128.toNat) * 1) (List.drop (y128.toNat * 1) x144)) 2)))), AV.d (DV.v (Value.float FloatKind.f32 (dF (cel (List.take (((y128 + 4).toNat - y128.toNat) * 1) (List.drop (y128.toNat * 1) x144)) 3))))])) (.sees [(.agg [(.d (.v (.float .f32 (dF (cel (List.take (((y128 + 4).toNat - y128.toNat) * 1) (List.drop (y128.toNat * 1) x142)) 0))))), (.d (.v (.float .f32 (dF (cel (List.take (((y128 + 4).toNat - y128.toNat) * 1) (List.drop (y128.toNat * 1) x142)) 1))))), (.d (.v (.float .f32 (dF (cel (List.take (((y128 + 4).toNat - y128.toNat) * 1) (List.drop (y128.toNat * 1) x142)) 2))))), (.d (.v (.float .f32 (dF (cel (List.take (((y128 + 4).toNat - y128.toNat) * 1) (List.drop (y128.toNat * 1) x142)) 3)))))]), (.agg [(.d (.v (.float .f32 (dF (cel (List.take (((y128 + 4).toNat - y128.toNat) * 1) (List.drop (y128.toNat * 1) x144)) 0))))), (.d (.v (.float .f32 (dF (cel (List.take (((y128 + 4).toNat - y128.toNat) * 1) (List.drop (y128.toNat * 1) x144)) 1))))), (.d (.v (.float .f32 (dF (cel (List.take (((y128 + 4).toNat - y128.toNat) * 1) (List.drop (y128.toNat * 1) x144)) 2))))), (.d (.v (.float .f32 (dF (cel (List.take (((y128 + 4).toNat - y128.toNat) * 1) (List.drop (y128.toNat * 1) x144)) 3)))))])] (.br (decide (v224.fst < 0))
  (.bind (F19 x131 x132 (if -v224.fst > v224.fst then -v224.fst else v224.fst)) fun v225 =>
  (.ask (.in64 (-v224.fst)) (.sees [(.agg [(aI x131), (aI x132)]), (aI (if -v224.fst > v224.fst then -v224.fst else v224.fst))] (.br (v224.snd != 0)
  (.bind (F20 v224.fst v224.snd) fun v226 =>
  (.sees [(.agg [(aI v224.fst), (aI v224.snd)])] (.ask (.in64 (1 + v226)) (.bind (F19 (dI (celA [AV.d (DV.v (Value.int IntKind.i64 x129)), AV.d (DV.v (Value.int IntKind.i64 x130)), AV.d (DV.v (Value.int IntKind.i64 v225.fst)), AV.d (DV.v (Value.int IntKind.i64 v225.snd)), AV.d (DV.v (Value.int IntKind.i64 x133)), AV.d (DV.v (Value.int IntKind.i64 x134)), AV.d (DV.v (Value.int IntKind.i64 x135)), AV.d (DV.v (Value.int IntKind.i64 x136)), AV.d (DV.v (Value.int IntKind.i64 x137)), AV.d (DV.v (Value.int IntKind.i64 x138)), AV.d (DV.v (Value.int IntKind.i64 x139)), AV.d (DV.v (Value.int IntKind.i64 x140))] (0 + (1 + v226).toNat * 2))) (dI (celA [AV.d (DV.v (Value.int IntKind.i64 x129)), AV.d (DV.v (Value.int IntKind.i64 x130)), AV.d (DV.v (Value.int IntKind.i64 v225.fst)), AV.d (DV.v (Value.int IntKind.i64 v225.snd)), AV.d (DV.v (Value.int IntKind.i64 x133)), AV.d (DV.v (Value.int IntKind.i64 x134)), AV.d (DV.v (Value.int IntKind.i64 x135)), AV.d (DV.v (Value.int IntKind.i64 x136)), AV.d (DV.v (Value.int IntKind.i64 x137)), AV.d (DV.v (Value.int IntKind.i64 x138)), AV.d (DV.v (Value.int IntKind.i64 x139)), AV.d (DV.v (Value.int IntKind.i64 x140))] (0 + (1 + v226).toNat * 2 + 1))) (if -v224.snd > v224.snd then -v224.snd else v224.snd)) fun v227 =>
  (.ask (.le 0 (1 + v226)) (.ask (.lt (1 + v226) 6) (.ask (.leN (0 + (1 + v226).toNat * 2 + 2) 12) (.ask (.prop (List.take 2 (List.drop (0 + (1 + v226).toNat * 2) [AV.d (DV.v (Value.int IntKind.i64 x129)), AV.d (DV.v (Value.int IntKind.i64 x130)), AV.d (DV.v (Value.int IntKind.i64 v225.fst)), AV.d (DV.v (Value.int IntKind.i64 v225.snd)), AV.d (DV.v (Value.int IntKind.i64 x133)), AV.d (DV.v (Value.int IntKind.i64 x134)), AV.d (DV.v (Value.int IntKind.i64 x135)), AV.d (DV.v (Value.int IntKind.i64 x136)), AV.d (DV.v (Value.int IntKind.i64 x137)), AV.d (DV.v (Value.int IntKind.i64 x138)), AV.d (DV.v (Value.int IntKind.i64 x139)), AV.d (DV.v (Value.int IntKind.i64 x140))]) = [AV.d (DV.v (Value.int IntKind.i64 (dI (celA [AV.d (DV.v (Value.int IntKind.i64 x129)), AV.d (DV.v (Value.int IntKind.i64 x130)), AV.d (DV.v (Value.int IntKind.i64 v225.fst)), AV.d (DV.v (Value.int IntKind.i64 v225.snd)), AV.d (DV.v (Value.int IntKind.i64 x133)), AV.d (DV.v (Value.int IntKind.i64 x134)), AV.d (DV.v (Value.int IntKind.i64 x135)), AV.d (DV.v (Value.int IntKind.i64 x136)), AV.d (DV.v (Value.int IntKind.i64 x137)), AV.d (DV.v (Value.int IntKind.i64 x138)), AV.d (DV.v (Value.int IntKind.i64 x139)), AV.d (DV.v (Value.int IntKind.i64 x140))] (0 + (1 + v226).toNat * 2))))), AV.d (DV.v (Value.int IntKind.i64 (dI (celA [AV.d (DV.v (Value.int IntKind.i64 x129)), AV.d (DV.v (Value.int IntKind.i64 x130)), AV.d (DV.v (Value.int IntKind.i64 v225.fst)), AV.d (DV.v (Value.int IntKind.i64 v225.snd)), AV.d (DV.v (Value.int IntKind.i64 x133)), AV.d (DV.v (Value.int IntKind.i64 x134)), AV.d (DV.v (Value.int IntKind.i64 x135)), AV.d (DV.v (Value.int IntKind.i64 x136)), AV.d (DV.v (Value.int IntKind.i64 x137)), AV.d (DV.v (Value.int IntKind.i64 x138)), AV.d (DV.v (Value.int IntKind.i64 x139)), AV.d (DV.v (Value.int IntKind.i64 x140))] (0 + (1 + v226).toNat * 2 + 1)))))])) (.ask (.in64 (-v224.snd)) (.sees [(.agg [(aI (dI (celA [aI x129, aI x130, aI v225.fst, aI v225.snd, aI x133, aI x134, aI x135, aI x136, aI x137, aI x138, aI x139, aI x140] (0 + (1 + v226).toNat * 2)))), (aI (dI (celA [aI x129, aI x130, aI v225.fst, aI v225.snd, aI x133, aI x134, aI x135, aI x136, aI x137, aI x138, aI x139, aI x140] (0 + (1 + v226).toNat * 2 + 1))))]), (aI (if -v224.snd > v224.snd then -v224.snd else v224.snd))] (.ask (.le 0 (1 + v226)) (.ask (.lt (1 + v226) 6) (.ask (.leN (0 + (1 + v226).toNat * 2 + 2) 12) (.triv _ (tv_p (spliceA [AV.d (DV.v (Value.int IntKind.i64 x129)), AV.d (DV.v (Value.int IntKind.i64 x130)), AV.d (DV.v (Value.int IntKind.i64 v225.fst)), AV.d (DV.v (Value.int IntKind.i64 v225.snd)), AV.d (DV.v (Value.int IntKind.i64 x133)), AV.d (DV.v (Value.int IntKind.i64 x134)), AV.d (DV.v (Value.int IntKind.i64 x135)), AV.d (DV.v (Value.int IntKind.i64 x136)), AV.d (DV.v (Value.int IntKind.i64 x137)), AV.d (DV.v (Value.int IntKind.i64 x138)), AV.d (DV.v (Value.int IntKind.i64 x139)), AV.d (DV.v (Value.int IntKind.i64 x140))] (0 + (1 + v226).toNat * 2) [AV.d (DV.v (Value.int IntKind.i64 v227.fst)), AV.d (DV.v (Value.int IntKind.i64 v227.snd))])) (.ask (.in64 (y128 + 4)) (.ask (.prop (refK 7 (ABlk.cells (spliceA [AV.d (DV.v (Value.int IntKind.i64 x129)), AV.d (DV.v (Value.int IntKind.i64 x130)), AV.d (DV.v (Value.int IntKind.i64 v225.fst)), AV.d (DV.v (Value.int IntKind.i64 v225.snd)), AV.d (DV.v (Value.int IntKind.i64 x133)), AV.d (DV.v (Value.int IntKind.i64 x134)), AV.d (DV.v (Value.int IntKind.i64 x135)), AV.d (DV.v (Value.int IntKind.i64 x136)), AV.d (DV.v (Value.int IntKind.i64 x137)), AV.d (DV.v (Value.int IntKind.i64 x138)), AV.d (DV.v (Value.int IntKind.i64 x139)), AV.d (DV.v (Value.int IntKind.i64 x140))] (0 + (1 + v226).toNat * 2) [AV.d (DV.v (Value.int IntKind.i64 v227.fst)), AV.d (DV.v (Value.int IntKind.i64 v227.snd))]) 32) = true)) (.nxt (.c2 (y128 + 4) (spliceA [AV.d (DV.v (Value.int IntKind.i64 x129)), AV.d (DV.v (Value.int IntKind.i64 x130)), AV.d (DV.v (Value.int IntKind.i64 v225.fst)), AV.d (DV.v (Value.int IntKind.i64 v225.snd)), AV.d (DV.v (Value.int IntKind.i64 x133)), AV.d (DV.v (Value.int IntKind.i64 x134)), AV.d (DV.v (Value.int IntKind.i64 x135)), AV.d (DV.v (Value.int IntKind.i64 x136)), AV.d (DV.v (Value.int IntKind.i64 x137)), AV.d (DV.v (Value.int IntKind.i64 x138)), AV.d (DV.v (Value.int IntKind.i64 x139)), AV.d (DV.v (Value.int IntKind.i64 x140))] (0 + (1 + v226).toNat * 2) [AV.d (DV.v (Value.int IntKind.i64 v227.fst)), AV.d (DV.v (Value.int IntKind.i64 v227.snd))]) x141 x142 x143 x144 y220 y221 y213 y214 x133 x134 x135 x136 x137 x138 x139 x140 x145 y222 y223 y215 y216 x146 x147 x148 x149 x150 x151 x152 x153 x154 x155 x156))))))))))))))))))
  (.ask (.in64 (y128 + 4)) (.nxt (.c1 (y128 + 4) x129 x130 v225.fst v225.snd x133 x134 x135 x136 x137 x138 x139 x140 x141 x142 x143 x144 y220 y221 y213 y214 x145 y222 y223 y215 y216 x146 x147 x148 x149 x150 x151 x152 x153 x154 x155 x156)))))))
  (.bind (F19 x129 x130 (if -v224.fst > v224.fst then -v224.fst else v224.fst)) fun v232 =>
  (.ask (.in64 (-v224.fst)) (.sees [(.agg [(aI x129), (aI x130)]), (aI (if -v224.fst > v224.fst then -v224.fst else v224.fst))] (.br (v224.snd != 0)
  (.bind (F20 v224.fst v224.snd) fun v233 =>
  (.sees [(.agg [(aI v224.fst), (aI v224.snd)])] (.ask (.in64 (1 + v233)) (.bind (F19 (dI (celA [AV.d (DV.v (Value.int IntKind.i64 v232.fst)), AV.d (DV.v (Value.int IntKind.i64 v232.snd)), AV.d (DV.v (Value.int IntKind.i64 x131)), AV.d (DV.v (Value.int IntKind.i64 x132)), AV.d (DV.v (Value.int IntKind.i64 x133)), AV.d (DV.v (Value.int IntKind.i64 x134)), AV.d (DV.v (Value.int IntKind.i64 x135)), AV.d (DV.v (Value.int IntKind.i64 x136)), AV.d (DV.v (Value.int IntKind.i64 x137)), AV.d (DV.v (Value.int IntKind.i64 x138)), AV.d (DV.v (Value.int IntKind.i64 x139)), AV.d (DV.v (Value.int IntKind.i64 x140))] (0 + (1 + v233).toNat * 2))) (dI (celA [AV.d (DV.v (Value.int IntKind.i64 v232.fst)), AV.d (DV.v (Value.int IntKind.i64 v232.snd)), AV.d (DV.v (Value.int IntKind.i64 x131)), AV.d (DV.v (Value.int IntKind.i64 x132)), AV.d (DV.v (Value.int IntKind.i64 x133)), AV.d (DV.v (Value.int IntKind.i64 x134)), AV.d (DV.v (Value.int IntKind.i64 x135)), AV.d (DV.v (Value.int IntKind.i64 x136)), AV.d (DV.v (Value.int IntKind.i64 x137)), AV.d (DV.v (Value.int IntKind.i64 x138)), AV.d (DV.v (Value.int IntKind.i64 x139)), AV.d (DV.v (Value.int IntKind.i64 x140))] (0 + (1 + v233).toNat * 2 + 1))) (if -v224.snd > v224.snd then -v224.snd else v224.snd)) fun v234 =>
  (.ask (.le 0 (1 + v233)) (.ask (.lt (1 + v233) 6) (.ask (.leN (0 + (1 + v233).toNat * 2 + 2) 12) (.ask (.prop (List.take 2 (List.drop (0 + (1 + v233).toNat * 2) [AV.d (DV.v (Value.int IntKind.i64 v232.fst)), AV.d (DV.v (Value.int IntKind.i64 v232.snd)), AV.d (DV.v (Value.int IntKind.i64 x131)), AV.d (DV.v (Value.int IntKind.i64 x132)), AV.d (DV.v (Value.int IntKind.i64 x133)), AV.d (DV.v (Value.int IntKind.i64 x134)), AV.d (DV.v (Value.int IntKind.i64 x135)), AV.d (DV.v (Value.int IntKind.i64 x136)), AV.d (DV.v (Value.int IntKind.i64 x137)), AV.d (DV.v (Value.int IntKind.i64 x138)), AV.d (DV.v (Value.int IntKind.i64 x139)), AV.d (DV.v (Value.int IntKind.i64 x140))]) = [AV.d (DV.v (Value.int IntKind.i64 (dI (celA [AV.d (DV.v (Value.int IntKind.i64 v232.fst)), AV.d (DV.v (Value.int IntKind.i64 v232.snd)), AV.d (DV.v (Value.int IntKind.i64 x131)), AV.d (DV.v (Value.int IntKind.i64 x132)), AV.d (DV.v (Value.int IntKind.i64 x133)), AV.d (DV.v (Value.int IntKind.i64 x134)), AV.d (DV.v (Value.int IntKind.i64 x135)), AV.d (DV.v (Value.int IntKind.i64 x136)), AV.d (DV.v (Value.int IntKind.i64 x137)), AV.d (DV.v (Value.int IntKind.i64 x138)), AV.d (DV.v (Value.int IntKind.i64 x139)), AV.d (DV.v (Value.int IntKind.i64 x140))] (0 + (1 + v233).toNat * 2))))), AV.d (DV.v (Value.int IntKind.i64 (dI (celA [AV.d (DV.v (Value.int IntKind.i64 v232.fst)), AV.d (DV.v (Value.int IntKind.i64 v232.snd)), AV.d (DV.v (Value.int IntKind.i64 x131)), AV.d (DV.v (Value.int IntKind.i64 x132)), AV.d (DV.v (Value.int IntKind.i64 x133)), AV.d (DV.v (Value.int IntKind.i64 x134)), AV.d (DV.v (Value.int IntKind.i64 x135)), AV.d (DV.v (Value.int IntKind.i64 x136)), AV.d (DV.v (Value.int IntKind.i64 x137)), AV.d (DV.v (Value.int IntKind.i64 x138)), AV.d (DV.v (Value.int IntKind.i64 x139)), AV.d (DV.v (Value.int IntKind.i64 x140))] (0 + (1 + v233).toNat * 2 + 1)))))])) (.ask (.in64 (-v224.snd)) (.sees [(.agg [(aI (dI (celA [aI v232.fst, aI v232.snd, aI x131, aI x132, aI x133, aI x134, aI x135, aI x136, aI x137, aI x138, aI x139, aI x140] (0 + (1 + v233).toNat * 2)))), (aI (dI (celA [aI v232.fst, aI v232.snd, aI x131, aI x132, aI x133, aI x134, aI x135, aI x136, aI x137, aI x138, aI x139, aI x140] (0 + (1 + v233).toNat * 2 + 1))))]), (aI (if -v224.snd > v224.snd then -v224.snd else v224.snd))] (.ask (.le 0 (1 + v233)) (.ask (.lt (1 + v233) 6) (.ask (.leN (0 + (1 + v233).toNat * 2 + 2) 12) (.triv _ (tv_p (spliceA [AV.d (DV.v (Value.int IntKind.i64 v232.fst)), AV.d (DV.v (Value.int IntKind.i64 v232.snd)), AV.d (DV.v (Value.int IntKind.i64 x131)), AV.d (DV.v (Value.int IntKind.i64 x132)), AV.d (DV.v (Value.int IntKind.i64 x133)), AV.d (DV.v (Value.int IntKind.i64 x134)), AV.d (DV.v (Value.int IntKind.i64 x135)), AV.d (DV.v (Value.int IntKind.i64 x136)), AV.d (DV.v (Value.int IntKind.i64 x137)), AV.d (DV.v (Value.int IntKind.i64 x138)), AV.d (DV.v (Value.int IntKind.i64 x139)), AV.d (DV.v (Value.int IntKind.i64 x140))] (0 + (1 + v233).toNat * 2) [AV.d (DV.v (Value.int IntKind.i64 v234.fst)), AV.d (DV.v (Value.int IntKind.i64 v234.snd))])) (.ask (.in64 (y128 + 4)) (.ask (.prop (refK 7 (ABlk.cells (spliceA [AV.d (DV.v (Value.int IntKind.i64 v232.fst)), AV.d (DV.v (Value.int IntKind.i64 v232.snd)), AV.d (DV.v (Value.int IntKind.i64 x131)), AV.d (DV.v (Value.int IntKind.i64 x132)), AV.d (DV.v (Value.int IntKind.i64 x133)), AV.d (DV.v (Value.int IntKind.i64 x134)), AV.d (DV.v (Value.int IntKind.i64 x135)), AV.d (DV.v (Value.int IntKind.i64 x136)), AV.d (DV.v (Value.int IntKind.i64 x137)), AV.d (DV.v (Value.int IntKind.i64 x138)), AV.d (DV.v (Value.int IntKind.i64 x139)), AV.d (DV.v (Value.int IntKind.i64 x140))] (0 + (1 + v233).toNat * 2) [AV.d (DV.v (Value.int IntKind.i64 v234.fst)), AV.d (DV.v (Value.int IntKind.i64 v234.snd))]) 32) = true)) (.nxt (.c2 (y128 + 4) (spliceA [AV.d (DV.v (Value.int IntKind.i64 v232.fst)), AV.d (DV.v (Value.int IntKind.i64 v232.snd)), AV.d (DV.v (Value.int IntKind.i64 x131)), AV.d (DV.v (Value.int IntKind.i64 x132)), AV.d (DV.v (Value.int IntKind.i64 x133)), AV.d (DV.v (Value.int IntKind.i64 x134)), AV.d (DV.v (Value.int IntKind.i64 x135)), AV.d (DV.v (Value.int IntKind.i64 x136)), AV.d (DV.v (Value.int IntKind.i64 x137)), AV.d (DV.v (Value.int IntKind.i64 x138)), AV.d (DV.v (Value.int IntKind.i64 x139)), AV.d (DV.v (Value.int IntKind.i64 x140))] (0 + (1 + v233).toNat * 2) [AV.d (DV.v (Value.int IntKind.i64 v234.fst)), AV.d (DV.v (Value.int IntKind.i64 v234.snd))]) x141 x142 x143 x144 y220 y221 y213 y214 x133 x134 x135 x136 x137 x138 x139 x140 x145 y222 y223 y215 y216 x146 x147 x148 x149 x150 x151 x152 x153 x154 x155 x156))))))))))))))))))
  (.ask (.in64 (y128 + 4)) (.nxt (.c1 (y128 + 4) v232.fst v232.snd x131 x132 x133 x134 x135 x136 x137 x138 x139 x140 x141 x142 x143 x144 y220 y221 y213 y214 x145 y222 y223 y215 y216 x146 x147 x148 x149 x150 x151 x152 x153 x154 x155 x156))))))))))))))))))))))))))
  (.ret (x129, x130, x131, x132, x133, x134, x135, x136, x137, x138, x139, x140, 0))))
  | .c2 y183 x184 x185 x186 x187 x188 x189 x190 x191 x192 x193 x194 x195 x196 x197 x198 x199 x200 x201 y228 y229 y230 y231 x202 x203 x204 x205 x206 x207 x208 x209 x210 x211 x212 => (.ask (.in64 (y183 + 4)) (.br (decide (y183 + 4 ≤ (↑x185 : Int)))
  (.bind (F44 (dF (cel (List.take (((y183 + 4).toNat - y183.toNat) * 1) (List.drop (y183.toNat * 1) x186)) 0)) (dF (cel (List.take (((y183 + 4).toNat - y183.toNat) * 1) (List.drop (y183.toNat * 1) x186)) 1)) (dF (cel (List.take (((y183 + 4).toNat - y183.toNat) * 1) (List.drop (y183.toNat * 1) x186)) 2)) (dF (cel (List.take (((y183 + 4).toNat - y183.toNat) * 1) (List.drop (y183.toNat * 1) x186)) 3)) (dF (cel (List.take (((y183 + 4).toNat - y183.toNat) * 1) (List.drop (y183.toNat * 1) x188)) 0)) (dF (cel (List.take (((y183 + 4).toNat - y183.toNat) * 1) (List.drop (y183.toNat * 1) x188)) 1)) (dF (cel (List.take (((y183 + 4).toNat - y183.toNat) * 1) (List.drop (y183.toNat * 1) x188)) 2)) (dF (cel (List.take (((y183 + 4).toNat - y183.toNat) * 1) (List.drop (y183.toNat * 1) x188)) 3))) fun v235 =>
  (.ask (.in64 (y183 + 4)) (.ask (.le 0 y183) (.ask (.le y183 (y183 + 4)) (.ask (.le (y183 + 4) ((↑x185 : Int))) (.ask (.eqN x186.length (x185 * 1)) (.ask (.leN 4 ((y183 + 4).toNat - y183.toNat)) (.ask (.leN 4 ((List.take (((y183 + 4).toNat - y183.toNat) * 1) (List.drop (y183.toNat * 1) x186)).length)) (.ask (.prop (List.map AV.d (List.take 4 (List.take (((y183 + 4).toNat - y183.toNat) * 1) (List.drop (y183.toNat * 1) x186))) = [AV.d (DV.v (Value.float FloatKind.f32 (dF (cel (List.take (((y183 + 4).toNat - y183.toNat) * 1) (List.drop (y183.toNat * 1) x186)) 0)))), AV.d (DV.v (Value.float FloatKind.f32 (dF (cel (List.take (((y183 + 4).toNat - y183.toNat) * 1) (List.drop (y183.toNat * 1) x186)) 1)))), AV.d (DV.v (Value.float FloatKind.f32 (dF (cel (List.take (((y183 + 4).toNat - y183.toNat) * 1) (List.drop (y183.toNat * 1) x186)) 2)))), AV.d (DV.v (Value.float FloatKind.f32 (dF (cel (List.take (((y183 + 4).toNat - y183.toNat) * 1) (List.drop (y183.toNat * 1) x186)) 3))))])) (.ask (.in64 (y183 + 4)) (.ask (.le 0 y183) (.ask (.le y183 (y183 + 4)) (.ask (.le (y183 + 4) ((↑x187 : Int))) (.ask (.eqN x188.length (x187 * 1)) (.ask (.leN 4 ((y183 + 4).toNat - y183.toNat)) (.ask (.leN 4 ((List.take (((y183 + 4).toNat - y183.toNat) * 1) (List.drop (y183.toNat * 1) x188)).length)) (.ask (.prop (List.map AV.d (List.take 4 (List.take (((y183 + 4).toNat - y183.toNat) * 1) (List.drop (y183.toNat * 1) x188))) = [AV.d (DV.v (Value.float FloatKind.f32 (dF (cel (List.take (((y183 + 4).toNat - y183.toNat) * 1) (List.drop (y183.toNat * 1) x188)) 0)))), AV.d (DV.v (Value.float FloatKind.f32 (dF (cel (List.take (((y183 + 4).toNat - y183.toNat) * 1) (List.drop (y183.toNat * 1) x188)) 1)))), AV.d (DV.v (Value.float FloatKind.f32 (dF (cel (List.take (((y183 + 4).toNat - y183.toNat) * 1) (List.drop (y183.toNat * 1) x188)) 2)))), AV.d (DV.v (Value.float FloatKind.f32 (dF (cel (List.take (((y183 + 4).toNat - y183.toNat) * 1) (List.drop (y183.toNat * 1) x188)) 3))))])) (.sees [(.agg [(.d (.v (.float .f32 (dF (cel (List.take (((y183 + 4).toNat - y183.toNat) * 1) (List.drop (y183.toNat * 1) x186)) 0))))), (.d (.v (.float .f32 (dF (cel (List.take (((y183 + 4).toNat - y183.toNat) * 1) (List.drop (y183.toNat * 1) x186)) 1))))), (.d (.v (.float .f32 (dF (cel (List.take (((y183 + 4).toNat - y183.toNat) * 1) (List.drop (y183.toNat * 1) x186)) 2))))), (.d (.v (.float .f32 (dF (cel (List.take (((y183 + 4).toNat - y183.toNat) * 1) (List.drop (y183.toNat * 1) x186)) 3)))))]), (.agg [(.d (.v (.float .f32 (dF (cel (List.take (((y183 + 4).toNat - y183.toNat) * 1) (List.drop (y183.toNat * 1) x188)) 0))))), (.d (.v (.float .f32 (dF (cel (List.take (((y183 + 4).toNat - y183.toNat) * 1) (List.drop (y183.toNat * 1) x188)) 1))))), (.d (.v (.float .f32 (dF (cel (List.take (((y183 + 4).toNat - y183.toNat) * 1) (List.drop (y183.toNat * 1) x188)) 2))))), (.d (.v (.float .f32 (dF (cel (List.take (((y183 + 4).toNat - y183.toNat) * 1) (List.drop (y183.toNat * 1) x188)) 3)))))])] (.br (decide (v235.fst < 0))
  (.bind (F19 (dI (celA x184 2)) (dI (celA x184 3)) (if -v235.fst > v235.fst then -v235.fst else v235.fst)) fun v236 =>
  (.ask (.leN 4 x184.length) (.ask (.prop (List.take 2 (List.drop 2 x184) = [AV.d (DV.v (Value.int IntKind.i64 (dI (celA x184 2)))), AV.d (DV.v (Value.int IntKind.i64 (dI (celA x184 3))))])) (.ask (.in64 (-v235.fst)) (.sees [(.agg [(aI (dI (celA x184 2))), (aI (dI (celA x184 3)))]), (aI (if -v235.fst > v235.fst then -v235.fst else v235.fst))] (.ask (.leN 4 x184.length) (.triv _ (tv_p (spliceA x184 2 [AV.d (DV.v (Value.int IntKind.i64 v236.fst)), AV.d (DV.v (Value.int IntKind.i64 v236.snd))])) (.br (v235.snd != 0)
  (.bind (F20 v235.fst v235.snd) fun v237 =>
  (.sees [(.agg [(aI v235.fst), (aI v235.snd)])] (.ask (.in64 (1 + v237)) (.bind (F19 (dI (celA (spliceA x184 2 [AV.d (DV.v (Value.int IntKind.i64 v236.fst)), AV.d (DV.v (Value.int IntKind.i64 v236.snd))]) (0 + (1 + v237).toNat * 2))) (dI (celA (spliceA x184 2 [AV.d (DV.v (Value.int IntKind.i64 v236.fst)), AV.d (DV.v (Value.int IntKind.i64 v236.snd))]) (0 + (1 + v237).toNat * 2 + 1))) (if -v235.snd > v235.snd then -v235.snd else v235.snd)) fun v238 =>
  (.ask (.le 0 (1 + v237)) (.ask (.lt (1 + v237) 6) (.ask (.leN (0 + (1 + v237).toNat * 2 + 2) ((spliceA x184 2 [AV.d (DV.v (Value.int IntKind.i64 v236.fst)), AV.d (DV.v (Value.int IntKind.i64 v236.snd))]).length)) (.ask (.prop (List.take 2 (List.drop (0 + (1 + v237).toNat * 2) (spliceA x184 2 [AV.d (DV.v (Value.int IntKind.i64 v236.fst)), AV.d (DV.v (Value.int IntKind.i64 v236.snd))])) = [AV.d (DV.v (Value.int IntKind.i64 (dI (celA (spliceA x184 2 [AV.d (DV.v (Value.int IntKind.i64 v236.fst)), AV.d (DV.v (Value.int IntKind.i64 v236.snd))]) (0 + (1 + v237).toNat * 2))))), AV.d (DV.v (Value.int IntKind.i64 (dI (celA (spliceA x184 2 [AV.d (DV.v (Value.int IntKind.i64 v236.fst)), AV.d (DV.v (Value.int IntKind.i64 v236.snd))]) (0 + (1 + v237).toNat * 2 + 1)))))])) (.ask (.in64 (-v235.snd)) (.sees [(.agg [(aI (dI (celA (spliceA x184 2 [aI v236.fst, aI v236.snd]) (0 + (1 + v237).toNat * 2)))), (aI (dI (celA (spliceA x184 2 [aI v236.fst, aI v236.snd]) (0 + (1 + v237).toNat * 2 + 1))))]), (aI (if -v235.snd > v235.snd then -v235.snd else v235.snd))] (.ask (.le 0 (1 + v237)) (.ask (.lt (1 + v237) 6) (.ask (.leN (0 + (1 + v237).toNat * 2 + 2) ((spliceA x184 2 [AV.d (DV.v (Value.int IntKind.i64 v236.fst)), AV.d (DV.v (Value.int IntKind.i64 v236.snd))]).length)) (.triv _ (tv_p (spliceA (spliceA x184 2 [AV.d (DV.v (Value.int IntKind.i64 v236.fst)), AV.d (DV.v (Value.int IntKind.i64 v236.snd))]) (0 + (1 + v237).toNat * 2) [AV.d (DV.v (Value.int IntKind.i64 v238.fst)), AV.d (DV.v (Value.int IntKind.i64 v238.snd))])) (.ask (.in64 (y183 + 4)) (.ask (.prop (refK 7 (ABlk.cells (spliceA (spliceA x184 2 [AV.d (DV.v (Value.int IntKind.i64 v236.fst)), AV.d (DV.v (Value.int IntKind.i64 v236.snd))]) (0 + (1 + v237).toNat * 2) [AV.d (DV.v (Value.int IntKind.i64 v238.fst)), AV.d (DV.v (Value.int IntKind.i64 v238.snd))]) 32) = true)) (.nxt (.c2 (y183 + 4) (spliceA (spliceA x184 2 [AV.d (DV.v (Value.int IntKind.i64 v236.fst)), AV.d (DV.v (Value.int IntKind.i64 v236.snd))]) (0 + (1 + v237).toNat * 2) [AV.d (DV.v (Value.int IntKind.i64 v238.fst)), AV.d (DV.v (Value.int IntKind.i64 v238.snd))]) x185 x186 x187 x188 x189 x190 x191 x192 x193 x194 x195 x196 x197 x198 x199 x200 x201 y228 y229 y230 y231 x202 x203 x204 x205 x206 x207 x208 x209 x210 x211 x212))))))))))))))))))
  (.ask (.in64 (y183 + 4)) (.ask (.prop (refK 7 (ABlk.cells (spliceA x184 2 [AV.d (DV.v (Value.int IntKind.i64 v236.fst)), AV.d (DV.v (Value.int IntKind.i64 v236.snd))]) 32) = true)) (.nxt (.c2 (y183 + 4) (spliceA x184 2 [AV.d (DV.v (Value.int IntKind.i64 v236.fst)), AV.d (DV.v (Value.int IntKind.i64 v236.snd))]) x185 x186 x187 x188 x189 x190 x191 x192 x193 x194 x195 x196 x197 x198 x199 x200 x201 y228 y229 y230 y231 x202 x203 x204 x205 x206 x207 x208 x209 x210 x211 x212))))))))))))
  (.bind (F19 (dI (celA x184 0)) (dI (celA x184 1)) (if -v235.fst > v235.fst then -v235.fst else v235.fst)) fun v239 =>
  (.ask (.leN 2 x184.length) (.ask (.prop (List.take 2 (List.drop 0 x184) = [AV.d (DV.v (Value.int IntKind.i64 (dI (celA x184 0)))), AV.d (DV.v (Value.int IntKind.i64 (dI (celA x184 1))))])) (.ask (.in64 (-v235.fst)) (.sees [(.agg [(aI (dI (celA x184 0))), (aI (dI (celA x184 1)))]), (aI (if -v235.fst > v235.fst then -v235.fst else v235.fst))] (.ask (.leN 2 x184.length) (.triv _ (tv_p (spliceA x184 0 [AV.d (DV.v (Value.int IntKind.i64 v239.fst)), AV.d (DV.v (Value.int IntKind.i64 v239.snd))])) (.br (v235.snd != 0)
  (.bind (F20 v235.fst v235.snd) fun v240 =>
  (.sees [(.agg [(aI v235.fst), (aI v235.snd)])] (.ask (.in64 (1 + v240)) (.bind (F19 (dI (celA (spliceA x184 0 [AV.d (DV.v (Value.int IntKind.i64 v239.fst)), AV.d (DV.v (Value.int IntKind.i64 v239.snd))]) (0 + (1 + v240).toNat * 2))) (dI (celA (spliceA x184 0 [AV.d (DV.v (Value.int IntKind.i64 v239.fst)), AV.d (DV.v (Value.int IntKind.i64 v239.snd))]) (0 + (1 + v240).toNat * 2 + 1))) (if -v235.snd > v235.snd then -v235.snd else v235.snd)) fun v241 =>
  (.ask (.le 0 (1 + v240)) (.ask (.lt (1 + v240) 6) (.ask (.leN (0 + (1 + v240).toNat * 2 + 2) ((spliceA x184 0 [AV.d (DV.v (Value.int IntKind.i64 v239.fst)), AV.d (DV.v (Value.int IntKind.i64 v239.snd))]).length)) (.ask (.prop (List.take 2 (List.drop (0 + (1 + v240).toNat * 2) (spliceA x184 0 [AV.d (DV.v (Value.int IntKind.i64 v239.fst)), AV.d (DV.v (Value.int IntKind.i64 v239.snd))])) = [AV.d (DV.v (Value.int IntKind.i64 (dI (celA (spliceA x184 0 [AV.d (DV.v (Value.int IntKind.i64 v239.fst)), AV.d (DV.v (Value.int IntKind.i64 v239.snd))]) (0 + (1 + v240).toNat * 2))))), AV.d (DV.v (Value.int IntKind.i64 (dI (celA (spliceA x184 0 [AV.d (DV.v (Value.int IntKind.i64 v239.fst)), AV.d (DV.v (Value.int IntKind.i64 v239.snd))]) (0 + (1 + v240).toNat * 2 + 1)))))])) (.ask (.in64 (-v235.snd)) (.sees [(.agg [(aI (dI (celA (spliceA x184 0 [aI v239.fst, aI v239.snd]) (0 + (1 + v240).toNat * 2)))), (aI (dI (celA (spliceA x184 0 [aI v239.fst, aI v239.snd]) (0 + (1 + v240).toNat * 2 + 1))))]), (aI (if -v235.snd > v235.snd then -v235.snd else v235.snd))] (.ask (.le 0 (1 + v240)) (.ask (.lt (1 + v240) 6) (.ask (.leN (0 + (1 + v240).toNat * 2 + 2) ((spliceA x184 0 [AV.d (DV.v (Value.int IntKind.i64 v239.fst)), AV.d (DV.v (Value.int IntKind.i64 v239.snd))]).length)) (.triv _ (tv_p (spliceA (spliceA x184 0 [AV.d (DV.v (Value.int IntKind.i64 v239.fst)), AV.d (DV.v (Value.int IntKind.i64 v239.snd))]) (0 + (1 + v240).toNat * 2) [AV.d (DV.v (Value.int IntKind.i64 v241.fst)), AV.d (DV.v (Value.int IntKind.i64 v241.snd))])) (.ask (.in64 (y183 + 4)) (.ask (.prop (refK 7 (ABlk.cells (spliceA (spliceA x184 0 [AV.d (DV.v (Value.int IntKind.i64 v239.fst)), AV.d (DV.v (Value.int IntKind.i64 v239.snd))]) (0 + (1 + v240).toNat * 2) [AV.d (DV.v (Value.int IntKind.i64 v241.fst)), AV.d (DV.v (Value.int IntKind.i64 v241.snd))]) 32) = true)) (.nxt (.c2 (y183 + 4) (spliceA (spliceA x184 0 [AV.d (DV.v (Value.int IntKind.i64 v239.fst)), AV.d (DV.v (Value.int IntKind.i64 v239.snd))]) (0 + (1 + v240).toNat * 2) [AV.d (DV.v (Value.int IntKind.i64 v241.fst)), AV.d (DV.v (Value.int IntKind.i64 v241.snd))]) x185 x186 x187 x188 x189 x190 x191 x192 x193 x194 x195 x196 x197 x198 x199 x200 x201 y228 y229 y230 y231 x202 x203 x204 x205 x206 x207 x208 x209 x210 x211 x212))))))))))))))))))
  (.ask (.in64 (y183 + 4)) (.ask (.prop (refK 7 (ABlk.cells (spliceA x184 0 [AV.d (DV.v (Value.int IntKind.i64 v239.fst)), AV.d (DV.v (Value.int IntKind.i64 v239.snd))]) 32) = true)) (.nxt (.c2 (y183 + 4) (spliceA x184 0 [AV.d (DV.v (Value.int IntKind.i64 v239.fst)), AV.d (DV.v (Value.int IntKind.i64 v239.snd))]) x185 x186 x187 x188 x189 x190 x191 x192 x193 x194 x195 x196 x197 x198 x199 x200 x201 y228 y229 y230 y231 x202 x203 x204 x205 x206 x207 x208 x209 x210 x211 x212)))))))))))))))))))))))))))))))
  (.ask (.leN 12 x184.length) (.ask (.prop (List.take 12 (List.drop 0 x184) = [AV.d (DV.v (Value.int IntKind.i64 (dI (celA x184 0)))), AV.d (DV.v (Value.int IntKind.i64 (dI (celA x184 1)))), AV.d (DV.v (Value.int IntKind.i64 (dI (celA x184 2)))), AV.d (DV.v (Value.int IntKind.i64 (dI (celA x184 3)))), AV.d (DV.v (Value.int IntKind.i64 (dI (celA x184 4)))), AV.d (DV.v (Value.int IntKind.i64 (dI (celA x184 5)))), AV.d (DV.v (Value.int IntKind.i64 (dI (celA x184 6)))), AV.d (DV.v (Value.int IntKind.i64 (dI (celA x184 7)))), AV.d (DV.v (Value.int IntKind.i64 (dI (celA x184 8)))), AV.d (DV.v (Value.int IntKind.i64 (dI (celA x184 9)))), AV.d (DV.v (Value.int IntKind.i64 (dI (celA x184 10)))), AV.d (DV.v (Value.int IntKind.i64 (dI (celA x184 11))))])) (.ret ((dI (celA x184 0)), (dI (celA x184 1)), (dI (celA x184 2)), (dI (celA x184 3)), (dI (celA x184 4)), (dI (celA x184 5)), (dI (celA x184 6)), (dI (celA x184 7)), (dI (celA x184 8)), (dI (celA x184 9)), (dI (celA x184 10)), (dI (celA x184 11)), 0))))))
noncomputable def F6 (a0 a1 a2 a3 a4 a5 a6 a7 a8 a9 a10 a11 : Int) (a12 : Nat) (a13 : List DV) (a14 : Nat) (a15 : List DV) : Option (Int × Int × Int × Int × Int × Int × Int × Int × Int × Int × Int × Int × Int) := res B6 (.c0 a0 a1 a2 a3 a4 a5 a6 a7 a8 a9 a10 a11 a12 a13 a14 a15)
noncomputable def D6_0 (a0 a1 a2 a3 a4 a5 a6 a7 a8 a9 a10 a11 : Int) (a12 : Nat) (a13 : List DV) (a14 : Nat) (a15 : List DV) : DT cfz := (.go 10 [] [] (.bind (f15 a0 a1 a2 a3 a4 a5 a6 a7 a8 a9 a10 a11) fun v70 => (.go 2 [(.ck 0)] [] (.bind (f16 a12 a13) fun v119 => (.go 2 [(.ck 1)] [] (.bind (f16 a14 a15) fun v120 => (.go 6 [(.ck 2)] [] (.bind (f17 ((↑a12 : Int) != (↑a14 : Int)) 2) fun v121 => (.go 5 [(.ck 3)] [1] (.bind (f17 ((↑a12 : Int).tmod 4 != 0) 16) fun v122 => (.go 2 [(.ck 4)] [] (.bind (f14 5 [(vI v70), (vI v119), (vI v120), (vI v121), (vI v122)]) fun v123 => (.go 8 [(.ck 5)] [] (.split 32 (.go 9 [(.br true)] [0] .fin) (.go 30 [(.br false), .enter] [0] (.cut 7 [[0, 1, 2, 4], [3, 6, 7]] []))))))))))))))))
theorem k6_0 (a0 a1 a2 a3 a4 a5 a6 a7 a8 a9 a10 a11 : Int) (a12 : Nat) (a13 : List DV) (a14 : Nat) (a15 : List DV) : xrun cfz 6 (D6_0 a0 a1 a2 a3 a4 a5 a6 a7 a8 a9 a10 a11 a12 a13 a14 a15) [] (st6 (.c0 a0 a1 a2 a3 a4 a5 a6 a7 a8 a9 a10 a11 a12 a13 a14 a15)) = (B6 (.c0 a0 a1 a2 a3 a4 a5 a6 a7 a8 a9 a10 a11 a12 a13 a14 a15)).mach st6 out6 := by kernel_rfl
noncomputable def D6_1 (y128 x129 x130 x131 x132 x133 x134 x135 x136 x137 x138 x139 x140 : Int) (x141 : Nat) (x142 : List DV) (x143 : Nat) (x144 : List DV) (y220 y221 y213 y214 x145 y222 y223 y215 y216 x146 x147 x148 x149 x150 : Int) (x151 : Bool) (x152 x153 : Int) (x154 : Bool) (x155 : Int) (x156 : List DV) : DT cfz := (.go 9 [] [] (.split 9 (.go 6 [(.br true)] [0] (.bind (f44 (dF (cel (List.take (((y128 + 4).toNat - y128.toNat) * 1) (List.drop (y128.toNat * 1) x142)) 0)) (dF (cel (List.take (((y128 + 4).toNat - y128.toNat) * 1) (List.drop (y128.toNat * 1) x142)) 1)) (dF (cel (List.take (((y128 + 4).toNat - y128.toNat) * 1) (List.drop (y128.toNat * 1) x142)) 2)) (dF (cel (List.take (((y128 + 4).toNat - y128.toNat) * 1) (List.drop (y128.toNat * 1) x142)) 3)) (dF (cel (List.take (((y128 + 4).toNat - y128.toNat) * 1) (List.drop (y128.toNat * 1) x144)) 0)) (dF (cel (List.take (((y128 + 4).toNat - y128.toNat) * 1) (List.drop (y128.toNat * 1) x144)) 1)) (dF (cel (List.take (((y128 + 4).toNat - y128.toNat) * 1) (List.drop (y128.toNat * 1) x144)) 2)) (dF (cel (List.take (((y128 + 4).toNat - y128.toNat) * 1) (List.drop (y128.toNat * 1) x144)) 3))) fun v224 => (.go 18 [.none, (.as (.agg [(.d (.v (.float .f32 (dF (cel (List.take (((y128 + 4).toNat - y128.toNat) * 1) (List.drop (y128.toNat * 1) x142)) 0))))), (.d (.v (.float .f32 (dF (cel (List.take (((y128 + 4).toNat - y128.toNat) * 1) (List.drop (y128.toNat * 1) x142)) 1))))), (.d (.v (.float .f32 (dF (cel (List.take (((y128 + 4).toNat - y128.toNat) * 1) (List.drop (y128.toNat * 1) x142)) 2))))), (.d (.v (.float .f32 (dF (cel (List.take (((y128 + 4).toNat - y128.toNat) * 1) (List.drop (y128.toNat * 1) x142)) 3)))))])), .none, (.as (.agg [(.d (.v (.float .f32 (dF (cel (List.take (((y128 + 4).toNat - y128.toNat) * 1) (List.drop (y128.toNat * 1) x144)) 0))))), (.d (.v (.float .f32 (dF (cel (List.take (((y128 + 4).toNat - y128.toNat) * 1) (List.drop (y128.toNat * 1) x144)) 1))))), (.d (.v (.float .f32 (dF (cel (List.take (((y128 + 4).toNat - y128.toNat) * 1) (List.drop (y128.toNat * 1) x144)) 2))))), (.d (.v (.float .f32 (dF (cel (List.take (((y128 + 4).toNat - y128.toNat) * 1) (List.drop (y128.toNat * 1) x144)) 3)))))])), (.ck 0), .enter] [] (.split 41 (.go 6 [(.br true)] [0] (.bind (f19 x131 x132 (if -v224.fst > v224.fst then -v224.fst else v224.fst)) fun v225 => (.go 7 [(.ck 1)] [0, 1, 4, 5] (.split 56 (.go 4 [(.br true)] [0] (.bind (f20 v224.fst v224.snd) fun v226 => (.go 5 [(.ck 2)] [] (.bind (f19 (dI (celA [aI x129, aI x130, aI v225.fst, aI v225.snd, aI x133, aI x134, aI x135, aI x136, aI x137, aI x138, aI x139, aI x140] (0 + (1 + v226).toNat * 2))) (dI (celA [aI x129, aI x130, aI v225.fst, aI v225.snd, aI x133, aI x134, aI x135, aI x136, aI x137, aI x138, aI x139, aI x140] (0 + (1 + v226).toNat * 2 + 1))) (if -v224.snd > v224.snd then -v224.snd else v224.snd)) fun v227 => (.go 13 [(.as (.agg [(aI (dI (celA [aI x129, aI x130, aI v225.fst, aI v225.snd, aI x133, aI x134, aI x135, aI x136, aI x137, aI x138, aI x139, aI x140] (0 + (1 + v226).toNat * 2)))), (aI (dI (celA [aI x129, aI x130, aI v225.fst, aI v225.snd, aI x133, aI x134, aI x135, aI x136, aI x137, aI x138, aI x139, aI x140] (0 + (1 + v226).toNat * 2 + 1))))])), .none, .none, (.ck 3), (.as (.agg (spliceA [aI x129, aI x130, aI v225.fst, aI v225.snd, aI x133, aI x134, aI x135, aI x136, aI x137, aI x138, aI x139, aI x140] (0 + (1 + v226).toNat * 2) [aI v227.fst, aI v227.snd]))), (.br false)] [8, 11] (.cutP 7 [0] [[0, 1, 2, 4], [3, 6, 7]] [])))))) (.go 14 [(.br false), (.br false)] [0, 1] (.cut 7 [[0, 1, 2, 4], [3, 6, 7]] [])))))) (.go 4 [(.br false)] [0] (.bind (f19 x129 x130 (if -v224.fst > v224.fst then -v224.fst else v224.fst)) fun v232 => (.go 7 [(.ck 1)] [0, 1, 4, 5] (.split 56 (.go 4 [(.br true)] [0] (.bind (f20 v224.fst v224.snd) fun v233 => (.go 5 [(.ck 2)] [] (.bind (f19 (dI (celA [aI v232.fst, aI v232.snd, aI x131, aI x132, aI x133, aI x134, aI x135, aI x136, aI x137, aI x138, aI x139, aI x140] (0 + (1 + v233).toNat * 2))) (dI (celA [aI v232.fst, aI v232.snd, aI x131, aI x132, aI x133, aI x134, aI x135, aI x136, aI x137, aI x138, aI x139, aI x140] (0 + (1 + v233).toNat * 2 + 1))) (if -v224.snd > v224.snd then -v224.snd else v224.snd)) fun v234 => (.go 13 [(.as (.agg [(aI (dI (celA [aI v232.fst, aI v232.snd, aI x131, aI x132, aI x133, aI x134, aI x135, aI x136, aI x137, aI x138, aI x139, aI x140] (0 + (1 + v233).toNat * 2)))), (aI (dI (celA [aI v232.fst, aI v232.snd, aI x131, aI x132, aI x133, aI x134, aI x135, aI x136, aI x137, aI x138, aI x139, aI x140] (0 + (1 + v233).toNat * 2 + 1))))])), .none, .none, (.ck 3), (.as (.agg (spliceA [aI v232.fst, aI v232.snd, aI x131, aI x132, aI x133, aI x134, aI x135, aI x136, aI x137, aI x138, aI x139, aI x140] (0 + (1 + v233).toNat * 2) [aI v234.fst, aI v234.snd]))), (.br false)] [8, 11] (.cutP 7 [0] [[0, 1, 2, 4], [3, 6, 7]] [])))))) (.go 14 [(.br false), (.br false)] [0, 1] (.cut 7 [[0, 1, 2, 4], [3, 6, 7]] [])))))))))) (.go 14 [(.br false)] [0] .fin)))
theorem k6_1 (y128 x129 x130 x131 x132 x133 x134 x135 x136 x137 x138 x139 x140 : Int) (x141 : Nat) (x142 : List DV) (x143 : Nat) (x144 : List DV) (y220 y221 y213 y214 x145 y222 y223 y215 y216 x146 x147 x148 x149 x150 : Int) (x151 : Bool) (x152 x153 : Int) (x154 : Bool) (x155 : Int) (x156 : List DV) : xrun cfz 6 (D6_1 y128 x129 x130 x131 x132 x133 x134 x135 x136 x137 x138 x139 x140 x141 x142 x143 x144 y220 y221 y213 y214 x145 y222 y223 y215 y216 x146 x147 x148 x149 x150 x151 x152 x153 x154 x155 x156) [] (st6 (.c1 y128 x129 x130 x131 x132 x133 x134 x135 x136 x137 x138 x139 x140 x141 x142 x143 x144 y220 y221 y213 y214 x145 y222 y223 y215 y216 x146 x147 x148 x149 x150 x151 x152 x153 x154 x155 x156)) = (B6 (.c1 y128 x129 x130 x131 x132 x133 x134 x135 x136 x137 x138 x139 x140 x141 x142 x143 x144 y220 y221 y213 y214 x145 y222 y223 y215 y216 x146 x147 x148 x149 x150 x151 x152 x153 x154 x155 x156)).mach st6 out6 := by kernel_rfl
noncomputable def D6_2 (y183 : Int) (x184 : List AV) (x185 : Nat) (x186 : List DV) (x187 : Nat) (x188 : List DV) (x189 x190 x191 x192 x193 x194 x195 x196 x197 x198 x199 x200 x201 y228 y229 y230 y231 x202 x203 x204 x205 x206 : Int) (x207 : Bool) (x208 x209 : Int) (x210 : Bool) (x211 : Int) (x212 : List DV) : DT cfz := (.go 9 [] [] (.split 9 (.go 6 [(.br true)] [0] (.bind (f44 (dF (cel (List.take (((y183 + 4).toNat - y183.toNat) * 1) (List.drop (y183.toNat * 1) x186)) 0)) (dF (cel (List.take (((y183 + 4).toNat - y183.toNat) * 1) (List.drop (y183.toNat * 1) x186)) 1)) (dF (cel (List.take (((y183 + 4).toNat - y183.toNat) * 1) (List.drop (y183.toNat * 1) x186)) 2)) (dF (cel (List.take (((y183 + 4).toNat - y183.toNat) * 1) (List.drop (y183.toNat * 1) x186)) 3)) (dF (cel (List.take (((y183 + 4).toNat - y183.toNat) * 1) (List.drop (y183.toNat * 1) x188)) 0)) (dF (cel (List.take (((y183 + 4).toNat - y183.toNat) * 1) (List.drop (y183.toNat * 1) x188)) 1)) (dF (cel (List.take (((y183 + 4).toNat - y183.toNat) * 1) (List.drop (y183.toNat * 1) x188)) 2)) (dF (cel (List.take (((y183 + 4).toNat - y183.toNat) * 1) (List.drop (y183.toNat * 1) x188)) 3))) fun v235 => (.go 18 [.none, (.as (.agg [(.d (.v (.float .f32 (dF (cel (List.take (((y183 + 4).toNat - y183.toNat) * 1) (List.drop (y183.toNat * 1) x186)) 0))))), (.d (.v (.float .f32 (dF (cel (List.take (((y183 + 4).toNat - y183.toNat) * 1) (List.drop (y183.toNat * 1) x186)) 1))))), (.d (.v (.float .f32 (dF (cel (List.take (((y183 + 4).toNat - y183.toNat) * 1) (List.drop (y183.toNat * 1) x186)) 2))))), (.d (.v (.float .f32 (dF (cel (List.take (((y183 + 4).toNat - y183.toNat) * 1) (List.drop (y183.toNat * 1) x186)) 3)))))])), .none, (.as (.agg [(.d (.v (.float .f32 (dF (cel (List.take (((y183 + 4).toNat - y183.toNat) * 1) (List.drop (y183.toNat * 1) x188)) 0))))), (.d (.v (.float .f32 (dF (cel (List.take (((y183 + 4).toNat - y183.toNat) * 1) (List.drop (y183.toNat * 1) x188)) 1))))), (.d (.v (.float .f32 (dF (cel (List.take (((y183 + 4).toNat - y183.toNat) * 1) (List.drop (y183.toNat * 1) x188)) 2))))), (.d (.v (.float .f32 (dF (cel (List.take (((y183 + 4).toNat - y183.toNat) * 1) (List.drop (y183.toNat * 1) x188)) 3)))))])), (.ck 0), .enter] [] (.split 41 (.go 6 [(.br true)] [0] (.bind (f19 (dI (celA x184 2)) (dI (celA x184 3)) (if -v235.fst > v235.fst then -v235.fst else v235.fst)) fun v236 => (.go 7 [(.as (.agg [(aI (dI (celA x184 2))), (aI (dI (celA x184 3)))])), .none, .none, (.ck 1), (.as (.agg (spliceA x184 2 [aI v236.fst, aI v236.snd])))] [0, 1, 6, 7, 8] (.split 56 (.go 4 [(.br true)] [0] (.bind (f20 v235.fst v235.snd) fun v237 => (.go 5 [(.ck 2)] [] (.bind (f19 (dI (celA (spliceA x184 2 [aI v236.fst, aI v236.snd]) (0 + (1 + v237).toNat * 2))) (dI (celA (spliceA x184 2 [aI v236.fst, aI v236.snd]) (0 + (1 + v237).toNat * 2 + 1))) (if -v235.snd > v235.snd then -v235.snd else v235.snd)) fun v238 => (.go 13 [(.as (.agg [(aI (dI (celA (spliceA x184 2 [aI v236.fst, aI v236.snd]) (0 + (1 + v237).toNat * 2)))), (aI (dI (celA (spliceA x184 2 [aI v236.fst, aI v236.snd]) (0 + (1 + v237).toNat * 2 + 1))))])), .none, .none, (.ck 3), (.as (.agg (spliceA (spliceA x184 2 [aI v236.fst, aI v236.snd]) (0 + (1 + v237).toNat * 2) [aI v238.fst, aI v238.snd]))), (.br false)] [8, 11] (.cutP 7 [0] [[0, 1, 2, 4], [3, 6, 7]] [])))))) (.go 14 [(.br false), (.br false)] [0, 1] (.cutP 7 [0] [[0, 1, 2, 4], [3, 6, 7]] [])))))) (.go 4 [(.br false)] [0] (.bind (f19 (dI (celA x184 0)) (dI (celA x184 1)) (if -v235.fst > v235.fst then -v235.fst else v235.fst)) fun v239 => (.go 7 [(.as (.agg [(aI (dI (celA x184 0))), (aI (dI (celA x184 1)))])), .none, .none, (.ck 1), (.as (.agg (spliceA x184 0 [aI v239.fst, aI v239.snd])))] [0, 1, 6, 7, 8] (.split 56 (.go 4 [(.br true)] [0] (.bind (f20 v235.fst v235.snd) fun v240 => (.go 5 [(.ck 2)] [] (.bind (f19 (dI (celA (spliceA x184 0 [aI v239.fst, aI v239.snd]) (0 + (1 + v240).toNat * 2))) (dI (celA (spliceA x184 0 [aI v239.fst, aI v239.snd]) (0 + (1 + v240).toNat * 2 + 1))) (if -v235.snd > v235.snd then -v235.snd else v235.snd)) fun v241 => (.go 13 [(.as (.agg [(aI (dI (celA (spliceA x184 0 [aI v239.fst, aI v239.snd]) (0 + (1 + v240).toNat * 2)))), (aI (dI (celA (spliceA x184 0 [aI v239.fst, aI v239.snd]) (0 + (1 + v240).toNat * 2 + 1))))])), .none, .none, (.ck 3), (.as (.agg (spliceA (spliceA x184 0 [aI v239.fst, aI v239.snd]) (0 + (1 + v240).toNat * 2) [aI v241.fst, aI v241.snd]))), (.br false)] [8, 11] (.cutP 7 [0] [[0, 1, 2, 4], [3, 6, 7]] [])))))) (.go 14 [(.br false), (.br false)] [0, 1] (.cutP 7 [0] [[0, 1, 2, 4], [3, 6, 7]] [])))))))))) (.go 14 [(.br false), (.as (.agg [(aI (dI (celA x184 0))), (aI (dI (celA x184 1))), (aI (dI (celA x184 2))), (aI (dI (celA x184 3))), (aI (dI (celA x184 4))), (aI (dI (celA x184 5))), (aI (dI (celA x184 6))), (aI (dI (celA x184 7))), (aI (dI (celA x184 8))), (aI (dI (celA x184 9))), (aI (dI (celA x184 10))), (aI (dI (celA x184 11)))]))] [0] .fin)))
theorem k6_2 (y183 : Int) (x184 : List AV) (x185 : Nat) (x186 : List DV) (x187 : Nat) (x188 : List DV) (x189 x190 x191 x192 x193 x194 x195 x196 x197 x198 x199 x200 x201 y228 y229 y230 y231 x202 x203 x204 x205 x206 : Int) (x207 : Bool) (x208 x209 : Int) (x210 : Bool) (x211 : Int) (x212 : List DV) : xrun cfz 6 (D6_2 y183 x184 x185 x186 x187 x188 x189 x190 x191 x192 x193 x194 x195 x196 x197 x198 x199 x200 x201 y228 y229 y230 y231 x202 x203 x204 x205 x206 x207 x208 x209 x210 x211 x212) [] (st6 (.c2 y183 x184 x185 x186 x187 x188 x189 x190 x191 x192 x193 x194 x195 x196 x197 x198 x199 x200 x201 y228 y229 y230 y231 x202 x203 x204 x205 x206 x207 x208 x209 x210 x211 x212)) = (B6 (.c2 y183 x184 x185 x186 x187 x188 x189 x190 x191 x192 x193 x194 x195 x196 x197 x198 x199 x200 x201 y228 y229 y230 y231 x202 x203 x204 x205 x206 x207 x208 x209 x210 x211 x212)).mach st6 out6 := by kernel_rfl
theorem ok6 : ∀ s, ∃ d, xrun cfz 6 d [] (st6 s) = (B6 s).mach st6 out6
  | .c0 a0 a1 a2 a3 a4 a5 a6 a7 a8 a9 a10 a11 a12 a13 a14 a15 => ⟨_, k6_0 a0 a1 a2 a3 a4 a5 a6 a7 a8 a9 a10 a11 a12 a13 a14 a15⟩
  | .c1 y128 x129 x130 x131 x132 x133 x134 x135 x136 x137 x138 x139 x140 x141 x142 x143 x144 y220 y221 y213 y214 x145 y222 y223 y215 y216 x146 x147 x148 x149 x150 x151 x152 x153 x154 x155 x156 => ⟨_, k6_1 y128 x129 x130 x131 x132 x133 x134 x135 x136 x137 x138 x139 x140 x141 x142 x143 x144 y220 y221 y213 y214 x145 y222 y223 y215 y216 x146 x147 x148 x149 x150 x151 x152 x153 x154 x155 x156⟩
  | .c2 y183 x184 x185 x186 x187 x188 x189 x190 x191 x192 x193 x194 x195 x196 x197 x198 x199 x200 x201 y228 y229 y230 y231 x202 x203 x204 x205 x206 x207 x208 x209 x210 x211 x212 => ⟨_, k6_2 y183 x184 x185 x186 x187 x188 x189 x190 x191 x192 x193 x194 x195 x196 x197 x198 x199 x200 x201 y228 y229 y230 y231 x202 x203 x204 x205 x206 x207 x208 x209 x210 x211 x212⟩
theorem f6 (a0 a1 a2 a3 a4 a5 a6 a7 a8 a9 a10 a11 : Int) (a12 : Nat) (a13 : List DV) (a14 : Nat) (a15 : List DV) (v : Int × Int × Int × Int × Int × Int × Int × Int × Int × Int × Int × Int × Int) (h : F6 a0 a1 a2 a3 a4 a5 a6 a7 a8 a9 a10 a11 a12 a13 a14 a15 = some v) : PureCalls cfz.P cfz.glob 6 [(.agg [(aI a0), (aI a1), (aI a2), (aI a3), (aI a4), (aI a5), (aI a6), (aI a7), (aI a8), (aI a9), (aI a10), (aI a11)]), (.d (.sl a12 a13)), (.d (.sl a14 a15))] (out6 v) := tree_pure knil ok6 (s := .c0 a0 a1 a2 a3 a4 a5 a6 a7 a8 a9 a10 a11 a12 a13 a14 a15) rfl (by kernel_rfl) v h

/-! F46 -/
inductive S46 where
  | c0 (a253 a254 : Int)
def out46 (v : Int) : AV := (.d (.v (.int .i64 v)))
noncomputable def st46 : S46 → ASt
  | .c0 a253 a254 => ent cfz 46 [(.agg [(aI a253), (aI a254)])]
noncomputable def B46 : S46 → Tr S46 (Int)
  | .c0 a253 a254 => (.ask (.in64 (a253 * 1000000)) (.ask (.in64 (a253 * 1000000 + a254)) (.ret (a253 * 1000000 + a254))))
noncomputable def F46 (a253 a254 : Int) : Option (Int) := res B46 (.c0 a253 a254)
noncomputable def D46_0 (a253 a254 : Int) : DT cfz := (.go 16 [] [] .fin)
theorem k46_0 (a253 a254 : Int) : xrun cfz 46 (D46_0 a253 a254) [] (st46 (.c0 a253 a254)) = (B46 (.c0 a253 a254)).mach st46 out46 := by kernel_rfl
theorem ok46 : ∀ s, ∃ d, xrun cfz 46 d [] (st46 s) = (B46 s).mach st46 out46
  | .c0 a253 a254 => ⟨_, k46_0 a253 a254⟩
theorem f46 (a253 a254 v : Int) (h : F46 a253 a254 = some v) : PureCalls cfz.P cfz.glob 46 [(.agg [(aI a253), (aI a254)])] (out46 v) := tree_pure knil ok46 (s := .c0 a253 a254) rfl (by kernel_rfl) v h

/-! F22 -/
inductive S22 where
  | c0 (a249 a250 a251 a252 : Int)
def out22 (v : Int) : AV := (.d (.v (.int .i64 v)))
noncomputable def st22 : S22 → ASt
  | .c0 a249 a250 a251 a252 => ent cfz 22 [(.agg [(aI a249), (aI a250)]), (.agg [(aI a251), (aI a252)])]
noncomputable def B22 : S22 → Tr S22 (Int)
  | .c0 a249 a250 a251 a252 => (.bind (F46 a249 a250) fun v255 =>
  (.bind (F46 a251 a252) fun v256 =>
  (.sees [(.agg [(aI a249), (aI a250)])] (.sees [(.agg [(aI a251), (aI a252)])] (.ask (.in64 (v255 - v256)) (.ask (.in64 (v255 - v256 + 1000000000000)) (.ret ((v255 - v256 + 1000000000000).tmod 1000000000000))))))))
noncomputable def F22 (a249 a250 a251 a252 : Int) : Option (Int) := res B22 (.c0 a249 a250 a251 a252)
noncomputable def D22_0 (a249 a250 a251 a252 : Int) : DT cfz := (.go 8 [] [] (.bind (f46 a249 a250) fun v255 => (.bind (f46 a251 a252) fun v256 => (.go 2 [(.ck 0), (.ck 1)] [4] .fin))))
theorem k22_0 (a249 a250 a251 a252 : Int) : xrun cfz 22 (D22_0 a249 a250 a251 a252) [] (st22 (.c0 a249 a250 a251 a252)) = (B22 (.c0 a249 a250 a251 a252)).mach st22 out22 := by kernel_rfl
theorem ok22 : ∀ s, ∃ d, xrun cfz 22 d [] (st22 s) = (B22 s).mach st22 out22
  | .c0 a249 a250 a251 a252 => ⟨_, k22_0 a249 a250 a251 a252⟩
theorem f22 (a249 a250 a251 a252 v : Int) (h : F22 a249 a250 a251 a252 = some v) : PureCalls cfz.P cfz.glob 22 [(.agg [(aI a249), (aI a250)]), (.agg [(aI a251), (aI a252)])] (out22 v) := tree_pure knil ok22 (s := .c0 a249 a250 a251 a252) rfl (by kernel_rfl) v h

/-! F7 -/
inductive S7 where
  | c0 (a242 a243 a244 a245 : Int)
def out7 (v : Int × Int) : AV := (.tup [(.d (.v (.int .i64 v.fst))), (.d (.v (.int .i64 v.snd)))])
noncomputable def st7 : S7 → ASt
  | .c0 a242 a243 a244 a245 => ent cfz 7 [(.agg [(aI a242), (aI a243)]), (.agg [(aI a244), (aI a245)])]
noncomputable def B7 : S7 → Tr S7 (Int × Int)
  | .c0 a242 a243 a244 a245 => (.bind (F21 a242 a243) fun v246 =>
  (.bind (F21 a244 a245) fun v247 =>
  (.bind (F14 2 [(.v (.int .i64 v246)), (.v (.int .i64 v247))]) fun v248 =>
  (.sees [(.agg [(aI a242), (aI a243)])] (.sees [(.agg [(aI a244), (aI a245)])] (.sees [(.d (.sl 2 [(vI v246), (vI v247)]))] (.br (v248 != 0)
  (.ret (0, v248))
  (.bind (F22 a244 a245 a242 a243) fun v257 =>
  (.sees [(.agg [(aI a244), (aI a245)]), (.agg [(aI a242), (aI a243)])] (.ret (v257, 0)))))))))))
noncomputable def F7 (a242 a243 a244 a245 : Int) : Option (Int × Int) := res B7 (.c0 a242 a243 a244 a245)
noncomputable def D7_0 (a242 a243 a244 a245 : Int) : DT cfz := (.go 10 [] [] (.bind (f21 a242 a243) fun v246 => (.bind (f21 a244 a245) fun v247 => (.bind (f14 2 [(vI v246), (vI v247)]) fun v248 => (.go 6 [(.ck 0), (.ck 1), (.ck 2)] [] (.split 14 (.go 8 [(.br true)] [0] .fin) (.go 6 [(.br false)] [0] (.bind (f22 a244 a245 a242 a243) fun v257 => (.go 5 [(.ck 3)] [] .fin)))))))))
theorem k7_0 (a242 a243 a244 a245 : Int) : xrun cfz 7 (D7_0 a242 a243 a244 a245) [] (st7 (.c0 a242 a243 a244 a245)) = (B7 (.c0 a242 a243 a244 a245)).mach st7 out7 := by kernel_rfl
theorem ok7 : ∀ s, ∃ d, xrun cfz 7 d [] (st7 s) = (B7 s).mach st7 out7
  | .c0 a242 a243 a244 a245 => ⟨_, k7_0 a242 a243 a244 a245⟩
theorem f7 (a242 a243 a244 a245 : Int) (v : Int × Int) (h : F7 a242 a243 a244 a245 = some v) : PureCalls cfz.P cfz.glob 7 [(.agg [(aI a242), (aI a243)]), (.agg [(aI a244), (aI a245)])] (out7 v) := tree_pure knil ok7 (s := .c0 a242 a243 a244 a245) rfl (by kernel_rfl) v h

end Go.Kv
