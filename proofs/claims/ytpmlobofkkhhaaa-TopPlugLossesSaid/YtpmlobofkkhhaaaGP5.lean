/- Printed: what functions of the program come to, and the kernel's proof of it. -/
import Derived.Test.YtpmlobofkkhhaaaKvW
import Derived.Test.YtpmlobofkkhhaaaKvZ
import Derived.Test.YtpmlobofkkhhaaaKzA
namespace Go.Kv
set_option linter.unusedVariables false
set_option linter.unusedSimpArgs false
open Go Go.RowKit Go.Proofs
set_option maxRecDepth 100000
/-! F13 -/
inductive S13 where
  | c0 (a39 : Bool) (a40 : Int)
def out13 (v : Int) : AV := (.d (.v (.int .i64 v)))
noncomputable def st13 : S13 → ASt
  | .c0 a39 a40 => ent cfz 13 [(.d (.v (.bool a39))), (aI a40)]
noncomputable def B13 : S13 → Tr S13 (Int)
  | .c0 a39 a40 => (.br a39
  (.ret a40)
  (.ret 0))
noncomputable def F13 (a39 : Bool) (a40 : Int) : Option (Int) := res B13 (.c0 a39 a40)
noncomputable def D13_0 (a39 : Bool) (a40 : Int) : DT cfz := (.go 9 [] [] (.split 5 (.go 7 [(.br true)] [0] .fin) (.go 7 [(.br false)] [0] .fin)))
theorem k13_0 (a39 : Bool) (a40 : Int) : xrun cfz 13 (D13_0 a39 a40) [] (st13 (.c0 a39 a40)) = (B13 (.c0 a39 a40)).mach st13 out13 := by kernel_rfl
theorem ok13 : ∀ s, ∃ d, xrun cfz 13 d [] (st13 s) = (B13 s).mach st13 out13
  | .c0 a39 a40 => ⟨_, k13_0 a39 a40⟩
theorem f13 (a39 : Bool) (a40 v : Int) (h : F13 a39 a40 = some v) : PureCalls cfz.P cfz.glob 13 [(.d (.v (.bool a39))), (aI a40)] (out13 v) := tree_pure knil ok13 (s := .c0 a39 a40) rfl (by kernel_rfl) v h

/-! F33 -/
inductive S33 where
  | c0 (a36 a37 a38 : Int)
def out33 (v : Int) : AV := (.d (.v (.int .i64 v)))
noncomputable def st33 : S33 → ASt
  | .c0 a36 a37 a38 => ent cfz 33 [(aI a36), (aI a37), (aI a38)]
noncomputable def B33 : S33 → Tr S33 (Int)
  | .c0 a36 a37 a38 => (.triv _ (tv_s (decide (a36 < a37) == false)) (.triv _ (tv_s (decide (a36 < a37) == false)) (.triv _ (tv_f (decide (a36 < a37))) (.bind (F13 (if decide (a36 < a37) = true then true else decide (a36 > a38)) 3) fun v41 =>
  (.sees [(.d (.v (.bool (if decide (a36 < a37) = true then true else decide (a36 > a38))))), (aI 3)] (.ret v41))))))
noncomputable def F33 (a36 a37 a38 : Int) : Option (Int) := res B33 (.c0 a36 a37 a38)
noncomputable def D33_0 (a36 a37 a38 : Int) : DT cfz := (.go 14 [(.sp .none), (.sp .none), (.sp .none), .mg] [] (.bind (f13 (if decide (a36 < a37) = true then true else decide (a36 > a38)) 3) fun v41 => (.go 4 [(.ck 0)] [] .fin)))
theorem k33_0 (a36 a37 a38 : Int) : xrun cfz 33 (D33_0 a36 a37 a38) [] (st33 (.c0 a36 a37 a38)) = (B33 (.c0 a36 a37 a38)).mach st33 out33 := by kernel_rfl
theorem ok33 : ∀ s, ∃ d, xrun cfz 33 d [] (st33 s) = (B33 s).mach st33 out33
  | .c0 a36 a37 a38 => ⟨_, k33_0 a36 a37 a38⟩
theorem f33 (a36 a37 a38 v : Int) (h : F33 a36 a37 a38 = some v) : PureCalls cfz.P cfz.glob 33 [(aI a36), (aI a37), (aI a38)] (out33 v) := tree_pure knil ok33 (s := .c0 a36 a37 a38) rfl (by kernel_rfl) v h

/-! F10 -/
inductive S10 where
  | c0 (a44 : Nat) (a45 : List DV)
  | c1 (x46 : Nat) (x47 : List DV) (x48 y49 : Int)
def out10 (v : Int) : AV := (.d (.v (.int .i64 v)))
noncomputable def st10 : S10 → ASt
  | .c0 a44 a45 => ent cfz 10 [(.d (.sl a44 a45))]
  | .c1 x46 x47 x48 y49 => ⟨⟨10, sp 15 0 [(5, (.d (.sl x46 x47))), (6, (aI x48)), (7, (aI y49))], [(.code (cd cfz.P 10 [1, 0, 1, 0, 0])), (.inLoop (cd cfz.P 10 [1, 0, 1, 0, 0])), (.inBlock 0), (.code (cd cfz.P 10 [1, 1]))], [], false, .none⟩, [], []⟩
noncomputable def B10 : S10 → Tr S10 (Int)
  | .c0 a44 a45 => (.nxt (.c1 a44 a45 ((↑a44 : Int)) 0))
  | .c1 x46 x47 x48 y49 => (.br (decide (y49 < x48))
  (.ask (.le 0 y49) (.ask (.lt y49 ((↑x46 : Int))) (.ask (.leN (y49.toNat * 1) x47.length) (.ask (.prop (Option.map AV.d (List.drop (y49.toNat * 1) x47)[0]? = some (AV.d (DV.v (Value.int IntKind.i64 (dI (cel x47 (y49.toNat * 1)))))))) (.br (dI (cel x47 (y49.toNat * 1)) != 0)
  (.ret (dI (cel x47 (y49.toNat * 1))))
  (.ask (.in64 (y49 + 1)) (.nxt (.c1 x46 x47 x48 (y49 + 1)))))))))
  (.ret 0))
noncomputable def F10 (a44 : Nat) (a45 : List DV) : Option (Int) := res B10 (.c0 a44 a45)
noncomputable def D10_0 (a44 : Nat) (a45 : List DV) : DT cfz := (.go 13 [] [] (.cut 0 [[5, 6, 7]] []))
theorem k10_0 (a44 : Nat) (a45 : List DV) : xrun cfz 10 (D10_0 a44 a45) [] (st10 (.c0 a44 a45)) = (B10 (.c0 a44 a45)).mach st10 out10 := by kernel_rfl
noncomputable def D10_1 (x46 : Nat) (x47 : List DV) (x48 y49 : Int) : DT cfz := (.go 5 [] [] (.split 8 (.go 15 [(.br true), (.as (aI (dI (cel x47 (y49.toNat * 1)))))] [0] (.split 12 (.go 7 [(.br true)] [0] .fin) (.go 8 [(.br false)] [0] (.cut 0 [[5, 6, 7]] [])))) (.go 7 [(.br false)] [0] .fin)))
theorem k10_1 (x46 : Nat) (x47 : List DV) (x48 y49 : Int) : xrun cfz 10 (D10_1 x46 x47 x48 y49) [] (st10 (.c1 x46 x47 x48 y49)) = (B10 (.c1 x46 x47 x48 y49)).mach st10 out10 := by kernel_rfl
theorem ok10 : ∀ s, ∃ d, xrun cfz 10 d [] (st10 s) = (B10 s).mach st10 out10
  | .c0 a44 a45 => ⟨_, k10_0 a44 a45⟩
  | .c1 x46 x47 x48 y49 => ⟨_, k10_1 x46 x47 x48 y49⟩
theorem f10 (a44 : Nat) (a45 : List DV) (v : Int) (h : F10 a44 a45 = some v) : PureCalls cfz.P cfz.glob 10 [(.d (.sl a44 a45))] (out10 v) := tree_pure knil ok10 (s := .c0 a44 a45) rfl (by kernel_rfl) v h

/-! F17 -/
inductive S17 where
  | c0 (a34 a35 : Int)
def out17 (v : Int) : AV := (.d (.v (.int .i64 v)))
noncomputable def st17 : S17 → ASt
  | .c0 a34 a35 => ent cfz 17 [(.agg [(aI a34), (aI a35)])]
noncomputable def B17 : S17 → Tr S17 (Int)
  | .c0 a34 a35 => (.bind (F33 a34 0 999999) fun v42 =>
  (.bind (F33 a35 0 999999) fun v43 =>
  (.bind (F10 2 [(.v (.int .i64 v42)), (.v (.int .i64 v43))]) fun v50 =>
  (.sees [(aI a34), (aI 0), (aI 999999)] (.sees [(aI a35), (aI 0), (aI 999999)] (.sees [(.d (.sl 2 [(vI v42), (vI v43)]))] (.ret v50)))))))
noncomputable def F17 (a34 a35 : Int) : Option (Int) := res B17 (.c0 a34 a35)
noncomputable def D17_0 (a34 a35 : Int) : DT cfz := (.go 7 [] [] (.bind (f33 a34 0 999999) fun v42 => (.bind (f33 a35 0 999999) fun v43 => (.bind (f10 2 [(vI v42), (vI v43)]) fun v50 => (.go 2 [(.ck 0), (.ck 1), (.ck 2)] [] .fin)))))
theorem k17_0 (a34 a35 : Int) : xrun cfz 17 (D17_0 a34 a35) [] (st17 (.c0 a34 a35)) = (B17 (.c0 a34 a35)).mach st17 out17 := by kernel_rfl
theorem ok17 : ∀ s, ∃ d, xrun cfz 17 d [] (st17 s) = (B17 s).mach st17 out17
  | .c0 a34 a35 => ⟨_, k17_0 a34 a35⟩
theorem f17 (a34 a35 v : Int) (h : F17 a34 a35 = some v) : PureCalls cfz.P cfz.glob 17 [(.agg [(aI a34), (aI a35)])] (out17 v) := tree_pure knil ok17 (s := .c0 a34 a35) rfl (by kernel_rfl) v h

/-! F28 -/
inductive S28 where
  | c0 (a28 : Nat) (a29 : List DV)
  | c1 (x30 : Nat) (x31 : List DV) (x32 y33 : Int)
  | c2 (y52 y53 : Nat) (y54 : List DV) (x55 : Nat) (x56 : List DV) (x57 y58 : Int) (y60 : Nat)
def out28 (v : Nat × List DV) : AV := (.d (.sl v.fst v.snd))
noncomputable def st28 : S28 → ASt
  | .c0 a28 a29 => ent cfz 28 [(.d (.sl a28 a29)), (.d (.v (.func (.func 17) (#[]) (#[]))))]
  | .c1 x30 x31 x32 y33 => ⟨⟨28, sp 22 0 [(1, (.d (.v (.func (.func 17) (#[]) (#[]))))), (5, (.d (.v (.slice .none 0 0)))), (8, (.d (.sl x30 x31))), (9, (aI x32)), (10, (aI y33))], [(.code (cd cfz.P 28 [1, 1, 0, 1, 0, 0])), (.inLoop (cd cfz.P 28 [1, 1, 0, 1, 0, 0])), (.inBlock 0), (.code (cd cfz.P 28 [1, 1, 1]))], [], false, .none⟩, [], []⟩
  | .c2 y52 y53 y54 x55 x56 x57 y58 y60 => ⟨⟨28, sp 22 0 [(1, (.d (.v (.func (.func 17) (#[]) (#[]))))), (5, (.own 2 y52 1 y53 y54)), (8, (.d (.sl x55 x56))), (9, (aI x57)), (10, (aI y58))], [(.code (cd cfz.P 28 [1, 1, 0, 1, 0, 0])), (.inLoop (cd cfz.P 28 [1, 1, 0, 1, 0, 0])), (.inBlock 0), (.code (cd cfz.P 28 [1, 1, 1]))], [], false, .none⟩, [], [.dead, (.tail 0), (.tail y60)]⟩
noncomputable def B28 : S28 → Tr S28 (Nat × List DV)
  | .c0 a28 a29 => (.nxt (.c1 a28 a29 ((↑a28 : Int)) 0))
  | .c1 x30 x31 x32 y33 => (.br (decide (y33 < x32))
  (.ask (.le 0 y33) (.ask (.lt y33 ((↑x30 : Int))) (.ask (.leN (y33.toNat * 2) x31.length) (.ask (.leN 2 ((List.drop (y33.toNat * 2) x31).length)) (.ask (.prop (List.map AV.d (List.take 2 (List.drop (y33.toNat * 2) x31)) = [AV.d (DV.v (Value.int IntKind.i64 (dI (cel x31 (y33.toNat * 2))))), AV.d (DV.v (Value.int IntKind.i64 (dI (cel x31 (y33.toNat * 2 + 1)))))])) (.bind (F17 (dI (cel x31 (y33.toNat * 2))) (dI (cel x31 (y33.toNat * 2 + 1)))) fun v51 =>
  (.sees [(.agg [(aI (dI (cel x31 (y33.toNat * 2)))), (aI (dI (cel x31 (y33.toNat * 2 + 1))))])] (.ask (.in64 (y33 + 1)) (.nxt (.c2 0 1 [(.v (.int .i64 v51))] x30 x31 x32 (y33 + 1) 0))))))))))
  (.ret (0, [])))
  | .c2 y52 y53 y54 x55 x56 x57 y58 y60 => (.br (decide (y58 < x57))
  (.ask (.le 0 y58) (.ask (.lt y58 ((↑x55 : Int))) (.ask (.leN (y58.toNat * 2) x56.length) (.ask (.leN 2 ((List.drop (y58.toNat * 2) x56).length)) (.ask (.prop (List.map AV.d (List.take 2 (List.drop (y58.toNat * 2) x56)) = [AV.d (DV.v (Value.int IntKind.i64 (dI (cel x56 (y58.toNat * 2))))), AV.d (DV.v (Value.int IntKind.i64 (dI (cel x56 (y58.toNat * 2 + 1)))))])) (.bind (F17 (dI (cel x56 (y58.toNat * 2))) (dI (cel x56 (y58.toNat * 2 + 1)))) fun v61 =>
  (.sees [(.agg [(aI (dI (cel x56 (y58.toNat * 2)))), (aI (dI (cel x56 (y58.toNat * 2 + 1))))])] (.ask (.eqN y52 y60) (.ask (.fits (y53 + 1) 8) (.ask (.in64 (y58 + 1)) (.nxt (.c2 (y60 + 1) (y53 + 1) (y54 ++ [DV.v (Value.int IntKind.i64 v61)]) x55 x56 x57 (y58 + 1) (y60 + 1)))))))))))))
  (.ret (y53, y54)))
noncomputable def F28 (a28 : Nat) (a29 : List DV) : Option (Nat × List DV) := res B28 (.c0 a28 a29)
noncomputable def D28_0 (a28 : Nat) (a29 : List DV) : DT cfz := (.go 17 [] [] (.cut 0 [[1, 5, 8, 9, 10]] []))
theorem k28_0 (a28 : Nat) (a29 : List DV) : xrun cfz 28 (D28_0 a28 a29) [] (st28 (.c0 a28 a29)) = (B28 (.c0 a28 a29)).mach st28 out28 := by kernel_rfl
noncomputable def D28_1 (x30 : Nat) (x31 : List DV) (x32 y33 : Int) : DT cfz := (.go 5 [] [] (.split 11 (.go 15 [(.br true), (.as (.agg [(aI (dI (cel x31 (y33.toNat * 2)))), (aI (dI (cel x31 (y33.toNat * 2 + 1))))]))] [0] (.bind (f17 (dI (cel x31 (y33.toNat * 2))) (dI (cel x31 (y33.toNat * 2 + 1)))) fun v51 => (.go 11 [(.ck 0)] [1, 2, 3] (.cut 3 [[1, 5, 8, 9, 10]] [0])))) (.go 8 [(.br false)] [0] .fin)))
theorem k28_1 (x30 : Nat) (x31 : List DV) (x32 y33 : Int) : xrun cfz 28 (D28_1 x30 x31 x32 y33) [] (st28 (.c1 x30 x31 x32 y33)) = (B28 (.c1 x30 x31 x32 y33)).mach st28 out28 := by kernel_rfl
noncomputable def D28_2 (y52 y53 : Nat) (y54 : List DV) (x55 : Nat) (x56 : List DV) (x57 y58 : Int) (y60 : Nat) : DT cfz := (.go 5 [] [] (.split 11 (.go 15 [(.br true), (.as (.agg [(aI (dI (cel x56 (y58.toNat * 2)))), (aI (dI (cel x56 (y58.toNat * 2 + 1))))]))] [0] (.bind (f17 (dI (cel x56 (y58.toNat * 2))) (dI (cel x56 (y58.toNat * 2 + 1)))) fun v61 => (.go 11 [(.ck 0)] [2, 3] (.cut 3 [[1, 5, 8, 9, 10]] [])))) (.go 8 [(.br false)] [0] .fin)))
theorem k28_2 (y52 y53 : Nat) (y54 : List DV) (x55 : Nat) (x56 : List DV) (x57 y58 : Int) (y60 : Nat) : xrun cfz 28 (D28_2 y52 y53 y54 x55 x56 x57 y58 y60) [] (st28 (.c2 y52 y53 y54 x55 x56 x57 y58 y60)) = (B28 (.c2 y52 y53 y54 x55 x56 x57 y58 y60)).mach st28 out28 := by kernel_rfl
theorem ok28 : ∀ s, ∃ d, xrun cfz 28 d [] (st28 s) = (B28 s).mach st28 out28
  | .c0 a28 a29 => ⟨_, k28_0 a28 a29⟩
  | .c1 x30 x31 x32 y33 => ⟨_, k28_1 x30 x31 x32 y33⟩
  | .c2 y52 y53 y54 x55 x56 x57 y58 y60 => ⟨_, k28_2 y52 y53 y54 x55 x56 x57 y58 y60⟩
theorem f28 (a28 : Nat) (a29 : List DV) (v : Nat × List DV) (h : F28 a28 a29 = some v) : PureCalls cfz.P cfz.glob 28 [(.d (.sl a28 a29)), (.d (.v (.func (.func 17) (#[]) (#[]))))] (out28 v) := tree_pure knil ok28 (s := .c0 a28 a29) rfl (by kernel_rfl) v h

/-! F11 -/
inductive S11 where
  | c0 (a16 a17 a18 a19 a20 a21 a22 a23 a24 a25 a26 a27 : Int)
def out11 (v : Int) : AV := (.d (.v (.int .i64 v)))
noncomputable def st11 : S11 → ASt
  | .c0 a16 a17 a18 a19 a20 a21 a22 a23 a24 a25 a26 a27 => ent cfz 11 [(.agg [(aI a16), (aI a17), (aI a18), (aI a19), (aI a20), (aI a21), (aI a22), (aI a23), (aI a24), (aI a25), (aI a26), (aI a27)])]
noncomputable def B11 : S11 → Tr S11 (Int)
  | .c0 a16 a17 a18 a19 a20 a21 a22 a23 a24 a25 a26 a27 => (.bind (F17 a16 a17) fun v63 =>
  (.sees [(.agg [(aI a16), (aI a17)])] (.bind (F17 a18 a19) fun v64 =>
  (.sees [(.agg [(aI a18), (aI a19)])] (.bind (F17 a20 a21) fun v65 =>
  (.sees [(.agg [(aI a20), (aI a21)])] (.bind (F17 a22 a23) fun v66 =>
  (.sees [(.agg [(aI a22), (aI a23)])] (.bind (F17 a24 a25) fun v67 =>
  (.sees [(.agg [(aI a24), (aI a25)])] (.bind (F17 a26 a27) fun v68 =>
  (.sees [(.agg [(aI a26), (aI a27)])] (.bind (F10 6 [(.v (.int .i64 v63)), (.v (.int .i64 v64)), (.v (.int .i64 v65)), (.v (.int .i64 v66)), (.v (.int .i64 v67)), (.v (.int .i64 v68))]) fun v69 =>
  (.sees [(.d (.sl 6 [(vI v63), (vI v64), (vI v65), (vI v66), (vI v67), (vI v68)]))] (.ret v69)))))))))))))))
noncomputable def F11 (a16 a17 a18 a19 a20 a21 a22 a23 a24 a25 a26 a27 : Int) : Option (Int) := res B11 (.c0 a16 a17 a18 a19 a20 a21 a22 a23 a24 a25 a26 a27)
noncomputable def D11_0 (a16 a17 a18 a19 a20 a21 a22 a23 a24 a25 a26 a27 : Int) : DT cfz := (.go 46 [.enter, (.br true)] [0, 1, 2, 3, 4, 5, 6] (.bind (f17 a16 a17) fun v63 => (.go 31 [(.ck 0), .none, (.br true)] [1, 2, 3, 4, 5, 6, 7] (.bind (f17 a18 a19) fun v64 => (.go 31 [(.ck 1), .none, (.br true)] [1, 2, 3, 4, 5, 6, 7, 8] (.bind (f17 a20 a21) fun v65 => (.go 31 [(.ck 2), .none, (.br true)] [1, 2, 3, 4, 5, 6, 7, 8] (.bind (f17 a22 a23) fun v66 => (.go 31 [(.ck 3), .none, (.br true)] [1, 2, 3, 4, 5, 6, 7, 8] (.bind (f17 a24 a25) fun v67 => (.go 31 [(.ck 4), .none, (.br true)] [1, 2, 3, 4, 5, 6, 7, 8] (.bind (f17 a26 a27) fun v68 => (.go 25 [(.ck 5), .none, (.br false)] [1, 2, 3, 4, 5, 6] (.bind (f10 6 [(vI v63), (vI v64), (vI v65), (vI v66), (vI v67), (vI v68)]) fun v69 => (.go 4 [(.ck 6)] [] .fin)))))))))))))))
theorem k11_0 (a16 a17 a18 a19 a20 a21 a22 a23 a24 a25 a26 a27 : Int) : xrun cfz 11 (D11_0 a16 a17 a18 a19 a20 a21 a22 a23 a24 a25 a26 a27) [] (st11 (.c0 a16 a17 a18 a19 a20 a21 a22 a23 a24 a25 a26 a27)) = (B11 (.c0 a16 a17 a18 a19 a20 a21 a22 a23 a24 a25 a26 a27)).mach st11 out11 := by kernel_rfl
theorem ok11 : ∀ s, ∃ d, xrun cfz 11 d [] (st11 s) = (B11 s).mach st11 out11
  | .c0 a16 a17 a18 a19 a20 a21 a22 a23 a24 a25 a26 a27 => ⟨_, k11_0 a16 a17 a18 a19 a20 a21 a22 a23 a24 a25 a26 a27⟩
theorem f11 (a16 a17 a18 a19 a20 a21 a22 a23 a24 a25 a26 a27 v : Int) (h : F11 a16 a17 a18 a19 a20 a21 a22 a23 a24 a25 a26 a27 = some v) : PureCalls cfz.P cfz.glob 11 [(.agg [(aI a16), (aI a17), (aI a18), (aI a19), (aI a20), (aI a21), (aI a22), (aI a23), (aI a24), (aI a25), (aI a26), (aI a27)])] (out11 v) := tree_pure knil ok11 (s := .c0 a16 a17 a18 a19 a20 a21 a22 a23 a24 a25 a26 a27) rfl (by kernel_rfl) v h

/-! F40 -/
inductive S40 where
  | c0 (a81 : Nat)
def out40 (v : Bool) : AV := (.d (.v (.bool v)))
noncomputable def st40 : S40 → ASt
  | .c0 a81 => ent cfz 40 [(.d (.v (.float .f64 a81)))]
noncomputable def B40 : S40 → Tr S40 (Bool)
  | .c0 a81 => (.ret (FloatKind.f64.format.order a81 a81 != some Ordering.eq))
noncomputable def F40 (a81 : Nat) : Option (Bool) := res B40 (.c0 a81)
noncomputable def D40_0 (a81 : Nat) : DT cfz := (.go 12 [] [] .fin)
theorem k40_0 (a81 : Nat) : xrun cfz 40 (D40_0 a81) [] (st40 (.c0 a81)) = (B40 (.c0 a81)).mach st40 out40 := by kernel_rfl
theorem ok40 : ∀ s, ∃ d, xrun cfz 40 d [] (st40 s) = (B40 s).mach st40 out40
  | .c0 a81 => ⟨_, k40_0 a81⟩
theorem f40 (a81 : Nat) (v : Bool) (h : F40 a81 = some v) : PureCalls cfz.P cfz.glob 40 [(.d (.v (.float .f64 a81)))] (out40 v) := tree_pure knil ok40 (s := .c0 a81) rfl (by kernel_rfl) v h

/-! F43 -/
inductive S43 where
  | c0 (a85 : Nat)
def out43 (v : Nat) : AV := (.d (.v (.float .f64 v)))
noncomputable def st43 : S43 → ASt
  | .c0 a85 => ent cfz 43 [(.d (.v (.float .f64 a85)))]
noncomputable def B43 : S43 → Tr S43 (Nat)
  | .c0 a85 => (.ask (.prop (∀ (w : World), Sem.run cfz.P (callFunc 47 #[Value.float FloatKind.f64 a85]) w = Result.ok (Next.value (Value.int IntKind.u64 (↑a85 : Int))) w)) (.ask (.prop (∀ (w : World), Sem.run cfz.P (callFunc 46 #[Value.int IntKind.u64 (IntKind.u64.wrap (↑(BitVec.ofInt 64 (↑a85 : Int) &&& ~~~BitVec.ofInt 64 9223372036854775808).toNat : Int))]) w = Result.ok (Next.value (Value.float FloatKind.f64 (IntKind.u64.wrap (↑(BitVec.ofInt 64 (↑a85 : Int) &&& ~~~BitVec.ofInt 64 9223372036854775808).toNat : Int)).toNat)) w)) (.ret ((IntKind.u64.wrap (↑(BitVec.ofInt 64 (↑a85 : Int) &&& ~~~BitVec.ofInt 64 9223372036854775808).toNat : Int)).toNat))))
noncomputable def F43 (a85 : Nat) : Option (Nat) := res B43 (.c0 a85)
noncomputable def D43_0 (a85 : Nat) : DT cfz := (.go 13 [(.ext (.int .u64 ((↑a85 : Int)))), (.ext (.float .f64 ((IntKind.u64.wrap (↑(BitVec.ofInt 64 (↑a85 : Int) &&& ~~~BitVec.ofInt 64 9223372036854775808).toNat : Int)).toNat)))] [] .fin)
theorem k43_0 (a85 : Nat) : xrun cfz 43 (D43_0 a85) [] (st43 (.c0 a85)) = (B43 (.c0 a85)).mach st43 out43 := by kernel_rfl
theorem ok43 : ∀ s, ∃ d, xrun cfz 43 d [] (st43 s) = (B43 s).mach st43 out43
  | .c0 a85 => ⟨_, k43_0 a85⟩
theorem f43 (a85 v : Nat) (h : F43 a85 = some v) : PureCalls cfz.P cfz.glob 43 [(.d (.v (.float .f64 a85)))] (out43 v) := tree_pure knil ok43 (s := .c0 a85) rfl (by kernel_rfl) v h

/-! F41 -/
inductive S41 where
  | c0 (a83 : Nat) (a84 : Int)
def out41 (v : Bool) : AV := (.d (.v (.bool v)))
noncomputable def st41 : S41 → ASt
  | .c0 a83 a84 => ent cfz 41 [(.d (.v (.float .f64 a83))), (aI a84)]
noncomputable def B41 : S41 → Tr S41 (Bool)
  | .c0 a83 a84 => (.br (a84 == 0)
  (.bind (F43 a83) fun v86 =>
  (.sees [(.d (.v (.float .f64 a83)))] (.ret (FloatKind.f64.format.order v86 9218868437227405311 == some Ordering.gt))))
  (.br (decide (a84 < 0))
  (.ret (FloatKind.f64.format.order (Op.negFloat FloatKind.f64 a83) 9218868437227405311 == some Ordering.gt))
  (.ret (FloatKind.f64.format.order a83 9218868437227405311 == some Ordering.gt))))
noncomputable def F41 (a83 : Nat) (a84 : Int) : Option (Bool) := res B41 (.c0 a83 a84)
noncomputable def D41_0 (a83 : Nat) (a84 : Int) : DT cfz := (.go 10 [] [] (.split 6 (.go 3 [(.br true)] [0] (.bind (f43 a83) fun v86 => (.go 10 [(.ck 0)] [] .fin))) (.go 6 [(.br false)] [0] (.split 10 (.go 13 [(.br true)] [0] .fin) (.go 9 [(.br false)] [0] .fin)))))
theorem k41_0 (a83 : Nat) (a84 : Int) : xrun cfz 41 (D41_0 a83 a84) [] (st41 (.c0 a83 a84)) = (B41 (.c0 a83 a84)).mach st41 out41 := by kernel_rfl
theorem ok41 : ∀ s, ∃ d, xrun cfz 41 d [] (st41 s) = (B41 s).mach st41 out41
  | .c0 a83 a84 => ⟨_, k41_0 a83 a84⟩
theorem f41 (a83 : Nat) (a84 : Int) (v : Bool) (h : F41 a83 a84 = some v) : PureCalls cfz.P cfz.glob 41 [(.d (.v (.float .f64 a83))), (aI a84)] (out41 v) := tree_pure knil ok41 (s := .c0 a83 a84) rfl (by kernel_rfl) v h

/-! F37 -/
inductive S37 where
  | c0 (a80 : Nat)
def out37 (v : Bool) : AV := (.d (.v (.bool v)))
noncomputable def st37 : S37 → ASt
  | .c0 a80 => ent cfz 37 [(.d (.v (.float .f32 a80)))]
noncomputable def B37 : S37 → Tr S37 (Bool)
  | .c0 a80 => (.ask (.eqB (ftofOk FloatKind.f32 a80 FloatKind.f64) true) (.bind (F40 (ftof FloatKind.f32 a80 FloatKind.f64)) fun v82 =>
  (.sees [(.d (.v (.float .f64 (ftof FloatKind.f32 a80 FloatKind.f64))))] (.br v82
  (.ret true)
  (.ask (.eqB (v82 == false) true) (.ask (.eqB (ftofOk FloatKind.f32 a80 FloatKind.f64) true) (.bind (F41 (ftof FloatKind.f32 a80 FloatKind.f64) 0) fun v87 =>
  (.sees [(.d (.v (.float .f64 (ftof FloatKind.f32 a80 FloatKind.f64)))), (aI 0)] (.ret v87)))))))))
noncomputable def F37 (a80 : Nat) : Option (Bool) := res B37 (.c0 a80)
noncomputable def D37_0 (a80 : Nat) : DT cfz := (.go 8 [] [] (.bind (f40 (ftof FloatKind.f32 a80 FloatKind.f64)) fun v82 => (.go 3 [(.ck 0), (.sp .none)] [] (.split 6 (.go 6 [(.br true), (.br true)] [0, 1] .fin) (.strip 7 (.go 1 [(.br false)] [1] (.bind (f41 (ftof FloatKind.f32 a80 FloatKind.f64) 0) fun v87 => (.go 5 [(.br false), (.ck 1)] [1] .fin))))))))
theorem k37_0 (a80 : Nat) : xrun cfz 37 (D37_0 a80) [] (st37 (.c0 a80)) = (B37 (.c0 a80)).mach st37 out37 := by kernel_rfl
theorem ok37 : ∀ s, ∃ d, xrun cfz 37 d [] (st37 s) = (B37 s).mach st37 out37
  | .c0 a80 => ⟨_, k37_0 a80⟩
theorem f37 (a80 : Nat) (v : Bool) (h : F37 a80 = some v) : PureCalls cfz.P cfz.glob 37 [(.d (.v (.float .f32 a80)))] (out37 v) := tree_pure knil ok37 (s := .c0 a80) rfl (by kernel_rfl) v h

/-! F36 -/
inductive S36 where
  | c0 (a89 : Bool) (a90 : Int)
def out36 (v : Int) : AV := (.d (.v (.int .i64 v)))
noncomputable def st36 : S36 → ASt
  | .c0 a89 a90 => ent cfz 36 [(.d (.v (.bool a89))), (aI a90)]
noncomputable def B36 : S36 → Tr S36 (Int)
  | .c0 a89 a90 => (.br a89
  (.ret a90)
  (.ret 0))
noncomputable def F36 (a89 : Bool) (a90 : Int) : Option (Int) := res B36 (.c0 a89 a90)
noncomputable def D36_0 (a89 : Bool) (a90 : Int) : DT cfz := (.go 9 [] [] (.split 5 (.go 7 [(.br true)] [0] .fin) (.go 7 [(.br false)] [0] .fin)))
theorem k36_0 (a89 : Bool) (a90 : Int) : xrun cfz 36 (D36_0 a89 a90) [] (st36 (.c0 a89 a90)) = (B36 (.c0 a89 a90)).mach st36 out36 := by kernel_rfl
theorem ok36 : ∀ s, ∃ d, xrun cfz 36 d [] (st36 s) = (B36 s).mach st36 out36
  | .c0 a89 a90 => ⟨_, k36_0 a89 a90⟩
theorem f36 (a89 : Bool) (a90 v : Int) (h : F36 a89 a90 = some v) : PureCalls cfz.P cfz.glob 36 [(.d (.v (.bool a89))), (aI a90)] (out36 v) := tree_pure knil ok36 (s := .c0 a89 a90) rfl (by kernel_rfl) v h

/-! F42 -/
inductive S42 where
  | c0 (a95 : Nat)
def out42 (v : Nat) : AV := (.d (.v (.float .f64 v)))
noncomputable def st42 : S42 → ASt
  | .c0 a95 => ent cfz 42 [(.d (.v (.float .f64 a95)))]
noncomputable def B42 : S42 → Tr S42 (Nat)
  | .c0 a95 => (.ask (.prop (∀ (w : World), Sem.run cfz.P (callFunc 44 #[Value.float FloatKind.f64 a95]) w = Result.ok (Next.value (Value.float FloatKind.f64 (floorV a95))) w)) (.ret (floorV a95)))
noncomputable def F42 (a95 : Nat) : Option (Nat) := res B42 (.c0 a95)
noncomputable def D42_0 (a95 : Nat) : DT cfz := (.go 13 [(.br true), (.ext (.float .f64 (floorV a95)))] [0] .fin)
theorem k42_0 (a95 : Nat) : xrun cfz 42 (D42_0 a95) [] (st42 (.c0 a95)) = (B42 (.c0 a95)).mach st42 out42 := by kernel_rfl
theorem ok42 : ∀ s, ∃ d, xrun cfz 42 d [] (st42 s) = (B42 s).mach st42 out42
  | .c0 a95 => ⟨_, k42_0 a95⟩
theorem f42 (a95 v : Nat) (h : F42 a95 = some v) : PureCalls cfz.P cfz.glob 42 [(.d (.v (.float .f64 a95)))] (out42 v) := tree_pure knil ok42 (s := .c0 a95) rfl (by kernel_rfl) v h

/-! F38 -/
inductive S38 where
  | c0 (a92 a93 : Nat)
def out38 (v : Int) : AV := (.d (.v (.int .i64 v)))
noncomputable def st38 : S38 → ASt
  | .c0 a92 a93 => ent cfz 38 [(.d (.v (.float .f32 a92))), (.d (.v (.float .f32 a93)))]
noncomputable def B38 : S38 → Tr S38 (Int)
  | .c0 a92 a93 => (.triv _ (tv_s ((FloatKind.f32.format.order a92 (Op.negFloat FloatKind.f32 a93) == some Ordering.lt) == false)) (.triv _ (tv_s ((FloatKind.f32.format.order a92 (Op.negFloat FloatKind.f32 a93) == some Ordering.lt) == false)) (.triv _ (tv_f (FloatKind.f32.format.order a92 (Op.negFloat FloatKind.f32 a93) == some Ordering.lt)) (.br (if (FloatKind.f32.format.order a92 (Op.negFloat FloatKind.f32 a93) == some Ordering.lt) = true then true else FloatKind.f32.format.order a92 a93 == some Ordering.gt)
  (.bind (F36 true 3) fun v94 =>
  (.sees [(.d (.v (.bool true))), (aI 3)] (.ret v94)))
  (.ask (.eqB ((if (FloatKind.f32.format.order a92 (Op.negFloat FloatKind.f32 a93) == some Ordering.lt) = true then true else FloatKind.f32.format.order a92 a93 == some Ordering.gt) == false) true) (.ask (.eqB (fok BinOp.mul FloatKind.f32 1098907648 a92) true) (.ask (.eqB (ftofOk FloatKind.f32 (fval BinOp.mul FloatKind.f32 1098907648 a92) FloatKind.f64) true) (.bind (F42 (ftof FloatKind.f32 (fval BinOp.mul FloatKind.f32 1098907648 a92) FloatKind.f64)) fun v96 =>
  (.sees [(.d (.v (.float .f64 (ftof FloatKind.f32 (fval BinOp.mul FloatKind.f32 1098907648 a92) FloatKind.f64))))] (.ask (.eqB (ftofOk FloatKind.f64 v96 FloatKind.f32) true) (.ask (.eqB (fok BinOp.mul FloatKind.f32 1098907648 a92) true) (.bind (F36 (FloatKind.f32.format.order (ftof FloatKind.f64 v96 FloatKind.f32) (fval BinOp.mul FloatKind.f32 1098907648 a92) != some Ordering.eq) 3) fun v97 =>
  (.sees [(.d (.v (.bool (FloatKind.f32.format.order (ftof FloatKind.f64 v96 FloatKind.f32) (fval BinOp.mul FloatKind.f32 1098907648 a92) != some Ordering.eq)))), (aI 3)] (.ret v97))))))))))))))
noncomputable def F38 (a92 a93 : Nat) : Option (Int) := res B38 (.c0 a92 a93)
noncomputable def D38_0 (a92 a93 : Nat) : DT cfz := (.go 17 [(.sp .none), (.sp .none), (.sp .none), .mg, (.sp .none)] [] (.split 14 (.go 8 [(.br true), (.br true), (.br true), (.br true), (.br true), (.br true), (.br true)] [0, 1, 2, 3, 4, 5, 6] (.bind (f36 true 3) fun v94 => (.go 4 [(.ck 0)] [] .fin))) (.strip 15 (.go 2 [(.br false), (.br false)] [1, 3] (.bind (f42 (ftof FloatKind.f32 (fval BinOp.mul FloatKind.f32 1098907648 a92) FloatKind.f64)) fun v96 => (.go 6 [(.br false), (.ck 0), (.br false), (.br false), (.br false), (.br false)] [1, 3, 4, 6, 7] (.bind (f36 (FloatKind.f32.format.order (ftof FloatKind.f64 v96 FloatKind.f32) (fval BinOp.mul FloatKind.f32 1098907648 a92) != some Ordering.eq) 3) fun v97 => (.go 4 [(.ck 1)] [] .fin))))))))
theorem k38_0 (a92 a93 : Nat) : xrun cfz 38 (D38_0 a92 a93) [] (st38 (.c0 a92 a93)) = (B38 (.c0 a92 a93)).mach st38 out38 := by kernel_rfl
theorem ok38 : ∀ s, ∃ d, xrun cfz 38 d [] (st38 s) = (B38 s).mach st38 out38
  | .c0 a92 a93 => ⟨_, k38_0 a92 a93⟩
theorem f38 (a92 a93 : Nat) (v : Int) (h : F38 a92 a93 = some v) : PureCalls cfz.P cfz.glob 38 [(.d (.v (.float .f32 a92))), (.d (.v (.float .f32 a93)))] (out38 v) := tree_pure knil ok38 (s := .c0 a92 a93) rfl (by kernel_rfl) v h

/-! F35 -/
inductive S35 where
  | c0 (a99 : Nat) (a100 : List DV)
  | c1 (x101 : Nat) (x102 : List DV) (x103 y104 : Int)
def out35 (v : Int) : AV := (.d (.v (.int .i64 v)))
noncomputable def st35 : S35 → ASt
  | .c0 a99 a100 => ent cfz 35 [(.d (.sl a99 a100))]
  | .c1 x101 x102 x103 y104 => ⟨⟨35, sp 15 0 [(5, (.d (.sl x101 x102))), (6, (aI x103)), (7, (aI y104))], [(.code (cd cfz.P 35 [1, 0, 1, 0, 0])), (.inLoop (cd cfz.P 35 [1, 0, 1, 0, 0])), (.inBlock 0), (.code (cd cfz.P 35 [1, 1]))], [], false, .none⟩, [], []⟩
noncomputable def B35 : S35 → Tr S35 (Int)
  | .c0 a99 a100 => (.nxt (.c1 a99 a100 ((↑a99 : Int)) 0))
  | .c1 x101 x102 x103 y104 => (.br (decide (y104 < x103))
  (.ask (.le 0 y104) (.ask (.lt y104 ((↑x101 : Int))) (.ask (.leN (y104.toNat * 1) x102.length) (.ask (.prop (Option.map AV.d (List.drop (y104.toNat * 1) x102)[0]? = some (AV.d (DV.v (Value.int IntKind.i64 (dI (cel x102 (y104.toNat * 1)))))))) (.br (dI (cel x102 (y104.toNat * 1)) != 0)
  (.ret (dI (cel x102 (y104.toNat * 1))))
  (.ask (.in64 (y104 + 1)) (.nxt (.c1 x101 x102 x103 (y104 + 1)))))))))
  (.ret 0))
noncomputable def F35 (a99 : Nat) (a100 : List DV) : Option (Int) := res B35 (.c0 a99 a100)
noncomputable def D35_0 (a99 : Nat) (a100 : List DV) : DT cfz := (.go 13 [] [] (.cut 0 [[5, 6, 7]] []))
theorem k35_0 (a99 : Nat) (a100 : List DV) : xrun cfz 35 (D35_0 a99 a100) [] (st35 (.c0 a99 a100)) = (B35 (.c0 a99 a100)).mach st35 out35 := by kernel_rfl
noncomputable def D35_1 (x101 : Nat) (x102 : List DV) (x103 y104 : Int) : DT cfz := (.go 5 [] [] (.split 8 (.go 15 [(.br true), (.as (aI (dI (cel x102 (y104.toNat * 1)))))] [0] (.split 12 (.go 7 [(.br true)] [0] .fin) (.go 8 [(.br false)] [0] (.cut 0 [[5, 6, 7]] [])))) (.go 7 [(.br false)] [0] .fin)))
theorem k35_1 (x101 : Nat) (x102 : List DV) (x103 y104 : Int) : xrun cfz 35 (D35_1 x101 x102 x103 y104) [] (st35 (.c1 x101 x102 x103 y104)) = (B35 (.c1 x101 x102 x103 y104)).mach st35 out35 := by kernel_rfl
theorem ok35 : ∀ s, ∃ d, xrun cfz 35 d [] (st35 s) = (B35 s).mach st35 out35
  | .c0 a99 a100 => ⟨_, k35_0 a99 a100⟩
  | .c1 x101 x102 x103 y104 => ⟨_, k35_1 x101 x102 x103 y104⟩
theorem f35 (a99 : Nat) (a100 : List DV) (v : Int) (h : F35 a99 a100 = some v) : PureCalls cfz.P cfz.glob 35 [(.d (.sl a99 a100))] (out35 v) := tree_pure knil ok35 (s := .c0 a99 a100) rfl (by kernel_rfl) v h

/-! F30 -/
inductive S30 where
  | c0 (a79 : Nat)
def out30 (v : Int) : AV := (.d (.v (.int .i64 v)))
noncomputable def st30 : S30 → ASt
  | .c0 a79 => ent cfz 30 [(.d (.v (.float .f32 a79)))]
noncomputable def B30 : S30 → Tr S30 (Int)
  | .c0 a79 => (.bind (F37 a79) fun v88 =>
  (.sees [(.d (.v (.float .f32 a79)))] (.bind (F36 v88 1) fun v91 =>
  (.sees [(.d (.v (.bool v88))), (aI 1)] (.bind (F38 a79 1149239296) fun v98 =>
  (.sees [(.d (.v (.float .f32 a79))), (.d (.v (.float .f32 1149239296)))] (.bind (F35 2 [(.v (.int .i64 v91)), (.v (.int .i64 v98))]) fun v105 =>
  (.sees [(.d (.sl 2 [(vI v91), (vI v98)]))] (.ret v105)))))))))
noncomputable def F30 (a79 : Nat) : Option (Int) := res B30 (.c0 a79)
noncomputable def D30_0 (a79 : Nat) : DT cfz := (.go 7 [] [] (.bind (f37 a79) fun v88 => (.go 1 [(.ck 0)] [] (.bind (f36 v88 1) fun v91 => (.go 2 [(.ck 1)] [] (.bind (f38 a79 1149239296) fun v98 => (.go 2 [(.ck 2)] [] (.bind (f35 2 [(vI v91), (vI v98)]) fun v105 => (.go 4 [(.ck 3)] [] .fin)))))))))
theorem k30_0 (a79 : Nat) : xrun cfz 30 (D30_0 a79) [] (st30 (.c0 a79)) = (B30 (.c0 a79)).mach st30 out30 := by kernel_rfl
theorem ok30 : ∀ s, ∃ d, xrun cfz 30 d [] (st30 s) = (B30 s).mach st30 out30
  | .c0 a79 => ⟨_, k30_0 a79⟩
theorem f30 (a79 : Nat) (v : Int) (h : F30 a79 = some v) : PureCalls cfz.P cfz.glob 30 [(.d (.v (.float .f32 a79)))] (out30 v) := tree_pure knil ok30 (s := .c0 a79) rfl (by kernel_rfl) v h

/-! F29 -/
inductive S29 where
  | c0 (a73 : Nat) (a74 : List DV)
  | c1 (x75 : Nat) (x76 : List DV) (x77 y78 : Int)
  | c2 (y107 y108 : Nat) (y109 : List DV) (x110 : Nat) (x111 : List DV) (x112 y113 : Int) (y115 : Nat)
def out29 (v : Nat × List DV) : AV := (.d (.sl v.fst v.snd))
noncomputable def st29 : S29 → ASt
  | .c0 a73 a74 => ent cfz 29 [(.d (.sl a73 a74)), (.d (.v (.func (.func 30) (#[]) (#[]))))]
  | .c1 x75 x76 x77 y78 => ⟨⟨29, sp 22 0 [(1, (.d (.v (.func (.func 30) (#[]) (#[]))))), (5, (.d (.v (.slice .none 0 0)))), (8, (.d (.sl x75 x76))), (9, (aI x77)), (10, (aI y78))], [(.code (cd cfz.P 29 [1, 1, 0, 1, 0, 0])), (.inLoop (cd cfz.P 29 [1, 1, 0, 1, 0, 0])), (.inBlock 0), (.code (cd cfz.P 29 [1, 1, 1]))], [], false, .none⟩, [], []⟩
  | .c2 y107 y108 y109 x110 x111 x112 y113 y115 => ⟨⟨29, sp 22 0 [(1, (.d (.v (.func (.func 30) (#[]) (#[]))))), (5, (.own 1 y107 1 y108 y109)), (8, (.d (.sl x110 x111))), (9, (aI x112)), (10, (aI y113))], [(.code (cd cfz.P 29 [1, 1, 0, 1, 0, 0])), (.inLoop (cd cfz.P 29 [1, 1, 0, 1, 0, 0])), (.inBlock 0), (.code (cd cfz.P 29 [1, 1, 1]))], [], false, .none⟩, [], [(.tail 0), (.tail y115)]⟩
noncomputable def B29 : S29 → Tr S29 (Nat × List DV)
  | .c0 a73 a74 => (.nxt (.c1 a73 a74 ((↑a73 : Int)) 0))
  | .c1 x75 x76 x77 y78 => (.br (decide (y78 < x77))
  (.ask (.le 0 y78) (.ask (.lt y78 ((↑x75 : Int))) (.ask (.leN (y78.toNat * 1) x76.length) (.ask (.prop (Option.map AV.d (List.drop (y78.toNat * 1) x76)[0]? = some (AV.d (DV.v (Value.float FloatKind.f32 (dF (cel x76 (y78.toNat * 1)))))))) (.bind (F30 (dF (cel x76 (y78.toNat * 1)))) fun v106 =>
  (.sees [(.d (.v (.float .f32 (dF (cel x76 (y78.toNat * 1))))))] (.ask (.in64 (y78 + 1)) (.nxt (.c2 0 1 [(.v (.int .i64 v106))] x75 x76 x77 (y78 + 1) 0)))))))))
  (.ret (0, [])))
  | .c2 y107 y108 y109 x110 x111 x112 y113 y115 => (.br (decide (y113 < x112))
  (.ask (.le 0 y113) (.ask (.lt y113 ((↑x110 : Int))) (.ask (.leN (y113.toNat * 1) x111.length) (.ask (.prop (Option.map AV.d (List.drop (y113.toNat * 1) x111)[0]? = some (AV.d (DV.v (Value.float FloatKind.f32 (dF (cel x111 (y113.toNat * 1)))))))) (.bind (F30 (dF (cel x111 (y113.toNat * 1)))) fun v116 =>
  (.sees [(.d (.v (.float .f32 (dF (cel x111 (y113.toNat * 1))))))] (.ask (.eqN y107 y115) (.ask (.fits (y108 + 1) 8) (.ask (.in64 (y113 + 1)) (.nxt (.c2 (y115 + 1) (y108 + 1) (y109 ++ [DV.v (Value.int IntKind.i64 v116)]) x110 x111 x112 (y113 + 1) (y115 + 1))))))))))))
  (.ret (y108, y109)))
noncomputable def F29 (a73 : Nat) (a74 : List DV) : Option (Nat × List DV) := res B29 (.c0 a73 a74)
noncomputable def D29_0 (a73 : Nat) (a74 : List DV) : DT cfz := (.go 17 [] [] (.cut 0 [[1, 5, 8, 9, 10]] []))
theorem k29_0 (a73 : Nat) (a74 : List DV) : xrun cfz 29 (D29_0 a73 a74) [] (st29 (.c0 a73 a74)) = (B29 (.c0 a73 a74)).mach st29 out29 := by kernel_rfl
noncomputable def D29_1 (x75 : Nat) (x76 : List DV) (x77 y78 : Int) : DT cfz := (.go 5 [] [] (.split 11 (.go 14 [(.br true), (.as (.d (.v (.float .f32 (dF (cel x76 (y78.toNat * 1)))))))] [0] (.bind (f30 (dF (cel x76 (y78.toNat * 1)))) fun v106 => (.go 11 [(.ck 0)] [1, 2, 3] (.cut 2 [[1, 5, 8, 9, 10]] [])))) (.go 8 [(.br false)] [0] .fin)))
theorem k29_1 (x75 : Nat) (x76 : List DV) (x77 y78 : Int) : xrun cfz 29 (D29_1 x75 x76 x77 y78) [] (st29 (.c1 x75 x76 x77 y78)) = (B29 (.c1 x75 x76 x77 y78)).mach st29 out29 := by kernel_rfl
noncomputable def D29_2 (y107 y108 : Nat) (y109 : List DV) (x110 : Nat) (x111 : List DV) (x112 y113 : Int) (y115 : Nat) : DT cfz := (.go 5 [] [] (.split 11 (.go 14 [(.br true), (.as (.d (.v (.float .f32 (dF (cel x111 (y113.toNat * 1)))))))] [0] (.bind (f30 (dF (cel x111 (y113.toNat * 1)))) fun v116 => (.go 11 [(.ck 0)] [2, 3] (.cut 2 [[1, 5, 8, 9, 10]] [])))) (.go 8 [(.br false)] [0] .fin)))
theorem k29_2 (y107 y108 : Nat) (y109 : List DV) (x110 : Nat) (x111 : List DV) (x112 y113 : Int) (y115 : Nat) : xrun cfz 29 (D29_2 y107 y108 y109 x110 x111 x112 y113 y115) [] (st29 (.c2 y107 y108 y109 x110 x111 x112 y113 y115)) = (B29 (.c2 y107 y108 y109 x110 x111 x112 y113 y115)).mach st29 out29 := by kernel_rfl
theorem ok29 : ∀ s, ∃ d, xrun cfz 29 d [] (st29 s) = (B29 s).mach st29 out29
  | .c0 a73 a74 => ⟨_, k29_0 a73 a74⟩
  | .c1 x75 x76 x77 y78 => ⟨_, k29_1 x75 x76 x77 y78⟩
  | .c2 y107 y108 y109 x110 x111 x112 y113 y115 => ⟨_, k29_2 y107 y108 y109 x110 x111 x112 y113 y115⟩
theorem f29 (a73 : Nat) (a74 : List DV) (v : Nat × List DV) (h : F29 a73 a74 = some v) : PureCalls cfz.P cfz.glob 29 [(.d (.sl a73 a74)), (.d (.v (.func (.func 30) (#[]) (#[]))))] (out29 v) := tree_pure knil ok29 (s := .c0 a73 a74) rfl (by kernel_rfl) v h

/-! F12 -/
inductive S12 where
  | c0 (a71 : Nat) (a72 : List DV)
def out12 (v : Int) : AV := (.d (.v (.int .i64 v)))
noncomputable def st12 : S12 → ASt
  | .c0 a71 a72 => ent cfz 12 [(.d (.sl a71 a72))]
noncomputable def B12 : S12 → Tr S12 (Int)
  | .c0 a71 a72 => (.br (decide ((↑a71 : Int) > 4096))
  (.ret 5)
  (.bind (F29 a71 a72) fun v117 =>
  (.sees [(.d (.sl a71 a72)), (.d (.v (.func (.func 30) (#[]) (#[]))))] (.bind (F10 v117.fst v117.snd) fun v118 =>
  (.sees [(.d (.sl v117.fst v117.snd))] (.ret v118))))))
noncomputable def F12 (a71 : Nat) (a72 : List DV) : Option (Int) := res B12 (.c0 a71 a72)
noncomputable def D12_0 (a71 : Nat) (a72 : List DV) : DT cfz := (.go 11 [] [] (.split 5 (.go 6 [(.br true)] [0] .fin) (.go 5 [(.br false)] [0] (.bind (f29 a71 a72) fun v117 => (.go 1 [(.ck 0)] [] (.bind (f10 v117.fst v117.snd) fun v118 => (.go 4 [(.ck 1)] [] .fin)))))))
theorem k12_0 (a71 : Nat) (a72 : List DV) : xrun cfz 12 (D12_0 a71 a72) [] (st12 (.c0 a71 a72)) = (B12 (.c0 a71 a72)).mach st12 out12 := by kernel_rfl
theorem ok12 : ∀ s, ∃ d, xrun cfz 12 d [] (st12 s) = (B12 s).mach st12 out12
  | .c0 a71 a72 => ⟨_, k12_0 a71 a72⟩
theorem f12 (a71 : Nat) (a72 : List DV) (v : Int) (h : F12 a71 a72 = some v) : PureCalls cfz.P cfz.glob 12 [(.d (.sl a71 a72))] (out12 v) := tree_pure knil ok12 (s := .c0 a71 a72) rfl (by kernel_rfl) v h

/-! F39 -/
inductive S39 where
  | c0 (a165 : Nat)
def out39 (v : Int) : AV := (.d (.v (.int .i64 v)))
noncomputable def st39 : S39 → ASt
  | .c0 a165 => ent cfz 39 [(.d (.v (.float .f32 a165)))]
noncomputable def B39 : S39 → Tr S39 (Int)
  | .c0 a165 => (.ask (.eqB (fok BinOp.mul FloatKind.f32 1098907648 a165) true) (.ask (.eqB (ftoiOk FloatKind.f32 (fval BinOp.mul FloatKind.f32 1098907648 a165) IntKind.i64) true) (.ret (ftoi FloatKind.f32 (fval BinOp.mul FloatKind.f32 1098907648 a165) IntKind.i64))))
noncomputable def F39 (a165 : Nat) : Option (Int) := res B39 (.c0 a165)
noncomputable def D39_0 (a165 : Nat) : DT cfz := (.go 12 [] [] .fin)
theorem k39_0 (a165 : Nat) : xrun cfz 39 (D39_0 a165) [] (st39 (.c0 a165)) = (B39 (.c0 a165)).mach st39 out39 := by kernel_rfl
theorem ok39 : ∀ s, ∃ d, xrun cfz 39 d [] (st39 s) = (B39 s).mach st39 out39
  | .c0 a165 => ⟨_, k39_0 a165⟩
theorem f39 (a165 : Nat) (v : Int) (h : F39 a165 = some v) : PureCalls cfz.P cfz.glob 39 [(.d (.v (.float .f32 a165)))] (out39 v) := tree_pure knil ok39 (s := .c0 a165) rfl (by kernel_rfl) v h

/-! F32 -/
inductive S32 where
  | c0 (a157 a158 a159 a160 a161 a162 a163 a164 : Nat)
def out32 (v : Int × Int) : AV := (.agg [(.d (.v (.int .i64 v.fst))), (.d (.v (.int .i64 v.snd)))])
noncomputable def st32 : S32 → ASt
  | .c0 a157 a158 a159 a160 a161 a162 a163 a164 => ent cfz 32 [(.agg [(.d (.v (.float .f32 a157))), (.d (.v (.float .f32 a158))), (.d (.v (.float .f32 a159))), (.d (.v (.float .f32 a160)))]), (.agg [(.d (.v (.float .f32 a161))), (.d (.v (.float .f32 a162))), (.d (.v (.float .f32 a163))), (.d (.v (.float .f32 a164)))])]
noncomputable def B32 : S32 → Tr S32 (Int × Int)
  | .c0 a157 a158 a159 a160 a161 a162 a163 a164 => (.bind (F39 a157) fun v166 =>
  (.bind (F39 a161) fun v167 =>
  (.sees [(.d (.v (.float .f32 a157)))] (.sees [(.d (.v (.float .f32 a161)))] (.ask (.in64 (v166 * v167)) (.ask (.in64 (0 + v166 * v167)) (.bind (F39 a160) fun v168 =>
  (.sees [(.d (.v (.float .f32 a160)))] (.sees [(.d (.v (.float .f32 a161)))] (.ask (.in64 (v168 * v167)) (.ask (.in64 (0 + v168 * v167)) (.bind (F39 a158) fun v169 =>
  (.bind (F39 a162) fun v170 =>
  (.sees [(.d (.v (.float .f32 a158)))] (.sees [(.d (.v (.float .f32 a162)))] (.ask (.in64 (v169 * v170)) (.ask (.in64 (0 + v166 * v167 + v169 * v170)) (.sees [(.d (.v (.float .f32 a157)))] (.sees [(.d (.v (.float .f32 a162)))] (.ask (.in64 (v166 * v170)) (.ask (.in64 (0 + v168 * v167 + v166 * v170)) (.bind (F39 a159) fun v171 =>
  (.bind (F39 a163) fun v172 =>
  (.sees [(.d (.v (.float .f32 a159)))] (.sees [(.d (.v (.float .f32 a163)))] (.ask (.in64 (v171 * v172)) (.ask (.in64 (0 + v166 * v167 + v169 * v170 + v171 * v172)) (.sees [(.d (.v (.float .f32 a158)))] (.sees [(.d (.v (.float .f32 a163)))] (.ask (.in64 (v169 * v172)) (.ask (.in64 (0 + v168 * v167 + v166 * v170 + v169 * v172)) (.bind (F39 a164) fun v173 =>
  (.sees [(.d (.v (.float .f32 a160)))] (.sees [(.d (.v (.float .f32 a164)))] (.ask (.in64 (v168 * v173)) (.ask (.in64 (0 + v166 * v167 + v169 * v170 + v171 * v172 + v168 * v173)) (.sees [(.d (.v (.float .f32 a159)))] (.sees [(.d (.v (.float .f32 a164)))] (.ask (.in64 (v171 * v173)) (.ask (.in64 (0 + v168 * v167 + v166 * v170 + v169 * v172 + v171 * v173)) (.ret ((0 + v166 * v167 + v169 * v170 + v171 * v172 + v168 * v173), (0 + v168 * v167 + v166 * v170 + v169 * v172 + v171 * v173)))))))))))))))))))))))))))))))))))))))))))
noncomputable def F32 (a157 a158 a159 a160 a161 a162 a163 a164 : Nat) : Option (Int × Int) := res B32 (.c0 a157 a158 a159 a160 a161 a162 a163 a164)
noncomputable def D32_0 (a157 a158 a159 a160 a161 a162 a163 a164 : Nat) : DT cfz := (.go 33 [(.br true)] [0] (.bind (f39 a157) fun v166 => (.bind (f39 a161) fun v167 => (.go 2 [(.ck 0), (.ck 1)] [0, 1, 3, 4] (.bind (f39 a160) fun v168 => (.go 23 [.none, .none, (.ck 2), .none, (.ck 1), .none, (.br true)] [0, 1, 2, 3, 5, 6, 10, 11] (.bind (f39 a158) fun v169 => (.bind (f39 a162) fun v170 => (.go 25 [.none, .none, (.ck 3), .none, (.ck 4), .none, .none, .none, (.ck 0), .none, (.ck 4), .none, (.br true)] [0, 1, 3, 4, 8, 9, 10, 11, 13, 14, 18, 19] (.bind (f39 a159) fun v171 => (.bind (f39 a163) fun v172 => (.go 25 [.none, .none, (.ck 5), .none, (.ck 6), .none, .none, .none, (.ck 3), .none, (.ck 6), .none, (.br true)] [0, 1, 3, 4, 8, 9, 10, 11, 13, 14, 18, 19] (.bind (f39 a164) fun v173 => (.go 22 [.none, .none, (.ck 2), .none, (.ck 7), .none, .none, .none, (.ck 5), .none, (.ck 7), .none, (.br false)] [0, 1, 3, 4, 8, 9, 10, 11, 13, 14, 18, 19] .fin))))))))))))))
theorem k32_0 (a157 a158 a159 a160 a161 a162 a163 a164 : Nat) : xrun cfz 32 (D32_0 a157 a158 a159 a160 a161 a162 a163 a164) [] (st32 (.c0 a157 a158 a159 a160 a161 a162 a163 a164)) = (B32 (.c0 a157 a158 a159 a160 a161 a162 a163 a164)).mach st32 out32 := by kernel_rfl
theorem ok32 : ∀ s, ∃ d, xrun cfz 32 d [] (st32 s) = (B32 s).mach st32 out32
  | .c0 a157 a158 a159 a160 a161 a162 a163 a164 => ⟨_, k32_0 a157 a158 a159 a160 a161 a162 a163 a164⟩
theorem f32 (a157 a158 a159 a160 a161 a162 a163 a164 : Nat) (v : Int × Int) (h : F32 a157 a158 a159 a160 a161 a162 a163 a164 = some v) : PureCalls cfz.P cfz.glob 32 [(.agg [(.d (.v (.float .f32 a157))), (.d (.v (.float .f32 a158))), (.d (.v (.float .f32 a159))), (.d (.v (.float .f32 a160)))]), (.agg [(.d (.v (.float .f32 a161))), (.d (.v (.float .f32 a162))), (.d (.v (.float .f32 a163))), (.d (.v (.float .f32 a164)))])] (out32 v) := tree_pure knil ok32 (s := .c0 a157 a158 a159 a160 a161 a162 a163 a164) rfl (by kernel_rfl) v h

/-! F15 -/
inductive S15 where
  | c0 (a175 a176 a177 : Int)
def out15 (v : Int × Int) : AV := (.agg [(.d (.v (.int .i64 v.fst))), (.d (.v (.int .i64 v.snd)))])
noncomputable def st15 : S15 → ASt
  | .c0 a175 a176 a177 => ent cfz 15 [(.agg [(aI a175), (aI a176)]), (aI a177)]
noncomputable def B15 : S15 → Tr S15 (Int × Int)
  | .c0 a175 a176 a177 => (.ask (.in64 (a176 + a177)) (.ask (.in64 ((a176 + a177).tdiv 1000000)) (.ask (.in64 (a175 + (a176 + a177).tdiv 1000000)) (.ret (((a175 + (a176 + a177).tdiv 1000000).tmod 1000000), ((a176 + a177).tmod 1000000))))))
noncomputable def F15 (a175 a176 a177 : Int) : Option (Int × Int) := res B15 (.c0 a175 a176 a177)
noncomputable def D15_0 (a175 a176 a177 : Int) : DT cfz := (.go 27 [] [1, 4, 5] .fin)
theorem k15_0 (a175 a176 a177 : Int) : xrun cfz 15 (D15_0 a175 a176 a177) [] (st15 (.c0 a175 a176 a177)) = (B15 (.c0 a175 a176 a177)).mach st15 out15 := by kernel_rfl
theorem ok15 : ∀ s, ∃ d, xrun cfz 15 d [] (st15 s) = (B15 s).mach st15 out15
  | .c0 a175 a176 a177 => ⟨_, k15_0 a175 a176 a177⟩
theorem f15 (a175 a176 a177 : Int) (v : Int × Int) (h : F15 a175 a176 a177 = some v) : PureCalls cfz.P cfz.glob 15 [(.agg [(aI a175), (aI a176)]), (aI a177)] (out15 v) := tree_pure knil ok15 (s := .c0 a175 a176 a177) rfl (by kernel_rfl) v h

/-! F16 -/
inductive S16 where
  | c0 (a179 a180 : Int)
def out16 (v : Int) : AV := (.d (.v (.int .i64 v)))
noncomputable def st16 : S16 → ASt
  | .c0 a179 a180 => ent cfz 16 [(.agg [(aI a179), (aI a180)])]
noncomputable def B16 : S16 → Tr S16 (Int)
  | .c0 a179 a180 => (.br (if true = true then a179 == 0 && (a180 == 0 && true) else !(a179 == 0 && (a180 == 0 && true)))
  (.ret 0)
  (.br (decide (a179 ≥ 0))
  (.br (decide (a180 ≥ 0))
  (.ret 1)
  (.ask (.eqB (decide (a180 ≥ 0)) false) (.br (decide (a179 < 0))
  (.ret 3)
  (.ret 4))))
  (.br (decide (a180 ≥ 0))
  (.ret 2)
  (.br (decide (a179 < 0))
  (.ret 3)
  (.ret 4)))))
noncomputable def F16 (a179 a180 : Int) : Option (Int) := res B16 (.c0 a179 a180)
noncomputable def D16_0 (a179 a180 : Int) : DT cfz := (.go 14 [] [] (.split 3 (.go 6 [(.br true)] [0] .fin) (.go 7 [(.br false)] [0] (.split 11 (.go 6 [(.br true), (.br true), .none, (.br true)] [0, 1, 2] (.split 7 (.go 6 [(.br true)] [0] .fin) (.go 8 [(.br false)] [0] (.assume 16 false (.go 8 [(.br false)] [0] (.split 20 (.go 6 [(.br true)] [0] .fin) (.go 8 [(.br false)] [0] .fin))))))) (.go 14 [(.br false), (.br false), (.br false), .none, (.br false)] [0, 1, 2, 3] (.split 16 (.go 6 [(.br true)] [0] .fin) (.go 8 [(.br false)] [0] (.split 20 (.go 6 [(.br true)] [0] .fin) (.go 8 [(.br false)] [0] .fin)))))))))
theorem k16_0 (a179 a180 : Int) : xrun cfz 16 (D16_0 a179 a180) [] (st16 (.c0 a179 a180)) = (B16 (.c0 a179 a180)).mach st16 out16 := by kernel_rfl
theorem ok16 : ∀ s, ∃ d, xrun cfz 16 d [] (st16 s) = (B16 s).mach st16 out16
  | .c0 a179 a180 => ⟨_, k16_0 a179 a180⟩
theorem f16 (a179 a180 v : Int) (h : F16 a179 a180 = some v) : PureCalls cfz.P cfz.glob 16 [(.agg [(aI a179), (aI a180)])] (out16 v) := tree_pure knil ok16 (s := .c0 a179 a180) rfl (by kernel_rfl) v h

/-! F5 -/
inductive S5 where
  | c0 (a0 a1 a2 a3 a4 a5 a6 a7 a8 a9 a10 a11 : Int) (a12 : Nat) (a13 : List DV) (a14 : Nat) (a15 : List DV)
  | c1 (y128 x129 x130 x131 x132 x133 x134 x135 x136 x137 x138 x139 x140 : Int) (x141 : Nat) (x142 : List DV) (x143 : Nat) (x144 : List DV) (y220 y221 y213 y214 x145 y222 y223 y215 y216 x146 x147 x148 x149 x150 : Int) (x151 : Bool) (x152 x153 : Int) (x154 : Bool) (x155 : Int) (x156 : List DV)
  | c2 (y183 : Int) (x184 : List AV) (x185 : Nat) (x186 : List DV) (x187 : Nat) (x188 : List DV) (x189 x190 x191 x192 x193 x194 x195 x196 x197 x198 x199 x200 x201 y228 y229 y230 y231 x202 x203 x204 x205 x206 : Int) (x207 : Bool) (x208 x209 : Int) (x210 : Bool) (x211 : Int) (x212 : List DV)
def out5 (v : Int × Int × Int × Int × Int × Int × Int × Int × Int × Int × Int × Int × Int) : AV := (.tup [(.agg [(.d (.v (.int .i64 v.fst))), (.d (.v (.int .i64 v.snd.fst))), (.d (.v (.int .i64 v.snd.snd.fst))), (.d (.v (.int .i64 v.snd.snd.snd.fst))), (.d (.v (.int .i64 v.snd.snd.snd.snd.fst))), (.d (.v (.int .i64 v.snd.snd.snd.snd.snd.fst))), (.d (.v (.int .i64 v.snd.snd.snd.snd.snd.snd.fst))), (.d (.v (.int .i64 v.snd.snd.snd.snd.snd.snd.snd.fst))), (.d (.v (.int .i64 v.snd.snd.snd.snd.snd.snd.snd.snd.fst))), (.d (.v (.int .i64 v.snd.snd.snd.snd.snd.snd.snd.snd.snd.fst))), (.d (.v (.int .i64 v.snd.snd.snd.snd.snd.snd.snd.snd.snd.snd.fst))), (.d (.v (.int .i64 v.snd.snd.snd.snd.snd.snd.snd.snd.snd.snd.snd.fst)))]), (.d (.v (.int .i64 v.snd.snd.snd.snd.snd.snd.snd.snd.snd.snd.snd.snd)))])
noncomputable def st5 : S5 → ASt
  | .c0 a0 a1 a2 a3 a4 a5 a6 a7 a8 a9 a10 a11 a12 a13 a14 a15 => ent cfz 5 [(.agg [(aI a0), (aI a1), (aI a2), (aI a3), (aI a4), (aI a5), (aI a6), (aI a7), (aI a8), (aI a9), (aI a10), (aI a11)]), (.d (.sl a12 a13)), (.d (.sl a14 a15))]
  | .c1 y128 x129 x130 x131 x132 x133 x134 x135 x136 x137 x138 x139 x140 x141 x142 x143 x144 y220 y221 y213 y214 x145 y222 y223 y215 y216 x146 x147 x148 x149 x150 x151 x152 x153 x154 x155 x156 => ⟨⟨31, sp 30 0 [(0, (.yl 6)), (1, (.ptr 3 0)), (2, (.ptr 4 0)), (4, (aI y128))], [(.code (cd cfz.P 31 [1, 0, 0])), (.inLoop (cd cfz.P 31 [1, 0, 0])), (.inBlock 0)], [], false, .none⟩, [⟨5, sp 73 0 [(3, (.ptr 0 0)), (6, (.ptr 1 0)), (7, (aI 0))], [(.inRng 6), (.inBlock 0), (.code (cd cfz.P 5 [1, 1, 1]))], [5], false, .none⟩], [(.cells [(aI x129), (aI x130), (aI x131), (aI x132), (aI x133), (aI x134), (aI x135), (aI x136), (aI x137), (aI x138), (aI x139), (aI x140)] 30), (.cells [(aI 0), (aI 0), (aI 0), (aI 0), (aI 0), (aI 0), (aI 0), (aI 0), (aI 0), (aI 0), (aI 0), (aI 0)] 30), (.tail 0), (.cells [(.d (.sl x141 x142))] 31), (.cells [(.d (.sl x143 x144))] 31), .defd, (.loop ⟨.ready, .none, 5, [(.agg [(aI y220), (aI y221), (aI y213), (aI y214), (aI x133), (aI x134), (aI x135), (aI x136), (aI x137), (aI x138), (aI x139), (aI x140)]), (.d (.sl x141 x142)), (.d (.sl x143 x144)), (.ptr 0 0), .any, .any, (.ptr 1 0), (aI 0), (aI x145), .any, .any, .any, (.agg [(aI y222), (aI y223), (aI y215), (aI y216), (aI x133), (aI x134), (aI x135), (aI x136), (aI x137), (aI x138), (aI x139), (aI x140)]), (aI x146), (.d (.sl x141 x142)), (aI x147), (.d (.sl x143 x144)), (aI x148), (.d (.sl x141 x142)), (aI x149), (.d (.sl x143 x144)), (aI x150), (.d (.v (.bool x151))), (aI x152), (.d (.sl x141 x142)), (aI x149), (aI x153), (.d (.v (.bool x154))), (aI x155), (.own 2 0 1 5 x156), (aI x145), (aI x145), (.d (.v (.bool false))), .any, .any, (.d (.sl x141 x142)), (.d (.sl x143 x144)), (.fn (.func 31) [] [(.ptr 3 0), (.ptr 4 0)]), .any, .any, .any, .any, .any, .any, .any, .any, .any, .any, .any, .any, .any, .any, .any, .any, .any, .any, .any, .any, .any, .any, .any, .any, .any, .any, .any, .any, .any, .any, .any, .any, .any, .any, .any], (#[38]), (cd cfz.P 5 [1, 1, 0, 1, 0, 0]), (cd cfz.P 5 [1, 1, 0, 1, 0, 1]), 5⟩)]⟩
  | .c2 y183 x184 x185 x186 x187 x188 x189 x190 x191 x192 x193 x194 x195 x196 x197 x198 x199 x200 x201 y228 y229 y230 y231 x202 x203 x204 x205 x206 x207 x208 x209 x210 x211 x212 => ⟨⟨31, sp 30 0 [(0, (.yl 6)), (1, (.ptr 3 0)), (2, (.ptr 4 0)), (4, (aI y183))], [(.code (cd cfz.P 31 [1, 0, 0])), (.inLoop (cd cfz.P 31 [1, 0, 0])), (.inBlock 0)], [], false, .none⟩, [⟨5, sp 73 0 [(3, (.ptr 0 0)), (6, (.ptr 1 0)), (7, (aI 0))], [(.inRng 6), (.inBlock 0), (.code (cd cfz.P 5 [1, 1, 1]))], [5], false, .none⟩], [(.cells x184 30), (.cells [(aI 0), (aI 0), (aI 0), (aI 0), (aI 0), (aI 0), (aI 0), (aI 0), (aI 0), (aI 0), (aI 0), (aI 0)] 30), (.tail 0), (.cells [(.d (.sl x185 x186))] 31), (.cells [(.d (.sl x187 x188))] 31), .defd, (.loop ⟨.ready, .none, 5, [(.agg [(aI x189), (aI x190), (aI x191), (aI x192), (aI x193), (aI x194), (aI x195), (aI x196), (aI x197), (aI x198), (aI x199), (aI x200)]), (.d (.sl x185 x186)), (.d (.sl x187 x188)), (.ptr 0 0), .any, .any, (.ptr 1 0), (aI 0), (aI x201), .any, .any, .any, (.agg [(aI y228), (aI y229), (aI y230), (aI y231), (aI x193), (aI x194), (aI x195), (aI x196), (aI x197), (aI x198), (aI x199), (aI x200)]), (aI x202), (.d (.sl x185 x186)), (aI x203), (.d (.sl x187 x188)), (aI x204), (.d (.sl x185 x186)), (aI x205), (.d (.sl x187 x188)), (aI x206), (.d (.v (.bool x207))), (aI x208), (.d (.sl x185 x186)), (aI x205), (aI x209), (.d (.v (.bool x210))), (aI x211), (.own 2 0 1 5 x212), (aI x201), (aI x201), (.d (.v (.bool false))), .any, .any, (.d (.sl x185 x186)), (.d (.sl x187 x188)), (.fn (.func 31) [] [(.ptr 3 0), (.ptr 4 0)]), .any, .any, .any, .any, .any, .any, .any, .any, .any, .any, .any, .any, .any, .any, .any, .any, .any, .any, .any, .any, .any, .any, .any, .any, .any, .any, .any, .any, .any, .any, .any, .any, .any, .any, .any], (#[38]), (cd cfz.P 5 [1, 1, 0, 1, 0, 0]), (cd cfz.P 5 [1, 1, 0, 1, 0, 1]), 5⟩)]⟩
noncomputable def B5 : S5 → Tr S5 (Int × Int × Int × Int × Int × Int × Int × Int × Int × Int × Int × Int × Int)
  | .c0 a0 a1 a2 a3 a4 a5 a6 a7 a8 a9 a10 a11 a12 a13 a14 a15 => (.bind (F11 a0 a1 a2 a3 a4 a5 a6 a7 a8 a9 a10 a11) fun v70 =>
  (.sees [(.agg [(aI a0), (aI a1), (aI a2), (aI a3), (aI a4), (aI a5), (aI a6), (aI a7), (aI a8), (aI a9), (aI a10), (aI a11)])] (.bind (F12 a12 a13) fun v119 =>
  (.sees [(.d (.sl a12 a13))] (.bind (F12 a14 a15) fun v120 =>
  (.sees [(.d (.sl a14 a15))] (.bind (F13 ((↑a12 : Int) != (↑a14 : Int)) 2) fun v121 =>
  (.sees [(.d (.v (.bool ((↑a12 : Int) != (↑a14 : Int))))), (aI 2)] (.bind (F13 ((↑a12 : Int).tmod 4 != 0) 16) fun v122 =>
  (.sees [(.d (.v (.bool ((↑a12 : Int).tmod 4 != 0)))), (aI 16)] (.bind (F10 5 [(.v (.int .i64 v70)), (.v (.int .i64 v119)), (.v (.int .i64 v120)), (.v (.int .i64 v121)), (.v (.int .i64 v122))]) fun v123 =>
  (.sees [(.d (.sl 5 [(vI v70), (vI v119), (vI v120), (vI v121), (vI v122)]))] (.br (v123 != 0)
  (.ret (0, 0, 0, 0, 0, 0, 0, 0, 0, 0, 0, 0, v123))
  (.nxt (.c1 0 a0 a1 a2 a3 a4 a5 a6 a7 a8 a9 a10 a11 a12 a13 a14 a15 a0 a1 a2 a3 v123 a0 a1 a2 a3 v70 v119 v120 ((↑a12 : Int)) ((↑a14 : Int)) ((↑a12 : Int) != (↑a14 : Int)) v121 ((↑a12 : Int).tmod 4) ((↑a12 : Int).tmod 4 != 0) v122 [(.v (.int .i64 v70)), (.v (.int .i64 v119)), (.v (.int .i64 v120)), (.v (.int .i64 v121)), (.v (.int .i64 v122))])))))))))))))))
  | .c1 y128 x129 x130 x131 x132 x133 x134 x135 x136 x137 x138 x139 x140 x141 x142 x143 x144 y220 y221 y213 y214 x145 y222 y223 y215 y216 x146 x147 x148 x149 x150 x151 x152 x153 x154 x155 x156 => (.ask (.in64 (y128 + 4)) (.br (decide (y128 + 4 ≤ (↑x141 : Int)))
  (.bind (F32 (dF (cel (List.take (((y128 + 4).toNat - y128.toNat) * 1) (List.drop (y128.toNat * 1) x142)) 0)) (dF (cel (List.take (((y128 + 4).toNat - y128.toNat) * 1) (List.drop (y128.toNat * 1) x142)) 1)) (dF (cel (List.take (((y128 + 4).toNat - y128.toNat) * 1) (List.drop (y128.toNat * 1) x142)) 2)) (dF (cel (List.take (((y128 + 4).toNat - y128.toNat) * 1) (List.drop (y128.toNat * 1) x142)) 3)) (dF (cel (List.take (((y128 + 4).toNat - y128.toNat) * 1) (List.drop (y128.toNat * 1) x144)) 0)) (dF (cel (List.take (((y128 + 4).toNat - y128.toNat) * 1) (List.drop (y128.toNat * 1) x144)) 1)) (dF (cel (List.take (((y128 + 4).toNat - y128.toNat) * 1) (List.drop (y128.toNat * 1) x144)) 2)) (dF (cel (List.take (((y128 + 4).toNat - y128.toNat) * 1) (List.drop (y128.toNat * 1) x144)) 3))) fun v224 =>
  (.ask (.in64 (y128 + 4)) (.ask (.le 0 y128) (.ask (.le y128 (y128 + 4)) (.ask (.le (y128 + 4) ((↑x141 : Int))) (.ask (.eqN x142.length (x141 * 1)) (.ask (.leN 4 ((y128 + 4).toNat - y128.toNat)) (.ask (.leN 4 ((List.take (((y128 + 4).toNat - y128.toNat) * 1) (List.drop (y128.toNat * 1) x142)).length)) (.ask (.prop (List.map AV.d (List.take 4 (List.take (((y128 + 4).toNat - y128.toNat) * 1) (List.drop (y128.toNat * 1) x142))) = [AV.d (DV.v (Value.float FloatKind.f32 (dF (cel (List.take (((y128 + 4).toNat - y128.toNat) * 1) (List.drop (y128.toNat * 1) x142)) 0)))), AV.d (DV.v (Value.float FloatKind.f32 (dF (cel (List.take (((y128 + 4).toNat - y128.toNat) * 1) (List.drop (y128.toNat * 1) x142)) 1)))), AV.d (DV.v (Value.float FloatKind.f32 (dF (cel (List.take (((y128 + 4).toNat - y128.toNat) * 1) (List.drop (y128.toNat * 1) x142)) 2)))), AV.d (DV.v (Value.float FloatKind.f32 (dF (cel (List.take (((y128 + 4).toNat - y128.toNat) * 1) (List.drop (y128.toNat * 1) x142)) 3))))])) (.ask (.in64 (y128 + 4)) (.ask (.le 0 y128) (.ask (.le y128 (y128 + 4)) (.ask (.le (y128 + 4) ((↑x143 : Int))) (.ask (.eqN x144.length (x143 * 1)) (.ask (.leN 4 ((y128 + 4).toNat - y128.toNat)) (.ask (.leN 4 ((List.take (((y128 + 4).toNat - y128.toNat) * 1) (List.drop (y128.toNat * 1) x144)).length)) (.ask (.prop (List.map AV.d (List.take 4 (List.take (((y128 + 4).toNat - y128.toNat) * 1) (List.drop (y128.toNat * 1) x144))) = [AV.d (DV.v (Value.float FloatKind.f32 (dF (cel (List.take (((y128 + 4).toNat - y128.toNat) * 1) (List.drop (y128.toNat * 1) x144)) 0)))), AV.d (DV.v (Value.float FloatKind.f32 (dF (cel (List.take (((y128 + 4).toNat - y128.toNat) * 1) (List.drop (y128.toNat * 1) x144)) 1)))), AV.d (DV.v (Value.float FloatKind.f32 (dF (cel (List.take (((y128 + 4).toNat - y128.toNat) * 1) (List.drop (y128.toNat * 1) x144)) 2)))), AV.d (DV.v (Value.float FloatKind.f32 (dF (cel (List.take (((y128 + 4).toNat - y128.toNat) * 1) (List.drop (y128.toNat * 1) x144)) 3))))])) (.sees [(.agg [(.d (.v (.float .f32 (dF (cel (List.take (((y128 + 4).toNat - y128.toNat) * 1) (List.drop (y128.toNat * 1) x142)) 0))))), (.d (.v (.float .f32 (dF (cel (List.take (((y128 + 4).toNat - y128.toNat) * 1) (List.drop (y128.toNat * 1) x142)) 1))))), (.d (.v (.float .f32 (dF (cel (List.take (((y128 + 4).toNat - y128.toNat) * 1) (List.drop (y128.toNat * 1) x142)) 2))))), (.d (.v (.float .f32 (dF (cel (List.take (((y128 + 4).toNat - y128.toNat) * 1) (List.drop (y128.toNat * 1) x142)) 3)))))]), (.agg [(.d (.v (.float .f32 (dF (cel (List.take (((y128 + 4).toNat - y128.toNat) * 1) (List.drop (y128.toNat * 1) x144)) 0))))), (.d (.v (.float .f32 (dF (cel (List.take (((y128 + 4).toNat - y128.toNat) * 1) (List.drop (y128.toNat * 1) x144)) 1))))), (.d (.v (.float .f32 (dF (cel (List.take (((y128 + 4).toNat - y128.toNat) * 1) (List.drop (y128.toNat * 1) x144)) 2))))), (.d (.v (.float .f32 (dF (cel (List.take (((y128 + 4).toNat - y128.toNat) * 1) (List.drop (y128.toNat * 1) x144)) 3)))))])] (.br (decide (v224.fst < 0))
  (.bind (F15 x131 x132 (if -v224.fst > v224.fst then -v224.fst else v224.fst)) fun v225 =>
  (.ask (.in64 (-v224.fst)) (.sees [(.agg [(aI x131), (aI x132)]), (aI (if -v224.fst > v224.fst then -v224.fst else v224.fst))] (.br (v224.snd != 0)
  (.bind (F16 v224.fst v224.snd) fun v226 =>
  (.sees [(.agg [(aI v224.fst), (aI v224.snd)])] (.ask (.in64 (1 + v226)) (.bind (F15 (dI (celA [AV.d (DV.v (Value.int IntKind.i64 x129)), AV.d (DV.v (Value.int IntKind.i64 x130)), AV.d (DV.v (Value.int IntKind.i64 v225.fst)), AV.d (DV.v (Value.int IntKind.i64 v225.snd)), AV.d (DV.v (Value.int IntKind.i64 x133)), AV.d (DV.v (Value.int IntKind.i64 x134)), AV.d (DV.v (Value.int IntKind.i64 x135)), AV.d (DV.v (Value.int IntKind.i64 x136)), AV.d (DV.v (Value.int IntKind.i64 x137)), AV.d (DV.v (Value.int IntKind.i64 x138)), AV.d (DV.v (Value.int IntKind.i64 x139)), AV.d (DV.v (Value.int IntKind.i64 x140))] (0 + (1 + v226).toNat * 2))) (dI (celA [AV.d (DV.v (Value.int IntKind.i64 x129)), AV.d (DV.v (Value.int IntKind.i64 x130)), AV.d (DV.v (Value.int IntKind.i64 v225.fst)), AV.d (DV.v (Value.int IntKind.i64 v225.snd)), AV.d (DV.v (Value.int IntKind.i64 x133)), AV.d (DV.v (Value.int IntKind.i64 x134)), AV.d (DV.v (Value.int IntKind.i64 x135)), AV.d (DV.v (Value.int IntKind.i64 x136)), AV.d (DV.v (Value.int IntKind.i64 x137)), AV.d (DV.v (Value.int IntKind.i64 x138)), AV.d (DV.v (Value.int IntKind.i64 x139)), AV.d (DV.v (Value.int IntKind.i64 x140))] (0 + (1 + v226).toNat * 2 + 1))) (if -v224.snd > v224.snd then -v224.snd else v224.snd)) fun v227 =>
  (.ask (.le 0 (1 + v226)) (.ask (.lt (1 + v226) 6) (.ask (.leN (0 + (1 + v226).toNat * 2 + 2) 12) (.ask (.prop (List.take 2 (List.drop (0 + (1 + v226).toNat * 2) [AV.d (DV.v (Value.int IntKind.i64 x129)), AV.d (DV.v (Value.int IntKind.i64 x130)), AV.d (DV.v (Value.int IntKind.i64 v225.fst)), AV.d (DV.v (Value.int IntKind.i64 v225.snd)), AV.d (DV.v (Value.int IntKind.i64 x133)), AV.d (DV.v (Value.int IntKind.i64 x134)), AV.d (DV.v (Value.int IntKind.i64 x135)), AV.d (DV.v (Value.int IntKind.i64 x136)), AV.d (DV.v (Value.int IntKind.i64 x137)), AV.d (DV.v (Value.int IntKind.i64 x138)), AV.d (DV.v (Value.int IntKind.i64 x139)), AV.d (DV.v (Value.int IntKind.i64 x140))]) = [AV.d (DV.v (Value.int IntKind.i64 (dI (celA [AV.d (DV.v (Value.int IntKind.i64 x129)), AV.d (DV.v (Value.int IntKind.i64 x130)), AV.d (DV.v (Value.int IntKind.i64 v225.fst)), AV.d (DV.v (Value.int IntKind.i64 v225.snd)), AV.d (DV.v (Value.int IntKind.i64 x133)), AV.d (DV.v (Value.int IntKind.i64 x134)), AV.d (DV.v (Value.int IntKind.i64 x135)), AV.d (DV.v (Value.int IntKind.i64 x136)), AV.d (DV.v (Value.int IntKind.i64 x137)), AV.d (DV.v (Value.int IntKind.i64 x138)), AV.d (DV.v (Value.int IntKind.i64 x139)), AV.d (DV.v (Value.int IntKind.i64 x140))] (0 + (1 + v226).toNat * 2))))), AV.d (DV.v (Value.int IntKind.i64 (dI (celA [AV.d (DV.v (Value.int IntKind.i64 x129)), AV.d (DV.v (Value.int IntKind.i64 x130)), AV.d (DV.v (Value.int IntKind.i64 v225.fst)), AV.d (DV.v (Value.int IntKind.i64 v225.snd)), AV.d (DV.v (Value.int IntKind.i64 x133)), AV.d (DV.v (Value.int IntKind.i64 x134)), AV.d (DV.v (Value.int IntKind.i64 x135)), AV.d (DV.v (Value.int IntKind.i64 x136)), AV.d (DV.v (Value.int IntKind.i64 x137)), AV.d (DV.v (Value.int IntKind.i64 x138)), AV.d (DV.v (Value.int IntKind.i64 x139)), AV.d (DV.v (Value.int IntKind.i64 x140))] (0 + (1 + v226).toNat * 2 + 1)))))])) (.ask (.in64 (-v224.snd)) (.sees [(.agg [(aI (dI (celA [aI x129, aI x130, aI v225.fst, aI v225.snd, aI x133, aI x134, aI x135, aI x136, aI x137, aI x138, aI x139, aI x140] (0 + (1 + v226).toNat * 2)))), (aI (dI (celA [aI x129, aI x130, aI v225.fst, aI v225.snd, aI x133, aI x134, aI x135, aI x136, aI x137, aI x138, aI x139, aI x140] (0 + (1 + v226).toNat * 2 + 1))))]), (aI (if -v224.snd > v224.snd then -v224.snd else v224.snd))] (.ask (.le 0 (1 + v226)) (.ask (.lt (1 + v226) 6) (.ask (.leN (0 + (1 + v226).toNat * 2 + 2) 12) (.triv _ (tv_p (spliceA [AV.d (DV.v (Value.int IntKind.i64 x129)), AV.d (DV.v (Value.int IntKind.i64 x130)), AV.d (DV.v (Value.int IntKind.i64 v225.fst)), AV.d (DV.v (Value.int IntKind.i64 v225.snd)), AV.d (DV.v (Value.int IntKind.i64 x133)), AV.d (DV.v (Value.int IntKind.i64 x134)), AV.d (DV.v (Value.int IntKind.i64 x135)), AV.d (DV.v (Value.int IntKind.i64 x136)), AV.d (DV.v (Value.int IntKind.i64 x137)), AV.d (DV.v (Value.int IntKind.i64 x138)), AV.d (DV.v (Value.int IntKind.i64 x139)), AV.d (DV.v (Value.int IntKind.i64 x140))] (0 + (1 + v226).toNat * 2) [AV.d (DV.v (Value.int IntKind.i64 v227.fst)), AV.d (DV.v (Value.int IntKind.i64 v227.snd))])) (.ask (.in64 (y128 + 4)) (.ask (.prop (refK 7 (ABlk.cells (spliceA [AV.d (DV.v (Value.int IntKind.i64 x129)), AV.d (DV.v (Value.int IntKind.i64 x130)), AV.d (DV.v (Value.int IntKind.i64 v225.fst)), AV.d (DV.v (Value.int IntKind.i64 v225.snd)), AV.d (DV.v (Value.int IntKind.i64 x133)), AV.d (DV.v (Value.int IntKind.i64 x134)), AV.d (DV.v (Value.int IntKind.i64 x135)), AV.d (DV.v (Value.int IntKind.i64 x136)), AV.d (DV.v (Value.int IntKind.i64 x137)), AV.d (DV.v (Value.int IntKind.i64 x138)), AV.d (DV.v (Value.int IntKind.i64 x139)), AV.d (DV.v (Value.int IntKind.i64 x140))] (0 + (1 + v226).toNat * 2) [AV.d (DV.v (Value.int IntKind.i64 v227.fst)), AV.d (DV.v (Value.int IntKind.i64 v227.snd))]) 30) = true)) (.nxt (.c2 (y128 + 4) (spliceA [AV.d (DV.v (Value.int IntKind.i64 x129)), AV.d (DV.v (Value.int IntKind.i64 x130)), AV.d (DV.v (Value.int IntKind.i64 v225.fst)), AV.d (DV.v (Value.int IntKind.i64 v225.snd)), AV.d (DV.v (Value.int IntKind.i64 x133)), AV.d (DV.v (Value.int IntKind.i64 x134)), AV.d (DV.v (Value.int IntKind.i64 x135)), AV.d (DV.v (Value.int IntKind.i64 x136)), AV.d (DV.v (Value.int IntKind.i64 x137)), AV.d (DV.v (Value.int IntKind.i64 x138)), AV.d (DV.v (Value.int IntKind.i64 x139)), AV.d (DV.v (Value.int IntKind.i64 x140))] (0 + (1 + v226).toNat * 2) [AV.d (DV.v (Value.int IntKind.i64 v227.fst)), AV.d (DV.v (Value.int IntKind.i64 v227.snd))]) x141 x142 x143 x144 y220 y221 y213 y214 x133 x134 x135 x136 x137 x138 x139 x140 x145 y222 y223 y215 y216 x146 x147 x148 x149 x150 x151 x152 x153 x154 x155 x156))))))))))))))))))
  (.ask (.in64 (y128 + 4)) (.nxt (.c1 (y128 + 4) x129 x130 v225.fst v225.snd x133 x134 x135 x136 x137 x138 x139 x140 x141 x142 x143 x144 y220 y221 y213 y214 x145 y222 y223 y215 y216 x146 x147 x148 x149 x150 x151 x152 x153 x154 x155 x156)))))))
  (.bind (F15 x129 x130 (if -v224.fst > v224.fst then -v224.fst else v224.fst)) fun v232 =>
  (.ask (.in64 (-v224.fst)) (.sees [(.agg [(aI x129), (aI x130)]), (aI (if -v224.fst > v224.fst then -v224.fst else v224.fst))] (.br (v224.snd != 0)
  (.bind (F16 v224.fst v224.snd) fun v233 =>
  (.sees [(.agg [(aI v224.fst), (aI v224.snd)])] (.ask (.in64 (1 + v233)) (.bind (F15 (dI (celA [AV.d (DV.v (Value.int IntKind.i64 v232.fst)), AV.d (DV.v (Value.int IntKind.i64 v232.snd)), AV.d (DV.v (Value.int IntKind.i64 x131)), AV.d (DV.v (Value.int IntKind.i64 x132)), AV.d (DV.v (Value.int IntKind.i64 x133)), AV.d (DV.v (Value.int IntKind.i64 x134)), AV.d (DV.v (Value.int IntKind.i64 x135)), AV.d (DV.v (Value.int IntKind.i64 x136)), AV.d (DV.v (Value.int IntKind.i64 x137)), AV.d (DV.v (Value.int IntKind.i64 x138)), AV.d (DV.v (Value.int IntKind.i64 x139)), AV.d (DV.v (Value.int IntKind.i64 x140))] (0 + (1 + v233).toNat * 2))) (dI (celA [AV.d (DV.v (Value.int IntKind.i64 v232.fst)), AV.d (DV.v (Value.int IntKind.i64 v232.snd)), AV.d (DV.v (Value.int IntKind.i64 x131)), AV.d (DV.v (Value.int IntKind.i64 x132)), AV.d (DV.v (Value.int IntKind.i64 x133)), AV.d (DV.v (Value.int IntKind.i64 x134)), AV.d (DV.v (Value.int IntKind.i64 x135)), AV.d (DV.v (Value.int IntKind.i64 x136)), AV.d (DV.v (Value.int IntKind.i64 x137)), AV.d (DV.v (Value.int IntKind.i64 x138)), AV.d (DV.v (Value.int IntKind.i64 x139)), AV.d (DV.v (Value.int IntKind.i64 x140))] (0 + (1 + v233).toNat * 2 + 1))) (if -v224.snd > v224.snd then -v224.snd else v224.snd)) fun v234 =>
  (.ask (.le 0 (1 + v233)) (.ask (.lt (1 + v233) 6) (.ask (.leN (0 + (1 + v233).toNat * 2 + 2) 12) (.ask (.prop (List.take 2 (List.drop (0 + (1 + v233).toNat * 2) [AV.d (DV.v (Value.int IntKind.i64 v232.fst)), AV.d (DV.v (Value.int IntKind.i64 v232.snd)), AV.d (DV.v (Value.int IntKind.i64 x131)), AV.d (DV.v (Value.int IntKind.i64 x132)), AV.d (DV.v (Value.int IntKind.i64 x133)), AV.d (DV.v (Value.int IntKind.i64 x134)), AV.d (DV.v (Value.int IntKind.i64 x135)), AV.d (DV.v (Value.int IntKind.i64 x136)), AV.d (DV.v (Value.int IntKind.i64 x137)), AV.d (DV.v (Value.int IntKind.i64 x138)), AV.d (DV.v (Value.int IntKind.i64 x139)), AV.d (DV.v (Value.int IntKind.i64 x140))]) = [AV.d (DV.v (Value.int IntKind.i64 (dI (celA [AV.d (DV.v (Value.int IntKind.i64 v232.fst)), AV.d (DV.v (Value.int IntKind.i64 v232.snd)), AV.d (DV.v (Value.int IntKind.i64 x131)), AV.d (DV.v (Value.int IntKind.i64 x132)), AV.d (DV.v (Value.int IntKind.i64 x133)), AV.d (DV.v (Value.int IntKind.i64 x134)), AV.d (DV.v (Value.int IntKind.i64 x135)), AV.d (DV.v (Value.int IntKind.i64 x136)), AV.d (DV.v (Value.int IntKind.i64 x137)), AV.d (DV.v (Value.int IntKind.i64 x138)), AV.d (DV.v (Value.int IntKind.i64 x139)), AV.d (DV.v (Value.int IntKind.i64 x140))] (0 + (1 + v233).toNat * 2))))), AV.d (DV.v (Value.int IntKind.i64 (dI (celA [AV.d (DV.v (Value.int IntKind.i64 v232.fst)), AV.d (DV.v (Value.int IntKind.i64 v232.snd)), AV.d (DV.v (Value.int IntKind.i64 x131)), AV.d (DV.v (Value.int IntKind.i64 x132)), AV.d (DV.v (Value.int IntKind.i64 x133)), AV.d (DV.v (Value.int IntKind.i64 x134)), AV.d (DV.v (Value.int IntKind.i64 x135)), AV.d (DV.v (Value.int IntKind.i64 x136)), AV.d (DV.v (Value.int IntKind.i64 x137)), AV.d (DV.v (Value.int IntKind.i64 x138)), AV.d (DV.v (Value.int IntKind.i64 x139)), AV.d (DV.v (Value.int IntKind.i64 x140))] (0 + (1 + v233).toNat * 2 + 1)))))])) (.ask (.in64 (-v224.snd)) (.sees [(.agg [(aI (dI (celA [aI v232.fst, aI v232.snd, aI x131, aI x132, aI x133, aI x134, aI x135, aI x136, aI x137, aI x138, aI x139, aI x140] (0 + (1 + v233).toNat * 2)))), (aI (dI (celA [aI v232.fst, aI v232.snd, aI x131, aI x132, aI x133, aI x134, aI x135, aI x136, aI x137, aI x138, aI x139, aI x140] (0 + (1 + v233).toNat * 2 + 1))))]), (aI (if -v224.snd > v224.snd then -v224.snd else v224.snd))] (.ask (.le 0 (1 + v233)) (.ask (.lt (1 + v233) 6) (.ask (.leN (0 + (1 + v233).toNat * 2 + 2) 12) (.triv _ (tv_p (spliceA [AV.d (DV.v (Value.int IntKind.i64 v232.fst)), AV.d (DV.v (Value.int IntKind.i64 v232.snd)), AV.d (DV.v (Value.int IntKind.i64 x131)), AV.d (DV.v (Value.int IntKind.i64 x132)), AV.d (DV.v (Value.int IntKind.i64 x133)), AV.d (DV.v (Value.int IntKind.i64 x134)), AV.d (DV.v (Value.int IntKind.i64 x135)), AV.d (DV.v (Value.int IntKind.i64 x136)), AV.d (DV.v (Value.int IntKind.i64 x137)), AV.d (DV.v (Value.int IntKind.i64 x138)), AV.d (DV.v (Value.int IntKind.i64 x139)), AV.d (DV.v (Value.int IntKind.i64 x140))] (0 + (1 + v233).toNat * 2) [AV.d (DV.v (Value.int IntKind.i64 v234.fst)), AV.d (DV.v (Value.int IntKind.i64 v234.snd))])) (.ask (.in64 (y128 + 4)) (.ask (.prop (refK 7 (ABlk.cells (spliceA [AV.d (DV.v (Value.int IntKind.i64 v232.fst)), AV.d (DV.v (Value.int IntKind.i64 v232.snd)), AV.d (DV.v (Value.int IntKind.i64 x131)), AV.d (DV.v (Value.int IntKind.i64 x132)), AV.d (DV.v (Value.int IntKind.i64 x133)), AV.d (DV.v (Value.int IntKind.i64 x134)), AV.d (DV.v (Value.int IntKind.i64 x135)), AV.d (DV.v (Value.int IntKind.i64 x136)), AV.d (DV.v (Value.int IntKind.i64 x137)), AV.d (DV.v (Value.int IntKind.i64 x138)), AV.d (DV.v (Value.int IntKind.i64 x139)), AV.d (DV.v (Value.int IntKind.i64 x140))] (0 + (1 + v233).toNat * 2) [AV.d (DV.v (Value.int IntKind.i64 v234.fst)), AV.d (DV.v (Value.int IntKind.i64 v234.snd))]) 30) = true)) (.nxt (.c2 (y128 + 4) (spliceA [AV.d (DV.v (Value.int IntKind.i64 v232.fst)), AV.d (DV.v (Value.int IntKind.i64 v232.snd)), AV.d (DV.v (Value.int IntKind.i64 x131)), AV.d (DV.v (Value.int IntKind.i64 x132)), AV.d (DV.v (Value.int IntKind.i64 x133)), AV.d (DV.v (Value.int IntKind.i64 x134)), AV.d (DV.v (Value.int IntKind.i64 x135)), AV.d (DV.v (Value.int IntKind.i64 x136)), AV.d (DV.v (Value.int IntKind.i64 x137)), AV.d (DV.v (Value.int IntKind.i64 x138)), AV.d (DV.v (Value.int IntKind.i64 x139)), AV.d (DV.v (Value.int IntKind.i64 x140))] (0 + (1 + v233).toNat * 2) [AV.d (DV.v (Value.int IntKind.i64 v234.fst)), AV.d (DV.v (Value.int IntKind.i64 v234.snd))]) x141 x142 x143 x144 y220 y221 y213 y214 x133 x134 x135 x136 x137 x138 x139 x140 x145 y222 y223 y215 y216 x146 x147 x148 x149 x150 x151 x152 x153 x154 x155 x156))))))))))))))))))
  (.ask (.in64 (y128 + 4)) (.nxt (.c1 (y128 + 4) v232.fst v232.snd x131 x132 x133 x134 x135 x136 x137 x138 x139 x140 x141 x142 x143 x144 y220 y221 y213 y214 x145 y222 y223 y215 y216 x146 x147 x148 x149 x150 x151 x152 x153 x154 x155 x156))))))))))))))))))))))))))
  (.ret (x129, x130, x131, x132, x133, x134, x135, x136, x137, x138, x139, x140, 0))))
  | .c2 y183 x184 x185 x186 x187 x188 x189 x190 x191 x192 x193 x194 x195 x196 x197 x198 x199 x200 x201 y228 y229 y230 y231 x202 x203 x204 x205 x206 x207 x208 x209 x210 x211 x212 => (.ask (.in64 (y183 + 4)) (.br (decide (y183 + 4 ≤ (↑x185 : Int)))
  (.bind (F32 (dF (cel (List.take (((y183 + 4).toNat - y183.toNat) * 1) (List.drop (y183.toNat * 1) x186)) 0)) (dF (cel (List.take (((y183 + 4).toNat - y183.toNat) * 1) (List.drop (y183.toNat * 1) x186)) 1)) (dF (cel (List.take (((y183 + 4).toNat - y183.toNat) * 1) (List.drop (y183.toNat * 1) x186)) 2)) (dF (cel (List.take (((y183 + 4).toNat - y183.toNat) * 1) (List.drop (y183.toNat * 1) x186)) 3)) (dF (cel (List.take (((y183 + 4).toNat - y183.toNat) * 1) (List.drop (y183.toNat * 1) x188)) 0)) (dF (cel (List.take (((y183 + 4).toNat - y183.toNat) * 1) (List.drop (y183.toNat * 1) x188)) 1)) (dF (cel (List.take (((y183 + 4).toNat - y183.toNat) * 1) (List.drop (y183.toNat * 1) x188)) 2)) (dF (cel (List.take (((y183 + 4).toNat - y183.toNat) * 1) (List.drop (y183.toNat * 1) x188)) 3))) fun v235 =>
  (.ask (.in64 (y183 + 4)) (.ask (.le 0 y183) (.ask (.le y183 (y183 + 4)) (.ask (.le (y183 + 4) ((↑x185 : Int))) (.ask (.eqN x186.length (x185 * 1)) (.ask (.leN 4 ((y183 + 4).toNat - y183.toNat)) (.ask (.leN 4 ((List.take (((y183 + 4).toNat - y183.toNat) * 1) (List.drop (y183.toNat * 1) x186)).length)) (.ask (.prop (List.map AV.d (List.take 4 (List.take (((y183 + 4).toNat - y183.toNat) * 1) (List.drop (y183.toNat * 1) x186))) = [AV.d (DV.v (Value.float FloatKind.f32 (dF (cel (List.take (((y183 + 4).toNat - y183.toNat) * 1) (List.drop (y183.toNat * 1) x186)) 0)))), AV.d (DV.v (Value.float FloatKind.f32 (dF (cel (List.take (((y183 + 4).toNat - y183.toNat) * 1) (List.drop (y183.toNat * 1) x186)) 1)))), AV.d (DV.v (Value.float FloatKind.f32 (dF (cel (List.take (((y183 + 4).toNat - y183.toNat) * 1) (List.drop (y183.toNat * 1) x186)) 2)))), AV.d (DV.v (Value.float FloatKind.f32 (dF (cel (List.take (((y183 + 4).toNat - y183.toNat) * 1) (List.drop (y183.toNat * 1) x186)) 3))))])) (.ask (.in64 (y183 + 4)) (.ask (.le 0 y183) (.ask (.le y183 (y183 + 4)) (.ask (.le (y183 + 4) ((↑x187 : Int))) (.ask (.eqN x188.length (x187 * 1)) (.ask (.leN 4 ((y183 + 4).toNat - y183.toNat)) (.ask (.leN 4 ((List.take (((y183 + 4).toNat - y183.toNat) * 1) (List.drop (y183.toNat * 1) x188)).length)) (.ask (.prop (List.map AV.d (List.take 4 (List.take (((y183 + 4).toNat - y183.toNat) * 1) (List.drop (y183.toNat * 1) x188))) = [AV.d (DV.v (Value.float FloatKind.f32 (dF (cel (List.take (((y183 + 4).toNat - y183.toNat) * 1) (List.drop (y183.toNat * 1) x188)) 0)))), AV.d (DV.v (Value.float FloatKind.f32 (dF (cel (List.take (((y183 + 4).toNat - y183.toNat) * 1) (List.drop (y183.toNat * 1) x188)) 1)))), AV.d (DV.v (Value.float FloatKind.f32 (dF (cel (List.take (((y183 + 4).toNat - y183.toNat) * 1) (List.drop (y183.toNat * 1) x188)) 2)))), AV.d (DV.v (Value.float FloatKind.f32 (dF (cel (List.take (((y183 + 4).toNat - y183.toNat) * 1) (List.drop (y183.toNat * 1) x188)) 3))))])) (.sees [(.agg [(.d (.v (.float .f32 (dF (cel (List.take (((y183 + 4).toNat - y183.toNat) * 1) (List.drop (y183.toNat * 1) x186)) 0))))), (.d (.v (.float .f32 (dF (cel (List.take (((y183 + 4).toNat - y183.toNat) * 1) (List.drop (y183.toNat * 1) x186)) 1))))), (.d (.v (.float .f32 (dF (cel (List.take (((y183 + 4).toNat - y183.toNat) * 1) (List.drop (y183.toNat * 1) x186)) 2))))), (.d (.v (.float .f32 (dF (cel (List.take (((y183 + 4).toNat - y183.toNat) * 1) (List.drop (y183.toNat * 1) x186)) 3)))))]), (.agg [(.d (.v (.float .f32 (dF (cel (List.take (((y183 + 4).toNat - y183.toNat) * 1) (List.drop (y183.toNat * 1) x188)) 0))))), (.d (.v (.float .f32 (dF (cel (List.take (((y183 + 4).toNat - y183.toNat) * 1) (List.drop (y183.toNat * 1) x188)) 1))))), (.d (.v (.float .f32 (dF (cel (List.take (((y183 + 4).toNat - y183.toNat) * 1) (List.drop (y183.toNat * 1) x188)) 2))))), (.d (.v (.float .f32 (dF (cel (List.take (((y183 + 4).toNat - y183.toNat) * 1) (List.drop (y183.toNat * 1) x188)) 3)))))])] (.br (decide (v235.fst < 0))
  (.bind (F15 (dI (celA x184 2)) (dI (celA x184 3)) (if -v235.fst > v235.fst then -v235.fst else v235.fst)) fun v236 =>
  (.ask (.leN 4 x184.length) (.ask (.prop (List.take 2 (List.drop 2 x184) = [AV.d (DV.v (Value.int IntKind.i64 (dI (celA x184 2)))), AV.d (DV.v (Value.int IntKind.i64 (dI (celA x184 3))))])) (.ask (.in64 (-v235.fst)) (.sees [(.agg [(aI (dI (celA x184 2))), (aI (dI (celA x184 3)))]), (aI (if -v235.fst > v235.fst then -v235.fst else v235.fst))] (.ask (.leN 4 x184.length) (.triv _ (tv_p (spliceA x184 2 [AV.d (DV.v (Value.int IntKind.i64 v236.fst)), AV.d (DV.v (Value.int IntKind.i64 v236.snd))])) (.br (v235.snd != 0)
  (.bind (F16 v235.fst v235.snd) fun v237 =>
  (.sees [(.agg [(aI v235.fst), (aI v235.snd)])] (.ask (.in64 (1 + v237)) (.bind (F15 (dI (celA (spliceA x184 2 [AV.d (DV.v (Value.int IntKind.i64 v236.fst)), AV.d (DV.v (Value.int IntKind.i64 v236.snd))]) (0 + (1 + v237).toNat * 2))) (dI (celA (spliceA x184 2 [AV.d (DV.v (Value.int IntKind.i64 v236.fst)), AV.d (DV.v (Value.int IntKind.i64 v236.snd))]) (0 + (1 + v237).toNat * 2 + 1))) (if -v235.snd > v235.snd then -v235.snd else v235.snd)) fun v238 =>
  (.ask (.le 0 (1 + v237)) (.ask (.lt (1 + v237) 6) (.ask (.leN (0 + (1 + v237).toNat * 2 + 2) ((spliceA x184 2 [AV.d (DV.v (Value.int IntKind.i64 v236.fst)), AV.d (DV.v (Value.int IntKind.i64 v236.snd))]).length)) (.ask (.prop (List.take 2 (List.drop (0 + (1 + v237).toNat * 2) (spliceA x184 2 [AV.d (DV.v (Value.int IntKind.i64 v236.fst)), AV.d (DV.v (Value.int IntKind.i64 v236.snd))])) = [AV.d (DV.v (Value.int IntKind.i64 (dI (celA (spliceA x184 2 [AV.d (DV.v (Value.int IntKind.i64 v236.fst)), AV.d (DV.v (Value.int IntKind.i64 v236.snd))]) (0 + (1 + v237).toNat * 2))))), AV.d (DV.v (Value.int IntKind.i64 (dI (celA (spliceA x184 2 [AV.d (DV.v (Value.int IntKind.i64 v236.fst)), AV.d (DV.v (Value.int IntKind.i64 v236.snd))]) (0 + (1 + v237).toNat * 2 + 1)))))])) (.ask (.in64 (-v235.snd)) (.sees [(.agg [(aI (dI (celA (spliceA x184 2 [aI v236.fst, aI v236.snd]) (0 + (1 + v237).toNat * 2)))), (aI (dI (celA (spliceA x184 2 [aI v236.fst, aI v236.snd]) (0 + (1 + v237).toNat * 2 + 1))))]), (aI (if -v235.snd > v235.snd then -v235.snd else v235.snd))] (.ask (.le 0 (1 + v237)) (.ask (.lt (1 + v237) 6) (.ask (.leN (0 + (1 + v237).toNat * 2 + 2) ((spliceA x184 2 [AV.d (DV.v (Value.int IntKind.i64 v236.fst)), AV.d (DV.v (Value.int IntKind.i64 v236.snd))]).length)) (.triv _ (tv_p (spliceA (spliceA x184 2 [AV.d (DV.v (Value.int IntKind.i64 v236.fst)), AV.d (DV.v (Value.int IntKind.i64 v236.snd))]) (0 + (1 + v237).toNat * 2) [AV.d (DV.v (Value.int IntKind.i64 v238.fst)), AV.d (DV.v (Value.int IntKind.i64 v238.snd))])) (.ask (.in64 (y183 + 4)) (.ask (.prop (refK 7 (ABlk.cells (spliceA (spliceA x184 2 [AV.d (DV.v (Value.int IntKind.i64 v236.fst)), AV.d (DV.v (Value.int IntKind.i64 v236.snd))]) (0 + (1 + v237).toNat * 2) [AV.d (DV.v (Value.int IntKind.i64 v238.fst)), AV.d (DV.v (Value.int IntKind.i64 v238.snd))]) 30) = true)) (.nxt (.c2 (y183 + 4) (spliceA (spliceA x184 2 [AV.d (DV.v (Value.int IntKind.i64 v236.fst)), AV.d (DV.v (Value.int IntKind.i64 v236.snd))]) (0 + (1 + v237).toNat * 2) [AV.d (DV.v (Value.int IntKind.i64 v238.fst)), AV.d (DV.v (Value.int IntKind.i64 v238.snd))]) x185 x186 x187 x188 x189 x190 x191 x192 x193 x194 x195 x196 x197 x198 x199 x200 x201 y228 y229 y230 y231 x202 x203 x204 x205 x206 x207 x208 x209 x210 x211 x212))))))))))))))))))
  (.ask (.in64 (y183 + 4)) (.ask (.prop (refK 7 (ABlk.cells (spliceA x184 2 [AV.d (DV.v (Value.int IntKind.i64 v236.fst)), AV.d (DV.v (Value.int IntKind.i64 v236.snd))]) 30) = true)) (.nxt (.c2 (y183 + 4) (spliceA x184 2 [AV.d (DV.v (Value.int IntKind.i64 v236.fst)), AV.d (DV.v (Value.int IntKind.i64 v236.snd))]) x185 x186 x187 x188 x189 x190 x191 x192 x193 x194 x195 x196 x197 x198 x199 x200 x201 y228 y229 y230 y231 x202 x203 x204 x205 x206 x207 x208 x209 x210 x211 x212))))))))))))
  (.bind (F15 (dI (celA x184 0)) (dI (celA x184 1)) (if -v235.fst > v235.fst then -v235.fst else v235.fst)) fun v239 =>
  (.ask (.leN 2 x184.length) (.ask (.prop (List.take 2 (List.drop 0 x184) = [AV.d (DV.v (Value.int IntKind.i64 (dI (celA x184 0)))), AV.d (DV.v (Value.int IntKind.i64 (dI (celA x184 1))))])) (.ask (.in64 (-v235.fst)) (.sees [(.agg [(aI (dI (celA x184 0))), (aI (dI (celA x184 1)))]), (aI (if -v235.fst > v235.fst then -v235.fst else v235.fst))] (.ask (.leN 2 x184.length) (.triv _ (tv_p (spliceA x184 0 [AV.d (DV.v (Value.int IntKind.i64 v239.fst)), AV.d (DV.v (Value.int IntKind.i64 v239.snd))])) (.br (v235.snd != 0)
  (.bind (F16 v235.fst v235.snd) fun v240 =>
  (.sees [(.agg [(aI v235.fst), (aI v235.snd)])] (.ask (.in64 (1 + v240)) (.bind (F15 (dI (celA (spliceA x184 0 [AV.d (DV.v (Value.int IntKind.i64 v239.fst)), AV.d (DV.v (Value.int IntKind.i64 v239.snd))]) (0 + (1 + v240).toNat * 2))) (dI (celA (spliceA x184 0 [AV.d (DV.v (Value.int IntKind.i64 v239.fst)), AV.d (DV.v (Value.int IntKind.i64 v239.snd))]) (0 + (1 + v240).toNat * 2 + 1))) (if -v235.snd > v235.snd then -v235.snd else v235.snd)) fun v241 =>
  (.ask (.le 0 (1 + v240)) (.ask (.lt (1 + v240) 6) (.ask (.leN (0 + (1 + v240).toNat * 2 + 2) ((spliceA x184 0 [AV.d (DV.v (Value.int IntKind.i64 v239.fst)), AV.d (DV.v (Value.int IntKind.i64 v239.snd))]).length)) (.ask (.prop (List.take 2 (List.drop (0 + (1 + v240).toNat * 2) (spliceA x184 0 [AV.d (DV.v (Value.int IntKind.i64 v239.fst)), AV.d (DV.v (Value.int IntKind.i64 v239.snd))])) = [AV.d (DV.v (Value.int IntKind.i64 (dI (celA (spliceA x184 0 [AV.d (DV.v (Value.int IntKind.i64 v239.fst)), AV.d (DV.v (Value.int IntKind.i64 v239.snd))]) (0 + (1 + v240).toNat * 2))))), AV.d (DV.v (Value.int IntKind.i64 (dI (celA (spliceA x184 0 [AV.d (DV.v (Value.int IntKind.i64 v239.fst)), AV.d (DV.v (Value.int IntKind.i64 v239.snd))]) (0 + (1 + v240).toNat * 2 + 1)))))])) (.ask (.in64 (-v235.snd)) (.sees [(.agg [(aI (dI (celA (spliceA x184 0 [aI v239.fst, aI v239.snd]) (0 + (1 + v240).toNat * 2)))), (aI (dI (celA (spliceA x184 0 [aI v239.fst, aI v239.snd]) (0 + (1 + v240).toNat * 2 + 1))))]), (aI (if -v235.snd > v235.snd then -v235.snd else v235.snd))] (.ask (.le 0 (1 + v240)) (.ask (.lt (1 + v240) 6) (.ask (.leN (0 + (1 + v240).toNat * 2 + 2) ((spliceA x184 0 [AV.d (DV.v (Value.int IntKind.i64 v239.fst)), AV.d (DV.v (Value.int IntKind.i64 v239.snd))]).length)) (.triv _ (tv_p (spliceA (spliceA x184 0 [AV.d (DV.v (Value.int IntKind.i64 v239.fst)), AV.d (DV.v (Value.int IntKind.i64 v239.snd))]) (0 + (1 + v240).toNat * 2) [AV.d (DV.v (Value.int IntKind.i64 v241.fst)), AV.d (DV.v (Value.int IntKind.i64 v241.snd))])) (.ask (.in64 (y183 + 4)) (.ask (.prop (refK 7 (ABlk.cells (spliceA (spliceA x184 0 [AV.d (DV.v (Value.int IntKind.i64 v239.fst)), AV.d (DV.v (Value.int IntKind.i64 v239.snd))]) (0 + (1 + v240).toNat * 2) [AV.d (DV.v (Value.int IntKind.i64 v241.fst)), AV.d (DV.v (Value.int IntKind.i64 v241.snd))]) 30) = true)) (.nxt (.c2 (y183 + 4) (spliceA (spliceA x184 0 [AV.d (DV.v (Value.int IntKind.i64 v239.fst)), AV.d (DV.v (Value.int IntKind.i64 v239.snd))]) (0 + (1 + v240).toNat * 2) [AV.d (DV.v (Value.int IntKind.i64 v241.fst)), AV.d (DV.v (Value.int IntKind.i64 v241.snd))]) x185 x186 x187 x188 x189 x190 x191 x192 x193 x194 x195 x196 x197 x198 x199 x200 x201 y228 y229 y230 y231 x202 x203 x204 x205 x206 x207 x208 x209 x210 x211 x212))))))))))))))))))
  (.ask (.in64 (y183 + 4)) (.ask (.prop (refK 7 (ABlk.cells (spliceA x184 0 [AV.d (DV.v (Value.int IntKind.i64 v239.fst)), AV.d (DV.v (Value.int IntKind.i64 v239.snd))]) 30) = true)) (.nxt (.c2 (y183 + 4) (spliceA x184 0 [AV.d (DV.v (Value.int IntKind.i64 v239.fst)), AV.d (DV.v (Value.int IntKind.i64 v239.snd))]) x185 x186 x187 x188 x189 x190 x191 x192 x193 x194 x195 x196 x197 x198 x199 x200 x201 y228 y229 y230 y231 x202 x203 x204 x205 x206 x207 x208 x209 x210 x211 x212)))))))))))))))))))))))))))))))
  (.ask (.leN 12 x184.length) (.ask (.prop (List.take 12 (List.drop 0 x184) = [AV.d (DV.v (Value.int IntKind.i64 (dI (celA x184 0)))), AV.d (DV.v (Value.int IntKind.i64 (dI (celA x184 1)))), AV.d (DV.v (Value.int IntKind.i64 (dI (celA x184 2)))), AV.d (DV.v (Value.int IntKind.i64 (dI (celA x184 3)))), AV.d (DV.v (Value.int IntKind.i64 (dI (celA x184 4)))), AV.d (DV.v (Value.int IntKind.i64 (dI (celA x184 5)))), AV.d (DV.v (Value.int IntKind.i64 (dI (celA x184 6)))), AV.d (DV.v (Value.int IntKind.i64 (dI (celA x184 7)))), AV.d (DV.v (Value.int IntKind.i64 (dI (celA x184 8)))), AV.d (DV.v (Value.int IntKind.i64 (dI (celA x184 9)))), AV.d (DV.v (Value.int IntKind.i64 (dI (celA x184 10)))), AV.d (DV.v (Value.int IntKind.i64 (dI (celA x184 11))))])) (.ret ((dI (celA x184 0)), (dI (celA x184 1)), (dI (celA x184 2)), (dI (celA x184 3)), (dI (celA x184 4)), (dI (celA x184 5)), (dI (celA x184 6)), (dI (celA x184 7)), (dI (celA x184 8)), (dI (celA x184 9)), (dI (celA x184 10)), (dI (celA x184 11)), 0))))))
noncomputable def F5 (a0 a1 a2 a3 a4 a5 a6 a7 a8 a9 a10 a11 : Int) (a12 : Nat) (a13 : List DV) (a14 : Nat) (a15 : List DV) : Option (Int × Int × Int × Int × Int × Int × Int × Int × Int × Int × Int × Int × Int) := res B5 (.c0 a0 a1 a2 a3 a4 a5 a6 a7 a8 a9 a10 a11 a12 a13 a14 a15)
noncomputable def D5_0 (a0 a1 a2 a3 a4 a5 a6 a7 a8 a9 a10 a11 : Int) (a12 : Nat) (a13 : List DV) (a14 : Nat) (a15 : List DV) : DT cfz := (.go 10 [] [] (.bind (f11 a0 a1 a2 a3 a4 a5 a6 a7 a8 a9 a10 a11) fun v70 => (.go 2 [(.ck 0)] [] (.bind (f12 a12 a13) fun v119 => (.go 2 [(.ck 1)] [] (.bind (f12 a14 a15) fun v120 => (.go 6 [(.ck 2)] [] (.bind (f13 ((↑a12 : Int) != (↑a14 : Int)) 2) fun v121 => (.go 5 [(.ck 3)] [1] (.bind (f13 ((↑a12 : Int).tmod 4 != 0) 16) fun v122 => (.go 2 [(.ck 4)] [] (.bind (f10 5 [(vI v70), (vI v119), (vI v120), (vI v121), (vI v122)]) fun v123 => (.go 8 [(.ck 5)] [] (.split 32 (.go 9 [(.br true)] [0] .fin) (.go 30 [(.br false), .enter] [0] (.cut 7 [[0, 1, 2, 4], [3, 6, 7]] []))))))))))))))))
theorem k5_0 (a0 a1 a2 a3 a4 a5 a6 a7 a8 a9 a10 a11 : Int) (a12 : Nat) (a13 : List DV) (a14 : Nat) (a15 : List DV) : xrun cfz 5 (D5_0 a0 a1 a2 a3 a4 a5 a6 a7 a8 a9 a10 a11 a12 a13 a14 a15) [] (st5 (.c0 a0 a1 a2 a3 a4 a5 a6 a7 a8 a9 a10 a11 a12 a13 a14 a15)) = (B5 (.c0 a0 a1 a2 a3 a4 a5 a6 a7 a8 a9 a10 a11 a12 a13 a14 a15)).mach st5 out5 := by kernel_rfl
noncomputable def D5_1 (y128 x129 x130 x131 x132 x133 x134 x135 x136 x137 x138 x139 x140 : Int) (x141 : Nat) (x142 : List DV) (x143 : Nat) (x144 : List DV) (y220 y221 y213 y214 x145 y222 y223 y215 y216 x146 x147 x148 x149 x150 : Int) (x151 : Bool) (x152 x153 : Int) (x154 : Bool) (x155 : Int) (x156 : List DV) : DT cfz := (.go 9 [] [] (.split 9 (.go 6 [(.br true)] [0] (.bind (f32 (dF (cel (List.take (((y128 + 4).toNat - y128.toNat) * 1) (List.drop (y128.toNat * 1) x142)) 0)) (dF (cel (List.take (((y128 + 4).toNat - y128.toNat) * 1) (List.drop (y128.toNat * 1) x142)) 1)) (dF (cel (List.take (((y128 + 4).toNat - y128.toNat) * 1) (List.drop (y128.toNat * 1) x142)) 2)) (dF (cel (List.take (((y128 + 4).toNat - y128.toNat) * 1) (List.drop (y128.toNat * 1) x142)) 3)) (dF (cel (List.take (((y128 + 4).toNat - y128.toNat) * 1) (List.drop (y128.toNat * 1) x144)) 0)) (dF (cel (List.take (((y128 + 4).toNat - y128.toNat) * 1) (List.drop (y128.toNat * 1) x144)) 1)) (dF (cel (List.take (((y128 + 4).toNat - y128.toNat) * 1) (List.drop (y128.toNat * 1) x144)) 2)) (dF (cel (List.take (((y128 + 4).toNat - y128.toNat) * 1) (List.drop (y128.toNat * 1) x144)) 3))) fun v224 => (.go 18 [.none, (.as (.agg [(.d (.v (.float .f32 (dF (cel (List.take (((y128 + 4).toNat - y128.toNat) * 1) (List.drop (y128.toNat * 1) x142)) 0))))), (.d (.v (.float .f32 (dF (cel (List.take (((y128 + 4).toNat - y128.toNat) * 1) (List.drop (y128.toNat * 1) x142)) 1))))), (.d (.v (.float .f32 (dF (cel (List.take (((y128 + 4).toNat - y128.toNat) * 1) (List.drop (y128.toNat * 1) x142)) 2))))), (.d (.v (.float .f32 (dF (cel (List.take (((y128 + 4).toNat - y128.toNat) * 1) (List.drop (y128.toNat * 1) x142)) 3)))))])), .none, (.as (.agg [(.d (.v (.float .f32 (dF (cel (List.take (((y128 + 4).toNat - y128.toNat) * 1) (List.drop (y128.toNat * 1) x144)) 0))))), (.d (.v (.float .f32 (dF (cel (List.take (((y128 + 4).toNat - y128.toNat) * 1) (List.drop (y128.toNat * 1) x144)) 1))))), (.d (.v (.float .f32 (dF (cel (List.take (((y128 + 4).toNat - y128.toNat) * 1) (List.drop (y128.toNat * 1) x144)) 2))))), (.d (.v (.float .f32 (dF (cel (List.take (((y128 + 4).toNat - y128.toNat) * 1) (List.drop (y128.toNat * 1) x144)) 3)))))])), (.ck 0), .enter] [] (.split 41 (.go 6 [(.br true)] [0] (.bind (f15 x131 x132 (if -v224.fst > v224.fst then -v224.fst else v224.fst)) fun v225 => (.go 7 [(.ck 1)] [0, 1, 4, 5] (.split 56 (.go 4 [(.br true)] [0] (.bind (f16 v224.fst v224.snd) fun v226 => (.go 5 [(.ck 2)] [] (.bind (f15 (dI (celA [aI x129, aI x130, aI v225.fst, aI v225.snd, aI x133, aI x134, aI x135, aI x136, aI x137, aI x138, aI x139, aI x140] (0 + (1 + v226).toNat * 2))) (dI (celA [aI x129, aI x130, aI v225.fst, aI v225.snd, aI x133, aI x134, aI x135, aI x136, aI x137, aI x138, aI x139, aI x140] (0 + (1 + v226).toNat * 2 + 1))) (if -v224.snd > v224.snd then -v224.snd else v224.snd)) fun v227 => (.go 13 [(.as (.agg [(aI (dI (celA [aI x129, aI x130, aI v225.fst, aI v225.snd, aI x133, aI x134, aI x135, aI x136, aI x137, aI x138, aI x139, aI x140] (0 + (1 + v226).toNat * 2)))), (aI (dI (celA [aI x129, aI x130, aI v225.fst, aI v225.snd, aI x133, aI x134, aI x135, aI x136, aI x137, aI x138, aI x139, aI x140] (0 + (1 + v226).toNat * 2 + 1))))])), .none, .none, (.ck 3), (.as (.agg (spliceA [aI x129, aI x130, aI v225.fst, aI v225.snd, aI x133, aI x134, aI x135, aI x136, aI x137, aI x138, aI x139, aI x140] (0 + (1 + v226).toNat * 2) [aI v227.fst, aI v227.snd]))), (.br false)] [8, 11] (.cutP 7 [0] [[0, 1, 2, 4], [3, 6, 7]] [])))))) (.go 14 [(.br false), (.br false)] [0, 1] (.cut 7 [[0, 1, 2, 4], [3, 6, 7]] [])))))) (.go 4 [(.br false)] [0] (.bind (f15 x129 x130 (if -v224.fst > v224.fst then -v224.fst else v224.fst)) fun v232 => (.go 7 [(.ck 1)] [0, 1, 4, 5] (.split 56 (.go 4 [(.br true)] [0] (.bind (f16 v224.fst v224.snd) fun v233 => (.go 5 [(.ck 2)] [] (.bind (f15 (dI (celA [aI v232.fst, aI v232.snd, aI x131, aI x132, aI x133, aI x134, aI x135, aI x136, aI x137, aI x138, aI x139, aI x140] (0 + (1 + v233).toNat * 2))) (dI (celA [aI v232.fst, aI v232.snd, aI x131, aI x132, aI x133, aI x134, aI x135, aI x136, aI x137, aI x138, aI x139, aI x140] (0 + (1 + v233).toNat * 2 + 1))) (if -v224.snd > v224.snd then -v224.snd else v224.snd)) fun v234 => (.go 13 [(.as (.agg [(aI (dI (celA [aI v232.fst, aI v232.snd, aI x131, aI x132, aI x133, aI x134, aI x135, aI x136, aI x137, aI x138, aI x139, aI x140] (0 + (1 + v233).toNat * 2)))), (aI (dI (celA [aI v232.fst, aI v232.snd, aI x131, aI x132, aI x133, aI x134, aI x135, aI x136, aI x137, aI x138, aI x139, aI x140] (0 + (1 + v233).toNat * 2 + 1))))])), .none, .none, (.ck 3), (.as (.agg (spliceA [aI v232.fst, aI v232.snd, aI x131, aI x132, aI x133, aI x134, aI x135, aI x136, aI x137, aI x138, aI x139, aI x140] (0 + (1 + v233).toNat * 2) [aI v234.fst, aI v234.snd]))), (.br false)] [8, 11] (.cutP 7 [0] [[0, 1, 2, 4], [3, 6, 7]] [])))))) (.go 14 [(.br false), (.br false)] [0, 1] (.cut 7 [[0, 1, 2, 4], [3, 6, 7]] [])))))))))) (.go 14 [(.br false)] [0] .fin)))
theorem k5_1 (y128 x129 x130 x131 x132 x133 x134 x135 x136 x137 x138 x139 x140 : Int) (x141 : Nat) (x142 : List DV) (x143 : Nat) (x144 : List DV) (y220 y221 y213 y214 x145 y222 y223 y215 y216 x146 x147 x148 x149 x150 : Int) (x151 : Bool) (x152 x153 : Int) (x154 : Bool) (x155 : Int) (x156 : List DV) : xrun cfz 5 (D5_1 y128 x129 x130 x131 x132 x133 x134 x135 x136 x137 x138 x139 x140 x141 x142 x143 x144 y220 y221 y213 y214 x145 y222 y223 y215 y216 x146 x147 x148 x149 x150 x151 x152 x153 x154 x155 x156) [] (st5 (.c1 y128 x129 x130 x131 x132 x133 x134 x135 x136 x137 x138 x139 x140 x141 x142 x143 x144 y220 y221 y213 y214 x145 y222 y223 y215 y216 x146 x147 x148 x149 x150 x151 x152 x153 x154 x155 x156)) = (B5 (.c1 y128 x129 x130 x131 x132 x133 x134 x135 x136 x137 x138 x139 x140 x141 x142 x143 x144 y220 y221 y213 y214 x145 y222 y223 y215 y216 x146 x147 x148 x149 x150 x151 x152 x153 x154 x155 x156)).mach st5 out5 := by kernel_rfl
noncomputable def D5_2 (y183 : Int) (x184 : List AV) (x185 : Nat) (x186 : List DV) (x187 : Nat) (x188 : List DV) (x189 x190 x191 x192 x193 x194 x195 x196 x197 x198 x199 x200 x201 y228 y229 y230 y231 x202 x203 x204 x205 x206 : Int) (x207 : Bool) (x208 x209 : Int) (x210 : Bool) (x211 : Int) (x212 : List DV) : DT cfz := (.go 9 [] [] (.split 9 (.go 6 [(.br true)] [0] (.bind (f32 (dF (cel (List.take (((y183 + 4).toNat - y183.toNat) * 1) (List.drop (y183.toNat * 1) x186)) 0)) (dF (cel (List.take (((y183 + 4).toNat - y183.toNat) * 1) (List.drop (y183.toNat * 1) x186)) 1)) (dF (cel (List.take (((y183 + 4).toNat - y183.toNat) * 1) (List.drop (y183.toNat * 1) x186)) 2)) (dF (cel (List.take (((y183 + 4).toNat - y183.toNat) * 1) (List.drop (y183.toNat * 1) x186)) 3)) (dF (cel (List.take (((y183 + 4).toNat - y183.toNat) * 1) (List.drop (y183.toNat * 1) x188)) 0)) (dF (cel (List.take (((y183 + 4).toNat - y183.toNat) * 1) (List.drop (y183.toNat * 1) x188)) 1)) (dF (cel (List.take (((y183 + 4).toNat - y183.toNat) * 1) (List.drop (y183.toNat * 1) x188)) 2)) (dF (cel (List.take (((y183 + 4).toNat - y183.toNat) * 1) (List.drop (y183.toNat * 1) x188)) 3))) fun v235 => (.go 18 [.none, (.as (.agg [(.d (.v (.float .f32 (dF (cel (List.take (((y183 + 4).toNat - y183.toNat) * 1) (List.drop (y183.toNat * 1) x186)) 0))))), (.d (.v (.float .f32 (dF (cel (List.take (((y183 + 4).toNat - y183.toNat) * 1) (List.drop (y183.toNat * 1) x186)) 1))))), (.d (.v (.float .f32 (dF (cel (List.take (((y183 + 4).toNat - y183.toNat) * 1) (List.drop (y183.toNat * 1) x186)) 2))))), (.d (.v (.float .f32 (dF (cel (List.take (((y183 + 4).toNat - y183.toNat) * 1) (List.drop (y183.toNat * 1) x186)) 3)))))])), .none, (.as (.agg [(.d (.v (.float .f32 (dF (cel (List.take (((y183 + 4).toNat - y183.toNat) * 1) (List.drop (y183.toNat * 1) x188)) 0))))), (.d (.v (.float .f32 (dF (cel (List.take (((y183 + 4).toNat - y183.toNat) * 1) (List.drop (y183.toNat * 1) x188)) 1))))), (.d (.v (.float .f32 (dF (cel (List.take (((y183 + 4).toNat - y183.toNat) * 1) (List.drop (y183.toNat * 1) x188)) 2))))), (.d (.v (.float .f32 (dF (cel (List.take (((y183 + 4).toNat - y183.toNat) * 1) (List.drop (y183.toNat * 1) x188)) 3)))))])), (.ck 0), .enter] [] (.split 41 (.go 6 [(.br true)] [0] (.bind (f15 (dI (celA x184 2)) (dI (celA x184 3)) (if -v235.fst > v235.fst then -v235.fst else v235.fst)) fun v236 => (.go 7 [(.as (.agg [(aI (dI (celA x184 2))), (aI (dI (celA x184 3)))])), .none, .none, (.ck 1), (.as (.agg (spliceA x184 2 [aI v236.fst, aI v236.snd])))] [0, 1, 6, 7, 8] (.split 56 (.go 4 [(.br true)] [0] (.bind (f16 v235.fst v235.snd) fun v237 => (.go 5 [(.ck 2)] [] (.bind (f15 (dI (celA (spliceA x184 2 [aI v236.fst, aI v236.snd]) (0 + (1 + v237).toNat * 2))) (dI (celA (spliceA x184 2 [aI v236.fst, aI v236.snd]) (0 + (1 + v237).toNat * 2 + 1))) (if -v235.snd > v235.snd then -v235.snd else v235.snd)) fun v238 => (.go 13 [(.as (.agg [(aI (dI (celA (spliceA x184 2 [aI v236.fst, aI v236.snd]) (0 + (1 + v237).toNat * 2)))), (aI (dI (celA (spliceA x184 2 [aI v236.fst, aI v236.snd]) (0 + (1 + v237).toNat * 2 + 1))))])), .none, .none, (.ck 3), (.as (.agg (spliceA (spliceA x184 2 [aI v236.fst, aI v236.snd]) (0 + (1 + v237).toNat * 2) [aI v238.fst, aI v238.snd]))), (.br false)] [8, 11] (.cutP 7 [0] [[0, 1, 2, 4], [3, 6, 7]] [])))))) (.go 14 [(.br false), (.br false)] [0, 1] (.cutP 7 [0] [[0, 1, 2, 4], [3, 6, 7]] [])))))) (.go 4 [(.br false)] [0] (.bind (f15 (dI (celA x184 0)) (dI (celA x184 1)) (if -v235.fst > v235.fst then -v235.fst else v235.fst)) fun v239 => (.go 7 [(.as (.agg [(aI (dI (celA x184 0))), (aI (dI (celA x184 1)))])), .none, .none, (.ck 1), (.as (.agg (spliceA x184 0 [aI v239.fst, aI v239.snd])))] [0, 1, 6, 7, 8] (.split 56 (.go 4 [(.br true)] [0] (.bind (f16 v235.fst v235.snd) fun v240 => (.go 5 [(.ck 2)] [] (.bind (f15 (dI (celA (spliceA x184 0 [aI v239.fst, aI v239.snd]) (0 + (1 + v240).toNat * 2))) (dI (celA (spliceA x184 0 [aI v239.fst, aI v239.snd]) (0 + (1 + v240).toNat * 2 + 1))) (if -v235.snd > v235.snd then -v235.snd else v235.snd)) fun v241 => (.go 13 [(.as (.agg [(aI (dI (celA (spliceA x184 0 [aI v239.fst, aI v239.snd]) (0 + (1 + v240).toNat * 2)))), (aI (dI (celA (spliceA x184 0 [aI v239.fst, aI v239.snd]) (0 + (1 + v240).toNat * 2 + 1))))])), .none, .none, (.ck 3), (.as (.agg (spliceA (spliceA x184 0 [aI v239.fst, aI v239.snd]) (0 + (1 + v240).toNat * 2) [aI v241.fst, aI v241.snd]))), (.br false)] [8, 11] (.cutP 7 [0] [[0, 1, 2, 4], [3, 6, 7]] [])))))) (.go 14 [(.br false), (.br false)] [0, 1] (.cutP 7 [0] [[0, 1, 2, 4], [3, 6, 7]] [])))))))))) (.go 14 [(.br false), (.as (.agg [(aI (dI (celA x184 0))), (aI (dI (celA x184 1))), (aI (dI (celA x184 2))), (aI (dI (celA x184 3))), (aI (dI (celA x184 4))), (aI (dI (celA x184 5))), (aI (dI (celA x184 6))), (aI (dI (celA x184 7))), (aI (dI (celA x184 8))), (aI (dI (celA x184 9))), (aI (dI (celA x184 10))), (aI (dI (celA x184 11)))]))] [0] .fin)))
theorem k5_2 (y183 : Int) (x184 : List AV) (x185 : Nat) (x186 : List DV) (x187 : Nat) (x188 : List DV) (x189 x190 x191 x192 x193 x194 x195 x196 x197 x198 x199 x200 x201 y228 y229 y230 y231 x202 x203 x204 x205 x206 : Int) (x207 : Bool) (x208 x209 : Int) (x210 : Bool) (x211 : Int) (x212 : List DV) : xrun cfz 5 (D5_2 y183 x184 x185 x186 x187 x188 x189 x190 x191 x192 x193 x194 x195 x196 x197 x198 x199 x200 x201 y228 y229 y230 y231 x202 x203 x204 x205 x206 x207 x208 x209 x210 x211 x212) [] (st5 (.c2 y183 x184 x185 x186 x187 x188 x189 x190 x191 x192 x193 x194 x195 x196 x197 x198 x199 x200 x201 y228 y229 y230 y231 x202 x203 x204 x205 x206 x207 x208 x209 x210 x211 x212)) = (B5 (.c2 y183 x184 x185 x186 x187 x188 x189 x190 x191 x192 x193 x194 x195 x196 x197 x198 x199 x200 x201 y228 y229 y230 y231 x202 x203 x204 x205 x206 x207 x208 x209 x210 x211 x212)).mach st5 out5 := by kernel_rfl
theorem ok5 : ∀ s, ∃ d, xrun cfz 5 d [] (st5 s) = (B5 s).mach st5 out5
  | .c0 a0 a1 a2 a3 a4 a5 a6 a7 a8 a9 a10 a11 a12 a13 a14 a15 => ⟨_, k5_0 a0 a1 a2 a3 a4 a5 a6 a7 a8 a9 a10 a11 a12 a13 a14 a15⟩
  | .c1 y128 x129 x130 x131 x132 x133 x134 x135 x136 x137 x138 x139 x140 x141 x142 x143 x144 y220 y221 y213 y214 x145 y222 y223 y215 y216 x146 x147 x148 x149 x150 x151 x152 x153 x154 x155 x156 => ⟨_, k5_1 y128 x129 x130 x131 x132 x133 x134 x135 x136 x137 x138 x139 x140 x141 x142 x143 x144 y220 y221 y213 y214 x145 y222 y223 y215 y216 x146 x147 x148 x149 x150 x151 x152 x153 x154 x155 x156⟩
  | .c2 y183 x184 x185 x186 x187 x188 x189 x190 x191 x192 x193 x194 x195 x196 x197 x198 x199 x200 x201 y228 y229 y230 y231 x202 x203 x204 x205 x206 x207 x208 x209 x210 x211 x212 => ⟨_, k5_2 y183 x184 x185 x186 x187 x188 x189 x190 x191 x192 x193 x194 x195 x196 x197 x198 x199 x200 x201 y228 y229 y230 y231 x202 x203 x204 x205 x206 x207 x208 x209 x210 x211 x212⟩
theorem f5 (a0 a1 a2 a3 a4 a5 a6 a7 a8 a9 a10 a11 : Int) (a12 : Nat) (a13 : List DV) (a14 : Nat) (a15 : List DV) (v : Int × Int × Int × Int × Int × Int × Int × Int × Int × Int × Int × Int × Int) (h : F5 a0 a1 a2 a3 a4 a5 a6 a7 a8 a9 a10 a11 a12 a13 a14 a15 = some v) : PureCalls cfz.P cfz.glob 5 [(.agg [(aI a0), (aI a1), (aI a2), (aI a3), (aI a4), (aI a5), (aI a6), (aI a7), (aI a8), (aI a9), (aI a10), (aI a11)]), (.d (.sl a12 a13)), (.d (.sl a14 a15))] (out5 v) := tree_pure knil ok5 (s := .c0 a0 a1 a2 a3 a4 a5 a6 a7 a8 a9 a10 a11 a12 a13 a14 a15) rfl (by kernel_rfl) v h

/-! F34 -/
inductive S34 where
  | c0 (a253 a254 : Int)
def out34 (v : Int) : AV := (.d (.v (.int .i64 v)))
noncomputable def st34 : S34 → ASt
  | .c0 a253 a254 => ent cfz 34 [(.agg [(aI a253), (aI a254)])]
noncomputable def B34 : S34 → Tr S34 (Int)
  | .c0 a253 a254 => (.ask (.in64 (a253 * 1000000)) (.ask (.in64 (a253 * 1000000 + a254)) (.ret (a253 * 1000000 + a254))))
noncomputable def F34 (a253 a254 : Int) : Option (Int) := res B34 (.c0 a253 a254)
noncomputable def D34_0 (a253 a254 : Int) : DT cfz := (.go 16 [] [] .fin)
theorem k34_0 (a253 a254 : Int) : xrun cfz 34 (D34_0 a253 a254) [] (st34 (.c0 a253 a254)) = (B34 (.c0 a253 a254)).mach st34 out34 := by kernel_rfl
theorem ok34 : ∀ s, ∃ d, xrun cfz 34 d [] (st34 s) = (B34 s).mach st34 out34
  | .c0 a253 a254 => ⟨_, k34_0 a253 a254⟩
theorem f34 (a253 a254 v : Int) (h : F34 a253 a254 = some v) : PureCalls cfz.P cfz.glob 34 [(.agg [(aI a253), (aI a254)])] (out34 v) := tree_pure knil ok34 (s := .c0 a253 a254) rfl (by kernel_rfl) v h

/-! F18 -/
inductive S18 where
  | c0 (a249 a250 a251 a252 : Int)
def out18 (v : Int) : AV := (.d (.v (.int .i64 v)))
noncomputable def st18 : S18 → ASt
  | .c0 a249 a250 a251 a252 => ent cfz 18 [(.agg [(aI a249), (aI a250)]), (.agg [(aI a251), (aI a252)])]
noncomputable def B18 : S18 → Tr S18 (Int)
  | .c0 a249 a250 a251 a252 => (.bind (F34 a249 a250) fun v255 =>
  (.bind (F34 a251 a252) fun v256 =>
  (.sees [(.agg [(aI a249), (aI a250)])] (.sees [(.agg [(aI a251), (aI a252)])] (.ask (.in64 (v255 - v256)) (.ask (.in64 (v255 - v256 + 1000000000000)) (.ret ((v255 - v256 + 1000000000000).tmod 1000000000000))))))))
noncomputable def F18 (a249 a250 a251 a252 : Int) : Option (Int) := res B18 (.c0 a249 a250 a251 a252)
noncomputable def D18_0 (a249 a250 a251 a252 : Int) : DT cfz := (.go 8 [] [] (.bind (f34 a249 a250) fun v255 => (.bind (f34 a251 a252) fun v256 => (.go 2 [(.ck 0), (.ck 1)] [4] .fin))))
theorem k18_0 (a249 a250 a251 a252 : Int) : xrun cfz 18 (D18_0 a249 a250 a251 a252) [] (st18 (.c0 a249 a250 a251 a252)) = (B18 (.c0 a249 a250 a251 a252)).mach st18 out18 := by kernel_rfl
theorem ok18 : ∀ s, ∃ d, xrun cfz 18 d [] (st18 s) = (B18 s).mach st18 out18
  | .c0 a249 a250 a251 a252 => ⟨_, k18_0 a249 a250 a251 a252⟩
theorem f18 (a249 a250 a251 a252 v : Int) (h : F18 a249 a250 a251 a252 = some v) : PureCalls cfz.P cfz.glob 18 [(.agg [(aI a249), (aI a250)]), (.agg [(aI a251), (aI a252)])] (out18 v) := tree_pure knil ok18 (s := .c0 a249 a250 a251 a252) rfl (by kernel_rfl) v h

/-! F6 -/
inductive S6 where
  | c0 (a242 a243 a244 a245 : Int)
def out6 (v : Int × Int) : AV := (.tup [(.d (.v (.int .i64 v.fst))), (.d (.v (.int .i64 v.snd)))])
noncomputable def st6 : S6 → ASt
  | .c0 a242 a243 a244 a245 => ent cfz 6 [(.agg [(aI a242), (aI a243)]), (.agg [(aI a244), (aI a245)])]
noncomputable def B6 : S6 → Tr S6 (Int × Int)
  | .c0 a242 a243 a244 a245 => (.bind (F17 a242 a243) fun v246 =>
  (.bind (F17 a244 a245) fun v247 =>
  (.bind (F10 2 [(.v (.int .i64 v246)), (.v (.int .i64 v247))]) fun v248 =>
  (.sees [(.agg [(aI a242), (aI a243)])] (.sees [(.agg [(aI a244), (aI a245)])] (.sees [(.d (.sl 2 [(vI v246), (vI v247)]))] (.br (v248 != 0)
  (.ret (0, v248))
  (.bind (F18 a244 a245 a242 a243) fun v257 =>
  (.sees [(.agg [(aI a244), (aI a245)]), (.agg [(aI a242), (aI a243)])] (.ret (v257, 0)))))))))))
noncomputable def F6 (a242 a243 a244 a245 : Int) : Option (Int × Int) := res B6 (.c0 a242 a243 a244 a245)
noncomputable def D6_0 (a242 a243 a244 a245 : Int) : DT cfz := (.go 10 [] [] (.bind (f17 a242 a243) fun v246 => (.bind (f17 a244 a245) fun v247 => (.bind (f10 2 [(vI v246), (vI v247)]) fun v248 => (.go 6 [(.ck 0), (.ck 1), (.ck 2)] [] (.split 14 (.go 8 [(.br true)] [0] .fin) (.go 6 [(.br false)] [0] (.bind (f18 a244 a245 a242 a243) fun v257 => (.go 5 [(.ck 3)] [] .fin)))))))))
theorem k6_0 (a242 a243 a244 a245 : Int) : xrun cfz 6 (D6_0 a242 a243 a244 a245) [] (st6 (.c0 a242 a243 a244 a245)) = (B6 (.c0 a242 a243 a244 a245)).mach st6 out6 := by kernel_rfl
theorem ok6 : ∀ s, ∃ d, xrun cfz 6 d [] (st6 s) = (B6 s).mach st6 out6
  | .c0 a242 a243 a244 a245 => ⟨_, k6_0 a242 a243 a244 a245⟩
theorem f6 (a242 a243 a244 a245 : Int) (v : Int × Int) (h : F6 a242 a243 a244 a245 = some v) : PureCalls cfz.P cfz.glob 6 [(.agg [(aI a242), (aI a243)]), (.agg [(aI a244), (aI a245)])] (out6 v) := tree_pure knil ok6 (s := .c0 a242 a243 a244 a245) rfl (by kernel_rfl) v h

/-! F21 -/
inductive S21 where
  | c0 (a271 : Bool) (a272 : Int)
def out21 (v : Int) : AV := (.d (.v (.int .i64 v)))
noncomputable def st21 : S21 → ASt
  | .c0 a271 a272 => ent cfz 21 [(.d (.v (.bool a271))), (aI a272)]
noncomputable def B21 : S21 → Tr S21 (Int)
  | .c0 a271 a272 => (.br a271
  (.ret a272)
  (.ret 0))
noncomputable def F21 (a271 : Bool) (a272 : Int) : Option (Int) := res B21 (.c0 a271 a272)
noncomputable def D21_0 (a271 : Bool) (a272 : Int) : DT cfz := (.go 9 [] [] (.split 5 (.go 7 [(.br true)] [0] .fin) (.go 7 [(.br false)] [0] .fin)))
theorem k21_0 (a271 : Bool) (a272 : Int) : xrun cfz 21 (D21_0 a271 a272) [] (st21 (.c0 a271 a272)) = (B21 (.c0 a271 a272)).mach st21 out21 := by kernel_rfl
theorem ok21 : ∀ s, ∃ d, xrun cfz 21 d [] (st21 s) = (B21 s).mach st21 out21
  | .c0 a271 a272 => ⟨_, k21_0 a271 a272⟩
theorem f21 (a271 : Bool) (a272 v : Int) (h : F21 a271 a272 = some v) : PureCalls cfz.P cfz.glob 21 [(.d (.v (.bool a271))), (aI a272)] (out21 v) := tree_pure knil ok21 (s := .c0 a271 a272) rfl (by kernel_rfl) v h

/-! F24 -/
inductive S24 where
  | c0 (a268 a269 a270 : Int)
def out24 (v : Int) : AV := (.d (.v (.int .i64 v)))
noncomputable def st24 : S24 → ASt
  | .c0 a268 a269 a270 => ent cfz 24 [(aI a268), (aI a269), (aI a270)]
noncomputable def B24 : S24 → Tr S24 (Int)
  | .c0 a268 a269 a270 => (.triv _ (tv_s (decide (a268 < a269) == false)) (.triv _ (tv_s (decide (a268 < a269) == false)) (.triv _ (tv_f (decide (a268 < a269))) (.bind (F21 (if decide (a268 < a269) = true then true else decide (a268 > a270)) 3) fun v273 =>
  (.sees [(.d (.v (.bool (if decide (a268 < a269) = true then true else decide (a268 > a270))))), (aI 3)] (.ret v273))))))
noncomputable def F24 (a268 a269 a270 : Int) : Option (Int) := res B24 (.c0 a268 a269 a270)
noncomputable def D24_0 (a268 a269 a270 : Int) : DT cfz := (.go 14 [(.sp .none), (.sp .none), (.sp .none), .mg] [] (.bind (f21 (if decide (a268 < a269) = true then true else decide (a268 > a270)) 3) fun v273 => (.go 4 [(.ck 0)] [] .fin)))
theorem k24_0 (a268 a269 a270 : Int) : xrun cfz 24 (D24_0 a268 a269 a270) [] (st24 (.c0 a268 a269 a270)) = (B24 (.c0 a268 a269 a270)).mach st24 out24 := by kernel_rfl
theorem ok24 : ∀ s, ∃ d, xrun cfz 24 d [] (st24 s) = (B24 s).mach st24 out24
  | .c0 a268 a269 a270 => ⟨_, k24_0 a268 a269 a270⟩
theorem f24 (a268 a269 a270 v : Int) (h : F24 a268 a269 a270 = some v) : PureCalls cfz.P cfz.glob 24 [(aI a268), (aI a269), (aI a270)] (out24 v) := tree_pure knil ok24 (s := .c0 a268 a269 a270) rfl (by kernel_rfl) v h

/-! F19 -/
inductive S19 where
  | c0 (a277 : Nat) (a278 : List DV)
  | c1 (x279 : Nat) (x280 : List DV) (x281 y282 : Int)
def out19 (v : Int) : AV := (.d (.v (.int .i64 v)))
noncomputable def st19 : S19 → ASt
  | .c0 a277 a278 => ent cfz 19 [(.d (.sl a277 a278))]
  | .c1 x279 x280 x281 y282 => ⟨⟨19, sp 15 0 [(5, (.d (.sl x279 x280))), (6, (aI x281)), (7, (aI y282))], [(.code (cd cfz.P 19 [1, 0, 1, 0, 0])), (.inLoop (cd cfz.P 19 [1, 0, 1, 0, 0])), (.inBlock 0), (.code (cd cfz.P 19 [1, 1]))], [], false, .none⟩, [], []⟩
noncomputable def B19 : S19 → Tr S19 (Int)
  | .c0 a277 a278 => (.nxt (.c1 a277 a278 ((↑a277 : Int)) 0))
  | .c1 x279 x280 x281 y282 => (.br (decide (y282 < x281))
  (.ask (.le 0 y282) (.ask (.lt y282 ((↑x279 : Int))) (.ask (.leN (y282.toNat * 1) x280.length) (.ask (.prop (Option.map AV.d (List.drop (y282.toNat * 1) x280)[0]? = some (AV.d (DV.v (Value.int IntKind.i64 (dI (cel x280 (y282.toNat * 1)))))))) (.br (dI (cel x280 (y282.toNat * 1)) != 0)
  (.ret (dI (cel x280 (y282.toNat * 1))))
  (.ask (.in64 (y282 + 1)) (.nxt (.c1 x279 x280 x281 (y282 + 1)))))))))
  (.ret 0))
noncomputable def F19 (a277 : Nat) (a278 : List DV) : Option (Int) := res B19 (.c0 a277 a278)
noncomputable def D19_0 (a277 : Nat) (a278 : List DV) : DT cfz := (.go 13 [] [] (.cut 0 [[5, 6, 7]] []))
theorem k19_0 (a277 : Nat) (a278 : List DV) : xrun cfz 19 (D19_0 a277 a278) [] (st19 (.c0 a277 a278)) = (B19 (.c0 a277 a278)).mach st19 out19 := by kernel_rfl
noncomputable def D19_1 (x279 : Nat) (x280 : List DV) (x281 y282 : Int) : DT cfz := (.go 5 [] [] (.split 8 (.go 15 [(.br true), (.as (aI (dI (cel x280 (y282.toNat * 1)))))] [0] (.split 12 (.go 7 [(.br true)] [0] .fin) (.go 8 [(.br false)] [0] (.cut 0 [[5, 6, 7]] [])))) (.go 7 [(.br false)] [0] .fin)))
theorem k19_1 (x279 : Nat) (x280 : List DV) (x281 y282 : Int) : xrun cfz 19 (D19_1 x279 x280 x281 y282) [] (st19 (.c1 x279 x280 x281 y282)) = (B19 (.c1 x279 x280 x281 y282)).mach st19 out19 := by kernel_rfl
theorem ok19 : ∀ s, ∃ d, xrun cfz 19 d [] (st19 s) = (B19 s).mach st19 out19
  | .c0 a277 a278 => ⟨_, k19_0 a277 a278⟩
  | .c1 x279 x280 x281 y282 => ⟨_, k19_1 x279 x280 x281 y282⟩
theorem f19 (a277 : Nat) (a278 : List DV) (v : Int) (h : F19 a277 a278 = some v) : PureCalls cfz.P cfz.glob 19 [(.d (.sl a277 a278))] (out19 v) := tree_pure knil ok19 (s := .c0 a277 a278) rfl (by kernel_rfl) v h

/-! F20 -/
inductive S20 where
  | c0 (a266 a267 : Int)
def out20 (v : Int) : AV := (.d (.v (.int .i64 v)))
noncomputable def st20 : S20 → ASt
  | .c0 a266 a267 => ent cfz 20 [(.agg [(aI a266), (aI a267)])]
noncomputable def B20 : S20 → Tr S20 (Int)
  | .c0 a266 a267 => (.bind (F24 a266 0 1000000000) fun v274 =>
  (.bind (F24 a267 0 1000000000) fun v275 =>
  (.bind (F21 (decide (a266 > a267)) 11) fun v276 =>
  (.bind (F19 3 [(.v (.int .i64 v274)), (.v (.int .i64 v275)), (.v (.int .i64 v276))]) fun v283 =>
  (.sees [(aI a266), (aI 0), (aI 1000000000)] (.sees [(aI a267), (aI 0), (aI 1000000000)] (.sees [(.d (.v (.bool (decide (a266 > a267))))), (aI 11)] (.sees [(.d (.sl 3 [(vI v274), (vI v275), (vI v276)]))] (.ret v283)))))))))
noncomputable def F20 (a266 a267 : Int) : Option (Int) := res B20 (.c0 a266 a267)
noncomputable def D20_0 (a266 a267 : Int) : DT cfz := (.go 7 [] [] (.bind (f24 a266 0 1000000000) fun v274 => (.bind (f24 a267 0 1000000000) fun v275 => (.bind (f21 (decide (a266 > a267)) 11) fun v276 => (.bind (f19 3 [(vI v274), (vI v275), (vI v276)]) fun v283 => (.go 2 [(.ck 0), (.ck 1), (.ck 2), (.ck 3)] [] .fin))))))
theorem k20_0 (a266 a267 : Int) : xrun cfz 20 (D20_0 a266 a267) [] (st20 (.c0 a266 a267)) = (B20 (.c0 a266 a267)).mach st20 out20 := by kernel_rfl
theorem ok20 : ∀ s, ∃ d, xrun cfz 20 d [] (st20 s) = (B20 s).mach st20 out20
  | .c0 a266 a267 => ⟨_, k20_0 a266 a267⟩
theorem f20 (a266 a267 v : Int) (h : F20 a266 a267 = some v) : PureCalls cfz.P cfz.glob 20 [(.agg [(aI a266), (aI a267)])] (out20 v) := tree_pure knil ok20 (s := .c0 a266 a267) rfl (by kernel_rfl) v h

/-! F22 -/
inductive S22 where
  | c0 (a287 : Nat) (a288 : List DV)
  | c1 (x289 : Nat) (x290 : List DV) (x291 y292 : Int)
  | c2 (y294 y295 : Nat) (y296 : List DV) (x297 : Nat) (x298 : List DV) (x299 y300 : Int) (y302 : Nat)
def out22 (v : Nat × List DV) : AV := (.d (.sl v.fst v.snd))
noncomputable def st22 : S22 → ASt
  | .c0 a287 a288 => ent cfz 22 [(.d (.sl a287 a288)), (.d (.v (.func (.func 20) (#[]) (#[]))))]
  | .c1 x289 x290 x291 y292 => ⟨⟨22, sp 22 0 [(1, (.d (.v (.func (.func 20) (#[]) (#[]))))), (5, (.d (.v (.slice .none 0 0)))), (8, (.d (.sl x289 x290))), (9, (aI x291)), (10, (aI y292))], [(.code (cd cfz.P 22 [1, 1, 0, 1, 0, 0])), (.inLoop (cd cfz.P 22 [1, 1, 0, 1, 0, 0])), (.inBlock 0), (.code (cd cfz.P 22 [1, 1, 1]))], [], false, .none⟩, [], []⟩
  | .c2 y294 y295 y296 x297 x298 x299 y300 y302 => ⟨⟨22, sp 22 0 [(1, (.d (.v (.func (.func 20) (#[]) (#[]))))), (5, (.own 2 y294 1 y295 y296)), (8, (.d (.sl x297 x298))), (9, (aI x299)), (10, (aI y300))], [(.code (cd cfz.P 22 [1, 1, 0, 1, 0, 0])), (.inLoop (cd cfz.P 22 [1, 1, 0, 1, 0, 0])), (.inBlock 0), (.code (cd cfz.P 22 [1, 1, 1]))], [], false, .none⟩, [], [.dead, (.tail 0), (.tail y302)]⟩
noncomputable def B22 : S22 → Tr S22 (Nat × List DV)
  | .c0 a287 a288 => (.nxt (.c1 a287 a288 ((↑a287 : Int)) 0))
  | .c1 x289 x290 x291 y292 => (.br (decide (y292 < x291))
  (.ask (.le 0 y292) (.ask (.lt y292 ((↑x289 : Int))) (.ask (.leN (y292.toNat * 2) x290.length) (.ask (.leN 2 ((List.drop (y292.toNat * 2) x290).length)) (.ask (.prop (List.map AV.d (List.take 2 (List.drop (y292.toNat * 2) x290)) = [AV.d (DV.v (Value.int IntKind.i64 (dI (cel x290 (y292.toNat * 2))))), AV.d (DV.v (Value.int IntKind.i64 (dI (cel x290 (y292.toNat * 2 + 1)))))])) (.bind (F20 (dI (cel x290 (y292.toNat * 2))) (dI (cel x290 (y292.toNat * 2 + 1)))) fun v293 =>
  (.sees [(.agg [(aI (dI (cel x290 (y292.toNat * 2)))), (aI (dI (cel x290 (y292.toNat * 2 + 1))))])] (.ask (.in64 (y292 + 1)) (.nxt (.c2 0 1 [(.v (.int .i64 v293))] x289 x290 x291 (y292 + 1) 0))))))))))
  (.ret (0, [])))
  | .c2 y294 y295 y296 x297 x298 x299 y300 y302 => (.br (decide (y300 < x299))
  (.ask (.le 0 y300) (.ask (.lt y300 ((↑x297 : Int))) (.ask (.leN (y300.toNat * 2) x298.length) (.ask (.leN 2 ((List.drop (y300.toNat * 2) x298).length)) (.ask (.prop (List.map AV.d (List.take 2 (List.drop (y300.toNat * 2) x298)) = [AV.d (DV.v (Value.int IntKind.i64 (dI (cel x298 (y300.toNat * 2))))), AV.d (DV.v (Value.int IntKind.i64 (dI (cel x298 (y300.toNat * 2 + 1)))))])) (.bind (F20 (dI (cel x298 (y300.toNat * 2))) (dI (cel x298 (y300.toNat * 2 + 1)))) fun v303 =>
  (.sees [(.agg [(aI (dI (cel x298 (y300.toNat * 2)))), (aI (dI (cel x298 (y300.toNat * 2 + 1))))])] (.ask (.eqN y294 y302) (.ask (.fits (y295 + 1) 8) (.ask (.in64 (y300 + 1)) (.nxt (.c2 (y302 + 1) (y295 + 1) (y296 ++ [DV.v (Value.int IntKind.i64 v303)]) x297 x298 x299 (y300 + 1) (y302 + 1)))))))))))))
  (.ret (y295, y296)))
noncomputable def F22 (a287 : Nat) (a288 : List DV) : Option (Nat × List DV) := res B22 (.c0 a287 a288)
noncomputable def D22_0 (a287 : Nat) (a288 : List DV) : DT cfz := (.go 17 [] [] (.cut 0 [[1, 5, 8, 9, 10]] []))
theorem k22_0 (a287 : Nat) (a288 : List DV) : xrun cfz 22 (D22_0 a287 a288) [] (st22 (.c0 a287 a288)) = (B22 (.c0 a287 a288)).mach st22 out22 := by kernel_rfl
noncomputable def D22_1 (x289 : Nat) (x290 : List DV) (x291 y292 : Int) : DT cfz := (.go 5 [] [] (.split 11 (.go 15 [(.br true), (.as (.agg [(aI (dI (cel x290 (y292.toNat * 2)))), (aI (dI (cel x290 (y292.toNat * 2 + 1))))]))] [0] (.bind (f20 (dI (cel x290 (y292.toNat * 2))) (dI (cel x290 (y292.toNat * 2 + 1)))) fun v293 => (.go 11 [(.ck 0)] [1, 2, 3] (.cut 3 [[1, 5, 8, 9, 10]] [0])))) (.go 8 [(.br false)] [0] .fin)))
theorem k22_1 (x289 : Nat) (x290 : List DV) (x291 y292 : Int) : xrun cfz 22 (D22_1 x289 x290 x291 y292) [] (st22 (.c1 x289 x290 x291 y292)) = (B22 (.c1 x289 x290 x291 y292)).mach st22 out22 := by kernel_rfl
noncomputable def D22_2 (y294 y295 : Nat) (y296 : List DV) (x297 : Nat) (x298 : List DV) (x299 y300 : Int) (y302 : Nat) : DT cfz := (.go 5 [] [] (.split 11 (.go 15 [(.br true), (.as (.agg [(aI (dI (cel x298 (y300.toNat * 2)))), (aI (dI (cel x298 (y300.toNat * 2 + 1))))]))] [0] (.bind (f20 (dI (cel x298 (y300.toNat * 2))) (dI (cel x298 (y300.toNat * 2 + 1)))) fun v303 => (.go 11 [(.ck 0)] [2, 3] (.cut 3 [[1, 5, 8, 9, 10]] [])))) (.go 8 [(.br false)] [0] .fin)))
theorem k22_2 (y294 y295 : Nat) (y296 : List DV) (x297 : Nat) (x298 : List DV) (x299 y300 : Int) (y302 : Nat) : xrun cfz 22 (D22_2 y294 y295 y296 x297 x298 x299 y300 y302) [] (st22 (.c2 y294 y295 y296 x297 x298 x299 y300 y302)) = (B22 (.c2 y294 y295 y296 x297 x298 x299 y300 y302)).mach st22 out22 := by kernel_rfl
theorem ok22 : ∀ s, ∃ d, xrun cfz 22 d [] (st22 s) = (B22 s).mach st22 out22
  | .c0 a287 a288 => ⟨_, k22_0 a287 a288⟩
  | .c1 x289 x290 x291 y292 => ⟨_, k22_1 x289 x290 x291 y292⟩
  | .c2 y294 y295 y296 x297 x298 x299 y300 y302 => ⟨_, k22_2 y294 y295 y296 x297 x298 x299 y300 y302⟩
theorem f22 (a287 : Nat) (a288 : List DV) (v : Nat × List DV) (h : F22 a287 a288 = some v) : PureCalls cfz.P cfz.glob 22 [(.d (.sl a287 a288)), (.d (.v (.func (.func 20) (#[]) (#[]))))] (out22 v) := tree_pure knil ok22 (s := .c0 a287 a288) rfl (by kernel_rfl) v h

/-! F7 -/
inductive S7 where
  | c0 (a262 a263 : Int) (a264 : Nat) (a265 : List DV)
  | c1 (x306 : Nat) (x307 : List DV) (x308 y309 x310 x311 : Int)
def out7 (v : Int × Int × Int) : AV := (.tup [(.agg [(.d (.v (.int .i64 v.fst))), (.d (.v (.int .i64 v.snd.fst)))]), (.d (.v (.int .i64 v.snd.snd)))])
noncomputable def st7 : S7 → ASt
  | .c0 a262 a263 a264 a265 => ent cfz 7 [(.agg [(aI a262), (aI a263)]), (.d (.sl a264 a265))]
  | .c1 x306 x307 x308 y309 x310 x311 => ⟨⟨7, sp 51 0 [(4, (.ptr 1 0)), (8, (.ptr 3 0)), (31, (.d (.sl x306 x307))), (32, (aI x308)), (33, (aI y309))], [(.code (cd cfz.P 7 [1, 1, 1, 1, 0, 1, 0, 0])), (.inLoop (cd cfz.P 7 [1, 1, 1, 1, 0, 1, 0, 0])), (.inBlock 0), (.code (cd cfz.P 7 [1, 1, 1, 1, 1]))], [], false, .none⟩, [], [.dead, (.cells [(aI 0), (aI 0)] 39), (.tail 0), (.cells [(aI x310), (aI x311)] 39)]⟩
noncomputable def B7 : S7 → Tr S7 (Int × Int × Int)
  | .c0 a262 a263 a264 a265 => (.bind (F20 a262 a263) fun v284 =>
  (.sees [(.agg [(aI a262), (aI a263)])] (.bind (F21 (decide ((↑a264 : Int) > 256)) 5) fun v285 =>
  (.sees [(.d (.v (.bool (decide ((↑a264 : Int) > 256))))), (aI 5)] (.bind (F19 2 [(.v (.int .i64 v284)), (.v (.int .i64 v285))]) fun v286 =>
  (.sees [(.d (.sl 2 [(vI v284), (vI v285)]))] (.br (v286 != 0)
  (.ret (0, 0, v286))
  (.bind (F22 a264 a265) fun v304 =>
  (.sees [(.d (.sl a264 a265)), (.d (.v (.func (.func 20) (#[]) (#[]))))] (.bind (F19 v304.fst v304.snd) fun v305 =>
  (.sees [(.d (.sl v304.fst v304.snd))] (.br (v305 != 0)
  (.ret (0, 0, v305))
  (.nxt (.c1 a264 a265 ((↑a264 : Int)) 0 a262 a263))))))))))))))
  | .c1 x306 x307 x308 y309 x310 x311 => (.br (decide (y309 < x308))
  (.ask (.le 0 y309) (.ask (.lt y309 ((↑x306 : Int))) (.ask (.leN (y309.toNat * 2) x307.length) (.ask (.leN 2 ((List.drop (y309.toNat * 2) x307).length)) (.ask (.prop (List.map AV.d (List.take 2 (List.drop (y309.toNat * 2) x307)) = [AV.d (DV.v (Value.int IntKind.i64 (dI (cel x307 (y309.toNat * 2))))), AV.d (DV.v (Value.int IntKind.i64 (dI (cel x307 (y309.toNat * 2 + 1)))))])) (.ask (.in64 (x310 - dI (cel x307 (y309.toNat * 2 + 1)))) (.ask (.in64 (x311 - dI (cel x307 (y309.toNat * 2)))) (.ask (.in64 (y309 + 1)) (.nxt (.c1 x306 x307 x308 (y309 + 1) (x310 - dI (cel x307 (y309.toNat * 2 + 1))) (x311 - dI (cel x307 (y309.toNat * 2)))))))))))))
  (.ret (x310, x311, 0)))
noncomputable def F7 (a262 a263 : Int) (a264 : Nat) (a265 : List DV) : Option (Int × Int × Int) := res B7 (.c0 a262 a263 a264 a265)
noncomputable def D7_0 (a262 a263 : Int) (a264 : Nat) (a265 : List DV) : DT cfz := (.go 10 [] [] (.bind (f20 a262 a263) fun v284 => (.go 4 [(.ck 0)] [] (.bind (f21 (decide ((↑a264 : Int) > 256)) 5) fun v285 => (.go 2 [(.ck 1)] [] (.bind (f19 2 [(vI v284), (vI v285)]) fun v286 => (.go 8 [(.ck 2)] [] (.split 20 (.go 9 [(.br true)] [0] .fin) (.go 6 [(.br false)] [0] (.bind (f22 a264 a265) fun v304 => (.go 1 [(.ck 3)] [] (.bind (f19 v304.fst v304.snd) fun v305 => (.go 8 [(.ck 4)] [] (.split 27 (.go 9 [(.br true)] [0] .fin) (.go 17 [(.br false)] [0] (.cut 4 [[4, 8, 31, 32, 33]] [0]))))))))))))))))
theorem k7_0 (a262 a263 : Int) (a264 : Nat) (a265 : List DV) : xrun cfz 7 (D7_0 a262 a263 a264 a265) [] (st7 (.c0 a262 a263 a264 a265)) = (B7 (.c0 a262 a263 a264 a265)).mach st7 out7 := by kernel_rfl
noncomputable def D7_1 (x306 : Nat) (x307 : List DV) (x308 y309 x310 x311 : Int) : DT cfz := (.go 5 [] [] (.split 34 (.go 36 [(.br true), (.as (.agg [(aI (dI (cel x307 (y309.toNat * 2)))), (aI (dI (cel x307 (y309.toNat * 2 + 1))))]))] [0] (.cut 4 [[4, 8, 31, 32, 33]] [])) (.go 9 [(.br false)] [0] .fin)))
theorem k7_1 (x306 : Nat) (x307 : List DV) (x308 y309 x310 x311 : Int) : xrun cfz 7 (D7_1 x306 x307 x308 y309 x310 x311) [] (st7 (.c1 x306 x307 x308 y309 x310 x311)) = (B7 (.c1 x306 x307 x308 y309 x310 x311)).mach st7 out7 := by kernel_rfl
theorem ok7 : ∀ s, ∃ d, xrun cfz 7 d [] (st7 s) = (B7 s).mach st7 out7
  | .c0 a262 a263 a264 a265 => ⟨_, k7_0 a262 a263 a264 a265⟩
  | .c1 x306 x307 x308 y309 x310 x311 => ⟨_, k7_1 x306 x307 x308 y309 x310 x311⟩
theorem f7 (a262 a263 : Int) (a264 : Nat) (a265 : List DV) (v : Int × Int × Int) (h : F7 a262 a263 a264 a265 = some v) : PureCalls cfz.P cfz.glob 7 [(.agg [(aI a262), (aI a263)]), (.d (.sl a264 a265))] (out7 v) := tree_pure knil ok7 (s := .c0 a262 a263 a264 a265) rfl (by kernel_rfl) v h

/-! F8 -/
inductive S8 where
  | c0 (a258 a259 : Int) (a260 : Nat) (a261 : List DV)
def out8 (v : Int × Int) : AV := (.tup [(.d (.v (.int .i64 v.fst))), (.d (.v (.int .i64 v.snd)))])
noncomputable def st8 : S8 → ASt
  | .c0 a258 a259 a260 a261 => ent cfz 8 [(.agg [(aI a258), (aI a259)]), (.d (.sl a260 a261))]
noncomputable def B8 : S8 → Tr S8 (Int × Int)
  | .c0 a258 a259 a260 a261 => (.bind (F7 a258 a259 a260 a261) fun v312 =>
  (.sees [(.agg [(aI a258), (aI a259)]), (.d (.sl a260 a261))] (.br (v312.snd.snd != 0)
  (.ret (0, v312.snd.snd))
  (.br (decide (v312.fst > 0))
  (.ret (1, 0))
  (.br (decide (v312.snd.fst < 0))
  (.ret ((-1), 0))
  (.ret (0, 0)))))))
noncomputable def F8 (a258 a259 : Int) (a260 : Nat) (a261 : List DV) : Option (Int × Int) := res B8 (.c0 a258 a259 a260 a261)
noncomputable def D8_0 (a258 a259 : Int) (a260 : Nat) (a261 : List DV) : DT cfz := (.go 10 [] [] (.bind (f7 a258 a259 a260 a261) fun v312 => (.go 16 [(.ck 0)] [] (.split 14 (.go 8 [(.br true)] [0] .fin) (.go 8 [(.br false)] [0] (.split 18 (.go 7 [(.br true)] [0] .fin) (.go 8 [(.br false)] [0] (.split 22 (.go 7 [(.br true)] [0] .fin) (.go 9 [(.br false)] [0] .fin)))))))))
theorem k8_0 (a258 a259 : Int) (a260 : Nat) (a261 : List DV) : xrun cfz 8 (D8_0 a258 a259 a260 a261) [] (st8 (.c0 a258 a259 a260 a261)) = (B8 (.c0 a258 a259 a260 a261)).mach st8 out8 := by kernel_rfl
theorem ok8 : ∀ s, ∃ d, xrun cfz 8 d [] (st8 s) = (B8 s).mach st8 out8
  | .c0 a258 a259 a260 a261 => ⟨_, k8_0 a258 a259 a260 a261⟩
theorem f8 (a258 a259 : Int) (a260 : Nat) (a261 : List DV) (v : Int × Int) (h : F8 a258 a259 a260 a261 = some v) : PureCalls cfz.P cfz.glob 8 [(.agg [(aI a258), (aI a259)]), (.d (.sl a260 a261))] (out8 v) := tree_pure knil ok8 (s := .c0 a258 a259 a260 a261) rfl (by kernel_rfl) v h

end Go.Kv
