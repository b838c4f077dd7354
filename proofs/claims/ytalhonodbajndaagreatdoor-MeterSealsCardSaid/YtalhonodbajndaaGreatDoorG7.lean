/- Printed: what functions of the program come to, and the kernel's proof of it. -/
import Derived.Test.YtalhonodbajndaaGreatDoorKvW
import Derived.Test.YtalhonodbajndaaGreatDoorKzA
import Derived.Test.YtalhonodbajndaaGreatDoorKzW
namespace Go.Kv
set_option linter.unusedVariables false
set_option linter.unusedSimpArgs false
open Go Go.RowKit Go.Proofs
set_option maxRecDepth 100000
/-! F77 -/
inductive S77 where
  | c0 (a25 : Bool) (a26 : Int)
def out77 (v : Int) : AV := (.d (.v (.int .i64 v)))
noncomputable def st77 : S77 → ASt
  | .c0 a25 a26 => ent cfz 77 [(.d (.v (.bool a25))), (.d (.v (.int .i64 a26)))]
noncomputable def B77 : S77 → Tr S77 (Int)
  | .c0 a25 a26 => (.br a25
  (.ret a26)
  (.ret 0))
noncomputable def F77 (a25 : Bool) (a26 : Int) : Option (Int) := res B77 (.c0 a25 a26)
noncomputable def D77_0 (a25 : Bool) (a26 : Int) : DT cfz := (.go 9 [] [] (.split 5 (.go 7 [(.br true)] [0] .fin) (.go 7 [(.br false)] [0] .fin)))
theorem k77_0 (a25 : Bool) (a26 : Int) : xrun cfz 77 (D77_0 a25 a26) [] (st77 (.c0 a25 a26)) = (B77 (.c0 a25 a26)).mach st77 out77 := by kernel_rfl
theorem ok77 : ∀ s, ∃ d, xrun cfz 77 d [] (st77 s) = (B77 s).mach st77 out77
  | .c0 a25 a26 => ⟨_, k77_0 a25 a26⟩
theorem f77 (a25 : Bool) (a26 : Int) (v : Int) (h : F77 a25 a26 = some v) : PureCalls cfz.P cfz.glob 77 [(.d (.v (.bool a25))), (.d (.v (.int .i64 a26)))] (out77 v) := tree_pure knil ok77 (s := .c0 a25 a26) rfl (by kernel_rfl) v h

/-! F89 -/
inductive S89 where
  | c0 (a22 : Int) (a23 : Int) (a24 : Int)
def out89 (v : Int) : AV := (.d (.v (.int .i64 v)))
noncomputable def st89 : S89 → ASt
  | .c0 a22 a23 a24 => ent cfz 89 [(.d (.v (.int .i64 a22))), (.d (.v (.int .i64 a23))), (.d (.v (.int .i64 a24)))]
noncomputable def B89 : S89 → Tr S89 (Int)
  | .c0 a22 a23 a24 => (.triv _ (tv_s (decide (a22 < a23) == false)) (.triv _ (tv_s (decide (a22 < a23) == false)) (.triv _ (tv_f (decide (a22 < a23))) (.bind (F77 (if decide (a22 < a23) = true then true else decide (a22 > a24)) 3) fun v27 =>
  (.sees [(.d (.v (.bool (if decide (a22 < a23) = true then true else decide (a22 > a24))))), (.d (.v (.int .i64 3)))] (.ret v27))))))
noncomputable def F89 (a22 : Int) (a23 : Int) (a24 : Int) : Option (Int) := res B89 (.c0 a22 a23 a24)
noncomputable def D89_0 (a22 : Int) (a23 : Int) (a24 : Int) : DT cfz := (.go 14 [(.sp .none), (.sp .none), (.sp .none), .mg] [] (.bind (f77 (if decide (a22 < a23) = true then true else decide (a22 > a24)) 3) fun v27 => (.go 4 [(.ck 0)] [] .fin)))
theorem k89_0 (a22 : Int) (a23 : Int) (a24 : Int) : xrun cfz 89 (D89_0 a22 a23 a24) [] (st89 (.c0 a22 a23 a24)) = (B89 (.c0 a22 a23 a24)).mach st89 out89 := by kernel_rfl
theorem ok89 : ∀ s, ∃ d, xrun cfz 89 d [] (st89 s) = (B89 s).mach st89 out89
  | .c0 a22 a23 a24 => ⟨_, k89_0 a22 a23 a24⟩
theorem f89 (a22 : Int) (a23 : Int) (a24 : Int) (v : Int) (h : F89 a22 a23 a24 = some v) : PureCalls cfz.P cfz.glob 89 [(.d (.v (.int .i64 a22))), (.d (.v (.int .i64 a23))), (.d (.v (.int .i64 a24)))] (out89 v) := tree_pure knil ok89 (s := .c0 a22 a23 a24) rfl (by kernel_rfl) v h

/-! F75 -/
inductive S75 where
  | c0 (a32 : Nat) (a33 : List DV)
  | c1 (x34 : Nat) (x35 : List DV) (x36 : Int) (y37 : Int)
def out75 (v : Int) : AV := (.d (.v (.int .i64 v)))
noncomputable def st75 : S75 → ASt
  | .c0 a32 a33 => ent cfz 75 [(.d (.sl a32 a33))]
  | .c1 x34 x35 x36 y37 => ⟨⟨75, sp 15 0 [(5, (.d (.sl x34 x35))), (6, (.d (.v (.int .i64 x36)))), (7, (.d (.v (.int .i64 y37))))], [(.code (cd cfz.P 75 [1, 0, 1, 0, 0])), (.inLoop (cd cfz.P 75 [1, 0, 1, 0, 0])), (.inBlock 0), (.code (cd cfz.P 75 [1, 1]))], [], false, .none⟩, [], []⟩
noncomputable def B75 : S75 → Tr S75 (Int)
  | .c0 a32 a33 => (.nxt (.c1 a32 a33 ((↑a32 : Int)) 0))
  | .c1 x34 x35 x36 y37 => (.br (decide (y37 < x36))
  (.ask (.le 0 y37) (.ask (.lt y37 ((↑x34 : Int))) (.ask (.leN (y37.toNat * 1) x35.length) (.ask (.prop (Option.map AV.d (List.drop (y37.toNat * 1) x35)[0]? = some (AV.d (DV.v (Value.int IntKind.i64 (dI (cel x35 (y37.toNat * 1)))))))) (.br (dI (cel x35 (y37.toNat * 1)) != 0)
  (.ret (dI (cel x35 (y37.toNat * 1))))
  (.ask (.in64 (y37 + 1)) (.nxt (.c1 x34 x35 x36 (y37 + 1)))))))))
  (.ret 0))
noncomputable def F75 (a32 : Nat) (a33 : List DV) : Option (Int) := res B75 (.c0 a32 a33)
noncomputable def D75_0 (a32 : Nat) (a33 : List DV) : DT cfz := (.go 13 [] [] (.cut 0 [[5, 6, 7]] []))
theorem k75_0 (a32 : Nat) (a33 : List DV) : xrun cfz 75 (D75_0 a32 a33) [] (st75 (.c0 a32 a33)) = (B75 (.c0 a32 a33)).mach st75 out75 := by kernel_rfl
noncomputable def D75_1 (x34 : Nat) (x35 : List DV) (x36 : Int) (y37 : Int) : DT cfz := (.go 5 [] [] (.split 8 (.go 15 [(.br true), (.as (.d (.v (.int .i64 (dI (cel x35 (y37.toNat * 1)))))))] [0] (.split 12 (.go 7 [(.br true)] [0] .fin) (.go 8 [(.br false)] [0] (.cut 0 [[5, 6, 7]] [])))) (.go 7 [(.br false)] [0] .fin)))
theorem k75_1 (x34 : Nat) (x35 : List DV) (x36 : Int) (y37 : Int) : xrun cfz 75 (D75_1 x34 x35 x36 y37) [] (st75 (.c1 x34 x35 x36 y37)) = (B75 (.c1 x34 x35 x36 y37)).mach st75 out75 := by kernel_rfl
theorem ok75 : ∀ s, ∃ d, xrun cfz 75 d [] (st75 s) = (B75 s).mach st75 out75
  | .c0 a32 a33 => ⟨_, k75_0 a32 a33⟩
  | .c1 x34 x35 x36 y37 => ⟨_, k75_1 x34 x35 x36 y37⟩
theorem f75 (a32 : Nat) (a33 : List DV) (v : Int) (h : F75 a32 a33 = some v) : PureCalls cfz.P cfz.glob 75 [(.d (.sl a32 a33))] (out75 v) := tree_pure knil ok75 (s := .c0 a32 a33) rfl (by kernel_rfl) v h

/-! F50 -/
inductive S50 where
  | c0 (a18 : Int) (a19 : Int) (a20 : Int) (a21 : Int)
def out50 (v : Int) : AV := (.d (.v (.int .i64 v)))
noncomputable def st50 : S50 → ASt
  | .c0 a18 a19 a20 a21 => ent cfz 50 [(.agg [(.d (.v (.int .i64 a18))), (.d (.v (.int .i64 a19))), (.d (.v (.int .i64 a20))), (.d (.v (.int .i64 a21)))])]
noncomputable def B50 : S50 → Tr S50 (Int)
  | .c0 a18 a19 a20 a21 => (.bind (F89 a18 0 100000000) fun v28 =>
  (.bind (F89 a19 (-1000000) 1000000) fun v29 =>
  (.bind (F89 a20 (-1000) 1000) fun v30 =>
  (.bind (F89 a21 2 1000) fun v31 =>
  (.bind (F75 4 [(.v (.int .i64 v28)), (.v (.int .i64 v29)), (.v (.int .i64 v30)), (.v (.int .i64 v31))]) fun v38 =>
  (.sees [(.d (.v (.int .i64 a18))), (.d (.v (.int .i64 0))), (.d (.v (.int .i64 100000000)))] (.sees [(.d (.v (.int .i64 a19))), (.d (.v (.int .i64 (-1000000)))), (.d (.v (.int .i64 1000000)))] (.sees [(.d (.v (.int .i64 a20))), (.d (.v (.int .i64 (-1000)))), (.d (.v (.int .i64 1000)))] (.sees [(.d (.v (.int .i64 a21))), (.d (.v (.int .i64 2))), (.d (.v (.int .i64 1000)))] (.sees [(.d (.sl 4 [(.v (.int .i64 v28)), (.v (.int .i64 v29)), (.v (.int .i64 v30)), (.v (.int .i64 v31))]))] (.ret v38)))))))))))
noncomputable def F50 (a18 : Int) (a19 : Int) (a20 : Int) (a21 : Int) : Option (Int) := res B50 (.c0 a18 a19 a20 a21)
noncomputable def D50_0 (a18 : Int) (a19 : Int) (a20 : Int) (a21 : Int) : DT cfz := (.go 7 [] [] (.bind (f89 a18 0 100000000) fun v28 => (.bind (f89 a19 (-1000000) 1000000) fun v29 => (.bind (f89 a20 (-1000) 1000) fun v30 => (.bind (f89 a21 2 1000) fun v31 => (.bind (f75 4 [(.v (.int .i64 v28)), (.v (.int .i64 v29)), (.v (.int .i64 v30)), (.v (.int .i64 v31))]) fun v38 => (.go 2 [(.ck 0), (.ck 1), (.ck 2), (.ck 3), (.ck 4)] [] .fin)))))))
theorem k50_0 (a18 : Int) (a19 : Int) (a20 : Int) (a21 : Int) : xrun cfz 50 (D50_0 a18 a19 a20 a21) [] (st50 (.c0 a18 a19 a20 a21)) = (B50 (.c0 a18 a19 a20 a21)).mach st50 out50 := by kernel_rfl
theorem ok50 : ∀ s, ∃ d, xrun cfz 50 d [] (st50 s) = (B50 s).mach st50 out50
  | .c0 a18 a19 a20 a21 => ⟨_, k50_0 a18 a19 a20 a21⟩
theorem f50 (a18 : Int) (a19 : Int) (a20 : Int) (a21 : Int) (v : Int) (h : F50 a18 a19 a20 a21 = some v) : PureCalls cfz.P cfz.glob 50 [(.agg [(.d (.v (.int .i64 a18))), (.d (.v (.int .i64 a19))), (.d (.v (.int .i64 a20))), (.d (.v (.int .i64 a21)))])] (out50 v) := tree_pure knil ok50 (s := .c0 a18 a19 a20 a21) rfl (by kernel_rfl) v h

/-! F95 -/
inductive S95 where
  | c0 (a13 : Int) (a14 : Int) (a15 : Int) (a16 : Int) (a17 : Int)
def out95 (v : Int) : AV := (.d (.v (.int .i64 v)))
noncomputable def st95 : S95 → ASt
  | .c0 a13 a14 a15 a16 a17 => ent cfz 95 [(.agg [(.d (.v (.int .i64 a13))), (.d (.v (.int .i64 a14))), (.d (.v (.int .i64 a15))), (.d (.v (.int .i64 a16)))]), (.d (.v (.int .i64 a17)))]
noncomputable def B95 : S95 → Tr S95 (Int)
  | .c0 a13 a14 a15 a16 a17 => (.bind (F50 a13 a14 a15 a16) fun v39 =>
  (.bind (F89 a17 0 100000000) fun v40 =>
  (.bind (F77 (decide (a17 < a13)) 11) fun v41 =>
  (.bind (F75 3 [(.v (.int .i64 v39)), (.v (.int .i64 v40)), (.v (.int .i64 v41))]) fun v42 =>
  (.sees [(.agg [(.d (.v (.int .i64 a13))), (.d (.v (.int .i64 a14))), (.d (.v (.int .i64 a15))), (.d (.v (.int .i64 a16)))])] (.sees [(.d (.v (.int .i64 a17))), (.d (.v (.int .i64 0))), (.d (.v (.int .i64 100000000)))] (.sees [(.d (.v (.bool (decide (a17 < a13))))), (.d (.v (.int .i64 11)))] (.sees [(.d (.sl 3 [(.v (.int .i64 v39)), (.v (.int .i64 v40)), (.v (.int .i64 v41))]))] (.ret v42)))))))))
noncomputable def F95 (a13 : Int) (a14 : Int) (a15 : Int) (a16 : Int) (a17 : Int) : Option (Int) := res B95 (.c0 a13 a14 a15 a16 a17)
noncomputable def D95_0 (a13 : Int) (a14 : Int) (a15 : Int) (a16 : Int) (a17 : Int) : DT cfz := (.go 7 [] [] (.bind (f50 a13 a14 a15 a16) fun v39 => (.bind (f89 a17 0 100000000) fun v40 => (.bind (f77 (decide (a17 < a13)) 11) fun v41 => (.bind (f75 3 [(.v (.int .i64 v39)), (.v (.int .i64 v40)), (.v (.int .i64 v41))]) fun v42 => (.go 2 [(.ck 0), (.ck 1), (.ck 2), (.ck 3)] [] .fin))))))
theorem k95_0 (a13 : Int) (a14 : Int) (a15 : Int) (a16 : Int) (a17 : Int) : xrun cfz 95 (D95_0 a13 a14 a15 a16 a17) [] (st95 (.c0 a13 a14 a15 a16 a17)) = (B95 (.c0 a13 a14 a15 a16 a17)).mach st95 out95 := by kernel_rfl
theorem ok95 : ∀ s, ∃ d, xrun cfz 95 d [] (st95 s) = (B95 s).mach st95 out95
  | .c0 a13 a14 a15 a16 a17 => ⟨_, k95_0 a13 a14 a15 a16 a17⟩
theorem f95 (a13 : Int) (a14 : Int) (a15 : Int) (a16 : Int) (a17 : Int) (v : Int) (h : F95 a13 a14 a15 a16 a17 = some v) : PureCalls cfz.P cfz.glob 95 [(.agg [(.d (.v (.int .i64 a13))), (.d (.v (.int .i64 a14))), (.d (.v (.int .i64 a15))), (.d (.v (.int .i64 a16)))]), (.d (.v (.int .i64 a17)))] (out95 v) := tree_pure knil ok95 (s := .c0 a13 a14 a15 a16 a17) rfl (by kernel_rfl) v h

/-! F92 -/
inductive S92 where
  | c0 (a44 : Int) (a45 : Int) (a46 : Int) (a47 : Int) (a48 : Int)
def out92 (v : Int) : AV := (.d (.v (.int .i64 v)))
noncomputable def st92 : S92 → ASt
  | .c0 a44 a45 a46 a47 a48 => ent cfz 92 [(.agg [(.d (.v (.int .i64 a44))), (.d (.v (.int .i64 a45))), (.d (.v (.int .i64 a46))), (.d (.v (.int .i64 a47)))]), (.d (.v (.int .i64 a48)))]
noncomputable def B92 : S92 → Tr S92 (Int)
  | .c0 a44 a45 a46 a47 a48 => (.ask (.in64 (a48 - a44)) (.ask (.neI a47 0) (.ask (.in64 ((a48 - a44).tdiv a47)) (.ask (.in64 (-a46)) (.br (decide (a46 < 0))
  (.ask (.in64 (-if (if -a46 > a46 then -a46 else a46) < (a48 - a44).tdiv a47 then if -a46 > a46 then -a46 else a46 else (a48 - a44).tdiv a47)) (.ask (.in64 (a48 + a45)) (.ask (.in64 (a48 + a45 + -if (if -a46 > a46 then -a46 else a46) < (a48 - a44).tdiv a47 then if -a46 > a46 then -a46 else a46 else (a48 - a44).tdiv a47)) (.ret (a48 + a45 + -if (if -a46 > a46 then -a46 else a46) < (a48 - a44).tdiv a47 then if -a46 > a46 then -a46 else a46 else (a48 - a44).tdiv a47)))))
  (.ask (.in64 (a48 + a45)) (.ask (.in64 (a48 + a45 + if (if -a46 > a46 then -a46 else a46) < (a48 - a44).tdiv a47 then if -a46 > a46 then -a46 else a46 else (a48 - a44).tdiv a47)) (.ret (a48 + a45 + if (if -a46 > a46 then -a46 else a46) < (a48 - a44).tdiv a47 then if -a46 > a46 then -a46 else a46 else (a48 - a44).tdiv a47)))))))))
noncomputable def F92 (a44 : Int) (a45 : Int) (a46 : Int) (a47 : Int) (a48 : Int) : Option (Int) := res B92 (.c0 a44 a45 a46 a47 a48)
noncomputable def D92_0 (a44 : Int) (a45 : Int) (a46 : Int) (a47 : Int) (a48 : Int) : DT cfz := (.go 15 [] [] (.split 22 (.go 17 [(.br true)] [0] .fin) (.go 13 [(.br false)] [0] .fin)))
theorem k92_0 (a44 : Int) (a45 : Int) (a46 : Int) (a47 : Int) (a48 : Int) : xrun cfz 92 (D92_0 a44 a45 a46 a47 a48) [] (st92 (.c0 a44 a45 a46 a47 a48)) = (B92 (.c0 a44 a45 a46 a47 a48)).mach st92 out92 := by kernel_rfl
theorem ok92 : ∀ s, ∃ d, xrun cfz 92 d [] (st92 s) = (B92 s).mach st92 out92
  | .c0 a44 a45 a46 a47 a48 => ⟨_, k92_0 a44 a45 a46 a47 a48⟩
theorem f92 (a44 : Int) (a45 : Int) (a46 : Int) (a47 : Int) (a48 : Int) (v : Int) (h : F92 a44 a45 a46 a47 a48 = some v) : PureCalls cfz.P cfz.glob 92 [(.agg [(.d (.v (.int .i64 a44))), (.d (.v (.int .i64 a45))), (.d (.v (.int .i64 a46))), (.d (.v (.int .i64 a47)))]), (.d (.v (.int .i64 a48)))] (out92 v) := tree_pure knil ok92 (s := .c0 a44 a45 a46 a47 a48) rfl (by kernel_rfl) v h

/-! F44 -/
inductive S44 where
  | c0 (a8 : Int) (a9 : Int) (a10 : Int) (a11 : Int) (a12 : Int)
def out44 (v : Int × Int) : AV := (.tup [(.d (.v (.int .i64 v.fst))), (.d (.v (.int .i64 v.snd)))])
noncomputable def st44 : S44 → ASt
  | .c0 a8 a9 a10 a11 a12 => ent cfz 44 [(.agg [(.d (.v (.int .i64 a8))), (.d (.v (.int .i64 a9))), (.d (.v (.int .i64 a10))), (.d (.v (.int .i64 a11)))]), (.d (.v (.int .i64 a12)))]
noncomputable def B44 : S44 → Tr S44 (Int × Int)
  | .c0 a8 a9 a10 a11 a12 => (.bind (F95 a8 a9 a10 a11 a12) fun v43 =>
  (.sees [(.agg [(.d (.v (.int .i64 a8))), (.d (.v (.int .i64 a9))), (.d (.v (.int .i64 a10))), (.d (.v (.int .i64 a11)))]), (.d (.v (.int .i64 a12)))] (.br (v43 != 0)
  (.ret (0, v43))
  (.bind (F92 a8 a9 a10 a11 a12) fun v49 =>
  (.sees [(.agg [(.d (.v (.int .i64 a8))), (.d (.v (.int .i64 a9))), (.d (.v (.int .i64 a10))), (.d (.v (.int .i64 a11)))]), (.d (.v (.int .i64 a12)))] (.ret (v49, 0)))))))
noncomputable def F44 (a8 : Int) (a9 : Int) (a10 : Int) (a11 : Int) (a12 : Int) : Option (Int × Int) := res B44 (.c0 a8 a9 a10 a11 a12)
noncomputable def D44_0 (a8 : Int) (a9 : Int) (a10 : Int) (a11 : Int) (a12 : Int) : DT cfz := (.go 11 [] [] (.bind (f95 a8 a9 a10 a11 a12) fun v43 => (.go 8 [(.ck 0)] [] (.split 11 (.go 8 [(.br true)] [0] .fin) (.go 6 [(.br false)] [0] (.bind (f92 a8 a9 a10 a11 a12) fun v49 => (.go 5 [(.ck 1)] [] .fin)))))))
theorem k44_0 (a8 : Int) (a9 : Int) (a10 : Int) (a11 : Int) (a12 : Int) : xrun cfz 44 (D44_0 a8 a9 a10 a11 a12) [] (st44 (.c0 a8 a9 a10 a11 a12)) = (B44 (.c0 a8 a9 a10 a11 a12)).mach st44 out44 := by kernel_rfl
theorem ok44 : ∀ s, ∃ d, xrun cfz 44 d [] (st44 s) = (B44 s).mach st44 out44
  | .c0 a8 a9 a10 a11 a12 => ⟨_, k44_0 a8 a9 a10 a11 a12⟩
theorem f44 (a8 : Int) (a9 : Int) (a10 : Int) (a11 : Int) (a12 : Int) (v : Int × Int) (h : F44 a8 a9 a10 a11 a12 = some v) : PureCalls cfz.P cfz.glob 44 [(.agg [(.d (.v (.int .i64 a8))), (.d (.v (.int .i64 a9))), (.d (.v (.int .i64 a10))), (.d (.v (.int .i64 a11)))]), (.d (.v (.int .i64 a12)))] (out44 v) := tree_pure knil ok44 (s := .c0 a8 a9 a10 a11 a12) rfl (by kernel_rfl) v h

/-! F96 -/
inductive S96 where
  | c0 (a60 : Int)
def out96 (v : Int) : AV := (.d (.v (.int .i64 v)))
noncomputable def st96 : S96 → ASt
  | .c0 a60 => ent cfz 96 [(.d (.v (.int .i64 a60)))]
noncomputable def B96 : S96 → Tr S96 (Int)
  | .c0 a60 => (.triv _ (tv_s (decide (a60 < -1000000) == false)) (.triv _ (tv_f (decide (a60 < -1000000))) (.bind (F77 (if decide (a60 < -1000000) = true then true else decide (a60 > 1000000)) 4) fun v61 =>
  (.sees [(.d (.v (.bool (if decide (a60 < -1000000) = true then true else decide (a60 > 1000000))))), (.d (.v (.int .i64 4)))] (.ret v61)))))
noncomputable def F96 (a60 : Int) : Option (Int) := res B96 (.c0 a60)
noncomputable def D96_0 (a60 : Int) : DT cfz := (.go 12 [(.sp .none), (.sp .none), .mg] [] (.bind (f77 (if decide (a60 < -1000000) = true then true else decide (a60 > 1000000)) 4) fun v61 => (.go 4 [(.ck 0)] [] .fin)))
theorem k96_0 (a60 : Int) : xrun cfz 96 (D96_0 a60) [] (st96 (.c0 a60)) = (B96 (.c0 a60)).mach st96 out96 := by kernel_rfl
theorem ok96 : ∀ s, ∃ d, xrun cfz 96 d [] (st96 s) = (B96 s).mach st96 out96
  | .c0 a60 => ⟨_, k96_0 a60⟩
theorem f96 (a60 : Int) (v : Int) (h : F96 a60 = some v) : PureCalls cfz.P cfz.glob 96 [(.d (.v (.int .i64 a60)))] (out96 v) := tree_pure knil ok96 (s := .c0 a60) rfl (by kernel_rfl) v h

/-! F45 -/
inductive S45 where
  | c0 (a51 : Int) (a52 : Int) (a53 : Int) (a54 : Int) (a55 : Int) (a56 : Int)
def out45 (v : Int × Int × Int × Int × Int × Int) : AV := (.tup [(.agg [(.d (.v (.int .i64 v.fst))), (.d (.v (.int .i64 v.snd.fst))), (.d (.v (.int .i64 v.snd.snd.fst))), (.d (.v (.int .i64 v.snd.snd.snd.fst)))]), (.d (.v (.int .i64 v.snd.snd.snd.snd.fst))), (.d (.v (.int .i64 v.snd.snd.snd.snd.snd)))])
noncomputable def st45 : S45 → ASt
  | .c0 a51 a52 a53 a54 a55 a56 => ent cfz 45 [(.agg [(.d (.v (.int .i64 a51))), (.d (.v (.int .i64 a52))), (.d (.v (.int .i64 a53))), (.d (.v (.int .i64 a54)))]), (.d (.v (.int .i64 a55))), (.d (.v (.int .i64 a56)))]
noncomputable def B45 : S45 → Tr S45 (Int × Int × Int × Int × Int × Int)
  | .c0 a51 a52 a53 a54 a55 a56 => (.bind (F95 a51 a52 a53 a54 a55) fun v57 =>
  (.sees [(.agg [(.d (.v (.int .i64 a51))), (.d (.v (.int .i64 a52))), (.d (.v (.int .i64 a53))), (.d (.v (.int .i64 a54)))]), (.d (.v (.int .i64 a55)))] (.bind (F89 a56 0 200000000) fun v58 =>
  (.sees [(.d (.v (.int .i64 a56))), (.d (.v (.int .i64 0))), (.d (.v (.int .i64 200000000)))] (.bind (F75 2 [(.v (.int .i64 v57)), (.v (.int .i64 v58))]) fun v59 =>
  (.sees [(.d (.sl 2 [(.v (.int .i64 v57)), (.v (.int .i64 v58))]))] (.br (v59 != 0)
  (.ret (0, 0, 0, 0, 0, v59))
  (.ask (.in64 (a56 - a55)) (.bind (F96 (a56 - a55)) fun v62 =>
  (.sees [(.d (.v (.int .i64 (a56 - a55))))] (.br (v62 != 0)
  (.ret (0, 0, 0, 0, 0, v62))
  (.bind (F92 a51 a52 a53 a54 a55) fun v63 =>
  (.ask (.in64 (a56 - a55)) (.sees [(.agg [(.d (.v (.int .i64 a51))), (.d (.v (.int .i64 a52))), (.d (.v (.int .i64 a53))), (.d (.v (.int .i64 a54)))]), (.d (.v (.int .i64 a55)))] (.ask (.in64 (a56 - v63)) (.ret (a55, (a56 - a55), 0, a54, (a56 - v63), 0)))))))))))))))))
noncomputable def F45 (a51 : Int) (a52 : Int) (a53 : Int) (a54 : Int) (a55 : Int) (a56 : Int) : Option (Int × Int × Int × Int × Int × Int) := res B45 (.c0 a51 a52 a53 a54 a55 a56)
noncomputable def D45_0 (a51 : Int) (a52 : Int) (a53 : Int) (a54 : Int) (a55 : Int) (a56 : Int) : DT cfz := (.go 12 [] [] (.bind (f95 a51 a52 a53 a54 a55) fun v57 => (.go 2 [(.ck 0)] [] (.bind (f89 a56 0 200000000) fun v58 => (.go 2 [(.ck 1)] [] (.bind (f75 2 [(.v (.int .i64 v57)), (.v (.int .i64 v58))]) fun v59 => (.go 8 [(.ck 2)] [] (.split 19 (.go 10 [(.br true)] [0] .fin) (.go 8 [(.br false)] [0] (.bind (f96 (a56 - a55)) fun v62 => (.go 8 [(.ck 3)] [] (.split 27 (.go 10 [(.br true)] [0] .fin) (.go 4 [(.br false)] [0] (.bind (f92 a51 a52 a53 a54 a55) fun v63 => (.go 2 [(.ck 4)] [] .fin)))))))))))))))
theorem k45_0 (a51 : Int) (a52 : Int) (a53 : Int) (a54 : Int) (a55 : Int) (a56 : Int) : xrun cfz 45 (D45_0 a51 a52 a53 a54 a55 a56) [] (st45 (.c0 a51 a52 a53 a54 a55 a56)) = (B45 (.c0 a51 a52 a53 a54 a55 a56)).mach st45 out45 := by kernel_rfl
theorem ok45 : ∀ s, ∃ d, xrun cfz 45 d [] (st45 s) = (B45 s).mach st45 out45
  | .c0 a51 a52 a53 a54 a55 a56 => ⟨_, k45_0 a51 a52 a53 a54 a55 a56⟩
theorem f45 (a51 : Int) (a52 : Int) (a53 : Int) (a54 : Int) (a55 : Int) (a56 : Int) (v : Int × Int × Int × Int × Int × Int) (h : F45 a51 a52 a53 a54 a55 a56 = some v) : PureCalls cfz.P cfz.glob 45 [(.agg [(.d (.v (.int .i64 a51))), (.d (.v (.int .i64 a52))), (.d (.v (.int .i64 a53))), (.d (.v (.int .i64 a54)))]), (.d (.v (.int .i64 a55))), (.d (.v (.int .i64 a56)))] (out45 v) := tree_pure knil ok45 (s := .c0 a51 a52 a53 a54 a55 a56) rfl (by kernel_rfl) v h

/-! F46 -/
inductive S46 where
  | c0 (a65 : Int) (a66 : Int) (a67 : Int) (a68 : Int) (a69 : Int) (a70 : Int) (a71 : Int)
def out46 (v : Int × Int × Int × Int × Int) : AV := (.tup [(.agg [(.d (.v (.int .i64 v.fst))), (.d (.v (.int .i64 v.snd.fst))), (.d (.v (.int .i64 v.snd.snd.fst))), (.d (.v (.int .i64 v.snd.snd.snd.fst)))]), (.d (.v (.int .i64 v.snd.snd.snd.snd)))])
noncomputable def st46 : S46 → ASt
  | .c0 a65 a66 a67 a68 a69 a70 a71 => ent cfz 46 [(.agg [(.d (.v (.int .i64 a65))), (.d (.v (.int .i64 a66))), (.d (.v (.int .i64 a67))), (.d (.v (.int .i64 a68)))]), (.d (.v (.int .i64 a69))), (.d (.v (.int .i64 a70))), (.d (.v (.int .i64 a71)))]
noncomputable def B46 : S46 → Tr S46 (Int × Int × Int × Int × Int)
  | .c0 a65 a66 a67 a68 a69 a70 a71 => (.bind (F95 a65 a66 a67 a68 a69) fun v72 =>
  (.sees [(.agg [(.d (.v (.int .i64 a65))), (.d (.v (.int .i64 a66))), (.d (.v (.int .i64 a67))), (.d (.v (.int .i64 a68)))]), (.d (.v (.int .i64 a69)))] (.bind (F89 a70 (-1000) 1000) fun v73 =>
  (.sees [(.d (.v (.int .i64 a70))), (.d (.v (.int .i64 (-1000)))), (.d (.v (.int .i64 1000)))] (.bind (F89 a71 2 1000) fun v74 =>
  (.sees [(.d (.v (.int .i64 a71))), (.d (.v (.int .i64 2))), (.d (.v (.int .i64 1000)))] (.bind (F75 3 [(.v (.int .i64 v72)), (.v (.int .i64 v73)), (.v (.int .i64 v74))]) fun v75 =>
  (.sees [(.d (.sl 3 [(.v (.int .i64 v72)), (.v (.int .i64 v73)), (.v (.int .i64 v74))]))] (.br (v75 != 0)
  (.ret (0, 0, 0, 0, v75))
  (.bind (F92 a65 a66 a67 a68 a69) fun v76 =>
  (.sees [(.agg [(.d (.v (.int .i64 a65))), (.d (.v (.int .i64 a66))), (.d (.v (.int .i64 a67))), (.d (.v (.int .i64 a68)))]), (.d (.v (.int .i64 a69)))] (.ask (.in64 (v76 - a69)) (.bind (F96 (v76 - a69)) fun v77 =>
  (.sees [(.d (.v (.int .i64 (v76 - a69))))] (.br (v77 != 0)
  (.ret (0, 0, 0, 0, v77))
  (.ret (a69, (v76 - a69), a70, a71, 0)))))))))))))))))
noncomputable def F46 (a65 : Int) (a66 : Int) (a67 : Int) (a68 : Int) (a69 : Int) (a70 : Int) (a71 : Int) : Option (Int × Int × Int × Int × Int) := res B46 (.c0 a65 a66 a67 a68 a69 a70 a71)
noncomputable def D46_0 (a65 : Int) (a66 : Int) (a67 : Int) (a68 : Int) (a69 : Int) (a70 : Int) (a71 : Int) : DT cfz := (.go 11 [] [] (.bind (f95 a65 a66 a67 a68 a69) fun v72 => (.go 2 [(.ck 0)] [] (.bind (f89 a70 (-1000) 1000) fun v73 => (.go 2 [(.ck 1)] [] (.bind (f89 a71 2 1000) fun v74 => (.go 2 [(.ck 2)] [] (.bind (f75 3 [(.v (.int .i64 v72)), (.v (.int .i64 v73)), (.v (.int .i64 v74))]) fun v75 => (.go 8 [(.ck 3)] [] (.split 23 (.go 9 [(.br true)] [0] .fin) (.go 6 [(.br false)] [0] (.bind (f92 a65 a66 a67 a68 a69) fun v76 => (.go 9 [(.ck 4)] [] (.bind (f96 (v76 - a69)) fun v77 => (.go 8 [(.ck 5)] [] (.split 34 (.go 9 [(.br true)] [0] .fin) (.go 13 [(.br false)] [0] .fin)))))))))))))))))
theorem k46_0 (a65 : Int) (a66 : Int) (a67 : Int) (a68 : Int) (a69 : Int) (a70 : Int) (a71 : Int) : xrun cfz 46 (D46_0 a65 a66 a67 a68 a69 a70 a71) [] (st46 (.c0 a65 a66 a67 a68 a69 a70 a71)) = (B46 (.c0 a65 a66 a67 a68 a69 a70 a71)).mach st46 out46 := by kernel_rfl
theorem ok46 : ∀ s, ∃ d, xrun cfz 46 d [] (st46 s) = (B46 s).mach st46 out46
  | .c0 a65 a66 a67 a68 a69 a70 a71 => ⟨_, k46_0 a65 a66 a67 a68 a69 a70 a71⟩
theorem f46 (a65 : Int) (a66 : Int) (a67 : Int) (a68 : Int) (a69 : Int) (a70 : Int) (a71 : Int) (v : Int × Int × Int × Int × Int) (h : F46 a65 a66 a67 a68 a69 a70 a71 = some v) : PureCalls cfz.P cfz.glob 46 [(.agg [(.d (.v (.int .i64 a65))), (.d (.v (.int .i64 a66))), (.d (.v (.int .i64 a67))), (.d (.v (.int .i64 a68)))]), (.d (.v (.int .i64 a69))), (.d (.v (.int .i64 a70))), (.d (.v (.int .i64 a71)))] (out46 v) := tree_pure knil ok46 (s := .c0 a65 a66 a67 a68 a69 a70 a71) rfl (by kernel_rfl) v h

/-! F82 -/
inductive S82 where
  | c0 (a91 : Bool) (a92 : Int)
def out82 (v : Int) : AV := (.d (.v (.int .i64 v)))
noncomputable def st82 : S82 → ASt
  | .c0 a91 a92 => ent cfz 82 [(.d (.v (.bool a91))), (.d (.v (.int .i64 a92)))]
noncomputable def B82 : S82 → Tr S82 (Int)
  | .c0 a91 a92 => (.br a91
  (.ret a92)
  (.ret 0))
noncomputable def F82 (a91 : Bool) (a92 : Int) : Option (Int) := res B82 (.c0 a91 a92)
noncomputable def D82_0 (a91 : Bool) (a92 : Int) : DT cfz := (.go 9 [] [] (.split 5 (.go 7 [(.br true)] [0] .fin) (.go 7 [(.br false)] [0] .fin)))
theorem k82_0 (a91 : Bool) (a92 : Int) : xrun cfz 82 (D82_0 a91 a92) [] (st82 (.c0 a91 a92)) = (B82 (.c0 a91 a92)).mach st82 out82 := by kernel_rfl
theorem ok82 : ∀ s, ∃ d, xrun cfz 82 d [] (st82 s) = (B82 s).mach st82 out82
  | .c0 a91 a92 => ⟨_, k82_0 a91 a92⟩
theorem f82 (a91 : Bool) (a92 : Int) (v : Int) (h : F82 a91 a92 = some v) : PureCalls cfz.P cfz.glob 82 [(.d (.v (.bool a91))), (.d (.v (.int .i64 a92)))] (out82 v) := tree_pure knil ok82 (s := .c0 a91 a92) rfl (by kernel_rfl) v h

/-! F34 -/
inductive S34 where
  | c0 (a88 : Int) (a89 : Int) (a90 : Int)
def out34 (v : Int) : AV := (.d (.v (.int .i64 v)))
noncomputable def st34 : S34 → ASt
  | .c0 a88 a89 a90 => ent cfz 34 [(.d (.v (.int .i64 a88))), (.d (.v (.int .i64 a89))), (.d (.v (.int .i64 a90)))]
noncomputable def B34 : S34 → Tr S34 (Int)
  | .c0 a88 a89 a90 => (.triv _ (tv_s (decide (a88 < a89) == false)) (.triv _ (tv_s (decide (a88 < a89) == false)) (.triv _ (tv_f (decide (a88 < a89))) (.bind (F82 (if decide (a88 < a89) = true then true else decide (a88 > a90)) 3) fun v93 =>
  (.sees [(.d (.v (.bool (if decide (a88 < a89) = true then true else decide (a88 > a90))))), (.d (.v (.int .i64 3)))] (.ret v93))))))
noncomputable def F34 (a88 : Int) (a89 : Int) (a90 : Int) : Option (Int) := res B34 (.c0 a88 a89 a90)
noncomputable def D34_0 (a88 : Int) (a89 : Int) (a90 : Int) : DT cfz := (.go 14 [(.sp .none), (.sp .none), (.sp .none), .mg] [] (.bind (f82 (if decide (a88 < a89) = true then true else decide (a88 > a90)) 3) fun v93 => (.go 4 [(.ck 0)] [] .fin)))
theorem k34_0 (a88 : Int) (a89 : Int) (a90 : Int) : xrun cfz 34 (D34_0 a88 a89 a90) [] (st34 (.c0 a88 a89 a90)) = (B34 (.c0 a88 a89 a90)).mach st34 out34 := by kernel_rfl
theorem ok34 : ∀ s, ∃ d, xrun cfz 34 d [] (st34 s) = (B34 s).mach st34 out34
  | .c0 a88 a89 a90 => ⟨_, k34_0 a88 a89 a90⟩
theorem f34 (a88 : Int) (a89 : Int) (a90 : Int) (v : Int) (h : F34 a88 a89 a90 = some v) : PureCalls cfz.P cfz.glob 34 [(.d (.v (.int .i64 a88))), (.d (.v (.int .i64 a89))), (.d (.v (.int .i64 a90)))] (out34 v) := tree_pure knil ok34 (s := .c0 a88 a89 a90) rfl (by kernel_rfl) v h

/-! F24 -/
inductive S24 where
  | c0 (a98 : Nat) (a99 : List DV)
  | c1 (x100 : Nat) (x101 : List DV) (y102 : Int)
def out24 (v : Int) : AV := (.d (.v (.int .i64 v)))
noncomputable def st24 : S24 → ASt
  | .c0 a98 a99 => ent cfz 24 [(.d (.sl a98 a99))]
  | .c1 x100 x101 y102 => ⟨⟨24, sp 19 0 [(0, (.d (.sl x100 x101))), (3, (.d (.v (.int .i64 y102))))], [(.code (cd cfz.P 24 [1, 0, 1, 0, 0])), (.inLoop (cd cfz.P 24 [1, 0, 1, 0, 0])), (.inBlock 0), (.code (cd cfz.P 24 [1, 1]))], [], false, .none⟩, [], []⟩
noncomputable def B24 : S24 → Tr S24 (Int)
  | .c0 a98 a99 => (.nxt (.c1 a98 a99 0))
  | .c1 x100 x101 y102 => (.br (decide (y102 < (↑x100 : Int)))
  (.ask (.le 0 y102) (.ask (.lt y102 ((↑x100 : Int))) (.ask (.leN (y102.toNat * 1) x101.length) (.ask (.prop (Option.map AV.d (List.drop (y102.toNat * 1) x101)[0]? = some (AV.d (DV.v (Value.int IntKind.i64 (dI (cel x101 (y102.toNat * 1)))))))) (.br (dI (cel x101 (y102.toNat * 1)) != 0)
  (.ask (.le 0 y102) (.ask (.lt y102 ((↑x100 : Int))) (.ask (.leN (y102.toNat * 1) x101.length) (.ask (.prop (Option.map AV.d (List.drop (y102.toNat * 1) x101)[0]? = some (AV.d (DV.v (Value.int IntKind.i64 (dI (cel x101 (y102.toNat * 1)))))))) (.ret (dI (cel x101 (y102.toNat * 1))))))))
  (.ask (.in64 (y102 + 1)) (.nxt (.c1 x100 x101 (y102 + 1)))))))))
  (.ret 0))
noncomputable def F24 (a98 : Nat) (a99 : List DV) : Option (Int) := res B24 (.c0 a98 a99)
noncomputable def D24_0 (a98 : Nat) (a99 : List DV) : DT cfz := (.go 11 [] [] (.cut 0 [[0, 3]] []))
theorem k24_0 (a98 : Nat) (a99 : List DV) : xrun cfz 24 (D24_0 a98 a99) [] (st24 (.c0 a98 a99)) = (B24 (.c0 a98 a99)).mach st24 out24 := by kernel_rfl
noncomputable def D24_1 (x100 : Nat) (x101 : List DV) (y102 : Int) : DT cfz := (.go 8 [] [] (.split 7 (.go 12 [(.br true), (.as (.d (.v (.int .i64 (dI (cel x101 (y102.toNat * 1)))))))] [0] (.split 14 (.go 10 [(.br true), (.as (.d (.v (.int .i64 (dI (cel x101 (y102.toNat * 1)))))))] [0] .fin) (.go 9 [(.br false)] [0] (.cut 0 [[0, 3]] [])))) (.go 7 [(.br false)] [0] .fin)))
theorem k24_1 (x100 : Nat) (x101 : List DV) (y102 : Int) : xrun cfz 24 (D24_1 x100 x101 y102) [] (st24 (.c1 x100 x101 y102)) = (B24 (.c1 x100 x101 y102)).mach st24 out24 := by kernel_rfl
theorem ok24 : ∀ s, ∃ d, xrun cfz 24 d [] (st24 s) = (B24 s).mach st24 out24
  | .c0 a98 a99 => ⟨_, k24_0 a98 a99⟩
  | .c1 x100 x101 y102 => ⟨_, k24_1 x100 x101 y102⟩
theorem f24 (a98 : Nat) (a99 : List DV) (v : Int) (h : F24 a98 a99 = some v) : PureCalls cfz.P cfz.glob 24 [(.d (.sl a98 a99))] (out24 v) := tree_pure knil ok24 (s := .c0 a98 a99) rfl (by kernel_rfl) v h

/-! F40 -/
inductive S40 where
  | c0 (a84 : Int) (a85 : Int) (a86 : Int) (a87 : Int)
def out40 (v : Int) : AV := (.d (.v (.int .i64 v)))
noncomputable def st40 : S40 → ASt
  | .c0 a84 a85 a86 a87 => ent cfz 40 [(.agg [(.d (.v (.int .i64 a84))), (.d (.v (.int .i64 a85))), (.d (.v (.int .i64 a86))), (.d (.v (.int .i64 a87)))])]
noncomputable def B40 : S40 → Tr S40 (Int)
  | .c0 a84 a85 a86 a87 => (.bind (F34 a84 0 100000000) fun v94 =>
  (.bind (F34 a85 (-1000000) 1000000) fun v95 =>
  (.bind (F34 a86 (-1000) 1000) fun v96 =>
  (.bind (F34 a87 2 1000) fun v97 =>
  (.bind (F24 4 [(.v (.int .i64 v94)), (.v (.int .i64 v95)), (.v (.int .i64 v96)), (.v (.int .i64 v97))]) fun v103 =>
  (.sees [(.d (.v (.int .i64 a84))), (.d (.v (.int .i64 0))), (.d (.v (.int .i64 100000000)))] (.sees [(.d (.v (.int .i64 a85))), (.d (.v (.int .i64 (-1000000)))), (.d (.v (.int .i64 1000000)))] (.sees [(.d (.v (.int .i64 a86))), (.d (.v (.int .i64 (-1000)))), (.d (.v (.int .i64 1000)))] (.sees [(.d (.v (.int .i64 a87))), (.d (.v (.int .i64 2))), (.d (.v (.int .i64 1000)))] (.sees [(.d (.sl 4 [(.v (.int .i64 v94)), (.v (.int .i64 v95)), (.v (.int .i64 v96)), (.v (.int .i64 v97))]))] (.ret v103)))))))))))
noncomputable def F40 (a84 : Int) (a85 : Int) (a86 : Int) (a87 : Int) : Option (Int) := res B40 (.c0 a84 a85 a86 a87)
noncomputable def D40_0 (a84 : Int) (a85 : Int) (a86 : Int) (a87 : Int) : DT cfz := (.go 7 [] [] (.bind (f34 a84 0 100000000) fun v94 => (.bind (f34 a85 (-1000000) 1000000) fun v95 => (.bind (f34 a86 (-1000) 1000) fun v96 => (.bind (f34 a87 2 1000) fun v97 => (.bind (f24 4 [(.v (.int .i64 v94)), (.v (.int .i64 v95)), (.v (.int .i64 v96)), (.v (.int .i64 v97))]) fun v103 => (.go 2 [(.ck 0), (.ck 1), (.ck 2), (.ck 3), (.ck 4)] [] .fin)))))))
theorem k40_0 (a84 : Int) (a85 : Int) (a86 : Int) (a87 : Int) : xrun cfz 40 (D40_0 a84 a85 a86 a87) [] (st40 (.c0 a84 a85 a86 a87)) = (B40 (.c0 a84 a85 a86 a87)).mach st40 out40 := by kernel_rfl
theorem ok40 : ∀ s, ∃ d, xrun cfz 40 d [] (st40 s) = (B40 s).mach st40 out40
  | .c0 a84 a85 a86 a87 => ⟨_, k40_0 a84 a85 a86 a87⟩
theorem f40 (a84 : Int) (a85 : Int) (a86 : Int) (a87 : Int) (v : Int) (h : F40 a84 a85 a86 a87 = some v) : PureCalls cfz.P cfz.glob 40 [(.agg [(.d (.v (.int .i64 a84))), (.d (.v (.int .i64 a85))), (.d (.v (.int .i64 a86))), (.d (.v (.int .i64 a87)))])] (out40 v) := tree_pure knil ok40 (s := .c0 a84 a85 a86 a87) rfl (by kernel_rfl) v h

/-! F47 -/
inductive S47 where
  | c0 (a79 : Int) (a80 : Int) (a81 : Int) (a82 : Int) (a83 : Int)
def out47 (v : Int) : AV := (.d (.v (.int .i64 v)))
noncomputable def st47 : S47 → ASt
  | .c0 a79 a80 a81 a82 a83 => ent cfz 47 [(.agg [(.d (.v (.int .i64 a79))), (.d (.v (.int .i64 a80))), (.d (.v (.int .i64 a81))), (.d (.v (.int .i64 a82)))]), (.d (.v (.int .i64 a83)))]
noncomputable def B47 : S47 → Tr S47 (Int)
  | .c0 a79 a80 a81 a82 a83 => (.bind (F40 a79 a80 a81 a82) fun v104 =>
  (.bind (F34 a83 0 100000000) fun v105 =>
  (.bind (F82 (decide (a83 < a79)) 11) fun v106 =>
  (.bind (F24 3 [(.v (.int .i64 v104)), (.v (.int .i64 v105)), (.v (.int .i64 v106))]) fun v107 =>
  (.sees [(.agg [(.d (.v (.int .i64 a79))), (.d (.v (.int .i64 a80))), (.d (.v (.int .i64 a81))), (.d (.v (.int .i64 a82)))])] (.sees [(.d (.v (.int .i64 a83))), (.d (.v (.int .i64 0))), (.d (.v (.int .i64 100000000)))] (.sees [(.d (.v (.bool (decide (a83 < a79))))), (.d (.v (.int .i64 11)))] (.sees [(.d (.sl 3 [(.v (.int .i64 v104)), (.v (.int .i64 v105)), (.v (.int .i64 v106))]))] (.ret v107)))))))))
noncomputable def F47 (a79 : Int) (a80 : Int) (a81 : Int) (a82 : Int) (a83 : Int) : Option (Int) := res B47 (.c0 a79 a80 a81 a82 a83)
noncomputable def D47_0 (a79 : Int) (a80 : Int) (a81 : Int) (a82 : Int) (a83 : Int) : DT cfz := (.go 7 [] [] (.bind (f40 a79 a80 a81 a82) fun v104 => (.bind (f34 a83 0 100000000) fun v105 => (.bind (f82 (decide (a83 < a79)) 11) fun v106 => (.bind (f24 3 [(.v (.int .i64 v104)), (.v (.int .i64 v105)), (.v (.int .i64 v106))]) fun v107 => (.go 2 [(.ck 0), (.ck 1), (.ck 2), (.ck 3)] [] .fin))))))
theorem k47_0 (a79 : Int) (a80 : Int) (a81 : Int) (a82 : Int) (a83 : Int) : xrun cfz 47 (D47_0 a79 a80 a81 a82 a83) [] (st47 (.c0 a79 a80 a81 a82 a83)) = (B47 (.c0 a79 a80 a81 a82 a83)).mach st47 out47 := by kernel_rfl
theorem ok47 : ∀ s, ∃ d, xrun cfz 47 d [] (st47 s) = (B47 s).mach st47 out47
  | .c0 a79 a80 a81 a82 a83 => ⟨_, k47_0 a79 a80 a81 a82 a83⟩
theorem f47 (a79 : Int) (a80 : Int) (a81 : Int) (a82 : Int) (a83 : Int) (v : Int) (h : F47 a79 a80 a81 a82 a83 = some v) : PureCalls cfz.P cfz.glob 47 [(.agg [(.d (.v (.int .i64 a79))), (.d (.v (.int .i64 a80))), (.d (.v (.int .i64 a81))), (.d (.v (.int .i64 a82)))]), (.d (.v (.int .i64 a83)))] (out47 v) := tree_pure knil ok47 (s := .c0 a79 a80 a81 a82 a83) rfl (by kernel_rfl) v h

/-! F48 -/
inductive S48 where
  | c0 (a114 : Int) (a115 : Int) (a116 : Int) (a117 : Int) (a118 : Int)
def out48 (v : Int) : AV := (.d (.v (.int .i64 v)))
noncomputable def st48 : S48 → ASt
  | .c0 a114 a115 a116 a117 a118 => ent cfz 48 [(.agg [(.d (.v (.int .i64 a114))), (.d (.v (.int .i64 a115))), (.d (.v (.int .i64 a116))), (.d (.v (.int .i64 a117)))]), (.d (.v (.int .i64 a118)))]
noncomputable def B48 : S48 → Tr S48 (Int)
  | .c0 a114 a115 a116 a117 a118 => (.ask (.in64 (a118 - a114)) (.ask (.neI a117 0) (.ask (.in64 ((a118 - a114).tdiv a117)) (.br (decide (a116 < 0))
  (.ask (.in64 (a118 + a115)) (.ask (.in64 (0 - a116)) (.ask (.in64 (a118 + a115 - if (a118 - a114).tdiv a117 < 0 - a116 then (a118 - a114).tdiv a117 else 0 - a116)) (.ret (a118 + a115 - if (a118 - a114).tdiv a117 < 0 - a116 then (a118 - a114).tdiv a117 else 0 - a116)))))
  (.ask (.in64 (a118 + a115)) (.ask (.in64 (a118 + a115 + if (a118 - a114).tdiv a117 < a116 then (a118 - a114).tdiv a117 else a116)) (.ret (a118 + a115 + if (a118 - a114).tdiv a117 < a116 then (a118 - a114).tdiv a117 else a116))))))))
noncomputable def F48 (a114 : Int) (a115 : Int) (a116 : Int) (a117 : Int) (a118 : Int) : Option (Int) := res B48 (.c0 a114 a115 a116 a117 a118)
noncomputable def D48_0 (a114 : Int) (a115 : Int) (a116 : Int) (a117 : Int) (a118 : Int) : DT cfz := (.go 23 [] [] (.split 15 (.go 16 [(.br true)] [0] .fin) (.go 16 [(.br false)] [0] .fin)))
theorem k48_0 (a114 : Int) (a115 : Int) (a116 : Int) (a117 : Int) (a118 : Int) : xrun cfz 48 (D48_0 a114 a115 a116 a117 a118) [] (st48 (.c0 a114 a115 a116 a117 a118)) = (B48 (.c0 a114 a115 a116 a117 a118)).mach st48 out48 := by kernel_rfl
theorem ok48 : ∀ s, ∃ d, xrun cfz 48 d [] (st48 s) = (B48 s).mach st48 out48
  | .c0 a114 a115 a116 a117 a118 => ⟨_, k48_0 a114 a115 a116 a117 a118⟩
theorem f48 (a114 : Int) (a115 : Int) (a116 : Int) (a117 : Int) (a118 : Int) (v : Int) (h : F48 a114 a115 a116 a117 a118 = some v) : PureCalls cfz.P cfz.glob 48 [(.agg [(.d (.v (.int .i64 a114))), (.d (.v (.int .i64 a115))), (.d (.v (.int .i64 a116))), (.d (.v (.int .i64 a117)))]), (.d (.v (.int .i64 a118)))] (out48 v) := tree_pure knil ok48 (s := .c0 a114 a115 a116 a117 a118) rfl (by kernel_rfl) v h

/-! F49 -/
inductive S49 where
  | c0 (a146 : Int) (a147 : Int) (a148 : Int) (a149 : Int)
def out49 (v : Int × Int × Int × Int × Int) : AV := (.tup [(.agg [(.d (.v (.int .i64 v.fst))), (.d (.v (.int .i64 v.snd.fst))), (.d (.v (.int .i64 v.snd.snd.fst))), (.d (.v (.int .i64 v.snd.snd.snd.fst)))]), (.d (.v (.int .i64 v.snd.snd.snd.snd)))])
noncomputable def st49 : S49 → ASt
  | .c0 a146 a147 a148 a149 => ent cfz 49 [(.d (.v (.int .i64 a146))), (.d (.v (.int .i64 a147))), (.d (.v (.int .i64 a148))), (.d (.v (.int .i64 a149)))]
noncomputable def B49 : S49 → Tr S49 (Int × Int × Int × Int × Int)
  | .c0 a146 a147 a148 a149 => (.ask (.in64 (a147 - a146)) (.bind (F34 (a147 - a146) (-1000000) 1000000) fun v150 =>
  (.sees [(.d (.v (.int .i64 (a147 - a146)))), (.d (.v (.int .i64 (-1000000)))), (.d (.v (.int .i64 1000000)))] (.br (v150 != 0)
  (.ret (0, 0, 0, 0, 4))
  (.ask (.in64 (a147 - a146)) (.ret (a146, (a147 - a146), a148, a149, 0)))))))
noncomputable def F49 (a146 : Int) (a147 : Int) (a148 : Int) (a149 : Int) : Option (Int × Int × Int × Int × Int) := res B49 (.c0 a146 a147 a148 a149)
noncomputable def D49_0 (a146 : Int) (a147 : Int) (a148 : Int) (a149 : Int) : DT cfz := (.go 11 [] [] (.bind (f34 (a147 - a146) (-1000000) 1000000) fun v150 => (.go 3 [(.ck 0)] [] (.split 14 (.go 8 [(.br true)] [0] .fin) (.go 15 [(.br false)] [0] .fin)))))
theorem k49_0 (a146 : Int) (a147 : Int) (a148 : Int) (a149 : Int) : xrun cfz 49 (D49_0 a146 a147 a148 a149) [] (st49 (.c0 a146 a147 a148 a149)) = (B49 (.c0 a146 a147 a148 a149)).mach st49 out49 := by kernel_rfl
theorem ok49 : ∀ s, ∃ d, xrun cfz 49 d [] (st49 s) = (B49 s).mach st49 out49
  | .c0 a146 a147 a148 a149 => ⟨_, k49_0 a146 a147 a148 a149⟩
theorem f49 (a146 : Int) (a147 : Int) (a148 : Int) (a149 : Int) (v : Int × Int × Int × Int × Int) (h : F49 a146 a147 a148 a149 = some v) : PureCalls cfz.P cfz.glob 49 [(.d (.v (.int .i64 a146))), (.d (.v (.int .i64 a147))), (.d (.v (.int .i64 a148))), (.d (.v (.int .i64 a149)))] (out49 v) := tree_pure knil ok49 (s := .c0 a146 a147 a148 a149) rfl (by kernel_rfl) v h

/-! F7 -/
inductive S7 where
  | c0 (a0 : Int) (a1 : Int) (a2 : Int) (a3 : Int) (a4 : Int) (a5 : Int) (a6 : Int) (a7 : Int)
  | c1 (x120 : Int) (x121 : Int) (x122 : Int) (x123 : Int) (x124 : Int) (x125 : Int) (y126 : Int) (y127 : Int) (x128 : Int) (y129 : Int) (x130 : Int) (x131 : Int) (x132 : Int) (x133 : Int) (x134 : Int) (x135 : Int) (x136 : Int) (x137 : Int) (x138 : Int) (x139 : Int) (x140 : Int) (x141 : Int) (x142 : Int) (x143 : Int) (x144 : Int) (x145 : Int)
  | c2 (x152 : Int) (x153 : Int) (x154 : Int) (x155 : Int) (x156 : Int) (x157 : Int) (x158 : Int) (y159 : Int) (x160 : Int) (x161 : Int) (x162 : Int) (x163 : Int) (x164 : Int) (x165 : Int) (x166 : Int) (x167 : Int) (x168 : Int) (x169 : Int) (x170 : Int) (x171 : Int) (x172 : Int) (x173 : Int) (x174 : Int) (x175 : Int) (x176 : Int) (x177 : Int) (x178 : Int) (x179 : Int) (x180 : Int) (x181 : Int)
  | c3 (x183 : Int) (x184 : Int) (x185 : Int) (x186 : Int) (x187 : Int) (x188 : Int) (x189 : Int) (x190 : Int) (x191 : Int) (x192 : Int) (x193 : Int) (x194 : Int) (x195 : Int) (x196 : Int) (x197 : Int) (x198 : Int) (x199 : Int) (x200 : Int) (x201 : Int) (x202 : Int) (x203 : Int) (x204 : Int) (x205 : Int) (x206 : Int) (x207 : Int) (x208 : Int) (x209 : Int) (x210 : Int) (x211 : Int) (x212 : Int)
def out7 (v : Bool) : AV := (.d (.v (.bool v)))
noncomputable def st7 : S7 → ASt
  | .c0 a0 a1 a2 a3 a4 a5 a6 a7 => ent cfz 7 [(.agg [(.d (.v (.int .i64 a0))), (.d (.v (.int .i64 a1))), (.d (.v (.int .i64 a2))), (.d (.v (.int .i64 a3)))]), (.agg [(.d (.v (.int .i64 a4))), (.d (.v (.int .i64 a5))), (.d (.v (.int .i64 a6))), (.d (.v (.int .i64 a7)))])]
  | .c1 x120 x121 x122 x123 x124 x125 y126 y127 x128 y129 x130 x131 x132 x133 x134 x135 x136 x137 x138 x139 x140 x141 x142 x143 x144 x145 => ⟨⟨7, sp 148 0 [(2, (.ptr 0 0)), (3, (.ptr 1 0)), (5, (.d (.v (.int .i64 x120)))), (6, (.d (.v (.int .i64 x121)))), (7, (.ptr 2 0)), (8, (.d (.v (.int .i64 x122)))), (9, (.d (.v (.int .i64 x123)))), (10, (.ptr 3 0)), (11, (.d (.v (.int .i64 x124)))), (12, (.d (.v (.int .i64 x125)))), (13, (.d (.v (.int .i64 y126)))), (14, (.d (.v (.int .i64 y127)))), (15, (.d (.v (.int .i64 x128)))), (16, (.d (.v (.int .i64 y129)))), (17, (.ptr 13 0)), (18, (.ptr 14 0))], [(.code (cd cfz.P 7 [1, 1, 1, 1, 1, 1, 1, 1, 1, 1]))], [], false, .none⟩, [], [(.cells [(.d (.v (.int .i64 x130))), (.d (.v (.int .i64 x131))), (.d (.v (.int .i64 x132))), (.d (.v (.int .i64 x133)))] 82), (.cells [(.d (.v (.int .i64 x134))), (.d (.v (.int .i64 x135))), (.d (.v (.int .i64 x136))), (.d (.v (.int .i64 x137)))] 92), (.cells [(.d (.v (.int .i64 x138))), (.d (.v (.int .i64 x139))), (.d (.v (.int .i64 x140))), (.d (.v (.int .i64 x141)))] 85), (.cells [(.d (.v (.int .i64 x142))), (.d (.v (.int .i64 x143))), (.d (.v (.int .i64 x144))), (.d (.v (.int .i64 x145)))] 85), (.tail 0), .gone, .gone, .gone, .gone, .gone, .gone, .gone, (.tail 0), (.cells [(.d (.v (.int .i64 0))), (.d (.v (.int .i64 0))), (.d (.v (.int .i64 0))), (.d (.v (.int .i64 0)))] 82), (.cells [(.d (.v (.int .i64 0))), (.d (.v (.int .i64 0))), (.d (.v (.int .i64 0))), (.d (.v (.int .i64 0)))] 82)]⟩
  | .c2 x152 x153 x154 x155 x156 x157 x158 y159 x160 x161 x162 x163 x164 x165 x166 x167 x168 x169 x170 x171 x172 x173 x174 x175 x176 x177 x178 x179 x180 x181 => ⟨⟨7, sp 148 0 [(2, (.ptr 0 0)), (3, (.ptr 1 0)), (5, (.d (.v (.int .i64 x152)))), (6, (.d (.v (.int .i64 x153)))), (7, (.ptr 2 0)), (8, (.d (.v (.int .i64 x154)))), (9, (.d (.v (.int .i64 x155)))), (10, (.ptr 3 0)), (11, (.d (.v (.int .i64 x156)))), (12, (.d (.v (.int .i64 x157)))), (13, (.d (.v (.int .i64 x158)))), (14, (.d (.v (.int .i64 y159)))), (15, (.d (.v (.int .i64 x160)))), (16, (.d (.v (.int .i64 x161)))), (17, (.ptr 13 0)), (18, (.ptr 14 0))], [(.code (cd cfz.P 7 [1, 1, 1, 1, 1, 1, 1, 1, 1, 1, 1]))], [], false, .none⟩, [], [(.cells [(.d (.v (.int .i64 x162))), (.d (.v (.int .i64 x163))), (.d (.v (.int .i64 x164))), (.d (.v (.int .i64 x165)))] 82), (.cells [(.d (.v (.int .i64 x166))), (.d (.v (.int .i64 x167))), (.d (.v (.int .i64 x168))), (.d (.v (.int .i64 x169)))] 92), (.cells [(.d (.v (.int .i64 x170))), (.d (.v (.int .i64 x171))), (.d (.v (.int .i64 x172))), (.d (.v (.int .i64 x173)))] 85), (.cells [(.d (.v (.int .i64 x174))), (.d (.v (.int .i64 x175))), (.d (.v (.int .i64 x176))), (.d (.v (.int .i64 x177)))] 85), (.tail 0), .gone, .gone, .gone, .gone, .gone, .gone, .gone, (.tail 0), (.cells [(.d (.v (.int .i64 x178))), (.d (.v (.int .i64 x179))), (.d (.v (.int .i64 x180))), (.d (.v (.int .i64 x181)))] 82), (.cells [(.d (.v (.int .i64 0))), (.d (.v (.int .i64 0))), (.d (.v (.int .i64 0))), (.d (.v (.int .i64 0)))] 82)]⟩
  | .c3 x183 x184 x185 x186 x187 x188 x189 x190 x191 x192 x193 x194 x195 x196 x197 x198 x199 x200 x201 x202 x203 x204 x205 x206 x207 x208 x209 x210 x211 x212 => ⟨⟨7, sp 148 0 [(2, (.ptr 0 0)), (5, (.d (.v (.int .i64 x183)))), (6, (.d (.v (.int .i64 x184)))), (7, (.ptr 2 0)), (8, (.d (.v (.int .i64 x185)))), (9, (.d (.v (.int .i64 x186)))), (10, (.ptr 3 0)), (11, (.d (.v (.int .i64 x187)))), (12, (.d (.v (.int .i64 x188)))), (13, (.d (.v (.int .i64 x189)))), (14, (.d (.v (.int .i64 x190)))), (15, (.d (.v (.int .i64 x191)))), (16, (.d (.v (.int .i64 x192)))), (17, (.ptr 13 0)), (18, (.ptr 14 0))], [(.code (cd cfz.P 7 [1, 1, 1, 1, 1, 1, 1, 1, 1, 1, 1, 1]))], [], false, .none⟩, [], [(.cells [(.d (.v (.int .i64 x193))), (.d (.v (.int .i64 x194))), (.d (.v (.int .i64 x195))), (.d (.v (.int .i64 x196)))] 82), .dead, (.cells [(.d (.v (.int .i64 x197))), (.d (.v (.int .i64 x198))), (.d (.v (.int .i64 x199))), (.d (.v (.int .i64 x200)))] 85), (.cells [(.d (.v (.int .i64 x201))), (.d (.v (.int .i64 x202))), (.d (.v (.int .i64 x203))), (.d (.v (.int .i64 x204)))] 85), (.tail 0), .gone, .gone, .gone, .gone, .gone, .gone, .gone, (.tail 0), (.cells [(.d (.v (.int .i64 x205))), (.d (.v (.int .i64 x206))), (.d (.v (.int .i64 x207))), (.d (.v (.int .i64 x208)))] 82), (.cells [(.d (.v (.int .i64 x209))), (.d (.v (.int .i64 x210))), (.d (.v (.int .i64 x211))), (.d (.v (.int .i64 x212)))] 82)]⟩
noncomputable def B7 : S7 → Tr S7 (Bool)
  | .c0 a0 a1 a2 a3 a4 a5 a6 a7 => (.bind (F44 a0 a1 a2 a3 a4) fun v50 =>
  (.sees [(.agg [(.d (.v (.int .i64 a0))), (.d (.v (.int .i64 a1))), (.d (.v (.int .i64 a2))), (.d (.v (.int .i64 a3)))]), (.d (.v (.int .i64 a4)))] (.bind (F45 a0 a1 a2 a3 a4 a5) fun v64 =>
  (.sees [(.agg [(.d (.v (.int .i64 a0))), (.d (.v (.int .i64 a1))), (.d (.v (.int .i64 a2))), (.d (.v (.int .i64 a3)))]), (.d (.v (.int .i64 a4))), (.d (.v (.int .i64 a5)))] (.bind (F46 a0 a1 a2 a3 a4 a6 a7) fun v78 =>
  (.sees [(.agg [(.d (.v (.int .i64 a0))), (.d (.v (.int .i64 a1))), (.d (.v (.int .i64 a2))), (.d (.v (.int .i64 a3)))]), (.d (.v (.int .i64 a4))), (.d (.v (.int .i64 a6))), (.d (.v (.int .i64 a7)))] (.bind (F47 a0 a1 a2 a3 a4) fun v108 =>
  (.sees [(.agg [(.d (.v (.int .i64 a0))), (.d (.v (.int .i64 a1))), (.d (.v (.int .i64 a2))), (.d (.v (.int .i64 a3)))]), (.d (.v (.int .i64 a4)))] (.bind (F34 a5 0 200000000) fun v109 =>
  (.sees [(.d (.v (.int .i64 a5))), (.d (.v (.int .i64 0))), (.d (.v (.int .i64 200000000)))] (.bind (F24 2 [(.v (.int .i64 v108)), (.v (.int .i64 v109))]) fun v110 =>
  (.sees [(.d (.sl 2 [(.v (.int .i64 v108)), (.v (.int .i64 v109))]))] (.bind (F34 a6 (-1000) 1000) fun v111 =>
  (.bind (F34 a7 2 1000) fun v112 =>
  (.bind (F24 3 [(.v (.int .i64 v108)), (.v (.int .i64 v111)), (.v (.int .i64 v112))]) fun v113 =>
  (.sees [(.d (.v (.int .i64 a6))), (.d (.v (.int .i64 (-1000)))), (.d (.v (.int .i64 1000)))] (.sees [(.d (.v (.int .i64 a7))), (.d (.v (.int .i64 2))), (.d (.v (.int .i64 1000)))] (.sees [(.d (.sl 3 [(.v (.int .i64 v108)), (.v (.int .i64 v111)), (.v (.int .i64 v112))]))] (.br (v108 == 0)
  (.bind (F48 a0 a1 a2 a3 a4) fun v119 =>
  (.sees [(.agg [(.d (.v (.int .i64 a0))), (.d (.v (.int .i64 a1))), (.d (.v (.int .i64 a2))), (.d (.v (.int .i64 a3)))]), (.d (.v (.int .i64 a4)))] (.nxt (.c1 v50.fst v50.snd v64.snd.snd.snd.snd.fst v64.snd.snd.snd.snd.snd v78.snd.snd.snd.snd v108 v110 v113 v119 0 a0 a1 a2 a3 a4 a5 a6 a7 v64.fst v64.snd.fst v64.snd.snd.fst v64.snd.snd.snd.fst v78.fst v78.snd.fst v78.snd.snd.fst v78.snd.snd.snd.fst))))
  (.nxt (.c1 v50.fst v50.snd v64.snd.snd.snd.snd.fst v64.snd.snd.snd.snd.snd v78.snd.snd.snd.snd v108 v110 v113 0 0 a0 a1 a2 a3 a4 a5 a6 a7 v64.fst v64.snd.fst v64.snd.snd.fst v64.snd.snd.snd.fst v78.fst v78.snd.fst v78.snd.snd.fst v78.snd.snd.snd.fst)))))))))))))))))))))
  | .c1 x120 x121 x122 x123 x124 x125 y126 y127 x128 y129 x130 x131 x132 x133 x134 x135 x136 x137 x138 x139 x140 x141 x142 x143 x144 x145 => (.br (y126 == 0)
  (.bind (F49 x134 x135 0 x133) fun v151 =>
  (.sees [(.d (.v (.int .i64 x134))), (.d (.v (.int .i64 x135))), (.d (.v (.int .i64 0))), (.d (.v (.int .i64 x133)))] (.br (v151.snd.snd.snd.snd == 0)
  (.ask (.in64 (x135 - x128)) (.nxt (.c2 x120 x121 x122 x123 x124 x125 v151.snd.snd.snd.snd y127 x128 (x135 - x128) x130 x131 x132 x133 x134 x135 x136 x137 x138 x139 x140 x141 x142 x143 x144 x145 v151.fst v151.snd.fst v151.snd.snd.fst v151.snd.snd.snd.fst)))
  (.nxt (.c2 x120 x121 x122 x123 x124 x125 v151.snd.snd.snd.snd y127 x128 y129 x130 x131 x132 x133 x134 x135 x136 x137 x138 x139 x140 x141 x142 x143 x144 x145 v151.fst v151.snd.fst v151.snd.snd.fst v151.snd.snd.snd.fst)))))
  (.nxt (.c2 x120 x121 x122 x123 x124 x125 y126 y127 x128 y129 x130 x131 x132 x133 x134 x135 x136 x137 x138 x139 x140 x141 x142 x143 x144 x145 0 0 0 0)))
  | .c2 x152 x153 x154 x155 x156 x157 x158 y159 x160 x161 x162 x163 x164 x165 x166 x167 x168 x169 x170 x171 x172 x173 x174 x175 x176 x177 x178 x179 x180 x181 => (.br (y159 == 0)
  (.bind (F49 x166 x160 x168 x169) fun v182 =>
  (.sees [(.d (.v (.int .i64 x166))), (.d (.v (.int .i64 x160))), (.d (.v (.int .i64 x168))), (.d (.v (.int .i64 x169)))] (.nxt (.c3 x152 x153 x154 x155 x156 x157 x158 v182.snd.snd.snd.snd x160 x161 x162 x163 x164 x165 x170 x171 x172 x173 x174 x175 x176 x177 x178 x179 x180 x181 v182.fst v182.snd.fst v182.snd.snd.fst v182.snd.snd.snd.fst))))
  (.nxt (.c3 x152 x153 x154 x155 x156 x157 x158 y159 x160 x161 x162 x163 x164 x165 x170 x171 x172 x173 x174 x175 x176 x177 x178 x179 x180 x181 0 0 0 0)))
  | .c3 x183 x184 x185 x186 x187 x188 x189 x190 x191 x192 x193 x194 x195 x196 x197 x198 x199 x200 x201 x202 x203 x204 x205 x206 x207 x208 x209 x210 x211 x212 => (.bind (F50 x193 x194 x195 x196) fun v213 =>
  (.bind (F40 x193 x194 x195 x196) fun v214 =>
  (.bind (F12) fun v215 =>
  (.sees [(.agg [(.d (.v (.int .i64 x193))), (.d (.v (.int .i64 x194))), (.d (.v (.int .i64 x195))), (.d (.v (.int .i64 x196)))])] (.sees [(.agg [(.d (.v (.int .i64 x193))), (.d (.v (.int .i64 x194))), (.d (.v (.int .i64 x195))), (.d (.v (.int .i64 x196)))])] (.triv _ (tv_s ((v213 == v214) == true)) (.triv _ (tv_s ((v213 == v214) == true)) (.triv _ (tv_t (v213 == v214)) (.triv _ (tv_s ((if (v213 == v214) = true then x183 == x191 else false) == true)) (.triv _ (tv_s ((if (v213 == v214) = true then x183 == x191 else false) == true)) (.triv _ (tv_t (if (v213 == v214) = true then x183 == x191 else false)) (.triv _ (tv_s ((if (if (v213 == v214) = true then x183 == x191 else false) = true then x184 == x188 else false) == true)) (.triv _ (tv_s ((if (if (v213 == v214) = true then x183 == x191 else false) = true then x184 == x188 else false) == true)) (.triv _ (tv_t (if (if (v213 == v214) = true then x183 == x191 else false) = true then x184 == x188 else false)) (.triv _ (tv_s ((if (if (if (v213 == v214) = true then x183 == x191 else false) = true then x184 == x188 else false) = true then if true = true then x197 == x205 && (x198 == x206 && (x199 == x207 && (x200 == x208 && true))) else !(x197 == x205 && (x198 == x206 && (x199 == x207 && (x200 == x208 && true)))) else false) == true)) (.triv _ (tv_s ((if (if (if (v213 == v214) = true then x183 == x191 else false) = true then x184 == x188 else false) = true then if true = true then x197 == x205 && (x198 == x206 && (x199 == x207 && (x200 == x208 && true))) else !(x197 == x205 && (x198 == x206 && (x199 == x207 && (x200 == x208 && true)))) else false) == true)) (.triv _ (tv_t (if (if (if (v213 == v214) = true then x183 == x191 else false) = true then x184 == x188 else false) = true then if true = true then x197 == x205 && (x198 == x206 && (x199 == x207 && (x200 == x208 && true))) else !(x197 == x205 && (x198 == x206 && (x199 == x207 && (x200 == x208 && true)))) else false)) (.triv _ (tv_s ((if (if (if (if (v213 == v214) = true then x183 == x191 else false) = true then x184 == x188 else false) = true then if true = true then x197 == x205 && (x198 == x206 && (x199 == x207 && (x200 == x208 && true))) else !(x197 == x205 && (x198 == x206 && (x199 == x207 && (x200 == x208 && true)))) else false) = true then x185 == x192 else false) == true)) (.triv _ (tv_s ((if (if (if (if (v213 == v214) = true then x183 == x191 else false) = true then x184 == x188 else false) = true then if true = true then x197 == x205 && (x198 == x206 && (x199 == x207 && (x200 == x208 && true))) else !(x197 == x205 && (x198 == x206 && (x199 == x207 && (x200 == x208 && true)))) else false) = true then x185 == x192 else false) == true)) (.triv _ (tv_t (if (if (if (if (v213 == v214) = true then x183 == x191 else false) = true then x184 == x188 else false) = true then if true = true then x197 == x205 && (x198 == x206 && (x199 == x207 && (x200 == x208 && true))) else !(x197 == x205 && (x198 == x206 && (x199 == x207 && (x200 == x208 && true)))) else false) = true then x185 == x192 else false)) (.triv _ (tv_s ((if (if (if (if (if (v213 == v214) = true then x183 == x191 else false) = true then x184 == x188 else false) = true then if true = true then x197 == x205 && (x198 == x206 && (x199 == x207 && (x200 == x208 && true))) else !(x197 == x205 && (x198 == x206 && (x199 == x207 && (x200 == x208 && true)))) else false) = true then x185 == x192 else false) = true then x186 == x189 else false) == true)) (.triv _ (tv_s ((if (if (if (if (if (v213 == v214) = true then x183 == x191 else false) = true then x184 == x188 else false) = true then if true = true then x197 == x205 && (x198 == x206 && (x199 == x207 && (x200 == x208 && true))) else !(x197 == x205 && (x198 == x206 && (x199 == x207 && (x200 == x208 && true)))) else false) = true then x185 == x192 else false) = true then x186 == x189 else false) == true)) (.triv _ (tv_t (if (if (if (if (if (v213 == v214) = true then x183 == x191 else false) = true then x184 == x188 else false) = true then if true = true then x197 == x205 && (x198 == x206 && (x199 == x207 && (x200 == x208 && true))) else !(x197 == x205 && (x198 == x206 && (x199 == x207 && (x200 == x208 && true)))) else false) = true then x185 == x192 else false) = true then x186 == x189 else false)) (.triv _ (tv_s ((if (if (if (if (if (if (v213 == v214) = true then x183 == x191 else false) = true then x184 == x188 else false) = true then if true = true then x197 == x205 && (x198 == x206 && (x199 == x207 && (x200 == x208 && true))) else !(x197 == x205 && (x198 == x206 && (x199 == x207 && (x200 == x208 && true)))) else false) = true then x185 == x192 else false) = true then x186 == x189 else false) = true then if true = true then x201 == x209 && (x202 == x210 && (x203 == x211 && (x204 == x212 && true))) else !(x201 == x209 && (x202 == x210 && (x203 == x211 && (x204 == x212 && true)))) else false) == true)) (.triv _ (tv_s ((if (if (if (if (if (if (v213 == v214) = true then x183 == x191 else false) = true then x184 == x188 else false) = true then if true = true then x197 == x205 && (x198 == x206 && (x199 == x207 && (x200 == x208 && true))) else !(x197 == x205 && (x198 == x206 && (x199 == x207 && (x200 == x208 && true)))) else false) = true then x185 == x192 else false) = true then x186 == x189 else false) = true then if true = true then x201 == x209 && (x202 == x210 && (x203 == x211 && (x204 == x212 && true))) else !(x201 == x209 && (x202 == x210 && (x203 == x211 && (x204 == x212 && true)))) else false) == true)) (.triv _ (tv_t (if (if (if (if (if (if (v213 == v214) = true then x183 == x191 else false) = true then x184 == x188 else false) = true then if true = true then x197 == x205 && (x198 == x206 && (x199 == x207 && (x200 == x208 && true))) else !(x197 == x205 && (x198 == x206 && (x199 == x207 && (x200 == x208 && true)))) else false) = true then x185 == x192 else false) = true then x186 == x189 else false) = true then if true = true then x201 == x209 && (x202 == x210 && (x203 == x211 && (x204 == x212 && true))) else !(x201 == x209 && (x202 == x210 && (x203 == x211 && (x204 == x212 && true)))) else false)) (.sees [] (.triv _ (tv_t (if (if (if (if (if (if (if (v213 == v214) = true then x183 == x191 else false) = true then x184 == x188 else false) = true then if true = true then x197 == x205 && (x198 == x206 && (x199 == x207 && (x200 == x208 && true))) else !(x197 == x205 && (x198 == x206 && (x199 == x207 && (x200 == x208 && true)))) else false) = true then x185 == x192 else false) = true then x186 == x189 else false) = true then if true = true then x201 == x209 && (x202 == x210 && (x203 == x211 && (x204 == x212 && true))) else !(x201 == x209 && (x202 == x210 && (x203 == x211 && (x204 == x212 && true)))) else false) = true then x187 == x190 else false)) (.ret (if (if (if (if (if (if (if (if (v213 == v214) = true then x183 == x191 else false) = true then x184 == x188 else false) = true then if true = true then x197 == x205 && (x198 == x206 && (x199 == x207 && (x200 == x208 && true))) else !(x197 == x205 && (x198 == x206 && (x199 == x207 && (x200 == x208 && true)))) else false) = true then x185 == x192 else false) = true then x186 == x189 else false) = true then if true = true then x201 == x209 && (x202 == x210 && (x203 == x211 && (x204 == x212 && true))) else !(x201 == x209 && (x202 == x210 && (x203 == x211 && (x204 == x212 && true)))) else false) = true then x187 == x190 else false) = true then v215 else false))))))))))))))))))))))))))))))
noncomputable def F7 (a0 : Int) (a1 : Int) (a2 : Int) (a3 : Int) (a4 : Int) (a5 : Int) (a6 : Int) (a7 : Int) : Option (Bool) := res B7 (.c0 a0 a1 a2 a3 a4 a5 a6 a7)
noncomputable def D7_0 (a0 : Int) (a1 : Int) (a2 : Int) (a3 : Int) (a4 : Int) (a5 : Int) (a6 : Int) (a7 : Int) : DT cfz := (.go 11 [] [] (.bind (f44 a0 a1 a2 a3 a4) fun v50 => (.go 14 [(.ck 0)] [] (.bind (f45 a0 a1 a2 a3 a4 a5) fun v64 => (.go 19 [(.ck 1)] [] (.bind (f46 a0 a1 a2 a3 a4 a6 a7) fun v78 => (.go 13 [(.ck 2)] [] (.bind (f47 a0 a1 a2 a3 a4) fun v108 => (.go 8 [(.ck 3)] [] (.bind (f34 a5 0 200000000) fun v109 => (.go 2 [(.ck 4)] [] (.bind (f24 2 [(.v (.int .i64 v108)), (.v (.int .i64 v109))]) fun v110 => (.go 5 [(.ck 5)] [] (.bind (f34 a6 (-1000) 1000) fun v111 => (.bind (f34 a7 2 1000) fun v112 => (.bind (f24 3 [(.v (.int .i64 v108)), (.v (.int .i64 v111)), (.v (.int .i64 v112))]) fun v113 => (.go 21 [(.ck 6), (.ck 7), (.ck 8)] [] (.split 69 (.go 5 [(.br true)] [0] (.bind (f48 a0 a1 a2 a3 a4) fun v119 => (.go 3 [(.ck 9)] [] (.cut 15 [[2, 3, 5, 6, 7, 8, 9, 10, 11, 12, 13, 14, 15, 16, 17, 18]] [])))) (.go 2 [(.br false)] [0] (.cut 15 [[2, 3, 5, 6, 7, 8, 9, 10, 11, 12, 13, 14, 15, 16, 17, 18]] []))))))))))))))))))))
theorem k7_0 (a0 : Int) (a1 : Int) (a2 : Int) (a3 : Int) (a4 : Int) (a5 : Int) (a6 : Int) (a7 : Int) : xrun cfz 7 (D7_0 a0 a1 a2 a3 a4 a5 a6 a7) [] (st7 (.c0 a0 a1 a2 a3 a4 a5 a6 a7)) = (B7 (.c0 a0 a1 a2 a3 a4 a5 a6 a7)).mach st7 out7 := by kernel_rfl
noncomputable def D7_1 (x120 : Int) (x121 : Int) (x122 : Int) (x123 : Int) (x124 : Int) (x125 : Int) (y126 : Int) (y127 : Int) (x128 : Int) (y129 : Int) (x130 : Int) (x131 : Int) (x132 : Int) (x133 : Int) (x134 : Int) (x135 : Int) (x136 : Int) (x137 : Int) (x138 : Int) (x139 : Int) (x140 : Int) (x141 : Int) (x142 : Int) (x143 : Int) (x144 : Int) (x145 : Int) : DT cfz := (.go 6 [] [] (.split 75 (.go 9 [(.br true)] [0] (.bind (f49 x134 x135 0 x133) fun v151 => (.go 12 [(.ck 0)] [] (.split 87 (.go 8 [(.br true)] [0] (.cut 15 [[2, 3, 5, 6, 7, 8, 9, 10, 11, 12, 13, 14, 15, 16, 17, 18]] [])) (.go 2 [(.br false)] [0] (.cut 15 [[2, 3, 5, 6, 7, 8, 9, 10, 11, 12, 13, 14, 15, 16, 17, 18]] [])))))) (.go 2 [(.br false)] [0] (.cut 15 [[2, 3, 5, 6, 7, 8, 9, 10, 11, 12, 13, 14, 15, 16, 17, 18]] []))))
theorem k7_1 (x120 : Int) (x121 : Int) (x122 : Int) (x123 : Int) (x124 : Int) (x125 : Int) (y126 : Int) (y127 : Int) (x128 : Int) (y129 : Int) (x130 : Int) (x131 : Int) (x132 : Int) (x133 : Int) (x134 : Int) (x135 : Int) (x136 : Int) (x137 : Int) (x138 : Int) (x139 : Int) (x140 : Int) (x141 : Int) (x142 : Int) (x143 : Int) (x144 : Int) (x145 : Int) : xrun cfz 7 (D7_1 x120 x121 x122 x123 x124 x125 y126 y127 x128 y129 x130 x131 x132 x133 x134 x135 x136 x137 x138 x139 x140 x141 x142 x143 x144 x145) [] (st7 (.c1 x120 x121 x122 x123 x124 x125 y126 y127 x128 y129 x130 x131 x132 x133 x134 x135 x136 x137 x138 x139 x140 x141 x142 x143 x144 x145)) = (B7 (.c1 x120 x121 x122 x123 x124 x125 y126 y127 x128 y129 x130 x131 x132 x133 x134 x135 x136 x137 x138 x139 x140 x141 x142 x143 x144 x145)).mach st7 out7 := by kernel_rfl
noncomputable def D7_2 (x152 : Int) (x153 : Int) (x154 : Int) (x155 : Int) (x156 : Int) (x157 : Int) (x158 : Int) (y159 : Int) (x160 : Int) (x161 : Int) (x162 : Int) (x163 : Int) (x164 : Int) (x165 : Int) (x166 : Int) (x167 : Int) (x168 : Int) (x169 : Int) (x170 : Int) (x171 : Int) (x172 : Int) (x173 : Int) (x174 : Int) (x175 : Int) (x176 : Int) (x177 : Int) (x178 : Int) (x179 : Int) (x180 : Int) (x181 : Int) : DT cfz := (.go 6 [] [] (.split 93 (.go 9 [(.br true)] [0] (.bind (f49 x166 x160 x168 x169) fun v182 => (.go 7 [(.ck 0)] [] (.cut 15 [[2, 5, 6, 7, 8, 9, 10, 11, 12, 13, 14, 15, 16, 17, 18]] [1])))) (.go 2 [(.br false)] [0] (.cut 15 [[2, 5, 6, 7, 8, 9, 10, 11, 12, 13, 14, 15, 16, 17, 18]] [1]))))
theorem k7_2 (x152 : Int) (x153 : Int) (x154 : Int) (x155 : Int) (x156 : Int) (x157 : Int) (x158 : Int) (y159 : Int) (x160 : Int) (x161 : Int) (x162 : Int) (x163 : Int) (x164 : Int) (x165 : Int) (x166 : Int) (x167 : Int) (x168 : Int) (x169 : Int) (x170 : Int) (x171 : Int) (x172 : Int) (x173 : Int) (x174 : Int) (x175 : Int) (x176 : Int) (x177 : Int) (x178 : Int) (x179 : Int) (x180 : Int) (x181 : Int) : xrun cfz 7 (D7_2 x152 x153 x154 x155 x156 x157 x158 y159 x160 x161 x162 x163 x164 x165 x166 x167 x168 x169 x170 x171 x172 x173 x174 x175 x176 x177 x178 x179 x180 x181) [] (st7 (.c2 x152 x153 x154 x155 x156 x157 x158 y159 x160 x161 x162 x163 x164 x165 x166 x167 x168 x169 x170 x171 x172 x173 x174 x175 x176 x177 x178 x179 x180 x181)) = (B7 (.c2 x152 x153 x154 x155 x156 x157 x158 y159 x160 x161 x162 x163 x164 x165 x166 x167 x168 x169 x170 x171 x172 x173 x174 x175 x176 x177 x178 x179 x180 x181)).mach st7 out7 := by kernel_rfl
noncomputable def D7_3 (x183 : Int) (x184 : Int) (x185 : Int) (x186 : Int) (x187 : Int) (x188 : Int) (x189 : Int) (x190 : Int) (x191 : Int) (x192 : Int) (x193 : Int) (x194 : Int) (x195 : Int) (x196 : Int) (x197 : Int) (x198 : Int) (x199 : Int) (x200 : Int) (x201 : Int) (x202 : Int) (x203 : Int) (x204 : Int) (x205 : Int) (x206 : Int) (x207 : Int) (x208 : Int) (x209 : Int) (x210 : Int) (x211 : Int) (x212 : Int) : DT cfz := (.go 2 [] [] (.bind (f50 x193 x194 x195 x196) fun v213 => (.bind (f40 x193 x194 x195 x196) fun v214 => (.bind (f12) fun v215 => (.go 2 [.none, (.ck 0), .none, (.ck 1), (.sp .none), (.sp .none), (.sp .none), .mg, (.sp .none), (.sp .none), (.sp .none), .mg, (.sp .none), (.sp .none), (.sp .none), .mg, (.sp .none), (.sp .none), (.sp .none), .mg, (.sp .none), (.sp .none), (.sp .none), .mg, (.sp .none), (.sp .none), (.sp .none), .mg, (.sp .none), (.sp .none), (.sp .none), .mg, (.sp (.some 2)), .mg] [] .fin)))))
theorem k7_3 (x183 : Int) (x184 : Int) (x185 : Int) (x186 : Int) (x187 : Int) (x188 : Int) (x189 : Int) (x190 : Int) (x191 : Int) (x192 : Int) (x193 : Int) (x194 : Int) (x195 : Int) (x196 : Int) (x197 : Int) (x198 : Int) (x199 : Int) (x200 : Int) (x201 : Int) (x202 : Int) (x203 : Int) (x204 : Int) (x205 : Int) (x206 : Int) (x207 : Int) (x208 : Int) (x209 : Int) (x210 : Int) (x211 : Int) (x212 : Int) : xrun cfz 7 (D7_3 x183 x184 x185 x186 x187 x188 x189 x190 x191 x192 x193 x194 x195 x196 x197 x198 x199 x200 x201 x202 x203 x204 x205 x206 x207 x208 x209 x210 x211 x212) [] (st7 (.c3 x183 x184 x185 x186 x187 x188 x189 x190 x191 x192 x193 x194 x195 x196 x197 x198 x199 x200 x201 x202 x203 x204 x205 x206 x207 x208 x209 x210 x211 x212)) = (B7 (.c3 x183 x184 x185 x186 x187 x188 x189 x190 x191 x192 x193 x194 x195 x196 x197 x198 x199 x200 x201 x202 x203 x204 x205 x206 x207 x208 x209 x210 x211 x212)).mach st7 out7 := by kernel_rfl
theorem ok7 : ∀ s, ∃ d, xrun cfz 7 d [] (st7 s) = (B7 s).mach st7 out7
  | .c0 a0 a1 a2 a3 a4 a5 a6 a7 => ⟨_, k7_0 a0 a1 a2 a3 a4 a5 a6 a7⟩
  | .c1 x120 x121 x122 x123 x124 x125 y126 y127 x128 y129 x130 x131 x132 x133 x134 x135 x136 x137 x138 x139 x140 x141 x142 x143 x144 x145 => ⟨_, k7_1 x120 x121 x122 x123 x124 x125 y126 y127 x128 y129 x130 x131 x132 x133 x134 x135 x136 x137 x138 x139 x140 x141 x142 x143 x144 x145⟩
  | .c2 x152 x153 x154 x155 x156 x157 x158 y159 x160 x161 x162 x163 x164 x165 x166 x167 x168 x169 x170 x171 x172 x173 x174 x175 x176 x177 x178 x179 x180 x181 => ⟨_, k7_2 x152 x153 x154 x155 x156 x157 x158 y159 x160 x161 x162 x163 x164 x165 x166 x167 x168 x169 x170 x171 x172 x173 x174 x175 x176 x177 x178 x179 x180 x181⟩
  | .c3 x183 x184 x185 x186 x187 x188 x189 x190 x191 x192 x193 x194 x195 x196 x197 x198 x199 x200 x201 x202 x203 x204 x205 x206 x207 x208 x209 x210 x211 x212 => ⟨_, k7_3 x183 x184 x185 x186 x187 x188 x189 x190 x191 x192 x193 x194 x195 x196 x197 x198 x199 x200 x201 x202 x203 x204 x205 x206 x207 x208 x209 x210 x211 x212⟩
theorem f7 (a0 : Int) (a1 : Int) (a2 : Int) (a3 : Int) (a4 : Int) (a5 : Int) (a6 : Int) (a7 : Int) (v : Bool) (h : F7 a0 a1 a2 a3 a4 a5 a6 a7 = some v) : PureCalls cfz.P cfz.glob 7 [(.agg [(.d (.v (.int .i64 a0))), (.d (.v (.int .i64 a1))), (.d (.v (.int .i64 a2))), (.d (.v (.int .i64 a3)))]), (.agg [(.d (.v (.int .i64 a4))), (.d (.v (.int .i64 a5))), (.d (.v (.int .i64 a6))), (.d (.v (.int .i64 a7)))])] (out7 v) := tree_pure knil ok7 (s := .c0 a0 a1 a2 a3 a4 a5 a6 a7) rfl (by kernel_rfl) v h

end Go.Kv
