/- Printed: what functions of the program come to, and the kernel's proof of it. -/
import Derived.Test.YtalhonodbajndaaGreatDoorKvW
import Derived.Test.YtalhonodbajndaaGreatDoorKzA
import Derived.Test.YtalhonodbajndaaGreatDoorKzW
import Derived.Test.YtalhonodbajndaaGreatDoorG7
import Derived.Test.YtalhonodbajndaaGreatDoorG6
namespace Go.Kv
set_option linter.unusedVariables false
set_option linter.unusedSimpArgs false
open Go Go.RowKit Go.Proofs
set_option maxRecDepth 100000
/-! F60 -/
inductive S60 where
  | c0 (a115 : Nat) (a116 : List DV)
def out60 (v : Bool) : AV := (.d (.v (.bool v)))
noncomputable def st60 : S60 → ASt
  | .c0 a115 a116 => ent cfz 60 [(.d (.sl a115 a116))]
noncomputable def B60 : S60 → Tr S60 (Bool)
  | .c0 a115 a116 => (.triv _ (tv_s (decide ((↑a115 : Int) ≤ 12) == false)) (.triv _ (tv_s (decide ((↑a115 : Int) ≤ 12) == false)) (.triv _ (tv_f (decide ((↑a115 : Int) ≤ 12))) (.ret (if decide ((↑a115 : Int) ≤ 12) = true then true else (↑a115 : Int) == 65)))))
noncomputable def F60 (a115 : Nat) (a116 : List DV) : Option (Bool) := res B60 (.c0 a115 a116)
noncomputable def D60_0 (a115 : Nat) (a116 : List DV) : DT cfz := (.go 17 [(.sp .none), (.sp .none), (.sp .none), .mg] [] .fin)
theorem k60_0 (a115 : Nat) (a116 : List DV) : xrun cfz 60 (D60_0 a115 a116) [] (st60 (.c0 a115 a116)) = (B60 (.c0 a115 a116)).mach st60 out60 := by kernel_rfl
theorem ok60 : ∀ s, ∃ d, xrun cfz 60 d [] (st60 s) = (B60 s).mach st60 out60
  | .c0 a115 a116 => ⟨_, k60_0 a115 a116⟩
theorem f60 (a115 : Nat) (a116 : List DV) (v : Bool) (h : F60 a115 a116 = some v) : PureCalls cfz.P cfz.glob 60 [(.d (.sl a115 a116))] (out60 v) := tree_pure knil ok60 (s := .c0 a115 a116) rfl (by kernel_rfl) v h

/-! F21 -/
inductive S21 where
  | c0 (a112 : Int) (a113 : Nat) (a114 : List DV)
def out21 (v : Bool) : AV := (.d (.v (.bool v)))
noncomputable def st21 : S21 → ASt
  | .c0 a112 a113 a114 => ent cfz 21 [(.agg [(.d (.v (.int .i64 a112))), (.d (.sl a113 a114))])]
noncomputable def B21 : S21 → Tr S21 (Bool)
  | .c0 a112 a113 a114 => (.bind (F60 a113 a114) fun v117 =>
  (.sees [(.d (.sl a113 a114))] (.ret v117)))
noncomputable def F21 (a112 : Int) (a113 : Nat) (a114 : List DV) : Option (Bool) := res B21 (.c0 a112 a113 a114)
noncomputable def D21_0 (a112 : Int) (a113 : Nat) (a114 : List DV) : DT cfz := (.go 9 [] [] (.bind (f60 a113 a114) fun v117 => (.go 4 [(.ck 0)] [] .fin)))
theorem k21_0 (a112 : Int) (a113 : Nat) (a114 : List DV) : xrun cfz 21 (D21_0 a112 a113 a114) [] (st21 (.c0 a112 a113 a114)) = (B21 (.c0 a112 a113 a114)).mach st21 out21 := by kernel_rfl
theorem ok21 : ∀ s, ∃ d, xrun cfz 21 d [] (st21 s) = (B21 s).mach st21 out21
  | .c0 a112 a113 a114 => ⟨_, k21_0 a112 a113 a114⟩
theorem f21 (a112 : Int) (a113 : Nat) (a114 : List DV) (v : Bool) (h : F21 a112 a113 a114 = some v) : PureCalls cfz.P cfz.glob 21 [(.agg [(.d (.v (.int .i64 a112))), (.d (.sl a113 a114))])] (out21 v) := tree_pure knil ok21 (s := .c0 a112 a113 a114) rfl (by kernel_rfl) v h

/-! F62 -/
inductive S62 where
  | c0 (a123 : Nat) (a124 : List DV)
  | c1 (x125 : Nat) (x126 : List DV) (x127 : Int) (y128 : Int)
  | c2 (y129 : Nat) (y130 : Nat) (y131 : List DV) (x132 : Nat) (x133 : List DV) (x134 : Int) (y135 : Int) (y136 : Nat)
def out62 (v : Nat × List DV) : AV := (.d (.sl v.fst v.snd))
noncomputable def st62 : S62 → ASt
  | .c0 a123 a124 => ent cfz 62 [(.d (.sl a123 a124))]
  | .c1 x125 x126 x127 y128 => ⟨⟨62, sp 18 0 [(3, (.d (.v (.slice .none 0 0)))), (6, (.d (.sl x125 x126))), (7, (.d (.v (.int .i64 x127)))), (8, (.d (.v (.int .i64 y128))))], [(.code (cd cfz.P 62 [1, 1, 0, 1, 0, 0])), (.inLoop (cd cfz.P 62 [1, 1, 0, 1, 0, 0])), (.inBlock 0), (.code (cd cfz.P 62 [1, 1, 1]))], [], false, .none⟩, [], []⟩
  | .c2 y129 y130 y131 x132 x133 x134 y135 y136 => ⟨⟨62, sp 18 0 [(3, (.own 2 y129 5 y130 y131)), (6, (.d (.sl x132 x133))), (7, (.d (.v (.int .i64 x134)))), (8, (.d (.v (.int .i64 y135))))], [(.code (cd cfz.P 62 [1, 1, 0, 1, 0, 0])), (.inLoop (cd cfz.P 62 [1, 1, 0, 1, 0, 0])), (.inBlock 0), (.code (cd cfz.P 62 [1, 1, 1]))], [], false, .none⟩, [], [.dead, (.tail 0), (.tail y136)]⟩
noncomputable def B62 : S62 → Tr S62 (Nat × List DV)
  | .c0 a123 a124 => (.nxt (.c1 a123 a124 ((↑a123 : Int)) 0))
  | .c1 x125 x126 x127 y128 => (.br (decide (y128 < x127))
  (.ask (.le 0 y128) (.ask (.lt y128 ((↑x125 : Int))) (.ask (.leN (y128.toNat * 5) x126.length) (.ask (.leN 5 ((List.drop (y128.toNat * 5) x126).length)) (.ask (.prop (List.map AV.d (List.take 5 (List.drop (y128.toNat * 5) x126)) = [AV.d (DV.v (Value.int IntKind.i64 (dI (cel x126 (y128.toNat * 5))))), AV.d (DV.v (Value.int IntKind.i64 (dI (cel x126 (y128.toNat * 5 + 1))))), AV.d (DV.v (Value.int IntKind.i64 (dI (cel x126 (y128.toNat * 5 + 2))))), AV.d (DV.v (Value.int IntKind.i64 (dI (cel x126 (y128.toNat * 5 + 3))))), AV.d (DV.v (Value.int IntKind.i64 (dI (cel x126 (y128.toNat * 5 + 4)))))])) (.ask (.in64 (y128 + 1)) (.nxt (.c2 0 1 [(.v (.int .i64 (dI (cel x126 (y128.toNat * 5))))), (.v (.int .i64 (dI (cel x126 (y128.toNat * 5 + 1))))), (.v (.int .i64 (dI (cel x126 (y128.toNat * 5 + 2))))), (.v (.int .i64 (dI (cel x126 (y128.toNat * 5 + 3))))), (.v (.int .i64 (dI (cel x126 (y128.toNat * 5 + 4)))))] x125 x126 x127 (y128 + 1) 0))))))))
  (.ret (0, [])))
  | .c2 y129 y130 y131 x132 x133 x134 y135 y136 => (.br (decide (y135 < x134))
  (.ask (.le 0 y135) (.ask (.lt y135 ((↑x132 : Int))) (.ask (.leN (y135.toNat * 5) x133.length) (.ask (.leN 5 ((List.drop (y135.toNat * 5) x133).length)) (.ask (.prop (List.map AV.d (List.take 5 (List.drop (y135.toNat * 5) x133)) = [AV.d (DV.v (Value.int IntKind.i64 (dI (cel x133 (y135.toNat * 5))))), AV.d (DV.v (Value.int IntKind.i64 (dI (cel x133 (y135.toNat * 5 + 1))))), AV.d (DV.v (Value.int IntKind.i64 (dI (cel x133 (y135.toNat * 5 + 2))))), AV.d (DV.v (Value.int IntKind.i64 (dI (cel x133 (y135.toNat * 5 + 3))))), AV.d (DV.v (Value.int IntKind.i64 (dI (cel x133 (y135.toNat * 5 + 4)))))])) (.ask (.eqN y129 y136) (.ask (.fits (y130 + 1) 40) (.ask (.in64 (y135 + 1)) (.nxt (.c2 (y136 + 1) (y130 + 1) (y131 ++ [DV.v (Value.int IntKind.i64 (dI (cel x133 (y135.toNat * 5)))), DV.v (Value.int IntKind.i64 (dI (cel x133 (y135.toNat * 5 + 1)))), DV.v (Value.int IntKind.i64 (dI (cel x133 (y135.toNat * 5 + 2)))), DV.v (Value.int IntKind.i64 (dI (cel x133 (y135.toNat * 5 + 3)))), DV.v (Value.int IntKind.i64 (dI (cel x133 (y135.toNat * 5 + 4))))]) x132 x133 x134 (y135 + 1) (y136 + 1)))))))))))
  (.ret (y130, y131)))
noncomputable def F62 (a123 : Nat) (a124 : List DV) : Option (Nat × List DV) := res B62 (.c0 a123 a124)
noncomputable def D62_0 (a123 : Nat) (a124 : List DV) : DT cfz := (.go 17 [] [] (.cut 0 [[3, 6, 7, 8]] []))
theorem k62_0 (a123 : Nat) (a124 : List DV) : xrun cfz 62 (D62_0 a123 a124) [] (st62 (.c0 a123 a124)) = (B62 (.c0 a123 a124)).mach st62 out62 := by kernel_rfl
noncomputable def D62_1 (x125 : Nat) (x126 : List DV) (x127 : Int) (y128 : Int) : DT cfz := (.go 5 [] [] (.split 9 (.go 24 [(.br true), (.as (.agg [(.d (.v (.int .i64 (dI (cel x126 (y128.toNat * 5)))))), (.d (.v (.int .i64 (dI (cel x126 (y128.toNat * 5 + 1)))))), (.d (.v (.int .i64 (dI (cel x126 (y128.toNat * 5 + 2)))))), (.d (.v (.int .i64 (dI (cel x126 (y128.toNat * 5 + 3)))))), (.d (.v (.int .i64 (dI (cel x126 (y128.toNat * 5 + 4))))))]))] [0, 6, 7, 8] (.cut 3 [[3, 6, 7, 8]] [0])) (.go 8 [(.br false)] [0] .fin)))
theorem k62_1 (x125 : Nat) (x126 : List DV) (x127 : Int) (y128 : Int) : xrun cfz 62 (D62_1 x125 x126 x127 y128) [] (st62 (.c1 x125 x126 x127 y128)) = (B62 (.c1 x125 x126 x127 y128)).mach st62 out62 := by kernel_rfl
noncomputable def D62_2 (y129 : Nat) (y130 : Nat) (y131 : List DV) (x132 : Nat) (x133 : List DV) (x134 : Int) (y135 : Int) (y136 : Nat) : DT cfz := (.go 5 [] [] (.split 9 (.go 24 [(.br true), (.as (.agg [(.d (.v (.int .i64 (dI (cel x133 (y135.toNat * 5)))))), (.d (.v (.int .i64 (dI (cel x133 (y135.toNat * 5 + 1)))))), (.d (.v (.int .i64 (dI (cel x133 (y135.toNat * 5 + 2)))))), (.d (.v (.int .i64 (dI (cel x133 (y135.toNat * 5 + 3)))))), (.d (.v (.int .i64 (dI (cel x133 (y135.toNat * 5 + 4))))))]))] [0, 7, 8] (.cut 3 [[3, 6, 7, 8]] [])) (.go 8 [(.br false)] [0] .fin)))
theorem k62_2 (y129 : Nat) (y130 : Nat) (y131 : List DV) (x132 : Nat) (x133 : List DV) (x134 : Int) (y135 : Int) (y136 : Nat) : xrun cfz 62 (D62_2 y129 y130 y131 x132 x133 x134 y135 y136) [] (st62 (.c2 y129 y130 y131 x132 x133 x134 y135 y136)) = (B62 (.c2 y129 y130 y131 x132 x133 x134 y135 y136)).mach st62 out62 := by kernel_rfl
theorem ok62 : ∀ s, ∃ d, xrun cfz 62 d [] (st62 s) = (B62 s).mach st62 out62
  | .c0 a123 a124 => ⟨_, k62_0 a123 a124⟩
  | .c1 x125 x126 x127 y128 => ⟨_, k62_1 x125 x126 x127 y128⟩
  | .c2 y129 y130 y131 x132 x133 x134 y135 y136 => ⟨_, k62_2 y129 y130 y131 x132 x133 x134 y135 y136⟩
theorem f62 (a123 : Nat) (a124 : List DV) (v : Nat × List DV) (h : F62 a123 a124 = some v) : PureCalls cfz.P cfz.glob 62 [(.d (.sl a123 a124))] (out62 v) := tree_pure knil ok62 (s := .c0 a123 a124) rfl (by kernel_rfl) v h

/-! F23 -/
inductive S23 where
  | c0 (a120 : Int) (a121 : Nat) (a122 : List DV)
def out23 (v : Int × Nat × List DV) : AV := (.agg [(.d (.v (.int .i64 v.fst))), (.d (.sl v.snd.fst v.snd.snd))])
noncomputable def st23 : S23 → ASt
  | .c0 a120 a121 a122 => ent cfz 23 [(.agg [(.d (.v (.int .i64 a120))), (.d (.sl a121 a122))])]
noncomputable def B23 : S23 → Tr S23 (Int × Nat × List DV)
  | .c0 a120 a121 a122 => (.bind (F62 a121 a122) fun v137 =>
  (.sees [(.d (.sl a121 a122))] (.ret (a120, v137.fst, v137.snd))))
noncomputable def F23 (a120 : Int) (a121 : Nat) (a122 : List DV) : Option (Int × Nat × List DV) := res B23 (.c0 a120 a121 a122)
noncomputable def D23_0 (a120 : Int) (a121 : Nat) (a122 : List DV) : DT cfz := (.go 7 [] [] (.bind (f62 a121 a122) fun v137 => (.go 2 [(.ck 0)] [] .fin)))
theorem k23_0 (a120 : Int) (a121 : Nat) (a122 : List DV) : xrun cfz 23 (D23_0 a120 a121 a122) [] (st23 (.c0 a120 a121 a122)) = (B23 (.c0 a120 a121 a122)).mach st23 out23 := by kernel_rfl
theorem ok23 : ∀ s, ∃ d, xrun cfz 23 d [] (st23 s) = (B23 s).mach st23 out23
  | .c0 a120 a121 a122 => ⟨_, k23_0 a120 a121 a122⟩
theorem f23 (a120 : Int) (a121 : Nat) (a122 : List DV) (v : Int × Nat × List DV) (h : F23 a120 a121 a122 = some v) : PureCalls cfz.P cfz.glob 23 [(.agg [(.d (.v (.int .i64 a120))), (.d (.sl a121 a122))])] (out23 v) := tree_pure knil ok23 (s := .c0 a120 a121 a122) rfl (by kernel_rfl) v h

/-! F28 -/
inductive S28 where
  | c0 (a155 : Int) (a156 : Int) (a157 : Int) (a158 : Int) (a159 : Int)
def out28 (v : Int) : AV := (.d (.v (.int .i64 v)))
noncomputable def st28 : S28 → ASt
  | .c0 a155 a156 a157 a158 a159 => ent cfz 28 [(.agg [(.d (.v (.int .i64 a155))), (.d (.v (.int .i64 a156))), (.d (.v (.int .i64 a157))), (.d (.v (.int .i64 a158))), (.d (.v (.int .i64 a159)))])]
noncomputable def B28 : S28 → Tr S28 (Int)
  | .c0 a155 a156 a157 a158 a159 => (.bind (F89 a155 0 999999999) fun v160 =>
  (.bind (F89 a156 0 100000000) fun v161 =>
  (.bind (F89 a157 0 999999) fun v162 =>
  (.bind (F89 a158 0 999999) fun v163 =>
  (.bind (F89 a159 0 7) fun v164 =>
  (.bind (F75 5 [(.v (.int .i64 v160)), (.v (.int .i64 v161)), (.v (.int .i64 v162)), (.v (.int .i64 v163)), (.v (.int .i64 v164))]) fun v165 =>
  (.sees [(.d (.v (.int .i64 a155))), (.d (.v (.int .i64 0))), (.d (.v (.int .i64 999999999)))] (.sees [(.d (.v (.int .i64 a156))), (.d (.v (.int .i64 0))), (.d (.v (.int .i64 100000000)))] (.sees [(.d (.v (.int .i64 a157))), (.d (.v (.int .i64 0))), (.d (.v (.int .i64 999999)))] (.sees [(.d (.v (.int .i64 a158))), (.d (.v (.int .i64 0))), (.d (.v (.int .i64 999999)))] (.sees [(.d (.v (.int .i64 a159))), (.d (.v (.int .i64 0))), (.d (.v (.int .i64 7)))] (.sees [(.d (.sl 5 [(.v (.int .i64 v160)), (.v (.int .i64 v161)), (.v (.int .i64 v162)), (.v (.int .i64 v163)), (.v (.int .i64 v164))]))] (.ret v165)))))))))))))
noncomputable def F28 (a155 : Int) (a156 : Int) (a157 : Int) (a158 : Int) (a159 : Int) : Option (Int) := res B28 (.c0 a155 a156 a157 a158 a159)
noncomputable def D28_0 (a155 : Int) (a156 : Int) (a157 : Int) (a158 : Int) (a159 : Int) : DT cfz := (.go 7 [] [] (.bind (f89 a155 0 999999999) fun v160 => (.bind (f89 a156 0 100000000) fun v161 => (.bind (f89 a157 0 999999) fun v162 => (.bind (f89 a158 0 999999) fun v163 => (.bind (f89 a159 0 7) fun v164 => (.bind (f75 5 [(.v (.int .i64 v160)), (.v (.int .i64 v161)), (.v (.int .i64 v162)), (.v (.int .i64 v163)), (.v (.int .i64 v164))]) fun v165 => (.go 2 [(.ck 0), (.ck 1), (.ck 2), (.ck 3), (.ck 4), (.ck 5)] [] .fin))))))))
theorem k28_0 (a155 : Int) (a156 : Int) (a157 : Int) (a158 : Int) (a159 : Int) : xrun cfz 28 (D28_0 a155 a156 a157 a158 a159) [] (st28 (.c0 a155 a156 a157 a158 a159)) = (B28 (.c0 a155 a156 a157 a158 a159)).mach st28 out28 := by kernel_rfl
theorem ok28 : ∀ s, ∃ d, xrun cfz 28 d [] (st28 s) = (B28 s).mach st28 out28
  | .c0 a155 a156 a157 a158 a159 => ⟨_, k28_0 a155 a156 a157 a158 a159⟩
theorem f28 (a155 : Int) (a156 : Int) (a157 : Int) (a158 : Int) (a159 : Int) (v : Int) (h : F28 a155 a156 a157 a158 a159 = some v) : PureCalls cfz.P cfz.glob 28 [(.agg [(.d (.v (.int .i64 a155))), (.d (.v (.int .i64 a156))), (.d (.v (.int .i64 a157))), (.d (.v (.int .i64 a158))), (.d (.v (.int .i64 a159)))])] (out28 v) := tree_pure knil ok28 (s := .c0 a155 a156 a157 a158 a159) rfl (by kernel_rfl) v h

/-! F87 -/
inductive S87 where
  | c0 (a167 : Int) (a168 : Int) (a169 : Int) (a170 : Int) (a171 : Int) (a172 : Int) (a173 : Int) (a174 : Int) (a175 : Int) (a176 : Int)
def out87 (v : Bool) : AV := (.d (.v (.bool v)))
noncomputable def st87 : S87 → ASt
  | .c0 a167 a168 a169 a170 a171 a172 a173 a174 a175 a176 => ent cfz 87 [(.agg [(.d (.v (.int .i64 a167))), (.d (.v (.int .i64 a168))), (.d (.v (.int .i64 a169))), (.d (.v (.int .i64 a170))), (.d (.v (.int .i64 a171)))]), (.agg [(.d (.v (.int .i64 a172))), (.d (.v (.int .i64 a173))), (.d (.v (.int .i64 a174))), (.d (.v (.int .i64 a175))), (.d (.v (.int .i64 a176)))])]
noncomputable def B87 : S87 → Tr S87 (Bool)
  | .c0 a167 a168 a169 a170 a171 a172 a173 a174 a175 a176 => (.ask (.in64 (a172 + 1)) (.br (a167 == a172 + 1)
  (.ret (decide (a168 > a173)))
  (.ret false)))
noncomputable def F87 (a167 : Int) (a168 : Int) (a169 : Int) (a170 : Int) (a171 : Int) (a172 : Int) (a173 : Int) (a174 : Int) (a175 : Int) (a176 : Int) : Option (Bool) := res B87 (.c0 a167 a168 a169 a170 a171 a172 a173 a174 a175 a176)
noncomputable def D87_0 (a167 : Int) (a168 : Int) (a169 : Int) (a170 : Int) (a171 : Int) (a172 : Int) (a173 : Int) (a174 : Int) (a175 : Int) (a176 : Int) : DT cfz := (.go 15 [] [] (.split 11 (.go 9 [(.br true), (.br true), .none, (.br true), (.br true), .none, (.br true)] [0, 1, 2, 3, 4] .fin) (.go 9 [(.br false), (.br false), (.br false), (.br false), (.br false)] [0, 1, 2, 3, 4] .fin)))
theorem k87_0 (a167 : Int) (a168 : Int) (a169 : Int) (a170 : Int) (a171 : Int) (a172 : Int) (a173 : Int) (a174 : Int) (a175 : Int) (a176 : Int) : xrun cfz 87 (D87_0 a167 a168 a169 a170 a171 a172 a173 a174 a175 a176) [] (st87 (.c0 a167 a168 a169 a170 a171 a172 a173 a174 a175 a176)) = (B87 (.c0 a167 a168 a169 a170 a171 a172 a173 a174 a175 a176)).mach st87 out87 := by kernel_rfl
theorem ok87 : ∀ s, ∃ d, xrun cfz 87 d [] (st87 s) = (B87 s).mach st87 out87
  | .c0 a167 a168 a169 a170 a171 a172 a173 a174 a175 a176 => ⟨_, k87_0 a167 a168 a169 a170 a171 a172 a173 a174 a175 a176⟩
theorem f87 (a167 : Int) (a168 : Int) (a169 : Int) (a170 : Int) (a171 : Int) (a172 : Int) (a173 : Int) (a174 : Int) (a175 : Int) (a176 : Int) (v : Bool) (h : F87 a167 a168 a169 a170 a171 a172 a173 a174 a175 a176 = some v) : PureCalls cfz.P cfz.glob 87 [(.agg [(.d (.v (.int .i64 a167))), (.d (.v (.int .i64 a168))), (.d (.v (.int .i64 a169))), (.d (.v (.int .i64 a170))), (.d (.v (.int .i64 a171)))]), (.agg [(.d (.v (.int .i64 a172))), (.d (.v (.int .i64 a173))), (.d (.v (.int .i64 a174))), (.d (.v (.int .i64 a175))), (.d (.v (.int .i64 a176)))])] (out87 v) := tree_pure knil ok87 (s := .c0 a167 a168 a169 a170 a171 a172 a173 a174 a175 a176) rfl (by kernel_rfl) v h

/-! F29 -/
inductive S29 where
  | c0 (a144 : Int) (a145 : Nat) (a146 : List DV)
  | c1 (x150 : Nat) (x151 : List DV) (x152 : Int) (y153 : Int) (x154 : Int)
def out29 (v : Int) : AV := (.d (.v (.int .i64 v)))
noncomputable def st29 : S29 → ASt
  | .c0 a144 a145 a146 => ent cfz 29 [(.agg [(.d (.v (.int .i64 a144))), (.d (.sl a145 a146))])]
  | .c1 x150 x151 x152 y153 x154 => ⟨⟨29, sp 53 0 [(1, (.ptr 0 0)), (23, (.d (.sl x150 x151))), (24, (.d (.v (.int .i64 x152)))), (25, (.d (.v (.int .i64 y153))))], [(.code (cd cfz.P 29 [1, 1, 0, 1, 0, 0])), (.inLoop (cd cfz.P 29 [1, 1, 0, 1, 0, 0])), (.inBlock 0), (.code (cd cfz.P 29 [1, 1, 1]))], [], false, .none⟩, [], [(.cells [(.d (.v (.int .i64 x154))), (.d (.sl x150 x151))] 51)]⟩
noncomputable def B29 : S29 → Tr S29 (Int)
  | .c0 a144 a145 a146 => (.bind (F89 a144 1 64) fun v147 =>
  (.bind (F77 (decide ((↑a145 : Int) > a144)) 5) fun v148 =>
  (.bind (F75 2 [(.v (.int .i64 v147)), (.v (.int .i64 v148))]) fun v149 =>
  (.sees [(.d (.v (.int .i64 a144))), (.d (.v (.int .i64 1))), (.d (.v (.int .i64 64)))] (.sees [(.d (.v (.bool (decide ((↑a145 : Int) > a144))))), (.d (.v (.int .i64 5)))] (.sees [(.d (.sl 2 [(.v (.int .i64 v147)), (.v (.int .i64 v148))]))] (.br (v149 != 0)
  (.ret v149)
  (.nxt (.c1 a145 a146 ((↑a145 : Int)) 0 a144)))))))))
  | .c1 x150 x151 x152 y153 x154 => (.br (decide (y153 < x152))
  (.ask (.le 0 y153) (.ask (.lt y153 ((↑x150 : Int))) (.ask (.leN (y153.toNat * 5) x151.length) (.ask (.leN 5 ((List.drop (y153.toNat * 5) x151).length)) (.ask (.prop (List.map AV.d (List.take 5 (List.drop (y153.toNat * 5) x151)) = [AV.d (DV.v (Value.int IntKind.i64 (dI (cel x151 (y153.toNat * 5))))), AV.d (DV.v (Value.int IntKind.i64 (dI (cel x151 (y153.toNat * 5 + 1))))), AV.d (DV.v (Value.int IntKind.i64 (dI (cel x151 (y153.toNat * 5 + 2))))), AV.d (DV.v (Value.int IntKind.i64 (dI (cel x151 (y153.toNat * 5 + 3))))), AV.d (DV.v (Value.int IntKind.i64 (dI (cel x151 (y153.toNat * 5 + 4)))))])) (.bind (F28 (dI (cel x151 (y153.toNat * 5))) (dI (cel x151 (y153.toNat * 5 + 1))) (dI (cel x151 (y153.toNat * 5 + 2))) (dI (cel x151 (y153.toNat * 5 + 3))) (dI (cel x151 (y153.toNat * 5 + 4)))) fun v166 =>
  (.br (decide (y153 > 0))
  (.bind (F87 (dI (cel x151 (y153.toNat * 5))) (dI (cel x151 (y153.toNat * 5 + 1))) (dI (cel x151 (y153.toNat * 5 + 2))) (dI (cel x151 (y153.toNat * 5 + 3))) (dI (cel x151 (y153.toNat * 5 + 4))) (dI (cel x151 ((if y153 - 1 > 0 then y153 - 1 else 0).toNat * 5))) (dI (cel x151 ((if y153 - 1 > 0 then y153 - 1 else 0).toNat * 5 + 1))) (dI (cel x151 ((if y153 - 1 > 0 then y153 - 1 else 0).toNat * 5 + 2))) (dI (cel x151 ((if y153 - 1 > 0 then y153 - 1 else 0).toNat * 5 + 3))) (dI (cel x151 ((if y153 - 1 > 0 then y153 - 1 else 0).toNat * 5 + 4)))) fun v177 =>
  (.bind (F77 (!v177) 11) fun v178 =>
  (.bind (F75 2 [(.v (.int .i64 v166)), (.v (.int .i64 v178))]) fun v179 =>
  (.sees [(.agg [(.d (.v (.int .i64 (dI (cel x151 (y153.toNat * 5)))))), (.d (.v (.int .i64 (dI (cel x151 (y153.toNat * 5 + 1)))))), (.d (.v (.int .i64 (dI (cel x151 (y153.toNat * 5 + 2)))))), (.d (.v (.int .i64 (dI (cel x151 (y153.toNat * 5 + 3)))))), (.d (.v (.int .i64 (dI (cel x151 (y153.toNat * 5 + 4))))))])] (.ask (.eqB (decide (y153 > 0)) true) (.ask (.eqB (decide (y153 > 0)) true) (.ask (.eqB (decide (y153 > 0)) true) (.ask (.in64 (y153 - 1)) (.ask (.eqB (decide (y153 > 0)) true) (.ask (.eqB (decide (y153 > 0)) true) (.ask (.le 0 (if y153 - 1 > 0 then y153 - 1 else 0)) (.ask (.lt (if y153 - 1 > 0 then y153 - 1 else 0) ((↑x150 : Int))) (.ask (.leN ((if y153 - 1 > 0 then y153 - 1 else 0).toNat * 5) x151.length) (.ask (.eqB (decide (y153 > 0)) true) (.ask (.leN 5 ((List.drop ((if y153 - 1 > 0 then y153 - 1 else 0).toNat * 5) x151).length)) (.ask (.prop (List.map AV.d (List.take 5 (List.drop ((if y153 - 1 > 0 then y153 - 1 else 0).toNat * 5) x151)) = [AV.d (DV.v (Value.int IntKind.i64 (dI (cel x151 ((if y153 - 1 > 0 then y153 - 1 else 0).toNat * 5))))), AV.d (DV.v (Value.int IntKind.i64 (dI (cel x151 ((if y153 - 1 > 0 then y153 - 1 else 0).toNat * 5 + 1))))), AV.d (DV.v (Value.int IntKind.i64 (dI (cel x151 ((if y153 - 1 > 0 then y153 - 1 else 0).toNat * 5 + 2))))), AV.d (DV.v (Value.int IntKind.i64 (dI (cel x151 ((if y153 - 1 > 0 then y153 - 1 else 0).toNat * 5 + 3))))), AV.d (DV.v (Value.int IntKind.i64 (dI (cel x151 ((if y153 - 1 > 0 then y153 - 1 else 0).toNat * 5 + 4)))))])) (.ask (.eqB (decide (y153 > 0)) true) (.sees [(.agg [(.d (.v (.int .i64 (dI (cel x151 (y153.toNat * 5)))))), (.d (.v (.int .i64 (dI (cel x151 (y153.toNat * 5 + 1)))))), (.d (.v (.int .i64 (dI (cel x151 (y153.toNat * 5 + 2)))))), (.d (.v (.int .i64 (dI (cel x151 (y153.toNat * 5 + 3)))))), (.d (.v (.int .i64 (dI (cel x151 (y153.toNat * 5 + 4))))))]), (.agg [(.d (.v (.int .i64 (dI (cel x151 ((if y153 - 1 > 0 then y153 - 1 else 0).toNat * 5)))))), (.d (.v (.int .i64 (dI (cel x151 ((if y153 - 1 > 0 then y153 - 1 else 0).toNat * 5 + 1)))))), (.d (.v (.int .i64 (dI (cel x151 ((if y153 - 1 > 0 then y153 - 1 else 0).toNat * 5 + 2)))))), (.d (.v (.int .i64 (dI (cel x151 ((if y153 - 1 > 0 then y153 - 1 else 0).toNat * 5 + 3)))))), (.d (.v (.int .i64 (dI (cel x151 ((if y153 - 1 > 0 then y153 - 1 else 0).toNat * 5 + 4))))))])] (.ask (.eqB (decide (y153 > 0)) true) (.ask (.eqB (decide (y153 > 0) == true) true) (.ask (.eqB (decide (y153 > 0)) true) (.ask (.eqB (decide (y153 > 0)) true) (.sees [(.d (.v (.bool (!v177)))), (.d (.v (.int .i64 11)))] (.sees [(.d (.sl 2 [(.v (.int .i64 v166)), (.v (.int .i64 v178))]))] (.br (v179 != 0)
  (.ret v179)
  (.ask (.in64 (y153 + 1)) (.nxt (.c1 x150 x151 x152 (y153 + 1) x154))))))))))))))))))))))))))))
  (.bind (F77 false 11) fun v180 =>
  (.bind (F75 2 [(.v (.int .i64 v166)), (.v (.int .i64 v180))]) fun v181 =>
  (.sees [(.agg [(.d (.v (.int .i64 (dI (cel x151 (y153.toNat * 5)))))), (.d (.v (.int .i64 (dI (cel x151 (y153.toNat * 5 + 1)))))), (.d (.v (.int .i64 (dI (cel x151 (y153.toNat * 5 + 2)))))), (.d (.v (.int .i64 (dI (cel x151 (y153.toNat * 5 + 3)))))), (.d (.v (.int .i64 (dI (cel x151 (y153.toNat * 5 + 4))))))])] (.ask (.eqB (decide (y153 > 0)) false) (.ask (.eqB (decide (y153 > 0)) false) (.ask (.eqB (decide (y153 > 0)) false) (.ask (.eqB (decide (y153 > 0)) false) (.ask (.eqB (decide (y153 > 0)) false) (.ask (.eqB (decide (y153 > 0)) false) (.ask (.eqB (decide (y153 > 0)) false) (.ask (.eqB (decide (y153 > 0)) false) (.ask (.eqB (decide (y153 > 0)) false) (.ask (.eqB (decide (y153 > 0)) false) (.sees [(.d (.v (.bool false))), (.d (.v (.int .i64 11)))] (.sees [(.d (.sl 2 [(.v (.int .i64 v166)), (.v (.int .i64 v180))]))] (.br (v181 != 0)
  (.ret v181)
  (.ask (.in64 (y153 + 1)) (.nxt (.c1 x150 x151 x152 (y153 + 1) x154))))))))))))))))))))))))))
  (.ret 0))
noncomputable def F29 (a144 : Int) (a145 : Nat) (a146 : List DV) : Option (Int) := res B29 (.c0 a144 a145 a146)
noncomputable def D29_0 (a144 : Int) (a145 : Nat) (a146 : List DV) : DT cfz := (.go 8 [] [] (.bind (f89 a144 1 64) fun v147 => (.bind (f77 (decide ((↑a145 : Int) > a144)) 5) fun v148 => (.bind (f75 2 [(.v (.int .i64 v147)), (.v (.int .i64 v148))]) fun v149 => (.go 6 [(.ck 0), (.ck 1), (.ck 2)] [] (.split 20 (.go 7 [(.br true)] [0] .fin) (.go 12 [(.br false)] [0] (.cut 1 [[1, 23, 24, 25]] []))))))))
theorem k29_0 (a144 : Int) (a145 : Nat) (a146 : List DV) : xrun cfz 29 (D29_0 a144 a145 a146) [] (st29 (.c0 a144 a145 a146)) = (B29 (.c0 a144 a145 a146)).mach st29 out29 := by kernel_rfl
noncomputable def D29_1 (x150 : Nat) (x151 : List DV) (x152 : Int) (y153 : Int) (x154 : Int) : DT cfz := (.go 5 [] [] (.split 26 (.go 15 [(.br true), (.as (.agg [(.d (.v (.int .i64 (dI (cel x151 (y153.toNat * 5)))))), (.d (.v (.int .i64 (dI (cel x151 (y153.toNat * 5 + 1)))))), (.d (.v (.int .i64 (dI (cel x151 (y153.toNat * 5 + 2)))))), (.d (.v (.int .i64 (dI (cel x151 (y153.toNat * 5 + 3)))))), (.d (.v (.int .i64 (dI (cel x151 (y153.toNat * 5 + 4))))))]))] [0] (.bind (f28 (dI (cel x151 (y153.toNat * 5))) (dI (cel x151 (y153.toNat * 5 + 1))) (dI (cel x151 (y153.toNat * 5 + 2))) (dI (cel x151 (y153.toNat * 5 + 3))) (dI (cel x151 (y153.toNat * 5 + 4)))) fun v166 => (.br (decide (y153 > 0)) (.bind (f87 (dI (cel x151 (y153.toNat * 5))) (dI (cel x151 (y153.toNat * 5 + 1))) (dI (cel x151 (y153.toNat * 5 + 2))) (dI (cel x151 (y153.toNat * 5 + 3))) (dI (cel x151 (y153.toNat * 5 + 4))) (dI (cel x151 ((if y153 - 1 > 0 then y153 - 1 else 0).toNat * 5))) (dI (cel x151 ((if y153 - 1 > 0 then y153 - 1 else 0).toNat * 5 + 1))) (dI (cel x151 ((if y153 - 1 > 0 then y153 - 1 else 0).toNat * 5 + 2))) (dI (cel x151 ((if y153 - 1 > 0 then y153 - 1 else 0).toNat * 5 + 3))) (dI (cel x151 ((if y153 - 1 > 0 then y153 - 1 else 0).toNat * 5 + 4)))) fun v177 => (.bind (f77 (!v177) 11) fun v178 => (.bind (f75 2 [(.v (.int .i64 v166)), (.v (.int .i64 v178))]) fun v179 => (.go 6 [.none, (.ck 0), (.sp .none), (.br true), (.br true), .none, (.br true), (.br true), (.br true), (.br true), (.br true), (.as (.agg [(.d (.v (.int .i64 (dI (cel x151 ((if y153 - 1 > 0 then y153 - 1 else 0).toNat * 5)))))), (.d (.v (.int .i64 (dI (cel x151 ((if y153 - 1 > 0 then y153 - 1 else 0).toNat * 5 + 1)))))), (.d (.v (.int .i64 (dI (cel x151 ((if y153 - 1 > 0 then y153 - 1 else 0).toNat * 5 + 2)))))), (.d (.v (.int .i64 (dI (cel x151 ((if y153 - 1 > 0 then y153 - 1 else 0).toNat * 5 + 3)))))), (.d (.v (.int .i64 (dI (cel x151 ((if y153 - 1 > 0 then y153 - 1 else 0).toNat * 5 + 4))))))])), (.br true), (.ck 1), (.br true), (.br true), (.ck 2), (.ck 3)] [] (.split 50 (.go 7 [(.br true)] [0] .fin) (.go 8 [(.br false)] [0] (.cut 1 [[1, 23, 24, 25]] []))))))) (.bind (f77 false 11) fun v180 => (.bind (f75 2 [(.v (.int .i64 v166)), (.v (.int .i64 v180))]) fun v181 => (.go 6 [.none, (.ck 0), (.sp .none), (.br false), (.br false), (.br false), (.br false), (.br false), (.br false), (.br false), (.br false), (.br false), (.br false), (.ck 1), (.ck 2)] [] (.split 50 (.go 7 [(.br true)] [0] .fin) (.go 8 [(.br false)] [0] (.cut 1 [[1, 23, 24, 25]] []))))))))) (.go 7 [(.br false)] [0] .fin)))
theorem k29_1 (x150 : Nat) (x151 : List DV) (x152 : Int) (y153 : Int) (x154 : Int) : xrun cfz 29 (D29_1 x150 x151 x152 y153 x154) [] (st29 (.c1 x150 x151 x152 y153 x154)) = (B29 (.c1 x150 x151 x152 y153 x154)).mach st29 out29 := by kernel_rfl
theorem ok29 : ∀ s, ∃ d, xrun cfz 29 d [] (st29 s) = (B29 s).mach st29 out29
  | .c0 a144 a145 a146 => ⟨_, k29_0 a144 a145 a146⟩
  | .c1 x150 x151 x152 y153 x154 => ⟨_, k29_1 x150 x151 x152 y153 x154⟩
theorem f29 (a144 : Int) (a145 : Nat) (a146 : List DV) (v : Int) (h : F29 a144 a145 a146 = some v) : PureCalls cfz.P cfz.glob 29 [(.agg [(.d (.v (.int .i64 a144))), (.d (.sl a145 a146))])] (out29 v) := tree_pure knil ok29 (s := .c0 a144 a145 a146) rfl (by kernel_rfl) v h

/-! F90 -/
inductive S90 where
  | c0 (a188 : Nat) (a189 : List DV)
def out90 (v : Nat × List DV) : AV := (.d (.sl v.fst v.snd))
noncomputable def st90 : S90 → ASt
  | .c0 a188 a189 => ent cfz 90 [(.d (.sl a188 a189))]
noncomputable def B90 : S90 → Tr S90 (Nat × List DV)
  | .c0 a188 a189 => (.ask (.ltN 0 a188) (.br (a188.beq 0)
  (.ask (.eqN a188 0) (.ret (0, [])))
  (.ask (.ltN 0 a188) (.ask (.eqN a189.length (a188 * 5)) (.ask (.fits (0 + a188) 40) (.ret ((0 + a188), ([] ++ a189))))))))
noncomputable def F90 (a188 : Nat) (a189 : List DV) : Option (Nat × List DV) := res B90 (.c0 a188 a189)
noncomputable def D90_0 (a188 : Nat) (a189 : List DV) : DT cfz := (.go 16 [(.br false)] [1] (.br (a188.beq 0) (.go 4 [(.br false)] [] .fin) (.go 4 [(.br true)] [0] .fin)))
theorem k90_0 (a188 : Nat) (a189 : List DV) : xrun cfz 90 (D90_0 a188 a189) [] (st90 (.c0 a188 a189)) = (B90 (.c0 a188 a189)).mach st90 out90 := by kernel_rfl
theorem ok90 : ∀ s, ∃ d, xrun cfz 90 d [] (st90 s) = (B90 s).mach st90 out90
  | .c0 a188 a189 => ⟨_, k90_0 a188 a189⟩
theorem f90 (a188 : Nat) (a189 : List DV) (v : Nat × List DV) (h : F90 a188 a189 = some v) : PureCalls cfz.P cfz.glob 90 [(.d (.sl a188 a189))] (out90 v) := tree_pure knil ok90 (s := .c0 a188 a189) rfl (by kernel_rfl) v h

/-! F32 -/
inductive S32 where
  | c0 (a139 : Int) (a140 : Nat) (a141 : List DV) (a142 : Int) (a143 : Int)
def out32 (v : Nat × List DV × Int) : AV := (.tup [(.d (.sl v.fst v.snd.fst)), (.d (.v (.int .i64 v.snd.snd)))])
noncomputable def st32 : S32 → ASt
  | .c0 a139 a140 a141 a142 a143 => ent cfz 32 [(.agg [(.d (.v (.int .i64 a139))), (.d (.sl a140 a141))]), (.agg [(.d (.v (.int .i64 a142))), (.d (.v (.int .i64 a143)))])]
noncomputable def B32 : S32 → Tr S32 (Nat × List DV × Int)
  | .c0 a139 a140 a141 a142 a143 => (.bind (F29 a139 a140 a141) fun v182 =>
  (.br (decide (a142 < 0))
  (.bind (F77 true 14) fun v183 =>
  (.bind (F75 2 [(.v (.int .i64 v182)), (.v (.int .i64 v183))]) fun v184 =>
  (.sees [(.agg [(.d (.v (.int .i64 a139))), (.d (.sl a140 a141))])] (.ask (.eqB (decide (a142 < 0)) true) (.ask (.eqB (decide (a142 < 0)) true) (.ask (.eqB (decide (a142 < 0)) true) (.ask (.eqB (decide (a142 < 0)) true) (.ask (.eqB (decide (a142 < 0)) true) (.ask (.eqB (decide (a142 < 0)) true) (.sees [(.d (.v (.bool true))), (.d (.v (.int .i64 14)))] (.sees [(.d (.sl 2 [(.v (.int .i64 v182)), (.v (.int .i64 v183))]))] (.br (v184 != 0)
  (.ret (0, [], v184))
  (.br (a142 == a143)
  (.ret (0, [], 0))
  (.br ((↑a140 : Int) == 0)
  (.ret (0, [], 7))
  (.ask (.lt 0 ((↑a140 : Int))) (.ask (.leN 0 a141.length) (.ask (.leN 0 ((List.drop 0 a141).length)) (.ask (.prop (Option.map AV.d (List.drop 0 (List.drop 0 a141))[0]? = some (AV.d (DV.v (Value.int IntKind.i64 (dI (cel (List.drop 0 a141) 0))))))) (.bind (F77 (decide (a142 < dI (cel (List.drop 0 a141) 0))) 35) fun v185 =>
  (.bind (F77 (decide (a143 > dI (cel (List.drop 0 a141) 0) + (↑a140 : Int))) 7) fun v186 =>
  (.bind (F75 2 [(.v (.int .i64 v185)), (.v (.int .i64 v186))]) fun v187 =>
  (.sees [(.d (.v (.bool (decide (a142 < dI (cel (List.drop 0 a141) 0)))))), (.d (.v (.int .i64 35)))] (.ask (.in64 (dI (cel (List.drop 0 a141) 0) + (↑a140 : Int))) (.sees [(.d (.v (.bool (decide (a143 > dI (cel (List.drop 0 a141) 0) + (↑a140 : Int)))))), (.d (.v (.int .i64 7)))] (.sees [(.d (.sl 2 [(.v (.int .i64 v185)), (.v (.int .i64 v186))]))] (.br (v187 != 0)
  (.ret (0, [], v187))
  (.ask (.in64 (a142 - dI (cel (List.drop 0 a141) 0))) (.ask (.in64 (a143 - dI (cel (List.drop 0 a141) 0))) (.ask (.le 0 (a142 - dI (cel (List.drop 0 a141) 0))) (.ask (.le (a142 - dI (cel (List.drop 0 a141) 0)) (a143 - dI (cel (List.drop 0 a141) 0))) (.ask (.le (a143 - dI (cel (List.drop 0 a141) 0)) ((↑a140 : Int))) (.ask (.eqN a141.length (a140 * 5)) (.bind (F90 ((a143 - dI (cel (List.drop 0 a141) 0)).toNat - (a142 - dI (cel (List.drop 0 a141) 0)).toNat) (List.take (((a143 - dI (cel (List.drop 0 a141) 0)).toNat - (a142 - dI (cel (List.drop 0 a141) 0)).toNat) * 5) (List.drop ((a142 - dI (cel (List.drop 0 a141) 0)).toNat * 5) a141))) fun v190 =>
  (.sees [(.d (.sl ((a143 - dI (cel (List.drop 0 a141) 0)).toNat - (a142 - dI (cel (List.drop 0 a141) 0)).toNat) (List.take (((a143 - dI (cel (List.drop 0 a141) 0)).toNat - (a142 - dI (cel (List.drop 0 a141) 0)).toNat) * 5) (List.drop ((a142 - dI (cel (List.drop 0 a141) 0)).toNat * 5) a141))))] (.ret (v190.fst, v190.snd, 0))))))))))))))))))))))))))))))))))))
  (.bind (F77 (decide (a142 > a143)) 14) fun v191 =>
  (.bind (F75 2 [(.v (.int .i64 v182)), (.v (.int .i64 v191))]) fun v192 =>
  (.sees [(.agg [(.d (.v (.int .i64 a139))), (.d (.sl a140 a141))])] (.ask (.eqB (decide (a142 < 0)) false) (.ask (.eqB (decide (a142 < 0)) false) (.ask (.eqB (decide (a142 < 0)) false) (.ask (.eqB (decide (a142 < 0)) false) (.ask (.eqB (decide (a142 < 0)) false) (.ask (.eqB (decide (a142 < 0)) false) (.sees [(.d (.v (.bool (decide (a142 > a143))))), (.d (.v (.int .i64 14)))] (.sees [(.d (.sl 2 [(.v (.int .i64 v182)), (.v (.int .i64 v191))]))] (.br (v192 != 0)
  (.ret (0, [], v192))
  (.br (a142 == a143)
  (.ret (0, [], 0))
  (.br ((↑a140 : Int) == 0)
  (.ret (0, [], 7))
  (.ask (.lt 0 ((↑a140 : Int))) (.ask (.leN 0 a141.length) (.ask (.leN 0 ((List.drop 0 a141).length)) (.ask (.prop (Option.map AV.d (List.drop 0 (List.drop 0 a141))[0]? = some (AV.d (DV.v (Value.int IntKind.i64 (dI (cel (List.drop 0 a141) 0))))))) (.bind (F77 (decide (a142 < dI (cel (List.drop 0 a141) 0))) 35) fun v193 =>
  (.bind (F77 (decide (a143 > dI (cel (List.drop 0 a141) 0) + (↑a140 : Int))) 7) fun v194 =>
  (.bind (F75 2 [(.v (.int .i64 v193)), (.v (.int .i64 v194))]) fun v195 =>
  (.sees [(.d (.v (.bool (decide (a142 < dI (cel (List.drop 0 a141) 0)))))), (.d (.v (.int .i64 35)))] (.ask (.in64 (dI (cel (List.drop 0 a141) 0) + (↑a140 : Int))) (.sees [(.d (.v (.bool (decide (a143 > dI (cel (List.drop 0 a141) 0) + (↑a140 : Int)))))), (.d (.v (.int .i64 7)))] (.sees [(.d (.sl 2 [(.v (.int .i64 v193)), (.v (.int .i64 v194))]))] (.br (v195 != 0)
  (.ret (0, [], v195))
  (.ask (.in64 (a142 - dI (cel (List.drop 0 a141) 0))) (.ask (.in64 (a143 - dI (cel (List.drop 0 a141) 0))) (.ask (.le 0 (a142 - dI (cel (List.drop 0 a141) 0))) (.ask (.le (a142 - dI (cel (List.drop 0 a141) 0)) (a143 - dI (cel (List.drop 0 a141) 0))) (.ask (.le (a143 - dI (cel (List.drop 0 a141) 0)) ((↑a140 : Int))) (.ask (.eqN a141.length (a140 * 5)) (.bind (F90 ((a143 - dI (cel (List.drop 0 a141) 0)).toNat - (a142 - dI (cel (List.drop 0 a141) 0)).toNat) (List.take (((a143 - dI (cel (List.drop 0 a141) 0)).toNat - (a142 - dI (cel (List.drop 0 a141) 0)).toNat) * 5) (List.drop ((a142 - dI (cel (List.drop 0 a141) 0)).toNat * 5) a141))) fun v196 =>
  (.sees [(.d (.sl ((a143 - dI (cel (List.drop 0 a141) 0)).toNat - (a142 - dI (cel (List.drop 0 a141) 0)).toNat) (List.take (((a143 - dI (cel (List.drop 0 a141) 0)).toNat - (a142 - dI (cel (List.drop 0 a141) 0)).toNat) * 5) (List.drop ((a142 - dI (cel (List.drop 0 a141) 0)).toNat * 5) a141))))] (.ret (v196.fst, v196.snd, 0))))))))))))))))))))))))))))))))))))))
noncomputable def F32 (a139 : Int) (a140 : Nat) (a141 : List DV) (a142 : Int) (a143 : Int) : Option (Nat × List DV × Int) := res B32 (.c0 a139 a140 a141 a142 a143)
noncomputable def D32_0 (a139 : Int) (a140 : Nat) (a141 : List DV) (a142 : Int) (a143 : Int) : DT cfz := (.go 10 [] [] (.bind (f29 a139 a140 a141) fun v182 => (.br (decide (a142 < 0)) (.bind (f77 true 14) fun v183 => (.bind (f75 2 [(.v (.int .i64 v182)), (.v (.int .i64 v183))]) fun v184 => (.go 6 [.none, (.ck 0), .none, (.br true), (.br true), (.br true), (.br true), (.br true), (.br true), (.ck 1), (.ck 2)] [] (.split 25 (.go 8 [(.br true)] [0] .fin) (.go 11 [(.br false)] [0] (.split 31 (.go 7 [(.br true)] [0] .fin) (.go 10 [(.br false)] [0] (.split 35 (.go 7 [(.br true)] [0] .fin) (.go 14 [(.br false), .none, (.as (.d (.v (.int .i64 (dI (cel (List.drop 0 a141) 0))))))] [0, 1] (.bind (f77 (decide (a142 < dI (cel (List.drop 0 a141) 0))) 35) fun v185 => (.bind (f77 (decide (a143 > dI (cel (List.drop 0 a141) 0) + (↑a140 : Int))) 7) fun v186 => (.bind (f75 2 [(.v (.int .i64 v185)), (.v (.int .i64 v186))]) fun v187 => (.go 6 [(.ck 3), (.ck 4), (.ck 5)] [] (.split 58 (.go 8 [(.br true)] [0] .fin) (.go 15 [(.br false)] [0] (.bind (f90 ((a143 - dI (cel (List.drop 0 a141) 0)).toNat - (a142 - dI (cel (List.drop 0 a141) 0)).toNat) (List.take (((a143 - dI (cel (List.drop 0 a141) 0)).toNat - (a142 - dI (cel (List.drop 0 a141) 0)).toNat) * 5) (List.drop ((a142 - dI (cel (List.drop 0 a141) 0)).toNat * 5) a141))) fun v190 => (.go 5 [(.ck 6)] [] .fin))))))))))))))))) (.bind (f77 (decide (a142 > a143)) 14) fun v191 => (.bind (f75 2 [(.v (.int .i64 v182)), (.v (.int .i64 v191))]) fun v192 => (.go 6 [.none, (.ck 0), .none, (.br false), (.br false), .none, (.br false), (.br false), .none, (.br false), (.br false), (.ck 1), (.ck 2)] [] (.split 25 (.go 8 [(.br true)] [0] .fin) (.go 11 [(.br false)] [0] (.split 31 (.go 7 [(.br true)] [0] .fin) (.go 10 [(.br false)] [0] (.split 35 (.go 7 [(.br true)] [0] .fin) (.go 14 [(.br false), .none, (.as (.d (.v (.int .i64 (dI (cel (List.drop 0 a141) 0))))))] [0, 1] (.bind (f77 (decide (a142 < dI (cel (List.drop 0 a141) 0))) 35) fun v193 => (.bind (f77 (decide (a143 > dI (cel (List.drop 0 a141) 0) + (↑a140 : Int))) 7) fun v194 => (.bind (f75 2 [(.v (.int .i64 v193)), (.v (.int .i64 v194))]) fun v195 => (.go 6 [(.ck 3), (.ck 4), (.ck 5)] [] (.split 58 (.go 8 [(.br true)] [0] .fin) (.go 15 [(.br false)] [0] (.bind (f90 ((a143 - dI (cel (List.drop 0 a141) 0)).toNat - (a142 - dI (cel (List.drop 0 a141) 0)).toNat) (List.take (((a143 - dI (cel (List.drop 0 a141) 0)).toNat - (a142 - dI (cel (List.drop 0 a141) 0)).toNat) * 5) (List.drop ((a142 - dI (cel (List.drop 0 a141) 0)).toNat * 5) a141))) fun v196 => (.go 5 [(.ck 6)] [] .fin))))))))))))))))))))
theorem k32_0 (a139 : Int) (a140 : Nat) (a141 : List DV) (a142 : Int) (a143 : Int) : xrun cfz 32 (D32_0 a139 a140 a141 a142 a143) [] (st32 (.c0 a139 a140 a141 a142 a143)) = (B32 (.c0 a139 a140 a141 a142 a143)).mach st32 out32 := by kernel_rfl
theorem ok32 : ∀ s, ∃ d, xrun cfz 32 d [] (st32 s) = (B32 s).mach st32 out32
  | .c0 a139 a140 a141 a142 a143 => ⟨_, k32_0 a139 a140 a141 a142 a143⟩
theorem f32 (a139 : Int) (a140 : Nat) (a141 : List DV) (a142 : Int) (a143 : Int) (v : Nat × List DV × Int) (h : F32 a139 a140 a141 a142 a143 = some v) : PureCalls cfz.P cfz.glob 32 [(.agg [(.d (.v (.int .i64 a139))), (.d (.sl a140 a141))]), (.agg [(.d (.v (.int .i64 a142))), (.d (.v (.int .i64 a143)))])] (out32 v) := tree_pure knil ok32 (s := .c0 a139 a140 a141 a142 a143) rfl (by kernel_rfl) v h

/-! F33 -/
inductive S33 where
  | c0 (a198 : Int) (a199 : Nat) (a200 : List DV) (a201 : Int)
  | c1 (x206 : Int) (y207 : Int) (y208 : Int) (x209 : Int) (y210 : Int) (x211 : Int) (x212 : Nat) (x213 : List DV)
  | c2 (x214 : Int) (x215 : Int) (x216 : Int) (x217 : Int) (y218 : Int) (x219 : Int) (x220 : Nat) (x221 : List DV) (x222 : Int) (y223 : Int) (x224 : Int) (x225 : Nat) (x226 : List DV)
def out33 (v : Int × Int × Int) : AV := (.tup [(.d (.v (.int .i64 v.fst))), (.d (.v (.int .i64 v.snd.fst))), (.d (.v (.int .i64 v.snd.snd)))])
noncomputable def st33 : S33 → ASt
  | .c0 a198 a199 a200 a201 => ent cfz 33 [(.agg [(.d (.v (.int .i64 a198))), (.d (.sl a199 a200))]), (.d (.v (.int .i64 a201)))]
  | .c1 x206 y207 y208 x209 y210 x211 x212 x213 => ⟨⟨33, sp 68 0 [(1, (.d (.v (.int .i64 x206)))), (2, (.ptr 0 0)), (8, (.d (.v (.int .i64 y207)))), (9, (.d (.v (.int .i64 y208)))), (34, (.d (.v (.int .i64 x209)))), (35, (.d (.v (.int .i64 y210))))], [(.code (cd cfz.P 33 [1, 1, 1, 0, 1, 0, 0])), (.inLoop (cd cfz.P 33 [1, 1, 1, 0, 1, 0, 0])), (.inBlock 0), (.code (cd cfz.P 33 [1, 1, 1, 1]))], [], false, .none⟩, [], [(.cells [(.d (.v (.int .i64 x211))), (.d (.sl x212 x213))] 51)]⟩
  | .c2 x214 x215 x216 x217 y218 x219 x220 x221 x222 y223 x224 x225 x226 => ⟨⟨33, sp 68 0 [(1, (.d (.v (.int .i64 x214)))), (2, (.ptr 0 0)), (8, (.d (.v (.int .i64 x215)))), (9, (.d (.v (.int .i64 x216)))), (10, (.d (.v (.int .i64 x217)))), (11, (.d (.v (.int .i64 y218)))), (34, (.d (.v (.int .i64 x219)))), (35, (.d (.v (.int .i64 x217)))), (44, (.d (.sl x220 x221))), (45, (.d (.v (.int .i64 x222)))), (46, (.d (.v (.int .i64 y223))))], [(.code (cd cfz.P 33 [1, 1, 1, 0, 1, 0, 0, 1, 1, 0, 0, 1, 1, 0, 1, 0, 0])), (.inLoop (cd cfz.P 33 [1, 1, 1, 0, 1, 0, 0, 1, 1, 0, 0, 1, 1, 0, 1, 0, 0])), (.inBlock 2), (.code (cd cfz.P 33 [1, 1, 1, 0, 1, 0, 0, 1, 1, 0, 0, 1, 1, 1])), (.inBlock 1), (.code (cd cfz.P 33 [1, 1, 1, 0, 1, 0, 0, 1, 1, 1])), (.inLoop (cd cfz.P 33 [1, 1, 1, 0, 1, 0, 0])), (.inBlock 0), (.code (cd cfz.P 33 [1, 1, 1, 1]))], [], false, .none⟩, [], [(.cells [(.d (.v (.int .i64 x224))), (.d (.sl x225 x226))] 51)]⟩
noncomputable def B33 : S33 → Tr S33 (Int × Int × Int)
  | .c0 a198 a199 a200 a201 => (.bind (F29 a198 a199 a200) fun v202 =>
  (.bind (F89 a201 1 16) fun v203 =>
  (.bind (F77 (decide ((↑a199 : Int) < a201)) 16) fun v204 =>
  (.bind (F75 3 [(.v (.int .i64 v202)), (.v (.int .i64 v203)), (.v (.int .i64 v204))]) fun v205 =>
  (.sees [(.agg [(.d (.v (.int .i64 a198))), (.d (.sl a199 a200))])] (.sees [(.d (.v (.int .i64 a201))), (.d (.v (.int .i64 1))), (.d (.v (.int .i64 16)))] (.sees [(.d (.v (.bool (decide ((↑a199 : Int) < a201))))), (.d (.v (.int .i64 16)))] (.sees [(.d (.sl 3 [(.v (.int .i64 v202)), (.v (.int .i64 v203)), (.v (.int .i64 v204))]))] (.br (v205 != 0)
  (.ret (0, 0, v205))
  (.ask (.in64 ((↑a199 : Int) - a201)) (.ask (.in64 ((↑a199 : Int) - a201 + 1)) (.nxt (.c1 a201 (-1) 0 ((↑a199 : Int) - a201 + 1) 0 a198 a199 a200)))))))))))))
  | .c1 x206 y207 y208 x209 y210 x211 x212 x213 => (.br (decide (y210 < x209))
  (.ask (.in64 (y210 + x206)) (.ask (.le 0 y210) (.ask (.le y210 (y210 + x206)) (.ask (.le (y210 + x206) ((↑x212 : Int))) (.ask (.eqN x213.length (x212 * 5)) (.nxt (.c2 x206 y207 y208 y210 0 x209 ((y210 + x206).toNat - y210.toNat) (List.take (((y210 + x206).toNat - y210.toNat) * 5) (List.drop (y210.toNat * 5) x213)) ((↑((y210 + x206).toNat - y210.toNat) : Int)) 0 x211 x212 x213)))))))
  (.ret (y207, y208, 0)))
  | .c2 x214 x215 x216 x217 y218 x219 x220 x221 x222 y223 x224 x225 x226 => (.br (decide (y223 < x222))
  (.ask (.le 0 y223) (.ask (.lt y223 ((↑x220 : Int))) (.ask (.leN (y223.toNat * 5) x221.length) (.ask (.leN 5 ((List.drop (y223.toNat * 5) x221).length)) (.ask (.prop (List.map AV.d (List.take 5 (List.drop (y223.toNat * 5) x221)) = [AV.d (DV.v (Value.int IntKind.i64 (dI (cel x221 (y223.toNat * 5))))), AV.d (DV.v (Value.int IntKind.i64 (dI (cel x221 (y223.toNat * 5 + 1))))), AV.d (DV.v (Value.int IntKind.i64 (dI (cel x221 (y223.toNat * 5 + 2))))), AV.d (DV.v (Value.int IntKind.i64 (dI (cel x221 (y223.toNat * 5 + 3))))), AV.d (DV.v (Value.int IntKind.i64 (dI (cel x221 (y223.toNat * 5 + 4)))))])) (.ask (.in64 (y218 + dI (cel x221 (y223.toNat * 5 + 2)))) (.ask (.in64 (y223 + 1)) (.nxt (.c2 x214 x215 x216 x217 (y218 + dI (cel x221 (y223.toNat * 5 + 2))) x219 x220 x221 x222 (y223 + 1) x224 x225 x226)))))))))
  (.br (decide (y218 > x215))
  (.ask (.le 0 x217) (.ask (.lt x217 ((↑x225 : Int))) (.ask (.leN (x217.toNat * 5) x226.length) (.ask (.leN 0 ((List.drop (x217.toNat * 5) x226).length)) (.ask (.prop (Option.map AV.d (List.drop 0 (List.drop (x217.toNat * 5) x226))[0]? = some (AV.d (DV.v (Value.int IntKind.i64 (dI (cel (List.drop (x217.toNat * 5) x226) 0))))))) (.ask (.in64 (x217 + 1)) (.nxt (.c1 x214 y218 (dI (cel (List.drop (x217.toNat * 5) x226) 0)) x219 (x217 + 1) x224 x225 x226))))))))
  (.ask (.in64 (x217 + 1)) (.nxt (.c1 x214 x215 x216 x219 (x217 + 1) x224 x225 x226)))))
noncomputable def F33 (a198 : Int) (a199 : Nat) (a200 : List DV) (a201 : Int) : Option (Int × Int × Int) := res B33 (.c0 a198 a199 a200 a201)
noncomputable def D33_0 (a198 : Int) (a199 : Nat) (a200 : List DV) (a201 : Int) : DT cfz := (.go 10 [] [] (.bind (f29 a198 a199 a200) fun v202 => (.bind (f89 a201 1 16) fun v203 => (.bind (f77 (decide ((↑a199 : Int) < a201)) 16) fun v204 => (.bind (f75 3 [(.v (.int .i64 v202)), (.v (.int .i64 v203)), (.v (.int .i64 v204))]) fun v205 => (.go 6 [(.ck 0), (.ck 1), (.ck 2), (.ck 3)] [] (.split 27 (.go 9 [(.br true)] [0] .fin) (.go 20 [(.br false)] [0] (.cut 1 [[1, 2, 8, 9, 34, 35]] [])))))))))
theorem k33_0 (a198 : Int) (a199 : Nat) (a200 : List DV) (a201 : Int) : xrun cfz 33 (D33_0 a198 a199 a200 a201) [] (st33 (.c0 a198 a199 a200 a201)) = (B33 (.c0 a198 a199 a200 a201)).mach st33 out33 := by kernel_rfl
noncomputable def D33_1 (x206 : Int) (y207 : Int) (y208 : Int) (x209 : Int) (y210 : Int) (x211 : Int) (x212 : Nat) (x213 : List DV) : DT cfz := (.go 5 [] [] (.split 36 (.go 28 [(.br true)] [0] (.cut 1 [[1, 2, 8, 9, 10, 11, 34, 35, 44, 45, 46]] [])) (.go 11 [(.br false)] [0] .fin)))
theorem k33_1 (x206 : Int) (y207 : Int) (y208 : Int) (x209 : Int) (y210 : Int) (x211 : Int) (x212 : Nat) (x213 : List DV) : xrun cfz 33 (D33_1 x206 y207 y208 x209 y210 x211 x212 x213) [] (st33 (.c1 x206 y207 y208 x209 y210 x211 x212 x213)) = (B33 (.c1 x206 y207 y208 x209 y210 x211 x212 x213)).mach st33 out33 := by kernel_rfl
noncomputable def D33_2 (x214 : Int) (x215 : Int) (x216 : Int) (x217 : Int) (y218 : Int) (x219 : Int) (x220 : Nat) (x221 : List DV) (x222 : Int) (y223 : Int) (x224 : Int) (x225 : Nat) (x226 : List DV) : DT cfz := (.go 5 [] [] (.split 47 (.go 24 [(.br true), (.as (.agg [(.d (.v (.int .i64 (dI (cel x221 (y223.toNat * 5)))))), (.d (.v (.int .i64 (dI (cel x221 (y223.toNat * 5 + 1)))))), (.d (.v (.int .i64 (dI (cel x221 (y223.toNat * 5 + 2)))))), (.d (.v (.int .i64 (dI (cel x221 (y223.toNat * 5 + 3)))))), (.d (.v (.int .i64 (dI (cel x221 (y223.toNat * 5 + 4))))))]))] [0] (.cut 1 [[1, 2, 8, 9, 10, 11, 34, 35, 44, 45, 46]] [])) (.go 8 [(.br false)] [0] (.split 57 (.go 9 [(.br true), .none, (.as (.d (.v (.int .i64 (dI (cel (List.drop (x217.toNat * 5) x226) 0))))))] [0] (.cut 1 [[1, 2, 8, 9, 34, 35]] [])) (.go 8 [(.br false)] [0] (.cut 1 [[1, 2, 8, 9, 34, 35]] []))))))
theorem k33_2 (x214 : Int) (x215 : Int) (x216 : Int) (x217 : Int) (y218 : Int) (x219 : Int) (x220 : Nat) (x221 : List DV) (x222 : Int) (y223 : Int) (x224 : Int) (x225 : Nat) (x226 : List DV) : xrun cfz 33 (D33_2 x214 x215 x216 x217 y218 x219 x220 x221 x222 y223 x224 x225 x226) [] (st33 (.c2 x214 x215 x216 x217 y218 x219 x220 x221 x222 y223 x224 x225 x226)) = (B33 (.c2 x214 x215 x216 x217 y218 x219 x220 x221 x222 y223 x224 x225 x226)).mach st33 out33 := by kernel_rfl
theorem ok33 : ∀ s, ∃ d, xrun cfz 33 d [] (st33 s) = (B33 s).mach st33 out33
  | .c0 a198 a199 a200 a201 => ⟨_, k33_0 a198 a199 a200 a201⟩
  | .c1 x206 y207 y208 x209 y210 x211 x212 x213 => ⟨_, k33_1 x206 y207 y208 x209 y210 x211 x212 x213⟩
  | .c2 x214 x215 x216 x217 y218 x219 x220 x221 x222 y223 x224 x225 x226 => ⟨_, k33_2 x214 x215 x216 x217 y218 x219 x220 x221 x222 y223 x224 x225 x226⟩
theorem f33 (a198 : Int) (a199 : Nat) (a200 : List DV) (a201 : Int) (v : Int × Int × Int) (h : F33 a198 a199 a200 a201 = some v) : PureCalls cfz.P cfz.glob 33 [(.agg [(.d (.v (.int .i64 a198))), (.d (.sl a199 a200))]), (.d (.v (.int .i64 a201)))] (out33 v) := tree_pure knil ok33 (s := .c0 a198 a199 a200 a201) rfl (by kernel_rfl) v h

/-! F26 -/
inductive S26 where
  | c0 (a238 : Int) (a239 : Int) (a240 : Int) (a241 : Int) (a242 : Int)
def out26 (v : Int) : AV := (.d (.v (.int .i64 v)))
noncomputable def st26 : S26 → ASt
  | .c0 a238 a239 a240 a241 a242 => ent cfz 26 [(.agg [(.d (.v (.int .i64 a238))), (.d (.v (.int .i64 a239))), (.d (.v (.int .i64 a240))), (.d (.v (.int .i64 a241))), (.d (.v (.int .i64 a242)))])]
noncomputable def B26 : S26 → Tr S26 (Int)
  | .c0 a238 a239 a240 a241 a242 => (.bind (F34 a238 0 999999999) fun v243 =>
  (.bind (F34 a239 0 100000000) fun v244 =>
  (.bind (F34 a240 0 999999) fun v245 =>
  (.bind (F34 a241 0 999999) fun v246 =>
  (.bind (F34 a242 0 7) fun v247 =>
  (.bind (F24 5 [(.v (.int .i64 v243)), (.v (.int .i64 v244)), (.v (.int .i64 v245)), (.v (.int .i64 v246)), (.v (.int .i64 v247))]) fun v248 =>
  (.sees [(.d (.v (.int .i64 a238))), (.d (.v (.int .i64 0))), (.d (.v (.int .i64 999999999)))] (.sees [(.d (.v (.int .i64 a239))), (.d (.v (.int .i64 0))), (.d (.v (.int .i64 100000000)))] (.sees [(.d (.v (.int .i64 a240))), (.d (.v (.int .i64 0))), (.d (.v (.int .i64 999999)))] (.sees [(.d (.v (.int .i64 a241))), (.d (.v (.int .i64 0))), (.d (.v (.int .i64 999999)))] (.sees [(.d (.v (.int .i64 a242))), (.d (.v (.int .i64 0))), (.d (.v (.int .i64 7)))] (.sees [(.d (.sl 5 [(.v (.int .i64 v243)), (.v (.int .i64 v244)), (.v (.int .i64 v245)), (.v (.int .i64 v246)), (.v (.int .i64 v247))]))] (.ret v248)))))))))))))
noncomputable def F26 (a238 : Int) (a239 : Int) (a240 : Int) (a241 : Int) (a242 : Int) : Option (Int) := res B26 (.c0 a238 a239 a240 a241 a242)
noncomputable def D26_0 (a238 : Int) (a239 : Int) (a240 : Int) (a241 : Int) (a242 : Int) : DT cfz := (.go 7 [] [] (.bind (f34 a238 0 999999999) fun v243 => (.bind (f34 a239 0 100000000) fun v244 => (.bind (f34 a240 0 999999) fun v245 => (.bind (f34 a241 0 999999) fun v246 => (.bind (f34 a242 0 7) fun v247 => (.bind (f24 5 [(.v (.int .i64 v243)), (.v (.int .i64 v244)), (.v (.int .i64 v245)), (.v (.int .i64 v246)), (.v (.int .i64 v247))]) fun v248 => (.go 2 [(.ck 0), (.ck 1), (.ck 2), (.ck 3), (.ck 4), (.ck 5)] [] .fin))))))))
theorem k26_0 (a238 : Int) (a239 : Int) (a240 : Int) (a241 : Int) (a242 : Int) : xrun cfz 26 (D26_0 a238 a239 a240 a241 a242) [] (st26 (.c0 a238 a239 a240 a241 a242)) = (B26 (.c0 a238 a239 a240 a241 a242)).mach st26 out26 := by kernel_rfl
theorem ok26 : ∀ s, ∃ d, xrun cfz 26 d [] (st26 s) = (B26 s).mach st26 out26
  | .c0 a238 a239 a240 a241 a242 => ⟨_, k26_0 a238 a239 a240 a241 a242⟩
theorem f26 (a238 : Int) (a239 : Int) (a240 : Int) (a241 : Int) (a242 : Int) (v : Int) (h : F26 a238 a239 a240 a241 a242 = some v) : PureCalls cfz.P cfz.glob 26 [(.agg [(.d (.v (.int .i64 a238))), (.d (.v (.int .i64 a239))), (.d (.v (.int .i64 a240))), (.d (.v (.int .i64 a241))), (.d (.v (.int .i64 a242)))])] (out26 v) := tree_pure knil ok26 (s := .c0 a238 a239 a240 a241 a242) rfl (by kernel_rfl) v h

/-! F88 -/
inductive S88 where
  | c0 (a250 : Int) (a251 : Int) (a252 : Int) (a253 : Int) (a254 : Int) (a255 : Int) (a256 : Int) (a257 : Int) (a258 : Int) (a259 : Int)
def out88 (v : Bool) : AV := (.d (.v (.bool v)))
noncomputable def st88 : S88 → ASt
  | .c0 a250 a251 a252 a253 a254 a255 a256 a257 a258 a259 => ent cfz 88 [(.agg [(.d (.v (.int .i64 a250))), (.d (.v (.int .i64 a251))), (.d (.v (.int .i64 a252))), (.d (.v (.int .i64 a253))), (.d (.v (.int .i64 a254)))]), (.agg [(.d (.v (.int .i64 a255))), (.d (.v (.int .i64 a256))), (.d (.v (.int .i64 a257))), (.d (.v (.int .i64 a258))), (.d (.v (.int .i64 a259)))])]
noncomputable def B88 : S88 → Tr S88 (Bool)
  | .c0 a250 a251 a252 a253 a254 a255 a256 a257 a258 a259 => (.ask (.in64 (a250 + 1)) (.br (a255 == a250 + 1)
  (.ret (decide (a256 > a251)))
  (.ret false)))
noncomputable def F88 (a250 : Int) (a251 : Int) (a252 : Int) (a253 : Int) (a254 : Int) (a255 : Int) (a256 : Int) (a257 : Int) (a258 : Int) (a259 : Int) : Option (Bool) := res B88 (.c0 a250 a251 a252 a253 a254 a255 a256 a257 a258 a259)
noncomputable def D88_0 (a250 : Int) (a251 : Int) (a252 : Int) (a253 : Int) (a254 : Int) (a255 : Int) (a256 : Int) (a257 : Int) (a258 : Int) (a259 : Int) : DT cfz := (.go 15 [] [] (.split 11 (.go 9 [(.br true), (.br true), .none, (.br true), (.br true), .none, (.br true)] [0, 1, 2, 3, 4] .fin) (.go 9 [(.br false), (.br false), (.br false), (.br false), (.br false)] [0, 1, 2, 3, 4] .fin)))
theorem k88_0 (a250 : Int) (a251 : Int) (a252 : Int) (a253 : Int) (a254 : Int) (a255 : Int) (a256 : Int) (a257 : Int) (a258 : Int) (a259 : Int) : xrun cfz 88 (D88_0 a250 a251 a252 a253 a254 a255 a256 a257 a258 a259) [] (st88 (.c0 a250 a251 a252 a253 a254 a255 a256 a257 a258 a259)) = (B88 (.c0 a250 a251 a252 a253 a254 a255 a256 a257 a258 a259)).mach st88 out88 := by kernel_rfl
theorem ok88 : ∀ s, ∃ d, xrun cfz 88 d [] (st88 s) = (B88 s).mach st88 out88
  | .c0 a250 a251 a252 a253 a254 a255 a256 a257 a258 a259 => ⟨_, k88_0 a250 a251 a252 a253 a254 a255 a256 a257 a258 a259⟩
theorem f88 (a250 : Int) (a251 : Int) (a252 : Int) (a253 : Int) (a254 : Int) (a255 : Int) (a256 : Int) (a257 : Int) (a258 : Int) (a259 : Int) (v : Bool) (h : F88 a250 a251 a252 a253 a254 a255 a256 a257 a258 a259 = some v) : PureCalls cfz.P cfz.glob 88 [(.agg [(.d (.v (.int .i64 a250))), (.d (.v (.int .i64 a251))), (.d (.v (.int .i64 a252))), (.d (.v (.int .i64 a253))), (.d (.v (.int .i64 a254)))]), (.agg [(.d (.v (.int .i64 a255))), (.d (.v (.int .i64 a256))), (.d (.v (.int .i64 a257))), (.d (.v (.int .i64 a258))), (.d (.v (.int .i64 a259)))])] (out88 v) := tree_pure knil ok88 (s := .c0 a250 a251 a252 a253 a254 a255 a256 a257 a258 a259) rfl (by kernel_rfl) v h

/-! F25 -/
inductive S25 where
  | c0 (a228 : Int) (a229 : Nat) (a230 : List DV)
  | c1 (y234 : Int) (x235 : Int) (x236 : Nat) (x237 : List DV)
def out25 (v : Int) : AV := (.d (.v (.int .i64 v)))
noncomputable def st25 : S25 → ASt
  | .c0 a228 a229 a230 => ent cfz 25 [(.agg [(.d (.v (.int .i64 a228))), (.d (.sl a229 a230))])]
  | .c1 y234 x235 x236 x237 => ⟨⟨25, sp 54 0 [(1, (.ptr 0 0)), (4, (.d (.v (.int .i64 y234))))], [(.code (cd cfz.P 25 [1, 1, 0, 1, 0, 0])), (.inLoop (cd cfz.P 25 [1, 1, 0, 1, 0, 0])), (.inBlock 0), (.code (cd cfz.P 25 [1, 1, 1]))], [], false, .none⟩, [], [(.cells [(.d (.v (.int .i64 x235))), (.d (.sl x236 x237))] 45)]⟩
noncomputable def B25 : S25 → Tr S25 (Int)
  | .c0 a228 a229 a230 => (.bind (F34 a228 1 64) fun v231 =>
  (.bind (F82 (decide ((↑a229 : Int) > a228)) 5) fun v232 =>
  (.bind (F24 2 [(.v (.int .i64 v231)), (.v (.int .i64 v232))]) fun v233 =>
  (.sees [(.d (.v (.int .i64 a228))), (.d (.v (.int .i64 1))), (.d (.v (.int .i64 64)))] (.sees [(.d (.v (.bool (decide ((↑a229 : Int) > a228))))), (.d (.v (.int .i64 5)))] (.sees [(.d (.sl 2 [(.v (.int .i64 v231)), (.v (.int .i64 v232))]))] (.br (v233 != 0)
  (.ret v233)
  (.nxt (.c1 0 a228 a229 a230)))))))))
  | .c1 y234 x235 x236 x237 => (.br (decide (y234 < (↑x236 : Int)))
  (.ask (.le 0 y234) (.ask (.lt y234 ((↑x236 : Int))) (.ask (.leN (y234.toNat * 5) x237.length) (.ask (.leN 5 ((List.drop (y234.toNat * 5) x237).length)) (.ask (.prop (List.map AV.d (List.take 5 (List.drop (y234.toNat * 5) x237)) = [AV.d (DV.v (Value.int IntKind.i64 (dI (cel x237 (y234.toNat * 5))))), AV.d (DV.v (Value.int IntKind.i64 (dI (cel x237 (y234.toNat * 5 + 1))))), AV.d (DV.v (Value.int IntKind.i64 (dI (cel x237 (y234.toNat * 5 + 2))))), AV.d (DV.v (Value.int IntKind.i64 (dI (cel x237 (y234.toNat * 5 + 3))))), AV.d (DV.v (Value.int IntKind.i64 (dI (cel x237 (y234.toNat * 5 + 4)))))])) (.bind (F26 (dI (cel x237 (y234.toNat * 5))) (dI (cel x237 (y234.toNat * 5 + 1))) (dI (cel x237 (y234.toNat * 5 + 2))) (dI (cel x237 (y234.toNat * 5 + 3))) (dI (cel x237 (y234.toNat * 5 + 4)))) fun v249 =>
  (.sees [(.agg [(.d (.v (.int .i64 (dI (cel x237 (y234.toNat * 5)))))), (.d (.v (.int .i64 (dI (cel x237 (y234.toNat * 5 + 1)))))), (.d (.v (.int .i64 (dI (cel x237 (y234.toNat * 5 + 2)))))), (.d (.v (.int .i64 (dI (cel x237 (y234.toNat * 5 + 3)))))), (.d (.v (.int .i64 (dI (cel x237 (y234.toNat * 5 + 4))))))])] (.br (v249 != 0)
  (.ret v249)
  (.br (decide (y234 > 0))
  (.bind (F88 (dI (cel x237 ((y234 - 1).toNat * 5))) (dI (cel x237 ((y234 - 1).toNat * 5 + 1))) (dI (cel x237 ((y234 - 1).toNat * 5 + 2))) (dI (cel x237 ((y234 - 1).toNat * 5 + 3))) (dI (cel x237 ((y234 - 1).toNat * 5 + 4))) (dI (cel x237 (y234.toNat * 5))) (dI (cel x237 (y234.toNat * 5 + 1))) (dI (cel x237 (y234.toNat * 5 + 2))) (dI (cel x237 (y234.toNat * 5 + 3))) (dI (cel x237 (y234.toNat * 5 + 4)))) fun v260 =>
  (.ask (.eqB (decide (y234 > 0)) true) (.ask (.eqB (decide (y234 > 0)) true) (.ask (.eqB (decide (y234 > 0)) true) (.ask (.in64 (y234 - 1)) (.ask (.eqB (decide (y234 > 0)) true) (.ask (.le 0 (y234 - 1)) (.ask (.lt (y234 - 1) ((↑x236 : Int))) (.ask (.leN ((y234 - 1).toNat * 5) x237.length) (.ask (.eqB (decide (y234 > 0)) true) (.ask (.leN 5 ((List.drop ((y234 - 1).toNat * 5) x237).length)) (.ask (.prop (List.map AV.d (List.take 5 (List.drop ((y234 - 1).toNat * 5) x237)) = [AV.d (DV.v (Value.int IntKind.i64 (dI (cel x237 ((y234 - 1).toNat * 5))))), AV.d (DV.v (Value.int IntKind.i64 (dI (cel x237 ((y234 - 1).toNat * 5 + 1))))), AV.d (DV.v (Value.int IntKind.i64 (dI (cel x237 ((y234 - 1).toNat * 5 + 2))))), AV.d (DV.v (Value.int IntKind.i64 (dI (cel x237 ((y234 - 1).toNat * 5 + 3))))), AV.d (DV.v (Value.int IntKind.i64 (dI (cel x237 ((y234 - 1).toNat * 5 + 4)))))])) (.ask (.eqB (decide (y234 > 0)) true) (.ask (.eqB (decide (y234 > 0)) true) (.ask (.eqB (decide (y234 > 0)) true) (.ask (.eqB (decide (y234 > 0)) true) (.ask (.le 0 y234) (.ask (.lt y234 ((↑x236 : Int))) (.ask (.leN (y234.toNat * 5) x237.length) (.ask (.eqB (decide (y234 > 0)) true) (.ask (.leN 5 ((List.drop (y234.toNat * 5) x237).length)) (.ask (.prop (List.map AV.d (List.take 5 (List.drop (y234.toNat * 5) x237)) = [AV.d (DV.v (Value.int IntKind.i64 (dI (cel x237 (y234.toNat * 5))))), AV.d (DV.v (Value.int IntKind.i64 (dI (cel x237 (y234.toNat * 5 + 1))))), AV.d (DV.v (Value.int IntKind.i64 (dI (cel x237 (y234.toNat * 5 + 2))))), AV.d (DV.v (Value.int IntKind.i64 (dI (cel x237 (y234.toNat * 5 + 3))))), AV.d (DV.v (Value.int IntKind.i64 (dI (cel x237 (y234.toNat * 5 + 4)))))])) (.ask (.eqB (decide (y234 > 0)) true) (.sees [(.agg [(.d (.v (.int .i64 (dI (cel x237 ((y234 - 1).toNat * 5)))))), (.d (.v (.int .i64 (dI (cel x237 ((y234 - 1).toNat * 5 + 1)))))), (.d (.v (.int .i64 (dI (cel x237 ((y234 - 1).toNat * 5 + 2)))))), (.d (.v (.int .i64 (dI (cel x237 ((y234 - 1).toNat * 5 + 3)))))), (.d (.v (.int .i64 (dI (cel x237 ((y234 - 1).toNat * 5 + 4))))))]), (.agg [(.d (.v (.int .i64 (dI (cel x237 (y234.toNat * 5)))))), (.d (.v (.int .i64 (dI (cel x237 (y234.toNat * 5 + 1)))))), (.d (.v (.int .i64 (dI (cel x237 (y234.toNat * 5 + 2)))))), (.d (.v (.int .i64 (dI (cel x237 (y234.toNat * 5 + 3)))))), (.d (.v (.int .i64 (dI (cel x237 (y234.toNat * 5 + 4))))))])] (.ask (.eqB (decide (y234 > 0)) true) (.ask (.eqB (decide (y234 > 0)) true) (.ask (.eqB (decide (y234 > 0)) true) (.br (!v260)
  (.ret 11)
  (.ask (.in64 (y234 + 1)) (.nxt (.c1 (y234 + 1) x235 x236 x237)))))))))))))))))))))))))))))))
  (.ask (.eqB (decide (y234 > 0)) false) (.ask (.eqB (decide (y234 > 0)) false) (.ask (.eqB (decide (y234 > 0)) false) (.ask (.eqB (decide (y234 > 0)) false) (.ask (.eqB (decide (y234 > 0)) false) (.ask (.eqB (decide (y234 > 0)) false) (.ask (.eqB (decide (y234 > 0)) false) (.ask (.eqB (decide (y234 > 0)) false) (.ask (.eqB (decide (y234 > 0)) false) (.ask (.eqB (decide (y234 > 0)) false) (.ask (.eqB (decide (y234 > 0)) false) (.ask (.eqB (decide (y234 > 0)) false) (.ask (.eqB (decide (y234 > 0)) false) (.ask (.eqB (decide (y234 > 0)) false) (.ask (.in64 (y234 + 1)) (.nxt (.c1 (y234 + 1) x235 x236 x237))))))))))))))))))))))))))
  (.ret 0))
noncomputable def F25 (a228 : Int) (a229 : Nat) (a230 : List DV) : Option (Int) := res B25 (.c0 a228 a229 a230)
noncomputable def D25_0 (a228 : Int) (a229 : Nat) (a230 : List DV) : DT cfz := (.go 8 [] [] (.bind (f34 a228 1 64) fun v231 => (.bind (f82 (decide ((↑a229 : Int) > a228)) 5) fun v232 => (.bind (f24 2 [(.v (.int .i64 v231)), (.v (.int .i64 v232))]) fun v233 => (.go 6 [(.ck 0), (.ck 1), (.ck 2)] [] (.split 19 (.go 7 [(.br true)] [0] .fin) (.go 9 [(.br false)] [0] (.cut 1 [[1, 4]] []))))))))
theorem k25_0 (a228 : Int) (a229 : Nat) (a230 : List DV) : xrun cfz 25 (D25_0 a228 a229 a230) [] (st25 (.c0 a228 a229 a230)) = (B25 (.c0 a228 a229 a230)).mach st25 out25 := by kernel_rfl
noncomputable def D25_1 (y234 : Int) (x235 : Int) (x236 : Nat) (x237 : List DV) : DT cfz := (.go 9 [] [] (.split 25 (.go 12 [(.br true), .none, (.as (.agg [(.d (.v (.int .i64 (dI (cel x237 (y234.toNat * 5)))))), (.d (.v (.int .i64 (dI (cel x237 (y234.toNat * 5 + 1)))))), (.d (.v (.int .i64 (dI (cel x237 (y234.toNat * 5 + 2)))))), (.d (.v (.int .i64 (dI (cel x237 (y234.toNat * 5 + 3)))))), (.d (.v (.int .i64 (dI (cel x237 (y234.toNat * 5 + 4))))))]))] [0] (.bind (f26 (dI (cel x237 (y234.toNat * 5))) (dI (cel x237 (y234.toNat * 5 + 1))) (dI (cel x237 (y234.toNat * 5 + 2))) (dI (cel x237 (y234.toNat * 5 + 3))) (dI (cel x237 (y234.toNat * 5 + 4)))) fun v249 => (.go 8 [(.ck 0)] [] (.split 35 (.go 7 [(.br true)] [0] .fin) (.go 4 [(.br false)] [0] (.br (decide (y234 > 0)) (.bind (f88 (dI (cel x237 ((y234 - 1).toNat * 5))) (dI (cel x237 ((y234 - 1).toNat * 5 + 1))) (dI (cel x237 ((y234 - 1).toNat * 5 + 2))) (dI (cel x237 ((y234 - 1).toNat * 5 + 3))) (dI (cel x237 ((y234 - 1).toNat * 5 + 4))) (dI (cel x237 (y234.toNat * 5))) (dI (cel x237 (y234.toNat * 5 + 1))) (dI (cel x237 (y234.toNat * 5 + 2))) (dI (cel x237 (y234.toNat * 5 + 3))) (dI (cel x237 (y234.toNat * 5 + 4)))) fun v260 => (.go 1 [(.br true), (.br true), .none, (.br true), (.br true), (.br true), (.br true), (.as (.agg [(.d (.v (.int .i64 (dI (cel x237 ((y234 - 1).toNat * 5)))))), (.d (.v (.int .i64 (dI (cel x237 ((y234 - 1).toNat * 5 + 1)))))), (.d (.v (.int .i64 (dI (cel x237 ((y234 - 1).toNat * 5 + 2)))))), (.d (.v (.int .i64 (dI (cel x237 ((y234 - 1).toNat * 5 + 3)))))), (.d (.v (.int .i64 (dI (cel x237 ((y234 - 1).toNat * 5 + 4))))))])), (.br true), (.br true), .none, (.br true), (.br true), (.br true), (.as (.agg [(.d (.v (.int .i64 (dI (cel x237 (y234.toNat * 5)))))), (.d (.v (.int .i64 (dI (cel x237 (y234.toNat * 5 + 1)))))), (.d (.v (.int .i64 (dI (cel x237 (y234.toNat * 5 + 2)))))), (.d (.v (.int .i64 (dI (cel x237 (y234.toNat * 5 + 3)))))), (.d (.v (.int .i64 (dI (cel x237 (y234.toNat * 5 + 4))))))])), (.br true), (.ck 1), (.br true), (.br true)] [] (.split 53 (.go 6 [(.br true)] [0] .fin) (.go 9 [(.br false)] [0] (.cut 1 [[1, 4]] []))))) (.go 10 [(.br false), (.br false), (.br false), (.br false), (.br false), (.br false), (.br false), (.br false), (.br false), (.br false), (.br false), (.br false), (.br false), (.br false), (.br false)] [14] (.cut 1 [[1, 4]] [])))))))) (.go 7 [(.br false)] [0] .fin)))
theorem k25_1 (y234 : Int) (x235 : Int) (x236 : Nat) (x237 : List DV) : xrun cfz 25 (D25_1 y234 x235 x236 x237) [] (st25 (.c1 y234 x235 x236 x237)) = (B25 (.c1 y234 x235 x236 x237)).mach st25 out25 := by kernel_rfl
theorem ok25 : ∀ s, ∃ d, xrun cfz 25 d [] (st25 s) = (B25 s).mach st25 out25
  | .c0 a228 a229 a230 => ⟨_, k25_0 a228 a229 a230⟩
  | .c1 y234 x235 x236 x237 => ⟨_, k25_1 y234 x235 x236 x237⟩
theorem f25 (a228 : Int) (a229 : Nat) (a230 : List DV) (v : Int) (h : F25 a228 a229 a230 = some v) : PureCalls cfz.P cfz.glob 25 [(.agg [(.d (.v (.int .i64 a228))), (.d (.sl a229 a230))])] (out25 v) := tree_pure knil ok25 (s := .c0 a228 a229 a230) rfl (by kernel_rfl) v h

/-! F35 -/
inductive S35 where
  | c0 (a264 : Int) (a265 : Nat) (a266 : List DV) (a267 : Int) (a268 : Int)
def out35 (v : Nat × List DV × Int) : AV := (.tup [(.d (.sl v.fst v.snd.fst)), (.d (.v (.int .i64 v.snd.snd)))])
noncomputable def st35 : S35 → ASt
  | .c0 a264 a265 a266 a267 a268 => ent cfz 35 [(.agg [(.d (.v (.int .i64 a264))), (.d (.sl a265 a266))]), (.agg [(.d (.v (.int .i64 a267))), (.d (.v (.int .i64 a268)))])]
noncomputable def B35 : S35 → Tr S35 (Nat × List DV × Int)
  | .c0 a264 a265 a266 a267 a268 => (.br (decide (a267 < 0))
  (.ret (0, [], 14))
  (.br (decide (a267 > a268))
  (.ret (0, [], 14))
  (.br (a267 == a268)
  (.ret (0, [], 0))
  (.br ((↑a265 : Int) == 0)
  (.ret (0, [], 7))
  (.ask (.lt 0 ((↑a265 : Int))) (.ask (.leN 0 a266.length) (.ask (.leN 0 ((List.drop 0 a266).length)) (.ask (.prop (Option.map AV.d (List.drop 0 (List.drop 0 a266))[0]? = some (AV.d (DV.v (Value.int IntKind.i64 (dI (cel (List.drop 0 a266) 0))))))) (.br (decide (a267 < dI (cel (List.drop 0 a266) 0)))
  (.ret (0, [], 35))
  (.ask (.in64 (dI (cel (List.drop 0 a266) 0) + (↑a265 : Int))) (.br (decide (a268 > dI (cel (List.drop 0 a266) 0) + (↑a265 : Int)))
  (.ret (0, [], 7))
  (.ask (.in64 (a267 - dI (cel (List.drop 0 a266) 0))) (.ask (.in64 (a268 - dI (cel (List.drop 0 a266) 0))) (.ask (.le 0 (a267 - dI (cel (List.drop 0 a266) 0))) (.ask (.le (a267 - dI (cel (List.drop 0 a266) 0)) (a268 - dI (cel (List.drop 0 a266) 0))) (.ask (.le (a268 - dI (cel (List.drop 0 a266) 0)) ((↑a265 : Int))) (.ask (.eqN a266.length (a265 * 5)) (.br (((a268 - dI (cel (List.drop 0 a266) 0)).toNat - (a267 - dI (cel (List.drop 0 a266) 0)).toNat).beq 0)
  (.ask (.eqN ((a268 - dI (cel (List.drop 0 a266) 0)).toNat - (a267 - dI (cel (List.drop 0 a266) 0)).toNat) 0) (.ret (0, [], 0)))
  (.ask (.ltN 0 ((a268 - dI (cel (List.drop 0 a266) 0)).toNat - (a267 - dI (cel (List.drop 0 a266) 0)).toNat)) (.ask (.eqN ((List.take (((a268 - dI (cel (List.drop 0 a266) 0)).toNat - (a267 - dI (cel (List.drop 0 a266) 0)).toNat) * 5) (List.drop ((a267 - dI (cel (List.drop 0 a266) 0)).toNat * 5) a266)).length) (((a268 - dI (cel (List.drop 0 a266) 0)).toNat - (a267 - dI (cel (List.drop 0 a266) 0)).toNat) * 5)) (.ask (.fits (0 + ((a268 - dI (cel (List.drop 0 a266) 0)).toNat - (a267 - dI (cel (List.drop 0 a266) 0)).toNat)) 40) (.ret ((0 + ((a268 - dI (cel (List.drop 0 a266) 0)).toNat - (a267 - dI (cel (List.drop 0 a266) 0)).toNat)), ([] ++ List.take (((a268 - dI (cel (List.drop 0 a266) 0)).toNat - (a267 - dI (cel (List.drop 0 a266) 0)).toNat) * 5) (List.drop ((a267 - dI (cel (List.drop 0 a266) 0)).toNat * 5) a266)), 0)))))))))))))))))))))))
noncomputable def F35 (a264 : Int) (a265 : Nat) (a266 : List DV) (a267 : Int) (a268 : Int) : Option (Nat × List DV × Int) := res B35 (.c0 a264 a265 a266 a267 a268)
noncomputable def D35_0 (a264 : Int) (a265 : Nat) (a266 : List DV) (a267 : Int) (a268 : Int) : DT cfz := (.go 14 [] [] (.split 10 (.go 14 [(.br true), (.br true), (.br true), (.br true), (.br true), .none, (.br true)] [0, 1, 2, 3, 4, 5] .fin) (.go 7 [(.br false), (.br false), .none, (.br false), (.br false), .none, (.br false)] [0, 1, 2, 3, 4] (.split 16 (.go 7 [(.br true)] [0] .fin) (.go 11 [(.br false)] [0] (.split 21 (.go 7 [(.br true)] [0] .fin) (.go 10 [(.br false)] [0] (.split 25 (.go 7 [(.br true)] [0] .fin) (.go 19 [(.br false), .none, (.as (.d (.v (.int .i64 (dI (cel (List.drop 0 a266) 0))))))] [0, 1] (.split 34 (.go 7 [(.br true)] [0] .fin) (.go 14 [(.br false)] [0] (.split 42 (.go 7 [(.br true)] [0] .fin) (.go 16 [(.br false)] [0] (.br (((a268 - dI (cel (List.drop 0 a266) 0)).toNat - (a267 - dI (cel (List.drop 0 a266) 0)).toNat).beq 0) (.go 5 [(.br false)] [] .fin) (.go 5 [(.br true)] [0] .fin)))))))))))))))
theorem k35_0 (a264 : Int) (a265 : Nat) (a266 : List DV) (a267 : Int) (a268 : Int) : xrun cfz 35 (D35_0 a264 a265 a266 a267 a268) [] (st35 (.c0 a264 a265 a266 a267 a268)) = (B35 (.c0 a264 a265 a266 a267 a268)).mach st35 out35 := by kernel_rfl
theorem ok35 : ∀ s, ∃ d, xrun cfz 35 d [] (st35 s) = (B35 s).mach st35 out35
  | .c0 a264 a265 a266 a267 a268 => ⟨_, k35_0 a264 a265 a266 a267 a268⟩
theorem f35 (a264 : Int) (a265 : Nat) (a266 : List DV) (a267 : Int) (a268 : Int) (v : Nat × List DV × Int) (h : F35 a264 a265 a266 a267 a268 = some v) : PureCalls cfz.P cfz.glob 35 [(.agg [(.d (.v (.int .i64 a264))), (.d (.sl a265 a266))]), (.agg [(.d (.v (.int .i64 a267))), (.d (.v (.int .i64 a268)))])] (out35 v) := tree_pure knil ok35 (s := .c0 a264 a265 a266 a267 a268) rfl (by kernel_rfl) v h

/-! F36 -/
inductive S36 where
  | c0 (a270 : Int) (a271 : Nat) (a272 : List DV) (a273 : Int)
  | c1 (x274 : Int) (y275 : Int) (y276 : Int) (y277 : Int) (x278 : Int) (x279 : Nat) (x280 : List DV)
  | c2 (x281 : Int) (x282 : Int) (x283 : Int) (x284 : Int) (y285 : Int) (y286 : Int) (x287 : Int) (x288 : Nat) (x289 : List DV)
def out36 (v : Int × Int × Int) : AV := (.tup [(.d (.v (.int .i64 v.fst))), (.d (.v (.int .i64 v.snd.fst))), (.d (.v (.int .i64 v.snd.snd)))])
noncomputable def st36 : S36 → ASt
  | .c0 a270 a271 a272 a273 => ent cfz 36 [(.agg [(.d (.v (.int .i64 a270))), (.d (.sl a271 a272))]), (.d (.v (.int .i64 a273)))]
  | .c1 x274 y275 y276 y277 x278 x279 x280 => ⟨⟨36, sp 53 0 [(1, (.d (.v (.int .i64 x274)))), (2, (.ptr 0 0)), (7, (.d (.v (.int .i64 y275)))), (8, (.d (.v (.int .i64 y276)))), (9, (.d (.v (.int .i64 y277))))], [(.code (cd cfz.P 36 [1, 1, 1, 0, 1, 0, 0])), (.inLoop (cd cfz.P 36 [1, 1, 1, 0, 1, 0, 0])), (.inBlock 0), (.code (cd cfz.P 36 [1, 1, 1, 1]))], [], false, .none⟩, [], [(.cells [(.d (.v (.int .i64 x278))), (.d (.sl x279 x280))] 45)]⟩
  | .c2 x281 x282 x283 x284 y285 y286 x287 x288 x289 => ⟨⟨36, sp 53 0 [(1, (.d (.v (.int .i64 x281)))), (2, (.ptr 0 0)), (7, (.d (.v (.int .i64 x282)))), (8, (.d (.v (.int .i64 x283)))), (9, (.d (.v (.int .i64 x284)))), (10, (.d (.v (.int .i64 y285)))), (11, (.d (.v (.int .i64 y286))))], [(.code (cd cfz.P 36 [1, 1, 1, 0, 1, 0, 0, 1, 0, 0, 1, 0, 1, 0, 0])), (.inLoop (cd cfz.P 36 [1, 1, 1, 0, 1, 0, 0, 1, 0, 0, 1, 0, 1, 0, 0])), (.inBlock 2), (.code (cd cfz.P 36 [1, 1, 1, 0, 1, 0, 0, 1, 0, 0, 1, 1])), (.inBlock 1), (.code (cd cfz.P 36 [1, 1, 1, 0, 1, 0, 0, 1, 1])), (.inLoop (cd cfz.P 36 [1, 1, 1, 0, 1, 0, 0])), (.inBlock 0), (.code (cd cfz.P 36 [1, 1, 1, 1]))], [], false, .none⟩, [], [(.cells [(.d (.v (.int .i64 x287))), (.d (.sl x288 x289))] 45)]⟩
noncomputable def B36 : S36 → Tr S36 (Int × Int × Int)
  | .c0 a270 a271 a272 a273 => (.br (decide ((↑a271 : Int) < a273))
  (.ret (0, 0, 16))
  (.nxt (.c1 a273 (-1) 0 0 a270 a271 a272)))
  | .c1 x274 y275 y276 y277 x278 x279 x280 => (.ask (.in64 (y277 + x274)) (.br (decide (y277 + x274 ≤ (↑x279 : Int)))
  (.nxt (.c2 x274 y275 y276 y277 0 0 x278 x279 x280))
  (.ret (y275, y276, 0))))
  | .c2 x281 x282 x283 x284 y285 y286 x287 x288 x289 => (.br (decide (y286 < x281))
  (.ask (.in64 (x284 + y286)) (.ask (.le 0 (x284 + y286)) (.ask (.lt (x284 + y286) ((↑x288 : Int))) (.ask (.leN ((x284 + y286).toNat * 5) x289.length) (.ask (.leN 2 ((List.drop ((x284 + y286).toNat * 5) x289).length)) (.ask (.prop (Option.map AV.d (List.drop 2 (List.drop ((x284 + y286).toNat * 5) x289))[0]? = some (AV.d (DV.v (Value.int IntKind.i64 (dI (cel (List.drop ((x284 + y286).toNat * 5) x289) 2))))))) (.ask (.in64 (y285 + dI (cel (List.drop ((x284 + y286).toNat * 5) x289) 2))) (.ask (.in64 (y286 + 1)) (.nxt (.c2 x281 x282 x283 x284 (y285 + dI (cel (List.drop ((x284 + y286).toNat * 5) x289) 2)) (y286 + 1) x287 x288 x289))))))))))
  (.br (decide (y285 > x282))
  (.ask (.le 0 x284) (.ask (.lt x284 ((↑x288 : Int))) (.ask (.leN (x284.toNat * 5) x289.length) (.ask (.leN 0 ((List.drop (x284.toNat * 5) x289).length)) (.ask (.prop (Option.map AV.d (List.drop 0 (List.drop (x284.toNat * 5) x289))[0]? = some (AV.d (DV.v (Value.int IntKind.i64 (dI (cel (List.drop (x284.toNat * 5) x289) 0))))))) (.ask (.in64 (x284 + 1)) (.nxt (.c1 x281 y285 (dI (cel (List.drop (x284.toNat * 5) x289) 0)) (x284 + 1) x287 x288 x289))))))))
  (.ask (.in64 (x284 + 1)) (.nxt (.c1 x281 x282 x283 (x284 + 1) x287 x288 x289)))))
noncomputable def F36 (a270 : Int) (a271 : Nat) (a272 : List DV) (a273 : Int) : Option (Int × Int × Int) := res B36 (.c0 a270 a271 a272 a273)
noncomputable def D36_0 (a270 : Int) (a271 : Nat) (a272 : List DV) (a273 : Int) : DT cfz := (.go 16 [] [] (.split 16 (.go 8 [(.br true)] [0] .fin) (.go 14 [(.br false)] [0] (.cut 1 [[1, 2, 7, 8, 9]] []))))
theorem k36_0 (a270 : Int) (a271 : Nat) (a272 : List DV) (a273 : Int) : xrun cfz 36 (D36_0 a270 a271 a272 a273) [] (st36 (.c0 a270 a271 a272 a273)) = (B36 (.c0 a270 a271 a272 a273)).mach st36 out36 := by kernel_rfl
noncomputable def D36_1 (x274 : Int) (y275 : Int) (y276 : Int) (y277 : Int) (x278 : Int) (x279 : Nat) (x280 : List DV) : DT cfz := (.go 11 [] [] (.split 23 (.go 15 [(.br true)] [0] (.cut 1 [[1, 2, 7, 8, 9, 10, 11]] [])) (.go 11 [(.br false)] [0] .fin)))
theorem k36_1 (x274 : Int) (y275 : Int) (y276 : Int) (y277 : Int) (x278 : Int) (x279 : Nat) (x280 : List DV) : xrun cfz 36 (D36_1 x274 y275 y276 y277 x278 x279 x280) [] (st36 (.c1 x274 y275 y276 y277 x278 x279 x280)) = (B36 (.c1 x274 y275 y276 y277 x278 x279 x280)).mach st36 out36 := by kernel_rfl
noncomputable def D36_2 (x281 : Int) (x282 : Int) (x283 : Int) (x284 : Int) (y285 : Int) (y286 : Int) (x287 : Int) (x288 : Nat) (x289 : List DV) : DT cfz := (.go 7 [] [] (.split 28 (.go 24 [(.br true), .none, (.as (.d (.v (.int .i64 (dI (cel (List.drop ((x284 + y286).toNat * 5) x289) 2))))))] [0] (.cut 1 [[1, 2, 7, 8, 9, 10, 11]] [])) (.go 8 [(.br false)] [0] (.split 43 (.go 10 [(.br true), .none, (.as (.d (.v (.int .i64 (dI (cel (List.drop (x284.toNat * 5) x289) 0))))))] [0] (.cut 1 [[1, 2, 7, 8, 9]] [])) (.go 9 [(.br false)] [0] (.cut 1 [[1, 2, 7, 8, 9]] []))))))
theorem k36_2 (x281 : Int) (x282 : Int) (x283 : Int) (x284 : Int) (y285 : Int) (y286 : Int) (x287 : Int) (x288 : Nat) (x289 : List DV) : xrun cfz 36 (D36_2 x281 x282 x283 x284 y285 y286 x287 x288 x289) [] (st36 (.c2 x281 x282 x283 x284 y285 y286 x287 x288 x289)) = (B36 (.c2 x281 x282 x283 x284 y285 y286 x287 x288 x289)).mach st36 out36 := by kernel_rfl
theorem ok36 : ∀ s, ∃ d, xrun cfz 36 d [] (st36 s) = (B36 s).mach st36 out36
  | .c0 a270 a271 a272 a273 => ⟨_, k36_0 a270 a271 a272 a273⟩
  | .c1 x274 y275 y276 y277 x278 x279 x280 => ⟨_, k36_1 x274 y275 y276 y277 x278 x279 x280⟩
  | .c2 x281 x282 x283 x284 y285 y286 x287 x288 x289 => ⟨_, k36_2 x281 x282 x283 x284 y285 y286 x287 x288 x289⟩
theorem f36 (a270 : Int) (a271 : Nat) (a272 : List DV) (a273 : Int) (v : Int × Int × Int) (h : F36 a270 a271 a272 a273 = some v) : PureCalls cfz.P cfz.glob 36 [(.agg [(.d (.v (.int .i64 a270))), (.d (.sl a271 a272))]), (.d (.v (.int .i64 a273)))] (out36 v) := tree_pure knil ok36 (s := .c0 a270 a271 a272 a273) rfl (by kernel_rfl) v h

/-! F38 -/
inductive S38 where
  | c0 (a291 : Nat) (a292 : List DV)
  | c1 (x293 : Nat) (x294 : List DV) (x295 : Int) (y296 : Int)
  | c2 (y297 : Nat) (y298 : Nat) (y299 : List DV) (x300 : Nat) (x301 : List DV) (x302 : Int) (y303 : Int) (y304 : Nat)
def out38 (v : Nat × List DV) : AV := (.d (.sl v.fst v.snd))
noncomputable def st38 : S38 → ASt
  | .c0 a291 a292 => ent cfz 38 [(.d (.sl a291 a292))]
  | .c1 x293 x294 x295 y296 => ⟨⟨38, sp 18 0 [(3, (.d (.v (.slice .none 0 0)))), (6, (.d (.sl x293 x294))), (7, (.d (.v (.int .i64 x295)))), (8, (.d (.v (.int .i64 y296))))], [(.code (cd cfz.P 38 [1, 1, 0, 1, 0, 0])), (.inLoop (cd cfz.P 38 [1, 1, 0, 1, 0, 0])), (.inBlock 0), (.code (cd cfz.P 38 [1, 1, 1]))], [], false, .none⟩, [], []⟩
  | .c2 y297 y298 y299 x300 x301 x302 y303 y304 => ⟨⟨38, sp 18 0 [(3, (.own 2 y297 5 y298 y299)), (6, (.d (.sl x300 x301))), (7, (.d (.v (.int .i64 x302)))), (8, (.d (.v (.int .i64 y303))))], [(.code (cd cfz.P 38 [1, 1, 0, 1, 0, 0])), (.inLoop (cd cfz.P 38 [1, 1, 0, 1, 0, 0])), (.inBlock 0), (.code (cd cfz.P 38 [1, 1, 1]))], [], false, .none⟩, [], [.dead, (.tail 0), (.tail y304)]⟩
noncomputable def B38 : S38 → Tr S38 (Nat × List DV)
  | .c0 a291 a292 => (.nxt (.c1 a291 a292 ((↑a291 : Int)) 0))
  | .c1 x293 x294 x295 y296 => (.br (decide (y296 < x295))
  (.ask (.le 0 y296) (.ask (.lt y296 ((↑x293 : Int))) (.ask (.leN (y296.toNat * 5) x294.length) (.ask (.leN 5 ((List.drop (y296.toNat * 5) x294).length)) (.ask (.prop (List.map AV.d (List.take 5 (List.drop (y296.toNat * 5) x294)) = [AV.d (DV.v (Value.int IntKind.i64 (dI (cel x294 (y296.toNat * 5))))), AV.d (DV.v (Value.int IntKind.i64 (dI (cel x294 (y296.toNat * 5 + 1))))), AV.d (DV.v (Value.int IntKind.i64 (dI (cel x294 (y296.toNat * 5 + 2))))), AV.d (DV.v (Value.int IntKind.i64 (dI (cel x294 (y296.toNat * 5 + 3))))), AV.d (DV.v (Value.int IntKind.i64 (dI (cel x294 (y296.toNat * 5 + 4)))))])) (.ask (.in64 (y296 + 1)) (.nxt (.c2 0 1 [(.v (.int .i64 (dI (cel x294 (y296.toNat * 5))))), (.v (.int .i64 (dI (cel x294 (y296.toNat * 5 + 1))))), (.v (.int .i64 (dI (cel x294 (y296.toNat * 5 + 2))))), (.v (.int .i64 (dI (cel x294 (y296.toNat * 5 + 3))))), (.v (.int .i64 (dI (cel x294 (y296.toNat * 5 + 4)))))] x293 x294 x295 (y296 + 1) 0))))))))
  (.ret (0, [])))
  | .c2 y297 y298 y299 x300 x301 x302 y303 y304 => (.br (decide (y303 < x302))
  (.ask (.le 0 y303) (.ask (.lt y303 ((↑x300 : Int))) (.ask (.leN (y303.toNat * 5) x301.length) (.ask (.leN 5 ((List.drop (y303.toNat * 5) x301).length)) (.ask (.prop (List.map AV.d (List.take 5 (List.drop (y303.toNat * 5) x301)) = [AV.d (DV.v (Value.int IntKind.i64 (dI (cel x301 (y303.toNat * 5))))), AV.d (DV.v (Value.int IntKind.i64 (dI (cel x301 (y303.toNat * 5 + 1))))), AV.d (DV.v (Value.int IntKind.i64 (dI (cel x301 (y303.toNat * 5 + 2))))), AV.d (DV.v (Value.int IntKind.i64 (dI (cel x301 (y303.toNat * 5 + 3))))), AV.d (DV.v (Value.int IntKind.i64 (dI (cel x301 (y303.toNat * 5 + 4)))))])) (.ask (.eqN y297 y304) (.ask (.fits (y298 + 1) 40) (.ask (.in64 (y303 + 1)) (.nxt (.c2 (y304 + 1) (y298 + 1) (y299 ++ [DV.v (Value.int IntKind.i64 (dI (cel x301 (y303.toNat * 5)))), DV.v (Value.int IntKind.i64 (dI (cel x301 (y303.toNat * 5 + 1)))), DV.v (Value.int IntKind.i64 (dI (cel x301 (y303.toNat * 5 + 2)))), DV.v (Value.int IntKind.i64 (dI (cel x301 (y303.toNat * 5 + 3)))), DV.v (Value.int IntKind.i64 (dI (cel x301 (y303.toNat * 5 + 4))))]) x300 x301 x302 (y303 + 1) (y304 + 1)))))))))))
  (.ret (y298, y299)))
noncomputable def F38 (a291 : Nat) (a292 : List DV) : Option (Nat × List DV) := res B38 (.c0 a291 a292)
noncomputable def D38_0 (a291 : Nat) (a292 : List DV) : DT cfz := (.go 17 [] [] (.cut 0 [[3, 6, 7, 8]] []))
theorem k38_0 (a291 : Nat) (a292 : List DV) : xrun cfz 38 (D38_0 a291 a292) [] (st38 (.c0 a291 a292)) = (B38 (.c0 a291 a292)).mach st38 out38 := by kernel_rfl
noncomputable def D38_1 (x293 : Nat) (x294 : List DV) (x295 : Int) (y296 : Int) : DT cfz := (.go 5 [] [] (.split 9 (.go 24 [(.br true), (.as (.agg [(.d (.v (.int .i64 (dI (cel x294 (y296.toNat * 5)))))), (.d (.v (.int .i64 (dI (cel x294 (y296.toNat * 5 + 1)))))), (.d (.v (.int .i64 (dI (cel x294 (y296.toNat * 5 + 2)))))), (.d (.v (.int .i64 (dI (cel x294 (y296.toNat * 5 + 3)))))), (.d (.v (.int .i64 (dI (cel x294 (y296.toNat * 5 + 4))))))]))] [0, 6, 7, 8] (.cut 3 [[3, 6, 7, 8]] [0])) (.go 8 [(.br false)] [0] .fin)))
theorem k38_1 (x293 : Nat) (x294 : List DV) (x295 : Int) (y296 : Int) : xrun cfz 38 (D38_1 x293 x294 x295 y296) [] (st38 (.c1 x293 x294 x295 y296)) = (B38 (.c1 x293 x294 x295 y296)).mach st38 out38 := by kernel_rfl
noncomputable def D38_2 (y297 : Nat) (y298 : Nat) (y299 : List DV) (x300 : Nat) (x301 : List DV) (x302 : Int) (y303 : Int) (y304 : Nat) : DT cfz := (.go 5 [] [] (.split 9 (.go 24 [(.br true), (.as (.agg [(.d (.v (.int .i64 (dI (cel x301 (y303.toNat * 5)))))), (.d (.v (.int .i64 (dI (cel x301 (y303.toNat * 5 + 1)))))), (.d (.v (.int .i64 (dI (cel x301 (y303.toNat * 5 + 2)))))), (.d (.v (.int .i64 (dI (cel x301 (y303.toNat * 5 + 3)))))), (.d (.v (.int .i64 (dI (cel x301 (y303.toNat * 5 + 4))))))]))] [0, 7, 8] (.cut 3 [[3, 6, 7, 8]] [])) (.go 8 [(.br false)] [0] .fin)))
theorem k38_2 (y297 : Nat) (y298 : Nat) (y299 : List DV) (x300 : Nat) (x301 : List DV) (x302 : Int) (y303 : Int) (y304 : Nat) : xrun cfz 38 (D38_2 y297 y298 y299 x300 x301 x302 y303 y304) [] (st38 (.c2 y297 y298 y299 x300 x301 x302 y303 y304)) = (B38 (.c2 y297 y298 y299 x300 x301 x302 y303 y304)).mach st38 out38 := by kernel_rfl
theorem ok38 : ∀ s, ∃ d, xrun cfz 38 d [] (st38 s) = (B38 s).mach st38 out38
  | .c0 a291 a292 => ⟨_, k38_0 a291 a292⟩
  | .c1 x293 x294 x295 y296 => ⟨_, k38_1 x293 x294 x295 y296⟩
  | .c2 y297 y298 y299 x300 x301 x302 y303 y304 => ⟨_, k38_2 y297 y298 y299 x300 x301 x302 y303 y304⟩
theorem f38 (a291 : Nat) (a292 : List DV) (v : Nat × List DV) (h : F38 a291 a292 = some v) : PureCalls cfz.P cfz.glob 38 [(.d (.sl a291 a292))] (out38 v) := tree_pure knil ok38 (s := .c0 a291 a292) rfl (by kernel_rfl) v h

/-! F37 -/
inductive S37 where
  | c0 (a306 : Nat) (a307 : List DV) (a308 : Nat) (a309 : List DV)
  | c1 (x310 : Nat) (x311 : List DV) (x312 : Nat) (x313 : List DV) (y314 : Int)
def out37 (v : Bool) : AV := (.d (.v (.bool v)))
noncomputable def st37 : S37 → ASt
  | .c0 a306 a307 a308 a309 => ent cfz 37 [(.d (.sl a306 a307)), (.d (.sl a308 a309))]
  | .c1 x310 x311 x312 x313 y314 => ⟨⟨37, sp 26 0 [(0, (.d (.sl x310 x311))), (1, (.d (.sl x312 x313))), (5, (.d (.v (.int .i64 y314))))], [(.code (cd cfz.P 37 [1, 1, 0, 1, 0, 0])), (.inLoop (cd cfz.P 37 [1, 1, 0, 1, 0, 0])), (.inBlock 0), (.code (cd cfz.P 37 [1, 1, 1]))], [], false, .none⟩, [], []⟩
noncomputable def B37 : S37 → Tr S37 (Bool)
  | .c0 a306 a307 a308 a309 => (.br ((↑a306 : Int) != (↑a308 : Int))
  (.ret false)
  (.nxt (.c1 a306 a307 a308 a309 0)))
  | .c1 x310 x311 x312 x313 y314 => (.br (decide (y314 < (↑x310 : Int)))
  (.ask (.le 0 y314) (.ask (.lt y314 ((↑x310 : Int))) (.ask (.leN (y314.toNat * 5) x311.length) (.ask (.leN 5 ((List.drop (y314.toNat * 5) x311).length)) (.ask (.prop (List.map AV.d (List.take 5 (List.drop (y314.toNat * 5) x311)) = [AV.d (DV.v (Value.int IntKind.i64 (dI (cel x311 (y314.toNat * 5))))), AV.d (DV.v (Value.int IntKind.i64 (dI (cel x311 (y314.toNat * 5 + 1))))), AV.d (DV.v (Value.int IntKind.i64 (dI (cel x311 (y314.toNat * 5 + 2))))), AV.d (DV.v (Value.int IntKind.i64 (dI (cel x311 (y314.toNat * 5 + 3))))), AV.d (DV.v (Value.int IntKind.i64 (dI (cel x311 (y314.toNat * 5 + 4)))))])) (.ask (.le 0 y314) (.ask (.lt y314 ((↑x312 : Int))) (.ask (.leN (y314.toNat * 5) x313.length) (.ask (.leN 5 ((List.drop (y314.toNat * 5) x313).length)) (.ask (.prop (List.map AV.d (List.take 5 (List.drop (y314.toNat * 5) x313)) = [AV.d (DV.v (Value.int IntKind.i64 (dI (cel x313 (y314.toNat * 5))))), AV.d (DV.v (Value.int IntKind.i64 (dI (cel x313 (y314.toNat * 5 + 1))))), AV.d (DV.v (Value.int IntKind.i64 (dI (cel x313 (y314.toNat * 5 + 2))))), AV.d (DV.v (Value.int IntKind.i64 (dI (cel x313 (y314.toNat * 5 + 3))))), AV.d (DV.v (Value.int IntKind.i64 (dI (cel x313 (y314.toNat * 5 + 4)))))])) (.br (if false = true then dI (cel x311 (y314.toNat * 5)) == dI (cel x313 (y314.toNat * 5)) && (dI (cel x311 (y314.toNat * 5 + 1)) == dI (cel x313 (y314.toNat * 5 + 1)) && (dI (cel x311 (y314.toNat * 5 + 2)) == dI (cel x313 (y314.toNat * 5 + 2)) && (dI (cel x311 (y314.toNat * 5 + 3)) == dI (cel x313 (y314.toNat * 5 + 3)) && (dI (cel x311 (y314.toNat * 5 + 4)) == dI (cel x313 (y314.toNat * 5 + 4)) && true)))) else !(dI (cel x311 (y314.toNat * 5)) == dI (cel x313 (y314.toNat * 5)) && (dI (cel x311 (y314.toNat * 5 + 1)) == dI (cel x313 (y314.toNat * 5 + 1)) && (dI (cel x311 (y314.toNat * 5 + 2)) == dI (cel x313 (y314.toNat * 5 + 2)) && (dI (cel x311 (y314.toNat * 5 + 3)) == dI (cel x313 (y314.toNat * 5 + 3)) && (dI (cel x311 (y314.toNat * 5 + 4)) == dI (cel x313 (y314.toNat * 5 + 4)) && true))))))
  (.ret false)
  (.ask (.in64 (y314 + 1)) (.nxt (.c1 x310 x311 x312 x313 (y314 + 1)))))))))))))))
  (.ret true))
noncomputable def F37 (a306 : Nat) (a307 : List DV) (a308 : Nat) (a309 : List DV) : Option (Bool) := res B37 (.c0 a306 a307 a308 a309)
noncomputable def D37_0 (a306 : Nat) (a307 : List DV) (a308 : Nat) (a309 : List DV) : DT cfz := (.go 13 [] [] (.split 10 (.go 6 [(.br true)] [0] .fin) (.go 9 [(.br false)] [0] (.cut 0 [[0, 1, 5]] []))))
theorem k37_0 (a306 : Nat) (a307 : List DV) (a308 : Nat) (a309 : List DV) : xrun cfz 37 (D37_0 a306 a307 a308 a309) [] (st37 (.c0 a306 a307 a308 a309)) = (B37 (.c0 a306 a307 a308 a309)).mach st37 out37 := by kernel_rfl
noncomputable def D37_1 (x310 : Nat) (x311 : List DV) (x312 : Nat) (x313 : List DV) (y314 : Int) : DT cfz := (.go 8 [] [] (.split 14 (.go 7 [(.br true), (.as (.agg [(.d (.v (.int .i64 (dI (cel x311 (y314.toNat * 5)))))), (.d (.v (.int .i64 (dI (cel x311 (y314.toNat * 5 + 1)))))), (.d (.v (.int .i64 (dI (cel x311 (y314.toNat * 5 + 2)))))), (.d (.v (.int .i64 (dI (cel x311 (y314.toNat * 5 + 3)))))), (.d (.v (.int .i64 (dI (cel x311 (y314.toNat * 5 + 4))))))])), (.as (.agg [(.d (.v (.int .i64 (dI (cel x313 (y314.toNat * 5)))))), (.d (.v (.int .i64 (dI (cel x313 (y314.toNat * 5 + 1)))))), (.d (.v (.int .i64 (dI (cel x313 (y314.toNat * 5 + 2)))))), (.d (.v (.int .i64 (dI (cel x313 (y314.toNat * 5 + 3)))))), (.d (.v (.int .i64 (dI (cel x313 (y314.toNat * 5 + 4))))))]))] [0] (.split 25 (.go 6 [(.br true)] [0] .fin) (.go 9 [(.br false)] [0] (.cut 0 [[0, 1, 5]] [])))) (.go 7 [(.br false)] [0] .fin)))
theorem k37_1 (x310 : Nat) (x311 : List DV) (x312 : Nat) (x313 : List DV) (y314 : Int) : xrun cfz 37 (D37_1 x310 x311 x312 x313 y314) [] (st37 (.c1 x310 x311 x312 x313 y314)) = (B37 (.c1 x310 x311 x312 x313 y314)).mach st37 out37 := by kernel_rfl
theorem ok37 : ∀ s, ∃ d, xrun cfz 37 d [] (st37 s) = (B37 s).mach st37 out37
  | .c0 a306 a307 a308 a309 => ⟨_, k37_0 a306 a307 a308 a309⟩
  | .c1 x310 x311 x312 x313 y314 => ⟨_, k37_1 x310 x311 x312 x313 y314⟩
theorem f37 (a306 : Nat) (a307 : List DV) (a308 : Nat) (a309 : List DV) (v : Bool) (h : F37 a306 a307 a308 a309 = some v) : PureCalls cfz.P cfz.glob 37 [(.d (.sl a306 a307)), (.d (.sl a308 a309))] (out37 v) := tree_pure knil ok37 (s := .c0 a306 a307 a308 a309) rfl (by kernel_rfl) v h

/-! F5 -/
inductive S5 where
  | c0 (a106 : Int) (a107 : Nat) (a108 : List DV) (a109 : Int) (a110 : Int) (a111 : Int)
def out5 (v : Bool) : AV := (.d (.v (.bool v)))
noncomputable def st5 : S5 → ASt
  | .c0 a106 a107 a108 a109 a110 a111 => ent cfz 5 [(.agg [(.d (.v (.int .i64 a106))), (.d (.sl a107 a108))]), (.agg [(.d (.v (.int .i64 a109))), (.d (.v (.int .i64 a110)))]), (.d (.v (.int .i64 a111)))]
noncomputable def B5 : S5 → Tr S5 (Bool)
  | .c0 a106 a107 a108 a109 a110 a111 => (.bind (F21 a106 a107 a108) fun v118 =>
  (.sees [(.agg [(.d (.v (.int .i64 a106))), (.d (.sl a107 a108))])] (.br (!v118)
  (.bind (F12) fun v119 =>
  (.sees [] (.ret v119)))
  (.bind (F23 a106 a107 a108) fun v138 =>
  (.bind (F32 v138.fst v138.snd.fst v138.snd.snd a109 a110) fun v197 =>
  (.sees [(.agg [(.d (.v (.int .i64 a106))), (.d (.sl a107 a108))])] (.sees [(.agg [(.d (.v (.int .i64 v138.fst))), (.d (.sl v138.snd.fst v138.snd.snd))]), (.agg [(.d (.v (.int .i64 a109))), (.d (.v (.int .i64 a110)))])] (.sees [(.agg [(.d (.v (.int .i64 a106))), (.d (.sl a107 a108))])] (.bind (F33 v138.fst v138.snd.fst v138.snd.snd a111) fun v227 =>
  (.sees [(.agg [(.d (.v (.int .i64 v138.fst))), (.d (.sl v138.snd.fst v138.snd.snd))]), (.d (.v (.int .i64 a111)))] (.bind (F25 a106 a107 a108) fun v261 =>
  (.sees [(.agg [(.d (.v (.int .i64 a106))), (.d (.sl a107 a108))])] (.bind (F34 a111 1 16) fun v262 =>
  (.sees [(.d (.v (.int .i64 a111))), (.d (.v (.int .i64 1))), (.d (.v (.int .i64 16)))] (.bind (F24 2 [(.v (.int .i64 v261)), (.v (.int .i64 v262))]) fun v263 =>
  (.sees [(.d (.sl 2 [(.v (.int .i64 v261)), (.v (.int .i64 v262))]))] (.br (v261 == 0)
  (.bind (F35 a106 a107 a108 a109 a110) fun v269 =>
  (.sees [(.agg [(.d (.v (.int .i64 a106))), (.d (.sl a107 a108))]), (.agg [(.d (.v (.int .i64 a109))), (.d (.v (.int .i64 a110)))])] (.br (v263 == 0)
  (.bind (F36 a106 a107 a108 a111) fun v290 =>
  (.sees [(.agg [(.d (.v (.int .i64 a106))), (.d (.sl a107 a108))]), (.d (.v (.int .i64 a111)))] (.bind (F38 v197.fst v197.snd.fst) fun v305 =>
  (.sees [(.d (.sl v197.fst v197.snd.fst))] (.bind (F37 v305.fst v305.snd v269.fst v269.snd.fst) fun v315 =>
  (.sees [(.d (.sl v305.fst v305.snd)), (.d (.sl v269.fst v269.snd.fst))] (.triv _ (tv_s (v315 == true)) (.triv _ (tv_s (v315 == true)) (.triv _ (tv_t v315) (.triv _ (tv_s ((if v315 = true then v197.snd.snd == v269.snd.snd else false) == true)) (.triv _ (tv_s ((if v315 = true then v197.snd.snd == v269.snd.snd else false) == true)) (.triv _ (tv_t (if v315 = true then v197.snd.snd == v269.snd.snd else false)) (.triv _ (tv_s ((if (if v315 = true then v197.snd.snd == v269.snd.snd else false) = true then v227.fst == v290.fst else false) == true)) (.triv _ (tv_s ((if (if v315 = true then v197.snd.snd == v269.snd.snd else false) = true then v227.fst == v290.fst else false) == true)) (.triv _ (tv_t (if (if v315 = true then v197.snd.snd == v269.snd.snd else false) = true then v227.fst == v290.fst else false)) (.triv _ (tv_s ((if (if (if v315 = true then v197.snd.snd == v269.snd.snd else false) = true then v227.fst == v290.fst else false) = true then v227.snd.fst == v290.snd.fst else false) == true)) (.triv _ (tv_s ((if (if (if v315 = true then v197.snd.snd == v269.snd.snd else false) = true then v227.fst == v290.fst else false) = true then v227.snd.fst == v290.snd.fst else false) == true)) (.triv _ (tv_t (if (if (if v315 = true then v197.snd.snd == v269.snd.snd else false) = true then v227.fst == v290.fst else false) = true then v227.snd.fst == v290.snd.fst else false)) (.bind (F12) fun v316 =>
  (.sees [] (.triv _ (tv_t (if (if (if (if v315 = true then v197.snd.snd == v269.snd.snd else false) = true then v227.fst == v290.fst else false) = true then v227.snd.fst == v290.snd.fst else false) = true then v227.snd.snd == v290.snd.snd else false)) (.ret (if (if (if (if (if v315 = true then v197.snd.snd == v269.snd.snd else false) = true then v227.fst == v290.fst else false) = true then v227.snd.fst == v290.snd.fst else false) = true then v227.snd.snd == v290.snd.snd else false) = true then v316 else false)))))))))))))))))))))))
  (.bind (F38 v197.fst v197.snd.fst) fun v317 =>
  (.sees [(.d (.sl v197.fst v197.snd.fst))] (.bind (F37 v317.fst v317.snd v269.fst v269.snd.fst) fun v318 =>
  (.sees [(.d (.sl v317.fst v317.snd)), (.d (.sl v269.fst v269.snd.fst))] (.triv _ (tv_s (v318 == true)) (.triv _ (tv_s (v318 == true)) (.triv _ (tv_t v318) (.triv _ (tv_s ((if v318 = true then v197.snd.snd == v269.snd.snd else false) == true)) (.triv _ (tv_s ((if v318 = true then v197.snd.snd == v269.snd.snd else false) == true)) (.triv _ (tv_t (if v318 = true then v197.snd.snd == v269.snd.snd else false)) (.triv _ (tv_s ((if (if v318 = true then v197.snd.snd == v269.snd.snd else false) = true then v227.fst == 0 else false) == true)) (.triv _ (tv_s ((if (if v318 = true then v197.snd.snd == v269.snd.snd else false) = true then v227.fst == 0 else false) == true)) (.triv _ (tv_t (if (if v318 = true then v197.snd.snd == v269.snd.snd else false) = true then v227.fst == 0 else false)) (.triv _ (tv_s ((if (if (if v318 = true then v197.snd.snd == v269.snd.snd else false) = true then v227.fst == 0 else false) = true then v227.snd.fst == 0 else false) == true)) (.triv _ (tv_s ((if (if (if v318 = true then v197.snd.snd == v269.snd.snd else false) = true then v227.fst == 0 else false) = true then v227.snd.fst == 0 else false) == true)) (.triv _ (tv_t (if (if (if v318 = true then v197.snd.snd == v269.snd.snd else false) = true then v227.fst == 0 else false) = true then v227.snd.fst == 0 else false)) (.bind (F12) fun v319 =>
  (.sees [] (.triv _ (tv_t (if (if (if (if v318 = true then v197.snd.snd == v269.snd.snd else false) = true then v227.fst == 0 else false) = true then v227.snd.fst == 0 else false) = true then v227.snd.snd == v263 else false)) (.ret (if (if (if (if (if v318 = true then v197.snd.snd == v269.snd.snd else false) = true then v227.fst == 0 else false) = true then v227.snd.fst == 0 else false) = true then v227.snd.snd == v263 else false) = true then v319 else false))))))))))))))))))))))))
  (.br (v263 == 0)
  (.bind (F36 a106 a107 a108 a111) fun v320 =>
  (.sees [(.agg [(.d (.v (.int .i64 a106))), (.d (.sl a107 a108))]), (.d (.v (.int .i64 a111)))] (.bind (F38 v197.fst v197.snd.fst) fun v321 =>
  (.sees [(.d (.sl v197.fst v197.snd.fst))] (.bind (F37 v321.fst v321.snd 0 []) fun v322 =>
  (.sees [(.d (.sl v321.fst v321.snd)), (.d (.sl 0 []))] (.triv _ (tv_s (v322 == true)) (.triv _ (tv_s (v322 == true)) (.triv _ (tv_t v322) (.triv _ (tv_s ((if v322 = true then v197.snd.snd == v261 else false) == true)) (.triv _ (tv_s ((if v322 = true then v197.snd.snd == v261 else false) == true)) (.triv _ (tv_t (if v322 = true then v197.snd.snd == v261 else false)) (.triv _ (tv_s ((if (if v322 = true then v197.snd.snd == v261 else false) = true then v227.fst == v320.fst else false) == true)) (.triv _ (tv_s ((if (if v322 = true then v197.snd.snd == v261 else false) = true then v227.fst == v320.fst else false) == true)) (.triv _ (tv_t (if (if v322 = true then v197.snd.snd == v261 else false) = true then v227.fst == v320.fst else false)) (.triv _ (tv_s ((if (if (if v322 = true then v197.snd.snd == v261 else false) = true then v227.fst == v320.fst else false) = true then v227.snd.fst == v320.snd.fst else false) == true)) (.triv _ (tv_s ((if (if (if v322 = true then v197.snd.snd == v261 else false) = true then v227.fst == v320.fst else false) = true then v227.snd.fst == v320.snd.fst else false) == true)) (.triv _ (tv_t (if (if (if v322 = true then v197.snd.snd == v261 else false) = true then v227.fst == v320.fst else false) = true then v227.snd.fst == v320.snd.fst else false)) (.bind (F12) fun v323 =>
  (.sees [] (.triv _ (tv_t (if (if (if (if v322 = true then v197.snd.snd == v261 else false) = true then v227.fst == v320.fst else false) = true then v227.snd.fst == v320.snd.fst else false) = true then v227.snd.snd == v320.snd.snd else false)) (.ret (if (if (if (if (if v322 = true then v197.snd.snd == v261 else false) = true then v227.fst == v320.fst else false) = true then v227.snd.fst == v320.snd.fst else false) = true then v227.snd.snd == v320.snd.snd else false) = true then v323 else false)))))))))))))))))))))))
  (.bind (F38 v197.fst v197.snd.fst) fun v324 =>
  (.sees [(.d (.sl v197.fst v197.snd.fst))] (.bind (F37 v324.fst v324.snd 0 []) fun v325 =>
  (.sees [(.d (.sl v324.fst v324.snd)), (.d (.sl 0 []))] (.triv _ (tv_s (v325 == true)) (.triv _ (tv_s (v325 == true)) (.triv _ (tv_t v325) (.triv _ (tv_s ((if v325 = true then v197.snd.snd == v261 else false) == true)) (.triv _ (tv_s ((if v325 = true then v197.snd.snd == v261 else false) == true)) (.triv _ (tv_t (if v325 = true then v197.snd.snd == v261 else false)) (.triv _ (tv_s ((if (if v325 = true then v197.snd.snd == v261 else false) = true then v227.fst == 0 else false) == true)) (.triv _ (tv_s ((if (if v325 = true then v197.snd.snd == v261 else false) = true then v227.fst == 0 else false) == true)) (.triv _ (tv_t (if (if v325 = true then v197.snd.snd == v261 else false) = true then v227.fst == 0 else false)) (.triv _ (tv_s ((if (if (if v325 = true then v197.snd.snd == v261 else false) = true then v227.fst == 0 else false) = true then v227.snd.fst == 0 else false) == true)) (.triv _ (tv_s ((if (if (if v325 = true then v197.snd.snd == v261 else false) = true then v227.fst == 0 else false) = true then v227.snd.fst == 0 else false) == true)) (.triv _ (tv_t (if (if (if v325 = true then v197.snd.snd == v261 else false) = true then v227.fst == 0 else false) = true then v227.snd.fst == 0 else false)) (.bind (F12) fun v326 =>
  (.sees [] (.triv _ (tv_t (if (if (if (if v325 = true then v197.snd.snd == v261 else false) = true then v227.fst == 0 else false) = true then v227.snd.fst == 0 else false) = true then v227.snd.snd == v263 else false)) (.ret (if (if (if (if (if v325 = true then v197.snd.snd == v261 else false) = true then v227.fst == 0 else false) = true then v227.snd.fst == 0 else false) = true then v227.snd.snd == v263 else false) = true then v326 else false)))))))))))))))))))))))))))))))))))))))
noncomputable def F5 (a106 : Int) (a107 : Nat) (a108 : List DV) (a109 : Int) (a110 : Int) (a111 : Int) : Option (Bool) := res B5 (.c0 a106 a107 a108 a109 a110 a111)
noncomputable def D5_0 (a106 : Int) (a107 : Nat) (a108 : List DV) (a109 : Int) (a110 : Int) (a111 : Int) : DT cfz := (.go 10 [] [] (.bind (f21 a106 a107 a108) fun v118 => (.go 3 [(.ck 0)] [] (.split 19 (.go 3 [(.br true)] [0] (.bind (f12) fun v119 => (.go 4 [(.ck 1)] [] .fin))) (.go 4 [(.br false)] [0] (.bind (f23 a106 a107 a108) fun v138 => (.bind (f32 v138.fst v138.snd.fst v138.snd.snd a109 a110) fun v197 => (.go 6 [(.ck 1), (.ck 2), (.ck 1)] [] (.bind (f33 v138.fst v138.snd.fst v138.snd.snd a111) fun v227 => (.go 12 [(.ck 3)] [] (.bind (f25 a106 a107 a108) fun v261 => (.go 7 [(.ck 4)] [] (.bind (f34 a111 1 16) fun v262 => (.go 2 [(.ck 5)] [] (.bind (f24 2 [(.v (.int .i64 v261)), (.v (.int .i64 v262))]) fun v263 => (.go 18 [(.ck 6)] [] (.split 44 (.go 4 [(.br true)] [0] (.bind (f35 a106 a107 a108 a109 a110) fun v269 => (.go 13 [(.ck 7)] [] (.split 52 (.go 4 [(.br true)] [0] (.bind (f36 a106 a107 a108 a111) fun v290 => (.go 12 [(.ck 8)] [] (.bind (f38 v197.fst v197.snd.fst) fun v305 => (.go 2 [(.ck 9)] [] (.bind (f37 v305.fst v305.snd v269.fst v269.snd.fst) fun v315 => (.go 22 [(.ck 10), (.sp .none), (.sp .none), (.sp .none), .mg, (.sp .none), (.sp .none), (.sp .none), .mg, (.sp .none), (.sp .none), (.sp .none), .mg, (.sp .none), (.sp .none), (.sp .none), .mg] [] (.bind (f12) fun v316 => (.go 5 [(.sp (.some 11)), .mg] [] .fin))))))))) (.go 5 [(.br false)] [0] (.bind (f38 v197.fst v197.snd.fst) fun v317 => (.go 2 [(.ck 8)] [] (.bind (f37 v317.fst v317.snd v269.fst v269.snd.fst) fun v318 => (.go 22 [(.ck 9), (.sp .none), (.sp .none), (.sp .none), .mg, (.sp .none), (.sp .none), (.sp .none), .mg, (.sp .none), (.sp .none), (.sp .none), .mg, (.sp .none), (.sp .none), (.sp .none), .mg] [] (.bind (f12) fun v319 => (.go 5 [(.sp (.some 10)), .mg] [] .fin))))))))))) (.go 8 [(.br false)] [0] (.split 52 (.go 4 [(.br true)] [0] (.bind (f36 a106 a107 a108 a111) fun v320 => (.go 12 [(.ck 7)] [] (.bind (f38 v197.fst v197.snd.fst) fun v321 => (.go 2 [(.ck 8)] [] (.bind (f37 v321.fst v321.snd 0 []) fun v322 => (.go 22 [(.ck 9), (.sp .none), (.sp .none), (.sp .none), .mg, (.sp .none), (.sp .none), (.sp .none), .mg, (.sp .none), (.sp .none), (.sp .none), .mg, (.sp .none), (.sp .none), (.sp .none), .mg] [] (.bind (f12) fun v323 => (.go 5 [(.sp (.some 10)), .mg] [] .fin))))))))) (.go 5 [(.br false)] [0] (.bind (f38 v197.fst v197.snd.fst) fun v324 => (.go 2 [(.ck 7)] [] (.bind (f37 v324.fst v324.snd 0 []) fun v325 => (.go 22 [(.ck 8), (.sp .none), (.sp .none), (.sp .none), .mg, (.sp .none), (.sp .none), (.sp .none), .mg, (.sp .none), (.sp .none), (.sp .none), .mg, (.sp .none), (.sp .none), (.sp .none), .mg] [] (.bind (f12) fun v326 => (.go 5 [(.sp (.some 9)), .mg] [] .fin))))))))))))))))))))))))))
theorem k5_0 (a106 : Int) (a107 : Nat) (a108 : List DV) (a109 : Int) (a110 : Int) (a111 : Int) : xrun cfz 5 (D5_0 a106 a107 a108 a109 a110 a111) [] (st5 (.c0 a106 a107 a108 a109 a110 a111)) = (B5 (.c0 a106 a107 a108 a109 a110 a111)).mach st5 out5 := by kernel_rfl
theorem ok5 : ∀ s, ∃ d, xrun cfz 5 d [] (st5 s) = (B5 s).mach st5 out5
  | .c0 a106 a107 a108 a109 a110 a111 => ⟨_, k5_0 a106 a107 a108 a109 a110 a111⟩
theorem f5 (a106 : Int) (a107 : Nat) (a108 : List DV) (a109 : Int) (a110 : Int) (a111 : Int) (v : Bool) (h : F5 a106 a107 a108 a109 a110 a111 = some v) : PureCalls cfz.P cfz.glob 5 [(.agg [(.d (.v (.int .i64 a106))), (.d (.sl a107 a108))]), (.agg [(.d (.v (.int .i64 a109))), (.d (.v (.int .i64 a110)))]), (.d (.v (.int .i64 a111)))] (out5 v) := tree_pure knil ok5 (s := .c0 a106 a107 a108 a109 a110 a111) rfl (by kernel_rfl) v h

end Go.Kv
