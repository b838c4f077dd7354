/- Printed: what functions of the program come to, and the kernel's proof of it. -/
import Derived.Test.YtalhonodbajndaaDoorKvW
import Derived.Test.YtalhonodbajndaaDoorKvZ
import Derived.Test.YtalhonodbajndaaDoorKzA
import Derived.Test.YtalhonodbajndaaDoorGD8
namespace Go.Kv
set_option linter.unusedVariables false
set_option linter.unusedSimpArgs false
open Go Go.RowKit Go.Proofs
set_option maxRecDepth 100000
/-! F56 -/
inductive S56 where
  | c0 (a100 : Bool) (a101 : Int)
def out56 (v : Int) : AV := (.d (.v (.int .i64 v)))
noncomputable def st56 : S56 → ASt
  | .c0 a100 a101 => ent cfz 56 [(.d (.v (.bool a100))), (aI a101)]
noncomputable def B56 : S56 → Tr S56 (Int)
  | .c0 a100 a101 => (.br a100
  (.ret a101)
  (.ret 0))
noncomputable def F56 (a100 : Bool) (a101 : Int) : Option (Int) := res B56 (.c0 a100 a101)
noncomputable def D56_0 (a100 : Bool) (a101 : Int) : DT cfz := (.go 9 [] [] (.split 5 (.go 7 [(.br true)] [0] .fin) (.go 7 [(.br false)] [0] .fin)))
theorem k56_0 (a100 : Bool) (a101 : Int) : xrun cfz 56 (D56_0 a100 a101) [] (st56 (.c0 a100 a101)) = (B56 (.c0 a100 a101)).mach st56 out56 := by kernel_rfl
theorem ok56 : ∀ s, ∃ d, xrun cfz 56 d [] (st56 s) = (B56 s).mach st56 out56
  | .c0 a100 a101 => ⟨_, k56_0 a100 a101⟩
theorem f56 (a100 : Bool) (a101 v : Int) (h : F56 a100 a101 = some v) : PureCalls cfz.P cfz.glob 56 [(.d (.v (.bool a100))), (aI a101)] (out56 v) := tree_pure knil ok56 (s := .c0 a100 a101) rfl (by kernel_rfl) v h

/-! F26 -/
inductive S26 where
  | c0 (a97 a98 a99 : Int)
def out26 (v : Int) : AV := (.d (.v (.int .i64 v)))
noncomputable def st26 : S26 → ASt
  | .c0 a97 a98 a99 => ent cfz 26 [(aI a97), (aI a98), (aI a99)]
noncomputable def B26 : S26 → Tr S26 (Int)
  | .c0 a97 a98 a99 => (.triv _ (tv_s (decide (a97 < a98) == false)) (.triv _ (tv_s (decide (a97 < a98) == false)) (.triv _ (tv_f (decide (a97 < a98))) (.bind (F56 (if decide (a97 < a98) = true then true else decide (a97 > a99)) 3) fun v102 =>
  (.sees [(.d (.v (.bool (if decide (a97 < a98) = true then true else decide (a97 > a99))))), (aI 3)] (.ret v102))))))
noncomputable def F26 (a97 a98 a99 : Int) : Option (Int) := res B26 (.c0 a97 a98 a99)
noncomputable def D26_0 (a97 a98 a99 : Int) : DT cfz := (.go 14 [(.sp .none), (.sp .none), (.sp .none), .mg] [] (.bind (f56 (if decide (a97 < a98) = true then true else decide (a97 > a99)) 3) fun v102 => (.go 4 [(.ck 0)] [] .fin)))
theorem k26_0 (a97 a98 a99 : Int) : xrun cfz 26 (D26_0 a97 a98 a99) [] (st26 (.c0 a97 a98 a99)) = (B26 (.c0 a97 a98 a99)).mach st26 out26 := by kernel_rfl
theorem ok26 : ∀ s, ∃ d, xrun cfz 26 d [] (st26 s) = (B26 s).mach st26 out26
  | .c0 a97 a98 a99 => ⟨_, k26_0 a97 a98 a99⟩
theorem f26 (a97 a98 a99 v : Int) (h : F26 a97 a98 a99 = some v) : PureCalls cfz.P cfz.glob 26 [(aI a97), (aI a98), (aI a99)] (out26 v) := tree_pure knil ok26 (s := .c0 a97 a98 a99) rfl (by kernel_rfl) v h

/-! F25 -/
inductive S25 where
  | c0 (a105 : Nat) (a106 : List DV)
  | c1 (x107 : Nat) (x108 : List DV) (y109 : Int)
def out25 (v : Int) : AV := (.d (.v (.int .i64 v)))
noncomputable def st25 : S25 → ASt
  | .c0 a105 a106 => ent cfz 25 [(.d (.sl a105 a106))]
  | .c1 x107 x108 y109 => ⟨⟨25, sp 19 0 [(0, (.d (.sl x107 x108))), (3, (aI y109))], [(.code (cd cfz.P 25 [1, 0, 1, 0, 0])), (.inLoop (cd cfz.P 25 [1, 0, 1, 0, 0])), (.inBlock 0), (.code (cd cfz.P 25 [1, 1]))], [], false, .none⟩, [], []⟩
noncomputable def B25 : S25 → Tr S25 (Int)
  | .c0 a105 a106 => (.nxt (.c1 a105 a106 0))
  | .c1 x107 x108 y109 => (.br (decide (y109 < (↑x107 : Int)))
  (.ask (.le 0 y109) (.ask (.lt y109 ((↑x107 : Int))) (.ask (.leN (y109.toNat * 1) x108.length) (.ask (.prop (Option.map AV.d (List.drop (y109.toNat * 1) x108)[0]? = some (AV.d (DV.v (Value.int IntKind.i64 (dI (cel x108 (y109.toNat * 1)))))))) (.br (dI (cel x108 (y109.toNat * 1)) != 0)
  (.ask (.le 0 y109) (.ask (.lt y109 ((↑x107 : Int))) (.ask (.leN (y109.toNat * 1) x108.length) (.ask (.prop (Option.map AV.d (List.drop (y109.toNat * 1) x108)[0]? = some (AV.d (DV.v (Value.int IntKind.i64 (dI (cel x108 (y109.toNat * 1)))))))) (.ret (dI (cel x108 (y109.toNat * 1))))))))
  (.ask (.in64 (y109 + 1)) (.nxt (.c1 x107 x108 (y109 + 1)))))))))
  (.ret 0))
noncomputable def F25 (a105 : Nat) (a106 : List DV) : Option (Int) := res B25 (.c0 a105 a106)
noncomputable def D25_0 (a105 : Nat) (a106 : List DV) : DT cfz := (.go 11 [] [] (.cut 0 [[0, 3]] []))
theorem k25_0 (a105 : Nat) (a106 : List DV) : xrun cfz 25 (D25_0 a105 a106) [] (st25 (.c0 a105 a106)) = (B25 (.c0 a105 a106)).mach st25 out25 := by kernel_rfl
noncomputable def D25_1 (x107 : Nat) (x108 : List DV) (y109 : Int) : DT cfz := (.go 8 [] [] (.split 7 (.go 12 [(.br true), (.as (aI (dI (cel x108 (y109.toNat * 1)))))] [0] (.split 14 (.go 10 [(.br true), (.as (aI (dI (cel x108 (y109.toNat * 1)))))] [0] .fin) (.go 9 [(.br false)] [0] (.cut 0 [[0, 3]] [])))) (.go 7 [(.br false)] [0] .fin)))
theorem k25_1 (x107 : Nat) (x108 : List DV) (y109 : Int) : xrun cfz 25 (D25_1 x107 x108 y109) [] (st25 (.c1 x107 x108 y109)) = (B25 (.c1 x107 x108 y109)).mach st25 out25 := by kernel_rfl
theorem ok25 : ∀ s, ∃ d, xrun cfz 25 d [] (st25 s) = (B25 s).mach st25 out25
  | .c0 a105 a106 => ⟨_, k25_0 a105 a106⟩
  | .c1 x107 x108 y109 => ⟨_, k25_1 x107 x108 y109⟩
theorem f25 (a105 : Nat) (a106 : List DV) (v : Int) (h : F25 a105 a106 = some v) : PureCalls cfz.P cfz.glob 25 [(.d (.sl a105 a106))] (out25 v) := tree_pure knil ok25 (s := .c0 a105 a106) rfl (by kernel_rfl) v h

/-! F6 -/
inductive S6 where
  | c0 (a85 a86 a87 a88 a89 a90 a91 a92 a93 a94 a95 a96 : Int)
def out6 (v : Int) : AV := (.d (.v (.int .i64 v)))
noncomputable def st6 : S6 → ASt
  | .c0 a85 a86 a87 a88 a89 a90 a91 a92 a93 a94 a95 a96 => ent cfz 6 [(.agg [(aI a85), (aI a86), (aI a87), (aI a88), (aI a89), (aI a90), (aI a91), (aI a92), (aI a93), (aI a94), (aI a95), (aI a96)])]
noncomputable def B6 : S6 → Tr S6 (Int)
  | .c0 a85 a86 a87 a88 a89 a90 a91 a92 a93 a94 a95 a96 => (.bind (F26 a85 0 999999) fun v103 =>
  (.bind (F26 a86 0 999999) fun v104 =>
  (.bind (F25 2 [(.v (.int .i64 v103)), (.v (.int .i64 v104))]) fun v110 =>
  (.sees [(aI a85), (aI 0), (aI 999999)] (.sees [(aI a86), (aI 0), (aI 999999)] (.sees [(.d (.sl 2 [(vI v103), (vI v104)]))] (.br (v110 != 0)
  (.ret v110)
  (.bind (F26 a87 0 999999) fun v111 =>
  (.bind (F26 a88 0 999999) fun v112 =>
  (.bind (F25 2 [(.v (.int .i64 v111)), (.v (.int .i64 v112))]) fun v113 =>
  (.sees [(aI a87), (aI 0), (aI 999999)] (.sees [(aI a88), (aI 0), (aI 999999)] (.sees [(.d (.sl 2 [(vI v111), (vI v112)]))] (.br (v113 != 0)
  (.ret v113)
  (.bind (F26 a89 0 999999) fun v114 =>
  (.bind (F26 a90 0 999999) fun v115 =>
  (.bind (F25 2 [(.v (.int .i64 v114)), (.v (.int .i64 v115))]) fun v116 =>
  (.sees [(aI a89), (aI 0), (aI 999999)] (.sees [(aI a90), (aI 0), (aI 999999)] (.sees [(.d (.sl 2 [(vI v114), (vI v115)]))] (.br (v116 != 0)
  (.ret v116)
  (.bind (F26 a91 0 999999) fun v117 =>
  (.bind (F26 a92 0 999999) fun v118 =>
  (.bind (F25 2 [(.v (.int .i64 v117)), (.v (.int .i64 v118))]) fun v119 =>
  (.sees [(aI a91), (aI 0), (aI 999999)] (.sees [(aI a92), (aI 0), (aI 999999)] (.sees [(.d (.sl 2 [(vI v117), (vI v118)]))] (.br (v119 != 0)
  (.ret v119)
  (.bind (F26 a93 0 999999) fun v120 =>
  (.bind (F26 a94 0 999999) fun v121 =>
  (.bind (F25 2 [(.v (.int .i64 v120)), (.v (.int .i64 v121))]) fun v122 =>
  (.sees [(aI a93), (aI 0), (aI 999999)] (.sees [(aI a94), (aI 0), (aI 999999)] (.sees [(.d (.sl 2 [(vI v120), (vI v121)]))] (.br (v122 != 0)
  (.ret v122)
  (.bind (F26 a95 0 999999) fun v123 =>
  (.bind (F26 a96 0 999999) fun v124 =>
  (.bind (F25 2 [(.v (.int .i64 v123)), (.v (.int .i64 v124))]) fun v125 =>
  (.sees [(aI a95), (aI 0), (aI 999999)] (.sees [(aI a96), (aI 0), (aI 999999)] (.sees [(.d (.sl 2 [(vI v123), (vI v124)]))] (.br (v125 != 0)
  (.ret v125)
  (.ret 0)))))))))))))))))))))))))))))))))))))))))))
noncomputable def F6 (a85 a86 a87 a88 a89 a90 a91 a92 a93 a94 a95 a96 : Int) : Option (Int) := res B6 (.c0 a85 a86 a87 a88 a89 a90 a91 a92 a93 a94 a95 a96)
noncomputable def D6_0 (a85 a86 a87 a88 a89 a90 a91 a92 a93 a94 a95 a96 : Int) : DT cfz := (.go 24 [(.br true)] [0] (.bind (f26 a85 0 999999) fun v103 => (.bind (f26 a86 0 999999) fun v104 => (.bind (f25 2 [(vI v103), (vI v104)]) fun v110 => (.go 6 [(.ck 0), (.ck 1), (.ck 2)] [0, 1, 3, 4] (.split 22 (.go 7 [(.br true)] [0] .fin) (.go 21 [(.br false), (.br true)] [0, 1, 2] (.bind (f26 a87 0 999999) fun v111 => (.bind (f26 a88 0 999999) fun v112 => (.bind (f25 2 [(vI v111), (vI v112)]) fun v113 => (.go 6 [(.ck 3), (.ck 4), (.ck 5)] [0, 1, 3, 4] (.split 22 (.go 7 [(.br true)] [0] .fin) (.go 21 [(.br false), (.br true)] [0, 1, 2] (.bind (f26 a89 0 999999) fun v114 => (.bind (f26 a90 0 999999) fun v115 => (.bind (f25 2 [(vI v114), (vI v115)]) fun v116 => (.go 6 [(.ck 6), (.ck 7), (.ck 8)] [0, 1, 3, 4] (.split 22 (.go 7 [(.br true)] [0] .fin) (.go 21 [(.br false), (.br true)] [0, 1, 2] (.bind (f26 a91 0 999999) fun v117 => (.bind (f26 a92 0 999999) fun v118 => (.bind (f25 2 [(vI v117), (vI v118)]) fun v119 => (.go 6 [(.ck 9), (.ck 10), (.ck 11)] [0, 1, 3, 4] (.split 22 (.go 7 [(.br true)] [0] .fin) (.go 21 [(.br false), (.br true)] [0, 1, 2] (.bind (f26 a93 0 999999) fun v120 => (.bind (f26 a94 0 999999) fun v121 => (.bind (f25 2 [(vI v120), (vI v121)]) fun v122 => (.go 6 [(.ck 12), (.ck 13), (.ck 14)] [0, 1, 3, 4] (.split 22 (.go 7 [(.br true)] [0] .fin) (.go 21 [(.br false), (.br true)] [0, 1, 2] (.bind (f26 a95 0 999999) fun v123 => (.bind (f26 a96 0 999999) fun v124 => (.bind (f25 2 [(vI v123), (vI v124)]) fun v125 => (.go 6 [(.ck 15), (.ck 16), (.ck 17)] [0, 1, 3, 4] (.split 22 (.go 7 [(.br true)] [0] .fin) (.go 22 [(.br false), (.br false)] [0, 1, 2] .fin)))))))))))))))))))))))))))))))))))))
theorem k6_0 (a85 a86 a87 a88 a89 a90 a91 a92 a93 a94 a95 a96 : Int) : xrun cfz 6 (D6_0 a85 a86 a87 a88 a89 a90 a91 a92 a93 a94 a95 a96) [] (st6 (.c0 a85 a86 a87 a88 a89 a90 a91 a92 a93 a94 a95 a96)) = (B6 (.c0 a85 a86 a87 a88 a89 a90 a91 a92 a93 a94 a95 a96)).mach st6 out6 := by kernel_rfl
theorem ok6 : ∀ s, ∃ d, xrun cfz 6 d [] (st6 s) = (B6 s).mach st6 out6
  | .c0 a85 a86 a87 a88 a89 a90 a91 a92 a93 a94 a95 a96 => ⟨_, k6_0 a85 a86 a87 a88 a89 a90 a91 a92 a93 a94 a95 a96⟩
theorem f6 (a85 a86 a87 a88 a89 a90 a91 a92 a93 a94 a95 a96 v : Int) (h : F6 a85 a86 a87 a88 a89 a90 a91 a92 a93 a94 a95 a96 = some v) : PureCalls cfz.P cfz.glob 6 [(.agg [(aI a85), (aI a86), (aI a87), (aI a88), (aI a89), (aI a90), (aI a91), (aI a92), (aI a93), (aI a94), (aI a95), (aI a96)])] (out6 v) := tree_pure knil ok6 (s := .c0 a85 a86 a87 a88 a89 a90 a91 a92 a93 a94 a95 a96) rfl (by kernel_rfl) v h

/-! F9 -/
inductive S9 where
  | c0 (a170 a171 a172 a173 a174 a175 a176 a177 a178 a179 a180 a181 : Int)
def out9 (v : Int × Int × Int × Int × Int × Int × Int × Int × Int × Int × Int × Int) : AV := (.agg [(.d (.v (.int .i64 v.fst))), (.d (.v (.int .i64 v.snd.fst))), (.d (.v (.int .i64 v.snd.snd.fst))), (.d (.v (.int .i64 v.snd.snd.snd.fst))), (.d (.v (.int .i64 v.snd.snd.snd.snd.fst))), (.d (.v (.int .i64 v.snd.snd.snd.snd.snd.fst))), (.d (.v (.int .i64 v.snd.snd.snd.snd.snd.snd.fst))), (.d (.v (.int .i64 v.snd.snd.snd.snd.snd.snd.snd.fst))), (.d (.v (.int .i64 v.snd.snd.snd.snd.snd.snd.snd.snd.fst))), (.d (.v (.int .i64 v.snd.snd.snd.snd.snd.snd.snd.snd.snd.fst))), (.d (.v (.int .i64 v.snd.snd.snd.snd.snd.snd.snd.snd.snd.snd.fst))), (.d (.v (.int .i64 v.snd.snd.snd.snd.snd.snd.snd.snd.snd.snd.snd)))])
noncomputable def st9 : S9 → ASt
  | .c0 a170 a171 a172 a173 a174 a175 a176 a177 a178 a179 a180 a181 => ent cfz 9 [(.agg [(aI a170), (aI a171), (aI a172), (aI a173), (aI a174), (aI a175), (aI a176), (aI a177), (aI a178), (aI a179), (aI a180), (aI a181)])]
noncomputable def B9 : S9 → Tr S9 (Int × Int × Int × Int × Int × Int × Int × Int × Int × Int × Int × Int)
  | .c0 a170 a171 a172 a173 a174 a175 a176 a177 a178 a179 a180 a181 => (.ret (a170, a171, a172, a173, a174, a175, a176, a177, a178, a179, a180, a181))
noncomputable def F9 (a170 a171 a172 a173 a174 a175 a176 a177 a178 a179 a180 a181 : Int) : Option (Int × Int × Int × Int × Int × Int × Int × Int × Int × Int × Int × Int) := res B9 (.c0 a170 a171 a172 a173 a174 a175 a176 a177 a178 a179 a180 a181)
noncomputable def D9_0 (a170 a171 a172 a173 a174 a175 a176 a177 a178 a179 a180 a181 : Int) : DT cfz := (.go 204 [.none, (.br true), .none, .none, .none, .none, (.br true), .none, .none, .none, .none, (.br true), .none, .none, .none, .none, (.br true), .none, .none, .none, .none, (.br true), .none, .none, .none, .none, (.br true), .none, .none, .none, .none, (.br false)] [0, 1, 2, 3, 4, 5, 6, 7, 8, 9, 10, 11, 12, 13, 14, 15, 16, 17, 18, 19, 20, 21, 22, 23, 24, 25, 26, 27, 28, 29, 30, 31, 32, 33, 34, 35, 36] .fin)
theorem k9_0 (a170 a171 a172 a173 a174 a175 a176 a177 a178 a179 a180 a181 : Int) : xrun cfz 9 (D9_0 a170 a171 a172 a173 a174 a175 a176 a177 a178 a179 a180 a181) [] (st9 (.c0 a170 a171 a172 a173 a174 a175 a176 a177 a178 a179 a180 a181)) = (B9 (.c0 a170 a171 a172 a173 a174 a175 a176 a177 a178 a179 a180 a181)).mach st9 out9 := by kernel_rfl
theorem ok9 : ∀ s, ∃ d, xrun cfz 9 d [] (st9 s) = (B9 s).mach st9 out9
  | .c0 a170 a171 a172 a173 a174 a175 a176 a177 a178 a179 a180 a181 => ⟨_, k9_0 a170 a171 a172 a173 a174 a175 a176 a177 a178 a179 a180 a181⟩
theorem f9 (a170 a171 a172 a173 a174 a175 a176 a177 a178 a179 a180 a181 : Int) (v : Int × Int × Int × Int × Int × Int × Int × Int × Int × Int × Int × Int) (h : F9 a170 a171 a172 a173 a174 a175 a176 a177 a178 a179 a180 a181 = some v) : PureCalls cfz.P cfz.glob 9 [(.agg [(aI a170), (aI a171), (aI a172), (aI a173), (aI a174), (aI a175), (aI a176), (aI a177), (aI a178), (aI a179), (aI a180), (aI a181)])] (out9 v) := tree_pure knil ok9 (s := .c0 a170 a171 a172 a173 a174 a175 a176 a177 a178 a179 a180 a181) rfl (by kernel_rfl) v h

/-! F10 -/
inductive S10 where
  | c0 (a183 : Nat) (a184 : List DV)
def out10 (v : Nat × List DV) : AV := (.d (.sl v.fst v.snd))
noncomputable def st10 : S10 → ASt
  | .c0 a183 a184 => ent cfz 10 [(.d (.sl a183 a184))]
noncomputable def B10 : S10 → Tr S10 (Nat × List DV)
  | .c0 a183 a184 => (.br (a183.beq 0)
  (.ask (.eqN a183 0) (.ret (0, [])))
  (.ask (.ltN 0 a183) (.ask (.eqN a184.length (a183 * 1)) (.ask (.fits a183 4) (.ret (a183, a184))))))
noncomputable def F10 (a183 : Nat) (a184 : List DV) : Option (Nat × List DV) := res B10 (.c0 a183 a184)
noncomputable def D10_0 (a183 : Nat) (a184 : List DV) : DT cfz := (.go 8 [] [] (.br (a183.beq 0) (.go 4 [(.br false)] [] .fin) (.go 4 [(.br true)] [] .fin)))
theorem k10_0 (a183 : Nat) (a184 : List DV) : xrun cfz 10 (D10_0 a183 a184) [] (st10 (.c0 a183 a184)) = (B10 (.c0 a183 a184)).mach st10 out10 := by kernel_rfl
theorem ok10 : ∀ s, ∃ d, xrun cfz 10 d [] (st10 s) = (B10 s).mach st10 out10
  | .c0 a183 a184 => ⟨_, k10_0 a183 a184⟩
theorem f10 (a183 : Nat) (a184 : List DV) (v : Nat × List DV) (h : F10 a183 a184 = some v) : PureCalls cfz.P cfz.glob 10 [(.d (.sl a183 a184))] (out10 v) := tree_pure knil ok10 (s := .c0 a183 a184) rfl (by kernel_rfl) v h

/-! F11 -/
inductive S11 where
  | c0 (a189 a190 a191 a192 a193 a194 a195 a196 a197 a198 a199 a200 : Int)
def out11 (v : Int × Int × Int × Int × Int × Int × Int × Int × Int × Int × Int × Int) : AV := (.agg [(.d (.v (.int .i64 v.fst))), (.d (.v (.int .i64 v.snd.fst))), (.d (.v (.int .i64 v.snd.snd.fst))), (.d (.v (.int .i64 v.snd.snd.snd.fst))), (.d (.v (.int .i64 v.snd.snd.snd.snd.fst))), (.d (.v (.int .i64 v.snd.snd.snd.snd.snd.fst))), (.d (.v (.int .i64 v.snd.snd.snd.snd.snd.snd.fst))), (.d (.v (.int .i64 v.snd.snd.snd.snd.snd.snd.snd.fst))), (.d (.v (.int .i64 v.snd.snd.snd.snd.snd.snd.snd.snd.fst))), (.d (.v (.int .i64 v.snd.snd.snd.snd.snd.snd.snd.snd.snd.fst))), (.d (.v (.int .i64 v.snd.snd.snd.snd.snd.snd.snd.snd.snd.snd.fst))), (.d (.v (.int .i64 v.snd.snd.snd.snd.snd.snd.snd.snd.snd.snd.snd)))])
noncomputable def st11 : S11 → ASt
  | .c0 a189 a190 a191 a192 a193 a194 a195 a196 a197 a198 a199 a200 => ent cfz 11 [(.agg [(aI a189), (aI a190), (aI a191), (aI a192), (aI a193), (aI a194), (aI a195), (aI a196), (aI a197), (aI a198), (aI a199), (aI a200)])]
noncomputable def B11 : S11 → Tr S11 (Int × Int × Int × Int × Int × Int × Int × Int × Int × Int × Int × Int)
  | .c0 a189 a190 a191 a192 a193 a194 a195 a196 a197 a198 a199 a200 => (.ret (a189, a190, a191, a192, a193, a194, a195, a196, a197, a198, a199, a200))
noncomputable def F11 (a189 a190 a191 a192 a193 a194 a195 a196 a197 a198 a199 a200 : Int) : Option (Int × Int × Int × Int × Int × Int × Int × Int × Int × Int × Int × Int) := res B11 (.c0 a189 a190 a191 a192 a193 a194 a195 a196 a197 a198 a199 a200)
noncomputable def D11_0 (a189 a190 a191 a192 a193 a194 a195 a196 a197 a198 a199 a200 : Int) : DT cfz := (.go 204 [.none, (.br true), .none, .none, .none, .none, (.br true), .none, .none, .none, .none, (.br true), .none, .none, .none, .none, (.br true), .none, .none, .none, .none, (.br true), .none, .none, .none, .none, (.br true), .none, .none, .none, .none, (.br false)] [0, 1, 2, 3, 4, 5, 6, 7, 8, 9, 10, 11, 12, 13, 14, 15, 16, 17, 18, 19, 20, 21, 22, 23, 24, 25, 26, 27, 28, 29, 30, 31, 32, 33, 34, 35, 36] .fin)
theorem k11_0 (a189 a190 a191 a192 a193 a194 a195 a196 a197 a198 a199 a200 : Int) : xrun cfz 11 (D11_0 a189 a190 a191 a192 a193 a194 a195 a196 a197 a198 a199 a200) [] (st11 (.c0 a189 a190 a191 a192 a193 a194 a195 a196 a197 a198 a199 a200)) = (B11 (.c0 a189 a190 a191 a192 a193 a194 a195 a196 a197 a198 a199 a200)).mach st11 out11 := by kernel_rfl
theorem ok11 : ∀ s, ∃ d, xrun cfz 11 d [] (st11 s) = (B11 s).mach st11 out11
  | .c0 a189 a190 a191 a192 a193 a194 a195 a196 a197 a198 a199 a200 => ⟨_, k11_0 a189 a190 a191 a192 a193 a194 a195 a196 a197 a198 a199 a200⟩
theorem f11 (a189 a190 a191 a192 a193 a194 a195 a196 a197 a198 a199 a200 : Int) (v : Int × Int × Int × Int × Int × Int × Int × Int × Int × Int × Int × Int) (h : F11 a189 a190 a191 a192 a193 a194 a195 a196 a197 a198 a199 a200 = some v) : PureCalls cfz.P cfz.glob 11 [(.agg [(aI a189), (aI a190), (aI a191), (aI a192), (aI a193), (aI a194), (aI a195), (aI a196), (aI a197), (aI a198), (aI a199), (aI a200)])] (out11 v) := tree_pure knil ok11 (s := .c0 a189 a190 a191 a192 a193 a194 a195 a196 a197 a198 a199 a200) rfl (by kernel_rfl) v h

/-! F69 -/
inductive S69 where
  | c0 (a214 a215 : Int)
def out69 (v : Int) : AV := (.d (.v (.int .i64 v)))
noncomputable def st69 : S69 → ASt
  | .c0 a214 a215 => ent cfz 69 [(.agg [(aI a214), (aI a215)])]
noncomputable def B69 : S69 → Tr S69 (Int)
  | .c0 a214 a215 => (.ask (.in64 (a214 * 1000000)) (.ask (.in64 (a214 * 1000000 + a215)) (.ret (a214 * 1000000 + a215))))
noncomputable def F69 (a214 a215 : Int) : Option (Int) := res B69 (.c0 a214 a215)
noncomputable def D69_0 (a214 a215 : Int) : DT cfz := (.go 16 [] [] .fin)
theorem k69_0 (a214 a215 : Int) : xrun cfz 69 (D69_0 a214 a215) [] (st69 (.c0 a214 a215)) = (B69 (.c0 a214 a215)).mach st69 out69 := by kernel_rfl
theorem ok69 : ∀ s, ∃ d, xrun cfz 69 d [] (st69 s) = (B69 s).mach st69 out69
  | .c0 a214 a215 => ⟨_, k69_0 a214 a215⟩
theorem f69 (a214 a215 v : Int) (h : F69 a214 a215 = some v) : PureCalls cfz.P cfz.glob 69 [(.agg [(aI a214), (aI a215)])] (out69 v) := tree_pure knil ok69 (s := .c0 a214 a215) rfl (by kernel_rfl) v h

/-! F43 -/
inductive S43 where
  | c0 (a210 a211 a212 a213 : Int)
def out43 (v : Int) : AV := (.d (.v (.int .i64 v)))
noncomputable def st43 : S43 → ASt
  | .c0 a210 a211 a212 a213 => ent cfz 43 [(.agg [(aI a210), (aI a211)]), (.agg [(aI a212), (aI a213)])]
noncomputable def B43 : S43 → Tr S43 (Int)
  | .c0 a210 a211 a212 a213 => (.bind (F69 a210 a211) fun v216 =>
  (.bind (F69 a212 a213) fun v217 =>
  (.sees [(.agg [(aI a210), (aI a211)])] (.sees [(.agg [(aI a212), (aI a213)])] (.ask (.in64 (v216 - v217)) (.ask (.in64 (v216 - v217 + 1000000000000)) (.ret ((v216 - v217 + 1000000000000).tmod 1000000000000))))))))
noncomputable def F43 (a210 a211 a212 a213 : Int) : Option (Int) := res B43 (.c0 a210 a211 a212 a213)
noncomputable def D43_0 (a210 a211 a212 a213 : Int) : DT cfz := (.go 8 [] [] (.bind (f69 a210 a211) fun v216 => (.bind (f69 a212 a213) fun v217 => (.go 2 [(.ck 0), (.ck 1)] [4] .fin))))
theorem k43_0 (a210 a211 a212 a213 : Int) : xrun cfz 43 (D43_0 a210 a211 a212 a213) [] (st43 (.c0 a210 a211 a212 a213)) = (B43 (.c0 a210 a211 a212 a213)).mach st43 out43 := by kernel_rfl
theorem ok43 : ∀ s, ∃ d, xrun cfz 43 d [] (st43 s) = (B43 s).mach st43 out43
  | .c0 a210 a211 a212 a213 => ⟨_, k43_0 a210 a211 a212 a213⟩
theorem f43 (a210 a211 a212 a213 v : Int) (h : F43 a210 a211 a212 a213 = some v) : PureCalls cfz.P cfz.glob 43 [(.agg [(aI a210), (aI a211)]), (.agg [(aI a212), (aI a213)])] (out43 v) := tree_pure knil ok43 (s := .c0 a210 a211 a212 a213) rfl (by kernel_rfl) v h

/-! F12 -/
inductive S12 where
  | c0 (a203 a204 a205 a206 : Int)
def out12 (v : Int × Int) : AV := (.tup [(.d (.v (.int .i64 v.fst))), (.d (.v (.int .i64 v.snd)))])
noncomputable def st12 : S12 → ASt
  | .c0 a203 a204 a205 a206 => ent cfz 12 [(.agg [(aI a203), (aI a204)]), (.agg [(aI a205), (aI a206)])]
noncomputable def B12 : S12 → Tr S12 (Int × Int)
  | .c0 a203 a204 a205 a206 => (.bind (F42 a203 a204) fun v207 =>
  (.bind (F42 a205 a206) fun v208 =>
  (.bind (F35 2 [(.v (.int .i64 v207)), (.v (.int .i64 v208))]) fun v209 =>
  (.sees [(.agg [(aI a203), (aI a204)])] (.sees [(.agg [(aI a205), (aI a206)])] (.sees [(.d (.sl 2 [(vI v207), (vI v208)]))] (.br (v209 != 0)
  (.ret (0, v209))
  (.bind (F43 a205 a206 a203 a204) fun v218 =>
  (.sees [(.agg [(aI a205), (aI a206)]), (.agg [(aI a203), (aI a204)])] (.ret (v218, 0)))))))))))
noncomputable def F12 (a203 a204 a205 a206 : Int) : Option (Int × Int) := res B12 (.c0 a203 a204 a205 a206)
noncomputable def D12_0 (a203 a204 a205 a206 : Int) : DT cfz := (.go 10 [] [] (.bind (f42 a203 a204) fun v207 => (.bind (f42 a205 a206) fun v208 => (.bind (f35 2 [(vI v207), (vI v208)]) fun v209 => (.go 6 [(.ck 0), (.ck 1), (.ck 2)] [] (.split 14 (.go 8 [(.br true)] [0] .fin) (.go 6 [(.br false)] [0] (.bind (f43 a205 a206 a203 a204) fun v218 => (.go 5 [(.ck 3)] [] .fin)))))))))
theorem k12_0 (a203 a204 a205 a206 : Int) : xrun cfz 12 (D12_0 a203 a204 a205 a206) [] (st12 (.c0 a203 a204 a205 a206)) = (B12 (.c0 a203 a204 a205 a206)).mach st12 out12 := by kernel_rfl
theorem ok12 : ∀ s, ∃ d, xrun cfz 12 d [] (st12 s) = (B12 s).mach st12 out12
  | .c0 a203 a204 a205 a206 => ⟨_, k12_0 a203 a204 a205 a206⟩
theorem f12 (a203 a204 a205 a206 : Int) (v : Int × Int) (h : F12 a203 a204 a205 a206 = some v) : PureCalls cfz.P cfz.glob 12 [(.agg [(aI a203), (aI a204)]), (.agg [(aI a205), (aI a206)])] (out12 v) := tree_pure knil ok12 (s := .c0 a203 a204 a205 a206) rfl (by kernel_rfl) v h

end Go.Kv
