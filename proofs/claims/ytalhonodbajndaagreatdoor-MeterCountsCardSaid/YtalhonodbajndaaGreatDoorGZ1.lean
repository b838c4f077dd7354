/- Printed: what functions of the program come to, and the kernel's proof of it. -/
import Derived.Test.YtalhonodbajndaaGreatDoorKvW
import Derived.Test.YtalhonodbajndaaGreatDoorKvZ
import Derived.Test.YtalhonodbajndaaGreatDoorKzA
namespace Go.Kv
set_option linter.unusedVariables false
set_option linter.unusedSimpArgs false
open Go Go.RowKit Go.Proofs
set_option maxRecDepth 100000
/-! F109 -/
inductive S109 where
  | c0 (a119 : Nat)
def out109 (v : Bool) : AV := (.d (.v (.bool v)))
noncomputable def st109 : S109 → ASt
  | .c0 a119 => ent cfz 109 [(.d (.v (.float .f64 a119)))]
noncomputable def B109 : S109 → Tr S109 (Bool)
  | .c0 a119 => (.ret (FloatKind.f64.format.order a119 a119 != some Ordering.eq))
noncomputable def F109 (a119 : Nat) : Option (Bool) := res B109 (.c0 a119)
noncomputable def D109_0 (a119 : Nat) : DT cfz := (.go 12 [] [] .fin)
theorem k109_0 (a119 : Nat) : xrun cfz 109 (D109_0 a119) [] (st109 (.c0 a119)) = (B109 (.c0 a119)).mach st109 out109 := by kernel_rfl
theorem ok109 : ∀ s, ∃ d, xrun cfz 109 d [] (st109 s) = (B109 s).mach st109 out109
  | .c0 a119 => ⟨_, k109_0 a119⟩
theorem f109 (a119 : Nat) (v : Bool) (h : F109 a119 = some v) : PureCalls cfz.P cfz.glob 109 [(.d (.v (.float .f64 a119)))] (out109 v) := tree_pure knil ok109 (s := .c0 a119) rfl (by kernel_rfl) v h

/-! F135 -/
inductive S135 where
  | c0 (a123 : Nat)
def out135 (v : Nat) : AV := (.d (.v (.float .f64 v)))
noncomputable def st135 : S135 → ASt
  | .c0 a123 => ent cfz 135 [(.d (.v (.float .f64 a123)))]
noncomputable def B135 : S135 → Tr S135 (Nat)
  | .c0 a123 => (.ask (.prop (∀ (w : World), Sem.run cfz.P (callFunc 145 #[Value.float FloatKind.f64 a123]) w = Result.ok (Next.value (Value.int IntKind.u64 (↑a123 : Int))) w)) (.ask (.prop (∀ (w : World), Sem.run cfz.P (callFunc 144 #[Value.int IntKind.u64 (IntKind.u64.wrap (↑(BitVec.ofInt 64 (↑a123 : Int) &&& ~~~BitVec.ofInt 64 9223372036854775808).toNat : Int))]) w = Result.ok (Next.value (Value.float FloatKind.f64 (IntKind.u64.wrap (↑(BitVec.ofInt 64 (↑a123 : Int) &&& ~~~BitVec.ofInt 64 9223372036854775808).toNat : Int)).toNat)) w)) (.ret ((IntKind.u64.wrap (↑(BitVec.ofInt 64 (↑a123 : Int) &&& ~~~BitVec.ofInt 64 9223372036854775808).toNat : Int)).toNat))))
noncomputable def F135 (a123 : Nat) : Option (Nat) := res B135 (.c0 a123)
noncomputable def D135_0 (a123 : Nat) : DT cfz := (.go 13 [(.ext (.int .u64 ((↑a123 : Int)))), (.ext (.float .f64 ((IntKind.u64.wrap (↑(BitVec.ofInt 64 (↑a123 : Int) &&& ~~~BitVec.ofInt 64 9223372036854775808).toNat : Int)).toNat)))] [] .fin)
theorem k135_0 (a123 : Nat) : xrun cfz 135 (D135_0 a123) [] (st135 (.c0 a123)) = (B135 (.c0 a123)).mach st135 out135 := by kernel_rfl
theorem ok135 : ∀ s, ∃ d, xrun cfz 135 d [] (st135 s) = (B135 s).mach st135 out135
  | .c0 a123 => ⟨_, k135_0 a123⟩
theorem f135 (a123 v : Nat) (h : F135 a123 = some v) : PureCalls cfz.P cfz.glob 135 [(.d (.v (.float .f64 a123)))] (out135 v) := tree_pure knil ok135 (s := .c0 a123) rfl (by kernel_rfl) v h

/-! F110 -/
inductive S110 where
  | c0 (a121 : Nat) (a122 : Int)
def out110 (v : Bool) : AV := (.d (.v (.bool v)))
noncomputable def st110 : S110 → ASt
  | .c0 a121 a122 => ent cfz 110 [(.d (.v (.float .f64 a121))), (aI a122)]
noncomputable def B110 : S110 → Tr S110 (Bool)
  | .c0 a121 a122 => (.br (a122 == 0)
  (.bind (F135 a121) fun v124 =>
  (.sees [(.d (.v (.float .f64 a121)))] (.ret (FloatKind.f64.format.order v124 9218868437227405311 == some Ordering.gt))))
  (.br (decide (a122 < 0))
  (.ret (FloatKind.f64.format.order (Op.negFloat FloatKind.f64 a121) 9218868437227405311 == some Ordering.gt))
  (.ret (FloatKind.f64.format.order a121 9218868437227405311 == some Ordering.gt))))
noncomputable def F110 (a121 : Nat) (a122 : Int) : Option (Bool) := res B110 (.c0 a121 a122)
noncomputable def D110_0 (a121 : Nat) (a122 : Int) : DT cfz := (.go 10 [] [] (.split 6 (.go 3 [(.br true)] [0] (.bind (f135 a121) fun v124 => (.go 10 [(.ck 0)] [] .fin))) (.go 6 [(.br false)] [0] (.split 10 (.go 13 [(.br true)] [0] .fin) (.go 9 [(.br false)] [0] .fin)))))
theorem k110_0 (a121 : Nat) (a122 : Int) : xrun cfz 110 (D110_0 a121 a122) [] (st110 (.c0 a121 a122)) = (B110 (.c0 a121 a122)).mach st110 out110 := by kernel_rfl
theorem ok110 : ∀ s, ∃ d, xrun cfz 110 d [] (st110 s) = (B110 s).mach st110 out110
  | .c0 a121 a122 => ⟨_, k110_0 a121 a122⟩
theorem f110 (a121 : Nat) (a122 : Int) (v : Bool) (h : F110 a121 a122 = some v) : PureCalls cfz.P cfz.glob 110 [(.d (.v (.float .f64 a121))), (aI a122)] (out110 v) := tree_pure knil ok110 (s := .c0 a121 a122) rfl (by kernel_rfl) v h

/-! F140 -/
inductive S140 where
  | c0 (a118 : Nat)
def out140 (v : Bool) : AV := (.d (.v (.bool v)))
noncomputable def st140 : S140 → ASt
  | .c0 a118 => ent cfz 140 [(.d (.v (.float .f32 a118)))]
noncomputable def B140 : S140 → Tr S140 (Bool)
  | .c0 a118 => (.ask (.eqB (ftofOk FloatKind.f32 a118 FloatKind.f64) true) (.bind (F109 (ftof FloatKind.f32 a118 FloatKind.f64)) fun v120 =>
  (.sees [(.d (.v (.float .f64 (ftof FloatKind.f32 a118 FloatKind.f64))))] (.br v120
  (.ret true)
  (.ask (.eqB (v120 == false) true) (.ask (.eqB (ftofOk FloatKind.f32 a118 FloatKind.f64) true) (.bind (F110 (ftof FloatKind.f32 a118 FloatKind.f64) 0) fun v125 =>
  (.sees [(.d (.v (.float .f64 (ftof FloatKind.f32 a118 FloatKind.f64)))), (aI 0)] (.ret v125)))))))))
noncomputable def F140 (a118 : Nat) : Option (Bool) := res B140 (.c0 a118)
noncomputable def D140_0 (a118 : Nat) : DT cfz := (.go 8 [] [] (.bind (f109 (ftof FloatKind.f32 a118 FloatKind.f64)) fun v120 => (.go 3 [(.ck 0), (.sp .none)] [] (.split 6 (.go 6 [(.br true), (.br true)] [0, 1] .fin) (.strip 7 (.go 1 [(.br false)] [1] (.bind (f110 (ftof FloatKind.f32 a118 FloatKind.f64) 0) fun v125 => (.go 5 [(.br false), (.ck 1)] [1] .fin))))))))
theorem k140_0 (a118 : Nat) : xrun cfz 140 (D140_0 a118) [] (st140 (.c0 a118)) = (B140 (.c0 a118)).mach st140 out140 := by kernel_rfl
theorem ok140 : ∀ s, ∃ d, xrun cfz 140 d [] (st140 s) = (B140 s).mach st140 out140
  | .c0 a118 => ⟨_, k140_0 a118⟩
theorem f140 (a118 : Nat) (v : Bool) (h : F140 a118 = some v) : PureCalls cfz.P cfz.glob 140 [(.d (.v (.float .f32 a118)))] (out140 v) := tree_pure knil ok140 (s := .c0 a118) rfl (by kernel_rfl) v h

/-! F139 -/
inductive S139 where
  | c0 (a127 : Bool) (a128 : Int)
def out139 (v : Int) : AV := (.d (.v (.int .i64 v)))
noncomputable def st139 : S139 → ASt
  | .c0 a127 a128 => ent cfz 139 [(.d (.v (.bool a127))), (aI a128)]
noncomputable def B139 : S139 → Tr S139 (Int)
  | .c0 a127 a128 => (.br a127
  (.ret a128)
  (.ret 0))
noncomputable def F139 (a127 : Bool) (a128 : Int) : Option (Int) := res B139 (.c0 a127 a128)
noncomputable def D139_0 (a127 : Bool) (a128 : Int) : DT cfz := (.go 9 [] [] (.split 5 (.go 7 [(.br true)] [0] .fin) (.go 7 [(.br false)] [0] .fin)))
theorem k139_0 (a127 : Bool) (a128 : Int) : xrun cfz 139 (D139_0 a127 a128) [] (st139 (.c0 a127 a128)) = (B139 (.c0 a127 a128)).mach st139 out139 := by kernel_rfl
theorem ok139 : ∀ s, ∃ d, xrun cfz 139 d [] (st139 s) = (B139 s).mach st139 out139
  | .c0 a127 a128 => ⟨_, k139_0 a127 a128⟩
theorem f139 (a127 : Bool) (a128 v : Int) (h : F139 a127 a128 = some v) : PureCalls cfz.P cfz.glob 139 [(.d (.v (.bool a127))), (aI a128)] (out139 v) := tree_pure knil ok139 (s := .c0 a127 a128) rfl (by kernel_rfl) v h

/-! F136 -/
inductive S136 where
  | c0 (a133 : Nat)
def out136 (v : Nat) : AV := (.d (.v (.float .f64 v)))
noncomputable def st136 : S136 → ASt
  | .c0 a133 => ent cfz 136 [(.d (.v (.float .f64 a133)))]
noncomputable def B136 : S136 → Tr S136 (Nat)
  | .c0 a133 => (.ask (.prop (∀ (w : World), Sem.run cfz.P (callFunc 146 #[Value.float FloatKind.f64 a133]) w = Result.ok (Next.value (Value.float FloatKind.f64 (floorV a133))) w)) (.ret (floorV a133)))
noncomputable def F136 (a133 : Nat) : Option (Nat) := res B136 (.c0 a133)
noncomputable def D136_0 (a133 : Nat) : DT cfz := (.go 13 [(.br true), (.ext (.float .f64 (floorV a133)))] [0] .fin)
theorem k136_0 (a133 : Nat) : xrun cfz 136 (D136_0 a133) [] (st136 (.c0 a133)) = (B136 (.c0 a133)).mach st136 out136 := by kernel_rfl
theorem ok136 : ∀ s, ∃ d, xrun cfz 136 d [] (st136 s) = (B136 s).mach st136 out136
  | .c0 a133 => ⟨_, k136_0 a133⟩
theorem f136 (a133 v : Nat) (h : F136 a133 = some v) : PureCalls cfz.P cfz.glob 136 [(.d (.v (.float .f64 a133)))] (out136 v) := tree_pure knil ok136 (s := .c0 a133) rfl (by kernel_rfl) v h

/-! F141 -/
inductive S141 where
  | c0 (a130 a131 : Nat)
def out141 (v : Int) : AV := (.d (.v (.int .i64 v)))
noncomputable def st141 : S141 → ASt
  | .c0 a130 a131 => ent cfz 141 [(.d (.v (.float .f32 a130))), (.d (.v (.float .f32 a131)))]
noncomputable def B141 : S141 → Tr S141 (Int)
  | .c0 a130 a131 => (.triv _ (tv_s ((FloatKind.f32.format.order a130 (Op.negFloat FloatKind.f32 a131) == some Ordering.lt) == false)) (.triv _ (tv_s ((FloatKind.f32.format.order a130 (Op.negFloat FloatKind.f32 a131) == some Ordering.lt) == false)) (.triv _ (tv_f (FloatKind.f32.format.order a130 (Op.negFloat FloatKind.f32 a131) == some Ordering.lt)) (.br (if (FloatKind.f32.format.order a130 (Op.negFloat FloatKind.f32 a131) == some Ordering.lt) = true then true else FloatKind.f32.format.order a130 a131 == some Ordering.gt)
  (.bind (F139 true 3) fun v132 =>
  (.sees [(.d (.v (.bool true))), (aI 3)] (.ret v132)))
  (.ask (.eqB ((if (FloatKind.f32.format.order a130 (Op.negFloat FloatKind.f32 a131) == some Ordering.lt) = true then true else FloatKind.f32.format.order a130 a131 == some Ordering.gt) == false) true) (.ask (.eqB (fok BinOp.mul FloatKind.f32 1098907648 a130) true) (.ask (.eqB (ftofOk FloatKind.f32 (fval BinOp.mul FloatKind.f32 1098907648 a130) FloatKind.f64) true) (.bind (F136 (ftof FloatKind.f32 (fval BinOp.mul FloatKind.f32 1098907648 a130) FloatKind.f64)) fun v134 =>
  (.sees [(.d (.v (.float .f64 (ftof FloatKind.f32 (fval BinOp.mul FloatKind.f32 1098907648 a130) FloatKind.f64))))] (.ask (.eqB (ftofOk FloatKind.f64 v134 FloatKind.f32) true) (.ask (.eqB (fok BinOp.mul FloatKind.f32 1098907648 a130) true) (.bind (F139 (FloatKind.f32.format.order (ftof FloatKind.f64 v134 FloatKind.f32) (fval BinOp.mul FloatKind.f32 1098907648 a130) != some Ordering.eq) 3) fun v135 =>
  (.sees [(.d (.v (.bool (FloatKind.f32.format.order (ftof FloatKind.f64 v134 FloatKind.f32) (fval BinOp.mul FloatKind.f32 1098907648 a130) != some Ordering.eq)))), (aI 3)] (.ret v135))))))))))))))
noncomputable def F141 (a130 a131 : Nat) : Option (Int) := res B141 (.c0 a130 a131)
noncomputable def D141_0 (a130 a131 : Nat) : DT cfz := (.go 17 [(.sp .none), (.sp .none), (.sp .none), .mg, (.sp .none)] [] (.split 14 (.go 8 [(.br true), (.br true), (.br true), (.br true), (.br true), (.br true), (.br true)] [0, 1, 2, 3, 4, 5, 6] (.bind (f139 true 3) fun v132 => (.go 4 [(.ck 0)] [] .fin))) (.strip 15 (.go 2 [(.br false), (.br false)] [1, 3] (.bind (f136 (ftof FloatKind.f32 (fval BinOp.mul FloatKind.f32 1098907648 a130) FloatKind.f64)) fun v134 => (.go 6 [(.br false), (.ck 0), (.br false), (.br false), (.br false), (.br false)] [1, 3, 4, 6, 7] (.bind (f139 (FloatKind.f32.format.order (ftof FloatKind.f64 v134 FloatKind.f32) (fval BinOp.mul FloatKind.f32 1098907648 a130) != some Ordering.eq) 3) fun v135 => (.go 4 [(.ck 1)] [] .fin))))))))
theorem k141_0 (a130 a131 : Nat) : xrun cfz 141 (D141_0 a130 a131) [] (st141 (.c0 a130 a131)) = (B141 (.c0 a130 a131)).mach st141 out141 := by kernel_rfl
theorem ok141 : ∀ s, ∃ d, xrun cfz 141 d [] (st141 s) = (B141 s).mach st141 out141
  | .c0 a130 a131 => ⟨_, k141_0 a130 a131⟩
theorem f141 (a130 a131 : Nat) (v : Int) (h : F141 a130 a131 = some v) : PureCalls cfz.P cfz.glob 141 [(.d (.v (.float .f32 a130))), (.d (.v (.float .f32 a131)))] (out141 v) := tree_pure knil ok141 (s := .c0 a130 a131) rfl (by kernel_rfl) v h

/-! F138 -/
inductive S138 where
  | c0 (a137 : Nat) (a138 : List DV)
  | c1 (x139 : Nat) (x140 : List DV) (x141 y142 : Int)
def out138 (v : Int) : AV := (.d (.v (.int .i64 v)))
noncomputable def st138 : S138 → ASt
  | .c0 a137 a138 => ent cfz 138 [(.d (.sl a137 a138))]
  | .c1 x139 x140 x141 y142 => ⟨⟨138, sp 15 0 [(5, (.d (.sl x139 x140))), (6, (aI x141)), (7, (aI y142))], [(.code (cd cfz.P 138 [1, 0, 1, 0, 0])), (.inLoop (cd cfz.P 138 [1, 0, 1, 0, 0])), (.inBlock 0), (.code (cd cfz.P 138 [1, 1]))], [], false, .none⟩, [], []⟩
noncomputable def B138 : S138 → Tr S138 (Int)
  | .c0 a137 a138 => (.nxt (.c1 a137 a138 ((↑a137 : Int)) 0))
  | .c1 x139 x140 x141 y142 => (.br (decide (y142 < x141))
  (.ask (.le 0 y142) (.ask (.lt y142 ((↑x139 : Int))) (.ask (.leN (y142.toNat * 1) x140.length) (.ask (.prop (Option.map AV.d (List.drop (y142.toNat * 1) x140)[0]? = some (AV.d (DV.v (Value.int IntKind.i64 (dI (cel x140 (y142.toNat * 1)))))))) (.br (dI (cel x140 (y142.toNat * 1)) != 0)
  (.ret (dI (cel x140 (y142.toNat * 1))))
  (.ask (.in64 (y142 + 1)) (.nxt (.c1 x139 x140 x141 (y142 + 1)))))))))
  (.ret 0))
noncomputable def F138 (a137 : Nat) (a138 : List DV) : Option (Int) := res B138 (.c0 a137 a138)
noncomputable def D138_0 (a137 : Nat) (a138 : List DV) : DT cfz := (.go 13 [] [] (.cut 0 [[5, 6, 7]] []))
theorem k138_0 (a137 : Nat) (a138 : List DV) : xrun cfz 138 (D138_0 a137 a138) [] (st138 (.c0 a137 a138)) = (B138 (.c0 a137 a138)).mach st138 out138 := by kernel_rfl
noncomputable def D138_1 (x139 : Nat) (x140 : List DV) (x141 y142 : Int) : DT cfz := (.go 5 [] [] (.split 8 (.go 15 [(.br true), (.as (aI (dI (cel x140 (y142.toNat * 1)))))] [0] (.split 12 (.go 7 [(.br true)] [0] .fin) (.go 8 [(.br false)] [0] (.cut 0 [[5, 6, 7]] [])))) (.go 7 [(.br false)] [0] .fin)))
theorem k138_1 (x139 : Nat) (x140 : List DV) (x141 y142 : Int) : xrun cfz 138 (D138_1 x139 x140 x141 y142) [] (st138 (.c1 x139 x140 x141 y142)) = (B138 (.c1 x139 x140 x141 y142)).mach st138 out138 := by kernel_rfl
theorem ok138 : ∀ s, ∃ d, xrun cfz 138 d [] (st138 s) = (B138 s).mach st138 out138
  | .c0 a137 a138 => ⟨_, k138_0 a137 a138⟩
  | .c1 x139 x140 x141 y142 => ⟨_, k138_1 x139 x140 x141 y142⟩
theorem f138 (a137 : Nat) (a138 : List DV) (v : Int) (h : F138 a137 a138 = some v) : PureCalls cfz.P cfz.glob 138 [(.d (.sl a137 a138))] (out138 v) := tree_pure knil ok138 (s := .c0 a137 a138) rfl (by kernel_rfl) v h

/-! F114 -/
inductive S114 where
  | c0 (a117 : Nat)
def out114 (v : Int) : AV := (.d (.v (.int .i64 v)))
noncomputable def st114 : S114 → ASt
  | .c0 a117 => ent cfz 114 [(.d (.v (.float .f32 a117)))]
noncomputable def B114 : S114 → Tr S114 (Int)
  | .c0 a117 => (.bind (F140 a117) fun v126 =>
  (.sees [(.d (.v (.float .f32 a117)))] (.bind (F139 v126 1) fun v129 =>
  (.sees [(.d (.v (.bool v126))), (aI 1)] (.bind (F141 a117 1149239296) fun v136 =>
  (.sees [(.d (.v (.float .f32 a117))), (.d (.v (.float .f32 1149239296)))] (.bind (F138 2 [(.v (.int .i64 v129)), (.v (.int .i64 v136))]) fun v143 =>
  (.sees [(.d (.sl 2 [(vI v129), (vI v136)]))] (.ret v143)))))))))
noncomputable def F114x (a117 : Nat) : Option (Int) := res B114 (.c0 a117)
noncomputable def D114_0 (a117 : Nat) : DT cfz := (.go 7 [] [] (.bind (f140 a117) fun v126 => (.go 1 [(.ck 0)] [] (.bind (f139 v126 1) fun v129 => (.go 2 [(.ck 1)] [] (.bind (f141 a117 1149239296) fun v136 => (.go 2 [(.ck 2)] [] (.bind (f138 2 [(vI v129), (vI v136)]) fun v143 => (.go 4 [(.ck 3)] [] .fin)))))))))
theorem k114_0 (a117 : Nat) : xrun cfz 114 (D114_0 a117) [] (st114 (.c0 a117)) = (B114 (.c0 a117)).mach st114 out114 := by kernel_rfl
theorem ok114 : ∀ s, ∃ d, xrun cfz 114 d [] (st114 s) = (B114 s).mach st114 out114
  | .c0 a117 => ⟨_, k114_0 a117⟩
theorem f114x (a117 : Nat) (v : Int) (h : F114x a117 = some v) : PureCalls cfz.P cfz.glob 114 [(.d (.v (.float .f32 a117)))] (out114 v) := tree_pure knil ok114 (s := .c0 a117) rfl (by kernel_rfl) v h

end Go.Kv
