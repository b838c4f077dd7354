/- Printed: what functions of the program come to, and the kernel's proof of it. -/
import Derived.Test.YtdelimpnnpifpaaGreatDoorKvW
import Derived.Test.YtdelimpnnpifpaaGreatDoorKvZ
import Derived.Test.YtdelimpnnpifpaaGreatDoorKzA
namespace Go.Kv
set_option linter.all false
open Go Go.RowKit Go.Proofs
set_option maxRecDepth 100000
/-! F123 -/
inductive S123 where
  | c0 (a22 : Int)
def out123 (v : Int) : AV := (.d (.v (.int .i64 v)))
noncomputable def st123 : S123 → ASt
  | .c0 a22 => ent cfz 123 [(.d (.v (.int .i64 a22)))]
noncomputable def B123 : S123 → Tr S123 (Int)
  | .c0 a22 => (.ask (.le 0 (a22.tmod 16)) (.ask (.lt (a22.tmod 16) 16) (.ask (.leN ((a22.tmod 16).toNat * 1) 16) (.ask (.prop (Option.map AV.d (List.drop ((a22.tmod 16).toNat * 1) gl0)[0]? = some (AV.d (DV.v (Value.int IntKind.i64 (dI (cel gl0 ((a22.tmod 16).toNat * 1)))))))) (.ret (dI (cel gl0 ((a22.tmod 16).toNat * 1))))))))
noncomputable def F123 (a22 : Int) : Option (Int) := res B123 (.c0 a22)
noncomputable def D123_0 (a22 : Int) : DT cfz := (.go 13 [(.as (.d (.v (.int .i64 (dI (cel gl0 ((a22.tmod 16).toNat * 1)))))))] [0] .fin)
theorem k123_0 (a22 : Int) : xrun cfz 123 (D123_0 a22) [] (st123 (.c0 a22)) = (B123 (.c0 a22)).mach st123 out123 := by kernel_rfl
theorem ok123 : ∀ s, ∃ d, xrun cfz 123 d [] (st123 s) = (B123 s).mach st123 out123
  | .c0 a22 => ⟨_, k123_0 a22⟩
theorem f123 (a22 : Int) (v : Int) (h : F123 a22 = some v) : PureCalls cfz.P cfz.glob 123 [(.d (.v (.int .i64 a22)))] (out123 v) := tree_pure knil ok123 (s := .c0 a22) rfl (by kernel_rfl) v h

/-! F122 -/
inductive S122 where
  | c0 (a24 : Int)
def out122 (v : Int) : AV := (.d (.v (.int .i64 v)))
noncomputable def st122 : S122 → ASt
  | .c0 a24 => ent cfz 122 [(.d (.v (.int .i64 a24)))]
noncomputable def B122 : S122 → Tr S122 (Int)
  | .c0 a24 => (.ask (.in64 (a24.tmod 17 + 17)) (.ret ((a24.tmod 17 + 17).tmod 17)))
noncomputable def F122 (a24 : Int) : Option (Int) := res B122 (.c0 a24)
noncomputable def D122_0 (a24 : Int) : DT cfz := (.go 13 [] [0, 2] .fin)
theorem k122_0 (a24 : Int) : xrun cfz 122 (D122_0 a24) [] (st122 (.c0 a24)) = (B122 (.c0 a24)).mach st122 out122 := by kernel_rfl
theorem ok122 : ∀ s, ∃ d, xrun cfz 122 d [] (st122 s) = (B122 s).mach st122 out122
  | .c0 a24 => ⟨_, k122_0 a24⟩
theorem f122 (a24 : Int) (v : Int) (h : F122 a24 = some v) : PureCalls cfz.P cfz.glob 122 [(.d (.v (.int .i64 a24)))] (out122 v) := tree_pure knil ok122 (s := .c0 a24) rfl (by kernel_rfl) v h

/-! F80 -/
inductive S80 where
  | c0 (a4 : Int) (a5 : Int) (a6 : Nat) (a7 : List DV)
  | c1 (x8 : Nat) (x9 : List DV) (x10 : Nat) (x11 : Int) (y12 : Int) (x13 : List AV)
  | c2 (x14 : Nat) (x15 : List DV) (x16 : Nat) (x17 : Int) (x18 : Int) (x19 : Int) (y20 : Int) (x21 : List AV)
def out80 (v : Nat × List DV) : AV := (.d (.sl v.fst v.snd))
noncomputable def st80 : S80 → ASt
  | .c0 a4 a5 a6 a7 => ent cfz 80 [(.agg [(.d (.v (.int .i64 a4))), (.d (.v (.int .i64 a5)))]), (.d (.sl a6 a7))]
  | .c1 x8 x9 x10 x11 y12 x13 => ⟨⟨80, sp 43 0 [(1, (.d (.sl x8 x9))), (5, (.ms 1 0 1 x10 x10)), (13, (.d (.v (.int .i64 x11)))), (14, (.d (.v (.int .i64 y12))))], [(.code (cd cfz.P 80 [1, 1, 0, 1, 0, 0])), (.inLoop (cd cfz.P 80 [1, 1, 0, 1, 0, 0])), (.inBlock 0), (.code (cd cfz.P 80 [1, 1, 1]))], [], false, .none⟩, [], [.dead, (.cells x13 3)]⟩
  | .c2 x14 x15 x16 x17 x18 x19 y20 x21 => ⟨⟨80, sp 43 0 [(1, (.d (.sl x14 x15))), (5, (.ms 1 0 1 x16 x16)), (6, (.d (.v (.int .i64 x17)))), (13, (.d (.v (.int .i64 x18)))), (14, (.d (.v (.int .i64 x17)))), (17, (.d (.sl x14 x15))), (18, (.d (.v (.int .i64 x19)))), (19, (.d (.v (.int .i64 y20))))], [(.code (cd cfz.P 80 [1, 1, 0, 1, 0, 0, 1, 1, 0, 0, 1, 1, 0, 0])), (.inLoop (cd cfz.P 80 [1, 1, 0, 1, 0, 0, 1, 1, 0, 0, 1, 1, 0, 0])), (.inBlock 2), (.inBlock 1), (.code (cd cfz.P 80 [1, 1, 0, 1, 0, 0, 1, 1, 1])), (.inLoop (cd cfz.P 80 [1, 1, 0, 1, 0, 0])), (.inBlock 0), (.code (cd cfz.P 80 [1, 1, 1]))], [], false, .none⟩, [], [.dead, (.cells x21 3)]⟩
noncomputable def B80 : S80 → Tr S80 (Nat × List DV)
  | .c0 a4 a5 a6 a7 => (.ask (.le 0 a5) (.ask (.le a5 a5) (.ask (.le (8 * a5) 281474976710656) (.ask (.le a5 9223372036854775807) (.ask (.prop (refK 2 (ABlk.cells (zerosA (List.map (fun (x : Value) => AV.d (DV.v x)) (Value.int IntKind.i64 0).cells.toList) a5.toNat) 3) = true)) (.nxt (.c1 a6 a7 a5.toNat ((↑a5.toNat : Int)) 0 (zerosA (List.map (fun (x : Value) => AV.d (DV.v x)) (Value.int IntKind.i64 0).cells.toList) a5.toNat))))))))
  | .c1 x8 x9 x10 x11 y12 x13 => (.br (decide (y12 < x11))
  (.ask (.prop (refK 2 (ABlk.cells x13 3) = true)) (.nxt (.c2 x8 x9 x10 y12 x11 ((↑x8 : Int)) 0 x13)))
  (.ask (.leN (0 + x10 * 1) x13.length) (.ask (.prop (toDs (List.take (x10 * 1) (List.drop 0 x13)) = some (List.map aD (List.take (x10 * 1) (List.drop 0 x13))))) (.ret (x10, (List.map aD (List.take (x10 * 1) (List.drop 0 x13))))))))
  | .c2 x14 x15 x16 x17 x18 x19 y20 x21 => (.br (decide (y20 < x19))
  (.ask (.le 0 y20) (.ask (.lt y20 ((↑x14 : Int))) (.ask (.leN (y20.toNat * 1) x15.length) (.ask (.prop (Option.map AV.d (List.drop (y20.toNat * 1) x15)[0]? = some (AV.d (DV.v (Value.int IntKind.i64 (dI (cel x15 (y20.toNat * 1)))))))) (.bind (F123 (y20 * (x17 + 1))) fun v23 =>
  (.bind (F122 (dI (celA x21 (0 + x17.toNat * 1)) + dI (cel x15 (y20.toNat * 1)) * v23)) fun v25 =>
  (.ask (.le 0 x17) (.ask (.lt x17 ((↑x16 : Int))) (.ask (.prop (x21[0 + x17.toNat * 1]? = some (AV.d (DV.v (Value.int IntKind.i64 (dI (celA x21 (0 + x17.toNat * 1)))))))) (.ask (.in64 (x17 + 1)) (.ask (.in64 (y20 * (x17 + 1))) (.sees [(.d (.v (.int .i64 (y20 * (x17 + 1)))))] (.ask (.in64 (dI (cel x15 (y20.toNat * 1)) * v23)) (.ask (.in64 (dI (celA x21 (0 + x17.toNat * 1)) + dI (cel x15 (y20.toNat * 1)) * v23)) (.sees [(.d (.v (.int .i64 (dI (celA x21 (0 + x17.toNat * 1)) + dI (cel x15 (y20.toNat * 1)) * v23))))] (.ask (.le 0 x17) (.ask (.lt x17 ((↑x16 : Int))) (.ask (.leN (0 + x17.toNat * 1 + 1) x21.length) (.triv _ (tv_p (spliceA x21 (0 + x17.toNat * 1) [AV.d (DV.v (Value.int IntKind.i64 v25))])) (.ask (.in64 (y20 + 1)) (.ask (.prop (refK 2 (ABlk.cells (spliceA x21 (0 + x17.toNat * 1) [AV.d (DV.v (Value.int IntKind.i64 v25))]) 3) = true)) (.nxt (.c2 x14 x15 x16 x17 x18 x19 (y20 + 1) (spliceA x21 (0 + x17.toNat * 1) [AV.d (DV.v (Value.int IntKind.i64 v25))]))))))))))))))))))))))))
  (.ask (.in64 (x17 + 1)) (.ask (.prop (refK 2 (ABlk.cells x21 3) = true)) (.nxt (.c1 x14 x15 x16 x18 (x17 + 1) x21)))))
noncomputable def F80 (a4 : Int) (a5 : Int) (a6 : Nat) (a7 : List DV) : Option (Nat × List DV) := res B80 (.c0 a4 a5 a6 a7)
noncomputable def D80_0 (a4 : Int) (a5 : Int) (a6 : Nat) (a7 : List DV) : DT cfz := (.go 21 [] [] (.cutP 2 [1] [[1, 5, 13, 14]] [0]))
theorem k80_0 (a4 : Int) (a5 : Int) (a6 : Nat) (a7 : List DV) : xrun cfz 80 (D80_0 a4 a5 a6 a7) [] (st80 (.c0 a4 a5 a6 a7)) = (B80 (.c0 a4 a5 a6 a7)).mach st80 out80 := by kernel_rfl
noncomputable def D80_1 (x8 : Nat) (x9 : List DV) (x10 : Nat) (x11 : Int) (y12 : Int) (x13 : List AV) : DT cfz := (.go 5 [] [] (.split 15 (.go 17 [(.br true)] [0] (.cutP 2 [1] [[1, 5, 6, 13, 14, 17, 18, 19]] [])) (.go 8 [(.br false)] [0] .finP)))
theorem k80_1 (x8 : Nat) (x9 : List DV) (x10 : Nat) (x11 : Int) (y12 : Int) (x13 : List AV) : xrun cfz 80 (D80_1 x8 x9 x10 x11 y12 x13) [] (st80 (.c1 x8 x9 x10 x11 y12 x13)) = (B80 (.c1 x8 x9 x10 x11 y12 x13)).mach st80 out80 := by kernel_rfl
noncomputable def D80_2 (x14 : Nat) (x15 : List DV) (x16 : Nat) (x17 : Int) (x18 : Int) (x19 : Int) (y20 : Int) (x21 : List AV) : DT cfz := (.go 5 [] [] (.split 20 (.go 13 [(.br true), (.as (.d (.v (.int .i64 (dI (cel x15 (y20.toNat * 1)))))))] [0] (.bind (f123 (y20 * (x17 + 1))) fun v23 => (.bind (f122 (dI (celA x21 (0 + x17.toNat * 1)) + dI (cel x15 (y20.toNat * 1)) * v23)) fun v25 => (.go 7 [(.as (.d (.v (.int .i64 (dI (celA x21 (0 + x17.toNat * 1))))))), (.ck 0), (.ck 1), (.as (.agg (spliceA x21 (0 + x17.toNat * 1) [AV.d (DV.v (Value.int IntKind.i64 v25))])))] [11] (.cutP 2 [1] [[1, 5, 6, 13, 14, 17, 18, 19]] []))))) (.go 8 [(.br false)] [0] (.cutP 2 [1] [[1, 5, 13, 14]] []))))
theorem k80_2 (x14 : Nat) (x15 : List DV) (x16 : Nat) (x17 : Int) (x18 : Int) (x19 : Int) (y20 : Int) (x21 : List AV) : xrun cfz 80 (D80_2 x14 x15 x16 x17 x18 x19 y20 x21) [] (st80 (.c2 x14 x15 x16 x17 x18 x19 y20 x21)) = (B80 (.c2 x14 x15 x16 x17 x18 x19 y20 x21)).mach st80 out80 := by kernel_rfl
theorem ok80 : ∀ s, ∃ d, xrun cfz 80 d [] (st80 s) = (B80 s).mach st80 out80
  | .c0 a4 a5 a6 a7 => ⟨_, k80_0 a4 a5 a6 a7⟩
  | .c1 x8 x9 x10 x11 y12 x13 => ⟨_, k80_1 x8 x9 x10 x11 y12 x13⟩
  | .c2 x14 x15 x16 x17 x18 x19 y20 x21 => ⟨_, k80_2 x14 x15 x16 x17 x18 x19 y20 x21⟩
theorem f80 (a4 : Int) (a5 : Int) (a6 : Nat) (a7 : List DV) (v : Nat × List DV) (h : F80 a4 a5 a6 a7 = some v) : PureCalls cfz.P cfz.glob 80 [(.agg [(.d (.v (.int .i64 a4))), (.d (.v (.int .i64 a5)))]), (.d (.sl a6 a7))] (out80 v) := tree_pure knil ok80 (s := .c0 a4 a5 a6 a7) rfl (by kernel_rfl) v h

/-! F125 -/
inductive S125 where
  | c0 (a35 : Int)
def out125 (v : Bool) : AV := (.d (.v (.bool v)))
noncomputable def st125 : S125 → ASt
  | .c0 a35 => ent cfz 125 [(.d (.v (.int .i64 a35)))]
noncomputable def B125 : S125 → Tr S125 (Bool)
  | .c0 a35 => (.ret (a35 != 0))
noncomputable def F125 (a35 : Int) : Option (Bool) := res B125 (.c0 a35)
noncomputable def D125_0 (a35 : Int) : DT cfz := (.go 11 [] [] .fin)
theorem k125_0 (a35 : Int) : xrun cfz 125 (D125_0 a35) [] (st125 (.c0 a35)) = (B125 (.c0 a35)).mach st125 out125 := by kernel_rfl
theorem ok125 : ∀ s, ∃ d, xrun cfz 125 d [] (st125 s) = (B125 s).mach st125 out125
  | .c0 a35 => ⟨_, k125_0 a35⟩
theorem f125 (a35 : Int) (v : Bool) (h : F125 a35 = some v) : PureCalls cfz.P cfz.glob 125 [(.d (.v (.int .i64 a35)))] (out125 v) := tree_pure knil ok125 (s := .c0 a35) rfl (by kernel_rfl) v h

/-! F156 -/
inductive S156 where
  | c0 (a29 : Nat) (a30 : List DV)
  | c1 (x31 : Nat) (x32 : List DV) (x33 : Int) (y34 : Int)
def out156 (v : Int) : AV := (.d (.v (.int .i64 v)))
noncomputable def st156 : S156 → ASt
  | .c0 a29 a30 => ent cfz 156 [(.d (.sl a29 a30)), (.d (.v (.func (.func 125) (#[]) (#[]))))]
  | .c1 x31 x32 x33 y34 => ⟨⟨156, sp 19 0 [(0, (.d (.sl x31 x32))), (1, (.d (.v (.func (.func 125) (#[]) (#[]))))), (7, (.d (.v (.int .i64 x33)))), (8, (.d (.v (.int .i64 y34))))], [(.code (cd cfz.P 156 [1, 0, 1, 0, 0])), (.inLoop (cd cfz.P 156 [1, 0, 1, 0, 0])), (.inBlock 0), (.code (cd cfz.P 156 [1, 1]))], [], false, .none⟩, [], []⟩
noncomputable def B156 : S156 → Tr S156 (Int)
  | .c0 a29 a30 => (.nxt (.c1 a29 a30 ((↑a29 : Int)) 0))
  | .c1 x31 x32 x33 y34 => (.br (decide (y34 < x33))
  (.ask (.le 0 y34) (.ask (.lt y34 ((↑x31 : Int))) (.ask (.leN (y34.toNat * 1) x32.length) (.ask (.prop (Option.map AV.d (List.drop (y34.toNat * 1) x32)[0]? = some (AV.d (DV.v (Value.int IntKind.i64 (dI (cel x32 (y34.toNat * 1)))))))) (.bind (F125 (dI (cel x32 (y34.toNat * 1)))) fun v36 =>
  (.sees [(.d (.v (.int .i64 (dI (cel x32 (y34.toNat * 1))))))] (.br v36
  (.ret y34)
  (.ask (.in64 (y34 + 1)) (.nxt (.c1 x31 x32 x33 (y34 + 1)))))))))))
  (.ret (-1)))
noncomputable def F156 (a29 : Nat) (a30 : List DV) : Option (Int) := res B156 (.c0 a29 a30)
noncomputable def D156_0 (a29 : Nat) (a30 : List DV) : DT cfz := (.go 13 [] [] (.cut 0 [[0, 1, 7, 8]] []))
theorem k156_0 (a29 : Nat) (a30 : List DV) : xrun cfz 156 (D156_0 a29 a30) [] (st156 (.c0 a29 a30)) = (B156 (.c0 a29 a30)).mach st156 out156 := by kernel_rfl
noncomputable def D156_1 (x31 : Nat) (x32 : List DV) (x33 : Int) (y34 : Int) : DT cfz := (.go 5 [] [] (.split 9 (.go 16 [(.br true), (.as (.d (.v (.int .i64 (dI (cel x32 (y34.toNat * 1)))))))] [0] (.bind (f125 (dI (cel x32 (y34.toNat * 1)))) fun v36 => (.go 2 [(.ck 0)] [] (.split 16 (.go 7 [(.br true)] [0] .fin) (.go 8 [(.br false)] [0] (.cut 0 [[0, 1, 7, 8]] [])))))) (.go 7 [(.br false)] [0] .fin)))
theorem k156_1 (x31 : Nat) (x32 : List DV) (x33 : Int) (y34 : Int) : xrun cfz 156 (D156_1 x31 x32 x33 y34) [] (st156 (.c1 x31 x32 x33 y34)) = (B156 (.c1 x31 x32 x33 y34)).mach st156 out156 := by kernel_rfl
theorem ok156 : ∀ s, ∃ d, xrun cfz 156 d [] (st156 s) = (B156 s).mach st156 out156
  | .c0 a29 a30 => ⟨_, k156_0 a29 a30⟩
  | .c1 x31 x32 x33 y34 => ⟨_, k156_1 x31 x32 x33 y34⟩
theorem f156 (a29 : Nat) (a30 : List DV) (v : Int) (h : F156 a29 a30 = some v) : PureCalls cfz.P cfz.glob 156 [(.d (.sl a29 a30)), (.d (.v (.func (.func 125) (#[]) (#[]))))] (out156 v) := tree_pure knil ok156 (s := .c0 a29 a30) rfl (by kernel_rfl) v h

/-! F124 -/
inductive S124 where
  | c0 (a27 : Nat) (a28 : List DV)
def out124 (v : Bool) : AV := (.d (.v (.bool v)))
noncomputable def st124 : S124 → ASt
  | .c0 a27 a28 => ent cfz 124 [(.d (.sl a27 a28)), (.d (.v (.func (.func 125) (#[]) (#[]))))]
noncomputable def B124 : S124 → Tr S124 (Bool)
  | .c0 a27 a28 => (.bind (F156 a27 a28) fun v37 =>
  (.sees [(.d (.sl a27 a28)), (.d (.v (.func (.func 125) (#[]) (#[]))))] (.ret (decide (v37 ≥ 0)))))
noncomputable def F124 (a27 : Nat) (a28 : List DV) : Option (Bool) := res B124 (.c0 a27 a28)
noncomputable def D124_0 (a27 : Nat) (a28 : List DV) : DT cfz := (.go 8 [] [] (.bind (f156 a27 a28) fun v37 => (.go 5 [(.ck 0)] [] .fin)))
theorem k124_0 (a27 : Nat) (a28 : List DV) : xrun cfz 124 (D124_0 a27 a28) [] (st124 (.c0 a27 a28)) = (B124 (.c0 a27 a28)).mach st124 out124 := by kernel_rfl
theorem ok124 : ∀ s, ∃ d, xrun cfz 124 d [] (st124 s) = (B124 s).mach st124 out124
  | .c0 a27 a28 => ⟨_, k124_0 a27 a28⟩
theorem f124 (a27 : Nat) (a28 : List DV) (v : Bool) (h : F124 a27 a28 = some v) : PureCalls cfz.P cfz.glob 124 [(.d (.sl a27 a28)), (.d (.v (.func (.func 125) (#[]) (#[]))))] (out124 v) := tree_pure knil ok124 (s := .c0 a27 a28) rfl (by kernel_rfl) v h

/-! F81 -/
inductive S81 where
  | c0 (a0 : Int) (a1 : Int) (a2 : Nat) (a3 : List DV)
def out81 (v : Bool) : AV := (.d (.v (.bool v)))
noncomputable def st81 : S81 → ASt
  | .c0 a0 a1 a2 a3 => ent cfz 81 [(.agg [(.d (.v (.int .i64 a0))), (.d (.v (.int .i64 a1)))]), (.d (.sl a2 a3))]
noncomputable def B81 : S81 → Tr S81 (Bool)
  | .c0 a0 a1 a2 a3 => (.bind (F80 a0 a1 a2 a3) fun v26 =>
  (.sees [(.agg [(.d (.v (.int .i64 a0))), (.d (.v (.int .i64 a1)))]), (.d (.sl a2 a3))] (.bind (F124 v26.fst v26.snd) fun v38 =>
  (.sees [(.d (.sl v26.fst v26.snd)), (.d (.v (.func (.func 125) (#[]) (#[]))))] (.ret (!v38))))))
noncomputable def F81 (a0 : Int) (a1 : Int) (a2 : Nat) (a3 : List DV) : Option (Bool) := res B81 (.c0 a0 a1 a2 a3)
noncomputable def D81_0 (a0 : Int) (a1 : Int) (a2 : Nat) (a3 : List DV) : DT cfz := (.go 9 [] [] (.bind (f80 a0 a1 a2 a3) fun v26 => (.go 1 [(.ck 0)] [] (.bind (f124 v26.fst v26.snd) fun v38 => (.go 5 [(.ck 1)] [] .fin)))))
theorem k81_0 (a0 : Int) (a1 : Int) (a2 : Nat) (a3 : List DV) : xrun cfz 81 (D81_0 a0 a1 a2 a3) [] (st81 (.c0 a0 a1 a2 a3)) = (B81 (.c0 a0 a1 a2 a3)).mach st81 out81 := by kernel_rfl
theorem ok81 : ∀ s, ∃ d, xrun cfz 81 d [] (st81 s) = (B81 s).mach st81 out81
  | .c0 a0 a1 a2 a3 => ⟨_, k81_0 a0 a1 a2 a3⟩
theorem f81 (a0 : Int) (a1 : Int) (a2 : Nat) (a3 : List DV) (v : Bool) (h : F81 a0 a1 a2 a3 = some v) : PureCalls cfz.P cfz.glob 81 [(.agg [(.d (.v (.int .i64 a0))), (.d (.v (.int .i64 a1)))]), (.d (.sl a2 a3))] (out81 v) := tree_pure knil ok81 (s := .c0 a0 a1 a2 a3) rfl (by kernel_rfl) v h

end Go.Kv
