/- Printed: what functions of the program come to, and the kernel's proof of it. -/
import Derived.Test.YtdelimpnnpifpaaGreatDoorKvW
import Derived.Test.YtdelimpnnpifpaaGreatDoorKvZ
import Derived.Test.YtdelimpnnpifpaaGreatDoorKzA
import Derived.Test.YtdelimpnnpifpaaGreatDoorGCk
import Derived.Test.YtdelimpnnpifpaaGreatDoorKXa
set_option linter.all false
namespace Go.Kv
open Go Go.RowKit Go.Proofs
set_option maxRecDepth 100000
/-! F29 -/
inductive S29 where
  | c0 (a23 a24 : Int) (a25 : Nat) (a26 : List DV)
def out29 (v : Int) : AV := (.d (.v (.int .i64 v)))
noncomputable def st29 : S29 → ASt
  | .c0 a23 a24 a25 a26 => ent cfz 29 [(.agg [(aI a23), (aI a24)]), (.d (.sl a25 a26))]
noncomputable def B29 : S29 → Tr S29 (Int)
  | .c0 a23 a24 a25 a26 => (.bind (F27 a23 a24) fun v45 =>
  (.bind (F83 ((↑a25 : Int) != a23) 2) fun v46 =>
  (.bind (F84 a25 a26) fun v70 =>
  (.bind (F82 3 [(.v (.int .i64 v45)), (.v (.int .i64 v46)), (.v (.int .i64 v70))]) fun v71 =>
  (.sees [(.agg [(aI a23), (aI a24)])] (.sees [(.d (.v (.bool ((↑a25 : Int) != a23)))), (aI 2)] (.sees [(.d (.sl a25 a26))] (.sees [(.d (.sl 3 [(vI v45), (vI v46), (vI v70)]))] (.ret v71)))))))))
noncomputable def F29 (a23 a24 : Int) (a25 : Nat) (a26 : List DV) : Option (Int) := res B29 (.c0 a23 a24 a25 a26)
noncomputable def D29_0 (a23 a24 : Int) (a25 : Nat) (a26 : List DV) : DT cfz := (.go 7 [] [] (.bind (f27 a23 a24) fun v45 => (.bind (f83 ((↑a25 : Int) != a23) 2) fun v46 => (.bind (f84 a25 a26) fun v70 => (.bind (f82 3 [(vI v45), (vI v46), (vI v70)]) fun v71 => (.go 2 [(.ck 0), (.ck 1), (.ck 2), (.ck 3)] [] .fin))))))
theorem k29_0 (a23 a24 : Int) (a25 : Nat) (a26 : List DV) : xrun cfz 29 (D29_0 a23 a24 a25 a26) [] (st29 (.c0 a23 a24 a25 a26)) = (B29 (.c0 a23 a24 a25 a26)).mach st29 out29 := by kernel_rfl
theorem ok29 : ∀ s, ∃ d, xrun cfz 29 d [] (st29 s) = (B29 s).mach st29 out29
  | .c0 a23 a24 a25 a26 => ⟨_, k29_0 a23 a24 a25 a26⟩
theorem f29 (a23 a24 : Int) (a25 : Nat) (a26 : List DV) (v : Int) (h : F29 a23 a24 a25 a26 = some v) : PureCalls cfz.P cfz.glob 29 [(.agg [(aI a23), (aI a24)]), (.d (.sl a25 a26))] (out29 v) := tree_pure knil ok29 (s := .c0 a23 a24 a25 a26) rfl (by kernel_rfl) v h

/-! F113 -/
inductive S113 where
  | c0 (a73 : Nat) (a74 : List DV)
  | c1 (x75 : Nat) (x76 : List DV) (x77 y78 : Int)
  | c2 (y80 y81 : Nat) (y82 : List DV) (x83 : Nat) (x84 : List DV) (x85 y86 : Int) (y88 : Nat)
def out113 (v : Nat × List DV) : AV := (.d (.sl v.fst v.snd))
noncomputable def st113 : S113 → ASt
  | .c0 a73 a74 => ent cfz 113 [(.d (.sl a73 a74)), (.d (.v (.func (.func 114) (#[]) (#[]))))]
  | .c1 x75 x76 x77 y78 => ⟨⟨113, sp 22 0 [(1, (.d (.v (.func (.func 114) (#[]) (#[]))))), (5, (.d (.v (.slice .none 0 0)))), (8, (.d (.sl x75 x76))), (9, (aI x77)), (10, (aI y78))], [(.code (cd cfz.P 113 [1, 1, 0, 1, 0, 0])), (.inLoop (cd cfz.P 113 [1, 1, 0, 1, 0, 0])), (.inBlock 0), (.code (cd cfz.P 113 [1, 1, 1]))], [], false, .none⟩, [], []⟩
  | .c2 y80 y81 y82 x83 x84 x85 y86 y88 => ⟨⟨113, sp 22 0 [(1, (.d (.v (.func (.func 114) (#[]) (#[]))))), (5, (.own 1 y80 1 y81 y82)), (8, (.d (.sl x83 x84))), (9, (aI x85)), (10, (aI y86))], [(.code (cd cfz.P 113 [1, 1, 0, 1, 0, 0])), (.inLoop (cd cfz.P 113 [1, 1, 0, 1, 0, 0])), (.inBlock 0), (.code (cd cfz.P 113 [1, 1, 1]))], [], false, .none⟩, [], [(.tail 0), (.tail y88)]⟩
noncomputable def B113 : S113 → Tr S113 (Nat × List DV)
  | .c0 a73 a74 => (.nxt (.c1 a73 a74 ((↑a73 : Int)) 0))
  | .c1 x75 x76 x77 y78 => (.br (decide (y78 < x77))
  (.ask (.le 0 y78) (.ask (.lt y78 ((↑x75 : Int))) (.ask (.leN (y78.toNat * 1) x76.length) (.ask (.prop (Option.map AV.d (List.drop (y78.toNat * 1) x76)[0]? = some (AV.d (DV.v (Value.int IntKind.i64 (dI (cel x76 (y78.toNat * 1)))))))) (.bind (F114 (dI (cel x76 (y78.toNat * 1)))) fun v79 =>
  (.sees [(aI (dI (cel x76 (y78.toNat * 1))))] (.ask (.in64 (y78 + 1)) (.nxt (.c2 0 1 [(.v (.string v79))] x75 x76 x77 (y78 + 1) 0)))))))))
  (.ret (0, [])))
  | .c2 y80 y81 y82 x83 x84 x85 y86 y88 => (.br (decide (y86 < x85))
  (.ask (.le 0 y86) (.ask (.lt y86 ((↑x83 : Int))) (.ask (.leN (y86.toNat * 1) x84.length) (.ask (.prop (Option.map AV.d (List.drop (y86.toNat * 1) x84)[0]? = some (AV.d (DV.v (Value.int IntKind.i64 (dI (cel x84 (y86.toNat * 1)))))))) (.bind (F114 (dI (cel x84 (y86.toNat * 1)))) fun v89 =>
  (.sees [(aI (dI (cel x84 (y86.toNat * 1))))] (.ask (.eqN y80 y88) (.ask (.fits (y81 + 1) 16) (.ask (.in64 (y86 + 1)) (.nxt (.c2 (y88 + 1) (y81 + 1) (y82 ++ [DV.v (Value.string v89)]) x83 x84 x85 (y86 + 1) (y88 + 1))))))))))))
  (.ret (y81, y82)))
noncomputable def F113 (a73 : Nat) (a74 : List DV) : Option (Nat × List DV) := res B113 (.c0 a73 a74)
noncomputable def D113_0 (a73 : Nat) (a74 : List DV) : DT cfz := (.go 17 [] [] (.cut 0 [[1, 5, 8, 9, 10]] []))
theorem k113_0 (a73 : Nat) (a74 : List DV) : xrun cfz 113 (D113_0 a73 a74) [] (st113 (.c0 a73 a74)) = (B113 (.c0 a73 a74)).mach st113 out113 := by kernel_rfl
noncomputable def D113_1 (x75 : Nat) (x76 : List DV) (x77 y78 : Int) : DT cfz := (.go 5 [] [] (.split 11 (.go 14 [(.br true), (.as (aI (dI (cel x76 (y78.toNat * 1)))))] [0] (.bind (f114 (dI (cel x76 (y78.toNat * 1)))) fun v79 => (.go 11 [(.ck 0)] [1, 2, 3] (.cut 2 [[1, 5, 8, 9, 10]] [])))) (.go 8 [(.br false)] [0] .fin)))
theorem k113_1 (x75 : Nat) (x76 : List DV) (x77 y78 : Int) : xrun cfz 113 (D113_1 x75 x76 x77 y78) [] (st113 (.c1 x75 x76 x77 y78)) = (B113 (.c1 x75 x76 x77 y78)).mach st113 out113 := by kernel_rfl
noncomputable def D113_2 (y80 y81 : Nat) (y82 : List DV) (x83 : Nat) (x84 : List DV) (x85 y86 : Int) (y88 : Nat) : DT cfz := (.go 5 [] [] (.split 11 (.go 14 [(.br true), (.as (aI (dI (cel x84 (y86.toNat * 1)))))] [0] (.bind (f114 (dI (cel x84 (y86.toNat * 1)))) fun v89 => (.go 11 [(.ck 0)] [2, 3] (.cut 2 [[1, 5, 8, 9, 10]] [])))) (.go 8 [(.br false)] [0] .fin)))
theorem k113_2 (y80 y81 : Nat) (y82 : List DV) (x83 : Nat) (x84 : List DV) (x85 y86 : Int) (y88 : Nat) : xrun cfz 113 (D113_2 y80 y81 y82 x83 x84 x85 y86 y88) [] (st113 (.c2 y80 y81 y82 x83 x84 x85 y86 y88)) = (B113 (.c2 y80 y81 y82 x83 x84 x85 y86 y88)).mach st113 out113 := by kernel_rfl
theorem ok113 : ∀ s, ∃ d, xrun cfz 113 d [] (st113 s) = (B113 s).mach st113 out113
  | .c0 a73 a74 => ⟨_, k113_0 a73 a74⟩
  | .c1 x75 x76 x77 y78 => ⟨_, k113_1 x75 x76 x77 y78⟩
  | .c2 y80 y81 y82 x83 x84 x85 y86 y88 => ⟨_, k113_2 y80 y81 y82 x83 x84 x85 y86 y88⟩
theorem f113 (a73 : Nat) (a74 : List DV) (v : Nat × List DV) (h : F113 a73 a74 = some v) : PureCalls cfz.P cfz.glob 113 [(.d (.sl a73 a74)), (.d (.v (.func (.func 114) (#[]) (#[]))))] (out113 v) := tree_pure knil ok113 (s := .c0 a73 a74) rfl (by kernel_rfl) v h

/-! F74 -/
inductive S74 where
  | c0 (a19 a20 : Int) (a21 : Nat) (a22 : List DV)
def out74 (v : ByteArray × Int) : AV := (.tup [(.d (.v (.string v.fst))), (.d (.v (.int .i64 v.snd)))])
noncomputable def st74 : S74 → ASt
  | .c0 a19 a20 a21 a22 => ent cfz 74 [(.agg [(aI a19), (aI a20)]), (.d (.sl a21 a22))]
noncomputable def B74 : S74 → Tr S74 (ByteArray × Int)
  | .c0 a19 a20 a21 a22 => (.bind (F29 a19 a20 a21 a22) fun v72 =>
  (.sees [(.agg [(aI a19), (aI a20)]), (.d (.sl a21 a22))] (.br (v72 != 0)
  (.ret ((.mk (#[])), v72))
  (.br (a21.beq 0)
  (.ask (.eqN a21 0) (.bind (F113 2 [(.v (.int .i64 a19)), (.v (.int .i64 a20))]) fun v90 =>
  (.sees [(.d (.sl 2 [(vI a19), (vI a20)])), (.d (.v (.func (.func 114) (#[]) (#[]))))] (.br (v90.fst.beq 0)
  (.ask (.eqN v90.fst 0) (.bind (F112 1 [(.v (.string (.mk (#[119, 111, 114, 100]))))] (.mk (#[32]))) fun v91 =>
  (.sees [(.d (.sl 1 [(.v (.string (.mk (#[119, 111, 114, 100]))))])), (.d (.v (.string (.mk (#[32])))))] (.ask (.le ((↑(v91.size + 1) : Int)) 9223372036854775807) (.ret ((v91 ++ (ByteArray.mk #[10])), 0))))))
  (.ask (.ltN 0 v90.fst) (.ask (.eqN v90.snd.length (v90.fst * 1)) (.ask (.fits (1 + v90.fst) 16) (.bind (F112 (1 + v90.fst) ([DV.v (Value.string (ByteArray.mk #[119, 111, 114, 100]))] ++ v90.snd) (.mk (#[32]))) fun v92 =>
  (.sees [(.d (.sl (1 + v90.fst) ([DV.v (Value.string (ByteArray.mk #[119, 111, 114, 100]))] ++ v90.snd))), (.d (.v (.string (.mk (#[32])))))] (.ask (.le ((↑(v92.size + 1) : Int)) 9223372036854775807) (.ret ((v92 ++ (ByteArray.mk #[10])), 0))))))))))))
  (.ask (.ltN 0 a21) (.ask (.eqN a22.length (a21 * 1)) (.ask (.fits (2 + a21) 8) (.bind (F113 (2 + a21) ([DV.v (Value.int IntKind.i64 a19), DV.v (Value.int IntKind.i64 a20)] ++ a22)) fun v93 =>
  (.sees [(.d (.sl (2 + a21) ([vI a19, vI a20] ++ a22))), (.d (.v (.func (.func 114) (#[]) (#[]))))] (.br (v93.fst.beq 0)
  (.ask (.eqN v93.fst 0) (.bind (F112 1 [(.v (.string (.mk (#[119, 111, 114, 100]))))] (.mk (#[32]))) fun v94 =>
  (.sees [(.d (.sl 1 [(.v (.string (.mk (#[119, 111, 114, 100]))))])), (.d (.v (.string (.mk (#[32])))))] (.ask (.le ((↑(v94.size + 1) : Int)) 9223372036854775807) (.ret ((v94 ++ (ByteArray.mk #[10])), 0))))))
  (.ask (.ltN 0 v93.fst) (.ask (.eqN v93.snd.length (v93.fst * 1)) (.ask (.fits (1 + v93.fst) 16) (.bind (F112 (1 + v93.fst) ([DV.v (Value.string (ByteArray.mk #[119, 111, 114, 100]))] ++ v93.snd) (.mk (#[32]))) fun v95 =>
  (.sees [(.d (.sl (1 + v93.fst) ([DV.v (Value.string (ByteArray.mk #[119, 111, 114, 100]))] ++ v93.snd))), (.d (.v (.string (.mk (#[32])))))] (.ask (.le ((↑(v95.size + 1) : Int)) 9223372036854775807) (.ret ((v95 ++ (ByteArray.mk #[10])), 0))))))))))))))))))
noncomputable def F74 (a19 a20 : Int) (a21 : Nat) (a22 : List DV) : Option (ByteArray × Int) := res B74 (.c0 a19 a20 a21 a22)
noncomputable def D74_0 (a19 a20 : Int) (a21 : Nat) (a22 : List DV) : DT cfz := (.go 11 [] [] (.bind (f29 a19 a20 a21 a22) fun v72 => (.go 8 [(.ck 0)] [] (.split 12 (.go 8 [(.br true)] [0] .fin) (.go 10 [(.br false)] [0] (.br (a21.beq 0) (.go 7 [(.br false)] [] (.bind (f113 2 [(vI a19), (vI a20)]) fun v90 => (.go 1 [(.ck 1)] [] (.br (v90.fst.beq 0) (.go 1 [(.br false)] [] (.bind (f112 1 [(.v (.string (.mk (#[119, 111, 114, 100]))))] (.mk (#[32]))) fun v91 => (.go 6 [(.ck 2)] [] .fin))) (.go 1 [(.br true)] [0] (.bind (f112 (1 + v90.fst) ([DV.v (Value.string (ByteArray.mk #[119, 111, 114, 100]))] ++ v90.snd) (.mk (#[32]))) fun v92 => (.go 6 [(.ck 2)] [] .fin))))))) (.go 7 [(.br true)] [0] (.bind (f113 (2 + a21) ([vI a19, vI a20] ++ a22)) fun v93 => (.go 1 [(.ck 1)] [] (.br (v93.fst.beq 0) (.go 1 [(.br false)] [] (.bind (f112 1 [(.v (.string (.mk (#[119, 111, 114, 100]))))] (.mk (#[32]))) fun v94 => (.go 6 [(.ck 2)] [] .fin))) (.go 1 [(.br true)] [0] (.bind (f112 (1 + v93.fst) ([DV.v (Value.string (ByteArray.mk #[119, 111, 114, 100]))] ++ v93.snd) (.mk (#[32]))) fun v95 => (.go 6 [(.ck 2)] [] .fin)))))))))))))
theorem k74_0 (a19 a20 : Int) (a21 : Nat) (a22 : List DV) : xrun cfz 74 (D74_0 a19 a20 a21 a22) [] (st74 (.c0 a19 a20 a21 a22)) = (B74 (.c0 a19 a20 a21 a22)).mach st74 out74 := by kernel_rfl
theorem ok74 : ∀ s, ∃ d, xrun cfz 74 d [] (st74 s) = (B74 s).mach st74 out74
  | .c0 a19 a20 a21 a22 => ⟨_, k74_0 a19 a20 a21 a22⟩
theorem f74 (a19 a20 : Int) (a21 : Nat) (a22 : List DV) (v : ByteArray × Int) (h : F74 a19 a20 a21 a22 = some v) : PureCalls cfz.P cfz.glob 74 [(.agg [(aI a19), (aI a20)]), (.d (.sl a21 a22))] (out74 v) := tree_pure knil ok74 (s := .c0 a19 a20 a21 a22) rfl (by kernel_rfl) v h

/-! F164 -/
inductive S164 where
  | c0 (a102 a103 : ByteArray)
def out164 (v : Bool) : AV := (.d (.v (.bool v)))
noncomputable def st164 : S164 → ASt
  | .c0 a102 a103 => ent cfz 164 [(.d (.v (.string a102))), (.d (.v (.string a103)))]
noncomputable def B164 : S164 → Tr S164 (Bool)
  | .c0 a102 a103 => (.triv _ (tv_s (decide ((↑a102.size : Int) ≥ (↑a103.size : Int)) == true)) (.triv _ (tv_s (decide ((↑a102.size : Int) ≥ (↑a103.size : Int)) == true)) (.br (decide ((↑a102.size : Int) ≥ (↑a103.size : Int)))
  (.ask (.eqB (decide ((↑a102.size : Int) ≥ (↑a103.size : Int)) == true) true) (.ask (.eqB (decide ((↑a102.size : Int) ≥ (↑a103.size : Int)) == true) true) (.ask (.in64 ((↑a102.size : Int) - (↑a103.size : Int))) (.ask (.eqB (decide ((↑a102.size : Int) ≥ (↑a103.size : Int)) == true) true) (.ask (.le 0 ((↑a102.size : Int) - (↑a103.size : Int))) (.ask (.le ((↑a102.size : Int) - (↑a103.size : Int)) ((↑a102.size : Int))) (.ask (.le ((↑a102.size : Int)) ((↑a102.size : Int))) (.ret (eqS (a102.extract ((↑a102.size : Int) - (↑a103.size : Int)).toNat (↑a102.size : Int).toNat) a103)))))))))
  (.ret false))))
noncomputable def F164 (a102 a103 : ByteArray) : Option (Bool) := res B164 (.c0 a102 a103)
noncomputable def D164_0 (a102 a103 : ByteArray) : DT cfz := (.go 17 [(.sp .none), (.sp .none), (.sp .none), (.sp .none), (.sp .none)] [] (.split 10 (.strip 13 (.strip 15 (.go 1 [(.br true)] [1] (.strip 11 (.go 7 [(.br true), (.br true), (.br true)] [3, 4, 5] .fin))))) (.go 8 [(.br false), (.br false), (.br false), (.br false)] [0, 1, 2, 3] .fin)))
theorem k164_0 (a102 a103 : ByteArray) : xrun cfz 164 (D164_0 a102 a103) [] (st164 (.c0 a102 a103)) = (B164 (.c0 a102 a103)).mach st164 out164 := by kernel_rfl
theorem ok164 : ∀ s, ∃ d, xrun cfz 164 d [] (st164 s) = (B164 s).mach st164 out164
  | .c0 a102 a103 => ⟨_, k164_0 a102 a103⟩
theorem f164 (a102 a103 : ByteArray) (v : Bool) (h : F164 a102 a103 = some v) : PureCalls cfz.P cfz.glob 164 [(.d (.v (.string a102))), (.d (.v (.string a103)))] (out164 v) := tree_pure knil ok164 (s := .c0 a102 a103) rfl (by kernel_rfl) v h

/-! F152 -/
inductive S152 where
  | c0 (a100 a101 : ByteArray)
def out152 (v : ByteArray × Bool) : AV := (.tup [(.d (.v (.string v.fst))), (.d (.v (.bool v.snd)))])
noncomputable def st152 : S152 → ASt
  | .c0 a100 a101 => ent cfz 152 [(.d (.v (.string a100))), (.d (.v (.string a101)))]
noncomputable def B152 : S152 → Tr S152 (ByteArray × Bool)
  | .c0 a100 a101 => (.bind (F164 a100 a101) fun v104 =>
  (.sees [(.d (.v (.string a100))), (.d (.v (.string a101)))] (.br (!v104)
  (.ret (a100, false))
  (.ask (.in64 ((↑a100.size : Int) - (↑a101.size : Int))) (.ask (.le 0 ((↑a100.size : Int) - (↑a101.size : Int))) (.ask (.le ((↑a100.size : Int) - (↑a101.size : Int)) ((↑a100.size : Int))) (.ret ((a100.extract (Int.toNat 0) ((↑a100.size : Int) - (↑a101.size : Int)).toNat), true))))))))
noncomputable def F152 (a100 a101 : ByteArray) : Option (ByteArray × Bool) := res B152 (.c0 a100 a101)
noncomputable def D152_0 (a100 a101 : ByteArray) : DT cfz := (.go 10 [] [] (.bind (f164 a100 a101) fun v104 => (.go 3 [(.ck 0)] [] (.split 9 (.go 8 [(.br true)] [0] .fin) (.go 15 [(.br false)] [0, 2] .fin)))))
theorem k152_0 (a100 a101 : ByteArray) : xrun cfz 152 (D152_0 a100 a101) [] (st152 (.c0 a100 a101)) = (B152 (.c0 a100 a101)).mach st152 out152 := by kernel_rfl
theorem ok152 : ∀ s, ∃ d, xrun cfz 152 d [] (st152 s) = (B152 s).mach st152 out152
  | .c0 a100 a101 => ⟨_, k152_0 a100 a101⟩
theorem f152 (a100 a101 : ByteArray) (v : ByteArray × Bool) (h : F152 a100 a101 = some v) : PureCalls cfz.P cfz.glob 152 [(.d (.v (.string a100))), (.d (.v (.string a101)))] (out152 v) := tree_pure knil ok152 (s := .c0 a100 a101) rfl (by kernel_rfl) v h

/-! F115 -/
inductive S115 where
  | c0 (a98 a99 : ByteArray)
def out115 (v : ByteArray × Bool) : AV := (.tup [(.d (.v (.string v.fst))), (.d (.v (.bool v.snd)))])
noncomputable def st115 : S115 → ASt
  | .c0 a98 a99 => ent cfz 115 [(.d (.v (.string a98))), (.d (.v (.string a99)))]
noncomputable def B115 : S115 → Tr S115 (ByteArray × Bool)
  | .c0 a98 a99 => (.bind (F152 a98 a99) fun v105 =>
  (.sees [(.d (.v (.string a98))), (.d (.v (.string a99)))] (.ret (v105.fst, v105.snd))))
noncomputable def F115 (a98 a99 : ByteArray) : Option (ByteArray × Bool) := res B115 (.c0 a98 a99)
noncomputable def D115_0 (a98 a99 : ByteArray) : DT cfz := (.go 9 [] [] (.bind (f152 a98 a99) fun v105 => (.go 7 [(.ck 0)] [] .fin)))
theorem k115_0 (a98 a99 : ByteArray) : xrun cfz 115 (D115_0 a98 a99) [] (st115 (.c0 a98 a99)) = (B115 (.c0 a98 a99)).mach st115 out115 := by kernel_rfl
theorem ok115 : ∀ s, ∃ d, xrun cfz 115 d [] (st115 s) = (B115 s).mach st115 out115
  | .c0 a98 a99 => ⟨_, k115_0 a98 a99⟩
theorem f115 (a98 a99 : ByteArray) (v : ByteArray × Bool) (h : F115 a98 a99 = some v) : PureCalls cfz.P cfz.glob 115 [(.d (.v (.string a98))), (.d (.v (.string a99)))] (out115 v) := tree_pure knil ok115 (s := .c0 a98 a99) rfl (by kernel_rfl) v h

/-! F118 -/
inductive S118 where
  | c0
def out118 (v : Unit) : AV := (.agg [(.d (.v (.string (.mk (#[108, 101, 110, 103, 116, 104]))))), (.d (.v (.func (.func 154) (#[]) (#[])))), (.d (.v (.string (.mk (#[99, 104, 101, 99, 107, 115]))))), (.d (.v (.func (.func 155) (#[]) (#[]))))])
noncomputable def st118 : S118 → ASt
  | .c0 => ent cfz 118 []
noncomputable def B118 : S118 → Tr S118 (Unit)
  | .c0 => (.ret ())
noncomputable def F118 : Option (Unit) := res B118 (.c0)
noncomputable def D118_0 : DT cfz := (.go 12 [] [] .fin)
theorem k118_0 : xrun cfz 118 (D118_0) [] (st118 (.c0)) = (B118 (.c0)).mach st118 out118 := by kernel_rfl
theorem ok118 : ∀ s, ∃ d, xrun cfz 118 d [] (st118 s) = (B118 s).mach st118 out118
  | .c0 => ⟨_, k118_0⟩
theorem f118 (v : Unit) (h : F118 = some v) : PureCalls cfz.P cfz.glob 118 [] (out118 v) := tree_pure knil ok118 (s := .c0) rfl (by kernel_rfl) v h

/-! F75 -/
inductive S75 where
  | c0 (a30 : ByteArray)
  | c1 (x38 : Bool) (x39 : Nat) (x40 : List DV) (x41 y42 : Int) (x43 : Nat) (x44 : List DV) (y165 : Bool) (y84 y163 : Int)
  | c2 (y45 : Int) (x46 : Bool) (x47 : Nat) (x48 : List DV) (x49 : Nat) (x50 : List DV) (y52 : Bool) (x51 : ByteArray) (y95 : Nat)
  | c3 (x53 : Bool) (x54 : Nat) (x55 : List DV) (y56 y57 : Nat) (y58 : List DV) (x59 y60 : Int) (x61 : Nat) (x62 : List DV) (y97 y166 : Int) (y111 : Nat)
  | c4 (y63 : Int) (x64 : Bool) (x65 : Nat) (x66 : List DV) (x67 x68 : Int) (x69 : Nat) (x70 : List DV) (y168 : Bool) (y98 y167 : Int) (x71 : ByteArray) (y195 : Nat)
  | c5 (y85 : Int) (x86 : Bool) (x87 : Nat) (x88 : List DV) (x89 : Nat) (x90 : List DV) (y96 : Bool) (x91 : Int) (x92 : ByteArray) (x93 : Nat) (x94 : ByteArray) (y164 : Nat)
  | c6 (y112 : Int) (x113 : Bool) (x114 : Nat) (x115 : List DV) (x116 x117 : Int) (x118 x119 : Nat) (x120 : List DV) (x121 : Nat) (x122 : List DV) (x123 y181 : Int) (y137 : Nat) (x124 : ByteArray)
  | c7 (x150 : Bool) (x151 : Nat) (x152 : List DV) (y153 y154 : Nat) (y155 : List DV) (x156 y157 : Int) (x158 : Nat) (x159 : List DV) (y196 : Bool) (x160 y194 : Int) (x161 : ByteArray) (x162 y197 : Nat)
  | c8 (y198 : Int) (x199 : Bool) (x200 : Nat) (x201 : List DV) (x202 x203 : Int) (x204 x205 : Nat) (x206 : List DV) (x207 : Nat) (x208 : List DV) (y214 : Bool) (x209 x210 : Int) (x211 : ByteArray) (x212 y227 : Nat) (x213 : ByteArray) (y240 : Nat)
def out75 (v : Int × Int × Nat × List DV × Int) : AV := (.tup [(.agg [(.d (.v (.int .i64 v.fst))), (.d (.v (.int .i64 v.snd.fst)))]), (.d (.sl v.snd.snd.fst v.snd.snd.snd.fst)), (.d (.v (.int .i64 v.snd.snd.snd.snd)))])
noncomputable def st75 : S75 → ASt
  | .c0 a30 => ent cfz 75 [(.d (.v (.string a30)))]
  | .c1 x38 x39 x40 x41 y42 x43 x44 y165 y84 y163 => ⟨⟨75, sp 85 0 [(2, (.ptr 0 0)), (6, (.d (.v (.bool x38)))), (7, (.d (.sl x39 x40))), (8, (.ptr 1 0)), (9, (.fn (.func 117) [(.ptr 1 0)] [])), (10, (.ptr 2 0)), (13, (.d (.v (.slice .none 0 0)))), (46, (aI x41)), (47, (aI y42))], [(.code (cd cfz.P 75 [1, 1, 1, 1, 1, 1, 1, 1, 1, 0, 1, 0, 0])), (.inLoop (cd cfz.P 75 [1, 1, 1, 1, 1, 1, 1, 1, 1, 0, 1, 0, 0])), (.inBlock 2), (.code (cd cfz.P 75 [1, 1, 1, 1, 1, 1, 1, 1, 1, 1]))], [], false, .none⟩, [], [(.cells [(aI 0), (aI 0)] 30), (.cells [(.d (.sl x43 x44)), (.d (.v (.bool y165)))] 161), (.cells [(aI y84), (aI y163)] 30)]⟩
  | .c2 y45 x46 x47 x48 x49 x50 y52 x51 y95 => ⟨⟨117, sp 83 0 [(0, (.ptr 1 0)), (4, (aI y45)), (57, (.ptr 4 0))], [(.code (cd cfz.P 117 [1, 1, 1, 1, 1, 1, 0, 1, 0, 0])), (.inLoop (cd cfz.P 117 [1, 1, 1, 1, 1, 1, 0, 1, 0, 0])), (.inBlock 0), (.code (cd cfz.P 117 [1, 1, 1, 1, 1, 1, 1]))], [], false, .none⟩, [⟨75, sp 85 0 [(2, (.ptr 0 0)), (6, (.d (.v (.bool x46)))), (7, (.d (.sl x47 x48))), (8, (.ptr 1 0)), (9, (.fn (.func 117) [(.ptr 1 0)] [])), (10, (.ptr 2 0)), (12, (.ptr 3 0)), (32, (.agg [(.d (.v (.string (.mk (#[108, 101, 110, 103, 116, 104]))))), (.d (.v (.func (.func 154) (#[]) (#[])))), (.d (.v (.string (.mk (#[99, 104, 101, 99, 107, 115]))))), (.d (.v (.func (.func 155) (#[]) (#[]))))])), (33, (aI 0))], [(.regL (opsAt cfz.P 75 [1, 1, 1, 1, 1, 1, 1, 0, 1, 0, 0, 1, 1, 0, 0, 1]) 3 [(0, (.ptr 3 1)), (1, (.d (.v (.func (.func 154) (#[]) (#[])))))]), (.inBlock 1), (.code (cd cfz.P 75 [1, 1, 1, 1, 1, 1, 1, 0, 1, 0, 0, 1, 1, 1])), (.inLoop (cd cfz.P 75 [1, 1, 1, 1, 1, 1, 1, 0, 1, 0, 0])), (.inBlock 0), (.code (cd cfz.P 75 [1, 1, 1, 1, 1, 1, 1, 1]))], [], false, .none⟩], [(.cells [(aI 0), (aI 0)] 30), (.cells [(.d (.sl x49 x50)), (.d (.v (.bool y52)))] 161), (.cells [(aI 0), (aI 0)] 30), (.cells [(.d (.v (.string (.mk (#[108, 101, 110, 103, 116, 104]))))), (.d (.v (.func (.func 154) (#[]) (#[]))))] 165), (.itr (.si x51 y95))]⟩
  | .c3 x53 x54 x55 y56 y57 y58 x59 y60 x61 x62 y97 y166 y111 => ⟨⟨75, sp 85 0 [(2, (.ptr 0 0)), (6, (.d (.v (.bool x53)))), (7, (.d (.sl x54 x55))), (8, (.ptr 1 0)), (9, (.fn (.func 117) [(.ptr 1 0)] [])), (10, (.ptr 2 0)), (13, (.own 4 y56 1 y57 y58)), (46, (aI x59)), (47, (aI y60))], [(.code (cd cfz.P 75 [1, 1, 1, 1, 1, 1, 1, 1, 1, 0, 1, 0, 0])), (.inLoop (cd cfz.P 75 [1, 1, 1, 1, 1, 1, 1, 1, 1, 0, 1, 0, 0])), (.inBlock 2), (.code (cd cfz.P 75 [1, 1, 1, 1, 1, 1, 1, 1, 1, 1]))], [], false, .none⟩, [], [(.cells [(aI 0), (aI 0)] 30), (.cells [(.d (.sl x61 x62)), (.d (.v (.bool true)))] 161), (.cells [(aI y97), (aI y166)] 30), (.tail 0), (.tail y111)]⟩
  | .c4 y63 x64 x65 x66 x67 x68 x69 x70 y168 y98 y167 x71 y195 => ⟨⟨117, sp 83 0 [(0, (.ptr 1 0)), (4, (aI y63)), (57, (.ptr 3 0))], [(.code (cd cfz.P 117 [1, 1, 1, 1, 1, 1, 0, 1, 0, 0])), (.inLoop (cd cfz.P 117 [1, 1, 1, 1, 1, 1, 0, 1, 0, 0])), (.inBlock 0), (.code (cd cfz.P 117 [1, 1, 1, 1, 1, 1, 1]))], [], false, .none⟩, [⟨75, sp 85 0 [(2, (.ptr 0 0)), (6, (.d (.v (.bool x64)))), (7, (.d (.sl x65 x66))), (8, (.ptr 1 0)), (9, (.fn (.func 117) [(.ptr 1 0)] [])), (10, (.ptr 2 0)), (46, (aI x67)), (47, (aI x68)), (49, (.d (.v (.slice .none 0 0))))], [(.regC (opsAt cfz.P 75 [1, 1, 1, 1, 1, 1, 1, 1, 1, 0, 1, 0, 0, 1, 1, 0, 0]) false 2), (.inBlock 3), (.code (cd cfz.P 75 [1, 1, 1, 1, 1, 1, 1, 1, 1, 0, 1, 0, 0, 1, 1, 1])), (.inLoop (cd cfz.P 75 [1, 1, 1, 1, 1, 1, 1, 1, 1, 0, 1, 0, 0])), (.inBlock 2), (.code (cd cfz.P 75 [1, 1, 1, 1, 1, 1, 1, 1, 1, 1]))], [], false, .none⟩], [(.cells [(aI 0), (aI 0)] 30), (.cells [(.d (.sl x69 x70)), (.d (.v (.bool y168)))] 161), (.cells [(aI y98), (aI y167)] 30), (.itr (.si x71 y195))]⟩
  | .c5 y85 x86 x87 x88 x89 x90 y96 x91 x92 x93 x94 y164 => ⟨⟨117, sp 83 0 [(0, (.ptr 1 0)), (4, (aI y85)), (57, (.ptr 6 0))], [(.code (cd cfz.P 117 [1, 1, 1, 1, 1, 1, 0, 1, 0, 0])), (.inLoop (cd cfz.P 117 [1, 1, 1, 1, 1, 1, 0, 1, 0, 0])), (.inBlock 0), (.code (cd cfz.P 117 [1, 1, 1, 1, 1, 1, 1]))], [], false, .none⟩, [⟨75, sp 85 0 [(2, (.ptr 0 0)), (6, (.d (.v (.bool x86)))), (7, (.d (.sl x87 x88))), (8, (.ptr 1 0)), (9, (.fn (.func 117) [(.ptr 1 0)] [])), (10, (.ptr 2 0)), (12, (.ptr 5 0)), (32, (.agg [(.d (.v (.string (.mk (#[108, 101, 110, 103, 116, 104]))))), (.d (.v (.func (.func 154) (#[]) (#[])))), (.d (.v (.string (.mk (#[99, 104, 101, 99, 107, 115]))))), (.d (.v (.func (.func 155) (#[]) (#[]))))])), (33, (aI 1))], [(.regL (opsAt cfz.P 75 [1, 1, 1, 1, 1, 1, 1, 0, 1, 0, 0, 1, 1, 0, 0, 1]) 3 [(0, (.ptr 5 1)), (1, (.d (.v (.func (.func 155) (#[]) (#[])))))]), (.inBlock 1), (.code (cd cfz.P 75 [1, 1, 1, 1, 1, 1, 1, 0, 1, 0, 0, 1, 1, 1])), (.inLoop (cd cfz.P 75 [1, 1, 1, 1, 1, 1, 1, 0, 1, 0, 0])), (.inBlock 0), (.code (cd cfz.P 75 [1, 1, 1, 1, 1, 1, 1, 1]))], [], false, .none⟩], [(.cells [(aI 0), (aI 0)] 30), (.cells [(.d (.sl x89 x90)), (.d (.v (.bool y96)))] 161), (.cells [(aI x91), (aI 0)] 30), .dead, (.itr (.si x92 x93)), (.cells [(.d (.v (.string (.mk (#[99, 104, 101, 99, 107, 115]))))), (.d (.v (.func (.func 155) (#[]) (#[]))))] 165), (.itr (.si x94 y164))]⟩
  | .c6 y112 x113 x114 x115 x116 x117 x118 x119 x120 x121 x122 x123 y181 y137 x124 => ⟨⟨117, sp 83 0 [(0, (.ptr 1 0)), (4, (aI y112)), (57, (.ptr 5 0))], [(.code (cd cfz.P 117 [1, 1, 1, 1, 1, 1, 0, 1, 0, 0])), (.inLoop (cd cfz.P 117 [1, 1, 1, 1, 1, 1, 0, 1, 0, 0])), (.inBlock 0), (.code (cd cfz.P 117 [1, 1, 1, 1, 1, 1, 1]))], [], false, .none⟩, [⟨75, sp 85 0 [(2, (.ptr 0 0)), (6, (.d (.v (.bool x113)))), (7, (.d (.sl x114 x115))), (8, (.ptr 1 0)), (9, (.fn (.func 117) [(.ptr 1 0)] [])), (10, (.ptr 2 0)), (46, (aI x116)), (47, (aI x117)), (49, (.own 4 x118 1 x119 x120))], [(.regC (opsAt cfz.P 75 [1, 1, 1, 1, 1, 1, 1, 1, 1, 0, 1, 0, 0, 1, 1, 0, 0]) false 2), (.inBlock 3), (.code (cd cfz.P 75 [1, 1, 1, 1, 1, 1, 1, 1, 1, 0, 1, 0, 0, 1, 1, 1])), (.inLoop (cd cfz.P 75 [1, 1, 1, 1, 1, 1, 1, 1, 1, 0, 1, 0, 0])), (.inBlock 2), (.code (cd cfz.P 75 [1, 1, 1, 1, 1, 1, 1, 1, 1, 1]))], [], false, .none⟩], [(.cells [(aI 0), (aI 0)] 30), (.cells [(.d (.sl x121 x122)), (.d (.v (.bool true)))] 161), (.cells [(aI x123), (aI y181)] 30), (.tail 0), (.tail y137), (.itr (.si x124 0))]⟩
  | .c7 x150 x151 x152 y153 y154 y155 x156 y157 x158 x159 y196 x160 y194 x161 x162 y197 => ⟨⟨75, sp 85 0 [(2, (.ptr 0 0)), (6, (.d (.v (.bool x150)))), (7, (.d (.sl x151 x152))), (8, (.ptr 1 0)), (9, (.fn (.func 117) [(.ptr 1 0)] [])), (10, (.ptr 2 0)), (13, (.own 5 y153 1 y154 y155)), (46, (aI x156)), (47, (aI y157))], [(.code (cd cfz.P 75 [1, 1, 1, 1, 1, 1, 1, 1, 1, 0, 1, 0, 0])), (.inLoop (cd cfz.P 75 [1, 1, 1, 1, 1, 1, 1, 1, 1, 0, 1, 0, 0])), (.inBlock 2), (.code (cd cfz.P 75 [1, 1, 1, 1, 1, 1, 1, 1, 1, 1]))], [], false, .none⟩, [], [(.cells [(aI 0), (aI 0)] 30), (.cells [(.d (.sl x158 x159)), (.d (.v (.bool y196)))] 161), (.cells [(aI x160), (aI y194)] 30), (.itr (.si x161 x162)), (.tail 0), (.tail y197)]⟩
  | .c8 y198 x199 x200 x201 x202 x203 x204 x205 x206 x207 x208 y214 x209 x210 x211 x212 y227 x213 y240 => ⟨⟨117, sp 83 0 [(0, (.ptr 1 0)), (4, (aI y198)), (57, (.ptr 6 0))], [(.code (cd cfz.P 117 [1, 1, 1, 1, 1, 1, 0, 1, 0, 0])), (.inLoop (cd cfz.P 117 [1, 1, 1, 1, 1, 1, 0, 1, 0, 0])), (.inBlock 0), (.code (cd cfz.P 117 [1, 1, 1, 1, 1, 1, 1]))], [], false, .none⟩, [⟨75, sp 85 0 [(2, (.ptr 0 0)), (6, (.d (.v (.bool x199)))), (7, (.d (.sl x200 x201))), (8, (.ptr 1 0)), (9, (.fn (.func 117) [(.ptr 1 0)] [])), (10, (.ptr 2 0)), (46, (aI x202)), (47, (aI x203)), (49, (.own 5 x204 1 x205 x206))], [(.regC (opsAt cfz.P 75 [1, 1, 1, 1, 1, 1, 1, 1, 1, 0, 1, 0, 0, 1, 1, 0, 0]) false 2), (.inBlock 3), (.code (cd cfz.P 75 [1, 1, 1, 1, 1, 1, 1, 1, 1, 0, 1, 0, 0, 1, 1, 1])), (.inLoop (cd cfz.P 75 [1, 1, 1, 1, 1, 1, 1, 1, 1, 0, 1, 0, 0])), (.inBlock 2), (.code (cd cfz.P 75 [1, 1, 1, 1, 1, 1, 1, 1, 1, 1]))], [], false, .none⟩], [(.cells [(aI 0), (aI 0)] 30), (.cells [(.d (.sl x207 x208)), (.d (.v (.bool y214)))] 161), (.cells [(aI x209), (aI x210)] 30), (.itr (.si x211 x212)), (.tail 0), (.tail y227), (.itr (.si x213 y240))]⟩
noncomputable def B75 : S75 → Tr S75 (Int × Int × Nat × List DV × Int)
  | .c0 a30 => (.br (decide ((↑a30.size : Int) > 4096))
  (.ret (0, 0, 0, [], 26))
  (.bind (F115 a30 (.mk (#[10]))) fun v31 =>
  (.sees [(.d (.v (.string a30))), (.d (.v (.string (.mk (#[10])))))] (.bind (F116 v31.fst (.mk (#[32]))) fun v32 =>
  (.sees [(.d (.v (.string v31.fst))), (.d (.v (.string (.mk (#[32])))))] (.ask (.le 1 ((↑v32.fst : Int))) (.ask (.le ((↑v32.fst : Int)) ((↑v32.fst : Int))) (.ask (.eqN v32.snd.length (v32.fst * 1)) (.bind (F118) fun v33 =>
  (.sees [] (.br ((↑((↑v32.fst : Int).toNat - 1) : Int) == 0)
  (.ask (.eqB ((↑((↑v32.fst : Int).toNat - 1) : Int) == 0) true) (.nxt (.c1 v31.snd v32.fst v32.snd ((↑((↑v32.fst : Int).toNat - 1) : Int)) 0 ((↑v32.fst : Int).toNat - 1) (List.take (((↑v32.fst : Int).toNat - 1) * 1) (List.drop 1 v32.snd)) true 0 0)))
  (.ask (.lt 0 ((↑((↑v32.fst : Int).toNat - 1) : Int))) (.ask (.leN 0 ((List.take (((↑v32.fst : Int).toNat - 1) * 1) (List.drop 1 v32.snd)).length)) (.ask (.prop (Option.map AV.d (List.drop 0 (List.take (((↑v32.fst : Int).toNat - 1) * 1) (List.drop 1 v32.snd)))[0]? = some (AV.d (DV.v (Value.string (dS (cel (List.take (((↑v32.fst : Int).toNat - 1) * 1) (List.drop 1 v32.snd)) 0))))))) (.ask (.le 1 ((↑((↑v32.fst : Int).toNat - 1) : Int))) (.ask (.le ((↑((↑v32.fst : Int).toNat - 1) : Int)) ((↑((↑v32.fst : Int).toNat - 1) : Int))) (.ask (.eqN ((List.take (((↑v32.fst : Int).toNat - 1) * 1) (List.drop 1 v32.snd)).length) (((↑v32.fst : Int).toNat - 1) * 1)) (.triv _ (tv_s (eqS (dS (cel (List.take (((↑v32.fst : Int).toNat - 1) * 1) (List.drop 1 v32.snd)) 0)) (ByteArray.mk #[]) == false)) (.triv _ (tv_s (eqS (dS (cel (List.take (((↑v32.fst : Int).toNat - 1) * 1) (List.drop 1 v32.snd)) 0)) (ByteArray.mk #[]) == false)) (.triv _ (tv_f (eqS (dS (cel (List.take (((↑v32.fst : Int).toNat - 1) * 1) (List.drop 1 v32.snd)) 0)) (ByteArray.mk #[]))) (.triv _ (tv_s ((if eqS (dS (cel (List.take (((↑v32.fst : Int).toNat - 1) * 1) (List.drop 1 v32.snd)) 0)) (ByteArray.mk #[]) = true then true else decide ((↑(dS (cel (List.take (((↑v32.fst : Int).toNat - 1) * 1) (List.drop 1 v32.snd)) 0)).size : Int) > 9)) == false)) (.triv _ (tv_s ((if eqS (dS (cel (List.take (((↑v32.fst : Int).toNat - 1) * 1) (List.drop 1 v32.snd)) 0)) (ByteArray.mk #[]) = true then true else decide ((↑(dS (cel (List.take (((↑v32.fst : Int).toNat - 1) * 1) (List.drop 1 v32.snd)) 0)).size : Int) > 9)) == false)) (.br (if eqS (dS (cel (List.take (((↑v32.fst : Int).toNat - 1) * 1) (List.drop 1 v32.snd)) 0)) (ByteArray.mk #[]) = true then true else decide ((↑(dS (cel (List.take (((↑v32.fst : Int).toNat - 1) * 1) (List.drop 1 v32.snd)) 0)).size : Int) > 9))
  (.nxt (.c2 0 v31.snd v32.fst v32.snd ((↑((↑v32.fst : Int).toNat - 1) : Int).toNat - 1) (List.take (((↑((↑v32.fst : Int).toNat - 1) : Int).toNat - 1) * 1) (List.drop 1 (List.take (((↑v32.fst : Int).toNat - 1) * 1) (List.drop 1 v32.snd)))) true (dS (cel (List.take (((↑v32.fst : Int).toNat - 1) * 1) (List.drop 1 v32.snd)) 0)) 0))
  (.ask (.eqB ((if eqS (dS (cel (List.take (((↑v32.fst : Int).toNat - 1) * 1) (List.drop 1 v32.snd)) 0)) (ByteArray.mk #[]) = true then true else decide ((↑(dS (cel (List.take (((↑v32.fst : Int).toNat - 1) * 1) (List.drop 1 v32.snd)) 0)).size : Int) > 9)) == false) true) (.br (decide ((↑(dS (cel (List.take (((↑v32.fst : Int).toNat - 1) * 1) (List.drop 1 v32.snd)) 0)).size : Int) > 1))
  (.ask (.eqB (decide ((↑(dS (cel (List.take (((↑v32.fst : Int).toNat - 1) * 1) (List.drop 1 v32.snd)) 0)).size : Int) > 1) == true) true) (.ask (.ltN 0 ((dS (cel (List.take (((↑v32.fst : Int).toNat - 1) * 1) (List.drop 1 v32.snd)) 0)).size)) (.nxt (.c2 0 v31.snd v32.fst v32.snd ((↑((↑v32.fst : Int).toNat - 1) : Int).toNat - 1) (List.take (((↑((↑v32.fst : Int).toNat - 1) : Int).toNat - 1) * 1) (List.drop 1 (List.take (((↑v32.fst : Int).toNat - 1) * 1) (List.drop 1 v32.snd)))) ((↑((dS (cel (List.take (((↑v32.fst : Int).toNat - 1) * 1) (List.drop 1 v32.snd)) 0)).data.toList.getD 0 0).toNat : Int) == 48) (dS (cel (List.take (((↑v32.fst : Int).toNat - 1) * 1) (List.drop 1 v32.snd)) 0)) 0))))
  (.nxt (.c2 0 v31.snd v32.fst v32.snd ((↑((↑v32.fst : Int).toNat - 1) : Int).toNat - 1) (List.take (((↑((↑v32.fst : Int).toNat - 1) : Int).toNat - 1) * 1) (List.drop 1 (List.take (((↑v32.fst : Int).toNat - 1) * 1) (List.drop 1 v32.snd)))) false (dS (cel (List.take (((↑v32.fst : Int).toNat - 1) * 1) (List.drop 1 v32.snd)) 0)) 0)))))))))))))))))))))))))))
  | .c1 x38 x39 x40 x41 y42 x43 x44 y165 y84 y163 => (.br (decide (y42 < x41))
  (.br ((↑x43 : Int) == 0)
  (.ask (.in64 (y42 + 1)) (.nxt (.c3 x38 x39 x40 0 1 [(.v (.int .i64 0))] x41 (y42 + 1) x43 x44 y84 y163 0)))
  (.ask (.lt 0 ((↑x43 : Int))) (.ask (.leN 0 x44.length) (.ask (.prop (Option.map AV.d (List.drop 0 x44)[0]? = some (AV.d (DV.v (Value.string (dS (cel x44 0))))))) (.ask (.le 1 ((↑x43 : Int))) (.ask (.le ((↑x43 : Int)) ((↑x43 : Int))) (.ask (.eqN x44.length (x43 * 1)) (.triv _ (tv_s (y165 == false)) (.triv _ (tv_f y165) (.triv _ (tv_s ((if y165 = true then true else eqS (dS (cel x44 0)) (ByteArray.mk #[])) == false)) (.triv _ (tv_s ((if y165 = true then true else eqS (dS (cel x44 0)) (ByteArray.mk #[])) == false)) (.triv _ (tv_f (if y165 = true then true else eqS (dS (cel x44 0)) (ByteArray.mk #[]))) (.triv _ (tv_s ((if (if y165 = true then true else eqS (dS (cel x44 0)) (ByteArray.mk #[])) = true then true else decide ((↑(dS (cel x44 0)).size : Int) > 9)) == false)) (.triv _ (tv_s ((if (if y165 = true then true else eqS (dS (cel x44 0)) (ByteArray.mk #[])) = true then true else decide ((↑(dS (cel x44 0)).size : Int) > 9)) == false)) (.br (if (if y165 = true then true else eqS (dS (cel x44 0)) (ByteArray.mk #[])) = true then true else decide ((↑(dS (cel x44 0)).size : Int) > 9))
  (.nxt (.c4 0 x38 x39 x40 x41 y42 ((↑x43 : Int).toNat - 1) (List.take (((↑x43 : Int).toNat - 1) * 1) (List.drop 1 x44)) true y84 y163 (dS (cel x44 0)) 0))
  (.ask (.eqB ((if (if y165 = true then true else eqS (dS (cel x44 0)) (ByteArray.mk #[])) = true then true else decide ((↑(dS (cel x44 0)).size : Int) > 9)) == false) true) (.br (decide ((↑(dS (cel x44 0)).size : Int) > 1))
  (.ask (.eqB (decide ((↑(dS (cel x44 0)).size : Int) > 1) == true) true) (.ask (.ltN 0 ((dS (cel x44 0)).size)) (.nxt (.c4 0 x38 x39 x40 x41 y42 ((↑x43 : Int).toNat - 1) (List.take (((↑x43 : Int).toNat - 1) * 1) (List.drop 1 x44)) ((↑((dS (cel x44 0)).data.toList.getD 0 0).toNat : Int) == 48) y84 y163 (dS (cel x44 0)) 0))))
  (.nxt (.c4 0 x38 x39 x40 x41 y42 ((↑x43 : Int).toNat - 1) (List.take (((↑x43 : Int).toNat - 1) * 1) (List.drop 1 x44)) false y84 y163 (dS (cel x44 0)) 0)))))))))))))))))))
  (.br (!x38)
  (.bind (F83 true 25) fun v169 =>
  (.bind (F83 (if true = true then y84 == 0 && (y163 == 0 && true) else !(y84 == 0 && (y163 == 0 && true))) 3) fun v170 =>
  (.bind (F29 y84 y163 0 []) fun v171 =>
  (.bind (F82 3 [(.v (.int .i64 v169)), (.v (.int .i64 v170)), (.v (.int .i64 v171))]) fun v172 =>
  (.ask (.eqB (!x38) true) (.ask (.eqB (!x38) true) (.ask (.eqB (!x38) true) (.ask (.eqB (!x38) true) (.sees [(.d (.v (.bool true))), (aI 25)] (.sees [(.d (.v (.bool (if true = true then y84 == 0 && (y163 == 0 && true) else !(y84 == 0 && (y163 == 0 && true)))))), (aI 3)] (.sees [(.agg [(aI y84), (aI y163)]), (.d (.sl 0 []))] (.sees [(.d (.sl 3 [(vI v169), (vI v170), (vI v171)]))] (.br (v172 != 0)
  (.ret (0, 0, 0, [], v172))
  (.ret (y84, y163, 0, [], 0)))))))))))))))
  (.br (!eqS (dS (cel x40 0)) (ByteArray.mk #[119, 111, 114, 100]))
  (.bind (F83 true 25) fun v173 =>
  (.bind (F83 (if true = true then y84 == 0 && (y163 == 0 && true) else !(y84 == 0 && (y163 == 0 && true))) 3) fun v174 =>
  (.bind (F29 y84 y163 0 []) fun v175 =>
  (.bind (F82 3 [(.v (.int .i64 v173)), (.v (.int .i64 v174)), (.v (.int .i64 v175))]) fun v176 =>
  (.ask (.lt 0 ((↑x39 : Int))) (.ask (.leN 0 x40.length) (.ask (.eqB (!x38) false) (.ask (.eqB ((!x38) == false) true) (.ask (.prop (Option.map AV.d (List.drop 0 x40)[0]? = some (AV.d (DV.v (Value.string (dS (cel x40 0))))))) (.ask (.eqB (!x38) false) (.ask (.eqB (!x38) false) (.ask (.eqB (!x38) false) (.ask (.eqB (!eqS (dS (cel x40 0)) (ByteArray.mk #[119, 111, 114, 100])) true) (.ask (.eqB (!eqS (dS (cel x40 0)) (ByteArray.mk #[119, 111, 114, 100])) true) (.ask (.eqB (!eqS (dS (cel x40 0)) (ByteArray.mk #[119, 111, 114, 100])) true) (.ask (.eqB (!eqS (dS (cel x40 0)) (ByteArray.mk #[119, 111, 114, 100])) true) (.ask (.eqB (!eqS (dS (cel x40 0)) (ByteArray.mk #[119, 111, 114, 100])) true) (.sees [(.d (.v (.bool true))), (aI 25)] (.sees [(.d (.v (.bool (if true = true then y84 == 0 && (y163 == 0 && true) else !(y84 == 0 && (y163 == 0 && true)))))), (aI 3)] (.sees [(.agg [(aI y84), (aI y163)]), (.d (.sl 0 []))] (.sees [(.d (.sl 3 [(vI v173), (vI v174), (vI v175)]))] (.br (v176 != 0)
  (.ret (0, 0, 0, [], v176))
  (.ret (y84, y163, 0, [], 0))))))))))))))))))))))))
  (.bind (F83 y165 25) fun v177 =>
  (.bind (F83 (if true = true then y84 == 0 && (y163 == 0 && true) else !(y84 == 0 && (y163 == 0 && true))) 3) fun v178 =>
  (.bind (F29 y84 y163 0 []) fun v179 =>
  (.bind (F82 3 [(.v (.int .i64 v177)), (.v (.int .i64 v178)), (.v (.int .i64 v179))]) fun v180 =>
  (.ask (.lt 0 ((↑x39 : Int))) (.ask (.leN 0 x40.length) (.ask (.eqB (!x38) false) (.ask (.eqB ((!x38) == false) true) (.ask (.prop (Option.map AV.d (List.drop 0 x40)[0]? = some (AV.d (DV.v (Value.string (dS (cel x40 0))))))) (.ask (.eqB (!x38) false) (.ask (.eqB (!x38) false) (.ask (.eqB (!x38) false) (.ask (.eqB (!eqS (dS (cel x40 0)) (ByteArray.mk #[119, 111, 114, 100])) false) (.ask (.eqB (!eqS (dS (cel x40 0)) (ByteArray.mk #[119, 111, 114, 100])) false) (.ask (.eqB (!eqS (dS (cel x40 0)) (ByteArray.mk #[119, 111, 114, 100])) false) (.ask (.eqB (!eqS (dS (cel x40 0)) (ByteArray.mk #[119, 111, 114, 100])) false) (.ask (.eqB (!eqS (dS (cel x40 0)) (ByteArray.mk #[119, 111, 114, 100])) false) (.sees [(.d (.v (.bool y165))), (aI 25)] (.sees [(.d (.v (.bool (if true = true then y84 == 0 && (y163 == 0 && true) else !(y84 == 0 && (y163 == 0 && true)))))), (aI 3)] (.sees [(.agg [(aI y84), (aI y163)]), (.d (.sl 0 []))] (.sees [(.d (.sl 3 [(vI v177), (vI v178), (vI v179)]))] (.br (v180 != 0)
  (.ret (0, 0, 0, [], v180))
  (.ret (y84, y163, 0, [], 0)))))))))))))))))))))))))))
  | .c2 y45 x46 x47 x48 x49 x50 y52 x51 y95 => (.br (y95.blt x51.size)
  (.ask (.ltN y95 x51.size) (.triv _ (tv_s (y52 == false)) (.triv _ (tv_f y52) (.triv _ (tv_s ((if y52 = true then true else decide ((↑(Utf8.decode x51 y95).fst : Int) < 48)) == false)) (.triv _ (tv_f (if y52 = true then true else decide ((↑(Utf8.decode x51 y95).fst : Int) < 48))) (.br (if (if y52 = true then true else decide ((↑(Utf8.decode x51 y95).fst : Int) < 48)) = true then true else decide ((↑(Utf8.decode x51 y95).fst : Int) > 57))
  (.br ((↑x49 : Int) == 0)
  (.nxt (.c1 x46 x47 x48 ((↑x49 : Int)) 0 x49 x50 true y45 0))
  (.ask (.lt 0 ((↑x49 : Int))) (.ask (.leN 0 x50.length) (.ask (.prop (Option.map AV.d (List.drop 0 x50)[0]? = some (AV.d (DV.v (Value.string (dS (cel x50 0))))))) (.ask (.le 1 ((↑x49 : Int))) (.ask (.le ((↑x49 : Int)) ((↑x49 : Int))) (.ask (.eqN x50.length (x49 * 1)) (.nxt (.c5 0 x46 x47 x48 ((↑x49 : Int).toNat - 1) (List.take (((↑x49 : Int).toNat - 1) * 1) (List.drop 1 x50)) true y45 x51 (y95 + (Utf8.decode x51 y95).snd) (dS (cel x50 0)) 0)))))))))
  (.ask (.in64 (10 * y45)) (.ask (.in64 (10 * y45 + IntKind.i64.wrap (IntKind.i32.wrap ((↑(Utf8.decode x51 y95).fst : Int) - 48)))) (.nxt (.c2 (10 * y45 + IntKind.i64.wrap (IntKind.i32.wrap ((↑(Utf8.decode x51 y95).fst : Int) - 48))) x46 x47 x48 x49 x50 y52 x51 (y95 + (Utf8.decode x51 y95).snd)))))))))))
  (.ask (.leN x51.size y95) (.br ((↑x49 : Int) == 0)
  (.nxt (.c1 x46 x47 x48 ((↑x49 : Int)) 0 x49 x50 true y45 0))
  (.ask (.lt 0 ((↑x49 : Int))) (.ask (.leN 0 x50.length) (.ask (.prop (Option.map AV.d (List.drop 0 x50)[0]? = some (AV.d (DV.v (Value.string (dS (cel x50 0))))))) (.ask (.le 1 ((↑x49 : Int))) (.ask (.le ((↑x49 : Int)) ((↑x49 : Int))) (.ask (.eqN x50.length (x49 * 1)) (.triv _ (tv_s (y52 == false)) (.triv _ (tv_f y52) (.triv _ (tv_s ((if y52 = true then true else eqS (dS (cel x50 0)) (ByteArray.mk #[])) == false)) (.triv _ (tv_s ((if y52 = true then true else eqS (dS (cel x50 0)) (ByteArray.mk #[])) == false)) (.triv _ (tv_f (if y52 = true then true else eqS (dS (cel x50 0)) (ByteArray.mk #[]))) (.triv _ (tv_s ((if (if y52 = true then true else eqS (dS (cel x50 0)) (ByteArray.mk #[])) = true then true else decide ((↑(dS (cel x50 0)).size : Int) > 9)) == false)) (.triv _ (tv_s ((if (if y52 = true then true else eqS (dS (cel x50 0)) (ByteArray.mk #[])) = true then true else decide ((↑(dS (cel x50 0)).size : Int) > 9)) == false)) (.br (if (if y52 = true then true else eqS (dS (cel x50 0)) (ByteArray.mk #[])) = true then true else decide ((↑(dS (cel x50 0)).size : Int) > 9))
  (.nxt (.c5 0 x46 x47 x48 ((↑x49 : Int).toNat - 1) (List.take (((↑x49 : Int).toNat - 1) * 1) (List.drop 1 x50)) true y45 x51 y95 (dS (cel x50 0)) 0))
  (.ask (.eqB ((if (if y52 = true then true else eqS (dS (cel x50 0)) (ByteArray.mk #[])) = true then true else decide ((↑(dS (cel x50 0)).size : Int) > 9)) == false) true) (.br (decide ((↑(dS (cel x50 0)).size : Int) > 1))
  (.ask (.eqB (decide ((↑(dS (cel x50 0)).size : Int) > 1) == true) true) (.ask (.ltN 0 ((dS (cel x50 0)).size)) (.nxt (.c5 0 x46 x47 x48 ((↑x49 : Int).toNat - 1) (List.take (((↑x49 : Int).toNat - 1) * 1) (List.drop 1 x50)) ((↑((dS (cel x50 0)).data.toList.getD 0 0).toNat : Int) == 48) y45 x51 y95 (dS (cel x50 0)) 0))))
  (.nxt (.c5 0 x46 x47 x48 ((↑x49 : Int).toNat - 1) (List.take (((↑x49 : Int).toNat - 1) * 1) (List.drop 1 x50)) false y45 x51 y95 (dS (cel x50 0)) 0)))))))))))))))))))))
  | .c3 x53 x54 x55 y56 y57 y58 x59 y60 x61 x62 y97 y166 y111 => (.br (decide (y60 < x59))
  (.br ((↑x61 : Int) == 0)
  (.ask (.eqN y56 y111) (.ask (.fits (y57 + 1) 8) (.ask (.in64 (y60 + 1)) (.nxt (.c3 x53 x54 x55 (y111 + 1) (y57 + 1) (y58 ++ [DV.v (Value.int IntKind.i64 0)]) x59 (y60 + 1) x61 x62 y97 y166 (y111 + 1))))))
  (.ask (.lt 0 ((↑x61 : Int))) (.ask (.leN 0 x62.length) (.ask (.prop (Option.map AV.d (List.drop 0 x62)[0]? = some (AV.d (DV.v (Value.string (dS (cel x62 0))))))) (.ask (.le 1 ((↑x61 : Int))) (.ask (.le ((↑x61 : Int)) ((↑x61 : Int))) (.ask (.eqN x62.length (x61 * 1)) (.nxt (.c6 0 x53 x54 x55 x59 y60 y56 y57 y58 ((↑x61 : Int).toNat - 1) (List.take (((↑x61 : Int).toNat - 1) * 1) (List.drop 1 x62)) y97 y166 y111 (dS (cel x62 0)))))))))))
  (.br (!x53)
  (.bind (F83 true 25) fun v182 =>
  (.bind (F83 (if true = true then y97 == 0 && (y166 == 0 && true) else !(y97 == 0 && (y166 == 0 && true))) 3) fun v183 =>
  (.bind (F29 y97 y166 y57 y58) fun v184 =>
  (.bind (F82 3 [(.v (.int .i64 v182)), (.v (.int .i64 v183)), (.v (.int .i64 v184))]) fun v185 =>
  (.ask (.eqB (!x53) true) (.ask (.eqB (!x53) true) (.ask (.eqB (!x53) true) (.ask (.eqB (!x53) true) (.sees [(.d (.v (.bool true))), (aI 25)] (.sees [(.d (.v (.bool (if true = true then y97 == 0 && (y166 == 0 && true) else !(y97 == 0 && (y166 == 0 && true)))))), (aI 3)] (.sees [(.agg [(aI y97), (aI y166)]), (.d (.sl y57 y58))] (.sees [(.d (.sl 3 [(vI v182), (vI v183), (vI v184)]))] (.br (v185 != 0)
  (.ret (0, 0, 0, [], v185))
  (.ret (y97, y166, y57, y58, 0)))))))))))))))
  (.br (!eqS (dS (cel x55 0)) (ByteArray.mk #[119, 111, 114, 100]))
  (.bind (F83 true 25) fun v186 =>
  (.bind (F83 (if true = true then y97 == 0 && (y166 == 0 && true) else !(y97 == 0 && (y166 == 0 && true))) 3) fun v187 =>
  (.bind (F29 y97 y166 y57 y58) fun v188 =>
  (.bind (F82 3 [(.v (.int .i64 v186)), (.v (.int .i64 v187)), (.v (.int .i64 v188))]) fun v189 =>
  (.ask (.lt 0 ((↑x54 : Int))) (.ask (.leN 0 x55.length) (.ask (.eqB (!x53) false) (.ask (.eqB ((!x53) == false) true) (.ask (.prop (Option.map AV.d (List.drop 0 x55)[0]? = some (AV.d (DV.v (Value.string (dS (cel x55 0))))))) (.ask (.eqB (!x53) false) (.ask (.eqB (!x53) false) (.ask (.eqB (!x53) false) (.ask (.eqB (!eqS (dS (cel x55 0)) (ByteArray.mk #[119, 111, 114, 100])) true) (.ask (.eqB (!eqS (dS (cel x55 0)) (ByteArray.mk #[119, 111, 114, 100])) true) (.ask (.eqB (!eqS (dS (cel x55 0)) (ByteArray.mk #[119, 111, 114, 100])) true) (.ask (.eqB (!eqS (dS (cel x55 0)) (ByteArray.mk #[119, 111, 114, 100])) true) (.ask (.eqB (!eqS (dS (cel x55 0)) (ByteArray.mk #[119, 111, 114, 100])) true) (.sees [(.d (.v (.bool true))), (aI 25)] (.sees [(.d (.v (.bool (if true = true then y97 == 0 && (y166 == 0 && true) else !(y97 == 0 && (y166 == 0 && true)))))), (aI 3)] (.sees [(.agg [(aI y97), (aI y166)]), (.d (.sl y57 y58))] (.sees [(.d (.sl 3 [(vI v186), (vI v187), (vI v188)]))] (.br (v189 != 0)
  (.ret (0, 0, 0, [], v189))
  (.ret (y97, y166, y57, y58, 0))))))))))))))))))))))))
  (.bind (F83 true 25) fun v190 =>
  (.bind (F83 (if true = true then y97 == 0 && (y166 == 0 && true) else !(y97 == 0 && (y166 == 0 && true))) 3) fun v191 =>
  (.bind (F29 y97 y166 y57 y58) fun v192 =>
  (.bind (F82 3 [(.v (.int .i64 v190)), (.v (.int .i64 v191)), (.v (.int .i64 v192))]) fun v193 =>
  (.ask (.lt 0 ((↑x54 : Int))) (.ask (.leN 0 x55.length) (.ask (.eqB (!x53) false) (.ask (.eqB ((!x53) == false) true) (.ask (.prop (Option.map AV.d (List.drop 0 x55)[0]? = some (AV.d (DV.v (Value.string (dS (cel x55 0))))))) (.ask (.eqB (!x53) false) (.ask (.eqB (!x53) false) (.ask (.eqB (!x53) false) (.ask (.eqB (!eqS (dS (cel x55 0)) (ByteArray.mk #[119, 111, 114, 100])) false) (.ask (.eqB (!eqS (dS (cel x55 0)) (ByteArray.mk #[119, 111, 114, 100])) false) (.ask (.eqB (!eqS (dS (cel x55 0)) (ByteArray.mk #[119, 111, 114, 100])) false) (.ask (.eqB (!eqS (dS (cel x55 0)) (ByteArray.mk #[119, 111, 114, 100])) false) (.ask (.eqB (!eqS (dS (cel x55 0)) (ByteArray.mk #[119, 111, 114, 100])) false) (.sees [(.d (.v (.bool true))), (aI 25)] (.sees [(.d (.v (.bool (if true = true then y97 == 0 && (y166 == 0 && true) else !(y97 == 0 && (y166 == 0 && true)))))), (aI 3)] (.sees [(.agg [(aI y97), (aI y166)]), (.d (.sl y57 y58))] (.sees [(.d (.sl 3 [(vI v190), (vI v191), (vI v192)]))] (.br (v193 != 0)
  (.ret (0, 0, 0, [], v193))
  (.ret (y97, y166, y57, y58, 0)))))))))))))))))))))))))))
  | .c4 y63 x64 x65 x66 x67 x68 x69 x70 y168 y98 y167 x71 y195 => (.br (y195.blt x71.size)
  (.ask (.ltN y195 x71.size) (.triv _ (tv_s (y168 == false)) (.triv _ (tv_f y168) (.triv _ (tv_s ((if y168 = true then true else decide ((↑(Utf8.decode x71 y195).fst : Int) < 48)) == false)) (.triv _ (tv_f (if y168 = true then true else decide ((↑(Utf8.decode x71 y195).fst : Int) < 48))) (.br (if (if y168 = true then true else decide ((↑(Utf8.decode x71 y195).fst : Int) < 48)) = true then true else decide ((↑(Utf8.decode x71 y195).fst : Int) > 57))
  (.ask (.in64 (x68 + 1)) (.nxt (.c7 x64 x65 x66 0 1 [(.v (.int .i64 y63))] x67 (x68 + 1) x69 x70 true y98 y167 x71 (y195 + (Utf8.decode x71 y195).snd) 0)))
  (.ask (.in64 (10 * y63)) (.ask (.in64 (10 * y63 + IntKind.i64.wrap (IntKind.i32.wrap ((↑(Utf8.decode x71 y195).fst : Int) - 48)))) (.nxt (.c4 (10 * y63 + IntKind.i64.wrap (IntKind.i32.wrap ((↑(Utf8.decode x71 y195).fst : Int) - 48))) x64 x65 x66 x67 x68 x69 x70 y168 y98 y167 x71 (y195 + (Utf8.decode x71 y195).snd)))))))))))
  (.ask (.leN x71.size y195) (.ask (.in64 (x68 + 1)) (.nxt (.c7 x64 x65 x66 0 1 [(.v (.int .i64 y63))] x67 (x68 + 1) x69 x70 y168 y98 y167 x71 y195 0)))))
  | .c5 y85 x86 x87 x88 x89 x90 y96 x91 x92 x93 x94 y164 => (.br (y164.blt x94.size)
  (.ask (.ltN y164 x94.size) (.triv _ (tv_s (y96 == false)) (.triv _ (tv_f y96) (.triv _ (tv_s ((if y96 = true then true else decide ((↑(Utf8.decode x94 y164).fst : Int) < 48)) == false)) (.triv _ (tv_f (if y96 = true then true else decide ((↑(Utf8.decode x94 y164).fst : Int) < 48))) (.br (if (if y96 = true then true else decide ((↑(Utf8.decode x94 y164).fst : Int) < 48)) = true then true else decide ((↑(Utf8.decode x94 y164).fst : Int) > 57))
  (.nxt (.c1 x86 x87 x88 ((↑x89 : Int)) 0 x89 x90 true x91 y85))
  (.ask (.in64 (10 * y85)) (.ask (.in64 (10 * y85 + IntKind.i64.wrap (IntKind.i32.wrap ((↑(Utf8.decode x94 y164).fst : Int) - 48)))) (.nxt (.c5 (10 * y85 + IntKind.i64.wrap (IntKind.i32.wrap ((↑(Utf8.decode x94 y164).fst : Int) - 48))) x86 x87 x88 x89 x90 y96 x91 x92 x93 x94 (y164 + (Utf8.decode x94 y164).snd)))))))))))
  (.ask (.leN x94.size y164) (.nxt (.c1 x86 x87 x88 ((↑x89 : Int)) 0 x89 x90 y96 x91 y85))))
  | .c6 y112 x113 x114 x115 x116 x117 x118 x119 x120 x121 x122 x123 y181 y137 x124 => (.br (Nat.blt 0 x124.size)
  (.ask (.ltN 0 x124.size) (.ask (.eqN x118 y137) (.ask (.fits (x119 + 1) 8) (.ask (.in64 (x117 + 1)) (.nxt (.c3 x113 x114 x115 (y137 + 1) (x119 + 1) (x120 ++ [DV.v (Value.int IntKind.i64 y112)]) x116 (x117 + 1) x121 x122 x123 y181 (y137 + 1)))))))
  (.ask (.leN x124.size 0) (.ask (.eqN x118 y137) (.ask (.fits (x119 + 1) 8) (.ask (.in64 (x117 + 1)) (.nxt (.c3 x113 x114 x115 (y137 + 1) (x119 + 1) (x120 ++ [DV.v (Value.int IntKind.i64 y112)]) x116 (x117 + 1) x121 x122 x123 y181 (y137 + 1))))))))
  | .c7 x150 x151 x152 y153 y154 y155 x156 y157 x158 x159 y196 x160 y194 x161 x162 y197 => (.br (decide (y157 < x156))
  (.br ((↑x158 : Int) == 0)
  (.ask (.eqN y153 y197) (.ask (.fits (y154 + 1) 8) (.ask (.in64 (y157 + 1)) (.nxt (.c7 x150 x151 x152 (y197 + 1) (y154 + 1) (y155 ++ [DV.v (Value.int IntKind.i64 0)]) x156 (y157 + 1) x158 x159 true x160 y194 x161 x162 (y197 + 1))))))
  (.ask (.lt 0 ((↑x158 : Int))) (.ask (.leN 0 x159.length) (.ask (.prop (Option.map AV.d (List.drop 0 x159)[0]? = some (AV.d (DV.v (Value.string (dS (cel x159 0))))))) (.ask (.le 1 ((↑x158 : Int))) (.ask (.le ((↑x158 : Int)) ((↑x158 : Int))) (.ask (.eqN x159.length (x158 * 1)) (.triv _ (tv_s (y196 == false)) (.triv _ (tv_f y196) (.triv _ (tv_s ((if y196 = true then true else eqS (dS (cel x159 0)) (ByteArray.mk #[])) == false)) (.triv _ (tv_s ((if y196 = true then true else eqS (dS (cel x159 0)) (ByteArray.mk #[])) == false)) (.triv _ (tv_f (if y196 = true then true else eqS (dS (cel x159 0)) (ByteArray.mk #[]))) (.triv _ (tv_s ((if (if y196 = true then true else eqS (dS (cel x159 0)) (ByteArray.mk #[])) = true then true else decide ((↑(dS (cel x159 0)).size : Int) > 9)) == false)) (.triv _ (tv_s ((if (if y196 = true then true else eqS (dS (cel x159 0)) (ByteArray.mk #[])) = true then true else decide ((↑(dS (cel x159 0)).size : Int) > 9)) == false)) (.br (if (if y196 = true then true else eqS (dS (cel x159 0)) (ByteArray.mk #[])) = true then true else decide ((↑(dS (cel x159 0)).size : Int) > 9))
  (.nxt (.c8 0 x150 x151 x152 x156 y157 y153 y154 y155 ((↑x158 : Int).toNat - 1) (List.take (((↑x158 : Int).toNat - 1) * 1) (List.drop 1 x159)) true x160 y194 x161 x162 y197 (dS (cel x159 0)) 0))
  (.ask (.eqB ((if (if y196 = true then true else eqS (dS (cel x159 0)) (ByteArray.mk #[])) = true then true else decide ((↑(dS (cel x159 0)).size : Int) > 9)) == false) true) (.br (decide ((↑(dS (cel x159 0)).size : Int) > 1))
  (.ask (.eqB (decide ((↑(dS (cel x159 0)).size : Int) > 1) == true) true) (.ask (.ltN 0 ((dS (cel x159 0)).size)) (.nxt (.c8 0 x150 x151 x152 x156 y157 y153 y154 y155 ((↑x158 : Int).toNat - 1) (List.take (((↑x158 : Int).toNat - 1) * 1) (List.drop 1 x159)) ((↑((dS (cel x159 0)).data.toList.getD 0 0).toNat : Int) == 48) x160 y194 x161 x162 y197 (dS (cel x159 0)) 0))))
  (.nxt (.c8 0 x150 x151 x152 x156 y157 y153 y154 y155 ((↑x158 : Int).toNat - 1) (List.take (((↑x158 : Int).toNat - 1) * 1) (List.drop 1 x159)) false x160 y194 x161 x162 y197 (dS (cel x159 0)) 0)))))))))))))))))))
  (.br (!x150)
  (.bind (F83 true 25) fun v228 =>
  (.bind (F83 (if true = true then x160 == 0 && (y194 == 0 && true) else !(x160 == 0 && (y194 == 0 && true))) 3) fun v229 =>
  (.bind (F29 x160 y194 y154 y155) fun v230 =>
  (.bind (F82 3 [(.v (.int .i64 v228)), (.v (.int .i64 v229)), (.v (.int .i64 v230))]) fun v231 =>
  (.ask (.eqB (!x150) true) (.ask (.eqB (!x150) true) (.ask (.eqB (!x150) true) (.ask (.eqB (!x150) true) (.sees [(.d (.v (.bool true))), (aI 25)] (.sees [(.d (.v (.bool (if true = true then x160 == 0 && (y194 == 0 && true) else !(x160 == 0 && (y194 == 0 && true)))))), (aI 3)] (.sees [(.agg [(aI x160), (aI y194)]), (.d (.sl y154 y155))] (.sees [(.d (.sl 3 [(vI v228), (vI v229), (vI v230)]))] (.br (v231 != 0)
  (.ret (0, 0, 0, [], v231))
  (.ret (x160, y194, y154, y155, 0)))))))))))))))
  (.br (!eqS (dS (cel x152 0)) (ByteArray.mk #[119, 111, 114, 100]))
  (.bind (F83 true 25) fun v232 =>
  (.bind (F83 (if true = true then x160 == 0 && (y194 == 0 && true) else !(x160 == 0 && (y194 == 0 && true))) 3) fun v233 =>
  (.bind (F29 x160 y194 y154 y155) fun v234 =>
  (.bind (F82 3 [(.v (.int .i64 v232)), (.v (.int .i64 v233)), (.v (.int .i64 v234))]) fun v235 =>
  (.ask (.lt 0 ((↑x151 : Int))) (.ask (.leN 0 x152.length) (.ask (.eqB (!x150) false) (.ask (.eqB ((!x150) == false) true) (.ask (.prop (Option.map AV.d (List.drop 0 x152)[0]? = some (AV.d (DV.v (Value.string (dS (cel x152 0))))))) (.ask (.eqB (!x150) false) (.ask (.eqB (!x150) false) (.ask (.eqB (!x150) false) (.ask (.eqB (!eqS (dS (cel x152 0)) (ByteArray.mk #[119, 111, 114, 100])) true) (.ask (.eqB (!eqS (dS (cel x152 0)) (ByteArray.mk #[119, 111, 114, 100])) true) (.ask (.eqB (!eqS (dS (cel x152 0)) (ByteArray.mk #[119, 111, 114, 100])) true) (.ask (.eqB (!eqS (dS (cel x152 0)) (ByteArray.mk #[119, 111, 114, 100])) true) (.ask (.eqB (!eqS (dS (cel x152 0)) (ByteArray.mk #[119, 111, 114, 100])) true) (.sees [(.d (.v (.bool true))), (aI 25)] (.sees [(.d (.v (.bool (if true = true then x160 == 0 && (y194 == 0 && true) else !(x160 == 0 && (y194 == 0 && true)))))), (aI 3)] (.sees [(.agg [(aI x160), (aI y194)]), (.d (.sl y154 y155))] (.sees [(.d (.sl 3 [(vI v232), (vI v233), (vI v234)]))] (.br (v235 != 0)
  (.ret (0, 0, 0, [], v235))
  (.ret (x160, y194, y154, y155, 0))))))))))))))))))))))))
  (.bind (F83 y196 25) fun v236 =>
  (.bind (F83 (if true = true then x160 == 0 && (y194 == 0 && true) else !(x160 == 0 && (y194 == 0 && true))) 3) fun v237 =>
  (.bind (F29 x160 y194 y154 y155) fun v238 =>
  (.bind (F82 3 [(.v (.int .i64 v236)), (.v (.int .i64 v237)), (.v (.int .i64 v238))]) fun v239 =>
  (.ask (.lt 0 ((↑x151 : Int))) (.ask (.leN 0 x152.length) (.ask (.eqB (!x150) false) (.ask (.eqB ((!x150) == false) true) (.ask (.prop (Option.map AV.d (List.drop 0 x152)[0]? = some (AV.d (DV.v (Value.string (dS (cel x152 0))))))) (.ask (.eqB (!x150) false) (.ask (.eqB (!x150) false) (.ask (.eqB (!x150) false) (.ask (.eqB (!eqS (dS (cel x152 0)) (ByteArray.mk #[119, 111, 114, 100])) false) (.ask (.eqB (!eqS (dS (cel x152 0)) (ByteArray.mk #[119, 111, 114, 100])) false) (.ask (.eqB (!eqS (dS (cel x152 0)) (ByteArray.mk #[119, 111, 114, 100])) false) (.ask (.eqB (!eqS (dS (cel x152 0)) (ByteArray.mk #[119, 111, 114, 100])) false) (.ask (.eqB (!eqS (dS (cel x152 0)) (ByteArray.mk #[119, 111, 114, 100])) false) (.sees [(.d (.v (.bool y196))), (aI 25)] (.sees [(.d (.v (.bool (if true = true then x160 == 0 && (y194 == 0 && true) else !(x160 == 0 && (y194 == 0 && true)))))), (aI 3)] (.sees [(.agg [(aI x160), (aI y194)]), (.d (.sl y154 y155))] (.sees [(.d (.sl 3 [(vI v236), (vI v237), (vI v238)]))] (.br (v239 != 0)
  (.ret (0, 0, 0, [], v239))
  (.ret (x160, y194, y154, y155, 0)))))))))))))))))))))))))))
  | .c8 y198 x199 x200 x201 x202 x203 x204 x205 x206 x207 x208 y214 x209 x210 x211 x212 y227 x213 y240 => (.br (y240.blt x213.size)
  (.ask (.ltN y240 x213.size) (.triv _ (tv_s (y214 == false)) (.triv _ (tv_f y214) (.triv _ (tv_s ((if y214 = true then true else decide ((↑(Utf8.decode x213 y240).fst : Int) < 48)) == false)) (.triv _ (tv_f (if y214 = true then true else decide ((↑(Utf8.decode x213 y240).fst : Int) < 48))) (.br (if (if y214 = true then true else decide ((↑(Utf8.decode x213 y240).fst : Int) < 48)) = true then true else decide ((↑(Utf8.decode x213 y240).fst : Int) > 57))
  (.ask (.eqN x204 y227) (.ask (.fits (x205 + 1) 8) (.ask (.in64 (x203 + 1)) (.nxt (.c7 x199 x200 x201 (y227 + 1) (x205 + 1) (x206 ++ [DV.v (Value.int IntKind.i64 y198)]) x202 (x203 + 1) x207 x208 true x209 x210 x211 x212 (y227 + 1))))))
  (.ask (.in64 (10 * y198)) (.ask (.in64 (10 * y198 + IntKind.i64.wrap (IntKind.i32.wrap ((↑(Utf8.decode x213 y240).fst : Int) - 48)))) (.nxt (.c8 (10 * y198 + IntKind.i64.wrap (IntKind.i32.wrap ((↑(Utf8.decode x213 y240).fst : Int) - 48))) x199 x200 x201 x202 x203 x204 x205 x206 x207 x208 y214 x209 x210 x211 x212 y227 x213 (y240 + (Utf8.decode x213 y240).snd)))))))))))
  (.ask (.leN x213.size y240) (.ask (.eqN x204 y227) (.ask (.fits (x205 + 1) 8) (.ask (.in64 (x203 + 1)) (.nxt (.c7 x199 x200 x201 (y227 + 1) (x205 + 1) (x206 ++ [DV.v (Value.int IntKind.i64 y198)]) x202 (x203 + 1) x207 x208 y214 x209 x210 x211 x212 (y227 + 1))))))))
noncomputable def F75 (a30 : ByteArray) : Option (Int × Int × Nat × List DV × Int) := res B75 (.c0 a30)
noncomputable def D75_0 (a30 : ByteArray) : DT cfz := (.go 13 [] [] (.split 17 (.go 9 [(.br true)] [0] .fin) (.go 5 [(.br false)] [0] (.bind (f115 a30 (.mk (#[10]))) fun v31 => (.go 10 [(.ck 0)] [] (.bind (f116 v31.fst (.mk (#[32]))) fun v32 => (.go 24 [(.ck 1)] [1] (.bind (f118) fun v33 => (.go 36 [(.ck 2), (.br true), .enter] [1, 2, 3] (.split 12 (.go 62 [(.br true), .none, .enter, .none, (.br true), .enter] [0, 1, 2, 3, 4] (.assume 12 true (.go 54 [(.br true), .none, .enter, .none, (.br false)] [0, 1, 2] (.cut 3 [[2, 6, 7, 8, 9, 10, 13, 46, 47]] [])))) (.go 44 [(.br false), .none, (.as (.d (.v (.string (dS (cel (List.take (((↑v32.fst : Int).toNat - 1) * 1) (List.drop 1 v32.snd)) 0)))))), .none, .none, .none, (.br false), (.br false), .none, (.sp .none), (.sp .none), (.sp .none), .mg, (.sp .none), (.sp .none), (.sp .none)] [0, 1, 5, 9, 10] (.split 44 (.go 22 [(.br true), (.br false), (.br false), (.br false), (.br true)] [0, 1] (.cut 5 [[0, 4, 57], [2, 6, 7, 8, 9, 10, 12, 32, 33]] [])) (.strip 47 (.go 2 [(.br false), (.sp .none)] [0] (.split 48 (.strip 49 (.go 20 [(.br true), .none, (.br true), (.br false)] [0, 2, 3, 4] (.cut 5 [[0, 4, 57], [2, 6, 7, 8, 9, 10, 12, 32, 33]] []))) (.go 20 [(.br false), (.br false), (.br false)] [0, 1, 2] (.cut 5 [[0, 4, 57], [2, 6, 7, 8, 9, 10, 12, 32, 33]] [])))))))))))))))))
theorem k75_0 (a30 : ByteArray) : xrun cfz 75 (D75_0 a30) [] (st75 (.c0 a30)) = (B75 (.c0 a30)).mach st75 out75 := by kernel_rfl
noncomputable def D75_1 (x38 : Bool) (x39 : Nat) (x40 : List DV) (x41 y42 : Int) (x43 : Nat) (x44 : List DV) (y165 : Bool) (y84 y163 : Int) : DT cfz := (.go 5 [] [] (.split 48 (.go 22 [(.br true), .enter] [0] (.split 12 (.go 24 [(.br true)] [0, 1, 2, 3] (.cut 5 [[2, 6, 7, 8, 9, 10, 13, 46, 47]] [])) (.go 44 [(.br false), .none, (.as (.d (.v (.string (dS (cel x44 0)))))), .none, .none, .none, (.sp .none), (.sp .none), .mg, (.sp .none), (.sp .none), (.sp .none), .mg, (.sp .none), (.sp .none), (.sp .none)] [0, 1, 5] (.split 44 (.go 22 [(.br true), (.br false), (.br false), (.br false), (.br true)] [0, 1] (.cut 4 [[0, 4, 57], [2, 6, 7, 8, 9, 10, 46, 47, 49]] [])) (.strip 47 (.go 2 [(.br false), (.sp .none)] [0] (.split 48 (.strip 49 (.go 20 [(.br true), .none, (.br true), (.br false)] [0, 2, 3, 4] (.cut 4 [[0, 4, 57], [2, 6, 7, 8, 9, 10, 46, 47, 49]] []))) (.go 20 [(.br false), (.br false), (.br false)] [0, 1, 2] (.cut 4 [[0, 4, 57], [2, 6, 7, 8, 9, 10, 46, 47, 49]] []))))))))) (.go 5 [(.br false)] [0] (.br (!x38) (.bind (f83 true 25) fun v169 => (.bind (f83 (if true = true then y84 == 0 && (y163 == 0 && true) else !(y84 == 0 && (y163 == 0 && true))) 3) fun v170 => (.bind (f29 y84 y163 0 []) fun v171 => (.bind (f82 3 [(vI v169), (vI v170), (vI v171)]) fun v172 => (.go 6 [(.sp .none), (.br true), (.br true), (.br true), (.br true), (.br true), (.br true), (.br true), (.br true), (.ck 0), (.ck 1), (.ck 2), (.ck 3)] [4, 5, 6, 7] (.split 80 (.go 10 [(.br true)] [0] .fin) (.go 11 [(.br false)] [0] .fin))))))) (.br (!eqS (dS (cel x40 0)) (ByteArray.mk #[119, 111, 114, 100])) (.bind (f83 true 25) fun v173 => (.bind (f83 (if true = true then y84 == 0 && (y163 == 0 && true) else !(y84 == 0 && (y163 == 0 && true))) 3) fun v174 => (.bind (f29 y84 y163 0 []) fun v175 => (.bind (f82 3 [(vI v173), (vI v174), (vI v175)]) fun v176 => (.go 6 [(.sp .none), (.br false), (.br false), (.as (.d (.v (.string (dS (cel x40 0)))))), (.br false), (.br false), (.br true), (.br true), (.br true), (.br true), (.br true), (.ck 0), (.ck 1), (.ck 2), (.ck 3)] [0] (.split 80 (.go 10 [(.br true)] [0] .fin) (.go 11 [(.br false)] [0] .fin))))))) (.bind (f83 y165 25) fun v177 => (.bind (f83 (if true = true then y84 == 0 && (y163 == 0 && true) else !(y84 == 0 && (y163 == 0 && true))) 3) fun v178 => (.bind (f29 y84 y163 0 []) fun v179 => (.bind (f82 3 [(vI v177), (vI v178), (vI v179)]) fun v180 => (.go 6 [(.sp .none), (.br false), (.br false), (.as (.d (.v (.string (dS (cel x40 0)))))), (.br false), (.br false), (.br false), (.br false), (.br false), (.br false), .none, (.br false), (.ck 0), (.ck 1), (.ck 2), (.ck 3)] [0] (.split 80 (.go 10 [(.br true)] [0] .fin) (.go 11 [(.br false)] [0] .fin))))))))))))
theorem k75_1 (x38 : Bool) (x39 : Nat) (x40 : List DV) (x41 y42 : Int) (x43 : Nat) (x44 : List DV) (y165 : Bool) (y84 y163 : Int) : xrun cfz 75 (D75_1 x38 x39 x40 x41 y42 x43 x44 y165 y84 y163) [] (st75 (.c1 x38 x39 x40 x41 y42 x43 x44 y165 y84 y163)) = (B75 (.c1 x38 x39 x40 x41 y42 x43 x44 y165 y84 y163)).mach st75 out75 := by kernel_rfl
noncomputable def D75_2 (y45 : Int) (x46 : Bool) (x47 : Nat) (x48 : List DV) (x49 : Nat) (x50 : List DV) (y52 : Bool) (x51 : ByteArray) (y95 : Nat) : DT cfz := (.go 2 [] [] (.br (y95.blt x51.size) (.go 28 [(.nx true), (.br true), .none, (.sp .none), (.sp .none), .mg, (.sp .none), (.sp .none), .mg] [1] (.split 72 (.go 64 [(.br true), .none, .enter, .none, (.br true), .enter] [0, 1, 2, 3, 4] (.split 12 (.go 54 [(.br true), .none, .enter, .none, (.br false)] [0, 1, 2] (.cut 3 [[2, 6, 7, 8, 9, 10, 13, 46, 47]] [])) (.go 66 [(.br false), .none, (.as (.d (.v (.string (dS (cel x50 0)))))), .none, .none, .none, (.br true), (.br true), .none, (.br true), (.br true), (.br true), .none, (.br true), (.br true), (.br true), (.br true), (.br false), (.br false), (.br false), (.br true)] [0, 1, 5, 9, 10, 11, 12, 13, 14, 15, 16, 17, 18] (.cut 7 [[0, 4, 57], [2, 6, 7, 8, 9, 10, 12, 32, 33]] [3])))) (.go 13 [(.br false)] [0] (.cut 5 [[0, 4, 57], [2, 6, 7, 8, 9, 10, 12, 32, 33]] [])))) (.go 61 [(.nx false), (.br false), .enter, .none, (.br true), .enter] [1, 2, 3, 4, 5] (.split 12 (.go 54 [(.br true), .none, .enter, .none, (.br false)] [0, 1, 2] (.cut 3 [[2, 6, 7, 8, 9, 10, 13, 46, 47]] [])) (.go 44 [(.br false), .none, (.as (.d (.v (.string (dS (cel x50 0)))))), .none, .none, .none, (.sp .none), (.sp .none), .mg, (.sp .none), (.sp .none), (.sp .none), .mg, (.sp .none), (.sp .none), (.sp .none)] [0, 1, 5] (.split 44 (.go 22 [(.br true), (.br false), (.br false), (.br false), (.br true)] [0, 1] (.cut 7 [[0, 4, 57], [2, 6, 7, 8, 9, 10, 12, 32, 33]] [3])) (.strip 47 (.go 2 [(.br false), (.sp .none)] [0] (.split 48 (.strip 49 (.go 20 [(.br true), .none, (.br true), (.br false)] [0, 2, 3, 4] (.cut 7 [[0, 4, 57], [2, 6, 7, 8, 9, 10, 12, 32, 33]] [3]))) (.go 20 [(.br false), (.br false), (.br false)] [0, 1, 2] (.cut 7 [[0, 4, 57], [2, 6, 7, 8, 9, 10, 12, 32, 33]] [3])))))))))))
theorem k75_2 (y45 : Int) (x46 : Bool) (x47 : Nat) (x48 : List DV) (x49 : Nat) (x50 : List DV) (y52 : Bool) (x51 : ByteArray) (y95 : Nat) : xrun cfz 75 (D75_2 y45 x46 x47 x48 x49 x50 y52 x51 y95) [] (st75 (.c2 y45 x46 x47 x48 x49 x50 y52 x51 y95)) = (B75 (.c2 y45 x46 x47 x48 x49 x50 y52 x51 y95)).mach st75 out75 := by kernel_rfl
noncomputable def D75_3 (x53 : Bool) (x54 : Nat) (x55 : List DV) (y56 y57 : Nat) (y58 : List DV) (x59 y60 : Int) (x61 : Nat) (x62 : List DV) (y97 y166 : Int) (y111 : Nat) : DT cfz := (.go 5 [] [] (.split 48 (.go 22 [(.br true), .enter] [0] (.split 12 (.go 24 [(.br true)] [0, 2, 3] (.cut 5 [[2, 6, 7, 8, 9, 10, 13, 46, 47]] [])) (.go 66 [(.br false), .none, (.as (.d (.v (.string (dS (cel x62 0)))))), .none, .none, .none, (.br true), (.br true), .none, (.br true), (.br true), (.br true), .none, (.br true), (.br true), (.br true), (.br true), (.br false), (.br false), (.br false), (.br true)] [0, 1, 5, 9, 10, 11, 12, 13, 14, 15, 16, 17, 18] (.cut 6 [[0, 4, 57], [2, 6, 7, 8, 9, 10, 46, 47, 49]] [])))) (.go 5 [(.br false)] [0] (.br (!x53) (.bind (f83 true 25) fun v182 => (.bind (f83 (if true = true then y97 == 0 && (y166 == 0 && true) else !(y97 == 0 && (y166 == 0 && true))) 3) fun v183 => (.bind (f29 y97 y166 y57 y58) fun v184 => (.bind (f82 3 [(vI v182), (vI v183), (vI v184)]) fun v185 => (.go 6 [(.sp .none), (.br true), (.br true), (.br true), (.br true), (.br true), (.br true), (.br true), (.br true), (.ck 0), (.ck 1), (.ck 2), (.ck 3)] [4, 5, 6, 7] (.split 80 (.go 10 [(.br true)] [0] .fin) (.go 11 [(.br false)] [0] .fin))))))) (.br (!eqS (dS (cel x55 0)) (ByteArray.mk #[119, 111, 114, 100])) (.bind (f83 true 25) fun v186 => (.bind (f83 (if true = true then y97 == 0 && (y166 == 0 && true) else !(y97 == 0 && (y166 == 0 && true))) 3) fun v187 => (.bind (f29 y97 y166 y57 y58) fun v188 => (.bind (f82 3 [(vI v186), (vI v187), (vI v188)]) fun v189 => (.go 6 [(.sp .none), (.br false), (.br false), (.as (.d (.v (.string (dS (cel x55 0)))))), (.br false), (.br false), (.br true), (.br true), (.br true), (.br true), (.br true), (.ck 0), (.ck 1), (.ck 2), (.ck 3)] [0] (.split 80 (.go 10 [(.br true)] [0] .fin) (.go 11 [(.br false)] [0] .fin))))))) (.bind (f83 true 25) fun v190 => (.bind (f83 (if true = true then y97 == 0 && (y166 == 0 && true) else !(y97 == 0 && (y166 == 0 && true))) 3) fun v191 => (.bind (f29 y97 y166 y57 y58) fun v192 => (.bind (f82 3 [(vI v190), (vI v191), (vI v192)]) fun v193 => (.go 6 [(.sp .none), (.br false), (.br false), (.as (.d (.v (.string (dS (cel x55 0)))))), (.br false), (.br false), (.br false), (.br false), (.br false), (.br false), .none, (.br false), (.ck 0), (.ck 1), (.ck 2), (.ck 3)] [0] (.split 80 (.go 10 [(.br true)] [0] .fin) (.go 11 [(.br false)] [0] .fin))))))))))))
theorem k75_3 (x53 : Bool) (x54 : Nat) (x55 : List DV) (y56 y57 : Nat) (y58 : List DV) (x59 y60 : Int) (x61 : Nat) (x62 : List DV) (y97 y166 : Int) (y111 : Nat) : xrun cfz 75 (D75_3 x53 x54 x55 y56 y57 y58 x59 y60 x61 x62 y97 y166 y111) [] (st75 (.c3 x53 x54 x55 y56 y57 y58 x59 y60 x61 x62 y97 y166 y111)) = (B75 (.c3 x53 x54 x55 y56 y57 y58 x59 y60 x61 x62 y97 y166 y111)).mach st75 out75 := by kernel_rfl
noncomputable def D75_4 (y63 : Int) (x64 : Bool) (x65 : Nat) (x66 : List DV) (x67 x68 : Int) (x69 : Nat) (x70 : List DV) (y168 : Bool) (y98 y167 : Int) (x71 : ByteArray) (y195 : Nat) : DT cfz := (.go 2 [] [] (.br (y195.blt x71.size) (.go 28 [(.nx true), (.br true), .none, (.sp .none), (.sp .none), .mg, (.sp .none), (.sp .none), .mg] [1] (.split 72 (.go 26 [(.br true)] [0, 1, 2, 3] (.cut 6 [[2, 6, 7, 8, 9, 10, 13, 46, 47]] [])) (.go 13 [(.br false)] [0] (.cut 4 [[0, 4, 57], [2, 6, 7, 8, 9, 10, 46, 47, 49]] [])))) (.go 23 [(.nx false), (.br false)] [1, 2, 3, 4] (.cut 6 [[2, 6, 7, 8, 9, 10, 13, 46, 47]] []))))
theorem k75_4 (y63 : Int) (x64 : Bool) (x65 : Nat) (x66 : List DV) (x67 x68 : Int) (x69 : Nat) (x70 : List DV) (y168 : Bool) (y98 y167 : Int) (x71 : ByteArray) (y195 : Nat) : xrun cfz 75 (D75_4 y63 x64 x65 x66 x67 x68 x69 x70 y168 y98 y167 x71 y195) [] (st75 (.c4 y63 x64 x65 x66 x67 x68 x69 x70 y168 y98 y167 x71 y195)) = (B75 (.c4 y63 x64 x65 x66 x67 x68 x69 x70 y168 y98 y167 x71 y195)).mach st75 out75 := by kernel_rfl
noncomputable def D75_5 (y85 : Int) (x86 : Bool) (x87 : Nat) (x88 : List DV) (x89 : Nat) (x90 : List DV) (y96 : Bool) (x91 : Int) (x92 : ByteArray) (x93 : Nat) (x94 : ByteArray) (y164 : Nat) : DT cfz := (.go 2 [] [] (.br (y164.blt x94.size) (.go 28 [(.nx true), (.br true), .none, (.sp .none), (.sp .none), .mg, (.sp .none), (.sp .none), .mg] [1] (.split 72 (.go 56 [(.br true), .none, .enter, .none, (.br false)] [0, 1, 2] (.cut 3 [[2, 6, 7, 8, 9, 10, 13, 46, 47]] [])) (.go 13 [(.br false)] [0] (.cut 7 [[0, 4, 57], [2, 6, 7, 8, 9, 10, 12, 32, 33]] [])))) (.go 53 [(.nx false), (.br false), .enter, .none, (.br false)] [1, 2, 3] (.cut 3 [[2, 6, 7, 8, 9, 10, 13, 46, 47]] []))))
theorem k75_5 (y85 : Int) (x86 : Bool) (x87 : Nat) (x88 : List DV) (x89 : Nat) (x90 : List DV) (y96 : Bool) (x91 : Int) (x92 : ByteArray) (x93 : Nat) (x94 : ByteArray) (y164 : Nat) : xrun cfz 75 (D75_5 y85 x86 x87 x88 x89 x90 y96 x91 x92 x93 x94 y164) [] (st75 (.c5 y85 x86 x87 x88 x89 x90 y96 x91 x92 x93 x94 y164)) = (B75 (.c5 y85 x86 x87 x88 x89 x90 y96 x91 x92 x93 x94 y164)).mach st75 out75 := by kernel_rfl
noncomputable def D75_6 (y112 : Int) (x113 : Bool) (x114 : Nat) (x115 : List DV) (x116 x117 : Int) (x118 x119 : Nat) (x120 : List DV) (x121 : Nat) (x122 : List DV) (x123 y181 : Int) (y137 : Nat) (x124 : ByteArray) : DT cfz := (.go 2 [] [] (.br (Nat.blt 0 x124.size) (.go 54 [(.nx true), (.br true), .none, (.br true), (.br true), .none, (.br true), (.br true), .none, (.br true)] [1, 2, 3, 4, 5, 6, 8, 9] (.cut 5 [[2, 6, 7, 8, 9, 10, 13, 46, 47]] [])) (.go 23 [(.nx false), (.br false)] [1, 3, 4] (.cut 5 [[2, 6, 7, 8, 9, 10, 13, 46, 47]] []))))
theorem k75_6 (y112 : Int) (x113 : Bool) (x114 : Nat) (x115 : List DV) (x116 x117 : Int) (x118 x119 : Nat) (x120 : List DV) (x121 : Nat) (x122 : List DV) (x123 y181 : Int) (y137 : Nat) (x124 : ByteArray) : xrun cfz 75 (D75_6 y112 x113 x114 x115 x116 x117 x118 x119 x120 x121 x122 x123 y181 y137 x124) [] (st75 (.c6 y112 x113 x114 x115 x116 x117 x118 x119 x120 x121 x122 x123 y181 y137 x124)) = (B75 (.c6 y112 x113 x114 x115 x116 x117 x118 x119 x120 x121 x122 x123 y181 y137 x124)).mach st75 out75 := by kernel_rfl
noncomputable def D75_7 (x150 : Bool) (x151 : Nat) (x152 : List DV) (y153 y154 : Nat) (y155 : List DV) (x156 y157 : Int) (x158 : Nat) (x159 : List DV) (y196 : Bool) (x160 y194 : Int) (x161 : ByteArray) (x162 y197 : Nat) : DT cfz := (.go 5 [] [] (.split 48 (.go 22 [(.br true), .enter] [0] (.split 12 (.go 24 [(.br true)] [0, 2, 3] (.cut 6 [[2, 6, 7, 8, 9, 10, 13, 46, 47]] [])) (.go 44 [(.br false), .none, (.as (.d (.v (.string (dS (cel x159 0)))))), .none, .none, .none, (.sp .none), (.sp .none), .mg, (.sp .none), (.sp .none), (.sp .none), .mg, (.sp .none), (.sp .none), (.sp .none)] [0, 1, 5] (.split 44 (.go 22 [(.br true), (.br false), (.br false), (.br false), (.br true)] [0, 1] (.cut 7 [[0, 4, 57], [2, 6, 7, 8, 9, 10, 46, 47, 49]] [])) (.strip 47 (.go 2 [(.br false), (.sp .none)] [0] (.split 48 (.strip 49 (.go 20 [(.br true), .none, (.br true), (.br false)] [0, 2, 3, 4] (.cut 7 [[0, 4, 57], [2, 6, 7, 8, 9, 10, 46, 47, 49]] []))) (.go 20 [(.br false), (.br false), (.br false)] [0, 1, 2] (.cut 7 [[0, 4, 57], [2, 6, 7, 8, 9, 10, 46, 47, 49]] []))))))))) (.go 5 [(.br false)] [0] (.br (!x150) (.bind (f83 true 25) fun v228 => (.bind (f83 (if true = true then x160 == 0 && (y194 == 0 && true) else !(x160 == 0 && (y194 == 0 && true))) 3) fun v229 => (.bind (f29 x160 y194 y154 y155) fun v230 => (.bind (f82 3 [(vI v228), (vI v229), (vI v230)]) fun v231 => (.go 6 [(.sp .none), (.br true), (.br true), (.br true), (.br true), (.br true), (.br true), (.br true), (.br true), (.ck 0), (.ck 1), (.ck 2), (.ck 3)] [4, 5, 6, 7] (.split 80 (.go 10 [(.br true)] [0] .fin) (.go 11 [(.br false)] [0] .fin))))))) (.br (!eqS (dS (cel x152 0)) (ByteArray.mk #[119, 111, 114, 100])) (.bind (f83 true 25) fun v232 => (.bind (f83 (if true = true then x160 == 0 && (y194 == 0 && true) else !(x160 == 0 && (y194 == 0 && true))) 3) fun v233 => (.bind (f29 x160 y194 y154 y155) fun v234 => (.bind (f82 3 [(vI v232), (vI v233), (vI v234)]) fun v235 => (.go 6 [(.sp .none), (.br false), (.br false), (.as (.d (.v (.string (dS (cel x152 0)))))), (.br false), (.br false), (.br true), (.br true), (.br true), (.br true), (.br true), (.ck 0), (.ck 1), (.ck 2), (.ck 3)] [0] (.split 80 (.go 10 [(.br true)] [0] .fin) (.go 11 [(.br false)] [0] .fin))))))) (.bind (f83 y196 25) fun v236 => (.bind (f83 (if true = true then x160 == 0 && (y194 == 0 && true) else !(x160 == 0 && (y194 == 0 && true))) 3) fun v237 => (.bind (f29 x160 y194 y154 y155) fun v238 => (.bind (f82 3 [(vI v236), (vI v237), (vI v238)]) fun v239 => (.go 6 [(.sp .none), (.br false), (.br false), (.as (.d (.v (.string (dS (cel x152 0)))))), (.br false), (.br false), (.br false), (.br false), (.br false), (.br false), .none, (.br false), (.ck 0), (.ck 1), (.ck 2), (.ck 3)] [0] (.split 80 (.go 10 [(.br true)] [0] .fin) (.go 11 [(.br false)] [0] .fin))))))))))))
theorem k75_7 (x150 : Bool) (x151 : Nat) (x152 : List DV) (y153 y154 : Nat) (y155 : List DV) (x156 y157 : Int) (x158 : Nat) (x159 : List DV) (y196 : Bool) (x160 y194 : Int) (x161 : ByteArray) (x162 y197 : Nat) : xrun cfz 75 (D75_7 x150 x151 x152 y153 y154 y155 x156 y157 x158 x159 y196 x160 y194 x161 x162 y197) [] (st75 (.c7 x150 x151 x152 y153 y154 y155 x156 y157 x158 x159 y196 x160 y194 x161 x162 y197)) = (B75 (.c7 x150 x151 x152 y153 y154 y155 x156 y157 x158 x159 y196 x160 y194 x161 x162 y197)).mach st75 out75 := by kernel_rfl
noncomputable def D75_8 (y198 : Int) (x199 : Bool) (x200 : Nat) (x201 : List DV) (x202 x203 : Int) (x204 x205 : Nat) (x206 : List DV) (x207 : Nat) (x208 : List DV) (y214 : Bool) (x209 x210 : Int) (x211 : ByteArray) (x212 y227 : Nat) (x213 : ByteArray) (y240 : Nat) : DT cfz := (.go 2 [] [] (.br (y240.blt x213.size) (.go 28 [(.nx true), (.br true), .none, (.sp .none), (.sp .none), .mg, (.sp .none), (.sp .none), .mg] [1] (.split 72 (.go 26 [(.br true)] [0, 2, 3] (.cut 6 [[2, 6, 7, 8, 9, 10, 13, 46, 47]] [])) (.go 13 [(.br false)] [0] (.cut 7 [[0, 4, 57], [2, 6, 7, 8, 9, 10, 46, 47, 49]] [])))) (.go 23 [(.nx false), (.br false)] [1, 3, 4] (.cut 6 [[2, 6, 7, 8, 9, 10, 13, 46, 47]] []))))
theorem k75_8 (y198 : Int) (x199 : Bool) (x200 : Nat) (x201 : List DV) (x202 x203 : Int) (x204 x205 : Nat) (x206 : List DV) (x207 : Nat) (x208 : List DV) (y214 : Bool) (x209 x210 : Int) (x211 : ByteArray) (x212 y227 : Nat) (x213 : ByteArray) (y240 : Nat) : xrun cfz 75 (D75_8 y198 x199 x200 x201 x202 x203 x204 x205 x206 x207 x208 y214 x209 x210 x211 x212 y227 x213 y240) [] (st75 (.c8 y198 x199 x200 x201 x202 x203 x204 x205 x206 x207 x208 y214 x209 x210 x211 x212 y227 x213 y240)) = (B75 (.c8 y198 x199 x200 x201 x202 x203 x204 x205 x206 x207 x208 y214 x209 x210 x211 x212 y227 x213 y240)).mach st75 out75 := by kernel_rfl
theorem ok75 : ∀ s, ∃ d, xrun cfz 75 d [] (st75 s) = (B75 s).mach st75 out75
  | .c0 a30 => ⟨_, k75_0 a30⟩
  | .c1 x38 x39 x40 x41 y42 x43 x44 y165 y84 y163 => ⟨_, k75_1 x38 x39 x40 x41 y42 x43 x44 y165 y84 y163⟩
  | .c2 y45 x46 x47 x48 x49 x50 y52 x51 y95 => ⟨_, k75_2 y45 x46 x47 x48 x49 x50 y52 x51 y95⟩
  | .c3 x53 x54 x55 y56 y57 y58 x59 y60 x61 x62 y97 y166 y111 => ⟨_, k75_3 x53 x54 x55 y56 y57 y58 x59 y60 x61 x62 y97 y166 y111⟩
  | .c4 y63 x64 x65 x66 x67 x68 x69 x70 y168 y98 y167 x71 y195 => ⟨_, k75_4 y63 x64 x65 x66 x67 x68 x69 x70 y168 y98 y167 x71 y195⟩
  | .c5 y85 x86 x87 x88 x89 x90 y96 x91 x92 x93 x94 y164 => ⟨_, k75_5 y85 x86 x87 x88 x89 x90 y96 x91 x92 x93 x94 y164⟩
  | .c6 y112 x113 x114 x115 x116 x117 x118 x119 x120 x121 x122 x123 y181 y137 x124 => ⟨_, k75_6 y112 x113 x114 x115 x116 x117 x118 x119 x120 x121 x122 x123 y181 y137 x124⟩
  | .c7 x150 x151 x152 y153 y154 y155 x156 y157 x158 x159 y196 x160 y194 x161 x162 y197 => ⟨_, k75_7 x150 x151 x152 y153 y154 y155 x156 y157 x158 x159 y196 x160 y194 x161 x162 y197⟩
  | .c8 y198 x199 x200 x201 x202 x203 x204 x205 x206 x207 x208 y214 x209 x210 x211 x212 y227 x213 y240 => ⟨_, k75_8 y198 x199 x200 x201 x202 x203 x204 x205 x206 x207 x208 y214 x209 x210 x211 x212 y227 x213 y240⟩
theorem f75 (a30 : ByteArray) (v : Int × Int × Nat × List DV × Int) (h : F75 a30 = some v) : PureCalls cfz.P cfz.glob 75 [(.d (.v (.string a30)))] (out75 v) := tree_pure knil ok75 (s := .c0 a30) rfl (by kernel_rfl) v h

/-! F21 -/
inductive S21 where
  | c0 (a110 a111 : Int) (a112 : Nat) (a113 : List DV)
def out21 (v : Int) : AV := (.d (.v (.int .i64 v)))
noncomputable def st21 : S21 → ASt
  | .c0 a110 a111 a112 a113 => ent cfz 21 [(.agg [(aI a110), (aI a111)]), (.d (.sl a112 a113))]
noncomputable def B21 : S21 → Tr S21 (Int)
  | .c0 a110 a111 a112 a113 => (.bind (F28 a110 a111) fun v131 =>
  (.bind (F25 ((↑a112 : Int) != a110) 2) fun v132 =>
  (.bind (F78 a112 a113) fun v138 =>
  (.bind (F87 3 [(.v (.int .i64 v131)), (.v (.int .i64 v132)), (.v (.int .i64 v138))]) fun v139 =>
  (.sees [(.agg [(aI a110), (aI a111)])] (.sees [(.d (.v (.bool ((↑a112 : Int) != a110)))), (aI 2)] (.sees [(.d (.sl a112 a113))] (.sees [(.d (.sl 3 [(vI v131), (vI v132), (vI v138)]))] (.ret v139)))))))))
noncomputable def F21 (a110 a111 : Int) (a112 : Nat) (a113 : List DV) : Option (Int) := res B21 (.c0 a110 a111 a112 a113)
noncomputable def D21_0 (a110 a111 : Int) (a112 : Nat) (a113 : List DV) : DT cfz := (.go 7 [] [] (.bind (f28 a110 a111) fun v131 => (.bind (f25 ((↑a112 : Int) != a110) 2) fun v132 => (.bind (f78 a112 a113) fun v138 => (.bind (f87 3 [(vI v131), (vI v132), (vI v138)]) fun v139 => (.go 2 [(.ck 0), (.ck 1), (.ck 2), (.ck 3)] [] .fin))))))
theorem k21_0 (a110 a111 : Int) (a112 : Nat) (a113 : List DV) : xrun cfz 21 (D21_0 a110 a111 a112 a113) [] (st21 (.c0 a110 a111 a112 a113)) = (B21 (.c0 a110 a111 a112 a113)).mach st21 out21 := by kernel_rfl
theorem ok21 : ∀ s, ∃ d, xrun cfz 21 d [] (st21 s) = (B21 s).mach st21 out21
  | .c0 a110 a111 a112 a113 => ⟨_, k21_0 a110 a111 a112 a113⟩
theorem f21 (a110 a111 : Int) (a112 : Nat) (a113 : List DV) (v : Int) (h : F21 a110 a111 a112 a113 = some v) : PureCalls cfz.P cfz.glob 21 [(.agg [(aI a110), (aI a111)]), (.d (.sl a112 a113))] (out21 v) := tree_pure knil ok21 (s := .c0 a110 a111 a112 a113) rfl (by kernel_rfl) v h

/-! F119 -/
inductive S119 where
  | c0 (a145 : Int)
  | c1 (x146 : Int) (y147 : ByteArray) (y148 : Int)
def out119 (v : ByteArray) : AV := (.d (.v (.string v)))
noncomputable def st119 : S119 → ASt
  | .c0 a145 => ent cfz 119 [(aI a145)]
  | .c1 x146 y147 y148 => ⟨⟨119, sp 30 0 [(0, (aI x146)), (3, (.d (.v (.string y147)))), (4, (aI y148))], [(.code (cd cfz.P 119 [1, 1, 1, 1, 0, 0, 0])), (.inLoop (cd cfz.P 119 [1, 1, 1, 1, 0, 0, 0])), (.inBlock 0), (.code (cd cfz.P 119 [1, 1, 1, 1, 1]))], [], false, .none⟩, [], []⟩
noncomputable def B119 : S119 → Tr S119 (ByteArray)
  | .c0 a145 => (.br (a145 == 0)
  (.ret (.mk (#[48])))
  (.nxt (.c1 a145 (.mk (#[])) a145)))
  | .c1 x146 y147 y148 => (.br (y148 != 0)
  (.br (decide (y148.tmod 10 < 0))
  (.ask (.in64 (0 - y148.tmod 10)) (.ask (.in64 (48 + (0 - y148.tmod 10))) (.ask (.le 0 (IntKind.i32.wrap (48 + (0 - y148.tmod 10)))) (.ask (.lt (IntKind.i32.wrap (48 + (0 - y148.tmod 10))) 128) (.ask (.le ((↑(1 + y147.size) : Int)) 9223372036854775807) (.ask (.in64 (y148.tdiv 10)) (.nxt (.c1 x146 (pushAll [IntKind.i32.wrap (48 + (0 - y148.tmod 10))] ByteArray.empty ++ y147) (y148.tdiv 10)))))))))
  (.ask (.in64 (48 + y148.tmod 10)) (.ask (.le 0 (IntKind.i32.wrap (48 + y148.tmod 10))) (.ask (.lt (IntKind.i32.wrap (48 + y148.tmod 10)) 128) (.ask (.le ((↑(1 + y147.size) : Int)) 9223372036854775807) (.ask (.in64 (y148.tdiv 10)) (.nxt (.c1 x146 (pushAll [IntKind.i32.wrap (48 + y148.tmod 10)] ByteArray.empty ++ y147) (y148.tdiv 10)))))))))
  (.br (decide (x146 < 0))
  (.ask (.le ((↑(1 + y147.size) : Int)) 9223372036854775807) (.ret ((ByteArray.mk #[45]) ++ y147)))
  (.ret y147)))
noncomputable def F119 (a145 : Int) : Option (ByteArray) := res B119 (.c0 a145)
noncomputable def D119_0 (a145 : Int) : DT cfz := (.go 10 [] [] (.split 7 (.go 6 [(.br true)] [0] .fin) (.go 14 [(.br false)] [0] (.cut 0 [[0, 3, 4]] []))))
theorem k119_0 (a145 : Int) : xrun cfz 119 (D119_0 a145) [] (st119 (.c0 a145)) = (B119 (.c0 a145)).mach st119 out119 := by kernel_rfl
noncomputable def D119_1 (x146 : Int) (y147 : ByteArray) (y148 : Int) : DT cfz := (.go 6 [] [] (.split 10 (.go 15 [(.br true)] [0, 1] (.split 14 (.go 23 [(.br true)] [0, 6] (.cut 0 [[0, 3, 4]] [])) (.go 19 [(.br false)] [0, 5] (.cut 0 [[0, 3, 4]] [])))) (.go 8 [(.br false)] [0] (.split 26 (.go 8 [(.br true)] [0] .fin) (.go 8 [(.br false)] [0] .fin)))))
theorem k119_1 (x146 : Int) (y147 : ByteArray) (y148 : Int) : xrun cfz 119 (D119_1 x146 y147 y148) [] (st119 (.c1 x146 y147 y148)) = (B119 (.c1 x146 y147 y148)).mach st119 out119 := by kernel_rfl
theorem ok119 : ∀ s, ∃ d, xrun cfz 119 d [] (st119 s) = (B119 s).mach st119 out119
  | .c0 a145 => ⟨_, k119_0 a145⟩
  | .c1 x146 y147 y148 => ⟨_, k119_1 x146 y147 y148⟩
theorem f119 (a145 : Int) (v : ByteArray) (h : F119 a145 = some v) : PureCalls cfz.P cfz.glob 119 [(aI a145)] (out119 v) := tree_pure knil ok119 (s := .c0 a145) rfl (by kernel_rfl) v h

/-! F76 -/
inductive S76 where
  | c0 (a141 a142 : Int) (a143 : Nat) (a144 : List DV)
  | c1 (x151 : Nat) (x152 : List DV) (y153 : ByteArray) (y154 : Int)
def out76 (v : ByteArray) : AV := (.d (.v (.string v)))
noncomputable def st76 : S76 → ASt
  | .c0 a141 a142 a143 a144 => ent cfz 76 [(.agg [(aI a141), (aI a142)]), (.d (.sl a143 a144))]
  | .c1 x151 x152 y153 y154 => ⟨⟨76, sp 32 0 [(1, (.d (.sl x151 x152))), (5, (.d (.v (.string y153)))), (6, (aI y154))], [(.code (cd cfz.P 76 [1, 1, 0, 1, 0, 0])), (.inLoop (cd cfz.P 76 [1, 1, 0, 1, 0, 0])), (.inBlock 0), (.code (cd cfz.P 76 [1, 1, 1]))], [], false, .none⟩, [], []⟩
noncomputable def B76 : S76 → Tr S76 (ByteArray)
  | .c0 a141 a142 a143 a144 => (.bind (F119 a141) fun v149 =>
  (.bind (F119 a142) fun v150 =>
  (.sees [(aI a141)] (.ask (.le ((↑(5 + v149.size) : Int)) 9223372036854775807) (.ask (.le ((↑(((ByteArray.mk #[119, 111, 114, 100, 32]) ++ v149).size + 1) : Int)) 9223372036854775807) (.sees [(aI a142)] (.ask (.le ((↑(((ByteArray.mk #[119, 111, 114, 100, 32]) ++ v149 ++ (ByteArray.mk #[32])).size + v150.size) : Int)) 9223372036854775807) (.nxt (.c1 a143 a144 ((ByteArray.mk #[119, 111, 114, 100, 32]) ++ v149 ++ (ByteArray.mk #[32]) ++ v150) 0)))))))))
  | .c1 x151 x152 y153 y154 => (.br (decide (y154 < (↑x151 : Int)))
  (.ask (.le ((↑(y153.size + 1) : Int)) 9223372036854775807) (.ask (.le 0 y154) (.ask (.lt y154 ((↑x151 : Int))) (.ask (.leN (y154.toNat * 1) x152.length) (.ask (.prop (Option.map AV.d (List.drop (y154.toNat * 1) x152)[0]? = some (AV.d (DV.v (Value.int IntKind.i64 (dI (cel x152 (y154.toNat * 1)))))))) (.bind (F119 (dI (cel x152 (y154.toNat * 1)))) fun v155 =>
  (.sees [(aI (dI (cel x152 (y154.toNat * 1))))] (.ask (.le ((↑((y153 ++ (ByteArray.mk #[32])).size + v155.size) : Int)) 9223372036854775807) (.ask (.in64 (y154 + 1)) (.nxt (.c1 x151 x152 (y153 ++ (ByteArray.mk #[32]) ++ v155) (y154 + 1))))))))))))
  (.ask (.le ((↑(y153.size + 1) : Int)) 9223372036854775807) (.ret (y153 ++ (ByteArray.mk #[10])))))
noncomputable def F76 (a141 a142 : Int) (a143 : Nat) (a144 : List DV) : Option (ByteArray) := res B76 (.c0 a141 a142 a143 a144)
noncomputable def D76_0 (a141 a142 : Int) (a143 : Nat) (a144 : List DV) : DT cfz := (.go 7 [] [] (.bind (f119 a141) fun v149 => (.bind (f119 a142) fun v150 => (.go 8 [(.ck 0), (.ck 1)] [] (.cut 0 [[1, 5, 6]] [])))))
theorem k76_0 (a141 a142 : Int) (a143 : Nat) (a144 : List DV) : xrun cfz 76 (D76_0 a141 a142 a143 a144) [] (st76 (.c0 a141 a142 a143 a144)) = (B76 (.c0 a141 a142 a143 a144)).mach st76 out76 := by kernel_rfl
noncomputable def D76_1 (x151 : Nat) (x152 : List DV) (y153 : ByteArray) (y154 : Int) : DT cfz := (.go 8 [] [] (.split 19 (.go 11 [(.br true), (.as (aI (dI (cel x152 (y154.toNat * 1)))))] [0] (.bind (f119 (dI (cel x152 (y154.toNat * 1)))) fun v155 => (.go 11 [(.ck 0)] [] (.cut 0 [[1, 5, 6]] [])))) (.go 9 [(.br false)] [0] .fin)))
theorem k76_1 (x151 : Nat) (x152 : List DV) (y153 : ByteArray) (y154 : Int) : xrun cfz 76 (D76_1 x151 x152 y153 y154) [] (st76 (.c1 x151 x152 y153 y154)) = (B76 (.c1 x151 x152 y153 y154)).mach st76 out76 := by kernel_rfl
theorem ok76 : ∀ s, ∃ d, xrun cfz 76 d [] (st76 s) = (B76 s).mach st76 out76
  | .c0 a141 a142 a143 a144 => ⟨_, k76_0 a141 a142 a143 a144⟩
  | .c1 x151 x152 y153 y154 => ⟨_, k76_1 x151 x152 y153 y154⟩
theorem f76 (a141 a142 : Int) (a143 : Nat) (a144 : List DV) (v : ByteArray) (h : F76 a141 a142 a143 a144 = some v) : PureCalls cfz.P cfz.glob 76 [(.agg [(aI a141), (aI a142)]), (.d (.sl a143 a144))] (out76 v) := tree_pure knil ok76 (s := .c0 a141 a142 a143 a144) rfl (by kernel_rfl) v h

/-! F120 -/
inductive S120 where
  | c0 (a158 : ByteArray) (a159 : Int)
  | c1 (x160 : ByteArray) (x161 y162 y163 : Int)
  | c2 (x164 : ByteArray) (x165 : Int) (y166 y167 : Nat) (y168 : List DV) (y169 y170 : Int) (y171 : Nat)
def out120 (v : Nat × List DV) : AV := (.d (.sl v.fst v.snd))
noncomputable def st120 : S120 → ASt
  | .c0 a158 a159 => ent cfz 120 [(.d (.v (.string a158))), (a8 a159)]
  | .c1 x160 x161 y162 y163 => ⟨⟨120, sp 34 0 [(0, (.d (.v (.string x160)))), (1, (a8 x161)), (5, (.d (.v (.slice .none 0 0)))), (6, (aI y162)), (7, (aI y163))], [(.code (cd cfz.P 120 [1, 1, 1, 0, 1, 0, 0])), (.inLoop (cd cfz.P 120 [1, 1, 1, 0, 1, 0, 0])), (.inBlock 0), (.code (cd cfz.P 120 [1, 1, 1, 1]))], [], false, .none⟩, [], []⟩
  | .c2 x164 x165 y166 y167 y168 y169 y170 y171 => ⟨⟨120, sp 34 0 [(0, (.d (.v (.string x164)))), (1, (a8 x165)), (5, (.own 1 y166 1 y167 y168)), (6, (aI y169)), (7, (aI y170))], [(.code (cd cfz.P 120 [1, 1, 1, 0, 1, 0, 0])), (.inLoop (cd cfz.P 120 [1, 1, 1, 0, 1, 0, 0])), (.inBlock 0), (.code (cd cfz.P 120 [1, 1, 1, 1]))], [], false, .none⟩, [], [(.tail 0), (.tail y171)]⟩
noncomputable def B120 : S120 → Tr S120 (Nat × List DV)
  | .c0 a158 a159 => (.nxt (.c1 a158 a159 0 0))
  | .c1 x160 x161 y162 y163 => (.br (decide (y163 < (↑x160.size : Int)))
  (.ask (.le 0 y163) (.ask (.ltN y163.toNat x160.size) (.br ((↑(x160.data.toList.getD y163.toNat 0).toNat : Int) == x161)
  (.ask (.le 0 y162) (.ask (.le y162 y163) (.ask (.le y163 ((↑x160.size : Int))) (.ask (.in64 (y163 + 1)) (.ask (.in64 (y163 + 1)) (.nxt (.c2 x160 x161 0 1 [(.v (.string (x160.extract y162.toNat y163.toNat)))] (y163 + 1) (y163 + 1) 0)))))))
  (.ask (.in64 (y163 + 1)) (.nxt (.c1 x160 x161 y162 (y163 + 1)))))))
  (.ask (.le 0 y162) (.ask (.le y162 ((↑x160.size : Int))) (.ask (.le ((↑x160.size : Int)) ((↑x160.size : Int))) (.ret (1, [(.v (.string (x160.extract y162.toNat (↑x160.size : Int).toNat)))]))))))
  | .c2 x164 x165 y166 y167 y168 y169 y170 y171 => (.br (decide (y170 < (↑x164.size : Int)))
  (.ask (.le 0 y170) (.ask (.ltN y170.toNat x164.size) (.br ((↑(x164.data.toList.getD y170.toNat 0).toNat : Int) == x165)
  (.ask (.le 0 y169) (.ask (.le y169 y170) (.ask (.le y170 ((↑x164.size : Int))) (.ask (.eqN y166 y171) (.ask (.fits (y167 + 1) 16) (.ask (.in64 (y170 + 1)) (.ask (.in64 (y170 + 1)) (.nxt (.c2 x164 x165 (y171 + 1) (y167 + 1) (y168 ++ [DV.v (Value.string (x164.extract y169.toNat y170.toNat))]) (y170 + 1) (y170 + 1) (y171 + 1))))))))))
  (.ask (.in64 (y170 + 1)) (.nxt (.c2 x164 x165 y166 y167 y168 y169 (y170 + 1) y171))))))
  (.ask (.le 0 y169) (.ask (.le y169 ((↑x164.size : Int))) (.ask (.le ((↑x164.size : Int)) ((↑x164.size : Int))) (.ask (.eqN y166 y171) (.ask (.fits (y167 + 1) 16) (.ret ((y167 + 1), (y168 ++ [DV.v (Value.string (x164.extract y169.toNat (↑x164.size : Int).toNat))])))))))))
noncomputable def F120 (a158 : ByteArray) (a159 : Int) : Option (Nat × List DV) := res B120 (.c0 a158 a159)
noncomputable def D120_0 (a158 : ByteArray) (a159 : Int) : DT cfz := (.go 19 [] [] (.cut 0 [[0, 1, 5, 6, 7]] []))
theorem k120_0 (a158 : ByteArray) (a159 : Int) : xrun cfz 120 (D120_0 a158 a159) [] (st120 (.c0 a158 a159)) = (B120 (.c0 a158 a159)).mach st120 out120 := by kernel_rfl
noncomputable def D120_1 (x160 : ByteArray) (x161 y162 y163 : Int) : DT cfz := (.go 8 [] [] (.split 11 (.go 12 [(.br true)] [0] (.split 18 (.go 24 [(.br true)] [0, 4, 5, 6] (.cut 2 [[0, 1, 5, 6, 7]] [])) (.go 9 [(.br false)] [0] (.cut 0 [[0, 1, 5, 6, 7]] [])))) (.go 13 [(.br false)] [0, 4, 5, 6] .fin)))
theorem k120_1 (x160 : ByteArray) (x161 y162 y163 : Int) : xrun cfz 120 (D120_1 x160 x161 y162 y163) [] (st120 (.c1 x160 x161 y162 y163)) = (B120 (.c1 x160 x161 y162 y163)).mach st120 out120 := by kernel_rfl
noncomputable def D120_2 (x164 : ByteArray) (x165 : Int) (y166 y167 : Nat) (y168 : List DV) (y169 y170 : Int) (y171 : Nat) : DT cfz := (.go 8 [] [] (.split 11 (.go 12 [(.br true)] [0] (.split 18 (.go 24 [(.br true)] [0, 5, 6] (.cut 2 [[0, 1, 5, 6, 7]] [])) (.go 9 [(.br false)] [0] (.cut 2 [[0, 1, 5, 6, 7]] [])))) (.go 13 [(.br false)] [0, 5, 6] .fin)))
theorem k120_2 (x164 : ByteArray) (x165 : Int) (y166 y167 : Nat) (y168 : List DV) (y169 y170 : Int) (y171 : Nat) : xrun cfz 120 (D120_2 x164 x165 y166 y167 y168 y169 y170 y171) [] (st120 (.c2 x164 x165 y166 y167 y168 y169 y170 y171)) = (B120 (.c2 x164 x165 y166 y167 y168 y169 y170 y171)).mach st120 out120 := by kernel_rfl
theorem ok120 : ∀ s, ∃ d, xrun cfz 120 d [] (st120 s) = (B120 s).mach st120 out120
  | .c0 a158 a159 => ⟨_, k120_0 a158 a159⟩
  | .c1 x160 x161 y162 y163 => ⟨_, k120_1 x160 x161 y162 y163⟩
  | .c2 x164 x165 y166 y167 y168 y169 y170 y171 => ⟨_, k120_2 x164 x165 y166 y167 y168 y169 y170 y171⟩
theorem f120 (a158 : ByteArray) (a159 : Int) (v : Nat × List DV) (h : F120 a158 a159 = some v) : PureCalls cfz.P cfz.glob 120 [(.d (.v (.string a158))), (a8 a159)] (out120 v) := tree_pure knil ok120 (s := .c0 a158 a159) rfl (by kernel_rfl) v h

/-! F121 -/
inductive S121 where
  | c0 (a177 : ByteArray)
  | c1 (x178 : ByteArray) (y179 y180 : Int)
def out121 (v : Int × Bool) : AV := (.tup [(.d (.v (.int .i64 v.fst))), (.d (.v (.bool v.snd)))])
noncomputable def st121 : S121 → ASt
  | .c0 a177 => ent cfz 121 [(.d (.v (.string a177)))]
  | .c1 x178 y179 y180 => ⟨⟨121, sp 48 0 [(0, (.d (.v (.string x178)))), (4, (aI y179)), (5, (aI y180))], [(.code (cd cfz.P 121 [1, 1, 1, 0, 1, 0, 0])), (.inLoop (cd cfz.P 121 [1, 1, 1, 0, 1, 0, 0])), (.inBlock 0), (.code (cd cfz.P 121 [1, 1, 1, 1]))], [], false, .none⟩, [], []⟩
noncomputable def B121 : S121 → Tr S121 (Int × Bool)
  | .c0 a177 => (.triv _ (tv_s (eqS a177 (ByteArray.mk #[]) == false)) (.triv _ (tv_s (eqS a177 (ByteArray.mk #[]) == false)) (.triv _ (tv_f (eqS a177 (ByteArray.mk #[]))) (.br (if eqS a177 (ByteArray.mk #[]) = true then true else decide ((↑a177.size : Int) > 9))
  (.ret (0, false))
  (.ask (.eqB ((if eqS a177 (ByteArray.mk #[]) = true then true else decide ((↑a177.size : Int) > 9)) == false) true) (.ask (.ltN 0 a177.size) (.triv _ (tv_s (((↑(a177.data.toList.getD 0 0).toNat : Int) == 48) == true)) (.triv _ (tv_s (((↑(a177.data.toList.getD 0 0).toNat : Int) == 48) == true)) (.triv _ (tv_t ((↑(a177.data.toList.getD 0 0).toNat : Int) == 48)) (.br (if ((↑(a177.data.toList.getD 0 0).toNat : Int) == 48) = true then decide ((↑a177.size : Int) > 1) else false)
  (.ret (0, false))
  (.nxt (.c1 a177 0 0))))))))))))
  | .c1 x178 y179 y180 => (.br (decide (y180 < (↑x178.size : Int)))
  (.ask (.le 0 y180) (.ask (.ltN y180.toNat x178.size) (.br (decide ((↑(x178.data.toList.getD y180.toNat 0).toNat : Int) < 48))
  (.ret (0, false))
  (.ask (.eqB (decide ((↑(x178.data.toList.getD y180.toNat 0).toNat : Int) < 48) == false) true) (.ask (.eqB (decide ((↑(x178.data.toList.getD y180.toNat 0).toNat : Int) < 48) == false) true) (.ask (.le 0 y180) (.ask (.ltN y180.toNat x178.size) (.br (decide ((↑(x178.data.toList.getD y180.toNat 0).toNat : Int) > 57))
  (.ret (0, false))
  (.ask (.in64 (10 * y179)) (.ask (.le 0 y180) (.ask (.ltN y180.toNat x178.size) (.ask (.in64 (10 * y179 + IntKind.i64.wrap (IntKind.u8.wrap ((↑(x178.data.toList.getD y180.toNat 0).toNat : Int) - 48)))) (.ask (.in64 (y180 + 1)) (.nxt (.c1 x178 (10 * y179 + IntKind.i64.wrap (IntKind.u8.wrap ((↑(x178.data.toList.getD y180.toNat 0).toNat : Int) - 48))) (y180 + 1))))))))))))))))
  (.ret (y179, true)))
noncomputable def F121 (a177 : ByteArray) : Option (Int × Bool) := res B121 (.c0 a177)
noncomputable def D121_0 (a177 : ByteArray) : DT cfz := (.go 17 [(.sp .none), (.sp .none), (.sp .none), .mg, (.sp .none)] [] (.split 13 (.go 16 [(.br true), (.br true), (.br true), (.br false), (.br false), (.br false), (.br true), .none, (.br true)] [0, 1, 2, 3, 4] .fin) (.strip 14 (.go 9 [(.br false), .none, (.br false), (.br false), (.sp .none), (.sp .none), (.sp .none), (.br false), .mg] [0, 2, 3, 4, 8] (.split 22 (.go 7 [(.br true)] [0] .fin) (.go 13 [(.br false)] [0] (.cut 0 [[0, 4, 5]] [])))))))
theorem k121_0 (a177 : ByteArray) : xrun cfz 121 (D121_0 a177) [] (st121 (.c0 a177)) = (B121 (.c0 a177)).mach st121 out121 := by kernel_rfl
noncomputable def D121_1 (x178 : ByteArray) (y179 y180 : Int) : DT cfz := (.go 8 [] [] (.split 26 (.go 14 [(.br true), .none, (.sp .none), (.sp .none)] [0] (.split 33 (.go 11 [(.br true), (.br true), .none, (.br true)] [0, 1, 2] .fin) (.strip 34 (.strip 35 (.go 4 [(.br false), .none, (.br false)] [2, 3] (.split 38 (.go 7 [(.br true)] [0] .fin) (.go 20 [(.br false)] [0] (.cut 0 [[0, 4, 5]] [])))))))) (.go 9 [(.br false)] [0] .fin)))
theorem k121_1 (x178 : ByteArray) (y179 y180 : Int) : xrun cfz 121 (D121_1 x178 y179 y180) [] (st121 (.c1 x178 y179 y180)) = (B121 (.c1 x178 y179 y180)).mach st121 out121 := by kernel_rfl
theorem ok121 : ∀ s, ∃ d, xrun cfz 121 d [] (st121 s) = (B121 s).mach st121 out121
  | .c0 a177 => ⟨_, k121_0 a177⟩
  | .c1 x178 y179 y180 => ⟨_, k121_1 x178 y179 y180⟩
theorem f121 (a177 : ByteArray) (v : Int × Bool) (h : F121 a177 = some v) : PureCalls cfz.P cfz.glob 121 [(.d (.v (.string a177)))] (out121 v) := tree_pure knil ok121 (s := .c0 a177) rfl (by kernel_rfl) v h

/-! F77 -/
inductive S77 where
  | c0 (a157 : ByteArray)
  | c1 (x174 : Nat) (x175 : List DV) (y176 : Int)
  | c2 (x182 : Nat) (x183 : List DV) (y184 y185 : Nat) (y186 : List DV) (y187 : Int) (y189 : Nat)
def out77 (v : Int × Int × Nat × List DV × Int) : AV := (.tup [(.agg [(.d (.v (.int .i64 v.fst))), (.d (.v (.int .i64 v.snd.fst)))]), (.d (.sl v.snd.snd.fst v.snd.snd.snd.fst)), (.d (.v (.int .i64 v.snd.snd.snd.snd)))])
noncomputable def st77 : S77 → ASt
  | .c0 a157 => ent cfz 77 [(.d (.v (.string a157)))]
  | .c1 x174 x175 y176 => ⟨⟨77, sp 82 0 [(2, (.ptr 0 0)), (6, (.d (.sl x174 x175))), (7, (.d (.v (.slice .none 0 0)))), (8, (aI y176))], [(.code (cd cfz.P 77 [1, 1, 1, 1, 1, 1, 1, 0, 1, 0, 0])), (.inLoop (cd cfz.P 77 [1, 1, 1, 1, 1, 1, 1, 0, 1, 0, 0])), (.inBlock 0), (.code (cd cfz.P 77 [1, 1, 1, 1, 1, 1, 1, 1]))], [], false, .none⟩, [], [(.cells [(aI 0), (aI 0)] 23)]⟩
  | .c2 x182 x183 y184 y185 y186 y187 y189 => ⟨⟨77, sp 82 0 [(2, (.ptr 0 0)), (6, (.d (.sl x182 x183))), (7, (.own 2 y184 1 y185 y186)), (8, (aI y187))], [(.code (cd cfz.P 77 [1, 1, 1, 1, 1, 1, 1, 0, 1, 0, 0])), (.inLoop (cd cfz.P 77 [1, 1, 1, 1, 1, 1, 1, 0, 1, 0, 0])), (.inBlock 0), (.code (cd cfz.P 77 [1, 1, 1, 1, 1, 1, 1, 1]))], [], false, .none⟩, [], [(.cells [(aI 0), (aI 0)] 23), (.tail 0), (.tail y189)]⟩
noncomputable def B77 : S77 → Tr S77 (Int × Int × Nat × List DV × Int)
  | .c0 a157 => (.br (decide ((↑a157.size : Int) > 4096))
  (.ret (0, 0, 0, [], 26))
  (.bind (F120 a157 10) fun v172 =>
  (.sees [(.d (.v (.string a157))), (a8 10)] (.br ((↑v172.fst : Int) != 2)
  (.ret (0, 0, 0, [], 25))
  (.ask (.eqB (((↑v172.fst : Int) != 2) == false) true) (.ask (.lt 1 ((↑v172.fst : Int))) (.ask (.leN 1 v172.snd.length) (.ask (.prop (Option.map AV.d (List.drop 1 v172.snd)[0]? = some (AV.d (DV.v (Value.string (dS (cel v172.snd 1))))))) (.br (!eqS (dS (cel v172.snd 1)) (ByteArray.mk #[]))
  (.ret (0, 0, 0, [], 25))
  (.ask (.lt 0 ((↑v172.fst : Int))) (.ask (.leN 0 v172.snd.length) (.ask (.prop (Option.map AV.d (List.drop 0 v172.snd)[0]? = some (AV.d (DV.v (Value.string (dS (cel v172.snd 0))))))) (.bind (F120 (dS (cel v172.snd 0)) 32) fun v173 =>
  (.sees [(.d (.v (.string (dS (cel v172.snd 0))))), (a8 32)] (.br (decide ((↑v173.fst : Int) < 3))
  (.ret (0, 0, 0, [], 25))
  (.ask (.eqB (decide ((↑v173.fst : Int) < 3) == false) true) (.ask (.lt 0 ((↑v173.fst : Int))) (.ask (.leN 0 v173.snd.length) (.ask (.prop (Option.map AV.d (List.drop 0 v173.snd)[0]? = some (AV.d (DV.v (Value.string (dS (cel v173.snd 0))))))) (.br (!eqS (dS (cel v173.snd 0)) (ByteArray.mk #[119, 111, 114, 100]))
  (.ret (0, 0, 0, [], 25))
  (.nxt (.c1 v173.fst v173.snd 1))))))))))))))))))))))
  | .c1 x174 x175 y176 => (.ask (.eqB (decide (y176 < (↑x174 : Int))) true) (.ask (.le 0 y176) (.ask (.lt y176 ((↑x174 : Int))) (.ask (.leN (y176.toNat * 1) x175.length) (.ask (.prop (Option.map AV.d (List.drop (y176.toNat * 1) x175)[0]? = some (AV.d (DV.v (Value.string (dS (cel x175 (y176.toNat * 1)))))))) (.bind (F121 (dS (cel x175 (y176.toNat * 1)))) fun v181 =>
  (.sees [(.d (.v (.string (dS (cel x175 (y176.toNat * 1))))))] (.br (!v181.snd)
  (.ret (0, 0, 0, [], 25))
  (.ask (.in64 (y176 + 1)) (.nxt (.c2 x174 x175 0 1 [(.v (.int .i64 v181.fst))] (y176 + 1) 0)))))))))))
  | .c2 x182 x183 y184 y185 y186 y187 y189 => (.br (decide (y187 < (↑x182 : Int)))
  (.ask (.le 0 y187) (.ask (.lt y187 ((↑x182 : Int))) (.ask (.leN (y187.toNat * 1) x183.length) (.ask (.prop (Option.map AV.d (List.drop (y187.toNat * 1) x183)[0]? = some (AV.d (DV.v (Value.string (dS (cel x183 (y187.toNat * 1)))))))) (.bind (F121 (dS (cel x183 (y187.toNat * 1)))) fun v191 =>
  (.sees [(.d (.v (.string (dS (cel x183 (y187.toNat * 1))))))] (.br (!v191.snd)
  (.ret (0, 0, 0, [], 25))
  (.ask (.eqN y184 y189) (.ask (.fits (y185 + 1) 8) (.ask (.in64 (y187 + 1)) (.nxt (.c2 x182 x183 (y189 + 1) (y185 + 1) (y186 ++ [DV.v (Value.int IntKind.i64 v191.fst)]) (y187 + 1) (y189 + 1)))))))))))))
  (.ask (.lt 0 ((↑y185 : Int))) (.ask (.leN 0 y186.length) (.ask (.prop (Option.map AV.d (List.drop 0 y186)[0]? = some (AV.d (DV.v (Value.int IntKind.i64 (dI (cel y186 0))))))) (.ask (.lt 1 ((↑y185 : Int))) (.ask (.leN 1 y186.length) (.ask (.prop (Option.map AV.d (List.drop 1 y186)[0]? = some (AV.d (DV.v (Value.int IntKind.i64 (dI (cel y186 1))))))) (.bind (F21 (dI (cel y186 0)) (dI (cel y186 1)) (y185 - 2) (List.drop 2 y186)) fun v192 =>
  (.ask (.le 2 ((↑y185 : Int))) (.sees [(.agg [(aI (dI (cel y186 0))), (aI (dI (cel y186 1)))]), (.d (.sl (y185 - 2) (List.drop 2 y186)))] (.br (v192 != 0)
  (.ret (0, 0, 0, [], v192))
  (.ask (.le 2 ((↑y185 : Int))) (.ret ((dI (cel y186 0)), (dI (cel y186 1)), (y185 - 2), (List.drop 2 y186), 0))))))))))))))
noncomputable def F77 (a157 : ByteArray) : Option (Int × Int × Nat × List DV × Int) := res B77 (.c0 a157)
noncomputable def D77_0 (a157 : ByteArray) : DT cfz := (.go 13 [] [] (.split 15 (.go 9 [(.br true)] [0] .fin) (.go 5 [(.br false)] [0] (.bind (f120 a157 10) fun v172 => (.go 11 [(.ck 0), (.sp .none)] [] (.split 22 (.go 14 [(.br true), (.br true), (.br true), .none, (.br true)] [0, 1, 2, 3] .fin) (.strip 23 (.go 5 [(.br false), (.br false), (.as (.d (.v (.string (dS (cel v172.snd 1)))))), (.br false)] [0, 3, 5, 6] (.split 27 (.go 9 [(.br true)] [0] .fin) (.go 7 [(.br false), (.as (.d (.v (.string (dS (cel v172.snd 0))))))] [0, 1] (.bind (f120 (dS (cel v172.snd 0)) 32) fun v173 => (.go 11 [(.ck 1), (.sp .none)] [] (.split 36 (.go 14 [(.br true), (.br true), (.br true), .none, (.br true)] [0, 1, 2, 3] .fin) (.strip 37 (.go 5 [(.br false), (.br false), (.as (.d (.v (.string (dS (cel v173.snd 0)))))), (.br false)] [0, 3, 5, 6] (.split 41 (.go 9 [(.br true)] [0] .fin) (.go 13 [(.br false)] [0] (.cut 1 [[2, 6, 7, 8]] []))))))))))))))))))
theorem k77_0 (a157 : ByteArray) : xrun cfz 77 (D77_0 a157) [] (st77 (.c0 a157)) = (B77 (.c0 a157)).mach st77 out77 := by kernel_rfl
noncomputable def D77_1 (x174 : Nat) (x175 : List DV) (y176 : Int) : DT cfz := (.go 8 [] [] (.assume 46 true (.go 10 [(.br true), (.as (.d (.v (.string (dS (cel x175 (y176.toNat * 1)))))))] [0] (.bind (f121 (dS (cel x175 (y176.toNat * 1)))) fun v181 => (.go 13 [(.ck 0)] [] (.split 58 (.go 9 [(.br true)] [0] .fin) (.go 16 [(.br false)] [0, 1, 2, 3] (.cut 3 [[2, 6, 7, 8]] []))))))))
theorem k77_1 (x174 : Nat) (x175 : List DV) (y176 : Int) : xrun cfz 77 (D77_1 x174 x175 y176) [] (st77 (.c1 x174 x175 y176)) = (B77 (.c1 x174 x175 y176)).mach st77 out77 := by kernel_rfl
noncomputable def D77_2 (x182 : Nat) (x183 : List DV) (y184 y185 : Nat) (y186 : List DV) (y187 : Int) (y189 : Nat) : DT cfz := (.go 8 [] [] (.split 46 (.go 10 [(.br true), (.as (.d (.v (.string (dS (cel x183 (y187.toNat * 1)))))))] [0] (.bind (f121 (dS (cel x183 (y187.toNat * 1)))) fun v191 => (.go 13 [(.ck 0)] [] (.split 58 (.go 9 [(.br true)] [0] .fin) (.go 16 [(.br false)] [0, 2, 3] (.cut 3 [[2, 6, 7, 8]] [])))))) (.go 8 [(.br false), (.as (aI (dI (cel y186 0)))), (.as (aI (dI (cel y186 1))))] [0, 1, 5] (.bind (f21 (dI (cel y186 0)) (dI (cel y186 1)) (y185 - 2) (List.drop 2 y186)) fun v192 => (.go 6 [(.ck 0)] [0] (.split 76 (.go 10 [(.br true)] [0] .fin) (.go 6 [(.br false)] [0, 1] .fin)))))))
theorem k77_2 (x182 : Nat) (x183 : List DV) (y184 y185 : Nat) (y186 : List DV) (y187 : Int) (y189 : Nat) : xrun cfz 77 (D77_2 x182 x183 y184 y185 y186 y187 y189) [] (st77 (.c2 x182 x183 y184 y185 y186 y187 y189)) = (B77 (.c2 x182 x183 y184 y185 y186 y187 y189)).mach st77 out77 := by kernel_rfl
theorem ok77 : ∀ s, ∃ d, xrun cfz 77 d [] (st77 s) = (B77 s).mach st77 out77
  | .c0 a157 => ⟨_, k77_0 a157⟩
  | .c1 x174 x175 y176 => ⟨_, k77_1 x174 x175 y176⟩
  | .c2 x182 x183 y184 y185 y186 y187 y189 => ⟨_, k77_2 x182 x183 y184 y185 y186 y187 y189⟩
theorem f77 (a157 : ByteArray) (v : Int × Int × Nat × List DV × Int) (h : F77 a157 = some v) : PureCalls cfz.P cfz.glob 77 [(.d (.v (.string a157)))] (out77 v) := tree_pure knil ok77 (s := .c0 a157) rfl (by kernel_rfl) v h

/-! F30 -/
inductive S30 where
  | c0 (a194 : Nat) (a195 : List DV) (a196 : Nat) (a197 : List DV)
  | c1 (x198 : Nat) (x199 : List DV) (x200 : Nat) (x201 : List DV) (y202 : Int)
def out30 (v : Bool) : AV := (.d (.v (.bool v)))
noncomputable def st30 : S30 → ASt
  | .c0 a194 a195 a196 a197 => ent cfz 30 [(.d (.sl a194 a195)), (.d (.sl a196 a197))]
  | .c1 x198 x199 x200 x201 y202 => ⟨⟨30, sp 26 0 [(0, (.d (.sl x198 x199))), (1, (.d (.sl x200 x201))), (5, (aI y202))], [(.code (cd cfz.P 30 [1, 1, 0, 1, 0, 0])), (.inLoop (cd cfz.P 30 [1, 1, 0, 1, 0, 0])), (.inBlock 0), (.code (cd cfz.P 30 [1, 1, 1]))], [], false, .none⟩, [], []⟩
noncomputable def B30 : S30 → Tr S30 (Bool)
  | .c0 a194 a195 a196 a197 => (.br ((↑a194 : Int) != (↑a196 : Int))
  (.ret false)
  (.nxt (.c1 a194 a195 a196 a197 0)))
  | .c1 x198 x199 x200 x201 y202 => (.br (decide (y202 < (↑x198 : Int)))
  (.ask (.le 0 y202) (.ask (.lt y202 ((↑x198 : Int))) (.ask (.leN (y202.toNat * 1) x199.length) (.ask (.prop (Option.map AV.d (List.drop (y202.toNat * 1) x199)[0]? = some (AV.d (DV.v (Value.int IntKind.i64 (dI (cel x199 (y202.toNat * 1)))))))) (.ask (.le 0 y202) (.ask (.lt y202 ((↑x200 : Int))) (.ask (.leN (y202.toNat * 1) x201.length) (.ask (.prop (Option.map AV.d (List.drop (y202.toNat * 1) x201)[0]? = some (AV.d (DV.v (Value.int IntKind.i64 (dI (cel x201 (y202.toNat * 1)))))))) (.br (dI (cel x199 (y202.toNat * 1)) != dI (cel x201 (y202.toNat * 1)))
  (.ret false)
  (.ask (.in64 (y202 + 1)) (.nxt (.c1 x198 x199 x200 x201 (y202 + 1)))))))))))))
  (.ret true))
noncomputable def F30 (a194 : Nat) (a195 : List DV) (a196 : Nat) (a197 : List DV) : Option (Bool) := res B30 (.c0 a194 a195 a196 a197)
noncomputable def D30_0 (a194 : Nat) (a195 : List DV) (a196 : Nat) (a197 : List DV) : DT cfz := (.go 13 [] [] (.split 10 (.go 6 [(.br true)] [0] .fin) (.go 9 [(.br false)] [0] (.cut 0 [[0, 1, 5]] []))))
theorem k30_0 (a194 : Nat) (a195 : List DV) (a196 : Nat) (a197 : List DV) : xrun cfz 30 (D30_0 a194 a195 a196 a197) [] (st30 (.c0 a194 a195 a196 a197)) = (B30 (.c0 a194 a195 a196 a197)).mach st30 out30 := by kernel_rfl
noncomputable def D30_1 (x198 : Nat) (x199 : List DV) (x200 : Nat) (x201 : List DV) (y202 : Int) : DT cfz := (.go 8 [] [] (.split 14 (.go 7 [(.br true), (.as (aI (dI (cel x199 (y202.toNat * 1))))), (.as (aI (dI (cel x201 (y202.toNat * 1)))))] [0] (.split 25 (.go 6 [(.br true)] [0] .fin) (.go 9 [(.br false)] [0] (.cut 0 [[0, 1, 5]] [])))) (.go 7 [(.br false)] [0] .fin)))
theorem k30_1 (x198 : Nat) (x199 : List DV) (x200 : Nat) (x201 : List DV) (y202 : Int) : xrun cfz 30 (D30_1 x198 x199 x200 x201 y202) [] (st30 (.c1 x198 x199 x200 x201 y202)) = (B30 (.c1 x198 x199 x200 x201 y202)).mach st30 out30 := by kernel_rfl
theorem ok30 : ∀ s, ∃ d, xrun cfz 30 d [] (st30 s) = (B30 s).mach st30 out30
  | .c0 a194 a195 a196 a197 => ⟨_, k30_0 a194 a195 a196 a197⟩
  | .c1 x198 x199 x200 x201 y202 => ⟨_, k30_1 x198 x199 x200 x201 y202⟩
theorem f30 (a194 : Nat) (a195 : List DV) (a196 : Nat) (a197 : List DV) (v : Bool) (h : F30 a194 a195 a196 a197 = some v) : PureCalls cfz.P cfz.glob 30 [(.d (.sl a194 a195)), (.d (.sl a196 a197))] (out30 v) := tree_pure knil ok30 (s := .c0 a194 a195 a196 a197) rfl (by kernel_rfl) v h

end Go.Kv
