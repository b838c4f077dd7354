import Derived.Test.YtfojgeoicgmncaaKvW
import Derived.Test.YtfojgeoicgmncaaKvZ
import Derived.Test.YtfojgeoicgmncaaKzA
namespace Go.Kv
set_option linter.unusedVariables false
set_option linter.unusedSimpArgs false
open Go Go.RowKit Go.Proofs
set_option maxRecDepth 100000
inductive S39 where
  | c0 (a7 : Bool) (a8 : Int)
def out39 (v : Int) : AV := (.d (.v (.int .i64 v)))
noncomputable def st39 : S39 → ASt
  | .c0 a7 a8 => ent cfz 39 [(.d (.v (.bool a7))), (aI a8)]
noncomputable def B39 : S39 → Tr S39 (Int)
  | .c0 a7 a8 => (.br a7
  (.ret a8)
  (.ret 0))
noncomputable def F39 (a7 : Bool) (a8 : Int) : Option (Int) := res B39 (.c0 a7 a8)
noncomputable def D39_0 (a7 : Bool) (a8 : Int) : DT cfz := (.go 9 [] [] (.split 5 (.go 7 [(.br true)] [0] .fin) (.go 7 [(.br false)] [0] .fin)))
theorem k39_0 (a7 : Bool) (a8 : Int) : xrun cfz 39 (D39_0 a7 a8) [] (st39 (.c0 a7 a8)) = (B39 (.c0 a7 a8)).mach st39 out39 := by kernel_rfl
theorem ok39 : ∀ s, ∃ d, xrun cfz 39 d [] (st39 s) = (B39 s).mach st39 out39
  | .c0 a7 a8 => ⟨_, k39_0 a7 a8⟩
theorem f39 (a7 : Bool) (a8 v : Int) (h : F39 a7 a8 = some v) : PureCalls cfz.P cfz.glob 39 [(.d (.v (.bool a7))), (aI a8)] (out39 v) := tree_pure knil ok39 (s := .c0 a7 a8) rfl (by kernel_rfl) v h
inductive S38 where
  | c0 (a4 a5 a6 : Int)
def out38 (v : Int) : AV := (.d (.v (.int .i64 v)))
noncomputable def st38 : S38 → ASt
  | .c0 a4 a5 a6 => ent cfz 38 [(aI a4), (aI a5), (aI a6)]
noncomputable def B38 : S38 → Tr S38 (Int)
  | .c0 a4 a5 a6 => (.triv _ (tv_s (decide (a4 < a5) == false)) (.triv _ (tv_s (decide (a4 < a5) == false)) (.triv _ (tv_f (decide (a4 < a5))) (.bind (F39 (if decide (a4 < a5) = true then true else decide (a4 > a6)) 3) fun v9 =>
  (.sees [(.d (.v (.bool (if decide (a4 < a5) = true then true else decide (a4 > a6))))), (aI 3)] (.ret v9))))))
noncomputable def F38 (a4 a5 a6 : Int) : Option (Int) := res B38 (.c0 a4 a5 a6)
noncomputable def D38_0 (a4 a5 a6 : Int) : DT cfz := (.go 14 [(.sp .none), (.sp .none), (.sp .none), .mg] [] (.bind (f39 (if decide (a4 < a5) = true then true else decide (a4 > a6)) 3) fun v9 => (.go 4 [(.ck 0)] [] .fin)))
theorem k38_0 (a4 a5 a6 : Int) : xrun cfz 38 (D38_0 a4 a5 a6) [] (st38 (.c0 a4 a5 a6)) = (B38 (.c0 a4 a5 a6)).mach st38 out38 := by kernel_rfl
theorem ok38 : ∀ s, ∃ d, xrun cfz 38 d [] (st38 s) = (B38 s).mach st38 out38
  | .c0 a4 a5 a6 => ⟨_, k38_0 a4 a5 a6⟩
theorem f38 (a4 a5 a6 v : Int) (h : F38 a4 a5 a6 = some v) : PureCalls cfz.P cfz.glob 38 [(aI a4), (aI a5), (aI a6)] (out38 v) := tree_pure knil ok38 (s := .c0 a4 a5 a6) rfl (by kernel_rfl) v h
inductive S37 where
  | c0 (a13 : Nat) (a14 : List DV)
  | c1 (x15 : Nat) (x16 : List DV) (x17 y18 : Int)
def out37 (v : Int) : AV := (.d (.v (.int .i64 v)))
noncomputable def st37 : S37 → ASt
  | .c0 a13 a14 => ent cfz 37 [(.d (.sl a13 a14))]
  | .c1 x15 x16 x17 y18 => ⟨⟨37, sp 15 0 [(5, (.d (.sl x15 x16))), (6, (aI x17)), (7, (aI y18))], [(.code (cd cfz.P 37 [1, 0, 1, 0, 0])), (.inLoop (cd cfz.P 37 [1, 0, 1, 0, 0])), (.inBlock 0), (.code (cd cfz.P 37 [1, 1]))], [], false, .none⟩, [], []⟩
noncomputable def B37 : S37 → Tr S37 (Int)
  | .c0 a13 a14 => (.nxt (.c1 a13 a14 ((↑a13 : Int)) 0))
  | .c1 x15 x16 x17 y18 => (.br (decide (y18 < x17))
  (.ask (.le 0 y18) (.ask (.lt y18 ((↑x15 : Int))) (.ask (.leN (y18.toNat * 1) x16.length) (.ask (.prop (Option.map AV.d (List.drop (y18.toNat * 1) x16)[0]? = some (AV.d (DV.v (Value.int IntKind.i64 (dI (cel x16 (y18.toNat * 1)))))))) (.br (dI (cel x16 (y18.toNat * 1)) != 0)
  (.ret (dI (cel x16 (y18.toNat * 1))))
  (.ask (.in64 (y18 + 1)) (.nxt (.c1 x15 x16 x17 (y18 + 1)))))))))
  (.ret 0))
noncomputable def F37 (a13 : Nat) (a14 : List DV) : Option (Int) := res B37 (.c0 a13 a14)
noncomputable def D37_0 (a13 : Nat) (a14 : List DV) : DT cfz := (.go 13 [] [] (.cut 0 [[5, 6, 7]] []))
theorem k37_0 (a13 : Nat) (a14 : List DV) : xrun cfz 37 (D37_0 a13 a14) [] (st37 (.c0 a13 a14)) = (B37 (.c0 a13 a14)).mach st37 out37 := by kernel_rfl
noncomputable def D37_1 (x15 : Nat) (x16 : List DV) (x17 y18 : Int) : DT cfz := (.go 5 [] [] (.split 8 (.go 15 [(.br true), (.as (aI (dI (cel x16 (y18.toNat * 1)))))] [0] (.split 12 (.go 7 [(.br true)] [0] .fin) (.go 8 [(.br false)] [0] (.cut 0 [[5, 6, 7]] [])))) (.go 7 [(.br false)] [0] .fin)))
theorem k37_1 (x15 : Nat) (x16 : List DV) (x17 y18 : Int) : xrun cfz 37 (D37_1 x15 x16 x17 y18) [] (st37 (.c1 x15 x16 x17 y18)) = (B37 (.c1 x15 x16 x17 y18)).mach st37 out37 := by kernel_rfl
theorem ok37 : ∀ s, ∃ d, xrun cfz 37 d [] (st37 s) = (B37 s).mach st37 out37
  | .c0 a13 a14 => ⟨_, k37_0 a13 a14⟩
  | .c1 x15 x16 x17 y18 => ⟨_, k37_1 x15 x16 x17 y18⟩
theorem f37 (a13 : Nat) (a14 : List DV) (v : Int) (h : F37 a13 a14 = some v) : PureCalls cfz.P cfz.glob 37 [(.d (.sl a13 a14))] (out37 v) := tree_pure knil ok37 (s := .c0 a13 a14) rfl (by kernel_rfl) v h
inductive S56 where
  | c0 (a31 : Nat) (a32 : List DV)
def out56 (v : Nat × List DV) : AV := (.d (.sl v.fst v.snd))
noncomputable def st56 : S56 → ASt
  | .c0 a31 a32 => ent cfz 56 [(.d (.sl a31 a32))]
noncomputable def B56 : S56 → Tr S56 (Nat × List DV)
  | .c0 a31 a32 => (.ask (.ltN 0 a31) (.br (a31.beq 0)
  (.ask (.eqN a31 0) (.ret (0, [])))
  (.ask (.ltN 0 a31) (.ask (.eqN a32.length (a31 * 1)) (.ask (.fits a31 1) (.ret (a31, a32)))))))
noncomputable def F56 (a31 : Nat) (a32 : List DV) : Option (Nat × List DV) := res B56 (.c0 a31 a32)
noncomputable def D56_0 (a31 : Nat) (a32 : List DV) : DT cfz := (.go 16 [(.br false)] [1] (.br (a31.beq 0) (.go 4 [(.br false)] [] .fin) (.go 4 [(.br true)] [] .fin)))
theorem k56_0 (a31 : Nat) (a32 : List DV) : xrun cfz 56 (D56_0 a31 a32) [] (st56 (.c0 a31 a32)) = (B56 (.c0 a31 a32)).mach st56 out56 := by kernel_rfl
theorem ok56 : ∀ s, ∃ d, xrun cfz 56 d [] (st56 s) = (B56 s).mach st56 out56
  | .c0 a31 a32 => ⟨_, k56_0 a31 a32⟩
theorem f56 (a31 : Nat) (a32 : List DV) (v : Nat × List DV) (h : F56 a31 a32 = some v) : PureCalls cfz.P cfz.glob 56 [(.d (.sl a31 a32))] (out56 v) := tree_pure knil ok56 (s := .c0 a31 a32) rfl (by kernel_rfl) v h
inductive S40 where
  | c0 (a26 a27 a28 : Int) (a29 : Nat) (a30 : List DV)
def out40 (v : Int × Int × Int × Nat × List DV) : AV := (.agg [(.d (.v (.int .i64 v.fst))), (.d (.v (.int .i64 v.snd.fst))), (.d (.v (.int .i64 v.snd.snd.fst))), (.d (.sl v.snd.snd.snd.fst v.snd.snd.snd.snd))])
noncomputable def st40 : S40 → ASt
  | .c0 a26 a27 a28 a29 a30 => ent cfz 40 [(.agg [(aI a26), (aI a27), (aI a28), (.d (.sl a29 a30))])]
noncomputable def B40 : S40 → Tr S40 (Int × Int × Int × Nat × List DV)
  | .c0 a26 a27 a28 a29 a30 => (.bind (F56 a29 a30) fun v33 =>
  (.sees [(.d (.sl a29 a30))] (.ret (a26, a27, a28, v33.fst, v33.snd))))
noncomputable def F40 (a26 a27 a28 : Int) (a29 : Nat) (a30 : List DV) : Option (Int × Int × Int × Nat × List DV) := res B40 (.c0 a26 a27 a28 a29 a30)
noncomputable def D40_0 (a26 a27 a28 : Int) (a29 : Nat) (a30 : List DV) : DT cfz := (.go 9 [] [] (.bind (f56 a29 a30) fun v33 => (.go 10 [(.ck 0)] [] .fin)))
theorem k40_0 (a26 a27 a28 : Int) (a29 : Nat) (a30 : List DV) : xrun cfz 40 (D40_0 a26 a27 a28 a29 a30) [] (st40 (.c0 a26 a27 a28 a29 a30)) = (B40 (.c0 a26 a27 a28 a29 a30)).mach st40 out40 := by kernel_rfl
theorem ok40 : ∀ s, ∃ d, xrun cfz 40 d [] (st40 s) = (B40 s).mach st40 out40
  | .c0 a26 a27 a28 a29 a30 => ⟨_, k40_0 a26 a27 a28 a29 a30⟩
theorem f40 (a26 a27 a28 : Int) (a29 : Nat) (a30 : List DV) (v : Int × Int × Int × Nat × List DV) (h : F40 a26 a27 a28 a29 a30 = some v) : PureCalls cfz.P cfz.glob 40 [(.agg [(aI a26), (aI a27), (aI a28), (.d (.sl a29 a30))])] (out40 v) := tree_pure knil ok40 (s := .c0 a26 a27 a28 a29 a30) rfl (by kernel_rfl) v h
inductive S27 where
  | c0 (a0 : Int) (a1 : Nat) (a2 : List DV) (a3 : Int)
  | c1 (x20 : Int) (x21 : Nat) (x22 : List DV) (x23 x24 y25 : Int)
  | c2 (x35 : Int) (x36 : Nat) (x37 : List DV) (x38 x39 : Int) (y40 y41 : Nat) (y42 : List DV) (y43 : Int) (y45 : Nat)
def out27 (v : Nat × List DV × Int) : AV := (.tup [(.d (.sl v.fst v.snd.fst)), (.d (.v (.int .i64 v.snd.snd)))])
noncomputable def td27_0 : List AItem := [(.code (cd cfz.P 27 [1, 1, 1, 1, 1, 0, 1, 0, 0])), (.inLoop (cd cfz.P 27 [1, 1, 1, 1, 1, 0, 1, 0, 0])), (.inBlock 0), (.code (cd cfz.P 27 [1, 1, 1, 1, 1, 1]))]
noncomputable def st27 : S27 → ASt
  | .c0 a0 a1 a2 a3 => ent cfz 27 [(aI a0), (.d (.sl a1 a2)), (aI a3)]
  | .c1 x20 x21 x22 x23 x24 y25 => ⟨⟨27, sp 63 0 [(0, (aI x20)), (1, (.d (.sl x21 x22))), (2, (aI x23)), (9, (aI x24)), (10, (.d (.v (.slice .none 0 0)))), (36, (aI x24)), (37, (aI y25))], td27_0, [], false, .none⟩, [], []⟩
  | .c2 x35 x36 x37 x38 x39 y40 y41 y42 y43 y45 => ⟨⟨27, sp 63 0 [(0, (aI x35)), (1, (.d (.sl x36 x37))), (2, (aI x38)), (9, (aI x39)), (10, (.own 2 y40 4 y41 y42)), (36, (aI x39)), (37, (aI y43))], td27_0, [], false, .none⟩, [], [.dead, (.tail 0), (.tail y45)]⟩
noncomputable def B27 : S27 → Tr S27 (Nat × List DV × Int)
  | .c0 a0 a1 a2 a3 => (.bind (F38 a0 0 255) fun v10 =>
  (.sees [(aI a0), (aI 0), (aI 255)] (.bind (F39 (decide ((↑a1 : Int) > 256)) 5) fun v11 =>
  (.sees [(.d (.v (.bool (decide ((↑a1 : Int) > 256))))), (aI 5)] (.bind (F38 a3 1 12) fun v12 =>
  (.sees [(aI a3), (aI 1), (aI 12)] (.bind (F37 3 [(.v (.int .i64 v10)), (.v (.int .i64 v11)), (.v (.int .i64 v12))]) fun v19 =>
  (.sees [(.d (.sl 3 [(vI v10), (vI v11), (vI v12)]))] (.br (v19 != 0)
  (.ret (0, [], v19))
  (.ask (.in64 ((↑a1 : Int) + a3)) (.ask (.in64 ((↑a1 : Int) + a3 - 1)) (.ask (.neI a3 0) (.ask (.in64 (((↑a1 : Int) + a3 - 1).tdiv a3)) (.br (decide ((if ((↑a1 : Int) + a3 - 1).tdiv a3 > 1 then ((↑a1 : Int) + a3 - 1).tdiv a3 else 1) > 64))
  (.ret (0, [], 5))
  (.nxt (.c1 a0 a1 a2 a3 (if ((↑a1 : Int) + a3 - 1).tdiv a3 > 1 then ((↑a1 : Int) + a3 - 1).tdiv a3 else 1) 0))))))))))))))))
  | .c1 x20 x21 x22 x23 x24 y25 => (.br (decide (y25 < x24))
  (.ask (.in64 (y25 * x23)) (.ask (.in64 (y25 + 1)) (.ask (.in64 ((y25 + 1) * x23)) (.ask (.le 0 (y25 * x23)) (.ask (.le (y25 * x23) (if (y25 + 1) * x23 < (↑x21 : Int) then (y25 + 1) * x23 else (↑x21 : Int))) (.ask (.le (if (y25 + 1) * x23 < (↑x21 : Int) then (y25 + 1) * x23 else (↑x21 : Int)) ((↑x21 : Int))) (.ask (.eqN x22.length (x21 * 1)) (.bind (F40 x20 y25 x24 ((if (y25 + 1) * x23 < (↑x21 : Int) then (y25 + 1) * x23 else (↑x21 : Int)).toNat - (y25 * x23).toNat) (List.take (((if (y25 + 1) * x23 < (↑x21 : Int) then (y25 + 1) * x23 else (↑x21 : Int)).toNat - (y25 * x23).toNat) * 1) (List.drop ((y25 * x23).toNat * 1) x22))) fun v34 =>
  (.sees [(.agg [(aI x20), (aI y25), (aI x24), (.d (.sl ((if (y25 + 1) * x23 < (↑x21 : Int) then (y25 + 1) * x23 else (↑x21 : Int)).toNat - (y25 * x23).toNat) (List.take (((if (y25 + 1) * x23 < (↑x21 : Int) then (y25 + 1) * x23 else (↑x21 : Int)).toNat - (y25 * x23).toNat) * 1) (List.drop ((y25 * x23).toNat * 1) x22))))])] (.ask (.in64 (y25 + 1)) (.nxt (.c2 x20 x21 x22 x23 x24 0 1 [(.v (.int .i64 v34.fst)), (.v (.int .i64 v34.snd.fst)), (.v (.int .i64 v34.snd.snd.fst)), (.sl v34.snd.snd.snd.fst v34.snd.snd.snd.snd)] (y25 + 1) 0))))))))))))
  (.ret (0, [], 0)))
  | .c2 x35 x36 x37 x38 x39 y40 y41 y42 y43 y45 => (.br (decide (y43 < x39))
  (.ask (.in64 (y43 * x38)) (.ask (.in64 (y43 + 1)) (.ask (.in64 ((y43 + 1) * x38)) (.ask (.le 0 (y43 * x38)) (.ask (.le (y43 * x38) (if (y43 + 1) * x38 < (↑x36 : Int) then (y43 + 1) * x38 else (↑x36 : Int))) (.ask (.le (if (y43 + 1) * x38 < (↑x36 : Int) then (y43 + 1) * x38 else (↑x36 : Int)) ((↑x36 : Int))) (.ask (.eqN x37.length (x36 * 1)) (.bind (F40 x35 y43 x39 ((if (y43 + 1) * x38 < (↑x36 : Int) then (y43 + 1) * x38 else (↑x36 : Int)).toNat - (y43 * x38).toNat) (List.take (((if (y43 + 1) * x38 < (↑x36 : Int) then (y43 + 1) * x38 else (↑x36 : Int)).toNat - (y43 * x38).toNat) * 1) (List.drop ((y43 * x38).toNat * 1) x37))) fun v46 =>
  (.sees [(.agg [(aI x35), (aI y43), (aI x39), (.d (.sl ((if (y43 + 1) * x38 < (↑x36 : Int) then (y43 + 1) * x38 else (↑x36 : Int)).toNat - (y43 * x38).toNat) (List.take (((if (y43 + 1) * x38 < (↑x36 : Int) then (y43 + 1) * x38 else (↑x36 : Int)).toNat - (y43 * x38).toNat) * 1) (List.drop ((y43 * x38).toNat * 1) x37))))])] (.ask (.eqN y40 y45) (.ask (.fits (y41 + 1) 48) (.ask (.in64 (y43 + 1)) (.nxt (.c2 x35 x36 x37 x38 x39 (y45 + 1) (y41 + 1) (y42 ++ [DV.v (Value.int IntKind.i64 v46.fst), DV.v (Value.int IntKind.i64 v46.snd.fst), DV.v (Value.int IntKind.i64 v46.snd.snd.fst), DV.sl v46.snd.snd.snd.fst v46.snd.snd.snd.snd]) (y43 + 1) (y45 + 1)))))))))))))))
  (.ret (y41, y42, 0)))
noncomputable def F27 (a0 : Int) (a1 : Nat) (a2 : List DV) (a3 : Int) : Option (Nat × List DV × Int) := res B27 (.c0 a0 a1 a2 a3)
noncomputable def D27_0 (a0 : Int) (a1 : Nat) (a2 : List DV) (a3 : Int) : DT cfz := (.go 9 [] [] (.bind (f38 a0 0 255) fun v10 => (.go 4 [(.ck 0)] [] (.bind (f39 (decide ((↑a1 : Int) > 256)) 5) fun v11 => (.go 2 [(.ck 1)] [] (.bind (f38 a3 1 12) fun v12 => (.go 2 [(.ck 2)] [] (.bind (f37 3 [(vI v10), (vI v11), (vI v12)]) fun v19 => (.go 8 [(.ck 3)] [] (.split 24 (.go 8 [(.br true)] [0] .fin) (.go 20 [(.br false)] [0] (.split 35 (.go 7 [(.br true)] [0] .fin) (.go 14 [(.br false)] [0] (.cut 0 [[0, 1, 2, 9, 10, 36, 37]] []))))))))))))))
theorem k27_0 (a0 : Int) (a1 : Nat) (a2 : List DV) (a3 : Int) : xrun cfz 27 (D27_0 a0 a1 a2 a3) [] (st27 (.c0 a0 a1 a2 a3)) = (B27 (.c0 a0 a1 a2 a3)).mach st27 out27 := by kernel_rfl
noncomputable def D27_1 (x20 : Int) (x21 : Nat) (x22 : List DV) (x23 x24 y25 : Int) : DT cfz := (.go 5 [] [] (.split 38 (.go 33 [(.br true)] [0] (.bind (f40 x20 y25 x24 ((if (y25 + 1) * x23 < (↑x21 : Int) then (y25 + 1) * x23 else (↑x21 : Int)).toNat - (y25 * x23).toNat) (List.take (((if (y25 + 1) * x23 < (↑x21 : Int) then (y25 + 1) * x23 else (↑x21 : Int)).toNat - (y25 * x23).toNat) * 1) (List.drop ((y25 * x23).toNat * 1) x22))) fun v34 => (.go 11 [(.ck 0)] [1, 2, 3] (.cut 3 [[0, 1, 2, 9, 10, 36, 37]] [0])))) (.go 9 [(.br false)] [0] .fin)))
theorem k27_1 (x20 : Int) (x21 : Nat) (x22 : List DV) (x23 x24 y25 : Int) : xrun cfz 27 (D27_1 x20 x21 x22 x23 x24 y25) [] (st27 (.c1 x20 x21 x22 x23 x24 y25)) = (B27 (.c1 x20 x21 x22 x23 x24 y25)).mach st27 out27 := by kernel_rfl
noncomputable def D27_2 (x35 : Int) (x36 : Nat) (x37 : List DV) (x38 x39 : Int) (y40 y41 : Nat) (y42 : List DV) (y43 : Int) (y45 : Nat) : DT cfz := (.go 5 [] [] (.split 38 (.go 33 [(.br true)] [0] (.bind (f40 x35 y43 x39 ((if (y43 + 1) * x38 < (↑x36 : Int) then (y43 + 1) * x38 else (↑x36 : Int)).toNat - (y43 * x38).toNat) (List.take (((if (y43 + 1) * x38 < (↑x36 : Int) then (y43 + 1) * x38 else (↑x36 : Int)).toNat - (y43 * x38).toNat) * 1) (List.drop ((y43 * x38).toNat * 1) x37))) fun v46 => (.go 11 [(.ck 0)] [2, 3] (.cut 3 [[0, 1, 2, 9, 10, 36, 37]] [])))) (.go 9 [(.br false)] [0] .fin)))
theorem k27_2 (x35 : Int) (x36 : Nat) (x37 : List DV) (x38 x39 : Int) (y40 y41 : Nat) (y42 : List DV) (y43 : Int) (y45 : Nat) : xrun cfz 27 (D27_2 x35 x36 x37 x38 x39 y40 y41 y42 y43 y45) [] (st27 (.c2 x35 x36 x37 x38 x39 y40 y41 y42 y43 y45)) = (B27 (.c2 x35 x36 x37 x38 x39 y40 y41 y42 y43 y45)).mach st27 out27 := by kernel_rfl
theorem ok27 : ∀ s, ∃ d, xrun cfz 27 d [] (st27 s) = (B27 s).mach st27 out27
  | .c0 a0 a1 a2 a3 => ⟨_, k27_0 a0 a1 a2 a3⟩
  | .c1 x20 x21 x22 x23 x24 y25 => ⟨_, k27_1 x20 x21 x22 x23 x24 y25⟩
  | .c2 x35 x36 x37 x38 x39 y40 y41 y42 y43 y45 => ⟨_, k27_2 x35 x36 x37 x38 x39 y40 y41 y42 y43 y45⟩
theorem f27 (a0 : Int) (a1 : Nat) (a2 : List DV) (a3 : Int) (v : Nat × List DV × Int) (h : F27 a0 a1 a2 a3 = some v) : PureCalls cfz.P cfz.glob 27 [(aI a0), (.d (.sl a1 a2)), (aI a3)] (out27 v) := tree_pure knil ok27 (s := .c0 a0 a1 a2 a3) rfl (by kernel_rfl) v h
inductive S71 where
  | c0
def out71 (v : Unit) : AV := (.agg [(.d (.v (.func (.func 72) (#[]) (#[])))), (.d (.v (.int .i64 0))), (.d (.v (.func (.func 73) (#[]) (#[])))), (.d (.v (.func (.func 74) (#[]) (#[])))), (.d (.v (.int .i64 1))), (.d (.v (.func (.func 75) (#[]) (#[])))), (.d (.v (.func (.func 76) (#[]) (#[])))), (.d (.v (.int .i64 0))), (.d (.v (.func (.func 77) (#[]) (#[]))))])
noncomputable def st71 : S71 → ASt
  | .c0 => ent cfz 71 []
noncomputable def B71 : S71 → Tr S71 (Unit)
  | .c0 => (.ret ())
noncomputable def F71 : Option (Unit) := res B71 (.c0)
noncomputable def D71_0 : DT cfz := (.go 13 [] [] .fin)
theorem k71_0 : xrun cfz 71 (D71_0) [] (st71 (.c0)) = (B71 (.c0)).mach st71 out71 := by kernel_rfl
theorem ok71 : ∀ s, ∃ d, xrun cfz 71 d [] (st71 s) = (B71 s).mach st71 out71
  | .c0 => ⟨_, k71_0⟩
theorem f71 (v : Unit) (h : F71 = some v) : PureCalls cfz.P cfz.glob 71 [] (out71 v) := tree_pure knil ok71 (s := .c0) rfl (by kernel_rfl) v h
inductive S72 where
  | c0 (a16 a17 a18 : Int) (a19 : Nat) (a20 : List DV)
def out72 (v : Int) : AV := (.d (.v (.int .i64 v)))
noncomputable def st72 : S72 → ASt
  | .c0 a16 a17 a18 a19 a20 => ent cfz 72 [(.agg [(aI a16), (aI a17), (aI a18), (.d (.sl a19 a20))])]
noncomputable def B72 : S72 → Tr S72 (Int)
  | .c0 a16 a17 a18 a19 a20 => (.ret a16)
noncomputable def F72 (a16 a17 a18 : Int) (a19 : Nat) (a20 : List DV) : Option (Int) := res B72 (.c0 a16 a17 a18 a19 a20)
noncomputable def D72_0 (a16 a17 a18 : Int) (a19 : Nat) (a20 : List DV) : DT cfz := (.go 12 [] [] .fin)
theorem k72_0 (a16 a17 a18 : Int) (a19 : Nat) (a20 : List DV) : xrun cfz 72 (D72_0 a16 a17 a18 a19 a20) [] (st72 (.c0 a16 a17 a18 a19 a20)) = (B72 (.c0 a16 a17 a18 a19 a20)).mach st72 out72 := by kernel_rfl
theorem ok72 : ∀ s, ∃ d, xrun cfz 72 d [] (st72 s) = (B72 s).mach st72 out72
  | .c0 a16 a17 a18 a19 a20 => ⟨_, k72_0 a16 a17 a18 a19 a20⟩
theorem f72 (a16 a17 a18 : Int) (a19 : Nat) (a20 : List DV) (v : Int) (h : F72 a16 a17 a18 a19 a20 = some v) : PureCalls cfz.P cfz.glob 72 [(.agg [(aI a16), (aI a17), (aI a18), (.d (.sl a19 a20))])] (out72 v) := tree_pure knil ok72 (s := .c0 a16 a17 a18 a19 a20) rfl (by kernel_rfl) v h
inductive S73 where
  | c0 (a22 a23 a24 : Int) (a25 : Nat) (a26 : List DV)
def out73 (v : Unit) : AV := (.d (.v (.int .i64 255)))
noncomputable def st73 : S73 → ASt
  | .c0 a22 a23 a24 a25 a26 => ent cfz 73 [(.agg [(aI a22), (aI a23), (aI a24), (.d (.sl a25 a26))])]
noncomputable def B73 : S73 → Tr S73 (Unit)
  | .c0 a22 a23 a24 a25 a26 => (.ret ())
noncomputable def F73 (a22 a23 a24 : Int) (a25 : Nat) (a26 : List DV) : Option (Unit) := res B73 (.c0 a22 a23 a24 a25 a26)
noncomputable def D73_0 (a22 a23 a24 : Int) (a25 : Nat) (a26 : List DV) : DT cfz := (.go 10 [] [] .fin)
theorem k73_0 (a22 a23 a24 : Int) (a25 : Nat) (a26 : List DV) : xrun cfz 73 (D73_0 a22 a23 a24 a25 a26) [] (st73 (.c0 a22 a23 a24 a25 a26)) = (B73 (.c0 a22 a23 a24 a25 a26)).mach st73 out73 := by kernel_rfl
theorem ok73 : ∀ s, ∃ d, xrun cfz 73 d [] (st73 s) = (B73 s).mach st73 out73
  | .c0 a22 a23 a24 a25 a26 => ⟨_, k73_0 a22 a23 a24 a25 a26⟩
theorem f73 (a22 a23 a24 : Int) (a25 : Nat) (a26 : List DV) (v : Unit) (h : F73 a22 a23 a24 a25 a26 = some v) : PureCalls cfz.P cfz.glob 73 [(.agg [(aI a22), (aI a23), (aI a24), (.d (.sl a25 a26))])] (out73 v) := tree_pure knil ok73 (s := .c0 a22 a23 a24 a25 a26) rfl (by kernel_rfl) v h
inductive S74 where
  | c0 (a35 a36 a37 : Int) (a38 : Nat) (a39 : List DV)
def out74 (v : Int) : AV := (.d (.v (.int .i64 v)))
noncomputable def st74 : S74 → ASt
  | .c0 a35 a36 a37 a38 a39 => ent cfz 74 [(.agg [(aI a35), (aI a36), (aI a37), (.d (.sl a38 a39))])]
noncomputable def B74 : S74 → Tr S74 (Int)
  | .c0 a35 a36 a37 a38 a39 => (.ret a37)
noncomputable def F74 (a35 a36 a37 : Int) (a38 : Nat) (a39 : List DV) : Option (Int) := res B74 (.c0 a35 a36 a37 a38 a39)
noncomputable def D74_0 (a35 a36 a37 : Int) (a38 : Nat) (a39 : List DV) : DT cfz := (.go 12 [] [] .fin)
theorem k74_0 (a35 a36 a37 : Int) (a38 : Nat) (a39 : List DV) : xrun cfz 74 (D74_0 a35 a36 a37 a38 a39) [] (st74 (.c0 a35 a36 a37 a38 a39)) = (B74 (.c0 a35 a36 a37 a38 a39)).mach st74 out74 := by kernel_rfl
theorem ok74 : ∀ s, ∃ d, xrun cfz 74 d [] (st74 s) = (B74 s).mach st74 out74
  | .c0 a35 a36 a37 a38 a39 => ⟨_, k74_0 a35 a36 a37 a38 a39⟩
theorem f74 (a35 a36 a37 : Int) (a38 : Nat) (a39 : List DV) (v : Int) (h : F74 a35 a36 a37 a38 a39 = some v) : PureCalls cfz.P cfz.glob 74 [(.agg [(aI a35), (aI a36), (aI a37), (.d (.sl a38 a39))])] (out74 v) := tree_pure knil ok74 (s := .c0 a35 a36 a37 a38 a39) rfl (by kernel_rfl) v h
inductive S75 where
  | c0 (a41 a42 a43 : Int) (a44 : Nat) (a45 : List DV)
def out75 (v : Unit) : AV := (.d (.v (.int .i64 64)))
noncomputable def st75 : S75 → ASt
  | .c0 a41 a42 a43 a44 a45 => ent cfz 75 [(.agg [(aI a41), (aI a42), (aI a43), (.d (.sl a44 a45))])]
noncomputable def B75 : S75 → Tr S75 (Unit)
  | .c0 a41 a42 a43 a44 a45 => (.ret ())
noncomputable def F75 (a41 a42 a43 : Int) (a44 : Nat) (a45 : List DV) : Option (Unit) := res B75 (.c0 a41 a42 a43 a44 a45)
noncomputable def D75_0 (a41 a42 a43 : Int) (a44 : Nat) (a45 : List DV) : DT cfz := (.go 10 [] [] .fin)
theorem k75_0 (a41 a42 a43 : Int) (a44 : Nat) (a45 : List DV) : xrun cfz 75 (D75_0 a41 a42 a43 a44 a45) [] (st75 (.c0 a41 a42 a43 a44 a45)) = (B75 (.c0 a41 a42 a43 a44 a45)).mach st75 out75 := by kernel_rfl
theorem ok75 : ∀ s, ∃ d, xrun cfz 75 d [] (st75 s) = (B75 s).mach st75 out75
  | .c0 a41 a42 a43 a44 a45 => ⟨_, k75_0 a41 a42 a43 a44 a45⟩
theorem f75 (a41 a42 a43 : Int) (a44 : Nat) (a45 : List DV) (v : Unit) (h : F75 a41 a42 a43 a44 a45 = some v) : PureCalls cfz.P cfz.glob 75 [(.agg [(aI a41), (aI a42), (aI a43), (.d (.sl a44 a45))])] (out75 v) := tree_pure knil ok75 (s := .c0 a41 a42 a43 a44 a45) rfl (by kernel_rfl) v h
inductive S76 where
  | c0 (a48 a49 a50 : Int) (a51 : Nat) (a52 : List DV)
def out76 (v : Int) : AV := (.d (.v (.int .i64 v)))
noncomputable def st76 : S76 → ASt
  | .c0 a48 a49 a50 a51 a52 => ent cfz 76 [(.agg [(aI a48), (aI a49), (aI a50), (.d (.sl a51 a52))])]
noncomputable def B76 : S76 → Tr S76 (Int)
  | .c0 a48 a49 a50 a51 a52 => (.ret a49)
noncomputable def F76 (a48 a49 a50 : Int) (a51 : Nat) (a52 : List DV) : Option (Int) := res B76 (.c0 a48 a49 a50 a51 a52)
noncomputable def D76_0 (a48 a49 a50 : Int) (a51 : Nat) (a52 : List DV) : DT cfz := (.go 12 [] [] .fin)
theorem k76_0 (a48 a49 a50 : Int) (a51 : Nat) (a52 : List DV) : xrun cfz 76 (D76_0 a48 a49 a50 a51 a52) [] (st76 (.c0 a48 a49 a50 a51 a52)) = (B76 (.c0 a48 a49 a50 a51 a52)).mach st76 out76 := by kernel_rfl
theorem ok76 : ∀ s, ∃ d, xrun cfz 76 d [] (st76 s) = (B76 s).mach st76 out76
  | .c0 a48 a49 a50 a51 a52 => ⟨_, k76_0 a48 a49 a50 a51 a52⟩
theorem f76 (a48 a49 a50 : Int) (a51 : Nat) (a52 : List DV) (v : Int) (h : F76 a48 a49 a50 a51 a52 = some v) : PureCalls cfz.P cfz.glob 76 [(.agg [(aI a48), (aI a49), (aI a50), (.d (.sl a51 a52))])] (out76 v) := tree_pure knil ok76 (s := .c0 a48 a49 a50 a51 a52) rfl (by kernel_rfl) v h
inductive S77 where
  | c0 (a54 a55 a56 : Int) (a57 : Nat) (a58 : List DV)
def out77 (v : Int) : AV := (.d (.v (.int .i64 v)))
noncomputable def st77 : S77 → ASt
  | .c0 a54 a55 a56 a57 a58 => ent cfz 77 [(.agg [(aI a54), (aI a55), (aI a56), (.d (.sl a57 a58))])]
noncomputable def B77 : S77 → Tr S77 (Int)
  | .c0 a54 a55 a56 a57 a58 => (.ask (.in64 (a56 - 1)) (.ret (a56 - 1)))
noncomputable def F77 (a54 a55 a56 : Int) (a57 : Nat) (a58 : List DV) : Option (Int) := res B77 (.c0 a54 a55 a56 a57 a58)
noncomputable def D77_0 (a54 a55 a56 : Int) (a57 : Nat) (a58 : List DV) : DT cfz := (.go 13 [] [] .fin)
theorem k77_0 (a54 a55 a56 : Int) (a57 : Nat) (a58 : List DV) : xrun cfz 77 (D77_0 a54 a55 a56 a57 a58) [] (st77 (.c0 a54 a55 a56 a57 a58)) = (B77 (.c0 a54 a55 a56 a57 a58)).mach st77 out77 := by kernel_rfl
theorem ok77 : ∀ s, ∃ d, xrun cfz 77 d [] (st77 s) = (B77 s).mach st77 out77
  | .c0 a54 a55 a56 a57 a58 => ⟨_, k77_0 a54 a55 a56 a57 a58⟩
theorem f77 (a54 a55 a56 : Int) (a57 : Nat) (a58 : List DV) (v : Int) (h : F77 a54 a55 a56 a57 a58 = some v) : PureCalls cfz.P cfz.glob 77 [(.agg [(aI a54), (aI a55), (aI a56), (.d (.sl a57 a58))])] (out77 v) := tree_pure knil ok77 (s := .c0 a54 a55 a56 a57 a58) rfl (by kernel_rfl) v h
inductive S68 where
  | c0 (a10 a11 a12 : Int) (a13 : Nat) (a14 : List DV)
def out68 (v : Int) : AV := (.d (.v (.int .i64 v)))
noncomputable def st68 : S68 → ASt
  | .c0 a10 a11 a12 a13 a14 => ent cfz 68 [(.agg [(aI a10), (aI a11), (aI a12), (.d (.sl a13 a14))])]
noncomputable def B68 : S68 → Tr S68 (Int)
  | .c0 a10 a11 a12 a13 a14 => (.bind (F71) fun v15 =>
  (.sees [] (.bind (F72 a10 a11 a12 a13 a14) fun v21 =>
  (.bind (F73 a10 a11 a12 a13 a14) fun v27 =>
  (.bind (F38 v21 0 255) fun v34 =>
  (.sees [(.agg [(aI a10), (aI a11), (aI a12), (.d (.sl a13 a14))])] (.sees [(.agg [(aI a10), (aI a11), (aI a12), (.d (.sl a13 a14))])] (.sees [(aI v21), (aI 0), (aI 255)] (.br (v34 != 0)
  (.ret v34)
  (.bind (F74 a10 a11 a12 a13 a14) fun v40 =>
  (.bind (F75 a10 a11 a12 a13 a14) fun v46 =>
  (.bind (F38 v40 1 64) fun v47 =>
  (.sees [(.agg [(aI a10), (aI a11), (aI a12), (.d (.sl a13 a14))])] (.sees [(.agg [(aI a10), (aI a11), (aI a12), (.d (.sl a13 a14))])] (.sees [(aI v40), (aI 1), (aI 64)] (.br (v47 != 0)
  (.ret v47)
  (.bind (F76 a10 a11 a12 a13 a14) fun v53 =>
  (.bind (F77 a10 a11 a12 a13 a14) fun v59 =>
  (.bind (F38 v53 0 v59) fun v60 =>
  (.sees [(.agg [(aI a10), (aI a11), (aI a12), (.d (.sl a13 a14))])] (.sees [(.agg [(aI a10), (aI a11), (aI a12), (.d (.sl a13 a14))])] (.sees [(aI v53), (aI 0), (aI v59)] (.br (v60 != 0)
  (.ret v60)
  (.bind (F39 (decide ((↑a13 : Int) > 12)) 5) fun v61 =>
  (.sees [(.d (.v (.bool (decide ((↑a13 : Int) > 12))))), (aI 5)] (.ret v61))))))))))))))))))))))))))
noncomputable def F68 (a10 a11 a12 : Int) (a13 : Nat) (a14 : List DV) : Option (Int) := res B68 (.c0 a10 a11 a12 a13 a14)
noncomputable def D68_0 (a10 a11 a12 : Int) (a13 : Nat) (a14 : List DV) : DT cfz := (.go 8 [] [] (.bind (f71) fun v15 => (.go 22 [(.ck 0), (.br true)] [1, 2, 3] (.bind (f72 a10 a11 a12 a13 a14) fun v21 => (.bind (f73 a10 a11 a12 a13 a14) fun v27 => (.bind (f38 v21 0 255) fun v34 => (.go 6 [(.ck 1), (.ck 2), (.ck 3)] [] (.split 22 (.go 7 [(.br true)] [0] .fin) (.go 25 [(.br false), (.br true)] [0, 1, 2, 3, 4] (.bind (f74 a10 a11 a12 a13 a14) fun v40 => (.bind (f75 a10 a11 a12 a13 a14) fun v46 => (.bind (f38 v40 1 64) fun v47 => (.go 6 [(.ck 4), (.ck 5), (.ck 6)] [] (.split 22 (.go 7 [(.br true)] [0] .fin) (.go 25 [(.br false), (.br true)] [0, 1, 2, 3, 4] (.bind (f76 a10 a11 a12 a13 a14) fun v53 => (.bind (f77 a10 a11 a12 a13 a14) fun v59 => (.bind (f38 v53 0 v59) fun v60 => (.go 6 [(.ck 7), (.ck 8), (.ck 9)] [] (.split 22 (.go 7 [(.br true)] [0] .fin) (.go 21 [(.br false), (.br false)] [0, 1, 2] (.bind (f39 (decide ((↑a13 : Int) > 12)) 5) fun v61 => (.go 4 [(.ck 10)] [] .fin)))))))))))))))))))))))
theorem k68_0 (a10 a11 a12 : Int) (a13 : Nat) (a14 : List DV) : xrun cfz 68 (D68_0 a10 a11 a12 a13 a14) [] (st68 (.c0 a10 a11 a12 a13 a14)) = (B68 (.c0 a10 a11 a12 a13 a14)).mach st68 out68 := by kernel_rfl
theorem ok68 : ∀ s, ∃ d, xrun cfz 68 d [] (st68 s) = (B68 s).mach st68 out68
  | .c0 a10 a11 a12 a13 a14 => ⟨_, k68_0 a10 a11 a12 a13 a14⟩
theorem f68 (a10 a11 a12 : Int) (a13 : Nat) (a14 : List DV) (v : Int) (h : F68 a10 a11 a12 a13 a14 = some v) : PureCalls cfz.P cfz.glob 68 [(.agg [(aI a10), (aI a11), (aI a12), (.d (.sl a13 a14))])] (out68 v) := tree_pure knil ok68 (s := .c0 a10 a11 a12 a13 a14) rfl (by kernel_rfl) v h
inductive S67 where
  | c0 (a4 : Nat) (a5 : List DV)
  | c1 (x6 : Nat) (x7 : List DV) (x8 y9 : Int)
  | c2 (y63 y64 : Nat) (y65 : List DV) (x66 : Nat) (x67 : List DV) (x68 y69 : Int) (y71 : Nat)
def out67 (v : Nat × List DV) : AV := (.d (.sl v.fst v.snd))
noncomputable def td67_0 : List AItem := [(.code (cd cfz.P 67 [1, 1, 0, 1, 0, 0])), (.inLoop (cd cfz.P 67 [1, 1, 0, 1, 0, 0])), (.inBlock 0), (.code (cd cfz.P 67 [1, 1, 1]))]
noncomputable def st67 : S67 → ASt
  | .c0 a4 a5 => ent cfz 67 [(.d (.sl a4 a5)), (.d (.v (.func (.func 68) (#[]) (#[]))))]
  | .c1 x6 x7 x8 y9 => ⟨⟨67, sp 22 0 [(1, (.d (.v (.func (.func 68) (#[]) (#[]))))), (5, (.d (.v (.slice .none 0 0)))), (8, (.d (.sl x6 x7))), (9, (aI x8)), (10, (aI y9))], td67_0, [], false, .none⟩, [], []⟩
  | .c2 y63 y64 y65 x66 x67 x68 y69 y71 => ⟨⟨67, sp 22 0 [(1, (.d (.v (.func (.func 68) (#[]) (#[]))))), (5, (.own 2 y63 1 y64 y65)), (8, (.d (.sl x66 x67))), (9, (aI x68)), (10, (aI y69))], td67_0, [], false, .none⟩, [], [.dead, (.tail 0), (.tail y71)]⟩
noncomputable def B67 : S67 → Tr S67 (Nat × List DV)
  | .c0 a4 a5 => (.nxt (.c1 a4 a5 ((↑a4 : Int)) 0))
  | .c1 x6 x7 x8 y9 => (.br (decide (y9 < x8))
  (.ask (.le 0 y9) (.ask (.lt y9 ((↑x6 : Int))) (.ask (.leN (y9.toNat * 4) x7.length) (.ask (.leN 4 ((List.drop (y9.toNat * 4) x7).length)) (.ask (.prop (List.map AV.d (List.take 4 (List.drop (y9.toNat * 4) x7)) = [AV.d (DV.v (Value.int IntKind.i64 (dI (cel x7 (y9.toNat * 4))))), AV.d (DV.v (Value.int IntKind.i64 (dI (cel x7 (y9.toNat * 4 + 1))))), AV.d (DV.v (Value.int IntKind.i64 (dI (cel x7 (y9.toNat * 4 + 2))))), AV.d (DV.sl (dN (cel x7 (y9.toNat * 4 + 3))) (dL (cel x7 (y9.toNat * 4 + 3))))])) (.bind (F68 (dI (cel x7 (y9.toNat * 4))) (dI (cel x7 (y9.toNat * 4 + 1))) (dI (cel x7 (y9.toNat * 4 + 2))) (dN (cel x7 (y9.toNat * 4 + 3))) (dL (cel x7 (y9.toNat * 4 + 3)))) fun v62 =>
  (.sees [(.agg [(aI (dI (cel x7 (y9.toNat * 4)))), (aI (dI (cel x7 (y9.toNat * 4 + 1)))), (aI (dI (cel x7 (y9.toNat * 4 + 2)))), (.d (.sl (dN (cel x7 (y9.toNat * 4 + 3))) (dL (cel x7 (y9.toNat * 4 + 3)))))])] (.ask (.in64 (y9 + 1)) (.nxt (.c2 0 1 [(.v (.int .i64 v62))] x6 x7 x8 (y9 + 1) 0))))))))))
  (.ret (0, [])))
  | .c2 y63 y64 y65 x66 x67 x68 y69 y71 => (.br (decide (y69 < x68))
  (.ask (.le 0 y69) (.ask (.lt y69 ((↑x66 : Int))) (.ask (.leN (y69.toNat * 4) x67.length) (.ask (.leN 4 ((List.drop (y69.toNat * 4) x67).length)) (.ask (.prop (List.map AV.d (List.take 4 (List.drop (y69.toNat * 4) x67)) = [AV.d (DV.v (Value.int IntKind.i64 (dI (cel x67 (y69.toNat * 4))))), AV.d (DV.v (Value.int IntKind.i64 (dI (cel x67 (y69.toNat * 4 + 1))))), AV.d (DV.v (Value.int IntKind.i64 (dI (cel x67 (y69.toNat * 4 + 2))))), AV.d (DV.sl (dN (cel x67 (y69.toNat * 4 + 3))) (dL (cel x67 (y69.toNat * 4 + 3))))])) (.bind (F68 (dI (cel x67 (y69.toNat * 4))) (dI (cel x67 (y69.toNat * 4 + 1))) (dI (cel x67 (y69.toNat * 4 + 2))) (dN (cel x67 (y69.toNat * 4 + 3))) (dL (cel x67 (y69.toNat * 4 + 3)))) fun v72 =>
  (.sees [(.agg [(aI (dI (cel x67 (y69.toNat * 4)))), (aI (dI (cel x67 (y69.toNat * 4 + 1)))), (aI (dI (cel x67 (y69.toNat * 4 + 2)))), (.d (.sl (dN (cel x67 (y69.toNat * 4 + 3))) (dL (cel x67 (y69.toNat * 4 + 3)))))])] (.ask (.eqN y63 y71) (.ask (.fits (y64 + 1) 8) (.ask (.in64 (y69 + 1)) (.nxt (.c2 (y71 + 1) (y64 + 1) (y65 ++ [DV.v (Value.int IntKind.i64 v72)]) x66 x67 x68 (y69 + 1) (y71 + 1)))))))))))))
  (.ret (y64, y65)))
noncomputable def F67 (a4 : Nat) (a5 : List DV) : Option (Nat × List DV) := res B67 (.c0 a4 a5)
noncomputable def D67_0 (a4 : Nat) (a5 : List DV) : DT cfz := (.go 17 [] [] (.cut 0 [[1, 5, 8, 9, 10]] []))
theorem k67_0 (a4 : Nat) (a5 : List DV) : xrun cfz 67 (D67_0 a4 a5) [] (st67 (.c0 a4 a5)) = (B67 (.c0 a4 a5)).mach st67 out67 := by kernel_rfl
noncomputable def D67_1 (x6 : Nat) (x7 : List DV) (x8 y9 : Int) : DT cfz := (.go 5 [] [] (.split 11 (.go 15 [(.br true), (.as (.agg [(aI (dI (cel x7 (y9.toNat * 4)))), (aI (dI (cel x7 (y9.toNat * 4 + 1)))), (aI (dI (cel x7 (y9.toNat * 4 + 2)))), (.d (.sl (dN (cel x7 (y9.toNat * 4 + 3))) (dL (cel x7 (y9.toNat * 4 + 3)))))]))] [0] (.bind (f68 (dI (cel x7 (y9.toNat * 4))) (dI (cel x7 (y9.toNat * 4 + 1))) (dI (cel x7 (y9.toNat * 4 + 2))) (dN (cel x7 (y9.toNat * 4 + 3))) (dL (cel x7 (y9.toNat * 4 + 3)))) fun v62 => (.go 11 [(.ck 0)] [1, 2, 3] (.cut 3 [[1, 5, 8, 9, 10]] [0])))) (.go 8 [(.br false)] [0] .fin)))
theorem k67_1 (x6 : Nat) (x7 : List DV) (x8 y9 : Int) : xrun cfz 67 (D67_1 x6 x7 x8 y9) [] (st67 (.c1 x6 x7 x8 y9)) = (B67 (.c1 x6 x7 x8 y9)).mach st67 out67 := by kernel_rfl
noncomputable def D67_2 (y63 y64 : Nat) (y65 : List DV) (x66 : Nat) (x67 : List DV) (x68 y69 : Int) (y71 : Nat) : DT cfz := (.go 5 [] [] (.split 11 (.go 15 [(.br true), (.as (.agg [(aI (dI (cel x67 (y69.toNat * 4)))), (aI (dI (cel x67 (y69.toNat * 4 + 1)))), (aI (dI (cel x67 (y69.toNat * 4 + 2)))), (.d (.sl (dN (cel x67 (y69.toNat * 4 + 3))) (dL (cel x67 (y69.toNat * 4 + 3)))))]))] [0] (.bind (f68 (dI (cel x67 (y69.toNat * 4))) (dI (cel x67 (y69.toNat * 4 + 1))) (dI (cel x67 (y69.toNat * 4 + 2))) (dN (cel x67 (y69.toNat * 4 + 3))) (dL (cel x67 (y69.toNat * 4 + 3)))) fun v72 => (.go 11 [(.ck 0)] [2, 3] (.cut 3 [[1, 5, 8, 9, 10]] [])))) (.go 8 [(.br false)] [0] .fin)))
theorem k67_2 (y63 y64 : Nat) (y65 : List DV) (x66 : Nat) (x67 : List DV) (x68 y69 : Int) (y71 : Nat) : xrun cfz 67 (D67_2 y63 y64 y65 x66 x67 x68 y69 y71) [] (st67 (.c2 y63 y64 y65 x66 x67 x68 y69 y71)) = (B67 (.c2 y63 y64 y65 x66 x67 x68 y69 y71)).mach st67 out67 := by kernel_rfl
theorem ok67 : ∀ s, ∃ d, xrun cfz 67 d [] (st67 s) = (B67 s).mach st67 out67
  | .c0 a4 a5 => ⟨_, k67_0 a4 a5⟩
  | .c1 x6 x7 x8 y9 => ⟨_, k67_1 x6 x7 x8 y9⟩
  | .c2 y63 y64 y65 x66 x67 x68 y69 y71 => ⟨_, k67_2 y63 y64 y65 x66 x67 x68 y69 y71⟩
theorem f67 (a4 : Nat) (a5 : List DV) (v : Nat × List DV) (h : F67 a4 a5 = some v) : PureCalls cfz.P cfz.glob 67 [(.d (.sl a4 a5)), (.d (.v (.func (.func 68) (#[]) (#[]))))] (out67 v) := tree_pure knil ok67 (s := .c0 a4 a5) rfl (by kernel_rfl) v h
inductive S53 where
  | c0 (a2 : Nat) (a3 : List DV)
def out53 (v : Int) : AV := (.d (.v (.int .i64 v)))
noncomputable def st53 : S53 → ASt
  | .c0 a2 a3 => ent cfz 53 [(.d (.sl a2 a3))]
noncomputable def B53 : S53 → Tr S53 (Int)
  | .c0 a2 a3 => (.br (decide ((↑a2 : Int) > 64))
  (.ret 5)
  (.bind (F67 a2 a3) fun v73 =>
  (.sees [(.d (.sl a2 a3)), (.d (.v (.func (.func 68) (#[]) (#[]))))] (.bind (F37 v73.fst v73.snd) fun v80 =>
  (.sees [(.d (.sl v73.fst v73.snd))] (.ret v80))))))
noncomputable def F53 (a2 : Nat) (a3 : List DV) : Option (Int) := res B53 (.c0 a2 a3)
noncomputable def D53_0 (a2 : Nat) (a3 : List DV) : DT cfz := (.go 11 [] [] (.split 5 (.go 6 [(.br true)] [0] .fin) (.go 5 [(.br false)] [0] (.bind (f67 a2 a3) fun v73 => (.go 1 [(.ck 0)] [] (.bind (f37 v73.fst v73.snd) fun v80 => (.go 4 [(.ck 1)] [] .fin)))))))
theorem k53_0 (a2 : Nat) (a3 : List DV) : xrun cfz 53 (D53_0 a2 a3) [] (st53 (.c0 a2 a3)) = (B53 (.c0 a2 a3)).mach st53 out53 := by kernel_rfl
theorem ok53 : ∀ s, ∃ d, xrun cfz 53 d [] (st53 s) = (B53 s).mach st53 out53
  | .c0 a2 a3 => ⟨_, k53_0 a2 a3⟩
theorem f53 (a2 : Nat) (a3 : List DV) (v : Int) (h : F53 a2 a3 = some v) : PureCalls cfz.P cfz.glob 53 [(.d (.sl a2 a3))] (out53 v) := tree_pure knil ok53 (s := .c0 a2 a3) rfl (by kernel_rfl) v h
inductive S54 where
  | c0 (a92 : Nat) (a93 : List DV) (a94 : Nat) (a95 : List DV)
  | c1 (x96 : Nat) (x97 : List DV) (x98 : Nat) (x99 : List DV) (x0 x1 : Int)
def out54 (v : Bool) : AV := (.d (.v (.bool v)))
noncomputable def st54 : S54 → ASt
  | .c0 a92 a93 a94 a95 => ent cfz 54 [(.d (.sl a92 a93)), (.d (.sl a94 a95))]
  | .c1 x96 x97 x98 x99 x0 x1 => ⟨⟨54, sp 26 0 [(0, (.d (.sl x96 x97))), (1, (.d (.sl x98 x99))), (12, (aI x0)), (13, (aI x1))], [(.code (cd cfz.P 54 [1, 1, 0, 1, 0, 0])), (.inLoop (cd cfz.P 54 [1, 1, 0, 1, 0, 0])), (.inBlock 0), (.code (cd cfz.P 54 [1, 1, 1]))], [], false, .none⟩, [], []⟩
noncomputable def B54 : S54 → Tr S54 (Bool)
  | .c0 a92 a93 a94 a95 => (.br ((↑a92 : Int) != (↑a94 : Int))
  (.ret false)
  (.nxt (.c1 a92 a93 a94 a95 ((↑a92 : Int)) 0)))
  | .c1 x96 x97 x98 x99 x0 x1 => (.br (decide (x1 < x0))
  (.ask (.le 0 x1) (.ask (.lt x1 ((↑x96 : Int))) (.ask (.leN (x1.toNat * 1) x97.length) (.ask (.prop (Option.map AV.d (List.drop (x1.toNat * 1) x97)[0]? = some (AV.d (DV.v (Value.int IntKind.u8 (dI (cel x97 (x1.toNat * 1)))))))) (.ask (.le 0 x1) (.ask (.lt x1 ((↑x98 : Int))) (.ask (.leN (x1.toNat * 1) x99.length) (.ask (.prop (Option.map AV.d (List.drop (x1.toNat * 1) x99)[0]? = some (AV.d (DV.v (Value.int IntKind.u8 (dI (cel x99 (x1.toNat * 1)))))))) (.br (dI (cel x97 (x1.toNat * 1)) != dI (cel x99 (x1.toNat * 1)))
  (.ret false)
  (.ask (.in64 (x1 + 1)) (.nxt (.c1 x96 x97 x98 x99 x0 (x1 + 1)))))))))))))
  (.ret true))
noncomputable def F54 (a92 : Nat) (a93 : List DV) (a94 : Nat) (a95 : List DV) : Option (Bool) := res B54 (.c0 a92 a93 a94 a95)
noncomputable def D54_0 (a92 : Nat) (a93 : List DV) (a94 : Nat) (a95 : List DV) : DT cfz := (.go 13 [] [] (.split 10 (.go 6 [(.br true)] [0] .fin) (.go 11 [(.br false)] [0] (.cut 0 [[0, 1, 12, 13]] []))))
theorem k54_0 (a92 : Nat) (a93 : List DV) (a94 : Nat) (a95 : List DV) : xrun cfz 54 (D54_0 a92 a93 a94 a95) [] (st54 (.c0 a92 a93 a94 a95)) = (B54 (.c0 a92 a93 a94 a95)).mach st54 out54 := by kernel_rfl
noncomputable def D54_1 (x96 : Nat) (x97 : List DV) (x98 : Nat) (x99 : List DV) (x0 x1 : Int) : DT cfz := (.go 5 [] [] (.split 14 (.go 12 [(.br true), (.as (a8 (dI (cel x97 (x1.toNat * 1))))), (.as (a8 (dI (cel x99 (x1.toNat * 1)))))] [0] (.split 24 (.go 6 [(.br true)] [0] .fin) (.go 8 [(.br false)] [0] (.cut 0 [[0, 1, 12, 13]] [])))) (.go 7 [(.br false)] [0] .fin)))
theorem k54_1 (x96 : Nat) (x97 : List DV) (x98 : Nat) (x99 : List DV) (x0 x1 : Int) : xrun cfz 54 (D54_1 x96 x97 x98 x99 x0 x1) [] (st54 (.c1 x96 x97 x98 x99 x0 x1)) = (B54 (.c1 x96 x97 x98 x99 x0 x1)).mach st54 out54 := by kernel_rfl
theorem ok54 : ∀ s, ∃ d, xrun cfz 54 d [] (st54 s) = (B54 s).mach st54 out54
  | .c0 a92 a93 a94 a95 => ⟨_, k54_0 a92 a93 a94 a95⟩
  | .c1 x96 x97 x98 x99 x0 x1 => ⟨_, k54_1 x96 x97 x98 x99 x0 x1⟩
theorem f54 (a92 : Nat) (a93 : List DV) (a94 : Nat) (a95 : List DV) (v : Bool) (h : F54 a92 a93 a94 a95 = some v) : PureCalls cfz.P cfz.glob 54 [(.d (.sl a92 a93)), (.d (.sl a94 a95))] (out54 v) := tree_pure knil ok54 (s := .c0 a92 a93 a94 a95) rfl (by kernel_rfl) v h
inductive S30 where
  | c0 (a0 : Nat) (a1 : List DV)
  | c1 (x84 : Nat) (x85 : List DV) (x86 y87 : Int) (y88 : MID)
  | c2 (y89 : Bool) (x90 y91 : Int) (x0 : MID)
  | c3 (x0 x1 : Nat) (x2 : List DV) (x3 : Bool) (x9 xa : Int) (xb : MID) (xc : Nat)
def out30 (v : Nat × List DV × Int) : AV := (.tup [(.d (.sl v.fst v.snd.fst)), (.d (.v (.int .i64 v.snd.snd)))])
noncomputable def td30_0 : List AItem := [(.code (cd cfz.P 30 [1, 0, 1, 1, 1, 1, 1, 1, 0, 1, 0, 0])), (.inLoop (cd cfz.P 30 [1, 0, 1, 1, 1, 1, 1, 1, 0, 1, 0, 0])), (.inBlock 2), (.code (cd cfz.P 30 [1, 0, 1, 1, 1, 1, 1, 1, 1])), (.inScope (cd cfz.P 30 [1, 0]))]
noncomputable def st30 : S30 → ASt
  | .c0 a0 a1 => ent cfz 30 [(.d (.sl a0 a1))]
  | .c1 x84 x85 x86 y87 y88 => ⟨⟨30, sp 95 0 [(0, (.d (.sl x84 x85))), (5, (.mp 1)), (27, (.d (.sl x84 x85))), (28, (aI x86)), (29, (aI y87))], [(.code (cd cfz.P 30 [1, 0, 1, 1, 0, 1, 0, 0])), (.inLoop (cd cfz.P 30 [1, 0, 1, 1, 0, 1, 0, 0])), (.inBlock 0), (.code (cd cfz.P 30 [1, 0, 1, 1, 1])), (.inScope (cd cfz.P 30 [1, 0]))], [], false, .none⟩, [], [(.tail 0), (.mp (.ia .i64 y88))]⟩
  | .c2 y89 x90 y91 x0 => ⟨⟨30, sp 95 0 [(5, (.mp 1)), (10, (.d (.v (.slice .none 0 0)))), (11, (.d (.v (.bool y89)))), (75, (aI x90)), (76, (aI y91))], td30_0, [], false, .none⟩, [], [(.tail 0), (.mp (.ia .i64 x0))]⟩
  | .c3 x0 x1 x2 x3 x9 xa xb xc => ⟨⟨30, sp 95 0 [(5, (.mp 1)), (10, (.own 3 x0 1 x1 x2)), (11, (.d (.v (.bool x3)))), (75, (aI x9)), (76, (aI xa))], td30_0, [], false, .none⟩, [], [(.tail 0), (.mp (.ia .i64 xb)), .dead, (.tail xc)]⟩
noncomputable def B30 : S30 → Tr S30 (Nat × List DV × Int)
  | .c0 a0 a1 => (.bind (F53 a0 a1) fun v81 =>
  (.sees [(.d (.sl a0 a1))] (.bind (F39 ((↑a0 : Int) == 0) 12) fun v82 =>
  (.sees [(.d (.v (.bool ((↑a0 : Int) == 0)))), (aI 12)] (.bind (F37 2 [(.v (.int .i64 v81)), (.v (.int .i64 v82))]) fun v83 =>
  (.sees [(.d (.sl 2 [(vI v81), (vI v82)]))] (.br (v83 != 0)
  (.ret (0, [], v83))
  (.nxt (.c1 a0 a1 ((↑a0 : Int)) 0 [])))))))))
  | .c1 x84 x85 x86 y87 y88 => (.br (decide (y87 < x86))
  (.ask (.le 0 y87) (.ask (.lt y87 ((↑x84 : Int))) (.ask (.leN (y87.toNat * 4) x85.length) (.ask (.leN 4 ((List.drop (y87.toNat * 4) x85).length)) (.ask (.prop (List.map AV.d (List.take 4 (List.drop (y87.toNat * 4) x85)) = [AV.d (DV.v (Value.int IntKind.i64 (dI (cel x85 (y87.toNat * 4))))), AV.d (DV.v (Value.int IntKind.i64 (dI (cel x85 (y87.toNat * 4 + 1))))), AV.d (DV.v (Value.int IntKind.i64 (dI (cel x85 (y87.toNat * 4 + 2))))), AV.d (DV.sl (dN (cel x85 (y87.toNat * 4 + 3))) (dL (cel x85 (y87.toNat * 4 + 3))))])) (.ask (.prop (List.map AV.d (mgetD y88 (dI (cel x85 (y87.toNat * 4 + 1))) (List.map weakZ #[Value.int IntKind.i64 0, Value.int IntKind.i64 0, Value.int IntKind.i64 0, Value.slice none 0 0].toList)) = [AV.d (DV.v (Value.int IntKind.i64 (dI (cel (mgetD y88 (dI (cel x85 (y87.toNat * 4 + 1))) [DV.v (Value.int IntKind.i64 0), DV.v (Value.int IntKind.i64 0), DV.v (Value.int IntKind.i64 0), DV.sl 0 []]) 0)))), AV.d (DV.v (Value.int IntKind.i64 (dI (cel (mgetD y88 (dI (cel x85 (y87.toNat * 4 + 1))) [DV.v (Value.int IntKind.i64 0), DV.v (Value.int IntKind.i64 0), DV.v (Value.int IntKind.i64 0), DV.sl 0 []]) 1)))), AV.d (DV.v (Value.int IntKind.i64 (dI (cel (mgetD y88 (dI (cel x85 (y87.toNat * 4 + 1))) [DV.v (Value.int IntKind.i64 0), DV.v (Value.int IntKind.i64 0), DV.v (Value.int IntKind.i64 0), DV.sl 0 []]) 2)))), AV.d (DV.sl (dN (cel (mgetD y88 (dI (cel x85 (y87.toNat * 4 + 1))) [DV.v (Value.int IntKind.i64 0), DV.v (Value.int IntKind.i64 0), DV.v (Value.int IntKind.i64 0), DV.sl 0 []]) 3)) (dL (cel (mgetD y88 (dI (cel x85 (y87.toNat * 4 + 1))) [DV.v (Value.int IntKind.i64 0), DV.v (Value.int IntKind.i64 0), DV.v (Value.int IntKind.i64 0), DV.sl 0 []]) 3)))])) (.br (dI (cel x85 (y87.toNat * 4)) != dI (cel (List.drop 0 x85) 0))
  (.ask (.lt 0 ((↑x84 : Int))) (.ask (.leN 0 x85.length) (.ask (.leN 0 ((List.drop 0 x85).length)) (.ask (.prop (Option.map AV.d (List.drop 0 (List.drop 0 x85))[0]? = some (AV.d (DV.v (Value.int IntKind.i64 (dI (cel (List.drop 0 x85) 0))))))) (.ask (.eqB (dI (cel x85 (y87.toNat * 4)) != dI (cel (List.drop 0 x85) 0)) true) (.ask (.eqB (dI (cel x85 (y87.toNat * 4)) != dI (cel (List.drop 0 x85) 0)) true) (.ask (.eqB (dI (cel x85 (y87.toNat * 4)) != dI (cel (List.drop 0 x85) 0)) true) (.ask (.eqB (dI (cel x85 (y87.toNat * 4)) != dI (cel (List.drop 0 x85) 0)) true) (.ask (.eqB (dI (cel x85 (y87.toNat * 4)) != dI (cel (List.drop 0 x85) 0)) true) (.ask (.eqB (dI (cel x85 (y87.toNat * 4)) != dI (cel (List.drop 0 x85) 0)) true) (.ask (.eqB (dI (cel x85 (y87.toNat * 4)) != dI (cel (List.drop 0 x85) 0)) true) (.ask (.eqB (dI (cel x85 (y87.toNat * 4)) != dI (cel (List.drop 0 x85) 0)) true) (.ret (0, [], 24))))))))))))))
  (.br (dI (cel x85 (y87.toNat * 4 + 2)) != dI (cel (List.drop 0 x85) 2))
  (.ask (.lt 0 ((↑x84 : Int))) (.ask (.leN 0 x85.length) (.ask (.leN 0 ((List.drop 0 x85).length)) (.ask (.prop (Option.map AV.d (List.drop 0 (List.drop 0 x85))[0]? = some (AV.d (DV.v (Value.int IntKind.i64 (dI (cel (List.drop 0 x85) 0))))))) (.ask (.eqB (dI (cel x85 (y87.toNat * 4)) != dI (cel (List.drop 0 x85) 0)) false) (.ask (.eqB (dI (cel x85 (y87.toNat * 4)) != dI (cel (List.drop 0 x85) 0)) false) (.ask (.eqB (dI (cel x85 (y87.toNat * 4)) != dI (cel (List.drop 0 x85) 0)) false) (.ask (.lt 0 ((↑x84 : Int))) (.ask (.leN 0 x85.length) (.ask (.eqB (dI (cel x85 (y87.toNat * 4)) != dI (cel (List.drop 0 x85) 0)) false) (.ask (.leN 2 ((List.drop 0 x85).length)) (.ask (.eqB (dI (cel x85 (y87.toNat * 4)) != dI (cel (List.drop 0 x85) 0)) false) (.ask (.prop (Option.map AV.d (List.drop 2 (List.drop 0 x85))[0]? = some (AV.d (DV.v (Value.int IntKind.i64 (dI (cel (List.drop 0 x85) 2))))))) (.ask (.eqB (dI (cel x85 (y87.toNat * 4)) != dI (cel (List.drop 0 x85) 0)) false) (.ask (.eqB (dI (cel x85 (y87.toNat * 4)) != dI (cel (List.drop 0 x85) 0)) false) (.ask (.eqB (dI (cel x85 (y87.toNat * 4)) != dI (cel (List.drop 0 x85) 0)) false) (.ask (.eqB (dI (cel x85 (y87.toNat * 4 + 2)) != dI (cel (List.drop 0 x85) 2)) true) (.ask (.eqB (dI (cel x85 (y87.toNat * 4 + 2)) != dI (cel (List.drop 0 x85) 2)) true) (.ask (.eqB (dI (cel x85 (y87.toNat * 4 + 2)) != dI (cel (List.drop 0 x85) 2)) true) (.ret (0, [], 24)))))))))))))))))))))
  (.br (mhas y88 (dI (cel x85 (y87.toNat * 4 + 1))))
  (.bind (F54 (dN (cel (mgetD y88 (dI (cel x85 (y87.toNat * 4 + 1))) [DV.v (Value.int IntKind.i64 0), DV.v (Value.int IntKind.i64 0), DV.v (Value.int IntKind.i64 0), DV.sl 0 []]) 3)) (dL (cel (mgetD y88 (dI (cel x85 (y87.toNat * 4 + 1))) [DV.v (Value.int IntKind.i64 0), DV.v (Value.int IntKind.i64 0), DV.v (Value.int IntKind.i64 0), DV.sl 0 []]) 3)) (dN (cel x85 (y87.toNat * 4 + 3))) (dL (cel x85 (y87.toNat * 4 + 3)))) fun x0 =>
  (.ask (.lt 0 ((↑x84 : Int))) (.ask (.leN 0 x85.length) (.ask (.leN 0 ((List.drop 0 x85).length)) (.ask (.prop (Option.map AV.d (List.drop 0 (List.drop 0 x85))[0]? = some (AV.d (DV.v (Value.int IntKind.i64 (dI (cel (List.drop 0 x85) 0))))))) (.ask (.eqB (dI (cel x85 (y87.toNat * 4)) != dI (cel (List.drop 0 x85) 0)) false) (.ask (.eqB (dI (cel x85 (y87.toNat * 4)) != dI (cel (List.drop 0 x85) 0)) false) (.ask (.eqB (dI (cel x85 (y87.toNat * 4)) != dI (cel (List.drop 0 x85) 0)) false) (.ask (.lt 0 ((↑x84 : Int))) (.ask (.leN 0 x85.length) (.ask (.eqB (dI (cel x85 (y87.toNat * 4)) != dI (cel (List.drop 0 x85) 0)) false) (.ask (.leN 2 ((List.drop 0 x85).length)) (.ask (.eqB (dI (cel x85 (y87.toNat * 4)) != dI (cel (List.drop 0 x85) 0)) false) (.ask (.prop (Option.map AV.d (List.drop 2 (List.drop 0 x85))[0]? = some (AV.d (DV.v (Value.int IntKind.i64 (dI (cel (List.drop 0 x85) 2))))))) (.ask (.eqB (dI (cel x85 (y87.toNat * 4)) != dI (cel (List.drop 0 x85) 0)) false) (.ask (.eqB (dI (cel x85 (y87.toNat * 4)) != dI (cel (List.drop 0 x85) 0)) false) (.ask (.eqB (dI (cel x85 (y87.toNat * 4)) != dI (cel (List.drop 0 x85) 0)) false) (.ask (.eqB (dI (cel x85 (y87.toNat * 4 + 2)) != dI (cel (List.drop 0 x85) 2)) false) (.ask (.eqB ((dI (cel x85 (y87.toNat * 4 + 2)) != dI (cel (List.drop 0 x85) 2)) == false) true) (.ask (.eqB (mhas y88 (dI (cel x85 (y87.toNat * 4 + 1)))) true) (.ask (.eqB (mhas y88 (dI (cel x85 (y87.toNat * 4 + 1)))) true) (.ask (.eqB (mhas y88 (dI (cel x85 (y87.toNat * 4 + 1)))) true) (.ask (.eqB (mhas y88 (dI (cel x85 (y87.toNat * 4 + 1)))) true) (.sees [(.d (.sl (dN (cel (mgetD y88 (dI (cel x85 (y87.toNat * 4 + 1))) [vI 0, vI 0, vI 0, DV.sl 0 []]) 3)) (dL (cel (mgetD y88 (dI (cel x85 (y87.toNat * 4 + 1))) [vI 0, vI 0, vI 0, DV.sl 0 []]) 3)))), (.d (.sl (dN (cel x85 (y87.toNat * 4 + 3))) (dL (cel x85 (y87.toNat * 4 + 3)))))] (.ask (.eqB (mhas y88 (dI (cel x85 (y87.toNat * 4 + 1)))) true) (.ask (.eqB (mhas y88 (dI (cel x85 (y87.toNat * 4 + 1)))) true) (.ask (.eqB (mhas y88 (dI (cel x85 (y87.toNat * 4 + 1)))) true) (.ask (.eqB (dI (cel x85 (y87.toNat * 4 + 2)) != dI (cel (List.drop 0 x85) 2)) false) (.ask (.eqB (dI (cel x85 (y87.toNat * 4 + 2)) != dI (cel (List.drop 0 x85) 2)) false) (.br (!x0)
  (.ret (0, [], 24))
  (.ask (.in64 (y87 + 1)) (.nxt (.c1 x84 x85 x86 (y87 + 1) (mset y88 (dI (cel x85 (y87.toNat * 4 + 1))) [DV.v (Value.int IntKind.i64 (dI (cel x85 (y87.toNat * 4)))), DV.v (Value.int IntKind.i64 (dI (cel x85 (y87.toNat * 4 + 1)))), DV.v (Value.int IntKind.i64 (dI (cel x85 (y87.toNat * 4 + 2)))), DV.sl (dN (cel x85 (y87.toNat * 4 + 3))) (dL (cel x85 (y87.toNat * 4 + 3)))]))))))))))))))))))))))))))))))))))
  (.ask (.lt 0 ((↑x84 : Int))) (.ask (.leN 0 x85.length) (.ask (.leN 0 ((List.drop 0 x85).length)) (.ask (.prop (Option.map AV.d (List.drop 0 (List.drop 0 x85))[0]? = some (AV.d (DV.v (Value.int IntKind.i64 (dI (cel (List.drop 0 x85) 0))))))) (.ask (.eqB (dI (cel x85 (y87.toNat * 4)) != dI (cel (List.drop 0 x85) 0)) false) (.ask (.eqB (dI (cel x85 (y87.toNat * 4)) != dI (cel (List.drop 0 x85) 0)) false) (.ask (.eqB (dI (cel x85 (y87.toNat * 4)) != dI (cel (List.drop 0 x85) 0)) false) (.ask (.lt 0 ((↑x84 : Int))) (.ask (.leN 0 x85.length) (.ask (.eqB (dI (cel x85 (y87.toNat * 4)) != dI (cel (List.drop 0 x85) 0)) false) (.ask (.leN 2 ((List.drop 0 x85).length)) (.ask (.eqB (dI (cel x85 (y87.toNat * 4)) != dI (cel (List.drop 0 x85) 0)) false) (.ask (.prop (Option.map AV.d (List.drop 2 (List.drop 0 x85))[0]? = some (AV.d (DV.v (Value.int IntKind.i64 (dI (cel (List.drop 0 x85) 2))))))) (.ask (.eqB (dI (cel x85 (y87.toNat * 4)) != dI (cel (List.drop 0 x85) 0)) false) (.ask (.eqB (dI (cel x85 (y87.toNat * 4)) != dI (cel (List.drop 0 x85) 0)) false) (.ask (.eqB (dI (cel x85 (y87.toNat * 4)) != dI (cel (List.drop 0 x85) 0)) false) (.ask (.eqB (dI (cel x85 (y87.toNat * 4 + 2)) != dI (cel (List.drop 0 x85) 2)) false) (.ask (.eqB ((dI (cel x85 (y87.toNat * 4 + 2)) != dI (cel (List.drop 0 x85) 2)) == false) true) (.ask (.eqB (mhas y88 (dI (cel x85 (y87.toNat * 4 + 1)))) false) (.ask (.eqB (mhas y88 (dI (cel x85 (y87.toNat * 4 + 1)))) false) (.ask (.eqB (mhas y88 (dI (cel x85 (y87.toNat * 4 + 1)))) false) (.ask (.eqB (mhas y88 (dI (cel x85 (y87.toNat * 4 + 1)))) false) (.ask (.eqB (mhas y88 (dI (cel x85 (y87.toNat * 4 + 1)))) false) (.ask (.eqB (mhas y88 (dI (cel x85 (y87.toNat * 4 + 1)))) false) (.ask (.eqB (mhas y88 (dI (cel x85 (y87.toNat * 4 + 1)))) false) (.ask (.eqB (dI (cel x85 (y87.toNat * 4 + 2)) != dI (cel (List.drop 0 x85) 2)) false) (.ask (.eqB (dI (cel x85 (y87.toNat * 4 + 2)) != dI (cel (List.drop 0 x85) 2)) false) (.ask (.in64 (y87 + 1)) (.nxt (.c1 x84 x85 x86 (y87 + 1) (mset y88 (dI (cel x85 (y87.toNat * 4 + 1))) [DV.v (Value.int IntKind.i64 (dI (cel x85 (y87.toNat * 4)))), DV.v (Value.int IntKind.i64 (dI (cel x85 (y87.toNat * 4 + 1)))), DV.v (Value.int IntKind.i64 (dI (cel x85 (y87.toNat * 4 + 2)))), DV.sl (dN (cel x85 (y87.toNat * 4 + 3))) (dL (cel x85 (y87.toNat * 4 + 3)))]))))))))))))))))))))))))))))))))))))))))
  (.ask (.lt 0 ((↑x84 : Int))) (.ask (.leN 0 x85.length) (.ask (.leN 2 ((List.drop 0 x85).length)) (.ask (.prop (Option.map AV.d (List.drop 2 (List.drop 0 x85))[0]? = some (AV.d (DV.v (Value.int IntKind.i64 (dI (cel (List.drop 0 x85) 2))))))) (.nxt (.c2 true (dI (cel (List.drop 0 x85) 2)) 0 y88)))))))
  | .c2 y89 x90 y91 x0 => (.br (decide (y91 < x90))
  (.ask (.prop (List.map AV.d (mgetD x0 y91 (List.map weakZ #[Value.int IntKind.i64 0, Value.int IntKind.i64 0, Value.int IntKind.i64 0, Value.slice none 0 0].toList)) = [AV.d (DV.v (Value.int IntKind.i64 (dI (cel (mgetD x0 y91 [DV.v (Value.int IntKind.i64 0), DV.v (Value.int IntKind.i64 0), DV.v (Value.int IntKind.i64 0), DV.sl 0 []]) 0)))), AV.d (DV.v (Value.int IntKind.i64 (dI (cel (mgetD x0 y91 [DV.v (Value.int IntKind.i64 0), DV.v (Value.int IntKind.i64 0), DV.v (Value.int IntKind.i64 0), DV.sl 0 []]) 1)))), AV.d (DV.v (Value.int IntKind.i64 (dI (cel (mgetD x0 y91 [DV.v (Value.int IntKind.i64 0), DV.v (Value.int IntKind.i64 0), DV.v (Value.int IntKind.i64 0), DV.sl 0 []]) 2)))), AV.d (DV.sl (dN (cel (mgetD x0 y91 [DV.v (Value.int IntKind.i64 0), DV.v (Value.int IntKind.i64 0), DV.v (Value.int IntKind.i64 0), DV.sl 0 []]) 3)) (dL (cel (mgetD x0 y91 [DV.v (Value.int IntKind.i64 0), DV.v (Value.int IntKind.i64 0), DV.v (Value.int IntKind.i64 0), DV.sl 0 []]) 3)))])) (.br (!mhas x0 y91)
  (.ret (0, [], 16))
  (.br ((dN (cel (mgetD x0 y91 [DV.v (Value.int IntKind.i64 0), DV.v (Value.int IntKind.i64 0), DV.v (Value.int IntKind.i64 0), DV.sl 0 []]) 3)).beq 0)
  (.ask (.eqN (dN (cel (mgetD x0 y91 [DV.v (Value.int IntKind.i64 0), DV.v (Value.int IntKind.i64 0), DV.v (Value.int IntKind.i64 0), DV.sl 0 []]) 3)) 0) (.ask (.in64 (y91 + 1)) (.nxt (.c2 y89 x90 (y91 + 1) x0))))
  (.ask (.ltN 0 (dN (cel (mgetD x0 y91 [DV.v (Value.int IntKind.i64 0), DV.v (Value.int IntKind.i64 0), DV.v (Value.int IntKind.i64 0), DV.sl 0 []]) 3))) (.ask (.eqN ((dL (cel (mgetD x0 y91 [DV.v (Value.int IntKind.i64 0), DV.v (Value.int IntKind.i64 0), DV.v (Value.int IntKind.i64 0), DV.sl 0 []]) 3)).length) (dN (cel (mgetD x0 y91 [DV.v (Value.int IntKind.i64 0), DV.v (Value.int IntKind.i64 0), DV.v (Value.int IntKind.i64 0), DV.sl 0 []]) 3) * 1)) (.ask (.fits (dN (cel (mgetD x0 y91 [DV.v (Value.int IntKind.i64 0), DV.v (Value.int IntKind.i64 0), DV.v (Value.int IntKind.i64 0), DV.sl 0 []]) 3)) 1) (.ask (.in64 (y91 + 1)) (.nxt (.c3 0 (dN (cel (mgetD x0 y91 [DV.v (Value.int IntKind.i64 0), DV.v (Value.int IntKind.i64 0), DV.v (Value.int IntKind.i64 0), DV.sl 0 []]) 3)) (dL (cel (mgetD x0 y91 [DV.v (Value.int IntKind.i64 0), DV.v (Value.int IntKind.i64 0), DV.v (Value.int IntKind.i64 0), DV.sl 0 []]) 3)) y89 x90 (y91 + 1) x0 0)))))))))
  (.br (!y89)
  (.ret (0, [], 16))
  (.ret (0, [], 0))))
  | .c3 x0 x1 x2 x3 x9 xa xb xc => (.br (decide (xa < x9))
  (.ask (.prop (List.map AV.d (mgetD xb xa (List.map weakZ #[Value.int IntKind.i64 0, Value.int IntKind.i64 0, Value.int IntKind.i64 0, Value.slice none 0 0].toList)) = [AV.d (DV.v (Value.int IntKind.i64 (dI (cel (mgetD xb xa [DV.v (Value.int IntKind.i64 0), DV.v (Value.int IntKind.i64 0), DV.v (Value.int IntKind.i64 0), DV.sl 0 []]) 0)))), AV.d (DV.v (Value.int IntKind.i64 (dI (cel (mgetD xb xa [DV.v (Value.int IntKind.i64 0), DV.v (Value.int IntKind.i64 0), DV.v (Value.int IntKind.i64 0), DV.sl 0 []]) 1)))), AV.d (DV.v (Value.int IntKind.i64 (dI (cel (mgetD xb xa [DV.v (Value.int IntKind.i64 0), DV.v (Value.int IntKind.i64 0), DV.v (Value.int IntKind.i64 0), DV.sl 0 []]) 2)))), AV.d (DV.sl (dN (cel (mgetD xb xa [DV.v (Value.int IntKind.i64 0), DV.v (Value.int IntKind.i64 0), DV.v (Value.int IntKind.i64 0), DV.sl 0 []]) 3)) (dL (cel (mgetD xb xa [DV.v (Value.int IntKind.i64 0), DV.v (Value.int IntKind.i64 0), DV.v (Value.int IntKind.i64 0), DV.sl 0 []]) 3)))])) (.br (!mhas xb xa)
  (.ret (0, [], 16))
  (.br ((dN (cel (mgetD xb xa [DV.v (Value.int IntKind.i64 0), DV.v (Value.int IntKind.i64 0), DV.v (Value.int IntKind.i64 0), DV.sl 0 []]) 3)).beq 0)
  (.ask (.eqN (dN (cel (mgetD xb xa [DV.v (Value.int IntKind.i64 0), DV.v (Value.int IntKind.i64 0), DV.v (Value.int IntKind.i64 0), DV.sl 0 []]) 3)) 0) (.ask (.in64 (xa + 1)) (.nxt (.c3 x0 x1 x2 x3 x9 (xa + 1) xb xc))))
  (.ask (.eqN x0 xc) (.ask (.ltN 0 (dN (cel (mgetD xb xa [DV.v (Value.int IntKind.i64 0), DV.v (Value.int IntKind.i64 0), DV.v (Value.int IntKind.i64 0), DV.sl 0 []]) 3))) (.ask (.eqN ((dL (cel (mgetD xb xa [DV.v (Value.int IntKind.i64 0), DV.v (Value.int IntKind.i64 0), DV.v (Value.int IntKind.i64 0), DV.sl 0 []]) 3)).length) (dN (cel (mgetD xb xa [DV.v (Value.int IntKind.i64 0), DV.v (Value.int IntKind.i64 0), DV.v (Value.int IntKind.i64 0), DV.sl 0 []]) 3) * 1)) (.ask (.fits (x1 + dN (cel (mgetD xb xa [DV.v (Value.int IntKind.i64 0), DV.v (Value.int IntKind.i64 0), DV.v (Value.int IntKind.i64 0), DV.sl 0 []]) 3)) 1) (.ask (.in64 (xa + 1)) (.nxt (.c3 (xc + dN (cel (mgetD xb xa [DV.v (Value.int IntKind.i64 0), DV.v (Value.int IntKind.i64 0), DV.v (Value.int IntKind.i64 0), DV.sl 0 []]) 3)) (x1 + dN (cel (mgetD xb xa [DV.v (Value.int IntKind.i64 0), DV.v (Value.int IntKind.i64 0), DV.v (Value.int IntKind.i64 0), DV.sl 0 []]) 3)) (x2 ++ dL (cel (mgetD xb xa [DV.v (Value.int IntKind.i64 0), DV.v (Value.int IntKind.i64 0), DV.v (Value.int IntKind.i64 0), DV.sl 0 []]) 3)) x3 x9 (xa + 1) xb (xc + dN (cel (mgetD xb xa [DV.v (Value.int IntKind.i64 0), DV.v (Value.int IntKind.i64 0), DV.v (Value.int IntKind.i64 0), DV.sl 0 []]) 3))))))))))))
  (.br (!x3)
  (.ret (0, [], 16))
  (.ret (x1, x2, 0))))
noncomputable def F30 (a0 : Nat) (a1 : List DV) : Option (Nat × List DV × Int) := res B30 (.c0 a0 a1)
noncomputable def D30_0 (a0 : Nat) (a1 : List DV) : DT cfz := (.go 10 [] [] (.bind (f53 a0 a1) fun v81 => (.go 4 [(.ck 0)] [] (.bind (f39 ((↑a0 : Int) == 0) 12) fun v82 => (.go 2 [(.ck 1)] [] (.bind (f37 2 [(vI v81), (vI v82)]) fun v83 => (.go 8 [(.ck 2)] [] (.split 24 (.go 8 [(.br true)] [0] .fin) (.go 16 [(.br false)] [0] (.cut 2 [[0, 5, 27, 28, 29]] []))))))))))
theorem k30_0 (a0 : Nat) (a1 : List DV) : xrun cfz 30 (D30_0 a0 a1) [] (st30 (.c0 a0 a1)) = (B30 (.c0 a0 a1)).mach st30 out30 := by kernel_rfl
noncomputable def D30_1 (x84 : Nat) (x85 : List DV) (x86 y87 : Int) (y88 : MID) : DT cfz := (.go 5 [] [] (.split 30 (.go 27 [(.br true), (.as (.agg [(aI (dI (cel x85 (y87.toNat * 4)))), (aI (dI (cel x85 (y87.toNat * 4 + 1)))), (aI (dI (cel x85 (y87.toNat * 4 + 2)))), (.d (.sl (dN (cel x85 (y87.toNat * 4 + 3))) (dL (cel x85 (y87.toNat * 4 + 3)))))])), .none, .none, (.as (.agg [(aI (dI (cel (mgetD y88 (dI (cel x85 (y87.toNat * 4 + 1))) [vI 0, vI 0, vI 0, DV.sl 0 []]) 0))), (aI (dI (cel (mgetD y88 (dI (cel x85 (y87.toNat * 4 + 1))) [vI 0, vI 0, vI 0, DV.sl 0 []]) 1))), (aI (dI (cel (mgetD y88 (dI (cel x85 (y87.toNat * 4 + 1))) [vI 0, vI 0, vI 0, DV.sl 0 []]) 2))), (.d (.sl (dN (cel (mgetD y88 (dI (cel x85 (y87.toNat * 4 + 1))) [vI 0, vI 0, vI 0, DV.sl 0 []]) 3)) (dL (cel (mgetD y88 (dI (cel x85 (y87.toNat * 4 + 1))) [vI 0, vI 0, vI 0, DV.sl 0 []]) 3))))]))] [0] (.br (dI (cel x85 (y87.toNat * 4)) != dI (cel (List.drop 0 x85) 0)) (.go 8 [.none, (.as (aI (dI (cel (List.drop 0 x85) 0)))), (.br true), (.br true), (.br true), (.br true), (.br true), (.br true), (.br true), (.br true), (.br true), (.br true), (.br false), (.br false), (.br false), (.br false), (.br false), (.br false), (.br true), .none, (.br true)] [0, 13, 14, 15, 16] .fin) (.br (dI (cel x85 (y87.toNat * 4 + 2)) != dI (cel (List.drop 0 x85) 2)) (.go 8 [.none, (.as (aI (dI (cel (List.drop 0 x85) 0)))), (.br false), (.br false), .none, (.br false), (.br false), (.br false), (.br false), (.as (aI (dI (cel (List.drop 0 x85) 2)))), (.br false), (.br false), (.sp .none), (.br true), (.br false), (.br false), (.br false), (.br false), (.br false), (.br false), (.br true), (.br true), (.br true)] [0, 8, 21] .fin) (.br (mhas y88 (dI (cel x85 (y87.toNat * 4 + 1)))) (.bind (f54 (dN (cel (mgetD y88 (dI (cel x85 (y87.toNat * 4 + 1))) [vI 0, vI 0, vI 0, DV.sl 0 []]) 3)) (dL (cel (mgetD y88 (dI (cel x85 (y87.toNat * 4 + 1))) [vI 0, vI 0, vI 0, DV.sl 0 []]) 3)) (dN (cel x85 (y87.toNat * 4 + 3))) (dL (cel x85 (y87.toNat * 4 + 3)))) fun x0 => (.go 1 [.none, (.as (aI (dI (cel (List.drop 0 x85) 0)))), (.br false), (.br false), .none, (.br false), (.br false), (.br false), (.br false), (.as (aI (dI (cel (List.drop 0 x85) 2)))), (.br false), (.br false), (.sp .none), (.br false), (.br true), (.br true), .none, (.br true), (.br true), .none, (.br true), (.ck 0), (.br true), (.br false), (.br true), (.br false)] [0, 8] (.split 66 (.go 7 [(.br true)] [0] .fin) (.go 15 [(.br false)] [0] (.cut 2 [[0, 5, 27, 28, 29]] []))))) (.go 16 [.none, (.as (aI (dI (cel (List.drop 0 x85) 0)))), (.br false), (.br false), .none, (.br false), (.br false), (.br false), (.br false), (.as (aI (dI (cel (List.drop 0 x85) 2)))), (.br false), (.br false), (.sp .none), (.br false), (.br false), (.br false), (.br false), (.br false), (.br false), (.br false), (.br false), (.br false), (.br false), (.br false)] [0, 8, 29] (.cut 2 [[0, 5, 27, 28, 29]] [])))))) (.go 23 [(.br false), (.as (aI (dI (cel (List.drop 0 x85) 2))))] [0, 1] (.cut 2 [[5, 10, 11, 75, 76]] []))))
theorem k30_1 (x84 : Nat) (x85 : List DV) (x86 y87 : Int) (y88 : MID) : xrun cfz 30 (D30_1 x84 x85 x86 y87 y88) [] (st30 (.c1 x84 x85 x86 y87 y88)) = (B30 (.c1 x84 x85 x86 y87 y88)).mach st30 out30 := by kernel_rfl
noncomputable def D30_2 (y89 : Bool) (x90 y91 : Int) (x0 : MID) : DT cfz := (.go 5 [] [] (.split 77 (.go 27 [(.br true), (.as (.agg [(aI (dI (cel (mgetD x0 y91 [vI 0, vI 0, vI 0, DV.sl 0 []]) 0))), (aI (dI (cel (mgetD x0 y91 [vI 0, vI 0, vI 0, DV.sl 0 []]) 1))), (aI (dI (cel (mgetD x0 y91 [vI 0, vI 0, vI 0, DV.sl 0 []]) 2))), (.d (.sl (dN (cel (mgetD x0 y91 [vI 0, vI 0, vI 0, DV.sl 0 []]) 3)) (dL (cel (mgetD x0 y91 [vI 0, vI 0, vI 0, DV.sl 0 []]) 3))))]))] [0] (.split 86 (.go 19 [(.br true), (.br true)] [0, 1] .fin) (.go 6 [(.br false)] [0] (.br ((dN (cel (mgetD x0 y91 [vI 0, vI 0, vI 0, DV.sl 0 []]) 3)).beq 0) (.go 9 [(.br false)] [] (.cut 2 [[5, 10, 11, 75, 76]] [])) (.go 9 [(.br true)] [] (.cut 4 [[5, 10, 11, 75, 76]] [2])))))) (.go 8 [(.br false)] [0] (.split 93 (.go 7 [(.br true)] [0] .fin) (.go 9 [(.br false)] [0] .fin)))))
theorem k30_2 (y89 : Bool) (x90 y91 : Int) (x0 : MID) : xrun cfz 30 (D30_2 y89 x90 y91 x0) [] (st30 (.c2 y89 x90 y91 x0)) = (B30 (.c2 y89 x90 y91 x0)).mach st30 out30 := by kernel_rfl
noncomputable def D30_3 (x0 x1 : Nat) (x2 : List DV) (x3 : Bool) (x9 xa : Int) (xb : MID) (xc : Nat) : DT cfz := (.go 5 [] [] (.split 77 (.go 27 [(.br true), (.as (.agg [(aI (dI (cel (mgetD xb xa [vI 0, vI 0, vI 0, DV.sl 0 []]) 0))), (aI (dI (cel (mgetD xb xa [vI 0, vI 0, vI 0, DV.sl 0 []]) 1))), (aI (dI (cel (mgetD xb xa [vI 0, vI 0, vI 0, DV.sl 0 []]) 2))), (.d (.sl (dN (cel (mgetD xb xa [vI 0, vI 0, vI 0, DV.sl 0 []]) 3)) (dL (cel (mgetD xb xa [vI 0, vI 0, vI 0, DV.sl 0 []]) 3))))]))] [0] (.split 86 (.go 19 [(.br true), (.br true)] [0, 1] .fin) (.go 6 [(.br false)] [0] (.br ((dN (cel (mgetD xb xa [vI 0, vI 0, vI 0, DV.sl 0 []]) 3)).beq 0) (.go 9 [(.br false)] [] (.cut 4 [[5, 10, 11, 75, 76]] [])) (.go 9 [(.br true)] [] (.cut 4 [[5, 10, 11, 75, 76]] [])))))) (.go 8 [(.br false)] [0] (.split 93 (.go 7 [(.br true)] [0] .fin) (.go 9 [(.br false)] [0] .fin)))))
theorem k30_3 (x0 x1 : Nat) (x2 : List DV) (x3 : Bool) (x9 xa : Int) (xb : MID) (xc : Nat) : xrun cfz 30 (D30_3 x0 x1 x2 x3 x9 xa xb xc) [] (st30 (.c3 x0 x1 x2 x3 x9 xa xb xc)) = (B30 (.c3 x0 x1 x2 x3 x9 xa xb xc)).mach st30 out30 := by kernel_rfl
theorem ok30 : ∀ s, ∃ d, xrun cfz 30 d [] (st30 s) = (B30 s).mach st30 out30
  | .c0 a0 a1 => ⟨_, k30_0 a0 a1⟩
  | .c1 x84 x85 x86 y87 y88 => ⟨_, k30_1 x84 x85 x86 y87 y88⟩
  | .c2 y89 x90 y91 x0 => ⟨_, k30_2 y89 x90 y91 x0⟩
  | .c3 x0 x1 x2 x3 x9 xa xb xc => ⟨_, k30_3 x0 x1 x2 x3 x9 xa xb xc⟩
theorem f30 (a0 : Nat) (a1 : List DV) (v : Nat × List DV × Int) (h : F30 a0 a1 = some v) : PureCalls cfz.P cfz.glob 30 [(.d (.sl a0 a1))] (out30 v) := tree_pure knil ok30 (s := .c0 a0 a1) rfl (by kernel_rfl) v h
inductive S41 where
  | c0 (a28 : Nat) (a29 : List DV) (a30 a31 : Int)
def out41 (v : Int) : AV := (.d (.v (.int .i64 v)))
noncomputable def st41 : S41 → ASt
  | .c0 a28 a29 a30 a31 => ent cfz 41 [(.agg [(.d (.sl a28 a29)), (aI a30), (aI a31)])]
noncomputable def B41 : S41 → Tr S41 (Int)
  | .c0 a28 a29 a30 a31 => (.bind (F53 a28 a29) fun x0 =>
  (.bind (F38 a30 0 ((↑a28 : Int))) fun x1 =>
  (.bind (F38 a31 1 8) fun x2 =>
  (.bind (F37 3 [(.v (.int .i64 x0)), (.v (.int .i64 x1)), (.v (.int .i64 x2))]) fun x3 =>
  (.sees [(.d (.sl a28 a29))] (.sees [(aI a30), (aI 0), (aI ((↑a28 : Int)))] (.sees [(aI a31), (aI 1), (aI 8)] (.sees [(.d (.sl 3 [(vI x0), (vI x1), (vI x2)]))] (.ret x3)))))))))
noncomputable def F41 (a28 : Nat) (a29 : List DV) (a30 a31 : Int) : Option (Int) := res B41 (.c0 a28 a29 a30 a31)
noncomputable def D41_0 (a28 : Nat) (a29 : List DV) (a30 a31 : Int) : DT cfz := (.go 7 [] [] (.bind (f53 a28 a29) fun x0 => (.bind (f38 a30 0 ((↑a28 : Int))) fun x1 => (.bind (f38 a31 1 8) fun x2 => (.bind (f37 3 [(vI x0), (vI x1), (vI x2)]) fun x3 => (.go 2 [(.ck 0), (.ck 1), (.ck 2), (.ck 3)] [] .fin))))))
theorem k41_0 (a28 : Nat) (a29 : List DV) (a30 a31 : Int) : xrun cfz 41 (D41_0 a28 a29 a30 a31) [] (st41 (.c0 a28 a29 a30 a31)) = (B41 (.c0 a28 a29 a30 a31)).mach st41 out41 := by kernel_rfl
theorem ok41 : ∀ s, ∃ d, xrun cfz 41 d [] (st41 s) = (B41 s).mach st41 out41
  | .c0 a28 a29 a30 a31 => ⟨_, k41_0 a28 a29 a30 a31⟩
theorem f41 (a28 : Nat) (a29 : List DV) (a30 a31 v : Int) (h : F41 a28 a29 a30 a31 = some v) : PureCalls cfz.P cfz.glob 41 [(.agg [(.d (.sl a28 a29)), (aI a30), (aI a31)])] (out41 v) := tree_pure knil ok41 (s := .c0 a28 a29 a30 a31) rfl (by kernel_rfl) v h
inductive S57 where
  | c0 (a19 : Int)
def out57 (v : Int) : AV := (.d (.v (.int .i64 v)))
noncomputable def st57 : S57 → ASt
  | .c0 a19 => ent cfz 57 [(aI a19)]
noncomputable def B57 : S57 → Tr S57 (Int)
  | .c0 a19 => (.bind (F38 a19 0 7) fun v26 =>
  (.sees [(aI a19), (aI 0), (aI 7)] (.ret v26)))
noncomputable def F57 (a19 : Int) : Option (Int) := res B57 (.c0 a19)
noncomputable def D57_0 (a19 : Int) : DT cfz := (.go 7 [] [] (.bind (f38 a19 0 7) fun v26 => (.go 4 [(.ck 0)] [] .fin)))
theorem k57_0 (a19 : Int) : xrun cfz 57 (D57_0 a19) [] (st57 (.c0 a19)) = (B57 (.c0 a19)).mach st57 out57 := by kernel_rfl
theorem ok57 : ∀ s, ∃ d, xrun cfz 57 d [] (st57 s) = (B57 s).mach st57 out57
  | .c0 a19 => ⟨_, k57_0 a19⟩
theorem f57 (a19 v : Int) (h : F57 a19 = some v) : PureCalls cfz.P cfz.glob 57 [(aI a19)] (out57 v) := tree_pure knil ok57 (s := .c0 a19) rfl (by kernel_rfl) v h
inductive S60 where
  | c0 (a13 : Nat) (a14 : List DV)
  | c1 (x15 : Nat) (x16 : List DV) (x17 y18 : Int)
  | c2 (y28 y29 : Nat) (y30 : List DV) (x31 : Nat) (x32 : List DV) (x33 y34 : Int) (y36 : Nat)
def out60 (v : Nat × List DV) : AV := (.d (.sl v.fst v.snd))
noncomputable def td60_0 : List AItem := [(.code (cd cfz.P 60 [1, 1, 0, 1, 0, 0])), (.inLoop (cd cfz.P 60 [1, 1, 0, 1, 0, 0])), (.inBlock 0), (.code (cd cfz.P 60 [1, 1, 1]))]
noncomputable def st60 : S60 → ASt
  | .c0 a13 a14 => ent cfz 60 [(.d (.sl a13 a14)), (.d (.v (.func (.func 57) (#[]) (#[]))))]
  | .c1 x15 x16 x17 y18 => ⟨⟨60, sp 22 0 [(1, (.d (.v (.func (.func 57) (#[]) (#[]))))), (5, (.d (.v (.slice .none 0 0)))), (8, (.d (.sl x15 x16))), (9, (aI x17)), (10, (aI y18))], td60_0, [], false, .none⟩, [], []⟩
  | .c2 y28 y29 y30 x31 x32 x33 y34 y36 => ⟨⟨60, sp 22 0 [(1, (.d (.v (.func (.func 57) (#[]) (#[]))))), (5, (.own 1 y28 1 y29 y30)), (8, (.d (.sl x31 x32))), (9, (aI x33)), (10, (aI y34))], td60_0, [], false, .none⟩, [], [(.tail 0), (.tail y36)]⟩
noncomputable def B60 : S60 → Tr S60 (Nat × List DV)
  | .c0 a13 a14 => (.nxt (.c1 a13 a14 ((↑a13 : Int)) 0))
  | .c1 x15 x16 x17 y18 => (.br (decide (y18 < x17))
  (.ask (.le 0 y18) (.ask (.lt y18 ((↑x15 : Int))) (.ask (.leN (y18.toNat * 1) x16.length) (.ask (.prop (Option.map AV.d (List.drop (y18.toNat * 1) x16)[0]? = some (AV.d (DV.v (Value.int IntKind.i64 (dI (cel x16 (y18.toNat * 1)))))))) (.bind (F57 (dI (cel x16 (y18.toNat * 1)))) fun v27 =>
  (.sees [(aI (dI (cel x16 (y18.toNat * 1))))] (.ask (.in64 (y18 + 1)) (.nxt (.c2 0 1 [(.v (.int .i64 v27))] x15 x16 x17 (y18 + 1) 0)))))))))
  (.ret (0, [])))
  | .c2 y28 y29 y30 x31 x32 x33 y34 y36 => (.br (decide (y34 < x33))
  (.ask (.le 0 y34) (.ask (.lt y34 ((↑x31 : Int))) (.ask (.leN (y34.toNat * 1) x32.length) (.ask (.prop (Option.map AV.d (List.drop (y34.toNat * 1) x32)[0]? = some (AV.d (DV.v (Value.int IntKind.i64 (dI (cel x32 (y34.toNat * 1)))))))) (.bind (F57 (dI (cel x32 (y34.toNat * 1)))) fun v37 =>
  (.sees [(aI (dI (cel x32 (y34.toNat * 1))))] (.ask (.eqN y28 y36) (.ask (.fits (y29 + 1) 8) (.ask (.in64 (y34 + 1)) (.nxt (.c2 (y36 + 1) (y29 + 1) (y30 ++ [DV.v (Value.int IntKind.i64 v37)]) x31 x32 x33 (y34 + 1) (y36 + 1))))))))))))
  (.ret (y29, y30)))
noncomputable def F60 (a13 : Nat) (a14 : List DV) : Option (Nat × List DV) := res B60 (.c0 a13 a14)
noncomputable def D60_0 (a13 : Nat) (a14 : List DV) : DT cfz := (.go 17 [] [] (.cut 0 [[1, 5, 8, 9, 10]] []))
theorem k60_0 (a13 : Nat) (a14 : List DV) : xrun cfz 60 (D60_0 a13 a14) [] (st60 (.c0 a13 a14)) = (B60 (.c0 a13 a14)).mach st60 out60 := by kernel_rfl
noncomputable def D60_1 (x15 : Nat) (x16 : List DV) (x17 y18 : Int) : DT cfz := (.go 5 [] [] (.split 11 (.go 14 [(.br true), (.as (aI (dI (cel x16 (y18.toNat * 1)))))] [0] (.bind (f57 (dI (cel x16 (y18.toNat * 1)))) fun v27 => (.go 11 [(.ck 0)] [1, 2, 3] (.cut 2 [[1, 5, 8, 9, 10]] [])))) (.go 8 [(.br false)] [0] .fin)))
theorem k60_1 (x15 : Nat) (x16 : List DV) (x17 y18 : Int) : xrun cfz 60 (D60_1 x15 x16 x17 y18) [] (st60 (.c1 x15 x16 x17 y18)) = (B60 (.c1 x15 x16 x17 y18)).mach st60 out60 := by kernel_rfl
noncomputable def D60_2 (y28 y29 : Nat) (y30 : List DV) (x31 : Nat) (x32 : List DV) (x33 y34 : Int) (y36 : Nat) : DT cfz := (.go 5 [] [] (.split 11 (.go 14 [(.br true), (.as (aI (dI (cel x32 (y34.toNat * 1)))))] [0] (.bind (f57 (dI (cel x32 (y34.toNat * 1)))) fun v37 => (.go 11 [(.ck 0)] [2, 3] (.cut 2 [[1, 5, 8, 9, 10]] [])))) (.go 8 [(.br false)] [0] .fin)))
theorem k60_2 (y28 y29 : Nat) (y30 : List DV) (x31 : Nat) (x32 : List DV) (x33 y34 : Int) (y36 : Nat) : xrun cfz 60 (D60_2 y28 y29 y30 x31 x32 x33 y34 y36) [] (st60 (.c2 y28 y29 y30 x31 x32 x33 y34 y36)) = (B60 (.c2 y28 y29 y30 x31 x32 x33 y34 y36)).mach st60 out60 := by kernel_rfl
theorem ok60 : ∀ s, ∃ d, xrun cfz 60 d [] (st60 s) = (B60 s).mach st60 out60
  | .c0 a13 a14 => ⟨_, k60_0 a13 a14⟩
  | .c1 x15 x16 x17 y18 => ⟨_, k60_1 x15 x16 x17 y18⟩
  | .c2 y28 y29 y30 x31 x32 x33 y34 y36 => ⟨_, k60_2 y28 y29 y30 x31 x32 x33 y34 y36⟩
theorem f60 (a13 : Nat) (a14 : List DV) (v : Nat × List DV) (h : F60 a13 a14 = some v) : PureCalls cfz.P cfz.glob 60 [(.d (.sl a13 a14)), (.d (.v (.func (.func 57) (#[]) (#[]))))] (out60 v) := tree_pure knil ok60 (s := .c0 a13 a14) rfl (by kernel_rfl) v h
inductive S59 where
  | c0 (a8 : Nat) (a9 : List DV) (a10 : Nat) (a11 : List DV) (a12 : Bool)
def out59 (v : Int) : AV := (.d (.v (.int .i64 v)))
noncomputable def st59 : S59 → ASt
  | .c0 a8 a9 a10 a11 a12 => ent cfz 59 [(.agg [(.d (.sl a8 a9)), (.d (.sl a10 a11)), (.d (.v (.bool a12)))]), (.ip [(.v (.func (.func 57) (#[]) (#[])))])]
noncomputable def B59 : S59 → Tr S59 (Int)
  | .c0 a8 a9 a10 a11 a12 => (.bind (F60 a8 a9) fun v38 =>
  (.bind (F37 v38.fst v38.snd) fun v45 =>
  (.bind (F60 a10 a11) fun v46 =>
  (.bind (F37 v46.fst v46.snd) fun v47 =>
  (.bind (F37 2 [(.v (.int .i64 v45)), (.v (.int .i64 v47))]) fun v48 =>
  (.sees [(.d (.sl a8 a9)), (.d (.v (.func (.func 57) (#[]) (#[]))))] (.sees [(.d (.sl v38.fst v38.snd))] (.sees [(.d (.sl a10 a11)), (.d (.v (.func (.func 57) (#[]) (#[]))))] (.sees [(.d (.sl v46.fst v46.snd))] (.sees [(.d (.sl 2 [(vI v45), (vI v47)]))] (.ret v48)))))))))))
noncomputable def F59 (a8 : Nat) (a9 : List DV) (a10 : Nat) (a11 : List DV) (a12 : Bool) : Option (Int) := res B59 (.c0 a8 a9 a10 a11 a12)
noncomputable def D59_0 (a8 : Nat) (a9 : List DV) (a10 : Nat) (a11 : List DV) (a12 : Bool) : DT cfz := (.go 7 [] [] (.bind (f60 a8 a9) fun v38 => (.bind (f37 v38.fst v38.snd) fun v45 => (.bind (f60 a10 a11) fun v46 => (.bind (f37 v46.fst v46.snd) fun v47 => (.bind (f37 2 [(vI v45), (vI v47)]) fun v48 => (.go 2 [(.ck 0), (.ck 1), (.ck 2), (.ck 3), (.ck 4)] [] .fin)))))))
theorem k59_0 (a8 : Nat) (a9 : List DV) (a10 : Nat) (a11 : List DV) (a12 : Bool) : xrun cfz 59 (D59_0 a8 a9 a10 a11 a12) [] (st59 (.c0 a8 a9 a10 a11 a12)) = (B59 (.c0 a8 a9 a10 a11 a12)).mach st59 out59 := by kernel_rfl
theorem ok59 : ∀ s, ∃ d, xrun cfz 59 d [] (st59 s) = (B59 s).mach st59 out59
  | .c0 a8 a9 a10 a11 a12 => ⟨_, k59_0 a8 a9 a10 a11 a12⟩
theorem f59 (a8 : Nat) (a9 : List DV) (a10 : Nat) (a11 : List DV) (a12 : Bool) (v : Int) (h : F59 a8 a9 a10 a11 a12 = some v) : PureCalls cfz.P cfz.glob 59 [(.agg [(.d (.sl a8 a9)), (.d (.sl a10 a11)), (.d (.v (.bool a12)))]), (.ip [(.v (.func (.func 57) (#[]) (#[])))])] (out59 v) := tree_pure knil ok59 (s := .c0 a8 a9 a10 a11 a12) rfl (by kernel_rfl) v h
inductive S58 where
  | c0 (a2 : Nat) (a3 : List DV)
  | c1 (x4 : Nat) (x5 : List DV) (x6 y7 : Int)
  | c2 (y50 y51 : Nat) (y52 : List DV) (x53 : Nat) (x54 : List DV) (x55 y56 : Int) (y58 : Nat)
def out58 (v : Nat × List DV) : AV := (.d (.sl v.fst v.snd))
noncomputable def td58_0 : List AItem := [(.code (cd cfz.P 58 [1, 1, 0, 1, 0, 0])), (.inLoop (cd cfz.P 58 [1, 1, 0, 1, 0, 0])), (.inBlock 0), (.code (cd cfz.P 58 [1, 1, 1]))]
noncomputable def st58 : S58 → ASt
  | .c0 a2 a3 => ent cfz 58 [(.d (.sl a2 a3)), (.fn (.func 59) [] [(.ip [(.v (.func (.func 57) (#[]) (#[])))])])]
  | .c1 x4 x5 x6 y7 => ⟨⟨58, sp 22 0 [(1, (.fn (.func 59) [] [(.ip [(.v (.func (.func 57) (#[]) (#[])))])])), (5, (.d (.v (.slice .none 0 0)))), (8, (.d (.sl x4 x5))), (9, (aI x6)), (10, (aI y7))], td58_0, [], false, .none⟩, [], []⟩
  | .c2 y50 y51 y52 x53 x54 x55 y56 y58 => ⟨⟨58, sp 22 0 [(1, (.fn (.func 59) [] [(.ip [(.v (.func (.func 57) (#[]) (#[])))])])), (5, (.own 2 y50 1 y51 y52)), (8, (.d (.sl x53 x54))), (9, (aI x55)), (10, (aI y56))], td58_0, [], false, .none⟩, [], [.dead, (.tail 0), (.tail y58)]⟩
noncomputable def B58 : S58 → Tr S58 (Nat × List DV)
  | .c0 a2 a3 => (.nxt (.c1 a2 a3 ((↑a2 : Int)) 0))
  | .c1 x4 x5 x6 y7 => (.br (decide (y7 < x6))
  (.ask (.le 0 y7) (.ask (.lt y7 ((↑x4 : Int))) (.ask (.leN (y7.toNat * 3) x5.length) (.ask (.leN 3 ((List.drop (y7.toNat * 3) x5).length)) (.ask (.prop (List.map AV.d (List.take 3 (List.drop (y7.toNat * 3) x5)) = [AV.d (DV.sl (dN (cel x5 (y7.toNat * 3))) (dL (cel x5 (y7.toNat * 3)))), AV.d (DV.sl (dN (cel x5 (y7.toNat * 3 + 1))) (dL (cel x5 (y7.toNat * 3 + 1)))), AV.d (DV.v (Value.bool (dB (cel x5 (y7.toNat * 3 + 2)))))])) (.bind (F59 (dN (cel x5 (y7.toNat * 3))) (dL (cel x5 (y7.toNat * 3))) (dN (cel x5 (y7.toNat * 3 + 1))) (dL (cel x5 (y7.toNat * 3 + 1))) (dB (cel x5 (y7.toNat * 3 + 2)))) fun v49 =>
  (.sees [(.agg [(.d (.sl (dN (cel x5 (y7.toNat * 3))) (dL (cel x5 (y7.toNat * 3))))), (.d (.sl (dN (cel x5 (y7.toNat * 3 + 1))) (dL (cel x5 (y7.toNat * 3 + 1))))), (.d (.v (.bool (dB (cel x5 (y7.toNat * 3 + 2))))))]), (.ip [(.v (.func (.func 57) (#[]) (#[])))])] (.ask (.in64 (y7 + 1)) (.nxt (.c2 0 1 [(.v (.int .i64 v49))] x4 x5 x6 (y7 + 1) 0))))))))))
  (.ret (0, [])))
  | .c2 y50 y51 y52 x53 x54 x55 y56 y58 => (.br (decide (y56 < x55))
  (.ask (.le 0 y56) (.ask (.lt y56 ((↑x53 : Int))) (.ask (.leN (y56.toNat * 3) x54.length) (.ask (.leN 3 ((List.drop (y56.toNat * 3) x54).length)) (.ask (.prop (List.map AV.d (List.take 3 (List.drop (y56.toNat * 3) x54)) = [AV.d (DV.sl (dN (cel x54 (y56.toNat * 3))) (dL (cel x54 (y56.toNat * 3)))), AV.d (DV.sl (dN (cel x54 (y56.toNat * 3 + 1))) (dL (cel x54 (y56.toNat * 3 + 1)))), AV.d (DV.v (Value.bool (dB (cel x54 (y56.toNat * 3 + 2)))))])) (.bind (F59 (dN (cel x54 (y56.toNat * 3))) (dL (cel x54 (y56.toNat * 3))) (dN (cel x54 (y56.toNat * 3 + 1))) (dL (cel x54 (y56.toNat * 3 + 1))) (dB (cel x54 (y56.toNat * 3 + 2)))) fun v59 =>
  (.sees [(.agg [(.d (.sl (dN (cel x54 (y56.toNat * 3))) (dL (cel x54 (y56.toNat * 3))))), (.d (.sl (dN (cel x54 (y56.toNat * 3 + 1))) (dL (cel x54 (y56.toNat * 3 + 1))))), (.d (.v (.bool (dB (cel x54 (y56.toNat * 3 + 2))))))]), (.ip [(.v (.func (.func 57) (#[]) (#[])))])] (.ask (.eqN y50 y58) (.ask (.fits (y51 + 1) 8) (.ask (.in64 (y56 + 1)) (.nxt (.c2 (y58 + 1) (y51 + 1) (y52 ++ [DV.v (Value.int IntKind.i64 v59)]) x53 x54 x55 (y56 + 1) (y58 + 1)))))))))))))
  (.ret (y51, y52)))
noncomputable def F58 (a2 : Nat) (a3 : List DV) : Option (Nat × List DV) := res B58 (.c0 a2 a3)
noncomputable def D58_0 (a2 : Nat) (a3 : List DV) : DT cfz := (.go 17 [] [] (.cut 0 [[1, 5, 8, 9, 10]] []))
theorem k58_0 (a2 : Nat) (a3 : List DV) : xrun cfz 58 (D58_0 a2 a3) [] (st58 (.c0 a2 a3)) = (B58 (.c0 a2 a3)).mach st58 out58 := by kernel_rfl
noncomputable def D58_1 (x4 : Nat) (x5 : List DV) (x6 y7 : Int) : DT cfz := (.go 5 [] [] (.split 11 (.go 15 [(.br true), (.as (.agg [(.d (.sl (dN (cel x5 (y7.toNat * 3))) (dL (cel x5 (y7.toNat * 3))))), (.d (.sl (dN (cel x5 (y7.toNat * 3 + 1))) (dL (cel x5 (y7.toNat * 3 + 1))))), (.d (.v (.bool (dB (cel x5 (y7.toNat * 3 + 2))))))]))] [0] (.bind (f59 (dN (cel x5 (y7.toNat * 3))) (dL (cel x5 (y7.toNat * 3))) (dN (cel x5 (y7.toNat * 3 + 1))) (dL (cel x5 (y7.toNat * 3 + 1))) (dB (cel x5 (y7.toNat * 3 + 2)))) fun v49 => (.go 11 [(.ck 0)] [1, 2, 3] (.cut 3 [[1, 5, 8, 9, 10]] [0])))) (.go 8 [(.br false)] [0] .fin)))
theorem k58_1 (x4 : Nat) (x5 : List DV) (x6 y7 : Int) : xrun cfz 58 (D58_1 x4 x5 x6 y7) [] (st58 (.c1 x4 x5 x6 y7)) = (B58 (.c1 x4 x5 x6 y7)).mach st58 out58 := by kernel_rfl
noncomputable def D58_2 (y50 y51 : Nat) (y52 : List DV) (x53 : Nat) (x54 : List DV) (x55 y56 : Int) (y58 : Nat) : DT cfz := (.go 5 [] [] (.split 11 (.go 15 [(.br true), (.as (.agg [(.d (.sl (dN (cel x54 (y56.toNat * 3))) (dL (cel x54 (y56.toNat * 3))))), (.d (.sl (dN (cel x54 (y56.toNat * 3 + 1))) (dL (cel x54 (y56.toNat * 3 + 1))))), (.d (.v (.bool (dB (cel x54 (y56.toNat * 3 + 2))))))]))] [0] (.bind (f59 (dN (cel x54 (y56.toNat * 3))) (dL (cel x54 (y56.toNat * 3))) (dN (cel x54 (y56.toNat * 3 + 1))) (dL (cel x54 (y56.toNat * 3 + 1))) (dB (cel x54 (y56.toNat * 3 + 2)))) fun v59 => (.go 11 [(.ck 0)] [2, 3] (.cut 3 [[1, 5, 8, 9, 10]] [])))) (.go 8 [(.br false)] [0] .fin)))
theorem k58_2 (y50 y51 : Nat) (y52 : List DV) (x53 : Nat) (x54 : List DV) (x55 y56 : Int) (y58 : Nat) : xrun cfz 58 (D58_2 y50 y51 y52 x53 x54 x55 y56 y58) [] (st58 (.c2 y50 y51 y52 x53 x54 x55 y56 y58)) = (B58 (.c2 y50 y51 y52 x53 x54 x55 y56 y58)).mach st58 out58 := by kernel_rfl
theorem ok58 : ∀ s, ∃ d, xrun cfz 58 d [] (st58 s) = (B58 s).mach st58 out58
  | .c0 a2 a3 => ⟨_, k58_0 a2 a3⟩
  | .c1 x4 x5 x6 y7 => ⟨_, k58_1 x4 x5 x6 y7⟩
  | .c2 y50 y51 y52 x53 x54 x55 y56 y58 => ⟨_, k58_2 y50 y51 y52 x53 x54 x55 y56 y58⟩
theorem f58 (a2 : Nat) (a3 : List DV) (v : Nat × List DV) (h : F58 a2 a3 = some v) : PureCalls cfz.P cfz.glob 58 [(.d (.sl a2 a3)), (.fn (.func 59) [] [(.ip [(.v (.func (.func 57) (#[]) (#[])))])])] (out58 v) := tree_pure knil ok58 (s := .c0 a2 a3) rfl (by kernel_rfl) v h
inductive S43 where
  | c0 (a0 : Nat) (a1 : List DV)
  | c1 (x61 : Nat) (x62 : List DV) (x63 y64 : Int)
  | c2 (y67 y68 : Nat) (y69 : List DV) (x70 : Nat) (x71 : List DV) (x72 y73 : Int) (y77 : Nat)
def out43 (v : Int) : AV := (.d (.v (.int .i64 v)))
noncomputable def td43_0 : List AItem := [(.code (cd cfz.P 58 [1, 1, 0, 1, 0, 0])), (.inLoop (cd cfz.P 58 [1, 1, 0, 1, 0, 0])), (.inBlock 0), (.code (cd cfz.P 58 [1, 1, 1]))]
noncomputable def td43_1 : List AItem := [(.regC (opsAt cfz.P 43 [1, 1, 1, 0]) false 2), (.code (cd cfz.P 58 [1, 1, 1, 1]))]
noncomputable def st43 : S43 → ASt
  | .c0 a0 a1 => ent cfz 43 [(.d (.sl a0 a1))]
  | .c1 x61 x62 x63 y64 => ⟨⟨58, sp 22 0 [(1, (.fn (.func 59) [] [(.ptr 0 0)])), (5, (.d (.v (.slice .none 0 0)))), (8, (.d (.sl x61 x62))), (9, (aI x63)), (10, (aI y64))], td43_0, [], false, .none⟩, [⟨43, sp 11 0 [], td43_1, [], false, .none⟩], [(.cells [(.d (.v (.func (.func 57) (#[]) (#[]))))] 107)]⟩
  | .c2 y67 y68 y69 x70 x71 x72 y73 y77 => ⟨⟨58, sp 22 0 [(1, (.fn (.func 59) [] [(.ptr 0 0)])), (5, (.own 3 y67 1 y68 y69)), (8, (.d (.sl x70 x71))), (9, (aI x72)), (10, (aI y73))], td43_0, [], false, .none⟩, [⟨43, sp 11 0 [], td43_1, [], false, .none⟩], [(.cells [(.d (.v (.func (.func 57) (#[]) (#[]))))] 107), .dead, (.tail 0), (.tail y77)]⟩
noncomputable def B43 : S43 → Tr S43 (Int)
  | .c0 a0 a1 => (.br (decide ((↑a0 : Int) > 64))
  (.ret 5)
  (.nxt (.c1 a0 a1 ((↑a0 : Int)) 0)))
  | .c1 x61 x62 x63 y64 => (.br (decide (y64 < x63))
  (.ask (.le 0 y64) (.ask (.lt y64 ((↑x61 : Int))) (.ask (.leN (y64.toNat * 3) x62.length) (.ask (.leN 3 ((List.drop (y64.toNat * 3) x62).length)) (.ask (.prop (List.map AV.d (List.take 3 (List.drop (y64.toNat * 3) x62)) = [AV.d (DV.sl (dN (cel x62 (y64.toNat * 3))) (dL (cel x62 (y64.toNat * 3)))), AV.d (DV.sl (dN (cel x62 (y64.toNat * 3 + 1))) (dL (cel x62 (y64.toNat * 3 + 1)))), AV.d (DV.v (Value.bool (dB (cel x62 (y64.toNat * 3 + 2)))))])) (.bind (F59 (dN (cel x62 (y64.toNat * 3))) (dL (cel x62 (y64.toNat * 3))) (dN (cel x62 (y64.toNat * 3 + 1))) (dL (cel x62 (y64.toNat * 3 + 1))) (dB (cel x62 (y64.toNat * 3 + 2)))) fun v66 =>
  (.sees [(.agg [(.d (.sl (dN (cel x62 (y64.toNat * 3))) (dL (cel x62 (y64.toNat * 3))))), (.d (.sl (dN (cel x62 (y64.toNat * 3 + 1))) (dL (cel x62 (y64.toNat * 3 + 1))))), (.d (.v (.bool (dB (cel x62 (y64.toNat * 3 + 2))))))]), (.ip [(.v (.func (.func 57) (#[]) (#[])))])] (.ask (.in64 (y64 + 1)) (.nxt (.c2 0 1 [(.v (.int .i64 v66))] x61 x62 x63 (y64 + 1) 0))))))))))
  (.bind (F37 0 []) fun v74 =>
  (.sees [(.d (.sl 0 []))] (.ret v74))))
  | .c2 y67 y68 y69 x70 x71 x72 y73 y77 => (.br (decide (y73 < x72))
  (.ask (.le 0 y73) (.ask (.lt y73 ((↑x70 : Int))) (.ask (.leN (y73.toNat * 3) x71.length) (.ask (.leN 3 ((List.drop (y73.toNat * 3) x71).length)) (.ask (.prop (List.map AV.d (List.take 3 (List.drop (y73.toNat * 3) x71)) = [AV.d (DV.sl (dN (cel x71 (y73.toNat * 3))) (dL (cel x71 (y73.toNat * 3)))), AV.d (DV.sl (dN (cel x71 (y73.toNat * 3 + 1))) (dL (cel x71 (y73.toNat * 3 + 1)))), AV.d (DV.v (Value.bool (dB (cel x71 (y73.toNat * 3 + 2)))))])) (.bind (F59 (dN (cel x71 (y73.toNat * 3))) (dL (cel x71 (y73.toNat * 3))) (dN (cel x71 (y73.toNat * 3 + 1))) (dL (cel x71 (y73.toNat * 3 + 1))) (dB (cel x71 (y73.toNat * 3 + 2)))) fun v80 =>
  (.sees [(.agg [(.d (.sl (dN (cel x71 (y73.toNat * 3))) (dL (cel x71 (y73.toNat * 3))))), (.d (.sl (dN (cel x71 (y73.toNat * 3 + 1))) (dL (cel x71 (y73.toNat * 3 + 1))))), (.d (.v (.bool (dB (cel x71 (y73.toNat * 3 + 2))))))]), (.ip [(.v (.func (.func 57) (#[]) (#[])))])] (.ask (.eqN y67 y77) (.ask (.fits (y68 + 1) 8) (.ask (.in64 (y73 + 1)) (.nxt (.c2 (y77 + 1) (y68 + 1) (y69 ++ [DV.v (Value.int IntKind.i64 v80)]) x70 x71 x72 (y73 + 1) (y77 + 1)))))))))))))
  (.bind (F37 y68 y69) fun v81 =>
  (.sees [(.d (.sl y68 y69))] (.ret v81))))
noncomputable def F43 (a0 : Nat) (a1 : List DV) : Option (Int) := res B43 (.c0 a0 a1)
noncomputable def D43_0 (a0 : Nat) (a1 : List DV) : DT cfz := (.go 11 [] [] (.split 6 (.go 6 [(.br true)] [0] .fin) (.go 29 [(.br false), .enter] [0] (.cut 1 [[1, 5, 8, 9, 10], []] []))))
theorem k43_0 (a0 : Nat) (a1 : List DV) : xrun cfz 43 (D43_0 a0 a1) [] (st43 (.c0 a0 a1)) = (B43 (.c0 a0 a1)).mach st43 out43 := by kernel_rfl
noncomputable def D43_1 (x61 : Nat) (x62 : List DV) (x63 y64 : Int) : DT cfz := (.go 5 [] [] (.split 11 (.go 15 [(.br true), (.as (.agg [(.d (.sl (dN (cel x62 (y64.toNat * 3))) (dL (cel x62 (y64.toNat * 3))))), (.d (.sl (dN (cel x62 (y64.toNat * 3 + 1))) (dL (cel x62 (y64.toNat * 3 + 1))))), (.d (.v (.bool (dB (cel x62 (y64.toNat * 3 + 2))))))]))] [0] (.bind (f59 (dN (cel x62 (y64.toNat * 3))) (dL (cel x62 (y64.toNat * 3))) (dN (cel x62 (y64.toNat * 3 + 1))) (dL (cel x62 (y64.toNat * 3 + 1))) (dB (cel x62 (y64.toNat * 3 + 2)))) fun v66 => (.go 11 [(.ck 0)] [1, 2, 3] (.cut 4 [[1, 5, 8, 9, 10], []] [1])))) (.go 9 [(.br false)] [0] (.bind (f37 0 []) fun v74 => (.go 4 [(.ck 0)] [] .fin)))))
theorem k43_1 (x61 : Nat) (x62 : List DV) (x63 y64 : Int) : xrun cfz 43 (D43_1 x61 x62 x63 y64) [] (st43 (.c1 x61 x62 x63 y64)) = (B43 (.c1 x61 x62 x63 y64)).mach st43 out43 := by kernel_rfl
noncomputable def D43_2 (y67 y68 : Nat) (y69 : List DV) (x70 : Nat) (x71 : List DV) (x72 y73 : Int) (y77 : Nat) : DT cfz := (.go 5 [] [] (.split 11 (.go 15 [(.br true), (.as (.agg [(.d (.sl (dN (cel x71 (y73.toNat * 3))) (dL (cel x71 (y73.toNat * 3))))), (.d (.sl (dN (cel x71 (y73.toNat * 3 + 1))) (dL (cel x71 (y73.toNat * 3 + 1))))), (.d (.v (.bool (dB (cel x71 (y73.toNat * 3 + 2))))))]))] [0] (.bind (f59 (dN (cel x71 (y73.toNat * 3))) (dL (cel x71 (y73.toNat * 3))) (dN (cel x71 (y73.toNat * 3 + 1))) (dL (cel x71 (y73.toNat * 3 + 1))) (dB (cel x71 (y73.toNat * 3 + 2)))) fun v80 => (.go 11 [(.ck 0)] [2, 3] (.cut 4 [[1, 5, 8, 9, 10], []] [])))) (.go 9 [(.br false)] [0] (.bind (f37 y68 y69) fun v81 => (.go 4 [(.ck 0)] [] .fin)))))
theorem k43_2 (y67 y68 : Nat) (y69 : List DV) (x70 : Nat) (x71 : List DV) (x72 y73 : Int) (y77 : Nat) : xrun cfz 43 (D43_2 y67 y68 y69 x70 x71 x72 y73 y77) [] (st43 (.c2 y67 y68 y69 x70 x71 x72 y73 y77)) = (B43 (.c2 y67 y68 y69 x70 x71 x72 y73 y77)).mach st43 out43 := by kernel_rfl
theorem ok43 : ∀ s, ∃ d, xrun cfz 43 d [] (st43 s) = (B43 s).mach st43 out43
  | .c0 a0 a1 => ⟨_, k43_0 a0 a1⟩
  | .c1 x61 x62 x63 y64 => ⟨_, k43_1 x61 x62 x63 y64⟩
  | .c2 y67 y68 y69 x70 x71 x72 y73 y77 => ⟨_, k43_2 y67 y68 y69 x70 x71 x72 y73 y77⟩
theorem f43 (a0 : Nat) (a1 : List DV) (v : Int) (h : F43 a0 a1 = some v) : PureCalls cfz.P cfz.glob 43 [(.d (.sl a0 a1))] (out43 v) := tree_pure knil ok43 (s := .c0 a0 a1) rfl (by kernel_rfl) v h
inductive S62 where
  | c0 (x0 x1 x2 : Int) (x3 : Nat) (x9 : List DV) (xa xb xc : Int) (xd : Nat) (xe : List DV)
def out62 (v : Bool) : AV := (.d (.v (.bool v)))
noncomputable def st62 : S62 → ASt
  | .c0 x0 x1 x2 x3 x9 xa xb xc xd xe => ent cfz 62 [(.agg [(aI x0), (aI x1), (aI x2), (.d (.sl x3 x9))]), (.agg [(aI xa), (aI xb), (aI xc), (.d (.sl xd xe))])]
noncomputable def B62 : S62 → Tr S62 (Bool)
  | .c0 x0 x1 x2 x3 x9 xa xb xc xd xe => (.br (x0 == xa)
  (.br (x1 == xb)
  (.br (x2 == xc)
  (.bind (F54 x3 x9 xd xe) fun xf =>
  (.sees [(.d (.sl x3 x9)), (.d (.sl xd xe))] (.ret xf)))
  (.ret false))
  (.ret false))
  (.ret false))
noncomputable def F62 (x0 x1 x2 : Int) (x3 : Nat) (x9 : List DV) (xa xb xc : Int) (xd : Nat) (xe : List DV) : Option (Bool) := res B62 (.c0 x0 x1 x2 x3 x9 xa xb xc xd xe)
noncomputable def D62_0 (x0 x1 x2 : Int) (x3 : Nat) (x9 : List DV) (xa xb xc : Int) (xd : Nat) (xe : List DV) : DT cfz := (.go 14 [] [] (.split 10 (.go 7 [(.br true), (.br true), .none, (.br true), (.br true), .none, (.br true)] [0, 1, 2, 3, 4] (.split 17 (.go 7 [(.br true), (.br true), .none, (.br true), (.br true), .none, (.br true)] [0, 1, 2, 3, 4] (.split 24 (.go 4 [(.br true), (.br true), .none, (.br true), (.br true)] [0, 1, 2, 3] (.bind (f54 x3 x9 xd xe) fun xf => (.go 5 [(.br true), (.ck 0)] [1] .fin))) (.go 9 [(.br false), (.br false), (.br false), (.br false), (.br false)] [0, 1, 2, 3, 4] .fin))) (.go 16 [(.br false), (.br false), (.br false), (.br false), (.br false), .none, (.br false), (.br false), (.br false), (.br false), (.br false)] [0, 1, 2, 3, 4, 5, 6, 7, 8, 9] .fin))) (.go 23 [(.br false), (.br false), (.br false), (.br false), (.br false), .none, (.br false), (.br false), (.br false), (.br false), (.br false), .none, (.br false), (.br false), (.br false), (.br false), (.br false)] [0, 1, 2, 3, 4, 5, 6, 7, 8, 9, 10, 11, 12, 13, 14] .fin)))
theorem k62_0 (x0 x1 x2 : Int) (x3 : Nat) (x9 : List DV) (xa xb xc : Int) (xd : Nat) (xe : List DV) : xrun cfz 62 (D62_0 x0 x1 x2 x3 x9 xa xb xc xd xe) [] (st62 (.c0 x0 x1 x2 x3 x9 xa xb xc xd xe)) = (B62 (.c0 x0 x1 x2 x3 x9 xa xb xc xd xe)).mach st62 out62 := by kernel_rfl
theorem ok62 : ∀ s, ∃ d, xrun cfz 62 d [] (st62 s) = (B62 s).mach st62 out62
  | .c0 x0 x1 x2 x3 x9 xa xb xc xd xe => ⟨_, k62_0 x0 x1 x2 x3 x9 xa xb xc xd xe⟩
theorem f62 (x0 x1 x2 : Int) (x3 : Nat) (x9 : List DV) (xa xb xc : Int) (xd : Nat) (xe : List DV) (v : Bool) (h : F62 x0 x1 x2 x3 x9 xa xb xc xd xe = some v) : PureCalls cfz.P cfz.glob 62 [(.agg [(aI x0), (aI x1), (aI x2), (.d (.sl x3 x9))]), (.agg [(aI xa), (aI xb), (aI xc), (.d (.sl xd xe))])] (out62 v) := tree_pure knil ok62 (s := .c0 x0 x1 x2 x3 x9 xa xb xc xd xe) rfl (by kernel_rfl) v h
inductive S61 where
  | c0 (x0 : Nat) (x1 : List DV) (x2 : Nat) (x3 : List DV)
  | c1 (x0 : Nat) (x1 : List DV) (x2 : Nat) (x3 : List DV) (x9 xa : Int)
def out61 (v : Bool) : AV := (.d (.v (.bool v)))
noncomputable def st61 : S61 → ASt
  | .c0 x0 x1 x2 x3 => ent cfz 61 [(.d (.sl x0 x1)), (.d (.sl x2 x3)), (.d (.v (.func (.func 62) (#[]) (#[]))))]
  | .c1 x0 x1 x2 x3 x9 xa => ⟨⟨61, sp 32 0 [(1, (.d (.sl x0 x1))), (2, (.d (.v (.func (.func 62) (#[]) (#[]))))), (15, (.d (.sl x2 x3))), (16, (aI x9)), (17, (aI xa))], [(.code (cd cfz.P 61 [1, 1, 0, 1, 0, 0])), (.inLoop (cd cfz.P 61 [1, 1, 0, 1, 0, 0])), (.inBlock 0), (.code (cd cfz.P 61 [1, 1, 1]))], [], false, .none⟩, [], []⟩
noncomputable def B61 : S61 → Tr S61 (Bool)
  | .c0 x0 x1 x2 x3 => (.br ((↑x0 : Int) != (↑x2 : Int))
  (.ret false)
  (.nxt (.c1 x2 x3 x0 x1 ((↑x0 : Int)) 0)))
  | .c1 x0 x1 x2 x3 x9 xa => (.br (decide (xa < x9))
  (.ask (.le 0 xa) (.ask (.lt xa ((↑x2 : Int))) (.ask (.leN (xa.toNat * 4) x3.length) (.ask (.leN 4 ((List.drop (xa.toNat * 4) x3).length)) (.ask (.prop (List.map AV.d (List.take 4 (List.drop (xa.toNat * 4) x3)) = [AV.d (DV.v (Value.int IntKind.i64 (dI (cel x3 (xa.toNat * 4))))), AV.d (DV.v (Value.int IntKind.i64 (dI (cel x3 (xa.toNat * 4 + 1))))), AV.d (DV.v (Value.int IntKind.i64 (dI (cel x3 (xa.toNat * 4 + 2))))), AV.d (DV.sl (dN (cel x3 (xa.toNat * 4 + 3))) (dL (cel x3 (xa.toNat * 4 + 3))))])) (.ask (.le 0 xa) (.ask (.lt xa ((↑x0 : Int))) (.ask (.leN (xa.toNat * 4) x1.length) (.ask (.leN 4 ((List.drop (xa.toNat * 4) x1).length)) (.ask (.prop (List.map AV.d (List.take 4 (List.drop (xa.toNat * 4) x1)) = [AV.d (DV.v (Value.int IntKind.i64 (dI (cel x1 (xa.toNat * 4))))), AV.d (DV.v (Value.int IntKind.i64 (dI (cel x1 (xa.toNat * 4 + 1))))), AV.d (DV.v (Value.int IntKind.i64 (dI (cel x1 (xa.toNat * 4 + 2))))), AV.d (DV.sl (dN (cel x1 (xa.toNat * 4 + 3))) (dL (cel x1 (xa.toNat * 4 + 3))))])) (.bind (F62 (dI (cel x3 (xa.toNat * 4))) (dI (cel x3 (xa.toNat * 4 + 1))) (dI (cel x3 (xa.toNat * 4 + 2))) (dN (cel x3 (xa.toNat * 4 + 3))) (dL (cel x3 (xa.toNat * 4 + 3))) (dI (cel x1 (xa.toNat * 4))) (dI (cel x1 (xa.toNat * 4 + 1))) (dI (cel x1 (xa.toNat * 4 + 2))) (dN (cel x1 (xa.toNat * 4 + 3))) (dL (cel x1 (xa.toNat * 4 + 3)))) fun xb =>
  (.sees [(.agg [(aI (dI (cel x3 (xa.toNat * 4)))), (aI (dI (cel x3 (xa.toNat * 4 + 1)))), (aI (dI (cel x3 (xa.toNat * 4 + 2)))), (.d (.sl (dN (cel x3 (xa.toNat * 4 + 3))) (dL (cel x3 (xa.toNat * 4 + 3)))))]), (.agg [(aI (dI (cel x1 (xa.toNat * 4)))), (aI (dI (cel x1 (xa.toNat * 4 + 1)))), (aI (dI (cel x1 (xa.toNat * 4 + 2)))), (.d (.sl (dN (cel x1 (xa.toNat * 4 + 3))) (dL (cel x1 (xa.toNat * 4 + 3)))))])] (.br (!xb)
  (.ret false)
  (.ask (.in64 (xa + 1)) (.nxt (.c1 x0 x1 x2 x3 x9 (xa + 1)))))))))))))))))
  (.ret true))
noncomputable def F61 (x0 : Nat) (x1 : List DV) (x2 : Nat) (x3 : List DV) : Option (Bool) := res B61 (.c0 x0 x1 x2 x3)
noncomputable def D61_0 (x0 : Nat) (x1 : List DV) (x2 : Nat) (x3 : List DV) : DT cfz := (.go 13 [] [] (.split 14 (.go 6 [(.br true)] [0] .fin) (.go 11 [(.br false)] [0] (.cut 0 [[1, 2, 15, 16, 17]] []))))
theorem k61_0 (x0 : Nat) (x1 : List DV) (x2 : Nat) (x3 : List DV) : xrun cfz 61 (D61_0 x0 x1 x2 x3) [] (st61 (.c0 x0 x1 x2 x3)) = (B61 (.c0 x0 x1 x2 x3)).mach st61 out61 := by kernel_rfl
noncomputable def D61_1 (x0 : Nat) (x1 : List DV) (x2 : Nat) (x3 : List DV) (x9 xa : Int) : DT cfz := (.go 5 [] [] (.split 18 (.go 27 [(.br true), (.as (.agg [(aI (dI (cel x3 (xa.toNat * 4)))), (aI (dI (cel x3 (xa.toNat * 4 + 1)))), (aI (dI (cel x3 (xa.toNat * 4 + 2)))), (.d (.sl (dN (cel x3 (xa.toNat * 4 + 3))) (dL (cel x3 (xa.toNat * 4 + 3)))))])), .none, (.as (.agg [(aI (dI (cel x1 (xa.toNat * 4)))), (aI (dI (cel x1 (xa.toNat * 4 + 1)))), (aI (dI (cel x1 (xa.toNat * 4 + 2)))), (.d (.sl (dN (cel x1 (xa.toNat * 4 + 3))) (dL (cel x1 (xa.toNat * 4 + 3)))))]))] [0] (.bind (f62 (dI (cel x3 (xa.toNat * 4))) (dI (cel x3 (xa.toNat * 4 + 1))) (dI (cel x3 (xa.toNat * 4 + 2))) (dN (cel x3 (xa.toNat * 4 + 3))) (dL (cel x3 (xa.toNat * 4 + 3))) (dI (cel x1 (xa.toNat * 4))) (dI (cel x1 (xa.toNat * 4 + 1))) (dI (cel x1 (xa.toNat * 4 + 2))) (dN (cel x1 (xa.toNat * 4 + 3))) (dL (cel x1 (xa.toNat * 4 + 3)))) fun xb => (.go 3 [(.ck 0)] [] (.split 30 (.go 6 [(.br true)] [0] .fin) (.go 8 [(.br false)] [0] (.cut 0 [[1, 2, 15, 16, 17]] [])))))) (.go 7 [(.br false)] [0] .fin)))
theorem k61_1 (x0 : Nat) (x1 : List DV) (x2 : Nat) (x3 : List DV) (x9 xa : Int) : xrun cfz 61 (D61_1 x0 x1 x2 x3 x9 xa) [] (st61 (.c1 x0 x1 x2 x3 x9 xa)) = (B61 (.c1 x0 x1 x2 x3 x9 xa)).mach st61 out61 := by kernel_rfl
theorem ok61 : ∀ s, ∃ d, xrun cfz 61 d [] (st61 s) = (B61 s).mach st61 out61
  | .c0 x0 x1 x2 x3 => ⟨_, k61_0 x0 x1 x2 x3⟩
  | .c1 x0 x1 x2 x3 x9 xa => ⟨_, k61_1 x0 x1 x2 x3 x9 xa⟩
theorem f61 (x0 : Nat) (x1 : List DV) (x2 : Nat) (x3 : List DV) (v : Bool) (h : F61 x0 x1 x2 x3 = some v) : PureCalls cfz.P cfz.glob 61 [(.d (.sl x0 x1)), (.d (.sl x2 x3)), (.d (.v (.func (.func 62) (#[]) (#[]))))] (out61 v) := tree_pure knil ok61 (s := .c0 x0 x1 x2 x3) rfl (by kernel_rfl) v h
inductive S44 where
  | c0 (x0 : Nat) (x1 : List DV) (x2 x3 x9 : Int) (xa : Nat) (xb : List DV)
def out44 (v : Bool) : AV := (.d (.v (.bool v)))
noncomputable def st44 : S44 → ASt
  | .c0 x0 x1 x2 x3 x9 xa xb => ent cfz 44 [(.agg [(.d (.sl x0 x1)), (aI x2), (aI x3)]), (.agg [(aI x9), (.d (.sl xa xb))])]
noncomputable def B44 : S44 → Tr S44 (Bool)
  | .c0 x0 x1 x2 x3 x9 xa xb => (.br (decide (x9 ≥ x2))
  (.br (decide (x9 ≤ if x2 + x3 < (↑x0 : Int) then x2 + x3 else (↑x0 : Int)))
  (.bind (F61 xa xb (x9.toNat - 0) (List.take ((x9.toNat - 0) * 4) (List.drop 0 x1))) fun xc =>
  (.ask (.eqB (decide (x9 ≥ x2)) true) (.ask (.eqB (decide (x9 ≥ x2)) true) (.ask (.eqB (decide (x9 ≥ x2)) true) (.ask (.eqB (decide (x9 ≥ x2)) true) (.ask (.eqB (decide (x9 ≥ x2)) true) (.ask (.eqB (decide (x9 ≥ x2)) true) (.ask (.eqB (decide (x9 ≥ x2)) true) (.ask (.eqB (decide (x9 ≥ x2)) true) (.ask (.eqB (decide (x9 ≥ x2)) true) (.ask (.in64 (x2 + x3)) (.ask (.eqB (decide (x9 ≥ x2)) true) (.ask (.eqB (decide (x9 ≥ x2)) true) (.ask (.eqB (decide (x9 ≥ x2)) true) (.ask (.eqB (decide (x9 ≥ x2)) true) (.ask (.eqB (decide (x9 ≤ if x2 + x3 < (↑x0 : Int) then x2 + x3 else (↑x0 : Int))) true) (.ask (.eqB (decide (x9 ≤ if x2 + x3 < (↑x0 : Int) then x2 + x3 else (↑x0 : Int))) true) (.ask (.eqB (decide (x9 ≤ if x2 + x3 < (↑x0 : Int) then x2 + x3 else (↑x0 : Int))) true) (.ask (.eqB (decide (x9 ≤ if x2 + x3 < (↑x0 : Int) then x2 + x3 else (↑x0 : Int))) true) (.ask (.eqB (decide (x9 ≤ if x2 + x3 < (↑x0 : Int) then x2 + x3 else (↑x0 : Int))) true) (.ask (.eqB (decide (x9 ≤ if x2 + x3 < (↑x0 : Int) then x2 + x3 else (↑x0 : Int))) true) (.ask (.le 0 x9) (.ask (.le x9 ((↑x0 : Int))) (.ask (.eqN x1.length (x0 * 4)) (.ask (.eqB (decide (x9 ≤ if x2 + x3 < (↑x0 : Int) then x2 + x3 else (↑x0 : Int))) true) (.sees [(.d (.sl xa xb)), (.d (.sl (x9.toNat - 0) (List.take ((x9.toNat - 0) * 4) (List.drop 0 x1)))), (.d (.v (.func (.func 62) (#[]) (#[]))))] (.ask (.eqB (decide (x9 ≤ if x2 + x3 < (↑x0 : Int) then x2 + x3 else (↑x0 : Int))) true) (.ask (.eqB (decide (x9 ≤ if x2 + x3 < (↑x0 : Int) then x2 + x3 else (↑x0 : Int))) true) (.ret xc)))))))))))))))))))))))))))))
  (.ask (.eqB (decide (x9 ≥ x2)) true) (.ask (.eqB (decide (x9 ≥ x2)) true) (.ask (.eqB (decide (x9 ≥ x2)) true) (.ask (.eqB (decide (x9 ≥ x2)) true) (.ask (.eqB (decide (x9 ≥ x2)) true) (.ask (.eqB (decide (x9 ≥ x2)) true) (.ask (.eqB (decide (x9 ≥ x2)) true) (.ask (.eqB (decide (x9 ≥ x2)) true) (.ask (.eqB (decide (x9 ≥ x2)) true) (.ask (.in64 (x2 + x3)) (.ask (.eqB (decide (x9 ≥ x2)) true) (.ask (.eqB (decide (x9 ≥ x2)) true) (.ask (.eqB (decide (x9 ≥ x2)) true) (.ask (.eqB (decide (x9 ≥ x2)) true) (.ask (.eqB (decide (x9 ≤ if x2 + x3 < (↑x0 : Int) then x2 + x3 else (↑x0 : Int))) false) (.ask (.eqB (decide (x9 ≤ if x2 + x3 < (↑x0 : Int) then x2 + x3 else (↑x0 : Int))) false) (.ask (.eqB (decide (x9 ≤ if x2 + x3 < (↑x0 : Int) then x2 + x3 else (↑x0 : Int))) false) (.ask (.eqB (decide (x9 ≤ if x2 + x3 < (↑x0 : Int) then x2 + x3 else (↑x0 : Int))) false) (.ask (.eqB (decide (x9 ≤ if x2 + x3 < (↑x0 : Int) then x2 + x3 else (↑x0 : Int))) false) (.ask (.eqB (decide (x9 ≤ if x2 + x3 < (↑x0 : Int) then x2 + x3 else (↑x0 : Int))) false) (.ask (.eqB (decide (x9 ≤ if x2 + x3 < (↑x0 : Int) then x2 + x3 else (↑x0 : Int))) false) (.ask (.eqB (decide (x9 ≤ if x2 + x3 < (↑x0 : Int) then x2 + x3 else (↑x0 : Int))) false) (.ask (.eqB (decide (x9 ≤ if x2 + x3 < (↑x0 : Int) then x2 + x3 else (↑x0 : Int))) false) (.ret false)))))))))))))))))))))))))
  (.ask (.eqB (decide (x9 ≥ x2)) false) (.ask (.eqB (decide (x9 ≥ x2)) false) (.ask (.eqB (decide (x9 ≥ x2)) false) (.ask (.eqB (decide (x9 ≥ x2)) false) (.ask (.eqB (decide (x9 ≥ x2)) false) (.ask (.eqB (decide (x9 ≥ x2)) false) (.ask (.eqB (decide (x9 ≥ x2)) false) (.ask (.eqB (decide (x9 ≥ x2)) false) (.ask (.eqB (decide (x9 ≥ x2)) false) (.ask (.eqB (decide (x9 ≥ x2)) false) (.ask (.eqB (decide (x9 ≥ x2)) false) (.ask (.eqB (decide (x9 ≥ x2)) false) (.ask (.eqB (decide (x9 ≥ x2)) false) (.ret false)))))))))))))))
noncomputable def F44 (x0 : Nat) (x1 : List DV) (x2 x3 x9 : Int) (xa : Nat) (xb : List DV) : Option (Bool) := res B44 (.c0 x0 x1 x2 x3 x9 xa xb)
noncomputable def D44_0 (x0 : Nat) (x1 : List DV) (x2 x3 x9 : Int) (xa : Nat) (xb : List DV) : DT cfz := (.go 8 [] [] (.br (decide (x9 ≥ x2)) (.br (decide (x9 ≤ if x2 + x3 < (↑x0 : Int) then x2 + x3 else (↑x0 : Int))) (.bind (f61 xa xb (x9.toNat - 0) (List.take ((x9.toNat - 0) * 4) (List.drop 0 x1))) fun xc => (.go 2 [.none, .none, (.br true), (.br true), .none, (.br true), (.br true), .none, (.br true), (.br true), (.br true), .none, (.br true), (.br true), .none, (.br true), (.br true), (.br true), (.br true), (.br true), (.br true), .none, (.br true), (.br true), .none, (.br true), (.br true), .none, (.br true), (.br true), (.ck 0), (.br true)] [20] .fin)) (.go 2 [.none, .none, (.br true), (.br true), .none, (.br true), (.br true), .none, (.br true), (.br true), (.br true), .none, (.br true), (.br true), .none, (.br true), (.br true), (.br true), (.br true), (.br false), (.br false), (.br false), (.br false), (.br false), (.br false), (.br false), (.br false), (.br false)] [] .fin)) (.go 2 [.none, .none, (.br false), (.br false), (.br false), (.br false), (.br false), (.br false), (.br false), (.br false), (.br false), (.br false), (.br false), (.br false), (.br false), (.br false), (.br false), (.br false), (.br false), (.br false), (.br false), (.br false), (.br false)] [13, 14, 15, 16, 17, 18, 19, 20] .fin)))
theorem k44_0 (x0 : Nat) (x1 : List DV) (x2 x3 x9 : Int) (xa : Nat) (xb : List DV) : xrun cfz 44 (D44_0 x0 x1 x2 x3 x9 xa xb) [] (st44 (.c0 x0 x1 x2 x3 x9 xa xb)) = (B44 (.c0 x0 x1 x2 x3 x9 xa xb)).mach st44 out44 := by kernel_rfl
theorem ok44 : ∀ s, ∃ d, xrun cfz 44 d [] (st44 s) = (B44 s).mach st44 out44
  | .c0 x0 x1 x2 x3 x9 xa xb => ⟨_, k44_0 x0 x1 x2 x3 x9 xa xb⟩
theorem f44 (x0 : Nat) (x1 : List DV) (x2 x3 x9 : Int) (xa : Nat) (xb : List DV) (v : Bool) (h : F44 x0 x1 x2 x3 x9 xa xb = some v) : PureCalls cfz.P cfz.glob 44 [(.agg [(.d (.sl x0 x1)), (aI x2), (aI x3)]), (.agg [(aI x9), (.d (.sl xa xb))])] (out44 v) := tree_pure knil ok44 (s := .c0 x0 x1 x2 x3 x9 xa xb) rfl (by kernel_rfl) v h
inductive S63 where
  | c0 (a2 : Nat) (a3 : List DV)
  | c1 (x4 : Nat) (x5 : List DV) (x6 y7 : Int)
  | c2 (y17 y18 : Nat) (y19 : List DV) (x20 : Nat) (x21 : List DV) (x22 y23 : Int) (y25 : Nat)
def out63 (v : Nat × List DV) : AV := (.d (.sl v.fst v.snd))
noncomputable def td63_0 : List AItem := [(.code (cd cfz.P 63 [1, 1, 0, 1, 0, 0])), (.inLoop (cd cfz.P 63 [1, 1, 0, 1, 0, 0])), (.inBlock 0), (.code (cd cfz.P 63 [1, 1, 1]))]
noncomputable def st63 : S63 → ASt
  | .c0 a2 a3 => ent cfz 63 [(.d (.sl a2 a3)), (.d (.v (.func (.func 40) (#[]) (#[]))))]
  | .c1 x4 x5 x6 y7 => ⟨⟨63, sp 22 0 [(1, (.d (.v (.func (.func 40) (#[]) (#[]))))), (5, (.d (.v (.slice .none 0 0)))), (8, (.d (.sl x4 x5))), (9, (aI x6)), (10, (aI y7))], td63_0, [], false, .none⟩, [], []⟩
  | .c2 y17 y18 y19 x20 x21 x22 y23 y25 => ⟨⟨63, sp 22 0 [(1, (.d (.v (.func (.func 40) (#[]) (#[]))))), (5, (.own 2 y17 4 y18 y19)), (8, (.d (.sl x20 x21))), (9, (aI x22)), (10, (aI y23))], td63_0, [], false, .none⟩, [], [.dead, (.tail 0), (.tail y25)]⟩
noncomputable def B63 : S63 → Tr S63 (Nat × List DV)
  | .c0 a2 a3 => (.nxt (.c1 a2 a3 ((↑a2 : Int)) 0))
  | .c1 x4 x5 x6 y7 => (.br (decide (y7 < x6))
  (.ask (.le 0 y7) (.ask (.lt y7 ((↑x4 : Int))) (.ask (.leN (y7.toNat * 4) x5.length) (.ask (.leN 4 ((List.drop (y7.toNat * 4) x5).length)) (.ask (.prop (List.map AV.d (List.take 4 (List.drop (y7.toNat * 4) x5)) = [AV.d (DV.v (Value.int IntKind.i64 (dI (cel x5 (y7.toNat * 4))))), AV.d (DV.v (Value.int IntKind.i64 (dI (cel x5 (y7.toNat * 4 + 1))))), AV.d (DV.v (Value.int IntKind.i64 (dI (cel x5 (y7.toNat * 4 + 2))))), AV.d (DV.sl (dN (cel x5 (y7.toNat * 4 + 3))) (dL (cel x5 (y7.toNat * 4 + 3))))])) (.bind (F40 (dI (cel x5 (y7.toNat * 4))) (dI (cel x5 (y7.toNat * 4 + 1))) (dI (cel x5 (y7.toNat * 4 + 2))) (dN (cel x5 (y7.toNat * 4 + 3))) (dL (cel x5 (y7.toNat * 4 + 3)))) fun v16 =>
  (.sees [(.agg [(aI (dI (cel x5 (y7.toNat * 4)))), (aI (dI (cel x5 (y7.toNat * 4 + 1)))), (aI (dI (cel x5 (y7.toNat * 4 + 2)))), (.d (.sl (dN (cel x5 (y7.toNat * 4 + 3))) (dL (cel x5 (y7.toNat * 4 + 3)))))])] (.ask (.in64 (y7 + 1)) (.nxt (.c2 0 1 [(.v (.int .i64 v16.fst)), (.v (.int .i64 v16.snd.fst)), (.v (.int .i64 v16.snd.snd.fst)), (.sl v16.snd.snd.snd.fst v16.snd.snd.snd.snd)] x4 x5 x6 (y7 + 1) 0))))))))))
  (.ret (0, [])))
  | .c2 y17 y18 y19 x20 x21 x22 y23 y25 => (.br (decide (y23 < x22))
  (.ask (.le 0 y23) (.ask (.lt y23 ((↑x20 : Int))) (.ask (.leN (y23.toNat * 4) x21.length) (.ask (.leN 4 ((List.drop (y23.toNat * 4) x21).length)) (.ask (.prop (List.map AV.d (List.take 4 (List.drop (y23.toNat * 4) x21)) = [AV.d (DV.v (Value.int IntKind.i64 (dI (cel x21 (y23.toNat * 4))))), AV.d (DV.v (Value.int IntKind.i64 (dI (cel x21 (y23.toNat * 4 + 1))))), AV.d (DV.v (Value.int IntKind.i64 (dI (cel x21 (y23.toNat * 4 + 2))))), AV.d (DV.sl (dN (cel x21 (y23.toNat * 4 + 3))) (dL (cel x21 (y23.toNat * 4 + 3))))])) (.bind (F40 (dI (cel x21 (y23.toNat * 4))) (dI (cel x21 (y23.toNat * 4 + 1))) (dI (cel x21 (y23.toNat * 4 + 2))) (dN (cel x21 (y23.toNat * 4 + 3))) (dL (cel x21 (y23.toNat * 4 + 3)))) fun v26 =>
  (.sees [(.agg [(aI (dI (cel x21 (y23.toNat * 4)))), (aI (dI (cel x21 (y23.toNat * 4 + 1)))), (aI (dI (cel x21 (y23.toNat * 4 + 2)))), (.d (.sl (dN (cel x21 (y23.toNat * 4 + 3))) (dL (cel x21 (y23.toNat * 4 + 3)))))])] (.ask (.eqN y17 y25) (.ask (.fits (y18 + 1) 48) (.ask (.in64 (y23 + 1)) (.nxt (.c2 (y25 + 1) (y18 + 1) (y19 ++ [DV.v (Value.int IntKind.i64 v26.fst), DV.v (Value.int IntKind.i64 v26.snd.fst), DV.v (Value.int IntKind.i64 v26.snd.snd.fst), DV.sl v26.snd.snd.snd.fst v26.snd.snd.snd.snd]) x20 x21 x22 (y23 + 1) (y25 + 1)))))))))))))
  (.ret (y18, y19)))
noncomputable def F63 (a2 : Nat) (a3 : List DV) : Option (Nat × List DV) := res B63 (.c0 a2 a3)
noncomputable def D63_0 (a2 : Nat) (a3 : List DV) : DT cfz := (.go 17 [] [] (.cut 0 [[1, 5, 8, 9, 10]] []))
theorem k63_0 (a2 : Nat) (a3 : List DV) : xrun cfz 63 (D63_0 a2 a3) [] (st63 (.c0 a2 a3)) = (B63 (.c0 a2 a3)).mach st63 out63 := by kernel_rfl
noncomputable def D63_1 (x4 : Nat) (x5 : List DV) (x6 y7 : Int) : DT cfz := (.go 5 [] [] (.split 11 (.go 15 [(.br true), (.as (.agg [(aI (dI (cel x5 (y7.toNat * 4)))), (aI (dI (cel x5 (y7.toNat * 4 + 1)))), (aI (dI (cel x5 (y7.toNat * 4 + 2)))), (.d (.sl (dN (cel x5 (y7.toNat * 4 + 3))) (dL (cel x5 (y7.toNat * 4 + 3)))))]))] [0] (.bind (f40 (dI (cel x5 (y7.toNat * 4))) (dI (cel x5 (y7.toNat * 4 + 1))) (dI (cel x5 (y7.toNat * 4 + 2))) (dN (cel x5 (y7.toNat * 4 + 3))) (dL (cel x5 (y7.toNat * 4 + 3)))) fun v16 => (.go 11 [(.ck 0)] [1, 2, 3] (.cut 3 [[1, 5, 8, 9, 10]] [0])))) (.go 8 [(.br false)] [0] .fin)))
theorem k63_1 (x4 : Nat) (x5 : List DV) (x6 y7 : Int) : xrun cfz 63 (D63_1 x4 x5 x6 y7) [] (st63 (.c1 x4 x5 x6 y7)) = (B63 (.c1 x4 x5 x6 y7)).mach st63 out63 := by kernel_rfl
noncomputable def D63_2 (y17 y18 : Nat) (y19 : List DV) (x20 : Nat) (x21 : List DV) (x22 y23 : Int) (y25 : Nat) : DT cfz := (.go 5 [] [] (.split 11 (.go 15 [(.br true), (.as (.agg [(aI (dI (cel x21 (y23.toNat * 4)))), (aI (dI (cel x21 (y23.toNat * 4 + 1)))), (aI (dI (cel x21 (y23.toNat * 4 + 2)))), (.d (.sl (dN (cel x21 (y23.toNat * 4 + 3))) (dL (cel x21 (y23.toNat * 4 + 3)))))]))] [0] (.bind (f40 (dI (cel x21 (y23.toNat * 4))) (dI (cel x21 (y23.toNat * 4 + 1))) (dI (cel x21 (y23.toNat * 4 + 2))) (dN (cel x21 (y23.toNat * 4 + 3))) (dL (cel x21 (y23.toNat * 4 + 3)))) fun v26 => (.go 11 [(.ck 0)] [2, 3] (.cut 3 [[1, 5, 8, 9, 10]] [])))) (.go 8 [(.br false)] [0] .fin)))
theorem k63_2 (y17 y18 : Nat) (y19 : List DV) (x20 : Nat) (x21 : List DV) (x22 y23 : Int) (y25 : Nat) : xrun cfz 63 (D63_2 y17 y18 y19 x20 x21 x22 y23 y25) [] (st63 (.c2 y17 y18 y19 x20 x21 x22 y23 y25)) = (B63 (.c2 y17 y18 y19 x20 x21 x22 y23 y25)).mach st63 out63 := by kernel_rfl
theorem ok63 : ∀ s, ∃ d, xrun cfz 63 d [] (st63 s) = (B63 s).mach st63 out63
  | .c0 a2 a3 => ⟨_, k63_0 a2 a3⟩
  | .c1 x4 x5 x6 y7 => ⟨_, k63_1 x4 x5 x6 y7⟩
  | .c2 y17 y18 y19 x20 x21 x22 y23 y25 => ⟨_, k63_2 y17 y18 y19 x20 x21 x22 y23 y25⟩
theorem f63 (a2 : Nat) (a3 : List DV) (v : Nat × List DV) (h : F63 a2 a3 = some v) : PureCalls cfz.P cfz.glob 63 [(.d (.sl a2 a3)), (.d (.v (.func (.func 40) (#[]) (#[]))))] (out63 v) := tree_pure knil ok63 (s := .c0 a2 a3) rfl (by kernel_rfl) v h
inductive S45 where
  | c0 (a0 : Nat) (a1 : List DV)
def out45 (v : Nat × List DV) : AV := (.d (.sl v.fst v.snd))
noncomputable def st45 : S45 → ASt
  | .c0 a0 a1 => ent cfz 45 [(.d (.sl a0 a1))]
noncomputable def B45 : S45 → Tr S45 (Nat × List DV)
  | .c0 a0 a1 => (.ask (.le 0 ((↑a0 : Int))) (.ask (.le ((↑a0 : Int)) ((↑a0 : Int))) (.ask (.le (48 * (↑a0 : Int)) 281474976710656) (.ask (.le ((↑a0 : Int)) 9223372036854775807) (.ask (.eqN a1.length (a0 * 4)) (.ask (.leN (0 + min a0 (↑a0 : Int).toNat * 4) ((zerosA (List.map (fun (x : Value) => AV.d (DV.v x)) (Value.agg #[Value.int IntKind.i64 0, Value.int IntKind.i64 0, Value.int IntKind.i64 0, Value.slice none 0 0]).cells.toList) (↑a0 : Int).toNat).length)) (.ask (.leN (0 + (↑a0 : Int).toNat * 4) ((spliceA (zerosA (List.map (fun (x : Value) => AV.d (DV.v x)) (Value.agg #[Value.int IntKind.i64 0, Value.int IntKind.i64 0, Value.int IntKind.i64 0, Value.slice none 0 0]).cells.toList) (↑a0 : Int).toNat) 0 (List.map AV.d (List.take (min a0 (↑a0 : Int).toNat * 4) a1))).length)) (.ask (.prop (toDs (List.take ((↑a0 : Int).toNat * 4) (List.drop 0 (spliceA (zerosA (List.map (fun (x : Value) => AV.d (DV.v x)) (Value.agg #[Value.int IntKind.i64 0, Value.int IntKind.i64 0, Value.int IntKind.i64 0, Value.slice none 0 0]).cells.toList) (↑a0 : Int).toNat) 0 (List.map AV.d (List.take (min a0 (↑a0 : Int).toNat * 4) a1))))) = some (List.map aD (List.take ((↑a0 : Int).toNat * 4) (List.drop 0 (spliceA (zerosA (List.map (fun (x : Value) => AV.d (DV.v x)) (Value.agg #[Value.int IntKind.i64 0, Value.int IntKind.i64 0, Value.int IntKind.i64 0, Value.slice none 0 0]).cells.toList) (↑a0 : Int).toNat) 0 (List.map AV.d (List.take (min a0 (↑a0 : Int).toNat * 4) a1)))))))) (.bind (F63 ((↑a0 : Int).toNat) (List.map aD (List.take ((↑a0 : Int).toNat * 4) (List.drop 0 (spliceA (zerosA (List.map (fun (x : Value) => AV.d (DV.v x)) (Value.agg #[Value.int IntKind.i64 0, Value.int IntKind.i64 0, Value.int IntKind.i64 0, Value.slice none 0 0]).cells.toList) (↑a0 : Int).toNat) 0 (List.map AV.d (List.take (min a0 (↑a0 : Int).toNat * 4) a1))))))) fun v27 =>
  (.sees [(.d (.sl ((↑a0 : Int).toNat) (List.map aD (List.take ((↑a0 : Int).toNat * 4) (List.drop 0 (spliceA (zerosA (List.map (fun (x : Value) => AV.d (DV.v x)) (Value.agg #[Value.int IntKind.i64 0, Value.int IntKind.i64 0, Value.int IntKind.i64 0, Value.slice none 0 0]).cells.toList) (↑a0 : Int).toNat) 0 (List.map AV.d (List.take (min a0 (↑a0 : Int).toNat * 4) a1)))))))), (.d (.v (.func (.func 40) (#[]) (#[]))))] (.ret (v27.fst, v27.snd))))))))))))
noncomputable def F45 (a0 : Nat) (a1 : List DV) : Option (Nat × List DV) := res B45 (.c0 a0 a1)
noncomputable def D45_0 (a0 : Nat) (a1 : List DV) : DT cfz := (.go 18 [] [] (.frz 3 (.go 2 [] [] (.bind (f63 ((↑a0 : Int).toNat) (List.map aD (List.take ((↑a0 : Int).toNat * 4) (List.drop 0 (spliceA (zerosA (List.map (fun (x : Value) => AV.d (DV.v x)) (Value.agg #[Value.int IntKind.i64 0, Value.int IntKind.i64 0, Value.int IntKind.i64 0, Value.slice none 0 0]).cells.toList) (↑a0 : Int).toNat) 0 (List.map AV.d (List.take (min a0 (↑a0 : Int).toNat * 4) a1))))))) fun v27 => (.go 4 [(.ck 0)] [] .fin)))))
theorem k45_0 (a0 : Nat) (a1 : List DV) : xrun cfz 45 (D45_0 a0 a1) [] (st45 (.c0 a0 a1)) = (B45 (.c0 a0 a1)).mach st45 out45 := by kernel_rfl
theorem ok45 : ∀ s, ∃ d, xrun cfz 45 d [] (st45 s) = (B45 s).mach st45 out45
  | .c0 a0 a1 => ⟨_, k45_0 a0 a1⟩
theorem f45 (a0 : Nat) (a1 : List DV) (v : Nat × List DV) (h : F45 a0 a1 = some v) : PureCalls cfz.P cfz.glob 45 [(.d (.sl a0 a1))] (out45 v) := tree_pure knil ok45 (s := .c0 a0 a1) rfl (by kernel_rfl) v h
inductive S50 where
  | c0 (x0 : Nat) (x1 : List DV) (x2 x3 : Int)
def out50 (v : List DV) : AV := (.fn (.func 65) [] [(.ip v)])
noncomputable def st50 : S50 → ASt
  | .c0 x0 x1 x2 x3 => ent cfz 50 [(.agg [(.d (.sl x0 x1)), (aI x2), (aI x3)])]
noncomputable def B50 : S50 → Tr S50 (List DV)
  | .c0 x0 x1 x2 x3 => (.ret [(.sl x0 x1), (.v (.int .i64 x2)), (.v (.int .i64 x3))])
noncomputable def F50 (x0 : Nat) (x1 : List DV) (x2 x3 : Int) : Option (List DV) := res B50 (.c0 x0 x1 x2 x3)
noncomputable def D50_0 (x0 : Nat) (x1 : List DV) (x2 x3 : Int) : DT cfz := (.go 11 [] [] .fin)
theorem k50_0 (x0 : Nat) (x1 : List DV) (x2 x3 : Int) : xrun cfz 50 (D50_0 x0 x1 x2 x3) [] (st50 (.c0 x0 x1 x2 x3)) = (B50 (.c0 x0 x1 x2 x3)).mach st50 out50 := by kernel_rfl
theorem ok50 : ∀ s, ∃ d, xrun cfz 50 d [] (st50 s) = (B50 s).mach st50 out50
  | .c0 x0 x1 x2 x3 => ⟨_, k50_0 x0 x1 x2 x3⟩
theorem f50 (x0 : Nat) (x1 : List DV) (x2 x3 : Int) (v : List DV) (h : F50 x0 x1 x2 x3 = some v) : PureCalls cfz.P cfz.glob 50 [(.agg [(.d (.sl x0 x1)), (aI x2), (aI x3)])] (out50 v) := tree_pure knil ok50 (s := .c0 x0 x1 x2 x3) rfl (by kernel_rfl) v h
end Go.Kv
