import Derived.Test.YtfojgeoicgmncaaGE
import Derived.Test.YtfojgeoicgmncaaKR2
namespace Go.Kv
set_option linter.unusedVariables false
set_option linter.unusedSimpArgs false
open Go Go.RowKit Go.Proofs
set_option maxRecDepth 100000
inductive S11 where
  | c0 (a86 : Nat) (a87 : List DV) (a88 a89 : Int) (a90 : Nat) (a91 : List DV)
def out11 (v : Nat × List DV × Bool) : AV := (.tup [(.d (.sl v.fst v.snd.fst)), (.d (.v (.bool v.snd.snd)))])
noncomputable def st11 : S11 → ASt
  | .c0 a86 a87 a88 a89 a90 a91 => ent cfz 11 [(.d (.sl a86 a87)), (aI a88), (aI a89), (.d (.sl a90 a91))]
noncomputable def B11 : S11 → Tr S11 (Nat × List DV × Bool)
  | .c0 a86 a87 a88 a89 a90 a91 => (.br (a86.beq 0)
  (.ask (.eqN a86 0) (.bind (F27 a88 0 [] a89) fun v92 =>
  (.sees [(aI a88), (.d (.sl 0 [])), (aI a89)] (.triv _ (tv_s ((v92.snd.snd != 0) == false)) (.triv _ (tv_s ((v92.snd.snd != 0) == false)) (.triv _ (tv_f (v92.snd.snd != 0)) (.triv _ (tv_s ((if (v92.snd.snd != 0) = true then true else decide ((↑v92.fst : Int) < 1)) == false)) (.triv _ (tv_s ((if (v92.snd.snd != 0) = true then true else decide ((↑v92.fst : Int) < 1)) == false)) (.br (if (v92.snd.snd != 0) = true then true else decide ((↑v92.fst : Int) < 1))
  (.ret (0, [], false))
  (.ask (.eqB ((if (v92.snd.snd != 0) = true then true else decide ((↑v92.fst : Int) < 1)) == false) true) (.ask (.in64 ((↑a86 : Int) + 1)) (.ask (.eqB ((if (v92.snd.snd != 0) = true then true else decide ((↑v92.fst : Int) < 1)) == false) true) (.br (decide ((↑v92.fst : Int) > (↑a86 : Int) + 1))
  (.ret (0, [], false))
  (.bind (F29 a90 a91) fun v93 =>
  (.sees [(.d (.sl a90 a91))] (.bind (F28 v92.fst v92.snd.fst 0 4 0 0 [] v93.fst v93.snd) fun v94 =>
  (.sees [(.agg [(.d (.sl v92.fst v92.snd.fst)), (aI 0), (aI 4)]), (.agg [(aI 0), (.d (.sl 0 []))]), (.d (.sl v93.fst v93.snd))] (.br (v94.snd.snd.snd.snd.snd.snd.snd != 0)
  (.ret (0, [], false))
  (.br (decide (v94.snd.snd.snd.snd.fst < 0))
  (.ret (0, [], false))
  (.br (decide (v94.snd.snd.snd.snd.fst > (↑v92.fst : Int)))
  (.ret (0, [], false))
  (.br ((↑v94.snd.snd.snd.snd.snd.fst : Int) != v94.snd.snd.snd.snd.fst)
  (.ret (0, [], false))
  (.bind (F28 v94.fst v94.snd.fst v94.snd.snd.fst v94.snd.snd.snd.fst v94.snd.snd.snd.snd.fst v94.snd.snd.snd.snd.snd.fst v94.snd.snd.snd.snd.snd.snd.fst ((↑v92.fst : Int).toNat) ((List.replicate (↑v92.fst : Int).toNat (List.map weakZ (Value.agg #[Value.slice none 0 0, Value.slice none 0 0, Value.bool false]).cells.toList)).flatten)) fun v95 =>
  (.ask (.eqI ((↑v92.fst : Int)) ((↑v92.fst : Int))) (.ask (.le 0 ((↑v92.fst : Int))) (.ask (.le ((↑v92.fst : Int)) ((↑v92.fst : Int))) (.ask (.le (56 * (↑v92.fst : Int)) 281474976710656) (.ask (.le ((↑v92.fst : Int)) 9223372036854775807) (.sees [(.agg [(.d (.sl v94.fst v94.snd.fst)), (aI v94.snd.snd.fst), (aI v94.snd.snd.snd.fst)]), (.agg [(aI v94.snd.snd.snd.snd.fst), (.d (.sl v94.snd.snd.snd.snd.snd.fst v94.snd.snd.snd.snd.snd.snd.fst))]), (.d (.sl ((↑v92.fst : Int).toNat) ((List.replicate (↑v92.fst : Int).toNat (List.map weakZ (Value.agg #[Value.slice none 0 0, Value.slice none 0 0, Value.bool false]).cells.toList)).flatten)))] (.br (v95.snd.snd.snd.snd.snd.snd.snd != 0)
  (.ret (0, [], false))
  (.br (v95.snd.snd.snd.snd.fst != (↑v92.fst : Int))
  (.ret (0, [], false))
  (.br ((↑v95.snd.snd.snd.snd.snd.fst : Int) != (↑v92.fst : Int))
  (.ret (0, [], false))
  (.bind (F30 v95.snd.snd.snd.snd.snd.fst v95.snd.snd.snd.snd.snd.snd.fst) fun v96 =>
  (.sees [(.d (.sl v95.snd.snd.snd.snd.snd.fst v95.snd.snd.snd.snd.snd.snd.fst))] (.ret (v96.fst, v96.snd.fst, (v96.snd.snd == 0))))))))))))))))))))))))))))))))))))
  (.ask (.ltN 0 a86) (.ask (.eqN a87.length (a86 * 1)) (.ask (.fits a86 1) (.bind (F27 a88 a86 a87 a89) fun v97 =>
  (.sees [(aI a88), (.d (.sl a86 a87)), (aI a89)] (.triv _ (tv_s ((v97.snd.snd != 0) == false)) (.triv _ (tv_s ((v97.snd.snd != 0) == false)) (.triv _ (tv_f (v97.snd.snd != 0)) (.triv _ (tv_s ((if (v97.snd.snd != 0) = true then true else decide ((↑v97.fst : Int) < 1)) == false)) (.triv _ (tv_s ((if (v97.snd.snd != 0) = true then true else decide ((↑v97.fst : Int) < 1)) == false)) (.br (if (v97.snd.snd != 0) = true then true else decide ((↑v97.fst : Int) < 1))
  (.ret (0, [], false))
  (.ask (.eqB ((if (v97.snd.snd != 0) = true then true else decide ((↑v97.fst : Int) < 1)) == false) true) (.ask (.in64 ((↑a86 : Int) + 1)) (.ask (.eqB ((if (v97.snd.snd != 0) = true then true else decide ((↑v97.fst : Int) < 1)) == false) true) (.br (decide ((↑v97.fst : Int) > (↑a86 : Int) + 1))
  (.ret (0, [], false))
  (.bind (F29 a90 a91) fun v98 =>
  (.sees [(.d (.sl a90 a91))] (.bind (F28 v97.fst v97.snd.fst 0 4 0 0 [] v98.fst v98.snd) fun v99 =>
  (.sees [(.agg [(.d (.sl v97.fst v97.snd.fst)), (aI 0), (aI 4)]), (.agg [(aI 0), (.d (.sl 0 []))]), (.d (.sl v98.fst v98.snd))] (.br (v99.snd.snd.snd.snd.snd.snd.snd != 0)
  (.ret (0, [], false))
  (.br (decide (v99.snd.snd.snd.snd.fst < 0))
  (.ret (0, [], false))
  (.br (decide (v99.snd.snd.snd.snd.fst > (↑v97.fst : Int)))
  (.ret (0, [], false))
  (.br ((↑v99.snd.snd.snd.snd.snd.fst : Int) != v99.snd.snd.snd.snd.fst)
  (.ret (0, [], false))
  (.bind (F28 v99.fst v99.snd.fst v99.snd.snd.fst v99.snd.snd.snd.fst v99.snd.snd.snd.snd.fst v99.snd.snd.snd.snd.snd.fst v99.snd.snd.snd.snd.snd.snd.fst ((↑v97.fst : Int).toNat) ((List.replicate (↑v97.fst : Int).toNat (List.map weakZ (Value.agg #[Value.slice none 0 0, Value.slice none 0 0, Value.bool false]).cells.toList)).flatten)) fun x0 =>
  (.ask (.eqI ((↑v97.fst : Int)) ((↑v97.fst : Int))) (.ask (.le 0 ((↑v97.fst : Int))) (.ask (.le ((↑v97.fst : Int)) ((↑v97.fst : Int))) (.ask (.le (56 * (↑v97.fst : Int)) 281474976710656) (.ask (.le ((↑v97.fst : Int)) 9223372036854775807) (.sees [(.agg [(.d (.sl v99.fst v99.snd.fst)), (aI v99.snd.snd.fst), (aI v99.snd.snd.snd.fst)]), (.agg [(aI v99.snd.snd.snd.snd.fst), (.d (.sl v99.snd.snd.snd.snd.snd.fst v99.snd.snd.snd.snd.snd.snd.fst))]), (.d (.sl ((↑v97.fst : Int).toNat) ((List.replicate (↑v97.fst : Int).toNat (List.map weakZ (Value.agg #[Value.slice none 0 0, Value.slice none 0 0, Value.bool false]).cells.toList)).flatten)))] (.br (x0.snd.snd.snd.snd.snd.snd.snd != 0)
  (.ret (0, [], false))
  (.br (x0.snd.snd.snd.snd.fst != (↑v97.fst : Int))
  (.ret (0, [], false))
  (.br ((↑x0.snd.snd.snd.snd.snd.fst : Int) != (↑v97.fst : Int))
  (.ret (0, [], false))
  (.bind (F30 x0.snd.snd.snd.snd.snd.fst x0.snd.snd.snd.snd.snd.snd.fst) fun x1 =>
  (.sees [(.d (.sl x0.snd.snd.snd.snd.snd.fst x0.snd.snd.snd.snd.snd.snd.fst))] (.ret (x1.fst, x1.snd.fst, (x1.snd.snd == 0)))))))))))))))))))))))))))))))))))))))
noncomputable def F11 (a86 : Nat) (a87 : List DV) (a88 a89 : Int) (a90 : Nat) (a91 : List DV) : Option (Nat × List DV × Bool) := res B11 (.c0 a86 a87 a88 a89 a90 a91)
noncomputable def D11_0 (a86 : Nat) (a87 : List DV) (a88 a89 : Int) (a90 : Nat) (a91 : List DV) : DT cfz := (.go 10 [] [] (.br (a86.beq 0) (.go 2 [(.br false)] [] (.bind (f27 a88 0 [] a89) fun v92 => (.go 22 [(.ck 0), (.sp .none), (.sp .none), (.sp .none), .mg, (.sp .none), (.sp .none), (.sp .none), (.sp .none)] [] (.split 35 (.go 11 [(.br true), (.br true), .none, (.br true)] [0, 1, 2] .fin) (.strip 39 (.go 1 [(.br false)] [1] (.strip 37 (.go 3 [(.br false)] [0] (.split 42 (.go 7 [(.br true)] [0] .fin) (.go 8 [(.br false)] [0] (.bind (f29 a90 a91) fun v93 => (.go 1 [(.ck 1)] [] (.bind (f28 v92.fst v92.snd.fst 0 4 0 0 [] v93.fst v93.snd) fun v94 => (.go 17 [(.ck 2)] [] (.split 55 (.go 27 [(.br true), (.br true), (.br true), .none, (.br true), (.br true), (.br true), (.br true), (.br true), .none, (.br true), (.br true), (.br true), (.br true), (.br true), (.br true), .none, (.br true)] [0, 1, 2, 3, 4, 5, 6, 7, 8, 9, 10, 11, 12, 13, 14] .fin) (.go 5 [(.br false), (.br false), .none, (.br false)] [0, 1, 2] (.split 60 (.go 22 [(.br true), (.br true), (.br true), (.br true), (.br true), .none, (.br true), (.br true), (.br true), (.br true), (.br true), (.br true), .none, (.br true)] [0, 1, 2, 3, 4, 5, 6, 7, 8, 9, 10, 11] .fin) (.go 7 [(.br false), (.br false), .none, (.br false), (.br false), (.br false)] [0, 1, 2, 3, 4] (.split 67 (.go 15 [(.br true), (.br true), (.br true), (.br true), (.br true), (.br true), .none, (.br true)] [0, 1, 2, 3, 4, 5, 6] .fin) (.go 8 [(.br false), (.br false), .none, (.br false), (.br false), (.br false), .none, (.br false)] [0, 1, 2, 3, 4, 5] (.split 74 (.go 7 [(.br true)] [0] .fin) (.go 4 [(.br false)] [0] (.bind (f28 v94.fst v94.snd.fst v94.snd.snd.fst v94.snd.snd.snd.fst v94.snd.snd.snd.snd.fst v94.snd.snd.snd.snd.snd.fst v94.snd.snd.snd.snd.snd.snd.fst ((↑v92.fst : Int).toNat) ((List.replicate (↑v92.fst : Int).toNat (List.map weakZ (Value.agg #[Value.slice none 0 0, Value.slice none 0 0, Value.bool false]).cells.toList)).flatten)) fun v95 => (.go 7 [.none, .none, .mg, (.ck 3)] [] (.split 87 (.go 22 [(.br true), (.br true), (.br true), (.br true), (.br true), .none, (.br true), (.br true), (.br true), (.br true), (.br true), (.br true), .none, (.br true)] [0, 1, 2, 3, 4, 5, 6, 7, 8, 9, 10, 11] .fin) (.go 7 [(.br false), (.br false), .none, (.br false), (.br false), (.br false)] [0, 1, 2, 3, 4] (.split 94 (.go 15 [(.br true), (.br true), (.br true), (.br true), (.br true), (.br true), .none, (.br true)] [0, 1, 2, 3, 4, 5, 6] .fin) (.go 8 [(.br false), (.br false), .none, (.br false), (.br false), (.br false), (.br false)] [0, 1, 2, 3, 4, 5] (.split 101 (.go 7 [(.br true)] [0] .fin) (.go 6 [(.br false)] [0] (.bind (f30 v95.snd.snd.snd.snd.snd.fst v95.snd.snd.snd.snd.snd.snd.fst) fun v96 => (.go 16 [(.ck 4)] [] .fin)))))))))))))))))))))))))))))))) (.go 2 [(.br true)] [] (.bind (f27 a88 a86 a87 a89) fun v97 => (.go 22 [(.ck 0), (.sp .none), (.sp .none), (.sp .none), .mg, (.sp .none), (.sp .none), (.sp .none), (.sp .none)] [] (.split 35 (.go 11 [(.br true), (.br true), .none, (.br true)] [0, 1, 2] .fin) (.strip 39 (.go 1 [(.br false)] [1] (.strip 37 (.go 3 [(.br false)] [0] (.split 42 (.go 7 [(.br true)] [0] .fin) (.go 8 [(.br false)] [0] (.bind (f29 a90 a91) fun v98 => (.go 1 [(.ck 1)] [] (.bind (f28 v97.fst v97.snd.fst 0 4 0 0 [] v98.fst v98.snd) fun v99 => (.go 17 [(.ck 2)] [] (.split 55 (.go 27 [(.br true), (.br true), (.br true), .none, (.br true), (.br true), (.br true), (.br true), (.br true), .none, (.br true), (.br true), (.br true), (.br true), (.br true), (.br true), .none, (.br true)] [0, 1, 2, 3, 4, 5, 6, 7, 8, 9, 10, 11, 12, 13, 14] .fin) (.go 5 [(.br false), (.br false), .none, (.br false)] [0, 1, 2] (.split 60 (.go 22 [(.br true), (.br true), (.br true), (.br true), (.br true), .none, (.br true), (.br true), (.br true), (.br true), (.br true), (.br true), .none, (.br true)] [0, 1, 2, 3, 4, 5, 6, 7, 8, 9, 10, 11] .fin) (.go 7 [(.br false), (.br false), .none, (.br false), (.br false), (.br false)] [0, 1, 2, 3, 4] (.split 67 (.go 15 [(.br true), (.br true), (.br true), (.br true), (.br true), (.br true), .none, (.br true)] [0, 1, 2, 3, 4, 5, 6] .fin) (.go 8 [(.br false), (.br false), .none, (.br false), (.br false), (.br false), .none, (.br false)] [0, 1, 2, 3, 4, 5] (.split 74 (.go 7 [(.br true)] [0] .fin) (.go 4 [(.br false)] [0] (.bind (f28 v99.fst v99.snd.fst v99.snd.snd.fst v99.snd.snd.snd.fst v99.snd.snd.snd.snd.fst v99.snd.snd.snd.snd.snd.fst v99.snd.snd.snd.snd.snd.snd.fst ((↑v97.fst : Int).toNat) ((List.replicate (↑v97.fst : Int).toNat (List.map weakZ (Value.agg #[Value.slice none 0 0, Value.slice none 0 0, Value.bool false]).cells.toList)).flatten)) fun x0 => (.go 7 [.none, .none, .mg, (.ck 3)] [] (.split 87 (.go 22 [(.br true), (.br true), (.br true), (.br true), (.br true), .none, (.br true), (.br true), (.br true), (.br true), (.br true), (.br true), .none, (.br true)] [0, 1, 2, 3, 4, 5, 6, 7, 8, 9, 10, 11] .fin) (.go 7 [(.br false), (.br false), .none, (.br false), (.br false), (.br false)] [0, 1, 2, 3, 4] (.split 94 (.go 15 [(.br true), (.br true), (.br true), (.br true), (.br true), (.br true), .none, (.br true)] [0, 1, 2, 3, 4, 5, 6] .fin) (.go 8 [(.br false), (.br false), .none, (.br false), (.br false), (.br false), (.br false)] [0, 1, 2, 3, 4, 5] (.split 101 (.go 7 [(.br true)] [0] .fin) (.go 6 [(.br false)] [0] (.bind (f30 x0.snd.snd.snd.snd.snd.fst x0.snd.snd.snd.snd.snd.snd.fst) fun x1 => (.go 16 [(.ck 4)] [] .fin))))))))))))))))))))))))))))))))))
theorem k11_0 (a86 : Nat) (a87 : List DV) (a88 a89 : Int) (a90 : Nat) (a91 : List DV) : xrun cfz 11 (D11_0 a86 a87 a88 a89 a90 a91) [] (st11 (.c0 a86 a87 a88 a89 a90 a91)) = (B11 (.c0 a86 a87 a88 a89 a90 a91)).mach st11 out11 := by kernel_rfl
theorem ok11 : ∀ s, ∃ d, xrun cfz 11 d [] (st11 s) = (B11 s).mach st11 out11
  | .c0 a86 a87 a88 a89 a90 a91 => ⟨_, k11_0 a86 a87 a88 a89 a90 a91⟩
theorem f11 (a86 : Nat) (a87 : List DV) (a88 a89 : Int) (a90 : Nat) (a91 : List DV) (v : Nat × List DV × Bool) (h : F11 a86 a87 a88 a89 a90 a91 = some v) : PureCalls cfz.P cfz.glob 11 [(.d (.sl a86 a87)), (aI a88), (aI a89), (.d (.sl a90 a91))] (out11 v) := tree_pure knil ok11 (s := .c0 a86 a87 a88 a89 a90 a91) rfl (by kernel_rfl) v h
inductive S4 where
  | c0
def out4 (v : Bool) : AV := (.d (.v (.bool v)))
noncomputable def st4 : S4 → ASt
  | .c0 => ent cfz 4 []
noncomputable def B4 : S4 → Tr S4 (Bool)
  | .c0 => (.bind (F11 3 [(.v (.int .u8 0)), (.v (.int .u8 5)), (.v (.int .u8 2))] 5 2 1 [(.v (.int .u8 1)), (.v (.int .u8 0)), (.v (.bool false))]) fun x0 =>
  (.sees [(.d (.sl 3 [(v8 0), (v8 5), (v8 2)])), (aI 5), (aI 2), (.d (.sl 1 [(v8 1), (v8 0), (.v (.bool false))]))] (.bind (F13 4 1 [(.v (.int .i64 1))] 0 [] 5 1 [(.v (.int .i64 2))]) fun x1 =>
  (.sees [(.agg [(aI 4), (.d (.sl 1 [(vI 1)])), (.d (.sl 0 []))]), (aI 5), (.d (.sl 1 [(vI 2)]))] (.br x0.snd.snd
  (.ask (.eqB (x0.snd.snd == true) true) (.bind (F12 x0.fst x0.snd.fst 3 [(.v (.int .u8 0)), (.v (.int .u8 5)), (.v (.int .u8 2))]) fun x2 =>
  (.sees [(.d (.sl x0.fst x0.snd.fst)), (.d (.sl 3 [(v8 0), (v8 5), (v8 2)]))] (.triv _ (tv_s (x2 == true)) (.triv _ (tv_t x2) (.triv _ (tv_s ((if x2 = true then x1.snd.snd.snd.snd.snd.snd == 0 else false) == true)) (.triv _ (tv_t (if x2 = true then x1.snd.snd.snd.snd.snd.snd == 0 else false)) (.br (if (if x2 = true then x1.snd.snd.snd.snd.snd.snd == 0 else false) = true then x1.snd.snd.snd.snd.snd.fst == 5 else false)
  (.bind (F10 x1.snd.snd.snd.fst x1.snd.snd.snd.snd.fst 1 [(.v (.int .i64 2))]) fun x3 =>
  (.sees [(.d (.sl x1.snd.snd.snd.fst x1.snd.snd.snd.snd.fst)), (.d (.sl 1 [(vI 2)]))] (.ret x3)))
  (.ret false)))))))))
  (.ret false))))))
noncomputable def F4 : Option (Bool) := res B4 (.c0)
noncomputable def D4_0 : DT cfz := (.go 9 [] [] (.bind (f11 3 [(v8 0), (v8 5), (v8 2)] 5 2 1 [(v8 1), (v8 0), (.v (.bool false))]) fun x0 => (.go 12 [(.ck 0)] [] (.bind (f13 4 1 [(vI 1)] 0 [] 5 1 [(vI 2)]) fun x1 => (.go 15 [(.ck 1), .none, (.sp .none)] [] (.split 22 (.go 1 [(.br true)] [0] (.strip 23 (.bind (f12 x0.fst x0.snd.fst 3 [(v8 0), (v8 5), (v8 2)]) fun x2 => (.go 11 [(.br true), (.ck 2), .none, (.sp .none), (.sp .none), .mg, (.sp .none), (.sp .none), .mg] [1] (.split 35 (.go 3 [(.br true), (.br true), .none, (.br true)] [0, 1, 2] (.bind (f10 x1.snd.snd.snd.fst x1.snd.snd.snd.snd.fst 1 [(vI 2)]) fun x3 => (.go 5 [(.br true), (.ck 3)] [1] .fin))) (.go 8 [(.br false), (.br false), (.br false), (.br false)] [0, 1, 2, 3] .fin)))))) (.go 20 [(.br false), (.br false), .none, (.br false), (.br false), .none, (.br false), (.br false), .none, (.br false), (.br false), (.br false), (.br false)] [0, 1, 2, 3, 4, 5, 6, 7, 8, 9] .fin)))))))
theorem k4_0 : xrun cfz 4 (D4_0) [] (st4 (.c0)) = (B4 (.c0)).mach st4 out4 := by kernel_rfl
theorem ok4 : ∀ s, ∃ d, xrun cfz 4 d [] (st4 s) = (B4 s).mach st4 out4
  | .c0 => ⟨_, k4_0⟩
theorem f4 (v : Bool) (h : F4 = some v) : PureCalls cfz.P cfz.glob 4 [] (out4 v) := tree_pure knil ok4 (s := .c0) rfl (by kernel_rfl) v h
end Go.Kv
