/- Printed: what functions of the program come to, and the kernel's proof of it. -/
import Derived.Test.YtalhonodbajndaaGreatDoorKvW
import Derived.Test.YtalhonodbajndaaGreatDoorKzA
import Derived.Test.YtalhonodbajndaaGreatDoorKzW
import Derived.Test.YtalhonodbajndaaGreatDoorKzP

namespace Go.Kv
set_option linter.unusedVariables false
set_option linter.unusedSimpArgs false
open Go Go.RowKit Go.Proofs
set_option maxRecDepth 100000
/-! F91 -/
inductive S91 where
  | c0 (a257 : Int) (a258 : Int)
def out91 (v : Int) : AV := (.d (.v (.int .i64 v)))
noncomputable def st91 : S91 → ASt
  | .c0 a257 a258 => ent cfz 91 [(.d (.v (.int .i64 a257))), (.d (.v (.int .i64 a258)))]
noncomputable def B91 : S91 → Tr S91 (Int)
  | .c0 a257 a258 => (.ask (.neI a258 0) (.ask (.in64 (a257.tdiv a258)) (.ask (.in64 (a257.tdiv a258 * a258)) (.br (decide (a257.tdiv a258 * a258 > a257))
  (.ask (.in64 (a257.tdiv a258 - 1)) (.ret (a257.tdiv a258 - 1)))
  (.ret (a257.tdiv a258))))))
noncomputable def F91 (a257 : Int) (a258 : Int) : Option (Int) := res B91 (.c0 a257 a258)
noncomputable def D91_0 (a257 : Int) (a258 : Int) : DT cfz := (.go 20 [] [] (.split 13 (.go 12 [(.br true)] [0] .fin) (.go 8 [(.br false)] [0] .fin)))
theorem k91_0 (a257 : Int) (a258 : Int) : xrun cfz 91 (D91_0 a257 a258) [] (st91 (.c0 a257 a258)) = (B91 (.c0 a257 a258)).mach st91 out91 := by kernel_rfl
theorem ok91 : ∀ s, ∃ d, xrun cfz 91 d [] (st91 s) = (B91 s).mach st91 out91
  | .c0 a257 a258 => ⟨_, k91_0 a257 a258⟩
theorem f91 (a257 : Int) (a258 : Int) (v : Int) (h : F91 a257 a258 = some v) : PureCalls cfz.P cfz.glob 91 [(.d (.v (.int .i64 a257))), (.d (.v (.int .i64 a258)))] (out91 v) := tree_pure knil ok91 (s := .c0 a257 a258) rfl (by kernel_rfl) v h

/-! F93 -/
inductive S93 where
  | c0 (a274 : Nat) (a275 : List DV)
def out93 (v : Nat × List DV) : AV := (.d (.sl v.fst v.snd))
noncomputable def st93 : S93 → ASt
  | .c0 a274 a275 => ent cfz 93 [(.d (.sl a274 a275))]
noncomputable def B93 : S93 → Tr S93 (Nat × List DV)
  | .c0 a274 a275 => (.ask (.le 0 ((↑a274 : Int))) (.ask (.le ((↑a274 : Int)) ((↑a274 : Int))) (.ask (.le ((↑a274 : Int)) ((↑a274 : Int))) (.ask (.eqN a275.length (a274 * 1)) (.ret (((↑a274 : Int).toNat - 0), (List.take (((↑a274 : Int).toNat - 0) * 1) (List.drop 0 a275))))))))
noncomputable def F93 (a274 : Nat) (a275 : List DV) : Option (Nat × List DV) := res B93 (.c0 a274 a275)
noncomputable def D93_0 (a274 : Nat) (a275 : List DV) : DT cfz := (.go 15 [] [0] .fin)
theorem k93_0 (a274 : Nat) (a275 : List DV) : xrun cfz 93 (D93_0 a274 a275) [] (st93 (.c0 a274 a275)) = (B93 (.c0 a274 a275)).mach st93 out93 := by kernel_rfl
theorem ok93 : ∀ s, ∃ d, xrun cfz 93 d [] (st93 s) = (B93 s).mach st93 out93
  | .c0 a274 a275 => ⟨_, k93_0 a274 a275⟩
theorem f93 (a274 : Nat) (a275 : List DV) (v : Nat × List DV) (h : F93 a274 a275 = some v) : PureCalls cfz.P cfz.glob 93 [(.d (.sl a274 a275))] (out93 v) := tree_pure knil ok93 (s := .c0 a274 a275) rfl (by kernel_rfl) v h

/-! F39 -/
inductive S39 where
  | c0 (a224 : Int) (a225 : Int) (a226 : Int) (a227 : Int) (a228 : Int) (a229 : Int) (a230 : Int)
  | c1 (x237 : Int) (x238 : Int) (y239 : Int) (x240 : Int) (x241 : Int) (x242 : Int) (x243 : Int) (x244 : Int) (x245 : Int)
  | c2 (x262 : Int) (y263 : Nat) (y264 : Nat) (y265 : List DV) (x266 : Int) (y267 : Int) (x268 : Int) (x269 : Int) (x270 : Int) (x271 : Int) (x272 : Int) (x273 : Int) (y281 : Nat)
def out39 (v : Nat × List DV × Int) : AV := (.tup [(.d (.sl v.fst v.snd.fst)), (.d (.v (.int .i64 v.snd.snd)))])
noncomputable def st39 : S39 → ASt
  | .c0 a224 a225 a226 a227 a228 a229 a230 => ent cfw 39 [(.agg [(.d (.v (.int .i64 a224))), (.d (.v (.int .i64 a225))), (.d (.v (.int .i64 a226))), (.d (.v (.int .i64 a227)))]), (.agg [(.d (.v (.int .i64 a228))), (.d (.v (.int .i64 a229)))]), (.d (.v (.int .i64 a230)))]
  | .c1 x237 x238 y239 x240 x241 x242 x243 x244 x245 => ⟨⟨39, sp 87 0 [(2, (.d (.v (.int .i64 x237)))), (3, (.ptr 0 0)), (4, (.ptr 1 0)), (10, (.d (.v (.slice .none 0 0)))), (54, (.d (.v (.int .i64 x238)))), (55, (.d (.v (.int .i64 y239))))], [(.code (cd cfw.P 39 [1, 1, 1, 1, 0, 1, 0, 0])), (.inLoop (cd cfw.P 39 [1, 1, 1, 1, 0, 1, 0, 0])), (.inBlock 0), (.code (cd cfw.P 39 [1, 1, 1, 1, 1]))], [], false, .none⟩, [], [(.cells [(.d (.v (.int .i64 x240))), (.d (.v (.int .i64 x241))), (.d (.v (.int .i64 x242))), (.d (.v (.int .i64 x243)))] 85), (.cells [(.d (.v (.int .i64 x244))), (.d (.v (.int .i64 x245)))] 68)]⟩
  | .c2 x262 y263 y264 y265 x266 y267 x268 x269 x270 x271 x272 x273 y281 => ⟨⟨39, sp 87 0 [(2, (.d (.v (.int .i64 x262)))), (3, (.ptr 0 0)), (4, (.ptr 1 0)), (10, (.own 3 y263 1 y264 y265)), (54, (.d (.v (.int .i64 x266)))), (55, (.d (.v (.int .i64 y267))))], [(.code (cd cfw.P 39 [1, 1, 1, 1, 0, 1, 0, 0])), (.inLoop (cd cfw.P 39 [1, 1, 1, 1, 0, 1, 0, 0])), (.inBlock 0), (.code (cd cfw.P 39 [1, 1, 1, 1, 1]))], [], false, .none⟩, [], [(.cells [(.d (.v (.int .i64 x268))), (.d (.v (.int .i64 x269))), (.d (.v (.int .i64 x270))), (.d (.v (.int .i64 x271)))] 85), (.cells [(.d (.v (.int .i64 x272))), (.d (.v (.int .i64 x273)))] 68), (.tail 0), (.tail y281)]⟩
noncomputable def B39 : S39 → Tr S39 (Nat × List DV × Int)
  | .c0 a224 a225 a226 a227 a228 a229 a230 => (.bind (F50 a224 a225 a226 a227) fun v231 =>
  (.br (decide (a228 < 0))
  (.bind (F77 true 14) fun v232 =>
  (.bind (F75 2 [(.v (.int .i64 v231)), (.v (.int .i64 v232))]) fun v233 =>
  (.sees [(.agg [(.d (.v (.int .i64 a224))), (.d (.v (.int .i64 a225))), (.d (.v (.int .i64 a226))), (.d (.v (.int .i64 a227)))])] (.ask (.eqB (decide (a228 < 0)) true) (.ask (.eqB (decide (a228 < 0)) true) (.ask (.eqB (decide (a228 < 0)) true) (.ask (.eqB (decide (a228 < 0)) true) (.ask (.eqB (decide (a228 < 0)) true) (.ask (.eqB (decide (a228 < 0)) true) (.sees [(.d (.v (.bool true))), (.d (.v (.int .i64 14)))] (.sees [(.d (.sl 2 [(.v (.int .i64 v231)), (.v (.int .i64 v232))]))] (.br (v233 != 0)
  (.ret (0, [], v233))
  (.bind (F77 (decide (IntKind.i64.wrap (a229 - a228) > 4096)) 5) fun v234 =>
  (.sees [(.d (.v (.bool (decide (IntKind.i64.wrap (a229 - a228) > 4096))))), (.d (.v (.int .i64 5)))] (.bind (F89 a230 2 100000) fun v235 =>
  (.sees [(.d (.v (.int .i64 a230))), (.d (.v (.int .i64 2))), (.d (.v (.int .i64 100000)))] (.bind (F75 2 [(.v (.int .i64 v234)), (.v (.int .i64 v235))]) fun v236 =>
  (.sees [(.d (.sl 2 [(.v (.int .i64 v234)), (.v (.int .i64 v235))]))] (.br (v236 != 0)
  (.ret (0, [], v236))
  (.nxt (.c1 a230 (IntKind.i64.wrap (a229 - a228)) 0 a224 a225 a226 a227 a228 a229)))))))))))))))))))))
  (.br (decide (a228 > a229))
  (.bind (F77 true 14) fun v246 =>
  (.bind (F75 2 [(.v (.int .i64 v231)), (.v (.int .i64 v246))]) fun v247 =>
  (.sees [(.agg [(.d (.v (.int .i64 a224))), (.d (.v (.int .i64 a225))), (.d (.v (.int .i64 a226))), (.d (.v (.int .i64 a227)))])] (.ask (.eqB (decide (a228 < 0)) false) (.ask (.eqB (decide (a228 < 0)) false) (.ask (.eqB (decide (a228 < 0)) false) (.ask (.eqB (decide (a228 < 0)) false) (.ask (.eqB (decide (a228 < 0)) false) (.ask (.eqB (decide (a228 < 0)) false) (.ask (.eqB (decide (a228 > a229)) true) (.ask (.eqB (decide (a228 > a229)) true) (.ask (.eqB (decide (a228 > a229)) true) (.ask (.eqB (decide (a228 > a229)) true) (.sees [(.d (.v (.bool true))), (.d (.v (.int .i64 14)))] (.sees [(.d (.sl 2 [(.v (.int .i64 v231)), (.v (.int .i64 v246))]))] (.br (v247 != 0)
  (.ret (0, [], v247))
  (.bind (F77 (decide (IntKind.i64.wrap (a229 - a228) > 4096)) 5) fun v248 =>
  (.sees [(.d (.v (.bool (decide (IntKind.i64.wrap (a229 - a228) > 4096))))), (.d (.v (.int .i64 5)))] (.bind (F89 a230 2 100000) fun v249 =>
  (.sees [(.d (.v (.int .i64 a230))), (.d (.v (.int .i64 2))), (.d (.v (.int .i64 100000)))] (.bind (F75 2 [(.v (.int .i64 v248)), (.v (.int .i64 v249))]) fun v250 =>
  (.sees [(.d (.sl 2 [(.v (.int .i64 v248)), (.v (.int .i64 v249))]))] (.br (v250 != 0)
  (.ret (0, [], v250))
  (.nxt (.c1 a230 (IntKind.i64.wrap (a229 - a228)) 0 a224 a225 a226 a227 a228 a229)))))))))))))))))))))))))
  (.bind (F77 (decide (a229 > 100000000)) 14) fun v251 =>
  (.bind (F75 2 [(.v (.int .i64 v231)), (.v (.int .i64 v251))]) fun v252 =>
  (.sees [(.agg [(.d (.v (.int .i64 a224))), (.d (.v (.int .i64 a225))), (.d (.v (.int .i64 a226))), (.d (.v (.int .i64 a227)))])] (.ask (.eqB (decide (a228 < 0)) false) (.ask (.eqB (decide (a228 < 0)) false) (.ask (.eqB (decide (a228 < 0)) false) (.ask (.eqB (decide (a228 < 0)) false) (.ask (.eqB (decide (a228 < 0)) false) (.ask (.eqB (decide (a228 < 0)) false) (.ask (.eqB (decide (a228 > a229)) false) (.ask (.eqB (decide (a228 > a229)) false) (.ask (.eqB (decide (a228 > a229)) false) (.ask (.eqB (decide (a228 > a229)) false) (.sees [(.d (.v (.bool (decide (a229 > 100000000))))), (.d (.v (.int .i64 14)))] (.sees [(.d (.sl 2 [(.v (.int .i64 v231)), (.v (.int .i64 v251))]))] (.br (v252 != 0)
  (.ret (0, [], v252))
  (.bind (F77 (decide (IntKind.i64.wrap (a229 - a228) > 4096)) 5) fun v253 =>
  (.sees [(.d (.v (.bool (decide (IntKind.i64.wrap (a229 - a228) > 4096))))), (.d (.v (.int .i64 5)))] (.bind (F89 a230 2 100000) fun v254 =>
  (.sees [(.d (.v (.int .i64 a230))), (.d (.v (.int .i64 2))), (.d (.v (.int .i64 100000)))] (.bind (F75 2 [(.v (.int .i64 v253)), (.v (.int .i64 v254))]) fun v255 =>
  (.sees [(.d (.sl 2 [(.v (.int .i64 v253)), (.v (.int .i64 v254))]))] (.br (v255 != 0)
  (.ret (0, [], v255))
  (.nxt (.c1 a230 (IntKind.i64.wrap (a229 - a228)) 0 a224 a225 a226 a227 a228 a229))))))))))))))))))))))))))))
  | .c1 x237 x238 y239 x240 x241 x242 x243 x244 x245 => (.br (decide (y239 < x238))
  (.bind (F92 x240 x241 x242 x243 (IntKind.i64.wrap (x244 + y239))) fun v256 =>
  (.bind (F91 v256 x237) fun v259 =>
  (.bind (F92 x240 x241 x242 x243 (IntKind.i64.wrap (IntKind.i64.wrap (x244 + y239) - 1))) fun v260 =>
  (.bind (F91 v260 x237) fun v261 =>
  (.sees [(.agg [(.d (.v (.int .i64 x240))), (.d (.v (.int .i64 x241))), (.d (.v (.int .i64 x242))), (.d (.v (.int .i64 x243)))]), (.d (.v (.int .i64 (IntKind.i64.wrap (x244 + y239)))))] (.triv _ (tv_s (decide (IntKind.i64.wrap (x244 + y239) > x240) == true)) (.triv _ (tv_s (decide (IntKind.i64.wrap (x244 + y239) > x240) == true)) (.sees [(.d (.v (.int .i64 v256))), (.d (.v (.int .i64 x237)))] (.triv _ (tv_s (decide (IntKind.i64.wrap (x244 + y239) > x240) == true)) (.triv _ (tv_s (decide (IntKind.i64.wrap (x244 + y239) > x240) == true)) (.triv _ (tv_s (decide (IntKind.i64.wrap (x244 + y239) > x240) == true)) (.sees [(.agg [(.d (.v (.int .i64 x240))), (.d (.v (.int .i64 x241))), (.d (.v (.int .i64 x242))), (.d (.v (.int .i64 x243)))]), (.d (.v (.int .i64 (IntKind.i64.wrap (IntKind.i64.wrap (x244 + y239) - 1)))))] (.triv _ (tv_s (decide (IntKind.i64.wrap (x244 + y239) > x240) == true)) (.triv _ (tv_s (decide (IntKind.i64.wrap (x244 + y239) > x240) == true)) (.sees [(.d (.v (.int .i64 v260))), (.d (.v (.int .i64 x237)))] (.triv _ (tv_s (decide (IntKind.i64.wrap (x244 + y239) > x240) == true)) (.triv _ (tv_s (decide (IntKind.i64.wrap (x244 + y239) > x240) == true)) (.triv _ (tv_s (decide (IntKind.i64.wrap (x244 + y239) > x240) == true)) (.triv _ (tv_s (decide (IntKind.i64.wrap (x244 + y239) > x240) == true)) (.triv _ (tv_t (decide (IntKind.i64.wrap (x244 + y239) > x240))) (.br (if decide (IntKind.i64.wrap (x244 + y239) > x240) = true then decide (v259 > v261) else false)
  (.nxt (.c2 x237 0 1 [(.v (.int .i64 (IntKind.i64.wrap (x244 + y239))))] x238 (IntKind.i64.wrap (y239 + 1)) x240 x241 x242 x243 x244 x245 0))
  (.nxt (.c1 x237 x238 (IntKind.i64.wrap (y239 + 1)) x240 x241 x242 x243 x244 x245)))))))))))))))))))))))
  (.bind (F93 0 []) fun v276 =>
  (.sees [(.d (.sl 0 []))] (.ret (v276.fst, v276.snd, 0)))))
  | .c2 x262 y263 y264 y265 x266 y267 x268 x269 x270 x271 x272 x273 y281 => (.br (decide (y267 < x266))
  (.bind (F92 x268 x269 x270 x271 (IntKind.i64.wrap (x272 + y267))) fun v283 =>
  (.bind (F91 v283 x262) fun v284 =>
  (.bind (F92 x268 x269 x270 x271 (IntKind.i64.wrap (IntKind.i64.wrap (x272 + y267) - 1))) fun v285 =>
  (.bind (F91 v285 x262) fun v286 =>
  (.sees [(.agg [(.d (.v (.int .i64 x268))), (.d (.v (.int .i64 x269))), (.d (.v (.int .i64 x270))), (.d (.v (.int .i64 x271)))]), (.d (.v (.int .i64 (IntKind.i64.wrap (x272 + y267)))))] (.triv _ (tv_s (decide (IntKind.i64.wrap (x272 + y267) > x268) == true)) (.triv _ (tv_s (decide (IntKind.i64.wrap (x272 + y267) > x268) == true)) (.sees [(.d (.v (.int .i64 v283))), (.d (.v (.int .i64 x262)))] (.triv _ (tv_s (decide (IntKind.i64.wrap (x272 + y267) > x268) == true)) (.triv _ (tv_s (decide (IntKind.i64.wrap (x272 + y267) > x268) == true)) (.triv _ (tv_s (decide (IntKind.i64.wrap (x272 + y267) > x268) == true)) (.sees [(.agg [(.d (.v (.int .i64 x268))), (.d (.v (.int .i64 x269))), (.d (.v (.int .i64 x270))), (.d (.v (.int .i64 x271)))]), (.d (.v (.int .i64 (IntKind.i64.wrap (IntKind.i64.wrap (x272 + y267) - 1)))))] (.triv _ (tv_s (decide (IntKind.i64.wrap (x272 + y267) > x268) == true)) (.triv _ (tv_s (decide (IntKind.i64.wrap (x272 + y267) > x268) == true)) (.sees [(.d (.v (.int .i64 v285))), (.d (.v (.int .i64 x262)))] (.triv _ (tv_s (decide (IntKind.i64.wrap (x272 + y267) > x268) == true)) (.triv _ (tv_s (decide (IntKind.i64.wrap (x272 + y267) > x268) == true)) (.triv _ (tv_s (decide (IntKind.i64.wrap (x272 + y267) > x268) == true)) (.triv _ (tv_s (decide (IntKind.i64.wrap (x272 + y267) > x268) == true)) (.triv _ (tv_t (decide (IntKind.i64.wrap (x272 + y267) > x268))) (.br (if decide (IntKind.i64.wrap (x272 + y267) > x268) = true then decide (v284 > v286) else false)
  (.ask (.eqN y263 y281) (.ask (.fits (y264 + 1) 8) (.nxt (.c2 x262 (y281 + 1) (y264 + 1) (y265 ++ [DV.v (Value.int IntKind.i64 (IntKind.i64.wrap (x272 + y267)))]) x266 (IntKind.i64.wrap (y267 + 1)) x268 x269 x270 x271 x272 x273 (y281 + 1)))))
  (.nxt (.c2 x262 y263 y264 y265 x266 (IntKind.i64.wrap (y267 + 1)) x268 x269 x270 x271 x272 x273 y281)))))))))))))))))))))))
  (.bind (F93 y264 y265) fun v287 =>
  (.sees [(.d (.sl y264 y265))] (.ret (v287.fst, v287.snd, 0)))))
noncomputable def F39 (a224 : Int) (a225 : Int) (a226 : Int) (a227 : Int) (a228 : Int) (a229 : Int) (a230 : Int) : Option (Nat × List DV × Int) := res B39 (.c0 a224 a225 a226 a227 a228 a229 a230)
noncomputable def D39_0 (a224 : Int) (a225 : Int) (a226 : Int) (a227 : Int) (a228 : Int) (a229 : Int) (a230 : Int) : DT cfw := (.go 10 [] [] (.bind (f50 a224 a225 a226 a227) fun v231 => (.br (decide (a228 < 0)) (.bind (f77 true 14) fun v232 => (.bind (f75 2 [(.v (.int .i64 v231)), (.v (.int .i64 v232))]) fun v233 => (.go 6 [.none, (.ck 0), .none, (.br true), (.br true), (.br true), (.br true), (.br true), (.br true), (.br true), (.br true), (.br true), (.ck 1), (.ck 2)] [7, 8, 9] (.split 34 (.go 8 [(.br true)] [0] .fin) (.go 11 [(.br false)] [0] (.bind (f77 (decide (IntKind.i64.wrap (a229 - a228) > 4096)) 5) fun v234 => (.go 2 [(.ck 3)] [] (.bind (f89 a230 2 100000) fun v235 => (.go 2 [(.ck 4)] [] (.bind (f75 2 [(.v (.int .i64 v234)), (.v (.int .i64 v235))]) fun v236 => (.go 8 [(.ck 5)] [] (.split 48 (.go 8 [(.br true)] [0] .fin) (.go 18 [(.br false)] [0] (.cut 2 [[2, 3, 4, 10, 54, 55]] [])))))))))))))) (.br (decide (a228 > a229)) (.bind (f77 true 14) fun v246 => (.bind (f75 2 [(.v (.int .i64 v231)), (.v (.int .i64 v246))]) fun v247 => (.go 6 [.none, (.ck 0), .none, (.br false), (.br false), .none, (.br false), (.br false), .none, (.br false), (.br false), (.br true), (.br true), (.br true), (.br true), (.ck 1), (.ck 2)] [] (.split 34 (.go 8 [(.br true)] [0] .fin) (.go 11 [(.br false)] [0] (.bind (f77 (decide (IntKind.i64.wrap (a229 - a228) > 4096)) 5) fun v248 => (.go 2 [(.ck 3)] [] (.bind (f89 a230 2 100000) fun v249 => (.go 2 [(.ck 4)] [] (.bind (f75 2 [(.v (.int .i64 v248)), (.v (.int .i64 v249))]) fun v250 => (.go 8 [(.ck 5)] [] (.split 48 (.go 8 [(.br true)] [0] .fin) (.go 18 [(.br false)] [0] (.cut 2 [[2, 3, 4, 10, 54, 55]] [])))))))))))))) (.bind (f77 (decide (a229 > 100000000)) 14) fun v251 => (.bind (f75 2 [(.v (.int .i64 v231)), (.v (.int .i64 v251))]) fun v252 => (.go 6 [.none, (.ck 0), .none, (.br false), (.br false), .none, (.br false), (.br false), .none, (.br false), (.br false), (.br false), (.br false), .none, (.br false), (.br false), (.ck 1), (.ck 2)] [] (.split 34 (.go 8 [(.br true)] [0] .fin) (.go 11 [(.br false)] [0] (.bind (f77 (decide (IntKind.i64.wrap (a229 - a228) > 4096)) 5) fun v253 => (.go 2 [(.ck 3)] [] (.bind (f89 a230 2 100000) fun v254 => (.go 2 [(.ck 4)] [] (.bind (f75 2 [(.v (.int .i64 v253)), (.v (.int .i64 v254))]) fun v255 => (.go 8 [(.ck 5)] [] (.split 48 (.go 8 [(.br true)] [0] .fin) (.go 18 [(.br false)] [0] (.cut 2 [[2, 3, 4, 10, 54, 55]] []))))))))))))))))))
theorem k39_0 (a224 : Int) (a225 : Int) (a226 : Int) (a227 : Int) (a228 : Int) (a229 : Int) (a230 : Int) : xrun cfw 39 (D39_0 a224 a225 a226 a227 a228 a229 a230) [] (st39 (.c0 a224 a225 a226 a227 a228 a229 a230)) = (B39 (.c0 a224 a225 a226 a227 a228 a229 a230)).mach st39 out39 := by kernel_rfl
noncomputable def D39_1 (x237 : Int) (x238 : Int) (y239 : Int) (x240 : Int) (x241 : Int) (x242 : Int) (x243 : Int) (x244 : Int) (x245 : Int) : DT cfw := (.go 5 [] [] (.split 56 (.go 19 [(.br true)] [0] (.bind (f92 x240 x241 x242 x243 (IntKind.i64.wrap (x244 + y239))) fun v256 => (.bind (f91 v256 x237) fun v259 => (.bind (f92 x240 x241 x242 x243 (IntKind.i64.wrap (IntKind.i64.wrap (x244 + y239) - 1))) fun v260 => (.bind (f91 v260 x237) fun v261 => (.go 1 [.none, (.sp .none), (.sp .none), (.sp (.some 0)), (.sp .none), (.sp (.some 1)), (.sp .none), (.sp .none), (.sp .none), (.sp (.some 2)), (.sp .none), (.sp (.some 3)), (.sp .none), .mg] [] (.split 79 (.go 14 [(.br true)] [0, 1, 2, 3] (.cut 4 [[2, 3, 4, 10, 54, 55]] [])) (.go 8 [(.br false)] [0] (.cut 2 [[2, 3, 4, 10, 54, 55]] []))))))))) (.go 5 [(.br false)] [0] (.bind (f93 0 []) fun v276 => (.go 5 [(.ck 0)] [] .fin)))))
theorem k39_1 (x237 : Int) (x238 : Int) (y239 : Int) (x240 : Int) (x241 : Int) (x242 : Int) (x243 : Int) (x244 : Int) (x245 : Int) : xrun cfw 39 (D39_1 x237 x238 y239 x240 x241 x242 x243 x244 x245) [] (st39 (.c1 x237 x238 y239 x240 x241 x242 x243 x244 x245)) = (B39 (.c1 x237 x238 y239 x240 x241 x242 x243 x244 x245)).mach st39 out39 := by kernel_rfl
noncomputable def D39_2 (x262 : Int) (y263 : Nat) (y264 : Nat) (y265 : List DV) (x266 : Int) (y267 : Int) (x268 : Int) (x269 : Int) (x270 : Int) (x271 : Int) (x272 : Int) (x273 : Int) (y281 : Nat) : DT cfw := (.go 5 [] [] (.split 56 (.go 19 [(.br true)] [0] (.bind (f92 x268 x269 x270 x271 (IntKind.i64.wrap (x272 + y267))) fun v283 => (.bind (f91 v283 x262) fun v284 => (.bind (f92 x268 x269 x270 x271 (IntKind.i64.wrap (IntKind.i64.wrap (x272 + y267) - 1))) fun v285 => (.bind (f91 v285 x262) fun v286 => (.go 1 [.none, (.sp .none), (.sp .none), (.sp (.some 0)), (.sp .none), (.sp (.some 1)), (.sp .none), (.sp .none), (.sp .none), (.sp (.some 2)), (.sp .none), (.sp (.some 3)), (.sp .none), .mg] [] (.split 79 (.go 14 [(.br true)] [0, 2, 3] (.cut 4 [[2, 3, 4, 10, 54, 55]] [])) (.go 8 [(.br false)] [0] (.cut 4 [[2, 3, 4, 10, 54, 55]] []))))))))) (.go 5 [(.br false)] [0] (.bind (f93 y264 y265) fun v287 => (.go 5 [(.ck 0)] [] .fin)))))
theorem k39_2 (x262 : Int) (y263 : Nat) (y264 : Nat) (y265 : List DV) (x266 : Int) (y267 : Int) (x268 : Int) (x269 : Int) (x270 : Int) (x271 : Int) (x272 : Int) (x273 : Int) (y281 : Nat) : xrun cfw 39 (D39_2 x262 y263 y264 y265 x266 y267 x268 x269 x270 x271 x272 x273 y281) [] (st39 (.c2 x262 y263 y264 y265 x266 y267 x268 x269 x270 x271 x272 x273 y281)) = (B39 (.c2 x262 y263 y264 y265 x266 y267 x268 x269 x270 x271 x272 x273 y281)).mach st39 out39 := by kernel_rfl
theorem ok39 : ∀ s, ∃ d, xrun cfw 39 d [] (st39 s) = (B39 s).mach st39 out39
  | .c0 a224 a225 a226 a227 a228 a229 a230 => ⟨_, k39_0 a224 a225 a226 a227 a228 a229 a230⟩
  | .c1 x237 x238 y239 x240 x241 x242 x243 x244 x245 => ⟨_, k39_1 x237 x238 y239 x240 x241 x242 x243 x244 x245⟩
  | .c2 x262 y263 y264 y265 x266 y267 x268 x269 x270 x271 x272 x273 y281 => ⟨_, k39_2 x262 y263 y264 y265 x266 y267 x268 x269 x270 x271 x272 x273 y281⟩
theorem f39 (a224 : Int) (a225 : Int) (a226 : Int) (a227 : Int) (a228 : Int) (a229 : Int) (a230 : Int) (v : Nat × List DV × Int) (h : F39 a224 a225 a226 a227 a228 a229 a230 = some v) : PureCalls cfw.P cfw.glob 39 [(.agg [(.d (.v (.int .i64 a224))), (.d (.v (.int .i64 a225))), (.d (.v (.int .i64 a226))), (.d (.v (.int .i64 a227)))]), (.agg [(.d (.v (.int .i64 a228))), (.d (.v (.int .i64 a229)))]), (.d (.v (.int .i64 a230)))] (out39 v) := tree_pure knilw ok39 (s := .c0 a224 a225 a226 a227 a228 a229 a230) rfl (by kernel_rfl) v h

/-! F41 -/
inductive S41 where
  | c0 (a290 : Int) (a291 : Int)
def out41 (v : Int) : AV := (.d (.v (.int .i64 v)))
noncomputable def st41 : S41 → ASt
  | .c0 a290 a291 => ent cfw 41 [(.agg [(.d (.v (.int .i64 a290))), (.d (.v (.int .i64 a291)))])]
noncomputable def B41 : S41 → Tr S41 (Int)
  | .c0 a290 a291 => (.br (decide (a290 < 0))
  (.bind (F82 true 14) fun v292 =>
  (.bind (F82 (decide (IntKind.i64.wrap (a291 - a290) > 4096)) 5) fun v293 =>
  (.bind (F24 2 [(.v (.int .i64 v292)), (.v (.int .i64 v293))]) fun v294 =>
  (.ask (.eqB (decide (a290 < 0)) true) (.ask (.eqB (decide (a290 < 0)) true) (.ask (.eqB (decide (a290 < 0)) true) (.ask (.eqB (decide (a290 < 0)) true) (.ask (.eqB (decide (a290 < 0)) true) (.ask (.eqB (decide (a290 < 0)) true) (.sees [(.d (.v (.bool true))), (.d (.v (.int .i64 14)))] (.sees [(.d (.v (.bool (decide (IntKind.i64.wrap (a291 - a290) > 4096))))), (.d (.v (.int .i64 5)))] (.sees [(.d (.sl 2 [(.v (.int .i64 v292)), (.v (.int .i64 v293))]))] (.ret v294)))))))))))))
  (.br (decide (a290 > a291))
  (.bind (F82 true 14) fun v295 =>
  (.bind (F82 (decide (IntKind.i64.wrap (a291 - a290) > 4096)) 5) fun v296 =>
  (.bind (F24 2 [(.v (.int .i64 v295)), (.v (.int .i64 v296))]) fun v297 =>
  (.ask (.eqB (decide (a290 < 0)) false) (.ask (.eqB (decide (a290 < 0)) false) (.ask (.eqB (decide (a290 < 0)) false) (.ask (.eqB (decide (a290 < 0)) false) (.ask (.eqB (decide (a290 < 0)) false) (.ask (.eqB (decide (a290 < 0)) false) (.ask (.eqB (decide (a290 > a291)) true) (.ask (.eqB (decide (a290 > a291)) true) (.ask (.eqB (decide (a290 > a291)) true) (.ask (.eqB (decide (a290 > a291)) true) (.sees [(.d (.v (.bool true))), (.d (.v (.int .i64 14)))] (.sees [(.d (.v (.bool (decide (IntKind.i64.wrap (a291 - a290) > 4096))))), (.d (.v (.int .i64 5)))] (.sees [(.d (.sl 2 [(.v (.int .i64 v295)), (.v (.int .i64 v296))]))] (.ret v297)))))))))))))))))
  (.bind (F82 (decide (a291 > 100000000)) 14) fun v298 =>
  (.bind (F82 (decide (IntKind.i64.wrap (a291 - a290) > 4096)) 5) fun v299 =>
  (.bind (F24 2 [(.v (.int .i64 v298)), (.v (.int .i64 v299))]) fun v300 =>
  (.ask (.eqB (decide (a290 < 0)) false) (.ask (.eqB (decide (a290 < 0)) false) (.ask (.eqB (decide (a290 < 0)) false) (.ask (.eqB (decide (a290 < 0)) false) (.ask (.eqB (decide (a290 < 0)) false) (.ask (.eqB (decide (a290 < 0)) false) (.ask (.eqB (decide (a290 > a291)) false) (.ask (.eqB (decide (a290 > a291)) false) (.ask (.eqB (decide (a290 > a291)) false) (.ask (.eqB (decide (a290 > a291)) false) (.sees [(.d (.v (.bool (decide (a291 > 100000000))))), (.d (.v (.int .i64 14)))] (.sees [(.d (.v (.bool (decide (IntKind.i64.wrap (a291 - a290) > 4096))))), (.d (.v (.int .i64 5)))] (.sees [(.d (.sl 2 [(.v (.int .i64 v298)), (.v (.int .i64 v299))]))] (.ret v300)))))))))))))))))))
noncomputable def F41 (a290 : Int) (a291 : Int) : Option (Int) := res B41 (.c0 a290 a291)
noncomputable def D41_0 (a290 : Int) (a291 : Int) : DT cfw := (.go 7 [] [] (.br (decide (a290 < 0)) (.bind (f82 true 14) fun v292 => (.bind (f82 (decide (IntKind.i64.wrap (a291 - a290) > 4096)) 5) fun v293 => (.bind (f24 2 [(.v (.int .i64 v292)), (.v (.int .i64 v293))]) fun v294 => (.go 2 [.none, (.br true), (.br true), (.br true), (.br true), (.br true), (.br true), (.br true), (.br true), (.br true), (.ck 0), (.ck 1), (.ck 2)] [6, 7, 8] .fin)))) (.br (decide (a290 > a291)) (.bind (f82 true 14) fun v295 => (.bind (f82 (decide (IntKind.i64.wrap (a291 - a290) > 4096)) 5) fun v296 => (.bind (f24 2 [(.v (.int .i64 v295)), (.v (.int .i64 v296))]) fun v297 => (.go 2 [.none, (.br false), (.br false), .none, (.br false), (.br false), .none, (.br false), (.br false), (.br true), (.br true), (.br true), (.br true), (.ck 0), (.ck 1), (.ck 2)] [] .fin)))) (.bind (f82 (decide (a291 > 100000000)) 14) fun v298 => (.bind (f82 (decide (IntKind.i64.wrap (a291 - a290) > 4096)) 5) fun v299 => (.bind (f24 2 [(.v (.int .i64 v298)), (.v (.int .i64 v299))]) fun v300 => (.go 2 [.none, (.br false), (.br false), .none, (.br false), (.br false), .none, (.br false), (.br false), (.br false), (.br false), .none, (.br false), (.br false), (.ck 0), (.ck 1), (.ck 2)] [] .fin)))))))
theorem k41_0 (a290 : Int) (a291 : Int) : xrun cfw 41 (D41_0 a290 a291) [] (st41 (.c0 a290 a291)) = (B41 (.c0 a290 a291)).mach st41 out41 := by kernel_rfl
theorem ok41 : ∀ s, ∃ d, xrun cfw 41 d [] (st41 s) = (B41 s).mach st41 out41
  | .c0 a290 a291 => ⟨_, k41_0 a290 a291⟩
theorem f41 (a290 : Int) (a291 : Int) (v : Int) (h : F41 a290 a291 = some v) : PureCalls cfw.P cfw.glob 41 [(.agg [(.d (.v (.int .i64 a290))), (.d (.v (.int .i64 a291)))])] (out41 v) := tree_pure knilw ok41 (s := .c0 a290 a291) rfl (by kernel_rfl) v h

/-! F94 -/
inductive S94 where
  | c0 (a320 : Int) (a321 : Int)
def out94 (v : Int) : AV := (.d (.v (.int .i64 v)))
noncomputable def st94 : S94 → ASt
  | .c0 a320 a321 => ent cfz 94 [(.d (.v (.int .i64 a320))), (.d (.v (.int .i64 a321)))]
noncomputable def B94 : S94 → Tr S94 (Int)
  | .c0 a320 a321 => (.ask (.neI a321 0) (.ask (.in64 (a320.tdiv a321)) (.ask (.in64 (a320.tdiv a321 * a321)) (.br (decide (a320.tdiv a321 * a321 > a320))
  (.ask (.in64 (a320.tdiv a321 - 1)) (.ret (a320.tdiv a321 - 1)))
  (.ret (a320.tdiv a321))))))
noncomputable def F94 (a320 : Int) (a321 : Int) : Option (Int) := res B94 (.c0 a320 a321)
noncomputable def D94_0 (a320 : Int) (a321 : Int) : DT cfz := (.go 20 [] [] (.split 13 (.go 12 [(.br true)] [0] .fin) (.go 8 [(.br false)] [0] .fin)))
theorem k94_0 (a320 : Int) (a321 : Int) : xrun cfz 94 (D94_0 a320 a321) [] (st94 (.c0 a320 a321)) = (B94 (.c0 a320 a321)).mach st94 out94 := by kernel_rfl
theorem ok94 : ∀ s, ∃ d, xrun cfz 94 d [] (st94 s) = (B94 s).mach st94 out94
  | .c0 a320 a321 => ⟨_, k94_0 a320 a321⟩
theorem f94 (a320 : Int) (a321 : Int) (v : Int) (h : F94 a320 a321 = some v) : PureCalls cfz.P cfz.glob 94 [(.d (.v (.int .i64 a320))), (.d (.v (.int .i64 a321)))] (out94 v) := tree_pure knil ok94 (s := .c0 a320 a321) rfl (by kernel_rfl) v h

/-! F42 -/
inductive S42 where
  | c0 (a304 : Int) (a305 : Int) (a306 : Int) (a307 : Int) (a308 : Int) (a309 : Int) (a310 : Int)
  | c1 (x311 : Int) (y312 : Int) (x313 : Int) (x314 : Int) (x315 : Int) (x316 : Int) (x317 : Int) (x318 : Int)
  | c2 (x325 : Int) (y326 : Nat) (y327 : Nat) (y328 : List DV) (y329 : Int) (x330 : Int) (x331 : Int) (x332 : Int) (x333 : Int) (x334 : Int) (x335 : Int) (y340 : Nat)
def out42 (v : Nat × List DV) : AV := (.d (.sl v.fst v.snd))
noncomputable def st42 : S42 → ASt
  | .c0 a304 a305 a306 a307 a308 a309 a310 => ent cfz 42 [(.agg [(.d (.v (.int .i64 a304))), (.d (.v (.int .i64 a305))), (.d (.v (.int .i64 a306))), (.d (.v (.int .i64 a307)))]), (.agg [(.d (.v (.int .i64 a308))), (.d (.v (.int .i64 a309)))]), (.d (.v (.int .i64 a310)))]
  | .c1 x311 y312 x313 x314 x315 x316 x317 x318 => ⟨⟨42, sp 38 0 [(2, (.d (.v (.int .i64 x311)))), (3, (.ptr 0 0)), (4, (.ptr 1 0)), (7, (.d (.v (.slice .none 0 0)))), (8, (.d (.v (.int .i64 y312))))], [(.code (cd cfz.P 42 [1, 1, 0, 1, 0, 0])), (.inLoop (cd cfz.P 42 [1, 1, 0, 1, 0, 0])), (.inBlock 0), (.code (cd cfz.P 42 [1, 1, 1]))], [], false, .none⟩, [], [(.cells [(.d (.v (.int .i64 x313))), (.d (.v (.int .i64 x314))), (.d (.v (.int .i64 x315))), (.d (.v (.int .i64 x316)))] 82), (.cells [(.d (.v (.int .i64 x317))), (.d (.v (.int .i64 x318)))] 68)]⟩
  | .c2 x325 y326 y327 y328 y329 x330 x331 x332 x333 x334 x335 y340 => ⟨⟨42, sp 38 0 [(2, (.d (.v (.int .i64 x325)))), (3, (.ptr 0 0)), (4, (.ptr 1 0)), (7, (.own 3 y326 1 y327 y328)), (8, (.d (.v (.int .i64 y329))))], [(.code (cd cfz.P 42 [1, 1, 0, 1, 0, 0])), (.inLoop (cd cfz.P 42 [1, 1, 0, 1, 0, 0])), (.inBlock 0), (.code (cd cfz.P 42 [1, 1, 1]))], [], false, .none⟩, [], [(.cells [(.d (.v (.int .i64 x330))), (.d (.v (.int .i64 x331))), (.d (.v (.int .i64 x332))), (.d (.v (.int .i64 x333)))] 82), (.cells [(.d (.v (.int .i64 x334))), (.d (.v (.int .i64 x335)))] 68), (.tail 0), (.tail y340)]⟩
noncomputable def B42 : S42 → Tr S42 (Nat × List DV)
  | .c0 a304 a305 a306 a307 a308 a309 a310 => (.ask (.in64 (a304 + 1)) (.nxt (.c1 a310 (if a304 + 1 > a308 then a304 + 1 else a308) a304 a305 a306 a307 a308 a309)))
  | .c1 x311 y312 x313 x314 x315 x316 x317 x318 => (.br (decide (y312 < x318))
  (.bind (F48 x313 x314 x315 x316 y312) fun v319 =>
  (.bind (F94 v319 x311) fun v322 =>
  (.bind (F48 x313 x314 x315 x316 (y312 - 1)) fun v323 =>
  (.bind (F94 v323 x311) fun v324 =>
  (.sees [(.agg [(.d (.v (.int .i64 x313))), (.d (.v (.int .i64 x314))), (.d (.v (.int .i64 x315))), (.d (.v (.int .i64 x316)))]), (.d (.v (.int .i64 y312)))] (.sees [(.d (.v (.int .i64 v319))), (.d (.v (.int .i64 x311)))] (.ask (.in64 (y312 - 1)) (.sees [(.agg [(.d (.v (.int .i64 x313))), (.d (.v (.int .i64 x314))), (.d (.v (.int .i64 x315))), (.d (.v (.int .i64 x316)))]), (.d (.v (.int .i64 (y312 - 1))))] (.sees [(.d (.v (.int .i64 v323))), (.d (.v (.int .i64 x311)))] (.br (decide (v322 > v324))
  (.ask (.in64 (y312 + 1)) (.nxt (.c2 x311 0 1 [(.v (.int .i64 y312))] (y312 + 1) x313 x314 x315 x316 x317 x318 0)))
  (.ask (.in64 (y312 + 1)) (.nxt (.c1 x311 (y312 + 1) x313 x314 x315 x316 x317 x318)))))))))))))
  (.ret (0, [])))
  | .c2 x325 y326 y327 y328 y329 x330 x331 x332 x333 x334 x335 y340 => (.br (decide (y329 < x335))
  (.bind (F48 x330 x331 x332 x333 y329) fun v341 =>
  (.bind (F94 v341 x325) fun v342 =>
  (.bind (F48 x330 x331 x332 x333 (y329 - 1)) fun v343 =>
  (.bind (F94 v343 x325) fun v344 =>
  (.sees [(.agg [(.d (.v (.int .i64 x330))), (.d (.v (.int .i64 x331))), (.d (.v (.int .i64 x332))), (.d (.v (.int .i64 x333)))]), (.d (.v (.int .i64 y329)))] (.sees [(.d (.v (.int .i64 v341))), (.d (.v (.int .i64 x325)))] (.ask (.in64 (y329 - 1)) (.sees [(.agg [(.d (.v (.int .i64 x330))), (.d (.v (.int .i64 x331))), (.d (.v (.int .i64 x332))), (.d (.v (.int .i64 x333)))]), (.d (.v (.int .i64 (y329 - 1))))] (.sees [(.d (.v (.int .i64 v343))), (.d (.v (.int .i64 x325)))] (.br (decide (v342 > v344))
  (.ask (.eqN y326 y340) (.ask (.fits (y327 + 1) 8) (.ask (.in64 (y329 + 1)) (.nxt (.c2 x325 (y340 + 1) (y327 + 1) (y328 ++ [DV.v (Value.int IntKind.i64 y329)]) (y329 + 1) x330 x331 x332 x333 x334 x335 (y340 + 1))))))
  (.ask (.in64 (y329 + 1)) (.nxt (.c2 x325 y326 y327 y328 (y329 + 1) x330 x331 x332 x333 x334 x335 y340)))))))))))))
  (.ret (y327, y328)))
noncomputable def F42 (a304 : Int) (a305 : Int) (a306 : Int) (a307 : Int) (a308 : Int) (a309 : Int) (a310 : Int) : Option (Nat × List DV) := res B42 (.c0 a304 a305 a306 a307 a308 a309 a310)
noncomputable def D42_0 (a304 : Int) (a305 : Int) (a306 : Int) (a307 : Int) (a308 : Int) (a309 : Int) (a310 : Int) : DT cfz := (.go 23 [] [] (.cut 2 [[2, 3, 4, 7, 8]] []))
theorem k42_0 (a304 : Int) (a305 : Int) (a306 : Int) (a307 : Int) (a308 : Int) (a309 : Int) (a310 : Int) : xrun cfz 42 (D42_0 a304 a305 a306 a307 a308 a309 a310) [] (st42 (.c0 a304 a305 a306 a307 a308 a309 a310)) = (B42 (.c0 a304 a305 a306 a307 a308 a309 a310)).mach st42 out42 := by kernel_rfl
noncomputable def D42_1 (x311 : Int) (y312 : Int) (x313 : Int) (x314 : Int) (x315 : Int) (x316 : Int) (x317 : Int) (x318 : Int) : DT cfz := (.go 8 [] [] (.split 18 (.go 6 [(.br true)] [0] (.bind (f48 x313 x314 x315 x316 y312) fun v319 => (.bind (f94 v319 x311) fun v322 => (.bind (f48 x313 x314 x315 x316 (y312 - 1)) fun v323 => (.bind (f94 v323 x311) fun v324 => (.go 1 [(.ck 0), (.ck 1), (.ck 2), (.ck 3)] [] (.split 32 (.go 15 [(.br true)] [0, 1, 2, 3] (.cut 4 [[2, 3, 4, 7, 8]] [])) (.go 9 [(.br false)] [0] (.cut 2 [[2, 3, 4, 7, 8]] []))))))))) (.go 8 [(.br false)] [0] .fin)))
theorem k42_1 (x311 : Int) (y312 : Int) (x313 : Int) (x314 : Int) (x315 : Int) (x316 : Int) (x317 : Int) (x318 : Int) : xrun cfz 42 (D42_1 x311 y312 x313 x314 x315 x316 x317 x318) [] (st42 (.c1 x311 y312 x313 x314 x315 x316 x317 x318)) = (B42 (.c1 x311 y312 x313 x314 x315 x316 x317 x318)).mach st42 out42 := by kernel_rfl
noncomputable def D42_2 (x325 : Int) (y326 : Nat) (y327 : Nat) (y328 : List DV) (y329 : Int) (x330 : Int) (x331 : Int) (x332 : Int) (x333 : Int) (x334 : Int) (x335 : Int) (y340 : Nat) : DT cfz := (.go 8 [] [] (.split 18 (.go 6 [(.br true)] [0] (.bind (f48 x330 x331 x332 x333 y329) fun v341 => (.bind (f94 v341 x325) fun v342 => (.bind (f48 x330 x331 x332 x333 (y329 - 1)) fun v343 => (.bind (f94 v343 x325) fun v344 => (.go 1 [(.ck 0), (.ck 1), (.ck 2), (.ck 3)] [] (.split 32 (.go 15 [(.br true)] [0, 2, 3] (.cut 4 [[2, 3, 4, 7, 8]] [])) (.go 9 [(.br false)] [0] (.cut 4 [[2, 3, 4, 7, 8]] []))))))))) (.go 8 [(.br false)] [0] .fin)))
theorem k42_2 (x325 : Int) (y326 : Nat) (y327 : Nat) (y328 : List DV) (y329 : Int) (x330 : Int) (x331 : Int) (x332 : Int) (x333 : Int) (x334 : Int) (x335 : Int) (y340 : Nat) : xrun cfz 42 (D42_2 x325 y326 y327 y328 y329 x330 x331 x332 x333 x334 x335 y340) [] (st42 (.c2 x325 y326 y327 y328 y329 x330 x331 x332 x333 x334 x335 y340)) = (B42 (.c2 x325 y326 y327 y328 y329 x330 x331 x332 x333 x334 x335 y340)).mach st42 out42 := by kernel_rfl
theorem ok42 : ∀ s, ∃ d, xrun cfz 42 d [] (st42 s) = (B42 s).mach st42 out42
  | .c0 a304 a305 a306 a307 a308 a309 a310 => ⟨_, k42_0 a304 a305 a306 a307 a308 a309 a310⟩
  | .c1 x311 y312 x313 x314 x315 x316 x317 x318 => ⟨_, k42_1 x311 y312 x313 x314 x315 x316 x317 x318⟩
  | .c2 x325 y326 y327 y328 y329 x330 x331 x332 x333 x334 x335 y340 => ⟨_, k42_2 x325 y326 y327 y328 y329 x330 x331 x332 x333 x334 x335 y340⟩
theorem f42 (a304 : Int) (a305 : Int) (a306 : Int) (a307 : Int) (a308 : Int) (a309 : Int) (a310 : Int) (v : Nat × List DV) (h : F42 a304 a305 a306 a307 a308 a309 a310 = some v) : PureCalls cfz.P cfz.glob 42 [(.agg [(.d (.v (.int .i64 a304))), (.d (.v (.int .i64 a305))), (.d (.v (.int .i64 a306))), (.d (.v (.int .i64 a307)))]), (.agg [(.d (.v (.int .i64 a308))), (.d (.v (.int .i64 a309)))]), (.d (.v (.int .i64 a310)))] (out42 v) := tree_pure knil ok42 (s := .c0 a304 a305 a306 a307 a308 a309 a310) rfl (by kernel_rfl) v h

/-! F43 -/
inductive S43 where
  | c0 (a346 : Nat) (a347 : List DV) (a348 : Nat) (a349 : List DV)
  | c1 (x350 : Nat) (x351 : List DV) (x352 : Nat) (x353 : List DV) (y354 : Int)
def out43 (v : Bool) : AV := (.d (.v (.bool v)))
noncomputable def st43 : S43 → ASt
  | .c0 a346 a347 a348 a349 => ent cfz 43 [(.d (.sl a346 a347)), (.d (.sl a348 a349))]
  | .c1 x350 x351 x352 x353 y354 => ⟨⟨43, sp 26 0 [(0, (.d (.sl x350 x351))), (1, (.d (.sl x352 x353))), (5, (.d (.v (.int .i64 y354))))], [(.code (cd cfz.P 43 [1, 1, 0, 1, 0, 0])), (.inLoop (cd cfz.P 43 [1, 1, 0, 1, 0, 0])), (.inBlock 0), (.code (cd cfz.P 43 [1, 1, 1]))], [], false, .none⟩, [], []⟩
noncomputable def B43 : S43 → Tr S43 (Bool)
  | .c0 a346 a347 a348 a349 => (.br ((↑a346 : Int) != (↑a348 : Int))
  (.ret false)
  (.nxt (.c1 a346 a347 a348 a349 0)))
  | .c1 x350 x351 x352 x353 y354 => (.br (decide (y354 < (↑x350 : Int)))
  (.ask (.le 0 y354) (.ask (.lt y354 ((↑x350 : Int))) (.ask (.leN (y354.toNat * 1) x351.length) (.ask (.prop (Option.map AV.d (List.drop (y354.toNat * 1) x351)[0]? = some (AV.d (DV.v (Value.int IntKind.i64 (dI (cel x351 (y354.toNat * 1)))))))) (.ask (.le 0 y354) (.ask (.lt y354 ((↑x352 : Int))) (.ask (.leN (y354.toNat * 1) x353.length) (.ask (.prop (Option.map AV.d (List.drop (y354.toNat * 1) x353)[0]? = some (AV.d (DV.v (Value.int IntKind.i64 (dI (cel x353 (y354.toNat * 1)))))))) (.br (dI (cel x351 (y354.toNat * 1)) != dI (cel x353 (y354.toNat * 1)))
  (.ret false)
  (.ask (.in64 (y354 + 1)) (.nxt (.c1 x350 x351 x352 x353 (y354 + 1)))))))))))))
  (.ret true))
noncomputable def F43 (a346 : Nat) (a347 : List DV) (a348 : Nat) (a349 : List DV) : Option (Bool) := res B43 (.c0 a346 a347 a348 a349)
noncomputable def D43_0 (a346 : Nat) (a347 : List DV) (a348 : Nat) (a349 : List DV) : DT cfz := (.go 13 [] [] (.split 10 (.go 6 [(.br true)] [0] .fin) (.go 9 [(.br false)] [0] (.cut 0 [[0, 1, 5]] []))))
theorem k43_0 (a346 : Nat) (a347 : List DV) (a348 : Nat) (a349 : List DV) : xrun cfz 43 (D43_0 a346 a347 a348 a349) [] (st43 (.c0 a346 a347 a348 a349)) = (B43 (.c0 a346 a347 a348 a349)).mach st43 out43 := by kernel_rfl
noncomputable def D43_1 (x350 : Nat) (x351 : List DV) (x352 : Nat) (x353 : List DV) (y354 : Int) : DT cfz := (.go 8 [] [] (.split 14 (.go 7 [(.br true), (.as (.d (.v (.int .i64 (dI (cel x351 (y354.toNat * 1))))))), (.as (.d (.v (.int .i64 (dI (cel x353 (y354.toNat * 1)))))))] [0] (.split 25 (.go 6 [(.br true)] [0] .fin) (.go 9 [(.br false)] [0] (.cut 0 [[0, 1, 5]] [])))) (.go 7 [(.br false)] [0] .fin)))
theorem k43_1 (x350 : Nat) (x351 : List DV) (x352 : Nat) (x353 : List DV) (y354 : Int) : xrun cfz 43 (D43_1 x350 x351 x352 x353 y354) [] (st43 (.c1 x350 x351 x352 x353 y354)) = (B43 (.c1 x350 x351 x352 x353 y354)).mach st43 out43 := by kernel_rfl
theorem ok43 : ∀ s, ∃ d, xrun cfz 43 d [] (st43 s) = (B43 s).mach st43 out43
  | .c0 a346 a347 a348 a349 => ⟨_, k43_0 a346 a347 a348 a349⟩
  | .c1 x350 x351 x352 x353 y354 => ⟨_, k43_1 x350 x351 x352 x353 y354⟩
theorem f43 (a346 : Nat) (a347 : List DV) (a348 : Nat) (a349 : List DV) (v : Bool) (h : F43 a346 a347 a348 a349 = some v) : PureCalls cfz.P cfz.glob 43 [(.d (.sl a346 a347)), (.d (.sl a348 a349))] (out43 v) := tree_pure knil ok43 (s := .c0 a346 a347 a348 a349) rfl (by kernel_rfl) v h

/-! F6 -/
inductive S6 where
  | c0 (a216 : Int) (a217 : Int) (a218 : Int) (a219 : Int) (a220 : Int) (a221 : Int) (a222 : Int)
def out6 (v : Bool) : AV := (.d (.v (.bool v)))
noncomputable def st6 : S6 → ASt
  | .c0 a216 a217 a218 a219 a220 a221 a222 => ent cfw 6 [(.agg [(.d (.v (.int .i64 a216))), (.d (.v (.int .i64 a217))), (.d (.v (.int .i64 a218))), (.d (.v (.int .i64 a219)))]), (.agg [(.d (.v (.int .i64 a220))), (.d (.v (.int .i64 a221)))]), (.d (.v (.int .i64 a222)))]
noncomputable def B6 : S6 → Tr S6 (Bool)
  | .c0 a216 a217 a218 a219 a220 a221 a222 => (.br (decide (a220 ≥ 0))
  (.triv _ (tv_s (decide (a221 ≤ 100000000) == true)) (.triv _ (tv_t (decide (a221 ≤ 100000000))) (.triv _ (tv_s ((if decide (a221 ≤ 100000000) = true then decide (IntKind.i64.wrap (a221 - a220) > 400) else false) == true)) (.triv _ (tv_t (if decide (a221 ≤ 100000000) = true then decide (IntKind.i64.wrap (a221 - a220) > 400) else false)) (.br (if (if decide (a221 ≤ 100000000) = true then decide (IntKind.i64.wrap (a221 - a220) > 400) else false) = true then IntKind.i64.wrap (a221 - a220) != 4097 else false)
  (.bind (F12) fun v223 =>
  (.sees [] (.ret v223)))
  (.bind (F39 a216 a217 a218 a219 a220 a221 a222) fun v288 =>
  (.sees [(.agg [(.d (.v (.int .i64 a216))), (.d (.v (.int .i64 a217))), (.d (.v (.int .i64 a218))), (.d (.v (.int .i64 a219)))]), (.agg [(.d (.v (.int .i64 a220))), (.d (.v (.int .i64 a221)))]), (.d (.v (.int .i64 a222)))] (.bind (F40 a216 a217 a218 a219) fun v289 =>
  (.bind (F41 a220 a221) fun v301 =>
  (.bind (F34 a222 2 100000) fun v302 =>
  (.bind (F24 3 [(.v (.int .i64 v289)), (.v (.int .i64 v301)), (.v (.int .i64 v302))]) fun v303 =>
  (.sees [(.agg [(.d (.v (.int .i64 a216))), (.d (.v (.int .i64 a217))), (.d (.v (.int .i64 a218))), (.d (.v (.int .i64 a219)))])] (.sees [(.agg [(.d (.v (.int .i64 a220))), (.d (.v (.int .i64 a221)))])] (.sees [(.d (.v (.int .i64 a222))), (.d (.v (.int .i64 2))), (.d (.v (.int .i64 100000)))] (.sees [(.d (.sl 3 [(.v (.int .i64 v289)), (.v (.int .i64 v301)), (.v (.int .i64 v302))]))] (.br (v303 == 0)
  (.bind (F42 a216 a217 a218 a219 a220 a221 a222) fun v345 =>
  (.sees [(.agg [(.d (.v (.int .i64 a216))), (.d (.v (.int .i64 a217))), (.d (.v (.int .i64 a218))), (.d (.v (.int .i64 a219)))]), (.agg [(.d (.v (.int .i64 a220))), (.d (.v (.int .i64 a221)))]), (.d (.v (.int .i64 a222)))] (.bind (F43 v288.fst v288.snd.fst v345.fst v345.snd) fun v355 =>
  (.sees [(.d (.sl v288.fst v288.snd.fst)), (.d (.sl v345.fst v345.snd))] (.triv _ (tv_s (v355 == true)) (.triv _ (tv_s (v355 == true)) (.triv _ (tv_t v355) (.bind (F12) fun v356 =>
  (.sees [] (.triv _ (tv_t (if v355 = true then v288.snd.snd == v303 else false)) (.ret (if (if v355 = true then v288.snd.snd == v303 else false) = true then v356 else false))))))))))))
  (.bind (F43 v288.fst v288.snd.fst 0 []) fun v357 =>
  (.sees [(.d (.sl v288.fst v288.snd.fst)), (.d (.sl 0 []))] (.triv _ (tv_s (v357 == true)) (.triv _ (tv_s (v357 == true)) (.triv _ (tv_t v357) (.bind (F12) fun v358 =>
  (.sees [] (.triv _ (tv_t (if v357 = true then v288.snd.snd == v303 else false)) (.ret (if (if v357 = true then v288.snd.snd == v303 else false) = true then v358 else false))))))))))))))))))))))))))
  (.bind (F39 a216 a217 a218 a219 a220 a221 a222) fun v359 =>
  (.sees [(.agg [(.d (.v (.int .i64 a216))), (.d (.v (.int .i64 a217))), (.d (.v (.int .i64 a218))), (.d (.v (.int .i64 a219)))]), (.agg [(.d (.v (.int .i64 a220))), (.d (.v (.int .i64 a221)))]), (.d (.v (.int .i64 a222)))] (.bind (F40 a216 a217 a218 a219) fun v360 =>
  (.bind (F41 a220 a221) fun v361 =>
  (.bind (F34 a222 2 100000) fun v362 =>
  (.bind (F24 3 [(.v (.int .i64 v360)), (.v (.int .i64 v361)), (.v (.int .i64 v362))]) fun v363 =>
  (.sees [(.agg [(.d (.v (.int .i64 a216))), (.d (.v (.int .i64 a217))), (.d (.v (.int .i64 a218))), (.d (.v (.int .i64 a219)))])] (.sees [(.agg [(.d (.v (.int .i64 a220))), (.d (.v (.int .i64 a221)))])] (.sees [(.d (.v (.int .i64 a222))), (.d (.v (.int .i64 2))), (.d (.v (.int .i64 100000)))] (.sees [(.d (.sl 3 [(.v (.int .i64 v360)), (.v (.int .i64 v361)), (.v (.int .i64 v362))]))] (.br (v363 == 0)
  (.bind (F42 a216 a217 a218 a219 a220 a221 a222) fun v364 =>
  (.sees [(.agg [(.d (.v (.int .i64 a216))), (.d (.v (.int .i64 a217))), (.d (.v (.int .i64 a218))), (.d (.v (.int .i64 a219)))]), (.agg [(.d (.v (.int .i64 a220))), (.d (.v (.int .i64 a221)))]), (.d (.v (.int .i64 a222)))] (.bind (F43 v359.fst v359.snd.fst v364.fst v364.snd) fun v365 =>
  (.sees [(.d (.sl v359.fst v359.snd.fst)), (.d (.sl v364.fst v364.snd))] (.triv _ (tv_s (v365 == true)) (.triv _ (tv_s (v365 == true)) (.triv _ (tv_t v365) (.bind (F12) fun v366 =>
  (.sees [] (.triv _ (tv_t (if v365 = true then v359.snd.snd == v363 else false)) (.ret (if (if v365 = true then v359.snd.snd == v363 else false) = true then v366 else false))))))))))))
  (.bind (F43 v359.fst v359.snd.fst 0 []) fun v367 =>
  (.sees [(.d (.sl v359.fst v359.snd.fst)), (.d (.sl 0 []))] (.triv _ (tv_s (v367 == true)) (.triv _ (tv_s (v367 == true)) (.triv _ (tv_t v367) (.bind (F12) fun v368 =>
  (.sees [] (.triv _ (tv_t (if v367 = true then v359.snd.snd == v363 else false)) (.ret (if (if v367 = true then v359.snd.snd == v363 else false) = true then v368 else false))))))))))))))))))))))
noncomputable def F6 (a216 : Int) (a217 : Int) (a218 : Int) (a219 : Int) (a220 : Int) (a221 : Int) (a222 : Int) : Option (Bool) := res B6 (.c0 a216 a217 a218 a219 a220 a221 a222)
noncomputable def D6_0 (a216 : Int) (a217 : Int) (a218 : Int) (a219 : Int) (a220 : Int) (a221 : Int) (a222 : Int) : DT cfw := (.go 22 [] [] (.split 20 (.go 13 [(.br true), (.br true), .none, (.br true), .none, (.sp .none), (.sp .none), .mg, (.sp .none), (.sp .none), .mg] [0, 1, 2] (.split 32 (.go 3 [(.br true)] [0] (.bind (f12) fun v223 => (.go 4 [(.ck 0)] [] .fin))) (.go 7 [(.br false)] [0] (.bind (f39 a216 a217 a218 a219 a220 a221 a222) fun v288 => (.go 9 [(.ck 0)] [] (.bind (f40 a216 a217 a218 a219) fun v289 => (.bind (f41 a220 a221) fun v301 => (.bind (f34 a222 2 100000) fun v302 => (.bind (f24 3 [(.v (.int .i64 v289)), (.v (.int .i64 v301)), (.v (.int .i64 v302))]) fun v303 => (.go 11 [(.ck 1), (.ck 2), (.ck 3), (.ck 4)] [] (.split 50 (.go 5 [(.br true)] [0] (.bind (f42 a216 a217 a218 a219 a220 a221 a222) fun v345 => (.go 7 [(.ck 5)] [] (.bind (f43 v288.fst v288.snd.fst v345.fst v345.snd) fun v355 => (.go 7 [(.ck 6), (.sp .none), (.sp .none), (.sp .none), .mg] [] (.bind (f12) fun v356 => (.go 5 [(.sp (.some 7)), .mg] [] .fin))))))) (.go 6 [(.br false)] [0] (.bind (f43 v288.fst v288.snd.fst 0 []) fun v357 => (.go 7 [(.ck 5), (.sp .none), (.sp .none), (.sp .none), .mg] [] (.bind (f12) fun v358 => (.go 5 [(.sp (.some 6)), .mg] [] .fin)))))))))))))))) (.go 20 [(.br false), (.br false), (.br false), .none, (.br false), (.br false), .none, (.br false), (.br false), .none, (.br false)] [0, 1, 2, 3, 4, 5, 6, 7] (.bind (f39 a216 a217 a218 a219 a220 a221 a222) fun v359 => (.go 9 [(.ck 0)] [] (.bind (f40 a216 a217 a218 a219) fun v360 => (.bind (f41 a220 a221) fun v361 => (.bind (f34 a222 2 100000) fun v362 => (.bind (f24 3 [(.v (.int .i64 v360)), (.v (.int .i64 v361)), (.v (.int .i64 v362))]) fun v363 => (.go 11 [(.ck 1), (.ck 2), (.ck 3), (.ck 4)] [] (.split 50 (.go 5 [(.br true)] [0] (.bind (f42 a216 a217 a218 a219 a220 a221 a222) fun v364 => (.go 7 [(.ck 5)] [] (.bind (f43 v359.fst v359.snd.fst v364.fst v364.snd) fun v365 => (.go 7 [(.ck 6), (.sp .none), (.sp .none), (.sp .none), .mg] [] (.bind (f12) fun v366 => (.go 5 [(.sp (.some 7)), .mg] [] .fin))))))) (.go 6 [(.br false)] [0] (.bind (f43 v359.fst v359.snd.fst 0 []) fun v367 => (.go 7 [(.ck 5), (.sp .none), (.sp .none), (.sp .none), .mg] [] (.bind (f12) fun v368 => (.go 5 [(.sp (.some 6)), .mg] [] .fin))))))))))))))))
theorem k6_0 (a216 : Int) (a217 : Int) (a218 : Int) (a219 : Int) (a220 : Int) (a221 : Int) (a222 : Int) : xrun cfw 6 (D6_0 a216 a217 a218 a219 a220 a221 a222) [] (st6 (.c0 a216 a217 a218 a219 a220 a221 a222)) = (B6 (.c0 a216 a217 a218 a219 a220 a221 a222)).mach st6 out6 := by kernel_rfl
theorem ok6 : ∀ s, ∃ d, xrun cfw 6 d [] (st6 s) = (B6 s).mach st6 out6
  | .c0 a216 a217 a218 a219 a220 a221 a222 => ⟨_, k6_0 a216 a217 a218 a219 a220 a221 a222⟩
theorem f6 (a216 : Int) (a217 : Int) (a218 : Int) (a219 : Int) (a220 : Int) (a221 : Int) (a222 : Int) (v : Bool) (h : F6 a216 a217 a218 a219 a220 a221 a222 = some v) : PureCalls cfw.P cfw.glob 6 [(.agg [(.d (.v (.int .i64 a216))), (.d (.v (.int .i64 a217))), (.d (.v (.int .i64 a218))), (.d (.v (.int .i64 a219)))]), (.agg [(.d (.v (.int .i64 a220))), (.d (.v (.int .i64 a221)))]), (.d (.v (.int .i64 a222)))] (out6 v) := tree_pure knilw ok6 (s := .c0 a216 a217 a218 a219 a220 a221 a222) rfl (by kernel_rfl) v h

end Go.Kv
