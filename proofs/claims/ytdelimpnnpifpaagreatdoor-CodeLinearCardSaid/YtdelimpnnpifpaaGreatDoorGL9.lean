import Derived.Test.YtdelimpnnpifpaaGreatDoorGW93
import Derived.Test.YtdelimpnnpifpaaGreatDoorKzW
set_option linter.all false
namespace Go.Kv
open Go Go.RowKit Go.Proofs
set_option maxRecDepth 100000
inductive S85 where
 | c0 (a20 a21:Int) (a22:Nat) (a23:List DV)
 | c1 (x24:Nat) (x25:List DV) (x26 y27 x28:Int)
 | c2 (x29:Nat) (x30:List DV) (y31 y32:Nat) (y33:List DV) (x34 y35 x36:Int) (y39:Nat)
def out85 (v:Nat × List DV):AV:=(.d (.sl v.fst v.snd))
noncomputable def jvs:S85→ASt
 | .c0 a20 a21 a22 a23=>ent cfz 85 [(.agg [(aI a20),(aI a21)]),(.d (.sl a22 a23))]
 | .c1 x24 x25 x26 y27 x28=>⟨⟨85,sp 31 0 [(1,(.d (.sl x24 x25))),(2,(.ptr 0 0)),(5,(.d (.v (.slice .none 0 0)))),(10,(aI x26)),(11,(aI y27))],[(.code (cd cfz.P 85 [1,1,0,1,0,0])),(.inLoop (cd cfz.P 85 [1,1,0,1,0,0])),(.inBlock 0),(.code (cd cfz.P 85 [1,1,1]))],[],false,.none⟩,[],[(.cells [(aI x28),(aI x26)] 30)]⟩
 | .c2 x29 x30 y31 y32 y33 x34 y35 x36 y39=>⟨⟨85,sp 31 0 [(1,(.d (.sl x29 x30))),(2,(.ptr 0 0)),(5,(.own 2 y31 1 y32 y33)),(10,(aI x34)),(11,(aI y35))],[(.code (cd cfz.P 85 [1,1,0,1,0,0])),(.inLoop (cd cfz.P 85 [1,1,0,1,0,0])),(.inBlock 0),(.code (cd cfz.P 85 [1,1,1]))],[],false,.none⟩,[],[(.cells [(aI x36),(aI x34)] 30),(.tail 0),(.tail y39)]⟩
noncomputable def B85:S85→Tr S85 (Nat × List DV)
 | .c0 a20 a21 a22 a23=>(.nxt (.c1 a22 a23 a21 0 a20))
 | .c1 x24 x25 x26 y27 x28=>(.br (decide (y27<x26))
 (.ask (.in64 (y27+1)) (.nxt (.c2 x24 x25 0 1 [(.v (.int .i64 y27))] x26 (y27+1) x28 0)))
 (.br (x24.beq 0)
 (.bind (F93 x28 x26 x26.toNat ((List.replicate x26.toNat (List.map kK (Value.int IntKind.i64 0).cells.toList)).flatten) 0 []) fun v37 =>
 (.ask (.eqI x26 x26) (.ask (.le 0 x26) (.ask (.le x26 x26) (.ask (.le (8*x26) 281474976710656) (.ask (.le x26 9223372036854775807) (.ask (.eqN x24 0) (.sees [(.agg [(aI x28),(aI x26)]),(.d (.sl x26.toNat ((List.replicate x26.toNat (List.map kK (Value.int IntKind.i64 0).cells.toList)).flatten))),(.d (.sl 0 []))] (.ret (v37.fst,v37.snd.fst))))))))))
 (.bind (F93 x28 x26 (x26.toNat+x24) ((List.replicate x26.toNat (List.map kK (Value.int IntKind.i64 0).cells.toList)).flatten++x25) 0 []) fun v38 =>
 (.ask (.eqI x26 x26) (.ask (.le 0 x26) (.ask (.le x26 x26) (.ask (.le (8*x26) 281474976710656) (.ask (.le x26 9223372036854775807) (.ask (.ltN 0 x24) (.ask (.eqN x25.length (x24*1)) (.ask (.fits (x26.toNat+x24) 8) (.sees [(.agg [(aI x28),(aI x26)]),(.d (.sl (x26.toNat+x24) ((List.replicate x26.toNat (List.map kK (Value.int IntKind.i64 0).cells.toList)).flatten++x25))),(.d (.sl 0 []))] (.ret (v38.fst,v38.snd.fst))))))))))))))
 | .c2 x29 x30 y31 y32 y33 x34 y35 x36 y39=>(.br (decide (y35<x34))
 (.ask (.eqN y31 y39) (.ask (.fits (y32+1) 8) (.ask (.in64 (y35+1)) (.nxt (.c2 x29 x30 (y39+1) (y32+1) (y33++[DV.v (Value.int IntKind.i64 y35)]) x34 (y35+1) x36 (y39+1))))))
 (.br (x29.beq 0)
 (.bind (F93 x36 x34 x34.toNat ((List.replicate x34.toNat (List.map kK (Value.int IntKind.i64 0).cells.toList)).flatten) y32 y33) fun v42 =>
 (.ask (.eqI x34 x34) (.ask (.le 0 x34) (.ask (.le x34 x34) (.ask (.le (8*x34) 281474976710656) (.ask (.le x34 9223372036854775807) (.ask (.eqN x29 0) (.sees [(.agg [(aI x36),(aI x34)]),(.d (.sl x34.toNat ((List.replicate x34.toNat (List.map kK (Value.int IntKind.i64 0).cells.toList)).flatten))),(.d (.sl y32 y33))] (.ret (v42.fst,v42.snd.fst))))))))))
 (.bind (F93 x36 x34 (x34.toNat+x29) ((List.replicate x34.toNat (List.map kK (Value.int IntKind.i64 0).cells.toList)).flatten++x30) y32 y33) fun v43 =>
 (.ask (.eqI x34 x34) (.ask (.le 0 x34) (.ask (.le x34 x34) (.ask (.le (8*x34) 281474976710656) (.ask (.le x34 9223372036854775807) (.ask (.ltN 0 x29) (.ask (.eqN x30.length (x29*1)) (.ask (.fits (x34.toNat+x29) 8) (.sees [(.agg [(aI x36),(aI x34)]),(.d (.sl (x34.toNat+x29) ((List.replicate x34.toNat (List.map kK (Value.int IntKind.i64 0).cells.toList)).flatten++x30))),(.d (.sl y32 y33))] (.ret (v43.fst,v43.snd.fst))))))))))))))
noncomputable def F85 (a20 a21:Int) (a22:Nat) (a23:List DV):Option (Nat × List DV):=res B85 (.c0 a20 a21 a22 a23)
theorem jyz:∀ s,∃ d,jC cfz 85 d [] (jvs s)=(B85 s).mach jvs out85:=fun s=>match s with
 | .c0 a20 a21 a22 a23=>⟨(.go 18 [] [] (.cut 1 [[1,2,5,10,11]] [])),by kernel_rfl⟩
 | .c1 x24 x25 x26 y27 x28=>⟨(.go 5 [] [] (.split 12 (.go 22 [(.br true)] [0,1,2,3] (.cut 3 [[1,2,5,10,11]] [])) (.go 4 [(.br false)] [0] (.br (x24.beq 0) (.bind (f93 x28 x26 x26.toNat ((List.replicate x26.toNat (List.map kK (Value.int IntKind.i64 0).cells.toList)).flatten) 0 []) fun v37=>(.go 7 [.none,.none,.mg,(.br false),(.ck 0)] [] .fin)) (.bind (f93 x28 x26 (x26.toNat+x24) ((List.replicate x26.toNat (List.map kK (Value.int IntKind.i64 0).cells.toList)).flatten++x25) 0 []) fun v38=>(.go 7 [.none,.none,.mg,(.br true),(.ck 0)] [5] .fin)))))),by kernel_rfl⟩
 | .c2 x29 x30 y31 y32 y33 x34 y35 x36 y39=>⟨(.go 5 [] [] (.split 12 (.go 22 [(.br true)] [0,2,3] (.cut 3 [[1,2,5,10,11]] [])) (.go 4 [(.br false)] [0] (.br (x29.beq 0) (.bind (f93 x36 x34 x34.toNat ((List.replicate x34.toNat (List.map kK (Value.int IntKind.i64 0).cells.toList)).flatten) y32 y33) fun v42=>(.go 7 [.none,.none,.mg,(.br false),(.ck 0)] [] .fin)) (.bind (f93 x36 x34 (x34.toNat+x29) ((List.replicate x34.toNat (List.map kK (Value.int IntKind.i64 0).cells.toList)).flatten++x30) y32 y33) fun v43=>(.go 7 [.none,.none,.mg,(.br true),(.ck 0)] [5] .fin)))))),by kernel_rfl⟩
theorem f85 (a20 a21:Int) (a22:Nat) (a23:List DV) (v:Nat × List DV) (h:F85 a20 a21 a22 a23=some v):PQ 85 [(.agg [(aI a20),(aI a21)]),(.d (.sl a22 a23))] (out85 v):=jn jJ jyz (s:=.c0 a20 a21 a22 a23) rfl (by kernel_rfl) v h
inductive S19 where
 | c0 (a24 a25:Int) (a26:Nat) (a27:List DV)
def out19 (v:Nat × List DV × Int):AV:=(.tup [(.d (.sl v.fst v.snd.fst)),(.d (.v (.int .i64 v.snd.snd)))])
noncomputable def jmV:S19→ASt
 | .c0 a24 a25 a26 a27=>ent cfw 19 [(.agg [(aI a24),(aI a25)]),(.d (.sl a26 a27))]
noncomputable def B19:S19→Tr S19 (Nat × List DV × Int)
 | .c0 a24 a25 a26 a27=>(.bind (F27 a24 a25) fun v28 =>
 (.bind (F83 ((↑a26:Int) != IntKind.i64.wrap (a24 - a25)) 2) fun v29 =>
 (.bind (F84 a26 a27) fun v30 =>
 (.bind (F82 3 [(.v (.int .i64 v28)),(.v (.int .i64 v29)),(.v (.int .i64 v30))]) fun v31 =>
 (.sees [(.agg [(aI a24),(aI a25)])] (.sees [(.d (.v (.bool ((↑a26:Int) != IntKind.i64.wrap (a24 - a25))))),(aI 2)] (.sees [(.d (.sl a26 a27))] (.sees [(.d (.sl 3 [(vI v28),(vI v29),(vI v30)]))] (.br (v31 != 0)
 (.ret (0,[],v31))
 (.bind (F85 a24 a25 a26 a27) fun v32 =>
 (.sees [(.agg [(aI a24),(aI a25)]),(.d (.sl a26 a27))] (.ret (v32.fst,v32.snd,0)))))))))))))
noncomputable def F19 (a24 a25:Int) (a26:Nat) (a27:List DV):Option (Nat × List DV × Int):=res B19 (.c0 a24 a25 a26 a27)
noncomputable def jqB (a24 a25:Int) (a26:Nat) (a27:List DV):DT cfw:=(.go 9 [] [] (.bind (f27 a24 a25) fun v28=>(.bind (f83 ((↑a26:Int) != IntKind.i64.wrap (a24 - a25)) 2) fun v29=>(.bind (f84 a26 a27) fun v30=>(.bind (f82 3 [(vI v28),(vI v29),(vI v30)]) fun v31=>(.go 6 [(.ck 0),(.ck 1),(.ck 2),(.ck 3)] [] (.split 23 (.go 8 [(.br true)] [0] .fin) (.go 6 [(.br false)] [0] (.bind (f85 a24 a25 a26 a27) fun v32=>(.go 5 [(.ck 4)] [] .fin))))))))))
theorem jrb (a24 a25:Int) (a26:Nat) (a27:List DV):jC cfw 19 (jqB a24 a25 a26 a27) [] (jmV (.c0 a24 a25 a26 a27))=(B19 (.c0 a24 a25 a26 a27)).mach jmV out19:=by kernel_rfl
theorem jyd:∀ s,∃ d,jC cfw 19 d [] (jmV s)=(B19 s).mach jmV out19
 | .c0 a24 a25 a26 a27=>⟨_,jrb a24 a25 a26 a27⟩
theorem f19 (a24 a25:Int) (a26:Nat) (a27:List DV) (v:Nat × List DV × Int) (h:F19 a24 a25 a26 a27=some v):PureCalls cfw.P cfw.glob 19 [(.agg [(aI a24),(aI a25)]),(.d (.sl a26 a27))] (out19 v):=jn knilw jyd (s:=.c0 a24 a25 a26 a27) rfl (by kernel_rfl) v h
inductive S94 where
 | c0 (a97:Nat) (a98:List DV) (a99:Nat) (x0:List DV)
 | c1 (x0:Nat) (x1:List DV) (x2:Nat) (x3:List DV) (x4 x5:Int)
 | c2 (x0:Nat) (x1:List DV) (x2 x3:Nat) (x4:List DV) (x5:Nat) (x6:List DV) (x7 x8:Int) (x9:Nat)
def out94 (v:Nat × List DV):AV:=(.d (.sl v.fst v.snd))
noncomputable def jrq:S94→ASt
 | .c0 a97 a98 a99 x0=>ent cfz 94 [(.d (.sl a97 a98)),(.d (.sl a99 x0))]
 | .c1 x0 x1 x2 x3 x4 x5=>⟨⟨94,sp 27 0 [(1,(.d (.sl x0 x1))),(5,(.d (.v (.slice .none 0 0)))),(8,(.d (.sl x2 x3))),(9,(aI x4)),(10,(aI x5))],[(.code (cd cfz.P 94 [1,1,0,1,0,0])),(.inLoop (cd cfz.P 94 [1,1,0,1,0,0])),(.inBlock 0),(.code (cd cfz.P 94 [1,1,1]))],[],false,.none⟩,[],[]⟩
 | .c2 x0 x1 x2 x3 x4 x5 x6 x7 x8 x9=>⟨⟨94,sp 27 0 [(1,(.d (.sl x0 x1))),(5,(.own 1 x2 1 x3 x4)),(8,(.d (.sl x5 x6))),(9,(aI x7)),(10,(aI x8))],[(.code (cd cfz.P 94 [1,1,0,1,0,0])),(.inLoop (cd cfz.P 94 [1,1,0,1,0,0])),(.inBlock 0),(.code (cd cfz.P 94 [1,1,1]))],[],false,.none⟩,[],[(.tail 0),(.tail x9)]⟩
noncomputable def B94:S94→Tr S94 (Nat × List DV)
 | .c0 a97 a98 a99 x0=>(.nxt (.c1 a99 x0 a97 a98 ((↑a97:Int)) 0))
 | .c1 x0 x1 x2 x3 x4 x5=>(.br (decide (x5<x4))
 (.ask (.le 0 x5) (.ask (.lt x5 ((↑x2:Int))) (.ask (.leN (x5.toNat*1) x3.length) (.ask (.prop (Option.map AV.d (List.drop (x5.toNat*1) x3)[0]? = some (AV.d (DV.v (Value.int IntKind.i64 (dI (cel x3 (x5.toNat*1)))))))) (.ask (.le 0 x5) (.ask (.lt x5 ((↑x0:Int))) (.ask (.leN (x5.toNat*1) x1.length) (.ask (.prop (Option.map AV.d (List.drop (x5.toNat*1) x1)[0]? = some (AV.d (DV.v (Value.int IntKind.i64 (dI (cel x1 (x5.toNat*1)))))))) (.br (dI (cel x3 (x5.toNat*1)) != dI (cel x1 (x5.toNat*1)))
 (.ask (.in64 (x5+1)) (.nxt (.c2 x0 x1 0 1 [(.v (.int .i64 x5))] x2 x3 x4 (x5+1) 0)))
 (.ask (.in64 (x5+1)) (.nxt (.c1 x0 x1 x2 x3 x4 (x5+1)))))))))))))
 (.ret (0,[])))
 | .c2 x0 x1 x2 x3 x4 x5 x6 x7 x8 x9=>(.br (decide (x8<x7))
 (.ask (.le 0 x8) (.ask (.lt x8 ((↑x5:Int))) (.ask (.leN (x8.toNat*1) x6.length) (.ask (.prop (Option.map AV.d (List.drop (x8.toNat*1) x6)[0]? = some (AV.d (DV.v (Value.int IntKind.i64 (dI (cel x6 (x8.toNat*1)))))))) (.ask (.le 0 x8) (.ask (.lt x8 ((↑x0:Int))) (.ask (.leN (x8.toNat*1) x1.length) (.ask (.prop (Option.map AV.d (List.drop (x8.toNat*1) x1)[0]? = some (AV.d (DV.v (Value.int IntKind.i64 (dI (cel x1 (x8.toNat*1)))))))) (.br (dI (cel x6 (x8.toNat*1)) != dI (cel x1 (x8.toNat*1)))
 (.ask (.eqN x2 x9) (.ask (.fits (x3+1) 8) (.ask (.in64 (x8+1)) (.nxt (.c2 x0 x1 (x9+1) (x3+1) (x4++[DV.v (Value.int IntKind.i64 x8)]) x5 x6 x7 (x8+1) (x9+1))))))
 (.ask (.in64 (x8+1)) (.nxt (.c2 x0 x1 x2 x3 x4 x5 x6 x7 (x8+1) x9))))))))))))
 (.ret (x3,x4)))
noncomputable def F94 (a97:Nat) (a98:List DV) (a99:Nat) (x0:List DV):Option (Nat × List DV):=res B94 (.c0 a97 a98 a99 x0)
theorem jxl:∀ s,∃ d,jC cfz 94 d [] (jrq s)=(B94 s).mach jrq out94:=fun s=>match s with
 | .c0 a97 a98 a99 x0=>⟨(.go 17 [] [] (.cut 0 [[1,5,8,9,10]] [])),by kernel_rfl⟩
 | .c1 x0 x1 x2 x3 x4 x5=>⟨(.go 5 [] [] (.split 11 (.go 21 [(.br true),(.as (aI (dI (cel x3 (x5.toNat*1))))),(.as (aI (dI (cel x1 (x5.toNat*1)))))] [0] (.split 20 (.go 14 [(.br true)] [0,1,2,3] (.cut 2 [[1,5,8,9,10]] [])) (.go 8 [(.br false)] [0] (.cut 0 [[1,5,8,9,10]] [])))) (.go 8 [(.br false)] [0] .fin))),by kernel_rfl⟩
 | .c2 x0 x1 x2 x3 x4 x5 x6 x7 x8 x9=>⟨(.go 5 [] [] (.split 11 (.go 21 [(.br true),(.as (aI (dI (cel x6 (x8.toNat*1))))),(.as (aI (dI (cel x1 (x8.toNat*1)))))] [0] (.split 20 (.go 14 [(.br true)] [0,2,3] (.cut 2 [[1,5,8,9,10]] [])) (.go 8 [(.br false)] [0] (.cut 2 [[1,5,8,9,10]] [])))) (.go 8 [(.br false)] [0] .fin))),by kernel_rfl⟩
theorem f94 (a97:Nat) (a98:List DV) (a99:Nat) (x0:List DV) (v:Nat × List DV) (h:F94 a97 a98 a99 x0=some v):PQ 94 [(.d (.sl a97 a98)),(.d (.sl a99 x0))] (out94 v):=jn jJ jxl (s:=.c0 a97 a98 a99 x0) rfl (by kernel_rfl) v h
inductive S53 where
 | c0 (a61:Nat) (a62:List DV) (a63:Nat) (a64:List DV)
def out53 (v:Int × Int):AV:=(.tup [(.d (.v (.int .i64 v.fst))),(.d (.v (.int .i64 v.snd)))])
noncomputable def jvW:S53→ASt
 | .c0 a61 a62 a63 a64=>ent cfz 53 [(.d (.sl a61 a62)),(.d (.sl a63 a64))]
noncomputable def B53:S53→Tr S53 (Int × Int)
 | .c0 a61 a62 a63 a64=>(.bind (jhN a61 a62) fun v93 =>
 (.sees [(.d (.sl a61 a62))] (.bind (jhN a63 a64) fun v94 =>
 (.sees [(.d (.sl a63 a64))] (.bind (F83 ((↑a61:Int) != (↑a63:Int)) 2) fun v95 =>
 (.sees [(.d (.v (.bool ((↑a61:Int) != (↑a63:Int))))),(aI 2)] (.bind (F82 3 [(.v (.int .i64 v93)),(.v (.int .i64 v94)),(.v (.int .i64 v95))]) fun v96 =>
 (.sees [(.d (.sl 3 [(vI v93),(vI v94),(vI v95)]))] (.br (v96 != 0)
 (.ret (0,v96))
 (.bind (F94 a61 a62 a63 a64) fun x0 =>
 (.sees [(.d (.sl a61 a62)),(.d (.sl a63 a64))] (.ret (((↑x0.fst:Int)),0)))))))))))))
noncomputable def F53 (a61:Nat) (a62:List DV) (a63:Nat) (a64:List DV):Option (Int × Int):=res B53 (.c0 a61 a62 a63 a64)
theorem jwH:∀ s,∃ d,jC cfz 53 d [] (jvW s)=(B53 s).mach jvW out53:=fun s=>match s with
 | .c0 a61 a62 a63 a64=>⟨(.go 9 [] [] (.bind (jwp a61 a62) fun v93=>(.go 2 [(.ck 0)] [] (.bind (jwp a63 a64) fun v94=>(.go 6 [(.ck 1)] [] (.bind (f83 ((↑a61:Int) != (↑a63:Int)) 2) fun v95=>(.go 2 [(.ck 2)] [] (.bind (f82 3 [(vI v93),(vI v94),(vI v95)]) fun v96=>(.go 8 [(.ck 3)] [] (.split 20 (.go 8 [(.br true)] [0] .fin) (.go 6 [(.br false)] [0] (.bind (f94 a61 a62 a63 a64) fun x0=>(.go 6 [(.ck 4)] [] .fin))))))))))))),by kernel_rfl⟩
theorem f53 (a61:Nat) (a62:List DV) (a63:Nat) (a64:List DV) (v:Int × Int) (h:F53 a61 a62 a63 a64=some v):PQ 53 [(.d (.sl a61 a62)),(.d (.sl a63 a64))] (out53 v):=jn jJ jwH (s:=.c0 a61 a62 a63 a64) rfl (by kernel_rfl) v h
inductive S72 where
 | c0 (a47 a48:Int)
def out72 (v:Int):AV:=(.d (.v (.int .i64 v)))
noncomputable def js8:S72→ASt
 | .c0 a47 a48=>ent cfz 72 [(.agg [(aI a47),(aI a48)])]
noncomputable def B72:S72→Tr S72 (Int)
 | .c0 a47 a48=>(.ask (.in64 (a47 - a48)) (.ret (a47 - a48)))
noncomputable def F72 (a47 a48:Int):Option (Int):=res B72 (.c0 a47 a48)
theorem jy5:∀ s,∃ d,jC cfz 72 d [] (js8 s)=(B72 s).mach js8 out72:=fun s=>match s with
 | .c0 a47 a48=>⟨(.go 15 [] [] .fin),by kernel_rfl⟩
theorem f72 (a47 a48 v:Int) (h:F72 a47 a48=some v):PQ 72 [(.agg [(aI a47),(aI a48)])] (out72 v):=jn jJ jy5 (s:=.c0 a47 a48) rfl (by kernel_rfl) v h
inductive S70 where
 | c0 (a43 a44:Int) (a45:Nat) (a46:List DV)
 | c1 (x50:Nat) (x51:List DV) (x52 y53:Int)
 | c2 (x54:Nat) (x55:List DV) (y56 y57:Nat) (y58:List DV) (x59 y60:Int) (y61:Nat)
def out70 (v:Nat × List DV):AV:=(.d (.sl v.fst v.snd))
noncomputable def jvV:S70→ASt
 | .c0 a43 a44 a45 a46=>ent cfz 70 [(.agg [(aI a43),(aI a44)]),(.d (.sl a45 a46))]
 | .c1 x50 x51 x52 y53=>⟨⟨70,sp 26 0 [(1,(.d (.sl x50 x51))),(5,(.d (.v (.slice .none 0 0)))),(8,(aI x52)),(9,(aI y53))],[(.code (cd cfz.P 70 [1,1,0,1,0,0])),(.inLoop (cd cfz.P 70 [1,1,0,1,0,0])),(.inBlock 0),(.code (cd cfz.P 70 [1,1,1]))],[],false,.none⟩,[],[]⟩
 | .c2 x54 x55 y56 y57 y58 x59 y60 y61=>⟨⟨70,sp 26 0 [(1,(.d (.sl x54 x55))),(5,(.own 1 y56 1 y57 y58)),(8,(aI x59)),(9,(aI y60))],[(.code (cd cfz.P 70 [1,1,0,1,0,0])),(.inLoop (cd cfz.P 70 [1,1,0,1,0,0])),(.inBlock 0),(.code (cd cfz.P 70 [1,1,1]))],[],false,.none⟩,[],[(.tail 0),(.tail y61)]⟩
noncomputable def B70:S70→Tr S70 (Nat × List DV)
 | .c0 a43 a44 a45 a46=>(.bind (F72 a43 a44) fun v49 =>
 (.sees [(.agg [(aI a43),(aI a44)])] (.nxt (.c1 a45 a46 v49 0))))
 | .c1 x50 x51 x52 y53=>(.br (decide (y53<x52))
 (.ask (.neI ((↑x50:Int)) 0) (.ask (.le 0 (y53.tmod (↑x50:Int))) (.ask (.lt (y53.tmod (↑x50:Int)) ((↑x50:Int))) (.ask (.leN ((y53.tmod (↑x50:Int)).toNat*1) x51.length) (.ask (.prop (Option.map AV.d (List.drop ((y53.tmod (↑x50:Int)).toNat*1) x51)[0]? = some (AV.d (DV.v (Value.int IntKind.u8 (dI (cel x51 ((y53.tmod (↑x50:Int)).toNat*1)))))))) (.ask (.in64 (y53+1)) (.nxt (.c2 x50 x51 0 1 [(.v (.int .i64 ((IntKind.i64.wrap (dI (cel x51 ((y53.tmod (↑x50:Int)).toNat*1)))).tmod 17)))] x52 (y53+1) 0))))))))
 (.ret (0,[])))
 | .c2 x54 x55 y56 y57 y58 x59 y60 y61=>(.br (decide (y60<x59))
 (.ask (.neI ((↑x54:Int)) 0) (.ask (.le 0 (y60.tmod (↑x54:Int))) (.ask (.lt (y60.tmod (↑x54:Int)) ((↑x54:Int))) (.ask (.leN ((y60.tmod (↑x54:Int)).toNat*1) x55.length) (.ask (.prop (Option.map AV.d (List.drop ((y60.tmod (↑x54:Int)).toNat*1) x55)[0]? = some (AV.d (DV.v (Value.int IntKind.u8 (dI (cel x55 ((y60.tmod (↑x54:Int)).toNat*1)))))))) (.ask (.eqN y56 y61) (.ask (.fits (y57+1) 8) (.ask (.in64 (y60+1)) (.nxt (.c2 x54 x55 (y61+1) (y57+1) (y58++[DV.v (Value.int IntKind.i64 ((IntKind.i64.wrap (dI (cel x55 ((y60.tmod (↑x54:Int)).toNat*1)))).tmod 17))]) x59 (y60+1) (y61+1)))))))))))
 (.ret (y57,y58)))
noncomputable def F70 (a43 a44:Int) (a45:Nat) (a46:List DV):Option (Nat × List DV):=res B70 (.c0 a43 a44 a45 a46)
theorem jx5:∀ s,∃ d,jC cfz 70 d [] (jvV s)=(B70 s).mach jvV out70:=fun s=>match s with
 | .c0 a43 a44 a45 a46=>⟨(.go 13 [] [] (.bind (f72 a43 a44) fun v49=>(.go 5 [(.ck 0)] [] (.cut 0 [[1,5,8,9]] [])))),by kernel_rfl⟩
 | .c1 x50 x51 x52 y53=>⟨(.go 5 [] [] (.split 10 (.go 30 [(.br true),(.as (a8 (dI (cel x51 ((y53.tmod (↑x50:Int)).toNat*1)))))] [0,6,7,8,9] (.cut 2 [[1,5,8,9]] [])) (.go 8 [(.br false)] [0] .fin))),by kernel_rfl⟩
 | .c2 x54 x55 y56 y57 y58 x59 y60 y61=>⟨(.go 5 [] [] (.split 10 (.go 30 [(.br true),(.as (a8 (dI (cel x55 ((y60.tmod (↑x54:Int)).toNat*1)))))] [0,6,8,9] (.cut 2 [[1,5,8,9]] [])) (.go 8 [(.br false)] [0] .fin))),by kernel_rfl⟩
theorem f70 (a43 a44:Int) (a45:Nat) (a46:List DV) (v:Nat × List DV) (h:F70 a43 a44 a45 a46=some v):PQ 70 [(.agg [(aI a43),(aI a44)]),(.d (.sl a45 a46))] (out70 v):=jn jJ jx5 (s:=.c0 a43 a44 a45 a46) rfl (by kernel_rfl) v h
inductive S9 where
 | c0 (a32 a33:Int) (a34:Nat) (a35:List DV) (a36:Nat) (a37:List DV) (a38 a39:Int)
 | c1 (x63:Nat) (x64:List DV) (x65:Nat) (x66:List DV) (x67:Nat) (x68:List DV) (x69:Nat) (x70:List DV) (x71 x72 y73 x74 x75 x76 x77:Int)
 | c2 (x78:Nat) (x79:List DV) (x80:Nat) (x81:List DV) (x82:Nat) (x83:List DV) (x84:Nat) (x85:List DV) (x86:Int) (y87 y88:Nat) (y89:List DV) (x90 y91 x92 x93 x94 x95:Int) (x0:Nat)
 | c3 (x96:Nat) (x97:List DV) (x98:Nat) (x99:List DV) (x0:Nat) (x1:List DV) (x2 x3 x4 x5 x6 x7 x8:Int)
 | c4 (x0:Nat) (x1:List DV) (x2:Nat) (x3:List DV) (x4:Nat) (x5:List DV) (x6:Int) (x7 x8:Nat) (x9:List DV) (xa xb xc xd xe xf:Int) (xg:Nat)
 | c5 (x0:Nat) (x1:List DV) (x2:Nat) (x3:List DV) (x4:Nat) (x5:List DV) (x6:Int) (x7 x8:Nat) (x9:List DV) (xa xb xc xd xe xf:Int) (xg:Nat)
 | c6 (x0:Nat) (x1 x2 x3 x4 x5 x6 x7:Int) (x8:List AV)
 | c7 (x0:Nat) (x1:List DV) (x2:Nat) (x3:List DV) (x4:Nat) (x5:List DV) (x6:Int) (x7 x8:Nat) (x9:List DV) (xa xb:Nat) (xc:List DV) (xd xe xf xg xh xi:Int) (xj xk:Nat)
def out9 (v:Bool):AV:=(.d (.v (.bool v)))
noncomputable def st9:S9→ASt
 | .c0 a32 a33 a34 a35 a36 a37 a38 a39=>ent cfz 9 [(.agg [(aI a32),(aI a33)]),(.agg [(.d (.sl a34 a35)),(.d (.sl a36 a37))]),(.agg [(.d (.v (.int .u16 a38))),(.d (.v (.int .u16 a39)))])]
 | .c1 x63 x64 x65 x66 x67 x68 x69 x70 x71 x72 y73 x74 x75 x76 x77=>⟨⟨9,sp 306 0 [(3,(.ptr 0 0)),(5,(.ptr 1 0)),(7,(.d (.sl x63 x64))),(8,(.d (.sl x65 x66))),(9,(.d (.sl x67 x68))),(11,(.d (.sl x69 x70))),(19,(aI x71)),(20,(.d (.v (.slice .none 0 0)))),(21,(.d (.v (.slice .none 0 0)))),(181,(aI x72)),(182,(aI y73))],[(.code (cd cfz.P 9 [1,1,1,1,1,1,1,1,1,1,1,1,0,1,0,0])),(.inLoop (cd cfz.P 9 [1,1,1,1,1,1,1,1,1,1,1,1,0,1,0,0])),(.inBlock 0),(.code (cd cfz.P 9 [1,1,1,1,1,1,1,1,1,1,1,1,1]))],[],false,.none⟩,[],[(.cells [(aI x74),(aI x75)] 23),(.cells [(.d (.v (.int .u16 x76))),(.d (.v (.int .u16 x77)))] 99)]⟩
 | .c2 x78 x79 x80 x81 x82 x83 x84 x85 x86 y87 y88 y89 x90 y91 x92 x93 x94 x95 x0=>⟨⟨9,sp 306 0 [(3,(.ptr 0 0)),(5,(.ptr 1 0)),(7,(.d (.sl x78 x79))),(8,(.d (.sl x80 x81))),(9,(.d (.sl x82 x83))),(11,(.d (.sl x84 x85))),(19,(aI x86)),(20,(.own 2 y87 1 y88 y89)),(21,(.d (.v (.slice .none 0 0)))),(181,(aI x90)),(182,(aI y91))],[(.code (cd cfz.P 9 [1,1,1,1,1,1,1,1,1,1,1,1,0,1,0,0])),(.inLoop (cd cfz.P 9 [1,1,1,1,1,1,1,1,1,1,1,1,0,1,0,0])),(.inBlock 0),(.code (cd cfz.P 9 [1,1,1,1,1,1,1,1,1,1,1,1,1]))],[],false,.none⟩,[],[(.cells [(aI x92),(aI x93)] 23),(.cells [(.d (.v (.int .u16 x94))),(.d (.v (.int .u16 x95)))] 99),(.tail x0)]⟩
 | .c3 x96 x97 x98 x99 x0 x1 x2 x3 x4 x5 x6 x7 x8=>⟨⟨9,sp 306 0 [(3,(.ptr 0 0)),(5,(.ptr 1 0)),(7,(.d (.sl x96 x97))),(8,(.d (.sl x98 x99))),(9,(.d (.sl x0 x1))),(19,(aI x2)),(20,(.d (.v (.slice .none 0 0)))),(21,(.d (.v (.slice .none 0 0)))),(202,(aI x3)),(203,(aI x4))],[(.code (cd cfz.P 9 [1,1,1,1,1,1,1,1,1,1,1,1,1,0,1,0,0])),(.inLoop (cd cfz.P 9 [1,1,1,1,1,1,1,1,1,1,1,1,1,0,1,0,0])),(.inBlock 2),(.code (cd cfz.P 9 [1,1,1,1,1,1,1,1,1,1,1,1,1,1]))],[],false,.none⟩,[],[(.cells [(aI x5),(aI x6)] 23),(.cells [(.d (.v (.int .u16 x7))),(.d (.v (.int .u16 x8)))] 99)]⟩
 | .c4 x0 x1 x2 x3 x4 x5 x6 x7 x8 x9 xa xb xc xd xe xf xg=>⟨⟨9,sp 306 0 [(3,(.ptr 0 0)),(5,(.ptr 1 0)),(7,(.d (.sl x0 x1))),(8,(.d (.sl x2 x3))),(9,(.d (.sl x4 x5))),(19,(aI x6)),(20,(.own 2 x7 1 x8 x9)),(21,(.d (.v (.slice .none 0 0)))),(202,(aI xa)),(203,(aI xb))],[(.code (cd cfz.P 9 [1,1,1,1,1,1,1,1,1,1,1,1,1,0,1,0,0])),(.inLoop (cd cfz.P 9 [1,1,1,1,1,1,1,1,1,1,1,1,1,0,1,0,0])),(.inBlock 2),(.code (cd cfz.P 9 [1,1,1,1,1,1,1,1,1,1,1,1,1,1]))],[],false,.none⟩,[],[(.cells [(aI xc),(aI xd)] 23),(.cells [(.d (.v (.int .u16 xe))),(.d (.v (.int .u16 xf)))] 99),(.tail xg)]⟩
 | .c5 x0 x1 x2 x3 x4 x5 x6 x7 x8 x9 xa xb xc xd xe xf xg=>⟨⟨9,sp 306 0 [(3,(.ptr 0 0)),(5,(.ptr 1 0)),(7,(.d (.sl x0 x1))),(8,(.d (.sl x2 x3))),(9,(.d (.sl x4 x5))),(19,(aI x6)),(20,(.d (.v (.slice .none 0 0)))),(21,(.own 2 x7 1 x8 x9)),(202,(aI xa)),(203,(aI xb))],[(.code (cd cfz.P 9 [1,1,1,1,1,1,1,1,1,1,1,1,1,0,1,0,0])),(.inLoop (cd cfz.P 9 [1,1,1,1,1,1,1,1,1,1,1,1,1,0,1,0,0])),(.inBlock 2),(.code (cd cfz.P 9 [1,1,1,1,1,1,1,1,1,1,1,1,1,1]))],[],false,.none⟩,[],[(.cells [(aI xc),(aI xd)] 23),(.cells [(.d (.v (.int .u16 xe))),(.d (.v (.int .u16 xf)))] 99),(.tail xg)]⟩
 | .c6 x0 x1 x2 x3 x4 x5 x6 x7 x8=>⟨⟨9,sp 306 0 [(3,(.ptr 0 0)),(5,(.ptr 1 0)),(28,(.ms 2 0 1 x0 x0)),(29,(aI x1)),(254,(aI x2)),(255,(aI x3))],[(.code (cd cfz.P 9 [1,1,1,1,1,1,1,1,1,1,1,1,1,1,1,1,1,1,1,0,1,0,0])),(.inLoop (cd cfz.P 9 [1,1,1,1,1,1,1,1,1,1,1,1,1,1,1,1,1,1,1,0,1,0,0])),(.inBlock 4),(.code (cd cfz.P 9 [1,1,1,1,1,1,1,1,1,1,1,1,1,1,1,1,1,1,1,1]))],[],false,.none⟩,[],[(.cells [(aI x4),(aI x5)] 23),(.cells [(.d (.v (.int .u16 x6))),(.d (.v (.int .u16 x7)))] 99),(.cells x8 3)]⟩
 | .c7 x0 x1 x2 x3 x4 x5 x6 x7 x8 x9 xa xb xc xd xe xf xg xh xi xj xk=>⟨⟨9,sp 306 0 [(3,(.ptr 0 0)),(5,(.ptr 1 0)),(7,(.d (.sl x0 x1))),(8,(.d (.sl x2 x3))),(9,(.d (.sl x4 x5))),(19,(aI x6)),(20,(.own 2 x7 1 x8 x9)),(21,(.own 3 xa 1 xb xc)),(202,(aI xd)),(203,(aI xe))],[(.code (cd cfz.P 9 [1,1,1,1,1,1,1,1,1,1,1,1,1,0,1,0,0])),(.inLoop (cd cfz.P 9 [1,1,1,1,1,1,1,1,1,1,1,1,1,0,1,0,0])),(.inBlock 2),(.code (cd cfz.P 9 [1,1,1,1,1,1,1,1,1,1,1,1,1,1]))],[],false,.none⟩,[],[(.cells [(aI xf),(aI xg)] 23),(.cells [(.d (.v (.int .u16 xh))),(.d (.v (.int .u16 xi)))] 99),(.tail xj),(.tail xk)]⟩
noncomputable def B9:S9→Tr S9 (Bool)
 | .c0 a32 a33 a34 a35 a36 a37 a38 a39=>(.bind (F28 a32 a33) fun v40 =>
 (.sees [(.agg [(aI a32),(aI a33)])] (.br (v40 != 0)
 (.bind (F15) fun v41 =>
 (.sees [] (.ret v41)))
 (.br (decide (a32>10))
 (.bind (F15) fun v42 =>
 (.sees [] (.ret v42)))
 (.br (decide ((↑a34:Int)<1))
 (.bind (F15) fun v43 =>
 (.sees [] (.ret v43)))
 (.br (decide ((↑a36:Int)<1))
 (.bind (F15) fun v44 =>
 (.sees [] (.ret v44)))
 (.br (decide ((↑a34:Int)>20))
 (.bind (F15) fun v45 =>
 (.sees [] (.ret v45)))
 (.br (decide ((↑a36:Int)>20))
 (.bind (F15) fun v46 =>
 (.sees [] (.ret v46)))
 (.bind (F70 a32 a33 a34 a35) fun v47 =>
 (.bind (F70 a32 a33 a36 a37) fun v48 =>
 (.sees [(.agg [(aI a32),(aI a33)]),(.d (.sl a34 a35))] (.sees [(.agg [(aI a32),(aI a33)]),(.d (.sl a36 a37))] (.bind (F17 v47.fst v47.snd) fun v49 =>
 (.bind (F19 a32 a33 v49.fst v49.snd) fun v50 =>
 (.sees [(.d (.sl v47.fst v47.snd))] (.sees [(.agg [(aI a32),(aI a33)]),(.d (.sl v49.fst v49.snd))] (.bind (F17 v48.fst v48.snd) fun v51 =>
 (.bind (F19 a32 a33 v51.fst v51.snd) fun v52 =>
 (.sees [(.d (.sl v48.fst v48.snd))] (.sees [(.agg [(aI a32),(aI a33)]),(.d (.sl v51.fst v51.snd))] (.triv _ (JG ((v50.snd.snd != 0)==false)) (.triv _ (qc (v50.snd.snd != 0)) (.bind (F21 a32 a33 v50.fst v50.snd.fst) fun v53 =>
 (.sees [(.agg [(aI a32),(aI a33)]),(.d (.sl v50.fst v50.snd.fst))] (.triv _ (JG ((if (v50.snd.snd != 0)=true then true else v52.snd.snd != 0)==false)) (.triv _ (JG ((if (v50.snd.snd != 0)=true then true else v52.snd.snd != 0)==false)) (.triv _ (JG ((if (v50.snd.snd != 0)=true then true else v52.snd.snd != 0)==false)) (.triv _ (qc (if (v50.snd.snd != 0)=true then true else v52.snd.snd != 0)) (.bind (F21 a32 a33 v52.fst v52.snd.fst) fun v54 =>
 (.sees [(.agg [(aI a32),(aI a33)]),(.d (.sl v52.fst v52.snd.fst))] (.triv _ (JG ((if (if (v50.snd.snd != 0)=true then true else v52.snd.snd != 0)=true then true else v53 != 0)==false)) (.triv _ (JG ((if (if (v50.snd.snd != 0)=true then true else v52.snd.snd != 0)=true then true else v53 != 0)==false)) (.triv _ (JG ((if (if (v50.snd.snd != 0)=true then true else v52.snd.snd != 0)=true then true else v53 != 0)==false)) (.triv _ (qc (if (if (v50.snd.snd != 0)=true then true else v52.snd.snd != 0)=true then true else v53 != 0)) (.br (if (if (if (v50.snd.snd != 0)=true then true else v52.snd.snd != 0)=true then true else v53 != 0)=true then true else v54 != 0)
 (.ret false)
 (.ask (.eqB ((if (if (if (v50.snd.snd != 0)=true then true else v52.snd.snd != 0)=true then true else v53 != 0)=true then true else v54 != 0)==false) true) (.ask (.le 0 a33) (.ask (.le a33 ((↑v50.fst:Int))) (.ask (.le ((↑v50.fst:Int)) ((↑v50.fst:Int))) (.ask (.eqN v50.snd.fst.length (v50.fst*1)) (.bind (F30 ((↑v50.fst:Int).toNat - a33.toNat) (List.take (((↑v50.fst:Int).toNat - a33.toNat)*1) (List.drop (a33.toNat*1) v50.snd.fst)) v47.fst v47.snd) fun v55 =>
 (.sees [(.d (.sl ((↑v50.fst:Int).toNat - a33.toNat) (List.take (((↑v50.fst:Int).toNat - a33.toNat)*1) (List.drop (a33.toNat*1) v50.snd.fst)))),(.d (.sl v47.fst v47.snd))] (.br (!v55)
 (.ret false)
 (.bind (F17 v50.fst v50.snd.fst) fun v56 =>
 (.bind (F20 a32 a33 v56.fst v56.snd) fun v57 =>
 (.sees [(.d (.sl v50.fst v50.snd.fst))] (.sees [(.agg [(aI a32),(aI a33)]),(.d (.sl v56.fst v56.snd))] (.bind (F18 a32 a33 v56.fst v56.snd) fun v58 =>
 (.sees [(.d (.sl v50.fst v50.snd.fst))] (.sees [(.agg [(aI a32),(aI a33)]),(.d (.sl v56.fst v56.snd))] (.sees [(.d (.sl v50.fst v50.snd.fst))] (.bind (F17 v52.fst v52.snd.fst) fun v59 =>
 (.sees [(.d (.sl v52.fst v52.snd.fst))] (.bind (F53 v56.fst v56.snd v59.fst v59.snd) fun v60 =>
 (.sees [(.d (.sl v56.fst v56.snd)),(.d (.sl v59.fst v59.snd))] (.triv _ (JG ((v57.snd.snd != 0)==false)) (.triv _ (qc (v57.snd.snd != 0)) (.triv _ (JG ((if (v57.snd.snd != 0)=true then true else v58.snd != 0)==false)) (.triv _ (qc (if (v57.snd.snd != 0)=true then true else v58.snd != 0)) (.triv _ (JG ((if (if (v57.snd.snd != 0)=true then true else v58.snd != 0)=true then true else v60.snd != 0)==false)) (.triv _ (qc (if (if (v57.snd.snd != 0)=true then true else v58.snd != 0)=true then true else v60.snd != 0)) (.bind (F30 v57.fst v57.snd.fst v47.fst v47.snd) fun v61 =>
 (.sees [(.d (.sl v57.fst v57.snd.fst)),(.d (.sl v47.fst v47.snd))] (.triv _ (JG ((if (if (if (v57.snd.snd != 0)=true then true else v58.snd != 0)=true then true else v60.snd != 0)=true then true else !v58.fst)==false)) (.triv _ (JG ((if (if (if (v57.snd.snd != 0)=true then true else v58.snd != 0)=true then true else v60.snd != 0)=true then true else !v58.fst)==false)) (.triv _ (JG ((if (if (if (v57.snd.snd != 0)=true then true else v58.snd != 0)=true then true else v60.snd != 0)=true then true else !v58.fst)==false)) (.triv _ (qc (if (if (if (v57.snd.snd != 0)=true then true else v58.snd != 0)=true then true else v60.snd != 0)=true then true else !v58.fst)) (.bind (F30 v47.fst v47.snd v48.fst v48.snd) fun v62 =>
 (.sees [(.d (.sl v47.fst v47.snd)),(.d (.sl v48.fst v48.snd))] (.triv _ (JG ((if (if (if (if (v57.snd.snd != 0)=true then true else v58.snd != 0)=true then true else v60.snd != 0)=true then true else !v58.fst)=true then true else !v61)==false)) (.triv _ (JG ((if (if (if (if (v57.snd.snd != 0)=true then true else v58.snd != 0)=true then true else v60.snd != 0)=true then true else !v58.fst)=true then true else !v61)==false)) (.triv _ (JG ((if (if (if (if (v57.snd.snd != 0)=true then true else v58.snd != 0)=true then true else v60.snd != 0)=true then true else !v58.fst)=true then true else !v61)==false)) (.triv _ (JG ((if (if (if (if (v57.snd.snd != 0)=true then true else v58.snd != 0)=true then true else v60.snd != 0)=true then true else !v58.fst)=true then true else !v61)==false)) (.triv _ (JG ((if (if (if (if (v57.snd.snd != 0)=true then true else v58.snd != 0)=true then true else v60.snd != 0)=true then true else !v58.fst)=true then true else !v61)==false)) (.triv _ (qc (if (if (if (if (v57.snd.snd != 0)=true then true else v58.snd != 0)=true then true else v60.snd != 0)=true then true else !v58.fst)=true then true else !v61)) (.triv _ (JG ((if (if (if (if (if (v57.snd.snd != 0)=true then true else v58.snd != 0)=true then true else v60.snd != 0)=true then true else !v58.fst)=true then true else !v61)=true then true else !v62==(v60.fst==0))==false)) (.br (if (if (if (if (if (v57.snd.snd != 0)=true then true else v58.snd != 0)=true then true else v60.snd != 0)=true then true else !v58.fst)=true then true else !v61)=true then true else !v62==(v60.fst==0))
 (.ret false)
 (.ask (.eqB ((if (if (if (if (if (v57.snd.snd != 0)=true then true else v58.snd != 0)=true then true else v60.snd != 0)=true then true else !v58.fst)=true then true else !v61)=true then true else !v62==(v60.fst==0))==false) true) (.br (decide (v60.fst>0))
 (.ask (.eqB (decide (v60.fst>0)==true) true) (.br (decide (v60.fst≤a33))
 (.ret false)
 (.ask (.in64 (1+(IntKind.i64.wrap a39).tmod 16)) (.nxt (.c1 v47.fst v47.snd v48.fst v48.snd v50.fst v50.snd.fst v52.fst v52.snd.fst (1+(IntKind.i64.wrap a39).tmod 16) ((↑v50.fst:Int)) 0 a32 a33 a38 a39)))))
 (.ask (.in64 (1+(IntKind.i64.wrap a39).tmod 16)) (.nxt (.c1 v47.fst v47.snd v48.fst v48.snd v50.fst v50.snd.fst v52.fst v52.snd.fst (1+(IntKind.i64.wrap a39).tmod 16) ((↑v50.fst:Int)) 0 a32 a33 a38 a39))))))))))))))))))))))))))))))))))))))))))))))))))))))))))))))))))))))))))))))))))
 | .c1 x63 x64 x65 x66 x67 x68 x69 x70 x71 x72 y73 x74 x75 x76 x77=>(.br (decide (y73<x72))
 (.ask (.le 0 y73) (.ask (.lt y73 ((↑x67:Int))) (.ask (.leN (y73.toNat*1) x68.length) (.ask (.prop (Option.map AV.d (List.drop (y73.toNat*1) x68)[0]? = some (AV.d (DV.v (Value.int IntKind.i64 (dI (cel x68 (y73.toNat*1)))))))) (.ask (.le 0 y73) (.ask (.lt y73 ((↑x69:Int))) (.ask (.leN (y73.toNat*1) x70.length) (.ask (.prop (Option.map AV.d (List.drop (y73.toNat*1) x70)[0]? = some (AV.d (DV.v (Value.int IntKind.i64 (dI (cel x70 (y73.toNat*1)))))))) (.ask (.in64 (x71*dI (cel x70 (y73.toNat*1)))) (.ask (.in64 (dI (cel x68 (y73.toNat*1))+x71*dI (cel x70 (y73.toNat*1)))) (.ask (.in64 (y73+1)) (.nxt (.c2 x63 x64 x65 x66 x67 x68 x69 x70 x71 0 1 [(.v (.int .i64 ((dI (cel x68 (y73.toNat*1))+x71*dI (cel x70 (y73.toNat*1))).tmod 17)))] x72 (y73+1) x74 x75 x76 x77 0)))))))))))))
 (.nxt (.c3 x63 x64 x65 x66 x67 x68 x71 ((↑x63:Int)) 0 x74 x75 x76 x77)))
 | .c2 x78 x79 x80 x81 x82 x83 x84 x85 x86 y87 y88 y89 x90 y91 x92 x93 x94 x95 x0=>(.br (decide (y91<x90))
 (.ask (.le 0 y91) (.ask (.lt y91 ((↑x82:Int))) (.ask (.leN (y91.toNat*1) x83.length) (.ask (.prop (Option.map AV.d (List.drop (y91.toNat*1) x83)[0]? = some (AV.d (DV.v (Value.int IntKind.i64 (dI (cel x83 (y91.toNat*1)))))))) (.ask (.le 0 y91) (.ask (.lt y91 ((↑x84:Int))) (.ask (.leN (y91.toNat*1) x85.length) (.ask (.prop (Option.map AV.d (List.drop (y91.toNat*1) x85)[0]? = some (AV.d (DV.v (Value.int IntKind.i64 (dI (cel x85 (y91.toNat*1)))))))) (.ask (.in64 (x86*dI (cel x85 (y91.toNat*1)))) (.ask (.in64 (dI (cel x83 (y91.toNat*1))+x86*dI (cel x85 (y91.toNat*1)))) (.ask (.eqN y87 x0) (.ask (.fits (y88+1) 8) (.ask (.in64 (y91+1)) (.nxt (.c2 x78 x79 x80 x81 x82 x83 x84 x85 x86 (x0+1) (y88+1) (y89++[DV.v (Value.int IntKind.i64 ((dI (cel x83 (y91.toNat*1))+x86*dI (cel x85 (y91.toNat*1))).tmod 17))]) x90 (y91+1) x92 x93 x94 x95 (x0+1))))))))))))))))
 (.nxt (.c4 x78 x79 x80 x81 x82 x83 x86 y87 y88 y89 ((↑x78:Int)) 0 x92 x93 x94 x95 x0)))
 | .c3 x96 x97 x98 x99 x0 x1 x2 x3 x4 x5 x6 x7 x8=>(.br (decide (x4<x3))
 (.ask (.le 0 x4) (.ask (.lt x4 ((↑x96:Int))) (.ask (.leN (x4.toNat*1) x97.length) (.ask (.prop (Option.map AV.d (List.drop (x4.toNat*1) x97)[0]? = some (AV.d (DV.v (Value.int IntKind.i64 (dI (cel x97 (x4.toNat*1)))))))) (.ask (.le 0 x4) (.ask (.lt x4 ((↑x98:Int))) (.ask (.leN (x4.toNat*1) x99.length) (.ask (.prop (Option.map AV.d (List.drop (x4.toNat*1) x99)[0]? = some (AV.d (DV.v (Value.int IntKind.i64 (dI (cel x99 (x4.toNat*1)))))))) (.ask (.in64 (x2*dI (cel x99 (x4.toNat*1)))) (.ask (.in64 (dI (cel x97 (x4.toNat*1))+x2*dI (cel x99 (x4.toNat*1)))) (.ask (.in64 (x4+1)) (.nxt (.c5 x96 x97 x98 x99 x0 x1 x2 0 1 [(.v (.int .i64 ((dI (cel x97 (x4.toNat*1))+x2*dI (cel x99 (x4.toNat*1))).tmod 17)))] x3 (x4+1) x5 x6 x7 x8 0)))))))))))))
 (.bind (F17 0 []) fun x9 =>
 (.bind (F18 x5 x6 x9.fst x9.snd) fun xa =>
 (.sees [(.d (.sl 0 []))] (.sees [(.agg [(aI x5),(aI x6)]),(.d (.sl x9.fst x9.snd))] (.bind (F19 x5 x6 0 []) fun xb =>
 (.sees [(.agg [(aI x5),(aI x6)]),(.d (.sl 0 []))] (.triv _ (JG ((xa.snd != 0)==false)) (.triv _ (qc (xa.snd != 0)) (.triv _ (JG ((if (xa.snd != 0)=true then true else xb.snd.snd != 0)==false)) (.triv _ (qc (if (xa.snd != 0)=true then true else xb.snd.snd != 0)) (.bind (F30 xb.fst xb.snd.fst 0 []) fun xc =>
 (.sees [(.d (.sl xb.fst xb.snd.fst)),(.d (.sl 0 []))] (.triv _ (JG ((if (if (xa.snd != 0)=true then true else xb.snd.snd != 0)=true then true else !xa.fst)==false)) (.triv _ (JG ((if (if (xa.snd != 0)=true then true else xb.snd.snd != 0)=true then true else !xa.fst)==false)) (.triv _ (JG ((if (if (xa.snd != 0)=true then true else xb.snd.snd != 0)=true then true else !xa.fst)==false)) (.triv _ (qc (if (if (xa.snd != 0)=true then true else xb.snd.snd != 0)=true then true else !xa.fst)) (.br (if (if (if (xa.snd != 0)=true then true else xb.snd.snd != 0)=true then true else !xa.fst)=true then true else !xc)
 (.ret false)
 (.ask (.ltN 0 x0) (.ask (.eqN x1.length (x0*1)) (.ask (.fits x0 8) (.ask (.prop (flatK (ABlk.cells (List.map AV.d x1) 3)=true)) (.ask (.prop (jK 3 (ABlk.cells (List.map AV.d x1) 3)=true)) (.nxt (.c6 x0 0 ((↑x0:Int)) 0 x5 x6 x7 x8 (List.map AV.d x1))))))))))))))))))))))))))
 | .c4 x0 x1 x2 x3 x4 x5 x6 x7 x8 x9 xa xb xc xd xe xf xg=>(.br (decide (xb<xa))
 (.ask (.le 0 xb) (.ask (.lt xb ((↑x0:Int))) (.ask (.leN (xb.toNat*1) x1.length) (.ask (.prop (Option.map AV.d (List.drop (xb.toNat*1) x1)[0]? = some (AV.d (DV.v (Value.int IntKind.i64 (dI (cel x1 (xb.toNat*1)))))))) (.ask (.le 0 xb) (.ask (.lt xb ((↑x2:Int))) (.ask (.leN (xb.toNat*1) x3.length) (.ask (.prop (Option.map AV.d (List.drop (xb.toNat*1) x3)[0]? = some (AV.d (DV.v (Value.int IntKind.i64 (dI (cel x3 (xb.toNat*1)))))))) (.ask (.in64 (x6*dI (cel x3 (xb.toNat*1)))) (.ask (.in64 (dI (cel x1 (xb.toNat*1))+x6*dI (cel x3 (xb.toNat*1)))) (.ask (.in64 (xb+1)) (.nxt (.c7 x0 x1 x2 x3 x4 x5 x6 x7 x8 x9 0 1 [(.v (.int .i64 ((dI (cel x1 (xb.toNat*1))+x6*dI (cel x3 (xb.toNat*1))).tmod 17)))] xa (xb+1) xc xd xe xf xg 0)))))))))))))
 (.bind (F17 x8 x9) fun xh =>
 (.bind (F18 xc xd xh.fst xh.snd) fun xi =>
 (.sees [(.d (.sl x8 x9))] (.sees [(.agg [(aI xc),(aI xd)]),(.d (.sl xh.fst xh.snd))] (.bind (F19 xc xd 0 []) fun xj =>
 (.sees [(.agg [(aI xc),(aI xd)]),(.d (.sl 0 []))] (.triv _ (JG ((xi.snd != 0)==false)) (.triv _ (qc (xi.snd != 0)) (.triv _ (JG ((if (xi.snd != 0)=true then true else xj.snd.snd != 0)==false)) (.triv _ (qc (if (xi.snd != 0)=true then true else xj.snd.snd != 0)) (.br (if (if (xi.snd != 0)=true then true else xj.snd.snd != 0)=true then true else !xi.fst)
 (.ret false)
 (.ask (.eqB ((if (if (xi.snd != 0)=true then true else xj.snd.snd != 0)=true then true else !xi.fst)==false) true) (.bind (F30 xj.fst xj.snd.fst x8 x9) fun xk =>
 (.sees [(.d (.sl xj.fst xj.snd.fst)),(.d (.sl x8 x9))] (.br (!xk)
 (.ret false)
 (.ask (.ltN 0 x4) (.ask (.eqN x5.length (x4*1)) (.ask (.fits x4 8) (.ask (.prop (flatK (ABlk.cells (List.map AV.d x5) 3)=true)) (.ask (.prop (jK 3 (ABlk.cells (List.map AV.d x5) 3)=true)) (.nxt (.c6 x4 0 ((↑x4:Int)) 0 xc xd xe xf (List.map AV.d x5))))))))))))))))))))))))
 | .c5 x0 x1 x2 x3 x4 x5 x6 x7 x8 x9 xa xb xc xd xe xf xg=>(.br (decide (xb<xa))
 (.ask (.le 0 xb) (.ask (.lt xb ((↑x0:Int))) (.ask (.leN (xb.toNat*1) x1.length) (.ask (.prop (Option.map AV.d (List.drop (xb.toNat*1) x1)[0]? = some (AV.d (DV.v (Value.int IntKind.i64 (dI (cel x1 (xb.toNat*1)))))))) (.ask (.le 0 xb) (.ask (.lt xb ((↑x2:Int))) (.ask (.leN (xb.toNat*1) x3.length) (.ask (.prop (Option.map AV.d (List.drop (xb.toNat*1) x3)[0]? = some (AV.d (DV.v (Value.int IntKind.i64 (dI (cel x3 (xb.toNat*1)))))))) (.ask (.in64 (x6*dI (cel x3 (xb.toNat*1)))) (.ask (.in64 (dI (cel x1 (xb.toNat*1))+x6*dI (cel x3 (xb.toNat*1)))) (.ask (.eqN x7 xg) (.ask (.fits (x8+1) 8) (.ask (.in64 (xb+1)) (.nxt (.c5 x0 x1 x2 x3 x4 x5 x6 (xg+1) (x8+1) (x9++[DV.v (Value.int IntKind.i64 ((dI (cel x1 (xb.toNat*1))+x6*dI (cel x3 (xb.toNat*1))).tmod 17))]) xa (xb+1) xc xd xe xf (xg+1))))))))))))))))
 (.bind (F17 0 []) fun xh =>
 (.bind (F18 xc xd xh.fst xh.snd) fun xi =>
 (.sees [(.d (.sl 0 []))] (.sees [(.agg [(aI xc),(aI xd)]),(.d (.sl xh.fst xh.snd))] (.bind (F19 xc xd x8 x9) fun xj =>
 (.sees [(.agg [(aI xc),(aI xd)]),(.d (.sl x8 x9))] (.triv _ (JG ((xi.snd != 0)==false)) (.triv _ (qc (xi.snd != 0)) (.triv _ (JG ((if (xi.snd != 0)=true then true else xj.snd.snd != 0)==false)) (.triv _ (qc (if (xi.snd != 0)=true then true else xj.snd.snd != 0)) (.bind (F30 xj.fst xj.snd.fst 0 []) fun xk =>
 (.sees [(.d (.sl xj.fst xj.snd.fst)),(.d (.sl 0 []))] (.triv _ (JG ((if (if (xi.snd != 0)=true then true else xj.snd.snd != 0)=true then true else !xi.fst)==false)) (.triv _ (JG ((if (if (xi.snd != 0)=true then true else xj.snd.snd != 0)=true then true else !xi.fst)==false)) (.triv _ (JG ((if (if (xi.snd != 0)=true then true else xj.snd.snd != 0)=true then true else !xi.fst)==false)) (.triv _ (qc (if (if (xi.snd != 0)=true then true else xj.snd.snd != 0)=true then true else !xi.fst)) (.br (if (if (if (xi.snd != 0)=true then true else xj.snd.snd != 0)=true then true else !xi.fst)=true then true else !xk)
 (.ret false)
 (.ask (.ltN 0 x4) (.ask (.eqN x5.length (x4*1)) (.ask (.fits x4 8) (.ask (.prop (flatK (ABlk.cells (List.map AV.d x5) 3)=true)) (.ask (.prop (jK 3 (ABlk.cells (List.map AV.d x5) 3)=true)) (.nxt (.c6 x4 0 ((↑x4:Int)) 0 xc xd xe xf (List.map AV.d x5))))))))))))))))))))))))))
 | .c6 x0 x1 x2 x3 x4 x5 x6 x7 x8=>(.br (decide (x3<x2))
 (.ask (.nlt x3 0) (.br (IntKind.u16.wrap (↑(BitVec.ofInt 16 (x6.fdiv (2 ^ min x3.toNat 16)) &&& BitVec.ofInt 16 1).toNat:Int)==1)
 (.ask (.eqB ((IntKind.u16.wrap (↑(BitVec.ofInt 16 (x6.fdiv (2 ^ min x3.toNat 16)) &&& BitVec.ofInt 16 1).toNat:Int)==1)==true) true) (.br (decide (x1<x5))
 (.ask (.le 0 x3) (.ask (.lt x3 ((↑x0:Int))) (.ask (.prop (x8[0+x3.toNat*1]? = some (AV.d (DV.v (Value.int IntKind.i64 (dI (JY x8 (0+x3.toNat*1)))))))) (.ask (.in64 (dI (JY x8 (0+x3.toNat*1))+1)) (.ask (.in64 (IntKind.i64.wrap x7+x3)) (.ask (.in64 (dI (JY x8 (0+x3.toNat*1))+1+(IntKind.i64.wrap x7+x3).tmod 16)) (.ask (.le 0 x3) (.ask (.lt x3 ((↑x0:Int))) (.ask (.leN (0+x3.toNat*1+1) x8.length) (.triv _ (Qr (jv x8 (0+x3.toNat*1) [AV.d (DV.v (Value.int IntKind.i64 ((dI (JY x8 (0+x3.toNat*1))+1+(IntKind.i64.wrap x7+x3).tmod 16).tmod 17)))])) (.ask (.in64 (x1+1)) (.ask (.in64 (x3+1)) (.ask (.prop (jK 3 (ABlk.cells (jv x8 (0+x3.toNat*1) [AV.d (DV.v (Value.int IntKind.i64 ((dI (JY x8 (0+x3.toNat*1))+1+(IntKind.i64.wrap x7+x3).tmod 16).tmod 17)))]) 3)=true)) (.nxt (.c6 x0 (x1+1) x2 (x3+1) x4 x5 x6 x7 (jv x8 (0+x3.toNat*1) [AV.d (DV.v (Value.int IntKind.i64 ((dI (JY x8 (0+x3.toNat*1))+1+(IntKind.i64.wrap x7+x3).tmod 16).tmod 17)))]))))))))))))))))
 (.ask (.in64 (x3+1)) (.ask (.prop (jK 3 (ABlk.cells x8 3)=true)) (.nxt (.c6 x0 x1 x2 (x3+1) x4 x5 x6 x7 x8))))))
 (.ask (.in64 (x3+1)) (.ask (.prop (jK 3 (ABlk.cells x8 3)=true)) (.nxt (.c6 x0 x1 x2 (x3+1) x4 x5 x6 x7 x8))))))
 (.bind (F18 x4 x5 x0 (List.map aD (List.take (x0*1) (List.drop 0 x8)))) fun x9 =>
 (.sees [(.agg [(aI x4),(aI x5)]),(.d (.sl x0 (List.map aD (List.take (x0*1) (List.drop 0 x8)))))] (.ask (.leN (0+x0*1) x8.length) (.ask (.prop (toDs (List.take (x0*1) (List.drop 0 x8))=some (List.map aD (List.take (x0*1) (List.drop 0 x8))))) (.triv _ (JG ((x9.snd==0)==true)) (.triv _ (JG ((x9.snd==0)==true)) (.triv _ (JG ((x9.snd==0)==true)) (.triv _ (jqN (x9.snd==0)) (.bind (F15) fun xa =>
 (.sees [] (.triv _ (jqN (if (x9.snd==0)=true then x9.fst==(x1==0) else false)) (.ret (if (if (x9.snd==0)=true then x9.fst==(x1==0) else false)=true then xa else false))))))))))))))
 | .c7 x0 x1 x2 x3 x4 x5 x6 x7 x8 x9 xa xb xc xd xe xf xg xh xi xj xk=>(.br (decide (xe<xd))
 (.ask (.le 0 xe) (.ask (.lt xe ((↑x0:Int))) (.ask (.leN (xe.toNat*1) x1.length) (.ask (.prop (Option.map AV.d (List.drop (xe.toNat*1) x1)[0]? = some (AV.d (DV.v (Value.int IntKind.i64 (dI (cel x1 (xe.toNat*1)))))))) (.ask (.le 0 xe) (.ask (.lt xe ((↑x2:Int))) (.ask (.leN (xe.toNat*1) x3.length) (.ask (.prop (Option.map AV.d (List.drop (xe.toNat*1) x3)[0]? = some (AV.d (DV.v (Value.int IntKind.i64 (dI (cel x3 (xe.toNat*1)))))))) (.ask (.in64 (x6*dI (cel x3 (xe.toNat*1)))) (.ask (.in64 (dI (cel x1 (xe.toNat*1))+x6*dI (cel x3 (xe.toNat*1)))) (.ask (.eqN xa xk) (.ask (.fits (xb+1) 8) (.ask (.in64 (xe+1)) (.nxt (.c7 x0 x1 x2 x3 x4 x5 x6 x7 x8 x9 (xk+1) (xb+1) (xc++[DV.v (Value.int IntKind.i64 ((dI (cel x1 (xe.toNat*1))+x6*dI (cel x3 (xe.toNat*1))).tmod 17))]) xd (xe+1) xf xg xh xi xj (xk+1))))))))))))))))
 (.bind (F17 x8 x9) fun xl =>
 (.bind (F18 xf xg xl.fst xl.snd) fun xm =>
 (.sees [(.d (.sl x8 x9))] (.sees [(.agg [(aI xf),(aI xg)]),(.d (.sl xl.fst xl.snd))] (.bind (F19 xf xg xb xc) fun xn =>
 (.sees [(.agg [(aI xf),(aI xg)]),(.d (.sl xb xc))] (.triv _ (JG ((xm.snd != 0)==false)) (.triv _ (qc (xm.snd != 0)) (.triv _ (JG ((if (xm.snd != 0)=true then true else xn.snd.snd != 0)==false)) (.triv _ (qc (if (xm.snd != 0)=true then true else xn.snd.snd != 0)) (.br (if (if (xm.snd != 0)=true then true else xn.snd.snd != 0)=true then true else !xm.fst)
 (.ret false)
 (.ask (.eqB ((if (if (xm.snd != 0)=true then true else xn.snd.snd != 0)=true then true else !xm.fst)==false) true) (.bind (F30 xn.fst xn.snd.fst x8 x9) fun xo =>
 (.sees [(.d (.sl xn.fst xn.snd.fst)),(.d (.sl x8 x9))] (.br (!xo)
 (.ret false)
 (.ask (.ltN 0 x4) (.ask (.eqN x5.length (x4*1)) (.ask (.fits x4 8) (.ask (.prop (flatK (ABlk.cells (List.map AV.d x5) 3)=true)) (.ask (.prop (jK 3 (ABlk.cells (List.map AV.d x5) 3)=true)) (.nxt (.c6 x4 0 ((↑x4:Int)) 0 xf xg xh xi (List.map AV.d x5))))))))))))))))))))))))
noncomputable def F9 (a32 a33:Int) (a34:Nat) (a35:List DV) (a36:Nat) (a37:List DV) (a38 a39:Int):Option (Bool):=res B9 (.c0 a32 a33 a34 a35 a36 a37 a38 a39)
theorem aok9:∀ s:S9,s.ctorIdx<3→∃ d,jC cfz 9 d [] (st9 s)=(B9 s).mach st9 out9:=by
 intro s h; cases s with
 | c0 a32 a33 a34 a35 a36 a37 a38 a39=>exact ⟨(.go 11 [] [] (.bind (f28 a32 a33) fun v40=>(.go 3 [(.ck 0)] [] (.split 36 (.go 32 [(.br true),(.br true),(.br true),.none,(.br true),(.br true),(.br true),(.br true),.none,(.br true),(.br true),(.br true),(.br true),.none,(.br true),(.br true),(.br true),(.br true),.none,(.br true),(.br true),(.br true),(.br true),.none,(.br true)] [0,1,2,3,4,5,6,7,8,9,10,11,12,13,14,15,16,17,18,19] (.bind (f15) fun v41=>(.go 4 [(.ck 1)] [] .fin))) (.go 5 [(.br false),(.br false),.none,(.br false)] [0,1,2] (.split 41 (.go 27 [(.br true),(.br true),(.br true),(.br true),.none,(.br true),(.br true),(.br true),(.br true),.none,(.br true),(.br true),(.br true),(.br true),.none,(.br true),(.br true),(.br true),(.br true),.none,(.br true)] [0,1,2,3,4,5,6,7,8,9,10,11,12,13,14,15,16] (.bind (f15) fun v42=>(.go 4 [(.ck 1)] [] .fin))) (.go 6 [(.br false),(.br false),.none,(.br false),(.br false)] [0,1,2,3,4,5] (.split 47 (.go 21 [(.br true),(.br true),(.br true),(.br true),.none,(.br true),(.br true),(.br true),(.br true),.none,(.br true),(.br true),(.br true),(.br true),.none,(.br true)] [0,1,2,3,4,5,6,7,8,9,10,11,12] (.bind (f15) fun v43=>(.go 4 [(.ck 1)] [] .fin))) (.go 6 [(.br false),(.br false),.none,(.br false),(.br false)] [0,1,2,3,4,5] (.split 53 (.go 15 [(.br true),(.br true),(.br true),(.br true),.none,(.br true),(.br true),(.br true),(.br true),.none,(.br true)] [0,1,2,3,4,5,6,7,8] (.bind (f15) fun v44=>(.go 4 [(.ck 1)] [] .fin))) (.go 6 [(.br false),(.br false),.none,(.br false),(.br false)] [0,1,2,3,4,5] (.split 59 (.go 9 [(.br true),(.br true),(.br true),(.br true),.none,(.br true)] [0,1,2,3,4] (.bind (f15) fun v45=>(.go 4 [(.ck 1)] [] .fin))) (.go 6 [(.br false),(.br false),.none,(.br false),(.br false)] [0,1,2,3,4,5] (.split 64 (.go 3 [(.br true)] [0] (.bind (f15) fun v46=>(.go 4 [(.ck 1)] [] .fin))) (.go 4 [(.br false)] [0] (.bind (f70 a32 a33 a34 a35) fun v47=>(.bind (f70 a32 a33 a36 a37) fun v48=>(.go 3 [(.ck 1),(.ck 2)] [0,1,3,4] (.bind (f17 v47.fst v47.snd) fun v49=>(.bind (f19 a32 a33 v49.fst v49.snd) fun v50=>(.go 3 [(.ck 3),(.ck 4)] [] (.bind (f17 v48.fst v48.snd) fun v51=>(.bind (f19 a32 a33 v51.fst v51.snd) fun v52=>(.go 13 [.none,(.ck 5),(.ck 6),(.sp .none),(.sp .none),.mg,(.sp .none),(.sp .none)] [] (.bind (f21 a32 a33 v50.fst v50.snd.fst) fun v53=>(.go 6 [(.sp (.some 7)),(.sp .none),.mg,(.sp .none),(.sp .none)] [] (.bind (f21 a32 a33 v52.fst v52.snd.fst) fun v54=>(.go 5 [(.sp (.some 8)),(.sp .none),.mg,(.sp .none)] [] (.split 106 (.go 14 [(.br true),(.br true),(.br true),(.br true),(.br true),(.br true),.none,(.br true)] [0,1,2,3,4,5,6] .fin) (.go 2 [(.br false),(.br false)] [0,1] (.strip 107 (.go 2 [(.br false),(.br false)] [4,5] (.bind (f30 ((↑v50.fst:Int).toNat - a33.toNat) (List.take (((↑v50.fst:Int).toNat - a33.toNat)*1) (List.drop (a33.toNat*1) v50.snd.fst)) v47.fst v47.snd) fun v55=>(.go 4 [(.br false),(.ck 9),(.br false)] [1,2] (.split 114 (.go 6 [(.br true)] [0] .fin) (.go 4 [(.br false)] [0] (.bind (f17 v50.fst v50.snd.fst) fun v56=>(.bind (f20 a32 a33 v56.fst v56.snd) fun v57=>(.go 3 [(.ck 10),(.ck 11)] [] (.bind (f18 a32 a33 v56.fst v56.snd) fun v58=>(.go 6 [(.ck 10),(.ck 12),(.ck 10)] [] (.bind (f17 v52.fst v52.snd.fst) fun v59=>(.go 1 [(.ck 13)] [] (.bind (f53 v56.fst v56.snd v59.fst v59.snd) fun v60=>(.go 27 [(.ck 14),(.sp .none),(.sp .none),.mg,(.sp .none),(.sp .none),.mg,(.sp .none),(.sp .none),.mg,(.sp .none),(.sp .none)] [] (.bind (f30 v57.fst v57.snd.fst v47.fst v47.snd) fun v61=>(.go 6 [(.sp (.some 15)),(.sp .none),.mg,(.sp .none),(.sp .none)] [] (.bind (f30 v47.fst v47.snd v48.fst v48.snd) fun v62=>(.go 8 [(.sp (.some 16)),(.sp .none),(.sp .none),(.sp .none),.mg,(.sp .none),(.sp .none)] [] (.split 165 (.go 14 [(.br true),(.br false),(.br false),(.br false),(.br false),(.br true),.none,(.br true)] [0,1,2] .fin) (.strip 167 (.go 2 [(.br false),(.sp .none)] [0] (.split 168 (.go 2 [(.br true),(.br true)] [0,1] (.strip 169 (.go 4 [(.br true),(.br false)] [0,1] (.split 174 (.go 6 [(.br true)] [0] .fin) (.go 25 [(.br false)] [0,1,2,3] (.ren 1 2 [] [[3,5,7,8,9,11,19,20,21,181,182]] [1] (.cut 2 [[3,5,7,8,9,11,19,20,21,181,182]] []))))))) (.go 31 [(.br false),(.br false),(.br false),(.br false),.none,.none,(.br false)] [0,1,2,3,4,5,6,7] (.ren 1 2 [] [[3,5,7,8,9,11,19,20,21,181,182]] [1] (.cut 2 [[3,5,7,8,9,11,19,20,21,181,182]] [])))))))))))))))))))))))))))))))))))))))))))))))))))))))),by kernel_rfl⟩
 | c1 x63 x64 x65 x66 x67 x68 x69 x70 x71 x72 y73 x74 x75 x76 x77=>exact ⟨(.go 5 [] [] (.split 183 (.go 17 [(.br true),(.as (aI (dI (cel x68 (y73.toNat*1))))),(.as (aI (dI (cel x70 (y73.toNat*1)))))] [0,11,12,13,14] (.ren 2 16 [] [[3,5,7,8,9,11,19,20,21,181,182]] [] (.cut 3 [[3,5,7,8,9,11,19,20,21,181,182]] []))) (.go 11 [(.br false)] [0] (.cut 2 [[3,5,7,8,9,19,20,21,202,203]] [])))),by kernel_rfl⟩
 | c2 x78 x79 x80 x81 x82 x83 x84 x85 x86 y87 y88 y89 x90 y91 x92 x93 x94 x95 x0=>exact ⟨(.go 5 [] [] (.split 183 (.go 17 [(.br true),(.as (aI (dI (cel x83 (y91.toNat*1))))),(.as (aI (dI (cel x85 (y91.toNat*1)))))] [0,11,13,14] (.cut 3 [[3,5,7,8,9,11,19,20,21,181,182]] [])) (.go 11 [(.br false)] [0] (.cut 3 [[3,5,7,8,9,19,20,21,202,203]] [])))),by kernel_rfl⟩
 | _ => exact absurd h (Nat.not_lt.2 (Nat.le_of_ble_eq_true rfl))
theorem bok9:∀ s:S9,3≤s.ctorIdx∧s.ctorIdx<5→∃ d,jC cfz 9 d [] (st9 s)=(B9 s).mach st9 out9:=by
 intro s h; cases s with
 | c3 x96 x97 x98 x99 x0 x1 x2 x3 x4 x5 x6 x7 x8=>exact ⟨(.go 5 [] [] (.split 204 (.go 17 [(.br true),(.as (aI (dI (cel x97 (x4.toNat*1))))),(.as (aI (dI (cel x99 (x4.toNat*1)))))] [0,11,12,13,14] (.ren 2 16 [] [[3,5,7,8,9,19,20,21,202,203]] [] (.cut 3 [[3,5,7,8,9,19,20,21,202,203]] []))) (.go 4 [(.br false)] [0] (.bind (f17 0 []) fun x9=>(.bind (f18 x5 x6 x9.fst x9.snd) fun xa=>(.go 5 [(.ck 0),(.ck 1)] [] (.bind (f19 x5 x6 0 []) fun xb=>(.go 23 [(.ck 2),(.sp .none),(.sp .none),.mg,(.sp .none),(.sp .none),.mg,(.sp .none),(.sp .none)] [] (.bind (f30 xb.fst xb.snd.fst 0 []) fun xc=>(.go 4 [(.sp (.some 3)),(.sp .none),.mg] [] (.split 250 (.go 6 [(.br true)] [0] .fin) (.go 34 [(.br false),.enter,.mg] [0] (.ren 2 3 [3] [[3,5,28,29,254,255]] [] (.cutP 3 [2] [[3,5,28,29,254,255]] [])))))))))))))),by kernel_rfl⟩
 | c4 x0 x1 x2 x3 x4 x5 x6 x7 x8 x9 xa xb xc xd xe xf xg=>exact ⟨(.go 5 [] [] (.split 204 (.go 17 [(.br true),(.as (aI (dI (cel x1 (xb.toNat*1))))),(.as (aI (dI (cel x3 (xb.toNat*1)))))] [0,11,12,13,14] (.ren 3 17 [] [[3,5,7,8,9,19,20,21,202,203]] [] (.cut 4 [[3,5,7,8,9,19,20,21,202,203]] []))) (.go 4 [(.br false)] [0] (.bind (f17 x8 x9) fun xh=>(.bind (f18 xc xd xh.fst xh.snd) fun xi=>(.go 5 [(.ck 0),(.ck 1)] [] (.bind (f19 xc xd 0 []) fun xj=>(.go 22 [(.ck 2),(.sp .none),(.sp .none),.mg,(.sp .none),(.sp .none),.mg,(.sp .none)] [] (.split 245 (.go 11 [(.br true),(.br true),(.br true),.none,(.br true)] [0,1,2,3] .fin) (.go 1 [(.br false)] [0] (.strip 246 (.bind (f30 xj.fst xj.snd.fst x8 x9) fun xk=>(.go 4 [(.br false),(.ck 3),(.br false)] [1,2] (.split 250 (.go 6 [(.br true)] [0] .fin) (.go 34 [(.br false),.enter,.mg] [0] (.ren 2 4 [4] [[3,5,28,29,254,255]] [] (.cutP 3 [2] [[3,5,28,29,254,255]] []))))))))))))))))),by kernel_rfl⟩
 | _ => first | exact absurd h.1 (Nat.not_le.2 (Nat.le_of_ble_eq_true rfl)) | exact absurd h.2 (Nat.not_lt.2 (Nat.le_of_ble_eq_true rfl))
theorem cok9:∀ s:S9,5≤s.ctorIdx→∃ d,jC cfz 9 d [] (st9 s)=(B9 s).mach st9 out9:=by
 intro s h; cases s with
 | c5 x0 x1 x2 x3 x4 x5 x6 x7 x8 x9 xa xb xc xd xe xf xg=>exact ⟨(.go 5 [] [] (.split 204 (.go 17 [(.br true),(.as (aI (dI (cel x1 (xb.toNat*1))))),(.as (aI (dI (cel x3 (xb.toNat*1)))))] [0,11,13,14] (.cut 3 [[3,5,7,8,9,19,20,21,202,203]] [])) (.go 4 [(.br false)] [0] (.bind (f17 0 []) fun xh=>(.bind (f18 xc xd xh.fst xh.snd) fun xi=>(.go 5 [(.ck 0),(.ck 1)] [] (.bind (f19 xc xd x8 x9) fun xj=>(.go 23 [(.ck 2),(.sp .none),(.sp .none),.mg,(.sp .none),(.sp .none),.mg,(.sp .none),(.sp .none)] [] (.bind (f30 xj.fst xj.snd.fst 0 []) fun xk=>(.go 4 [(.sp (.some 3)),(.sp .none),.mg] [] (.split 250 (.go 6 [(.br true)] [0] .fin) (.go 34 [(.br false),.enter,.mg] [0] (.ren 2 4 [4] [[3,5,28,29,254,255]] [] (.cutP 3 [2] [[3,5,28,29,254,255]] [])))))))))))))),by kernel_rfl⟩
 | c6 x0 x1 x2 x3 x4 x5 x6 x7 x8=>exact ⟨(.go 5 [] [] (.split 256 (.go 19 [(.br true),.none,(.sp .none)] [0,1,2] (.split 264 (.go 2 [(.br true),(.br true)] [0,1] (.strip 265 (.go 3 [(.br true)] [0] (.split 269 (.go 15 [(.br true),(.as (aI (dI (JY x8 (0+x3.toNat*1))))),.none,(.as (.agg (jv x8 (0+x3.toNat*1) [aI ((dI (JY x8 (0+x3.toNat*1))+1+(IntKind.i64.wrap x7+x3).tmod 16).tmod 17)])))] [0,5,6,8,10,13] (.cutP 3 [2] [[3,5,28,29,254,255]] [])) (.go 8 [(.br false)] [0] (.cutP 3 [2] [[3,5,28,29,254,255]] [])))))) (.go 13 [(.br false),(.br false),(.br false),.none,(.br false)] [0,1,2,3] (.cutP 3 [2] [[3,5,28,29,254,255]] [])))) (.go 6 [(.br false)] [0] (.bind (f18 x4 x5 x0 (List.map aD (List.take (x0*1) (List.drop 0 x8)))) fun x9=>(.go 18 [(.cq 0),(.sp .none),(.sp .none),(.sp .none),(.sp .none),.mg] [] (.bind (f15) fun xa=>(.go 5 [(.sp (.some 1)),.mg] [] .fin))))))),by kernel_rfl⟩
 | c7 x0 x1 x2 x3 x4 x5 x6 x7 x8 x9 xa xb xc xd xe xf xg xh xi xj xk=>exact ⟨(.go 5 [] [] (.split 204 (.go 17 [(.br true),(.as (aI (dI (cel x1 (xe.toNat*1))))),(.as (aI (dI (cel x3 (xe.toNat*1)))))] [0,11,13,14] (.cut 4 [[3,5,7,8,9,19,20,21,202,203]] [])) (.go 4 [(.br false)] [0] (.bind (f17 x8 x9) fun xl=>(.bind (f18 xf xg xl.fst xl.snd) fun xm=>(.go 5 [(.ck 0),(.ck 1)] [] (.bind (f19 xf xg xb xc) fun xn=>(.go 22 [(.ck 2),(.sp .none),(.sp .none),.mg,(.sp .none),(.sp .none),.mg,(.sp .none)] [] (.split 245 (.go 11 [(.br true),(.br true),(.br true),.none,(.br true)] [0,1,2,3] .fin) (.go 1 [(.br false)] [0] (.strip 246 (.bind (f30 xn.fst xn.snd.fst x8 x9) fun xo=>(.go 4 [(.br false),(.ck 3),(.br false)] [1,2] (.split 250 (.go 6 [(.br true)] [0] .fin) (.go 34 [(.br false),.enter,.mg] [0] (.ren 2 5 [5] [[3,5,28,29,254,255]] [] (.cutP 3 [2] [[3,5,28,29,254,255]] []))))))))))))))))),by kernel_rfl⟩
 | _ => exact absurd h (Nat.not_le.2 (Nat.le_of_ble_eq_true rfl))
theorem ok9:∀ s,∃ d,jC cfz 9 d [] (st9 s)=(B9 s).mach st9 out9:=fun s=>if h0:s.ctorIdx<3 then aok9 s h0 else if h1:s.ctorIdx<5 then bok9 s ⟨Nat.le_of_not_lt h0,h1⟩ else cok9 s (Nat.le_of_not_lt h1)
theorem f9 (a32 a33:Int) (a34:Nat) (a35:List DV) (a36:Nat) (a37:List DV) (a38 a39:Int) (v:Bool) (h:F9 a32 a33 a34 a35 a36 a37 a38 a39=some v):PQ 9 [(.agg [(aI a32),(aI a33)]),(.agg [(.d (.sl a34 a35)),(.d (.sl a36 a37))]),(.agg [(.d (.v (.int .u16 a38))),(.d (.v (.int .u16 a39)))])] (out9 v):=jn jJ ok9 (s:=.c0 a32 a33 a34 a35 a36 a37 a38 a39) rfl (by kernel_rfl) v h
end Go.Kv
