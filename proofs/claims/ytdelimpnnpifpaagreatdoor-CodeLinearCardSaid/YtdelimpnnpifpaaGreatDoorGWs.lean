import Derived.Test.YtdelimpnnpifpaaGreatDoorKvW
import Derived.Test.YtdelimpnnpifpaaGreatDoorKvZ
import Derived.Test.YtdelimpnnpifpaaGreatDoorKzA
import Derived.Test.YtdelimpnnpifpaaGreatDoorGCk
import Derived.Test.YtdelimpnnpifpaaGreatDoorGAl
set_option linter.all false
namespace Go.Kv
open Go Go.RowKit Go.Proofs
set_option maxRecDepth 100000
noncomputable def cfw:Cfg:={ P:=cfz.P,ex:=false,glob:=cfz.glob }
theorem knilw:KnowOk cfw.P cfw.glob cfw.K:=⟨jan jfJ,by intro j kn h; simp [cfw] at h⟩
inductive S86 where
 | c0 (a0:Nat) (a1:List DV)
def out86 (v:Nat × List DV):AV:=(.d (.sl v.fst v.snd))
noncomputable def jtJ:S86→ASt
 | .c0 a0 a1=>ent cfz 86 [(.d (.sl a0 a1))]
noncomputable def B86:S86→Tr S86 (Nat × List DV)
 | .c0 a0 a1=>(.ask (.ltN 0 a0) (.br (a0.beq 0)
 (.ask (.eqN a0 0) (.ret (0,[])))
 (.ask (.ltN 0 a0) (.ask (.eqN a1.length (a0*1)) (.ask (.fits a0 8) (.ret (a0,a1)))))))
noncomputable def F86 (a0:Nat) (a1:List DV):Option (Nat × List DV):=res B86 (.c0 a0 a1)
theorem jza:∀ s,∃ d,jC cfz 86 d [] (jtJ s)=(B86 s).mach jtJ out86:=fun s=>match s with
 | .c0 a0 a1=>⟨(.go 16 [(.br false)] [1] (.br (a0.beq 0) (.go 4 [(.br false)] [] .fin) (.go 4 [(.br true)] [] .fin))),by kernel_rfl⟩
theorem f86 (a0:Nat) (a1:List DV) (v:Nat × List DV) (h:F86 a0 a1=some v):PQ 86 [(.d (.sl a0 a1))] (out86 v):=jn jJ jza (s:=.c0 a0 a1) rfl (by kernel_rfl) v h
inductive S29 where
 | c0 (a23 a24:Int) (a25:Nat) (a26:List DV)
def out29 (v:Int):AV:=(.d (.v (.int .i64 v)))
noncomputable def jtU:S29→ASt
 | .c0 a23 a24 a25 a26=>ent cfz 29 [(.agg [(aI a23),(aI a24)]),(.d (.sl a25 a26))]
noncomputable def B29:S29→Tr S29 (Int)
 | .c0 a23 a24 a25 a26=>(.bind (F27 a23 a24) fun v45 =>
 (.bind (F83 ((↑a25:Int) != a23) 2) fun v46 =>
 (.bind (F84 a25 a26) fun v70 =>
 (.bind (F82 3 [(.v (.int .i64 v45)),(.v (.int .i64 v46)),(.v (.int .i64 v70))]) fun v71 =>
 (.sees [(.agg [(aI a23),(aI a24)])] (.sees [(.d (.v (.bool ((↑a25:Int) != a23)))),(aI 2)] (.sees [(.d (.sl a25 a26))] (.sees [(.d (.sl 3 [(vI v45),(vI v46),(vI v70)]))] (.ret v71)))))))))
noncomputable def F29 (a23 a24:Int) (a25:Nat) (a26:List DV):Option (Int):=res B29 (.c0 a23 a24 a25 a26)
theorem jxC:∀ s,∃ d,jC cfz 29 d [] (jtU s)=(B29 s).mach jtU out29:=fun s=>match s with
 | .c0 a23 a24 a25 a26=>⟨(.go 7 [] [] (.bind (f27 a23 a24) fun v45=>(.bind (f83 ((↑a25:Int) != a23) 2) fun v46=>(.bind (f84 a25 a26) fun v70=>(.bind (f82 3 [(vI v45),(vI v46),(vI v70)]) fun v71=>(.go 2 [(.ck 0),(.ck 1),(.ck 2),(.ck 3)] [] .fin)))))),by kernel_rfl⟩
theorem f29 (a23 a24:Int) (a25:Nat) (a26:List DV) (v:Int) (h:F29 a23 a24 a25 a26=some v):PQ 29 [(.agg [(aI a23),(aI a24)]),(.d (.sl a25 a26))] (out29 v):=jn jJ jxC (s:=.c0 a23 a24 a25 a26) rfl (by kernel_rfl) v h
inductive S21 where
 | c0 (x0 x1:Int) (x2:Nat) (x3:List DV)
def out21 (v:Int):AV:=(.d (.v (.int .i64 v)))
noncomputable def jrR:S21→ASt
 | .c0 x0 x1 x2 x3=>ent cfz 21 [(.agg [(aI x0),(aI x1)]),(.d (.sl x2 x3))]
noncomputable def B21:S21→Tr S21 (Int)
 | .c0 x0 x1 x2 x3=>(.bind (F28 x0 x1) fun x4 =>
 (.bind (F25 ((↑x2:Int) != x0) 2) fun x5 =>
 (.bind (F78 x2 x3) fun x6 =>
 (.bind (F87 3 [(.v (.int .i64 x4)),(.v (.int .i64 x5)),(.v (.int .i64 x6))]) fun x7 =>
 (.sees [(.agg [(aI x0),(aI x1)])] (.sees [(.d (.v (.bool ((↑x2:Int) != x0)))),(aI 2)] (.sees [(.d (.sl x2 x3))] (.sees [(.d (.sl 3 [(vI x4),(vI x5),(vI x6)]))] (.ret x7)))))))))
noncomputable def F21 (x0 x1:Int) (x2:Nat) (x3:List DV):Option (Int):=res B21 (.c0 x0 x1 x2 x3)
theorem jyj:∀ s,∃ d,jC cfz 21 d [] (jrR s)=(B21 s).mach jrR out21:=fun s=>match s with
 | .c0 x0 x1 x2 x3=>⟨(.go 7 [] [] (.bind (f28 x0 x1) fun x4=>(.bind (f25 ((↑x2:Int) != x0) 2) fun x5=>(.bind (f78 x2 x3) fun x6=>(.bind (f87 3 [(vI x4),(vI x5),(vI x6)]) fun x7=>(.go 2 [(.ck 0),(.ck 1),(.ck 2),(.ck 3)] [] .fin)))))),by kernel_rfl⟩
theorem f21 (x0 x1:Int) (x2:Nat) (x3:List DV) (v:Int) (h:F21 x0 x1 x2 x3=some v):PQ 21 [(.agg [(aI x0),(aI x1)]),(.d (.sl x2 x3))] (out21 v):=jn jJ jyj (s:=.c0 x0 x1 x2 x3) rfl (by kernel_rfl) v h
inductive S30 where
 | c0 (x0:Nat) (x1:List DV) (x2:Nat) (x3:List DV)
 | c1 (x0:Nat) (x1:List DV) (x2:Nat) (x3:List DV) (x4:Int)
def out30 (v:Bool):AV:=(.d (.v (.bool v)))
noncomputable def jtc:S30→ASt
 | .c0 x0 x1 x2 x3=>ent cfz 30 [(.d (.sl x0 x1)),(.d (.sl x2 x3))]
 | .c1 x0 x1 x2 x3 x4=>⟨⟨30,sp 26 0 [(0,(.d (.sl x0 x1))),(1,(.d (.sl x2 x3))),(5,(aI x4))],[(.code (cd cfz.P 30 [1,1,0,1,0,0])),(.inLoop (cd cfz.P 30 [1,1,0,1,0,0])),(.inBlock 0),(.code (cd cfz.P 30 [1,1,1]))],[],false,.none⟩,[],[]⟩
noncomputable def B30:S30→Tr S30 (Bool)
 | .c0 x0 x1 x2 x3=>(.br ((↑x0:Int) != (↑x2:Int))
 (.ret false)
 (.nxt (.c1 x0 x1 x2 x3 0)))
 | .c1 x0 x1 x2 x3 x4=>(.br (decide (x4<(↑x0:Int)))
 (.ask (.le 0 x4) (.ask (.lt x4 ((↑x0:Int))) (.ask (.leN (x4.toNat*1) x1.length) (.ask (.prop (Option.map AV.d (List.drop (x4.toNat*1) x1)[0]? = some (AV.d (DV.v (Value.int IntKind.i64 (dI (cel x1 (x4.toNat*1)))))))) (.ask (.le 0 x4) (.ask (.lt x4 ((↑x2:Int))) (.ask (.leN (x4.toNat*1) x3.length) (.ask (.prop (Option.map AV.d (List.drop (x4.toNat*1) x3)[0]? = some (AV.d (DV.v (Value.int IntKind.i64 (dI (cel x3 (x4.toNat*1)))))))) (.br (dI (cel x1 (x4.toNat*1)) != dI (cel x3 (x4.toNat*1)))
 (.ret false)
 (.ask (.in64 (x4+1)) (.nxt (.c1 x0 x1 x2 x3 (x4+1)))))))))))))
 (.ret true))
noncomputable def F30 (x0:Nat) (x1:List DV) (x2:Nat) (x3:List DV):Option (Bool):=res B30 (.c0 x0 x1 x2 x3)
theorem jwR:∀ s,∃ d,jC cfz 30 d [] (jtc s)=(B30 s).mach jtc out30:=fun s=>match s with
 | .c0 x0 x1 x2 x3=>⟨(.go 13 [] [] (.split 10 (.go 6 [(.br true)] [0] .fin) (.go 9 [(.br false)] [0] (.cut 0 [[0,1,5]] [])))),by kernel_rfl⟩
 | .c1 x0 x1 x2 x3 x4=>⟨(.go 8 [] [] (.split 14 (.go 7 [(.br true),(.as (aI (dI (cel x1 (x4.toNat*1))))),(.as (aI (dI (cel x3 (x4.toNat*1)))))] [0] (.split 25 (.go 6 [(.br true)] [0] .fin) (.go 9 [(.br false)] [0] (.cut 0 [[0,1,5]] [])))) (.go 7 [(.br false)] [0] .fin))),by kernel_rfl⟩
theorem f30 (x0:Nat) (x1:List DV) (x2:Nat) (x3:List DV) (v:Bool) (h:F30 x0 x1 x2 x3=some v):PQ 30 [(.d (.sl x0 x1)),(.d (.sl x2 x3))] (out30 v):=jn jJ jwR (s:=.c0 x0 x1 x2 x3) rfl (by kernel_rfl) v h
inductive S89 where
 | c0 (a37:Int)
def out89 (v:Int):AV:=(.d (.v (.int .i64 v)))
noncomputable def jvg:S89→ASt
 | .c0 a37=>ent cfz 89 [(aI a37)]
noncomputable def B89:S89→Tr S89 (Int)
 | .c0 a37=>(.ask (.in64 (a37.tmod 17+17)) (.ret ((a37.tmod 17+17).tmod 17)))
noncomputable def F89 (a37:Int):Option (Int):=res B89 (.c0 a37)
theorem jxG:∀ s,∃ d,jC cfz 89 d [] (jvg s)=(B89 s).mach jvg out89:=fun s=>match s with
 | .c0 a37=>⟨(.go 13 [] [0,2] .fin),by kernel_rfl⟩
theorem f89 (a37 v:Int) (h:F89 a37=some v):PQ 89 [(aI a37)] (out89 v):=jn jJ jxG (s:=.c0 a37) rfl (by kernel_rfl) v h
inductive S128 where
 | c0 (a36:Int)
inductive S135 where
 | c0 (a54:Int)
def out135 (v:Int):AV:=(.d (.v (.int .i64 v)))
noncomputable def jm9:S135→ASt
 | .c0 a54=>ent cfz 135 [(aI a54)]
noncomputable def jpY:S135→Tr S135 (Int)
 | .c0 a54=>(.bind (jaX 16 [(.v (.int .i64 1)),(.v (.int .i64 3)),(.v (.int .i64 9)),(.v (.int .i64 10)),(.v (.int .i64 13)),(.v (.int .i64 5)),(.v (.int .i64 15)),(.v (.int .i64 11)),(.v (.int .i64 16)),(.v (.int .i64 14)),(.v (.int .i64 8)),(.v (.int .i64 7)),(.v (.int .i64 4)),(.v (.int .i64 12)),(.v (.int .i64 2)),(.v (.int .i64 6))] a54) fun v63 =>
 (.sees [(.d (.sl 16 [(vI 1),(vI 3),(vI 9),(vI 10),(vI 13),(vI 5),(vI 15),(vI 11),(vI 16),(vI 14),(vI 8),(vI 7),(vI 4),(vI 12),(vI 2),(vI 6)])),(aI a54)] (.ask (.in64 (16 - v63)) (.bind (Yt (16 - v63)) fun v64 =>
 (.sees [(aI (16 - v63))] (.ret v64))))))
noncomputable def jm5 (a54:Int):Option (Int):=res jpY (.c0 a54)
theorem jve:∀ s,∃ d,jC cfz 135 d [] (jm9 s)=(jpY s).mach jm9 out135:=fun s=>match s with
 | .c0 a54=>⟨(.go 8 [] [0,1,2,3] (.bind (jta 16 [(vI 1),(vI 3),(vI 9),(vI 10),(vI 13),(vI 5),(vI 15),(vI 11),(vI 16),(vI 14),(vI 8),(vI 7),(vI 4),(vI 12),(vI 2),(vI 6)] a54) fun v63=>(.go 2 [(.ck 0)] [] (.bind (jbe (16 - v63)) fun v64=>(.go 4 [(.ck 1)] [] .fin))))),by kernel_rfl⟩
theorem jyE (a54 v:Int) (h:jm5 a54=some v):PQ 135 [(aI a54)] (out135 v):=jn jJ jve (s:=.c0 a54) rfl (by kernel_rfl) v h
inductive S88 where
 | c0 (a81:Int)
 | c1 (x82 y83 y84:Int)
def out88 (v:Int):AV:=(.d (.v (.int .i64 v)))
noncomputable def jqY:S88→ASt
 | .c0 a81=>ent cfz 88 [(aI a81)]
 | .c1 x82 y83 y84=>⟨⟨88,sp 15 0 [(0,(aI x82)),(3,(aI y83)),(4,(aI y84))],[(.code (cd cfz.P 88 [1,1,0,1,0,0])),(.inLoop (cd cfz.P 88 [1,1,0,1,0,0])),(.inBlock 0),(.code (cd cfz.P 88 [1,1,1]))],[],false,.none⟩,[],[]⟩
noncomputable def B88:S88→Tr S88 (Int)
 | .c0 a81=>(.nxt (.c1 a81 1 0))
 | .c1 x82 y83 y84=>(.br (decide (y84<x82.tmod 16))
 (.ask (.in64 (3*y83)) (.bind (F89 (3*y83)) fun v85 =>
 (.sees [(aI (3*y83))] (.ask (.in64 (y84+1)) (.nxt (.c1 x82 v85 (y84+1)))))))
 (.ret y83))
noncomputable def F88 (a81:Int):Option (Int):=res B88 (.c0 a81)
theorem jyl:∀ s,∃ d,jC cfz 88 d [] (jqY s)=(B88 s).mach jqY out88:=fun s=>match s with
 | .c0 a81=>⟨(.go 15 [] [] (.cut 0 [[0,3,4]] [])),by kernel_rfl⟩
 | .c1 x82 y83 y84=>⟨(.go 8 [] [0] (.split 8 (.go 7 [(.br true)] [0] (.bind (f89 (3*y83)) fun v85=>(.go 10 [(.ck 0)] [] (.cut 0 [[0,3,4]] [])))) (.go 8 [(.br false)] [0] .fin))),by kernel_rfl⟩
theorem f88 (a81 v:Int) (h:F88 a81=some v):PQ 88 [(aI a81)] (out88 v):=jn jJ jyl (s:=.c0 a81) rfl (by kernel_rfl) v h
inductive S23 where
 | c0 (a65 a66:Int) (a67:Nat) (a68:List DV)
 | c1 (x69:Nat) (x70:List DV) (y71 x72 x73:Int)
 | c2 (x74:Nat) (x75:List DV) (x76 y77 y78 x79 x80:Int)
 | c3 (x88:Nat) (x89:List DV) (y90 y91:Nat) (y92:List DV) (y93 x94 x95:Int) (x0:Nat)
 | c4 (x96:Nat) (x97:List DV) (x98 x99:Nat) (x0:List DV) (x1 x2 x3 x4 x5:Int) (x6:Nat)
def out23 (v:Nat × List DV):AV:=(.d (.sl v.fst v.snd))
noncomputable def jtn:S23→ASt
 | .c0 a65 a66 a67 a68=>ent cfz 23 [(.agg [(aI a65),(aI a66)]),(.d (.sl a67 a68))]
 | .c1 x69 x70 y71 x72 x73=>⟨⟨23,sp 38 0 [(1,(.d (.sl x69 x70))),(2,(.ptr 0 0)),(5,(.d (.v (.slice .none 0 0)))),(6,(aI y71))],[(.code (cd cfz.P 23 [1,1,0,1,0,0])),(.inLoop (cd cfz.P 23 [1,1,0,1,0,0])),(.inBlock 0),(.code (cd cfz.P 23 [1,1,1]))],[],false,.none⟩,[],[(.cells [(aI x72),(aI x73)] 23)]⟩
 | .c2 x74 x75 x76 y77 y78 x79 x80=>⟨⟨23,sp 38 0 [(1,(.d (.sl x74 x75))),(2,(.ptr 0 0)),(5,(.d (.v (.slice .none 0 0)))),(6,(aI x76)),(7,(aI y77)),(8,(aI y78))],[(.code (cd cfz.P 23 [1,1,0,1,0,0,1,0,0,1,0,1,0,0])),(.inLoop (cd cfz.P 23 [1,1,0,1,0,0,1,0,0,1,0,1,0,0])),(.inBlock 2),(.code (cd cfz.P 23 [1,1,0,1,0,0,1,0,0,1,1])),(.inBlock 1),(.code (cd cfz.P 23 [1,1,0,1,0,0,1,1])),(.inLoop (cd cfz.P 23 [1,1,0,1,0,0])),(.inBlock 0),(.code (cd cfz.P 23 [1,1,1]))],[],false,.none⟩,[],[(.cells [(aI x79),(aI x80)] 23)]⟩
 | .c3 x88 x89 y90 y91 y92 y93 x94 x95 x0=>⟨⟨23,sp 38 0 [(1,(.d (.sl x88 x89))),(2,(.ptr 0 0)),(5,(.own 2 y90 1 y91 y92)),(6,(aI y93))],[(.code (cd cfz.P 23 [1,1,0,1,0,0])),(.inLoop (cd cfz.P 23 [1,1,0,1,0,0])),(.inBlock 0),(.code (cd cfz.P 23 [1,1,1]))],[],false,.none⟩,[],[(.cells [(aI x94),(aI x95)] 23),(.tail 0),(.tail x0)]⟩
 | .c4 x96 x97 x98 x99 x0 x1 x2 x3 x4 x5 x6=>⟨⟨23,sp 38 0 [(1,(.d (.sl x96 x97))),(2,(.ptr 0 0)),(5,(.own 2 x98 1 x99 x0)),(6,(aI x1)),(7,(aI x2)),(8,(aI x3))],[(.code (cd cfz.P 23 [1,1,0,1,0,0,1,0,0,1,0,1,0,0])),(.inLoop (cd cfz.P 23 [1,1,0,1,0,0,1,0,0,1,0,1,0,0])),(.inBlock 2),(.code (cd cfz.P 23 [1,1,0,1,0,0,1,0,0,1,1])),(.inBlock 1),(.code (cd cfz.P 23 [1,1,0,1,0,0,1,1])),(.inLoop (cd cfz.P 23 [1,1,0,1,0,0])),(.inBlock 0),(.code (cd cfz.P 23 [1,1,1]))],[],false,.none⟩,[],[(.cells [(aI x4),(aI x5)] 23),(.tail 0),(.tail x6)]⟩
noncomputable def B23:S23→Tr S23 (Nat × List DV)
 | .c0 a65 a66 a67 a68=>(.nxt (.c1 a67 a68 1 a65 a66))
 | .c1 x69 x70 y71 x72 x73=>(.br (decide (y71≤x73))
 (.nxt (.c2 x69 x70 y71 0 0 x72 x73))
 (.ret (0,[])))
 | .c2 x74 x75 x76 y77 y78 x79 x80=>(.br (decide (y78<(↑x74:Int)))
 (.bind (F88 (y78*x76)) fun v86 =>
 (.ask (.le 0 y78) (.ask (.lt y78 ((↑x74:Int))) (.ask (.leN (y78.toNat*1) x75.length) (.ask (.prop (Option.map AV.d (List.drop (y78.toNat*1) x75)[0]? = some (AV.d (DV.v (Value.int IntKind.i64 (dI (cel x75 (y78.toNat*1)))))))) (.ask (.in64 (y78*x76)) (.sees [(aI (y78*x76))] (.ask (.in64 (dI (cel x75 (y78.toNat*1))*v86)) (.ask (.in64 (y77+dI (cel x75 (y78.toNat*1))*v86)) (.ask (.in64 (y78+1)) (.nxt (.c2 x74 x75 x76 (y77+dI (cel x75 (y78.toNat*1))*v86) (y78+1) x79 x80))))))))))))
 (.bind (F89 y77) fun v87 =>
 (.sees [(aI y77)] (.ask (.in64 (x76+1)) (.nxt (.c3 x74 x75 0 1 [(.v (.int .i64 v87))] (x76+1) x79 x80 0))))))
 | .c3 x88 x89 y90 y91 y92 y93 x94 x95 x0=>(.br (decide (y93≤x95))
 (.nxt (.c4 x88 x89 y90 y91 y92 y93 0 0 x94 x95 x0))
 (.ret (y91,y92)))
 | .c4 x96 x97 x98 x99 x0 x1 x2 x3 x4 x5 x6=>(.br (decide (x3<(↑x96:Int)))
 (.bind (F88 (x3*x1)) fun x7 =>
 (.ask (.le 0 x3) (.ask (.lt x3 ((↑x96:Int))) (.ask (.leN (x3.toNat*1) x97.length) (.ask (.prop (Option.map AV.d (List.drop (x3.toNat*1) x97)[0]? = some (AV.d (DV.v (Value.int IntKind.i64 (dI (cel x97 (x3.toNat*1)))))))) (.ask (.in64 (x3*x1)) (.sees [(aI (x3*x1))] (.ask (.in64 (dI (cel x97 (x3.toNat*1))*x7)) (.ask (.in64 (x2+dI (cel x97 (x3.toNat*1))*x7)) (.ask (.in64 (x3+1)) (.nxt (.c4 x96 x97 x98 x99 x0 x1 (x2+dI (cel x97 (x3.toNat*1))*x7) (x3+1) x4 x5 x6))))))))))))
 (.bind (F89 x2) fun x8 =>
 (.sees [(aI x2)] (.ask (.eqN x98 x6) (.ask (.fits (x99+1) 8) (.ask (.in64 (x1+1)) (.nxt (.c3 x96 x97 (x6+1) (x99+1) (x0++[DV.v (Value.int IntKind.i64 x8)]) (x1+1) x4 x5 (x6+1)))))))))
noncomputable def F23 (a65 a66:Int) (a67:Nat) (a68:List DV):Option (Nat × List DV):=res B23 (.c0 a65 a66 a67 a68)
theorem jwT:∀ s,∃ d,jC cfz 23 d [] (jtn s)=(B23 s).mach jtn out23:=fun s=>match s with
 | .c0 a65 a66 a67 a68=>⟨(.go 16 [] [] (.cut 1 [[1,2,5,6]] [])),by kernel_rfl⟩
 | .c1 x69 x70 y71 x72 x73=>⟨(.go 8 [] [] (.split 12 (.go 15 [(.br true)] [0] (.cut 1 [[1,2,5,6,7,8]] [])) (.go 8 [(.br false)] [0] .fin))),by kernel_rfl⟩
 | .c2 x74 x75 x76 y77 y78 x79 x80=>⟨(.go 8 [] [] (.split 18 (.go 5 [(.br true)] [0] (.bind (f88 (y78*x76)) fun v86=>(.go 8 [(.as (aI (dI (cel x75 (y78.toNat*1))))),(.ck 0)] [] (.cut 1 [[1,2,5,6,7,8]] [])))) (.go 5 [(.br false)] [0] (.bind (f89 y77) fun v87=>(.go 12 [(.ck 0)] [1,2,3] (.cut 3 [[1,2,5,6]] [])))))),by kernel_rfl⟩
 | .c3 x88 x89 y90 y91 y92 y93 x94 x95 x0=>⟨(.go 8 [] [] (.split 12 (.go 15 [(.br true)] [0] (.cut 3 [[1,2,5,6,7,8]] [])) (.go 8 [(.br false)] [0] .fin))),by kernel_rfl⟩
 | .c4 x96 x97 x98 x99 x0 x1 x2 x3 x4 x5 x6=>⟨(.go 8 [] [] (.split 18 (.go 5 [(.br true)] [0] (.bind (f88 (x3*x1)) fun x7=>(.go 8 [(.as (aI (dI (cel x97 (x3.toNat*1))))),(.ck 0)] [] (.cut 3 [[1,2,5,6,7,8]] [])))) (.go 5 [(.br false)] [0] (.bind (f89 x2) fun x8=>(.go 12 [(.ck 0)] [2,3] (.cut 3 [[1,2,5,6]] [])))))),by kernel_rfl⟩
theorem f23 (a65 a66:Int) (a67:Nat) (a68:List DV) (v:Nat × List DV) (h:F23 a65 a66 a67 a68=some v):PQ 23 [(.agg [(aI a65),(aI a66)]),(.d (.sl a67 a68))] (out23 v):=jn jJ jwT (s:=.c0 a65 a66 a67 a68) rfl (by kernel_rfl) v h
inductive S24 where
 | c0 (x0 x1:Int) (x2:Nat) (x3:List DV)
 | c1 (x0:Nat) (x1:List DV) (x2:Int)
def out24 (v:Bool):AV:=(.d (.v (.bool v)))
noncomputable def jsl:S24→ASt
 | .c0 x0 x1 x2 x3=>ent cfz 24 [(.agg [(aI x0),(aI x1)]),(.d (.sl x2 x3))]
 | .c1 x0 x1 x2=>⟨⟨24,sp 21 0 [(5,(.d (.sl x0 x1))),(6,(aI x2))],[(.code (cd cfz.P 24 [1,1,0,1,0,0])),(.inLoop (cd cfz.P 24 [1,1,0,1,0,0])),(.inBlock 0),(.code (cd cfz.P 24 [1,1,1]))],[],false,.none⟩,[],[]⟩
noncomputable def B24:S24→Tr S24 (Bool)
 | .c0 x0 x1 x2 x3=>(.bind (F23 x0 x1 x2 x3) fun x4 =>
 (.sees [(.agg [(aI x0),(aI x1)]),(.d (.sl x2 x3))] (.nxt (.c1 x4.fst x4.snd 0))))
 | .c1 x0 x1 x2=>(.br (decide (x2<(↑x0:Int)))
 (.ask (.le 0 x2) (.ask (.lt x2 ((↑x0:Int))) (.ask (.leN (x2.toNat*1) x1.length) (.ask (.prop (Option.map AV.d (List.drop (x2.toNat*1) x1)[0]? = some (AV.d (DV.v (Value.int IntKind.i64 (dI (cel x1 (x2.toNat*1)))))))) (.br (dI (cel x1 (x2.toNat*1)) != 0)
 (.ret false)
 (.ask (.in64 (x2+1)) (.nxt (.c1 x0 x1 (x2+1)))))))))
 (.ret true))
noncomputable def F24 (x0 x1:Int) (x2:Nat) (x3:List DV):Option (Bool):=res B24 (.c0 x0 x1 x2 x3)
theorem jxP:∀ s,∃ d,jC cfz 24 d [] (jsl s)=(B24 s).mach jsl out24:=fun s=>match s with
 | .c0 x0 x1 x2 x3=>⟨(.go 9 [] [] (.bind (f23 x0 x1 x2 x3) fun x4=>(.go 10 [(.ck 0)] [] (.cut 0 [[5,6]] [])))),by kernel_rfl⟩
 | .c1 x0 x1 x2=>⟨(.go 8 [] [] (.split 13 (.go 12 [(.br true),(.as (aI (dI (cel x1 (x2.toNat*1)))))] [0] (.split 20 (.go 6 [(.br true)] [0] .fin) (.go 9 [(.br false)] [0] (.cut 0 [[5,6]] [])))) (.go 7 [(.br false)] [0] .fin))),by kernel_rfl⟩
theorem f24 (x0 x1:Int) (x2:Nat) (x3:List DV) (v:Bool) (h:F24 x0 x1 x2 x3=some v):PQ 24 [(.agg [(aI x0),(aI x1)]),(.d (.sl x2 x3))] (out24 v):=jn jJ jxP (s:=.c0 x0 x1 x2 x3) rfl (by kernel_rfl) v h
inductive S16 where
 | c0 (x0 x1:Int) (x2:Nat) (x3:List DV)
inductive S18 where
 | c0 (x0 x1:Int) (x2:Nat) (x3:List DV)
def out18 (v:Bool × Int):AV:=(.tup [(.d (.v (.bool v.fst))),(.d (.v (.int .i64 v.snd)))])
noncomputable def jt9:S18→ASt
 | .c0 x0 x1 x2 x3=>ent cfz 18 [(.agg [(aI x0),(aI x1)]),(.d (.sl x2 x3))]
noncomputable def B18:S18→Tr S18 (Bool × Int)
 | .c0 x0 x1 x2 x3=>(.bind (F29 x0 x1 x2 x3) fun x4 =>
 (.sees [(.agg [(aI x0),(aI x1)]),(.d (.sl x2 x3))] (.br (x4 != 0)
 (.ret (false,x4))
 (.bind (F81 x0 x1 x2 x3) fun x5 =>
 (.sees [(.agg [(aI x0),(aI x1)]),(.d (.sl x2 x3))] (.ret (x5,0)))))))
noncomputable def F18 (x0 x1:Int) (x2:Nat) (x3:List DV):Option (Bool × Int):=res B18 (.c0 x0 x1 x2 x3)
theorem jxH:∀ s,∃ d,jC cfz 18 d [] (jt9 s)=(B18 s).mach jt9 out18:=fun s=>match s with
 | .c0 x0 x1 x2 x3=>⟨(.go 11 [] [] (.bind (f29 x0 x1 x2 x3) fun x4=>(.go 8 [(.ck 0)] [] (.split 11 (.go 8 [(.br true)] [0] .fin) (.go 6 [(.br false)] [0] (.bind (f81 x0 x1 x2 x3) fun x5=>(.go 5 [(.ck 1)] [] .fin))))))),by kernel_rfl⟩
theorem f18 (x0 x1:Int) (x2:Nat) (x3:List DV) (v:Bool × Int) (h:F18 x0 x1 x2 x3=some v):PQ 18 [(.agg [(aI x0),(aI x1)]),(.d (.sl x2 x3))] (out18 v):=jn jJ jxH (s:=.c0 x0 x1 x2 x3) rfl (by kernel_rfl) v h
inductive S20 where
 | c0 (x0 x1:Int) (x2:Nat) (x3:List DV)
def out20 (v:Nat × List DV × Int):AV:=(.tup [(.d (.sl v.fst v.snd.fst)),(.d (.v (.int .i64 v.snd.snd)))])
noncomputable def jvH:S20→ASt
 | .c0 x0 x1 x2 x3=>ent cfz 20 [(.agg [(aI x0),(aI x1)]),(.d (.sl x2 x3))]
noncomputable def B20:S20→Tr S20 (Nat × List DV × Int)
 | .c0 x0 x1 x2 x3=>(.bind (F29 x0 x1 x2 x3) fun x4 =>
 (.sees [(.agg [(aI x0),(aI x1)]),(.d (.sl x2 x3))] (.br (x4 != 0)
 (.ret (0,[],x4))
 (.bind (F81 x0 x1 x2 x3) fun x5 =>
 (.sees [(.agg [(aI x0),(aI x1)]),(.d (.sl x2 x3))] (.br (!x5)
 (.ret (0,[],27))
 (.ask (.le 0 x1) (.ask (.le x1 ((↑x2:Int))) (.ask (.le ((↑x2:Int)) ((↑x2:Int))) (.ask (.eqN x3.length (x2*1)) (.bind (F86 ((↑x2:Int).toNat - x1.toNat) (List.take (((↑x2:Int).toNat - x1.toNat)*1) (List.drop (x1.toNat*1) x3))) fun x6 =>
 (.sees [(.d (.sl ((↑x2:Int).toNat - x1.toNat) (List.take (((↑x2:Int).toNat - x1.toNat)*1) (List.drop (x1.toNat*1) x3))))] (.ret (x6.fst,x6.snd,0))))))))))))))
noncomputable def F20 (x0 x1:Int) (x2:Nat) (x3:List DV):Option (Nat × List DV × Int):=res B20 (.c0 x0 x1 x2 x3)
theorem jxb:∀ s,∃ d,jC cfz 20 d [] (jvH s)=(B20 s).mach jvH out20:=fun s=>match s with
 | .c0 x0 x1 x2 x3=>⟨(.go 11 [] [] (.bind (f29 x0 x1 x2 x3) fun x4=>(.go 8 [(.ck 0)] [] (.split 11 (.go 8 [(.br true)] [0] .fin) (.go 7 [(.br false)] [0] (.bind (f81 x0 x1 x2 x3) fun x5=>(.go 3 [(.ck 1)] [] (.split 16 (.go 7 [(.br true)] [0] .fin) (.go 8 [(.br false)] [0] (.bind (f86 ((↑x2:Int).toNat - x1.toNat) (List.take (((↑x2:Int).toNat - x1.toNat)*1) (List.drop (x1.toNat*1) x3))) fun x6=>(.go 5 [(.ck 2)] [] .fin))))))))))),by kernel_rfl⟩
theorem f20 (x0 x1:Int) (x2:Nat) (x3:List DV) (v:Nat × List DV × Int) (h:F20 x0 x1 x2 x3=some v):PQ 20 [(.agg [(aI x0),(aI x1)]),(.d (.sl x2 x3))] (out20 v):=jn jJ jxb (s:=.c0 x0 x1 x2 x3) rfl (by kernel_rfl) v h
inductive S22 where
 | c0 (a33 a34:Int) (a35:Nat) (a36:List DV)
def out22 (v:Int):AV:=(.d (.v (.int .i64 v)))
noncomputable def jma:S22→ASt
 | .c0 a33 a34 a35 a36=>ent cfw 22 [(.agg [(aI a33),(aI a34)]),(.d (.sl a35 a36))]
noncomputable def B22:S22→Tr S22 (Int)
 | .c0 a33 a34 a35 a36=>(.bind (F28 a33 a34) fun v37 =>
 (.bind (F25 ((↑a35:Int) != IntKind.i64.wrap (a33 - a34)) 2) fun v38 =>
 (.bind (F78 a35 a36) fun v39 =>
 (.bind (F87 3 [(.v (.int .i64 v37)),(.v (.int .i64 v38)),(.v (.int .i64 v39))]) fun v40 =>
 (.sees [(.agg [(aI a33),(aI a34)])] (.sees [(.d (.v (.bool ((↑a35:Int) != IntKind.i64.wrap (a33 - a34))))),(aI 2)] (.sees [(.d (.sl a35 a36))] (.sees [(.d (.sl 3 [(vI v37),(vI v38),(vI v39)]))] (.ret v40)))))))))
noncomputable def F22 (a33 a34:Int) (a35:Nat) (a36:List DV):Option (Int):=res B22 (.c0 a33 a34 a35 a36)
noncomputable def juz (a33 a34:Int) (a35:Nat) (a36:List DV):DT cfw:=(.go 7 [] [] (.bind (f28 a33 a34) fun v37=>(.bind (f25 ((↑a35:Int) != IntKind.i64.wrap (a33 - a34)) 2) fun v38=>(.bind (f78 a35 a36) fun v39=>(.bind (f87 3 [(vI v37),(vI v38),(vI v39)]) fun v40=>(.go 2 [(.ck 0),(.ck 1),(.ck 2),(.ck 3)] [] .fin))))))
theorem jtF (a33 a34:Int) (a35:Nat) (a36:List DV):jC cfw 22 (juz a33 a34 a35 a36) [] (jma (.c0 a33 a34 a35 a36))=(B22 (.c0 a33 a34 a35 a36)).mach jma out22:=by kernel_rfl
theorem jwJ:∀ s,∃ d,jC cfw 22 d [] (jma s)=(B22 s).mach jma out22
 | .c0 a33 a34 a35 a36=>⟨_,jtF a33 a34 a35 a36⟩
theorem f22 (a33 a34:Int) (a35:Nat) (a36:List DV) (v:Int) (h:F22 a33 a34 a35 a36=some v):PureCalls cfw.P cfw.glob 22 [(.agg [(aI a33),(aI a34)]),(.d (.sl a35 a36))] (out22 v):=jn knilw jwJ (s:=.c0 a33 a34 a35 a36) rfl (by kernel_rfl) v h
end Go.Kv
