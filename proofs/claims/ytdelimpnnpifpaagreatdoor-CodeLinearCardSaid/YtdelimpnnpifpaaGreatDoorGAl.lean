import Derived.Test.YtdelimpnnpifpaaGreatDoorKvW
import Derived.Test.YtdelimpnnpifpaaGreatDoorKvZ
import Derived.Test.YtdelimpnnpifpaaGreatDoorKzA
import Derived.Test.YtdelimpnnpifpaaGreatDoorGIs
import Derived.Test.YtdelimpnnpifpaaGreatDoorKaB
set_option linter.all false
namespace Go.Kv
open Go Go.RowKit Go.Proofs
set_option maxRecDepth 100000
theorem jxa:PQ 123 [(aI 0)] (aI 1):=cq (.run 1 [] <| .run 1 [] <| .run 1 [] <| .run 1 [] <| .run 1 [] <| .run 1 [] <| .run 1 [] <| .run 1 [] <| .run 1 [] <| .run 1 [.none] <| .run 1 [] <| .run 1 [] <| .run 1 [] <| .fin) []
noncomputable def qq:Option Unit:=some ()
def jdJ (_:Unit):AV:=(aI 1)
theorem jac (v:Unit) (_:qq=some v):PQ 123 [(aI 0)] (jdJ v):=jxa
theorem jx0:PQ 122 [(aI 0)] (aI 0):=cq (.run 1 [] <| .run 1 [] <| .run 1 [] <| .run 1 [] <| .run 1 [] <| .run 1 [] <| .run 1 [] <| .run 1 [] <| .run 1 [] <| .run 1 [] <| .run 1 [] <| .run 1 [] <| .run 1 [] <| .fin) []
noncomputable def qB:Option Unit:=some ()
def jbZ (_:Unit):AV:=(aI 0)
theorem GM (v:Unit) (_:qB=some v):PQ 122 [(aI 0)] (jbZ v):=jx0
theorem jxg:PQ 123 [(aI 1)] (aI 3):=cq (.run 1 [] <| .run 1 [] <| .run 1 [] <| .run 1 [] <| .run 1 [] <| .run 1 [] <| .run 1 [] <| .run 1 [] <| .run 1 [] <| .run 1 [.none] <| .run 1 [] <| .run 1 [] <| .run 1 [] <| .fin) []
noncomputable def qv:Option Unit:=some ()
def jcu (_:Unit):AV:=(aI 3)
theorem jai (v:Unit) (_:qv=some v):PQ 123 [(aI 1)] (jcu v):=jxg
theorem jyW:PQ 123 [(aI 2)] (aI 9):=cq (.run 1 [] <| .run 1 [] <| .run 1 [] <| .run 1 [] <| .run 1 [] <| .run 1 [] <| .run 1 [] <| .run 1 [] <| .run 1 [] <| .run 1 [.none] <| .run 1 [] <| .run 1 [] <| .run 1 [] <| .fin) []
noncomputable def qm:Option Unit:=some ()
def jb7 (_:Unit):AV:=(aI 9)
theorem jal (v:Unit) (_:qm=some v):PQ 123 [(aI 2)] (jb7 v):=jyW
theorem jwY:PQ 123 [(aI 3)] (aI 10):=cq (.run 1 [] <| .run 1 [] <| .run 1 [] <| .run 1 [] <| .run 1 [] <| .run 1 [] <| .run 1 [] <| .run 1 [] <| .run 1 [] <| .run 1 [.none] <| .run 1 [] <| .run 1 [] <| .run 1 [] <| .fin) []
noncomputable def qJ:Option Unit:=some ()
def jdC (_:Unit):AV:=(aI 10)
theorem jag (v:Unit) (_:qJ=some v):PQ 123 [(aI 3)] (jdC v):=jwY
theorem jx4:PQ 123 [(aI 4)] (aI 13):=cq (.run 1 [] <| .run 1 [] <| .run 1 [] <| .run 1 [] <| .run 1 [] <| .run 1 [] <| .run 1 [] <| .run 1 [] <| .run 1 [] <| .run 1 [.none] <| .run 1 [] <| .run 1 [] <| .run 1 [] <| .fin) []
noncomputable def qu:Option Unit:=some ()
def jcz (_:Unit):AV:=(aI 13)
theorem jay (v:Unit) (_:qu=some v):PQ 123 [(aI 4)] (jcz v):=jx4
theorem jyi:PQ 123 [(aI 6)] (aI 15):=cq (.run 1 [] <| .run 1 [] <| .run 1 [] <| .run 1 [] <| .run 1 [] <| .run 1 [] <| .run 1 [] <| .run 1 [] <| .run 1 [] <| .run 1 [.none] <| .run 1 [] <| .run 1 [] <| .run 1 [] <| .fin) []
noncomputable def qt:Option Unit:=some ()
def jct (_:Unit):AV:=(aI 15)
theorem jam (v:Unit) (_:qt=some v):PQ 123 [(aI 6)] (jct v):=jyi
theorem jxD:PQ 146 [(.d (.sl 16 [(vI 1),(vI 3),(vI 9),(vI 10),(vI 13),(vI 5),(vI 15),(vI 11),(vI 16),(vI 14),(vI 8),(vI 7),(vI 4),(vI 12),(vI 2),(vI 6)])),(aI 1)] (aI 0):=cq (.run 1 [] <| .run 1 [] <| .run 1 [] <| .run 1 [] <| .run 1 [] <| .run 1 [] <| .run 1 [] <| .run 1 [] <| .run 1 [] <| .run 1 [] <| .run 1 [] <| .run 1 [] <| .run 1 [] <| .run 1 [] <| .run 1 [] <| .run 1 [] <| .run 1 [] <| .run 1 [] <| .run 1 [] <| .run 1 [] <| .run 1 [] <| .run 1 [] <| .run 1 [] <| .run 1 [] <| .run 1 [] <| .run 1 [] <| .run 1 [] <| .run 1 [] <| .run 1 [] <| .run 1 [] <| .run 1 [] <| .run 1 [] <| .run 1 [] <| .run 1 [.none] <| .run 1 [] <| .run 1 [] <| .run 1 [] <| .run 1 [] <| .run 1 [] <| .run 1 [] <| .run 1 [] <| .run 1 [] <| .run 1 [] <| .fin) []
theorem jw2:PQ 123 [(aI 16)] (aI 1):=cq (.run 1 [] <| .run 1 [] <| .run 1 [] <| .run 1 [] <| .run 1 [] <| .run 1 [] <| .run 1 [] <| .run 1 [] <| .run 1 [] <| .run 1 [.none] <| .run 1 [] <| .run 1 [] <| .run 1 [] <| .fin) []
theorem jyO:PQ 135 [(aI 1)] (aI 1):=cq (.run 1 [] <| .run 1 [] <| .run 1 [] <| .run 1 [] <| .run 1 [] <| .run 1 [] <| .run 1 [] <| .run 1 [] <| .use jxD <| .run 1 [(.ck 0)] <| .run 1 [] <| .use jw2 <| .run 1 [(.ck 1)] <| .run 1 [] <| .run 1 [] <| .run 1 [] <| .fin) [.eqA [(.d (.sl 16 [(vI 1),(vI 3),(vI 9),(vI 10),(vI 13),(vI 5),(vI 15),(vI 11),(vI 16),(vI 14),(vI 8),(vI 7),(vI 4),(vI 12),(vI 2),(vI 6)])),(aI 1)] [(.d (.sl 16 [(vI 1),(vI 3),(vI 9),(vI 10),(vI 13),(vI 5),(vI 15),(vI 11),(vI 16),(vI 14),(vI 8),(vI 7),(vI 4),(vI 12),(vI 2),(vI 6)])),(aI 1)],.eqA [(aI 16)] [(aI 16)]]
noncomputable def qx:Option Unit:=some ()
def jb2 (_:Unit):AV:=(aI 1)
theorem jaQ (v:Unit) (_:qx=some v):PQ 135 [(aI 1)] (jb2 v):=jyO
inductive S122_1 where
 | c0 (a9:Int)
def out122_1 (v:Int):AV:=(aI v)
noncomputable def jfL:S122_1→ASt
 | .c0 a9=>ent cfz 122 [(aI a9)]
noncomputable def jd8:S122_1→Tr S122_1 (Int)
 | .c0 a9=>(.ask (.in64 (a9.tmod 17+17)) (.ret ((a9.tmod 17+17).tmod 17)))
noncomputable def jx (a9:Int):Option (Int):=res jd8 (.c0 a9)
theorem jl6:∀ s,∃ d,jC cfz 122 d [] (jfL s)=(jd8 s).mach jfL out122_1:=fun s=>match s with
 | .c0 a9=>⟨(.go 13 [] [0,2] .fin),by kernel_rfl⟩
theorem jU (a9 v:Int) (h:jx a9=some v):PQ 122 [(aI a9)] (out122_1 v):=jn jJ jl6 (s:=.c0 a9) rfl (by kernel_rfl) v h
inductive S146 where
 | c0 (a27:Nat) (a28:List DV) (a29:Int)
 | c1 (x30:Nat) (x31:List DV) (x32 x33 y34:Int)
def out146 (v:Int):AV:=(aI v)
noncomputable def jnQ:S146→ASt
 | .c0 a27 a28 a29=>ent cfz 146 [(.d (.sl a27 a28)),(aI a29)]
 | .c1 x30 x31 x32 x33 y34=>⟨⟨146,sp 19 0 [(0,(.d (.sl x30 x31))),(1,(aI x32)),(7,(aI x33)),(8,(aI y34))],[(.code (cd cfz.P 146 [1,0,1,0,0])),(.inLoop (cd cfz.P 146 [1,0,1,0,0])),(.inBlock 0),(.code (cd cfz.P 146 [1,1]))],[],false,.none⟩,[],[]⟩
noncomputable def Gp:S146→Tr S146 (Int)
 | .c0 a27 a28 a29=>(.nxt (.c1 a27 a28 a29 ((↑a27:Int)) 0))
 | .c1 x30 x31 x32 x33 y34=>(.br (decide (y34<x33))
 (.ask (.le 0 y34) (.ask (.lt y34 ((↑x30:Int))) (.ask (.leN (y34.toNat*1) x31.length) (.ask (.prop (Option.map AV.d (List.drop (y34.toNat*1) x31)[0]? = some (AV.d (vI (dI (cel x31 (y34.toNat*1))))))) (.br (x32==dI (cel x31 (y34.toNat*1)))
 (.ret y34)
 (.ask (.in64 (y34+1)) (.nxt (.c1 x30 x31 x32 x33 (y34+1)))))))))
 (.ret (-1)))
noncomputable def jaX (a27:Nat) (a28:List DV) (a29:Int):Option (Int):=res Gp (.c0 a27 a28 a29)
theorem juC:∀ s,∃ d,jC cfz 146 d [] (jnQ s)=(Gp s).mach jnQ out146:=fun s=>match s with
 | .c0 a27 a28 a29=>⟨(.go 13 [] [] (.cut 0 [[0,1,7,8]] [])),by kernel_rfl⟩
 | .c1 x30 x31 x32 x33 y34=>⟨(.go 5 [] [] (.split 9 (.go 18 [(.br true),(.as (aI (dI (cel x31 (y34.toNat*1)))))] [0] (.split 16 (.go 7 [(.br true)] [0] .fin) (.go 8 [(.br false)] [0] (.cut 0 [[0,1,7,8]] [])))) (.go 7 [(.br false)] [0] .fin))),by kernel_rfl⟩
theorem jta (a27:Nat) (a28:List DV) (a29 v:Int) (h:jaX a27 a28 a29=some v):PQ 146 [(.d (.sl a27 a28)),(aI a29)] (out146 v):=jn jJ juC (s:=.c0 a27 a28 a29) rfl (by kernel_rfl) v h
inductive S123_6 where
 | c0 (a36:Int)
def out123_6 (v:Int):AV:=(aI v)
noncomputable def jfv:S123_6→ASt
 | .c0 a36=>ent cfz 123 [(aI a36)]
noncomputable def jdM:S123_6→Tr S123_6 (Int)
 | .c0 a36=>(.ask (.le 0 (a36.tmod 16)) (.ask (.lt (a36.tmod 16) 16) (.ask (.leN ((a36.tmod 16).toNat*1) 16) (.ask (.prop (Option.map AV.d (List.drop ((a36.tmod 16).toNat*1) gl0)[0]? = some (AV.d (vI (dI (cel gl0 ((a36.tmod 16).toNat*1))))))) (.ret (dI (cel gl0 ((a36.tmod 16).toNat*1))))))))
noncomputable def jaU (a36:Int):Option (Int):=res jdM (.c0 a36)
theorem jmk:∀ s,∃ d,jC cfz 123 d [] (jfv s)=(jdM s).mach jfv out123_6:=fun s=>match s with
 | .c0 a36=>⟨(.go 13 [(.as (aI (dI (cel gl0 ((a36.tmod 16).toNat*1)))))] [0] .fin),by kernel_rfl⟩
theorem jqb (a36 v:Int) (h:jaU a36=some v):PQ 123 [(aI a36)] (out123_6 v):=jn jJ jmk (s:=.c0 a36) rfl (by kernel_rfl) v h
inductive S135_1 where
 | c0 (a26:Int)
def out135_1 (v:Int):AV:=(aI v)
noncomputable def jfw:S135_1→ASt
 | .c0 a26=>ent cfz 135 [(aI a26)]
noncomputable def jdR:S135_1→Tr S135_1 (Int)
 | .c0 a26=>(.bind (jaX 16 [(vI 1),(vI 3),(vI 9),(vI 10),(vI 13),(vI 5),(vI 15),(vI 11),(vI 16),(vI 14),(vI 8),(vI 7),(vI 4),(vI 12),(vI 2),(vI 6)] a26) fun v35 =>
 (.sees [(.d (.sl 16 [(vI 1),(vI 3),(vI 9),(vI 10),(vI 13),(vI 5),(vI 15),(vI 11),(vI 16),(vI 14),(vI 8),(vI 7),(vI 4),(vI 12),(vI 2),(vI 6)])),(aI a26)] (.ask (.in64 (16 - v35)) (.bind (jaU (16 - v35)) fun v37 =>
 (.sees [(aI (16 - v35))] (.ret v37))))))
noncomputable def Ga (a26:Int):Option (Int):=res jdR (.c0 a26)
theorem jm0:∀ s,∃ d,jC cfz 135 d [] (jfw s)=(jdR s).mach jfw out135_1:=fun s=>match s with
 | .c0 a26=>⟨(.go 8 [] [0,1,2,3] (.bind (jta 16 [(vI 1),(vI 3),(vI 9),(vI 10),(vI 13),(vI 5),(vI 15),(vI 11),(vI 16),(vI 14),(vI 8),(vI 7),(vI 4),(vI 12),(vI 2),(vI 6)] a26) fun v35=>(.go 2 [(.ck 0)] [] (.bind (jqb (16 - v35)) fun v37=>(.go 4 [(.ck 1)] [] .fin))))),by kernel_rfl⟩
theorem ji6 (a26 v:Int) (h:Ga a26=some v):PQ 135 [(aI a26)] (out135_1 v):=jn jJ jm0 (s:=.c0 a26) rfl (by kernel_rfl) v h
inductive S140 where
 | c0 (a58:Nat)
def out140 (v:Int):AV:=(aI v)
noncomputable def jnp:S140→ASt
 | .c0 a58=>ent cfz 140 [(.d (.v (.float .f32 a58)))]
noncomputable def jl9:S140→Tr S140 (Int)
 | .c0 a58=>(.ask (.eqB (fok BinOp.mul FloatKind.f32 1098907648 a58) true) (.ask (.eqB (jeN FloatKind.f32 (jgb BinOp.mul FloatKind.f32 1098907648 a58) IntKind.i64) true) (.ret (jii FloatKind.f32 (jgb BinOp.mul FloatKind.f32 1098907648 a58) IntKind.i64))))
noncomputable def jeA (a58:Nat):Option (Int):=res jl9 (.c0 a58)
theorem jqy:∀ s,∃ d,jC cfz 140 d [] (jnp s)=(jl9 s).mach jnp out140:=fun s=>match s with
 | .c0 a58=>⟨(.go 12 [] [] .fin),by kernel_rfl⟩
theorem jy0 (a58:Nat) (v:Int) (h:jeA a58=some v):PQ 140 [(.d (.v (.float .f32 a58)))] (out140 v):=jn jJ jqy (s:=.c0 a58) rfl (by kernel_rfl) v h
inductive S99 where
 | c0 (a47:Nat) (a48:List DV) (a49:Nat) (a50:List DV)
 | c1 (x51:Nat) (x52:List DV) (y53:Int) (x54:Nat) (x55:List DV) (x56 y57:Int)
def out99 (v:Int):AV:=(aI v)
noncomputable def jq2:S99→ASt
 | .c0 a47 a48 a49 a50=>ent cfz 99 [(.d (.sl a47 a48)),(.d (.sl a49 a50))]
 | .c1 x51 x52 y53 x54 x55 x56 y57=>⟨⟨99,sp 29 0 [(1,(.d (.sl x51 x52))),(5,(aI y53)),(8,(.d (.sl x54 x55))),(9,(aI x56)),(10,(aI y57))],[(.code (cd cfz.P 99 [1,1,0,1,0,0])),(.inLoop (cd cfz.P 99 [1,1,0,1,0,0])),(.inBlock 0),(.code (cd cfz.P 99 [1,1,1]))],[],false,.none⟩,[],[]⟩
noncomputable def B99:S99→Tr S99 (Int)
 | .c0 a47 a48 a49 a50=>(.nxt (.c1 a49 a50 0 a47 a48 ((↑a47:Int)) 0))
 | .c1 x51 x52 y53 x54 x55 x56 y57=>(.br (decide (y57<x56))
 (.ask (.le 0 y57) (.ask (.lt y57 ((↑x54:Int))) (.ask (.leN (y57.toNat*2) x55.length) (.ask (.leN 2 ((List.drop (y57.toNat*2) x55).length)) (.ask (.prop (List.map AV.d (List.take 2 (List.drop (y57.toNat*2) x55))=[AV.d (vI (dI (cel x55 (y57.toNat*2)))),AV.d (DV.v (Value.float FloatKind.f32 (dF (cel x55 (y57.toNat*2+1)))))])) (.ask (.le 0 y57) (.ask (.lt y57 ((↑x51:Int))) (.ask (.leN (y57.toNat*1) x52.length) (.ask (.prop (Option.map AV.d (List.drop (y57.toNat*1) x52)[0]? = some (AV.d (vI (dI (cel x52 (y57.toNat*1))))))) (.br (dI (cel x55 (y57.toNat*2)) != dI (cel x52 (y57.toNat*1)))
 (.bind (jeA (dF (cel x55 (y57.toNat*2+1)))) fun v59 =>
 (.sees [(.d (.v (.float .f32 (dF (cel x55 (y57.toNat*2+1))))))] (.ask (.in64 (y53+v59)) (.ask (.in64 (y57+1)) (.nxt (.c1 x51 x52 (y53+v59) x54 x55 x56 (y57+1)))))))
 (.ask (.in64 (y57+1)) (.nxt (.c1 x51 x52 y53 x54 x55 x56 (y57+1))))))))))))))
 (.ret y53))
noncomputable def F99 (a47:Nat) (a48:List DV) (a49:Nat) (a50:List DV):Option (Int):=res B99 (.c0 a47 a48 a49 a50)
theorem jxS:∀ s,∃ d,jC cfz 99 d [] (jq2 s)=(B99 s).mach jq2 out99:=fun s=>match s with
 | .c0 a47 a48 a49 a50=>⟨(.go 17 [] [] (.cut 0 [[1,5,8,9,10]] [])),by kernel_rfl⟩
 | .c1 x51 x52 y53 x54 x55 x56 y57=>⟨(.go 5 [] [] (.split 11 (.go 16 [(.br true),(.as (.agg [(aI (dI (cel x55 (y57.toNat*2)))),(.d (.v (.float .f32 (dF (cel x55 (y57.toNat*2+1))))))])),.none,.none,(.as (aI (dI (cel x52 (y57.toNat*1)))))] [0] (.split 21 (.go 5 [(.br true)] [0] (.bind (jy0 (dF (cel x55 (y57.toNat*2+1)))) fun v59=>(.go 10 [(.ck 0)] [] (.cut 0 [[1,5,8,9,10]] [])))) (.go 8 [(.br false)] [0] (.cut 0 [[1,5,8,9,10]] [])))) (.go 8 [(.br false)] [0] .fin))),by kernel_rfl⟩
theorem f99 (a47:Nat) (a48:List DV) (a49:Nat) (a50:List DV) (v:Int) (h:F99 a47 a48 a49 a50=some v):PQ 99 [(.d (.sl a47 a48)),(.d (.sl a49 a50))] (out99 v):=jn jJ jxS (s:=.c0 a47 a48 a49 a50) rfl (by kernel_rfl) v h
inductive S97 where
 | c0
 | c1 (y4:Int)
 | c2 (y61 y62:Nat) (y63:Int) (x64:List AV)
def out97 (v:Nat × List DV):AV:=(.d (.sl v.fst v.snd))
noncomputable def jvw:S97→ASt
 | .c0=>ent cfz 97 [(.agg [(aI 4),(aI 2)]),(.d (.sl 4 [(vI 10),(.v (.float .f32 1065353216)),(vI 5),(.v (.float .f32 1065353216)),(vI 1),(.v (.float .f32 1065353216)),(vI 7),(.v (.float .f32 1056964608))]))]
 | .c1 y4=>⟨⟨97,sp 60 0 [(1,(.d (.sl 4 [(vI 10),(.v (.float .f32 1065353216)),(vI 5),(.v (.float .f32 1065353216)),(vI 1),(.v (.float .f32 1065353216)),(vI 7),(.v (.float .f32 1056964608))]))),(2,(.ptr 0 0)),(6,(.d (.v (.slice .none 0 0)))),(21,(aI 289)),(22,(aI y4))],[(.code (cd cfz.P 97 [1,1,1,1,0,1,0,0])),(.inLoop (cd cfz.P 97 [1,1,1,1,0,1,0,0])),(.inBlock 2),(.code (cd cfz.P 97 [1,1,1,1,1]))],[],false,.none⟩,[],[(.cells [(aI 4),(aI 2)] 30)]⟩
 | .c2 y61 y62 y63 x64=>⟨⟨97,sp 60 0 [(1,(.d (.sl 4 [(vI 10),(.v (.float .f32 1065353216)),(vI 5),(.v (.float .f32 1065353216)),(vI 1),(.v (.float .f32 1065353216)),(vI 7),(.v (.float .f32 1056964608))]))),(2,(.ptr 0 0)),(6,(.ms 1 0 2 y61 y62)),(21,(aI 289)),(22,(aI y63))],[(.code (cd cfz.P 97 [1,1,1,1,0,1,0,0])),(.inLoop (cd cfz.P 97 [1,1,1,1,0,1,0,0])),(.inBlock 2),(.code (cd cfz.P 97 [1,1,1,1,1]))],[],false,.none⟩,[],[(.cells [(aI 4),(aI 2)] 30),(.cells x64 139)]⟩
noncomputable def B97:S97→Tr S97 (Nat × List DV)
 | .c0=>(.nxt (.c1 0))
 | .c1 y4=>(.ask (.eqB (decide (y4<289)) true) (.ask (.in64 (y4.tdiv 17)) (.ask (.in64 ((y4.tdiv 17).tdiv 17)) (.bind (qq) fun v5 =>
 (.bind (qB) fun v6 =>
 (.sees [(aI 0)] (.sees [(aI 0)] (.bind (qv) fun v7 =>
 (.sees [(aI 1)] (.sees [(aI 0)] (.bind (qm) fun v8 =>
 (.bind (jx (0+y4.tmod 17*9)) fun v10 =>
 (.sees [(aI 2)] (.ask (.in64 (y4.tmod 17*9)) (.ask (.in64 (0+y4.tmod 17*9)) (.sees [(aI (0+y4.tmod 17*9))] (.bind (qJ) fun v11 =>
 (.bind (jx (v10+(y4.tdiv 17).tmod 17*10)) fun v12 =>
 (.sees [(aI 3)] (.ask (.in64 ((y4.tdiv 17).tmod 17*10)) (.ask (.in64 (v10+(y4.tdiv 17).tmod 17*10)) (.sees [(aI (v10+(y4.tdiv 17).tmod 17*10))] (.sees [(aI 0)] (.sees [(aI 0)] (.sees [(aI 2)] (.sees [(aI 0)] (.bind (qu) fun v13 =>
 (.bind (jx (0+y4.tmod 17*13)) fun v14 =>
 (.sees [(aI 4)] (.ask (.in64 (y4.tmod 17*13)) (.ask (.in64 (0+y4.tmod 17*13)) (.sees [(aI (0+y4.tmod 17*13))] (.bind (qt) fun v15 =>
 (.bind (jx (v14+(y4.tdiv 17).tmod 17*15)) fun v16 =>
 (.sees [(aI 6)] (.ask (.in64 ((y4.tdiv 17).tmod 17*15)) (.ask (.in64 (v14+(y4.tdiv 17).tmod 17*15)) (.sees [(aI (v14+(y4.tdiv 17).tmod 17*15))] (.sees [(aI 0)] (.sees [(aI 1)] (.ask (.in64 (-v12)) (.bind (jx (-v12)) fun v17 =>
 (.sees [(aI (-v12))] (.sees [(aI 0)] (.sees [(aI 2)] (.ask (.in64 (-v16)) (.bind (jx (-v16)) fun v18 =>
 (.sees [(aI (-v16))] (.bind (qx) fun v19 =>
 (.sees [(aI 1)] (.bind (jx 1) fun v20 =>
 (.sees [(aI 1)] (.bind (jx 3) fun v21 =>
 (.sees [(aI 3)] (.ask (.in64 (v17*1)) (.bind (jx (v17*1)) fun v22 =>
 (.sees [(aI (v17*1))] (.bind (jx (1 - 1*v20)) fun v23 =>
 (.ask (.in64 (1*v20)) (.ask (.in64 (1 - 1*v20)) (.sees [(aI (1 - 1*v20))] (.bind (jx (9 - 1*v21)) fun v24 =>
 (.ask (.in64 (1*v21)) (.ask (.in64 (9 - 1*v21)) (.sees [(aI (9 - 1*v21))] (.bind (jx (v18 - 1*v22)) fun v25 =>
 (.ask (.in64 (1*v22)) (.ask (.in64 (v18 - 1*v22)) (.sees [(aI (v18 - 1*v22))] (.br (v24 != 0)
 (.bind (Ga v24) fun v38 =>
 (.sees [(aI v24)] (.ask (.in64 (v23*v38)) (.bind (jx (v23*v38)) fun v39 =>
 (.sees [(aI (v23*v38))] (.ask (.in64 (v24*v38)) (.bind (jx (v24*v38)) fun v40 =>
 (.sees [(aI (v24*v38))] (.ask (.in64 (v25*v38)) (.bind (jx (v25*v38)) fun v41 =>
 (.sees [(aI (v25*v38))] (.bind (jx (v20 - v21*v39)) fun v42 =>
 (.ask (.in64 (v21*v39)) (.ask (.in64 (v20 - v21*v39)) (.sees [(aI (v20 - v21*v39))] (.bind (jx (v21 - v21*v40)) fun v43 =>
 (.ask (.in64 (v21*v40)) (.ask (.in64 (v21 - v21*v40)) (.sees [(aI (v21 - v21*v40))] (.bind (jx (v22 - v21*v41)) fun v44 =>
 (.ask (.in64 (v21*v41)) (.ask (.in64 (v22 - v21*v41)) (.sees [(aI (v22 - v21*v41))] (.bind (F81 4 2 4 [(vI v44),(vI v41),(vI (y4.tmod 17)),(vI ((y4.tdiv 17).tmod 17))]) fun v46 =>
 (.sees [(.agg [(aI 4),(aI 2)]),(.d (.sl 4 [(vI v44),(vI v41),(vI (y4.tmod 17)),(vI ((y4.tdiv 17).tmod 17))]))] (.ask (.leN 2 2) (.triv _ (Qr (Option.some (List.map aD (List.take 2 (List.drop 0 [AV.d (vI (y4.tmod 17)),AV.d (vI ((y4.tdiv 17).tmod 17))]))))) (.ask (.leN 4 4) (.triv _ (Qr (Option.some (List.map aD (List.take 4 (List.drop 0 [AV.d (vI v44),AV.d (vI v41),AV.d (vI (y4.tmod 17)),AV.d (vI ((y4.tdiv 17).tmod 17))]))))) (.bind (F99 4 [(vI 10),(.v (.float .f32 1065353216)),(vI 5),(.v (.float .f32 1065353216)),(vI 1),(.v (.float .f32 1065353216)),(vI 7),(.v (.float .f32 1056964608))] 4 [(vI v44),(vI v41),(vI (y4.tmod 17)),(vI ((y4.tdiv 17).tmod 17))]) fun v60 =>
 (.sees [(.d (.sl 4 [(vI 10),(.v (.float .f32 1065353216)),(vI 5),(.v (.float .f32 1065353216)),(vI 1),(.v (.float .f32 1065353216)),(vI 7),(.v (.float .f32 1056964608))])),(.d (.sl 4 [(vI v44),(vI v41),(vI (y4.tmod 17)),(vI ((y4.tdiv 17).tmod 17))]))] (.ask (.in64 (y4+1)) (.triv _ (Qr true) (.triv _ (Qr true) (.nxt (.c2 1 1 (y4+1) [(.d (.sl 4 [(vI v44),(vI v41),(vI (y4.tmod 17)),(vI ((y4.tdiv 17).tmod 17))])),(aI v60)]))))))))))))))))))))))))))))))))))))
 (.ask (.leN 2 2) (.triv _ (Qr (Option.some (List.map aD (List.take 2 (List.drop 0 [AV.d (vI (y4.tmod 17)),AV.d (vI ((y4.tdiv 17).tmod 17))]))))) (.bind (F99 4 [(vI 10),(.v (.float .f32 1065353216)),(vI 5),(.v (.float .f32 1065353216)),(vI 1),(.v (.float .f32 1065353216)),(vI 7),(.v (.float .f32 1056964608))] 0 []) fun v65 =>
 (.sees [(.d (.sl 4 [(vI 10),(.v (.float .f32 1065353216)),(vI 5),(.v (.float .f32 1065353216)),(vI 1),(.v (.float .f32 1065353216)),(vI 7),(.v (.float .f32 1056964608))])),(.d (.sl 0 []))] (.ask (.in64 (y4+1)) (.triv _ (Qr true) (.triv _ (Qr true) (.nxt (.c2 1 1 (y4+1) [(.d (.v (.slice .none 0 0))),(aI v65)])))))))))))))))))))))))))))))))))))))))))))))))))))))))))))))))))))))))))))))))
 | .c2 y61 y62 y63 x64=>(.br (decide (y63<289))
 (.ask (.in64 (y63.tdiv 17)) (.ask (.in64 ((y63.tdiv 17).tdiv 17)) (.bind (qq) fun v66 =>
 (.bind (qB) fun v67 =>
 (.sees [(aI 0)] (.sees [(aI 0)] (.bind (qv) fun v68 =>
 (.sees [(aI 1)] (.sees [(aI 0)] (.bind (qm) fun v69 =>
 (.bind (jx (0+y63.tmod 17*9)) fun v70 =>
 (.sees [(aI 2)] (.ask (.in64 (y63.tmod 17*9)) (.ask (.in64 (0+y63.tmod 17*9)) (.sees [(aI (0+y63.tmod 17*9))] (.bind (qJ) fun v71 =>
 (.bind (jx (v70+(y63.tdiv 17).tmod 17*10)) fun v72 =>
 (.sees [(aI 3)] (.ask (.in64 ((y63.tdiv 17).tmod 17*10)) (.ask (.in64 (v70+(y63.tdiv 17).tmod 17*10)) (.sees [(aI (v70+(y63.tdiv 17).tmod 17*10))] (.sees [(aI 0)] (.sees [(aI 0)] (.sees [(aI 2)] (.sees [(aI 0)] (.bind (qu) fun v73 =>
 (.bind (jx (0+y63.tmod 17*13)) fun v74 =>
 (.sees [(aI 4)] (.ask (.in64 (y63.tmod 17*13)) (.ask (.in64 (0+y63.tmod 17*13)) (.sees [(aI (0+y63.tmod 17*13))] (.bind (qt) fun v75 =>
 (.bind (jx (v74+(y63.tdiv 17).tmod 17*15)) fun v76 =>
 (.sees [(aI 6)] (.ask (.in64 ((y63.tdiv 17).tmod 17*15)) (.ask (.in64 (v74+(y63.tdiv 17).tmod 17*15)) (.sees [(aI (v74+(y63.tdiv 17).tmod 17*15))] (.sees [(aI 0)] (.sees [(aI 1)] (.ask (.in64 (-v72)) (.bind (jx (-v72)) fun v77 =>
 (.sees [(aI (-v72))] (.sees [(aI 0)] (.sees [(aI 2)] (.ask (.in64 (-v76)) (.bind (jx (-v76)) fun v78 =>
 (.sees [(aI (-v76))] (.bind (qx) fun v79 =>
 (.sees [(aI 1)] (.bind (jx 1) fun v80 =>
 (.sees [(aI 1)] (.bind (jx 3) fun v81 =>
 (.sees [(aI 3)] (.ask (.in64 (v77*1)) (.bind (jx (v77*1)) fun v82 =>
 (.sees [(aI (v77*1))] (.bind (jx (1 - 1*v80)) fun v83 =>
 (.ask (.in64 (1*v80)) (.ask (.in64 (1 - 1*v80)) (.sees [(aI (1 - 1*v80))] (.bind (jx (9 - 1*v81)) fun v84 =>
 (.ask (.in64 (1*v81)) (.ask (.in64 (9 - 1*v81)) (.sees [(aI (9 - 1*v81))] (.bind (jx (v78 - 1*v82)) fun v85 =>
 (.ask (.in64 (1*v82)) (.ask (.in64 (v78 - 1*v82)) (.sees [(aI (v78 - 1*v82))] (.br (v84 != 0)
 (.bind (Ga v84) fun v86 =>
 (.sees [(aI v84)] (.ask (.in64 (v83*v86)) (.bind (jx (v83*v86)) fun v87 =>
 (.sees [(aI (v83*v86))] (.ask (.in64 (v84*v86)) (.bind (jx (v84*v86)) fun v88 =>
 (.sees [(aI (v84*v86))] (.ask (.in64 (v85*v86)) (.bind (jx (v85*v86)) fun v89 =>
 (.sees [(aI (v85*v86))] (.bind (jx (v80 - v81*v87)) fun v90 =>
 (.ask (.in64 (v81*v87)) (.ask (.in64 (v80 - v81*v87)) (.sees [(aI (v80 - v81*v87))] (.bind (jx (v81 - v81*v88)) fun v91 =>
 (.ask (.in64 (v81*v88)) (.ask (.in64 (v81 - v81*v88)) (.sees [(aI (v81 - v81*v88))] (.bind (jx (v82 - v81*v89)) fun v92 =>
 (.ask (.in64 (v81*v89)) (.ask (.in64 (v82 - v81*v89)) (.sees [(aI (v82 - v81*v89))] (.bind (F81 4 2 4 [(vI v92),(vI v89),(vI (y63.tmod 17)),(vI ((y63.tdiv 17).tmod 17))]) fun v94 =>
 (.sees [(.agg [(aI 4),(aI 2)]),(.d (.sl 4 [(vI v92),(vI v89),(vI (y63.tmod 17)),(vI ((y63.tdiv 17).tmod 17))]))] (.ask (.leN 2 2) (.triv _ (Qr (Option.some (List.map aD (List.take 2 (List.drop 0 [AV.d (vI (y63.tmod 17)),AV.d (vI ((y63.tdiv 17).tmod 17))]))))) (.ask (.leN 4 4) (.triv _ (Qr (Option.some (List.map aD (List.take 4 (List.drop 0 [AV.d (vI v92),AV.d (vI v89),AV.d (vI (y63.tmod 17)),AV.d (vI ((y63.tdiv 17).tmod 17))]))))) (.bind (F99 4 [(vI 10),(.v (.float .f32 1065353216)),(vI 5),(.v (.float .f32 1065353216)),(vI 1),(.v (.float .f32 1065353216)),(vI 7),(.v (.float .f32 1056964608))] 4 [(vI v92),(vI v89),(vI (y63.tmod 17)),(vI ((y63.tdiv 17).tmod 17))]) fun v95 =>
 (.sees [(.d (.sl 4 [(vI 10),(.v (.float .f32 1065353216)),(vI 5),(.v (.float .f32 1065353216)),(vI 1),(.v (.float .f32 1065353216)),(vI 7),(.v (.float .f32 1056964608))])),(.d (.sl 4 [(vI v92),(vI v89),(vI (y63.tmod 17)),(vI ((y63.tdiv 17).tmod 17))]))] (.ask (.fits (y61+1) 32) (.ask (.leN (y62*2) x64.length) (.ask (.in64 (y63+1)) (.ask (.prop (flatK (ABlk.cells (List.take (y61*2) x64++List.map AV.d [DV.sl 4 [vI v92,vI v89,vI (y63.tmod 17),vI ((y63.tdiv 17).tmod 17)],vI v95]) 139)=true)) (.ask (.prop (jK 2 (ABlk.cells (List.take (y61*2) x64++List.map AV.d [DV.sl 4 [vI v92,vI v89,vI (y63.tmod 17),vI ((y63.tdiv 17).tmod 17)],vI v95]) 139)=true)) (.nxt (.c2 (y61+1) (y61+1) (y63+1) (List.take (y61*2) x64++List.map AV.d [DV.sl 4 [vI v92,vI v89,vI (y63.tmod 17),vI ((y63.tdiv 17).tmod 17)],vI v95])))))))))))))))))))))))))))))))))))))))
 (.ask (.leN 2 2) (.triv _ (Qr (Option.some (List.map aD (List.take 2 (List.drop 0 [AV.d (vI (y63.tmod 17)),AV.d (vI ((y63.tdiv 17).tmod 17))]))))) (.bind (F99 4 [(vI 10),(.v (.float .f32 1065353216)),(vI 5),(.v (.float .f32 1065353216)),(vI 1),(.v (.float .f32 1065353216)),(vI 7),(.v (.float .f32 1056964608))] 0 []) fun v96 =>
 (.sees [(.d (.sl 4 [(vI 10),(.v (.float .f32 1065353216)),(vI 5),(.v (.float .f32 1065353216)),(vI 1),(.v (.float .f32 1065353216)),(vI 7),(.v (.float .f32 1056964608))])),(.d (.sl 0 []))] (.ask (.fits (y61+1) 32) (.ask (.leN (y62*2) x64.length) (.ask (.in64 (y63+1)) (.ask (.prop (flatK (ABlk.cells (List.take (y61*2) x64++List.map AV.d [DV.v (Value.slice none 0 0),vI v96]) 139)=true)) (.ask (.prop (jK 2 (ABlk.cells (List.take (y61*2) x64++List.map AV.d [DV.v (Value.slice none 0 0),vI v96]) 139)=true)) (.nxt (.c2 (y61+1) (y61+1) (y63+1) (List.take (y61*2) x64++List.map AV.d [DV.v (Value.slice none 0 0),vI v96])))))))))))))))))))))))))))))))))))))))))))))))))))))))))))))))))))))))))))))))))
 (.ask (.leN (y61*2) x64.length) (.ask (.prop (toDs (List.take (y61*2) x64)=some (List.map aD (List.take (y61*2) x64)))) (.ask (.eqN ((QH 2 y61 (Zv x64 y61 2)).length) (y61*2)) (.ask (.prop (Qg cfz.P cfz.glob 136 2 y61 (List.map aD (List.take (y61*2) x64)) (AV.d (ZC (DV.v (Value.func (Fn.func 137) #[] #[])))) (QH 2 y61 (Zv x64 y61 2)))) (.ask (.leN (0+y61*2) ((List.map AV.d (QH 2 y61 (Zv x64 y61 2))++List.drop (y61*2) x64).length)) (.ask (.prop (toDs (List.take (y61*2) (List.drop 0 (List.map AV.d (QH 2 y61 (Zv x64 y61 2))++List.drop (y61*2) x64)))=some (List.map aD (List.take (y61*2) (List.drop 0 (List.map AV.d (QH 2 y61 (Zv x64 y61 2))++List.drop (y61*2) x64)))))) (.ret (y61,(List.map aD (List.take (y61*2) (List.drop 0 (List.map AV.d (QH 2 y61 (Zv x64 y61 2))++List.drop (y61*2) x64)))))))))))))
noncomputable def F97:Option (Nat × List DV):=res B97 (.c0)
theorem jxj:∀ s,∃ d,jC cfz 97 d [] (jvw s)=(B97 s).mach jvw out97:=fun s=>match s with
 | .c0=>⟨(.go 80 [.none,.none,(.br true),(.br true),(.br false)] [0,1,2,3,4,5,6,7] (.cut 1 [[1,2,6,21,22]] [])),by kernel_rfl⟩
 | .c1 y4=>⟨(.go 5 [] [] (.assume 23 true (.go 350 [(.br true),.none,.none,.none,(.br true),.none,(.br true),.none,(.br false),.none,.enter,.none,(.br true),.none,(.br true),.none,(.br false),.none,.none,.none,.mg,.enter,.none,(.br true),.none,.none,(.br true),.none,.none,(.br false),.none,.enter,.none,.none,(.br true),(.br true)] [0,1,2,3,4,5,6,7,8,9,10,12,13,14,15,16,17,19,20,21,22,23,24,25,26,27,28,29,30,31,32,33,34,35,36,37,38,39,40,41,42,43,44,45,46,47,48,49,50,51,52,53,54,55,56,57,58,59,60,61,62,63,64,65,66,67,68,69,70] (.bind (jac) fun v5=>(.bind (GM) fun v6=>(.go 25 [.none,(.ck 0),(.ck 1),.none,(.br true)] [0,1,2,3,5,6,8,9,10,11,12,13] (.bind (jai) fun v7=>(.go 25 [.none,(.ck 2),(.ck 1),.none,(.br true)] [0,1,2,3,5,6,8,9,10,11,12,13] (.bind (jal) fun v8=>(.bind (jU (0+y4.tmod 17*9)) fun v10=>(.go 25 [.none,(.ck 3),(.ck 4),.none,(.br true)] [0,1,2,3,8,9,10,11,12,13] (.bind (jag) fun v11=>(.bind (jU (v10+(y4.tdiv 17).tmod 17*10)) fun v12=>(.go 110 [.none,(.ck 5),(.ck 6),.none,(.br false),(.br true),(.br true),.none,.none,(.ck 0),(.ck 1),.none,(.br true),.none,.none,(.ck 3),(.ck 1),.none,(.br true)] [0,1,2,3,8,9,10,11,12,13,14,15,16,17,18,19,20,22,23,25,26,27,28,29,30,31,32,33,34,36,37,39,40,41,42,43,44] (.bind (jay) fun v13=>(.bind (jU (0+y4.tmod 17*13)) fun v14=>(.go 25 [.none,(.ck 7),(.ck 8),.none,(.br true)] [0,1,2,3,8,9,10,11,12,13] (.bind (jam) fun v15=>(.bind (jU (v14+(y4.tdiv 17).tmod 17*15)) fun v16=>(.go 190 [.none,(.ck 9),(.ck 10),.none,(.br false),(.br false),(.br true),.none,.none,.enter,(.br true),.none,.enter,.none,(.ck 0),.mg,(.br true),.none,.enter,.none,(.ck 2),.mg,(.br false)] [0,1,2,3,8,9,10,11,12,13,14,15,16,17,18,19,20,21,22,24,25,26,27,28,29,30,31,32,33,35,36,37,38,39,40] (.bind (jU (-v12)) fun v17=>(.go 164 [(.ck 11),.mg,.mg,(.br true),.none,.none,.enter,(.br true),.none,.enter,.none,(.ck 0),.mg,(.br true),.none,.enter,.none,(.ck 3),.mg,(.br false)] [1,2,3,4,5,6,7,8,9,10,11,12,13,14,15,16,17,19,20,21,22,23,24,25,26,27,28,30,31,32,33,34,35] (.bind (jU (-v16)) fun v18=>(.go 150 [(.ck 12),.mg,.mg,(.br false),(.br true),.none,.none,.none,.enter,(.br true),.none,.enter,.none,.none,(.br true),(.br false)] [1,2,3,4,5,6,7,8,9,10,11,12,13,14,15,16,17,18,19,20,21,22,23,24,25,26,27,28,29,30,31,32,33,34,35,36,37] (.bind (jaQ) fun v19=>(.go 35 [(.ck 13),(.br true)] [1,2,3,4] (.bind (jU 1) fun v20=>(.go 33 [(.ck 14),.none,(.br true)] [1,2,3,4,5,6,7] (.bind (jU 3) fun v21=>(.go 33 [(.ck 15),.none,(.br true)] [1,2,3,4,5,6] (.bind (jU (v17*1)) fun v22=>(.go 114 [(.ck 16),.none,(.br false),(.br true),.none,.none,(.br true),(.br true),.none,.none,(.br false),.none,.none,(.br true)] [1,2,3,4,5,6,7,8,9,10,11,12,13,14,15,16] (.bind (jU (1 - 1*v20)) fun v23=>(.go 22 [.none,.none,(.ck 17),.none,(.br true)] [0,1,2,3,7,8,9,10] (.bind (jU (9 - 1*v21)) fun v24=>(.go 22 [.none,.none,(.ck 18),.none,(.br true)] [0,1,2,3,7,8,9,10] (.bind (jU (v18 - 1*v22)) fun v25=>(.go 115 [.none,.none,(.ck 19),.none,(.br false),(.br false),.none,(.br true),.none,.none,.none,.enter,(.br true),.enter] [0,1,2,3,7,8,9,10,11,12,13,14,15,16,17,18,19,20,21,22,23,24,25,26,27,28] (.split 16 (.go 45 [(.br true),(.br false)] [0,1,2,3,4,5,6,7,8,9,10,11,12,13] (.bind (ji6 v24) fun v38=>(.go 35 [(.ck 20),(.br true)] [1,2,3] (.bind (jU (v23*v38)) fun v39=>(.go 33 [(.ck 21),.none,(.br true)] [1,2,3,4,5,6] (.bind (jU (v24*v38)) fun v40=>(.go 33 [(.ck 22),.none,(.br true)] [1,2,3,4,5,6] (.bind (jU (v25*v38)) fun v41=>(.go 83 [(.ck 23),.none,(.br false),(.br true),.none,.none,(.br false),.none,.none,(.br true)] [1,2,3,4,5,6,7,8,9,10,11] (.bind (jU (v20 - v21*v39)) fun v42=>(.go 22 [.none,.none,(.ck 24),.none,(.br true)] [0,1,2,3,7,8,9,10] (.bind (jU (v21 - v21*v40)) fun v43=>(.go 22 [.none,.none,(.ck 25),.none,(.br true)] [0,1,2,3,7,8,9,10] (.bind (jU (v22 - v21*v41)) fun v44=>(.go 172 [.none,.none,(.ck 26),.none,(.br false),(.br true),.none,.none,(.br true),(.br false),.none,(.br false),(.br true),.none,.none,.none,.none,(.br true),.none,.none,.none,.none,(.br false)] [0,1,2,3,7,8,9,10,11,12,13,14,15,16,17,18,19,20,21,22,23,24,25,26,27,28,29,30,31,32,33,34,35,36,37,38,39,40,41,42,43,44] (.bind (f81 4 2 4 [(vI v44),(vI v41),(vI (y4.tmod 17)),(vI ((y4.tdiv 17).tmod 17))]) fun v46=>(.go 16 [(.ck 27)] [] (.frz 8 (.frz 10 (.go 6 [] [] (.bind (f99 4 [(vI 10),(.v (.float .f32 1065353216)),(vI 5),(.v (.float .f32 1065353216)),(vI 1),(.v (.float .f32 1065353216)),(vI 7),(.v (.float .f32 1056964608))] 4 [(vI v44),(vI v41),(vI (y4.tmod 17)),(vI ((y4.tdiv 17).tmod 17))]) fun v60=>(.go 12 [(.ck 28),.mg] [1,2,3] (.ren 1 37 [37] [[1,2,6,21,22]] [2,11,12,14,15,16,22,23,25,31,32,33,34,35] (.cutP 2 [1] [[1,2,6,21,22]] [])))))))))))))))))))))))) (.go 47 [(.br false),(.br false),(.br true)] [0,1,2,3] (.frz 8 (.go 6 [] [] (.bind (f99 4 [(vI 10),(.v (.float .f32 1065353216)),(vI 5),(.v (.float .f32 1065353216)),(vI 1),(.v (.float .f32 1065353216)),(vI 7),(.v (.float .f32 1056964608))] 0 []) fun v65=>(.go 12 [(.ck 20),.mg] [1,2,3] (.ren 1 37 [37] [[1,2,6,21,22]] [2,11,12,13,14,15,16,22,23,25,31,32,33,34,35] (.cutP 2 [1] [[1,2,6,21,22]] [])))))))))))))))))))))))))))))))))))))))))))))),by kernel_rfl⟩
 | .c2 y61 y62 y63 x64=>⟨(.go 5 [] [] (.split 23 (.go 350 [(.br true),.none,.none,.none,(.br true),.none,(.br true),.none,(.br false),.none,.enter,.none,(.br true),.none,(.br true),.none,(.br false),.none,.none,.none,.mg,.enter,.none,(.br true),.none,.none,(.br true),.none,.none,(.br false),.none,.enter,.none,.none,(.br true),(.br true)] [0,1,2,3,4,5,6,7,8,9,10,12,13,14,15,16,17,19,20,21,22,23,24,25,26,27,28,29,30,31,32,33,34,35,36,37,38,39,40,41,42,43,44,45,46,47,48,49,50,51,52,53,54,55,56,57,58,59,60,61,62,63,64,65,66,67,68,69,70] (.bind (jac) fun v66=>(.bind (GM) fun v67=>(.go 25 [.none,(.ck 0),(.ck 1),.none,(.br true)] [0,1,2,3,5,6,8,9,10,11,12,13] (.bind (jai) fun v68=>(.go 25 [.none,(.ck 2),(.ck 1),.none,(.br true)] [0,1,2,3,5,6,8,9,10,11,12,13] (.bind (jal) fun v69=>(.bind (jU (0+y63.tmod 17*9)) fun v70=>(.go 25 [.none,(.ck 3),(.ck 4),.none,(.br true)] [0,1,2,3,8,9,10,11,12,13] (.bind (jag) fun v71=>(.bind (jU (v70+(y63.tdiv 17).tmod 17*10)) fun v72=>(.go 110 [.none,(.ck 5),(.ck 6),.none,(.br false),(.br true),(.br true),.none,.none,(.ck 0),(.ck 1),.none,(.br true),.none,.none,(.ck 3),(.ck 1),.none,(.br true)] [0,1,2,3,8,9,10,11,12,13,14,15,16,17,18,19,20,22,23,25,26,27,28,29,30,31,32,33,34,36,37,39,40,41,42,43,44] (.bind (jay) fun v73=>(.bind (jU (0+y63.tmod 17*13)) fun v74=>(.go 25 [.none,(.ck 7),(.ck 8),.none,(.br true)] [0,1,2,3,8,9,10,11,12,13] (.bind (jam) fun v75=>(.bind (jU (v74+(y63.tdiv 17).tmod 17*15)) fun v76=>(.go 190 [.none,(.ck 9),(.ck 10),.none,(.br false),(.br false),(.br true),.none,.none,.enter,(.br true),.none,.enter,.none,(.ck 0),.mg,(.br true),.none,.enter,.none,(.ck 2),.mg,(.br false)] [0,1,2,3,8,9,10,11,12,13,14,15,16,17,18,19,20,21,22,24,25,26,27,28,29,30,31,32,33,35,36,37,38,39,40] (.bind (jU (-v72)) fun v77=>(.go 164 [(.ck 11),.mg,.mg,(.br true),.none,.none,.enter,(.br true),.none,.enter,.none,(.ck 0),.mg,(.br true),.none,.enter,.none,(.ck 3),.mg,(.br false)] [1,2,3,4,5,6,7,8,9,10,11,12,13,14,15,16,17,19,20,21,22,23,24,25,26,27,28,30,31,32,33,34,35] (.bind (jU (-v76)) fun v78=>(.go 150 [(.ck 12),.mg,.mg,(.br false),(.br true),.none,.none,.none,.enter,(.br true),.none,.enter,.none,.none,(.br true),(.br false)] [1,2,3,4,5,6,7,8,9,10,11,12,13,14,15,16,17,18,19,20,21,22,23,24,25,26,27,28,29,30,31,32,33,34,35,36,37] (.bind (jaQ) fun v79=>(.go 35 [(.ck 13),(.br true)] [1,2,3,4] (.bind (jU 1) fun v80=>(.go 33 [(.ck 14),.none,(.br true)] [1,2,3,4,5,6,7] (.bind (jU 3) fun v81=>(.go 33 [(.ck 15),.none,(.br true)] [1,2,3,4,5,6] (.bind (jU (v77*1)) fun v82=>(.go 114 [(.ck 16),.none,(.br false),(.br true),.none,.none,(.br true),(.br true),.none,.none,(.br false),.none,.none,(.br true)] [1,2,3,4,5,6,7,8,9,10,11,12,13,14,15,16] (.bind (jU (1 - 1*v80)) fun v83=>(.go 22 [.none,.none,(.ck 17),.none,(.br true)] [0,1,2,3,7,8,9,10] (.bind (jU (9 - 1*v81)) fun v84=>(.go 22 [.none,.none,(.ck 18),.none,(.br true)] [0,1,2,3,7,8,9,10] (.bind (jU (v78 - 1*v82)) fun v85=>(.go 115 [.none,.none,(.ck 19),.none,(.br false),(.br false),.none,(.br true),.none,.none,.none,.enter,(.br true),.enter] [0,1,2,3,7,8,9,10,11,12,13,14,15,16,17,18,19,20,21,22,23,24,25,26,27,28] (.split 16 (.go 45 [(.br true),(.br false)] [0,1,2,3,4,5,6,7,8,9,10,11,12,13] (.bind (ji6 v84) fun v86=>(.go 35 [(.ck 20),(.br true)] [1,2,3] (.bind (jU (v83*v86)) fun v87=>(.go 33 [(.ck 21),.none,(.br true)] [1,2,3,4,5,6] (.bind (jU (v84*v86)) fun v88=>(.go 33 [(.ck 22),.none,(.br true)] [1,2,3,4,5,6] (.bind (jU (v85*v86)) fun v89=>(.go 83 [(.ck 23),.none,(.br false),(.br true),.none,.none,(.br false),.none,.none,(.br true)] [1,2,3,4,5,6,7,8,9,10,11] (.bind (jU (v80 - v81*v87)) fun v90=>(.go 22 [.none,.none,(.ck 24),.none,(.br true)] [0,1,2,3,7,8,9,10] (.bind (jU (v81 - v81*v88)) fun v91=>(.go 22 [.none,.none,(.ck 25),.none,(.br true)] [0,1,2,3,7,8,9,10] (.bind (jU (v82 - v81*v89)) fun v92=>(.go 172 [.none,.none,(.ck 26),.none,(.br false),(.br true),.none,.none,(.br true),(.br false),.none,(.br false),(.br true),.none,.none,.none,.none,(.br true),.none,.none,.none,.none,(.br false)] [0,1,2,3,7,8,9,10,11,12,13,14,15,16,17,18,19,20,21,22,23,24,25,26,27,28,29,30,31,32,33,34,35,36,37,38,39,40,41,42,43,44] (.bind (f81 4 2 4 [(vI v92),(vI v89),(vI (y63.tmod 17)),(vI ((y63.tdiv 17).tmod 17))]) fun v94=>(.go 16 [(.ck 27)] [] (.frz 8 (.frz 10 (.go 6 [] [] (.bind (f99 4 [(vI 10),(.v (.float .f32 1065353216)),(vI 5),(.v (.float .f32 1065353216)),(vI 1),(.v (.float .f32 1065353216)),(vI 7),(.v (.float .f32 1056964608))] 4 [(vI v92),(vI v89),(vI (y63.tmod 17)),(vI ((y63.tdiv 17).tmod 17))]) fun v95=>(.go 12 [(.ck 28),.mg] [1,2] (.ren 1 38 [38] [[1,2,6,21,22]] [3,12,13,15,16,17,23,24,26,32,33,34,35,36] (.cutP 2 [1] [[1,2,6,21,22]] [])))))))))))))))))))))))) (.go 47 [(.br false),(.br false),(.br true)] [0,1,2,3] (.frz 8 (.go 6 [] [] (.bind (f99 4 [(vI 10),(.v (.float .f32 1065353216)),(vI 5),(.v (.float .f32 1065353216)),(vI 1),(.v (.float .f32 1065353216)),(vI 7),(.v (.float .f32 1056964608))] 0 []) fun v96=>(.go 12 [(.ck 20),.mg] [1,2] (.ren 1 38 [38] [[1,2,6,21,22]] [3,12,13,14,15,16,17,23,24,26,32,33,34,35,36] (.cutP 2 [1] [[1,2,6,21,22]] [])))))))))))))))))))))))))))))))))))))))))))) (.go 13 [(.br false),(.inp (QH 2 y61 (Zv x64 y61 2)))] [0] .finP))),by kernel_rfl⟩
theorem f97 (v:Nat × List DV) (h:F97=some v):PQ 97 [(.agg [(aI 4),(aI 2)]),(.d (.sl 4 [(vI 10),(.v (.float .f32 1065353216)),(vI 5),(.v (.float .f32 1065353216)),(vI 1),(.v (.float .f32 1065353216)),(vI 7),(.v (.float .f32 1056964608))]))] (out97 v):=jn jJ jxj (s:=.c0) rfl (by kernel_rfl) v h
end Go.Kv
