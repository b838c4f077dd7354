import Derived.Test.YtdelimpnnpifpaaGreatDoorGIs
set_option linter.all false
namespace Go.Kv
open Go Go.RowKit Go.Proofs
set_option maxRecDepth 100000
inductive S14 where
 | c0 (a9:Nat) (a10:List DV)
def out14 (v:Bool):AV:=(.d (.v (.bool v)))
noncomputable def jvi:S14→ASt
 | .c0 a9 a10=>ent cfz 14 [(.d (.sl a9 a10))]
noncomputable def B14:S14→Tr S14 (Bool)
 | .c0 a9 a10=>(.triv _ (JG (decide ((↑a9:Int)≤40)==false)) (.triv _ (JG (decide ((↑a9:Int)≤40)==false)) (.triv _ (qc (decide ((↑a9:Int)≤40))) (.ret (if decide ((↑a9:Int)≤40)=true then true else (↑a9:Int)==257)))))
noncomputable def F14 (a9:Nat) (a10:List DV):Option (Bool):=res B14 (.c0 a9 a10)
theorem jy2:∀ s,∃ d,jC cfz 14 d [] (jvi s)=(B14 s).mach jvi out14:=fun s=>match s with
 | .c0 a9 a10=>⟨(.go 17 [(.sp .none),(.sp .none),(.sp .none),.mg] [] .fin),by kernel_rfl⟩
theorem f14 (a9:Nat) (a10:List DV) (v:Bool) (h:F14 a9 a10=some v):PQ 14 [(.d (.sl a9 a10))] (out14 v):=jn jJ jy2 (s:=.c0 a9 a10) rfl (by kernel_rfl) v h
inductive S83 where
 | c0 (a21:Bool) (a22:Int)
def out83 (v:Int):AV:=(aI v)
noncomputable def jqO:S83→ASt
 | .c0 a21 a22=>ent cfz 83 [(.d (.v (.bool a21))),(aI a22)]
noncomputable def B83:S83→Tr S83 (Int)
 | .c0 a21 a22=>(.br a21
 (.ret a22)
 (.ret 0))
noncomputable def F83 (a21:Bool) (a22:Int):Option (Int):=res B83 (.c0 a21 a22)
theorem jww:∀ s,∃ d,jC cfz 83 d [] (jqO s)=(B83 s).mach jqO out83:=fun s=>match s with
 | .c0 a21 a22=>⟨(.go 9 [] [] (.split 5 (.go 7 [(.br true)] [0] .fin) (.go 7 [(.br false)] [0] .fin))),by kernel_rfl⟩
theorem f83 (a21:Bool) (a22 v:Int) (h:F83 a21 a22=some v):PQ 83 [(.d (.v (.bool a21))),(aI a22)] (out83 v):=jn jJ jww (s:=.c0 a21 a22) rfl (by kernel_rfl) v h
inductive S91 where
 | c0 (a18 a19 a20:Int)
def out91 (v:Int):AV:=(aI v)
noncomputable def jvp:S91→ASt
 | .c0 a18 a19 a20=>ent cfz 91 [(aI a18),(aI a19),(aI a20)]
noncomputable def B91:S91→Tr S91 (Int)
 | .c0 a18 a19 a20=>(.triv _ (JG (decide (a18<a19)==false)) (.triv _ (JG (decide (a18<a19)==false)) (.triv _ (qc (decide (a18<a19))) (.bind (F83 (if decide (a18<a19)=true then true else decide (a18>a20)) 3) fun v23 =>
 (.sees [(.d (.v (.bool (if decide (a18<a19)=true then true else decide (a18>a20))))),(aI 3)] (.ret v23))))))
noncomputable def F91 (a18 a19 a20:Int):Option (Int):=res B91 (.c0 a18 a19 a20)
theorem jzc:∀ s,∃ d,jC cfz 91 d [] (jvp s)=(B91 s).mach jvp out91:=fun s=>match s with
 | .c0 a18 a19 a20=>⟨(.go 14 [(.sp .none),(.sp .none),(.sp .none),.mg] [] (.bind (f83 (if decide (a18<a19)=true then true else decide (a18>a20)) 3) fun v23=>(.go 4 [(.ck 0)] [] .fin))),by kernel_rfl⟩
theorem f91 (a18 a19 a20 v:Int) (h:F91 a18 a19 a20=some v):PQ 91 [(aI a18),(aI a19),(aI a20)] (out91 v):=jn jJ jzc (s:=.c0 a18 a19 a20) rfl (by kernel_rfl) v h
inductive S82 where
 | c0 (a27:Nat) (a28:List DV)
 | c1 (x29:Nat) (x30:List DV) (x31 y32:Int)
def out82 (v:Int):AV:=(aI v)
noncomputable def jrA:S82→ASt
 | .c0 a27 a28=>ent cfz 82 [(.d (.sl a27 a28))]
 | .c1 x29 x30 x31 y32=>⟨⟨82,sp 15 0 [(5,(.d (.sl x29 x30))),(6,(aI x31)),(7,(aI y32))],[(.code (cd cfz.P 82 [1,0,1,0,0])),(.inLoop (cd cfz.P 82 [1,0,1,0,0])),(.inBlock 0),(.code (cd cfz.P 82 [1,1]))],[],false,.none⟩,[],[]⟩
noncomputable def B82:S82→Tr S82 (Int)
 | .c0 a27 a28=>(.nxt (.c1 a27 a28 ((↑a27:Int)) 0))
 | .c1 x29 x30 x31 y32=>(.br (decide (y32<x31))
 (.ask (.le 0 y32) (.ask (.lt y32 ((↑x29:Int))) (.ask (.leN (y32.toNat*1) x30.length) (.ask (.prop (Option.map AV.d (List.drop (y32.toNat*1) x30)[0]? = some (AV.d (vI (dI (cel x30 (y32.toNat*1))))))) (.br (dI (cel x30 (y32.toNat*1)) != 0)
 (.ret (dI (cel x30 (y32.toNat*1))))
 (.ask (.in64 (y32+1)) (.nxt (.c1 x29 x30 x31 (y32+1)))))))))
 (.ret 0))
noncomputable def F82 (a27:Nat) (a28:List DV):Option (Int):=res B82 (.c0 a27 a28)
theorem jwU:∀ s,∃ d,jC cfz 82 d [] (jrA s)=(B82 s).mach jrA out82:=fun s=>match s with
 | .c0 a27 a28=>⟨(.go 13 [] [] (.cut 0 [[5,6,7]] [])),by kernel_rfl⟩
 | .c1 x29 x30 x31 y32=>⟨(.go 5 [] [] (.split 8 (.go 15 [(.br true),(.as (aI (dI (cel x30 (y32.toNat*1)))))] [0] (.split 12 (.go 7 [(.br true)] [0] .fin) (.go 8 [(.br false)] [0] (.cut 0 [[5,6,7]] [])))) (.go 7 [(.br false)] [0] .fin))),by kernel_rfl⟩
theorem f82 (a27:Nat) (a28:List DV) (v:Int) (h:F82 a27 a28=some v):PQ 82 [(.d (.sl a27 a28))] (out82 v):=jn jJ jwU (s:=.c0 a27 a28) rfl (by kernel_rfl) v h
inductive S27 where
 | c0 (a44 a45:Int)
def out27 (v:Int):AV:=(aI v)
noncomputable def jvK:S27→ASt
 | .c0 a44 a45=>ent cfz 27 [(.agg [(aI a44),(aI a45)])]
noncomputable def B27:S27→Tr S27 (Int)
 | .c0 a44 a45=>(.bind (F91 a44 2 16) fun v46 =>
 (.bind (F91 a45 1 8) fun v47 =>
 (.bind (F83 (decide (a45≥a44)) 11) fun v48 =>
 (.bind (F82 3 [(vI v46),(vI v47),(vI v48)]) fun v49 =>
 (.sees [(aI a44),(aI 2),(aI 16)] (.sees [(aI a45),(aI 1),(aI 8)] (.sees [(.d (.v (.bool (decide (a45≥a44))))),(aI 11)] (.sees [(.d (.sl 3 [(vI v46),(vI v47),(vI v48)]))] (.ret v49)))))))))
noncomputable def F27 (a44 a45:Int):Option (Int):=res B27 (.c0 a44 a45)
theorem jxY:∀ s,∃ d,jC cfz 27 d [] (jvK s)=(B27 s).mach jvK out27:=fun s=>match s with
 | .c0 a44 a45=>⟨(.go 7 [] [] (.bind (f91 a44 2 16) fun v46=>(.bind (f91 a45 1 8) fun v47=>(.bind (f83 (decide (a45≥a44)) 11) fun v48=>(.bind (f82 3 [(vI v46),(vI v47),(vI v48)]) fun v49=>(.go 2 [(.ck 0),(.ck 1),(.ck 2),(.ck 3)] [] .fin)))))),by kernel_rfl⟩
theorem f27 (a44 a45 v:Int) (h:F27 a44 a45=some v):PQ 27 [(.agg [(aI a44),(aI a45)])] (out27 v):=jn jJ jxY (s:=.c0 a44 a45) rfl (by kernel_rfl) v h
inductive S17 where
 | c0 (a57:Nat) (a58:List DV)
def out17 (v:Nat × List DV):AV:=(.d (.sl v.fst v.snd))
noncomputable def jth:S17→ASt
 | .c0 a57 a58=>ent cfz 17 [(.d (.sl a57 a58))]
noncomputable def B17:S17→Tr S17 (Nat × List DV)
 | .c0 a57 a58=>(.br (a57.beq 0)
 (.ask (.eqN a57 0) (.ret (0,[])))
 (.ask (.ltN 0 a57) (.ask (.eqN a58.length (a57*1)) (.ask (.fits a57 8) (.ret (a57,a58))))))
noncomputable def F17 (a57:Nat) (a58:List DV):Option (Nat × List DV):=res B17 (.c0 a57 a58)
theorem jy8:∀ s,∃ d,jC cfz 17 d [] (jth s)=(B17 s).mach jth out17:=fun s=>match s with
 | .c0 a57 a58=>⟨(.go 8 [] [] (.br (a57.beq 0) (.go 4 [(.br false)] [] .fin) (.go 4 [(.br true)] [] .fin))),by kernel_rfl⟩
theorem f17 (a57:Nat) (a58:List DV) (v:Nat × List DV) (h:F17 a57 a58=some v):PQ 17 [(.d (.sl a57 a58))] (out17 v):=jn jJ jy8 (s:=.c0 a57 a58) rfl (by kernel_rfl) v h
inductive S127 where
 | c0 (a76:Int)
def out127 (v:Int):AV:=(aI v)
noncomputable def jns:S127→ASt
 | .c0 a76=>ent cfz 127 [(aI a76)]
noncomputable def joG:S127→Tr S127 (Int)
 | .c0 a76=>(.bind (F91 a76 0 16) fun v77 =>
 (.sees [(aI a76),(aI 0),(aI 16)] (.ret v77)))
noncomputable def jg4 (a76:Int):Option (Int):=res joG (.c0 a76)
theorem jri:∀ s,∃ d,jC cfz 127 d [] (jns s)=(joG s).mach jns out127:=fun s=>match s with
 | .c0 a76=>⟨(.go 7 [] [] (.bind (f91 a76 0 16) fun v77=>(.go 4 [(.ck 0)] [] .fin))),by kernel_rfl⟩
theorem jrW (a76 v:Int) (h:jg4 a76=some v):PQ 127 [(aI a76)] (out127 v):=jn jJ jri (s:=.c0 a76) rfl (by kernel_rfl) v h
inductive S126 where
 | c0 (a70:Nat) (a71:List DV)
 | c1 (x72:Nat) (x73:List DV) (x74 y75:Int)
 | c2 (y79 y80:Nat) (y81:List DV) (x82:Nat) (x83:List DV) (x84 y85:Int) (y87:Nat)
def out126 (v:Nat × List DV):AV:=(.d (.sl v.fst v.snd))
noncomputable def jnC:S126→ASt
 | .c0 a70 a71=>ent cfz 126 [(.d (.sl a70 a71)),(.d (.v (.func (.func 127) (#[]) (#[]))))]
 | .c1 x72 x73 x74 y75=>⟨⟨126,sp 22 0 [(1,(.d (.v (.func (.func 127) (#[]) (#[]))))),(5,(.d (.v (.slice .none 0 0)))),(8,(.d (.sl x72 x73))),(9,(aI x74)),(10,(aI y75))],[(.code (cd cfz.P 126 [1,1,0,1,0,0])),(.inLoop (cd cfz.P 126 [1,1,0,1,0,0])),(.inBlock 0),(.code (cd cfz.P 126 [1,1,1]))],[],false,.none⟩,[],[]⟩
 | .c2 y79 y80 y81 x82 x83 x84 y85 y87=>⟨⟨126,sp 22 0 [(1,(.d (.v (.func (.func 127) (#[]) (#[]))))),(5,(.own 1 y79 1 y80 y81)),(8,(.d (.sl x82 x83))),(9,(aI x84)),(10,(aI y85))],[(.code (cd cfz.P 126 [1,1,0,1,0,0])),(.inLoop (cd cfz.P 126 [1,1,0,1,0,0])),(.inBlock 0),(.code (cd cfz.P 126 [1,1,1]))],[],false,.none⟩,[],[(.tail 0),(.tail y87)]⟩
noncomputable def jcL:S126→Tr S126 (Nat × List DV)
 | .c0 a70 a71=>(.nxt (.c1 a70 a71 ((↑a70:Int)) 0))
 | .c1 x72 x73 x74 y75=>(.br (decide (y75<x74))
 (.ask (.le 0 y75) (.ask (.lt y75 ((↑x72:Int))) (.ask (.leN (y75.toNat*1) x73.length) (.ask (.prop (Option.map AV.d (List.drop (y75.toNat*1) x73)[0]? = some (AV.d (vI (dI (cel x73 (y75.toNat*1))))))) (.bind (jg4 (dI (cel x73 (y75.toNat*1)))) fun v78 =>
 (.sees [(aI (dI (cel x73 (y75.toNat*1))))] (.ask (.in64 (y75+1)) (.nxt (.c2 0 1 [(vI v78)] x72 x73 x74 (y75+1) 0)))))))))
 (.ret (0,[])))
 | .c2 y79 y80 y81 x82 x83 x84 y85 y87=>(.br (decide (y85<x84))
 (.ask (.le 0 y85) (.ask (.lt y85 ((↑x82:Int))) (.ask (.leN (y85.toNat*1) x83.length) (.ask (.prop (Option.map AV.d (List.drop (y85.toNat*1) x83)[0]? = some (AV.d (vI (dI (cel x83 (y85.toNat*1))))))) (.bind (jg4 (dI (cel x83 (y85.toNat*1)))) fun v88 =>
 (.sees [(aI (dI (cel x83 (y85.toNat*1))))] (.ask (.eqN y79 y87) (.ask (.fits (y80+1) 8) (.ask (.in64 (y85+1)) (.nxt (.c2 (y87+1) (y80+1) (y81++[vI v88]) x82 x83 x84 (y85+1) (y87+1))))))))))))
 (.ret (y80,y81)))
noncomputable def jlK (a70:Nat) (a71:List DV):Option (Nat × List DV):=res jcL (.c0 a70 a71)
theorem jwh:∀ s,∃ d,jC cfz 126 d [] (jnC s)=(jcL s).mach jnC out126:=fun s=>match s with
 | .c0 a70 a71=>⟨(.go 17 [] [] (.cut 0 [[1,5,8,9,10]] [])),by kernel_rfl⟩
 | .c1 x72 x73 x74 y75=>⟨(.go 5 [] [] (.split 11 (.go 14 [(.br true),(.as (aI (dI (cel x73 (y75.toNat*1)))))] [0] (.bind (jrW (dI (cel x73 (y75.toNat*1)))) fun v78=>(.go 11 [(.ck 0)] [1,2,3] (.cut 2 [[1,5,8,9,10]] [])))) (.go 8 [(.br false)] [0] .fin))),by kernel_rfl⟩
 | .c2 y79 y80 y81 x82 x83 x84 y85 y87=>⟨(.go 5 [] [] (.split 11 (.go 14 [(.br true),(.as (aI (dI (cel x83 (y85.toNat*1)))))] [0] (.bind (jrW (dI (cel x83 (y85.toNat*1)))) fun v88=>(.go 11 [(.ck 0)] [2,3] (.cut 2 [[1,5,8,9,10]] [])))) (.go 8 [(.br false)] [0] .fin))),by kernel_rfl⟩
theorem jxi (a70:Nat) (a71:List DV) (v:Nat × List DV) (h:jlK a70 a71=some v):PQ 126 [(.d (.sl a70 a71)),(.d (.v (.func (.func 127) (#[]) (#[]))))] (out126 v):=jn jJ jwh (s:=.c0 a70 a71) rfl (by kernel_rfl) v h
inductive S84 where
 | c0 (a68:Nat) (a69:List DV)
def out84 (v:Int):AV:=(aI v)
noncomputable def jut:S84→ASt
 | .c0 a68 a69=>ent cfz 84 [(.d (.sl a68 a69))]
noncomputable def B84:S84→Tr S84 (Int)
 | .c0 a68 a69=>(.bind (jlK a68 a69) fun v89 =>
 (.sees [(.d (.sl a68 a69)),(.d (.v (.func (.func 127) (#[]) (#[]))))] (.bind (F82 v89.fst v89.snd) fun v90 =>
 (.sees [(.d (.sl v89.fst v89.snd))] (.ret v90)))))
noncomputable def F84 (a68:Nat) (a69:List DV):Option (Int):=res B84 (.c0 a68 a69)
theorem jw3:∀ s,∃ d,jC cfz 84 d [] (jut s)=(B84 s).mach jut out84:=fun s=>match s with
 | .c0 a68 a69=>⟨(.go 7 [] [] (.bind (jxi a68 a69) fun v89=>(.go 1 [(.ck 0)] [] (.bind (f82 v89.fst v89.snd) fun v90=>(.go 4 [(.ck 1)] [] .fin))))),by kernel_rfl⟩
theorem f84 (a68:Nat) (a69:List DV) (v:Int) (h:F84 a68 a69=some v):PQ 84 [(.d (.sl a68 a69))] (out84 v):=jn jJ jw3 (s:=.c0 a68 a69) rfl (by kernel_rfl) v h
inductive S105 where
 | c0 (a65:Nat) (a66:List DV)
def out105 (v:Int):AV:=(aI v)
noncomputable def jn7:S105→ASt
 | .c0 a65 a66=>ent cfz 105 [(.d (.sl a65 a66))]
noncomputable def jpF:S105→Tr S105 (Int)
 | .c0 a65 a66=>(.bind (F83 (decide ((↑a65:Int)>256)) 5) fun v67 =>
 (.sees [(.d (.v (.bool (decide ((↑a65:Int)>256))))),(aI 5)] (.bind (F84 a65 a66) fun v91 =>
 (.sees [(.d (.sl a65 a66))] (.bind (F82 2 [(vI v67),(vI v91)]) fun v92 =>
 (.sees [(.d (.sl 2 [(vI v67),(vI v91)]))] (.ret v92)))))))
noncomputable def jhN (a65:Nat) (a66:List DV):Option (Int):=res jpF (.c0 a65 a66)
theorem juO:∀ s,∃ d,jC cfz 105 d [] (jn7 s)=(jpF s).mach jn7 out105:=fun s=>match s with
 | .c0 a65 a66=>⟨(.go 9 [] [] (.bind (f83 (decide ((↑a65:Int)>256)) 5) fun v67=>(.go 2 [(.ck 0)] [] (.bind (f84 a65 a66) fun v91=>(.go 2 [(.ck 1)] [] (.bind (f82 2 [(vI v67),(vI v91)]) fun v92=>(.go 4 [(.ck 2)] [] .fin))))))),by kernel_rfl⟩
theorem jwp (a65:Nat) (a66:List DV) (v:Int) (h:jhN a65 a66=some v):PQ 105 [(.d (.sl a65 a66))] (out105 v):=jn jJ juO (s:=.c0 a65 a66) rfl (by kernel_rfl) v h
inductive S25 where
 | c0 (x0:Bool) (x1:Int)
def out25 (v:Int):AV:=(aI v)
noncomputable def juU:S25→ASt
 | .c0 x0 x1=>ent cfz 25 [(.d (.v (.bool x0))),(aI x1)]
noncomputable def B25:S25→Tr S25 (Int)
 | .c0 x0 x1=>(.br x0
 (.ret x1)
 (.ret 0))
noncomputable def F25 (x0:Bool) (x1:Int):Option (Int):=res B25 (.c0 x0 x1)
theorem jx8:∀ s,∃ d,jC cfz 25 d [] (juU s)=(B25 s).mach juU out25:=fun s=>match s with
 | .c0 x0 x1=>⟨(.go 9 [] [] (.split 5 (.go 7 [(.br true)] [0] .fin) (.go 7 [(.br false)] [0] .fin))),by kernel_rfl⟩
theorem f25 (x0:Bool) (x1 v:Int) (h:F25 x0 x1=some v):PQ 25 [(.d (.v (.bool x0))),(aI x1)] (out25 v):=jn jJ jx8 (s:=.c0 x0 x1) rfl (by kernel_rfl) v h
inductive S54 where
 | c0 (x0 x1 x2:Int)
def out54 (v:Int):AV:=(aI v)
noncomputable def jrg:S54→ASt
 | .c0 x0 x1 x2=>ent cfz 54 [(aI x0),(aI x1),(aI x2)]
noncomputable def B54:S54→Tr S54 (Int)
 | .c0 x0 x1 x2=>(.triv _ (JG (decide (x0<x1)==false)) (.triv _ (JG (decide (x0<x1)==false)) (.triv _ (qc (decide (x0<x1))) (.bind (F25 (if decide (x0<x1)=true then true else decide (x0>x2)) 3) fun x3 =>
 (.sees [(.d (.v (.bool (if decide (x0<x1)=true then true else decide (x0>x2))))),(aI 3)] (.ret x3))))))
noncomputable def F54 (x0 x1 x2:Int):Option (Int):=res B54 (.c0 x0 x1 x2)
theorem jyQ:∀ s,∃ d,jC cfz 54 d [] (jrg s)=(B54 s).mach jrg out54:=fun s=>match s with
 | .c0 x0 x1 x2=>⟨(.go 14 [(.sp .none),(.sp .none),(.sp .none),.mg] [] (.bind (f25 (if decide (x0<x1)=true then true else decide (x0>x2)) 3) fun x3=>(.go 4 [(.ck 0)] [] .fin))),by kernel_rfl⟩
theorem f54 (x0 x1 x2 v:Int) (h:F54 x0 x1 x2=some v):PQ 54 [(aI x0),(aI x1),(aI x2)] (out54 v):=jn jJ jyQ (s:=.c0 x0 x1 x2) rfl (by kernel_rfl) v h
inductive S55 where
 | c0 (x0:Int)
inductive S87 where
 | c0 (x0:Nat) (x1:List DV)
 | c1 (x0:Nat) (x1:List DV) (x2:Int)
def out87 (v:Int):AV:=(aI v)
noncomputable def jtO:S87→ASt
 | .c0 x0 x1=>ent cfz 87 [(.d (.sl x0 x1))]
 | .c1 x0 x1 x2=>⟨⟨87,sp 19 0 [(0,(.d (.sl x0 x1))),(3,(aI x2))],[(.code (cd cfz.P 87 [1,0,1,0,0])),(.inLoop (cd cfz.P 87 [1,0,1,0,0])),(.inBlock 0),(.code (cd cfz.P 87 [1,1]))],[],false,.none⟩,[],[]⟩
noncomputable def B87:S87→Tr S87 (Int)
 | .c0 x0 x1=>(.nxt (.c1 x0 x1 0))
 | .c1 x0 x1 x2=>(.br (decide (x2<(↑x0:Int)))
 (.ask (.le 0 x2) (.ask (.lt x2 ((↑x0:Int))) (.ask (.leN (x2.toNat*1) x1.length) (.ask (.prop (Option.map AV.d (List.drop (x2.toNat*1) x1)[0]? = some (AV.d (vI (dI (cel x1 (x2.toNat*1))))))) (.br (dI (cel x1 (x2.toNat*1)) != 0)
 (.ask (.le 0 x2) (.ask (.lt x2 ((↑x0:Int))) (.ask (.leN (x2.toNat*1) x1.length) (.ask (.prop (Option.map AV.d (List.drop (x2.toNat*1) x1)[0]? = some (AV.d (vI (dI (cel x1 (x2.toNat*1))))))) (.ret (dI (cel x1 (x2.toNat*1))))))))
 (.ask (.in64 (x2+1)) (.nxt (.c1 x0 x1 (x2+1)))))))))
 (.ret 0))
noncomputable def F87 (x0:Nat) (x1:List DV):Option (Int):=res B87 (.c0 x0 x1)
theorem jxk:∀ s,∃ d,jC cfz 87 d [] (jtO s)=(B87 s).mach jtO out87:=fun s=>match s with
 | .c0 x0 x1=>⟨(.go 11 [] [] (.cut 0 [[0,3]] [])),by kernel_rfl⟩
 | .c1 x0 x1 x2=>⟨(.go 8 [] [] (.split 7 (.go 12 [(.br true),(.as (aI (dI (cel x1 (x2.toNat*1)))))] [0] (.split 14 (.go 10 [(.br true),(.as (aI (dI (cel x1 (x2.toNat*1)))))] [0] .fin) (.go 9 [(.br false)] [0] (.cut 0 [[0,3]] [])))) (.go 7 [(.br false)] [0] .fin))),by kernel_rfl⟩
theorem f87 (x0:Nat) (x1:List DV) (v:Int) (h:F87 x0 x1=some v):PQ 87 [(.d (.sl x0 x1))] (out87 v):=jn jJ jxk (s:=.c0 x0 x1) rfl (by kernel_rfl) v h
inductive S39 where
 | c0 (x0:Nat) (x1:List DV)
inductive S28 where
 | c0 (x0 x1:Int)
def out28 (v:Int):AV:=(aI v)
noncomputable def jrl:S28→ASt
 | .c0 x0 x1=>ent cfz 28 [(.agg [(aI x0),(aI x1)])]
noncomputable def B28:S28→Tr S28 (Int)
 | .c0 x0 x1=>(.bind (F54 x0 2 16) fun x2 =>
 (.bind (F54 x1 1 8) fun x3 =>
 (.bind (F25 (decide (x1≥x0)) 11) fun x4 =>
 (.bind (F87 3 [(vI x2),(vI x3),(vI x4)]) fun x5 =>
 (.sees [(aI x0),(aI 2),(aI 16)] (.sees [(aI x1),(aI 1),(aI 8)] (.sees [(.d (.v (.bool (decide (x1≥x0))))),(aI 11)] (.sees [(.d (.sl 3 [(vI x2),(vI x3),(vI x4)]))] (.ret x5)))))))))
noncomputable def F28 (x0 x1:Int):Option (Int):=res B28 (.c0 x0 x1)
theorem jyn:∀ s,∃ d,jC cfz 28 d [] (jrl s)=(B28 s).mach jrl out28:=fun s=>match s with
 | .c0 x0 x1=>⟨(.go 7 [] [] (.bind (f54 x0 2 16) fun x2=>(.bind (f54 x1 1 8) fun x3=>(.bind (f25 (decide (x1≥x0)) 11) fun x4=>(.bind (f87 3 [(vI x2),(vI x3),(vI x4)]) fun x5=>(.go 2 [(.ck 0),(.ck 1),(.ck 2),(.ck 3)] [] .fin)))))),by kernel_rfl⟩
theorem f28 (x0 x1 v:Int) (h:F28 x0 x1=some v):PQ 28 [(.agg [(aI x0),(aI x1)])] (out28 v):=jn jJ jyn (s:=.c0 x0 x1) rfl (by kernel_rfl) v h
inductive S78 where
 | c0 (x0:Nat) (x1:List DV)
 | c1 (x0:Nat) (x1:List DV) (x2:Int)
def out78 (v:Int):AV:=(aI v)
noncomputable def jvY:S78→ASt
 | .c0 x0 x1=>ent cfz 78 [(.d (.sl x0 x1))]
 | .c1 x0 x1 x2=>⟨⟨78,sp 22 0 [(0,(.d (.sl x0 x1))),(3,(aI x2))],[(.code (cd cfz.P 78 [1,0,1,0,0])),(.inLoop (cd cfz.P 78 [1,0,1,0,0])),(.inBlock 0),(.code (cd cfz.P 78 [1,1]))],[],false,.none⟩,[],[]⟩
noncomputable def B78:S78→Tr S78 (Int)
 | .c0 x0 x1=>(.nxt (.c1 x0 x1 0))
 | .c1 x0 x1 x2=>(.br (decide (x2<(↑x0:Int)))
 (.ask (.le 0 x2) (.ask (.lt x2 ((↑x0:Int))) (.ask (.leN (x2.toNat*1) x1.length) (.ask (.prop (Option.map AV.d (List.drop (x2.toNat*1) x1)[0]? = some (AV.d (vI (dI (cel x1 (x2.toNat*1))))))) (.br (decide (dI (cel x1 (x2.toNat*1))<0))
 (.ret 3)
 (.ask (.eqB (decide (dI (cel x1 (x2.toNat*1))<0)==false) true) (.ask (.eqB (decide (dI (cel x1 (x2.toNat*1))<0)==false) true) (.ask (.le 0 x2) (.ask (.lt x2 ((↑x0:Int))) (.ask (.leN (x2.toNat*1) x1.length) (.ask (.prop (Option.map AV.d (List.drop (x2.toNat*1) x1)[0]? = some (AV.d (vI (dI (cel x1 (x2.toNat*1))))))) (.br (decide (dI (cel x1 (x2.toNat*1))≥17))
 (.ret 3)
 (.ask (.in64 (x2+1)) (.nxt (.c1 x0 x1 (x2+1))))))))))))))))
 (.ret 0))
noncomputable def F78 (x0:Nat) (x1:List DV):Option (Int):=res B78 (.c0 x0 x1)
theorem jxf:∀ s,∃ d,jC cfz 78 d [] (jvY s)=(B78 s).mach jvY out78:=fun s=>match s with
 | .c0 x0 x1=>⟨(.go 11 [] [] (.cut 0 [[0,3]] [])),by kernel_rfl⟩
 | .c1 x0 x1 x2=>⟨(.go 8 [] [] (.split 7 (.go 14 [(.br true),(.as (aI (dI (cel x1 (x2.toNat*1))))),(.sp .none),(.sp .none)] [0] (.split 15 (.go 11 [(.br true),(.br true),(.br true),.none,(.br true)] [0,1,2,3] .fin) (.strip 16 (.strip 17 (.go 5 [(.br false),(.br false),(.as (aI (dI (cel x1 (x2.toNat*1))))),(.br false)] [3,5,6] (.split 21 (.go 6 [(.br true)] [0] .fin) (.go 9 [(.br false)] [0] (.cut 0 [[0,3]] [])))))))) (.go 7 [(.br false)] [0] .fin))),by kernel_rfl⟩
theorem f78 (x0:Nat) (x1:List DV) (v:Int) (h:F78 x0 x1=some v):PQ 78 [(.d (.sl x0 x1))] (out78 v):=jn jJ jxf (s:=.c0 x0 x1) rfl (by kernel_rfl) v h
inductive S56 where
 | c0 (x0:Nat) (x1:List DV)
end Go.Kv
