import Derived.Test.YtdelimpnnpifpaaGreatDoorKvW
import Derived.Test.YtdelimpnnpifpaaGreatDoorKvZ
import Derived.Test.YtdelimpnnpifpaaGreatDoorKzA
set_option linter.all false
namespace Go.Kv
open Go Go.RowKit Go.Proofs
set_option maxRecDepth 100000
inductive S123 where
 | c0 (a22:Int)
def out123 (v:Int):AV:=(aI v)
noncomputable def jnA:S123→ASt
 | .c0 a22=>ent cfz 123 [(aI a22)]
noncomputable def jpE:S123→Tr S123 (Int)
 | .c0 a22=>(.ask (.le 0 (a22.tmod 16)) (.ask (.lt (a22.tmod 16) 16) (.ask (.leN ((a22.tmod 16).toNat*1) 16) (.ask (.prop (Option.map AV.d (List.drop ((a22.tmod 16).toNat*1) gl0)[0]? = some (AV.d (vI (dI (cel gl0 ((a22.tmod 16).toNat*1))))))) (.ret (dI (cel gl0 ((a22.tmod 16).toNat*1))))))))
noncomputable def Yt (a22:Int):Option (Int):=res jpE (.c0 a22)
theorem jqG:∀ s,∃ d,jC cfz 123 d [] (jnA s)=(jpE s).mach jnA out123:=fun s=>match s with
 | .c0 a22=>⟨(.go 13 [(.as (aI (dI (cel gl0 ((a22.tmod 16).toNat*1)))))] [0] .fin),by kernel_rfl⟩
theorem jbe (a22:Int) (v:Int) (h:Yt a22=some v):PQ 123 [(aI a22)] (out123 v):=jn jJ jqG (s:=.c0 a22) rfl (by kernel_rfl) v h
inductive S122 where
 | c0 (a24:Int)
def out122 (v:Int):AV:=(aI v)
noncomputable def jnY:S122→ASt
 | .c0 a24=>ent cfz 122 [(aI a24)]
noncomputable def joK:S122→Tr S122 (Int)
 | .c0 a24=>(.ask (.in64 (a24.tmod 17+17)) (.ret ((a24.tmod 17+17).tmod 17)))
noncomputable def yw (a24:Int):Option (Int):=res joK (.c0 a24)
theorem jtQ:∀ s,∃ d,jC cfz 122 d [] (jnY s)=(joK s).mach jnY out122:=fun s=>match s with
 | .c0 a24=>⟨(.go 13 [] [0,2] .fin),by kernel_rfl⟩
theorem GD (a24:Int) (v:Int) (h:yw a24=some v):PQ 122 [(aI a24)] (out122 v):=jn jJ jtQ (s:=.c0 a24) rfl (by kernel_rfl) v h
inductive S80 where
 | c0 (a4:Int) (a5:Int) (a6:Nat) (a7:List DV)
 | c1 (x8:Nat) (x9:List DV) (x10:Nat) (x11:Int) (y12:Int) (x13:List AV)
 | c2 (x14:Nat) (x15:List DV) (x16:Nat) (x17:Int) (x18:Int) (x19:Int) (y20:Int) (x21:List AV)
def out80 (v:Nat × List DV):AV:=(.d (.sl v.fst v.snd))
noncomputable def jsQ:S80→ASt
 | .c0 a4 a5 a6 a7=>ent cfz 80 [(.agg [(aI a4),(aI a5)]),(.d (.sl a6 a7))]
 | .c1 x8 x9 x10 x11 y12 x13=>⟨⟨80,sp 43 0 [(1,(.d (.sl x8 x9))),(5,(.ms 1 0 1 x10 x10)),(13,(aI x11)),(14,(aI y12))],[(.code (cd cfz.P 80 [1,1,0,1,0,0])),(.inLoop (cd cfz.P 80 [1,1,0,1,0,0])),(.inBlock 0),(.code (cd cfz.P 80 [1,1,1]))],[],false,.none⟩,[],[.dead,(.cells x13 3)]⟩
 | .c2 x14 x15 x16 x17 x18 x19 y20 x21=>⟨⟨80,sp 43 0 [(1,(.d (.sl x14 x15))),(5,(.ms 1 0 1 x16 x16)),(6,(aI x17)),(13,(aI x18)),(14,(aI x17)),(17,(.d (.sl x14 x15))),(18,(aI x19)),(19,(aI y20))],[(.code (cd cfz.P 80 [1,1,0,1,0,0,1,1,0,0,1,1,0,0])),(.inLoop (cd cfz.P 80 [1,1,0,1,0,0,1,1,0,0,1,1,0,0])),(.inBlock 2),(.inBlock 1),(.code (cd cfz.P 80 [1,1,0,1,0,0,1,1,1])),(.inLoop (cd cfz.P 80 [1,1,0,1,0,0])),(.inBlock 0),(.code (cd cfz.P 80 [1,1,1]))],[],false,.none⟩,[],[.dead,(.cells x21 3)]⟩
noncomputable def B80:S80→Tr S80 (Nat × List DV)
 | .c0 a4 a5 a6 a7=>(.ask (.le 0 a5) (.ask (.le a5 a5) (.ask (.le (8*a5) 281474976710656) (.ask (.le a5 9223372036854775807) (.ask (.prop (jK 2 (ABlk.cells (J2 (List.map (fun (x:Value)=>AV.d (DV.v x)) (Value.int IntKind.i64 0).cells.toList) a5.toNat) 3)=true)) (.nxt (.c1 a6 a7 a5.toNat ((↑a5.toNat:Int)) 0 (J2 (List.map (fun (x:Value)=>AV.d (DV.v x)) (Value.int IntKind.i64 0).cells.toList) a5.toNat))))))))
 | .c1 x8 x9 x10 x11 y12 x13=>(.br (decide (y12<x11))
 (.ask (.prop (jK 2 (ABlk.cells x13 3)=true)) (.nxt (.c2 x8 x9 x10 y12 x11 ((↑x8:Int)) 0 x13)))
 (.ask (.leN (0+x10*1) x13.length) (.ask (.prop (toDs (List.take (x10*1) (List.drop 0 x13))=some (List.map aD (List.take (x10*1) (List.drop 0 x13))))) (.ret (x10,(List.map aD (List.take (x10*1) (List.drop 0 x13))))))))
 | .c2 x14 x15 x16 x17 x18 x19 y20 x21=>(.br (decide (y20<x19))
 (.ask (.le 0 y20) (.ask (.lt y20 ((↑x14:Int))) (.ask (.leN (y20.toNat*1) x15.length) (.ask (.prop (Option.map AV.d (List.drop (y20.toNat*1) x15)[0]? = some (AV.d (vI (dI (cel x15 (y20.toNat*1))))))) (.bind (Yt (y20*(x17+1))) fun v23 =>
 (.bind (yw (dI (JY x21 (0+x17.toNat*1))+dI (cel x15 (y20.toNat*1))*v23)) fun v25 =>
 (.ask (.le 0 x17) (.ask (.lt x17 ((↑x16:Int))) (.ask (.prop (x21[0+x17.toNat*1]? = some (AV.d (vI (dI (JY x21 (0+x17.toNat*1))))))) (.ask (.in64 (x17+1)) (.ask (.in64 (y20*(x17+1))) (.sees [(aI (y20*(x17+1)))] (.ask (.in64 (dI (cel x15 (y20.toNat*1))*v23)) (.ask (.in64 (dI (JY x21 (0+x17.toNat*1))+dI (cel x15 (y20.toNat*1))*v23)) (.sees [(aI (dI (JY x21 (0+x17.toNat*1))+dI (cel x15 (y20.toNat*1))*v23))] (.ask (.le 0 x17) (.ask (.lt x17 ((↑x16:Int))) (.ask (.leN (0+x17.toNat*1+1) x21.length) (.triv _ (Qr (jv x21 (0+x17.toNat*1) [AV.d (vI v25)])) (.ask (.in64 (y20+1)) (.ask (.prop (jK 2 (ABlk.cells (jv x21 (0+x17.toNat*1) [AV.d (vI v25)]) 3)=true)) (.nxt (.c2 x14 x15 x16 x17 x18 x19 (y20+1) (jv x21 (0+x17.toNat*1) [AV.d (vI v25)]))))))))))))))))))))))))
 (.ask (.in64 (x17+1)) (.ask (.prop (jK 2 (ABlk.cells x21 3)=true)) (.nxt (.c1 x14 x15 x16 x18 (x17+1) x21)))))
noncomputable def F80 (a4:Int) (a5:Int) (a6:Nat) (a7:List DV):Option (Nat × List DV):=res B80 (.c0 a4 a5 a6 a7)
theorem jyw:∀ s,∃ d,jC cfz 80 d [] (jsQ s)=(B80 s).mach jsQ out80:=fun s=>match s with
 | .c0 a4 a5 a6 a7=>⟨(.go 21 [] [] (.cutP 2 [1] [[1,5,13,14]] [0])),by kernel_rfl⟩
 | .c1 x8 x9 x10 x11 y12 x13=>⟨(.go 5 [] [] (.split 15 (.go 17 [(.br true)] [0] (.cutP 2 [1] [[1,5,6,13,14,17,18,19]] [])) (.go 8 [(.br false)] [0] .finP))),by kernel_rfl⟩
 | .c2 x14 x15 x16 x17 x18 x19 y20 x21=>⟨(.go 5 [] [] (.split 20 (.go 13 [(.br true),(.as (aI (dI (cel x15 (y20.toNat*1)))))] [0] (.bind (jbe (y20*(x17+1))) fun v23=>(.bind (GD (dI (JY x21 (0+x17.toNat*1))+dI (cel x15 (y20.toNat*1))*v23)) fun v25=>(.go 7 [(.as (aI (dI (JY x21 (0+x17.toNat*1))))),(.ck 0),(.ck 1),(.as (.agg (jv x21 (0+x17.toNat*1) [AV.d (vI v25)])))] [11] (.cutP 2 [1] [[1,5,6,13,14,17,18,19]] []))))) (.go 8 [(.br false)] [0] (.cutP 2 [1] [[1,5,13,14]] [])))),by kernel_rfl⟩
theorem f80 (a4:Int) (a5:Int) (a6:Nat) (a7:List DV) (v:Nat × List DV) (h:F80 a4 a5 a6 a7=some v):PQ 80 [(.agg [(aI a4),(aI a5)]),(.d (.sl a6 a7))] (out80 v):=jn jJ jyw (s:=.c0 a4 a5 a6 a7) rfl (by kernel_rfl) v h
inductive S125 where
 | c0 (a35:Int)
def out125 (v:Bool):AV:=(.d (.v (.bool v)))
noncomputable def jnk:S125→ASt
 | .c0 a35=>ent cfz 125 [(aI a35)]
noncomputable def jpR:S125→Tr S125 (Bool)
 | .c0 a35=>(.ret (a35 != 0))
noncomputable def jl0 (a35:Int):Option (Bool):=res jpR (.c0 a35)
theorem juE:∀ s,∃ d,jC cfz 125 d [] (jnk s)=(jpR s).mach jnk out125:=fun s=>match s with
 | .c0 a35=>⟨(.go 11 [] [] .fin),by kernel_rfl⟩
theorem jw1 (a35:Int) (v:Bool) (h:jl0 a35=some v):PQ 125 [(aI a35)] (out125 v):=jn jJ juE (s:=.c0 a35) rfl (by kernel_rfl) v h
inductive S156 where
 | c0 (a29:Nat) (a30:List DV)
 | c1 (x31:Nat) (x32:List DV) (x33:Int) (y34:Int)
def out156 (v:Int):AV:=(aI v)
noncomputable def jnT:S156→ASt
 | .c0 a29 a30=>ent cfz 156 [(.d (.sl a29 a30)),(.d (.v (.func (.func 125) (#[]) (#[]))))]
 | .c1 x31 x32 x33 y34=>⟨⟨156,sp 19 0 [(0,(.d (.sl x31 x32))),(1,(.d (.v (.func (.func 125) (#[]) (#[]))))),(7,(aI x33)),(8,(aI y34))],[(.code (cd cfz.P 156 [1,0,1,0,0])),(.inLoop (cd cfz.P 156 [1,0,1,0,0])),(.inBlock 0),(.code (cd cfz.P 156 [1,1]))],[],false,.none⟩,[],[]⟩
noncomputable def jei:S156→Tr S156 (Int)
 | .c0 a29 a30=>(.nxt (.c1 a29 a30 ((↑a29:Int)) 0))
 | .c1 x31 x32 x33 y34=>(.br (decide (y34<x33))
 (.ask (.le 0 y34) (.ask (.lt y34 ((↑x31:Int))) (.ask (.leN (y34.toNat*1) x32.length) (.ask (.prop (Option.map AV.d (List.drop (y34.toNat*1) x32)[0]? = some (AV.d (vI (dI (cel x32 (y34.toNat*1))))))) (.bind (jl0 (dI (cel x32 (y34.toNat*1)))) fun v36 =>
 (.sees [(aI (dI (cel x32 (y34.toNat*1))))] (.br v36
 (.ret y34)
 (.ask (.in64 (y34+1)) (.nxt (.c1 x31 x32 x33 (y34+1)))))))))))
 (.ret (-1)))
noncomputable def jmt (a29:Nat) (a30:List DV):Option (Int):=res jei (.c0 a29 a30)
theorem jsY:∀ s,∃ d,jC cfz 156 d [] (jnT s)=(jei s).mach jnT out156:=fun s=>match s with
 | .c0 a29 a30=>⟨(.go 13 [] [] (.cut 0 [[0,1,7,8]] [])),by kernel_rfl⟩
 | .c1 x31 x32 x33 y34=>⟨(.go 5 [] [] (.split 9 (.go 16 [(.br true),(.as (aI (dI (cel x32 (y34.toNat*1)))))] [0] (.bind (jw1 (dI (cel x32 (y34.toNat*1)))) fun v36=>(.go 2 [(.ck 0)] [] (.split 16 (.go 7 [(.br true)] [0] .fin) (.go 8 [(.br false)] [0] (.cut 0 [[0,1,7,8]] [])))))) (.go 7 [(.br false)] [0] .fin))),by kernel_rfl⟩
theorem f156 (a29:Nat) (a30:List DV) (v:Int) (h:jmt a29 a30=some v):PQ 156 [(.d (.sl a29 a30)),(.d (.v (.func (.func 125) (#[]) (#[]))))] (out156 v):=jn jJ jsY (s:=.c0 a29 a30) rfl (by kernel_rfl) v h
inductive S124 where
 | c0 (a27:Nat) (a28:List DV)
def out124 (v:Bool):AV:=(.d (.v (.bool v)))
noncomputable def jnq:S124→ASt
 | .c0 a27 a28=>ent cfz 124 [(.d (.sl a27 a28)),(.d (.v (.func (.func 125) (#[]) (#[]))))]
noncomputable def jpn:S124→Tr S124 (Bool)
 | .c0 a27 a28=>(.bind (jmt a27 a28) fun v37 =>
 (.sees [(.d (.sl a27 a28)),(.d (.v (.func (.func 125) (#[]) (#[]))))] (.ret (decide (v37≥0)))))
noncomputable def jmZ (a27:Nat) (a28:List DV):Option (Bool):=res jpn (.c0 a27 a28)
theorem jtt:∀ s,∃ d,jC cfz 124 d [] (jnq s)=(jpn s).mach jnq out124:=fun s=>match s with
 | .c0 a27 a28=>⟨(.go 8 [] [] (.bind (f156 a27 a28) fun v37=>(.go 5 [(.ck 0)] [] .fin))),by kernel_rfl⟩
theorem jw8 (a27:Nat) (a28:List DV) (v:Bool) (h:jmZ a27 a28=some v):PQ 124 [(.d (.sl a27 a28)),(.d (.v (.func (.func 125) (#[]) (#[]))))] (out124 v):=jn jJ jtt (s:=.c0 a27 a28) rfl (by kernel_rfl) v h
inductive S81 where
 | c0 (a0:Int) (a1:Int) (a2:Nat) (a3:List DV)
def out81 (v:Bool):AV:=(.d (.v (.bool v)))
noncomputable def jqF:S81→ASt
 | .c0 a0 a1 a2 a3=>ent cfz 81 [(.agg [(aI a0),(aI a1)]),(.d (.sl a2 a3))]
noncomputable def B81:S81→Tr S81 (Bool)
 | .c0 a0 a1 a2 a3=>(.bind (F80 a0 a1 a2 a3) fun v26 =>
 (.sees [(.agg [(aI a0),(aI a1)]),(.d (.sl a2 a3))] (.bind (jmZ v26.fst v26.snd) fun v38 =>
 (.sees [(.d (.sl v26.fst v26.snd)),(.d (.v (.func (.func 125) (#[]) (#[]))))] (.ret (!v38))))))
noncomputable def F81 (a0:Int) (a1:Int) (a2:Nat) (a3:List DV):Option (Bool):=res B81 (.c0 a0 a1 a2 a3)
theorem jx9:∀ s,∃ d,jC cfz 81 d [] (jqF s)=(B81 s).mach jqF out81:=fun s=>match s with
 | .c0 a0 a1 a2 a3=>⟨(.go 9 [] [] (.bind (f80 a0 a1 a2 a3) fun v26=>(.go 1 [(.ck 0)] [] (.bind (jw8 v26.fst v26.snd) fun v38=>(.go 5 [(.ck 1)] [] .fin))))),by kernel_rfl⟩
theorem f81 (a0:Int) (a1:Int) (a2:Nat) (a3:List DV) (v:Bool) (h:F81 a0 a1 a2 a3=some v):PQ 81 [(.agg [(aI a0),(aI a1)]),(.d (.sl a2 a3))] (out81 v):=jn jJ jx9 (s:=.c0 a0 a1 a2 a3) rfl (by kernel_rfl) v h
end Go.Kv
