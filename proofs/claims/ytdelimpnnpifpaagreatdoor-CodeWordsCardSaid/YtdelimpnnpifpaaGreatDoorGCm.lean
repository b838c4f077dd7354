import Derived.Test.YtdelimpnnpifpaaGreatDoorKvW
import Derived.Test.YtdelimpnnpifpaaGreatDoorKvZ
import Derived.Test.YtdelimpnnpifpaaGreatDoorKzA
set_option linter.all false
namespace Go.Kv
open Go Go.RowKit Go.Proofs
set_option maxRecDepth 100000
inductive S198 where
 | c0 (a18:Int)
def out198 (v:Bool):AV:=(.d (.v (.bool v)))
noncomputable def jf5:S198→ASt
 | .c0 a18=>ent cfs 198 [(.d (.v (.int .i64 a18)))]
noncomputable def jl3:S198→Tr S198 (Bool)
 | .c0 a18=>(.ret (a18 != a18))
noncomputable def jjy (a18:Int):Option (Bool):=res jl3 (.c0 a18)
noncomputable def jps (a18:Int):DT cfs:=(.go 12 [] [] .fin)
theorem jqW (a18:Int):jF cfs 198 (jps a18) [] (jf5 (.c0 a18))=(jl3 (.c0 a18)).mach jf5 out198:=by kernel_rfl
theorem jwB:∀ s,∃ d,jF cfs 198 d [] (jf5 s)=(jl3 s).mach jf5 out198
 | .c0 a18=>⟨_,jqW a18⟩
theorem jvh (a18:Int) (v:Bool) (h:jjy a18=some v):PureCalls cfs.P cfs.glob 198 [(.d (.v (.int .i64 a18)))] (out198 v):=ju jfN jwB (s:=.c0 a18) rfl (by kernel_rfl) v h
inductive S178 where
 | c0 (a16:Int) (a17:Int)
def out178 (v:Int):AV:=(.d (.v (.int .i64 v)))
noncomputable def jfy:S178→ASt
 | .c0 a16 a17=>ent cfs 178 [(.d (.v (.int .i64 a16))),(.d (.v (.int .i64 a17)))]
noncomputable def jmZ:S178→Tr S178 (Int)
 | .c0 a16 a17=>(.bind (jjy a16) fun v19 =>
 (.sees [(.d (.v (.int .i64 a16)))] (.bind (jjy a17) fun v20 =>
 (.sees [(.d (.v (.int .i64 a17)))] (.br v19
 (.br v20
 (.ret 0)
 (.ret (-1)))
 (.br v20
 (.ret 1)
 (.br (decide (a16<a17))
 (.ret (-1))
 (.br (decide (a16>a17))
 (.ret 1)
 (.ret 0)))))))))
noncomputable def jnb (a16:Int) (a17:Int):Option (Int):=res jmZ (.c0 a16 a17)
noncomputable def jqb (a16:Int) (a17:Int):DT cfs:=(.go 7 [] [] (.bind (jvh a16) fun v19=>(.go 6 [(.ck 0)] [] (.bind (jvh a17) fun v20=>(.go 8 [(.ck 1)] [] (.split 11 (.go 6 [(.br true)] [0] (.split 12 (.go 6 [(.br true)] [0] .fin) (.go 7 [(.br false)] [0] .fin))) (.go 7 [(.br false)] [0] (.split 13 (.go 6 [(.br true)] [0] .fin) (.go 9 [(.br false)] [0] (.split 16 (.go 6 [(.br true)] [0] .fin) (.go 9 [(.br false)] [0] (.split 19 (.go 6 [(.br true)] [0] .fin) (.go 7 [(.br false)] [0] .fin)))))))))))))
theorem jo6 (a16:Int) (a17:Int):jF cfs 178 (jqb a16 a17) [] (jfy (.c0 a16 a17))=(jmZ (.c0 a16 a17)).mach jfy out178:=by kernel_rfl
theorem jrp:∀ s,∃ d,jF cfs 178 d [] (jfy s)=(jmZ s).mach jfy out178
 | .c0 a16 a17=>⟨_,jo6 a16 a17⟩
theorem jw7 (a16:Int) (a17:Int) (v:Int) (h:jnb a16 a17=some v):PureCalls cfs.P cfs.glob 178 [(.d (.v (.int .i64 a16))),(.d (.v (.int .i64 a17)))] (out178 v):=ju jfN jrp (s:=.c0 a16 a17) rfl (by kernel_rfl) v h
inductive S159 where
 | c0 (a6:Nat) (a7:List DV) (a8:Nat) (a9:List DV)
 | c1 (x10:Nat) (x11:List DV) (x12:Nat) (x13:List DV) (x14:Int) (y15:Int)
def out159 (v:Int):AV:=(.d (.v (.int .i64 v)))
noncomputable def jaf:S159→ASt
 | .c0 a6 a7 a8 a9=>ent cfs 159 [(.d (.sl a6 a7)),(.d (.sl a8 a9))]
 | .c1 x10 x11 x12 x13 x14 y15=>⟨⟨159,sp 36 0 [(0,(.d (.sl x10 x11))),(1,(.d (.sl x12 x13))),(9,(.d (.sl x10 x11))),(10,(.d (.v (.int .i64 x14)))),(11,(.d (.v (.int .i64 y15))))],[(.code (cd cfs.P 159 [1,0,1,0,0])),(.inLoop (cd cfs.P 159 [1,0,1,0,0])),(.inBlock 0),(.code (cd cfs.P 159 [1,1]))],[],false,.none⟩,[],[]⟩
noncomputable def Gc:S159→Tr S159 (Int)
 | .c0 a6 a7 a8 a9=>(.nxt (.c1 a6 a7 a8 a9 ((↑a6:Int)) 0))
 | .c1 x10 x11 x12 x13 x14 y15=>(.br (decide (y15<x14))
 (.ask (.le 0 y15) (.ask (.lt y15 ((↑x10:Int))) (.ask (.leN (y15.toNat*1) x11.length) (.ask (.prop (Option.map AV.d (List.drop (y15.toNat*1) x11)[0]? = some (AV.d (DV.v (Value.int IntKind.i64 (dI (cel x11 (y15.toNat*1)))))))) (.br (decide (y15≥(↑x12:Int)))
 (.ret 1)
 (.ask (.le 0 y15) (.ask (.lt y15 ((↑x12:Int))) (.ask (.leN (y15.toNat*1) x13.length) (.ask (.prop (Option.map AV.d (List.drop (y15.toNat*1) x13)[0]? = some (AV.d (DV.v (Value.int IntKind.i64 (dI (cel x13 (y15.toNat*1)))))))) (.bind (jnb (dI (cel x11 (y15.toNat*1))) (dI (cel x13 (y15.toNat*1)))) fun v21 =>
 (.sees [(.d (.v (.int .i64 (dI (cel x11 (y15.toNat*1)))))),(.d (.v (.int .i64 (dI (cel x13 (y15.toNat*1))))))] (.br (v21 != 0)
 (.ret v21)
 (.ask (.in64 (y15+1)) (.nxt (.c1 x10 x11 x12 x13 x14 (y15+1))))))))))))))))
 (.br (decide ((↑x10:Int)<(↑x12:Int)))
 (.ret (-1))
 (.ret 0)))
noncomputable def jmS (a6:Nat) (a7:List DV) (a8:Nat) (a9:List DV):Option (Int):=res Gc (.c0 a6 a7 a8 a9)
noncomputable def jph (a6:Nat) (a7:List DV) (a8:Nat) (a9:List DV):DT cfs:=(.go 13 [] [] (.cut 0 [[0,1,9,10,11]] []))
theorem jpe (a6:Nat) (a7:List DV) (a8:Nat) (a9:List DV):jF cfs 159 (jph a6 a7 a8 a9) [] (jaf (.c0 a6 a7 a8 a9))=(Gc (.c0 a6 a7 a8 a9)).mach jaf out159:=by kernel_rfl
noncomputable def jqS (x10:Nat) (x11:List DV) (x12:Nat) (x13:List DV) (x14:Int) (y15:Int):DT cfs:=(.go 5 [] [] (.split 12 (.go 20 [(.br true),(.as (.d (.v (.int .i64 (dI (cel x11 (y15.toNat*1)))))))] [0] (.split 19 (.go 6 [(.br true)] [0] .fin) (.go 14 [(.br false),(.as (.d (.v (.int .i64 (dI (cel x13 (y15.toNat*1)))))))] [0] (.bind (jw7 (dI (cel x11 (y15.toNat*1))) (dI (cel x13 (y15.toNat*1)))) fun v21=>(.go 8 [(.ck 0)] [] (.split 28 (.go 7 [(.br true)] [0] .fin) (.go 8 [(.br false)] [0] (.cut 0 [[0,1,9,10,11]] [])))))))) (.go 11 [(.br false)] [0] (.split 35 (.go 6 [(.br true)] [0] .fin) (.go 7 [(.br false)] [0] .fin)))))
theorem jqN (x10:Nat) (x11:List DV) (x12:Nat) (x13:List DV) (x14:Int) (y15:Int):jF cfs 159 (jqS x10 x11 x12 x13 x14 y15) [] (jaf (.c1 x10 x11 x12 x13 x14 y15))=(Gc (.c1 x10 x11 x12 x13 x14 y15)).mach jaf out159:=by kernel_rfl
theorem jv2:∀ s,∃ d,jF cfs 159 d [] (jaf s)=(Gc s).mach jaf out159
 | .c0 a6 a7 a8 a9=>⟨_,jpe a6 a7 a8 a9⟩
 | .c1 x10 x11 x12 x13 x14 y15=>⟨_,jqN x10 x11 x12 x13 x14 y15⟩
theorem jxC (a6:Nat) (a7:List DV) (a8:Nat) (a9:List DV) (v:Int) (h:jmS a6 a7 a8 a9=some v):PureCalls cfs.P cfs.glob 159 [(.d (.sl a6 a7)),(.d (.sl a8 a9))] (out159 v):=ju jfN jv2 (s:=.c0 a6 a7 a8 a9) rfl (by kernel_rfl) v h
inductive S137 where
 | c0 (a0:Nat) (a1:List DV) (a2:Int) (a3:Nat) (a4:List DV) (a5:Int)
def out137 (v:Int):AV:=(.d (.v (.int .i64 v)))
noncomputable def jfB:S137→ASt
 | .c0 a0 a1 a2 a3 a4 a5=>ent cfs 137 [(.agg [(.d (.sl a0 a1)),(.d (.v (.int .i64 a2)))]),(.agg [(.d (.sl a3 a4)),(.d (.v (.int .i64 a5)))])]
noncomputable def jmb:S137→Tr S137 (Int)
 | .c0 a0 a1 a2 a3 a4 a5=>(.br (a2 != a5)
 (.ask (.in64 (a2 - a5)) (.ret (a2 - a5)))
 (.bind (jmS a0 a1 a3 a4) fun v22 =>
 (.sees [(.d (.sl a0 a1)),(.d (.sl a3 a4))] (.ret v22))))
noncomputable def jsY (a0:Nat) (a1:List DV) (a2:Int) (a3:Nat) (a4:List DV) (a5:Int):Option (Int):=res jmb (.c0 a0 a1 a2 a3 a4 a5)
noncomputable def jpd (a0:Nat) (a1:List DV) (a2:Int) (a3:Nat) (a4:List DV) (a5:Int):DT cfs:=(.go 15 [] [] (.split 9 (.go 11 [(.br true)] [0] .fin) (.go 10 [(.br false)] [0] (.bind (jxC a0 a1 a3 a4) fun v22=>(.go 4 [(.ck 0)] [] .fin)))))
theorem jqv (a0:Nat) (a1:List DV) (a2:Int) (a3:Nat) (a4:List DV) (a5:Int):jF cfs 137 (jpd a0 a1 a2 a3 a4 a5) [] (jfB (.c0 a0 a1 a2 a3 a4 a5))=(jmb (.c0 a0 a1 a2 a3 a4 a5)).mach jfB out137:=by kernel_rfl
theorem jvb:∀ s,∃ d,jF cfs 137 d [] (jfB s)=(jmb s).mach jfB out137
 | .c0 a0 a1 a2 a3 a4 a5=>⟨_,jqv a0 a1 a2 a3 a4 a5⟩
theorem jy0 (a0:Nat) (a1:List DV) (a2:Int) (a3:Nat) (a4:List DV) (a5:Int) (v:Int) (h:jsY a0 a1 a2 a3 a4 a5=some v):PureCalls cfs.P cfs.glob 137 [(.agg [(.d (.sl a0 a1)),(.d (.v (.int .i64 a2)))]),(.agg [(.d (.sl a3 a4)),(.d (.v (.int .i64 a5)))])] (out137 v):=ju jfN jvb (s:=.c0 a0 a1 a2 a3 a4 a5) rfl (by kernel_rfl) v h
end Go.Kv
