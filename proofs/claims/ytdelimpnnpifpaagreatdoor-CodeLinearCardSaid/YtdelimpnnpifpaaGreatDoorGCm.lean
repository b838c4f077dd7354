import Derived.Test.YtdelimpnnpifpaaGreatDoorKvW
import Derived.Test.YtdelimpnnpifpaaGreatDoorKvZ
import Derived.Test.YtdelimpnnpifpaaGreatDoorKzA
set_option linter.all false
namespace Go.Kv
open Go Go.RowKit Go.Proofs
set_option maxRecDepth 100000
inductive S198 where
 | c0 (a18:Int)
def out198 (v:Bool):AV:=(.d (.v (.bool v)))
noncomputable def je2:S198→ASt
 | .c0 a18=>ent cfs 198 [(.d (.v (.int .i64 a18)))]
noncomputable def jmG:S198→Tr S198 (Bool)
 | .c0 a18=>(.ret (a18 != a18))
noncomputable def jhE (a18:Int):Option (Bool):=res jmG (.c0 a18)
noncomputable def joH (a18:Int):DT cfs:=(.go 12 [] [] .fin)
theorem jpG (a18:Int):jC cfs 198 (joH a18) [] (je2 (.c0 a18))=(jmG (.c0 a18)).mach je2 out198:=by kernel_rfl
theorem jwj:∀ s,∃ d,jC cfs 198 d [] (je2 s)=(jmG s).mach je2 out198
 | .c0 a18=>⟨_,jpG a18⟩
theorem juQ (a18:Int) (v:Bool) (h:jhE a18=some v):PureCalls cfs.P cfs.glob 198 [(.d (.v (.int .i64 a18)))] (out198 v):=jn jfx jwj (s:=.c0 a18) rfl (by kernel_rfl) v h
inductive S178 where
 | c0 (a16:Int) (a17:Int)
def out178 (v:Int):AV:=(.d (.v (.int .i64 v)))
noncomputable def jfb:S178→ASt
 | .c0 a16 a17=>ent cfs 178 [(.d (.v (.int .i64 a16))),(.d (.v (.int .i64 a17)))]
noncomputable def jmc:S178→Tr S178 (Int)
 | .c0 a16 a17=>(.bind (jhE a16) fun v19 =>
 (.sees [(.d (.v (.int .i64 a16)))] (.bind (jhE a17) fun v20 =>
 (.sees [(.d (.v (.int .i64 a17)))] (.br v19
 (.br v20
 (.ret 0)
 (.ret (-1)))
 (.br v20
 (.ret 1)
 (.br (decide (a16<a17))
 (.ret (-1))
 (.br (decide (a16>a17))
 (.ret 1)
 (.ret 0)))))))))
noncomputable def jmM (a16:Int) (a17:Int):Option (Int):=res jmc (.c0 a16 a17)
noncomputable def joR (a16:Int) (a17:Int):DT cfs:=(.go 7 [] [] (.bind (juQ a16) fun v19=>(.go 6 [(.ck 0)] [] (.bind (juQ a17) fun v20=>(.go 8 [(.ck 1)] [] (.split 11 (.go 6 [(.br true)] [0] (.split 12 (.go 6 [(.br true)] [0] .fin) (.go 7 [(.br false)] [0] .fin))) (.go 7 [(.br false)] [0] (.split 13 (.go 6 [(.br true)] [0] .fin) (.go 9 [(.br false)] [0] (.split 16 (.go 6 [(.br true)] [0] .fin) (.go 9 [(.br false)] [0] (.split 19 (.go 6 [(.br true)] [0] .fin) (.go 7 [(.br false)] [0] .fin)))))))))))))
theorem jo5 (a16:Int) (a17:Int):jC cfs 178 (joR a16 a17) [] (jfb (.c0 a16 a17))=(jmc (.c0 a16 a17)).mach jfb out178:=by kernel_rfl
theorem jsc:∀ s,∃ d,jC cfs 178 d [] (jfb s)=(jmc s).mach jfb out178
 | .c0 a16 a17=>⟨_,jo5 a16 a17⟩
theorem jwx (a16:Int) (a17:Int) (v:Int) (h:jmM a16 a17=some v):PureCalls cfs.P cfs.glob 178 [(.d (.v (.int .i64 a16))),(.d (.v (.int .i64 a17)))] (out178 v):=jn jfx jsc (s:=.c0 a16 a17) rfl (by kernel_rfl) v h
inductive S159 where
 | c0 (a6:Nat) (a7:List DV) (a8:Nat) (a9:List DV)
 | c1 (x10:Nat) (x11:List DV) (x12:Nat) (x13:List DV) (x14:Int) (y15:Int)
def out159 (v:Int):AV:=(.d (.v (.int .i64 v)))
noncomputable def GJ:S159→ASt
 | .c0 a6 a7 a8 a9=>ent cfs 159 [(.d (.sl a6 a7)),(.d (.sl a8 a9))]
 | .c1 x10 x11 x12 x13 x14 y15=>⟨⟨159,sp 36 0 [(0,(.d (.sl x10 x11))),(1,(.d (.sl x12 x13))),(9,(.d (.sl x10 x11))),(10,(.d (.v (.int .i64 x14)))),(11,(.d (.v (.int .i64 y15))))],[(.code (cd cfs.P 159 [1,0,1,0,0])),(.inLoop (cd cfs.P 159 [1,0,1,0,0])),(.inBlock 0),(.code (cd cfs.P 159 [1,1]))],[],false,.none⟩,[],[]⟩
noncomputable def Gf:S159→Tr S159 (Int)
 | .c0 a6 a7 a8 a9=>(.nxt (.c1 a6 a7 a8 a9 ((↑a6:Int)) 0))
 | .c1 x10 x11 x12 x13 x14 y15=>(.br (decide (y15<x14))
 (.ask (.le 0 y15) (.ask (.lt y15 ((↑x10:Int))) (.ask (.leN (y15.toNat*1) x11.length) (.ask (.prop (Option.map AV.d (List.drop (y15.toNat*1) x11)[0]? = some (AV.d (DV.v (Value.int IntKind.i64 (dI (cel x11 (y15.toNat*1)))))))) (.br (decide (y15≥(↑x12:Int)))
 (.ret 1)
 (.ask (.le 0 y15) (.ask (.lt y15 ((↑x12:Int))) (.ask (.leN (y15.toNat*1) x13.length) (.ask (.prop (Option.map AV.d (List.drop (y15.toNat*1) x13)[0]? = some (AV.d (DV.v (Value.int IntKind.i64 (dI (cel x13 (y15.toNat*1)))))))) (.bind (jmM (dI (cel x11 (y15.toNat*1))) (dI (cel x13 (y15.toNat*1)))) fun v21 =>
 (.sees [(.d (.v (.int .i64 (dI (cel x11 (y15.toNat*1)))))),(.d (.v (.int .i64 (dI (cel x13 (y15.toNat*1))))))] (.br (v21 != 0)
 (.ret v21)
 (.ask (.in64 (y15+1)) (.nxt (.c1 x10 x11 x12 x13 x14 (y15+1))))))))))))))))
 (.br (decide ((↑x10:Int)<(↑x12:Int)))
 (.ret (-1))
 (.ret 0)))
noncomputable def jlG (a6:Nat) (a7:List DV) (a8:Nat) (a9:List DV):Option (Int):=res Gf (.c0 a6 a7 a8 a9)
noncomputable def jql (a6:Nat) (a7:List DV) (a8:Nat) (a9:List DV):DT cfs:=(.go 13 [] [] (.cut 0 [[0,1,9,10,11]] []))
theorem joV (a6:Nat) (a7:List DV) (a8:Nat) (a9:List DV):jC cfs 159 (jql a6 a7 a8 a9) [] (GJ (.c0 a6 a7 a8 a9))=(Gf (.c0 a6 a7 a8 a9)).mach GJ out159:=by kernel_rfl
noncomputable def jpf (x10:Nat) (x11:List DV) (x12:Nat) (x13:List DV) (x14:Int) (y15:Int):DT cfs:=(.go 5 [] [] (.split 12 (.go 20 [(.br true),(.as (.d (.v (.int .i64 (dI (cel x11 (y15.toNat*1)))))))] [0] (.split 19 (.go 6 [(.br true)] [0] .fin) (.go 14 [(.br false),(.as (.d (.v (.int .i64 (dI (cel x13 (y15.toNat*1)))))))] [0] (.bind (jwx (dI (cel x11 (y15.toNat*1))) (dI (cel x13 (y15.toNat*1)))) fun v21=>(.go 8 [(.ck 0)] [] (.split 28 (.go 7 [(.br true)] [0] .fin) (.go 8 [(.br false)] [0] (.cut 0 [[0,1,9,10,11]] [])))))))) (.go 11 [(.br false)] [0] (.split 35 (.go 6 [(.br true)] [0] .fin) (.go 7 [(.br false)] [0] .fin)))))
theorem jpg (x10:Nat) (x11:List DV) (x12:Nat) (x13:List DV) (x14:Int) (y15:Int):jC cfs 159 (jpf x10 x11 x12 x13 x14 y15) [] (GJ (.c1 x10 x11 x12 x13 x14 y15))=(Gf (.c1 x10 x11 x12 x13 x14 y15)).mach GJ out159:=by kernel_rfl
theorem jre:∀ s,∃ d,jC cfs 159 d [] (GJ s)=(Gf s).mach GJ out159
 | .c0 a6 a7 a8 a9=>⟨_,joV a6 a7 a8 a9⟩
 | .c1 x10 x11 x12 x13 x14 y15=>⟨_,jpg x10 x11 x12 x13 x14 y15⟩
theorem jwz (a6:Nat) (a7:List DV) (a8:Nat) (a9:List DV) (v:Int) (h:jlG a6 a7 a8 a9=some v):PureCalls cfs.P cfs.glob 159 [(.d (.sl a6 a7)),(.d (.sl a8 a9))] (out159 v):=jn jfx jre (s:=.c0 a6 a7 a8 a9) rfl (by kernel_rfl) v h
inductive S137 where
 | c0 (a0:Nat) (a1:List DV) (a2:Int) (a3:Nat) (a4:List DV) (a5:Int)
def out137 (v:Int):AV:=(.d (.v (.int .i64 v)))
noncomputable def jfs:S137→ASt
 | .c0 a0 a1 a2 a3 a4 a5=>ent cfs 137 [(.agg [(.d (.sl a0 a1)),(.d (.v (.int .i64 a2)))]),(.agg [(.d (.sl a3 a4)),(.d (.v (.int .i64 a5)))])]
noncomputable def jlN:S137→Tr S137 (Int)
 | .c0 a0 a1 a2 a3 a4 a5=>(.br (a2 != a5)
 (.ask (.in64 (a2 - a5)) (.ret (a2 - a5)))
 (.bind (jlG a0 a1 a3 a4) fun v22 =>
 (.sees [(.d (.sl a0 a1)),(.d (.sl a3 a4))] (.ret v22))))
noncomputable def jtd (a0:Nat) (a1:List DV) (a2:Int) (a3:Nat) (a4:List DV) (a5:Int):Option (Int):=res jlN (.c0 a0 a1 a2 a3 a4 a5)
noncomputable def jpM (a0:Nat) (a1:List DV) (a2:Int) (a3:Nat) (a4:List DV) (a5:Int):DT cfs:=(.go 15 [] [] (.split 9 (.go 11 [(.br true)] [0] .fin) (.go 10 [(.br false)] [0] (.bind (jwz a0 a1 a3 a4) fun v22=>(.go 4 [(.ck 0)] [] .fin)))))
theorem jof (a0:Nat) (a1:List DV) (a2:Int) (a3:Nat) (a4:List DV) (a5:Int):jC cfs 137 (jpM a0 a1 a2 a3 a4 a5) [] (jfs (.c0 a0 a1 a2 a3 a4 a5))=(jlN (.c0 a0 a1 a2 a3 a4 a5)).mach jfs out137:=by kernel_rfl
theorem ju1:∀ s,∃ d,jC cfs 137 d [] (jfs s)=(jlN s).mach jfs out137
 | .c0 a0 a1 a2 a3 a4 a5=>⟨_,jof a0 a1 a2 a3 a4 a5⟩
theorem jx7 (a0:Nat) (a1:List DV) (a2:Int) (a3:Nat) (a4:List DV) (a5:Int) (v:Int) (h:jtd a0 a1 a2 a3 a4 a5=some v):PureCalls cfs.P cfs.glob 137 [(.agg [(.d (.sl a0 a1)),(.d (.v (.int .i64 a2)))]),(.agg [(.d (.sl a3 a4)),(.d (.v (.int .i64 a5)))])] (out137 v):=jn jfx ju1 (s:=.c0 a0 a1 a2 a3 a4 a5) rfl (by kernel_rfl) v h
end Go.Kv
