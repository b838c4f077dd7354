import Derived.Test.YtdelimpnnpifpaaGreatDoorKvW
import Derived.Test.YtdelimpnnpifpaaGreatDoorChecked
set_option linter.all false
namespace Go.Kv
open Go Go.RowKit Go.Proofs
abbrev a8 (n:Int):AV:=.d (.v (.int .u8 n))
abbrev v8 (n:Int):DV:=.v (.int .u8 n)
def gl2:List DV:=[.v (.int .u64 1),.v (.int .u64 10),.v (.int .u64 100),.v (.int .u64 1000),.v (.int .u64 10000),.v (.int .u64 100000),.v (.int .u64 1000000),.v (.int .u64 10000000),.v (.int .u64 100000000),.v (.int .u64 1000000000),.v (.int .u64 10000000000),.v (.int .u64 100000000000),.v (.int .u64 1000000000000),.v (.int .u64 10000000000000),.v (.int .u64 100000000000000),.v (.int .u64 1000000000000000),.v (.int .u64 10000000000000000),.v (.int .u64 100000000000000000),.v (.int .u64 1000000000000000000),.v (.int .u64 10000000000000000000)]
def gl6:List DV:=[.v (.int .u8 0),.v (.int .u8 1),.v (.int .u8 28),.v (.int .u8 2),.v (.int .u8 29),.v (.int .u8 14),.v (.int .u8 24),.v (.int .u8 3),.v (.int .u8 30),.v (.int .u8 22),.v (.int .u8 20),.v (.int .u8 15),.v (.int .u8 25),.v (.int .u8 17),.v (.int .u8 4),.v (.int .u8 8),.v (.int .u8 31),.v (.int .u8 27),.v (.int .u8 13),.v (.int .u8 23),.v (.int .u8 21),.v (.int .u8 19),.v (.int .u8 16),.v (.int .u8 7),.v (.int .u8 26),.v (.int .u8 12),.v (.int .u8 18),.v (.int .u8 6),.v (.int .u8 11),.v (.int .u8 5),.v (.int .u8 10),.v (.int .u8 9)]
def gl7:List DV:=[.v (.int .u8 0),.v (.int .u8 1),.v (.int .u8 56),.v (.int .u8 2),.v (.int .u8 57),.v (.int .u8 49),.v (.int .u8 28),.v (.int .u8 3),.v (.int .u8 61),.v (.int .u8 58),.v (.int .u8 42),.v (.int .u8 50),.v (.int .u8 38),.v (.int .u8 29),.v (.int .u8 17),.v (.int .u8 4),.v (.int .u8 62),.v (.int .u8 47),.v (.int .u8 59),.v (.int .u8 36),.v (.int .u8 45),.v (.int .u8 43),.v (.int .u8 51),.v (.int .u8 22),.v (.int .u8 53),.v (.int .u8 39),.v (.int .u8 33),.v (.int .u8 30),.v (.int .u8 24),.v (.int .u8 18),.v (.int .u8 12),.v (.int .u8 5),.v (.int .u8 63),.v (.int .u8 55),.v (.int .u8 48),.v (.int .u8 27),.v (.int .u8 60),.v (.int .u8 41),.v (.int .u8 37),.v (.int .u8 16),.v (.int .u8 46),.v (.int .u8 35),.v (.int .u8 44),.v (.int .u8 21),.v (.int .u8 52),.v (.int .u8 32),.v (.int .u8 23),.v (.int .u8 11),.v (.int .u8 54),.v (.int .u8 26),.v (.int .u8 40),.v (.int .u8 15),.v (.int .u8 34),.v (.int .u8 20),.v (.int .u8 31),.v (.int .u8 10),.v (.int .u8 25),.v (.int .u8 14),.v (.int .u8 19),.v (.int .u8 9),.v (.int .u8 13),.v (.int .u8 8),.v (.int .u8 7),.v (.int .u8 6)]
def gl0:List DV:=[.v (.int .i64 1),.v (.int .i64 3),.v (.int .i64 9),.v (.int .i64 10),.v (.int .i64 13),.v (.int .i64 5),.v (.int .i64 15),.v (.int .i64 11),.v (.int .i64 16),.v (.int .i64 14),.v (.int .i64 8),.v (.int .i64 7),.v (.int .i64 4),.v (.int .i64 12),.v (.int .i64 2),.v (.int .i64 6)]
def jkl:Nat→Option (List DV)
 | 0=>some gl0
 | 2=>some gl2
 | 6=>some gl6
 | 7=>some gl7
 | _=>none
noncomputable def cfz:Cfg:={ P:=Tryz.prog,ex:=true,glob:=jkl }
end Go.Kv
namespace Go.Kv
open Go Go.RowKit Go.Proofs
def jd9 (P:Program):Bool:=P.funcs.toList.all fun fn=>fn.name != "runtime.NumGoroutine"
theorem jan {P:Program} (h:jd9 P=true):YF P:=by
 intro g fn hg
 unfold jd9 at h
 rw [List.all_eq_true] at h
 have:=h fn (by simpa using Array.mem_of_getElem? hg)
 simpa using this
theorem jfJ:jd9 cfz.P=true:=by kernel_rfl
theorem jJ:KnowOk cfz.P cfz.glob cfz.K:=⟨jan jfJ,by intro j kn h; simp [cfz] at h⟩
abbrev PQ (f:FuncId) (args:List AV) (v:AV):Prop:=PureCalls cfz.P cfz.glob f args v
noncomputable def cfs:Cfg:={ P:=Tryz.prog,ex:=true,glob:=fun _=>none }
theorem jfx:KnowOk cfs.P cfs.glob cfs.K:=⟨jan jfJ,by intro j kn h; simp [cfs] at h⟩
theorem cq {f:FuncId} {args:List AV} {v:AV} (d:CT cfz) (ps:List PC) (h:Ys cfz f d [] (ent cfz f args)=some (v,ps):=by kernel_rfl) (he:(ka cfz.P f args).isSome=true:=by kernel_rfl) (hp:AllP ps:=by repeat' (first | exact trivial | exact rfl | apply And.intro)):PQ f args v:=jA jJ he h hp
end Go.Kv
