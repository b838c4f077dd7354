import Derived.Test.YtfdjkfmiofgclaaGreatDoorKvW
import Derived.Test.YtfdjkfmiofgclaaGreatDoorKzA
namespace Go.Kv
set_option linter.all false
open Go Go.RowKit Go.Proofs
theorem cq {f : FuncId} {args : List AV} {v : AV} (d : CT cfz) (ps : List PC) (h : crun cfz f d [] (ent cfz f args) = some (v, ps) := by kernel_rfl) (he : (enterA cfz.P f args).isSome = true := by kernel_rfl) (hp : AllP ps := by repeat' (first | exact trivial | exact rfl | apply And.intro)) : PQ f args v := closed_ok knil he h hp
end Go.Kv
