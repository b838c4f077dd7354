/- awake(), a closed call: the contracts of what it calls. -/
import Derived.Test.YtnafdaccamncdaaKvW
import Derived.Test.YtnafdaccamncdaaKzA
import Derived.Test.YtnafdaccamncdaaKzW3
namespace Go.Kv
set_option linter.unusedVariables false
set_option linter.unusedSimpArgs false
open Go Go.RowKit Go.Proofs
set_option maxRecDepth 100000
noncomputable def aw45D : CT cfz := .run 16 [] <|  .fin
theorem aw45k : crun cfz 26 aw45D [] (ent cfz 26 [(.d (.v (.bool false))), (.d (.v (.int .i64 12)))]) = some ((.d (.v (.int .i64 0))), []) := by kernel_rfl
theorem aw45 : PureCalls cfz.P cfz.glob 26 [(.d (.v (.bool false))), (.d (.v (.int .i64 12)))] (.d (.v (.int .i64 0))) := closed_ok knil (by kernel_rfl) aw45k trivial

noncomputable def aw46D : CT cfz := .run 16 [] <|  .fin
theorem aw46k : crun cfz 26 aw46D [] (ent cfz 26 [(.d (.v (.bool false))), (.d (.v (.int .i64 5)))]) = some ((.d (.v (.int .i64 0))), []) := by kernel_rfl
theorem aw46 : PureCalls cfz.P cfz.glob 26 [(.d (.v (.bool false))), (.d (.v (.int .i64 5)))] (.d (.v (.int .i64 0))) := closed_ok knil (by kernel_rfl) aw46k trivial

noncomputable def aw47D : CT cfz := .run 81 [] <|  .fin
theorem aw47k : crun cfz 23 aw47D [] (ent cfz 23 [(.d (.sl 2 [(.v (.int .i64 0)), (.v (.int .i64 0))]))]) = some ((.d (.v (.int .i64 0))), []) := by kernel_rfl
theorem aw47 : PureCalls cfz.P cfz.glob 23 [(.d (.sl 2 [(.v (.int .i64 0)), (.v (.int .i64 0))]))] (.d (.v (.int .i64 0))) := closed_ok knil (by kernel_rfl) aw47k trivial

noncomputable def aw48D : CT cfz := .run 16 [] <|  .fin
theorem aw48k : crun cfz 26 aw48D [] (ent cfz 26 [(.d (.v (.bool false))), (.d (.v (.int .i64 3)))]) = some ((.d (.v (.int .i64 0))), []) := by kernel_rfl
theorem aw48 : PureCalls cfz.P cfz.glob 26 [(.d (.v (.bool false))), (.d (.v (.int .i64 3)))] (.d (.v (.int .i64 0))) := closed_ok knil (by kernel_rfl) aw48k trivial

noncomputable def aw49D : CT cfz := .run 14 [] <| .use aw48 <| .run 1 [(.ck 0)] <| .run 3 [] <|  .fin
theorem aw49k : crun cfz 25 aw49D [] (ent cfz 25 [(.d (.v (.int .i64 2))), (.d (.v (.int .i64 0))), (.d (.v (.int .i64 7)))]) = some ((.d (.v (.int .i64 0))), [.eqA [(.d (.v (.bool false))), (.d (.v (.int .i64 3)))] [(.d (.v (.bool false))), (.d (.v (.int .i64 3)))]]) := by kernel_rfl
theorem aw49 : PureCalls cfz.P cfz.glob 25 [(.d (.v (.int .i64 2))), (.d (.v (.int .i64 0))), (.d (.v (.int .i64 7)))] (.d (.v (.int .i64 0))) := closed_ok knil (by kernel_rfl) aw49k ⟨rfl, trivial⟩

noncomputable def aw50D : CT cfz := .run 7 [] <| .use aw49 <| .run 1 [(.ck 0)] <| .run 3 [] <|  .fin
theorem aw50k : crun cfz 33 aw50D [] (ent cfz 33 [(.d (.v (.int .i64 2)))]) = some ((.d (.v (.int .i64 0))), [.eqA [(.d (.v (.int .i64 2))), (.d (.v (.int .i64 0))), (.d (.v (.int .i64 7)))] [(.d (.v (.int .i64 2))), (.d (.v (.int .i64 0))), (.d (.v (.int .i64 7)))]]) := by kernel_rfl
theorem aw50 : PureCalls cfz.P cfz.glob 33 [(.d (.v (.int .i64 2)))] (.d (.v (.int .i64 0))) := closed_ok knil (by kernel_rfl) aw50k ⟨rfl, trivial⟩

noncomputable def aw51D : CT cfz := .run 14 [] <| .use aw48 <| .run 1 [(.ck 0)] <| .run 3 [] <|  .fin
theorem aw51k : crun cfz 25 aw51D [] (ent cfz 25 [(.d (.v (.int .i64 3))), (.d (.v (.int .i64 0))), (.d (.v (.int .i64 7)))]) = some ((.d (.v (.int .i64 0))), [.eqA [(.d (.v (.bool false))), (.d (.v (.int .i64 3)))] [(.d (.v (.bool false))), (.d (.v (.int .i64 3)))]]) := by kernel_rfl
theorem aw51 : PureCalls cfz.P cfz.glob 25 [(.d (.v (.int .i64 3))), (.d (.v (.int .i64 0))), (.d (.v (.int .i64 7)))] (.d (.v (.int .i64 0))) := closed_ok knil (by kernel_rfl) aw51k ⟨rfl, trivial⟩

noncomputable def aw52D : CT cfz := .run 7 [] <| .use aw51 <| .run 1 [(.ck 0)] <| .run 3 [] <|  .fin
theorem aw52k : crun cfz 33 aw52D [] (ent cfz 33 [(.d (.v (.int .i64 3)))]) = some ((.d (.v (.int .i64 0))), [.eqA [(.d (.v (.int .i64 3))), (.d (.v (.int .i64 0))), (.d (.v (.int .i64 7)))] [(.d (.v (.int .i64 3))), (.d (.v (.int .i64 0))), (.d (.v (.int .i64 7)))]]) := by kernel_rfl
theorem aw52 : PureCalls cfz.P cfz.glob 33 [(.d (.v (.int .i64 3)))] (.d (.v (.int .i64 0))) := closed_ok knil (by kernel_rfl) aw52k ⟨rfl, trivial⟩

noncomputable def aw53D : CT cfz := .run 36 [] <| .use aw50 <| .run 1 [(.ck 0)] <| .run 29 [] <| .use aw52 <| .run 1 [(.ck 1)] <| .run 23 [] <|  .fin
theorem aw53k : crun cfz 34 aw53D [] (ent cfz 34 [(.d (.sl 2 [(.v (.int .i64 2)), (.v (.int .i64 3))])), (.d (.v (.func (.func 33) (#[]) (#[]))))]) = some ((.d (.sl 2 [(.v (.int .i64 0)), (.v (.int .i64 0))])), [.eqA [(.d (.v (.int .i64 2)))] [(.d (.v (.int .i64 2)))], .eqA [(.d (.v (.int .i64 3)))] [(.d (.v (.int .i64 3)))]]) := by kernel_rfl
theorem aw53 : PureCalls cfz.P cfz.glob 34 [(.d (.sl 2 [(.v (.int .i64 2)), (.v (.int .i64 3))])), (.d (.v (.func (.func 33) (#[]) (#[]))))] (.d (.sl 2 [(.v (.int .i64 0)), (.v (.int .i64 0))])) := closed_ok knil (by kernel_rfl) aw53k ⟨rfl, ⟨rfl, trivial⟩⟩

noncomputable def aw54D : CT cfz := .run 16 [] <|  .fin
theorem aw54k : crun cfz 26 aw54D [] (ent cfz 26 [(.d (.v (.bool false))), (.d (.v (.int .i64 10)))]) = some ((.d (.v (.int .i64 0))), []) := by kernel_rfl
theorem aw54 : PureCalls cfz.P cfz.glob 26 [(.d (.v (.bool false))), (.d (.v (.int .i64 10)))] (.d (.v (.int .i64 0))) := closed_ok knil (by kernel_rfl) aw54k trivial

noncomputable def aw55D : CT cfz := .run 16 [] <|  .fin
theorem aw55k : crun cfz 26 aw55D [] (ent cfz 26 [(.d (.v (.bool false))), (.d (.v (.int .i64 11)))]) = some ((.d (.v (.int .i64 0))), []) := by kernel_rfl
theorem aw55 : PureCalls cfz.P cfz.glob 26 [(.d (.v (.bool false))), (.d (.v (.int .i64 11)))] (.d (.v (.int .i64 0))) := closed_ok knil (by kernel_rfl) aw55k trivial

noncomputable def aw56D : CT cfz := .run 51 [] <| .use aw54 <| .run 1 [(.ck 0)] <| .run 3 [] <| .use aw55 <| .run 1 [(.ck 1)] <| .run 1 [] <| .use aw47 <| .run 1 [(.ck 2)] <| .run 44 [] <| .run 1 [(.ck 0)] <| .run 3 [] <| .run 1 [(.ck 1)] <| .run 1 [] <| .run 1 [(.ck 2)] <| .run 31 [] <|  .fin
theorem aw56k : crun cfz 28 aw56D [] (ent cfz 28 [(.d (.v (.int .i64 2))), (.d (.sl 2 [(.v (.int .i64 0)), (.v (.int .i64 1))]))]) = some ((.d (.v (.int .i64 0))), [.eqA [(.d (.v (.bool false))), (.d (.v (.int .i64 10)))] [(.d (.v (.bool false))), (.d (.v (.int .i64 10)))], .eqA [(.d (.v (.bool false))), (.d (.v (.int .i64 11)))] [(.d (.v (.bool false))), (.d (.v (.int .i64 11)))], .eqA [(.d (.sl 2 [(.v (.int .i64 0)), (.v (.int .i64 0))]))] [(.d (.sl 2 [(.v (.int .i64 0)), (.v (.int .i64 0))]))], .eqA [(.d (.v (.bool false))), (.d (.v (.int .i64 10)))] [(.d (.v (.bool false))), (.d (.v (.int .i64 10)))], .eqA [(.d (.v (.bool false))), (.d (.v (.int .i64 11)))] [(.d (.v (.bool false))), (.d (.v (.int .i64 11)))], .eqA [(.d (.sl 2 [(.v (.int .i64 0)), (.v (.int .i64 0))]))] [(.d (.sl 2 [(.v (.int .i64 0)), (.v (.int .i64 0))]))]]) := by kernel_rfl
theorem aw56 : PureCalls cfz.P cfz.glob 28 [(.d (.v (.int .i64 2))), (.d (.sl 2 [(.v (.int .i64 0)), (.v (.int .i64 1))]))] (.d (.v (.int .i64 0))) := closed_ok knil (by kernel_rfl) aw56k ⟨rfl, ⟨rfl, ⟨rfl, ⟨rfl, ⟨rfl, ⟨rfl, trivial⟩⟩⟩⟩⟩⟩

noncomputable def aw57D : CT cfz := .run 90 [] <|  .fin
theorem aw57k : crun cfz 35 aw57D [] (ent cfz 35 [(.d (.sl 2 [(.v (.int .i64 2)), (.v (.int .i64 3))])), (.d (.sl 2 [(.v (.int .i64 0)), (.v (.int .i64 1))]))]) = some ((.d (.v (.int .i64 5))), []) := by kernel_rfl
theorem aw57 : PureCalls cfz.P cfz.glob 35 [(.d (.sl 2 [(.v (.int .i64 2)), (.v (.int .i64 3))])), (.d (.sl 2 [(.v (.int .i64 0)), (.v (.int .i64 1))]))] (.d (.v (.int .i64 5))) := closed_ok knil (by kernel_rfl) aw57k trivial

noncomputable def aw58D : CT cfz := .run 11 [] <| .use aw45 <| .run 1 [(.ck 0)] <| .run 3 [] <| .use aw46 <| .run 1 [(.ck 1)] <| .run 1 [] <| .use aw47 <| .run 1 [(.ck 2)] <| .run 18 [] <| .use aw53 <| .run 1 [(.ck 3)] <| .run 1 [(.ck 2)] <| .run 3 [] <| .use aw56 <| .run 1 [(.ck 4)] <| .run 1 [] <| .run 1 [(.ck 2)] <| .run 13 [] <| .use aw57 <| .run 1 [(.ck 5)] <| .run 4 [] <|  .fin
theorem aw58k : crun cfz 11 aw58D [] (ent cfz 11 [(.d (.sl 2 [(.v (.int .i64 2)), (.v (.int .i64 3))])), (.d (.sl 2 [(.v (.int .i64 0)), (.v (.int .i64 1))]))]) = some ((.tup [(.d (.v (.int .i64 5))), (.d (.v (.int .i64 0)))]), [.eqA [(.d (.v (.bool false))), (.d (.v (.int .i64 12)))] [(.d (.v (.bool false))), (.d (.v (.int .i64 12)))], .eqA [(.d (.v (.bool false))), (.d (.v (.int .i64 5)))] [(.d (.v (.bool false))), (.d (.v (.int .i64 5)))], .eqA [(.d (.sl 2 [(.v (.int .i64 0)), (.v (.int .i64 0))]))] [(.d (.sl 2 [(.v (.int .i64 0)), (.v (.int .i64 0))]))], .eqA [(.d (.sl 2 [(.v (.int .i64 2)), (.v (.int .i64 3))])), (.d (.v (.func (.func 33) (#[]) (#[]))))] [(.d (.sl 2 [(.v (.int .i64 2)), (.v (.int .i64 3))])), (.d (.v (.func (.func 33) (#[]) (#[]))))], .eqA [(.d (.sl 2 [(.v (.int .i64 0)), (.v (.int .i64 0))]))] [(.d (.sl 2 [(.v (.int .i64 0)), (.v (.int .i64 0))]))], .eqA [(.d (.v (.int .i64 2))), (.d (.sl 2 [(.v (.int .i64 0)), (.v (.int .i64 1))]))] [(.d (.v (.int .i64 2))), (.d (.sl 2 [(.v (.int .i64 0)), (.v (.int .i64 1))]))], .eqA [(.d (.sl 2 [(.v (.int .i64 0)), (.v (.int .i64 0))]))] [(.d (.sl 2 [(.v (.int .i64 0)), (.v (.int .i64 0))]))], .eqA [(.d (.sl 2 [(.v (.int .i64 2)), (.v (.int .i64 3))])), (.d (.sl 2 [(.v (.int .i64 0)), (.v (.int .i64 1))]))] [(.d (.sl 2 [(.v (.int .i64 2)), (.v (.int .i64 3))])), (.d (.sl 2 [(.v (.int .i64 0)), (.v (.int .i64 1))]))]]) := by kernel_rfl
theorem aw58 : PureCalls cfz.P cfz.glob 11 [(.d (.sl 2 [(.v (.int .i64 2)), (.v (.int .i64 3))])), (.d (.sl 2 [(.v (.int .i64 0)), (.v (.int .i64 1))]))] (.tup [(.d (.v (.int .i64 5))), (.d (.v (.int .i64 0)))]) := closed_ok knil (by kernel_rfl) aw58k ⟨rfl, ⟨rfl, ⟨rfl, ⟨rfl, ⟨rfl, ⟨rfl, ⟨rfl, ⟨rfl, trivial⟩⟩⟩⟩⟩⟩⟩⟩

noncomputable def aw59D : CT cfz := .run 9 [] <| .use aw44 <| .run 1 [(.ck 0)] <| .run 14 [] <| .use aw58 <| .run 1 [(.ck 1)] <| .run 27 [] <|  .fin
theorem aw59k : crun cfz 5 aw59D [] (ent cfz 5 []) = some ((.d (.v (.bool true))), [.eqA [(.agg [(.d (.v (.int .i64 0))), (.d (.v (.int .i64 0))), (.d (.v (.int .i64 0))), (.d (.v (.int .i64 0))), (.d (.v (.int .i64 0))), (.d (.v (.int .i64 0))), (.d (.v (.int .i64 0))), (.d (.v (.int .i64 0))), (.d (.v (.int .i64 0))), (.d (.v (.int .i64 0))), (.d (.v (.int .i64 0))), (.d (.v (.int .i64 0)))]), (.d (.sl 4 [(.v (.float .f32 1115291648)), (.v (.float .f32 0)), (.v (.float .f32 0)), (.v (.float .f32 0))])), (.d (.sl 4 [(.v (.float .f32 1123680256)), (.v (.float .f32 0)), (.v (.float .f32 0)), (.v (.float .f32 0))]))] [(.agg [(.d (.v (.int .i64 0))), (.d (.v (.int .i64 0))), (.d (.v (.int .i64 0))), (.d (.v (.int .i64 0))), (.d (.v (.int .i64 0))), (.d (.v (.int .i64 0))), (.d (.v (.int .i64 0))), (.d (.v (.int .i64 0))), (.d (.v (.int .i64 0))), (.d (.v (.int .i64 0))), (.d (.v (.int .i64 0))), (.d (.v (.int .i64 0)))]), (.d (.sl 4 [(.v (.float .f32 1115291648)), (.v (.float .f32 0)), (.v (.float .f32 0)), (.v (.float .f32 0))])), (.d (.sl 4 [(.v (.float .f32 1123680256)), (.v (.float .f32 0)), (.v (.float .f32 0)), (.v (.float .f32 0))]))], .eqA [(.d (.sl 2 [(.v (.int .i64 2)), (.v (.int .i64 3))])), (.d (.sl 2 [(.v (.int .i64 0)), (.v (.int .i64 1))]))] [(.d (.sl 2 [(.v (.int .i64 2)), (.v (.int .i64 3))])), (.d (.sl 2 [(.v (.int .i64 0)), (.v (.int .i64 1))]))]]) := by kernel_rfl
theorem aw59 : PureCalls cfz.P cfz.glob 5 [] (.d (.v (.bool true))) := closed_ok knil (by kernel_rfl) aw59k ⟨rfl, ⟨rfl, trivial⟩⟩

end Go.Kv
