/- awake(), a closed call: the contracts of what it calls. -/
import Derived.Test.YtnafdaccamncdaaKvW
import Derived.Test.YtnafdaccamncdaaKzA
import Derived.Test.YtnafdaccamncdaaKzW1
namespace Go.Kv
set_option linter.unusedVariables false
set_option linter.unusedSimpArgs false
open Go Go.RowKit Go.Proofs
set_option maxRecDepth 100000
noncomputable def aw16D : CT cfz := .run 7 [] <| .use aw10 <| .run 1 [(.ck 0)] <| .use aw11 <| .run 1 [(.ck 1)] <| .run 1 [] <| .use aw14 <| .run 1 [(.ck 2)] <| .run 1 [] <| .use aw15 <| .run 1 [(.ck 3)] <| .run 3 [] <|  .fin
theorem aw16k : crun cfz 42 aw16D [] (ent cfz 42 [(.d (.v (.float .f32 1115291648)))]) = some ((.d (.v (.int .i64 0))), [.eqA [(.d (.v (.float .f32 1115291648)))] [(.d (.v (.float .f32 1115291648)))], .eqA [(.d (.v (.bool false))), (.d (.v (.int .i64 1)))] [(.d (.v (.bool false))), (.d (.v (.int .i64 1)))], .eqA [(.d (.v (.float .f32 1115291648))), (.d (.v (.float .f32 1149239296)))] [(.d (.v (.float .f32 1115291648))), (.d (.v (.float .f32 1149239296)))], .eqA [(.d (.sl 2 [(.v (.int .i64 0)), (.v (.int .i64 0))]))] [(.d (.sl 2 [(.v (.int .i64 0)), (.v (.int .i64 0))]))]]) := by kernel_rfl
theorem aw16 : PureCalls cfz.P cfz.glob 42 [(.d (.v (.float .f32 1115291648)))] (.d (.v (.int .i64 0))) := closed_ok knil (by kernel_rfl) aw16k ⟨rfl, ⟨rfl, ⟨rfl, ⟨rfl, trivial⟩⟩⟩⟩

noncomputable def aw17D : CT cfz := .run 12 [] <|  .fin
theorem aw17k : crun cfz 60 aw17D [] (ent cfz 60 [(.d (.v (.float .f64 0)))]) = some ((.d (.v (.bool false))), []) := by kernel_rfl
theorem aw17 : PureCalls cfz.P cfz.glob 60 [(.d (.v (.float .f64 0)))] (.d (.v (.bool false))) := closed_ok knil (by kernel_rfl) aw17k trivial

noncomputable def aw18D : CT cfz := .run 7 [] <| .run 1 [(.ext (.int .u64 0))] <| .run 1 [] <| .run 1 [(.ext (.float .f64 0))] <| .run 3 [] <|  .fin
theorem aw18k : crun cfz 63 aw18D [] (ent cfz 63 [(.d (.v (.float .f64 0)))]) = some ((.d (.v (.float .f64 0))), [(.prop (∀ (w : World), Sem.run cfz.P (callFunc 67 #[Value.float FloatKind.f64 0]) w = Result.ok (Next.value (Value.int IntKind.u64 0)) w)), (.prop (∀ (w : World), Sem.run cfz.P (callFunc 66 #[Value.int IntKind.u64 0]) w = Result.ok (Next.value (Value.float FloatKind.f64 0)) w))]) := by kernel_rfl
theorem aw18 : PureCalls cfz.P cfz.glob 63 [(.d (.v (.float .f64 0)))] (.d (.v (.float .f64 0))) := closed_ok knil (by kernel_rfl) aw18k ⟨(fun w => pureRun_run (by kernel_rfl) w), ⟨(fun w => pureRun_run (by kernel_rfl) w), trivial⟩⟩

noncomputable def aw19D : CT cfz := .run 13 [] <| .use aw18 <| .run 1 [(.ck 0)] <| .run 9 [] <|  .fin
theorem aw19k : crun cfz 61 aw19D [] (ent cfz 61 [(.d (.v (.float .f64 0))), (.d (.v (.int .i64 0)))]) = some ((.d (.v (.bool false))), [.eqA [(.d (.v (.float .f64 0)))] [(.d (.v (.float .f64 0)))]]) := by kernel_rfl
theorem aw19 : PureCalls cfz.P cfz.glob 61 [(.d (.v (.float .f64 0))), (.d (.v (.int .i64 0)))] (.d (.v (.bool false))) := closed_ok knil (by kernel_rfl) aw19k ⟨rfl, trivial⟩

noncomputable def aw20D : CT cfz := .run 8 [] <| .use aw17 <| .run 1 [(.ck 0)] <| .run 3 [] <| .use aw19 <| .run 1 [(.br false), (.ck 1)] <| .run 4 [] <|  .fin
theorem aw20k : crun cfz 55 aw20D [] (ent cfz 55 [(.d (.v (.float .f32 0)))]) = some ((.d (.v (.bool false))), [.eqA [(.d (.v (.float .f64 0)))] [(.d (.v (.float .f64 0)))], .eqA [(.d (.v (.float .f64 0))), (.d (.v (.int .i64 0)))] [(.d (.v (.float .f64 0))), (.d (.v (.int .i64 0)))]]) := by kernel_rfl
theorem aw20 : PureCalls cfz.P cfz.glob 55 [(.d (.v (.float .f32 0)))] (.d (.v (.bool false))) := closed_ok knil (by kernel_rfl) aw20k ⟨rfl, ⟨rfl, trivial⟩⟩

noncomputable def aw21D : CT cfz := .run 9 [] <| .run 1 [(.ext (.float .f64 0))] <| .run 3 [] <|  .fin
theorem aw21k : crun cfz 62 aw21D [] (ent cfz 62 [(.d (.v (.float .f64 0)))]) = some ((.d (.v (.float .f64 0))), [(.prop (∀ (w : World), Sem.run cfz.P (callFunc 64 #[Value.float FloatKind.f64 0]) w = Result.ok (Next.value (Value.float FloatKind.f64 0)) w))]) := by kernel_rfl
theorem aw21 : PureCalls cfz.P cfz.glob 62 [(.d (.v (.float .f64 0)))] (.d (.v (.float .f64 0))) := closed_ok knil (by kernel_rfl) aw21k ⟨(fun w => pureRun_run (by kernel_rfl) w), trivial⟩

noncomputable def aw22D : CT cfz := .run 19 [] <| .use aw21 <| .run 1 [(.br false), (.ck 0)] <| .run 5 [] <| .use aw13 <| .run 1 [(.ck 1)] <| .run 3 [] <|  .fin
theorem aw22k : crun cfz 56 aw22D [] (ent cfz 56 [(.d (.v (.float .f32 0))), (.d (.v (.float .f32 1149239296)))]) = some ((.d (.v (.int .i64 0))), [.eqA [(.d (.v (.float .f64 0)))] [(.d (.v (.float .f64 0)))], .eqA [(.d (.v (.bool false))), (.d (.v (.int .i64 3)))] [(.d (.v (.bool false))), (.d (.v (.int .i64 3)))]]) := by kernel_rfl
theorem aw22 : PureCalls cfz.P cfz.glob 56 [(.d (.v (.float .f32 0))), (.d (.v (.float .f32 1149239296)))] (.d (.v (.int .i64 0))) := closed_ok knil (by kernel_rfl) aw22k ⟨rfl, ⟨rfl, trivial⟩⟩

noncomputable def aw23D : CT cfz := .run 7 [] <| .use aw20 <| .run 1 [(.ck 0)] <| .use aw11 <| .run 1 [(.ck 1)] <| .run 1 [] <| .use aw22 <| .run 1 [(.ck 2)] <| .run 1 [] <| .use aw15 <| .run 1 [(.ck 3)] <| .run 3 [] <|  .fin
theorem aw23k : crun cfz 42 aw23D [] (ent cfz 42 [(.d (.v (.float .f32 0)))]) = some ((.d (.v (.int .i64 0))), [.eqA [(.d (.v (.float .f32 0)))] [(.d (.v (.float .f32 0)))], .eqA [(.d (.v (.bool false))), (.d (.v (.int .i64 1)))] [(.d (.v (.bool false))), (.d (.v (.int .i64 1)))], .eqA [(.d (.v (.float .f32 0))), (.d (.v (.float .f32 1149239296)))] [(.d (.v (.float .f32 0))), (.d (.v (.float .f32 1149239296)))], .eqA [(.d (.sl 2 [(.v (.int .i64 0)), (.v (.int .i64 0))]))] [(.d (.sl 2 [(.v (.int .i64 0)), (.v (.int .i64 0))]))]]) := by kernel_rfl
theorem aw23 : PureCalls cfz.P cfz.glob 42 [(.d (.v (.float .f32 0)))] (.d (.v (.int .i64 0))) := closed_ok knil (by kernel_rfl) aw23k ⟨rfl, ⟨rfl, ⟨rfl, ⟨rfl, trivial⟩⟩⟩⟩

noncomputable def aw24D : CT cfz := .run 36 [] <| .use aw16 <| .run 1 [(.ck 0)] <| .run 29 [] <| .use aw23 <| .run 1 [(.ck 1)] <| .run 29 [] <| .run 1 [(.ck 1)] <| .run 29 [] <| .run 1 [(.ck 1)] <| .run 23 [] <|  .fin
theorem aw24k : crun cfz 41 aw24D [] (ent cfz 41 [(.d (.sl 4 [(.v (.float .f32 1115291648)), (.v (.float .f32 0)), (.v (.float .f32 0)), (.v (.float .f32 0))])), (.d (.v (.func (.func 42) (#[]) (#[]))))]) = some ((.d (.sl 4 [(.v (.int .i64 0)), (.v (.int .i64 0)), (.v (.int .i64 0)), (.v (.int .i64 0))])), [.eqA [(.d (.v (.float .f32 1115291648)))] [(.d (.v (.float .f32 1115291648)))], .eqA [(.d (.v (.float .f32 0)))] [(.d (.v (.float .f32 0)))], .eqA [(.d (.v (.float .f32 0)))] [(.d (.v (.float .f32 0)))], .eqA [(.d (.v (.float .f32 0)))] [(.d (.v (.float .f32 0)))]]) := by kernel_rfl
theorem aw24 : PureCalls cfz.P cfz.glob 41 [(.d (.sl 4 [(.v (.float .f32 1115291648)), (.v (.float .f32 0)), (.v (.float .f32 0)), (.v (.float .f32 0))])), (.d (.v (.func (.func 42) (#[]) (#[]))))] (.d (.sl 4 [(.v (.int .i64 0)), (.v (.int .i64 0)), (.v (.int .i64 0)), (.v (.int .i64 0))])) := closed_ok knil (by kernel_rfl) aw24k ⟨rfl, ⟨rfl, ⟨rfl, ⟨rfl, trivial⟩⟩⟩⟩

noncomputable def aw25D : CT cfz := .run 137 [] <|  .fin
theorem aw25k : crun cfz 14 aw25D [] (ent cfz 14 [(.d (.sl 4 [(.v (.int .i64 0)), (.v (.int .i64 0)), (.v (.int .i64 0)), (.v (.int .i64 0))]))]) = some ((.d (.v (.int .i64 0))), []) := by kernel_rfl
theorem aw25 : PureCalls cfz.P cfz.glob 14 [(.d (.sl 4 [(.v (.int .i64 0)), (.v (.int .i64 0)), (.v (.int .i64 0)), (.v (.int .i64 0))]))] (.d (.v (.int .i64 0))) := closed_ok knil (by kernel_rfl) aw25k trivial

noncomputable def aw26D : CT cfz := .run 16 [] <| .use aw24 <| .run 1 [(.ck 0)] <| .use aw25 <| .run 1 [(.ck 1)] <| .run 3 [] <|  .fin
theorem aw26k : crun cfz 16 aw26D [] (ent cfz 16 [(.d (.sl 4 [(.v (.float .f32 1115291648)), (.v (.float .f32 0)), (.v (.float .f32 0)), (.v (.float .f32 0))]))]) = some ((.d (.v (.int .i64 0))), [.eqA [(.d (.sl 4 [(.v (.float .f32 1115291648)), (.v (.float .f32 0)), (.v (.float .f32 0)), (.v (.float .f32 0))])), (.d (.v (.func (.func 42) (#[]) (#[]))))] [(.d (.sl 4 [(.v (.float .f32 1115291648)), (.v (.float .f32 0)), (.v (.float .f32 0)), (.v (.float .f32 0))])), (.d (.v (.func (.func 42) (#[]) (#[]))))], .eqA [(.d (.sl 4 [(.v (.int .i64 0)), (.v (.int .i64 0)), (.v (.int .i64 0)), (.v (.int .i64 0))]))] [(.d (.sl 4 [(.v (.int .i64 0)), (.v (.int .i64 0)), (.v (.int .i64 0)), (.v (.int .i64 0))]))]]) := by kernel_rfl
theorem aw26 : PureCalls cfz.P cfz.glob 16 [(.d (.sl 4 [(.v (.float .f32 1115291648)), (.v (.float .f32 0)), (.v (.float .f32 0)), (.v (.float .f32 0))]))] (.d (.v (.int .i64 0))) := closed_ok knil (by kernel_rfl) aw26k ⟨rfl, ⟨rfl, trivial⟩⟩

noncomputable def aw27D : CT cfz := .run 12 [] <|  .fin
theorem aw27k : crun cfz 60 aw27D [] (ent cfz 60 [(.d (.v (.float .f64 4638496509959077888)))]) = some ((.d (.v (.bool false))), []) := by kernel_rfl
theorem aw27 : PureCalls cfz.P cfz.glob 60 [(.d (.v (.float .f64 4638496509959077888)))] (.d (.v (.bool false))) := closed_ok knil (by kernel_rfl) aw27k trivial

noncomputable def aw28D : CT cfz := .run 7 [] <| .run 1 [(.ext (.int .u64 4638496509959077888))] <| .run 1 [] <| .run 1 [(.ext (.float .f64 4638496509959077888))] <| .run 3 [] <|  .fin
theorem aw28k : crun cfz 63 aw28D [] (ent cfz 63 [(.d (.v (.float .f64 4638496509959077888)))]) = some ((.d (.v (.float .f64 4638496509959077888))), [(.prop (∀ (w : World), Sem.run cfz.P (callFunc 67 #[Value.float FloatKind.f64 4638496509959077888]) w = Result.ok (Next.value (Value.int IntKind.u64 4638496509959077888)) w)), (.prop (∀ (w : World), Sem.run cfz.P (callFunc 66 #[Value.int IntKind.u64 4638496509959077888]) w = Result.ok (Next.value (Value.float FloatKind.f64 4638496509959077888)) w))]) := by kernel_rfl
theorem aw28 : PureCalls cfz.P cfz.glob 63 [(.d (.v (.float .f64 4638496509959077888)))] (.d (.v (.float .f64 4638496509959077888))) := closed_ok knil (by kernel_rfl) aw28k ⟨(fun w => pureRun_run (by kernel_rfl) w), ⟨(fun w => pureRun_run (by kernel_rfl) w), trivial⟩⟩

noncomputable def aw29D : CT cfz := .run 13 [] <| .use aw28 <| .run 1 [(.ck 0)] <| .run 9 [] <|  .fin
theorem aw29k : crun cfz 61 aw29D [] (ent cfz 61 [(.d (.v (.float .f64 4638496509959077888))), (.d (.v (.int .i64 0)))]) = some ((.d (.v (.bool false))), [.eqA [(.d (.v (.float .f64 4638496509959077888)))] [(.d (.v (.float .f64 4638496509959077888)))]]) := by kernel_rfl
theorem aw29 : PureCalls cfz.P cfz.glob 61 [(.d (.v (.float .f64 4638496509959077888))), (.d (.v (.int .i64 0)))] (.d (.v (.bool false))) := closed_ok knil (by kernel_rfl) aw29k ⟨rfl, trivial⟩

noncomputable def aw30D : CT cfz := .run 8 [] <| .use aw27 <| .run 1 [(.ck 0)] <| .run 3 [] <| .use aw29 <| .run 1 [(.br false), (.ck 1)] <| .run 4 [] <|  .fin
theorem aw30k : crun cfz 55 aw30D [] (ent cfz 55 [(.d (.v (.float .f32 1123680256)))]) = some ((.d (.v (.bool false))), [.eqA [(.d (.v (.float .f64 4638496509959077888)))] [(.d (.v (.float .f64 4638496509959077888)))], .eqA [(.d (.v (.float .f64 4638496509959077888))), (.d (.v (.int .i64 0)))] [(.d (.v (.float .f64 4638496509959077888))), (.d (.v (.int .i64 0)))]]) := by kernel_rfl
theorem aw30 : PureCalls cfz.P cfz.glob 55 [(.d (.v (.float .f32 1123680256)))] (.d (.v (.bool false))) := closed_ok knil (by kernel_rfl) aw30k ⟨rfl, ⟨rfl, trivial⟩⟩

noncomputable def aw31D : CT cfz := .run 9 [] <| .run 1 [(.ext (.float .f64 4656510908468559872))] <| .run 3 [] <|  .fin
theorem aw31k : crun cfz 62 aw31D [] (ent cfz 62 [(.d (.v (.float .f64 4656510908468559872)))]) = some ((.d (.v (.float .f64 4656510908468559872))), [(.prop (∀ (w : World), Sem.run cfz.P (callFunc 64 #[Value.float FloatKind.f64 4656510908468559872]) w = Result.ok (Next.value (Value.float FloatKind.f64 4656510908468559872)) w))]) := by kernel_rfl
theorem aw31 : PureCalls cfz.P cfz.glob 62 [(.d (.v (.float .f64 4656510908468559872)))] (.d (.v (.float .f64 4656510908468559872))) := closed_ok knil (by kernel_rfl) aw31k ⟨(fun w => pureRun_run (by kernel_rfl) w), trivial⟩

noncomputable def aw32D : CT cfz := .run 19 [] <| .use aw31 <| .run 1 [(.br false), (.ck 0)] <| .run 5 [] <| .use aw13 <| .run 1 [(.ck 1)] <| .run 3 [] <|  .fin
theorem aw32k : crun cfz 56 aw32D [] (ent cfz 56 [(.d (.v (.float .f32 1123680256))), (.d (.v (.float .f32 1149239296)))]) = some ((.d (.v (.int .i64 0))), [.eqA [(.d (.v (.float .f64 4656510908468559872)))] [(.d (.v (.float .f64 4656510908468559872)))], .eqA [(.d (.v (.bool false))), (.d (.v (.int .i64 3)))] [(.d (.v (.bool false))), (.d (.v (.int .i64 3)))]]) := by kernel_rfl
theorem aw32 : PureCalls cfz.P cfz.glob 56 [(.d (.v (.float .f32 1123680256))), (.d (.v (.float .f32 1149239296)))] (.d (.v (.int .i64 0))) := closed_ok knil (by kernel_rfl) aw32k ⟨rfl, ⟨rfl, trivial⟩⟩

end Go.Kv
