/- awake(), a closed call: the contracts of what it calls. -/
import Derived.Test.YtnafdaccamncdaaKvW
import Derived.Test.YtnafdaccamncdaaKzA
namespace Go.Kv
set_option linter.unusedVariables false
set_option linter.unusedSimpArgs false
open Go Go.RowKit Go.Proofs
set_option maxRecDepth 100000
noncomputable def aw0D : CT cfz := .run 16 [] <|  .fin
theorem aw0k : crun cfz 17 aw0D [] (ent cfz 17 [(.d (.v (.bool false))), (.d (.v (.int .i64 3)))]) = some ((.d (.v (.int .i64 0))), []) := by kernel_rfl
theorem aw0 : PureCalls cfz.P cfz.glob 17 [(.d (.v (.bool false))), (.d (.v (.int .i64 3)))] (.d (.v (.int .i64 0))) := closed_ok knil (by kernel_rfl) aw0k trivial

noncomputable def aw1D : CT cfz := .run 14 [] <| .use aw0 <| .run 1 [(.ck 0)] <| .run 3 [] <|  .fin
theorem aw1k : crun cfz 45 aw1D [] (ent cfz 45 [(.d (.v (.int .i64 0))), (.d (.v (.int .i64 0))), (.d (.v (.int .i64 999999)))]) = some ((.d (.v (.int .i64 0))), [.eqA [(.d (.v (.bool false))), (.d (.v (.int .i64 3)))] [(.d (.v (.bool false))), (.d (.v (.int .i64 3)))]]) := by kernel_rfl
theorem aw1 : PureCalls cfz.P cfz.glob 45 [(.d (.v (.int .i64 0))), (.d (.v (.int .i64 0))), (.d (.v (.int .i64 999999)))] (.d (.v (.int .i64 0))) := closed_ok knil (by kernel_rfl) aw1k ⟨rfl, trivial⟩

noncomputable def aw2D : CT cfz := .run 81 [] <|  .fin
theorem aw2k : crun cfz 14 aw2D [] (ent cfz 14 [(.d (.sl 2 [(.v (.int .i64 0)), (.v (.int .i64 0))]))]) = some ((.d (.v (.int .i64 0))), []) := by kernel_rfl
theorem aw2 : PureCalls cfz.P cfz.glob 14 [(.d (.sl 2 [(.v (.int .i64 0)), (.v (.int .i64 0))]))] (.d (.v (.int .i64 0))) := closed_ok knil (by kernel_rfl) aw2k trivial

noncomputable def aw3D : CT cfz := .run 7 [] <| .use aw1 <| .use aw2 <| .run 1 [.none, (.ck 0), .none, (.ck 0), (.ck 1)] <| .run 1 [] <|  .fin
theorem aw3k : crun cfz 21 aw3D [] (ent cfz 21 [(.agg [(.d (.v (.int .i64 0))), (.d (.v (.int .i64 0)))])]) = some ((.d (.v (.int .i64 0))), [.eqA [(.d (.v (.int .i64 0))), (.d (.v (.int .i64 0))), (.d (.v (.int .i64 999999)))] [(.d (.v (.int .i64 0))), (.d (.v (.int .i64 0))), (.d (.v (.int .i64 999999)))], .eqA [(.d (.v (.int .i64 0))), (.d (.v (.int .i64 0))), (.d (.v (.int .i64 999999)))] [(.d (.v (.int .i64 0))), (.d (.v (.int .i64 0))), (.d (.v (.int .i64 999999)))], .eqA [(.d (.sl 2 [(.v (.int .i64 0)), (.v (.int .i64 0))]))] [(.d (.sl 2 [(.v (.int .i64 0)), (.v (.int .i64 0))]))]]) := by kernel_rfl
theorem aw3 : PureCalls cfz.P cfz.glob 21 [(.agg [(.d (.v (.int .i64 0))), (.d (.v (.int .i64 0)))])] (.d (.v (.int .i64 0))) := closed_ok knil (by kernel_rfl) aw3k ⟨rfl, ⟨rfl, ⟨rfl, trivial⟩⟩⟩

noncomputable def aw4D : CT cfz := .run 37 [] <| .use aw3 <| .run 1 [(.ck 0)] <| .run 30 [] <| .run 1 [(.ck 0)] <| .run 30 [] <| .run 1 [(.ck 0)] <| .run 30 [] <| .run 1 [(.ck 0)] <| .run 30 [] <| .run 1 [(.ck 0)] <| .run 30 [] <| .run 1 [(.ck 0)] <| .run 23 [] <|  .fin
theorem aw4k : crun cfz 40 aw4D [] (ent cfz 40 [(.d (.sl 6 [(.v (.int .i64 0)), (.v (.int .i64 0)), (.v (.int .i64 0)), (.v (.int .i64 0)), (.v (.int .i64 0)), (.v (.int .i64 0)), (.v (.int .i64 0)), (.v (.int .i64 0)), (.v (.int .i64 0)), (.v (.int .i64 0)), (.v (.int .i64 0)), (.v (.int .i64 0))])), (.d (.v (.func (.func 21) (#[]) (#[]))))]) = some ((.d (.sl 6 [(.v (.int .i64 0)), (.v (.int .i64 0)), (.v (.int .i64 0)), (.v (.int .i64 0)), (.v (.int .i64 0)), (.v (.int .i64 0))])), [.eqA [(.agg [(.d (.v (.int .i64 0))), (.d (.v (.int .i64 0)))])] [(.agg [(.d (.v (.int .i64 0))), (.d (.v (.int .i64 0)))])], .eqA [(.agg [(.d (.v (.int .i64 0))), (.d (.v (.int .i64 0)))])] [(.agg [(.d (.v (.int .i64 0))), (.d (.v (.int .i64 0)))])], .eqA [(.agg [(.d (.v (.int .i64 0))), (.d (.v (.int .i64 0)))])] [(.agg [(.d (.v (.int .i64 0))), (.d (.v (.int .i64 0)))])], .eqA [(.agg [(.d (.v (.int .i64 0))), (.d (.v (.int .i64 0)))])] [(.agg [(.d (.v (.int .i64 0))), (.d (.v (.int .i64 0)))])], .eqA [(.agg [(.d (.v (.int .i64 0))), (.d (.v (.int .i64 0)))])] [(.agg [(.d (.v (.int .i64 0))), (.d (.v (.int .i64 0)))])], .eqA [(.agg [(.d (.v (.int .i64 0))), (.d (.v (.int .i64 0)))])] [(.agg [(.d (.v (.int .i64 0))), (.d (.v (.int .i64 0)))])]]) := by kernel_rfl
theorem aw4 : PureCalls cfz.P cfz.glob 40 [(.d (.sl 6 [(.v (.int .i64 0)), (.v (.int .i64 0)), (.v (.int .i64 0)), (.v (.int .i64 0)), (.v (.int .i64 0)), (.v (.int .i64 0)), (.v (.int .i64 0)), (.v (.int .i64 0)), (.v (.int .i64 0)), (.v (.int .i64 0)), (.v (.int .i64 0)), (.v (.int .i64 0))])), (.d (.v (.func (.func 21) (#[]) (#[]))))] (.d (.sl 6 [(.v (.int .i64 0)), (.v (.int .i64 0)), (.v (.int .i64 0)), (.v (.int .i64 0)), (.v (.int .i64 0)), (.v (.int .i64 0))])) := closed_ok knil (by kernel_rfl) aw4k ⟨rfl, ⟨rfl, ⟨rfl, ⟨rfl, ⟨rfl, ⟨rfl, trivial⟩⟩⟩⟩⟩⟩

noncomputable def aw5D : CT cfz := .run 193 [] <|  .fin
theorem aw5k : crun cfz 14 aw5D [] (ent cfz 14 [(.d (.sl 6 [(.v (.int .i64 0)), (.v (.int .i64 0)), (.v (.int .i64 0)), (.v (.int .i64 0)), (.v (.int .i64 0)), (.v (.int .i64 0))]))]) = some ((.d (.v (.int .i64 0))), []) := by kernel_rfl
theorem aw5 : PureCalls cfz.P cfz.glob 14 [(.d (.sl 6 [(.v (.int .i64 0)), (.v (.int .i64 0)), (.v (.int .i64 0)), (.v (.int .i64 0)), (.v (.int .i64 0)), (.v (.int .i64 0))]))] (.d (.v (.int .i64 0))) := closed_ok knil (by kernel_rfl) aw5k trivial

noncomputable def aw6D : CT cfz := .run 8 [] <| .run 1 [.enter] <| .run 37 [] <| .use aw3 <| .run 1 [(.ck 0)] <| .run 30 [] <| .run 1 [(.ck 0)] <| .run 30 [] <| .run 1 [(.ck 0)] <| .run 30 [] <| .run 1 [(.ck 0)] <| .run 30 [] <| .run 1 [(.ck 0)] <| .run 30 [] <| .run 1 [(.ck 0)] <| .run 24 [] <| .use aw5 <| .run 1 [(.ck 1)] <| .run 3 [] <|  .fin
theorem aw6k : crun cfz 15 aw6D [] (ent cfz 15 [(.agg [(.d (.v (.int .i64 0))), (.d (.v (.int .i64 0))), (.d (.v (.int .i64 0))), (.d (.v (.int .i64 0))), (.d (.v (.int .i64 0))), (.d (.v (.int .i64 0))), (.d (.v (.int .i64 0))), (.d (.v (.int .i64 0))), (.d (.v (.int .i64 0))), (.d (.v (.int .i64 0))), (.d (.v (.int .i64 0))), (.d (.v (.int .i64 0)))])]) = some ((.d (.v (.int .i64 0))), [.eqA [(.agg [(.d (.v (.int .i64 0))), (.d (.v (.int .i64 0)))])] [(.agg [(.d (.v (.int .i64 0))), (.d (.v (.int .i64 0)))])], .eqA [(.agg [(.d (.v (.int .i64 0))), (.d (.v (.int .i64 0)))])] [(.agg [(.d (.v (.int .i64 0))), (.d (.v (.int .i64 0)))])], .eqA [(.agg [(.d (.v (.int .i64 0))), (.d (.v (.int .i64 0)))])] [(.agg [(.d (.v (.int .i64 0))), (.d (.v (.int .i64 0)))])], .eqA [(.agg [(.d (.v (.int .i64 0))), (.d (.v (.int .i64 0)))])] [(.agg [(.d (.v (.int .i64 0))), (.d (.v (.int .i64 0)))])], .eqA [(.agg [(.d (.v (.int .i64 0))), (.d (.v (.int .i64 0)))])] [(.agg [(.d (.v (.int .i64 0))), (.d (.v (.int .i64 0)))])], .eqA [(.agg [(.d (.v (.int .i64 0))), (.d (.v (.int .i64 0)))])] [(.agg [(.d (.v (.int .i64 0))), (.d (.v (.int .i64 0)))])], .eqA [(.d (.sl 6 [(.v (.int .i64 0)), (.v (.int .i64 0)), (.v (.int .i64 0)), (.v (.int .i64 0)), (.v (.int .i64 0)), (.v (.int .i64 0))]))] [(.d (.sl 6 [(.v (.int .i64 0)), (.v (.int .i64 0)), (.v (.int .i64 0)), (.v (.int .i64 0)), (.v (.int .i64 0)), (.v (.int .i64 0))]))]]) := by kernel_rfl
theorem aw6 : PureCalls cfz.P cfz.glob 15 [(.agg [(.d (.v (.int .i64 0))), (.d (.v (.int .i64 0))), (.d (.v (.int .i64 0))), (.d (.v (.int .i64 0))), (.d (.v (.int .i64 0))), (.d (.v (.int .i64 0))), (.d (.v (.int .i64 0))), (.d (.v (.int .i64 0))), (.d (.v (.int .i64 0))), (.d (.v (.int .i64 0))), (.d (.v (.int .i64 0))), (.d (.v (.int .i64 0)))])] (.d (.v (.int .i64 0))) := closed_ok knil (by kernel_rfl) aw6k ⟨rfl, ⟨rfl, ⟨rfl, ⟨rfl, ⟨rfl, ⟨rfl, ⟨rfl, trivial⟩⟩⟩⟩⟩⟩⟩

noncomputable def aw7D : CT cfz := .run 12 [] <|  .fin
theorem aw7k : crun cfz 60 aw7D [] (ent cfz 60 [(.d (.v (.float .f64 4633992910331707392)))]) = some ((.d (.v (.bool false))), []) := by kernel_rfl
theorem aw7 : PureCalls cfz.P cfz.glob 60 [(.d (.v (.float .f64 4633992910331707392)))] (.d (.v (.bool false))) := closed_ok knil (by kernel_rfl) aw7k trivial

noncomputable def aw8D : CT cfz := .run 7 [] <| .run 1 [(.ext (.int .u64 4633992910331707392))] <| .run 1 [] <| .run 1 [(.ext (.float .f64 4633992910331707392))] <| .run 3 [] <|  .fin
theorem aw8k : crun cfz 63 aw8D [] (ent cfz 63 [(.d (.v (.float .f64 4633992910331707392)))]) = some ((.d (.v (.float .f64 4633992910331707392))), [(.prop (∀ (w : World), Sem.run cfz.P (callFunc 67 #[Value.float FloatKind.f64 4633992910331707392]) w = Result.ok (Next.value (Value.int IntKind.u64 4633992910331707392)) w)), (.prop (∀ (w : World), Sem.run cfz.P (callFunc 66 #[Value.int IntKind.u64 4633992910331707392]) w = Result.ok (Next.value (Value.float FloatKind.f64 4633992910331707392)) w))]) := by kernel_rfl
theorem aw8 : PureCalls cfz.P cfz.glob 63 [(.d (.v (.float .f64 4633992910331707392)))] (.d (.v (.float .f64 4633992910331707392))) := closed_ok knil (by kernel_rfl) aw8k ⟨(fun w => pureRun_run (by kernel_rfl) w), ⟨(fun w => pureRun_run (by kernel_rfl) w), trivial⟩⟩

noncomputable def aw9D : CT cfz := .run 13 [] <| .use aw8 <| .run 1 [(.ck 0)] <| .run 9 [] <|  .fin
theorem aw9k : crun cfz 61 aw9D [] (ent cfz 61 [(.d (.v (.float .f64 4633992910331707392))), (.d (.v (.int .i64 0)))]) = some ((.d (.v (.bool false))), [.eqA [(.d (.v (.float .f64 4633992910331707392)))] [(.d (.v (.float .f64 4633992910331707392)))]]) := by kernel_rfl
theorem aw9 : PureCalls cfz.P cfz.glob 61 [(.d (.v (.float .f64 4633992910331707392))), (.d (.v (.int .i64 0)))] (.d (.v (.bool false))) := closed_ok knil (by kernel_rfl) aw9k ⟨rfl, trivial⟩

noncomputable def aw10D : CT cfz := .run 8 [] <| .use aw7 <| .run 1 [(.ck 0)] <| .run 3 [] <| .use aw9 <| .run 1 [(.br false), (.ck 1)] <| .run 4 [] <|  .fin
theorem aw10k : crun cfz 55 aw10D [] (ent cfz 55 [(.d (.v (.float .f32 1115291648)))]) = some ((.d (.v (.bool false))), [.eqA [(.d (.v (.float .f64 4633992910331707392)))] [(.d (.v (.float .f64 4633992910331707392)))], .eqA [(.d (.v (.float .f64 4633992910331707392))), (.d (.v (.int .i64 0)))] [(.d (.v (.float .f64 4633992910331707392))), (.d (.v (.int .i64 0)))]]) := by kernel_rfl
theorem aw10 : PureCalls cfz.P cfz.glob 55 [(.d (.v (.float .f32 1115291648)))] (.d (.v (.bool false))) := closed_ok knil (by kernel_rfl) aw10k ⟨rfl, ⟨rfl, trivial⟩⟩

noncomputable def aw11D : CT cfz := .run 16 [] <|  .fin
theorem aw11k : crun cfz 54 aw11D [] (ent cfz 54 [(.d (.v (.bool false))), (.d (.v (.int .i64 1)))]) = some ((.d (.v (.int .i64 0))), []) := by kernel_rfl
theorem aw11 : PureCalls cfz.P cfz.glob 54 [(.d (.v (.bool false))), (.d (.v (.int .i64 1)))] (.d (.v (.int .i64 0))) := closed_ok knil (by kernel_rfl) aw11k trivial

noncomputable def aw12D : CT cfz := .run 9 [] <| .run 1 [(.ext (.float .f64 4652007308841189376))] <| .run 3 [] <|  .fin
theorem aw12k : crun cfz 62 aw12D [] (ent cfz 62 [(.d (.v (.float .f64 4652007308841189376)))]) = some ((.d (.v (.float .f64 4652007308841189376))), [(.prop (∀ (w : World), Sem.run cfz.P (callFunc 64 #[Value.float FloatKind.f64 4652007308841189376]) w = Result.ok (Next.value (Value.float FloatKind.f64 4652007308841189376)) w))]) := by kernel_rfl
theorem aw12 : PureCalls cfz.P cfz.glob 62 [(.d (.v (.float .f64 4652007308841189376)))] (.d (.v (.float .f64 4652007308841189376))) := closed_ok knil (by kernel_rfl) aw12k ⟨(fun w => pureRun_run (by kernel_rfl) w), trivial⟩

noncomputable def aw13D : CT cfz := .run 16 [] <|  .fin
theorem aw13k : crun cfz 54 aw13D [] (ent cfz 54 [(.d (.v (.bool false))), (.d (.v (.int .i64 3)))]) = some ((.d (.v (.int .i64 0))), []) := by kernel_rfl
theorem aw13 : PureCalls cfz.P cfz.glob 54 [(.d (.v (.bool false))), (.d (.v (.int .i64 3)))] (.d (.v (.int .i64 0))) := closed_ok knil (by kernel_rfl) aw13k trivial

noncomputable def aw14D : CT cfz := .run 19 [] <| .use aw12 <| .run 1 [(.br false), (.ck 0)] <| .run 5 [] <| .use aw13 <| .run 1 [(.ck 1)] <| .run 3 [] <|  .fin
theorem aw14k : crun cfz 56 aw14D [] (ent cfz 56 [(.d (.v (.float .f32 1115291648))), (.d (.v (.float .f32 1149239296)))]) = some ((.d (.v (.int .i64 0))), [.eqA [(.d (.v (.float .f64 4652007308841189376)))] [(.d (.v (.float .f64 4652007308841189376)))], .eqA [(.d (.v (.bool false))), (.d (.v (.int .i64 3)))] [(.d (.v (.bool false))), (.d (.v (.int .i64 3)))]]) := by kernel_rfl
theorem aw14 : PureCalls cfz.P cfz.glob 56 [(.d (.v (.float .f32 1115291648))), (.d (.v (.float .f32 1149239296)))] (.d (.v (.int .i64 0))) := closed_ok knil (by kernel_rfl) aw14k ⟨rfl, ⟨rfl, trivial⟩⟩

noncomputable def aw15D : CT cfz := .run 81 [] <|  .fin
theorem aw15k : crun cfz 53 aw15D [] (ent cfz 53 [(.d (.sl 2 [(.v (.int .i64 0)), (.v (.int .i64 0))]))]) = some ((.d (.v (.int .i64 0))), []) := by kernel_rfl
theorem aw15 : PureCalls cfz.P cfz.glob 53 [(.d (.sl 2 [(.v (.int .i64 0)), (.v (.int .i64 0))]))] (.d (.v (.int .i64 0))) := closed_ok knil (by kernel_rfl) aw15k trivial

end Go.Kv
