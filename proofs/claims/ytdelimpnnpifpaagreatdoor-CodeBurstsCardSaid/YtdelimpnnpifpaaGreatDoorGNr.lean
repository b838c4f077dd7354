/- Printed: what functions of the program come to, and the kernel's proof of it. -/
import Derived.Test.YtdelimpnnpifpaaGreatDoorGAl
namespace Go.Kv
set_option linter.all false
open Go Go.RowKit Go.Proofs
set_option maxRecDepth 100000
noncomputable def cln0D : CT cfz := .run 16 [] <|  .fin
theorem cln0k : crun cfz 83 cln0D [] (ent cfz 83 [(.d (.v (.bool false))), (.d (.v (.int .i64 3)))]) = some ((.d (.v (.int .i64 0))), []) := by kernel_rfl
theorem cln0 : PureCalls cfz.P cfz.glob 83 [(.d (.v (.bool false))), (.d (.v (.int .i64 3)))] (.d (.v (.int .i64 0))) := closed_ok knil (by kernel_rfl) cln0k trivial

noncomputable def cln1D : CT cfz := .run 14 [] <| .use cln0 <| .run 1 [(.ck 0)] <| .run 3 [] <|  .fin
theorem cln1k : crun cfz 91 cln1D [] (ent cfz 91 [(.d (.v (.int .i64 4))), (.d (.v (.int .i64 2))), (.d (.v (.int .i64 16)))]) = some ((.d (.v (.int .i64 0))), [.eqA [(.d (.v (.bool false))), (.d (.v (.int .i64 3)))] [(.d (.v (.bool false))), (.d (.v (.int .i64 3)))]]) := by kernel_rfl
theorem cln1 : PureCalls cfz.P cfz.glob 91 [(.d (.v (.int .i64 4))), (.d (.v (.int .i64 2))), (.d (.v (.int .i64 16)))] (.d (.v (.int .i64 0))) := closed_ok knil (by kernel_rfl) cln1k ⟨rfl, trivial⟩

noncomputable def cln2D : CT cfz := .run 14 [] <| .use cln0 <| .run 1 [(.ck 0)] <| .run 3 [] <|  .fin
theorem cln2k : crun cfz 91 cln2D [] (ent cfz 91 [(.d (.v (.int .i64 2))), (.d (.v (.int .i64 1))), (.d (.v (.int .i64 8)))]) = some ((.d (.v (.int .i64 0))), [.eqA [(.d (.v (.bool false))), (.d (.v (.int .i64 3)))] [(.d (.v (.bool false))), (.d (.v (.int .i64 3)))]]) := by kernel_rfl
theorem cln2 : PureCalls cfz.P cfz.glob 91 [(.d (.v (.int .i64 2))), (.d (.v (.int .i64 1))), (.d (.v (.int .i64 8)))] (.d (.v (.int .i64 0))) := closed_ok knil (by kernel_rfl) cln2k ⟨rfl, trivial⟩

noncomputable def cln3D : CT cfz := .run 16 [] <|  .fin
theorem cln3k : crun cfz 83 cln3D [] (ent cfz 83 [(.d (.v (.bool false))), (.d (.v (.int .i64 11)))]) = some ((.d (.v (.int .i64 0))), []) := by kernel_rfl
theorem cln3 : PureCalls cfz.P cfz.glob 83 [(.d (.v (.bool false))), (.d (.v (.int .i64 11)))] (.d (.v (.int .i64 0))) := closed_ok knil (by kernel_rfl) cln3k trivial

noncomputable def cln4D : CT cfz := .run 109 [] <|  .fin
theorem cln4k : crun cfz 82 cln4D [] (ent cfz 82 [(.d (.sl 3 [(.v (.int .i64 0)), (.v (.int .i64 0)), (.v (.int .i64 0))]))]) = some ((.d (.v (.int .i64 0))), []) := by kernel_rfl
theorem cln4 : PureCalls cfz.P cfz.glob 82 [(.d (.sl 3 [(.v (.int .i64 0)), (.v (.int .i64 0)), (.v (.int .i64 0))]))] (.d (.v (.int .i64 0))) := closed_ok knil (by kernel_rfl) cln4k trivial

noncomputable def cln5D : CT cfz := .run 7 [] <| .use cln1 <| .use cln2 <| .use cln3 <| .use cln4 <| .run 1 [.none, (.ck 0), .none, (.ck 1), .none, .none, (.ck 2), (.ck 3)] <| .run 1 [] <|  .fin
theorem cln5k : crun cfz 27 cln5D [] (ent cfz 27 [(.agg [(.d (.v (.int .i64 4))), (.d (.v (.int .i64 2)))])]) = some ((.d (.v (.int .i64 0))), [.eqA [(.d (.v (.int .i64 4))), (.d (.v (.int .i64 2))), (.d (.v (.int .i64 16)))] [(.d (.v (.int .i64 4))), (.d (.v (.int .i64 2))), (.d (.v (.int .i64 16)))], .eqA [(.d (.v (.int .i64 2))), (.d (.v (.int .i64 1))), (.d (.v (.int .i64 8)))] [(.d (.v (.int .i64 2))), (.d (.v (.int .i64 1))), (.d (.v (.int .i64 8)))], .eqA [(.d (.v (.bool false))), (.d (.v (.int .i64 11)))] [(.d (.v (.bool false))), (.d (.v (.int .i64 11)))], .eqA [(.d (.sl 3 [(.v (.int .i64 0)), (.v (.int .i64 0)), (.v (.int .i64 0))]))] [(.d (.sl 3 [(.v (.int .i64 0)), (.v (.int .i64 0)), (.v (.int .i64 0))]))]]) := by kernel_rfl
theorem cln5 : PureCalls cfz.P cfz.glob 27 [(.agg [(.d (.v (.int .i64 4))), (.d (.v (.int .i64 2)))])] (.d (.v (.int .i64 0))) := closed_ok knil (by kernel_rfl) cln5k ⟨rfl, ⟨rfl, ⟨rfl, ⟨rfl, trivial⟩⟩⟩⟩

noncomputable def cln6D : CT cfz := .run 16 [] <|  .fin
theorem cln6k : crun cfz 83 cln6D [] (ent cfz 83 [(.d (.v (.bool false))), (.d (.v (.int .i64 2)))]) = some ((.d (.v (.int .i64 0))), []) := by kernel_rfl
theorem cln6 : PureCalls cfz.P cfz.glob 83 [(.d (.v (.bool false))), (.d (.v (.int .i64 2)))] (.d (.v (.int .i64 0))) := closed_ok knil (by kernel_rfl) cln6k trivial

noncomputable def cln7D : CT cfz := .run 14 [] <| .use cln0 <| .run 1 [(.ck 0)] <| .run 3 [] <|  .fin
theorem cln7k : crun cfz 91 cln7D [] (ent cfz 91 [(.d (.v (.int .i64 10))), (.d (.v (.int .i64 0))), (.d (.v (.int .i64 16)))]) = some ((.d (.v (.int .i64 0))), [.eqA [(.d (.v (.bool false))), (.d (.v (.int .i64 3)))] [(.d (.v (.bool false))), (.d (.v (.int .i64 3)))]]) := by kernel_rfl
theorem cln7 : PureCalls cfz.P cfz.glob 91 [(.d (.v (.int .i64 10))), (.d (.v (.int .i64 0))), (.d (.v (.int .i64 16)))] (.d (.v (.int .i64 0))) := closed_ok knil (by kernel_rfl) cln7k ⟨rfl, trivial⟩

noncomputable def cln8D : CT cfz := .run 7 [] <| .use cln7 <| .run 1 [(.ck 0)] <| .run 3 [] <|  .fin
theorem cln8k : crun cfz 127 cln8D [] (ent cfz 127 [(.d (.v (.int .i64 10)))]) = some ((.d (.v (.int .i64 0))), [.eqA [(.d (.v (.int .i64 10))), (.d (.v (.int .i64 0))), (.d (.v (.int .i64 16)))] [(.d (.v (.int .i64 10))), (.d (.v (.int .i64 0))), (.d (.v (.int .i64 16)))]]) := by kernel_rfl
theorem cln8 : PureCalls cfz.P cfz.glob 127 [(.d (.v (.int .i64 10)))] (.d (.v (.int .i64 0))) := closed_ok knil (by kernel_rfl) cln8k ⟨rfl, trivial⟩

noncomputable def cln9D : CT cfz := .run 12 [] <|  .fin
theorem cln9k : crun cfz 199 cln9D [] (ent cfz 199 [(.d (.v (.float .f64 4607182418800017408)))]) = some ((.d (.v (.bool false))), []) := by kernel_rfl
theorem cln9 : PureCalls cfz.P cfz.glob 199 [(.d (.v (.float .f64 4607182418800017408)))] (.d (.v (.bool false))) := closed_ok knil (by kernel_rfl) cln9k trivial

noncomputable def cln10D : CT cfz := .run 7 [] <| .run 1 [(.ext (.int .u64 4607182418800017408))] <| .run 1 [] <| .run 1 [(.ext (.float .f64 4607182418800017408))] <| .run 3 [] <|  .fin
theorem cln10k : crun cfz 212 cln10D [] (ent cfz 212 [(.d (.v (.float .f64 4607182418800017408)))]) = some ((.d (.v (.float .f64 4607182418800017408))), [(.prop (∀ (w : World), Sem.run cfz.P (callFunc 220 #[Value.float FloatKind.f64 4607182418800017408]) w = Result.ok (Next.value (Value.int IntKind.u64 4607182418800017408)) w)), (.prop (∀ (w : World), Sem.run cfz.P (callFunc 219 #[Value.int IntKind.u64 4607182418800017408]) w = Result.ok (Next.value (Value.float FloatKind.f64 4607182418800017408)) w))]) := by kernel_rfl
theorem cln10 : PureCalls cfz.P cfz.glob 212 [(.d (.v (.float .f64 4607182418800017408)))] (.d (.v (.float .f64 4607182418800017408))) := closed_ok knil (by kernel_rfl) cln10k ⟨(fun w => pureRun_run (by kernel_rfl) w), ⟨(fun w => pureRun_run (by kernel_rfl) w), trivial⟩⟩

noncomputable def cln11D : CT cfz := .run 13 [] <| .use cln10 <| .run 1 [(.ck 0)] <| .run 9 [] <|  .fin
theorem cln11k : crun cfz 200 cln11D [] (ent cfz 200 [(.d (.v (.float .f64 4607182418800017408))), (.d (.v (.int .i64 0)))]) = some ((.d (.v (.bool false))), [.eqA [(.d (.v (.float .f64 4607182418800017408)))] [(.d (.v (.float .f64 4607182418800017408)))]]) := by kernel_rfl
theorem cln11 : PureCalls cfz.P cfz.glob 200 [(.d (.v (.float .f64 4607182418800017408))), (.d (.v (.int .i64 0)))] (.d (.v (.bool false))) := closed_ok knil (by kernel_rfl) cln11k ⟨rfl, trivial⟩

noncomputable def cln12D : CT cfz := .run 8 [] <| .use cln9 <| .run 1 [(.ck 0)] <| .run 3 [] <| .use cln11 <| .run 1 [(.br false), (.ck 1)] <| .run 4 [] <|  .fin
theorem cln12k : crun cfz 181 cln12D [] (ent cfz 181 [(.d (.v (.float .f32 1065353216)))]) = some ((.d (.v (.bool false))), [.eqA [(.d (.v (.float .f64 4607182418800017408)))] [(.d (.v (.float .f64 4607182418800017408)))], .eqA [(.d (.v (.float .f64 4607182418800017408))), (.d (.v (.int .i64 0)))] [(.d (.v (.float .f64 4607182418800017408))), (.d (.v (.int .i64 0)))]]) := by kernel_rfl
theorem cln12 : PureCalls cfz.P cfz.glob 181 [(.d (.v (.float .f32 1065353216)))] (.d (.v (.bool false))) := closed_ok knil (by kernel_rfl) cln12k ⟨rfl, ⟨rfl, trivial⟩⟩

noncomputable def cln13D : CT cfz := .run 16 [] <|  .fin
theorem cln13k : crun cfz 180 cln13D [] (ent cfz 180 [(.d (.v (.bool false))), (.d (.v (.int .i64 1)))]) = some ((.d (.v (.int .i64 0))), []) := by kernel_rfl
theorem cln13 : PureCalls cfz.P cfz.glob 180 [(.d (.v (.bool false))), (.d (.v (.int .i64 1)))] (.d (.v (.int .i64 0))) := closed_ok knil (by kernel_rfl) cln13k trivial

noncomputable def cln14D : CT cfz := .run 9 [] <| .run 1 [(.ext (.float .f64 4625196817309499392))] <| .run 3 [] <|  .fin
theorem cln14k : crun cfz 201 cln14D [] (ent cfz 201 [(.d (.v (.float .f64 4625196817309499392)))]) = some ((.d (.v (.float .f64 4625196817309499392))), [(.prop (∀ (w : World), Sem.run cfz.P (callFunc 213 #[Value.float FloatKind.f64 4625196817309499392]) w = Result.ok (Next.value (Value.float FloatKind.f64 4625196817309499392)) w))]) := by kernel_rfl
theorem cln14 : PureCalls cfz.P cfz.glob 201 [(.d (.v (.float .f64 4625196817309499392)))] (.d (.v (.float .f64 4625196817309499392))) := closed_ok knil (by kernel_rfl) cln14k ⟨(fun w => pureRun_run (by kernel_rfl) w), trivial⟩

noncomputable def cln15D : CT cfz := .run 16 [] <|  .fin
theorem cln15k : crun cfz 180 cln15D [] (ent cfz 180 [(.d (.v (.bool false))), (.d (.v (.int .i64 3)))]) = some ((.d (.v (.int .i64 0))), []) := by kernel_rfl
theorem cln15 : PureCalls cfz.P cfz.glob 180 [(.d (.v (.bool false))), (.d (.v (.int .i64 3)))] (.d (.v (.int .i64 0))) := closed_ok knil (by kernel_rfl) cln15k trivial

noncomputable def cln16D : CT cfz := .run 19 [] <| .use cln14 <| .run 1 [(.br false), (.ck 0)] <| .run 5 [] <| .use cln15 <| .run 1 [(.ck 1)] <| .run 3 [] <|  .fin
theorem cln16k : crun cfz 182 cln16D [] (ent cfz 182 [(.d (.v (.float .f32 1065353216))), (.d (.v (.float .f32 1149239296)))]) = some ((.d (.v (.int .i64 0))), [.eqA [(.d (.v (.float .f64 4625196817309499392)))] [(.d (.v (.float .f64 4625196817309499392)))], .eqA [(.d (.v (.bool false))), (.d (.v (.int .i64 3)))] [(.d (.v (.bool false))), (.d (.v (.int .i64 3)))]]) := by kernel_rfl
theorem cln16 : PureCalls cfz.P cfz.glob 182 [(.d (.v (.float .f32 1065353216))), (.d (.v (.float .f32 1149239296)))] (.d (.v (.int .i64 0))) := closed_ok knil (by kernel_rfl) cln16k ⟨rfl, ⟨rfl, trivial⟩⟩

noncomputable def cln17D : CT cfz := .run 81 [] <|  .fin
theorem cln17k : crun cfz 179 cln17D [] (ent cfz 179 [(.d (.sl 2 [(.v (.int .i64 0)), (.v (.int .i64 0))]))]) = some ((.d (.v (.int .i64 0))), []) := by kernel_rfl
theorem cln17 : PureCalls cfz.P cfz.glob 179 [(.d (.sl 2 [(.v (.int .i64 0)), (.v (.int .i64 0))]))] (.d (.v (.int .i64 0))) := closed_ok knil (by kernel_rfl) cln17k trivial

noncomputable def cln18D : CT cfz := .run 7 [] <| .use cln12 <| .run 1 [(.ck 0)] <| .use cln13 <| .run 1 [(.ck 1)] <| .run 1 [] <| .use cln16 <| .run 1 [(.ck 2)] <| .run 1 [] <| .use cln17 <| .run 1 [(.ck 3)] <| .run 3 [] <|  .fin
theorem cln18k : crun cfz 160 cln18D [] (ent cfz 160 [(.d (.v (.float .f32 1065353216)))]) = some ((.d (.v (.int .i64 0))), [.eqA [(.d (.v (.float .f32 1065353216)))] [(.d (.v (.float .f32 1065353216)))], .eqA [(.d (.v (.bool false))), (.d (.v (.int .i64 1)))] [(.d (.v (.bool false))), (.d (.v (.int .i64 1)))], .eqA [(.d (.v (.float .f32 1065353216))), (.d (.v (.float .f32 1149239296)))] [(.d (.v (.float .f32 1065353216))), (.d (.v (.float .f32 1149239296)))], .eqA [(.d (.sl 2 [(.v (.int .i64 0)), (.v (.int .i64 0))]))] [(.d (.sl 2 [(.v (.int .i64 0)), (.v (.int .i64 0))]))]]) := by kernel_rfl
theorem cln18 : PureCalls cfz.P cfz.glob 160 [(.d (.v (.float .f32 1065353216)))] (.d (.v (.int .i64 0))) := closed_ok knil (by kernel_rfl) cln18k ⟨rfl, ⟨rfl, ⟨rfl, ⟨rfl, trivial⟩⟩⟩⟩

noncomputable def cln19D : CT cfz := .run 7 [] <| .use cln8 <| .use cln18 <| .use cln0 <| .use cln4 <| .run 1 [.none, (.ck 0), .none, (.ck 1), .none, (.ck 2), (.ck 3)] <| .run 1 [] <|  .fin
theorem cln19k : crun cfz 139 cln19D [] (ent cfz 139 [(.agg [(.d (.v (.int .i64 10))), (.d (.v (.float .f32 1065353216)))])]) = some ((.d (.v (.int .i64 0))), [.eqA [(.d (.v (.int .i64 10)))] [(.d (.v (.int .i64 10)))], .eqA [(.d (.v (.float .f32 1065353216)))] [(.d (.v (.float .f32 1065353216)))], .eqA [(.d (.v (.bool false))), (.d (.v (.int .i64 3)))] [(.d (.v (.bool false))), (.d (.v (.int .i64 3)))], .eqA [(.d (.sl 3 [(.v (.int .i64 0)), (.v (.int .i64 0)), (.v (.int .i64 0))]))] [(.d (.sl 3 [(.v (.int .i64 0)), (.v (.int .i64 0)), (.v (.int .i64 0))]))]]) := by kernel_rfl
theorem cln19 : PureCalls cfz.P cfz.glob 139 [(.agg [(.d (.v (.int .i64 10))), (.d (.v (.float .f32 1065353216)))])] (.d (.v (.int .i64 0))) := closed_ok knil (by kernel_rfl) cln19k ⟨rfl, ⟨rfl, ⟨rfl, ⟨rfl, trivial⟩⟩⟩⟩

noncomputable def cln20D : CT cfz := .run 14 [] <| .use cln0 <| .run 1 [(.ck 0)] <| .run 3 [] <|  .fin
theorem cln20k : crun cfz 91 cln20D [] (ent cfz 91 [(.d (.v (.int .i64 5))), (.d (.v (.int .i64 0))), (.d (.v (.int .i64 16)))]) = some ((.d (.v (.int .i64 0))), [.eqA [(.d (.v (.bool false))), (.d (.v (.int .i64 3)))] [(.d (.v (.bool false))), (.d (.v (.int .i64 3)))]]) := by kernel_rfl
theorem cln20 : PureCalls cfz.P cfz.glob 91 [(.d (.v (.int .i64 5))), (.d (.v (.int .i64 0))), (.d (.v (.int .i64 16)))] (.d (.v (.int .i64 0))) := closed_ok knil (by kernel_rfl) cln20k ⟨rfl, trivial⟩

noncomputable def cln21D : CT cfz := .run 7 [] <| .use cln20 <| .run 1 [(.ck 0)] <| .run 3 [] <|  .fin
theorem cln21k : crun cfz 127 cln21D [] (ent cfz 127 [(.d (.v (.int .i64 5)))]) = some ((.d (.v (.int .i64 0))), [.eqA [(.d (.v (.int .i64 5))), (.d (.v (.int .i64 0))), (.d (.v (.int .i64 16)))] [(.d (.v (.int .i64 5))), (.d (.v (.int .i64 0))), (.d (.v (.int .i64 16)))]]) := by kernel_rfl
theorem cln21 : PureCalls cfz.P cfz.glob 127 [(.d (.v (.int .i64 5)))] (.d (.v (.int .i64 0))) := closed_ok knil (by kernel_rfl) cln21k ⟨rfl, trivial⟩

noncomputable def cln22D : CT cfz := .run 7 [] <| .use cln21 <| .use cln18 <| .use cln0 <| .use cln4 <| .run 1 [.none, (.ck 0), .none, (.ck 1), .none, (.ck 2), (.ck 3)] <| .run 1 [] <|  .fin
theorem cln22k : crun cfz 139 cln22D [] (ent cfz 139 [(.agg [(.d (.v (.int .i64 5))), (.d (.v (.float .f32 1065353216)))])]) = some ((.d (.v (.int .i64 0))), [.eqA [(.d (.v (.int .i64 5)))] [(.d (.v (.int .i64 5)))], .eqA [(.d (.v (.float .f32 1065353216)))] [(.d (.v (.float .f32 1065353216)))], .eqA [(.d (.v (.bool false))), (.d (.v (.int .i64 3)))] [(.d (.v (.bool false))), (.d (.v (.int .i64 3)))], .eqA [(.d (.sl 3 [(.v (.int .i64 0)), (.v (.int .i64 0)), (.v (.int .i64 0))]))] [(.d (.sl 3 [(.v (.int .i64 0)), (.v (.int .i64 0)), (.v (.int .i64 0))]))]]) := by kernel_rfl
theorem cln22 : PureCalls cfz.P cfz.glob 139 [(.agg [(.d (.v (.int .i64 5))), (.d (.v (.float .f32 1065353216)))])] (.d (.v (.int .i64 0))) := closed_ok knil (by kernel_rfl) cln22k ⟨rfl, ⟨rfl, ⟨rfl, ⟨rfl, trivial⟩⟩⟩⟩

noncomputable def cln23D : CT cfz := .run 14 [] <| .use cln0 <| .run 1 [(.ck 0)] <| .run 3 [] <|  .fin
theorem cln23k : crun cfz 91 cln23D [] (ent cfz 91 [(.d (.v (.int .i64 1))), (.d (.v (.int .i64 0))), (.d (.v (.int .i64 16)))]) = some ((.d (.v (.int .i64 0))), [.eqA [(.d (.v (.bool false))), (.d (.v (.int .i64 3)))] [(.d (.v (.bool false))), (.d (.v (.int .i64 3)))]]) := by kernel_rfl
theorem cln23 : PureCalls cfz.P cfz.glob 91 [(.d (.v (.int .i64 1))), (.d (.v (.int .i64 0))), (.d (.v (.int .i64 16)))] (.d (.v (.int .i64 0))) := closed_ok knil (by kernel_rfl) cln23k ⟨rfl, trivial⟩

noncomputable def cln24D : CT cfz := .run 7 [] <| .use cln23 <| .run 1 [(.ck 0)] <| .run 3 [] <|  .fin
theorem cln24k : crun cfz 127 cln24D [] (ent cfz 127 [(.d (.v (.int .i64 1)))]) = some ((.d (.v (.int .i64 0))), [.eqA [(.d (.v (.int .i64 1))), (.d (.v (.int .i64 0))), (.d (.v (.int .i64 16)))] [(.d (.v (.int .i64 1))), (.d (.v (.int .i64 0))), (.d (.v (.int .i64 16)))]]) := by kernel_rfl
theorem cln24 : PureCalls cfz.P cfz.glob 127 [(.d (.v (.int .i64 1)))] (.d (.v (.int .i64 0))) := closed_ok knil (by kernel_rfl) cln24k ⟨rfl, trivial⟩

noncomputable def cln25D : CT cfz := .run 7 [] <| .use cln24 <| .use cln18 <| .use cln0 <| .use cln4 <| .run 1 [.none, (.ck 0), .none, (.ck 1), .none, (.ck 2), (.ck 3)] <| .run 1 [] <|  .fin
theorem cln25k : crun cfz 139 cln25D [] (ent cfz 139 [(.agg [(.d (.v (.int .i64 1))), (.d (.v (.float .f32 1065353216)))])]) = some ((.d (.v (.int .i64 0))), [.eqA [(.d (.v (.int .i64 1)))] [(.d (.v (.int .i64 1)))], .eqA [(.d (.v (.float .f32 1065353216)))] [(.d (.v (.float .f32 1065353216)))], .eqA [(.d (.v (.bool false))), (.d (.v (.int .i64 3)))] [(.d (.v (.bool false))), (.d (.v (.int .i64 3)))], .eqA [(.d (.sl 3 [(.v (.int .i64 0)), (.v (.int .i64 0)), (.v (.int .i64 0))]))] [(.d (.sl 3 [(.v (.int .i64 0)), (.v (.int .i64 0)), (.v (.int .i64 0))]))]]) := by kernel_rfl
theorem cln25 : PureCalls cfz.P cfz.glob 139 [(.agg [(.d (.v (.int .i64 1))), (.d (.v (.float .f32 1065353216)))])] (.d (.v (.int .i64 0))) := closed_ok knil (by kernel_rfl) cln25k ⟨rfl, ⟨rfl, ⟨rfl, ⟨rfl, trivial⟩⟩⟩⟩

noncomputable def cln26D : CT cfz := .run 14 [] <| .use cln0 <| .run 1 [(.ck 0)] <| .run 3 [] <|  .fin
theorem cln26k : crun cfz 91 cln26D [] (ent cfz 91 [(.d (.v (.int .i64 7))), (.d (.v (.int .i64 0))), (.d (.v (.int .i64 16)))]) = some ((.d (.v (.int .i64 0))), [.eqA [(.d (.v (.bool false))), (.d (.v (.int .i64 3)))] [(.d (.v (.bool false))), (.d (.v (.int .i64 3)))]]) := by kernel_rfl
theorem cln26 : PureCalls cfz.P cfz.glob 91 [(.d (.v (.int .i64 7))), (.d (.v (.int .i64 0))), (.d (.v (.int .i64 16)))] (.d (.v (.int .i64 0))) := closed_ok knil (by kernel_rfl) cln26k ⟨rfl, trivial⟩

noncomputable def cln27D : CT cfz := .run 7 [] <| .use cln26 <| .run 1 [(.ck 0)] <| .run 3 [] <|  .fin
theorem cln27k : crun cfz 127 cln27D [] (ent cfz 127 [(.d (.v (.int .i64 7)))]) = some ((.d (.v (.int .i64 0))), [.eqA [(.d (.v (.int .i64 7))), (.d (.v (.int .i64 0))), (.d (.v (.int .i64 16)))] [(.d (.v (.int .i64 7))), (.d (.v (.int .i64 0))), (.d (.v (.int .i64 16)))]]) := by kernel_rfl
theorem cln27 : PureCalls cfz.P cfz.glob 127 [(.d (.v (.int .i64 7)))] (.d (.v (.int .i64 0))) := closed_ok knil (by kernel_rfl) cln27k ⟨rfl, trivial⟩

noncomputable def cln28D : CT cfz := .run 12 [] <|  .fin
theorem cln28k : crun cfz 199 cln28D [] (ent cfz 199 [(.d (.v (.float .f64 4602678819172646912)))]) = some ((.d (.v (.bool false))), []) := by kernel_rfl
theorem cln28 : PureCalls cfz.P cfz.glob 199 [(.d (.v (.float .f64 4602678819172646912)))] (.d (.v (.bool false))) := closed_ok knil (by kernel_rfl) cln28k trivial

noncomputable def cln29D : CT cfz := .run 7 [] <| .run 1 [(.ext (.int .u64 4602678819172646912))] <| .run 1 [] <| .run 1 [(.ext (.float .f64 4602678819172646912))] <| .run 3 [] <|  .fin
theorem cln29k : crun cfz 212 cln29D [] (ent cfz 212 [(.d (.v (.float .f64 4602678819172646912)))]) = some ((.d (.v (.float .f64 4602678819172646912))), [(.prop (∀ (w : World), Sem.run cfz.P (callFunc 220 #[Value.float FloatKind.f64 4602678819172646912]) w = Result.ok (Next.value (Value.int IntKind.u64 4602678819172646912)) w)), (.prop (∀ (w : World), Sem.run cfz.P (callFunc 219 #[Value.int IntKind.u64 4602678819172646912]) w = Result.ok (Next.value (Value.float FloatKind.f64 4602678819172646912)) w))]) := by kernel_rfl
theorem cln29 : PureCalls cfz.P cfz.glob 212 [(.d (.v (.float .f64 4602678819172646912)))] (.d (.v (.float .f64 4602678819172646912))) := closed_ok knil (by kernel_rfl) cln29k ⟨(fun w => pureRun_run (by kernel_rfl) w), ⟨(fun w => pureRun_run (by kernel_rfl) w), trivial⟩⟩

noncomputable def cln30D : CT cfz := .run 13 [] <| .use cln29 <| .run 1 [(.ck 0)] <| .run 9 [] <|  .fin
theorem cln30k : crun cfz 200 cln30D [] (ent cfz 200 [(.d (.v (.float .f64 4602678819172646912))), (.d (.v (.int .i64 0)))]) = some ((.d (.v (.bool false))), [.eqA [(.d (.v (.float .f64 4602678819172646912)))] [(.d (.v (.float .f64 4602678819172646912)))]]) := by kernel_rfl
theorem cln30 : PureCalls cfz.P cfz.glob 200 [(.d (.v (.float .f64 4602678819172646912))), (.d (.v (.int .i64 0)))] (.d (.v (.bool false))) := closed_ok knil (by kernel_rfl) cln30k ⟨rfl, trivial⟩

noncomputable def cln31D : CT cfz := .run 8 [] <| .use cln28 <| .run 1 [(.ck 0)] <| .run 3 [] <| .use cln30 <| .run 1 [(.br false), (.ck 1)] <| .run 4 [] <|  .fin
theorem cln31k : crun cfz 181 cln31D [] (ent cfz 181 [(.d (.v (.float .f32 1056964608)))]) = some ((.d (.v (.bool false))), [.eqA [(.d (.v (.float .f64 4602678819172646912)))] [(.d (.v (.float .f64 4602678819172646912)))], .eqA [(.d (.v (.float .f64 4602678819172646912))), (.d (.v (.int .i64 0)))] [(.d (.v (.float .f64 4602678819172646912))), (.d (.v (.int .i64 0)))]]) := by kernel_rfl
theorem cln31 : PureCalls cfz.P cfz.glob 181 [(.d (.v (.float .f32 1056964608)))] (.d (.v (.bool false))) := closed_ok knil (by kernel_rfl) cln31k ⟨rfl, ⟨rfl, trivial⟩⟩

noncomputable def cln32D : CT cfz := .run 9 [] <| .run 1 [(.ext (.float .f64 4620693217682128896))] <| .run 3 [] <|  .fin
theorem cln32k : crun cfz 201 cln32D [] (ent cfz 201 [(.d (.v (.float .f64 4620693217682128896)))]) = some ((.d (.v (.float .f64 4620693217682128896))), [(.prop (∀ (w : World), Sem.run cfz.P (callFunc 213 #[Value.float FloatKind.f64 4620693217682128896]) w = Result.ok (Next.value (Value.float FloatKind.f64 4620693217682128896)) w))]) := by kernel_rfl
theorem cln32 : PureCalls cfz.P cfz.glob 201 [(.d (.v (.float .f64 4620693217682128896)))] (.d (.v (.float .f64 4620693217682128896))) := closed_ok knil (by kernel_rfl) cln32k ⟨(fun w => pureRun_run (by kernel_rfl) w), trivial⟩

noncomputable def cln33D : CT cfz := .run 19 [] <| .use cln32 <| .run 1 [(.br false), (.ck 0)] <| .run 5 [] <| .use cln15 <| .run 1 [(.ck 1)] <| .run 3 [] <|  .fin
theorem cln33k : crun cfz 182 cln33D [] (ent cfz 182 [(.d (.v (.float .f32 1056964608))), (.d (.v (.float .f32 1149239296)))]) = some ((.d (.v (.int .i64 0))), [.eqA [(.d (.v (.float .f64 4620693217682128896)))] [(.d (.v (.float .f64 4620693217682128896)))], .eqA [(.d (.v (.bool false))), (.d (.v (.int .i64 3)))] [(.d (.v (.bool false))), (.d (.v (.int .i64 3)))]]) := by kernel_rfl
theorem cln33 : PureCalls cfz.P cfz.glob 182 [(.d (.v (.float .f32 1056964608))), (.d (.v (.float .f32 1149239296)))] (.d (.v (.int .i64 0))) := closed_ok knil (by kernel_rfl) cln33k ⟨rfl, ⟨rfl, trivial⟩⟩

noncomputable def cln34D : CT cfz := .run 7 [] <| .use cln31 <| .run 1 [(.ck 0)] <| .use cln13 <| .run 1 [(.ck 1)] <| .run 1 [] <| .use cln33 <| .run 1 [(.ck 2)] <| .run 1 [] <| .use cln17 <| .run 1 [(.ck 3)] <| .run 3 [] <|  .fin
theorem cln34k : crun cfz 160 cln34D [] (ent cfz 160 [(.d (.v (.float .f32 1056964608)))]) = some ((.d (.v (.int .i64 0))), [.eqA [(.d (.v (.float .f32 1056964608)))] [(.d (.v (.float .f32 1056964608)))], .eqA [(.d (.v (.bool false))), (.d (.v (.int .i64 1)))] [(.d (.v (.bool false))), (.d (.v (.int .i64 1)))], .eqA [(.d (.v (.float .f32 1056964608))), (.d (.v (.float .f32 1149239296)))] [(.d (.v (.float .f32 1056964608))), (.d (.v (.float .f32 1149239296)))], .eqA [(.d (.sl 2 [(.v (.int .i64 0)), (.v (.int .i64 0))]))] [(.d (.sl 2 [(.v (.int .i64 0)), (.v (.int .i64 0))]))]]) := by kernel_rfl
theorem cln34 : PureCalls cfz.P cfz.glob 160 [(.d (.v (.float .f32 1056964608)))] (.d (.v (.int .i64 0))) := closed_ok knil (by kernel_rfl) cln34k ⟨rfl, ⟨rfl, ⟨rfl, ⟨rfl, trivial⟩⟩⟩⟩

noncomputable def cln35D : CT cfz := .run 7 [] <| .use cln27 <| .use cln34 <| .use cln0 <| .use cln4 <| .run 1 [.none, (.ck 0), .none, (.ck 1), .none, (.ck 2), (.ck 3)] <| .run 1 [] <|  .fin
theorem cln35k : crun cfz 139 cln35D [] (ent cfz 139 [(.agg [(.d (.v (.int .i64 7))), (.d (.v (.float .f32 1056964608)))])]) = some ((.d (.v (.int .i64 0))), [.eqA [(.d (.v (.int .i64 7)))] [(.d (.v (.int .i64 7)))], .eqA [(.d (.v (.float .f32 1056964608)))] [(.d (.v (.float .f32 1056964608)))], .eqA [(.d (.v (.bool false))), (.d (.v (.int .i64 3)))] [(.d (.v (.bool false))), (.d (.v (.int .i64 3)))], .eqA [(.d (.sl 3 [(.v (.int .i64 0)), (.v (.int .i64 0)), (.v (.int .i64 0))]))] [(.d (.sl 3 [(.v (.int .i64 0)), (.v (.int .i64 0)), (.v (.int .i64 0))]))]]) := by kernel_rfl
theorem cln35 : PureCalls cfz.P cfz.glob 139 [(.agg [(.d (.v (.int .i64 7))), (.d (.v (.float .f32 1056964608)))])] (.d (.v (.int .i64 0))) := closed_ok knil (by kernel_rfl) cln35k ⟨rfl, ⟨rfl, ⟨rfl, ⟨rfl, trivial⟩⟩⟩⟩

noncomputable def cln36D : CT cfz := .run 37 [] <| .use cln19 <| .run 1 [(.ck 0)] <| .run 30 [] <| .use cln22 <| .run 1 [(.ck 1)] <| .run 30 [] <| .use cln25 <| .run 1 [(.ck 2)] <| .run 30 [] <| .use cln35 <| .run 1 [(.ck 3)] <| .run 23 [] <|  .fin
theorem cln36k : crun cfz 138 cln36D [] (ent cfz 138 [(.d (.sl 4 [(.v (.int .i64 10)), (.v (.float .f32 1065353216)), (.v (.int .i64 5)), (.v (.float .f32 1065353216)), (.v (.int .i64 1)), (.v (.float .f32 1065353216)), (.v (.int .i64 7)), (.v (.float .f32 1056964608))])), (.d (.v (.func (.func 139) (#[]) (#[]))))]) = some ((.d (.sl 4 [(.v (.int .i64 0)), (.v (.int .i64 0)), (.v (.int .i64 0)), (.v (.int .i64 0))])), [.eqA [(.agg [(.d (.v (.int .i64 10))), (.d (.v (.float .f32 1065353216)))])] [(.agg [(.d (.v (.int .i64 10))), (.d (.v (.float .f32 1065353216)))])], .eqA [(.agg [(.d (.v (.int .i64 5))), (.d (.v (.float .f32 1065353216)))])] [(.agg [(.d (.v (.int .i64 5))), (.d (.v (.float .f32 1065353216)))])], .eqA [(.agg [(.d (.v (.int .i64 1))), (.d (.v (.float .f32 1065353216)))])] [(.agg [(.d (.v (.int .i64 1))), (.d (.v (.float .f32 1065353216)))])], .eqA [(.agg [(.d (.v (.int .i64 7))), (.d (.v (.float .f32 1056964608)))])] [(.agg [(.d (.v (.int .i64 7))), (.d (.v (.float .f32 1056964608)))])]]) := by kernel_rfl
theorem cln36 : PureCalls cfz.P cfz.glob 138 [(.d (.sl 4 [(.v (.int .i64 10)), (.v (.float .f32 1065353216)), (.v (.int .i64 5)), (.v (.float .f32 1065353216)), (.v (.int .i64 1)), (.v (.float .f32 1065353216)), (.v (.int .i64 7)), (.v (.float .f32 1056964608))])), (.d (.v (.func (.func 139) (#[]) (#[]))))] (.d (.sl 4 [(.v (.int .i64 0)), (.v (.int .i64 0)), (.v (.int .i64 0)), (.v (.int .i64 0))])) := closed_ok knil (by kernel_rfl) cln36k ⟨rfl, ⟨rfl, ⟨rfl, ⟨rfl, trivial⟩⟩⟩⟩

noncomputable def cln37D : CT cfz := .run 137 [] <|  .fin
theorem cln37k : crun cfz 82 cln37D [] (ent cfz 82 [(.d (.sl 4 [(.v (.int .i64 0)), (.v (.int .i64 0)), (.v (.int .i64 0)), (.v (.int .i64 0))]))]) = some ((.d (.v (.int .i64 0))), []) := by kernel_rfl
theorem cln37 : PureCalls cfz.P cfz.glob 82 [(.d (.sl 4 [(.v (.int .i64 0)), (.v (.int .i64 0)), (.v (.int .i64 0)), (.v (.int .i64 0))]))] (.d (.v (.int .i64 0))) := closed_ok knil (by kernel_rfl) cln37k trivial

noncomputable def cln38D : CT cfz := .run 7 [] <| .use cln5 <| .use cln6 <| .use cln36 <| .use cln37 <| .use cln4 <| .run 1 [.none, (.ck 0), .none, (.ck 1), (.ck 2), (.ck 3), (.ck 4)] <| .run 1 [] <|  .fin
theorem cln38k : crun cfz 98 cln38D [] (ent cfz 98 [(.agg [(.d (.v (.int .i64 4))), (.d (.v (.int .i64 2)))]), (.d (.sl 4 [(.v (.int .i64 10)), (.v (.float .f32 1065353216)), (.v (.int .i64 5)), (.v (.float .f32 1065353216)), (.v (.int .i64 1)), (.v (.float .f32 1065353216)), (.v (.int .i64 7)), (.v (.float .f32 1056964608))]))]) = some ((.d (.v (.int .i64 0))), [.eqA [(.agg [(.d (.v (.int .i64 4))), (.d (.v (.int .i64 2)))])] [(.agg [(.d (.v (.int .i64 4))), (.d (.v (.int .i64 2)))])], .eqA [(.d (.v (.bool false))), (.d (.v (.int .i64 2)))] [(.d (.v (.bool false))), (.d (.v (.int .i64 2)))], .eqA [(.d (.sl 4 [(.v (.int .i64 10)), (.v (.float .f32 1065353216)), (.v (.int .i64 5)), (.v (.float .f32 1065353216)), (.v (.int .i64 1)), (.v (.float .f32 1065353216)), (.v (.int .i64 7)), (.v (.float .f32 1056964608))])), (.d (.v (.func (.func 139) (#[]) (#[]))))] [(.d (.sl 4 [(.v (.int .i64 10)), (.v (.float .f32 1065353216)), (.v (.int .i64 5)), (.v (.float .f32 1065353216)), (.v (.int .i64 1)), (.v (.float .f32 1065353216)), (.v (.int .i64 7)), (.v (.float .f32 1056964608))])), (.d (.v (.func (.func 139) (#[]) (#[]))))], .eqA [(.d (.sl 4 [(.v (.int .i64 0)), (.v (.int .i64 0)), (.v (.int .i64 0)), (.v (.int .i64 0))]))] [(.d (.sl 4 [(.v (.int .i64 0)), (.v (.int .i64 0)), (.v (.int .i64 0)), (.v (.int .i64 0))]))], .eqA [(.d (.sl 3 [(.v (.int .i64 0)), (.v (.int .i64 0)), (.v (.int .i64 0))]))] [(.d (.sl 3 [(.v (.int .i64 0)), (.v (.int .i64 0)), (.v (.int .i64 0))]))]]) := by kernel_rfl
theorem cln38 : PureCalls cfz.P cfz.glob 98 [(.agg [(.d (.v (.int .i64 4))), (.d (.v (.int .i64 2)))]), (.d (.sl 4 [(.v (.int .i64 10)), (.v (.float .f32 1065353216)), (.v (.int .i64 5)), (.v (.float .f32 1065353216)), (.v (.int .i64 1)), (.v (.float .f32 1065353216)), (.v (.int .i64 7)), (.v (.float .f32 1056964608))]))] (.d (.v (.int .i64 0))) := closed_ok knil (by kernel_rfl) cln38k ⟨rfl, ⟨rfl, ⟨rfl, ⟨rfl, ⟨rfl, trivial⟩⟩⟩⟩⟩

noncomputable def cln39D : CT cfz := .run 16 [] <|  .fin
theorem cln39k : crun cfz 83 cln39D [] (ent cfz 83 [(.d (.v (.bool false))), (.d (.v (.int .i64 20)))]) = some ((.d (.v (.int .i64 0))), []) := by kernel_rfl
theorem cln39 : PureCalls cfz.P cfz.glob 83 [(.d (.v (.bool false))), (.d (.v (.int .i64 20)))] (.d (.v (.int .i64 0))) := closed_ok knil (by kernel_rfl) cln39k trivial

noncomputable def cln40D : CT cfz := .run 81 [] <|  .fin
theorem cln40k : crun cfz 82 cln40D [] (ent cfz 82 [(.d (.sl 2 [(.v (.int .i64 0)), (.v (.int .i64 0))]))]) = some ((.d (.v (.int .i64 0))), []) := by kernel_rfl
theorem cln40 : PureCalls cfz.P cfz.glob 82 [(.d (.sl 2 [(.v (.int .i64 0)), (.v (.int .i64 0))]))] (.d (.v (.int .i64 0))) := closed_ok knil (by kernel_rfl) cln40k trivial

noncomputable def cln41D : CT cfz := .run 7 [] <| .use cln38 <| .use cln39 <| .use cln40 <| .run 1 [.none, (.ck 0), .none, .none, (.ck 1), (.ck 2)] <| .run 1 [] <|  .fin
theorem cln41k : crun cfz 96 cln41D [] (ent cfz 96 [(.agg [(.d (.v (.int .i64 4))), (.d (.v (.int .i64 2)))]), (.d (.sl 4 [(.v (.int .i64 10)), (.v (.float .f32 1065353216)), (.v (.int .i64 5)), (.v (.float .f32 1065353216)), (.v (.int .i64 1)), (.v (.float .f32 1065353216)), (.v (.int .i64 7)), (.v (.float .f32 1056964608))]))]) = some ((.d (.v (.int .i64 0))), [.eqA [(.agg [(.d (.v (.int .i64 4))), (.d (.v (.int .i64 2)))]), (.d (.sl 4 [(.v (.int .i64 10)), (.v (.float .f32 1065353216)), (.v (.int .i64 5)), (.v (.float .f32 1065353216)), (.v (.int .i64 1)), (.v (.float .f32 1065353216)), (.v (.int .i64 7)), (.v (.float .f32 1056964608))]))] [(.agg [(.d (.v (.int .i64 4))), (.d (.v (.int .i64 2)))]), (.d (.sl 4 [(.v (.int .i64 10)), (.v (.float .f32 1065353216)), (.v (.int .i64 5)), (.v (.float .f32 1065353216)), (.v (.int .i64 1)), (.v (.float .f32 1065353216)), (.v (.int .i64 7)), (.v (.float .f32 1056964608))]))], .eqA [(.d (.v (.bool false))), (.d (.v (.int .i64 20)))] [(.d (.v (.bool false))), (.d (.v (.int .i64 20)))], .eqA [(.d (.sl 2 [(.v (.int .i64 0)), (.v (.int .i64 0))]))] [(.d (.sl 2 [(.v (.int .i64 0)), (.v (.int .i64 0))]))]]) := by kernel_rfl
theorem cln41 : PureCalls cfz.P cfz.glob 96 [(.agg [(.d (.v (.int .i64 4))), (.d (.v (.int .i64 2)))]), (.d (.sl 4 [(.v (.int .i64 10)), (.v (.float .f32 1065353216)), (.v (.int .i64 5)), (.v (.float .f32 1065353216)), (.v (.int .i64 1)), (.v (.float .f32 1065353216)), (.v (.int .i64 7)), (.v (.float .f32 1056964608))]))] (.d (.v (.int .i64 0))) := closed_ok knil (by kernel_rfl) cln41k ⟨rfl, ⟨rfl, ⟨rfl, trivial⟩⟩⟩

noncomputable def F96_cln41 : Option Unit := some ()
def out96_cln41 (_ : Unit) : AV := (.d (.v (.int .i64 0)))
theorem f96_cln41 (v : Unit) (_ : F96_cln41 = some v) : PureCalls cfz.P cfz.glob 96 [(.agg [(aI 4), (aI 2)]), (.d (.sl 4 [(vI 10), (.v (.float .f32 1065353216)), (vI 5), (.v (.float .f32 1065353216)), (vI 1), (.v (.float .f32 1065353216)), (vI 7), (.v (.float .f32 1056964608))]))] (out96_cln41 v) := cln41

/-! F34 -/
inductive S34 where
  | c0
def out34 (v : Nat × List DV × Int) : AV := (.tup [(.d (.sl v.fst v.snd.fst)), (.d (.v (.int .i64 v.snd.snd))), (.d (.v (.int .i64 0)))])
noncomputable def st34 : S34 → ASt
  | .c0 => ent cfz 34 [(.agg [(aI 4), (aI 2)]), (.d (.sl 4 [(vI 10), (.v (.float .f32 1065353216)), (vI 5), (.v (.float .f32 1065353216)), (vI 1), (.v (.float .f32 1065353216)), (vI 7), (.v (.float .f32 1056964608))]))]
noncomputable def B34 : S34 → Tr S34 (Nat × List DV × Int)
  | .c0 => (.bind (F96_cln41) fun v0 =>
  (.sees [(.agg [(aI 4), (aI 2)]), (.d (.sl 4 [(vI 10), (.v (.float .f32 1065353216)), (vI 5), (.v (.float .f32 1065353216)), (vI 1), (.v (.float .f32 1065353216)), (vI 7), (.v (.float .f32 1056964608))]))] (.bind (F97) fun v1 =>
  (.sees [(.agg [(aI 4), (aI 2)]), (.d (.sl 4 [(vI 10), (.v (.float .f32 1065353216)), (vI 5), (.v (.float .f32 1065353216)), (vI 1), (.v (.float .f32 1065353216)), (vI 7), (.v (.float .f32 1056964608))]))] (.ask (.lt 0 ((↑v1.fst : Int))) (.ask (.leN 0 v1.snd.length) (.ask (.leN 2 ((List.drop 0 v1.snd).length)) (.ask (.prop (List.map AV.d (List.take 2 (List.drop 0 v1.snd)) = [AV.d (DV.sl (dN (cel v1.snd 0)) (dL (cel v1.snd 0))), AV.d (DV.v (Value.int IntKind.i64 (dI (cel v1.snd 1))))])) (.ret ((dN (cel v1.snd 0)), (dL (cel v1.snd 0)), (dI (cel v1.snd 1))))))))))))
noncomputable def F34 : Option (Nat × List DV × Int) := res B34 (.c0)
noncomputable def D34_0 : DT cfz := (.go 12 [] [] (.bind (f96_cln41) fun v0 => (.go 14 [(.ck 0), (.br false)] [1] (.bind (f97) fun v1 => (.go 10 [(.ck 1), (.as (.agg [(.d (.sl (dN (cel v1.snd 0)) (dL (cel v1.snd 0)))), (aI (dI (cel v1.snd 1)))]))] [1] .fin)))))
theorem k34_0 : xrun cfz 34 (D34_0) [] (st34 (.c0)) = (B34 (.c0)).mach st34 out34 := by kernel_rfl
theorem ok34 : ∀ s, ∃ d, xrun cfz 34 d [] (st34 s) = (B34 s).mach st34 out34
  | .c0 => ⟨_, k34_0⟩
theorem f34 (v : Nat × List DV × Int) (h : F34 = some v) : PureCalls cfz.P cfz.glob 34 [(.agg [(aI 4), (aI 2)]), (.d (.sl 4 [(vI 10), (.v (.float .f32 1065353216)), (vI 5), (.v (.float .f32 1065353216)), (vI 1), (.v (.float .f32 1065353216)), (vI 7), (.v (.float .f32 1056964608))]))] (out34 v) := tree_pure knil ok34 (s := .c0) rfl (by kernel_rfl) v h

/-! F36 -/
inductive S36 where
  | c0
def out36 (v : Int) : AV := (.tup [(.d (.v (.int .i64 v))), (.d (.v (.int .i64 0)))])
noncomputable def st36 : S36 → ASt
  | .c0 => ent cfz 36 [(.agg [(aI 4), (aI 2)]), (.d (.sl 4 [(vI 10), (.v (.float .f32 1065353216)), (vI 5), (.v (.float .f32 1065353216)), (vI 1), (.v (.float .f32 1065353216)), (vI 7), (.v (.float .f32 1056964608))]))]
noncomputable def B36 : S36 → Tr S36 (Int)
  | .c0 => (.bind (F96_cln41) fun v2 =>
  (.sees [(.agg [(aI 4), (aI 2)]), (.d (.sl 4 [(vI 10), (.v (.float .f32 1065353216)), (vI 5), (.v (.float .f32 1065353216)), (vI 1), (.v (.float .f32 1065353216)), (vI 7), (.v (.float .f32 1056964608))]))] (.bind (F97) fun v3 =>
  (.sees [(.agg [(aI 4), (aI 2)]), (.d (.sl 4 [(vI 10), (.v (.float .f32 1065353216)), (vI 5), (.v (.float .f32 1065353216)), (vI 1), (.v (.float .f32 1065353216)), (vI 7), (.v (.float .f32 1056964608))]))] (.ask (.lt 1 ((↑v3.fst : Int))) (.ask (.leN 2 v3.snd.length) (.ask (.leN 1 ((List.drop 2 v3.snd).length)) (.ask (.prop (Option.map AV.d (List.drop 1 (List.drop 2 v3.snd))[0]? = some (AV.d (DV.v (Value.int IntKind.i64 (dI (cel (List.drop 2 v3.snd) 1))))))) (.ret (dI (cel (List.drop 2 v3.snd) 1)))))))))))
noncomputable def F36 : Option (Int) := res B36 (.c0)
noncomputable def D36_0 : DT cfz := (.go 11 [] [] (.bind (f96_cln41) fun v2 => (.go 14 [(.ck 0), (.br false)] [1] (.bind (f97) fun v3 => (.go 8 [(.ck 1), (.as (aI (dI (cel (List.drop 2 v3.snd) 1))))] [1] .fin)))))
theorem k36_0 : xrun cfz 36 (D36_0) [] (st36 (.c0)) = (B36 (.c0)).mach st36 out36 := by kernel_rfl
theorem ok36 : ∀ s, ∃ d, xrun cfz 36 d [] (st36 s) = (B36 s).mach st36 out36
  | .c0 => ⟨_, k36_0⟩
theorem f36 (v : Int) (h : F36 = some v) : PureCalls cfz.P cfz.glob 36 [(.agg [(aI 4), (aI 2)]), (.d (.sl 4 [(vI 10), (.v (.float .f32 1065353216)), (vI 5), (.v (.float .f32 1065353216)), (vI 1), (.v (.float .f32 1065353216)), (vI 7), (.v (.float .f32 1056964608))]))] (out36 v) := tree_pure knil ok36 (s := .c0) rfl (by kernel_rfl) v h

end Go.Kv
