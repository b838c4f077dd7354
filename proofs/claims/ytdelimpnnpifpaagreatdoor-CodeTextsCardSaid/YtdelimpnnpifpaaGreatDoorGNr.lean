/- Printed: what functions of the program come to, and the kernel's proof of it. -/
import Derived.Test.YtdelimpnnpifpaaGreatDoorGAl
set_option linter.all false
namespace Go.Kv
open Go Go.RowKit Go.Proofs
set_option maxRecDepth 100000
theorem cln0 : PQ 83 [(.d (.v (.bool false))), (aI 3)] (aI 0) := cq (.run 16 [] <| .fin) []

theorem cln1 : PQ 91 [(aI 4), (aI 2), (aI 16)] (aI 0) := cq (.run 14 [] <| .use cln0 <| .run 1 [(.ck 0)] <| .run 3 [] <| .fin) [.eqA [(.d (.v (.bool false))), (aI 3)] [(.d (.v (.bool false))), (aI 3)]]

theorem cln2 : PQ 91 [(aI 2), (aI 1), (aI 8)] (aI 0) := cq (.run 14 [] <| .use cln0 <| .run 1 [(.ck 0)] <| .run 3 [] <| .fin) [.eqA [(.d (.v (.bool false))), (aI 3)] [(.d (.v (.bool false))), (aI 3)]]

theorem cln3 : PQ 83 [(.d (.v (.bool false))), (aI 11)] (aI 0) := cq (.run 16 [] <| .fin) []

theorem cln4 : PQ 82 [(.d (.sl 3 [(vI 0), (vI 0), (vI 0)]))] (aI 0) := cq (.run 109 [] <| .fin) []

theorem cln5 : PQ 27 [(.agg [(aI 4), (aI 2)])] (aI 0) := cq (.run 7 [] <| .use cln1 <| .use cln2 <| .use cln3 <| .use cln4 <| .run 1 [.none, (.ck 0), .none, (.ck 1), .none, .none, (.ck 2), (.ck 3)] <| .run 1 [] <| .fin) [.eqA [(aI 4), (aI 2), (aI 16)] [(aI 4), (aI 2), (aI 16)], .eqA [(aI 2), (aI 1), (aI 8)] [(aI 2), (aI 1), (aI 8)], .eqA [(.d (.v (.bool false))), (aI 11)] [(.d (.v (.bool false))), (aI 11)], .eqA [(.d (.sl 3 [(vI 0), (vI 0), (vI 0)]))] [(.d (.sl 3 [(vI 0), (vI 0), (vI 0)]))]]

theorem cln6 : PQ 83 [(.d (.v (.bool false))), (aI 2)] (aI 0) := cq (.run 16 [] <| .fin) []

theorem cln7 : PQ 91 [(aI 10), (aI 0), (aI 16)] (aI 0) := cq (.run 14 [] <| .use cln0 <| .run 1 [(.ck 0)] <| .run 3 [] <| .fin) [.eqA [(.d (.v (.bool false))), (aI 3)] [(.d (.v (.bool false))), (aI 3)]]

theorem cln8 : PQ 127 [(aI 10)] (aI 0) := cq (.run 7 [] <| .use cln7 <| .run 1 [(.ck 0)] <| .run 3 [] <| .fin) [.eqA [(aI 10), (aI 0), (aI 16)] [(aI 10), (aI 0), (aI 16)]]

theorem cln9 : PQ 199 [(.d (.v (.float .f64 4607182418800017408)))] (.d (.v (.bool false))) := cq (.run 12 [] <| .fin) []

theorem cln10 : PQ 212 [(.d (.v (.float .f64 4607182418800017408)))] (.d (.v (.float .f64 4607182418800017408))) := cq (.run 7 [] <| .run 1 [(.ext (.int .u64 4607182418800017408))] <| .run 1 [] <| .run 1 [(.ext (.float .f64 4607182418800017408))] <| .run 3 [] <| .fin) [(.prop (∀ (w : World), Sem.run cfz.P (callFunc 220 #[Value.float FloatKind.f64 4607182418800017408]) w = Result.ok (Next.value (Value.int IntKind.u64 4607182418800017408)) w)), (.prop (∀ (w : World), Sem.run cfz.P (callFunc 219 #[Value.int IntKind.u64 4607182418800017408]) w = Result.ok (Next.value (Value.float FloatKind.f64 4607182418800017408)) w))] (hp := ⟨(fun w => pureRun_run (by kernel_rfl) w), ⟨(fun w => pureRun_run (by kernel_rfl) w), trivial⟩⟩)

theorem cln11 : PQ 200 [(.d (.v (.float .f64 4607182418800017408))), (aI 0)] (.d (.v (.bool false))) := cq (.run 13 [] <| .use cln10 <| .run 1 [(.ck 0)] <| .run 9 [] <| .fin) [.eqA [(.d (.v (.float .f64 4607182418800017408)))] [(.d (.v (.float .f64 4607182418800017408)))]]

theorem cln12 : PQ 181 [(.d (.v (.float .f32 1065353216)))] (.d (.v (.bool false))) := cq (.run 8 [] <| .use cln9 <| .run 1 [(.ck 0)] <| .run 3 [] <| .use cln11 <| .run 1 [(.br false), (.ck 1)] <| .run 4 [] <| .fin) [.eqA [(.d (.v (.float .f64 4607182418800017408)))] [(.d (.v (.float .f64 4607182418800017408)))], .eqA [(.d (.v (.float .f64 4607182418800017408))), (aI 0)] [(.d (.v (.float .f64 4607182418800017408))), (aI 0)]]

theorem cln13 : PQ 180 [(.d (.v (.bool false))), (aI 1)] (aI 0) := cq (.run 16 [] <| .fin) []

theorem cln14 : PQ 201 [(.d (.v (.float .f64 4625196817309499392)))] (.d (.v (.float .f64 4625196817309499392))) := cq (.run 9 [] <| .run 1 [(.ext (.float .f64 4625196817309499392))] <| .run 3 [] <| .fin) [(.prop (∀ (w : World), Sem.run cfz.P (callFunc 213 #[Value.float FloatKind.f64 4625196817309499392]) w = Result.ok (Next.value (Value.float FloatKind.f64 4625196817309499392)) w))] (hp := ⟨(fun w => pureRun_run (by kernel_rfl) w), trivial⟩)

theorem cln15 : PQ 180 [(.d (.v (.bool false))), (aI 3)] (aI 0) := cq (.run 16 [] <| .fin) []

theorem cln16 : PQ 182 [(.d (.v (.float .f32 1065353216))), (.d (.v (.float .f32 1149239296)))] (aI 0) := cq (.run 19 [] <| .use cln14 <| .run 1 [(.br false), (.ck 0)] <| .run 5 [] <| .use cln15 <| .run 1 [(.ck 1)] <| .run 3 [] <| .fin) [.eqA [(.d (.v (.float .f64 4625196817309499392)))] [(.d (.v (.float .f64 4625196817309499392)))], .eqA [(.d (.v (.bool false))), (aI 3)] [(.d (.v (.bool false))), (aI 3)]]

theorem cln17 : PQ 179 [(.d (.sl 2 [(vI 0), (vI 0)]))] (aI 0) := cq (.run 81 [] <| .fin) []

theorem cln18 : PQ 160 [(.d (.v (.float .f32 1065353216)))] (aI 0) := cq (.run 7 [] <| .use cln12 <| .run 1 [(.ck 0)] <| .use cln13 <| .run 1 [(.ck 1)] <| .run 1 [] <| .use cln16 <| .run 1 [(.ck 2)] <| .run 1 [] <| .use cln17 <| .run 1 [(.ck 3)] <| .run 3 [] <| .fin) [.eqA [(.d (.v (.float .f32 1065353216)))] [(.d (.v (.float .f32 1065353216)))], .eqA [(.d (.v (.bool false))), (aI 1)] [(.d (.v (.bool false))), (aI 1)], .eqA [(.d (.v (.float .f32 1065353216))), (.d (.v (.float .f32 1149239296)))] [(.d (.v (.float .f32 1065353216))), (.d (.v (.float .f32 1149239296)))], .eqA [(.d (.sl 2 [(vI 0), (vI 0)]))] [(.d (.sl 2 [(vI 0), (vI 0)]))]]

theorem cln19 : PQ 139 [(.agg [(aI 10), (.d (.v (.float .f32 1065353216)))])] (aI 0) := cq (.run 7 [] <| .use cln8 <| .use cln18 <| .use cln0 <| .use cln4 <| .run 1 [.none, (.ck 0), .none, (.ck 1), .none, (.ck 2), (.ck 3)] <| .run 1 [] <| .fin) [.eqA [(aI 10)] [(aI 10)], .eqA [(.d (.v (.float .f32 1065353216)))] [(.d (.v (.float .f32 1065353216)))], .eqA [(.d (.v (.bool false))), (aI 3)] [(.d (.v (.bool false))), (aI 3)], .eqA [(.d (.sl 3 [(vI 0), (vI 0), (vI 0)]))] [(.d (.sl 3 [(vI 0), (vI 0), (vI 0)]))]]

theorem cln20 : PQ 91 [(aI 5), (aI 0), (aI 16)] (aI 0) := cq (.run 14 [] <| .use cln0 <| .run 1 [(.ck 0)] <| .run 3 [] <| .fin) [.eqA [(.d (.v (.bool false))), (aI 3)] [(.d (.v (.bool false))), (aI 3)]]

theorem cln21 : PQ 127 [(aI 5)] (aI 0) := cq (.run 7 [] <| .use cln20 <| .run 1 [(.ck 0)] <| .run 3 [] <| .fin) [.eqA [(aI 5), (aI 0), (aI 16)] [(aI 5), (aI 0), (aI 16)]]

theorem cln22 : PQ 139 [(.agg [(aI 5), (.d (.v (.float .f32 1065353216)))])] (aI 0) := cq (.run 7 [] <| .use cln21 <| .use cln18 <| .use cln0 <| .use cln4 <| .run 1 [.none, (.ck 0), .none, (.ck 1), .none, (.ck 2), (.ck 3)] <| .run 1 [] <| .fin) [.eqA [(aI 5)] [(aI 5)], .eqA [(.d (.v (.float .f32 1065353216)))] [(.d (.v (.float .f32 1065353216)))], .eqA [(.d (.v (.bool false))), (aI 3)] [(.d (.v (.bool false))), (aI 3)], .eqA [(.d (.sl 3 [(vI 0), (vI 0), (vI 0)]))] [(.d (.sl 3 [(vI 0), (vI 0), (vI 0)]))]]

theorem cln23 : PQ 91 [(aI 1), (aI 0), (aI 16)] (aI 0) := cq (.run 14 [] <| .use cln0 <| .run 1 [(.ck 0)] <| .run 3 [] <| .fin) [.eqA [(.d (.v (.bool false))), (aI 3)] [(.d (.v (.bool false))), (aI 3)]]

theorem cln24 : PQ 127 [(aI 1)] (aI 0) := cq (.run 7 [] <| .use cln23 <| .run 1 [(.ck 0)] <| .run 3 [] <| .fin) [.eqA [(aI 1), (aI 0), (aI 16)] [(aI 1), (aI 0), (aI 16)]]

theorem cln25 : PQ 139 [(.agg [(aI 1), (.d (.v (.float .f32 1065353216)))])] (aI 0) := cq (.run 7 [] <| .use cln24 <| .use cln18 <| .use cln0 <| .use cln4 <| .run 1 [.none, (.ck 0), .none, (.ck 1), .none, (.ck 2), (.ck 3)] <| .run 1 [] <| .fin) [.eqA [(aI 1)] [(aI 1)], .eqA [(.d (.v (.float .f32 1065353216)))] [(.d (.v (.float .f32 1065353216)))], .eqA [(.d (.v (.bool false))), (aI 3)] [(.d (.v (.bool false))), (aI 3)], .eqA [(.d (.sl 3 [(vI 0), (vI 0), (vI 0)]))] [(.d (.sl 3 [(vI 0), (vI 0), (vI 0)]))]]

theorem cln26 : PQ 91 [(aI 7), (aI 0), (aI 16)] (aI 0) := cq (.run 14 [] <| .use cln0 <| .run 1 [(.ck 0)] <| .run 3 [] <| .fin) [.eqA [(.d (.v (.bool false))), (aI 3)] [(.d (.v (.bool false))), (aI 3)]]

theorem cln27 : PQ 127 [(aI 7)] (aI 0) := cq (.run 7 [] <| .use cln26 <| .run 1 [(.ck 0)] <| .run 3 [] <| .fin) [.eqA [(aI 7), (aI 0), (aI 16)] [(aI 7), (aI 0), (aI 16)]]

theorem cln28 : PQ 199 [(.d (.v (.float .f64 4602678819172646912)))] (.d (.v (.bool false))) := cq (.run 12 [] <| .fin) []

theorem cln29 : PQ 212 [(.d (.v (.float .f64 4602678819172646912)))] (.d (.v (.float .f64 4602678819172646912))) := cq (.run 7 [] <| .run 1 [(.ext (.int .u64 4602678819172646912))] <| .run 1 [] <| .run 1 [(.ext (.float .f64 4602678819172646912))] <| .run 3 [] <| .fin) [(.prop (∀ (w : World), Sem.run cfz.P (callFunc 220 #[Value.float FloatKind.f64 4602678819172646912]) w = Result.ok (Next.value (Value.int IntKind.u64 4602678819172646912)) w)), (.prop (∀ (w : World), Sem.run cfz.P (callFunc 219 #[Value.int IntKind.u64 4602678819172646912]) w = Result.ok (Next.value (Value.float FloatKind.f64 4602678819172646912)) w))] (hp := ⟨(fun w => pureRun_run (by kernel_rfl) w), ⟨(fun w => pureRun_run (by kernel_rfl) w), trivial⟩⟩)

theorem cln30 : PQ 200 [(.d (.v (.float .f64 4602678819172646912))), (aI 0)] (.d (.v (.bool false))) := cq (.run 13 [] <| .use cln29 <| .run 1 [(.ck 0)] <| .run 9 [] <| .fin) [.eqA [(.d (.v (.float .f64 4602678819172646912)))] [(.d (.v (.float .f64 4602678819172646912)))]]

theorem cln31 : PQ 181 [(.d (.v (.float .f32 1056964608)))] (.d (.v (.bool false))) := cq (.run 8 [] <| .use cln28 <| .run 1 [(.ck 0)] <| .run 3 [] <| .use cln30 <| .run 1 [(.br false), (.ck 1)] <| .run 4 [] <| .fin) [.eqA [(.d (.v (.float .f64 4602678819172646912)))] [(.d (.v (.float .f64 4602678819172646912)))], .eqA [(.d (.v (.float .f64 4602678819172646912))), (aI 0)] [(.d (.v (.float .f64 4602678819172646912))), (aI 0)]]

theorem cln32 : PQ 201 [(.d (.v (.float .f64 4620693217682128896)))] (.d (.v (.float .f64 4620693217682128896))) := cq (.run 9 [] <| .run 1 [(.ext (.float .f64 4620693217682128896))] <| .run 3 [] <| .fin) [(.prop (∀ (w : World), Sem.run cfz.P (callFunc 213 #[Value.float FloatKind.f64 4620693217682128896]) w = Result.ok (Next.value (Value.float FloatKind.f64 4620693217682128896)) w))] (hp := ⟨(fun w => pureRun_run (by kernel_rfl) w), trivial⟩)

theorem cln33 : PQ 182 [(.d (.v (.float .f32 1056964608))), (.d (.v (.float .f32 1149239296)))] (aI 0) := cq (.run 19 [] <| .use cln32 <| .run 1 [(.br false), (.ck 0)] <| .run 5 [] <| .use cln15 <| .run 1 [(.ck 1)] <| .run 3 [] <| .fin) [.eqA [(.d (.v (.float .f64 4620693217682128896)))] [(.d (.v (.float .f64 4620693217682128896)))], .eqA [(.d (.v (.bool false))), (aI 3)] [(.d (.v (.bool false))), (aI 3)]]

theorem cln34 : PQ 160 [(.d (.v (.float .f32 1056964608)))] (aI 0) := cq (.run 7 [] <| .use cln31 <| .run 1 [(.ck 0)] <| .use cln13 <| .run 1 [(.ck 1)] <| .run 1 [] <| .use cln33 <| .run 1 [(.ck 2)] <| .run 1 [] <| .use cln17 <| .run 1 [(.ck 3)] <| .run 3 [] <| .fin) [.eqA [(.d (.v (.float .f32 1056964608)))] [(.d (.v (.float .f32 1056964608)))], .eqA [(.d (.v (.bool false))), (aI 1)] [(.d (.v (.bool false))), (aI 1)], .eqA [(.d (.v (.float .f32 1056964608))), (.d (.v (.float .f32 1149239296)))] [(.d (.v (.float .f32 1056964608))), (.d (.v (.float .f32 1149239296)))], .eqA [(.d (.sl 2 [(vI 0), (vI 0)]))] [(.d (.sl 2 [(vI 0), (vI 0)]))]]

theorem cln35 : PQ 139 [(.agg [(aI 7), (.d (.v (.float .f32 1056964608)))])] (aI 0) := cq (.run 7 [] <| .use cln27 <| .use cln34 <| .use cln0 <| .use cln4 <| .run 1 [.none, (.ck 0), .none, (.ck 1), .none, (.ck 2), (.ck 3)] <| .run 1 [] <| .fin) [.eqA [(aI 7)] [(aI 7)], .eqA [(.d (.v (.float .f32 1056964608)))] [(.d (.v (.float .f32 1056964608)))], .eqA [(.d (.v (.bool false))), (aI 3)] [(.d (.v (.bool false))), (aI 3)], .eqA [(.d (.sl 3 [(vI 0), (vI 0), (vI 0)]))] [(.d (.sl 3 [(vI 0), (vI 0), (vI 0)]))]]

theorem cln36 : PQ 138 [(.d (.sl 4 [(vI 10), (.v (.float .f32 1065353216)), (vI 5), (.v (.float .f32 1065353216)), (vI 1), (.v (.float .f32 1065353216)), (vI 7), (.v (.float .f32 1056964608))])), (.d (.v (.func (.func 139) (#[]) (#[]))))] (.d (.sl 4 [(vI 0), (vI 0), (vI 0), (vI 0)])) := cq (.run 37 [] <| .use cln19 <| .run 1 [(.ck 0)] <| .run 30 [] <| .use cln22 <| .run 1 [(.ck 1)] <| .run 30 [] <| .use cln25 <| .run 1 [(.ck 2)] <| .run 30 [] <| .use cln35 <| .run 1 [(.ck 3)] <| .run 23 [] <| .fin) [.eqA [(.agg [(aI 10), (.d (.v (.float .f32 1065353216)))])] [(.agg [(aI 10), (.d (.v (.float .f32 1065353216)))])], .eqA [(.agg [(aI 5), (.d (.v (.float .f32 1065353216)))])] [(.agg [(aI 5), (.d (.v (.float .f32 1065353216)))])], .eqA [(.agg [(aI 1), (.d (.v (.float .f32 1065353216)))])] [(.agg [(aI 1), (.d (.v (.float .f32 1065353216)))])], .eqA [(.agg [(aI 7), (.d (.v (.float .f32 1056964608)))])] [(.agg [(aI 7), (.d (.v (.float .f32 1056964608)))])]]

theorem cln37 : PQ 82 [(.d (.sl 4 [(vI 0), (vI 0), (vI 0), (vI 0)]))] (aI 0) := cq (.run 137 [] <| .fin) []

theorem cln38 : PQ 98 [(.agg [(aI 4), (aI 2)]), (.d (.sl 4 [(vI 10), (.v (.float .f32 1065353216)), (vI 5), (.v (.float .f32 1065353216)), (vI 1), (.v (.float .f32 1065353216)), (vI 7), (.v (.float .f32 1056964608))]))] (aI 0) := cq (.run 7 [] <| .use cln5 <| .use cln6 <| .use cln36 <| .use cln37 <| .use cln4 <| .run 1 [.none, (.ck 0), .none, (.ck 1), (.ck 2), (.ck 3), (.ck 4)] <| .run 1 [] <| .fin) [.eqA [(.agg [(aI 4), (aI 2)])] [(.agg [(aI 4), (aI 2)])], .eqA [(.d (.v (.bool false))), (aI 2)] [(.d (.v (.bool false))), (aI 2)], .eqA [(.d (.sl 4 [(vI 10), (.v (.float .f32 1065353216)), (vI 5), (.v (.float .f32 1065353216)), (vI 1), (.v (.float .f32 1065353216)), (vI 7), (.v (.float .f32 1056964608))])), (.d (.v (.func (.func 139) (#[]) (#[]))))] [(.d (.sl 4 [(vI 10), (.v (.float .f32 1065353216)), (vI 5), (.v (.float .f32 1065353216)), (vI 1), (.v (.float .f32 1065353216)), (vI 7), (.v (.float .f32 1056964608))])), (.d (.v (.func (.func 139) (#[]) (#[]))))], .eqA [(.d (.sl 4 [(vI 0), (vI 0), (vI 0), (vI 0)]))] [(.d (.sl 4 [(vI 0), (vI 0), (vI 0), (vI 0)]))], .eqA [(.d (.sl 3 [(vI 0), (vI 0), (vI 0)]))] [(.d (.sl 3 [(vI 0), (vI 0), (vI 0)]))]]

theorem cln39 : PQ 83 [(.d (.v (.bool false))), (aI 20)] (aI 0) := cq (.run 16 [] <| .fin) []

theorem cln40 : PQ 82 [(.d (.sl 2 [(vI 0), (vI 0)]))] (aI 0) := cq (.run 81 [] <| .fin) []

theorem cln41 : PQ 96 [(.agg [(aI 4), (aI 2)]), (.d (.sl 4 [(vI 10), (.v (.float .f32 1065353216)), (vI 5), (.v (.float .f32 1065353216)), (vI 1), (.v (.float .f32 1065353216)), (vI 7), (.v (.float .f32 1056964608))]))] (aI 0) := cq (.run 7 [] <| .use cln38 <| .use cln39 <| .use cln40 <| .run 1 [.none, (.ck 0), .none, .none, (.ck 1), (.ck 2)] <| .run 1 [] <| .fin) [.eqA [(.agg [(aI 4), (aI 2)]), (.d (.sl 4 [(vI 10), (.v (.float .f32 1065353216)), (vI 5), (.v (.float .f32 1065353216)), (vI 1), (.v (.float .f32 1065353216)), (vI 7), (.v (.float .f32 1056964608))]))] [(.agg [(aI 4), (aI 2)]), (.d (.sl 4 [(vI 10), (.v (.float .f32 1065353216)), (vI 5), (.v (.float .f32 1065353216)), (vI 1), (.v (.float .f32 1065353216)), (vI 7), (.v (.float .f32 1056964608))]))], .eqA [(.d (.v (.bool false))), (aI 20)] [(.d (.v (.bool false))), (aI 20)], .eqA [(.d (.sl 2 [(vI 0), (vI 0)]))] [(.d (.sl 2 [(vI 0), (vI 0)]))]]

noncomputable def F96_cln41 : Option Unit := some ()
def out96_cln41 (_ : Unit) : AV := (aI 0)
theorem f96_cln41 (v : Unit) (_ : F96_cln41 = some v) : PQ 96 [(.agg [(aI 4), (aI 2)]), (.d (.sl 4 [(vI 10), (.v (.float .f32 1065353216)), (vI 5), (.v (.float .f32 1065353216)), (vI 1), (.v (.float .f32 1065353216)), (vI 7), (.v (.float .f32 1056964608))]))] (out96_cln41 v) := cln41

/-! F34 -/
inductive S34 where
  | c0
def out34 (v : Nat × List DV × Int) : AV := (.tup [(.d (.sl v.fst v.snd.fst)), (aI v.snd.snd), (aI 0)])
noncomputable def st34 : S34 → ASt
  | .c0 => ent cfz 34 [(.agg [(aI 4), (aI 2)]), (.d (.sl 4 [(vI 10), (.v (.float .f32 1065353216)), (vI 5), (.v (.float .f32 1065353216)), (vI 1), (.v (.float .f32 1065353216)), (vI 7), (.v (.float .f32 1056964608))]))]
noncomputable def B34 : S34 → Tr S34 (Nat × List DV × Int)
  | .c0 => (.bind (F96_cln41) fun v0 =>
  (.sees [(.agg [(aI 4), (aI 2)]), (.d (.sl 4 [(vI 10), (.v (.float .f32 1065353216)), (vI 5), (.v (.float .f32 1065353216)), (vI 1), (.v (.float .f32 1065353216)), (vI 7), (.v (.float .f32 1056964608))]))] (.bind (F97) fun v1 =>
  (.sees [(.agg [(aI 4), (aI 2)]), (.d (.sl 4 [(vI 10), (.v (.float .f32 1065353216)), (vI 5), (.v (.float .f32 1065353216)), (vI 1), (.v (.float .f32 1065353216)), (vI 7), (.v (.float .f32 1056964608))]))] (.ask (.lt 0 ((↑v1.fst : Int))) (.ask (.leN 0 v1.snd.length) (.ask (.leN 2 ((List.drop 0 v1.snd).length)) (.ask (.prop (List.map AV.d (List.take 2 (List.drop 0 v1.snd)) = [AV.d (DV.sl (dN (cel v1.snd 0)) (dL (cel v1.snd 0))), AV.d (vI (dI (cel v1.snd 1)))])) (.ret ((dN (cel v1.snd 0)), (dL (cel v1.snd 0)), (dI (cel v1.snd 1))))))))))))
noncomputable def F34 : Option (Nat × List DV × Int) := res B34 (.c0)
theorem ok34 : ∀ s, ∃ d, xrun cfz 34 d [] (st34 s) = (B34 s).mach st34 out34 := fun s => match s with
  | .c0 => ⟨(.go 12 [] [] (.bind (f96_cln41) fun v0 => (.go 14 [(.ck 0), (.br false)] [1] (.bind (f97) fun v1 => (.go 10 [(.ck 1), (.as (.agg [(.d (.sl (dN (cel v1.snd 0)) (dL (cel v1.snd 0)))), (aI (dI (cel v1.snd 1)))]))] [1] .fin))))), by kernel_rfl⟩
theorem f34 (v : Nat × List DV × Int) (h : F34 = some v) : PQ 34 [(.agg [(aI 4), (aI 2)]), (.d (.sl 4 [(vI 10), (.v (.float .f32 1065353216)), (vI 5), (.v (.float .f32 1065353216)), (vI 1), (.v (.float .f32 1065353216)), (vI 7), (.v (.float .f32 1056964608))]))] (out34 v) := tree_pure knil ok34 (s := .c0) rfl (by kernel_rfl) v h

/-! F36 -/
inductive S36 where
  | c0
def out36 (v : Int) : AV := (.tup [(aI v), (aI 0)])
noncomputable def st36 : S36 → ASt
  | .c0 => ent cfz 36 [(.agg [(aI 4), (aI 2)]), (.d (.sl 4 [(vI 10), (.v (.float .f32 1065353216)), (vI 5), (.v (.float .f32 1065353216)), (vI 1), (.v (.float .f32 1065353216)), (vI 7), (.v (.float .f32 1056964608))]))]
noncomputable def B36 : S36 → Tr S36 (Int)
  | .c0 => (.bind (F96_cln41) fun v2 =>
  (.sees [(.agg [(aI 4), (aI 2)]), (.d (.sl 4 [(vI 10), (.v (.float .f32 1065353216)), (vI 5), (.v (.float .f32 1065353216)), (vI 1), (.v (.float .f32 1065353216)), (vI 7), (.v (.float .f32 1056964608))]))] (.bind (F97) fun v3 =>
  (.sees [(.agg [(aI 4), (aI 2)]), (.d (.sl 4 [(vI 10), (.v (.float .f32 1065353216)), (vI 5), (.v (.float .f32 1065353216)), (vI 1), (.v (.float .f32 1065353216)), (vI 7), (.v (.float .f32 1056964608))]))] (.ask (.lt 1 ((↑v3.fst : Int))) (.ask (.leN 2 v3.snd.length) (.ask (.leN 1 ((List.drop 2 v3.snd).length)) (.ask (.prop (Option.map AV.d (List.drop 1 (List.drop 2 v3.snd))[0]? = some (AV.d (vI (dI (cel (List.drop 2 v3.snd) 1)))))) (.ret (dI (cel (List.drop 2 v3.snd) 1)))))))))))
noncomputable def F36 : Option (Int) := res B36 (.c0)
theorem ok36 : ∀ s, ∃ d, xrun cfz 36 d [] (st36 s) = (B36 s).mach st36 out36 := fun s => match s with
  | .c0 => ⟨(.go 11 [] [] (.bind (f96_cln41) fun v2 => (.go 14 [(.ck 0), (.br false)] [1] (.bind (f97) fun v3 => (.go 8 [(.ck 1), (.as (aI (dI (cel (List.drop 2 v3.snd) 1))))] [1] .fin))))), by kernel_rfl⟩
theorem f36 (v : Int) (h : F36 = some v) : PQ 36 [(.agg [(aI 4), (aI 2)]), (.d (.sl 4 [(vI 10), (.v (.float .f32 1065353216)), (vI 5), (.v (.float .f32 1065353216)), (vI 1), (.v (.float .f32 1065353216)), (vI 7), (.v (.float .f32 1056964608))]))] (out36 v) := tree_pure knil ok36 (s := .c0) rfl (by kernel_rfl) v h

end Go.Kv
