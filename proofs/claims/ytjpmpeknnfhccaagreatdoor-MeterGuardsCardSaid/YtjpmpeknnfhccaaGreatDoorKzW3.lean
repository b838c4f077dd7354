import Derived.Test.YtjpmpeknnfhccaaGreatDoorKvW
import Derived.Test.YtjpmpeknnfhccaaGreatDoorKzA
import Derived.Test.YtjpmpeknnfhccaaGreatDoorKzW2
namespace Go.Kv
set_option linter.unusedVariables false
set_option linter.unusedSimpArgs false
open Go Go.RowKit Go.Proofs
set_option maxRecDepth 100000
noncomputable def aw150D : CT cfz := .run 24 [] <|  .fin
theorem aw150k : crun cfz 71 aw150D [] (ent cfz 71 [(.agg [(aI 7), (aI 3), (aI 2), (aI 0), (aI 0)]), (.agg [(aI 6), (aI 2), (aI 9), (aI 0), (aI 0)])]) = some ((aB true), []) := by kernel_rfl
theorem aw150 : PureCalls cfz.P cfz.glob 71 [(.agg [(aI 7), (aI 3), (aI 2), (aI 0), (aI 0)]), (.agg [(aI 6), (aI 2), (aI 9), (aI 0), (aI 0)])] (aB true) := closed_ok knil (by kernel_rfl) aw150k trivial
noncomputable def aw151D : CT cfz := .run 14 [] <| .use aw57 <| .run 1 [(.ck 0)] <| .run 3 [] <|  .fin
theorem aw151k : crun cfz 73 aw151D [] (ent cfz 73 [(aI 4), (aI 0), (aI 100000000)]) = some ((aI 0), [.eqA [(aB false), (aI 3)] [(aB false), (aI 3)]]) := by kernel_rfl
theorem aw151 : PureCalls cfz.P cfz.glob 73 [(aI 4), (aI 0), (aI 100000000)] (aI 0) := closed_ok knil (by kernel_rfl) aw151k ⟨rfl, trivial⟩
noncomputable def aw152D : CT cfz := .run 7 [] <| .use aw112 <| .use aw151 <| .use aw144 <| .use aw75 <| .use aw109 <| .use aw93 <| .run 1 [.none, (.ck 0), .none, (.ck 1), .none, (.ck 2), .none, (.ck 3), .none, (.ck 4), (.ck 5)] <| .run 1 [] <|  .fin
theorem aw152k : crun cfz 54 aw152D [] (ent cfz 54 [(.agg [(aI 8), (aI 4), (aI 9), (aI 0), (aI 0)])]) = some ((aI 0), [.eqA [(aI 8), (aI 0), (aI 999999999)] [(aI 8), (aI 0), (aI 999999999)], .eqA [(aI 4), (aI 0), (aI 100000000)] [(aI 4), (aI 0), (aI 100000000)], .eqA [(aI 9), (aI 0), (aI 999999)] [(aI 9), (aI 0), (aI 999999)], .eqA [(aI 0), (aI 0), (aI 999999)] [(aI 0), (aI 0), (aI 999999)], .eqA [(aI 0), (aI 0), (aI 7)] [(aI 0), (aI 0), (aI 7)], .eqA [(.d (.sl 5 [(vI 0), (vI 0), (vI 0), (vI 0), (vI 0)]))] [(.d (.sl 5 [(vI 0), (vI 0), (vI 0), (vI 0), (vI 0)]))]]) := by kernel_rfl
theorem aw152 : PureCalls cfz.P cfz.glob 54 [(.agg [(aI 8), (aI 4), (aI 9), (aI 0), (aI 0)])] (aI 0) := closed_ok knil (by kernel_rfl) aw152k ⟨rfl, ⟨rfl, ⟨rfl, ⟨rfl, ⟨rfl, ⟨rfl, trivial⟩⟩⟩⟩⟩⟩
noncomputable def aw153D : CT cfz := .run 24 [] <|  .fin
theorem aw153k : crun cfz 71 aw153D [] (ent cfz 71 [(.agg [(aI 8), (aI 4), (aI 9), (aI 0), (aI 0)]), (.agg [(aI 7), (aI 3), (aI 2), (aI 0), (aI 0)])]) = some ((aB true), []) := by kernel_rfl
theorem aw153 : PureCalls cfz.P cfz.glob 71 [(.agg [(aI 8), (aI 4), (aI 9), (aI 0), (aI 0)]), (.agg [(aI 7), (aI 3), (aI 2), (aI 0), (aI 0)])] (aB true) := closed_ok knil (by kernel_rfl) aw153k trivial
noncomputable def aw154D : CT cfz := .run 8 [] <| .use aw137 <| .use aw106 <| .use aw36 <| .run 1 [.none, (.ck 0), .none, .none, (.ck 1), (.ck 2)] <| .run 37 [] <| .use aw141 <| .use aw111 <| .run 1 [.none, (.ck 3), (.br false), (.br false), (.br false), (.br false), (.br false), (.br false), (.br false), (.br false), (.br false), (.br false), .none, (.ck 4), (.ck 2)] <| .run 33 [] <| .use aw145 <| .use aw146 <| .run 1 [.none, (.ck 5), (.br true), .none, (.br true), (.br true), .none, (.br true), (.br true), (.br true), (.br true), (.br true), .none, (.br true), (.ck 6), (.br true), .none, (.ck 4), (.ck 2)] <| .run 33 [] <| .use aw149 <| .use aw150 <| .run 1 [.none, (.ck 7), (.br true), .none, (.br true), (.br true), .none, (.br true), (.br true), (.br true), (.br true), (.br true), .none, (.br true), (.ck 8), (.br true), .none, (.ck 4), (.ck 2)] <| .run 33 [] <| .use aw152 <| .use aw153 <| .run 1 [.none, (.ck 9), (.br true), .none, (.br true), (.br true), .none, (.br true), (.br true), (.br true), (.br true), (.br true), .none, (.br true), (.ck 10), (.br true), .none, (.ck 4), (.ck 2)] <| .run 25 [] <|  .fin
theorem aw154k : crun cfz 39 aw154D [] (ent cfz 39 [(.agg [(aI 9), (.d (.sl 4 [(vI 5), (vI 1), (vI 4), (vI 0), (vI 0), (vI 6), (vI 2), (vI 9), (vI 0), (vI 0), (vI 7), (vI 3), (vI 2), (vI 0), (vI 0), (vI 8), (vI 4), (vI 9), (vI 0), (vI 0)]))])]) = some ((aI 0), [.eqA [(aI 9), (aI 1), (aI 64)] [(aI 9), (aI 1), (aI 64)], .eqA [(aB false), (aI 5)] [(aB false), (aI 5)], .eqA [(.d (.sl 2 [(vI 0), (vI 0)]))] [(.d (.sl 2 [(vI 0), (vI 0)]))], .eqA [(.agg [(aI 5), (aI 1), (aI 4), (aI 0), (aI 0)])] [(.agg [(aI 5), (aI 1), (aI 4), (aI 0), (aI 0)])], .eqA [(aB false), (aI 11)] [(aB false), (aI 11)], .eqA [(.d (.sl 2 [(vI 0), (vI 0)]))] [(.d (.sl 2 [(vI 0), (vI 0)]))], .eqA [(.agg [(aI 6), (aI 2), (aI 9), (aI 0), (aI 0)])] [(.agg [(aI 6), (aI 2), (aI 9), (aI 0), (aI 0)])], .eqA [(.agg [(aI 6), (aI 2), (aI 9), (aI 0), (aI 0)]), (.agg [(aI 5), (aI 1), (aI 4), (aI 0), (aI 0)])] [(.agg [(aI 6), (aI 2), (aI 9), (aI 0), (aI 0)]), (.agg [(aI 5), (aI 1), (aI 4), (aI 0), (aI 0)])], .eqA [(aB false), (aI 11)] [(aB false), (aI 11)], .eqA [(.d (.sl 2 [(vI 0), (vI 0)]))] [(.d (.sl 2 [(vI 0), (vI 0)]))], .eqA [(.agg [(aI 7), (aI 3), (aI 2), (aI 0), (aI 0)])] [(.agg [(aI 7), (aI 3), (aI 2), (aI 0), (aI 0)])], .eqA [(.agg [(aI 7), (aI 3), (aI 2), (aI 0), (aI 0)]), (.agg [(aI 6), (aI 2), (aI 9), (aI 0), (aI 0)])] [(.agg [(aI 7), (aI 3), (aI 2), (aI 0), (aI 0)]), (.agg [(aI 6), (aI 2), (aI 9), (aI 0), (aI 0)])], .eqA [(aB false), (aI 11)] [(aB false), (aI 11)], .eqA [(.d (.sl 2 [(vI 0), (vI 0)]))] [(.d (.sl 2 [(vI 0), (vI 0)]))], .eqA [(.agg [(aI 8), (aI 4), (aI 9), (aI 0), (aI 0)])] [(.agg [(aI 8), (aI 4), (aI 9), (aI 0), (aI 0)])], .eqA [(.agg [(aI 8), (aI 4), (aI 9), (aI 0), (aI 0)]), (.agg [(aI 7), (aI 3), (aI 2), (aI 0), (aI 0)])] [(.agg [(aI 8), (aI 4), (aI 9), (aI 0), (aI 0)]), (.agg [(aI 7), (aI 3), (aI 2), (aI 0), (aI 0)])], .eqA [(aB false), (aI 11)] [(aB false), (aI 11)], .eqA [(.d (.sl 2 [(vI 0), (vI 0)]))] [(.d (.sl 2 [(vI 0), (vI 0)]))]]) := by kernel_rfl
theorem aw154 : PureCalls cfz.P cfz.glob 39 [(.agg [(aI 9), (.d (.sl 4 [(vI 5), (vI 1), (vI 4), (vI 0), (vI 0), (vI 6), (vI 2), (vI 9), (vI 0), (vI 0), (vI 7), (vI 3), (vI 2), (vI 0), (vI 0), (vI 8), (vI 4), (vI 9), (vI 0), (vI 0)]))])] (aI 0) := closed_ok knil (by kernel_rfl) aw154k ⟨rfl, ⟨rfl, ⟨rfl, ⟨rfl, ⟨rfl, ⟨rfl, ⟨rfl, ⟨rfl, ⟨rfl, ⟨rfl, ⟨rfl, ⟨rfl, ⟨rfl, ⟨rfl, ⟨rfl, ⟨rfl, ⟨rfl, ⟨rfl, trivial⟩⟩⟩⟩⟩⟩⟩⟩⟩⟩⟩⟩⟩⟩⟩⟩⟩⟩
noncomputable def aw155D : CT cfz := .run 14 [] <| .use aw57 <| .run 1 [(.ck 0)] <| .run 3 [] <|  .fin
theorem aw155k : crun cfz 73 aw155D [] (ent cfz 73 [(aI 1), (aI 1), (aI 16)]) = some ((aI 0), [.eqA [(aB false), (aI 3)] [(aB false), (aI 3)]]) := by kernel_rfl
theorem aw155 : PureCalls cfz.P cfz.glob 73 [(aI 1), (aI 1), (aI 16)] (aI 0) := closed_ok knil (by kernel_rfl) aw155k ⟨rfl, trivial⟩
noncomputable def aw156D : CT cfz := .run 10 [] <| .use aw154 <| .use aw155 <| .use aw92 <| .use aw61 <| .run 1 [.none, (.ck 0), (.ck 1), .none, (.ck 2), (.ck 3)] <| .run 375 [] <|  .fin
theorem aw156k : crun cfz 31 aw156D [] (ent cfz 31 [(.agg [(aI 9), (.d (.sl 4 [(vI 5), (vI 1), (vI 4), (vI 0), (vI 0), (vI 6), (vI 2), (vI 9), (vI 0), (vI 0), (vI 7), (vI 3), (vI 2), (vI 0), (vI 0), (vI 8), (vI 4), (vI 9), (vI 0), (vI 0)]))]), (aI 1)]) = some ((.tup [(aI 9), (aI 6), (aI 0)]), [.eqA [(.agg [(aI 9), (.d (.sl 4 [(vI 5), (vI 1), (vI 4), (vI 0), (vI 0), (vI 6), (vI 2), (vI 9), (vI 0), (vI 0), (vI 7), (vI 3), (vI 2), (vI 0), (vI 0), (vI 8), (vI 4), (vI 9), (vI 0), (vI 0)]))])] [(.agg [(aI 9), (.d (.sl 4 [(vI 5), (vI 1), (vI 4), (vI 0), (vI 0), (vI 6), (vI 2), (vI 9), (vI 0), (vI 0), (vI 7), (vI 3), (vI 2), (vI 0), (vI 0), (vI 8), (vI 4), (vI 9), (vI 0), (vI 0)]))])], .eqA [(aI 1), (aI 1), (aI 16)] [(aI 1), (aI 1), (aI 16)], .eqA [(aB false), (aI 16)] [(aB false), (aI 16)], .eqA [(.d (.sl 3 [(vI 0), (vI 0), (vI 0)]))] [(.d (.sl 3 [(vI 0), (vI 0), (vI 0)]))]]) := by kernel_rfl
theorem aw156 : PureCalls cfz.P cfz.glob 31 [(.agg [(aI 9), (.d (.sl 4 [(vI 5), (vI 1), (vI 4), (vI 0), (vI 0), (vI 6), (vI 2), (vI 9), (vI 0), (vI 0), (vI 7), (vI 3), (vI 2), (vI 0), (vI 0), (vI 8), (vI 4), (vI 9), (vI 0), (vI 0)]))]), (aI 1)] (.tup [(aI 9), (aI 6), (aI 0)]) := closed_ok knil (by kernel_rfl) aw156k ⟨rfl, ⟨rfl, ⟨rfl, ⟨rfl, trivial⟩⟩⟩⟩
noncomputable def aw157D : CT cfz := .run 14 [] <| .use aw57 <| .run 1 [(.ck 0)] <| .run 3 [] <|  .fin
theorem aw157k : crun cfz 73 aw157D [] (ent cfz 73 [(aI 2), (aI 1), (aI 16)]) = some ((aI 0), [.eqA [(aB false), (aI 3)] [(aB false), (aI 3)]]) := by kernel_rfl
theorem aw157 : PureCalls cfz.P cfz.glob 73 [(aI 2), (aI 1), (aI 16)] (aI 0) := closed_ok knil (by kernel_rfl) aw157k ⟨rfl, trivial⟩
noncomputable def aw158D : CT cfz := .run 10 [] <| .use aw154 <| .use aw157 <| .use aw92 <| .use aw61 <| .run 1 [.none, (.ck 0), (.ck 1), .none, (.ck 2), (.ck 3)] <| .run 378 [] <|  .fin
theorem aw158k : crun cfz 31 aw158D [] (ent cfz 31 [(.agg [(aI 9), (.d (.sl 4 [(vI 5), (vI 1), (vI 4), (vI 0), (vI 0), (vI 6), (vI 2), (vI 9), (vI 0), (vI 0), (vI 7), (vI 3), (vI 2), (vI 0), (vI 0), (vI 8), (vI 4), (vI 9), (vI 0), (vI 0)]))]), (aI 2)]) = some ((.tup [(aI 13), (aI 5), (aI 0)]), [.eqA [(.agg [(aI 9), (.d (.sl 4 [(vI 5), (vI 1), (vI 4), (vI 0), (vI 0), (vI 6), (vI 2), (vI 9), (vI 0), (vI 0), (vI 7), (vI 3), (vI 2), (vI 0), (vI 0), (vI 8), (vI 4), (vI 9), (vI 0), (vI 0)]))])] [(.agg [(aI 9), (.d (.sl 4 [(vI 5), (vI 1), (vI 4), (vI 0), (vI 0), (vI 6), (vI 2), (vI 9), (vI 0), (vI 0), (vI 7), (vI 3), (vI 2), (vI 0), (vI 0), (vI 8), (vI 4), (vI 9), (vI 0), (vI 0)]))])], .eqA [(aI 2), (aI 1), (aI 16)] [(aI 2), (aI 1), (aI 16)], .eqA [(aB false), (aI 16)] [(aB false), (aI 16)], .eqA [(.d (.sl 3 [(vI 0), (vI 0), (vI 0)]))] [(.d (.sl 3 [(vI 0), (vI 0), (vI 0)]))]]) := by kernel_rfl
theorem aw158 : PureCalls cfz.P cfz.glob 31 [(.agg [(aI 9), (.d (.sl 4 [(vI 5), (vI 1), (vI 4), (vI 0), (vI 0), (vI 6), (vI 2), (vI 9), (vI 0), (vI 0), (vI 7), (vI 3), (vI 2), (vI 0), (vI 0), (vI 8), (vI 4), (vI 9), (vI 0), (vI 0)]))]), (aI 2)] (.tup [(aI 13), (aI 5), (aI 0)]) := closed_ok knil (by kernel_rfl) aw158k ⟨rfl, ⟨rfl, ⟨rfl, ⟨rfl, trivial⟩⟩⟩⟩
noncomputable def aw159D : CT cfz := .run 14 [] <| .use aw57 <| .run 1 [(.ck 0)] <| .run 3 [] <|  .fin
theorem aw159k : crun cfz 73 aw159D [] (ent cfz 73 [(aI 258), (aI 0), (aI 999999999)]) = some ((aI 0), [.eqA [(aB false), (aI 3)] [(aB false), (aI 3)]]) := by kernel_rfl
theorem aw159 : PureCalls cfz.P cfz.glob 73 [(aI 258), (aI 0), (aI 999999999)] (aI 0) := closed_ok knil (by kernel_rfl) aw159k ⟨rfl, trivial⟩
noncomputable def aw160D : CT cfz := .run 14 [] <| .use aw57 <| .run 1 [(.ck 0)] <| .run 3 [] <|  .fin
theorem aw160k : crun cfz 73 aw160D [] (ent cfz 73 [(aI 5), (aI 0), (aI 999999)]) = some ((aI 0), [.eqA [(aB false), (aI 3)] [(aB false), (aI 3)]]) := by kernel_rfl
theorem aw160 : PureCalls cfz.P cfz.glob 73 [(aI 5), (aI 0), (aI 999999)] (aI 0) := closed_ok knil (by kernel_rfl) aw160k ⟨rfl, trivial⟩
noncomputable def aw161D : CT cfz := .run 14 [] <| .use aw57 <| .run 1 [(.ck 0)] <| .run 3 [] <|  .fin
theorem aw161k : crun cfz 73 aw161D [] (ent cfz 73 [(aI 65536), (aI 0), (aI 999999)]) = some ((aI 0), [.eqA [(aB false), (aI 3)] [(aB false), (aI 3)]]) := by kernel_rfl
theorem aw161 : PureCalls cfz.P cfz.glob 73 [(aI 65536), (aI 0), (aI 999999)] (aI 0) := closed_ok knil (by kernel_rfl) aw161k ⟨rfl, trivial⟩
noncomputable def aw162D : CT cfz := .run 14 [] <| .use aw57 <| .run 1 [(.ck 0)] <| .run 3 [] <|  .fin
theorem aw162k : crun cfz 73 aw162D [] (ent cfz 73 [(aI 1), (aI 0), (aI 7)]) = some ((aI 0), [.eqA [(aB false), (aI 3)] [(aB false), (aI 3)]]) := by kernel_rfl
theorem aw162 : PureCalls cfz.P cfz.glob 73 [(aI 1), (aI 0), (aI 7)] (aI 0) := closed_ok knil (by kernel_rfl) aw162k ⟨rfl, trivial⟩
noncomputable def aw163D : CT cfz := .run 7 [] <| .use aw159 <| .use aw147 <| .use aw160 <| .use aw161 <| .use aw162 <| .use aw93 <| .run 1 [.none, (.ck 0), .none, (.ck 1), .none, (.ck 2), .none, (.ck 3), .none, (.ck 4), (.ck 5)] <| .run 1 [] <|  .fin
theorem aw163k : crun cfz 54 aw163D [] (ent cfz 54 [(.agg [(aI 258), (aI 3), (aI 5), (aI 65536), (aI 1)])]) = some ((aI 0), [.eqA [(aI 258), (aI 0), (aI 999999999)] [(aI 258), (aI 0), (aI 999999999)], .eqA [(aI 3), (aI 0), (aI 100000000)] [(aI 3), (aI 0), (aI 100000000)], .eqA [(aI 5), (aI 0), (aI 999999)] [(aI 5), (aI 0), (aI 999999)], .eqA [(aI 65536), (aI 0), (aI 999999)] [(aI 65536), (aI 0), (aI 999999)], .eqA [(aI 1), (aI 0), (aI 7)] [(aI 1), (aI 0), (aI 7)], .eqA [(.d (.sl 5 [(vI 0), (vI 0), (vI 0), (vI 0), (vI 0)]))] [(.d (.sl 5 [(vI 0), (vI 0), (vI 0), (vI 0), (vI 0)]))]]) := by kernel_rfl
theorem aw163 : PureCalls cfz.P cfz.glob 54 [(.agg [(aI 258), (aI 3), (aI 5), (aI 65536), (aI 1)])] (aI 0) := closed_ok knil (by kernel_rfl) aw163k ⟨rfl, ⟨rfl, ⟨rfl, ⟨rfl, ⟨rfl, ⟨rfl, trivial⟩⟩⟩⟩⟩⟩
noncomputable def aw164D : CT cfz := .run 15 [] <|  .fin
theorem aw164k : crun cfz 55 aw164D [] (ent cfz 55 []) = some ((.agg [(aI 4), (.d (.v (.func (.func 86) (#[]) (#[])))), (.d (.v (.func (.func 87) (#[]) (#[])))), (aI 4), (.d (.v (.func (.func 88) (#[]) (#[])))), (.d (.v (.func (.func 89) (#[]) (#[])))), (aI 3), (.d (.v (.func (.func 90) (#[]) (#[])))), (.d (.v (.func (.func 91) (#[]) (#[])))), (aI 3), (.d (.v (.func (.func 92) (#[]) (#[])))), (.d (.v (.func (.func 93) (#[]) (#[])))), (aI 1), (.d (.v (.func (.func 94) (#[]) (#[])))), (.d (.v (.func (.func 95) (#[]) (#[]))))]), []) := by kernel_rfl
theorem aw164 : PureCalls cfz.P cfz.glob 55 [] (.agg [(aI 4), (.d (.v (.func (.func 86) (#[]) (#[])))), (.d (.v (.func (.func 87) (#[]) (#[])))), (aI 4), (.d (.v (.func (.func 88) (#[]) (#[])))), (.d (.v (.func (.func 89) (#[]) (#[])))), (aI 3), (.d (.v (.func (.func 90) (#[]) (#[])))), (.d (.v (.func (.func 91) (#[]) (#[])))), (aI 3), (.d (.v (.func (.func 92) (#[]) (#[])))), (.d (.v (.func (.func 93) (#[]) (#[])))), (aI 1), (.d (.v (.func (.func 94) (#[]) (#[])))), (.d (.v (.func (.func 95) (#[]) (#[]))))]) := closed_ok knil (by kernel_rfl) aw164k trivial
noncomputable def aw165D : CT cfz := .run 12 [] <|  .fin
theorem aw165k : crun cfz 86 aw165D [] (ent cfz 86 [(.agg [(aI 258), (aI 3), (aI 5), (aI 65536), (aI 1)])]) = some ((aI 258), []) := by kernel_rfl
theorem aw165 : PureCalls cfz.P cfz.glob 86 [(.agg [(aI 258), (aI 3), (aI 5), (aI 65536), (aI 1)])] (aI 258) := closed_ok knil (by kernel_rfl) aw165k trivial
noncomputable def aw166D : CT cfz := .run 12 [] <|  .fin
theorem aw166k : crun cfz 88 aw166D [] (ent cfz 88 [(.agg [(aI 258), (aI 3), (aI 5), (aI 65536), (aI 1)])]) = some ((aI 3), []) := by kernel_rfl
theorem aw166 : PureCalls cfz.P cfz.glob 88 [(.agg [(aI 258), (aI 3), (aI 5), (aI 65536), (aI 1)])] (aI 3) := closed_ok knil (by kernel_rfl) aw166k trivial
noncomputable def aw167D : CT cfz := .run 12 [] <|  .fin
theorem aw167k : crun cfz 90 aw167D [] (ent cfz 90 [(.agg [(aI 258), (aI 3), (aI 5), (aI 65536), (aI 1)])]) = some ((aI 5), []) := by kernel_rfl
theorem aw167 : PureCalls cfz.P cfz.glob 90 [(.agg [(aI 258), (aI 3), (aI 5), (aI 65536), (aI 1)])] (aI 5) := closed_ok knil (by kernel_rfl) aw167k trivial
noncomputable def aw168D : CT cfz := .run 12 [] <|  .fin
theorem aw168k : crun cfz 92 aw168D [] (ent cfz 92 [(.agg [(aI 258), (aI 3), (aI 5), (aI 65536), (aI 1)])]) = some ((aI 65536), []) := by kernel_rfl
theorem aw168 : PureCalls cfz.P cfz.glob 92 [(.agg [(aI 258), (aI 3), (aI 5), (aI 65536), (aI 1)])] (aI 65536) := closed_ok knil (by kernel_rfl) aw168k trivial
noncomputable def aw169D : CT cfz := .run 12 [] <|  .fin
theorem aw169k : crun cfz 94 aw169D [] (ent cfz 94 [(.agg [(aI 258), (aI 3), (aI 5), (aI 65536), (aI 1)])]) = some ((aI 1), []) := by kernel_rfl
theorem aw169 : PureCalls cfz.P cfz.glob 94 [(.agg [(aI 258), (aI 3), (aI 5), (aI 65536), (aI 1)])] (aI 1) := closed_ok knil (by kernel_rfl) aw169k trivial
noncomputable def aw170D : CT cfz := .run 16 [] <| .use aw164 <| .run 1 [(.ck 0)] <| .run 24 [] <| .use aw165 <| .run 1 [(.ck 1)] <| .run 195 [] <| .use aw166 <| .run 1 [(.ck 2)] <| .run 195 [] <| .use aw167 <| .run 1 [(.ck 3)] <| .run 159 [] <| .use aw168 <| .run 1 [(.ck 4)] <| .run 159 [] <| .use aw169 <| .run 1 [(.ck 5)] <| .run 80 [] <|  .fin
theorem aw170k : crun cfz 41 aw170D [] (ent cfz 41 [(.agg [(aI 258), (aI 3), (aI 5), (aI 65536), (aI 1)])]) = some ((.agg [(a8 0), (a8 0), (a8 1), (a8 2), (a8 0), (a8 0), (a8 0), (a8 3), (a8 0), (a8 0), (a8 5), (a8 1), (a8 0), (a8 0), (a8 1), (a8 0)]), [.eqA [] [], .eqA [(.agg [(aI 258), (aI 3), (aI 5), (aI 65536), (aI 1)])] [(.agg [(aI 258), (aI 3), (aI 5), (aI 65536), (aI 1)])], .eqA [(.agg [(aI 258), (aI 3), (aI 5), (aI 65536), (aI 1)])] [(.agg [(aI 258), (aI 3), (aI 5), (aI 65536), (aI 1)])], .eqA [(.agg [(aI 258), (aI 3), (aI 5), (aI 65536), (aI 1)])] [(.agg [(aI 258), (aI 3), (aI 5), (aI 65536), (aI 1)])], .eqA [(.agg [(aI 258), (aI 3), (aI 5), (aI 65536), (aI 1)])] [(.agg [(aI 258), (aI 3), (aI 5), (aI 65536), (aI 1)])], .eqA [(.agg [(aI 258), (aI 3), (aI 5), (aI 65536), (aI 1)])] [(.agg [(aI 258), (aI 3), (aI 5), (aI 65536), (aI 1)])]]) := by kernel_rfl
theorem aw170 : PureCalls cfz.P cfz.glob 41 [(.agg [(aI 258), (aI 3), (aI 5), (aI 65536), (aI 1)])] (.agg [(a8 0), (a8 0), (a8 1), (a8 2), (a8 0), (a8 0), (a8 0), (a8 3), (a8 0), (a8 0), (a8 5), (a8 1), (a8 0), (a8 0), (a8 1), (a8 0)]) := closed_ok knil (by kernel_rfl) aw170k ⟨rfl, ⟨rfl, ⟨rfl, ⟨rfl, ⟨rfl, ⟨rfl, trivial⟩⟩⟩⟩⟩⟩
noncomputable def aw171D : CT cfz := .run 10 [] <| .use aw163 <| .run 1 [(.ck 0)] <| .run 12 [] <| .use aw170 <| .run 1 [(.ck 1)] <| .run 4 [] <|  .fin
theorem aw171k : crun cfz 15 aw171D [] (ent cfz 15 [(.agg [(aI 258), (aI 3), (aI 5), (aI 65536), (aI 1)])]) = some ((.tup [(.agg [(a8 0), (a8 0), (a8 1), (a8 2), (a8 0), (a8 0), (a8 0), (a8 3), (a8 0), (a8 0), (a8 5), (a8 1), (a8 0), (a8 0), (a8 1), (a8 0)]), (aI 0)]), [.eqA [(.agg [(aI 258), (aI 3), (aI 5), (aI 65536), (aI 1)])] [(.agg [(aI 258), (aI 3), (aI 5), (aI 65536), (aI 1)])], .eqA [(.agg [(aI 258), (aI 3), (aI 5), (aI 65536), (aI 1)])] [(.agg [(aI 258), (aI 3), (aI 5), (aI 65536), (aI 1)])]]) := by kernel_rfl
theorem aw171 : PureCalls cfz.P cfz.glob 15 [(.agg [(aI 258), (aI 3), (aI 5), (aI 65536), (aI 1)])] (.tup [(.agg [(a8 0), (a8 0), (a8 1), (a8 2), (a8 0), (a8 0), (a8 0), (a8 3), (a8 0), (a8 0), (a8 5), (a8 1), (a8 0), (a8 0), (a8 1), (a8 0)]), (aI 0)]) := closed_ok knil (by kernel_rfl) aw171k ⟨rfl, ⟨rfl, trivial⟩⟩
noncomputable def aw172D : CT cfz := .run 10 [] <|  .fin
theorem aw172k : crun cfz 34 aw172D [] (ent cfz 34 []) = some ((.agg [(aI 100), (aI 5), (aI (-2)), (aI 10)]), []) := by kernel_rfl
theorem aw172 : PureCalls cfz.P cfz.glob 34 [] (.agg [(aI 100), (aI 5), (aI (-2)), (aI 10)]) := closed_ok knil (by kernel_rfl) aw172k trivial
noncomputable def aw173D : CT cfz := .run 14 [] <| .use aw57 <| .run 1 [(.ck 0)] <| .run 3 [] <|  .fin
theorem aw173k : crun cfz 73 aw173D [] (ent cfz 73 [(aI 100), (aI 0), (aI 100000000)]) = some ((aI 0), [.eqA [(aB false), (aI 3)] [(aB false), (aI 3)]]) := by kernel_rfl
theorem aw173 : PureCalls cfz.P cfz.glob 73 [(aI 100), (aI 0), (aI 100000000)] (aI 0) := closed_ok knil (by kernel_rfl) aw173k ⟨rfl, trivial⟩
noncomputable def aw174D : CT cfz := .run 14 [] <| .use aw57 <| .run 1 [(.ck 0)] <| .run 3 [] <|  .fin
theorem aw174k : crun cfz 73 aw174D [] (ent cfz 73 [(aI 5), (aI (-1000000)), (aI 1000000)]) = some ((aI 0), [.eqA [(aB false), (aI 3)] [(aB false), (aI 3)]]) := by kernel_rfl
theorem aw174 : PureCalls cfz.P cfz.glob 73 [(aI 5), (aI (-1000000)), (aI 1000000)] (aI 0) := closed_ok knil (by kernel_rfl) aw174k ⟨rfl, trivial⟩
noncomputable def aw175D : CT cfz := .run 14 [] <| .use aw57 <| .run 1 [(.ck 0)] <| .run 3 [] <|  .fin
theorem aw175k : crun cfz 73 aw175D [] (ent cfz 73 [(aI (-2)), (aI (-1000)), (aI 1000)]) = some ((aI 0), [.eqA [(aB false), (aI 3)] [(aB false), (aI 3)]]) := by kernel_rfl
theorem aw175 : PureCalls cfz.P cfz.glob 73 [(aI (-2)), (aI (-1000)), (aI 1000)] (aI 0) := closed_ok knil (by kernel_rfl) aw175k ⟨rfl, trivial⟩
noncomputable def aw176D : CT cfz := .run 14 [] <| .use aw57 <| .run 1 [(.ck 0)] <| .run 3 [] <|  .fin
theorem aw176k : crun cfz 73 aw176D [] (ent cfz 73 [(aI 10), (aI 2), (aI 1000)]) = some ((aI 0), [.eqA [(aB false), (aI 3)] [(aB false), (aI 3)]]) := by kernel_rfl
theorem aw176 : PureCalls cfz.P cfz.glob 73 [(aI 10), (aI 2), (aI 1000)] (aI 0) := closed_ok knil (by kernel_rfl) aw176k ⟨rfl, trivial⟩
noncomputable def aw177D : CT cfz := .run 7 [] <| .use aw173 <| .use aw174 <| .use aw175 <| .use aw176 <| .use aw25 <| .run 1 [.none, (.ck 0), .none, (.ck 1), .none, (.ck 2), .none, (.ck 3), (.ck 4)] <| .run 1 [] <|  .fin
theorem aw177k : crun cfz 77 aw177D [] (ent cfz 77 [(.agg [(aI 100), (aI 5), (aI (-2)), (aI 10)])]) = some ((aI 0), [.eqA [(aI 100), (aI 0), (aI 100000000)] [(aI 100), (aI 0), (aI 100000000)], .eqA [(aI 5), (aI (-1000000)), (aI 1000000)] [(aI 5), (aI (-1000000)), (aI 1000000)], .eqA [(aI (-2)), (aI (-1000)), (aI 1000)] [(aI (-2)), (aI (-1000)), (aI 1000)], .eqA [(aI 10), (aI 2), (aI 1000)] [(aI 10), (aI 2), (aI 1000)], .eqA [(.d (.sl 4 [(vI 0), (vI 0), (vI 0), (vI 0)]))] [(.d (.sl 4 [(vI 0), (vI 0), (vI 0), (vI 0)]))]]) := by kernel_rfl
theorem aw177 : PureCalls cfz.P cfz.glob 77 [(.agg [(aI 100), (aI 5), (aI (-2)), (aI 10)])] (aI 0) := closed_ok knil (by kernel_rfl) aw177k ⟨rfl, ⟨rfl, ⟨rfl, ⟨rfl, ⟨rfl, trivial⟩⟩⟩⟩⟩
noncomputable def aw178D : CT cfz := .run 14 [] <| .use aw57 <| .run 1 [(.ck 0)] <| .run 3 [] <|  .fin
theorem aw178k : crun cfz 73 aw178D [] (ent cfz 73 [(aI 109), (aI 0), (aI 100000000)]) = some ((aI 0), [.eqA [(aB false), (aI 3)] [(aB false), (aI 3)]]) := by kernel_rfl
theorem aw178 : PureCalls cfz.P cfz.glob 73 [(aI 109), (aI 0), (aI 100000000)] (aI 0) := closed_ok knil (by kernel_rfl) aw178k ⟨rfl, trivial⟩
noncomputable def aw179D : CT cfz := .run 7 [] <| .use aw177 <| .use aw178 <| .use aw111 <| .use aw61 <| .run 1 [.none, (.ck 0), (.ck 1), .none, (.ck 2), (.ck 3)] <| .run 1 [] <|  .fin
theorem aw179k : crun cfz 74 aw179D [] (ent cfz 74 [(.agg [(aI 100), (aI 5), (aI (-2)), (aI 10)]), (aI 109)]) = some ((aI 0), [.eqA [(.agg [(aI 100), (aI 5), (aI (-2)), (aI 10)])] [(.agg [(aI 100), (aI 5), (aI (-2)), (aI 10)])], .eqA [(aI 109), (aI 0), (aI 100000000)] [(aI 109), (aI 0), (aI 100000000)], .eqA [(aB false), (aI 11)] [(aB false), (aI 11)], .eqA [(.d (.sl 3 [(vI 0), (vI 0), (vI 0)]))] [(.d (.sl 3 [(vI 0), (vI 0), (vI 0)]))]]) := by kernel_rfl
theorem aw179 : PureCalls cfz.P cfz.glob 74 [(.agg [(aI 100), (aI 5), (aI (-2)), (aI 10)]), (aI 109)] (aI 0) := closed_ok knil (by kernel_rfl) aw179k ⟨rfl, ⟨rfl, ⟨rfl, ⟨rfl, trivial⟩⟩⟩⟩
noncomputable def aw180D : CT cfz := .run 32 [] <|  .fin
theorem aw180k : crun cfz 75 aw180D [] (ent cfz 75 [(.agg [(aI 100), (aI 5), (aI (-2)), (aI 10)]), (aI 109)]) = some ((aI 114), []) := by kernel_rfl
theorem aw180 : PureCalls cfz.P cfz.glob 75 [(.agg [(aI 100), (aI 5), (aI (-2)), (aI 10)]), (aI 109)] (aI 114) := closed_ok knil (by kernel_rfl) aw180k trivial
noncomputable def aw181D : CT cfz := .run 11 [] <| .use aw179 <| .run 1 [(.ck 0)] <| .run 13 [] <| .use aw180 <| .run 1 [(.ck 1)] <| .run 4 [] <|  .fin
theorem aw181k : crun cfz 33 aw181D [] (ent cfz 33 [(.agg [(aI 100), (aI 5), (aI (-2)), (aI 10)]), (aI 109)]) = some ((.tup [(aI 114), (aI 0)]), [.eqA [(.agg [(aI 100), (aI 5), (aI (-2)), (aI 10)]), (aI 109)] [(.agg [(aI 100), (aI 5), (aI (-2)), (aI 10)]), (aI 109)], .eqA [(.agg [(aI 100), (aI 5), (aI (-2)), (aI 10)]), (aI 109)] [(.agg [(aI 100), (aI 5), (aI (-2)), (aI 10)]), (aI 109)]]) := by kernel_rfl
theorem aw181 : PureCalls cfz.P cfz.glob 33 [(.agg [(aI 100), (aI 5), (aI (-2)), (aI 10)]), (aI 109)] (.tup [(aI 114), (aI 0)]) := closed_ok knil (by kernel_rfl) aw181k ⟨rfl, ⟨rfl, trivial⟩⟩
noncomputable def aw182D : CT cfz := .run 14 [] <| .use aw57 <| .run 1 [(.ck 0)] <| .run 3 [] <|  .fin
theorem aw182k : crun cfz 73 aw182D [] (ent cfz 73 [(aI 110), (aI 0), (aI 100000000)]) = some ((aI 0), [.eqA [(aB false), (aI 3)] [(aB false), (aI 3)]]) := by kernel_rfl
theorem aw182 : PureCalls cfz.P cfz.glob 73 [(aI 110), (aI 0), (aI 100000000)] (aI 0) := closed_ok knil (by kernel_rfl) aw182k ⟨rfl, trivial⟩
noncomputable def aw183D : CT cfz := .run 7 [] <| .use aw177 <| .use aw182 <| .use aw111 <| .use aw61 <| .run 1 [.none, (.ck 0), (.ck 1), .none, (.ck 2), (.ck 3)] <| .run 1 [] <|  .fin
theorem aw183k : crun cfz 74 aw183D [] (ent cfz 74 [(.agg [(aI 100), (aI 5), (aI (-2)), (aI 10)]), (aI 110)]) = some ((aI 0), [.eqA [(.agg [(aI 100), (aI 5), (aI (-2)), (aI 10)])] [(.agg [(aI 100), (aI 5), (aI (-2)), (aI 10)])], .eqA [(aI 110), (aI 0), (aI 100000000)] [(aI 110), (aI 0), (aI 100000000)], .eqA [(aB false), (aI 11)] [(aB false), (aI 11)], .eqA [(.d (.sl 3 [(vI 0), (vI 0), (vI 0)]))] [(.d (.sl 3 [(vI 0), (vI 0), (vI 0)]))]]) := by kernel_rfl
theorem aw183 : PureCalls cfz.P cfz.glob 74 [(.agg [(aI 100), (aI 5), (aI (-2)), (aI 10)]), (aI 110)] (aI 0) := closed_ok knil (by kernel_rfl) aw183k ⟨rfl, ⟨rfl, ⟨rfl, ⟨rfl, trivial⟩⟩⟩⟩
noncomputable def aw184D : CT cfz := .run 32 [] <|  .fin
theorem aw184k : crun cfz 75 aw184D [] (ent cfz 75 [(.agg [(aI 100), (aI 5), (aI (-2)), (aI 10)]), (aI 110)]) = some ((aI 114), []) := by kernel_rfl
theorem aw184 : PureCalls cfz.P cfz.glob 75 [(.agg [(aI 100), (aI 5), (aI (-2)), (aI 10)]), (aI 110)] (aI 114) := closed_ok knil (by kernel_rfl) aw184k trivial
noncomputable def aw185D : CT cfz := .run 11 [] <| .use aw183 <| .run 1 [(.ck 0)] <| .run 13 [] <| .use aw184 <| .run 1 [(.ck 1)] <| .run 4 [] <|  .fin
theorem aw185k : crun cfz 33 aw185D [] (ent cfz 33 [(.agg [(aI 100), (aI 5), (aI (-2)), (aI 10)]), (aI 110)]) = some ((.tup [(aI 114), (aI 0)]), [.eqA [(.agg [(aI 100), (aI 5), (aI (-2)), (aI 10)]), (aI 110)] [(.agg [(aI 100), (aI 5), (aI (-2)), (aI 10)]), (aI 110)], .eqA [(.agg [(aI 100), (aI 5), (aI (-2)), (aI 10)]), (aI 110)] [(.agg [(aI 100), (aI 5), (aI (-2)), (aI 10)]), (aI 110)]]) := by kernel_rfl
theorem aw185 : PureCalls cfz.P cfz.glob 33 [(.agg [(aI 100), (aI 5), (aI (-2)), (aI 10)]), (aI 110)] (.tup [(aI 114), (aI 0)]) := closed_ok knil (by kernel_rfl) aw185k ⟨rfl, ⟨rfl, trivial⟩⟩
noncomputable def aw186D : CT cfz := .run 14 [] <| .use aw57 <| .run 1 [(.ck 0)] <| .run 3 [] <|  .fin
theorem aw186k : crun cfz 73 aw186D [] (ent cfz 73 [(aI 120), (aI 0), (aI 100000000)]) = some ((aI 0), [.eqA [(aB false), (aI 3)] [(aB false), (aI 3)]]) := by kernel_rfl
theorem aw186 : PureCalls cfz.P cfz.glob 73 [(aI 120), (aI 0), (aI 100000000)] (aI 0) := closed_ok knil (by kernel_rfl) aw186k ⟨rfl, trivial⟩
noncomputable def aw187D : CT cfz := .run 7 [] <| .use aw177 <| .use aw186 <| .use aw111 <| .use aw61 <| .run 1 [.none, (.ck 0), (.ck 1), .none, (.ck 2), (.ck 3)] <| .run 1 [] <|  .fin
theorem aw187k : crun cfz 74 aw187D [] (ent cfz 74 [(.agg [(aI 100), (aI 5), (aI (-2)), (aI 10)]), (aI 120)]) = some ((aI 0), [.eqA [(.agg [(aI 100), (aI 5), (aI (-2)), (aI 10)])] [(.agg [(aI 100), (aI 5), (aI (-2)), (aI 10)])], .eqA [(aI 120), (aI 0), (aI 100000000)] [(aI 120), (aI 0), (aI 100000000)], .eqA [(aB false), (aI 11)] [(aB false), (aI 11)], .eqA [(.d (.sl 3 [(vI 0), (vI 0), (vI 0)]))] [(.d (.sl 3 [(vI 0), (vI 0), (vI 0)]))]]) := by kernel_rfl
theorem aw187 : PureCalls cfz.P cfz.glob 74 [(.agg [(aI 100), (aI 5), (aI (-2)), (aI 10)]), (aI 120)] (aI 0) := closed_ok knil (by kernel_rfl) aw187k ⟨rfl, ⟨rfl, ⟨rfl, ⟨rfl, trivial⟩⟩⟩⟩
noncomputable def aw188D : CT cfz := .run 32 [] <|  .fin
theorem aw188k : crun cfz 75 aw188D [] (ent cfz 75 [(.agg [(aI 100), (aI 5), (aI (-2)), (aI 10)]), (aI 120)]) = some ((aI 123), []) := by kernel_rfl
theorem aw188 : PureCalls cfz.P cfz.glob 75 [(.agg [(aI 100), (aI 5), (aI (-2)), (aI 10)]), (aI 120)] (aI 123) := closed_ok knil (by kernel_rfl) aw188k trivial
noncomputable def aw189D : CT cfz := .run 11 [] <| .use aw187 <| .run 1 [(.ck 0)] <| .run 13 [] <| .use aw188 <| .run 1 [(.ck 1)] <| .run 4 [] <|  .fin
theorem aw189k : crun cfz 33 aw189D [] (ent cfz 33 [(.agg [(aI 100), (aI 5), (aI (-2)), (aI 10)]), (aI 120)]) = some ((.tup [(aI 123), (aI 0)]), [.eqA [(.agg [(aI 100), (aI 5), (aI (-2)), (aI 10)]), (aI 120)] [(.agg [(aI 100), (aI 5), (aI (-2)), (aI 10)]), (aI 120)], .eqA [(.agg [(aI 100), (aI 5), (aI (-2)), (aI 10)]), (aI 120)] [(.agg [(aI 100), (aI 5), (aI (-2)), (aI 10)]), (aI 120)]]) := by kernel_rfl
theorem aw189 : PureCalls cfz.P cfz.glob 33 [(.agg [(aI 100), (aI 5), (aI (-2)), (aI 10)]), (aI 120)] (.tup [(aI 123), (aI 0)]) := closed_ok knil (by kernel_rfl) aw189k ⟨rfl, ⟨rfl, trivial⟩⟩
noncomputable def aw190D : CT cfz := .run 14 [] <| .use aw57 <| .run 1 [(.ck 0)] <| .run 3 [] <|  .fin
theorem aw190k : crun cfz 73 aw190D [] (ent cfz 73 [(aI 130), (aI 0), (aI 100000000)]) = some ((aI 0), [.eqA [(aB false), (aI 3)] [(aB false), (aI 3)]]) := by kernel_rfl
theorem aw190 : PureCalls cfz.P cfz.glob 73 [(aI 130), (aI 0), (aI 100000000)] (aI 0) := closed_ok knil (by kernel_rfl) aw190k ⟨rfl, trivial⟩
noncomputable def aw191D : CT cfz := .run 7 [] <| .use aw177 <| .use aw190 <| .use aw111 <| .use aw61 <| .run 1 [.none, (.ck 0), (.ck 1), .none, (.ck 2), (.ck 3)] <| .run 1 [] <|  .fin
theorem aw191k : crun cfz 74 aw191D [] (ent cfz 74 [(.agg [(aI 100), (aI 5), (aI (-2)), (aI 10)]), (aI 130)]) = some ((aI 0), [.eqA [(.agg [(aI 100), (aI 5), (aI (-2)), (aI 10)])] [(.agg [(aI 100), (aI 5), (aI (-2)), (aI 10)])], .eqA [(aI 130), (aI 0), (aI 100000000)] [(aI 130), (aI 0), (aI 100000000)], .eqA [(aB false), (aI 11)] [(aB false), (aI 11)], .eqA [(.d (.sl 3 [(vI 0), (vI 0), (vI 0)]))] [(.d (.sl 3 [(vI 0), (vI 0), (vI 0)]))]]) := by kernel_rfl
theorem aw191 : PureCalls cfz.P cfz.glob 74 [(.agg [(aI 100), (aI 5), (aI (-2)), (aI 10)]), (aI 130)] (aI 0) := closed_ok knil (by kernel_rfl) aw191k ⟨rfl, ⟨rfl, ⟨rfl, ⟨rfl, trivial⟩⟩⟩⟩
noncomputable def aw192D : CT cfz := .run 14 [] <| .use aw57 <| .run 1 [(.ck 0)] <| .run 3 [] <|  .fin
theorem aw192k : crun cfz 73 aw192D [] (ent cfz 73 [(aI 140), (aI 0), (aI 200000000)]) = some ((aI 0), [.eqA [(aB false), (aI 3)] [(aB false), (aI 3)]]) := by kernel_rfl
theorem aw192 : PureCalls cfz.P cfz.glob 73 [(aI 140), (aI 0), (aI 200000000)] (aI 0) := closed_ok knil (by kernel_rfl) aw192k ⟨rfl, trivial⟩
noncomputable def aw193D : CT cfz := .run 16 [] <|  .fin
theorem aw193k : crun cfz 43 aw193D [] (ent cfz 43 [(aB false), (aI 4)]) = some ((aI 0), []) := by kernel_rfl
theorem aw193 : PureCalls cfz.P cfz.glob 43 [(aB false), (aI 4)] (aI 0) := closed_ok knil (by kernel_rfl) aw193k trivial
noncomputable def aw194D : CT cfz := .run 12 [] <| .use aw193 <| .run 1 [(.ck 0)] <| .run 3 [] <|  .fin
theorem aw194k : crun cfz 76 aw194D [] (ent cfz 76 [(aI 10)]) = some ((aI 0), [.eqA [(aB false), (aI 4)] [(aB false), (aI 4)]]) := by kernel_rfl
theorem aw194 : PureCalls cfz.P cfz.glob 76 [(aI 10)] (aI 0) := closed_ok knil (by kernel_rfl) aw194k ⟨rfl, trivial⟩
noncomputable def aw195D : CT cfz := .run 32 [] <|  .fin
theorem aw195k : crun cfz 75 aw195D [] (ent cfz 75 [(.agg [(aI 100), (aI 5), (aI (-2)), (aI 10)]), (aI 130)]) = some ((aI 133), []) := by kernel_rfl
theorem aw195 : PureCalls cfz.P cfz.glob 75 [(.agg [(aI 100), (aI 5), (aI (-2)), (aI 10)]), (aI 130)] (aI 133) := closed_ok knil (by kernel_rfl) aw195k trivial
noncomputable def aw196D : CT cfz := .run 12 [] <| .use aw191 <| .run 1 [(.ck 0)] <| .run 1 [] <| .use aw192 <| .run 1 [(.ck 1)] <| .run 1 [] <| .use aw36 <| .run 1 [(.ck 2)] <| .run 15 [] <| .use aw194 <| .run 1 [(.ck 3)] <| .run 11 [] <| .use aw195 <| .run 1 [.none, .none, (.ck 4), .none] <| .run 1 [] <|  .fin
theorem aw196k : crun cfz 35 aw196D [] (ent cfz 35 [(.agg [(aI 100), (aI 5), (aI (-2)), (aI 10)]), (aI 130), (aI 140)]) = some ((.tup [(.agg [(aI 130), (aI 10), (aI 0), (aI 10)]), (aI 7), (aI 0)]), [.eqA [(.agg [(aI 100), (aI 5), (aI (-2)), (aI 10)]), (aI 130)] [(.agg [(aI 100), (aI 5), (aI (-2)), (aI 10)]), (aI 130)], .eqA [(aI 140), (aI 0), (aI 200000000)] [(aI 140), (aI 0), (aI 200000000)], .eqA [(.d (.sl 2 [(vI 0), (vI 0)]))] [(.d (.sl 2 [(vI 0), (vI 0)]))], .eqA [(aI 10)] [(aI 10)], .eqA [(.agg [(aI 100), (aI 5), (aI (-2)), (aI 10)]), (aI 130)] [(.agg [(aI 100), (aI 5), (aI (-2)), (aI 10)]), (aI 130)]]) := by kernel_rfl
theorem aw196 : PureCalls cfz.P cfz.glob 35 [(.agg [(aI 100), (aI 5), (aI (-2)), (aI 10)]), (aI 130), (aI 140)] (.tup [(.agg [(aI 130), (aI 10), (aI 0), (aI 10)]), (aI 7), (aI 0)]) := closed_ok knil (by kernel_rfl) aw196k ⟨rfl, ⟨rfl, ⟨rfl, ⟨rfl, ⟨rfl, trivial⟩⟩⟩⟩⟩
noncomputable def aw197D : CT cfz := .run 14 [] <| .use aw57 <| .run 1 [(.ck 0)] <| .run 3 [] <|  .fin
theorem aw197k : crun cfz 73 aw197D [] (ent cfz 73 [(aI 10), (aI 2), (aI 100000)]) = some ((aI 0), [.eqA [(aB false), (aI 3)] [(aB false), (aI 3)]]) := by kernel_rfl
theorem aw197 : PureCalls cfz.P cfz.glob 73 [(aI 10), (aI 2), (aI 100000)] (aI 0) := closed_ok knil (by kernel_rfl) aw197k ⟨rfl, trivial⟩
noncomputable def aw198D : CT cfz := .run 32 [] <|  .fin
theorem aw198k : crun cfz 75 aw198D [] (ent cfz 75 [(.agg [(aI 100), (aI 5), (aI (-2)), (aI 10)]), (aI 101)]) = some ((aI 106), []) := by kernel_rfl
theorem aw198 : PureCalls cfz.P cfz.glob 75 [(.agg [(aI 100), (aI 5), (aI (-2)), (aI 10)]), (aI 101)] (aI 106) := closed_ok knil (by kernel_rfl) aw198k trivial
noncomputable def aw199D : CT cfz := .run 28 [] <|  .fin
theorem aw199k : crun cfz 78 aw199D [] (ent cfz 78 [(aI 106), (aI 10)]) = some ((aI 10), []) := by kernel_rfl
theorem aw199 : PureCalls cfz.P cfz.glob 78 [(aI 106), (aI 10)] (aI 10) := closed_ok knil (by kernel_rfl) aw199k trivial
noncomputable def aw200D : CT cfz := .run 32 [] <|  .fin
theorem aw200k : crun cfz 75 aw200D [] (ent cfz 75 [(.agg [(aI 100), (aI 5), (aI (-2)), (aI 10)]), (aI 100)]) = some ((aI 105), []) := by kernel_rfl
theorem aw200 : PureCalls cfz.P cfz.glob 75 [(.agg [(aI 100), (aI 5), (aI (-2)), (aI 10)]), (aI 100)] (aI 105) := closed_ok knil (by kernel_rfl) aw200k trivial
noncomputable def aw201D : CT cfz := .run 28 [] <|  .fin
theorem aw201k : crun cfz 78 aw201D [] (ent cfz 78 [(aI 105), (aI 10)]) = some ((aI 10), []) := by kernel_rfl
theorem aw201 : PureCalls cfz.P cfz.glob 78 [(aI 105), (aI 10)] (aI 10) := closed_ok knil (by kernel_rfl) aw201k trivial
noncomputable def aw202D : CT cfz := .run 32 [] <|  .fin
theorem aw202k : crun cfz 75 aw202D [] (ent cfz 75 [(.agg [(aI 100), (aI 5), (aI (-2)), (aI 10)]), (aI 102)]) = some ((aI 107), []) := by kernel_rfl
theorem aw202 : PureCalls cfz.P cfz.glob 75 [(.agg [(aI 100), (aI 5), (aI (-2)), (aI 10)]), (aI 102)] (aI 107) := closed_ok knil (by kernel_rfl) aw202k trivial
noncomputable def aw203D : CT cfz := .run 28 [] <|  .fin
theorem aw203k : crun cfz 78 aw203D [] (ent cfz 78 [(aI 107), (aI 10)]) = some ((aI 10), []) := by kernel_rfl
theorem aw203 : PureCalls cfz.P cfz.glob 78 [(aI 107), (aI 10)] (aI 10) := closed_ok knil (by kernel_rfl) aw203k trivial
noncomputable def aw204D : CT cfz := .run 32 [] <|  .fin
theorem aw204k : crun cfz 75 aw204D [] (ent cfz 75 [(.agg [(aI 100), (aI 5), (aI (-2)), (aI 10)]), (aI 103)]) = some ((aI 108), []) := by kernel_rfl
theorem aw204 : PureCalls cfz.P cfz.glob 75 [(.agg [(aI 100), (aI 5), (aI (-2)), (aI 10)]), (aI 103)] (aI 108) := closed_ok knil (by kernel_rfl) aw204k trivial
noncomputable def aw205D : CT cfz := .run 28 [] <|  .fin
theorem aw205k : crun cfz 78 aw205D [] (ent cfz 78 [(aI 108), (aI 10)]) = some ((aI 10), []) := by kernel_rfl
theorem aw205 : PureCalls cfz.P cfz.glob 78 [(aI 108), (aI 10)] (aI 10) := closed_ok knil (by kernel_rfl) aw205k trivial
noncomputable def aw206D : CT cfz := .run 32 [] <|  .fin
theorem aw206k : crun cfz 75 aw206D [] (ent cfz 75 [(.agg [(aI 100), (aI 5), (aI (-2)), (aI 10)]), (aI 104)]) = some ((aI 109), []) := by kernel_rfl
theorem aw206 : PureCalls cfz.P cfz.glob 75 [(.agg [(aI 100), (aI 5), (aI (-2)), (aI 10)]), (aI 104)] (aI 109) := closed_ok knil (by kernel_rfl) aw206k trivial
noncomputable def aw207D : CT cfz := .run 28 [] <|  .fin
theorem aw207k : crun cfz 78 aw207D [] (ent cfz 78 [(aI 109), (aI 10)]) = some ((aI 10), []) := by kernel_rfl
theorem aw207 : PureCalls cfz.P cfz.glob 78 [(aI 109), (aI 10)] (aI 10) := closed_ok knil (by kernel_rfl) aw207k trivial
noncomputable def aw208D : CT cfz := .run 32 [] <|  .fin
theorem aw208k : crun cfz 75 aw208D [] (ent cfz 75 [(.agg [(aI 100), (aI 5), (aI (-2)), (aI 10)]), (aI 105)]) = some ((aI 110), []) := by kernel_rfl
theorem aw208 : PureCalls cfz.P cfz.glob 75 [(.agg [(aI 100), (aI 5), (aI (-2)), (aI 10)]), (aI 105)] (aI 110) := closed_ok knil (by kernel_rfl) aw208k trivial
noncomputable def aw209D : CT cfz := .run 28 [] <|  .fin
theorem aw209k : crun cfz 78 aw209D [] (ent cfz 78 [(aI 110), (aI 10)]) = some ((aI 11), []) := by kernel_rfl
theorem aw209 : PureCalls cfz.P cfz.glob 78 [(aI 110), (aI 10)] (aI 11) := closed_ok knil (by kernel_rfl) aw209k trivial
noncomputable def aw210D : CT cfz := .run 32 [] <|  .fin
theorem aw210k : crun cfz 75 aw210D [] (ent cfz 75 [(.agg [(aI 100), (aI 5), (aI (-2)), (aI 10)]), (aI 106)]) = some ((aI 111), []) := by kernel_rfl
theorem aw210 : PureCalls cfz.P cfz.glob 75 [(.agg [(aI 100), (aI 5), (aI (-2)), (aI 10)]), (aI 106)] (aI 111) := closed_ok knil (by kernel_rfl) aw210k trivial
noncomputable def aw211D : CT cfz := .run 28 [] <|  .fin
theorem aw211k : crun cfz 78 aw211D [] (ent cfz 78 [(aI 111), (aI 10)]) = some ((aI 11), []) := by kernel_rfl
theorem aw211 : PureCalls cfz.P cfz.glob 78 [(aI 111), (aI 10)] (aI 11) := closed_ok knil (by kernel_rfl) aw211k trivial
noncomputable def aw212D : CT cfz := .run 32 [] <|  .fin
theorem aw212k : crun cfz 75 aw212D [] (ent cfz 75 [(.agg [(aI 100), (aI 5), (aI (-2)), (aI 10)]), (aI 107)]) = some ((aI 112), []) := by kernel_rfl
theorem aw212 : PureCalls cfz.P cfz.glob 75 [(.agg [(aI 100), (aI 5), (aI (-2)), (aI 10)]), (aI 107)] (aI 112) := closed_ok knil (by kernel_rfl) aw212k trivial
noncomputable def aw213D : CT cfz := .run 28 [] <|  .fin
theorem aw213k : crun cfz 78 aw213D [] (ent cfz 78 [(aI 112), (aI 10)]) = some ((aI 11), []) := by kernel_rfl
theorem aw213 : PureCalls cfz.P cfz.glob 78 [(aI 112), (aI 10)] (aI 11) := closed_ok knil (by kernel_rfl) aw213k trivial
noncomputable def aw214D : CT cfz := .run 32 [] <|  .fin
theorem aw214k : crun cfz 75 aw214D [] (ent cfz 75 [(.agg [(aI 100), (aI 5), (aI (-2)), (aI 10)]), (aI 108)]) = some ((aI 113), []) := by kernel_rfl
theorem aw214 : PureCalls cfz.P cfz.glob 75 [(.agg [(aI 100), (aI 5), (aI (-2)), (aI 10)]), (aI 108)] (aI 113) := closed_ok knil (by kernel_rfl) aw214k trivial
noncomputable def aw215D : CT cfz := .run 28 [] <|  .fin
theorem aw215k : crun cfz 78 aw215D [] (ent cfz 78 [(aI 113), (aI 10)]) = some ((aI 11), []) := by kernel_rfl
theorem aw215 : PureCalls cfz.P cfz.glob 78 [(aI 113), (aI 10)] (aI 11) := closed_ok knil (by kernel_rfl) aw215k trivial
noncomputable def aw216D : CT cfz := .run 28 [] <|  .fin
theorem aw216k : crun cfz 78 aw216D [] (ent cfz 78 [(aI 114), (aI 10)]) = some ((aI 11), []) := by kernel_rfl
theorem aw216 : PureCalls cfz.P cfz.glob 78 [(aI 114), (aI 10)] (aI 11) := closed_ok knil (by kernel_rfl) aw216k trivial
noncomputable def aw217D : CT cfz := .run 32 [] <|  .fin
theorem aw217k : crun cfz 75 aw217D [] (ent cfz 75 [(.agg [(aI 100), (aI 5), (aI (-2)), (aI 10)]), (aI 111)]) = some ((aI 115), []) := by kernel_rfl
theorem aw217 : PureCalls cfz.P cfz.glob 75 [(.agg [(aI 100), (aI 5), (aI (-2)), (aI 10)]), (aI 111)] (aI 115) := closed_ok knil (by kernel_rfl) aw217k trivial
noncomputable def aw218D : CT cfz := .run 28 [] <|  .fin
theorem aw218k : crun cfz 78 aw218D [] (ent cfz 78 [(aI 115), (aI 10)]) = some ((aI 11), []) := by kernel_rfl
theorem aw218 : PureCalls cfz.P cfz.glob 78 [(aI 115), (aI 10)] (aI 11) := closed_ok knil (by kernel_rfl) aw218k trivial
noncomputable def aw219D : CT cfz := .run 32 [] <|  .fin
theorem aw219k : crun cfz 75 aw219D [] (ent cfz 75 [(.agg [(aI 100), (aI 5), (aI (-2)), (aI 10)]), (aI 112)]) = some ((aI 116), []) := by kernel_rfl
theorem aw219 : PureCalls cfz.P cfz.glob 75 [(.agg [(aI 100), (aI 5), (aI (-2)), (aI 10)]), (aI 112)] (aI 116) := closed_ok knil (by kernel_rfl) aw219k trivial
noncomputable def aw220D : CT cfz := .run 28 [] <|  .fin
theorem aw220k : crun cfz 78 aw220D [] (ent cfz 78 [(aI 116), (aI 10)]) = some ((aI 11), []) := by kernel_rfl
theorem aw220 : PureCalls cfz.P cfz.glob 78 [(aI 116), (aI 10)] (aI 11) := closed_ok knil (by kernel_rfl) aw220k trivial
noncomputable def aw221D : CT cfz := .run 32 [] <|  .fin
theorem aw221k : crun cfz 75 aw221D [] (ent cfz 75 [(.agg [(aI 100), (aI 5), (aI (-2)), (aI 10)]), (aI 113)]) = some ((aI 117), []) := by kernel_rfl
theorem aw221 : PureCalls cfz.P cfz.glob 75 [(.agg [(aI 100), (aI 5), (aI (-2)), (aI 10)]), (aI 113)] (aI 117) := closed_ok knil (by kernel_rfl) aw221k trivial
noncomputable def aw222D : CT cfz := .run 28 [] <|  .fin
theorem aw222k : crun cfz 78 aw222D [] (ent cfz 78 [(aI 117), (aI 10)]) = some ((aI 11), []) := by kernel_rfl
theorem aw222 : PureCalls cfz.P cfz.glob 78 [(aI 117), (aI 10)] (aI 11) := closed_ok knil (by kernel_rfl) aw222k trivial
noncomputable def aw223D : CT cfz := .run 32 [] <|  .fin
theorem aw223k : crun cfz 75 aw223D [] (ent cfz 75 [(.agg [(aI 100), (aI 5), (aI (-2)), (aI 10)]), (aI 114)]) = some ((aI 118), []) := by kernel_rfl
theorem aw223 : PureCalls cfz.P cfz.glob 75 [(.agg [(aI 100), (aI 5), (aI (-2)), (aI 10)]), (aI 114)] (aI 118) := closed_ok knil (by kernel_rfl) aw223k trivial
noncomputable def aw224D : CT cfz := .run 28 [] <|  .fin
theorem aw224k : crun cfz 78 aw224D [] (ent cfz 78 [(aI 118), (aI 10)]) = some ((aI 11), []) := by kernel_rfl
theorem aw224 : PureCalls cfz.P cfz.glob 78 [(aI 118), (aI 10)] (aI 11) := closed_ok knil (by kernel_rfl) aw224k trivial
noncomputable def aw225D : CT cfz := .run 32 [] <|  .fin
theorem aw225k : crun cfz 75 aw225D [] (ent cfz 75 [(.agg [(aI 100), (aI 5), (aI (-2)), (aI 10)]), (aI 115)]) = some ((aI 119), []) := by kernel_rfl
theorem aw225 : PureCalls cfz.P cfz.glob 75 [(.agg [(aI 100), (aI 5), (aI (-2)), (aI 10)]), (aI 115)] (aI 119) := closed_ok knil (by kernel_rfl) aw225k trivial
noncomputable def aw226D : CT cfz := .run 28 [] <|  .fin
theorem aw226k : crun cfz 78 aw226D [] (ent cfz 78 [(aI 119), (aI 10)]) = some ((aI 11), []) := by kernel_rfl
theorem aw226 : PureCalls cfz.P cfz.glob 78 [(aI 119), (aI 10)] (aI 11) := closed_ok knil (by kernel_rfl) aw226k trivial
noncomputable def aw227D : CT cfz := .run 32 [] <|  .fin
theorem aw227k : crun cfz 75 aw227D [] (ent cfz 75 [(.agg [(aI 100), (aI 5), (aI (-2)), (aI 10)]), (aI 116)]) = some ((aI 120), []) := by kernel_rfl
theorem aw227 : PureCalls cfz.P cfz.glob 75 [(.agg [(aI 100), (aI 5), (aI (-2)), (aI 10)]), (aI 116)] (aI 120) := closed_ok knil (by kernel_rfl) aw227k trivial
noncomputable def aw228D : CT cfz := .run 28 [] <|  .fin
theorem aw228k : crun cfz 78 aw228D [] (ent cfz 78 [(aI 120), (aI 10)]) = some ((aI 12), []) := by kernel_rfl
theorem aw228 : PureCalls cfz.P cfz.glob 78 [(aI 120), (aI 10)] (aI 12) := closed_ok knil (by kernel_rfl) aw228k trivial
noncomputable def aw229D : CT cfz := .run 32 [] <|  .fin
theorem aw229k : crun cfz 75 aw229D [] (ent cfz 75 [(.agg [(aI 100), (aI 5), (aI (-2)), (aI 10)]), (aI 117)]) = some ((aI 121), []) := by kernel_rfl
theorem aw229 : PureCalls cfz.P cfz.glob 75 [(.agg [(aI 100), (aI 5), (aI (-2)), (aI 10)]), (aI 117)] (aI 121) := closed_ok knil (by kernel_rfl) aw229k trivial
end Go.Kv
