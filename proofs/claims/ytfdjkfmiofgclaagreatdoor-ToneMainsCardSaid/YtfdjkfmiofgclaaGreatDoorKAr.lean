import Derived.Test.YtfdjkfmiofgclaaGreatDoorKvW
import Derived.Test.YtfdjkfmiofgclaaGreatDoorKzA
namespace Go.Kv
set_option linter.unusedVariables false
set_option linter.unusedSimpArgs false
set_option linter.unnecessarySimpa false
noncomputable section
open Go Go.RowKit Go.Proofs
set_option maxRecDepth 100000
def qr129 : List AV := [(.d (.v (.int .i64 3)))]
def qr128 : List AV := [(.d (.v (.int .i64 1)))]
def qr127 : List AV := [(.d (.v (.int .i64 2)))]
def qr126 : List AV := [(.d (.v (.int .u64 3)))]
def qr125 : List AV := [(.d (.v (.int .i64 40)))]
def qr124 : List AV := [(.d (.v (.int .i64 10)))]
def qr123 : AV := (.d (.sl 1 [(.v (.int .i64 0))]))
def qr122 : DV := (.v (.string (.mk (#[111, 110]))))
def qr121 : List AV := [(.d (.v (.string (.mk (#[99])))))]
def qr120 : List AV := [(.d (.v (.string (.mk (#[98])))))]
def qr119 : List AV := [(.d (.v (.string (.mk (#[97])))))]
def qr118 : List AV := [qr123]
def qr117 : List AV := [(.d (.v (.string (.mk (#[116])))))]
def qr116 : List DV := [(.v (.int .i64 1)), (.v (.int .i64 1))]
def qr115 : List DV := [(.v (.int .i64 0)), (.v (.int .i64 1))]
def qr114 : List AV := [(.d qr122)]
def qr113 : DV := (.sl 2 [(.v (.int .i64 3)), (.v (.int .i64 0))])
def qr112 : DV := (.sl 2 [(.v (.int .i64 1)), (.v (.int .i64 0))])
def qr111 : List AV := [(.d (.v (.int .i64 3))), (.d (.v (.int .i64 1)))]
def qr110 : List AV := [(.d (.v (.int .i64 2))), (.d (.v (.int .i64 1)))]
def qr109 : List AV := [(.d (.v (.bool false))), (.d (.v (.int .i64 4)))]
def qr108 : List AV := [(.d (.v (.bool false))), (.d (.v (.int .i64 9)))]
def qr107 : List AV := [(.d (.v (.bool false))), (.d (.v (.int .i64 8)))]
def qr106 : List AV := [(.d (.v (.bool false))), (.d (.v (.int .i64 5)))]
def qr105 : List AV := [(.d (.v (.bool false))), (.d (.v (.int .i64 6)))]
def qr104 : List AV := [(.d (.v (.bool false))), (.d (.v (.int .i64 3)))]
def qr103 : List AV := [(.d (.v (.int .i64 10))), (.d (.v (.int .i64 2)))]
def qr102 : List AV := [(.d (.v (.bool false))), (.d (.v (.int .i64 32)))]
def qr101 : List AV := [(.d (.v (.bool false))), (.d (.v (.int .i64 13)))]
def qr100 : List AV := [(.d (.v (.bool false))), (.d (.v (.int .i64 10)))]
def qr99 : List AV := [(.d (.v (.bool false))), (.d (.v (.int .i64 24)))]
def qr98 : List AV := [(.d (.v (.bool false))), (.d (.v (.int .i64 21)))]
def qr97 : List AV := [(.d (.v (.bool false))), (.d (.v (.int .i64 12)))]
def qr96 : List AV := [(.d (.v (.int .i64 10))), (.d (.v (.int .i64 40)))]
def qr95 : AV := (.d qr113)
def qr94 : AV := (.d qr112)
def qr93 : AV := (.d (.sl 1 [(.v (.int .i64 1)), (.v (.int .i64 2))]))
def qr92 : AV := (.d (.sl 1 [(.v (.int .i64 2)), (.v (.int .i64 0))]))
def qr91 : AV := (.d (.sl 1 qr116))
def qr90 : AV := (.d (.sl 1 qr115))
def qr89 : List AV := [(.d (.sl 2 qr116))]
def qr88 : List AV := [(.d (.sl 2 [(.v (.int .i64 0)), (.v (.int .i64 0))]))]
def qr87 : AV := (.d (.sl 1 [(.v (.int .i64 1)), (.v (.int .i64 (-1)))]))
def qr86 : AV := (.agg [(.d (.v (.int .i64 2))), (.d (.v (.int .i64 2)))])
def qr85 : AV := (.agg [(.d (.v (.int .i64 1))), (.d (.v (.int .i64 0)))])
def qr84 : AV := (.agg [(.d (.v (.int .i64 1))), (.d (.v (.int .i64 1)))])
def qr83 : List AV := [(.d (.sl 2 [(.v (.int .i64 (-1))), (.v (.int .i64 1))]))]
def qr82 : List AV := [(.agg [(.d (.v (.int .i64 1))), (.d (.v (.int .i64 2)))])]
def qr81 : List AV := [(.agg [(.d (.v (.int .i64 2))), (.d (.v (.int .i64 0)))])]
def qr80 : List AV := [qr84]
def qr79 : List AV := [(.agg [(.d (.v (.int .i64 0))), (.d (.v (.int .i64 1)))])]
def qr78 : AV := (.agg [(.d (.v (.int .i64 (-2)))), (.d (.v (.int .i64 6)))])
def qr77 : AV := (.agg [(.d (.v (.int .i64 (-1)))), (.d (.v (.int .i64 3)))])
def qr76 : AV := (.agg [(.d (.v (.int .i64 1))), (.d (.v (.int .i64 (-1))))])
def qr75 : List AV := [qr78]
def qr74 : List AV := [qr77]
def qr73 : List AV := [qr76]
def qr72 : DV := (.sl 3 [(.v (.int .i64 2)), (.v (.int .i64 1)), (.v (.int .i64 0))])
def qr71 : List DV := [qr72]
def qr70 : AV := (.d qr72)
def qr69 : List AV := [(.d (.v (.int .i64 2))), (.d (.v (.int .i64 1))), (.d (.v (.int .i64 3)))]
def qr68 : List AV := [(.d (.v (.int .i64 1))), (.d (.v (.int .i64 1))), (.d (.v (.int .i64 3)))]
def qr67 : List AV := [(.d (.sl 3 [(.v (.int .i64 0)), (.v (.int .i64 0)), (.v (.int .i64 0))]))]
def qr66 : List AV := [(.d (.v (.int .i64 1))), (.d (.v (.int .i64 1))), (.d (.v (.int .i64 8)))]
def qr65 : AV := (.d (.sl 1 [(.v (.int .i64 1)), (.v (.int .i64 (-1))), (.v (.bool false))]))
def qr64 : List AV := [(.d (.v (.int .i64 2))), (.d (.v (.int .i64 (-2)))), (.d (.v (.int .i64 2)))]
def qr63 : List AV := [(.d (.v (.int .i64 1))), (.d (.v (.int .i64 (-2)))), (.d (.v (.int .i64 2)))]
def qr62 : List AV := [(.d (.v (.int .i64 0))), (.d (.v (.int .i64 (-2)))), (.d (.v (.int .i64 2)))]
def qr61 : List AV := [(.d (.sl 2 [(.v (.int .i64 0)), (.v (.int .i64 3))])), (.d (.v (.int .i64 1)))]
def qr60 : List AV := [qr95, (.d (.v (.int .i64 0)))]
def qr59 : List AV := [(.d (.sl 2 qr115)), (.d (.v (.int .i64 1)))]
def qr58 : List AV := [qr94, (.d (.v (.int .i64 0)))]
def qr57 : List AV := [(.d (.v (.int .i64 (-1)))), (.d (.v (.int .i64 (-2)))), (.d (.v (.int .i64 2)))]
def qr56 : AV := (.agg [(.d (.v (.int .i64 2))), (.d (.v (.int .i64 0))), (.d (.v (.bool false)))])
def qr55 : AV := (.agg [(.d (.v (.int .i64 1))), (.d (.v (.int .i64 2))), (.d (.v (.bool false)))])
def qr54 : AV := (.agg [(.d (.v (.int .i64 1))), (.d (.v (.int .i64 1))), (.d (.v (.bool false)))])
def qr53 : List AV := [(.d (.v (.int .i64 0))), (.ip [qr113])]
def qr52 : List AV := [(.d (.v (.int .i64 0))), (.ip [qr112])]
def qr51 : List AV := [qr56]
def qr50 : List AV := [qr55]
def qr49 : List AV := [qr54]
def qr48 : AV := (.agg [(.d (.v (.int .i64 1))), (.d (.v (.int .i64 (-1)))), (.d (.v (.bool false)))])
def qr47 : List AV := [qr48]
def qr46 : AV := (.tup [qr76, (.d (.v (.int .i64 0)))])
def qr45 : AV := (.tup [qr78, (.d (.v (.int .i64 0)))])
def qr44 : AV := (.tup [qr77, (.d (.v (.int .i64 0)))])
def qr43 : List AV := [qr93, (.d (.v (.func (.func 162) (#[]) (#[]))))]
def qr42 : List AV := [qr92, (.d (.v (.func (.func 162) (#[]) (#[]))))]
def qr41 : List AV := [qr91, (.d (.v (.func (.func 162) (#[]) (#[]))))]
def qr40 : List AV := [qr90, (.d (.v (.func (.func 162) (#[]) (#[]))))]
def qr39 : List AV := [(.d (.sl 3 [(.v (.int .i64 0)), (.v (.int .i64 1)), (.v (.int .i64 2))])), (.d (.v (.int .i64 1)))]
def qr38 : List AV := [qr70, (.d (.v (.int .i64 0)))]
def qr37 : List AV := [qr87, (.d (.v (.func (.func 162) (#[]) (#[]))))]
def qr36 : List AV := [(.d (.v (.int .i64 0))), (.ip qr71)]
def qr35 : AV := (.tup [(.d (.sl 3 [(.v (.int .i64 2)), (.v (.int .i64 1)), (.v (.int .i64 3))])), (.d (.v (.int .i64 0)))])
def qr34 : DV := (.sl 1 [(.v (.int .i64 1)), qr122, (.sl 1 [(.v (.int .i64 1)), (.v (.int .i64 2))])])
def qr33 : List AV := [qr123, (.fn (.func 156) [] [(.ip [qr113])])]
def qr32 : List AV := [qr123, (.fn (.func 156) [] [(.ip [qr112])])]
def qr31 : List AV := [qr65, (.d (.v (.func (.func 165) (#[]) (#[]))))]
def qr30 : AV := (.d (.sl 2 [(.v (.int .i64 1)), (.v (.int .i64 1)), (.v (.bool false)), (.v (.int .i64 1)), (.v (.int .i64 2)), (.v (.bool false))]))
def qr29 : List AV := [qr123, (.fn (.func 156) [] [(.ip qr71)])]
def qr28 : List AV := [qr55, qr86]
def qr27 : List AV := [qr56, qr84]
def qr26 : List AV := [qr55, qr84]
def qr25 : List AV := [qr54, qr85]
def qr24 : List AV := [qr48, qr85]
def qr23 : List AV := [(.d (.sl 3 [qr122, (.v (.string (.mk (#[111, 102, 102])))), (.v (.string (.mk (#[109, 97, 121]))))])), (.d qr122)]
def qr22 : List AV := [qr30, (.d (.v (.func (.func 165) (#[]) (#[]))))]
def qr21 : AV := (.d (.sl 3 [(.v (.int .i64 1)), (.v (.int .i64 1)), (.v (.bool false)), (.v (.int .i64 2)), (.v (.int .i64 0)), (.v (.bool false)), (.v (.int .i64 1)), (.v (.int .i64 2)), (.v (.bool false))]))
def qr20 : List AV := [qr21, (.d (.v (.func (.func 165) (#[]) (#[]))))]
def qr19 : DV := (.sl 4 [(.v (.string (.mk (#[116])))), (.v (.int .i64 0)), (.v (.int .i64 0)), (.v (.slice .none 0 0)), (.v (.string (.mk (#[97])))), (.v (.int .i64 0)), (.v (.int .i64 1)), (.sl 1 qr116), (.v (.string (.mk (#[98])))), (.v (.int .i64 1)), (.v (.int .i64 1)), (.sl 1 [(.v (.int .i64 2)), (.v (.int .i64 0))]), (.v (.string (.mk (#[99])))), (.v (.int .i64 0)), (.v (.int .i64 2)), (.sl 1 [(.v (.int .i64 1)), (.v (.int .i64 (-1)))])])
def qr18 : List DV := [(.v (.int .i64 1)), (.sl 1 qr115), qr19, qr34]
def qr17 : AV := (.agg [(.d (.v (.int .i64 1))), qr90, (.d qr19), (.d qr34)])
def qr16 : List AV := [qr17]
def qr15 : List AV := [(.d (.v (.int .i64 0))), (.ip qr18)]
def qr14 : List AV := [qr17, (.d (.v (.int .i64 3)))]
def qr13 : List AV := [qr17, (.d (.v (.int .i64 2)))]
def qr12 : List AV := [qr17, (.d (.v (.int .i64 1)))]
def qr11 : List AV := [qr17, (.d (.v (.int .i64 0)))]
def qr10 : List AV := [qr17, qr123]
def qr9 : List AV := [qr123, (.fn (.func 153) [] [(.ip qr18)])]
def qr8 : List AV := [qr17, (.d (.v (.int .i64 0))), (.d (.v (.int .i64 0)))]
def qr7 : List AV := [qr17, qr93]
def qr6 : List AV := [qr17, qr92]
def qr5 : List AV := [qr17, qr91]
def qr4 : List AV := [qr17, qr90]
def qr3 : List AV := [qr17, qr87]
def qr2 : List AV := [qr17, (.d (.v (.int .i64 0))), (.d (.v (.int .i64 3))), (.d (.v (.int .i64 0)))]
def qr1 : List AV := [qr17, (.d (.v (.int .i64 0))), (.d (.v (.int .i64 2))), (.d (.v (.int .i64 0)))]
def qr0 : List AV := [qr17, (.d (.v (.int .i64 0))), (.d (.v (.int .i64 1))), (.d (.v (.int .i64 0)))]
def ar0D : CT cfz := .run 16 [] <|  .fin
theorem ar0k : crun cfz 109 ar0D [] (ent cfz 109 qr104) = some ((.d (.v (.int .i64 0))), []) := by kernel_rfl
theorem ar0 : PureCalls cfz.P cfz.glob 109 qr104 (.d (.v (.int .i64 0))) := closed_ok knil (by kernel_rfl) ar0k trivial
def ar1D : CT cfz := .run 14 [] <| .use ar0 <| .run 1 [(.ck 0)] <| .run 3 [] <|  .fin
theorem ar1k : crun cfz 106 ar1D [] (ent cfz 106 qr66) = some ((.d (.v (.int .i64 0))), [.eqA qr104 qr104]) := by kernel_rfl
theorem ar1 : PureCalls cfz.P cfz.glob 106 qr66 (.d (.v (.int .i64 0))) := closed_ok knil (by kernel_rfl) ar1k ⟨rfl, trivial⟩
def ar2D : CT cfz := .run 14 [] <| .use ar0 <| .run 1 [(.ck 0)] <| .run 3 [] <|  .fin
theorem ar2k : crun cfz 106 ar2D [] (ent cfz 106 qr62) = some ((.d (.v (.int .i64 0))), [.eqA qr104 qr104]) := by kernel_rfl
theorem ar2 : PureCalls cfz.P cfz.glob 106 qr62 (.d (.v (.int .i64 0))) := closed_ok knil (by kernel_rfl) ar2k ⟨rfl, trivial⟩
def ar3D : CT cfz := .run 14 [] <| .use ar0 <| .run 1 [(.ck 0)] <| .run 3 [] <|  .fin
theorem ar3k : crun cfz 106 ar3D [] (ent cfz 106 qr63) = some ((.d (.v (.int .i64 0))), [.eqA qr104 qr104]) := by kernel_rfl
theorem ar3 : PureCalls cfz.P cfz.glob 106 qr63 (.d (.v (.int .i64 0))) := closed_ok knil (by kernel_rfl) ar3k ⟨rfl, trivial⟩
def ar4D : CT cfz := .run 16 [] <|  .fin
theorem ar4k : crun cfz 109 ar4D [] (ent cfz 109 qr105) = some ((.d (.v (.int .i64 0))), []) := by kernel_rfl
theorem ar4 : PureCalls cfz.P cfz.glob 109 qr105 (.d (.v (.int .i64 0))) := closed_ok knil (by kernel_rfl) ar4k trivial
def ar5D : CT cfz := .run 109 [] <|  .fin
theorem ar5k : crun cfz 107 ar5D [] (ent cfz 107 qr67) = some ((.d (.v (.int .i64 0))), []) := by kernel_rfl
theorem ar5 : PureCalls cfz.P cfz.glob 107 qr67 (.d (.v (.int .i64 0))) := closed_ok knil (by kernel_rfl) ar5k trivial
def ar6D : CT cfz := .run 7 [] <| .use ar2 <| .use ar3 <| .use ar4 <| .use ar5 <| .run 1 [.none, (.ck 0), .none, (.ck 1), .none, (.ck 2), (.ck 3)] <| .run 1 [] <|  .fin
theorem ar6k : crun cfz 162 ar6D [] (ent cfz 162 qr79) = some ((.d (.v (.int .i64 0))), [.eqA qr62 qr62, .eqA qr63 qr63, .eqA qr105 qr105, .eqA qr67 qr67]) := by kernel_rfl
theorem ar6 : PureCalls cfz.P cfz.glob 162 qr79 (.d (.v (.int .i64 0))) := closed_ok knil (by kernel_rfl) ar6k ⟨rfl, rfl, rfl, rfl, trivial⟩
def ar7D : CT cfz := .run 37 [] <| .use ar6 <| .run 1 [(.ck 0)] <| .run 23 [] <|  .fin
theorem ar7k : crun cfz 161 ar7D [] (ent cfz 161 qr40) = some (qr123, [.eqA qr79 qr79]) := by kernel_rfl
theorem ar7 : PureCalls cfz.P cfz.glob 161 qr40 qr123 := closed_ok knil (by kernel_rfl) ar7k ⟨rfl, trivial⟩
def ar8D : CT cfz := .run 53 [] <|  .fin
theorem ar8k : crun cfz 107 ar8D [] (ent cfz 107 qr118) = some ((.d (.v (.int .i64 0))), []) := by kernel_rfl
theorem ar8 : PureCalls cfz.P cfz.glob 107 qr118 (.d (.v (.int .i64 0))) := closed_ok knil (by kernel_rfl) ar8k trivial
def ar9D : CT cfz := .run 19 [] <| .use ar7 <| .run 1 [(.ck 0)] <| .use ar8 <| .run 1 [(.ck 1)] <| .run 3 [] <|  .fin
theorem ar9k : crun cfz 108 ar9D [] (ent cfz 108 qr4) = some ((.d (.v (.int .i64 0))), [.eqA qr40 qr40, .eqA qr118 qr118]) := by kernel_rfl
theorem ar9 : PureCalls cfz.P cfz.glob 108 qr4 (.d (.v (.int .i64 0))) := closed_ok knil (by kernel_rfl) ar9k ⟨rfl, rfl, trivial⟩
def ar10D : CT cfz := .run 16 [] <|  .fin
theorem ar10k : crun cfz 109 ar10D [] (ent cfz 109 qr97) = some ((.d (.v (.int .i64 0))), []) := by kernel_rfl
theorem ar10 : PureCalls cfz.P cfz.glob 109 qr97 (.d (.v (.int .i64 0))) := closed_ok knil (by kernel_rfl) ar10k trivial
def ar11D : CT cfz := .run 16 [] <|  .fin
theorem ar11k : crun cfz 109 ar11D [] (ent cfz 109 qr106) = some ((.d (.v (.int .i64 0))), []) := by kernel_rfl
theorem ar11 : PureCalls cfz.P cfz.glob 109 qr106 (.d (.v (.int .i64 0))) := closed_ok knil (by kernel_rfl) ar11k trivial
def ar12D : CT cfz := .run 91 [] <|  .fin
theorem ar12k : crun cfz 110 ar12D [] (ent cfz 110 qr117) = some ((.d (.v (.bool true))), []) := by kernel_rfl
theorem ar12 : PureCalls cfz.P cfz.glob 110 qr117 (.d (.v (.bool true))) := closed_ok knil (by kernel_rfl) ar12k trivial
def ar13D : CT cfz := .run 16 [] <|  .fin
theorem ar13k : crun cfz 109 ar13D [] (ent cfz 109 qr107) = some ((.d (.v (.int .i64 0))), []) := by kernel_rfl
theorem ar13 : PureCalls cfz.P cfz.glob 109 qr107 (.d (.v (.int .i64 0))) := closed_ok knil (by kernel_rfl) ar13k trivial
def ar14D : CT cfz := .run 16 [] <|  .fin
theorem ar14k : crun cfz 109 ar14D [] (ent cfz 109 qr108) = some ((.d (.v (.int .i64 0))), []) := by kernel_rfl
theorem ar14 : PureCalls cfz.P cfz.glob 109 qr108 (.d (.v (.int .i64 0))) := closed_ok knil (by kernel_rfl) ar14k trivial
def ar15D : CT cfz := .run 16 [] <|  .fin
theorem ar15k : crun cfz 109 ar15D [] (ent cfz 109 qr98) = some ((.d (.v (.int .i64 0))), []) := by kernel_rfl
theorem ar15 : PureCalls cfz.P cfz.glob 109 qr98 (.d (.v (.int .i64 0))) := closed_ok knil (by kernel_rfl) ar15k trivial
def ar16D : CT cfz := .run 38 [] <| .use ar15 <| .run 1 [(.ck 0)] <| .run 3 [] <|  .fin
theorem ar16k : crun cfz 111 ar16D [] (ent cfz 111 qr11) = some ((.d (.v (.int .i64 0))), [.eqA qr98 qr98]) := by kernel_rfl
theorem ar16 : PureCalls cfz.P cfz.glob 111 qr11 (.d (.v (.int .i64 0))) := closed_ok knil (by kernel_rfl) ar16k ⟨rfl, trivial⟩
def ar17D : CT cfz := .run 91 [] <|  .fin
theorem ar17k : crun cfz 110 ar17D [] (ent cfz 110 qr119) = some ((.d (.v (.bool true))), []) := by kernel_rfl
theorem ar17 : PureCalls cfz.P cfz.glob 110 qr119 (.d (.v (.bool true))) := closed_ok knil (by kernel_rfl) ar17k trivial
def ar18D : CT cfz := .run 14 [] <| .use ar0 <| .run 1 [(.ck 0)] <| .run 3 [] <|  .fin
theorem ar18k : crun cfz 106 ar18D [] (ent cfz 106 qr68) = some ((.d (.v (.int .i64 0))), [.eqA qr104 qr104]) := by kernel_rfl
theorem ar18 : PureCalls cfz.P cfz.glob 106 qr68 (.d (.v (.int .i64 0))) := closed_ok knil (by kernel_rfl) ar18k ⟨rfl, trivial⟩
def ar19D : CT cfz := .run 16 [] <|  .fin
theorem ar19k : crun cfz 109 ar19D [] (ent cfz 109 qr99) = some ((.d (.v (.int .i64 0))), []) := by kernel_rfl
theorem ar19 : PureCalls cfz.P cfz.glob 109 qr99 (.d (.v (.int .i64 0))) := closed_ok knil (by kernel_rfl) ar19k trivial
def ar20D : CT cfz := .run 7 [] <| .use ar3 <| .use ar4 <| .use ar5 <| .run 1 [.none, (.ck 0), .none, (.ck 0), .none, (.ck 1), (.ck 2)] <| .run 1 [] <|  .fin
theorem ar20k : crun cfz 162 ar20D [] (ent cfz 162 qr80) = some ((.d (.v (.int .i64 0))), [.eqA qr63 qr63, .eqA qr63 qr63, .eqA qr105 qr105, .eqA qr67 qr67]) := by kernel_rfl
theorem ar20 : PureCalls cfz.P cfz.glob 162 qr80 (.d (.v (.int .i64 0))) := closed_ok knil (by kernel_rfl) ar20k ⟨rfl, rfl, rfl, rfl, trivial⟩
def ar21D : CT cfz := .run 37 [] <| .use ar20 <| .run 1 [(.ck 0)] <| .run 23 [] <|  .fin
theorem ar21k : crun cfz 161 ar21D [] (ent cfz 161 qr41) = some (qr123, [.eqA qr80 qr80]) := by kernel_rfl
theorem ar21 : PureCalls cfz.P cfz.glob 161 qr41 qr123 := closed_ok knil (by kernel_rfl) ar21k ⟨rfl, trivial⟩
def ar22D : CT cfz := .run 19 [] <| .use ar21 <| .run 1 [(.ck 0)] <| .use ar8 <| .run 1 [(.ck 1)] <| .run 3 [] <|  .fin
theorem ar22k : crun cfz 108 ar22D [] (ent cfz 108 qr5) = some ((.d (.v (.int .i64 0))), [.eqA qr41 qr41, .eqA qr118 qr118]) := by kernel_rfl
theorem ar22 : PureCalls cfz.P cfz.glob 108 qr5 (.d (.v (.int .i64 0))) := closed_ok knil (by kernel_rfl) ar22k ⟨rfl, rfl, trivial⟩
def ar23D : CT cfz := .run 40 [] <| .use ar18 <| .use ar19 <| .use ar22 <| .use ar5 <| .run 1 [.none, (.ck 0), .none, (.br false), (.br false), (.br false), (.br false), (.br false), (.br false), (.br false), (.br false), (.br false), (.br false), .none, (.ck 1), .none, .none, (.ck 2), (.ck 3)] <| .run 1 [] <|  .fin
theorem ar23k : crun cfz 111 ar23D [] (ent cfz 111 qr12) = some ((.d (.v (.int .i64 0))), [.eqA qr68 qr68, .eqA qr99 qr99, .eqA qr5 qr5, .eqA qr67 qr67]) := by kernel_rfl
theorem ar23 : PureCalls cfz.P cfz.glob 111 qr12 (.d (.v (.int .i64 0))) := closed_ok knil (by kernel_rfl) ar23k ⟨rfl, rfl, rfl, rfl, trivial⟩
def ar24D : CT cfz := .run 91 [] <|  .fin
theorem ar24k : crun cfz 110 ar24D [] (ent cfz 110 qr120) = some ((.d (.v (.bool true))), []) := by kernel_rfl
theorem ar24 : PureCalls cfz.P cfz.glob 110 qr120 (.d (.v (.bool true))) := closed_ok knil (by kernel_rfl) ar24k trivial
def ar25D : CT cfz := .run 14 [] <| .use ar0 <| .run 1 [(.ck 0)] <| .run 3 [] <|  .fin
theorem ar25k : crun cfz 106 ar25D [] (ent cfz 106 qr64) = some ((.d (.v (.int .i64 0))), [.eqA qr104 qr104]) := by kernel_rfl
theorem ar25 : PureCalls cfz.P cfz.glob 106 qr64 (.d (.v (.int .i64 0))) := closed_ok knil (by kernel_rfl) ar25k ⟨rfl, trivial⟩
def ar26D : CT cfz := .run 7 [] <| .use ar25 <| .use ar2 <| .use ar4 <| .use ar5 <| .run 1 [.none, (.ck 0), .none, (.ck 1), .none, (.ck 2), (.ck 3)] <| .run 1 [] <|  .fin
theorem ar26k : crun cfz 162 ar26D [] (ent cfz 162 qr81) = some ((.d (.v (.int .i64 0))), [.eqA qr64 qr64, .eqA qr62 qr62, .eqA qr105 qr105, .eqA qr67 qr67]) := by kernel_rfl
theorem ar26 : PureCalls cfz.P cfz.glob 162 qr81 (.d (.v (.int .i64 0))) := closed_ok knil (by kernel_rfl) ar26k ⟨rfl, rfl, rfl, rfl, trivial⟩
def ar27D : CT cfz := .run 37 [] <| .use ar26 <| .run 1 [(.ck 0)] <| .run 23 [] <|  .fin
theorem ar27k : crun cfz 161 ar27D [] (ent cfz 161 qr42) = some (qr123, [.eqA qr81 qr81]) := by kernel_rfl
theorem ar27 : PureCalls cfz.P cfz.glob 161 qr42 qr123 := closed_ok knil (by kernel_rfl) ar27k ⟨rfl, trivial⟩
def ar28D : CT cfz := .run 19 [] <| .use ar27 <| .run 1 [(.ck 0)] <| .use ar8 <| .run 1 [(.ck 1)] <| .run 3 [] <|  .fin
theorem ar28k : crun cfz 108 ar28D [] (ent cfz 108 qr6) = some ((.d (.v (.int .i64 0))), [.eqA qr42 qr42, .eqA qr118 qr118]) := by kernel_rfl
theorem ar28 : PureCalls cfz.P cfz.glob 108 qr6 (.d (.v (.int .i64 0))) := closed_ok knil (by kernel_rfl) ar28k ⟨rfl, rfl, trivial⟩
def ar29D : CT cfz := .run 40 [] <| .use ar18 <| .use ar19 <| .use ar28 <| .use ar5 <| .run 1 [.none, (.ck 0), .none, (.br true), (.br true), .none, (.br true), (.br true), .none, (.br true), (.br true), (.br true), .none, (.br true), (.br true), .none, (.br true), .none, (.ck 1), .none, .none, (.ck 2), (.ck 3)] <| .run 1 [] <|  .fin
theorem ar29k : crun cfz 111 ar29D [] (ent cfz 111 qr13) = some ((.d (.v (.int .i64 0))), [.eqA qr68 qr68, .eqA qr99 qr99, .eqA qr6 qr6, .eqA qr67 qr67]) := by kernel_rfl
theorem ar29 : PureCalls cfz.P cfz.glob 111 qr13 (.d (.v (.int .i64 0))) := closed_ok knil (by kernel_rfl) ar29k ⟨rfl, rfl, rfl, rfl, trivial⟩
def ar30D : CT cfz := .run 91 [] <|  .fin
theorem ar30k : crun cfz 110 ar30D [] (ent cfz 110 qr121) = some ((.d (.v (.bool true))), []) := by kernel_rfl
theorem ar30 : PureCalls cfz.P cfz.glob 110 qr121 (.d (.v (.bool true))) := closed_ok knil (by kernel_rfl) ar30k trivial
def ar31D : CT cfz := .run 14 [] <| .use ar0 <| .run 1 [(.ck 0)] <| .run 3 [] <|  .fin
theorem ar31k : crun cfz 106 ar31D [] (ent cfz 106 qr69) = some ((.d (.v (.int .i64 0))), [.eqA qr104 qr104]) := by kernel_rfl
theorem ar31 : PureCalls cfz.P cfz.glob 106 qr69 (.d (.v (.int .i64 0))) := closed_ok knil (by kernel_rfl) ar31k ⟨rfl, trivial⟩
def ar32D : CT cfz := .run 14 [] <| .use ar0 <| .run 1 [(.ck 0)] <| .run 3 [] <|  .fin
theorem ar32k : crun cfz 106 ar32D [] (ent cfz 106 qr57) = some ((.d (.v (.int .i64 0))), [.eqA qr104 qr104]) := by kernel_rfl
theorem ar32 : PureCalls cfz.P cfz.glob 106 qr57 (.d (.v (.int .i64 0))) := closed_ok knil (by kernel_rfl) ar32k ⟨rfl, trivial⟩
def ar33D : CT cfz := .run 7 [] <| .use ar3 <| .use ar32 <| .use ar4 <| .use ar5 <| .run 1 [.none, (.ck 0), .none, (.ck 1), .none, (.ck 2), (.ck 3)] <| .run 1 [] <|  .fin
theorem ar33k : crun cfz 162 ar33D [] (ent cfz 162 qr73) = some ((.d (.v (.int .i64 0))), [.eqA qr63 qr63, .eqA qr57 qr57, .eqA qr105 qr105, .eqA qr67 qr67]) := by kernel_rfl
theorem ar33 : PureCalls cfz.P cfz.glob 162 qr73 (.d (.v (.int .i64 0))) := closed_ok knil (by kernel_rfl) ar33k ⟨rfl, rfl, rfl, rfl, trivial⟩
def ar34D : CT cfz := .run 37 [] <| .use ar33 <| .run 1 [(.ck 0)] <| .run 23 [] <|  .fin
theorem ar34k : crun cfz 161 ar34D [] (ent cfz 161 qr37) = some (qr123, [.eqA qr73 qr73]) := by kernel_rfl
theorem ar34 : PureCalls cfz.P cfz.glob 161 qr37 qr123 := closed_ok knil (by kernel_rfl) ar34k ⟨rfl, trivial⟩
def ar35D : CT cfz := .run 19 [] <| .use ar34 <| .run 1 [(.ck 0)] <| .use ar8 <| .run 1 [(.ck 1)] <| .run 3 [] <|  .fin
theorem ar35k : crun cfz 108 ar35D [] (ent cfz 108 qr3) = some ((.d (.v (.int .i64 0))), [.eqA qr37 qr37, .eqA qr118 qr118]) := by kernel_rfl
theorem ar35 : PureCalls cfz.P cfz.glob 108 qr3 (.d (.v (.int .i64 0))) := closed_ok knil (by kernel_rfl) ar35k ⟨rfl, rfl, trivial⟩
def ar36D : CT cfz := .run 40 [] <| .use ar31 <| .use ar19 <| .use ar35 <| .use ar5 <| .run 1 [.none, (.ck 0), .none, (.br false), (.br false), (.br false), (.br false), (.br false), (.br false), (.br false), (.br false), (.br false), (.br false), .none, (.ck 1), .none, .none, (.ck 2), (.ck 3)] <| .run 1 [] <|  .fin
theorem ar36k : crun cfz 111 ar36D [] (ent cfz 111 qr14) = some ((.d (.v (.int .i64 0))), [.eqA qr69 qr69, .eqA qr99 qr99, .eqA qr3 qr3, .eqA qr67 qr67]) := by kernel_rfl
theorem ar36 : PureCalls cfz.P cfz.glob 111 qr14 (.d (.v (.int .i64 0))) := closed_ok knil (by kernel_rfl) ar36k ⟨rfl, rfl, rfl, rfl, trivial⟩
def ar37D : CT cfz := .run 19 [] <|  .fin
theorem ar37k : crun cfz 112 ar37D [] (ent cfz 112 qr12) = some ((.d (.v (.bool true))), []) := by kernel_rfl
theorem ar37 : PureCalls cfz.P cfz.glob 112 qr12 (.d (.v (.bool true))) := closed_ok knil (by kernel_rfl) ar37k trivial
def ar38D : CT cfz := .run 16 [] <|  .fin
theorem ar38k : crun cfz 109 ar38D [] (ent cfz 109 qr100) = some ((.d (.v (.int .i64 0))), []) := by kernel_rfl
theorem ar38 : PureCalls cfz.P cfz.glob 109 qr100 (.d (.v (.int .i64 0))) := closed_ok knil (by kernel_rfl) ar38k trivial
def ar39D : CT cfz := .run 43 [] <|  .fin
theorem ar39k : crun cfz 186 ar39D [] (ent cfz 186 qr23) = some ((.d (.v (.int .i64 0))), []) := by kernel_rfl
theorem ar39 : PureCalls cfz.P cfz.glob 186 qr23 (.d (.v (.int .i64 0))) := closed_ok knil (by kernel_rfl) ar39k trivial
def ar40D : CT cfz := .run 8 [] <| .use ar39 <| .run 1 [(.ck 0)] <| .run 4 [] <|  .fin
theorem ar40k : crun cfz 163 ar40D [] (ent cfz 163 qr23) = some ((.d (.v (.bool true))), [.eqA qr23 qr23]) := by kernel_rfl
theorem ar40 : PureCalls cfz.P cfz.glob 163 qr23 (.d (.v (.bool true))) := closed_ok knil (by kernel_rfl) ar40k ⟨rfl, trivial⟩
def ar41D : CT cfz := .run 16 [] <|  .fin
theorem ar41k : crun cfz 109 ar41D [] (ent cfz 109 qr101) = some ((.d (.v (.int .i64 0))), []) := by kernel_rfl
theorem ar41 : PureCalls cfz.P cfz.glob 109 qr101 (.d (.v (.int .i64 0))) := closed_ok knil (by kernel_rfl) ar41k trivial
def ar42D : CT cfz := .run 8 [] <| .use ar40 <| .run 1 [(.ck 0)] <| .run 1 [] <| .use ar41 <| .run 1 [(.ck 1)] <| .run 3 [] <|  .fin
theorem ar42k : crun cfz 113 ar42D [] (ent cfz 113 qr114) = some ((.d (.v (.int .i64 0))), [.eqA qr23 qr23, .eqA qr101 qr101]) := by kernel_rfl
theorem ar42 : PureCalls cfz.P cfz.glob 113 qr114 (.d (.v (.int .i64 0))) := closed_ok knil (by kernel_rfl) ar42k ⟨rfl, rfl, trivial⟩
def ar43D : CT cfz := .run 7 [] <| .use ar3 <| .use ar25 <| .use ar4 <| .use ar5 <| .run 1 [.none, (.ck 0), .none, (.ck 1), .none, (.ck 2), (.ck 3)] <| .run 1 [] <|  .fin
theorem ar43k : crun cfz 162 ar43D [] (ent cfz 162 qr82) = some ((.d (.v (.int .i64 0))), [.eqA qr63 qr63, .eqA qr64 qr64, .eqA qr105 qr105, .eqA qr67 qr67]) := by kernel_rfl
theorem ar43 : PureCalls cfz.P cfz.glob 162 qr82 (.d (.v (.int .i64 0))) := closed_ok knil (by kernel_rfl) ar43k ⟨rfl, rfl, rfl, rfl, trivial⟩
def ar44D : CT cfz := .run 37 [] <| .use ar43 <| .run 1 [(.ck 0)] <| .run 23 [] <|  .fin
theorem ar44k : crun cfz 161 ar44D [] (ent cfz 161 qr43) = some (qr123, [.eqA qr82 qr82]) := by kernel_rfl
theorem ar44 : PureCalls cfz.P cfz.glob 161 qr43 qr123 := closed_ok knil (by kernel_rfl) ar44k ⟨rfl, trivial⟩
def ar45D : CT cfz := .run 19 [] <| .use ar44 <| .run 1 [(.ck 0)] <| .use ar8 <| .run 1 [(.ck 1)] <| .run 3 [] <|  .fin
theorem ar45k : crun cfz 108 ar45D [] (ent cfz 108 qr7) = some ((.d (.v (.int .i64 0))), [.eqA qr43 qr43, .eqA qr118 qr118]) := by kernel_rfl
theorem ar45 : PureCalls cfz.P cfz.glob 108 qr7 (.d (.v (.int .i64 0))) := closed_ok knil (by kernel_rfl) ar45k ⟨rfl, rfl, trivial⟩
def ar46D : CT cfz := .run 10 [] <| .use ar1 <| .run 1 [(.ck 0)] <| .run 12 [] <| .use ar9 <| .use ar10 <| .use ar11 <| .use ar5 <| .run 1 [.none, .none, (.ck 1), .none, (.ck 2), .none, (.ck 3), (.ck 4)] <| .run 43 [] <| .use ar12 <| .use ar13 <| .use ar14 <| .use ar16 <| .run 1 [.none, (.ck 5), (.ck 6), .none, .none, (.ck 7), .none, (.ck 8), (.ck 4)] <| .run 40 [] <| .use ar17 <| .use ar23 <| .run 1 [.none, (.ck 9), (.ck 6), .none, .none, (.ck 7), .none, (.ck 10), (.ck 4)] <| .run 40 [] <| .use ar24 <| .use ar29 <| .run 1 [.none, (.ck 11), (.ck 6), .none, .none, (.ck 7), .none, (.ck 12), (.ck 4)] <| .run 40 [] <| .use ar30 <| .use ar36 <| .run 1 [.none, (.ck 13), (.ck 6), .none, .none, (.ck 7), .none, (.ck 14), (.ck 4)] <| .run 64 [] <| .use ar37 <| .use ar38 <| .use ar42 <| .use ar45 <| .run 1 [.none, .none, (.ck 15), (.ck 16), .none, (.ck 17), .none, .none, (.ck 18), (.ck 4)] <| .run 25 [] <|  .fin
theorem ar46k : crun cfz 23 ar46D [] (ent cfz 23 qr16) = some ((.d (.v (.int .i64 0))), [.eqA qr66 qr66, .eqA qr4 qr4, .eqA qr97 qr97, .eqA qr106 qr106, .eqA qr67 qr67, .eqA qr117 qr117, .eqA qr107 qr107, .eqA qr108 qr108, .eqA qr11 qr11, .eqA qr67 qr67, .eqA qr119 qr119, .eqA qr107 qr107, .eqA qr108 qr108, .eqA qr12 qr12, .eqA qr67 qr67, .eqA qr120 qr120, .eqA qr107 qr107, .eqA qr108 qr108, .eqA qr13 qr13, .eqA qr67 qr67, .eqA qr121 qr121, .eqA qr107 qr107, .eqA qr108 qr108, .eqA qr14 qr14, .eqA qr67 qr67, .eqA qr12 qr12, .eqA qr100 qr100, .eqA qr114 qr114, .eqA qr7 qr7, .eqA qr67 qr67]) := by kernel_rfl
theorem ar46 : PureCalls cfz.P cfz.glob 23 qr16 (.d (.v (.int .i64 0))) := closed_ok knil (by kernel_rfl) ar46k ⟨rfl, rfl, rfl, rfl, rfl, rfl, rfl, rfl, rfl, rfl, rfl, rfl, rfl, rfl, rfl, rfl, rfl, rfl, rfl, rfl, rfl, rfl, rfl, rfl, rfl, rfl, rfl, rfl, rfl, rfl, trivial⟩
def ar47D : CT cfz := .run 19 [] <|  .fin
theorem ar47k : crun cfz 112 ar47D [] (ent cfz 112 qr11) = some ((.d (.v (.bool true))), []) := by kernel_rfl
theorem ar47 : PureCalls cfz.P cfz.glob 112 qr11 (.d (.v (.bool true))) := closed_ok knil (by kernel_rfl) ar47k trivial
def ar48D : CT cfz := .run 8 [] <| .use ar47 <| .run 1 [(.ck 0)] <| .run 4 [] <|  .fin
theorem ar48k : crun cfz 153 ar48D [] (ent cfz 153 qr15) = some ((.d (.v (.bool false))), [.eqA qr11 qr11]) := by kernel_rfl
theorem ar48 : PureCalls cfz.P cfz.glob 153 qr15 (.d (.v (.bool false))) := closed_ok knil (by kernel_rfl) ar48k ⟨rfl, trivial⟩
def ar49D : CT cfz := .run 34 [] <| .use ar48 <| .run 1 [(.ck 0)] <| .run 21 [] <|  .fin
theorem ar49k : crun cfz 155 ar49D [] (ent cfz 155 qr9) = some ((.d (.v (.int .i64 (-1)))), [.eqA qr15 qr15]) := by kernel_rfl
theorem ar49 : PureCalls cfz.P cfz.glob 155 qr9 (.d (.v (.int .i64 (-1)))) := closed_ok knil (by kernel_rfl) ar49k ⟨rfl, trivial⟩
def ar50D : CT cfz := .run 8 [] <| .use ar49 <| .run 1 [(.ck 0)] <| .run 4 [] <|  .fin
theorem ar50k : crun cfz 152 ar50D [] (ent cfz 152 qr9) = some ((.d (.v (.bool false))), [.eqA qr9 qr9]) := by kernel_rfl
theorem ar50 : PureCalls cfz.P cfz.glob 152 qr9 (.d (.v (.bool false))) := closed_ok knil (by kernel_rfl) ar50k ⟨rfl, trivial⟩
def ar51D : CT cfz := .run 81 [] <|  .fin
theorem ar51k : crun cfz 107 ar51D [] (ent cfz 107 qr88) = some ((.d (.v (.int .i64 0))), []) := by kernel_rfl
theorem ar51 : PureCalls cfz.P cfz.glob 107 qr88 (.d (.v (.int .i64 0))) := closed_ok knil (by kernel_rfl) ar51k trivial
def ar52D : CT cfz := .run 8 [] <| .use ar46 <| .run 1 [(.ck 0)] <| .run 2 [] <| .use ar50 <| .run 1 [(.ck 1)] <| .use ar38 <| .run 1 [(.ck 2)] <| .run 1 [] <| .use ar51 <| .run 1 [(.ck 3)] <| .run 3 [] <|  .fin
theorem ar52k : crun cfz 101 ar52D [] (ent cfz 101 qr10) = some ((.d (.v (.int .i64 0))), [.eqA qr16 qr16, .eqA qr9 qr9, .eqA qr100 qr100, .eqA qr88 qr88]) := by kernel_rfl
theorem ar52 : PureCalls cfz.P cfz.glob 101 qr10 (.d (.v (.int .i64 0))) := closed_ok knil (by kernel_rfl) ar52k ⟨rfl, rfl, rfl, rfl, trivial⟩
def ar53D : CT cfz := .run 15 [] <| .use ar38 <| .run 1 [(.ck 0)] <| .run 3 [] <|  .fin
theorem ar53k : crun cfz 114 ar53D [] (ent cfz 114 qr11) = some ((.d (.v (.int .i64 0))), [.eqA qr100 qr100]) := by kernel_rfl
theorem ar53 : PureCalls cfz.P cfz.glob 114 qr11 (.d (.v (.int .i64 0))) := closed_ok knil (by kernel_rfl) ar53k ⟨rfl, trivial⟩
def ar54D : CT cfz := .run 14 [] <|  .fin
theorem ar54k : crun cfz 117 ar54D [] (ent cfz 117 qr0) = some ((.fn (.func 168) [] [(.ip qr18), (.ip [(.v (.int .i64 0))]), (.ip [(.v (.int .i64 1))]), (.ip [(.v (.int .i64 0))])]), []) := by kernel_rfl
theorem ar54 : PureCalls cfz.P cfz.glob 117 qr0 (.fn (.func 168) [] [(.ip qr18), (.ip [(.v (.int .i64 0))]), (.ip [(.v (.int .i64 1))]), (.ip [(.v (.int .i64 0))])]) := closed_ok knil (by kernel_rfl) ar54k trivial
def ar55D : CT cfz := .run 28 [] <|  .fin
theorem ar55k : crun cfz 154 ar55D [] (ent cfz 154 qr11) = some (qr123, []) := by kernel_rfl
theorem ar55 : PureCalls cfz.P cfz.glob 154 qr11 qr123 := closed_ok knil (by kernel_rfl) ar55k trivial
def ar56D : CT cfz := .run 56 [] <|  .fin
theorem ar56k : crun cfz 154 ar56D [] (ent cfz 154 qr12) = some (qr94, []) := by kernel_rfl
theorem ar56 : PureCalls cfz.P cfz.glob 154 qr12 qr94 := closed_ok knil (by kernel_rfl) ar56k trivial
def ar57D : CT cfz := .run 74 [] <|  .fin
theorem ar57k : crun cfz 158 ar57D [] (ent cfz 158 qr58) = some ((.d (.v (.int .i64 1))), []) := by kernel_rfl
theorem ar57 : PureCalls cfz.P cfz.glob 158 qr58 (.d (.v (.int .i64 1))) := closed_ok knil (by kernel_rfl) ar57k trivial
def ar58D : CT cfz := .run 8 [] <| .use ar57 <| .run 1 [(.ck 0)] <| .run 4 [] <|  .fin
theorem ar58k : crun cfz 157 ar58D [] (ent cfz 157 qr58) = some ((.d (.v (.bool true))), [.eqA qr58 qr58]) := by kernel_rfl
theorem ar58 : PureCalls cfz.P cfz.glob 157 qr58 (.d (.v (.bool true))) := closed_ok knil (by kernel_rfl) ar58k ⟨rfl, trivial⟩
def ar59D : CT cfz := .run 8 [] <| .use ar58 <| .run 1 [(.ck 0)] <| .run 3 [] <|  .fin
theorem ar59k : crun cfz 156 ar59D [] (ent cfz 156 qr52) = some ((.d (.v (.bool true))), [.eqA qr58 qr58]) := by kernel_rfl
theorem ar59 : PureCalls cfz.P cfz.glob 156 qr52 (.d (.v (.bool true))) := closed_ok knil (by kernel_rfl) ar59k ⟨rfl, trivial⟩
def ar60D : CT cfz := .run 34 [] <| .use ar59 <| .run 1 [(.ck 0)] <| .run 8 [] <|  .fin
theorem ar60k : crun cfz 155 ar60D [] (ent cfz 155 qr32) = some ((.d (.v (.int .i64 0))), [.eqA qr52 qr52]) := by kernel_rfl
theorem ar60 : PureCalls cfz.P cfz.glob 155 qr32 (.d (.v (.int .i64 0))) := closed_ok knil (by kernel_rfl) ar60k ⟨rfl, trivial⟩
def ar61D : CT cfz := .run 74 [] <|  .fin
theorem ar61k : crun cfz 158 ar61D [] (ent cfz 158 qr59) = some ((.d (.v (.int .i64 1))), []) := by kernel_rfl
theorem ar61 : PureCalls cfz.P cfz.glob 158 qr59 (.d (.v (.int .i64 1))) := closed_ok knil (by kernel_rfl) ar61k trivial
def ar62D : CT cfz := .run 7 [] <| .run 1 [.enter] <| .run 17 [] <| .run 1 [.enter] <| .run 7 [] <| .use ar55 <| .use ar56 <| .run 1 [.none, (.ck 0), .none, (.ck 1), .none] <| .run 4 [] <| .use ar60 <| .run 1 [(.ck 2)] <| .run 8 [] <| .run 1 [.enter] <| .run 16 [] <| .run 1 [.mg] <| .run 8 [] <| .use ar57 <| .run 1 [.none, .none, .none, (.ck 3), .enter] <| .run 16 [] <| .run 1 [.mg] <| .run 8 [] <| .run 1 [.enter] <| .run 26 [] <| .run 1 [.mg] <| .run 101 [] <| .use ar61 <| .run 1 [(.ck 4)] <| .run 71 [] <|  .fin
theorem ar62k : crun cfz 116 ar62D [] (ent cfz 116 [(.fn (.func 168) [] [(.ip qr18), (.ip [(.v (.int .i64 0))]), (.ip [(.v (.int .i64 1))]), (.ip [(.v (.int .i64 0))])])]) = some (qr30, [.eqA qr11 qr11, .eqA qr12 qr12, .eqA qr32 qr32, .eqA qr58 qr58, .eqA qr59 qr59]) := by kernel_rfl
theorem ar62 : PureCalls cfz.P cfz.glob 116 [(.fn (.func 168) [] [(.ip qr18), (.ip [(.v (.int .i64 0))]), (.ip [(.v (.int .i64 1))]), (.ip [(.v (.int .i64 0))])])] qr30 := closed_ok knil (by kernel_rfl) ar62k ⟨rfl, rfl, rfl, rfl, rfl, trivial⟩
def ar63D : CT cfz := .run 12 [] <|  .fin
theorem ar63k : crun cfz 165 ar63D [] (ent cfz 165 qr49) = some ((.d (.v (.bool false))), []) := by kernel_rfl
theorem ar63 : PureCalls cfz.P cfz.glob 165 qr49 (.d (.v (.bool false))) := closed_ok knil (by kernel_rfl) ar63k trivial
def ar64D : CT cfz := .run 12 [] <|  .fin
theorem ar64k : crun cfz 165 ar64D [] (ent cfz 165 qr50) = some ((.d (.v (.bool false))), []) := by kernel_rfl
theorem ar64 : PureCalls cfz.P cfz.glob 165 qr50 (.d (.v (.bool false))) := closed_ok knil (by kernel_rfl) ar64k trivial
def ar65D : CT cfz := .run 34 [] <| .use ar63 <| .run 1 [(.ck 0)] <| .run 30 [] <| .use ar64 <| .run 1 [(.ck 1)] <| .run 21 [] <|  .fin
theorem ar65k : crun cfz 187 ar65D [] (ent cfz 187 qr22) = some ((.d (.v (.int .i64 (-1)))), [.eqA qr49 qr49, .eqA qr50 qr50]) := by kernel_rfl
theorem ar65 : PureCalls cfz.P cfz.glob 187 qr22 (.d (.v (.int .i64 (-1)))) := closed_ok knil (by kernel_rfl) ar65k ⟨rfl, rfl, trivial⟩
def ar66D : CT cfz := .run 8 [] <| .use ar65 <| .run 1 [(.ck 0)] <| .run 4 [] <|  .fin
theorem ar66k : crun cfz 164 ar66D [] (ent cfz 164 qr22) = some ((.d (.v (.bool false))), [.eqA qr22 qr22]) := by kernel_rfl
theorem ar66 : PureCalls cfz.P cfz.glob 164 qr22 (.d (.v (.bool false))) := closed_ok knil (by kernel_rfl) ar66k ⟨rfl, trivial⟩
def ar67D : CT cfz := .run 16 [] <|  .fin
theorem ar67k : crun cfz 109 ar67D [] (ent cfz 109 qr102) = some ((.d (.v (.int .i64 0))), []) := by kernel_rfl
theorem ar67 : PureCalls cfz.P cfz.glob 109 qr102 (.d (.v (.int .i64 0))) := closed_ok knil (by kernel_rfl) ar67k trivial
def ar68D : CT cfz := .run 16 [] <|  .fin
theorem ar68k : crun cfz 109 ar68D [] (ent cfz 109 qr109) = some ((.d (.v (.int .i64 0))), []) := by kernel_rfl
theorem ar68 : PureCalls cfz.P cfz.glob 109 qr109 (.d (.v (.int .i64 0))) := closed_ok knil (by kernel_rfl) ar68k trivial
def ar69D : CT cfz := .run 38 [] <|  .fin
theorem ar69k : crun cfz 166 ar69D [] (ent cfz 166 qr25) = some (qr84, []) := by kernel_rfl
theorem ar69 : PureCalls cfz.P cfz.glob 166 qr25 qr84 := closed_ok knil (by kernel_rfl) ar69k trivial
def ar70D : CT cfz := .run 38 [] <|  .fin
theorem ar70k : crun cfz 166 ar70D [] (ent cfz 166 qr26) = some (qr77, []) := by kernel_rfl
theorem ar70 : PureCalls cfz.P cfz.glob 166 qr26 qr77 := closed_ok knil (by kernel_rfl) ar70k trivial
def ar71D : CT cfz := .run 12 [] <| .use ar54 <| .run 1 [(.ck 0)] <| .use ar62 <| .run 1 [(.ck 1)] <| .run 6 [] <| .use ar66 <| .run 1 [(.ck 2)] <| .use ar67 <| .run 1 [(.ck 3)] <| .run 3 [] <| .use ar68 <| .run 1 [(.ck 4)] <| .run 1 [] <| .use ar51 <| .run 1 [(.ck 5)] <| .run 48 [] <| .use ar69 <| .run 1 [(.ck 6)] <| .run 28 [] <| .use ar70 <| .run 1 [(.ck 7)] <| .run 22 [] <|  .fin
theorem ar71k : crun cfz 115 ar71D [] (ent cfz 115 qr0) = some (qr44, [.eqA qr0 qr0, .eqA [(.fn (.func 168) [] [(.ip qr18), (.ip [(.v (.int .i64 0))]), (.ip [(.v (.int .i64 1))]), (.ip [(.v (.int .i64 0))])])] [(.fn (.func 168) [] [(.ip qr18), (.ip [(.v (.int .i64 0))]), (.ip [(.v (.int .i64 1))]), (.ip [(.v (.int .i64 0))])])], .eqA qr22 qr22, .eqA qr102 qr102, .eqA qr109 qr109, .eqA qr88 qr88, .eqA qr25 qr25, .eqA qr26 qr26]) := by kernel_rfl
theorem ar71 : PureCalls cfz.P cfz.glob 115 qr0 qr44 := closed_ok knil (by kernel_rfl) ar71k ⟨rfl, rfl, rfl, rfl, rfl, rfl, rfl, rfl, trivial⟩
def ar72D : CT cfz := .run 21 [] <|  .fin
theorem ar72k : crun cfz 118 ar72D [] (ent cfz 118 qr74) = some ((.d (.v (.int .i64 10))), []) := by kernel_rfl
theorem ar72 : PureCalls cfz.P cfz.glob 118 qr74 (.d (.v (.int .i64 10))) := closed_ok knil (by kernel_rfl) ar72k trivial
def ar73D : CT cfz := .run 14 [] <|  .fin
theorem ar73k : crun cfz 117 ar73D [] (ent cfz 117 qr1) = some ((.fn (.func 168) [] [(.ip qr18), (.ip [(.v (.int .i64 0))]), (.ip [(.v (.int .i64 2))]), (.ip [(.v (.int .i64 0))])]), []) := by kernel_rfl
theorem ar73 : PureCalls cfz.P cfz.glob 117 qr1 (.fn (.func 168) [] [(.ip qr18), (.ip [(.v (.int .i64 0))]), (.ip [(.v (.int .i64 2))]), (.ip [(.v (.int .i64 0))])]) := closed_ok knil (by kernel_rfl) ar73k trivial
def ar74D : CT cfz := .run 84 [] <|  .fin
theorem ar74k : crun cfz 154 ar74D [] (ent cfz 154 qr13) = some (qr70, []) := by kernel_rfl
theorem ar74 : PureCalls cfz.P cfz.glob 154 qr13 qr70 := closed_ok knil (by kernel_rfl) ar74k trivial
def ar75D : CT cfz := .run 105 [] <|  .fin
theorem ar75k : crun cfz 158 ar75D [] (ent cfz 158 qr38) = some ((.d (.v (.int .i64 2))), []) := by kernel_rfl
theorem ar75 : PureCalls cfz.P cfz.glob 158 qr38 (.d (.v (.int .i64 2))) := closed_ok knil (by kernel_rfl) ar75k trivial
def ar76D : CT cfz := .run 8 [] <| .use ar75 <| .run 1 [(.ck 0)] <| .run 4 [] <|  .fin
theorem ar76k : crun cfz 157 ar76D [] (ent cfz 157 qr38) = some ((.d (.v (.bool true))), [.eqA qr38 qr38]) := by kernel_rfl
theorem ar76 : PureCalls cfz.P cfz.glob 157 qr38 (.d (.v (.bool true))) := closed_ok knil (by kernel_rfl) ar76k ⟨rfl, trivial⟩
def ar77D : CT cfz := .run 8 [] <| .use ar76 <| .run 1 [(.ck 0)] <| .run 3 [] <|  .fin
theorem ar77k : crun cfz 156 ar77D [] (ent cfz 156 qr36) = some ((.d (.v (.bool true))), [.eqA qr38 qr38]) := by kernel_rfl
theorem ar77 : PureCalls cfz.P cfz.glob 156 qr36 (.d (.v (.bool true))) := closed_ok knil (by kernel_rfl) ar77k ⟨rfl, trivial⟩
def ar78D : CT cfz := .run 34 [] <| .use ar77 <| .run 1 [(.ck 0)] <| .run 8 [] <|  .fin
theorem ar78k : crun cfz 155 ar78D [] (ent cfz 155 qr29) = some ((.d (.v (.int .i64 0))), [.eqA qr36 qr36]) := by kernel_rfl
theorem ar78 : PureCalls cfz.P cfz.glob 155 qr29 (.d (.v (.int .i64 0))) := closed_ok knil (by kernel_rfl) ar78k ⟨rfl, trivial⟩
def ar79D : CT cfz := .run 74 [] <|  .fin
theorem ar79k : crun cfz 158 ar79D [] (ent cfz 158 qr39) = some ((.d (.v (.int .i64 1))), []) := by kernel_rfl
theorem ar79 : PureCalls cfz.P cfz.glob 158 qr39 (.d (.v (.int .i64 1))) := closed_ok knil (by kernel_rfl) ar79k trivial
def ar80D : CT cfz := .run 7 [] <| .run 1 [.enter] <| .run 17 [] <| .run 1 [.enter] <| .run 7 [] <| .use ar55 <| .use ar74 <| .run 1 [.none, (.ck 0), .none, (.ck 1), .none] <| .run 4 [] <| .use ar78 <| .run 1 [(.ck 2)] <| .run 8 [] <| .run 1 [.enter] <| .run 16 [] <| .run 1 [.mg] <| .run 8 [] <| .use ar75 <| .run 1 [.none, .none, .none, (.ck 3), .enter] <| .run 16 [] <| .run 1 [.mg] <| .run 8 [] <| .run 1 [.enter] <| .run 49 [] <| .run 1 [.mg] <| .run 142 [] <| .use ar79 <| .run 1 [(.ck 4)] <| .run 71 [] <|  .fin
theorem ar80k : crun cfz 116 ar80D [] (ent cfz 116 [(.fn (.func 168) [] [(.ip qr18), (.ip [(.v (.int .i64 0))]), (.ip [(.v (.int .i64 2))]), (.ip [(.v (.int .i64 0))])])]) = some (qr21, [.eqA qr11 qr11, .eqA qr13 qr13, .eqA qr29 qr29, .eqA qr38 qr38, .eqA qr39 qr39]) := by kernel_rfl
theorem ar80 : PureCalls cfz.P cfz.glob 116 [(.fn (.func 168) [] [(.ip qr18), (.ip [(.v (.int .i64 0))]), (.ip [(.v (.int .i64 2))]), (.ip [(.v (.int .i64 0))])])] qr21 := closed_ok knil (by kernel_rfl) ar80k ⟨rfl, rfl, rfl, rfl, rfl, trivial⟩
def ar81D : CT cfz := .run 12 [] <|  .fin
theorem ar81k : crun cfz 165 ar81D [] (ent cfz 165 qr51) = some ((.d (.v (.bool false))), []) := by kernel_rfl
theorem ar81 : PureCalls cfz.P cfz.glob 165 qr51 (.d (.v (.bool false))) := closed_ok knil (by kernel_rfl) ar81k trivial
def ar82D : CT cfz := .run 34 [] <| .use ar63 <| .run 1 [(.ck 0)] <| .run 30 [] <| .use ar81 <| .run 1 [(.ck 1)] <| .run 30 [] <| .use ar64 <| .run 1 [(.ck 2)] <| .run 21 [] <|  .fin
theorem ar82k : crun cfz 187 ar82D [] (ent cfz 187 qr20) = some ((.d (.v (.int .i64 (-1)))), [.eqA qr49 qr49, .eqA qr51 qr51, .eqA qr50 qr50]) := by kernel_rfl
theorem ar82 : PureCalls cfz.P cfz.glob 187 qr20 (.d (.v (.int .i64 (-1)))) := closed_ok knil (by kernel_rfl) ar82k ⟨rfl, rfl, rfl, trivial⟩
def ar83D : CT cfz := .run 8 [] <| .use ar82 <| .run 1 [(.ck 0)] <| .run 4 [] <|  .fin
theorem ar83k : crun cfz 164 ar83D [] (ent cfz 164 qr20) = some ((.d (.v (.bool false))), [.eqA qr20 qr20]) := by kernel_rfl
theorem ar83 : PureCalls cfz.P cfz.glob 164 qr20 (.d (.v (.bool false))) := closed_ok knil (by kernel_rfl) ar83k ⟨rfl, trivial⟩
def ar84D : CT cfz := .run 38 [] <|  .fin
theorem ar84k : crun cfz 166 ar84D [] (ent cfz 166 qr27) = some (qr86, []) := by kernel_rfl
theorem ar84 : PureCalls cfz.P cfz.glob 166 qr27 qr86 := closed_ok knil (by kernel_rfl) ar84k trivial
def ar85D : CT cfz := .run 38 [] <|  .fin
theorem ar85k : crun cfz 166 ar85D [] (ent cfz 166 qr28) = some (qr78, []) := by kernel_rfl
theorem ar85 : PureCalls cfz.P cfz.glob 166 qr28 qr78 := closed_ok knil (by kernel_rfl) ar85k trivial
def ar86D : CT cfz := .run 12 [] <| .use ar73 <| .run 1 [(.ck 0)] <| .use ar80 <| .run 1 [(.ck 1)] <| .run 6 [] <| .use ar83 <| .run 1 [(.ck 2)] <| .use ar67 <| .run 1 [(.ck 3)] <| .run 3 [] <| .use ar68 <| .run 1 [(.ck 4)] <| .run 1 [] <| .use ar51 <| .run 1 [(.ck 5)] <| .run 48 [] <| .use ar69 <| .run 1 [(.ck 6)] <| .run 28 [] <| .use ar84 <| .run 1 [(.ck 7)] <| .run 28 [] <| .use ar85 <| .run 1 [(.ck 8)] <| .run 22 [] <|  .fin
theorem ar86k : crun cfz 115 ar86D [] (ent cfz 115 qr1) = some (qr45, [.eqA qr1 qr1, .eqA [(.fn (.func 168) [] [(.ip qr18), (.ip [(.v (.int .i64 0))]), (.ip [(.v (.int .i64 2))]), (.ip [(.v (.int .i64 0))])])] [(.fn (.func 168) [] [(.ip qr18), (.ip [(.v (.int .i64 0))]), (.ip [(.v (.int .i64 2))]), (.ip [(.v (.int .i64 0))])])], .eqA qr20 qr20, .eqA qr102 qr102, .eqA qr109 qr109, .eqA qr88 qr88, .eqA qr25 qr25, .eqA qr27 qr27, .eqA qr28 qr28]) := by kernel_rfl
theorem ar86 : PureCalls cfz.P cfz.glob 115 qr1 qr45 := closed_ok knil (by kernel_rfl) ar86k ⟨rfl, rfl, rfl, rfl, rfl, rfl, rfl, rfl, rfl, trivial⟩
def ar87D : CT cfz := .run 21 [] <|  .fin
theorem ar87k : crun cfz 118 ar87D [] (ent cfz 118 qr75) = some ((.d (.v (.int .i64 40))), []) := by kernel_rfl
theorem ar87 : PureCalls cfz.P cfz.glob 118 qr75 (.d (.v (.int .i64 40))) := closed_ok knil (by kernel_rfl) ar87k trivial
def ar88D : CT cfz := .run 14 [] <|  .fin
theorem ar88k : crun cfz 117 ar88D [] (ent cfz 117 qr2) = some ((.fn (.func 168) [] [(.ip qr18), (.ip [(.v (.int .i64 0))]), (.ip [(.v (.int .i64 3))]), (.ip [(.v (.int .i64 0))])]), []) := by kernel_rfl
theorem ar88 : PureCalls cfz.P cfz.glob 117 qr2 (.fn (.func 168) [] [(.ip qr18), (.ip [(.v (.int .i64 0))]), (.ip [(.v (.int .i64 3))]), (.ip [(.v (.int .i64 0))])]) := closed_ok knil (by kernel_rfl) ar88k trivial
def ar89D : CT cfz := .run 56 [] <|  .fin
theorem ar89k : crun cfz 154 ar89D [] (ent cfz 154 qr14) = some (qr95, []) := by kernel_rfl
theorem ar89 : PureCalls cfz.P cfz.glob 154 qr14 qr95 := closed_ok knil (by kernel_rfl) ar89k trivial
def ar90D : CT cfz := .run 74 [] <|  .fin
theorem ar90k : crun cfz 158 ar90D [] (ent cfz 158 qr60) = some ((.d (.v (.int .i64 1))), []) := by kernel_rfl
theorem ar90 : PureCalls cfz.P cfz.glob 158 qr60 (.d (.v (.int .i64 1))) := closed_ok knil (by kernel_rfl) ar90k trivial
def ar91D : CT cfz := .run 8 [] <| .use ar90 <| .run 1 [(.ck 0)] <| .run 4 [] <|  .fin
theorem ar91k : crun cfz 157 ar91D [] (ent cfz 157 qr60) = some ((.d (.v (.bool true))), [.eqA qr60 qr60]) := by kernel_rfl
theorem ar91 : PureCalls cfz.P cfz.glob 157 qr60 (.d (.v (.bool true))) := closed_ok knil (by kernel_rfl) ar91k ⟨rfl, trivial⟩
def ar92D : CT cfz := .run 8 [] <| .use ar91 <| .run 1 [(.ck 0)] <| .run 3 [] <|  .fin
theorem ar92k : crun cfz 156 ar92D [] (ent cfz 156 qr53) = some ((.d (.v (.bool true))), [.eqA qr60 qr60]) := by kernel_rfl
theorem ar92 : PureCalls cfz.P cfz.glob 156 qr53 (.d (.v (.bool true))) := closed_ok knil (by kernel_rfl) ar92k ⟨rfl, trivial⟩
def ar93D : CT cfz := .run 34 [] <| .use ar92 <| .run 1 [(.ck 0)] <| .run 8 [] <|  .fin
theorem ar93k : crun cfz 155 ar93D [] (ent cfz 155 qr33) = some ((.d (.v (.int .i64 0))), [.eqA qr53 qr53]) := by kernel_rfl
theorem ar93 : PureCalls cfz.P cfz.glob 155 qr33 (.d (.v (.int .i64 0))) := closed_ok knil (by kernel_rfl) ar93k ⟨rfl, trivial⟩
def ar94D : CT cfz := .run 87 [] <|  .fin
theorem ar94k : crun cfz 158 ar94D [] (ent cfz 158 qr61) = some ((.d (.v (.int .i64 (-1)))), []) := by kernel_rfl
theorem ar94 : PureCalls cfz.P cfz.glob 158 qr61 (.d (.v (.int .i64 (-1)))) := closed_ok knil (by kernel_rfl) ar94k trivial
def ar95D : CT cfz := .run 7 [] <| .run 1 [.enter] <| .run 17 [] <| .run 1 [.enter] <| .run 7 [] <| .use ar55 <| .use ar89 <| .run 1 [.none, (.ck 0), .none, (.ck 1), .none] <| .run 4 [] <| .use ar93 <| .run 1 [(.ck 2)] <| .run 8 [] <| .run 1 [.enter] <| .run 16 [] <| .run 1 [.mg] <| .run 8 [] <| .use ar90 <| .run 1 [.none, .none, .none, (.ck 3), .enter] <| .run 16 [] <| .run 1 [.mg] <| .run 8 [] <| .run 1 [.enter] <| .run 26 [] <| .run 1 [.mg] <| .run 101 [] <| .use ar94 <| .run 1 [(.ck 4)] <| .run 55 [] <|  .fin
theorem ar95k : crun cfz 116 ar95D [] (ent cfz 116 [(.fn (.func 168) [] [(.ip qr18), (.ip [(.v (.int .i64 0))]), (.ip [(.v (.int .i64 3))]), (.ip [(.v (.int .i64 0))])])]) = some (qr65, [.eqA qr11 qr11, .eqA qr14 qr14, .eqA qr33 qr33, .eqA qr60 qr60, .eqA qr61 qr61]) := by kernel_rfl
theorem ar95 : PureCalls cfz.P cfz.glob 116 [(.fn (.func 168) [] [(.ip qr18), (.ip [(.v (.int .i64 0))]), (.ip [(.v (.int .i64 3))]), (.ip [(.v (.int .i64 0))])])] qr65 := closed_ok knil (by kernel_rfl) ar95k ⟨rfl, rfl, rfl, rfl, rfl, trivial⟩
def ar96D : CT cfz := .run 12 [] <|  .fin
theorem ar96k : crun cfz 165 ar96D [] (ent cfz 165 qr47) = some ((.d (.v (.bool false))), []) := by kernel_rfl
theorem ar96 : PureCalls cfz.P cfz.glob 165 qr47 (.d (.v (.bool false))) := closed_ok knil (by kernel_rfl) ar96k trivial
def ar97D : CT cfz := .run 34 [] <| .use ar96 <| .run 1 [(.ck 0)] <| .run 21 [] <|  .fin
theorem ar97k : crun cfz 187 ar97D [] (ent cfz 187 qr31) = some ((.d (.v (.int .i64 (-1)))), [.eqA qr47 qr47]) := by kernel_rfl
theorem ar97 : PureCalls cfz.P cfz.glob 187 qr31 (.d (.v (.int .i64 (-1)))) := closed_ok knil (by kernel_rfl) ar97k ⟨rfl, trivial⟩
def ar98D : CT cfz := .run 8 [] <| .use ar97 <| .run 1 [(.ck 0)] <| .run 4 [] <|  .fin
theorem ar98k : crun cfz 164 ar98D [] (ent cfz 164 qr31) = some ((.d (.v (.bool false))), [.eqA qr31 qr31]) := by kernel_rfl
theorem ar98 : PureCalls cfz.P cfz.glob 164 qr31 (.d (.v (.bool false))) := closed_ok knil (by kernel_rfl) ar98k ⟨rfl, trivial⟩
def ar99D : CT cfz := .run 38 [] <|  .fin
theorem ar99k : crun cfz 166 ar99D [] (ent cfz 166 qr24) = some (qr76, []) := by kernel_rfl
theorem ar99 : PureCalls cfz.P cfz.glob 166 qr24 qr76 := closed_ok knil (by kernel_rfl) ar99k trivial
def ar100D : CT cfz := .run 12 [] <| .use ar88 <| .run 1 [(.ck 0)] <| .use ar95 <| .run 1 [(.ck 1)] <| .run 6 [] <| .use ar98 <| .run 1 [(.ck 2)] <| .use ar67 <| .run 1 [(.ck 3)] <| .run 3 [] <| .use ar68 <| .run 1 [(.ck 4)] <| .run 1 [] <| .use ar51 <| .run 1 [(.ck 5)] <| .run 48 [] <| .use ar99 <| .run 1 [(.ck 6)] <| .run 22 [] <|  .fin
theorem ar100k : crun cfz 115 ar100D [] (ent cfz 115 qr2) = some (qr46, [.eqA qr2 qr2, .eqA [(.fn (.func 168) [] [(.ip qr18), (.ip [(.v (.int .i64 0))]), (.ip [(.v (.int .i64 3))]), (.ip [(.v (.int .i64 0))])])] [(.fn (.func 168) [] [(.ip qr18), (.ip [(.v (.int .i64 0))]), (.ip [(.v (.int .i64 3))]), (.ip [(.v (.int .i64 0))])])], .eqA qr31 qr31, .eqA qr102 qr102, .eqA qr109 qr109, .eqA qr88 qr88, .eqA qr24 qr24]) := by kernel_rfl
theorem ar100 : PureCalls cfz.P cfz.glob 115 qr2 qr46 := closed_ok knil (by kernel_rfl) ar100k ⟨rfl, rfl, rfl, rfl, rfl, rfl, rfl, trivial⟩
def ar101D : CT cfz := .run 21 [] <|  .fin
theorem ar101k : crun cfz 118 ar101D [] (ent cfz 118 qr73) = some ((.d (.v (.int .i64 2))), []) := by kernel_rfl
theorem ar101 : PureCalls cfz.P cfz.glob 118 qr73 (.d (.v (.int .i64 2))) := closed_ok knil (by kernel_rfl) ar101k trivial
def ar102D : CT cfz := .run 39 [] <|  .fin
theorem ar102k : crun cfz 197 ar102D [] (ent cfz 197 qr126) = some ((.d (.v (.int .i64 2))), []) := by kernel_rfl
theorem ar102 : PureCalls cfz.P cfz.glob 197 qr126 (.d (.v (.int .i64 2))) := closed_ok knil (by kernel_rfl) ar102k trivial
def ar103D : CT cfz := .run 10 [] <| .use ar102 <| .run 1 [(.ck 0)] <| .run 3 [] <|  .fin
theorem ar103k : crun cfz 174 ar103D [] (ent cfz 174 qr126) = some ((.d (.v (.int .i64 2))), [.eqA qr126 qr126]) := by kernel_rfl
theorem ar103 : PureCalls cfz.P cfz.glob 174 qr126 (.d (.v (.int .i64 2))) := closed_ok knil (by kernel_rfl) ar103k ⟨rfl, trivial⟩
def ar104D : CT cfz := .run 12 [] <|  .fin
theorem ar104k : crun cfz 175 ar104D [] (ent cfz 175 qr124) = some ((.d (.v (.bool false))), []) := by kernel_rfl
theorem ar104 : PureCalls cfz.P cfz.glob 175 qr124 (.d (.v (.bool false))) := closed_ok knil (by kernel_rfl) ar104k trivial
def ar105D : CT cfz := .run 12 [] <|  .fin
theorem ar105k : crun cfz 175 ar105D [] (ent cfz 175 qr125) = some ((.d (.v (.bool false))), []) := by kernel_rfl
theorem ar105 : PureCalls cfz.P cfz.glob 175 qr125 (.d (.v (.bool false))) := closed_ok knil (by kernel_rfl) ar105k trivial
def ar106D : CT cfz := .run 7 [] <| .use ar104 <| .run 1 [(.ck 0)] <| .run 5 [] <| .use ar105 <| .run 1 [(.ck 1)] <| .run 29 [] <|  .fin
theorem ar106k : crun cfz 137 ar106D [] (ent cfz 137 qr96) = some ((.d (.v (.int .i64 (-1)))), [.eqA qr124 qr124, .eqA qr125 qr125]) := by kernel_rfl
theorem ar106 : PureCalls cfz.P cfz.glob 137 qr96 (.d (.v (.int .i64 (-1)))) := closed_ok knil (by kernel_rfl) ar106k ⟨rfl, rfl, trivial⟩
def ar107D : CT cfz := .run 12 [] <|  .fin
theorem ar107k : crun cfz 175 ar107D [] (ent cfz 175 qr127) = some ((.d (.v (.bool false))), []) := by kernel_rfl
theorem ar107 : PureCalls cfz.P cfz.glob 175 qr127 (.d (.v (.bool false))) := closed_ok knil (by kernel_rfl) ar107k trivial
def ar108D : CT cfz := .run 12 [] <|  .fin
theorem ar108k : crun cfz 175 ar108D [] (ent cfz 175 qr128) = some ((.d (.v (.bool false))), []) := by kernel_rfl
theorem ar108 : PureCalls cfz.P cfz.glob 175 qr128 (.d (.v (.bool false))) := closed_ok knil (by kernel_rfl) ar108k trivial
def ar109D : CT cfz := .run 7 [] <| .use ar107 <| .run 1 [(.ck 0)] <| .run 5 [] <| .use ar108 <| .run 1 [(.ck 1)] <| .run 38 [] <|  .fin
theorem ar109k : crun cfz 137 ar109D [] (ent cfz 137 qr110) = some ((.d (.v (.int .i64 1))), [.eqA qr127 qr127, .eqA qr128 qr128]) := by kernel_rfl
theorem ar109 : PureCalls cfz.P cfz.glob 137 qr110 (.d (.v (.int .i64 1))) := closed_ok knil (by kernel_rfl) ar109k ⟨rfl, rfl, trivial⟩
def ar110D : CT cfz := .run 45 [] <|  .fin
theorem ar110k : crun cfz 136 ar110D [] (ent cfz 136 qr83) = some ((.d (.v (.int .i64 (-1)))), []) := by kernel_rfl
theorem ar110 : PureCalls cfz.P cfz.glob 136 qr83 (.d (.v (.int .i64 (-1)))) := closed_ok knil (by kernel_rfl) ar110k trivial
def ar111D : CT cfz := .run 7 [] <| .use ar104 <| .run 1 [(.ck 0)] <| .run 5 [] <| .use ar107 <| .run 1 [(.ck 1)] <| .run 38 [] <|  .fin
theorem ar111k : crun cfz 137 ar111D [] (ent cfz 137 qr103) = some ((.d (.v (.int .i64 1))), [.eqA qr124 qr124, .eqA qr127 qr127]) := by kernel_rfl
theorem ar111 : PureCalls cfz.P cfz.glob 137 qr103 (.d (.v (.int .i64 1))) := closed_ok knil (by kernel_rfl) ar111k ⟨rfl, rfl, trivial⟩
def ar112D : CT cfz := .run 12 [] <|  .fin
theorem ar112k : crun cfz 175 ar112D [] (ent cfz 175 qr129) = some ((.d (.v (.bool false))), []) := by kernel_rfl
theorem ar112 : PureCalls cfz.P cfz.glob 175 qr129 (.d (.v (.bool false))) := closed_ok knil (by kernel_rfl) ar112k trivial
def ar113D : CT cfz := .run 7 [] <| .use ar112 <| .run 1 [(.ck 0)] <| .run 5 [] <| .use ar108 <| .run 1 [(.ck 1)] <| .run 38 [] <|  .fin
theorem ar113k : crun cfz 137 ar113D [] (ent cfz 137 qr111) = some ((.d (.v (.int .i64 1))), [.eqA qr129 qr129, .eqA qr128 qr128]) := by kernel_rfl
theorem ar113 : PureCalls cfz.P cfz.glob 137 qr111 (.d (.v (.int .i64 1))) := closed_ok knil (by kernel_rfl) ar113k ⟨rfl, rfl, trivial⟩
def ar114D : CT cfz := .run 45 [] <|  .fin
theorem ar114k : crun cfz 136 ar114D [] (ent cfz 136 qr89) = some ((.d (.v (.int .i64 1))), []) := by kernel_rfl
theorem ar114 : PureCalls cfz.P cfz.glob 136 qr89 (.d (.v (.int .i64 1))) := closed_ok knil (by kernel_rfl) ar114k trivial
def ar115D : CT cfz := .run 9 [] <| .use ar52 <| .use ar53 <| .use ar51 <| .run 1 [.none, (.ck 0), .none, (.ck 1), (.ck 2)] <| .run 84 [] <| .use ar71 <| .run 1 [(.ck 3)] <| .run 17 [] <| .use ar72 <| .run 1 [.none, .none, (.ck 4)] <| .run 4 [] <| .run 1 [.mg] <| .run 37 [] <| .use ar86 <| .run 1 [(.ck 5)] <| .run 17 [] <| .use ar87 <| .run 1 [.none, .none, (.ck 6)] <| .run 4 [] <| .run 1 [.mg] <| .run 37 [] <| .use ar100 <| .run 1 [(.ck 7)] <| .run 17 [] <| .use ar101 <| .run 1 [.none, .none, (.ck 8)] <| .run 4 [] <| .run 1 [.mg] <| .run 19 [] <| .run 1 [.enter] <| .run 11 [] <| .use ar103 <| .run 1 [(.ck 9)] <| .run 1 [] <| .run 1 [.enter] <| .run 31 [] <| .run 1 [.enter] <| .run 42 [] <| .use ar106 <| .run 1 [(.ck 10)] <| .run 2 [] <| .use ar109 <| .run 1 [(.ck 11)] <| .run 1 [] <| .use ar110 <| .run 1 [(.ck 12)] <| .run 65 [] <| .use ar111 <| .run 1 [(.ck 13)] <| .run 2 [] <| .use ar113 <| .run 1 [(.ck 14)] <| .run 1 [] <| .use ar114 <| .run 1 [(.ck 15)] <| .run 39 [] <|  .fin
theorem ar115k : crun cfz 70 ar115D [] (ent cfz 70 qr8) = some (qr35, [.eqA qr10 qr10, .eqA qr11 qr11, .eqA qr88 qr88, .eqA qr0 qr0, .eqA qr74 qr74, .eqA qr1 qr1, .eqA qr75 qr75, .eqA qr2 qr2, .eqA qr73 qr73, .eqA qr126 qr126, .eqA qr96 qr96, .eqA qr110 qr110, .eqA qr83 qr83, .eqA qr103 qr103, .eqA qr111 qr111, .eqA qr89 qr89]) := by kernel_rfl
theorem ar115 : PureCalls cfz.P cfz.glob 70 qr8 qr35 := closed_ok knil (by kernel_rfl) ar115k ⟨rfl, rfl, rfl, rfl, rfl, rfl, rfl, rfl, rfl, rfl, rfl, rfl, rfl, rfl, rfl, rfl, trivial⟩
theorem arTop : PureCalls cfz.P cfz.glob 70 qr8 qr35 := ar115
end
end Go.Kv
