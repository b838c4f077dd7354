/- awake(), a closed call: true. -/
import Derived.Test.YtdelimpnnpifpaaGreatDoorKvWs
import Derived.Test.YtdelimpnnpifpaaGreatDoorKdB
import Derived.Test.YtdelimpnnpifpaaGreatDoorKdC
import Derived.Test.YtdelimpnnpifpaaGreatDoorKaC
namespace Go.Kv
set_option linter.all false
open Go Go.RowKit Go.Proofs
set_option maxRecDepth 100000
noncomputable def aw0D : CT cfz := .run 10 [] <|  .fin
theorem aw0k : crun cfz 79 aw0D [] (ent cfz 79 []) = some (qd274, []) := by kernel_rfl
theorem aw0 : PureCalls cfz.P cfz.glob 79 [] qd274 := closed_ok knil (by kernel_rfl) aw0k trivial

noncomputable def aw8D : CT cfz := .run 14 [] <| .use dd0 <| .run 1 [(.ck 0)] <| .run 3 [] <|  .fin
theorem aw8k : crun cfz 91 aw8D [] (ent cfz 91 qd225) = some ((.d (.v (.int .i64 0))), [.eqA qd331 qd331]) := by kernel_rfl
theorem aw8 : PureCalls cfz.P cfz.glob 91 qd225 (.d (.v (.int .i64 0))) := closed_ok knil (by kernel_rfl) aw8k ⟨rfl, trivial⟩

noncomputable def aw9D : CT cfz := .run 7 [] <| .use aw8 <| .run 1 [(.ck 0)] <| .run 3 [] <|  .fin
theorem aw9k : crun cfz 127 aw9D [] (ent cfz 127 qd437) = some ((.d (.v (.int .i64 0))), [.eqA qd225 qd225]) := by kernel_rfl
theorem aw9 : PureCalls cfz.P cfz.glob 127 qd437 (.d (.v (.int .i64 0))) := closed_ok knil (by kernel_rfl) aw9k ⟨rfl, trivial⟩

noncomputable def aw12D : CT cfz := .run 36 [] <| .use aw9 <| .run 1 [(.ck 0)] <| .run 1 [] <| .run 1 [.mg] <| .run 27 [] <| .run 1 [(.ck 0)] <| .run 1 [] <| .run 1 [.mg] <| .run 27 [] <| .use dd12 <| .run 1 [(.ck 1)] <| .run 1 [] <| .run 1 [.mg] <| .run 27 [] <| .run 1 [(.ck 0)] <| .run 1 [] <| .run 1 [.mg] <| .run 21 [] <|  .fin
theorem aw12k : crun cfz 126 aw12D [] (ent cfz 126 qd103) = some (qd183, [.eqA qd437 qd437, .eqA qd437 qd437, .eqA qd435 qd435, .eqA qd437 qd437]) := by kernel_rfl
theorem aw12 : PureCalls cfz.P cfz.glob 126 qd103 qd183 := closed_ok knil (by kernel_rfl) aw12k ⟨rfl, rfl, rfl, rfl, trivial⟩

noncomputable def aw14D : CT cfz := .run 7 [] <| .use aw12 <| .run 1 [(.ck 0)] <| .use dd16 <| .run 1 [(.ck 1)] <| .run 3 [] <|  .fin
theorem aw14k : crun cfz 84 aw14D [] (ent cfz 84 qd176) = some ((.d (.v (.int .i64 0))), [.eqA qd103 qd103, .eqA qd172 qd172]) := by kernel_rfl
theorem aw14 : PureCalls cfz.P cfz.glob 84 qd176 (.d (.v (.int .i64 0))) := closed_ok knil (by kernel_rfl) aw14k ⟨rfl, rfl, trivial⟩

noncomputable def aw15D : CT cfz := .run 7 [] <| .use dd5 <| .use dd6 <| .use aw14 <| .use dd4 <| .run 1 [.none, (.ck 0), .none, (.ck 1), (.ck 2), (.ck 3)] <| .run 1 [] <|  .fin
theorem aw15k : crun cfz 29 aw15D [] (ent cfz 29 qd89) = some ((.d (.v (.int .i64 0))), [.eqA qd273 qd273, .eqA qd332 qd332, .eqA qd176 qd176, .eqA qd233 qd233]) := by kernel_rfl
theorem aw15 : PureCalls cfz.P cfz.glob 29 qd89 (.d (.v (.int .i64 0))) := closed_ok knil (by kernel_rfl) aw15k ⟨rfl, rfl, rfl, rfl, trivial⟩

noncomputable def aw25D : CT cfz := .run 61 [] <| .use dd22 <| .use dd45 <| .run 1 [.none, (.ck 0), (.ck 1), .none] <| .run 24 [] <| .use dd24 <| .run 1 [.none, (.ck 2), (.ck 1), .none] <| .run 24 [] <| .use dd26 <| .use de129 <| .run 1 [.none, (.ck 3), (.ck 4), .none] <| .run 24 [] <| .use dd28 <| .run 1 [.none, (.ck 5), (.ck 4), .none] <| .run 59 [] <| .run 1 [.none, (.ck 0), (.ck 1), .none] <| .run 24 [] <| .run 1 [.none, (.ck 3), (.ck 1), .none] <| .run 24 [] <| .use dd31 <| .use de104 <| .run 1 [.none, (.ck 6), (.ck 7), .none] <| .run 24 [] <| .use dd32 <| .run 1 [.none, (.ck 8), (.ck 7), .none] <| .run 32 [] <|  .fin
theorem aw25k : crunS cfz 8 80 aw25D [] (ent cfz 80 qd89) = some (qd301, [.eqA qd437 qd437, .eqA qd437 qd437, .eqA qd435 qd435, .eqA qd437 qd437, .eqA qd438 qd438, .eqA qd443 qd443, .eqA qd439 qd439, .eqA qd443 qd443, .eqA qd437 qd437, .eqA qd437 qd437, .eqA qd438 qd438, .eqA qd437 qd437, .eqA qd440 qd440, .eqA qd415 qd415, .eqA qd441 qd441, .eqA qd415 qd415]) := by kernel_rfl
theorem aw25 : PureCalls cfz.P cfz.glob 80 qd89 qd301 := closed_ok knil (by kernel_rfl) ((crunS_eq cfz 8 80 aw25D [] (ent cfz 80 qd89)).symm.trans aw25k) ⟨rfl, rfl, rfl, rfl, rfl, rfl, rfl, rfl, rfl, rfl, rfl, rfl, rfl, rfl, rfl, rfl, trivial⟩

noncomputable def aw26D : CT cfz := .run 11 [] <| .use aw15 <| .run 1 [(.ck 0)] <| .run 13 [] <| .use aw25 <| .run 1 [(.ck 1)] <| .run 4 [] <|  .fin
theorem aw26k : crun cfz 16 aw26D [] (ent cfz 16 qd89) = some (qd194, [.eqA qd89 qd89, .eqA qd89 qd89]) := by kernel_rfl
theorem aw26 : PureCalls cfz.P cfz.glob 16 qd89 qd194 := closed_ok knil (by kernel_rfl) aw26k ⟨rfl, rfl, trivial⟩

noncomputable def aw29D : CT cfz := .run 36 [] <| .use dd10 <| .run 1 [(.ck 0)] <| .run 1 [] <| .run 1 [.mg] <| .run 27 [] <| .run 1 [(.ck 0)] <| .run 1 [] <| .run 1 [.mg] <| .run 27 [] <| .use dd12 <| .run 1 [(.ck 1)] <| .run 1 [] <| .run 1 [.mg] <| .run 27 [] <| .use aw9 <| .run 1 [(.ck 2)] <| .run 1 [] <| .run 1 [.mg] <| .run 21 [] <|  .fin
theorem aw29k : crun cfz 126 aw29D [] (ent cfz 126 qd104) = some (qd183, [.eqA qd434 qd434, .eqA qd434 qd434, .eqA qd435 qd435, .eqA qd437 qd437]) := by kernel_rfl
theorem aw29 : PureCalls cfz.P cfz.glob 126 qd104 qd183 := closed_ok knil (by kernel_rfl) aw29k ⟨rfl, rfl, rfl, rfl, trivial⟩

noncomputable def aw30D : CT cfz := .run 7 [] <| .use aw29 <| .run 1 [(.ck 0)] <| .use dd16 <| .run 1 [(.ck 1)] <| .run 3 [] <|  .fin
theorem aw30k : crun cfz 84 aw30D [] (ent cfz 84 qd177) = some ((.d (.v (.int .i64 0))), [.eqA qd104 qd104, .eqA qd172 qd172]) := by kernel_rfl
theorem aw30 : PureCalls cfz.P cfz.glob 84 qd177 (.d (.v (.int .i64 0))) := closed_ok knil (by kernel_rfl) aw30k ⟨rfl, rfl, trivial⟩

noncomputable def aw31D : CT cfz := .run 7 [] <| .use dd5 <| .use dd6 <| .use aw30 <| .use dd4 <| .run 1 [.none, (.ck 0), .none, (.ck 1), (.ck 2), (.ck 3)] <| .run 1 [] <|  .fin
theorem aw31k : crun cfz 29 aw31D [] (ent cfz 29 qd90) = some ((.d (.v (.int .i64 0))), [.eqA qd273 qd273, .eqA qd332 qd332, .eqA qd177 qd177, .eqA qd233 qd233]) := by kernel_rfl
theorem aw31 : PureCalls cfz.P cfz.glob 29 qd90 (.d (.v (.int .i64 0))) := closed_ok knil (by kernel_rfl) aw31k ⟨rfl, rfl, rfl, rfl, trivial⟩

noncomputable def aw34D : CT cfz := .run 13 [] <|  .fin
theorem aw34k : crun cfz 122 aw34D [] (ent cfz 122 qd429) = some ((.d (.v (.int .i64 12))), []) := by kernel_rfl
theorem aw34 : PureCalls cfz.P cfz.glob 122 qd429 (.d (.v (.int .i64 12))) := closed_ok knil (by kernel_rfl) aw34k trivial

noncomputable def aw35D : CT cfz := .run 13 [] <|  .fin
theorem aw35k : crun cfz 122 aw35D [] (ent cfz 122 qd430) = some ((.d (.v (.int .i64 16))), []) := by kernel_rfl
theorem aw35 : PureCalls cfz.P cfz.glob 122 qd430 (.d (.v (.int .i64 16))) := closed_ok knil (by kernel_rfl) aw35k trivial

noncomputable def aw36D : CT cfz := .run 13 [] <|  .fin
theorem aw36k : crun cfz 122 aw36D [] (ent cfz 122 qd431) = some ((.d (.v (.int .i64 12))), []) := by kernel_rfl
theorem aw36 : PureCalls cfz.P cfz.glob 122 qd431 (.d (.v (.int .i64 12))) := closed_ok knil (by kernel_rfl) aw36k trivial

noncomputable def aw37D : CT cfz := .run 61 [] <| .use dd22 <| .use df59 <| .run 1 [.none, (.ck 0), (.ck 1), .none] <| .run 24 [] <| .use dd24 <| .use de27 <| .run 1 [.none, (.ck 2), (.ck 3), .none] <| .run 24 [] <| .use dd26 <| .use aw34 <| .run 1 [.none, (.ck 4), (.ck 5), .none] <| .run 24 [] <| .use dd28 <| .run 1 [.none, (.ck 6), (.ck 5), .none] <| .run 59 [] <| .run 1 [.none, (.ck 0), (.ck 1), .none] <| .run 24 [] <| .use aw35 <| .run 1 [.none, (.ck 4), (.ck 7), .none] <| .run 24 [] <| .use dd31 <| .use aw36 <| .run 1 [.none, (.ck 8), (.ck 9), .none] <| .run 24 [] <| .use dd32 <| .run 1 [.none, (.ck 10), (.ck 5), .none] <| .run 32 [] <|  .fin
theorem aw37k : crunS cfz 8 80 aw37D [] (ent cfz 80 qd90) = some (qd287, [.eqA qd437 qd437, .eqA qd434 qd434, .eqA qd435 qd435, .eqA qd418 qd418, .eqA qd438 qd438, .eqA qd429 qd429, .eqA qd439 qd439, .eqA qd429 qd429, .eqA qd437 qd437, .eqA qd434 qd434, .eqA qd438 qd438, .eqA qd430 qd430, .eqA qd440 qd440, .eqA qd431 qd431, .eqA qd441 qd441, .eqA qd429 qd429]) := by kernel_rfl
theorem aw37 : PureCalls cfz.P cfz.glob 80 qd90 qd287 := closed_ok knil (by kernel_rfl) ((crunS_eq cfz 8 80 aw37D [] (ent cfz 80 qd90)).symm.trans aw37k) ⟨rfl, rfl, rfl, rfl, rfl, rfl, rfl, rfl, rfl, rfl, rfl, rfl, rfl, rfl, rfl, rfl, trivial⟩

noncomputable def aw38D : CT cfz := .run 11 [] <| .use aw31 <| .run 1 [(.ck 0)] <| .run 13 [] <| .use aw37 <| .run 1 [(.ck 1)] <| .run 4 [] <|  .fin
theorem aw38k : crun cfz 16 aw38D [] (ent cfz 16 qd90) = some (qd191, [.eqA qd90 qd90, .eqA qd90 qd90]) := by kernel_rfl
theorem aw38 : PureCalls cfz.P cfz.glob 16 qd90 qd191 := closed_ok knil (by kernel_rfl) aw38k ⟨rfl, rfl, trivial⟩

noncomputable def aw39D : CT cfz := .run 36 [] <| .use dd12 <| .run 1 [(.ck 0)] <| .run 1 [] <| .run 1 [.mg] <| .run 27 [] <| .use aw9 <| .run 1 [(.ck 1)] <| .run 1 [] <| .run 1 [.mg] <| .run 21 [] <|  .fin
theorem aw39k : crun cfz 126 aw39D [] (ent cfz 126 qd166) = some (qd302, [.eqA qd435 qd435, .eqA qd437 qd437]) := by kernel_rfl
theorem aw39 : PureCalls cfz.P cfz.glob 126 qd166 qd302 := closed_ok knil (by kernel_rfl) aw39k ⟨rfl, rfl, trivial⟩

noncomputable def aw41D : CT cfz := .run 7 [] <| .use aw39 <| .run 1 [(.ck 0)] <| .use dd20 <| .run 1 [(.ck 1)] <| .run 3 [] <|  .fin
theorem aw41k : crun cfz 84 aw41D [] (ent cfz 84 qd288) = some ((.d (.v (.int .i64 0))), [.eqA qd166 qd166, .eqA qd284 qd284]) := by kernel_rfl
theorem aw41 : PureCalls cfz.P cfz.glob 84 qd288 (.d (.v (.int .i64 0))) := closed_ok knil (by kernel_rfl) aw41k ⟨rfl, rfl, trivial⟩

noncomputable def aw44D : CT cfz := .run 36 [] <| .use dd52 <| .run 1 [(.ck 0)] <| .run 1 [] <| .run 1 [.mg] <| .run 27 [] <| .use dd80 <| .run 1 [(.ck 1)] <| .run 1 [] <| .run 1 [.mg] <| .run 21 [] <|  .fin
theorem aw44k : crun cfz 131 aw44D [] (ent cfz 131 qd140) = some (qd315, [.eqA qd304 qd304, .eqA qd308 qd308]) := by kernel_rfl
theorem aw44 : PureCalls cfz.P cfz.glob 131 qd140 qd315 := closed_ok knil (by kernel_rfl) aw44k ⟨rfl, rfl, trivial⟩

noncomputable def aw48D : CT cfz := .run 36 [] <| .use dd55 <| .run 1 [(.ck 0)] <| .run 1 [] <| .run 1 [.mg] <| .run 27 [] <| .use dd83 <| .run 1 [(.ck 1)] <| .run 1 [] <| .run 1 [.mg] <| .run 21 [] <|  .fin
theorem aw48k : crun cfz 131 aw48D [] (ent cfz 131 qd141) = some (qd320, [.eqA qd305 qd305, .eqA qd309 qd309]) := by kernel_rfl
theorem aw48 : PureCalls cfz.P cfz.glob 131 qd141 qd320 := closed_ok knil (by kernel_rfl) aw48k ⟨rfl, rfl, trivial⟩

noncomputable def aw50D : CT cfz := .run 14 [] <|  .fin
theorem aw50k : crun cfz 134 aw50D [] (ent cfz 134 qd146) = some ((.d (.v (.bool true))), []) := by kernel_rfl
theorem aw50 : PureCalls cfz.P cfz.glob 134 qd146 (.d (.v (.bool true))) := closed_ok knil (by kernel_rfl) aw50k trivial

noncomputable def aw59D : CT cfz := .run 14 [] <|  .fin
theorem aw59k : crun cfz 134 aw59D [] (ent cfz 134 qd143) = some ((.d (.v (.bool true))), []) := by kernel_rfl
theorem aw59 : PureCalls cfz.P cfz.glob 134 qd143 (.d (.v (.bool true))) := closed_ok knil (by kernel_rfl) aw59k trivial

noncomputable def aw60D : CT cfz := .run 508 [] <|  .fin
theorem aw60k : crunS cfz 8 146 aw60D [] (ent cfz 146 qd10) = some ((.d (.v (.int .i64 15))), []) := by kernel_rfl
theorem aw60 : PureCalls cfz.P cfz.glob 146 qd10 (.d (.v (.int .i64 15))) := closed_ok knil (by kernel_rfl) ((crunS_eq cfz 8 146 aw60D [] (ent cfz 146 qd10)).symm.trans aw60k) trivial

noncomputable def aw61D : CT cfz := .run 8 [] <| .use aw60 <| .run 1 [(.ck 0)] <| .run 1 [] <| .use dd24 <| .run 1 [(.ck 1)] <| .run 3 [] <|  .fin
theorem aw61k : crun cfz 135 aw61D [] (ent cfz 135 qd441) = some ((.d (.v (.int .i64 3))), [.eqA qd10 qd10, .eqA qd435 qd435]) := by kernel_rfl
theorem aw61 : PureCalls cfz.P cfz.glob 135 qd441 (.d (.v (.int .i64 3))) := closed_ok knil (by kernel_rfl) aw61k ⟨rfl, rfl, trivial⟩

noncomputable def aw63D : CT cfz := .run 13 [] <|  .fin
theorem aw63k : crun cfz 122 aw63D [] (ent cfz 122 qd432) = some ((.d (.v (.int .i64 5))), []) := by kernel_rfl
theorem aw63 : PureCalls cfz.P cfz.glob 122 qd432 (.d (.v (.int .i64 5))) := closed_ok knil (by kernel_rfl) aw63k trivial

noncomputable def aw74D : CT cfz := .run 81 [] <| .run 1 [.none, .none, .none, .mg, .enter] <| .run 98 [] <| .run 1 [.enter] <| .run 61 [] <| .use dd22 <| .use dd45 <| .run 1 [.none, (.ck 0), (.ck 1), .none] <| .run 24 [] <| .use dd24 <| .run 1 [.none, (.ck 2), (.ck 1), .none] <| .run 24 [] <| .use dd26 <| .use de129 <| .run 1 [.none, (.ck 3), (.ck 4), .none] <| .run 24 [] <| .use dd28 <| .run 1 [.none, (.ck 5), (.ck 4), .none] <| .run 59 [] <| .run 1 [.none, (.ck 0), (.ck 1), .none] <| .run 24 [] <| .run 1 [.none, (.ck 3), (.ck 1), .none] <| .run 24 [] <| .use dd31 <| .use de104 <| .run 1 [.none, (.ck 6), (.ck 7), .none] <| .run 24 [] <| .use dd32 <| .run 1 [.none, (.ck 8), (.ck 7), .none] <| .run 60 [] <| .run 1 [.enter] <| .run 36 [] <| .use dd52 <| .run 1 [(.ck 9)] <| .run 1 [] <| .run 1 [.mg] <| .run 27 [] <| .use dd80 <| .run 1 [(.ck 10)] <| .run 1 [] <| .run 1 [.mg] <| .run 29 [] <| .use dd54 <| .run 1 [(.ck 11)] <| .run 1 [] <| .run 1 [.mg] <| .run 1 [] <| .run 1 [.mg] <| .run 30 [] <| .run 1 [.enter] <| .run 36 [] <| .use dd55 <| .run 1 [(.ck 12)] <| .run 1 [] <| .run 1 [.mg] <| .run 27 [] <| .use dd83 <| .run 1 [(.ck 13)] <| .run 1 [] <| .run 1 [.mg] <| .run 29 [] <| .use de109 <| .run 1 [(.ck 14)] <| .run 1 [] <| .run 1 [.mg] <| .run 1 [] <| .run 1 [.mg] <| .run 48 [] <| .run 1 [.enter] <| .run 34 [] <| .use aw50 <| .run 1 [(.ck 15)] <| .run 46 [] <| .use dd61 <| .run 1 [(.ck 16)] <| .run 34 [] <| .use dd62 <| .run 1 [(.ck 17)] <| .run 32 [] <| .use de128 <| .run 1 [(.ck 18)] <| .run 32 [] <| .use dd63 <| .run 1 [(.ck 19)] <| .run 113 [] <| .run 1 [.none, .none, (.ck 1), .none] <| .run 21 [] <| .use df35 <| .run 1 [.none, .none, (.ck 20), .none] <| .run 21 [] <| .use dd82 <| .run 1 [.none, .none, (.ck 21), .none] <| .run 62 [] <| .run 1 [.enter] <| .run 34 [] <| .use aw59 <| .run 1 [(.ck 22)] <| .run 46 [] <| .use aw61 <| .run 1 [(.ck 23)] <| .run 34 [] <| .run 1 [(.ck 1)] <| .run 32 [] <| .use dd89 <| .run 1 [(.ck 24)] <| .run 32 [] <| .use aw63 <| .run 1 [(.ck 25)] <| .run 82 [] <| .run 1 [.none, .none, (.ck 17), .none] <| .run 21 [] <| .run 1 [.none, .none, (.ck 1), .none] <| .run 21 [] <| .use dd109 <| .run 1 [.none, .none, (.ck 26), .none] <| .run 171 [] <| .use dd135 <| .run 1 [(.ck 27)] <| .run 5 [] <| .run 1 [] <| .run 6 [] <|  .fin
theorem aw74k : crunS cfz 8 85 aw74D [] (ent cfz 85 qd130) = some (qd180, [.eqA qd437 qd437, .eqA qd437 qd437, .eqA qd435 qd435, .eqA qd437 qd437, .eqA qd438 qd438, .eqA qd443 qd443, .eqA qd439 qd439, .eqA qd443 qd443, .eqA qd437 qd437, .eqA qd437 qd437, .eqA qd438 qd438, .eqA qd437 qd437, .eqA qd440 qd440, .eqA qd415 qd415, .eqA qd441 qd441, .eqA qd415 qd415, .eqA qd304 qd304, .eqA qd308 qd308, .eqA qd373 qd373, .eqA qd305 qd305, .eqA qd309 qd309, .eqA qd368 qd368, .eqA qd146 qd146, .eqA qd435 qd435, .eqA qd435 qd435, .eqA qd439 qd439, .eqA qd442 qd442, .eqA qd437 qd437, .eqA qd441 qd441, .eqA qd375 qd375, .eqA qd143 qd143, .eqA qd441 qd441, .eqA qd437 qd437, .eqA qd410 qd410, .eqA qd432 qd432, .eqA qd435 qd435, .eqA qd437 qd437, .eqA qd376 qd376, .eqA qd78 qd78]) := by kernel_rfl
theorem aw74 : PureCalls cfz.P cfz.glob 85 qd130 qd180 := closed_ok knil (by kernel_rfl) ((crunS_eq cfz 8 85 aw74D [] (ent cfz 85 qd130)).symm.trans aw74k) ⟨rfl, rfl, rfl, rfl, rfl, rfl, rfl, rfl, rfl, rfl, rfl, rfl, rfl, rfl, rfl, rfl, rfl, rfl, rfl, rfl, rfl, rfl, rfl, rfl, rfl, rfl, rfl, rfl, rfl, rfl, rfl, rfl, rfl, rfl, rfl, rfl, rfl, rfl, rfl, trivial⟩

noncomputable def aw75D : CT cfz := .run 9 [] <| .use dd5 <| .use dd6 <| .use aw41 <| .use dd4 <| .run 1 [.none, (.ck 0), .none, .none, (.ck 1), (.ck 2), (.ck 3)] <| .run 11 [] <| .use aw74 <| .run 1 [(.ck 4)] <| .run 4 [] <|  .fin
theorem aw75k : crun cfz 19 aw75D [] (ent cfz 19 qd130) = some (qd119, [.eqA qd273 qd273, .eqA qd332 qd332, .eqA qd288 qd288, .eqA qd233 qd233, .eqA qd130 qd130]) := by kernel_rfl
theorem aw75 : PureCalls cfz.P cfz.glob 19 qd130 qd119 := closed_ok knil (by kernel_rfl) aw75k ⟨rfl, rfl, rfl, rfl, rfl, trivial⟩

noncomputable def aw76D : CT cfz := .run 36 [] <| .use aw9 <| .run 1 [(.ck 0)] <| .run 1 [] <| .run 1 [.mg] <| .run 27 [] <| .use dd12 <| .run 1 [(.ck 1)] <| .run 1 [] <| .run 1 [.mg] <| .run 21 [] <|  .fin
theorem aw76k : crun cfz 126 aw76D [] (ent cfz 126 qd167) = some (qd302, [.eqA qd437 qd437, .eqA qd435 qd435]) := by kernel_rfl
theorem aw76 : PureCalls cfz.P cfz.glob 126 qd167 qd302 := closed_ok knil (by kernel_rfl) aw76k ⟨rfl, rfl, trivial⟩

noncomputable def aw77D : CT cfz := .run 7 [] <| .use aw76 <| .run 1 [(.ck 0)] <| .use dd20 <| .run 1 [(.ck 1)] <| .run 3 [] <|  .fin
theorem aw77k : crun cfz 84 aw77D [] (ent cfz 84 qd289) = some ((.d (.v (.int .i64 0))), [.eqA qd167 qd167, .eqA qd284 qd284]) := by kernel_rfl
theorem aw77 : PureCalls cfz.P cfz.glob 84 qd289 (.d (.v (.int .i64 0))) := closed_ok knil (by kernel_rfl) aw77k ⟨rfl, rfl, trivial⟩

noncomputable def aw79D : CT cfz := .run 61 [] <| .use dd22 <| .use dd45 <| .run 1 [.none, (.ck 0), (.ck 1), .none] <| .run 24 [] <| .use dd24 <| .run 1 [.none, (.ck 2), (.ck 1), .none] <| .run 24 [] <| .use dd26 <| .run 1 [.none, (.ck 3), (.ck 1), .none] <| .run 24 [] <| .use dd28 <| .use dd23 <| .run 1 [.none, (.ck 4), (.ck 5), .none] <| .run 59 [] <| .run 1 [.none, (.ck 0), (.ck 1), .none] <| .run 24 [] <| .run 1 [.none, (.ck 3), (.ck 1), .none] <| .run 24 [] <| .use dd31 <| .run 1 [.none, (.ck 6), (.ck 1), .none] <| .run 24 [] <| .use dd32 <| .use dd46 <| .run 1 [.none, (.ck 7), (.ck 8), .none] <| .run 32 [] <|  .fin
theorem aw79k : crunS cfz 8 80 aw79D [] (ent cfz 80 qd91) = some (qd290, [.eqA qd437 qd437, .eqA qd437 qd437, .eqA qd435 qd435, .eqA qd437 qd437, .eqA qd438 qd438, .eqA qd437 qd437, .eqA qd439 qd439, .eqA qd395 qd395, .eqA qd437 qd437, .eqA qd437 qd437, .eqA qd438 qd438, .eqA qd437 qd437, .eqA qd440 qd440, .eqA qd437 qd437, .eqA qd441 qd441, .eqA qd400 qd400]) := by kernel_rfl
theorem aw79 : PureCalls cfz.P cfz.glob 80 qd91 qd290 := closed_ok knil (by kernel_rfl) ((crunS_eq cfz 8 80 aw79D [] (ent cfz 80 qd91)).symm.trans aw79k) ⟨rfl, rfl, rfl, rfl, rfl, rfl, rfl, rfl, rfl, rfl, rfl, rfl, rfl, rfl, rfl, rfl, trivial⟩

noncomputable def aw81D : CT cfz := .run 13 [] <|  .fin
theorem aw81k : crun cfz 122 aw81D [] (ent cfz 122 qd370) = some ((.d (.v (.int .i64 2))), []) := by kernel_rfl
theorem aw81 : PureCalls cfz.P cfz.glob 122 qd370 (.d (.v (.int .i64 2))) := closed_ok knil (by kernel_rfl) aw81k trivial

noncomputable def aw82D : CT cfz := .run 14 [] <|  .fin
theorem aw82k : crun cfz 134 aw82D [] (ent cfz 134 qd147) = some ((.d (.v (.bool true))), []) := by kernel_rfl
theorem aw82 : PureCalls cfz.P cfz.glob 134 qd147 (.d (.v (.bool true))) := closed_ok knil (by kernel_rfl) aw82k trivial

noncomputable def aw83D : CT cfz := .run 13 [] <|  .fin
theorem aw83k : crun cfz 122 aw83D [] (ent cfz 122 qd436) = some ((.d (.v (.int .i64 7))), []) := by kernel_rfl
theorem aw83 : PureCalls cfz.P cfz.glob 122 qd436 (.d (.v (.int .i64 7))) := closed_ok knil (by kernel_rfl) aw83k trivial

noncomputable def aw85D : CT cfz := .run 14 [] <|  .fin
theorem aw85k : crun cfz 134 aw85D [] (ent cfz 134 qd144) = some ((.d (.v (.bool true))), []) := by kernel_rfl
theorem aw85 : PureCalls cfz.P cfz.glob 134 qd144 (.d (.v (.bool true))) := closed_ok knil (by kernel_rfl) aw85k trivial

noncomputable def aw86D : CT cfz := .run 13 [] <|  .fin
theorem aw86k : crun cfz 122 aw86D [] (ent cfz 122 qd433) = some ((.d (.v (.int .i64 2))), []) := by kernel_rfl
theorem aw86 : PureCalls cfz.P cfz.glob 122 qd433 (.d (.v (.int .i64 2))) := closed_ok knil (by kernel_rfl) aw86k trivial

noncomputable def aw89D : CT cfz := .run 61 [] <| .use dd22 <| .use dd62 <| .run 1 [.none, (.ck 0), (.ck 1), .none] <| .run 24 [] <| .use dd24 <| .use aw83 <| .run 1 [.none, (.ck 2), (.ck 3), .none] <| .run 24 [] <| .use dd26 <| .run 1 [.none, (.ck 4), (.ck 3), .none] <| .run 24 [] <| .use dd28 <| .use dd27 <| .run 1 [.none, (.ck 5), (.ck 6), .none] <| .run 59 [] <| .run 1 [.none, (.ck 0), (.ck 1), .none] <| .run 24 [] <| .use dd76 <| .run 1 [.none, (.ck 4), (.ck 7), .none] <| .run 24 [] <| .use dd31 <| .use df31 <| .run 1 [.none, (.ck 8), (.ck 9), .none] <| .run 24 [] <| .use dd32 <| .run 1 [.none, (.ck 10), (.ck 6), .none] <| .run 32 [] <|  .fin
theorem aw89k : crunS cfz 8 80 aw89D [] (ent cfz 80 qd92) = some (qd302, [.eqA qd437 qd437, .eqA qd435 qd435, .eqA qd435 qd435, .eqA qd436 qd436, .eqA qd438 qd438, .eqA qd436 qd436, .eqA qd439 qd439, .eqA qd397 qd397, .eqA qd437 qd437, .eqA qd435 qd435, .eqA qd438 qd438, .eqA qd408 qd408, .eqA qd440 qd440, .eqA qd438 qd438, .eqA qd441 qd441, .eqA qd397 qd397]) := by kernel_rfl
theorem aw89 : PureCalls cfz.P cfz.glob 80 qd92 qd302 := closed_ok knil (by kernel_rfl) ((crunS_eq cfz 8 80 aw89D [] (ent cfz 80 qd92)).symm.trans aw89k) ⟨rfl, rfl, rfl, rfl, rfl, rfl, rfl, rfl, rfl, rfl, rfl, rfl, rfl, rfl, rfl, rfl, trivial⟩

noncomputable def aw90D : CT cfz := .run 9 [] <| .use aw89 <| .run 1 [(.ck 0)] <| .use dd134 <| .run 1 [(.ck 1)] <| .run 4 [] <|  .fin
theorem aw90k : crun cfz 81 aw90D [] (ent cfz 81 qd92) = some ((.d (.v (.bool true))), [.eqA qd92 qd92, .eqA qd164 qd164]) := by kernel_rfl
theorem aw90 : PureCalls cfz.P cfz.glob 81 qd92 (.d (.v (.bool true))) := closed_ok knil (by kernel_rfl) aw90k ⟨rfl, rfl, trivial⟩

noncomputable def aw91D : CT cfz := .run 81 [] <| .run 1 [.none, .none, .none, .mg, .enter] <| .run 98 [] <| .run 1 [.enter] <| .run 61 [] <| .use dd22 <| .use dd45 <| .run 1 [.none, (.ck 0), (.ck 1), .none] <| .run 24 [] <| .use dd24 <| .run 1 [.none, (.ck 2), (.ck 1), .none] <| .run 24 [] <| .use dd26 <| .run 1 [.none, (.ck 3), (.ck 1), .none] <| .run 24 [] <| .use dd28 <| .use dd23 <| .run 1 [.none, (.ck 4), (.ck 5), .none] <| .run 59 [] <| .run 1 [.none, (.ck 0), (.ck 1), .none] <| .run 24 [] <| .run 1 [.none, (.ck 3), (.ck 1), .none] <| .run 24 [] <| .use dd31 <| .run 1 [.none, (.ck 6), (.ck 1), .none] <| .run 24 [] <| .use dd32 <| .use dd46 <| .run 1 [.none, (.ck 7), (.ck 8), .none] <| .run 60 [] <| .run 1 [.enter] <| .run 36 [] <| .use dd52 <| .run 1 [(.ck 9)] <| .run 1 [] <| .run 1 [.mg] <| .run 27 [] <| .use dd80 <| .run 1 [(.ck 10)] <| .run 1 [] <| .run 1 [.mg] <| .run 29 [] <| .use dd57 <| .run 1 [(.ck 11)] <| .run 1 [] <| .run 1 [.mg] <| .run 1 [] <| .run 1 [.mg] <| .run 30 [] <| .run 1 [.enter] <| .run 36 [] <| .use dd55 <| .run 1 [(.ck 12)] <| .run 1 [] <| .run 1 [.mg] <| .run 27 [] <| .use dd83 <| .run 1 [(.ck 13)] <| .run 1 [] <| .run 1 [.mg] <| .run 29 [] <| .use aw81 <| .run 1 [(.ck 14)] <| .run 1 [] <| .run 1 [.mg] <| .run 1 [] <| .run 1 [.mg] <| .run 48 [] <| .run 1 [.enter] <| .run 34 [] <| .use aw82 <| .run 1 [(.ck 15)] <| .run 46 [] <| .use dd61 <| .run 1 [(.ck 16)] <| .run 34 [] <| .use dd62 <| .run 1 [(.ck 17)] <| .run 32 [] <| .use de128 <| .run 1 [(.ck 18)] <| .run 32 [] <| .use aw83 <| .run 1 [(.ck 19)] <| .run 113 [] <| .run 1 [.none, .none, (.ck 1), .none] <| .run 21 [] <| .use df35 <| .run 1 [.none, .none, (.ck 20), .none] <| .run 21 [] <| .use de37 <| .run 1 [.none, .none, (.ck 21), .none] <| .run 62 [] <| .run 1 [.enter] <| .run 34 [] <| .use aw85 <| .run 1 [(.ck 22)] <| .run 46 [] <| .use aw61 <| .run 1 [(.ck 23)] <| .run 34 [] <| .run 1 [(.ck 1)] <| .run 32 [] <| .use dd89 <| .run 1 [(.ck 24)] <| .run 32 [] <| .use aw86 <| .run 1 [(.ck 25)] <| .run 82 [] <| .run 1 [.none, .none, (.ck 17), .none] <| .run 21 [] <| .run 1 [.none, .none, (.ck 1), .none] <| .run 21 [] <| .run 1 [.none, .none, (.ck 17), .none] <| .run 171 [] <| .use aw90 <| .run 1 [(.ck 26)] <| .run 5 [] <| .run 1 [] <| .run 6 [] <|  .fin
theorem aw91k : crunS cfz 8 85 aw91D [] (ent cfz 85 qd131) = some (qd189, [.eqA qd437 qd437, .eqA qd437 qd437, .eqA qd435 qd435, .eqA qd437 qd437, .eqA qd438 qd438, .eqA qd437 qd437, .eqA qd439 qd439, .eqA qd395 qd395, .eqA qd437 qd437, .eqA qd437 qd437, .eqA qd438 qd438, .eqA qd437 qd437, .eqA qd440 qd440, .eqA qd437 qd437, .eqA qd441 qd441, .eqA qd400 qd400, .eqA qd304 qd304, .eqA qd308 qd308, .eqA qd363 qd363, .eqA qd305 qd305, .eqA qd309 qd309, .eqA qd370 qd370, .eqA qd147 qd147, .eqA qd435 qd435, .eqA qd435 qd435, .eqA qd439 qd439, .eqA qd436 qd436, .eqA qd437 qd437, .eqA qd441 qd441, .eqA qd378 qd378, .eqA qd144 qd144, .eqA qd441 qd441, .eqA qd437 qd437, .eqA qd410 qd410, .eqA qd433 qd433, .eqA qd435 qd435, .eqA qd437 qd437, .eqA qd435 qd435, .eqA qd92 qd92]) := by kernel_rfl
theorem aw91 : PureCalls cfz.P cfz.glob 85 qd131 qd189 := closed_ok knil (by kernel_rfl) ((crunS_eq cfz 8 85 aw91D [] (ent cfz 85 qd131)).symm.trans aw91k) ⟨rfl, rfl, rfl, rfl, rfl, rfl, rfl, rfl, rfl, rfl, rfl, rfl, rfl, rfl, rfl, rfl, rfl, rfl, rfl, rfl, rfl, rfl, rfl, rfl, rfl, rfl, rfl, rfl, rfl, rfl, rfl, rfl, rfl, rfl, rfl, rfl, rfl, rfl, rfl, trivial⟩

noncomputable def aw92D : CT cfz := .run 9 [] <| .use dd5 <| .use dd6 <| .use aw77 <| .use dd4 <| .run 1 [.none, (.ck 0), .none, .none, (.ck 1), (.ck 2), (.ck 3)] <| .run 11 [] <| .use aw91 <| .run 1 [(.ck 4)] <| .run 4 [] <|  .fin
theorem aw92k : crun cfz 19 aw92D [] (ent cfz 19 qd131) = some (qd123, [.eqA qd273 qd273, .eqA qd332 qd332, .eqA qd289 qd289, .eqA qd233 qd233, .eqA qd131 qd131]) := by kernel_rfl
theorem aw92 : PureCalls cfz.P cfz.glob 19 qd131 qd123 := closed_ok knil (by kernel_rfl) aw92k ⟨rfl, rfl, rfl, rfl, rfl, trivial⟩

noncomputable def aw96D : CT cfz := .run 36 [] <| .use dd8 <| .run 1 [(.ck 0)] <| .run 1 [] <| .run 1 [.mg] <| .run 27 [] <| .use dd10 <| .run 1 [(.ck 1)] <| .run 1 [] <| .run 1 [.mg] <| .run 27 [] <| .use dd12 <| .run 1 [(.ck 2)] <| .run 1 [] <| .run 1 [.mg] <| .run 27 [] <| .use aw9 <| .run 1 [(.ck 3)] <| .run 1 [] <| .run 1 [.mg] <| .run 21 [] <|  .fin
theorem aw96k : crun cfz 126 aw96D [] (ent cfz 126 qd101) = some (qd183, [.eqA qd395 qd395, .eqA qd434 qd434, .eqA qd435 qd435, .eqA qd437 qd437]) := by kernel_rfl
theorem aw96 : PureCalls cfz.P cfz.glob 126 qd101 qd183 := closed_ok knil (by kernel_rfl) aw96k ⟨rfl, rfl, rfl, rfl, trivial⟩

noncomputable def aw97D : CT cfz := .run 7 [] <| .use aw96 <| .run 1 [(.ck 0)] <| .use dd16 <| .run 1 [(.ck 1)] <| .run 3 [] <|  .fin
theorem aw97k : crun cfz 84 aw97D [] (ent cfz 84 qd171) = some ((.d (.v (.int .i64 0))), [.eqA qd101 qd101, .eqA qd172 qd172]) := by kernel_rfl
theorem aw97 : PureCalls cfz.P cfz.glob 84 qd171 (.d (.v (.int .i64 0))) := closed_ok knil (by kernel_rfl) aw97k ⟨rfl, rfl, trivial⟩

noncomputable def aw98D : CT cfz := .run 9 [] <| .use dd19 <| .run 1 [(.ck 0)] <| .run 1 [] <| .use aw97 <| .run 1 [(.ck 1)] <| .run 1 [] <| .use dd20 <| .run 1 [(.ck 2)] <| .run 3 [] <|  .fin
theorem aw98k : crun cfz 105 aw98D [] (ent cfz 105 qd171) = some ((.d (.v (.int .i64 0))), [.eqA qd333 qd333, .eqA qd171 qd171, .eqA qd284 qd284]) := by kernel_rfl
theorem aw98 : PureCalls cfz.P cfz.glob 105 qd171 (.d (.v (.int .i64 0))) := closed_ok knil (by kernel_rfl) aw98k ⟨rfl, rfl, rfl, trivial⟩

noncomputable def aw99D : CT cfz := .run 14 [] <| .use dd0 <| .run 1 [(.ck 0)] <| .run 3 [] <|  .fin
theorem aw99k : crun cfz 91 aw99D [] (ent cfz 91 qd226) = some ((.d (.v (.int .i64 0))), [.eqA qd331 qd331]) := by kernel_rfl
theorem aw99 : PureCalls cfz.P cfz.glob 91 qd226 (.d (.v (.int .i64 0))) := closed_ok knil (by kernel_rfl) aw99k ⟨rfl, trivial⟩

noncomputable def aw100D : CT cfz := .run 7 [] <| .use aw99 <| .run 1 [(.ck 0)] <| .run 3 [] <|  .fin
theorem aw100k : crun cfz 127 aw100D [] (ent cfz 127 qd438) = some ((.d (.v (.int .i64 0))), [.eqA qd226 qd226]) := by kernel_rfl
theorem aw100 : PureCalls cfz.P cfz.glob 127 qd438 (.d (.v (.int .i64 0))) := closed_ok knil (by kernel_rfl) aw100k ⟨rfl, trivial⟩

noncomputable def aw101D : CT cfz := .run 36 [] <| .use dd12 <| .run 1 [(.ck 0)] <| .run 1 [] <| .run 1 [.mg] <| .run 27 [] <| .use aw100 <| .run 1 [(.ck 1)] <| .run 1 [] <| .run 1 [.mg] <| .run 27 [] <| .use aw9 <| .run 1 [(.ck 2)] <| .run 1 [] <| .run 1 [.mg] <| .run 27 [] <| .run 1 [(.ck 0)] <| .run 1 [] <| .run 1 [.mg] <| .run 21 [] <|  .fin
theorem aw101k : crun cfz 126 aw101D [] (ent cfz 126 qd105) = some (qd183, [.eqA qd435 qd435, .eqA qd438 qd438, .eqA qd437 qd437, .eqA qd435 qd435]) := by kernel_rfl
theorem aw101 : PureCalls cfz.P cfz.glob 126 qd105 qd183 := closed_ok knil (by kernel_rfl) aw101k ⟨rfl, rfl, rfl, rfl, trivial⟩

noncomputable def aw102D : CT cfz := .run 7 [] <| .use aw101 <| .run 1 [(.ck 0)] <| .use dd16 <| .run 1 [(.ck 1)] <| .run 3 [] <|  .fin
theorem aw102k : crun cfz 84 aw102D [] (ent cfz 84 qd178) = some ((.d (.v (.int .i64 0))), [.eqA qd105 qd105, .eqA qd172 qd172]) := by kernel_rfl
theorem aw102 : PureCalls cfz.P cfz.glob 84 qd178 (.d (.v (.int .i64 0))) := closed_ok knil (by kernel_rfl) aw102k ⟨rfl, rfl, trivial⟩

noncomputable def aw103D : CT cfz := .run 9 [] <| .use dd19 <| .run 1 [(.ck 0)] <| .run 1 [] <| .use aw102 <| .run 1 [(.ck 1)] <| .run 1 [] <| .use dd20 <| .run 1 [(.ck 2)] <| .run 3 [] <|  .fin
theorem aw103k : crun cfz 105 aw103D [] (ent cfz 105 qd178) = some ((.d (.v (.int .i64 0))), [.eqA qd333 qd333, .eqA qd178 qd178, .eqA qd284 qd284]) := by kernel_rfl
theorem aw103 : PureCalls cfz.P cfz.glob 105 qd178 (.d (.v (.int .i64 0))) := closed_ok knil (by kernel_rfl) aw103k ⟨rfl, rfl, rfl, trivial⟩

noncomputable def aw104D : CT cfz := .run 190 [] <|  .fin
theorem aw104k : crun cfz 94 aw104D [] (ent cfz 94 qd50) = some (qd184, []) := by kernel_rfl
theorem aw104 : PureCalls cfz.P cfz.glob 94 qd50 qd184 := closed_ok knil (by kernel_rfl) aw104k trivial

noncomputable def aw105D : CT cfz := .run 9 [] <| .use aw98 <| .run 1 [(.ck 0)] <| .run 1 [] <| .use aw103 <| .run 1 [(.ck 1)] <| .run 5 [] <| .use dd6 <| .run 1 [(.ck 2)] <| .run 1 [] <| .use dd4 <| .run 1 [(.ck 3)] <| .run 13 [] <| .use aw104 <| .run 1 [(.ck 4)] <| .run 5 [] <|  .fin
theorem aw105k : crun cfz 53 aw105D [] (ent cfz 53 qd50) = some (qd275, [.eqA qd171 qd171, .eqA qd178 qd178, .eqA qd332 qd332, .eqA qd233 qd233, .eqA qd50 qd50]) := by kernel_rfl
theorem aw105 : PureCalls cfz.P cfz.glob 53 qd50 qd275 := closed_ok knil (by kernel_rfl) aw105k ⟨rfl, rfl, rfl, rfl, rfl, trivial⟩

noncomputable def aw106D : CT cfz := .run 85 [] <|  .fin
theorem aw106k : crun cfz 30 aw106D [] (ent cfz 30 qd135) = some ((.d (.v (.bool true))), []) := by kernel_rfl
theorem aw106 : PureCalls cfz.P cfz.glob 30 qd135 (.d (.v (.bool true))) := closed_ok knil (by kernel_rfl) aw106k trivial

noncomputable def aw107D : CT cfz := .run 85 [] <|  .fin
theorem aw107k : crun cfz 30 aw107D [] (ent cfz 30 qd132) = some ((.d (.v (.bool true))), []) := by kernel_rfl
theorem aw107 : PureCalls cfz.P cfz.glob 30 qd132 (.d (.v (.bool true))) := closed_ok knil (by kernel_rfl) aw107k trivial

noncomputable def aw108D : CT cfz := .run 133 [] <|  .fin
theorem aw108k : crun cfz 30 aw108D [] (ent cfz 30 qd49) = some ((.d (.v (.bool true))), []) := by kernel_rfl
theorem aw108 : PureCalls cfz.P cfz.glob 30 qd49 (.d (.v (.bool true))) := closed_ok knil (by kernel_rfl) aw108k trivial

noncomputable def aw109D : CT cfz := .run 133 [] <|  .fin
theorem aw109k : crun cfz 30 aw109D [] (ent cfz 30 qd59) = some ((.d (.v (.bool true))), []) := by kernel_rfl
theorem aw109 : PureCalls cfz.P cfz.glob 30 qd59 (.d (.v (.bool true))) := closed_ok knil (by kernel_rfl) aw109k trivial

noncomputable def aw110D : CT cfz := .run 61 [] <|  .fin
theorem aw110k : crun cfz 30 aw110D [] (ent cfz 30 qd258) = some ((.d (.v (.bool true))), []) := by kernel_rfl
theorem aw110 : PureCalls cfz.P cfz.glob 30 qd258 (.d (.v (.bool true))) := closed_ok knil (by kernel_rfl) aw110k trivial

noncomputable def aw111D : CT cfz := .run 85 [] <|  .fin
theorem aw111k : crun cfz 30 aw111D [] (ent cfz 30 qd136) = some ((.d (.v (.bool true))), []) := by kernel_rfl
theorem aw111 : PureCalls cfz.P cfz.glob 30 qd136 (.d (.v (.bool true))) := closed_ok knil (by kernel_rfl) aw111k trivial

noncomputable def aw112D : CT cfz := .run 16 [] <|  .fin
theorem aw112k : crun cfz 83 aw112D [] (ent cfz 83 qd325) = some ((.d (.v (.int .i64 0))), []) := by kernel_rfl
theorem aw112 : PureCalls cfz.P cfz.glob 83 qd325 (.d (.v (.int .i64 0))) := closed_ok knil (by kernel_rfl) aw112k trivial

noncomputable def aw113D : CT cfz := .run 16 [] <|  .fin
theorem aw113k : crun cfz 143 aw113D [] (ent cfz 143 qd36) = some ((.d (.v (.bool false))), []) := by kernel_rfl
theorem aw113 : PureCalls cfz.P cfz.glob 143 qd36 (.d (.v (.bool false))) := closed_ok knil (by kernel_rfl) aw113k trivial

noncomputable def aw114D : CT cfz := .run 16 [] <|  .fin
theorem aw114k : crun cfz 143 aw114D [] (ent cfz 143 qd37) = some ((.d (.v (.bool false))), []) := by kernel_rfl
theorem aw114 : PureCalls cfz.P cfz.glob 143 qd37 (.d (.v (.bool false))) := closed_ok knil (by kernel_rfl) aw114k trivial

noncomputable def aw115D : CT cfz := .run 34 [] <| .use aw113 <| .run 1 [(.ck 0)] <| .run 30 [] <| .use aw114 <| .run 1 [(.ck 1)] <| .run 21 [] <|  .fin
theorem aw115k : crun cfz 133 aw115D [] (ent cfz 133 qd19) = some ((.d (.v (.int .i64 (-1)))), [.eqA qd36 qd36, .eqA qd37 qd37]) := by kernel_rfl
theorem aw115 : PureCalls cfz.P cfz.glob 133 qd19 (.d (.v (.int .i64 (-1)))) := closed_ok knil (by kernel_rfl) aw115k ⟨rfl, rfl, trivial⟩

noncomputable def aw116D : CT cfz := .run 8 [] <| .use aw115 <| .run 1 [(.ck 0)] <| .run 4 [] <|  .fin
theorem aw116k : crun cfz 142 aw116D [] (ent cfz 142 qd19) = some ((.d (.v (.bool false))), [.eqA qd19 qd19]) := by kernel_rfl
theorem aw116 : PureCalls cfz.P cfz.glob 142 qd19 (.d (.v (.bool false))) := closed_ok knil (by kernel_rfl) aw116k ⟨rfl, trivial⟩

noncomputable def aw117D : CT cfz := .run 14 [] <| .use dd0 <| .run 1 [(.ck 0)] <| .run 3 [] <|  .fin
theorem aw117k : crun cfz 91 aw117D [] (ent cfz 91 qd227) = some ((.d (.v (.int .i64 0))), [.eqA qd331 qd331]) := by kernel_rfl
theorem aw117 : PureCalls cfz.P cfz.glob 91 qd227 (.d (.v (.int .i64 0))) := closed_ok knil (by kernel_rfl) aw117k ⟨rfl, trivial⟩

noncomputable def aw118D : CT cfz := .run 7 [] <| .use aw117 <| .run 1 [(.ck 0)] <| .run 3 [] <|  .fin
theorem aw118k : crun cfz 127 aw118D [] (ent cfz 127 qd439) = some ((.d (.v (.int .i64 0))), [.eqA qd227 qd227]) := by kernel_rfl
theorem aw118 : PureCalls cfz.P cfz.glob 127 qd439 (.d (.v (.int .i64 0))) := closed_ok knil (by kernel_rfl) aw118k ⟨rfl, trivial⟩

noncomputable def aw119D : CT cfz := .run 36 [] <| .use dd12 <| .run 1 [(.ck 0)] <| .run 1 [] <| .run 1 [.mg] <| .run 27 [] <| .use aw100 <| .run 1 [(.ck 1)] <| .run 1 [] <| .run 1 [.mg] <| .run 27 [] <| .use aw118 <| .run 1 [(.ck 2)] <| .run 1 [] <| .run 1 [.mg] <| .run 21 [] <|  .fin
theorem aw119k : crun cfz 126 aw119D [] (ent cfz 126 qd126) = some (qd245, [.eqA qd435 qd435, .eqA qd438 qd438, .eqA qd439 qd439]) := by kernel_rfl
theorem aw119 : PureCalls cfz.P cfz.glob 126 qd126 qd245 := closed_ok knil (by kernel_rfl) aw119k ⟨rfl, rfl, rfl, trivial⟩

noncomputable def aw120D : CT cfz := .run 7 [] <| .use aw119 <| .run 1 [(.ck 0)] <| .use dd4 <| .run 1 [(.ck 1)] <| .run 3 [] <|  .fin
theorem aw120k : crun cfz 84 aw120D [] (ent cfz 84 qd234) = some ((.d (.v (.int .i64 0))), [.eqA qd126 qd126, .eqA qd233 qd233]) := by kernel_rfl
theorem aw120 : PureCalls cfz.P cfz.glob 84 qd234 (.d (.v (.int .i64 0))) := closed_ok knil (by kernel_rfl) aw120k ⟨rfl, rfl, trivial⟩

noncomputable def aw121D : CT cfz := .run 14 [] <| .use dd0 <| .run 1 [(.ck 0)] <| .run 3 [] <|  .fin
theorem aw121k : crun cfz 91 aw121D [] (ent cfz 91 qd228) = some ((.d (.v (.int .i64 0))), [.eqA qd331 qd331]) := by kernel_rfl
theorem aw121 : PureCalls cfz.P cfz.glob 91 qd228 (.d (.v (.int .i64 0))) := closed_ok knil (by kernel_rfl) aw121k ⟨rfl, trivial⟩

noncomputable def aw122D : CT cfz := .run 7 [] <| .use aw121 <| .run 1 [(.ck 0)] <| .run 3 [] <|  .fin
theorem aw122k : crun cfz 127 aw122D [] (ent cfz 127 qd440) = some ((.d (.v (.int .i64 0))), [.eqA qd228 qd228]) := by kernel_rfl
theorem aw122 : PureCalls cfz.P cfz.glob 127 qd440 (.d (.v (.int .i64 0))) := closed_ok knil (by kernel_rfl) aw122k ⟨rfl, trivial⟩

noncomputable def aw125D : CT cfz := .run 36 [] <| .use aw122 <| .run 1 [(.ck 0)] <| .run 1 [] <| .run 1 [.mg] <| .run 27 [] <| .use dd10 <| .run 1 [(.ck 1)] <| .run 1 [] <| .run 1 [.mg] <| .run 27 [] <| .use df10 <| .run 1 [(.ck 2)] <| .run 1 [] <| .run 1 [.mg] <| .run 21 [] <|  .fin
theorem aw125k : crun cfz 126 aw125D [] (ent cfz 126 qd127) = some (qd245, [.eqA qd440 qd440, .eqA qd434 qd434, .eqA qd441 qd441]) := by kernel_rfl
theorem aw125 : PureCalls cfz.P cfz.glob 126 qd127 qd245 := closed_ok knil (by kernel_rfl) aw125k ⟨rfl, rfl, rfl, trivial⟩

noncomputable def aw126D : CT cfz := .run 7 [] <| .use aw125 <| .run 1 [(.ck 0)] <| .use dd4 <| .run 1 [(.ck 1)] <| .run 3 [] <|  .fin
theorem aw126k : crun cfz 84 aw126D [] (ent cfz 84 qd235) = some ((.d (.v (.int .i64 0))), [.eqA qd127 qd127, .eqA qd233 qd233]) := by kernel_rfl
theorem aw126 : PureCalls cfz.P cfz.glob 84 qd235 (.d (.v (.int .i64 0))) := closed_ok knil (by kernel_rfl) aw126k ⟨rfl, rfl, trivial⟩

noncomputable def aw127D : CT cfz := .run 36 [] <| .use aw120 <| .run 1 [(.ck 0)] <| .run 1 [] <| .run 1 [.mg] <| .run 27 [] <| .use aw126 <| .run 1 [(.ck 1)] <| .run 1 [] <| .run 1 [.mg] <| .run 21 [] <|  .fin
theorem aw127k : crun cfz 144 aw127D [] (ent cfz 144 qd45) = some (qd302, [.eqA qd234 qd234, .eqA qd235 qd235]) := by kernel_rfl
theorem aw127 : PureCalls cfz.P cfz.glob 144 qd45 qd302 := closed_ok knil (by kernel_rfl) aw127k ⟨rfl, rfl, trivial⟩

noncomputable def aw128D : CT cfz := .run 8 [] <| .use aw112 <| .use dd19 <| .use dd20 <| .run 1 [.none, (.ck 0), .none, (.ck 1), (.ck 2)] <| .run 11 [] <| .use aw116 <| .run 1 [(.ck 3)] <| .run 5 [] <| .use dd6 <| .run 1 [(.ck 4), .none, .none, (.ck 1), (.ck 2)] <| .run 10 [] <| .use aw127 <| .run 1 [(.ck 5)] <| .run 1 [(.ck 2)] <| .run 3 [] <|  .fin
theorem aw128k : crun cfz 104 aw128D [] (ent cfz 104 qd64) = some ((.d (.v (.int .i64 0))), [.eqA qd325 qd325, .eqA qd333 qd333, .eqA qd284 qd284, .eqA qd19 qd19, .eqA qd332 qd332, .eqA qd333 qd333, .eqA qd284 qd284, .eqA qd45 qd45, .eqA qd284 qd284]) := by kernel_rfl
theorem aw128 : PureCalls cfz.P cfz.glob 104 qd64 (.d (.v (.int .i64 0))) := closed_ok knil (by kernel_rfl) aw128k ⟨rfl, rfl, rfl, rfl, rfl, rfl, rfl, rfl, rfl, trivial⟩

noncomputable def aw129D : CT cfz := .run 9 [] <| .use aw128 <| .run 1 [(.ck 0)] <| .run 329 [] <|  .fin
theorem aw129k : crunS cfz 8 43 aw129D [] (ent cfz 43 qd84) = some (qd69, [.eqA qd64 qd64]) := by kernel_rfl
theorem aw129 : PureCalls cfz.P cfz.glob 43 qd84 qd69 := closed_ok knil (by kernel_rfl) ((crunS_eq cfz 8 43 aw129D [] (ent cfz 43 qd84)).symm.trans aw129k) ⟨rfl, trivial⟩

noncomputable def aw130D : CT cfz := .run 36 [] <| .use dd12 <| .run 1 [(.ck 0)] <| .run 1 [] <| .run 1 [.mg] <| .run 27 [] <| .use aw122 <| .run 1 [(.ck 1)] <| .run 1 [] <| .run 1 [.mg] <| .run 27 [] <| .use aw100 <| .run 1 [(.ck 2)] <| .run 1 [] <| .run 1 [.mg] <| .run 27 [] <| .use dd10 <| .run 1 [(.ck 3)] <| .run 1 [] <| .run 1 [.mg] <| .run 27 [] <| .use aw118 <| .run 1 [(.ck 4)] <| .run 1 [] <| .run 1 [.mg] <| .run 27 [] <| .use df10 <| .run 1 [(.ck 5)] <| .run 1 [] <| .run 1 [.mg] <| .run 21 [] <|  .fin
theorem aw130k : crunS cfz 8 126 aw130D [] (ent cfz 126 qd66) = some (qd111, [.eqA qd435 qd435, .eqA qd440 qd440, .eqA qd438 qd438, .eqA qd434 qd434, .eqA qd439 qd439, .eqA qd441 qd441]) := by kernel_rfl
theorem aw130 : PureCalls cfz.P cfz.glob 126 qd66 qd111 := closed_ok knil (by kernel_rfl) ((crunS_eq cfz 8 126 aw130D [] (ent cfz 126 qd66)).symm.trans aw130k) ⟨rfl, rfl, rfl, rfl, rfl, rfl, trivial⟩

noncomputable def aw131D : CT cfz := .run 193 [] <|  .fin
theorem aw131k : crun cfz 82 aw131D [] (ent cfz 82 qd106) = some ((.d (.v (.int .i64 0))), []) := by kernel_rfl
theorem aw131 : PureCalls cfz.P cfz.glob 82 qd106 (.d (.v (.int .i64 0))) := closed_ok knil (by kernel_rfl) aw131k trivial

noncomputable def aw132D : CT cfz := .run 7 [] <| .use aw130 <| .run 1 [(.ck 0)] <| .use aw131 <| .run 1 [(.ck 1)] <| .run 3 [] <|  .fin
theorem aw132k : crun cfz 84 aw132D [] (ent cfz 84 qd107) = some ((.d (.v (.int .i64 0))), [.eqA qd66 qd66, .eqA qd106 qd106]) := by kernel_rfl
theorem aw132 : PureCalls cfz.P cfz.glob 84 qd107 (.d (.v (.int .i64 0))) := closed_ok knil (by kernel_rfl) aw132k ⟨rfl, rfl, trivial⟩

noncomputable def aw133D : CT cfz := .run 9 [] <| .use dd19 <| .run 1 [(.ck 0)] <| .run 1 [] <| .use aw132 <| .run 1 [(.ck 1)] <| .run 1 [] <| .use dd20 <| .run 1 [(.ck 2)] <| .run 3 [] <|  .fin
theorem aw133k : crun cfz 105 aw133D [] (ent cfz 105 qd107) = some ((.d (.v (.int .i64 0))), [.eqA qd333 qd333, .eqA qd107 qd107, .eqA qd284 qd284]) := by kernel_rfl
theorem aw133 : PureCalls cfz.P cfz.glob 105 qd107 (.d (.v (.int .i64 0))) := closed_ok knil (by kernel_rfl) aw133k ⟨rfl, rfl, rfl, trivial⟩

noncomputable def aw134D : CT cfz := .run 14 [] <| .use dd0 <| .run 1 [(.ck 0)] <| .run 3 [] <|  .fin
theorem aw134k : crun cfz 91 aw134D [] (ent cfz 91 qd229) = some ((.d (.v (.int .i64 0))), [.eqA qd331 qd331]) := by kernel_rfl
theorem aw134 : PureCalls cfz.P cfz.glob 91 qd229 (.d (.v (.int .i64 0))) := closed_ok knil (by kernel_rfl) aw134k ⟨rfl, trivial⟩

noncomputable def aw135D : CT cfz := .run 9 [] <| .use aw133 <| .run 1 [(.ck 0)] <| .run 1 [] <| .use aw134 <| .run 1 [(.ck 1)] <| .run 1 [] <| .use dd20 <| .run 1 [(.ck 2)] <| .run 12 [] <| .use dd6 <| .use dd19 <| .run 1 [(.ck 3), (.ck 4), (.ck 2)] <| .run 186 [] <|  .fin
theorem aw135k : crunS cfz 8 45 aw135D [] (ent cfz 45 qd71) = some (qd60, [.eqA qd107 qd107, .eqA qd229 qd229, .eqA qd284 qd284, .eqA qd332 qd332, .eqA qd333 qd333, .eqA qd284 qd284]) := by kernel_rfl
theorem aw135 : PureCalls cfz.P cfz.glob 45 qd71 qd60 := closed_ok knil (by kernel_rfl) ((crunS_eq cfz 8 45 aw135D [] (ent cfz 45 qd71)).symm.trans aw135k) ⟨rfl, rfl, rfl, rfl, rfl, rfl, trivial⟩

noncomputable def aw136D : CT cfz := .run 14 [] <| .use dd0 <| .run 1 [(.ck 0)] <| .run 3 [] <|  .fin
theorem aw136k : crun cfz 91 aw136D [] (ent cfz 91 qd230) = some ((.d (.v (.int .i64 0))), [.eqA qd331 qd331]) := by kernel_rfl
theorem aw136 : PureCalls cfz.P cfz.glob 91 qd230 (.d (.v (.int .i64 0))) := closed_ok knil (by kernel_rfl) aw136k ⟨rfl, trivial⟩

noncomputable def aw137D : CT cfz := .run 14 [] <| .use dd0 <| .run 1 [(.ck 0)] <| .run 3 [] <|  .fin
theorem aw137k : crun cfz 91 aw137D [] (ent cfz 91 qd216) = some ((.d (.v (.int .i64 0))), [.eqA qd331 qd331]) := by kernel_rfl
theorem aw137 : PureCalls cfz.P cfz.glob 91 qd216 (.d (.v (.int .i64 0))) := closed_ok knil (by kernel_rfl) aw137k ⟨rfl, trivial⟩

noncomputable def aw138D : CT cfz := .run 19 [] <|  .fin
theorem aw138k : crun cfz 106 aw138D [] (ent cfz 106 qd236) = some ((.d (.v (.int .i64 2))), []) := by kernel_rfl
theorem aw138 : PureCalls cfz.P cfz.glob 106 qd236 (.d (.v (.int .i64 2))) := closed_ok knil (by kernel_rfl) aw138k trivial

noncomputable def aw139D : CT cfz := .run 9 [] <| .use aw134 <| .run 1 [(.ck 0)] <| .run 1 [] <| .use aw136 <| .run 1 [(.ck 1)] <| .run 1 [] <| .use aw137 <| .run 1 [(.ck 2)] <| .run 1 [] <| .use dd4 <| .run 1 [(.ck 3)] <| .run 14 [] <| .use aw138 <| .run 1 [(.ck 4)] <| .run 4 [] <|  .fin
theorem aw139k : crun cfz 51 aw139D [] (ent cfz 51 qd236) = some (qd276, [.eqA qd229 qd229, .eqA qd230 qd230, .eqA qd216 qd216, .eqA qd233 qd233, .eqA qd236 qd236]) := by kernel_rfl
theorem aw139 : PureCalls cfz.P cfz.glob 51 qd236 qd276 := closed_ok knil (by kernel_rfl) aw139k ⟨rfl, rfl, rfl, rfl, rfl, trivial⟩

noncomputable def aw140D : CT cfz := .run 14 [] <| .use dd0 <| .run 1 [(.ck 0)] <| .run 3 [] <|  .fin
theorem aw140k : crun cfz 91 aw140D [] (ent cfz 91 qd217) = some ((.d (.v (.int .i64 0))), [.eqA qd331 qd331]) := by kernel_rfl
theorem aw140 : PureCalls cfz.P cfz.glob 91 qd217 (.d (.v (.int .i64 0))) := closed_ok knil (by kernel_rfl) aw140k ⟨rfl, trivial⟩

noncomputable def aw141D : CT cfz := .run 19 [] <|  .fin
theorem aw141k : crun cfz 106 aw141D [] (ent cfz 106 qd237) = some ((.d (.v (.int .i64 1))), []) := by kernel_rfl
theorem aw141 : PureCalls cfz.P cfz.glob 106 qd237 (.d (.v (.int .i64 1))) := closed_ok knil (by kernel_rfl) aw141k trivial

noncomputable def aw142D : CT cfz := .run 10 [] <| .use dd5 <| .run 1 [(.ck 0)] <| .run 1 [] <| .use aw134 <| .run 1 [(.ck 1)] <| .run 1 [] <| .use aw140 <| .run 1 [(.ck 2)] <| .run 1 [] <| .use dd4 <| .run 1 [(.ck 3)] <| .run 15 [] <| .use aw141 <| .run 1 [(.ck 4)] <| .run 42 [] <|  .fin
theorem aw142k : crun cfz 52 aw142D [] (ent cfz 52 qd108) = some (qd281, [.eqA qd273 qd273, .eqA qd229 qd229, .eqA qd217 qd217, .eqA qd233 qd233, .eqA qd237 qd237]) := by kernel_rfl
theorem aw142 : PureCalls cfz.P cfz.glob 52 qd108 qd281 := closed_ok knil (by kernel_rfl) aw142k ⟨rfl, rfl, rfl, rfl, rfl, trivial⟩

noncomputable def aw143D : CT cfz := .run 19 [] <|  .fin
theorem aw143k : crun cfz 106 aw143D [] (ent cfz 106 qd238) = some ((.d (.v (.int .i64 2))), []) := by kernel_rfl
theorem aw143 : PureCalls cfz.P cfz.glob 106 qd238 (.d (.v (.int .i64 2))) := closed_ok knil (by kernel_rfl) aw143k trivial

noncomputable def aw144D : CT cfz := .run 10 [] <| .use dd5 <| .run 1 [(.ck 0)] <| .run 1 [] <| .use aw134 <| .run 1 [(.ck 1)] <| .run 1 [] <| .use aw137 <| .run 1 [(.ck 2)] <| .run 1 [] <| .use dd4 <| .run 1 [(.ck 3)] <| .run 15 [] <| .use aw143 <| .run 1 [(.ck 4)] <| .run 42 [] <|  .fin
theorem aw144k : crun cfz 52 aw144D [] (ent cfz 52 qd109) = some (qd277, [.eqA qd273 qd273, .eqA qd229 qd229, .eqA qd216 qd216, .eqA qd233 qd233, .eqA qd238 qd238]) := by kernel_rfl
theorem aw144 : PureCalls cfz.P cfz.glob 52 qd109 qd277 := closed_ok knil (by kernel_rfl) aw144k ⟨rfl, rfl, rfl, rfl, rfl, trivial⟩

noncomputable def aw145D : CT cfz := .run 14 [] <| .use dd0 <| .run 1 [(.ck 0)] <| .run 3 [] <|  .fin
theorem aw145k : crun cfz 91 aw145D [] (ent cfz 91 qd218) = some ((.d (.v (.int .i64 0))), [.eqA qd331 qd331]) := by kernel_rfl
theorem aw145 : PureCalls cfz.P cfz.glob 91 qd218 (.d (.v (.int .i64 0))) := closed_ok knil (by kernel_rfl) aw145k ⟨rfl, trivial⟩

noncomputable def aw146D : CT cfz := .run 19 [] <|  .fin
theorem aw146k : crun cfz 106 aw146D [] (ent cfz 106 qd239) = some ((.d (.v (.int .i64 2))), []) := by kernel_rfl
theorem aw146 : PureCalls cfz.P cfz.glob 106 qd239 (.d (.v (.int .i64 2))) := closed_ok knil (by kernel_rfl) aw146k trivial

noncomputable def aw147D : CT cfz := .run 10 [] <| .use dd5 <| .run 1 [(.ck 0)] <| .run 1 [] <| .use aw134 <| .run 1 [(.ck 1)] <| .run 1 [] <| .use aw145 <| .run 1 [(.ck 2)] <| .run 1 [] <| .use dd4 <| .run 1 [(.ck 3)] <| .run 15 [] <| .use aw146 <| .run 1 [(.ck 4)] <| .run 38 [] <|  .fin
theorem aw147k : crun cfz 52 aw147D [] (ent cfz 52 qd112) = some (qd281, [.eqA qd273 qd273, .eqA qd229 qd229, .eqA qd218 qd218, .eqA qd233 qd233, .eqA qd239 qd239]) := by kernel_rfl
theorem aw147 : PureCalls cfz.P cfz.glob 52 qd112 qd281 := closed_ok knil (by kernel_rfl) aw147k ⟨rfl, rfl, rfl, rfl, rfl, trivial⟩

noncomputable def aw148D : CT cfz := .run 16 [] <|  .fin
theorem aw148k : crun cfz 143 aw148D [] (ent cfz 143 qd23) = some ((.d (.v (.bool false))), []) := by kernel_rfl
theorem aw148 : PureCalls cfz.P cfz.glob 143 qd23 (.d (.v (.bool false))) := closed_ok knil (by kernel_rfl) aw148k trivial

noncomputable def aw149D : CT cfz := .run 16 [] <|  .fin
theorem aw149k : crun cfz 143 aw149D [] (ent cfz 143 qd24) = some ((.d (.v (.bool false))), []) := by kernel_rfl
theorem aw149 : PureCalls cfz.P cfz.glob 143 qd24 (.d (.v (.bool false))) := closed_ok knil (by kernel_rfl) aw149k trivial

noncomputable def aw150D : CT cfz := .run 16 [] <|  .fin
theorem aw150k : crun cfz 143 aw150D [] (ent cfz 143 qd25) = some ((.d (.v (.bool false))), []) := by kernel_rfl
theorem aw150 : PureCalls cfz.P cfz.glob 143 qd25 (.d (.v (.bool false))) := closed_ok knil (by kernel_rfl) aw150k trivial

noncomputable def aw151D : CT cfz := .run 34 [] <| .use aw148 <| .run 1 [(.ck 0)] <| .run 30 [] <| .use aw149 <| .run 1 [(.ck 1)] <| .run 30 [] <| .use aw150 <| .run 1 [(.ck 2)] <| .run 21 [] <|  .fin
theorem aw151k : crun cfz 133 aw151D [] (ent cfz 133 qd0) = some ((.d (.v (.int .i64 (-1)))), [.eqA qd23 qd23, .eqA qd24 qd24, .eqA qd25 qd25]) := by kernel_rfl
theorem aw151 : PureCalls cfz.P cfz.glob 133 qd0 (.d (.v (.int .i64 (-1)))) := closed_ok knil (by kernel_rfl) aw151k ⟨rfl, rfl, rfl, trivial⟩

noncomputable def aw152D : CT cfz := .run 8 [] <| .use aw151 <| .run 1 [(.ck 0)] <| .run 4 [] <|  .fin
theorem aw152k : crun cfz 142 aw152D [] (ent cfz 142 qd0) = some ((.d (.v (.bool false))), [.eqA qd0 qd0]) := by kernel_rfl
theorem aw152 : PureCalls cfz.P cfz.glob 142 qd0 (.d (.v (.bool false))) := closed_ok knil (by kernel_rfl) aw152k ⟨rfl, trivial⟩

noncomputable def aw153D : CT cfz := .run 36 [] <| .use dd12 <| .run 1 [(.ck 0)] <| .run 1 [] <| .run 1 [.mg] <| .run 27 [] <| .use aw100 <| .run 1 [(.ck 1)] <| .run 1 [] <| .run 1 [.mg] <| .run 27 [] <| .use aw122 <| .run 1 [(.ck 2)] <| .run 1 [] <| .run 1 [.mg] <| .run 21 [] <|  .fin
theorem aw153k : crun cfz 126 aw153D [] (ent cfz 126 qd128) = some (qd245, [.eqA qd435 qd435, .eqA qd438 qd438, .eqA qd440 qd440]) := by kernel_rfl
theorem aw153 : PureCalls cfz.P cfz.glob 126 qd128 qd245 := closed_ok knil (by kernel_rfl) aw153k ⟨rfl, rfl, rfl, trivial⟩

noncomputable def aw154D : CT cfz := .run 7 [] <| .use aw153 <| .run 1 [(.ck 0)] <| .use dd4 <| .run 1 [(.ck 1)] <| .run 3 [] <|  .fin
theorem aw154k : crun cfz 84 aw154D [] (ent cfz 84 qd240) = some ((.d (.v (.int .i64 0))), [.eqA qd128 qd128, .eqA qd233 qd233]) := by kernel_rfl
theorem aw154 : PureCalls cfz.P cfz.glob 84 qd240 (.d (.v (.int .i64 0))) := closed_ok knil (by kernel_rfl) aw154k ⟨rfl, rfl, trivial⟩

noncomputable def aw155D : CT cfz := .run 36 [] <| .use dd12 <| .run 1 [(.ck 0)] <| .run 1 [] <| .run 1 [.mg] <| .run 27 [] <| .use dd10 <| .run 1 [(.ck 1)] <| .run 1 [] <| .run 1 [.mg] <| .run 27 [] <| .use df10 <| .run 1 [(.ck 2)] <| .run 1 [] <| .run 1 [.mg] <| .run 21 [] <|  .fin
theorem aw155k : crun cfz 126 aw155D [] (ent cfz 126 qd129) = some (qd245, [.eqA qd435 qd435, .eqA qd434 qd434, .eqA qd441 qd441]) := by kernel_rfl
theorem aw155 : PureCalls cfz.P cfz.glob 126 qd129 qd245 := closed_ok knil (by kernel_rfl) aw155k ⟨rfl, rfl, rfl, trivial⟩

noncomputable def aw156D : CT cfz := .run 7 [] <| .use aw155 <| .run 1 [(.ck 0)] <| .use dd4 <| .run 1 [(.ck 1)] <| .run 3 [] <|  .fin
theorem aw156k : crun cfz 84 aw156D [] (ent cfz 84 qd241) = some ((.d (.v (.int .i64 0))), [.eqA qd129 qd129, .eqA qd233 qd233]) := by kernel_rfl
theorem aw156 : PureCalls cfz.P cfz.glob 84 qd241 (.d (.v (.int .i64 0))) := closed_ok knil (by kernel_rfl) aw156k ⟨rfl, rfl, trivial⟩

noncomputable def aw157D : CT cfz := .run 36 [] <| .use aw120 <| .run 1 [(.ck 0)] <| .run 1 [] <| .run 1 [.mg] <| .run 27 [] <| .use aw154 <| .run 1 [(.ck 1)] <| .run 1 [] <| .run 1 [.mg] <| .run 27 [] <| .use aw156 <| .run 1 [(.ck 2)] <| .run 1 [] <| .run 1 [.mg] <| .run 21 [] <|  .fin
theorem aw157k : crun cfz 144 aw157D [] (ent cfz 144 qd33) = some (qd245, [.eqA qd234 qd234, .eqA qd240 qd240, .eqA qd241 qd241]) := by kernel_rfl
theorem aw157 : PureCalls cfz.P cfz.glob 144 qd33 qd245 := closed_ok knil (by kernel_rfl) aw157k ⟨rfl, rfl, rfl, trivial⟩

noncomputable def aw158D : CT cfz := .run 8 [] <| .use aw112 <| .use dd19 <| .use dd20 <| .run 1 [.none, (.ck 0), .none, (.ck 1), (.ck 2)] <| .run 11 [] <| .use aw152 <| .run 1 [(.ck 3)] <| .run 5 [] <| .use dd6 <| .run 1 [(.ck 4), .none, .none, (.ck 1), (.ck 2)] <| .run 10 [] <| .use aw157 <| .run 1 [(.ck 5)] <| .use dd4 <| .run 1 [(.ck 6)] <| .run 3 [] <|  .fin
theorem aw158k : crun cfz 104 aw158D [] (ent cfz 104 qd35) = some ((.d (.v (.int .i64 0))), [.eqA qd325 qd325, .eqA qd333 qd333, .eqA qd284 qd284, .eqA qd0 qd0, .eqA qd332 qd332, .eqA qd333 qd333, .eqA qd284 qd284, .eqA qd33 qd33, .eqA qd233 qd233]) := by kernel_rfl
theorem aw158 : PureCalls cfz.P cfz.glob 104 qd35 (.d (.v (.int .i64 0))) := closed_ok knil (by kernel_rfl) aw158k ⟨rfl, rfl, rfl, rfl, rfl, rfl, rfl, rfl, rfl, trivial⟩

noncomputable def aw159D : CT cfz := .run 13 [] <|  .fin
theorem aw159k : crun cfz 109 aw159D [] (ent cfz 109 qd148) = some ((.d (.v (.int .i64 1))), []) := by kernel_rfl
theorem aw159 : PureCalls cfz.P cfz.glob 109 qd148 (.d (.v (.int .i64 1))) := closed_ok knil (by kernel_rfl) aw159k trivial

noncomputable def aw160D : CT cfz := .run 13 [] <|  .fin
theorem aw160k : crun cfz 109 aw160D [] (ent cfz 109 qd149) = some ((.d (.v (.int .i64 1))), []) := by kernel_rfl
theorem aw160 : PureCalls cfz.P cfz.glob 109 qd149 (.d (.v (.int .i64 1))) := closed_ok knil (by kernel_rfl) aw160k trivial

noncomputable def aw161D : CT cfz := .run 13 [] <|  .fin
theorem aw161k : crun cfz 109 aw161D [] (ent cfz 109 qd150) = some ((.d (.v (.int .i64 1))), []) := by kernel_rfl
theorem aw161 : PureCalls cfz.P cfz.glob 109 qd150 (.d (.v (.int .i64 1))) := closed_ok knil (by kernel_rfl) aw161k trivial

noncomputable def aw162D : CT cfz := .run 36 [] <| .use aw159 <| .run 1 [(.ck 0)] <| .run 1 [] <| .run 1 [.mg] <| .run 27 [] <| .use aw160 <| .run 1 [(.ck 1)] <| .run 1 [] <| .run 1 [.mg] <| .run 27 [] <| .use aw161 <| .run 1 [(.ck 2)] <| .run 1 [] <| .run 1 [.mg] <| .run 21 [] <|  .fin
theorem aw162k : crun cfz 108 aw162D [] (ent cfz 108 qd29) = some (qd250, [.eqA qd148 qd148, .eqA qd149 qd149, .eqA qd150 qd150]) := by kernel_rfl
theorem aw162 : PureCalls cfz.P cfz.glob 108 qd29 qd250 := closed_ok knil (by kernel_rfl) aw162k ⟨rfl, rfl, rfl, trivial⟩

noncomputable def aw163D : CT cfz := .run 491 [] <|  .fin
theorem aw163k : crunS cfz 8 145 aw163D [] (ent cfz 145 qd11) = some ((.d (.v (.int .i64 3))), []) := by kernel_rfl
theorem aw163 : PureCalls cfz.P cfz.glob 145 qd11 (.d (.v (.int .i64 3))) := closed_ok knil (by kernel_rfl) ((crunS_eq cfz 8 145 aw163D [] (ent cfz 145 qd11)).symm.trans aw163k) trivial

noncomputable def aw164D : CT cfz := .run 74 [] <|  .fin
theorem aw164k : crun cfz 146 aw164D [] (ent cfz 146 qd1) = some ((.d (.v (.int .i64 1))), []) := by kernel_rfl
theorem aw164 : PureCalls cfz.P cfz.glob 146 qd1 (.d (.v (.int .i64 1))) := closed_ok knil (by kernel_rfl) aw164k trivial

noncomputable def aw165D : CT cfz := .run 490 [] <|  .fin
theorem aw165k : crunS cfz 8 146 aw165D [] (ent cfz 146 qd18) = some ((.d (.v (.int .i64 (-1)))), []) := by kernel_rfl
theorem aw165 : PureCalls cfz.P cfz.glob 146 qd18 (.d (.v (.int .i64 (-1)))) := closed_ok knil (by kernel_rfl) ((crunS_eq cfz 8 146 aw165D [] (ent cfz 146 qd18)).symm.trans aw165k) trivial

noncomputable def aw166D : CT cfz := .run 8 [] <| .use aw165 <| .run 1 [(.ck 0)] <| .run 4 [] <|  .fin
theorem aw166k : crun cfz 110 aw166D [] (ent cfz 110 qd18) = some ((.d (.v (.bool false))), [.eqA qd18 qd18]) := by kernel_rfl
theorem aw166 : PureCalls cfz.P cfz.glob 110 qd18 (.d (.v (.bool false))) := closed_ok knil (by kernel_rfl) aw166k ⟨rfl, trivial⟩

noncomputable def aw167D : CT cfz := .run 115 [] <| .use aw163 <| .run 1 [(.ck 0)] <| .run 6 [] <| .use aw164 <| .run 1 [(.ck 1)] <| .run 9 [] <| .use aw166 <| .run 1 [(.ck 2)] <| .run 5 [] <|  .fin
theorem aw167k : crun cfz 107 aw167D [] (ent cfz 107 qd242) = some (qd282, [.eqA qd11 qd11, .eqA qd1 qd1, .eqA qd18 qd18]) := by kernel_rfl
theorem aw167 : PureCalls cfz.P cfz.glob 107 qd242 qd282 := closed_ok knil (by kernel_rfl) aw167k ⟨rfl, rfl, rfl, trivial⟩

noncomputable def aw168D : CT cfz := .run 13 [] <|  .fin
theorem aw168k : crun cfz 109 aw168D [] (ent cfz 109 qd151) = some ((.d (.v (.int .i64 2))), []) := by kernel_rfl
theorem aw168 : PureCalls cfz.P cfz.glob 109 qd151 (.d (.v (.int .i64 2))) := closed_ok knil (by kernel_rfl) aw168k trivial

noncomputable def aw169D : CT cfz := .run 13 [] <|  .fin
theorem aw169k : crun cfz 109 aw169D [] (ent cfz 109 qd152) = some ((.d (.v (.int .i64 2))), []) := by kernel_rfl
theorem aw169 : PureCalls cfz.P cfz.glob 109 qd152 (.d (.v (.int .i64 2))) := closed_ok knil (by kernel_rfl) aw169k trivial

noncomputable def aw170D : CT cfz := .run 13 [] <|  .fin
theorem aw170k : crun cfz 109 aw170D [] (ent cfz 109 qd153) = some ((.d (.v (.int .i64 5))), []) := by kernel_rfl
theorem aw170 : PureCalls cfz.P cfz.glob 109 qd153 (.d (.v (.int .i64 5))) := closed_ok knil (by kernel_rfl) aw170k trivial

noncomputable def aw171D : CT cfz := .run 36 [] <| .use aw168 <| .run 1 [(.ck 0)] <| .run 1 [] <| .run 1 [.mg] <| .run 27 [] <| .use aw169 <| .run 1 [(.ck 1)] <| .run 1 [] <| .run 1 [.mg] <| .run 27 [] <| .use aw170 <| .run 1 [(.ck 2)] <| .run 1 [] <| .run 1 [.mg] <| .run 21 [] <|  .fin
theorem aw171k : crun cfz 108 aw171D [] (ent cfz 108 qd30) = some (qd251, [.eqA qd151 qd151, .eqA qd152 qd152, .eqA qd153 qd153]) := by kernel_rfl
theorem aw171 : PureCalls cfz.P cfz.glob 108 qd30 qd251 := closed_ok knil (by kernel_rfl) aw171k ⟨rfl, rfl, rfl, trivial⟩

noncomputable def aw172D : CT cfz := .run 491 [] <|  .fin
theorem aw172k : crunS cfz 8 145 aw172D [] (ent cfz 145 qd12) = some ((.d (.v (.int .i64 2))), []) := by kernel_rfl
theorem aw172 : PureCalls cfz.P cfz.glob 145 qd12 (.d (.v (.int .i64 2))) := closed_ok knil (by kernel_rfl) ((crunS_eq cfz 8 145 aw172D [] (ent cfz 145 qd12)).symm.trans aw172k) trivial

noncomputable def aw173D : CT cfz := .run 105 [] <|  .fin
theorem aw173k : crun cfz 146 aw173D [] (ent cfz 146 qd2) = some ((.d (.v (.int .i64 2))), []) := by kernel_rfl
theorem aw173 : PureCalls cfz.P cfz.glob 146 qd2 (.d (.v (.int .i64 2))) := closed_ok knil (by kernel_rfl) aw173k trivial

noncomputable def aw174D : CT cfz := .run 459 [] <|  .fin
theorem aw174k : crunS cfz 8 146 aw174D [] (ent cfz 146 qd20) = some ((.d (.v (.int .i64 (-1)))), []) := by kernel_rfl
theorem aw174 : PureCalls cfz.P cfz.glob 146 qd20 (.d (.v (.int .i64 (-1)))) := closed_ok knil (by kernel_rfl) ((crunS_eq cfz 8 146 aw174D [] (ent cfz 146 qd20)).symm.trans aw174k) trivial

noncomputable def aw175D : CT cfz := .run 8 [] <| .use aw174 <| .run 1 [(.ck 0)] <| .run 4 [] <|  .fin
theorem aw175k : crun cfz 110 aw175D [] (ent cfz 110 qd20) = some ((.d (.v (.bool false))), [.eqA qd20 qd20]) := by kernel_rfl
theorem aw175 : PureCalls cfz.P cfz.glob 110 qd20 (.d (.v (.bool false))) := closed_ok knil (by kernel_rfl) aw175k ⟨rfl, trivial⟩

noncomputable def aw176D : CT cfz := .run 115 [] <| .use aw172 <| .run 1 [(.ck 0)] <| .run 6 [] <| .use aw173 <| .run 1 [(.ck 1)] <| .run 9 [] <| .use aw175 <| .run 1 [(.ck 2)] <| .run 5 [] <|  .fin
theorem aw176k : crun cfz 107 aw176D [] (ent cfz 107 qd243) = some (qd283, [.eqA qd12 qd12, .eqA qd2 qd2, .eqA qd20 qd20]) := by kernel_rfl
theorem aw176 : PureCalls cfz.P cfz.glob 107 qd243 qd283 := closed_ok knil (by kernel_rfl) aw176k ⟨rfl, rfl, rfl, trivial⟩

noncomputable def aw177D : CT cfz := .run 13 [] <|  .fin
theorem aw177k : crun cfz 109 aw177D [] (ent cfz 109 qd154) = some ((.d (.v (.int .i64 3))), []) := by kernel_rfl
theorem aw177 : PureCalls cfz.P cfz.glob 109 qd154 (.d (.v (.int .i64 3))) := closed_ok knil (by kernel_rfl) aw177k trivial

noncomputable def aw178D : CT cfz := .run 13 [] <|  .fin
theorem aw178k : crun cfz 109 aw178D [] (ent cfz 109 qd155) = some ((.d (.v (.int .i64 4))), []) := by kernel_rfl
theorem aw178 : PureCalls cfz.P cfz.glob 109 qd155 (.d (.v (.int .i64 4))) := closed_ok knil (by kernel_rfl) aw178k trivial

noncomputable def aw179D : CT cfz := .run 13 [] <|  .fin
theorem aw179k : crun cfz 109 aw179D [] (ent cfz 109 qd156) = some ((.d (.v (.int .i64 6))), []) := by kernel_rfl
theorem aw179 : PureCalls cfz.P cfz.glob 109 qd156 (.d (.v (.int .i64 6))) := closed_ok knil (by kernel_rfl) aw179k trivial

noncomputable def aw180D : CT cfz := .run 36 [] <| .use aw177 <| .run 1 [(.ck 0)] <| .run 1 [] <| .run 1 [.mg] <| .run 27 [] <| .use aw178 <| .run 1 [(.ck 1)] <| .run 1 [] <| .run 1 [.mg] <| .run 27 [] <| .use aw179 <| .run 1 [(.ck 2)] <| .run 1 [] <| .run 1 [.mg] <| .run 21 [] <|  .fin
theorem aw180k : crun cfz 108 aw180D [] (ent cfz 108 qd31) = some (qd252, [.eqA qd154 qd154, .eqA qd155 qd155, .eqA qd156 qd156]) := by kernel_rfl
theorem aw180 : PureCalls cfz.P cfz.glob 108 qd31 qd252 := closed_ok knil (by kernel_rfl) aw180k ⟨rfl, rfl, rfl, trivial⟩

noncomputable def aw181D : CT cfz := .run 491 [] <|  .fin
theorem aw181k : crunS cfz 8 145 aw181D [] (ent cfz 145 qd13) = some ((.d (.v (.int .i64 1))), []) := by kernel_rfl
theorem aw181 : PureCalls cfz.P cfz.glob 145 qd13 (.d (.v (.int .i64 1))) := closed_ok knil (by kernel_rfl) ((crunS_eq cfz 8 145 aw181D [] (ent cfz 145 qd13)).symm.trans aw181k) trivial

noncomputable def aw182D : CT cfz := .run 136 [] <|  .fin
theorem aw182k : crun cfz 146 aw182D [] (ent cfz 146 qd3) = some ((.d (.v (.int .i64 3))), []) := by kernel_rfl
theorem aw182 : PureCalls cfz.P cfz.glob 146 qd3 (.d (.v (.int .i64 3))) := closed_ok knil (by kernel_rfl) aw182k trivial

noncomputable def aw183D : CT cfz := .run 43 [] <|  .fin
theorem aw183k : crun cfz 146 aw183D [] (ent cfz 146 qd26) = some ((.d (.v (.int .i64 0))), []) := by kernel_rfl
theorem aw183 : PureCalls cfz.P cfz.glob 146 qd26 (.d (.v (.int .i64 0))) := closed_ok knil (by kernel_rfl) aw183k trivial

noncomputable def aw184D : CT cfz := .run 8 [] <| .use aw183 <| .run 1 [(.ck 0)] <| .run 4 [] <|  .fin
theorem aw184k : crun cfz 110 aw184D [] (ent cfz 110 qd26) = some ((.d (.v (.bool true))), [.eqA qd26 qd26]) := by kernel_rfl
theorem aw184 : PureCalls cfz.P cfz.glob 110 qd26 (.d (.v (.bool true))) := closed_ok knil (by kernel_rfl) aw184k ⟨rfl, trivial⟩

noncomputable def aw185D : CT cfz := .run 115 [] <| .use aw181 <| .run 1 [(.ck 0)] <| .run 6 [] <| .use aw182 <| .run 1 [(.ck 1)] <| .run 9 [] <| .use aw184 <| .run 1 [(.ck 2)] <| .run 5 [] <|  .fin
theorem aw185k : crun cfz 107 aw185D [] (ent cfz 107 qd244) = some (qd278, [.eqA qd13 qd13, .eqA qd3 qd3, .eqA qd26 qd26]) := by kernel_rfl
theorem aw185 : PureCalls cfz.P cfz.glob 107 qd244 qd278 := closed_ok knil (by kernel_rfl) aw185k ⟨rfl, rfl, rfl, trivial⟩

noncomputable def aw186D : CT cfz := .run 10 [] <| .use aw158 <| .run 1 [(.ck 0)] <| .run 44 [] <| .run 1 [.enter] <| .run 36 [] <| .use aw159 <| .run 1 [(.ck 1)] <| .run 1 [] <| .run 1 [.mg] <| .run 27 [] <| .use aw160 <| .run 1 [(.ck 2)] <| .run 1 [] <| .run 1 [.mg] <| .run 27 [] <| .use aw161 <| .run 1 [(.ck 3)] <| .run 1 [] <| .run 1 [.mg] <| .run 22 [] <| .use aw167 <| .run 1 [(.ck 4)] <| .run 46 [] <| .run 1 [.enter] <| .run 36 [] <| .use aw168 <| .run 1 [(.ck 5)] <| .run 1 [] <| .run 1 [.mg] <| .run 27 [] <| .use aw169 <| .run 1 [(.ck 6)] <| .run 1 [] <| .run 1 [.mg] <| .run 27 [] <| .use aw170 <| .run 1 [(.ck 7)] <| .run 1 [] <| .run 1 [.mg] <| .run 22 [] <| .use aw176 <| .run 1 [(.ck 8)] <| .run 46 [] <| .run 1 [.enter] <| .run 36 [] <| .use aw177 <| .run 1 [(.ck 9)] <| .run 1 [] <| .run 1 [.mg] <| .run 27 [] <| .use aw178 <| .run 1 [(.ck 10)] <| .run 1 [] <| .run 1 [.mg] <| .run 27 [] <| .use aw179 <| .run 1 [(.ck 11)] <| .run 1 [] <| .run 1 [.mg] <| .run 22 [] <| .use aw185 <| .run 1 [(.ck 12)] <| .run 53 [] <|  .fin
theorem aw186k : crunS cfz 8 61 aw186D [] (ent cfz 61 qd39) = some (qd98, [.eqA qd35 qd35, .eqA qd148 qd148, .eqA qd149 qd149, .eqA qd150 qd150, .eqA qd242 qd242, .eqA qd151 qd151, .eqA qd152 qd152, .eqA qd153 qd153, .eqA qd243 qd243, .eqA qd154 qd154, .eqA qd155 qd155, .eqA qd156 qd156, .eqA qd244 qd244]) := by kernel_rfl
theorem aw186 : PureCalls cfz.P cfz.glob 61 qd39 qd98 := closed_ok knil (by kernel_rfl) ((crunS_eq cfz 8 61 aw186D [] (ent cfz 61 qd39)).symm.trans aw186k) ⟨rfl, rfl, rfl, rfl, rfl, rfl, rfl, rfl, rfl, rfl, rfl, rfl, rfl, trivial⟩

noncomputable def aw187D : CT cfz := .run 74 [] <|  .fin
theorem aw187k : crun cfz 62 aw187D [] (ent cfz 62 qd344) = some (qd192, []) := by kernel_rfl
theorem aw187 : PureCalls cfz.P cfz.glob 62 qd344 qd192 := closed_ok knil (by kernel_rfl) aw187k trivial

noncomputable def aw188D : CT cfz := .run 14 [] <| .use dd0 <| .run 1 [(.ck 0)] <| .run 3 [] <|  .fin
theorem aw188k : crun cfz 91 aw188D [] (ent cfz 91 qd219) = some ((.d (.v (.int .i64 0))), [.eqA qd331 qd331]) := by kernel_rfl
theorem aw188 : PureCalls cfz.P cfz.glob 91 qd219 (.d (.v (.int .i64 0))) := closed_ok knil (by kernel_rfl) aw188k ⟨rfl, trivial⟩

noncomputable def aw189D : CT cfz := .run 7 [] <| .use aw188 <| .run 1 [(.ck 0)] <| .run 3 [] <|  .fin
theorem aw189k : crun cfz 127 aw189D [] (ent cfz 127 qd426) = some ((.d (.v (.int .i64 0))), [.eqA qd219 qd219]) := by kernel_rfl
theorem aw189 : PureCalls cfz.P cfz.glob 127 qd426 (.d (.v (.int .i64 0))) := closed_ok knil (by kernel_rfl) aw189k ⟨rfl, trivial⟩

noncomputable def aw190D : CT cfz := .run 36 [] <| .use dd8 <| .run 1 [(.ck 0)] <| .run 1 [] <| .run 1 [.mg] <| .run 27 [] <| .use aw189 <| .run 1 [(.ck 1)] <| .run 1 [] <| .run 1 [.mg] <| .run 21 [] <|  .fin
theorem aw190k : crun cfz 126 aw190D [] (ent cfz 126 qd157) = some (qd302, [.eqA qd395 qd395, .eqA qd426 qd426]) := by kernel_rfl
theorem aw190 : PureCalls cfz.P cfz.glob 126 qd157 qd302 := closed_ok knil (by kernel_rfl) aw190k ⟨rfl, rfl, trivial⟩

noncomputable def aw191D : CT cfz := .run 7 [] <| .use aw190 <| .run 1 [(.ck 0)] <| .use dd20 <| .run 1 [(.ck 1)] <| .run 3 [] <|  .fin
theorem aw191k : crun cfz 84 aw191D [] (ent cfz 84 qd279) = some ((.d (.v (.int .i64 0))), [.eqA qd157 qd157, .eqA qd284 qd284]) := by kernel_rfl
theorem aw191 : PureCalls cfz.P cfz.glob 84 qd279 (.d (.v (.int .i64 0))) := closed_ok knil (by kernel_rfl) aw191k ⟨rfl, rfl, trivial⟩

noncomputable def aw192D : CT cfz := .run 9 [] <| .use dd19 <| .run 1 [(.ck 0)] <| .run 1 [] <| .use aw191 <| .run 1 [(.ck 1)] <| .run 1 [] <| .use dd20 <| .run 1 [(.ck 2)] <| .run 3 [] <|  .fin
theorem aw192k : crun cfz 105 aw192D [] (ent cfz 105 qd279) = some ((.d (.v (.int .i64 0))), [.eqA qd333 qd333, .eqA qd279 qd279, .eqA qd284 qd284]) := by kernel_rfl
theorem aw192 : PureCalls cfz.P cfz.glob 105 qd279 (.d (.v (.int .i64 0))) := closed_ok knil (by kernel_rfl) aw192k ⟨rfl, rfl, rfl, trivial⟩

noncomputable def aw193D : CT cfz := .run 87 [] <|  .fin
theorem aw193k : crun cfz 146 aw193D [] (ent cfz 146 qd211) = some ((.d (.v (.int .i64 (-1)))), []) := by kernel_rfl
theorem aw193 : PureCalls cfz.P cfz.glob 146 qd211 (.d (.v (.int .i64 (-1)))) := closed_ok knil (by kernel_rfl) aw193k trivial

noncomputable def aw194D : CT cfz := .run 8 [] <| .use aw193 <| .run 1 [(.ck 0)] <| .run 4 [] <|  .fin
theorem aw194k : crun cfz 110 aw194D [] (ent cfz 110 qd211) = some ((.d (.v (.bool false))), [.eqA qd211 qd211]) := by kernel_rfl
theorem aw194 : PureCalls cfz.P cfz.glob 110 qd211 (.d (.v (.bool false))) := closed_ok knil (by kernel_rfl) aw194k ⟨rfl, trivial⟩

noncomputable def aw195D : CT cfz := .run 16 [] <|  .fin
theorem aw195k : crun cfz 83 aw195D [] (ent cfz 83 qd336) = some ((.d (.v (.int .i64 0))), []) := by kernel_rfl
theorem aw195 : PureCalls cfz.P cfz.glob 83 qd336 (.d (.v (.int .i64 0))) := closed_ok knil (by kernel_rfl) aw195k trivial

noncomputable def aw196D : CT cfz := .run 20 [] <|  .fin
theorem aw196k : crun cfz 111 aw196D [] (ent cfz 111 qd212) = some ((.fn (.func 147) [] [(.ip [qd335]), (.ip [(.v (.int .i64 2))])]), []) := by kernel_rfl
theorem aw196 : PureCalls cfz.P cfz.glob 111 qd212 (.fn (.func 147) [] [(.ip [qd335]), (.ip [(.v (.int .i64 2))])]) := closed_ok knil (by kernel_rfl) aw196k trivial

noncomputable def aw197D : CT cfz := .run 9 [] <| .use aw192 <| .run 1 [(.ck 0)] <| .run 4 [] <| .use dd6 <| .run 1 [(.ck 1)] <| .run 1 [] <| .use aw194 <| .run 1 [(.ck 2)] <| .use aw195 <| .run 1 [(.ck 3)] <| .run 1 [] <| .use dd4 <| .run 1 [(.ck 4)] <| .run 17 [] <| .use aw196 <| .run 1 [(.ck 5)] <| .run 36 [] <| .run 1 [.enter] <| .run 43 [] <|  .fin
theorem aw197k : crun cfz 63 aw197D [] (ent cfz 63 qd279) = some (qd271, [.eqA qd279 qd279, .eqA qd332 qd332, .eqA qd211 qd211, .eqA qd336 qd336, .eqA qd233 qd233, .eqA qd212 qd212]) := by kernel_rfl
theorem aw197 : PureCalls cfz.P cfz.glob 63 qd279 qd271 := closed_ok knil (by kernel_rfl) aw197k ⟨rfl, rfl, rfl, rfl, rfl, rfl, trivial⟩

noncomputable def aw198D : CT cfz := .run 7 [] <| .use dd5 <| .use dd6 <| .use aw97 <| .use dd4 <| .run 1 [.none, (.ck 0), .none, (.ck 1), (.ck 2), (.ck 3)] <| .run 1 [] <|  .fin
theorem aw198k : crun cfz 29 aw198D [] (ent cfz 29 qd78) = some ((.d (.v (.int .i64 0))), [.eqA qd273 qd273, .eqA qd332 qd332, .eqA qd171 qd171, .eqA qd233 qd233]) := by kernel_rfl
theorem aw198 : PureCalls cfz.P cfz.glob 29 qd78 (.d (.v (.int .i64 0))) := closed_ok knil (by kernel_rfl) aw198k ⟨rfl, rfl, rfl, rfl, trivial⟩

noncomputable def aw199D : CT cfz := .run 20 [] <|  .fin
theorem aw199k : crun cfz 185 aw199D [] (ent cfz 185 qd440) = some (qd353, []) := by kernel_rfl
theorem aw199 : PureCalls cfz.P cfz.glob 185 qd440 qd353 := closed_ok knil (by kernel_rfl) aw199k trivial

noncomputable def aw200D : CT cfz := .run 25 [] <| .use aw199 <| .run 1 [(.ck 0)] <| .run 3 [] <|  .fin
theorem aw200k : crun cfz 163 aw200D [] (ent cfz 163 qd326) = some (qd353, [.eqA qd440 qd440]) := by kernel_rfl
theorem aw200 : PureCalls cfz.P cfz.glob 163 qd326 qd353 := closed_ok knil (by kernel_rfl) aw200k ⟨rfl, trivial⟩

noncomputable def aw201D : CT cfz := .run 7 [] <| .use aw200 <| .run 1 [(.ck 0)] <| .run 3 [] <|  .fin
theorem aw201k : crun cfz 151 aw201D [] (ent cfz 151 qd440) = some (qd353, [.eqA qd326 qd326]) := by kernel_rfl
theorem aw201 : PureCalls cfz.P cfz.glob 151 qd440 qd353 := closed_ok knil (by kernel_rfl) aw201k ⟨rfl, trivial⟩

noncomputable def aw202D : CT cfz := .run 7 [] <| .use aw201 <| .run 1 [(.ck 0)] <| .run 3 [] <|  .fin
theorem aw202k : crun cfz 114 aw202D [] (ent cfz 114 qd440) = some (qd353, [.eqA qd440 qd440]) := by kernel_rfl
theorem aw202 : PureCalls cfz.P cfz.glob 114 qd440 qd353 := closed_ok knil (by kernel_rfl) aw202k ⟨rfl, trivial⟩

noncomputable def aw203D : CT cfz := .run 20 [] <|  .fin
theorem aw203k : crun cfz 185 aw203D [] (ent cfz 185 qd438) = some (qd354, []) := by kernel_rfl
theorem aw203 : PureCalls cfz.P cfz.glob 185 qd438 qd354 := closed_ok knil (by kernel_rfl) aw203k trivial

noncomputable def aw204D : CT cfz := .run 25 [] <| .use aw203 <| .run 1 [(.ck 0)] <| .run 3 [] <|  .fin
theorem aw204k : crun cfz 163 aw204D [] (ent cfz 163 qd327) = some (qd354, [.eqA qd438 qd438]) := by kernel_rfl
theorem aw204 : PureCalls cfz.P cfz.glob 163 qd327 qd354 := closed_ok knil (by kernel_rfl) aw204k ⟨rfl, trivial⟩

noncomputable def aw205D : CT cfz := .run 7 [] <| .use aw204 <| .run 1 [(.ck 0)] <| .run 3 [] <|  .fin
theorem aw205k : crun cfz 151 aw205D [] (ent cfz 151 qd438) = some (qd354, [.eqA qd327 qd327]) := by kernel_rfl
theorem aw205 : PureCalls cfz.P cfz.glob 151 qd438 qd354 := closed_ok knil (by kernel_rfl) aw205k ⟨rfl, trivial⟩

noncomputable def aw206D : CT cfz := .run 7 [] <| .use aw205 <| .run 1 [(.ck 0)] <| .run 3 [] <|  .fin
theorem aw206k : crun cfz 114 aw206D [] (ent cfz 114 qd438) = some (qd354, [.eqA qd438 qd438]) := by kernel_rfl
theorem aw206 : PureCalls cfz.P cfz.glob 114 qd438 qd354 := closed_ok knil (by kernel_rfl) aw206k ⟨rfl, trivial⟩

noncomputable def aw207D : CT cfz := .run 23 [] <|  .fin
theorem aw207k : crun cfz 185 aw207D [] (ent cfz 185 qd395) = some (qd343, []) := by kernel_rfl
theorem aw207 : PureCalls cfz.P cfz.glob 185 qd395 qd343 := closed_ok knil (by kernel_rfl) aw207k trivial

noncomputable def aw208D : CT cfz := .run 25 [] <| .use aw207 <| .run 1 [(.ck 0)] <| .run 3 [] <|  .fin
theorem aw208k : crun cfz 163 aw208D [] (ent cfz 163 qd322) = some (qd343, [.eqA qd395 qd395]) := by kernel_rfl
theorem aw208 : PureCalls cfz.P cfz.glob 163 qd322 qd343 := closed_ok knil (by kernel_rfl) aw208k ⟨rfl, trivial⟩

noncomputable def aw209D : CT cfz := .run 7 [] <| .use aw208 <| .run 1 [(.ck 0)] <| .run 3 [] <|  .fin
theorem aw209k : crun cfz 151 aw209D [] (ent cfz 151 qd395) = some (qd343, [.eqA qd322 qd322]) := by kernel_rfl
theorem aw209 : PureCalls cfz.P cfz.glob 151 qd395 qd343 := closed_ok knil (by kernel_rfl) aw209k ⟨rfl, trivial⟩

noncomputable def aw210D : CT cfz := .run 7 [] <| .use aw209 <| .run 1 [(.ck 0)] <| .run 3 [] <|  .fin
theorem aw210k : crun cfz 114 aw210D [] (ent cfz 114 qd395) = some (qd343, [.eqA qd395 qd395]) := by kernel_rfl
theorem aw210 : PureCalls cfz.P cfz.glob 114 qd395 qd343 := closed_ok knil (by kernel_rfl) aw210k ⟨rfl, trivial⟩

noncomputable def aw211D : CT cfz := .run 20 [] <|  .fin
theorem aw211k : crun cfz 185 aw211D [] (ent cfz 185 qd434) = some (qd355, []) := by kernel_rfl
theorem aw211 : PureCalls cfz.P cfz.glob 185 qd434 qd355 := closed_ok knil (by kernel_rfl) aw211k trivial

noncomputable def aw212D : CT cfz := .run 25 [] <| .use aw211 <| .run 1 [(.ck 0)] <| .run 3 [] <|  .fin
theorem aw212k : crun cfz 163 aw212D [] (ent cfz 163 qd328) = some (qd355, [.eqA qd434 qd434]) := by kernel_rfl
theorem aw212 : PureCalls cfz.P cfz.glob 163 qd328 qd355 := closed_ok knil (by kernel_rfl) aw212k ⟨rfl, trivial⟩

noncomputable def aw213D : CT cfz := .run 7 [] <| .use aw212 <| .run 1 [(.ck 0)] <| .run 3 [] <|  .fin
theorem aw213k : crun cfz 151 aw213D [] (ent cfz 151 qd434) = some (qd355, [.eqA qd328 qd328]) := by kernel_rfl
theorem aw213 : PureCalls cfz.P cfz.glob 151 qd434 qd355 := closed_ok knil (by kernel_rfl) aw213k ⟨rfl, trivial⟩

noncomputable def aw214D : CT cfz := .run 7 [] <| .use aw213 <| .run 1 [(.ck 0)] <| .run 3 [] <|  .fin
theorem aw214k : crun cfz 114 aw214D [] (ent cfz 114 qd434) = some (qd355, [.eqA qd434 qd434]) := by kernel_rfl
theorem aw214 : PureCalls cfz.P cfz.glob 114 qd434 qd355 := closed_ok knil (by kernel_rfl) aw214k ⟨rfl, trivial⟩

noncomputable def aw215D : CT cfz := .run 20 [] <|  .fin
theorem aw215k : crun cfz 185 aw215D [] (ent cfz 185 qd435) = some (qd356, []) := by kernel_rfl
theorem aw215 : PureCalls cfz.P cfz.glob 185 qd435 qd356 := closed_ok knil (by kernel_rfl) aw215k trivial

noncomputable def aw216D : CT cfz := .run 25 [] <| .use aw215 <| .run 1 [(.ck 0)] <| .run 3 [] <|  .fin
theorem aw216k : crun cfz 163 aw216D [] (ent cfz 163 qd329) = some (qd356, [.eqA qd435 qd435]) := by kernel_rfl
theorem aw216 : PureCalls cfz.P cfz.glob 163 qd329 qd356 := closed_ok knil (by kernel_rfl) aw216k ⟨rfl, trivial⟩

noncomputable def aw217D : CT cfz := .run 7 [] <| .use aw216 <| .run 1 [(.ck 0)] <| .run 3 [] <|  .fin
theorem aw217k : crun cfz 151 aw217D [] (ent cfz 151 qd435) = some (qd356, [.eqA qd329 qd329]) := by kernel_rfl
theorem aw217 : PureCalls cfz.P cfz.glob 151 qd435 qd356 := closed_ok knil (by kernel_rfl) aw217k ⟨rfl, trivial⟩

noncomputable def aw218D : CT cfz := .run 7 [] <| .use aw217 <| .run 1 [(.ck 0)] <| .run 3 [] <|  .fin
theorem aw218k : crun cfz 114 aw218D [] (ent cfz 114 qd435) = some (qd356, [.eqA qd435 qd435]) := by kernel_rfl
theorem aw218 : PureCalls cfz.P cfz.glob 114 qd435 qd356 := closed_ok knil (by kernel_rfl) aw218k ⟨rfl, trivial⟩

noncomputable def aw219D : CT cfz := .run 20 [] <|  .fin
theorem aw219k : crun cfz 185 aw219D [] (ent cfz 185 qd437) = some (qd357, []) := by kernel_rfl
theorem aw219 : PureCalls cfz.P cfz.glob 185 qd437 qd357 := closed_ok knil (by kernel_rfl) aw219k trivial

noncomputable def aw220D : CT cfz := .run 25 [] <| .use aw219 <| .run 1 [(.ck 0)] <| .run 3 [] <|  .fin
theorem aw220k : crun cfz 163 aw220D [] (ent cfz 163 qd330) = some (qd357, [.eqA qd437 qd437]) := by kernel_rfl
theorem aw220 : PureCalls cfz.P cfz.glob 163 qd330 qd357 := closed_ok knil (by kernel_rfl) aw220k ⟨rfl, trivial⟩

noncomputable def aw221D : CT cfz := .run 7 [] <| .use aw220 <| .run 1 [(.ck 0)] <| .run 3 [] <|  .fin
theorem aw221k : crun cfz 151 aw221D [] (ent cfz 151 qd437) = some (qd357, [.eqA qd330 qd330]) := by kernel_rfl
theorem aw221 : PureCalls cfz.P cfz.glob 151 qd437 qd357 := closed_ok knil (by kernel_rfl) aw221k ⟨rfl, trivial⟩

noncomputable def aw222D : CT cfz := .run 7 [] <| .use aw221 <| .run 1 [(.ck 0)] <| .run 3 [] <|  .fin
theorem aw222k : crun cfz 114 aw222D [] (ent cfz 114 qd437) = some (qd357, [.eqA qd437 qd437]) := by kernel_rfl
theorem aw222 : PureCalls cfz.P cfz.glob 114 qd437 qd357 := closed_ok knil (by kernel_rfl) aw222k ⟨rfl, trivial⟩

noncomputable def aw223D : CT cfz := .run 36 [] <| .use aw202 <| .run 1 [(.ck 0)] <| .run 1 [] <| .run 1 [.mg] <| .run 27 [] <| .use aw206 <| .run 1 [(.ck 1)] <| .run 1 [] <| .run 1 [.mg] <| .run 27 [] <| .use aw210 <| .run 1 [(.ck 2)] <| .run 1 [] <| .run 1 [.mg] <| .run 27 [] <| .use aw214 <| .run 1 [(.ck 3)] <| .run 1 [] <| .run 1 [.mg] <| .run 27 [] <| .use aw218 <| .run 1 [(.ck 4)] <| .run 1 [] <| .run 1 [.mg] <| .run 27 [] <| .use aw222 <| .run 1 [(.ck 5)] <| .run 1 [] <| .run 1 [.mg] <| .run 21 [] <|  .fin
theorem aw223k : crunS cfz 8 113 aw223D [] (ent cfz 113 qd65) = some (qd46, [.eqA qd440 qd440, .eqA qd438 qd438, .eqA qd395 qd395, .eqA qd434 qd434, .eqA qd435 qd435, .eqA qd437 qd437]) := by kernel_rfl
theorem aw223 : PureCalls cfz.P cfz.glob 113 qd65 qd46 := closed_ok knil (by kernel_rfl) ((crunS_eq cfz 8 113 aw223D [] (ent cfz 113 qd65)).symm.trans aw223k) ⟨rfl, rfl, rfl, rfl, rfl, rfl, trivial⟩

noncomputable def aw224D : CT cfz := .run 11 [] <| .use aw198 <| .run 1 [(.ck 0)] <| .run 24 [] <| .use aw223 <| .run 1 [(.ck 1)] <| .run 1 [] <| .use join <| .run 1 [(.ck 2)] <| .run 5 [] <|  .fin
theorem aw224k : crun cfz 74 aw224D [] (ent cfz 74 qd78) = some (qd102, [.eqA qd78 qd78, .eqA qd65 qd65, .eqA qd27 qd27]) := by kernel_rfl
theorem aw224 : PureCalls cfz.P cfz.glob 74 qd78 qd102 := closed_ok knil (by kernel_rfl) aw224k ⟨rfl, rfl, rfl, trivial⟩

noncomputable def aw225D : CT cfz := .run 20 [] <|  .fin
theorem aw225k : crun cfz 86 aw225D [] (ent cfz 86 qd288) = some (qd319, []) := by kernel_rfl
theorem aw225 : PureCalls cfz.P cfz.glob 86 qd288 qd319 := closed_ok knil (by kernel_rfl) aw225k trivial

noncomputable def aw226D : CT cfz := .run 11 [] <| .use aw198 <| .run 1 [(.ck 0)] <| .run 14 [] <| .use dd135 <| .run 1 [(.ck 1)] <| .run 10 [] <| .use aw225 <| .run 1 [(.ck 2)] <| .run 4 [] <|  .fin
theorem aw226k : crun cfz 20 aw226D [] (ent cfz 20 qd78) = some (qd195, [.eqA qd78 qd78, .eqA qd78 qd78, .eqA qd288 qd288]) := by kernel_rfl
theorem aw226 : PureCalls cfz.P cfz.glob 20 qd78 qd195 := closed_ok knil (by kernel_rfl) aw226k ⟨rfl, rfl, rfl, trivial⟩

noncomputable def aw227D : CT cfz := .run 7 [] <| .use dd5 <| .use dd6 <| .use aw102 <| .use dd4 <| .run 1 [.none, (.ck 0), .none, (.ck 1), (.ck 2), (.ck 3)] <| .run 1 [] <|  .fin
theorem aw227k : crun cfz 29 aw227D [] (ent cfz 29 qd92) = some ((.d (.v (.int .i64 0))), [.eqA qd273 qd273, .eqA qd332 qd332, .eqA qd178 qd178, .eqA qd233 qd233]) := by kernel_rfl
theorem aw227 : PureCalls cfz.P cfz.glob 29 qd92 (.d (.v (.int .i64 0))) := closed_ok knil (by kernel_rfl) aw227k ⟨rfl, rfl, rfl, rfl, trivial⟩

noncomputable def aw228D : CT cfz := .run 11 [] <| .use aw227 <| .run 1 [(.ck 0)] <| .run 13 [] <| .use aw90 <| .run 1 [(.ck 1)] <| .run 4 [] <|  .fin
theorem aw228k : crun cfz 18 aw228D [] (ent cfz 18 qd92) = some (qd281, [.eqA qd92 qd92, .eqA qd92 qd92]) := by kernel_rfl
theorem aw228 : PureCalls cfz.P cfz.glob 18 qd92 qd281 := closed_ok knil (by kernel_rfl) aw228k ⟨rfl, rfl, trivial⟩

noncomputable def aw229D : CT cfz := .run 36 [] <| .use dd12 <| .run 1 [(.ck 0)] <| .run 1 [] <| .run 1 [.mg] <| .run 27 [] <| .use aw100 <| .run 1 [(.ck 1)] <| .run 1 [] <| .run 1 [.mg] <| .run 21 [] <|  .fin
theorem aw229k : crun cfz 126 aw229D [] (ent cfz 126 qd168) = some (qd302, [.eqA qd435 qd435, .eqA qd438 qd438]) := by kernel_rfl
theorem aw229 : PureCalls cfz.P cfz.glob 126 qd168 qd302 := closed_ok knil (by kernel_rfl) aw229k ⟨rfl, rfl, trivial⟩

noncomputable def aw230D : CT cfz := .run 7 [] <| .use aw229 <| .run 1 [(.ck 0)] <| .use dd20 <| .run 1 [(.ck 1)] <| .run 3 [] <|  .fin
theorem aw230k : crun cfz 84 aw230D [] (ent cfz 84 qd292) = some ((.d (.v (.int .i64 0))), [.eqA qd168 qd168, .eqA qd284 qd284]) := by kernel_rfl
theorem aw230 : PureCalls cfz.P cfz.glob 84 qd292 (.d (.v (.int .i64 0))) := closed_ok knil (by kernel_rfl) aw230k ⟨rfl, rfl, trivial⟩

noncomputable def aw231D : CT cfz := .run 9 [] <| .use dd19 <| .run 1 [(.ck 0)] <| .run 1 [] <| .use aw230 <| .run 1 [(.ck 1)] <| .run 1 [] <| .use dd20 <| .run 1 [(.ck 2)] <| .run 3 [] <|  .fin
theorem aw231k : crun cfz 105 aw231D [] (ent cfz 105 qd292) = some ((.d (.v (.int .i64 0))), [.eqA qd333 qd333, .eqA qd292 qd292, .eqA qd284 qd284]) := by kernel_rfl
theorem aw231 : PureCalls cfz.P cfz.glob 105 qd292 (.d (.v (.int .i64 0))) := closed_ok knil (by kernel_rfl) aw231k ⟨rfl, rfl, rfl, trivial⟩

noncomputable def aw232D : CT cfz := .run 14 [] <| .use dd0 <| .run 1 [(.ck 0)] <| .run 3 [] <|  .fin
theorem aw232k : crun cfz 91 aw232D [] (ent cfz 91 qd231) = some ((.d (.v (.int .i64 0))), [.eqA qd331 qd331]) := by kernel_rfl
theorem aw232 : PureCalls cfz.P cfz.glob 91 qd231 (.d (.v (.int .i64 0))) := closed_ok knil (by kernel_rfl) aw232k ⟨rfl, trivial⟩

noncomputable def aw233D : CT cfz := .run 20 [] <|  .fin
theorem aw233k : crun cfz 86 aw233D [] (ent cfz 86 qd292) = some (qd321, []) := by kernel_rfl
theorem aw233 : PureCalls cfz.P cfz.glob 86 qd292 qd321 := closed_ok knil (by kernel_rfl) aw233k trivial

noncomputable def aw234D : CT cfz := .run 9 [] <| .use aw231 <| .run 1 [(.ck 0)] <| .run 1 [] <| .use aw232 <| .run 1 [(.ck 1)] <| .run 3 [] <| .use dd19 <| .run 1 [(.ck 2)] <| .run 1 [] <| .use dd4 <| .run 1 [(.ck 3)] <| .run 33 [] <| .use aw233 <| .run 1 [(.ck 4)] <| .run 22 [] <| .run 1 [(.ck 4)] <| .run 24 [] <|  .fin
theorem aw234k : crun cfz 60 aw234D [] (ent cfz 60 qd214) = some (qd97, [.eqA qd292 qd292, .eqA qd231 qd231, .eqA qd333 qd333, .eqA qd233 qd233, .eqA qd292 qd292, .eqA qd292 qd292]) := by kernel_rfl
theorem aw234 : PureCalls cfz.P cfz.glob 60 qd214 qd97 := closed_ok knil (by kernel_rfl) aw234k ⟨rfl, rfl, rfl, rfl, rfl, rfl, trivial⟩

noncomputable def aw235D : CT cfz := .run 12 [] <|  .fin
theorem aw235k : crun cfz 199 aw235D [] (ent cfz 199 qd339) = some ((.d (.v (.bool false))), []) := by kernel_rfl
theorem aw235 : PureCalls cfz.P cfz.glob 199 qd339 (.d (.v (.bool false))) := closed_ok knil (by kernel_rfl) aw235k trivial

noncomputable def aw236D : CT cfz := .run 7 [] <| .run 1 [(.ext (.int .u64 4607182418800017408))] <| .run 1 [] <| .run 1 [(.ext (.float .f64 4607182418800017408))] <| .run 3 [] <|  .fin
theorem aw236k : crun cfz 212 aw236D [] (ent cfz 212 qd339) = some ((.d (.v (.float .f64 4607182418800017408))), [(.prop (∀ (w : World), Sem.run cfz.P (callFunc 220 #[Value.float FloatKind.f64 4607182418800017408]) w = Result.ok (Next.value (Value.int IntKind.u64 4607182418800017408)) w)), (.prop (∀ (w : World), Sem.run cfz.P (callFunc 219 #[Value.int IntKind.u64 4607182418800017408]) w = Result.ok (Next.value (Value.float FloatKind.f64 4607182418800017408)) w))]) := by kernel_rfl
theorem aw236 : PureCalls cfz.P cfz.glob 212 qd339 (.d (.v (.float .f64 4607182418800017408))) := closed_ok knil (by kernel_rfl) aw236k ⟨(fun w => pureRun_run (by kernel_rfl) w), ⟨(fun w => pureRun_run (by kernel_rfl) w), trivial⟩⟩

noncomputable def aw237D : CT cfz := .run 13 [] <| .use aw236 <| .run 1 [(.ck 0)] <| .run 9 [] <|  .fin
theorem aw237k : crun cfz 200 aw237D [] (ent cfz 200 qd259) = some ((.d (.v (.bool false))), [.eqA qd339 qd339]) := by kernel_rfl
theorem aw237 : PureCalls cfz.P cfz.glob 200 qd259 (.d (.v (.bool false))) := closed_ok knil (by kernel_rfl) aw237k ⟨rfl, trivial⟩

noncomputable def aw238D : CT cfz := .run 8 [] <| .use aw235 <| .run 1 [(.ck 0)] <| .run 3 [] <| .use aw237 <| .run 1 [(.br false), (.ck 1)] <| .run 4 [] <|  .fin
theorem aw238k : crun cfz 181 aw238D [] (ent cfz 181 qd345) = some ((.d (.v (.bool false))), [.eqA qd339 qd339, .eqA qd259 qd259]) := by kernel_rfl
theorem aw238 : PureCalls cfz.P cfz.glob 181 qd345 (.d (.v (.bool false))) := closed_ok knil (by kernel_rfl) aw238k ⟨rfl, rfl, trivial⟩

noncomputable def aw239D : CT cfz := .run 16 [] <|  .fin
theorem aw239k : crun cfz 180 aw239D [] (ent cfz 180 qd336) = some ((.d (.v (.int .i64 0))), []) := by kernel_rfl
theorem aw239 : PureCalls cfz.P cfz.glob 180 qd336 (.d (.v (.int .i64 0))) := closed_ok knil (by kernel_rfl) aw239k trivial

noncomputable def aw240D : CT cfz := .run 9 [] <| .run 1 [(.ext (.float .f64 4625196817309499392))] <| .run 3 [] <|  .fin
theorem aw240k : crun cfz 201 aw240D [] (ent cfz 201 qd340) = some ((.d (.v (.float .f64 4625196817309499392))), [(.prop (∀ (w : World), Sem.run cfz.P (callFunc 213 #[Value.float FloatKind.f64 4625196817309499392]) w = Result.ok (Next.value (Value.float FloatKind.f64 4625196817309499392)) w))]) := by kernel_rfl
theorem aw240 : PureCalls cfz.P cfz.glob 201 qd340 (.d (.v (.float .f64 4625196817309499392))) := closed_ok knil (by kernel_rfl) aw240k ⟨(fun w => pureRun_run (by kernel_rfl) w), trivial⟩

noncomputable def aw241D : CT cfz := .run 16 [] <|  .fin
theorem aw241k : crun cfz 180 aw241D [] (ent cfz 180 qd331) = some ((.d (.v (.int .i64 0))), []) := by kernel_rfl
theorem aw241 : PureCalls cfz.P cfz.glob 180 qd331 (.d (.v (.int .i64 0))) := closed_ok knil (by kernel_rfl) aw241k trivial

noncomputable def aw242D : CT cfz := .run 19 [] <| .use aw240 <| .run 1 [(.br false), (.ck 0)] <| .run 5 [] <| .use aw241 <| .run 1 [(.ck 1)] <| .run 3 [] <|  .fin
theorem aw242k : crun cfz 182 aw242D [] (ent cfz 182 qd254) = some ((.d (.v (.int .i64 0))), [.eqA qd340 qd340, .eqA qd331 qd331]) := by kernel_rfl
theorem aw242 : PureCalls cfz.P cfz.glob 182 qd254 (.d (.v (.int .i64 0))) := closed_ok knil (by kernel_rfl) aw242k ⟨rfl, rfl, trivial⟩

noncomputable def aw243D : CT cfz := .run 81 [] <|  .fin
theorem aw243k : crun cfz 179 aw243D [] (ent cfz 179 qd284) = some ((.d (.v (.int .i64 0))), []) := by kernel_rfl
theorem aw243 : PureCalls cfz.P cfz.glob 179 qd284 (.d (.v (.int .i64 0))) := closed_ok knil (by kernel_rfl) aw243k trivial

noncomputable def aw244D : CT cfz := .run 7 [] <| .use aw238 <| .run 1 [(.ck 0)] <| .use aw239 <| .run 1 [(.ck 1)] <| .run 1 [] <| .use aw242 <| .run 1 [(.ck 2)] <| .run 1 [] <| .use aw243 <| .run 1 [(.ck 3)] <| .run 3 [] <|  .fin
theorem aw244k : crun cfz 160 aw244D [] (ent cfz 160 qd345) = some ((.d (.v (.int .i64 0))), [.eqA qd345 qd345, .eqA qd336 qd336, .eqA qd254 qd254, .eqA qd284 qd284]) := by kernel_rfl
theorem aw244 : PureCalls cfz.P cfz.glob 160 qd345 (.d (.v (.int .i64 0))) := closed_ok knil (by kernel_rfl) aw244k ⟨rfl, rfl, rfl, rfl, trivial⟩

noncomputable def aw245D : CT cfz := .run 7 [] <| .use dd8 <| .use aw244 <| .use dd0 <| .use dd4 <| .run 1 [.none, (.ck 0), .none, (.ck 1), .none, (.ck 2), (.ck 3)] <| .run 1 [] <|  .fin
theorem aw245k : crun cfz 139 aw245D [] (ent cfz 139 qd257) = some ((.d (.v (.int .i64 0))), [.eqA qd395 qd395, .eqA qd345 qd345, .eqA qd331 qd331, .eqA qd233 qd233]) := by kernel_rfl
theorem aw245 : PureCalls cfz.P cfz.glob 139 qd257 (.d (.v (.int .i64 0))) := closed_ok knil (by kernel_rfl) aw245k ⟨rfl, rfl, rfl, rfl, trivial⟩

noncomputable def aw246D : CT cfz := .run 7 [] <| .use dd10 <| .use aw244 <| .use dd0 <| .use dd4 <| .run 1 [.none, (.ck 0), .none, (.ck 1), .none, (.ck 2), (.ck 3)] <| .run 1 [] <|  .fin
theorem aw246k : crun cfz 139 aw246D [] (ent cfz 139 qd260) = some ((.d (.v (.int .i64 0))), [.eqA qd434 qd434, .eqA qd345 qd345, .eqA qd331 qd331, .eqA qd233 qd233]) := by kernel_rfl
theorem aw246 : PureCalls cfz.P cfz.glob 139 qd260 (.d (.v (.int .i64 0))) := closed_ok knil (by kernel_rfl) aw246k ⟨rfl, rfl, rfl, rfl, trivial⟩

noncomputable def aw247D : CT cfz := .run 7 [] <| .use dd12 <| .use aw244 <| .use dd0 <| .use dd4 <| .run 1 [.none, (.ck 0), .none, (.ck 1), .none, (.ck 2), (.ck 3)] <| .run 1 [] <|  .fin
theorem aw247k : crun cfz 139 aw247D [] (ent cfz 139 qd261) = some ((.d (.v (.int .i64 0))), [.eqA qd435 qd435, .eqA qd345 qd345, .eqA qd331 qd331, .eqA qd233 qd233]) := by kernel_rfl
theorem aw247 : PureCalls cfz.P cfz.glob 139 qd261 (.d (.v (.int .i64 0))) := closed_ok knil (by kernel_rfl) aw247k ⟨rfl, rfl, rfl, rfl, trivial⟩

noncomputable def aw250D : CT cfz := .run 12 [] <|  .fin
theorem aw250k : crun cfz 199 aw250D [] (ent cfz 199 qd341) = some ((.d (.v (.bool false))), []) := by kernel_rfl
theorem aw250 : PureCalls cfz.P cfz.glob 199 qd341 (.d (.v (.bool false))) := closed_ok knil (by kernel_rfl) aw250k trivial

noncomputable def aw251D : CT cfz := .run 7 [] <| .run 1 [(.ext (.int .u64 4602678819172646912))] <| .run 1 [] <| .run 1 [(.ext (.float .f64 4602678819172646912))] <| .run 3 [] <|  .fin
theorem aw251k : crun cfz 212 aw251D [] (ent cfz 212 qd341) = some ((.d (.v (.float .f64 4602678819172646912))), [(.prop (∀ (w : World), Sem.run cfz.P (callFunc 220 #[Value.float FloatKind.f64 4602678819172646912]) w = Result.ok (Next.value (Value.int IntKind.u64 4602678819172646912)) w)), (.prop (∀ (w : World), Sem.run cfz.P (callFunc 219 #[Value.int IntKind.u64 4602678819172646912]) w = Result.ok (Next.value (Value.float FloatKind.f64 4602678819172646912)) w))]) := by kernel_rfl
theorem aw251 : PureCalls cfz.P cfz.glob 212 qd341 (.d (.v (.float .f64 4602678819172646912))) := closed_ok knil (by kernel_rfl) aw251k ⟨(fun w => pureRun_run (by kernel_rfl) w), ⟨(fun w => pureRun_run (by kernel_rfl) w), trivial⟩⟩

noncomputable def aw252D : CT cfz := .run 13 [] <| .use aw251 <| .run 1 [(.ck 0)] <| .run 9 [] <|  .fin
theorem aw252k : crun cfz 200 aw252D [] (ent cfz 200 qd262) = some ((.d (.v (.bool false))), [.eqA qd341 qd341]) := by kernel_rfl
theorem aw252 : PureCalls cfz.P cfz.glob 200 qd262 (.d (.v (.bool false))) := closed_ok knil (by kernel_rfl) aw252k ⟨rfl, trivial⟩

noncomputable def aw253D : CT cfz := .run 8 [] <| .use aw250 <| .run 1 [(.ck 0)] <| .run 3 [] <| .use aw252 <| .run 1 [(.br false), (.ck 1)] <| .run 4 [] <|  .fin
theorem aw253k : crun cfz 181 aw253D [] (ent cfz 181 qd346) = some ((.d (.v (.bool false))), [.eqA qd341 qd341, .eqA qd262 qd262]) := by kernel_rfl
theorem aw253 : PureCalls cfz.P cfz.glob 181 qd346 (.d (.v (.bool false))) := closed_ok knil (by kernel_rfl) aw253k ⟨rfl, rfl, trivial⟩

noncomputable def aw254D : CT cfz := .run 9 [] <| .run 1 [(.ext (.float .f64 4620693217682128896))] <| .run 3 [] <|  .fin
theorem aw254k : crun cfz 201 aw254D [] (ent cfz 201 qd342) = some ((.d (.v (.float .f64 4620693217682128896))), [(.prop (∀ (w : World), Sem.run cfz.P (callFunc 213 #[Value.float FloatKind.f64 4620693217682128896]) w = Result.ok (Next.value (Value.float FloatKind.f64 4620693217682128896)) w))]) := by kernel_rfl
theorem aw254 : PureCalls cfz.P cfz.glob 201 qd342 (.d (.v (.float .f64 4620693217682128896))) := closed_ok knil (by kernel_rfl) aw254k ⟨(fun w => pureRun_run (by kernel_rfl) w), trivial⟩

noncomputable def aw255D : CT cfz := .run 19 [] <| .use aw254 <| .run 1 [(.br false), (.ck 0)] <| .run 5 [] <| .use aw241 <| .run 1 [(.ck 1)] <| .run 3 [] <|  .fin
theorem aw255k : crun cfz 182 aw255D [] (ent cfz 182 qd255) = some ((.d (.v (.int .i64 0))), [.eqA qd342 qd342, .eqA qd331 qd331]) := by kernel_rfl
theorem aw255 : PureCalls cfz.P cfz.glob 182 qd255 (.d (.v (.int .i64 0))) := closed_ok knil (by kernel_rfl) aw255k ⟨rfl, rfl, trivial⟩

noncomputable def aw256D : CT cfz := .run 7 [] <| .use aw253 <| .run 1 [(.ck 0)] <| .use aw239 <| .run 1 [(.ck 1)] <| .run 1 [] <| .use aw255 <| .run 1 [(.ck 2)] <| .run 1 [] <| .use aw243 <| .run 1 [(.ck 3)] <| .run 3 [] <|  .fin
theorem aw256k : crun cfz 160 aw256D [] (ent cfz 160 qd346) = some ((.d (.v (.int .i64 0))), [.eqA qd346 qd346, .eqA qd336 qd336, .eqA qd255 qd255, .eqA qd284 qd284]) := by kernel_rfl
theorem aw256 : PureCalls cfz.P cfz.glob 160 qd346 (.d (.v (.int .i64 0))) := closed_ok knil (by kernel_rfl) aw256k ⟨rfl, rfl, rfl, rfl, trivial⟩

noncomputable def aw257D : CT cfz := .run 7 [] <| .use dd14 <| .use aw256 <| .use dd0 <| .use dd4 <| .run 1 [.none, (.ck 0), .none, (.ck 1), .none, (.ck 2), (.ck 3)] <| .run 1 [] <|  .fin
theorem aw257k : crun cfz 139 aw257D [] (ent cfz 139 qd263) = some ((.d (.v (.int .i64 0))), [.eqA qd436 qd436, .eqA qd346 qd346, .eqA qd331 qd331, .eqA qd233 qd233]) := by kernel_rfl
theorem aw257 : PureCalls cfz.P cfz.glob 139 qd263 (.d (.v (.int .i64 0))) := closed_ok knil (by kernel_rfl) aw257k ⟨rfl, rfl, rfl, rfl, trivial⟩

noncomputable def aw258D : CT cfz := .run 37 [] <| .use aw245 <| .run 1 [(.ck 0)] <| .run 1 [] <| .run 1 [.mg] <| .run 28 [] <| .use aw246 <| .run 1 [(.ck 1)] <| .run 1 [] <| .run 1 [.mg] <| .run 28 [] <| .use aw247 <| .run 1 [(.ck 2)] <| .run 1 [] <| .run 1 [.mg] <| .run 28 [] <| .use aw257 <| .run 1 [(.ck 3)] <| .run 1 [] <| .run 1 [.mg] <| .run 21 [] <|  .fin
theorem aw258k : crun cfz 138 aw258D [] (ent cfz 138 qd34) = some (qd183, [.eqA qd257 qd257, .eqA qd260 qd260, .eqA qd261 qd261, .eqA qd263 qd263]) := by kernel_rfl
theorem aw258 : PureCalls cfz.P cfz.glob 138 qd34 qd183 := closed_ok knil (by kernel_rfl) aw258k ⟨rfl, rfl, rfl, rfl, trivial⟩

noncomputable def aw259D : CT cfz := .run 7 [] <| .use dd5 <| .use dd6 <| .use aw258 <| .use dd16 <| .use dd4 <| .run 1 [.none, (.ck 0), .none, (.ck 1), (.ck 2), (.ck 3), (.ck 4)] <| .run 1 [] <|  .fin
theorem aw259k : crun cfz 98 aw259D [] (ent cfz 98 qd28) = some ((.d (.v (.int .i64 0))), [.eqA qd273 qd273, .eqA qd332 qd332, .eqA qd34 qd34, .eqA qd172 qd172, .eqA qd233 qd233]) := by kernel_rfl
theorem aw259 : PureCalls cfz.P cfz.glob 98 qd28 (.d (.v (.int .i64 0))) := closed_ok knil (by kernel_rfl) aw259k ⟨rfl, rfl, rfl, rfl, rfl, trivial⟩

noncomputable def aw260D : CT cfz := .run 12 [] <|  .fin
theorem aw260k : crun cfz 140 aw260D [] (ent cfz 140 qd346) = some ((.d (.v (.int .i64 8))), []) := by kernel_rfl
theorem aw260 : PureCalls cfz.P cfz.glob 140 qd346 (.d (.v (.int .i64 8))) := closed_ok knil (by kernel_rfl) aw260k trivial

noncomputable def aw261D : CT cfz := .run 130 [] <| .use aw260 <| .run 1 [(.ck 0)] <| .run 22 [] <|  .fin
theorem aw261k : crun cfz 99 aw261D [] (ent cfz 99 qd21) = some ((.d (.v (.int .i64 8))), [.eqA qd346 qd346]) := by kernel_rfl
theorem aw261 : PureCalls cfz.P cfz.glob 99 qd21 (.d (.v (.int .i64 8))) := closed_ok knil (by kernel_rfl) aw261k ⟨rfl, trivial⟩

noncomputable def aw262D : CT cfz := .run 9 [] <| .use aw259 <| .use aw198 <| .use dd20 <| .run 1 [.none, (.ck 0), .none, (.ck 1), (.ck 2)] <| .run 12 [] <| .use dd135 <| .run 1 [(.ck 3)] <| .run 8 [] <| .use aw261 <| .run 1 [(.ck 4)] <| .run 4 [] <|  .fin
theorem aw262k : crun cfz 37 aw262D [] (ent cfz 37 qd4) = some (qd280, [.eqA qd28 qd28, .eqA qd78 qd78, .eqA qd284 qd284, .eqA qd78 qd78, .eqA qd21 qd21]) := by kernel_rfl
theorem aw262 : PureCalls cfz.P cfz.glob 37 qd4 qd280 := closed_ok knil (by kernel_rfl) aw262k ⟨rfl, rfl, rfl, rfl, rfl, trivial⟩

noncomputable def aw263D : CT cfz := .run 181 [] <|  .fin
theorem aw263k : crun cfz 30 aw263D [] (ent cfz 30 qd32) = some ((.d (.v (.bool true))), []) := by kernel_rfl
theorem aw263 : PureCalls cfz.P cfz.glob 30 qd32 (.d (.v (.bool true))) := closed_ok knil (by kernel_rfl) aw263k trivial

noncomputable def aw264D : CT cfz := .run 307 [] <|  .fin
theorem aw264k : crunS cfz 8 50 aw264D [] (ent cfz 50 qd22) = some ((.d (.v (.bool true))), []) := by kernel_rfl
theorem aw264 : PureCalls cfz.P cfz.glob 50 qd22 (.d (.v (.bool true))) := closed_ok knil (by kernel_rfl) ((crunS_eq cfz 8 50 aw264D [] (ent cfz 50 qd22)).symm.trans aw264k) trivial

noncomputable def aw265D : CT cfz := .run 109 [] <|  .fin
theorem aw265k : crun cfz 30 aw265D [] (ent cfz 30 qd95) = some ((.d (.v (.bool true))), []) := by kernel_rfl
theorem aw265 : PureCalls cfz.P cfz.glob 30 qd95 (.d (.v (.bool true))) := closed_ok knil (by kernel_rfl) aw265k trivial

noncomputable def aw266D : CT cfz := .run 61 [] <|  .fin
theorem aw266k : crun cfz 30 aw266D [] (ent cfz 30 qd264) = some ((.d (.v (.bool true))), []) := by kernel_rfl
theorem aw266 : PureCalls cfz.P cfz.glob 30 qd264 (.d (.v (.bool true))) := closed_ok knil (by kernel_rfl) aw266k trivial

noncomputable def aw267D : CT cfz := .run 85 [] <|  .fin
theorem aw267k : crun cfz 30 aw267D [] (ent cfz 30 qd133) = some ((.d (.v (.bool true))), []) := by kernel_rfl
theorem aw267 : PureCalls cfz.P cfz.glob 30 qd133 (.d (.v (.bool true))) := closed_ok knil (by kernel_rfl) aw267k trivial

noncomputable def aw268D : CT cfz := .run 14 [] <|  .fin
theorem aw268k : crun cfz 69 aw268D [] (ent cfz 69 qd256) = some ((.d (.v (.bool true))), []) := by kernel_rfl
theorem aw268 : PureCalls cfz.P cfz.glob 69 qd256 (.d (.v (.bool true))) := closed_ok knil (by kernel_rfl) aw268k trivial

noncomputable def aw269D : CT cfz := .run 85 [] <|  .fin
theorem aw269k : crun cfz 30 aw269D [] (ent cfz 30 qd137) = some ((.d (.v (.bool true))), []) := by kernel_rfl
theorem aw269 : PureCalls cfz.P cfz.glob 30 qd137 (.d (.v (.bool true))) := closed_ok knil (by kernel_rfl) aw269k trivial

noncomputable def aw270D : CT cfz := .run 259 [] <|  .fin
theorem aw270k : crunS cfz 8 50 aw270D [] (ent cfz 50 qd38) = some ((.d (.v (.bool true))), []) := by kernel_rfl
theorem aw270 : PureCalls cfz.P cfz.glob 50 qd38 (.d (.v (.bool true))) := closed_ok knil (by kernel_rfl) ((crunS_eq cfz 8 50 aw270D [] (ent cfz 50 qd38)).symm.trans aw270k) trivial

noncomputable def aw271D : CT cfz := .run 6 [] <| .use aw0 <| .run 1 [(.ck 0)] <| .run 1 [] <| .use aw26 <| .run 1 [(.ck 1)] <| .run 8 [] <| .run 1 [(.ck 0)] <| .run 1 [] <| .use aw38 <| .run 1 [(.ck 2)] <| .run 8 [] <| .run 1 [(.ck 0)] <| .run 1 [] <| .use aw75 <| .run 1 [(.ck 3)] <| .run 8 [] <| .run 1 [(.ck 0)] <| .run 1 [] <| .use aw92 <| .run 1 [(.ck 4)] <| .run 10 [] <| .use aw105 <| .run 1 [(.ck 5)] <| .run 8 [] <| .run 1 [(.ck 0)] <| .run 1 [] <| .run 1 [(.call qd61 qd70)] <| .run 10 [] <| .run 1 [(.ck 0)] <| .run 1 [] <| .run 1 [(.call qd62 qd272)] <| .run 10 [] <| .run 1 [(.ck 0)] <| .run 2 [] <| .use df70 <| .run 1 [(.ck 6)] <| .run 19 [] <| .run 1 [(.ck 0)] <| .run 1 [] <| .use near <| .run 1 [(.ck 7)] <| .run 34 [] <| .use aw106 <| .run 1 [(.br false), (.ck 8)] <| .run 5 [] <| .use aw107 <| .run 1 [(.br false), (.ck 9)] <| .run 5 [] <| .use aw108 <| .run 1 [(.br false), (.ck 10)] <| .run 5 [] <| .use aw109 <| .run 1 [(.br false), (.ck 11)] <| .run 9 [] <| .run 1 [(.br false), (.ck 10)] <| .run 5 [] <| .use aw110 <| .run 1 [(.br false), (.ck 12)] <| .run 5 [] <| .run 1 [(.br false), (.ck 10)] <| .run 5 [] <| .use aw111 <| .run 1 [(.br false), (.ck 13)] <| .run 5 [] <| .run 1 [(.br false), (.ck 10)] <| .run 14 [] <| .use aw129 <| .run 1 [(.ck 14)] <| .run 9 [] <| .use aw135 <| .run 1 [(.ck 15)] <| .run 8 [] <| .use aw139 <| .run 1 [(.ck 16)] <| .run 8 [] <| .run 1 [(.ck 0)] <| .use aw142 <| .run 1 [(.ck 17)] <| .run 8 [] <| .run 1 [(.ck 0)] <| .use aw144 <| .run 1 [(.ck 18)] <| .run 8 [] <| .run 1 [(.ck 0)] <| .use aw147 <| .run 1 [(.ck 19)] <| .run 12 [] <| .use aw186 <| .run 1 [(.ck 20)] <| .run 11 [] <| .use aw187 <| .run 1 [(.ck 21)] <| .run 9 [] <| .use aw197 <| .run 1 [(.ck 22)] <| .run 8 [] <| .run 1 [(.ck 0)] <| .run 1 [] <| .use aw224 <| .run 1 [(.ck 23)] <| .run 8 [] <| .run 1 [(.ck 0)] <| .run 1 [] <| .use aw226 <| .run 1 [(.ck 24)] <| .run 8 [] <| .run 1 [(.ck 0)] <| .run 1 [] <| .use secn <| .run 1 [(.ck 25)] <| .run 8 [] <| .run 1 [(.ck 0)] <| .run 1 [] <| .use aw228 <| .run 1 [(.ck 26)] <| .run 9 [] <| .use aw234 <| .run 1 [(.ck 27)] <| .run 8 [] <| .run 1 [(.ck 0)] <| .run 2 [] <| .use aw262 <| .run 1 [(.ck 28)] <| .run 41 [] <| .use aw263 <| .run 1 [(.br true), (.ck 29)] <| .run 6 [] <| .use aw264 <| .run 1 [(.br true), (.ck 30)] <| .run 18 [] <| .use aw265 <| .run 1 [(.br true), (.ck 31)] <| .run 4 [] <| .use aw266 <| .run 1 [(.br true), (.ck 32)] <| .run 4 [] <| .use aw267 <| .run 1 [(.br true), (.ck 33)] <| .run 4 [] <| .use aw268 <| .run 1 [(.br true), (.ck 34)] <| .run 8 [] <| .use aw269 <| .run 1 [(.br true), (.ck 35)] <| .run 13 [] <| .use aw270 <| .run 1 [(.br true), (.ck 36)] <| .run 8 [] <|  .fin
theorem aw271k : crunS cfz 8 15 aw271D [] (ent cfz 15 []) = some ((.d (.v (.bool true))), [.eqA [] [], .eqA qd89 qd89, .eqA [] [], .eqA qd90 qd90, .eqA [] [], .eqA qd130 qd130, .eqA [] [], .eqA qd131 qd131, .eqA qd50 qd50, .eqA [] [], (.prop ([AV.agg [AV.d (weakD (DV.v (Value.int IntKind.i64 4))), AV.d (weakD (DV.v (Value.int IntKind.i64 2)))], AV.d (DV.sl 4 [DV.v (Value.int IntKind.i64 10), DV.v (Value.int IntKind.i64 5), DV.v (Value.int IntKind.i64 1), DV.v (Value.int IntKind.i64 7)]), AV.d (DV.v (Value.slice none 0 0))] = [AV.agg [AV.d (DV.v (Value.int IntKind.i64 4)), AV.d (DV.v (Value.int IntKind.i64 2))], AV.d (DV.sl 4 [DV.v (Value.int IntKind.i64 10), DV.v (Value.int IntKind.i64 5), DV.v (Value.int IntKind.i64 1), DV.v (Value.int IntKind.i64 7)]), AV.d (DV.v (Value.slice none 0 0))])), (.prop (PureCalls cfz.P cfz.glob 31 [AV.agg [AV.d (DV.v (Value.int IntKind.i64 4)), AV.d (DV.v (Value.int IntKind.i64 2))], AV.d (DV.sl 4 [DV.v (Value.int IntKind.i64 10), DV.v (Value.int IntKind.i64 5), DV.v (Value.int IntKind.i64 1), DV.v (Value.int IntKind.i64 7)]), AV.d (DV.v (Value.slice none 0 0))] (AV.tup [AV.d (DV.sl 4 [DV.v (Value.int IntKind.i64 10), DV.v (Value.int IntKind.i64 5), DV.v (Value.int IntKind.i64 1), DV.v (Value.int IntKind.i64 0)]), AV.d (DV.sl 1 [DV.v (Value.int IntKind.i64 3)]), AV.d (DV.v (Value.int IntKind.i64 0))]))), .eqA [] [], (.prop ([AV.agg [AV.d (weakD (DV.v (Value.int IntKind.i64 4))), AV.d (weakD (DV.v (Value.int IntKind.i64 2)))], AV.d (DV.sl 4 [DV.v (Value.int IntKind.i64 10), DV.v (Value.int IntKind.i64 6), DV.v (Value.int IntKind.i64 1), DV.v (Value.int IntKind.i64 7)]), AV.d (DV.v (Value.slice none 0 0))] = [AV.agg [AV.d (DV.v (Value.int IntKind.i64 4)), AV.d (DV.v (Value.int IntKind.i64 2))], AV.d (DV.sl 4 [DV.v (Value.int IntKind.i64 10), DV.v (Value.int IntKind.i64 6), DV.v (Value.int IntKind.i64 1), DV.v (Value.int IntKind.i64 7)]), AV.d (DV.v (Value.slice none 0 0))])), (.prop (PureCalls cfz.P cfz.glob 31 [AV.agg [AV.d (DV.v (Value.int IntKind.i64 4)), AV.d (DV.v (Value.int IntKind.i64 2))], AV.d (DV.sl 4 [DV.v (Value.int IntKind.i64 10), DV.v (Value.int IntKind.i64 6), DV.v (Value.int IntKind.i64 1), DV.v (Value.int IntKind.i64 7)]), AV.d (DV.v (Value.slice none 0 0))] (AV.tup [AV.d (DV.sl 0 []), AV.d (DV.sl 0 []), AV.d (DV.v (Value.int IntKind.i64 27))]))), .eqA [] [], .eqA qd44 qd44, .eqA [] [], .eqA qd28 qd28, .eqA qd135 qd135, .eqA qd132 qd132, .eqA qd49 qd49, .eqA qd59 qd59, .eqA qd49 qd49, .eqA qd258 qd258, .eqA qd49 qd49, .eqA qd136 qd136, .eqA qd49 qd49, .eqA qd84 qd84, .eqA qd71 qd71, .eqA qd236 qd236, .eqA [] [], .eqA qd108 qd108, .eqA [] [], .eqA qd109 qd109, .eqA [] [], .eqA qd112 qd112, .eqA qd39 qd39, .eqA qd344 qd344, .eqA qd279 qd279, .eqA [] [], .eqA qd78 qd78, .eqA [] [], .eqA qd78 qd78, .eqA [] [], .eqA qd28 qd28, .eqA [] [], .eqA qd92 qd92, .eqA qd214 qd214, .eqA [] [], .eqA qd4 qd4, .eqA qd32 qd32, .eqA qd22 qd22, .eqA qd95 qd95, .eqA qd264 qd264, .eqA qd133 qd133, .eqA qd256 qd256, .eqA qd137 qd137, .eqA qd38 qd38]) := by kernel_rfl
theorem aw271 : PureCalls cfz.P cfz.glob 15 [] (.d (.v (.bool true))) := closed_ok knil (by kernel_rfl) ((crunS_eq cfz 8 15 aw271D [] (ent cfz 15 [])).symm.trans aw271k) ⟨rfl, ⟨rfl, ⟨rfl, ⟨rfl, ⟨rfl, ⟨rfl, ⟨rfl, ⟨rfl, ⟨rfl, ⟨rfl, ⟨rfl, ⟨dd138, ⟨rfl, ⟨rfl, ⟨de150, ⟨rfl, rfl, rfl, rfl, rfl, rfl, rfl, rfl, rfl, rfl, rfl, rfl, rfl, rfl, rfl, rfl, rfl, rfl, rfl, rfl, rfl, rfl, rfl, rfl, rfl, rfl, rfl, rfl, rfl, rfl, rfl, rfl, rfl, rfl, rfl, rfl, rfl, rfl, rfl, rfl, rfl, rfl, rfl, rfl, trivial⟩⟩⟩⟩⟩⟩⟩⟩⟩⟩⟩⟩⟩⟩⟩⟩

noncomputable def F15 : Option (Bool) := some true
theorem f15_eq : F15 = some true := rfl
def out15 (v : Bool) : AV := (.d (.v (.bool v)))
theorem f15 (v : Bool) (h : F15 = some v) : PureCalls cfz.P cfz.glob 15 [] (out15 v) := by
  cases (Option.some.inj h)
  exact aw271
end Go.Kv
