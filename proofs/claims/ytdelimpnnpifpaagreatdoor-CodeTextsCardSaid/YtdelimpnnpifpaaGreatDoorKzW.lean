/- awake(), a closed call: true. -/
import Derived.Test.YtdelimpnnpifpaaGreatDoorKvWs
import Derived.Test.YtdelimpnnpifpaaGreatDoorKvW
import Derived.Test.YtdelimpnnpifpaaGreatDoorKdB
import Derived.Test.YtdelimpnnpifpaaGreatDoorKdC
import Derived.Test.YtdelimpnnpifpaaGreatDoorKaC
set_option linter.all false
namespace Go.Kv
open Go Go.RowKit Go.Proofs
set_option maxRecDepth 100000
theorem aw0 : PQ 79 [] qd274 := cq (.run 10 [] <| .fin) []

theorem aw8 : PQ 91 qd225 (aI 0) := cq (.run 14 [] <| .use dd0 <| .run 1 [(.ck 0)] <| .run 3 [] <| .fin) [.eqA qd331 qd331]

theorem aw9 : PQ 127 qd437 (aI 0) := cq (.run 7 [] <| .use aw8 <| .run 1 [(.ck 0)] <| .run 3 [] <| .fin) [.eqA qd225 qd225]

theorem aw12 : PQ 126 qd103 qd183 := cq (.run 36 [] <| .use aw9 <| .run 1 [(.ck 0)] <| .run 1 [] <| .run 1 [.mg] <| .run 27 [] <| .run 1 [(.ck 0)] <| .run 1 [] <| .run 1 [.mg] <| .run 27 [] <| .use dd12 <| .run 1 [(.ck 1)] <| .run 1 [] <| .run 1 [.mg] <| .run 27 [] <| .run 1 [(.ck 0)] <| .run 1 [] <| .run 1 [.mg] <| .run 21 [] <| .fin) [.eqA qd437 qd437, .eqA qd437 qd437, .eqA qd435 qd435, .eqA qd437 qd437]

theorem aw14 : PQ 84 qd176 (aI 0) := cq (.run 7 [] <| .use aw12 <| .run 1 [(.ck 0)] <| .use dd16 <| .run 1 [(.ck 1)] <| .run 3 [] <| .fin) [.eqA qd103 qd103, .eqA qd172 qd172]

theorem aw15 : PQ 29 qd89 (aI 0) := cq (.run 7 [] <| .use dd5 <| .use dd6 <| .use aw14 <| .use dd4 <| .run 1 [.none, (.ck 0), .none, (.ck 1), (.ck 2), (.ck 3)] <| .run 1 [] <| .fin) [.eqA qd273 qd273, .eqA qd332 qd332, .eqA qd176 qd176, .eqA qd233 qd233]

noncomputable def aw25D : CT cfz := .run 61 [] <| .use dd22 <| .use dd45 <| .run 1 [.none, (.ck 0), (.ck 1), .none] <| .run 24 [] <| .use dd24 <| .run 1 [.none, (.ck 2), (.ck 1), .none] <| .run 24 [] <| .use dd26 <| .use de129 <| .run 1 [.none, (.ck 3), (.ck 4), .none] <| .run 24 [] <| .use dd28 <| .run 1 [.none, (.ck 5), (.ck 4), .none] <| .run 59 [] <| .run 1 [.none, (.ck 0), (.ck 1), .none] <| .run 24 [] <| .run 1 [.none, (.ck 3), (.ck 1), .none] <| .run 24 [] <| .use dd31 <| .use de104 <| .run 1 [.none, (.ck 6), (.ck 7), .none] <| .run 24 [] <| .use dd32 <| .run 1 [.none, (.ck 8), (.ck 7), .none] <| .run 32 [] <|  .fin
theorem aw25k : crunS cfz 8 80 aw25D [] (ent cfz 80 qd89) = some (qd301, [.eqA qd437 qd437, .eqA qd437 qd437, .eqA qd435 qd435, .eqA qd437 qd437, .eqA qd438 qd438, .eqA qd443 qd443, .eqA qd439 qd439, .eqA qd443 qd443, .eqA qd437 qd437, .eqA qd437 qd437, .eqA qd438 qd438, .eqA qd437 qd437, .eqA qd440 qd440, .eqA qd415 qd415, .eqA qd441 qd441, .eqA qd415 qd415]) := by kernel_rfl
theorem aw25 : PQ 80 qd89 qd301 := closed_ok knil (by kernel_rfl) ((crunS_eq cfz 8 80 aw25D [] (ent cfz 80 qd89)).symm.trans aw25k) ⟨rfl, rfl, rfl, rfl, rfl, rfl, rfl, rfl, rfl, rfl, rfl, rfl, rfl, rfl, rfl, rfl, trivial⟩

theorem aw26 : PQ 16 qd89 qd194 := cq (.run 11 [] <| .use aw15 <| .run 1 [(.ck 0)] <| .run 13 [] <| .use aw25 <| .run 1 [(.ck 1)] <| .run 4 [] <| .fin) [.eqA qd89 qd89, .eqA qd89 qd89]

theorem aw29 : PQ 126 qd104 qd183 := cq (.run 36 [] <| .use dd10 <| .run 1 [(.ck 0)] <| .run 1 [] <| .run 1 [.mg] <| .run 27 [] <| .run 1 [(.ck 0)] <| .run 1 [] <| .run 1 [.mg] <| .run 27 [] <| .use dd12 <| .run 1 [(.ck 1)] <| .run 1 [] <| .run 1 [.mg] <| .run 27 [] <| .use aw9 <| .run 1 [(.ck 2)] <| .run 1 [] <| .run 1 [.mg] <| .run 21 [] <| .fin) [.eqA qd434 qd434, .eqA qd434 qd434, .eqA qd435 qd435, .eqA qd437 qd437]

theorem aw30 : PQ 84 qd177 (aI 0) := cq (.run 7 [] <| .use aw29 <| .run 1 [(.ck 0)] <| .use dd16 <| .run 1 [(.ck 1)] <| .run 3 [] <| .fin) [.eqA qd104 qd104, .eqA qd172 qd172]

theorem aw31 : PQ 29 qd90 (aI 0) := cq (.run 7 [] <| .use dd5 <| .use dd6 <| .use aw30 <| .use dd4 <| .run 1 [.none, (.ck 0), .none, (.ck 1), (.ck 2), (.ck 3)] <| .run 1 [] <| .fin) [.eqA qd273 qd273, .eqA qd332 qd332, .eqA qd177 qd177, .eqA qd233 qd233]

theorem aw34 : PQ 122 qd429 (aI 12) := cq (.run 13 [] <| .fin) []

theorem aw35 : PQ 122 qd430 (aI 16) := cq (.run 13 [] <| .fin) []

theorem aw36 : PQ 122 qd431 (aI 12) := cq (.run 13 [] <| .fin) []

noncomputable def aw37D : CT cfz := .run 61 [] <| .use dd22 <| .use df59 <| .run 1 [.none, (.ck 0), (.ck 1), .none] <| .run 24 [] <| .use dd24 <| .use de27 <| .run 1 [.none, (.ck 2), (.ck 3), .none] <| .run 24 [] <| .use dd26 <| .use aw34 <| .run 1 [.none, (.ck 4), (.ck 5), .none] <| .run 24 [] <| .use dd28 <| .run 1 [.none, (.ck 6), (.ck 5), .none] <| .run 59 [] <| .run 1 [.none, (.ck 0), (.ck 1), .none] <| .run 24 [] <| .use aw35 <| .run 1 [.none, (.ck 4), (.ck 7), .none] <| .run 24 [] <| .use dd31 <| .use aw36 <| .run 1 [.none, (.ck 8), (.ck 9), .none] <| .run 24 [] <| .use dd32 <| .run 1 [.none, (.ck 10), (.ck 5), .none] <| .run 32 [] <|  .fin
theorem aw37k : crunS cfz 8 80 aw37D [] (ent cfz 80 qd90) = some (qd287, [.eqA qd437 qd437, .eqA qd434 qd434, .eqA qd435 qd435, .eqA qd418 qd418, .eqA qd438 qd438, .eqA qd429 qd429, .eqA qd439 qd439, .eqA qd429 qd429, .eqA qd437 qd437, .eqA qd434 qd434, .eqA qd438 qd438, .eqA qd430 qd430, .eqA qd440 qd440, .eqA qd431 qd431, .eqA qd441 qd441, .eqA qd429 qd429]) := by kernel_rfl
theorem aw37 : PQ 80 qd90 qd287 := closed_ok knil (by kernel_rfl) ((crunS_eq cfz 8 80 aw37D [] (ent cfz 80 qd90)).symm.trans aw37k) ⟨rfl, rfl, rfl, rfl, rfl, rfl, rfl, rfl, rfl, rfl, rfl, rfl, rfl, rfl, rfl, rfl, trivial⟩

theorem aw38 : PQ 16 qd90 qd191 := cq (.run 11 [] <| .use aw31 <| .run 1 [(.ck 0)] <| .run 13 [] <| .use aw37 <| .run 1 [(.ck 1)] <| .run 4 [] <| .fin) [.eqA qd90 qd90, .eqA qd90 qd90]

theorem aw39 : PQ 126 qd166 qd302 := cq (.run 36 [] <| .use dd12 <| .run 1 [(.ck 0)] <| .run 1 [] <| .run 1 [.mg] <| .run 27 [] <| .use aw9 <| .run 1 [(.ck 1)] <| .run 1 [] <| .run 1 [.mg] <| .run 21 [] <| .fin) [.eqA qd435 qd435, .eqA qd437 qd437]

theorem aw41 : PQ 84 qd288 (aI 0) := cq (.run 7 [] <| .use aw39 <| .run 1 [(.ck 0)] <| .use dd20 <| .run 1 [(.ck 1)] <| .run 3 [] <| .fin) [.eqA qd166 qd166, .eqA qd284 qd284]

theorem aw50 : PQ 134 qd146 (.d (.v (.bool true))) := cq (.run 14 [] <| .fin) []

theorem aw59 : PQ 134 qd143 (.d (.v (.bool true))) := cq (.run 14 [] <| .fin) []

noncomputable def aw60D : CT cfz := .run 508 [] <|  .fin
theorem aw60k : crunS cfz 8 146 aw60D [] (ent cfz 146 qd10) = some ((aI 15), []) := by kernel_rfl
theorem aw60 : PQ 146 qd10 (aI 15) := closed_ok knil (by kernel_rfl) ((crunS_eq cfz 8 146 aw60D [] (ent cfz 146 qd10)).symm.trans aw60k) trivial

theorem aw61 : PQ 135 qd441 (aI 3) := cq (.run 8 [] <| .use aw60 <| .run 1 [(.ck 0)] <| .run 1 [] <| .use dd24 <| .run 1 [(.ck 1)] <| .run 3 [] <| .fin) [.eqA qd10 qd10, .eqA qd435 qd435]

theorem aw63 : PQ 122 qd432 (aI 5) := cq (.run 13 [] <| .fin) []

noncomputable def aw74D : CT cfz := .run 81 [] <| .run 1 [.none, .none, .none, .mg, .enter] <| .run 98 [] <| .run 1 [.enter] <| .run 61 [] <| .use dd22 <| .use dd45 <| .run 1 [.none, (.ck 0), (.ck 1), .none] <| .run 24 [] <| .use dd24 <| .run 1 [.none, (.ck 2), (.ck 1), .none] <| .run 24 [] <| .use dd26 <| .use de129 <| .run 1 [.none, (.ck 3), (.ck 4), .none] <| .run 24 [] <| .use dd28 <| .run 1 [.none, (.ck 5), (.ck 4), .none] <| .run 59 [] <| .run 1 [.none, (.ck 0), (.ck 1), .none] <| .run 24 [] <| .run 1 [.none, (.ck 3), (.ck 1), .none] <| .run 24 [] <| .use dd31 <| .use de104 <| .run 1 [.none, (.ck 6), (.ck 7), .none] <| .run 24 [] <| .use dd32 <| .run 1 [.none, (.ck 8), (.ck 7), .none] <| .run 60 [] <| .run 1 [.enter] <| .run 36 [] <| .use dd52 <| .run 1 [(.ck 9)] <| .run 1 [] <| .run 1 [.mg] <| .run 27 [] <| .use dd80 <| .run 1 [(.ck 10)] <| .run 1 [] <| .run 1 [.mg] <| .run 29 [] <| .use dd54 <| .run 1 [(.ck 11)] <| .run 1 [] <| .run 1 [.mg] <| .run 1 [] <| .run 1 [.mg] <| .run 30 [] <| .run 1 [.enter] <| .run 36 [] <| .use dd55 <| .run 1 [(.ck 12)] <| .run 1 [] <| .run 1 [.mg] <| .run 27 [] <| .use dd83 <| .run 1 [(.ck 13)] <| .run 1 [] <| .run 1 [.mg] <| .run 29 [] <| .use de109 <| .run 1 [(.ck 14)] <| .run 1 [] <| .run 1 [.mg] <| .run 1 [] <| .run 1 [.mg] <| .run 48 [] <| .run 1 [.enter] <| .run 34 [] <| .use aw50 <| .run 1 [(.ck 15)] <| .run 46 [] <| .use dd61 <| .run 1 [(.ck 16)] <| .run 34 [] <| .use dd62 <| .run 1 [(.ck 17)] <| .run 32 [] <| .use de128 <| .run 1 [(.ck 18)] <| .run 32 [] <| .use dd63 <| .run 1 [(.ck 19)] <| .run 113 [] <| .run 1 [.none, .none, (.ck 1), .none] <| .run 21 [] <| .use df35 <| .run 1 [.none, .none, (.ck 20), .none] <| .run 21 [] <| .use dd82 <| .run 1 [.none, .none, (.ck 21), .none] <| .run 62 [] <| .run 1 [.enter] <| .run 34 [] <| .use aw59 <| .run 1 [(.ck 22)] <| .run 46 [] <| .use aw61 <| .run 1 [(.ck 23)] <| .run 34 [] <| .run 1 [(.ck 1)] <| .run 32 [] <| .use dd89 <| .run 1 [(.ck 24)] <| .run 32 [] <| .use aw63 <| .run 1 [(.ck 25)] <| .run 82 [] <| .run 1 [.none, .none, (.ck 17), .none] <| .run 21 [] <| .run 1 [.none, .none, (.ck 1), .none] <| .run 21 [] <| .use dd109 <| .run 1 [.none, .none, (.ck 26), .none] <| .run 171 [] <| .use dd135 <| .run 1 [(.ck 27)] <| .run 5 [] <| .run 1 [] <| .run 6 [] <|  .fin
theorem aw74k : crunS cfz 8 85 aw74D [] (ent cfz 85 qd130) = some (qd180, [.eqA qd437 qd437, .eqA qd437 qd437, .eqA qd435 qd435, .eqA qd437 qd437, .eqA qd438 qd438, .eqA qd443 qd443, .eqA qd439 qd439, .eqA qd443 qd443, .eqA qd437 qd437, .eqA qd437 qd437, .eqA qd438 qd438, .eqA qd437 qd437, .eqA qd440 qd440, .eqA qd415 qd415, .eqA qd441 qd441, .eqA qd415 qd415, .eqA qd304 qd304, .eqA qd308 qd308, .eqA qd373 qd373, .eqA qd305 qd305, .eqA qd309 qd309, .eqA qd368 qd368, .eqA qd146 qd146, .eqA qd435 qd435, .eqA qd435 qd435, .eqA qd439 qd439, .eqA qd442 qd442, .eqA qd437 qd437, .eqA qd441 qd441, .eqA qd375 qd375, .eqA qd143 qd143, .eqA qd441 qd441, .eqA qd437 qd437, .eqA qd410 qd410, .eqA qd432 qd432, .eqA qd435 qd435, .eqA qd437 qd437, .eqA qd376 qd376, .eqA qd78 qd78]) := by kernel_rfl
theorem aw74 : PQ 85 qd130 qd180 := closed_ok knil (by kernel_rfl) ((crunS_eq cfz 8 85 aw74D [] (ent cfz 85 qd130)).symm.trans aw74k) ⟨rfl, rfl, rfl, rfl, rfl, rfl, rfl, rfl, rfl, rfl, rfl, rfl, rfl, rfl, rfl, rfl, rfl, rfl, rfl, rfl, rfl, rfl, rfl, rfl, rfl, rfl, rfl, rfl, rfl, rfl, rfl, rfl, rfl, rfl, rfl, rfl, rfl, rfl, rfl, trivial⟩

theorem aw75 : PQ 19 qd130 qd119 := cq (.run 9 [] <| .use dd5 <| .use dd6 <| .use aw41 <| .use dd4 <| .run 1 [.none, (.ck 0), .none, .none, (.ck 1), (.ck 2), (.ck 3)] <| .run 11 [] <| .use aw74 <| .run 1 [(.ck 4)] <| .run 4 [] <| .fin) [.eqA qd273 qd273, .eqA qd332 qd332, .eqA qd288 qd288, .eqA qd233 qd233, .eqA qd130 qd130]

theorem aw76 : PQ 126 qd167 qd302 := cq (.run 36 [] <| .use aw9 <| .run 1 [(.ck 0)] <| .run 1 [] <| .run 1 [.mg] <| .run 27 [] <| .use dd12 <| .run 1 [(.ck 1)] <| .run 1 [] <| .run 1 [.mg] <| .run 21 [] <| .fin) [.eqA qd437 qd437, .eqA qd435 qd435]

theorem aw77 : PQ 84 qd289 (aI 0) := cq (.run 7 [] <| .use aw76 <| .run 1 [(.ck 0)] <| .use dd20 <| .run 1 [(.ck 1)] <| .run 3 [] <| .fin) [.eqA qd167 qd167, .eqA qd284 qd284]

theorem aw81 : PQ 122 qd370 (aI 2) := cq (.run 13 [] <| .fin) []

theorem aw82 : PQ 134 qd147 (.d (.v (.bool true))) := cq (.run 14 [] <| .fin) []

theorem aw83 : PQ 122 qd436 (aI 7) := cq (.run 13 [] <| .fin) []

theorem aw85 : PQ 134 qd144 (.d (.v (.bool true))) := cq (.run 14 [] <| .fin) []

theorem aw86 : PQ 122 qd433 (aI 2) := cq (.run 13 [] <| .fin) []

noncomputable def aw89D : CT cfz := .run 61 [] <| .use dd22 <| .use dd62 <| .run 1 [.none, (.ck 0), (.ck 1), .none] <| .run 24 [] <| .use dd24 <| .use aw83 <| .run 1 [.none, (.ck 2), (.ck 3), .none] <| .run 24 [] <| .use dd26 <| .run 1 [.none, (.ck 4), (.ck 3), .none] <| .run 24 [] <| .use dd28 <| .use dd27 <| .run 1 [.none, (.ck 5), (.ck 6), .none] <| .run 59 [] <| .run 1 [.none, (.ck 0), (.ck 1), .none] <| .run 24 [] <| .use dd76 <| .run 1 [.none, (.ck 4), (.ck 7), .none] <| .run 24 [] <| .use dd31 <| .use df31 <| .run 1 [.none, (.ck 8), (.ck 9), .none] <| .run 24 [] <| .use dd32 <| .run 1 [.none, (.ck 10), (.ck 6), .none] <| .run 32 [] <|  .fin
theorem aw89k : crunS cfz 8 80 aw89D [] (ent cfz 80 qd92) = some (qd302, [.eqA qd437 qd437, .eqA qd435 qd435, .eqA qd435 qd435, .eqA qd436 qd436, .eqA qd438 qd438, .eqA qd436 qd436, .eqA qd439 qd439, .eqA qd397 qd397, .eqA qd437 qd437, .eqA qd435 qd435, .eqA qd438 qd438, .eqA qd408 qd408, .eqA qd440 qd440, .eqA qd438 qd438, .eqA qd441 qd441, .eqA qd397 qd397]) := by kernel_rfl
theorem aw89 : PQ 80 qd92 qd302 := closed_ok knil (by kernel_rfl) ((crunS_eq cfz 8 80 aw89D [] (ent cfz 80 qd92)).symm.trans aw89k) ⟨rfl, rfl, rfl, rfl, rfl, rfl, rfl, rfl, rfl, rfl, rfl, rfl, rfl, rfl, rfl, rfl, trivial⟩

theorem aw90 : PQ 81 qd92 (.d (.v (.bool true))) := cq (.run 9 [] <| .use aw89 <| .run 1 [(.ck 0)] <| .use dd134 <| .run 1 [(.ck 1)] <| .run 4 [] <| .fin) [.eqA qd92 qd92, .eqA qd164 qd164]

noncomputable def aw91D : CT cfz := .run 81 [] <| .run 1 [.none, .none, .none, .mg, .enter] <| .run 98 [] <| .run 1 [.enter] <| .run 61 [] <| .use dd22 <| .use dd45 <| .run 1 [.none, (.ck 0), (.ck 1), .none] <| .run 24 [] <| .use dd24 <| .run 1 [.none, (.ck 2), (.ck 1), .none] <| .run 24 [] <| .use dd26 <| .run 1 [.none, (.ck 3), (.ck 1), .none] <| .run 24 [] <| .use dd28 <| .use dd23 <| .run 1 [.none, (.ck 4), (.ck 5), .none] <| .run 59 [] <| .run 1 [.none, (.ck 0), (.ck 1), .none] <| .run 24 [] <| .run 1 [.none, (.ck 3), (.ck 1), .none] <| .run 24 [] <| .use dd31 <| .run 1 [.none, (.ck 6), (.ck 1), .none] <| .run 24 [] <| .use dd32 <| .use dd46 <| .run 1 [.none, (.ck 7), (.ck 8), .none] <| .run 60 [] <| .run 1 [.enter] <| .run 36 [] <| .use dd52 <| .run 1 [(.ck 9)] <| .run 1 [] <| .run 1 [.mg] <| .run 27 [] <| .use dd80 <| .run 1 [(.ck 10)] <| .run 1 [] <| .run 1 [.mg] <| .run 29 [] <| .use dd57 <| .run 1 [(.ck 11)] <| .run 1 [] <| .run 1 [.mg] <| .run 1 [] <| .run 1 [.mg] <| .run 30 [] <| .run 1 [.enter] <| .run 36 [] <| .use dd55 <| .run 1 [(.ck 12)] <| .run 1 [] <| .run 1 [.mg] <| .run 27 [] <| .use dd83 <| .run 1 [(.ck 13)] <| .run 1 [] <| .run 1 [.mg] <| .run 29 [] <| .use aw81 <| .run 1 [(.ck 14)] <| .run 1 [] <| .run 1 [.mg] <| .run 1 [] <| .run 1 [.mg] <| .run 48 [] <| .run 1 [.enter] <| .run 34 [] <| .use aw82 <| .run 1 [(.ck 15)] <| .run 46 [] <| .use dd61 <| .run 1 [(.ck 16)] <| .run 34 [] <| .use dd62 <| .run 1 [(.ck 17)] <| .run 32 [] <| .use de128 <| .run 1 [(.ck 18)] <| .run 32 [] <| .use aw83 <| .run 1 [(.ck 19)] <| .run 113 [] <| .run 1 [.none, .none, (.ck 1), .none] <| .run 21 [] <| .use df35 <| .run 1 [.none, .none, (.ck 20), .none] <| .run 21 [] <| .use de37 <| .run 1 [.none, .none, (.ck 21), .none] <| .run 62 [] <| .run 1 [.enter] <| .run 34 [] <| .use aw85 <| .run 1 [(.ck 22)] <| .run 46 [] <| .use aw61 <| .run 1 [(.ck 23)] <| .run 34 [] <| .run 1 [(.ck 1)] <| .run 32 [] <| .use dd89 <| .run 1 [(.ck 24)] <| .run 32 [] <| .use aw86 <| .run 1 [(.ck 25)] <| .run 82 [] <| .run 1 [.none, .none, (.ck 17), .none] <| .run 21 [] <| .run 1 [.none, .none, (.ck 1), .none] <| .run 21 [] <| .run 1 [.none, .none, (.ck 17), .none] <| .run 171 [] <| .use aw90 <| .run 1 [(.ck 26)] <| .run 5 [] <| .run 1 [] <| .run 6 [] <|  .fin
theorem aw91k : crunS cfz 8 85 aw91D [] (ent cfz 85 qd131) = some (qd189, [.eqA qd437 qd437, .eqA qd437 qd437, .eqA qd435 qd435, .eqA qd437 qd437, .eqA qd438 qd438, .eqA qd437 qd437, .eqA qd439 qd439, .eqA qd395 qd395, .eqA qd437 qd437, .eqA qd437 qd437, .eqA qd438 qd438, .eqA qd437 qd437, .eqA qd440 qd440, .eqA qd437 qd437, .eqA qd441 qd441, .eqA qd400 qd400, .eqA qd304 qd304, .eqA qd308 qd308, .eqA qd363 qd363, .eqA qd305 qd305, .eqA qd309 qd309, .eqA qd370 qd370, .eqA qd147 qd147, .eqA qd435 qd435, .eqA qd435 qd435, .eqA qd439 qd439, .eqA qd436 qd436, .eqA qd437 qd437, .eqA qd441 qd441, .eqA qd378 qd378, .eqA qd144 qd144, .eqA qd441 qd441, .eqA qd437 qd437, .eqA qd410 qd410, .eqA qd433 qd433, .eqA qd435 qd435, .eqA qd437 qd437, .eqA qd435 qd435, .eqA qd92 qd92]) := by kernel_rfl
theorem aw91 : PQ 85 qd131 qd189 := closed_ok knil (by kernel_rfl) ((crunS_eq cfz 8 85 aw91D [] (ent cfz 85 qd131)).symm.trans aw91k) ⟨rfl, rfl, rfl, rfl, rfl, rfl, rfl, rfl, rfl, rfl, rfl, rfl, rfl, rfl, rfl, rfl, rfl, rfl, rfl, rfl, rfl, rfl, rfl, rfl, rfl, rfl, rfl, rfl, rfl, rfl, rfl, rfl, rfl, rfl, rfl, rfl, rfl, rfl, rfl, trivial⟩

theorem aw92 : PQ 19 qd131 qd123 := cq (.run 9 [] <| .use dd5 <| .use dd6 <| .use aw77 <| .use dd4 <| .run 1 [.none, (.ck 0), .none, .none, (.ck 1), (.ck 2), (.ck 3)] <| .run 11 [] <| .use aw91 <| .run 1 [(.ck 4)] <| .run 4 [] <| .fin) [.eqA qd273 qd273, .eqA qd332 qd332, .eqA qd289 qd289, .eqA qd233 qd233, .eqA qd131 qd131]

theorem aw96 : PQ 126 qd101 qd183 := cq (.run 36 [] <| .use dd8 <| .run 1 [(.ck 0)] <| .run 1 [] <| .run 1 [.mg] <| .run 27 [] <| .use dd10 <| .run 1 [(.ck 1)] <| .run 1 [] <| .run 1 [.mg] <| .run 27 [] <| .use dd12 <| .run 1 [(.ck 2)] <| .run 1 [] <| .run 1 [.mg] <| .run 27 [] <| .use aw9 <| .run 1 [(.ck 3)] <| .run 1 [] <| .run 1 [.mg] <| .run 21 [] <| .fin) [.eqA qd395 qd395, .eqA qd434 qd434, .eqA qd435 qd435, .eqA qd437 qd437]

theorem aw97 : PQ 84 qd171 (aI 0) := cq (.run 7 [] <| .use aw96 <| .run 1 [(.ck 0)] <| .use dd16 <| .run 1 [(.ck 1)] <| .run 3 [] <| .fin) [.eqA qd101 qd101, .eqA qd172 qd172]

theorem aw98 : PQ 105 qd171 (aI 0) := cq (.run 9 [] <| .use dd19 <| .run 1 [(.ck 0)] <| .run 1 [] <| .use aw97 <| .run 1 [(.ck 1)] <| .run 1 [] <| .use dd20 <| .run 1 [(.ck 2)] <| .run 3 [] <| .fin) [.eqA qd333 qd333, .eqA qd171 qd171, .eqA qd284 qd284]

theorem aw99 : PQ 91 qd226 (aI 0) := cq (.run 14 [] <| .use dd0 <| .run 1 [(.ck 0)] <| .run 3 [] <| .fin) [.eqA qd331 qd331]

theorem aw100 : PQ 127 qd438 (aI 0) := cq (.run 7 [] <| .use aw99 <| .run 1 [(.ck 0)] <| .run 3 [] <| .fin) [.eqA qd226 qd226]

theorem aw101 : PQ 126 qd105 qd183 := cq (.run 36 [] <| .use dd12 <| .run 1 [(.ck 0)] <| .run 1 [] <| .run 1 [.mg] <| .run 27 [] <| .use aw100 <| .run 1 [(.ck 1)] <| .run 1 [] <| .run 1 [.mg] <| .run 27 [] <| .use aw9 <| .run 1 [(.ck 2)] <| .run 1 [] <| .run 1 [.mg] <| .run 27 [] <| .run 1 [(.ck 0)] <| .run 1 [] <| .run 1 [.mg] <| .run 21 [] <| .fin) [.eqA qd435 qd435, .eqA qd438 qd438, .eqA qd437 qd437, .eqA qd435 qd435]

theorem aw102 : PQ 84 qd178 (aI 0) := cq (.run 7 [] <| .use aw101 <| .run 1 [(.ck 0)] <| .use dd16 <| .run 1 [(.ck 1)] <| .run 3 [] <| .fin) [.eqA qd105 qd105, .eqA qd172 qd172]

theorem aw103 : PQ 105 qd178 (aI 0) := cq (.run 9 [] <| .use dd19 <| .run 1 [(.ck 0)] <| .run 1 [] <| .use aw102 <| .run 1 [(.ck 1)] <| .run 1 [] <| .use dd20 <| .run 1 [(.ck 2)] <| .run 3 [] <| .fin) [.eqA qd333 qd333, .eqA qd178 qd178, .eqA qd284 qd284]

theorem aw104 : PQ 94 qd50 qd184 := cq (.run 190 [] <| .fin) []

theorem aw105 : PQ 53 qd50 qd275 := cq (.run 9 [] <| .use aw98 <| .run 1 [(.ck 0)] <| .run 1 [] <| .use aw103 <| .run 1 [(.ck 1)] <| .run 5 [] <| .use dd6 <| .run 1 [(.ck 2)] <| .run 1 [] <| .use dd4 <| .run 1 [(.ck 3)] <| .run 13 [] <| .use aw104 <| .run 1 [(.ck 4)] <| .run 5 [] <| .fin) [.eqA qd171 qd171, .eqA qd178 qd178, .eqA qd332 qd332, .eqA qd233 qd233, .eqA qd50 qd50]

theorem aw106 : PQ 30 qd135 (.d (.v (.bool true))) := cq (.run 85 [] <| .fin) []

theorem aw107 : PQ 30 qd132 (.d (.v (.bool true))) := cq (.run 85 [] <| .fin) []

theorem aw108 : PQ 30 qd49 (.d (.v (.bool true))) := cq (.run 133 [] <| .fin) []

theorem aw109 : PQ 30 qd59 (.d (.v (.bool true))) := cq (.run 133 [] <| .fin) []

theorem aw110 : PQ 30 qd258 (.d (.v (.bool true))) := cq (.run 61 [] <| .fin) []

theorem aw111 : PQ 30 qd136 (.d (.v (.bool true))) := cq (.run 85 [] <| .fin) []

theorem aw112 : PQ 83 qd325 (aI 0) := cq (.run 16 [] <| .fin) []

theorem aw113 : PQ 143 qd36 (.d (.v (.bool false))) := cq (.run 16 [] <| .fin) []

theorem aw114 : PQ 143 qd37 (.d (.v (.bool false))) := cq (.run 16 [] <| .fin) []

theorem aw115 : PQ 133 qd19 (aI (-1)) := cq (.run 34 [] <| .use aw113 <| .run 1 [(.ck 0)] <| .run 30 [] <| .use aw114 <| .run 1 [(.ck 1)] <| .run 21 [] <| .fin) [.eqA qd36 qd36, .eqA qd37 qd37]

theorem aw116 : PQ 142 qd19 (.d (.v (.bool false))) := cq (.run 8 [] <| .use aw115 <| .run 1 [(.ck 0)] <| .run 4 [] <| .fin) [.eqA qd19 qd19]

theorem aw117 : PQ 91 qd227 (aI 0) := cq (.run 14 [] <| .use dd0 <| .run 1 [(.ck 0)] <| .run 3 [] <| .fin) [.eqA qd331 qd331]

theorem aw118 : PQ 127 qd439 (aI 0) := cq (.run 7 [] <| .use aw117 <| .run 1 [(.ck 0)] <| .run 3 [] <| .fin) [.eqA qd227 qd227]

theorem aw119 : PQ 126 qd126 qd245 := cq (.run 36 [] <| .use dd12 <| .run 1 [(.ck 0)] <| .run 1 [] <| .run 1 [.mg] <| .run 27 [] <| .use aw100 <| .run 1 [(.ck 1)] <| .run 1 [] <| .run 1 [.mg] <| .run 27 [] <| .use aw118 <| .run 1 [(.ck 2)] <| .run 1 [] <| .run 1 [.mg] <| .run 21 [] <| .fin) [.eqA qd435 qd435, .eqA qd438 qd438, .eqA qd439 qd439]

theorem aw120 : PQ 84 qd234 (aI 0) := cq (.run 7 [] <| .use aw119 <| .run 1 [(.ck 0)] <| .use dd4 <| .run 1 [(.ck 1)] <| .run 3 [] <| .fin) [.eqA qd126 qd126, .eqA qd233 qd233]

theorem aw121 : PQ 91 qd228 (aI 0) := cq (.run 14 [] <| .use dd0 <| .run 1 [(.ck 0)] <| .run 3 [] <| .fin) [.eqA qd331 qd331]

theorem aw122 : PQ 127 qd440 (aI 0) := cq (.run 7 [] <| .use aw121 <| .run 1 [(.ck 0)] <| .run 3 [] <| .fin) [.eqA qd228 qd228]

theorem aw125 : PQ 126 qd127 qd245 := cq (.run 36 [] <| .use aw122 <| .run 1 [(.ck 0)] <| .run 1 [] <| .run 1 [.mg] <| .run 27 [] <| .use dd10 <| .run 1 [(.ck 1)] <| .run 1 [] <| .run 1 [.mg] <| .run 27 [] <| .use df10 <| .run 1 [(.ck 2)] <| .run 1 [] <| .run 1 [.mg] <| .run 21 [] <| .fin) [.eqA qd440 qd440, .eqA qd434 qd434, .eqA qd441 qd441]

theorem aw126 : PQ 84 qd235 (aI 0) := cq (.run 7 [] <| .use aw125 <| .run 1 [(.ck 0)] <| .use dd4 <| .run 1 [(.ck 1)] <| .run 3 [] <| .fin) [.eqA qd127 qd127, .eqA qd233 qd233]

theorem aw127 : PQ 144 qd45 qd302 := cq (.run 36 [] <| .use aw120 <| .run 1 [(.ck 0)] <| .run 1 [] <| .run 1 [.mg] <| .run 27 [] <| .use aw126 <| .run 1 [(.ck 1)] <| .run 1 [] <| .run 1 [.mg] <| .run 21 [] <| .fin) [.eqA qd234 qd234, .eqA qd235 qd235]

theorem aw128 : PQ 104 qd64 (aI 0) := cq (.run 8 [] <| .use aw112 <| .use dd19 <| .use dd20 <| .run 1 [.none, (.ck 0), .none, (.ck 1), (.ck 2)] <| .run 11 [] <| .use aw116 <| .run 1 [(.ck 3)] <| .run 5 [] <| .use dd6 <| .run 1 [(.ck 4), .none, .none, (.ck 1), (.ck 2)] <| .run 10 [] <| .use aw127 <| .run 1 [(.ck 5)] <| .run 1 [(.ck 2)] <| .run 3 [] <| .fin) [.eqA qd325 qd325, .eqA qd333 qd333, .eqA qd284 qd284, .eqA qd19 qd19, .eqA qd332 qd332, .eqA qd333 qd333, .eqA qd284 qd284, .eqA qd45 qd45, .eqA qd284 qd284]

noncomputable def aw129D : CT cfz := .run 9 [] <| .use aw128 <| .run 1 [(.ck 0)] <| .run 329 [] <|  .fin
theorem aw129k : crunS cfz 8 43 aw129D [] (ent cfz 43 qd84) = some (qd69, [.eqA qd64 qd64]) := by kernel_rfl
theorem aw129 : PQ 43 qd84 qd69 := closed_ok knil (by kernel_rfl) ((crunS_eq cfz 8 43 aw129D [] (ent cfz 43 qd84)).symm.trans aw129k) ⟨rfl, trivial⟩

noncomputable def aw130D : CT cfz := .run 36 [] <| .use dd12 <| .run 1 [(.ck 0)] <| .run 1 [] <| .run 1 [.mg] <| .run 27 [] <| .use aw122 <| .run 1 [(.ck 1)] <| .run 1 [] <| .run 1 [.mg] <| .run 27 [] <| .use aw100 <| .run 1 [(.ck 2)] <| .run 1 [] <| .run 1 [.mg] <| .run 27 [] <| .use dd10 <| .run 1 [(.ck 3)] <| .run 1 [] <| .run 1 [.mg] <| .run 27 [] <| .use aw118 <| .run 1 [(.ck 4)] <| .run 1 [] <| .run 1 [.mg] <| .run 27 [] <| .use df10 <| .run 1 [(.ck 5)] <| .run 1 [] <| .run 1 [.mg] <| .run 21 [] <|  .fin
theorem aw130k : crunS cfz 8 126 aw130D [] (ent cfz 126 qd66) = some (qd111, [.eqA qd435 qd435, .eqA qd440 qd440, .eqA qd438 qd438, .eqA qd434 qd434, .eqA qd439 qd439, .eqA qd441 qd441]) := by kernel_rfl
theorem aw130 : PQ 126 qd66 qd111 := closed_ok knil (by kernel_rfl) ((crunS_eq cfz 8 126 aw130D [] (ent cfz 126 qd66)).symm.trans aw130k) ⟨rfl, rfl, rfl, rfl, rfl, rfl, trivial⟩

theorem aw131 : PQ 82 qd106 (aI 0) := cq (.run 193 [] <| .fin) []

theorem aw132 : PQ 84 qd107 (aI 0) := cq (.run 7 [] <| .use aw130 <| .run 1 [(.ck 0)] <| .use aw131 <| .run 1 [(.ck 1)] <| .run 3 [] <| .fin) [.eqA qd66 qd66, .eqA qd106 qd106]

theorem aw133 : PQ 105 qd107 (aI 0) := cq (.run 9 [] <| .use dd19 <| .run 1 [(.ck 0)] <| .run 1 [] <| .use aw132 <| .run 1 [(.ck 1)] <| .run 1 [] <| .use dd20 <| .run 1 [(.ck 2)] <| .run 3 [] <| .fin) [.eqA qd333 qd333, .eqA qd107 qd107, .eqA qd284 qd284]

theorem aw134 : PQ 91 qd229 (aI 0) := cq (.run 14 [] <| .use dd0 <| .run 1 [(.ck 0)] <| .run 3 [] <| .fin) [.eqA qd331 qd331]

noncomputable def aw135D : CT cfz := .run 9 [] <| .use aw133 <| .run 1 [(.ck 0)] <| .run 1 [] <| .use aw134 <| .run 1 [(.ck 1)] <| .run 1 [] <| .use dd20 <| .run 1 [(.ck 2)] <| .run 12 [] <| .use dd6 <| .use dd19 <| .run 1 [(.ck 3), (.ck 4), (.ck 2)] <| .run 186 [] <|  .fin
theorem aw135k : crunS cfz 8 45 aw135D [] (ent cfz 45 qd71) = some (qd60, [.eqA qd107 qd107, .eqA qd229 qd229, .eqA qd284 qd284, .eqA qd332 qd332, .eqA qd333 qd333, .eqA qd284 qd284]) := by kernel_rfl
theorem aw135 : PQ 45 qd71 qd60 := closed_ok knil (by kernel_rfl) ((crunS_eq cfz 8 45 aw135D [] (ent cfz 45 qd71)).symm.trans aw135k) ⟨rfl, rfl, rfl, rfl, rfl, rfl, trivial⟩

theorem aw136 : PQ 91 qd230 (aI 0) := cq (.run 14 [] <| .use dd0 <| .run 1 [(.ck 0)] <| .run 3 [] <| .fin) [.eqA qd331 qd331]

theorem aw137 : PQ 91 qd216 (aI 0) := cq (.run 14 [] <| .use dd0 <| .run 1 [(.ck 0)] <| .run 3 [] <| .fin) [.eqA qd331 qd331]

theorem aw138 : PQ 106 qd236 (aI 2) := cq (.run 19 [] <| .fin) []

theorem aw139 : PQ 51 qd236 qd276 := cq (.run 9 [] <| .use aw134 <| .run 1 [(.ck 0)] <| .run 1 [] <| .use aw136 <| .run 1 [(.ck 1)] <| .run 1 [] <| .use aw137 <| .run 1 [(.ck 2)] <| .run 1 [] <| .use dd4 <| .run 1 [(.ck 3)] <| .run 14 [] <| .use aw138 <| .run 1 [(.ck 4)] <| .run 4 [] <| .fin) [.eqA qd229 qd229, .eqA qd230 qd230, .eqA qd216 qd216, .eqA qd233 qd233, .eqA qd236 qd236]

theorem aw140 : PQ 91 qd217 (aI 0) := cq (.run 14 [] <| .use dd0 <| .run 1 [(.ck 0)] <| .run 3 [] <| .fin) [.eqA qd331 qd331]

theorem aw141 : PQ 106 qd237 (aI 1) := cq (.run 19 [] <| .fin) []

theorem aw142 : PQ 52 qd108 qd281 := cq (.run 10 [] <| .use dd5 <| .run 1 [(.ck 0)] <| .run 1 [] <| .use aw134 <| .run 1 [(.ck 1)] <| .run 1 [] <| .use aw140 <| .run 1 [(.ck 2)] <| .run 1 [] <| .use dd4 <| .run 1 [(.ck 3)] <| .run 15 [] <| .use aw141 <| .run 1 [(.ck 4)] <| .run 42 [] <| .fin) [.eqA qd273 qd273, .eqA qd229 qd229, .eqA qd217 qd217, .eqA qd233 qd233, .eqA qd237 qd237]

theorem aw143 : PQ 106 qd238 (aI 2) := cq (.run 19 [] <| .fin) []

theorem aw144 : PQ 52 qd109 qd277 := cq (.run 10 [] <| .use dd5 <| .run 1 [(.ck 0)] <| .run 1 [] <| .use aw134 <| .run 1 [(.ck 1)] <| .run 1 [] <| .use aw137 <| .run 1 [(.ck 2)] <| .run 1 [] <| .use dd4 <| .run 1 [(.ck 3)] <| .run 15 [] <| .use aw143 <| .run 1 [(.ck 4)] <| .run 42 [] <| .fin) [.eqA qd273 qd273, .eqA qd229 qd229, .eqA qd216 qd216, .eqA qd233 qd233, .eqA qd238 qd238]

theorem aw145 : PQ 91 qd218 (aI 0) := cq (.run 14 [] <| .use dd0 <| .run 1 [(.ck 0)] <| .run 3 [] <| .fin) [.eqA qd331 qd331]

theorem aw146 : PQ 106 qd239 (aI 2) := cq (.run 19 [] <| .fin) []

theorem aw147 : PQ 52 qd112 qd281 := cq (.run 10 [] <| .use dd5 <| .run 1 [(.ck 0)] <| .run 1 [] <| .use aw134 <| .run 1 [(.ck 1)] <| .run 1 [] <| .use aw145 <| .run 1 [(.ck 2)] <| .run 1 [] <| .use dd4 <| .run 1 [(.ck 3)] <| .run 15 [] <| .use aw146 <| .run 1 [(.ck 4)] <| .run 38 [] <| .fin) [.eqA qd273 qd273, .eqA qd229 qd229, .eqA qd218 qd218, .eqA qd233 qd233, .eqA qd239 qd239]

theorem aw148 : PQ 143 qd23 (.d (.v (.bool false))) := cq (.run 16 [] <| .fin) []

theorem aw149 : PQ 143 qd24 (.d (.v (.bool false))) := cq (.run 16 [] <| .fin) []

theorem aw150 : PQ 143 qd25 (.d (.v (.bool false))) := cq (.run 16 [] <| .fin) []

theorem aw151 : PQ 133 qd0 (aI (-1)) := cq (.run 34 [] <| .use aw148 <| .run 1 [(.ck 0)] <| .run 30 [] <| .use aw149 <| .run 1 [(.ck 1)] <| .run 30 [] <| .use aw150 <| .run 1 [(.ck 2)] <| .run 21 [] <| .fin) [.eqA qd23 qd23, .eqA qd24 qd24, .eqA qd25 qd25]

theorem aw152 : PQ 142 qd0 (.d (.v (.bool false))) := cq (.run 8 [] <| .use aw151 <| .run 1 [(.ck 0)] <| .run 4 [] <| .fin) [.eqA qd0 qd0]

theorem aw153 : PQ 126 qd128 qd245 := cq (.run 36 [] <| .use dd12 <| .run 1 [(.ck 0)] <| .run 1 [] <| .run 1 [.mg] <| .run 27 [] <| .use aw100 <| .run 1 [(.ck 1)] <| .run 1 [] <| .run 1 [.mg] <| .run 27 [] <| .use aw122 <| .run 1 [(.ck 2)] <| .run 1 [] <| .run 1 [.mg] <| .run 21 [] <| .fin) [.eqA qd435 qd435, .eqA qd438 qd438, .eqA qd440 qd440]

theorem aw154 : PQ 84 qd240 (aI 0) := cq (.run 7 [] <| .use aw153 <| .run 1 [(.ck 0)] <| .use dd4 <| .run 1 [(.ck 1)] <| .run 3 [] <| .fin) [.eqA qd128 qd128, .eqA qd233 qd233]

theorem aw155 : PQ 126 qd129 qd245 := cq (.run 36 [] <| .use dd12 <| .run 1 [(.ck 0)] <| .run 1 [] <| .run 1 [.mg] <| .run 27 [] <| .use dd10 <| .run 1 [(.ck 1)] <| .run 1 [] <| .run 1 [.mg] <| .run 27 [] <| .use df10 <| .run 1 [(.ck 2)] <| .run 1 [] <| .run 1 [.mg] <| .run 21 [] <| .fin) [.eqA qd435 qd435, .eqA qd434 qd434, .eqA qd441 qd441]

theorem aw156 : PQ 84 qd241 (aI 0) := cq (.run 7 [] <| .use aw155 <| .run 1 [(.ck 0)] <| .use dd4 <| .run 1 [(.ck 1)] <| .run 3 [] <| .fin) [.eqA qd129 qd129, .eqA qd233 qd233]

theorem aw157 : PQ 144 qd33 qd245 := cq (.run 36 [] <| .use aw120 <| .run 1 [(.ck 0)] <| .run 1 [] <| .run 1 [.mg] <| .run 27 [] <| .use aw154 <| .run 1 [(.ck 1)] <| .run 1 [] <| .run 1 [.mg] <| .run 27 [] <| .use aw156 <| .run 1 [(.ck 2)] <| .run 1 [] <| .run 1 [.mg] <| .run 21 [] <| .fin) [.eqA qd234 qd234, .eqA qd240 qd240, .eqA qd241 qd241]

theorem aw158 : PQ 104 qd35 (aI 0) := cq (.run 8 [] <| .use aw112 <| .use dd19 <| .use dd20 <| .run 1 [.none, (.ck 0), .none, (.ck 1), (.ck 2)] <| .run 11 [] <| .use aw152 <| .run 1 [(.ck 3)] <| .run 5 [] <| .use dd6 <| .run 1 [(.ck 4), .none, .none, (.ck 1), (.ck 2)] <| .run 10 [] <| .use aw157 <| .run 1 [(.ck 5)] <| .use dd4 <| .run 1 [(.ck 6)] <| .run 3 [] <| .fin) [.eqA qd325 qd325, .eqA qd333 qd333, .eqA qd284 qd284, .eqA qd0 qd0, .eqA qd332 qd332, .eqA qd333 qd333, .eqA qd284 qd284, .eqA qd33 qd33, .eqA qd233 qd233]

theorem aw159 : PQ 109 qd148 (aI 1) := cq (.run 13 [] <| .fin) []

theorem aw160 : PQ 109 qd149 (aI 1) := cq (.run 13 [] <| .fin) []

theorem aw161 : PQ 109 qd150 (aI 1) := cq (.run 13 [] <| .fin) []

noncomputable def aw163D : CT cfz := .run 491 [] <|  .fin
theorem aw163k : crunS cfz 8 145 aw163D [] (ent cfz 145 qd11) = some ((aI 3), []) := by kernel_rfl
theorem aw163 : PQ 145 qd11 (aI 3) := closed_ok knil (by kernel_rfl) ((crunS_eq cfz 8 145 aw163D [] (ent cfz 145 qd11)).symm.trans aw163k) trivial

theorem aw164 : PQ 146 qd1 (aI 1) := cq (.run 74 [] <| .fin) []

noncomputable def aw165D : CT cfz := .run 490 [] <|  .fin
theorem aw165k : crunS cfz 8 146 aw165D [] (ent cfz 146 qd18) = some ((aI (-1)), []) := by kernel_rfl
theorem aw165 : PQ 146 qd18 (aI (-1)) := closed_ok knil (by kernel_rfl) ((crunS_eq cfz 8 146 aw165D [] (ent cfz 146 qd18)).symm.trans aw165k) trivial

theorem aw166 : PQ 110 qd18 (.d (.v (.bool false))) := cq (.run 8 [] <| .use aw165 <| .run 1 [(.ck 0)] <| .run 4 [] <| .fin) [.eqA qd18 qd18]

theorem aw167 : PQ 107 qd242 qd282 := cq (.run 115 [] <| .use aw163 <| .run 1 [(.ck 0)] <| .run 6 [] <| .use aw164 <| .run 1 [(.ck 1)] <| .run 9 [] <| .use aw166 <| .run 1 [(.ck 2)] <| .run 5 [] <| .fin) [.eqA qd11 qd11, .eqA qd1 qd1, .eqA qd18 qd18]

theorem aw168 : PQ 109 qd151 (aI 2) := cq (.run 13 [] <| .fin) []

theorem aw169 : PQ 109 qd152 (aI 2) := cq (.run 13 [] <| .fin) []

theorem aw170 : PQ 109 qd153 (aI 5) := cq (.run 13 [] <| .fin) []

noncomputable def aw172D : CT cfz := .run 491 [] <|  .fin
theorem aw172k : crunS cfz 8 145 aw172D [] (ent cfz 145 qd12) = some ((aI 2), []) := by kernel_rfl
theorem aw172 : PQ 145 qd12 (aI 2) := closed_ok knil (by kernel_rfl) ((crunS_eq cfz 8 145 aw172D [] (ent cfz 145 qd12)).symm.trans aw172k) trivial

theorem aw173 : PQ 146 qd2 (aI 2) := cq (.run 105 [] <| .fin) []

noncomputable def aw174D : CT cfz := .run 459 [] <|  .fin
theorem aw174k : crunS cfz 8 146 aw174D [] (ent cfz 146 qd20) = some ((aI (-1)), []) := by kernel_rfl
theorem aw174 : PQ 146 qd20 (aI (-1)) := closed_ok knil (by kernel_rfl) ((crunS_eq cfz 8 146 aw174D [] (ent cfz 146 qd20)).symm.trans aw174k) trivial

theorem aw175 : PQ 110 qd20 (.d (.v (.bool false))) := cq (.run 8 [] <| .use aw174 <| .run 1 [(.ck 0)] <| .run 4 [] <| .fin) [.eqA qd20 qd20]

theorem aw176 : PQ 107 qd243 qd283 := cq (.run 115 [] <| .use aw172 <| .run 1 [(.ck 0)] <| .run 6 [] <| .use aw173 <| .run 1 [(.ck 1)] <| .run 9 [] <| .use aw175 <| .run 1 [(.ck 2)] <| .run 5 [] <| .fin) [.eqA qd12 qd12, .eqA qd2 qd2, .eqA qd20 qd20]

theorem aw177 : PQ 109 qd154 (aI 3) := cq (.run 13 [] <| .fin) []

theorem aw178 : PQ 109 qd155 (aI 4) := cq (.run 13 [] <| .fin) []

theorem aw179 : PQ 109 qd156 (aI 6) := cq (.run 13 [] <| .fin) []

noncomputable def aw181D : CT cfz := .run 491 [] <|  .fin
theorem aw181k : crunS cfz 8 145 aw181D [] (ent cfz 145 qd13) = some ((aI 1), []) := by kernel_rfl
theorem aw181 : PQ 145 qd13 (aI 1) := closed_ok knil (by kernel_rfl) ((crunS_eq cfz 8 145 aw181D [] (ent cfz 145 qd13)).symm.trans aw181k) trivial

theorem aw182 : PQ 146 qd3 (aI 3) := cq (.run 136 [] <| .fin) []

theorem aw183 : PQ 146 qd26 (aI 0) := cq (.run 43 [] <| .fin) []

theorem aw184 : PQ 110 qd26 (.d (.v (.bool true))) := cq (.run 8 [] <| .use aw183 <| .run 1 [(.ck 0)] <| .run 4 [] <| .fin) [.eqA qd26 qd26]

theorem aw185 : PQ 107 qd244 qd278 := cq (.run 115 [] <| .use aw181 <| .run 1 [(.ck 0)] <| .run 6 [] <| .use aw182 <| .run 1 [(.ck 1)] <| .run 9 [] <| .use aw184 <| .run 1 [(.ck 2)] <| .run 5 [] <| .fin) [.eqA qd13 qd13, .eqA qd3 qd3, .eqA qd26 qd26]

noncomputable def aw186D : CT cfz := .run 10 [] <| .use aw158 <| .run 1 [(.ck 0)] <| .run 44 [] <| .run 1 [.enter] <| .run 36 [] <| .use aw159 <| .run 1 [(.ck 1)] <| .run 1 [] <| .run 1 [.mg] <| .run 27 [] <| .use aw160 <| .run 1 [(.ck 2)] <| .run 1 [] <| .run 1 [.mg] <| .run 27 [] <| .use aw161 <| .run 1 [(.ck 3)] <| .run 1 [] <| .run 1 [.mg] <| .run 22 [] <| .use aw167 <| .run 1 [(.ck 4)] <| .run 46 [] <| .run 1 [.enter] <| .run 36 [] <| .use aw168 <| .run 1 [(.ck 5)] <| .run 1 [] <| .run 1 [.mg] <| .run 27 [] <| .use aw169 <| .run 1 [(.ck 6)] <| .run 1 [] <| .run 1 [.mg] <| .run 27 [] <| .use aw170 <| .run 1 [(.ck 7)] <| .run 1 [] <| .run 1 [.mg] <| .run 22 [] <| .use aw176 <| .run 1 [(.ck 8)] <| .run 46 [] <| .run 1 [.enter] <| .run 36 [] <| .use aw177 <| .run 1 [(.ck 9)] <| .run 1 [] <| .run 1 [.mg] <| .run 27 [] <| .use aw178 <| .run 1 [(.ck 10)] <| .run 1 [] <| .run 1 [.mg] <| .run 27 [] <| .use aw179 <| .run 1 [(.ck 11)] <| .run 1 [] <| .run 1 [.mg] <| .run 22 [] <| .use aw185 <| .run 1 [(.ck 12)] <| .run 53 [] <|  .fin
theorem aw186k : crunS cfz 8 61 aw186D [] (ent cfz 61 qd39) = some (qd98, [.eqA qd35 qd35, .eqA qd148 qd148, .eqA qd149 qd149, .eqA qd150 qd150, .eqA qd242 qd242, .eqA qd151 qd151, .eqA qd152 qd152, .eqA qd153 qd153, .eqA qd243 qd243, .eqA qd154 qd154, .eqA qd155 qd155, .eqA qd156 qd156, .eqA qd244 qd244]) := by kernel_rfl
theorem aw186 : PQ 61 qd39 qd98 := closed_ok knil (by kernel_rfl) ((crunS_eq cfz 8 61 aw186D [] (ent cfz 61 qd39)).symm.trans aw186k) ⟨rfl, rfl, rfl, rfl, rfl, rfl, rfl, rfl, rfl, rfl, rfl, rfl, rfl, trivial⟩

theorem aw187 : PQ 62 qd344 qd192 := cq (.run 74 [] <| .fin) []

theorem aw188 : PQ 91 qd219 (aI 0) := cq (.run 14 [] <| .use dd0 <| .run 1 [(.ck 0)] <| .run 3 [] <| .fin) [.eqA qd331 qd331]

theorem aw189 : PQ 127 qd426 (aI 0) := cq (.run 7 [] <| .use aw188 <| .run 1 [(.ck 0)] <| .run 3 [] <| .fin) [.eqA qd219 qd219]

theorem aw190 : PQ 126 qd157 qd302 := cq (.run 36 [] <| .use dd8 <| .run 1 [(.ck 0)] <| .run 1 [] <| .run 1 [.mg] <| .run 27 [] <| .use aw189 <| .run 1 [(.ck 1)] <| .run 1 [] <| .run 1 [.mg] <| .run 21 [] <| .fin) [.eqA qd395 qd395, .eqA qd426 qd426]

theorem aw191 : PQ 84 qd279 (aI 0) := cq (.run 7 [] <| .use aw190 <| .run 1 [(.ck 0)] <| .use dd20 <| .run 1 [(.ck 1)] <| .run 3 [] <| .fin) [.eqA qd157 qd157, .eqA qd284 qd284]

theorem aw192 : PQ 105 qd279 (aI 0) := cq (.run 9 [] <| .use dd19 <| .run 1 [(.ck 0)] <| .run 1 [] <| .use aw191 <| .run 1 [(.ck 1)] <| .run 1 [] <| .use dd20 <| .run 1 [(.ck 2)] <| .run 3 [] <| .fin) [.eqA qd333 qd333, .eqA qd279 qd279, .eqA qd284 qd284]

theorem aw193 : PQ 146 qd211 (aI (-1)) := cq (.run 87 [] <| .fin) []

theorem aw194 : PQ 110 qd211 (.d (.v (.bool false))) := cq (.run 8 [] <| .use aw193 <| .run 1 [(.ck 0)] <| .run 4 [] <| .fin) [.eqA qd211 qd211]

theorem aw195 : PQ 83 qd336 (aI 0) := cq (.run 16 [] <| .fin) []

theorem aw196 : PQ 111 qd212 (.fn (.func 147) [] [(.ip [qd335]), (.ip [(vI 2)])]) := cq (.run 20 [] <| .fin) []

theorem aw197 : PQ 63 qd279 qd271 := cq (.run 9 [] <| .use aw192 <| .run 1 [(.ck 0)] <| .run 4 [] <| .use dd6 <| .run 1 [(.ck 1)] <| .run 1 [] <| .use aw194 <| .run 1 [(.ck 2)] <| .use aw195 <| .run 1 [(.ck 3)] <| .run 1 [] <| .use dd4 <| .run 1 [(.ck 4)] <| .run 17 [] <| .use aw196 <| .run 1 [(.ck 5)] <| .run 36 [] <| .run 1 [.enter] <| .run 43 [] <| .fin) [.eqA qd279 qd279, .eqA qd332 qd332, .eqA qd211 qd211, .eqA qd336 qd336, .eqA qd233 qd233, .eqA qd212 qd212]

theorem aw198 : PQ 29 qd78 (aI 0) := cq (.run 7 [] <| .use dd5 <| .use dd6 <| .use aw97 <| .use dd4 <| .run 1 [.none, (.ck 0), .none, (.ck 1), (.ck 2), (.ck 3)] <| .run 1 [] <| .fin) [.eqA qd273 qd273, .eqA qd332 qd332, .eqA qd171 qd171, .eqA qd233 qd233]

theorem aw199 : PQ 185 qd440 qd353 := cq (.run 20 [] <| .fin) []

theorem aw200 : PQ 163 qd326 qd353 := cq (.run 25 [] <| .use aw199 <| .run 1 [(.ck 0)] <| .run 3 [] <| .fin) [.eqA qd440 qd440]

theorem aw201 : PQ 151 qd440 qd353 := cq (.run 7 [] <| .use aw200 <| .run 1 [(.ck 0)] <| .run 3 [] <| .fin) [.eqA qd326 qd326]

theorem aw202 : PQ 114 qd440 qd353 := cq (.run 7 [] <| .use aw201 <| .run 1 [(.ck 0)] <| .run 3 [] <| .fin) [.eqA qd440 qd440]

theorem aw203 : PQ 185 qd438 qd354 := cq (.run 20 [] <| .fin) []

theorem aw204 : PQ 163 qd327 qd354 := cq (.run 25 [] <| .use aw203 <| .run 1 [(.ck 0)] <| .run 3 [] <| .fin) [.eqA qd438 qd438]

theorem aw205 : PQ 151 qd438 qd354 := cq (.run 7 [] <| .use aw204 <| .run 1 [(.ck 0)] <| .run 3 [] <| .fin) [.eqA qd327 qd327]

theorem aw206 : PQ 114 qd438 qd354 := cq (.run 7 [] <| .use aw205 <| .run 1 [(.ck 0)] <| .run 3 [] <| .fin) [.eqA qd438 qd438]

theorem aw207 : PQ 185 qd395 qd343 := cq (.run 23 [] <| .fin) []

theorem aw208 : PQ 163 qd322 qd343 := cq (.run 25 [] <| .use aw207 <| .run 1 [(.ck 0)] <| .run 3 [] <| .fin) [.eqA qd395 qd395]

theorem aw209 : PQ 151 qd395 qd343 := cq (.run 7 [] <| .use aw208 <| .run 1 [(.ck 0)] <| .run 3 [] <| .fin) [.eqA qd322 qd322]

theorem aw210 : PQ 114 qd395 qd343 := cq (.run 7 [] <| .use aw209 <| .run 1 [(.ck 0)] <| .run 3 [] <| .fin) [.eqA qd395 qd395]

theorem aw211 : PQ 185 qd434 qd355 := cq (.run 20 [] <| .fin) []

theorem aw212 : PQ 163 qd328 qd355 := cq (.run 25 [] <| .use aw211 <| .run 1 [(.ck 0)] <| .run 3 [] <| .fin) [.eqA qd434 qd434]

theorem aw213 : PQ 151 qd434 qd355 := cq (.run 7 [] <| .use aw212 <| .run 1 [(.ck 0)] <| .run 3 [] <| .fin) [.eqA qd328 qd328]

theorem aw214 : PQ 114 qd434 qd355 := cq (.run 7 [] <| .use aw213 <| .run 1 [(.ck 0)] <| .run 3 [] <| .fin) [.eqA qd434 qd434]

theorem aw215 : PQ 185 qd435 qd356 := cq (.run 20 [] <| .fin) []

theorem aw216 : PQ 163 qd329 qd356 := cq (.run 25 [] <| .use aw215 <| .run 1 [(.ck 0)] <| .run 3 [] <| .fin) [.eqA qd435 qd435]

theorem aw217 : PQ 151 qd435 qd356 := cq (.run 7 [] <| .use aw216 <| .run 1 [(.ck 0)] <| .run 3 [] <| .fin) [.eqA qd329 qd329]

theorem aw218 : PQ 114 qd435 qd356 := cq (.run 7 [] <| .use aw217 <| .run 1 [(.ck 0)] <| .run 3 [] <| .fin) [.eqA qd435 qd435]

theorem aw219 : PQ 185 qd437 qd357 := cq (.run 20 [] <| .fin) []

theorem aw220 : PQ 163 qd330 qd357 := cq (.run 25 [] <| .use aw219 <| .run 1 [(.ck 0)] <| .run 3 [] <| .fin) [.eqA qd437 qd437]

theorem aw221 : PQ 151 qd437 qd357 := cq (.run 7 [] <| .use aw220 <| .run 1 [(.ck 0)] <| .run 3 [] <| .fin) [.eqA qd330 qd330]

theorem aw222 : PQ 114 qd437 qd357 := cq (.run 7 [] <| .use aw221 <| .run 1 [(.ck 0)] <| .run 3 [] <| .fin) [.eqA qd437 qd437]

noncomputable def aw223D : CT cfz := .run 36 [] <| .use aw202 <| .run 1 [(.ck 0)] <| .run 1 [] <| .run 1 [.mg] <| .run 27 [] <| .use aw206 <| .run 1 [(.ck 1)] <| .run 1 [] <| .run 1 [.mg] <| .run 27 [] <| .use aw210 <| .run 1 [(.ck 2)] <| .run 1 [] <| .run 1 [.mg] <| .run 27 [] <| .use aw214 <| .run 1 [(.ck 3)] <| .run 1 [] <| .run 1 [.mg] <| .run 27 [] <| .use aw218 <| .run 1 [(.ck 4)] <| .run 1 [] <| .run 1 [.mg] <| .run 27 [] <| .use aw222 <| .run 1 [(.ck 5)] <| .run 1 [] <| .run 1 [.mg] <| .run 21 [] <|  .fin
theorem aw223k : crunS cfz 8 113 aw223D [] (ent cfz 113 qd65) = some (qd46, [.eqA qd440 qd440, .eqA qd438 qd438, .eqA qd395 qd395, .eqA qd434 qd434, .eqA qd435 qd435, .eqA qd437 qd437]) := by kernel_rfl
theorem aw223 : PQ 113 qd65 qd46 := closed_ok knil (by kernel_rfl) ((crunS_eq cfz 8 113 aw223D [] (ent cfz 113 qd65)).symm.trans aw223k) ⟨rfl, rfl, rfl, rfl, rfl, rfl, trivial⟩

theorem aw224 : PQ 74 qd78 qd102 := cq (.run 11 [] <| .use aw198 <| .run 1 [(.ck 0)] <| .run 24 [] <| .use aw223 <| .run 1 [(.ck 1)] <| .run 1 [] <| .use join <| .run 1 [(.ck 2)] <| .run 5 [] <| .fin) [.eqA qd78 qd78, .eqA qd65 qd65, .eqA qd27 qd27]

theorem aw225 : PQ 86 qd288 qd319 := cq (.run 20 [] <| .fin) []

theorem aw226 : PQ 20 qd78 qd195 := cq (.run 11 [] <| .use aw198 <| .run 1 [(.ck 0)] <| .run 14 [] <| .use dd135 <| .run 1 [(.ck 1)] <| .run 10 [] <| .use aw225 <| .run 1 [(.ck 2)] <| .run 4 [] <| .fin) [.eqA qd78 qd78, .eqA qd78 qd78, .eqA qd288 qd288]

theorem aw227 : PQ 29 qd92 (aI 0) := cq (.run 7 [] <| .use dd5 <| .use dd6 <| .use aw102 <| .use dd4 <| .run 1 [.none, (.ck 0), .none, (.ck 1), (.ck 2), (.ck 3)] <| .run 1 [] <| .fin) [.eqA qd273 qd273, .eqA qd332 qd332, .eqA qd178 qd178, .eqA qd233 qd233]

theorem aw228 : PQ 18 qd92 qd281 := cq (.run 11 [] <| .use aw227 <| .run 1 [(.ck 0)] <| .run 13 [] <| .use aw90 <| .run 1 [(.ck 1)] <| .run 4 [] <| .fin) [.eqA qd92 qd92, .eqA qd92 qd92]

theorem aw229 : PQ 126 qd168 qd302 := cq (.run 36 [] <| .use dd12 <| .run 1 [(.ck 0)] <| .run 1 [] <| .run 1 [.mg] <| .run 27 [] <| .use aw100 <| .run 1 [(.ck 1)] <| .run 1 [] <| .run 1 [.mg] <| .run 21 [] <| .fin) [.eqA qd435 qd435, .eqA qd438 qd438]

theorem aw230 : PQ 84 qd292 (aI 0) := cq (.run 7 [] <| .use aw229 <| .run 1 [(.ck 0)] <| .use dd20 <| .run 1 [(.ck 1)] <| .run 3 [] <| .fin) [.eqA qd168 qd168, .eqA qd284 qd284]

theorem aw231 : PQ 105 qd292 (aI 0) := cq (.run 9 [] <| .use dd19 <| .run 1 [(.ck 0)] <| .run 1 [] <| .use aw230 <| .run 1 [(.ck 1)] <| .run 1 [] <| .use dd20 <| .run 1 [(.ck 2)] <| .run 3 [] <| .fin) [.eqA qd333 qd333, .eqA qd292 qd292, .eqA qd284 qd284]

theorem aw232 : PQ 91 qd231 (aI 0) := cq (.run 14 [] <| .use dd0 <| .run 1 [(.ck 0)] <| .run 3 [] <| .fin) [.eqA qd331 qd331]

theorem aw233 : PQ 86 qd292 qd321 := cq (.run 20 [] <| .fin) []

theorem aw234 : PQ 60 qd214 qd97 := cq (.run 9 [] <| .use aw231 <| .run 1 [(.ck 0)] <| .run 1 [] <| .use aw232 <| .run 1 [(.ck 1)] <| .run 3 [] <| .use dd19 <| .run 1 [(.ck 2)] <| .run 1 [] <| .use dd4 <| .run 1 [(.ck 3)] <| .run 33 [] <| .use aw233 <| .run 1 [(.ck 4)] <| .run 22 [] <| .run 1 [(.ck 4)] <| .run 24 [] <| .fin) [.eqA qd292 qd292, .eqA qd231 qd231, .eqA qd333 qd333, .eqA qd233 qd233, .eqA qd292 qd292, .eqA qd292 qd292]

theorem aw235 : PQ 199 qd339 (.d (.v (.bool false))) := cq (.run 12 [] <| .fin) []

theorem aw236 : PQ 212 qd339 (.d (.v (.float .f64 4607182418800017408))) := cq (.run 7 [] <| .run 1 [(.ext (.int .u64 4607182418800017408))] <| .run 1 [] <| .run 1 [(.ext (.float .f64 4607182418800017408))] <| .run 3 [] <| .fin) [(.prop (∀ (w : World), Sem.run cfz.P (callFunc 220 #[Value.float FloatKind.f64 4607182418800017408]) w = Result.ok (Next.value (Value.int IntKind.u64 4607182418800017408)) w)), (.prop (∀ (w : World), Sem.run cfz.P (callFunc 219 #[Value.int IntKind.u64 4607182418800017408]) w = Result.ok (Next.value (Value.float FloatKind.f64 4607182418800017408)) w))] (hp := ⟨(fun w => pureRun_run (by kernel_rfl) w), ⟨(fun w => pureRun_run (by kernel_rfl) w), trivial⟩⟩)

theorem aw237 : PQ 200 qd259 (.d (.v (.bool false))) := cq (.run 13 [] <| .use aw236 <| .run 1 [(.ck 0)] <| .run 9 [] <| .fin) [.eqA qd339 qd339]

theorem aw238 : PQ 181 qd345 (.d (.v (.bool false))) := cq (.run 8 [] <| .use aw235 <| .run 1 [(.ck 0)] <| .run 3 [] <| .use aw237 <| .run 1 [(.br false), (.ck 1)] <| .run 4 [] <| .fin) [.eqA qd339 qd339, .eqA qd259 qd259]

theorem aw239 : PQ 180 qd336 (aI 0) := cq (.run 16 [] <| .fin) []

theorem aw240 : PQ 201 qd340 (.d (.v (.float .f64 4625196817309499392))) := cq (.run 9 [] <| .run 1 [(.ext (.float .f64 4625196817309499392))] <| .run 3 [] <| .fin) [(.prop (∀ (w : World), Sem.run cfz.P (callFunc 213 #[Value.float FloatKind.f64 4625196817309499392]) w = Result.ok (Next.value (Value.float FloatKind.f64 4625196817309499392)) w))] (hp := ⟨(fun w => pureRun_run (by kernel_rfl) w), trivial⟩)

theorem aw241 : PQ 180 qd331 (aI 0) := cq (.run 16 [] <| .fin) []

theorem aw242 : PQ 182 qd254 (aI 0) := cq (.run 19 [] <| .use aw240 <| .run 1 [(.br false), (.ck 0)] <| .run 5 [] <| .use aw241 <| .run 1 [(.ck 1)] <| .run 3 [] <| .fin) [.eqA qd340 qd340, .eqA qd331 qd331]

theorem aw243 : PQ 179 qd284 (aI 0) := cq (.run 81 [] <| .fin) []

theorem aw244 : PQ 160 qd345 (aI 0) := cq (.run 7 [] <| .use aw238 <| .run 1 [(.ck 0)] <| .use aw239 <| .run 1 [(.ck 1)] <| .run 1 [] <| .use aw242 <| .run 1 [(.ck 2)] <| .run 1 [] <| .use aw243 <| .run 1 [(.ck 3)] <| .run 3 [] <| .fin) [.eqA qd345 qd345, .eqA qd336 qd336, .eqA qd254 qd254, .eqA qd284 qd284]

theorem aw245 : PQ 139 qd257 (aI 0) := cq (.run 7 [] <| .use dd8 <| .use aw244 <| .use dd0 <| .use dd4 <| .run 1 [.none, (.ck 0), .none, (.ck 1), .none, (.ck 2), (.ck 3)] <| .run 1 [] <| .fin) [.eqA qd395 qd395, .eqA qd345 qd345, .eqA qd331 qd331, .eqA qd233 qd233]

theorem aw246 : PQ 139 qd260 (aI 0) := cq (.run 7 [] <| .use dd10 <| .use aw244 <| .use dd0 <| .use dd4 <| .run 1 [.none, (.ck 0), .none, (.ck 1), .none, (.ck 2), (.ck 3)] <| .run 1 [] <| .fin) [.eqA qd434 qd434, .eqA qd345 qd345, .eqA qd331 qd331, .eqA qd233 qd233]

theorem aw247 : PQ 139 qd261 (aI 0) := cq (.run 7 [] <| .use dd12 <| .use aw244 <| .use dd0 <| .use dd4 <| .run 1 [.none, (.ck 0), .none, (.ck 1), .none, (.ck 2), (.ck 3)] <| .run 1 [] <| .fin) [.eqA qd435 qd435, .eqA qd345 qd345, .eqA qd331 qd331, .eqA qd233 qd233]

theorem aw250 : PQ 199 qd341 (.d (.v (.bool false))) := cq (.run 12 [] <| .fin) []

theorem aw251 : PQ 212 qd341 (.d (.v (.float .f64 4602678819172646912))) := cq (.run 7 [] <| .run 1 [(.ext (.int .u64 4602678819172646912))] <| .run 1 [] <| .run 1 [(.ext (.float .f64 4602678819172646912))] <| .run 3 [] <| .fin) [(.prop (∀ (w : World), Sem.run cfz.P (callFunc 220 #[Value.float FloatKind.f64 4602678819172646912]) w = Result.ok (Next.value (Value.int IntKind.u64 4602678819172646912)) w)), (.prop (∀ (w : World), Sem.run cfz.P (callFunc 219 #[Value.int IntKind.u64 4602678819172646912]) w = Result.ok (Next.value (Value.float FloatKind.f64 4602678819172646912)) w))] (hp := ⟨(fun w => pureRun_run (by kernel_rfl) w), ⟨(fun w => pureRun_run (by kernel_rfl) w), trivial⟩⟩)

theorem aw252 : PQ 200 qd262 (.d (.v (.bool false))) := cq (.run 13 [] <| .use aw251 <| .run 1 [(.ck 0)] <| .run 9 [] <| .fin) [.eqA qd341 qd341]

theorem aw253 : PQ 181 qd346 (.d (.v (.bool false))) := cq (.run 8 [] <| .use aw250 <| .run 1 [(.ck 0)] <| .run 3 [] <| .use aw252 <| .run 1 [(.br false), (.ck 1)] <| .run 4 [] <| .fin) [.eqA qd341 qd341, .eqA qd262 qd262]

theorem aw254 : PQ 201 qd342 (.d (.v (.float .f64 4620693217682128896))) := cq (.run 9 [] <| .run 1 [(.ext (.float .f64 4620693217682128896))] <| .run 3 [] <| .fin) [(.prop (∀ (w : World), Sem.run cfz.P (callFunc 213 #[Value.float FloatKind.f64 4620693217682128896]) w = Result.ok (Next.value (Value.float FloatKind.f64 4620693217682128896)) w))] (hp := ⟨(fun w => pureRun_run (by kernel_rfl) w), trivial⟩)

theorem aw255 : PQ 182 qd255 (aI 0) := cq (.run 19 [] <| .use aw254 <| .run 1 [(.br false), (.ck 0)] <| .run 5 [] <| .use aw241 <| .run 1 [(.ck 1)] <| .run 3 [] <| .fin) [.eqA qd342 qd342, .eqA qd331 qd331]

theorem aw256 : PQ 160 qd346 (aI 0) := cq (.run 7 [] <| .use aw253 <| .run 1 [(.ck 0)] <| .use aw239 <| .run 1 [(.ck 1)] <| .run 1 [] <| .use aw255 <| .run 1 [(.ck 2)] <| .run 1 [] <| .use aw243 <| .run 1 [(.ck 3)] <| .run 3 [] <| .fin) [.eqA qd346 qd346, .eqA qd336 qd336, .eqA qd255 qd255, .eqA qd284 qd284]

theorem aw257 : PQ 139 qd263 (aI 0) := cq (.run 7 [] <| .use dd14 <| .use aw256 <| .use dd0 <| .use dd4 <| .run 1 [.none, (.ck 0), .none, (.ck 1), .none, (.ck 2), (.ck 3)] <| .run 1 [] <| .fin) [.eqA qd436 qd436, .eqA qd346 qd346, .eqA qd331 qd331, .eqA qd233 qd233]

theorem aw258 : PQ 138 qd34 qd183 := cq (.run 37 [] <| .use aw245 <| .run 1 [(.ck 0)] <| .run 1 [] <| .run 1 [.mg] <| .run 28 [] <| .use aw246 <| .run 1 [(.ck 1)] <| .run 1 [] <| .run 1 [.mg] <| .run 28 [] <| .use aw247 <| .run 1 [(.ck 2)] <| .run 1 [] <| .run 1 [.mg] <| .run 28 [] <| .use aw257 <| .run 1 [(.ck 3)] <| .run 1 [] <| .run 1 [.mg] <| .run 21 [] <| .fin) [.eqA qd257 qd257, .eqA qd260 qd260, .eqA qd261 qd261, .eqA qd263 qd263]

theorem aw259 : PQ 98 qd28 (aI 0) := cq (.run 7 [] <| .use dd5 <| .use dd6 <| .use aw258 <| .use dd16 <| .use dd4 <| .run 1 [.none, (.ck 0), .none, (.ck 1), (.ck 2), (.ck 3), (.ck 4)] <| .run 1 [] <| .fin) [.eqA qd273 qd273, .eqA qd332 qd332, .eqA qd34 qd34, .eqA qd172 qd172, .eqA qd233 qd233]

theorem aw260 : PQ 140 qd346 (aI 8) := cq (.run 12 [] <| .fin) []

theorem aw261 : PQ 99 qd21 (aI 8) := cq (.run 130 [] <| .use aw260 <| .run 1 [(.ck 0)] <| .run 22 [] <| .fin) [.eqA qd346 qd346]

theorem aw262 : PQ 37 qd4 qd280 := cq (.run 9 [] <| .use aw259 <| .use aw198 <| .use dd20 <| .run 1 [.none, (.ck 0), .none, (.ck 1), (.ck 2)] <| .run 12 [] <| .use dd135 <| .run 1 [(.ck 3)] <| .run 8 [] <| .use aw261 <| .run 1 [(.ck 4)] <| .run 4 [] <| .fin) [.eqA qd28 qd28, .eqA qd78 qd78, .eqA qd284 qd284, .eqA qd78 qd78, .eqA qd21 qd21]

theorem aw263 : PQ 30 qd32 (.d (.v (.bool true))) := cq (.run 181 [] <| .fin) []

noncomputable def aw264D : CT cfz := .run 307 [] <|  .fin
theorem aw264k : crunS cfz 8 50 aw264D [] (ent cfz 50 qd22) = some ((.d (.v (.bool true))), []) := by kernel_rfl
theorem aw264 : PQ 50 qd22 (.d (.v (.bool true))) := closed_ok knil (by kernel_rfl) ((crunS_eq cfz 8 50 aw264D [] (ent cfz 50 qd22)).symm.trans aw264k) trivial

theorem aw265 : PQ 30 qd95 (.d (.v (.bool true))) := cq (.run 109 [] <| .fin) []

theorem aw266 : PQ 30 qd264 (.d (.v (.bool true))) := cq (.run 61 [] <| .fin) []

theorem aw267 : PQ 30 qd133 (.d (.v (.bool true))) := cq (.run 85 [] <| .fin) []

theorem aw268 : PQ 69 qd256 (.d (.v (.bool true))) := cq (.run 14 [] <| .fin) []

theorem aw269 : PQ 30 qd137 (.d (.v (.bool true))) := cq (.run 85 [] <| .fin) []

noncomputable def aw270D : CT cfz := .run 259 [] <|  .fin
theorem aw270k : crunS cfz 8 50 aw270D [] (ent cfz 50 qd38) = some ((.d (.v (.bool true))), []) := by kernel_rfl
theorem aw270 : PQ 50 qd38 (.d (.v (.bool true))) := closed_ok knil (by kernel_rfl) ((crunS_eq cfz 8 50 aw270D [] (ent cfz 50 qd38)).symm.trans aw270k) trivial

noncomputable def aw271D : CT cfz := .run 6 [] <| .use aw0 <| .run 1 [(.ck 0)] <| .run 1 [] <| .use aw26 <| .run 1 [(.ck 1)] <| .run 8 [] <| .run 1 [(.ck 0)] <| .run 1 [] <| .use aw38 <| .run 1 [(.ck 2)] <| .run 8 [] <| .run 1 [(.ck 0)] <| .run 1 [] <| .use aw75 <| .run 1 [(.ck 3)] <| .run 8 [] <| .run 1 [(.ck 0)] <| .run 1 [] <| .use aw92 <| .run 1 [(.ck 4)] <| .run 10 [] <| .use aw105 <| .run 1 [(.ck 5)] <| .run 8 [] <| .run 1 [(.ck 0)] <| .run 1 [] <| .run 1 [(.call qd61 qd70)] <| .run 10 [] <| .run 1 [(.ck 0)] <| .run 1 [] <| .run 1 [(.call qd62 qd272)] <| .run 10 [] <| .run 1 [(.ck 0)] <| .run 2 [] <| .use df70 <| .run 1 [(.ck 6)] <| .run 19 [] <| .run 1 [(.ck 0)] <| .run 1 [] <| .use near <| .run 1 [(.ck 7)] <| .run 34 [] <| .use aw106 <| .run 1 [(.br false), (.ck 8)] <| .run 5 [] <| .use aw107 <| .run 1 [(.br false), (.ck 9)] <| .run 5 [] <| .use aw108 <| .run 1 [(.br false), (.ck 10)] <| .run 5 [] <| .use aw109 <| .run 1 [(.br false), (.ck 11)] <| .run 9 [] <| .run 1 [(.br false), (.ck 10)] <| .run 5 [] <| .use aw110 <| .run 1 [(.br false), (.ck 12)] <| .run 5 [] <| .run 1 [(.br false), (.ck 10)] <| .run 5 [] <| .use aw111 <| .run 1 [(.br false), (.ck 13)] <| .run 5 [] <| .run 1 [(.br false), (.ck 10)] <| .run 14 [] <| .use aw129 <| .run 1 [(.ck 14)] <| .run 9 [] <| .use aw135 <| .run 1 [(.ck 15)] <| .run 8 [] <| .use aw139 <| .run 1 [(.ck 16)] <| .run 8 [] <| .run 1 [(.ck 0)] <| .use aw142 <| .run 1 [(.ck 17)] <| .run 8 [] <| .run 1 [(.ck 0)] <| .use aw144 <| .run 1 [(.ck 18)] <| .run 8 [] <| .run 1 [(.ck 0)] <| .use aw147 <| .run 1 [(.ck 19)] <| .run 12 [] <| .use aw186 <| .run 1 [(.ck 20)] <| .run 11 [] <| .use aw187 <| .run 1 [(.ck 21)] <| .run 9 [] <| .use aw197 <| .run 1 [(.ck 22)] <| .run 8 [] <| .run 1 [(.ck 0)] <| .run 1 [] <| .use aw224 <| .run 1 [(.ck 23)] <| .run 8 [] <| .run 1 [(.ck 0)] <| .run 1 [] <| .use aw226 <| .run 1 [(.ck 24)] <| .run 8 [] <| .run 1 [(.ck 0)] <| .run 1 [] <| .use secn <| .run 1 [(.ck 25)] <| .run 8 [] <| .run 1 [(.ck 0)] <| .run 1 [] <| .use aw228 <| .run 1 [(.ck 26)] <| .run 9 [] <| .use aw234 <| .run 1 [(.ck 27)] <| .run 8 [] <| .run 1 [(.ck 0)] <| .run 2 [] <| .use aw262 <| .run 1 [(.ck 28)] <| .run 41 [] <| .use aw263 <| .run 1 [(.br true), (.ck 29)] <| .run 6 [] <| .use aw264 <| .run 1 [(.br true), (.ck 30)] <| .run 18 [] <| .use aw265 <| .run 1 [(.br true), (.ck 31)] <| .run 4 [] <| .use aw266 <| .run 1 [(.br true), (.ck 32)] <| .run 4 [] <| .use aw267 <| .run 1 [(.br true), (.ck 33)] <| .run 4 [] <| .use aw268 <| .run 1 [(.br true), (.ck 34)] <| .run 8 [] <| .use aw269 <| .run 1 [(.br true), (.ck 35)] <| .run 13 [] <| .use aw270 <| .run 1 [(.br true), (.ck 36)] <| .run 8 [] <|  .fin
theorem aw271k : crunS cfz 8 15 aw271D [] (ent cfz 15 []) = some ((.d (.v (.bool true))), [.eqA [] [], .eqA qd89 qd89, .eqA [] [], .eqA qd90 qd90, .eqA [] [], .eqA qd130 qd130, .eqA [] [], .eqA qd131 qd131, .eqA qd50 qd50, .eqA [] [], (.prop ([AV.agg [AV.d (weakD (vI 4)), AV.d (weakD (vI 2))], AV.d (DV.sl 4 [vI 10, vI 5, vI 1, vI 7]), AV.d (DV.v (Value.slice none 0 0))] = [AV.agg [AV.d (vI 4), AV.d (vI 2)], AV.d (DV.sl 4 [vI 10, vI 5, vI 1, vI 7]), AV.d (DV.v (Value.slice none 0 0))])), (.prop (PQ 31 [AV.agg [AV.d (vI 4), AV.d (vI 2)], AV.d (DV.sl 4 [vI 10, vI 5, vI 1, vI 7]), AV.d (DV.v (Value.slice none 0 0))] (AV.tup [AV.d (DV.sl 4 [vI 10, vI 5, vI 1, vI 0]), AV.d (DV.sl 1 [vI 3]), AV.d (vI 0)]))), .eqA [] [], (.prop ([AV.agg [AV.d (weakD (vI 4)), AV.d (weakD (vI 2))], AV.d (DV.sl 4 [vI 10, vI 6, vI 1, vI 7]), AV.d (DV.v (Value.slice none 0 0))] = [AV.agg [AV.d (vI 4), AV.d (vI 2)], AV.d (DV.sl 4 [vI 10, vI 6, vI 1, vI 7]), AV.d (DV.v (Value.slice none 0 0))])), (.prop (PQ 31 [AV.agg [AV.d (vI 4), AV.d (vI 2)], AV.d (DV.sl 4 [vI 10, vI 6, vI 1, vI 7]), AV.d (DV.v (Value.slice none 0 0))] (AV.tup [AV.d (DV.sl 0 []), AV.d (DV.sl 0 []), AV.d (vI 27)]))), .eqA [] [], .eqA qd44 qd44, .eqA [] [], .eqA qd28 qd28, .eqA qd135 qd135, .eqA qd132 qd132, .eqA qd49 qd49, .eqA qd59 qd59, .eqA qd49 qd49, .eqA qd258 qd258, .eqA qd49 qd49, .eqA qd136 qd136, .eqA qd49 qd49, .eqA qd84 qd84, .eqA qd71 qd71, .eqA qd236 qd236, .eqA [] [], .eqA qd108 qd108, .eqA [] [], .eqA qd109 qd109, .eqA [] [], .eqA qd112 qd112, .eqA qd39 qd39, .eqA qd344 qd344, .eqA qd279 qd279, .eqA [] [], .eqA qd78 qd78, .eqA [] [], .eqA qd78 qd78, .eqA [] [], .eqA qd28 qd28, .eqA [] [], .eqA qd92 qd92, .eqA qd214 qd214, .eqA [] [], .eqA qd4 qd4, .eqA qd32 qd32, .eqA qd22 qd22, .eqA qd95 qd95, .eqA qd264 qd264, .eqA qd133 qd133, .eqA qd256 qd256, .eqA qd137 qd137, .eqA qd38 qd38]) := by kernel_rfl
theorem aw271 : PQ 15 [] (.d (.v (.bool true))) := closed_ok knil (by kernel_rfl) ((crunS_eq cfz 8 15 aw271D [] (ent cfz 15 [])).symm.trans aw271k) ⟨rfl, ⟨rfl, ⟨rfl, ⟨rfl, ⟨rfl, ⟨rfl, ⟨rfl, ⟨rfl, ⟨rfl, ⟨rfl, ⟨rfl, ⟨dd138, ⟨rfl, ⟨rfl, ⟨de150, ⟨rfl, rfl, rfl, rfl, rfl, rfl, rfl, rfl, rfl, rfl, rfl, rfl, rfl, rfl, rfl, rfl, rfl, rfl, rfl, rfl, rfl, rfl, rfl, rfl, rfl, rfl, rfl, rfl, rfl, rfl, rfl, rfl, rfl, rfl, rfl, rfl, rfl, rfl, rfl, rfl, rfl, rfl, rfl, rfl, trivial⟩⟩⟩⟩⟩⟩⟩⟩⟩⟩⟩⟩⟩⟩⟩⟩

noncomputable def F15 : Option (Bool) := some true
theorem f15_eq : F15 = some true := rfl
def out15 (v : Bool) : AV := (.d (.v (.bool v)))
theorem f15 (v : Bool) (h : F15 = some v) : PQ 15 [] (out15 v) := by
  cases (Option.some.inj h)
  exact aw271
end Go.Kv
