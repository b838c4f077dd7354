/- The third example of Decode. -/
import Derived.Test.YtdelimpnnpifpaaGreatDoorKvWs
import Derived.Test.YtdelimpnnpifpaaGreatDoorKvW
import Derived.Test.YtdelimpnnpifpaaGreatDoorKdA
set_option linter.all false
namespace Go.Kv
open Go Go.RowKit Go.Proofs
set_option maxRecDepth 100000
theorem df9 : PQ 91 qd224 (aI 0) := cq (.run 14 [] <| .use dd0 <| .run 1 [(.ck 0)] <| .run 3 [] <| .fin) [.eqA qd331 qd331]

theorem df10 : PQ 127 qd441 (aI 0) := cq (.run 7 [] <| .use df9 <| .run 1 [(.ck 0)] <| .run 3 [] <| .fin) [.eqA qd224 qd224]

theorem df15 : PQ 126 qd100 qd183 := cq (.run 36 [] <| .use dd8 <| .run 1 [(.ck 0)] <| .run 1 [] <| .run 1 [.mg] <| .run 27 [] <| .use df10 <| .run 1 [(.ck 1)] <| .run 1 [] <| .run 1 [.mg] <| .run 27 [] <| .use dd12 <| .run 1 [(.ck 2)] <| .run 1 [] <| .run 1 [.mg] <| .run 27 [] <| .use dd14 <| .run 1 [(.ck 3)] <| .run 1 [] <| .run 1 [.mg] <| .run 21 [] <| .fin) [.eqA qd395 qd395, .eqA qd441 qd441, .eqA qd435 qd435, .eqA qd436 qd436]

theorem df17 : PQ 84 qd170 (aI 0) := cq (.run 7 [] <| .use df15 <| .run 1 [(.ck 0)] <| .use dd16 <| .run 1 [(.ck 1)] <| .run 3 [] <| .fin) [.eqA qd100 qd100, .eqA qd172 qd172]

theorem df18 : PQ 29 qd79 (aI 0) := cq (.run 7 [] <| .use dd5 <| .use dd6 <| .use df17 <| .use dd4 <| .run 1 [.none, (.ck 0), .none, (.ck 1), (.ck 2), (.ck 3)] <| .run 1 [] <| .fin) [.eqA qd273 qd273, .eqA qd332 qd332, .eqA qd170 qd170, .eqA qd233 qd233]

theorem df21 : PQ 83 qd324 (aI 0) := cq (.run 16 [] <| .fin) []

theorem df22 : PQ 83 qd334 (aI 0) := cq (.run 16 [] <| .fin) []

theorem df23 : PQ 92 qd213 (.fn (.func 129) [] [(.ip [(vI 0)]), (.ip [qd337])]) := cq (.run 12 [] <| .fin) []

theorem df24 : PQ 86 qd285 qd315 := cq (.run 20 [] <| .fin) []

theorem df31 : PQ 122 qd438 (aI 2) := cq (.run 13 [] <| .fin) []

theorem df35 : PQ 122 qd441 (aI 6) := cq (.run 13 [] <| .fin) []

theorem df44 : PQ 122 qd377 (aI 11) := cq (.run 13 [] <| .fin) []

theorem df45 : PQ 134 qd142 (.d (.v (.bool true))) := cq (.run 14 [] <| .fin) []

theorem df50 : PQ 122 qd416 (aI 9) := cq (.run 13 [] <| .fin) []

theorem df51 : PQ 122 qd417 (aI 5) := cq (.run 13 [] <| .fin) []

theorem df53 : PQ 122 qd365 (aI 2) := cq (.run 13 [] <| .fin) []

theorem df54 : PQ 122 qd366 (aI 0) := cq (.run 13 [] <| .fin) []

theorem df55 : PQ 134 qd145 (.d (.v (.bool true))) := cq (.run 14 [] <| .fin) []

noncomputable def df56D : CT cfz := .run 477 [] <|  .fin
theorem df56k : crunS cfz 8 146 df56D [] (ent cfz 146 qd9) = some ((aI 14), []) := by kernel_rfl
theorem df56 : PQ 146 qd9 (aI 14) := closed_ok knil (by kernel_rfl) ((crunS_eq cfz 8 146 df56D [] (ent cfz 146 qd9)).symm.trans df56k) trivial

theorem df57 : PQ 135 qd438 (aI 9) := cq (.run 8 [] <| .use df56 <| .run 1 [(.ck 0)] <| .run 1 [] <| .use dd26 <| .run 1 [(.ck 1)] <| .run 3 [] <| .fin) [.eqA qd9 qd9, .eqA qd438 qd438]

theorem df59 : PQ 122 qd434 (aI 5) := cq (.run 13 [] <| .fin) []

noncomputable def df68D : CT cfz := .run 98 [] <| .run 1 [.enter] <| .run 61 [] <| .use dd22 <| .use dd23 <| .run 1 [.none, (.ck 0), (.ck 1), .none] <| .run 24 [] <| .use dd24 <| .run 1 [.none, (.ck 2), (.ck 1), .none] <| .run 24 [] <| .use dd26 <| .use dd76 <| .run 1 [.none, (.ck 3), (.ck 4), .none] <| .run 24 [] <| .use dd28 <| .use df31 <| .run 1 [.none, (.ck 5), (.ck 6), .none] <| .run 59 [] <| .run 1 [.none, (.ck 0), (.ck 1), .none] <| .run 24 [] <| .run 1 [.none, (.ck 3), (.ck 1), .none] <| .run 24 [] <| .use dd31 <| .use dd65 <| .run 1 [.none, (.ck 7), (.ck 8), .none] <| .run 24 [] <| .use dd32 <| .use df35 <| .run 1 [.none, (.ck 9), (.ck 10), .none] <| .run 60 [] <| .run 1 [.enter] <| .run 36 [] <| .use dd80 <| .run 1 [(.ck 11)] <| .run 1 [] <| .run 1 [.mg] <| .run 27 [] <| .use dd125 <| .run 1 [(.ck 12)] <| .run 1 [] <| .run 1 [.mg] <| .run 29 [] <| .use dd36 <| .run 1 [(.ck 13)] <| .run 1 [] <| .run 1 [.mg] <| .run 1 [] <| .run 1 [.mg] <| .run 30 [] <| .run 1 [.enter] <| .run 36 [] <| .use dd83 <| .run 1 [(.ck 14)] <| .run 1 [] <| .run 1 [.mg] <| .run 27 [] <| .use dd127 <| .run 1 [(.ck 15)] <| .run 1 [] <| .run 1 [.mg] <| .run 29 [] <| .use df44 <| .run 1 [(.ck 16)] <| .run 1 [] <| .run 1 [.mg] <| .run 1 [] <| .run 1 [.mg] <| .run 48 [] <| .run 1 [.enter] <| .run 34 [] <| .use df45 <| .run 1 [(.ck 17)] <| .run 46 [] <| .use dd88 <| .run 1 [(.ck 18)] <| .run 34 [] <| .use dd89 <| .run 1 [(.ck 19)] <| .run 32 [] <| .use df50 <| .run 1 [(.ck 20)] <| .run 32 [] <| .use df51 <| .run 1 [(.ck 21)] <| .run 113 [] <| .use dd45 <| .run 1 [.none, .none, (.ck 22), .none] <| .run 21 [] <| .use df53 <| .run 1 [.none, .none, (.ck 23), .none] <| .run 21 [] <| .use df54 <| .run 1 [.none, .none, (.ck 24), .none] <| .run 62 [] <| .run 1 [.enter] <| .run 34 [] <| .use df55 <| .run 1 [(.ck 25)] <| .run 46 [] <| .use df57 <| .run 1 [(.ck 26)] <| .run 34 [] <| .run 1 [(.ck 22)] <| .run 32 [] <| .run 1 [(.ck 19)] <| .run 32 [] <| .run 1 [(.ck 22)] <| .run 82 [] <| .use dd62 <| .run 1 [.none, .none, (.ck 27), .none] <| .run 21 [] <| .run 1 [.none, .none, (.ck 22), .none] <| .run 21 [] <| .use df59 <| .run 1 [.none, .none, (.ck 28), .none] <| .run 171 [] <| .use dd135 <| .run 1 [(.ck 29)] <| .run 4 [] <|  .fin
theorem df68k : crunS cfz 8 93 df68D [] (ent cfz 93 qd44) = some (qd121, [.eqA qd437 qd437, .eqA qd395 qd395, .eqA qd435 qd435, .eqA qd395 qd395, .eqA qd438 qd438, .eqA qd408 qd408, .eqA qd439 qd439, .eqA qd438 qd438, .eqA qd437 qd437, .eqA qd395 qd395, .eqA qd438 qd438, .eqA qd395 qd395, .eqA qd440 qd440, .eqA qd405 qd405, .eqA qd441 qd441, .eqA qd441 qd441, .eqA qd308 qd308, .eqA qd313 qd313, .eqA qd371 qd371, .eqA qd309 qd309, .eqA qd314 qd314, .eqA qd377 qd377, .eqA qd142 qd142, .eqA qd439 qd439, .eqA qd410 qd410, .eqA qd416 qd416, .eqA qd417 qd417, .eqA qd437 qd437, .eqA qd365 qd365, .eqA qd366 qd366, .eqA qd145 qd145, .eqA qd438 qd438, .eqA qd437 qd437, .eqA qd410 qd410, .eqA qd437 qd437, .eqA qd435 qd435, .eqA qd437 qd437, .eqA qd434 qd434, .eqA qd78 qd78]) := by kernel_rfl
theorem df68 : PQ 93 qd44 qd121 := closed_ok knil (by kernel_rfl) ((crunS_eq cfz 8 93 df68D [] (ent cfz 93 qd44)).symm.trans df68k) ⟨rfl, rfl, rfl, rfl, rfl, rfl, rfl, rfl, rfl, rfl, rfl, rfl, rfl, rfl, rfl, rfl, rfl, rfl, rfl, rfl, rfl, rfl, rfl, rfl, rfl, rfl, rfl, rfl, rfl, rfl, rfl, rfl, rfl, rfl, rfl, rfl, rfl, rfl, rfl, trivial⟩

theorem df69 : PQ 94 qd48 qd315 := cq (.run 178 [] <| .fin) []

noncomputable def df70D : CT cfz := .run 12 [] <| .use df18 <| .use dd19 <| .use dd20 <| .run 1 [.none, .none, (.ck 0), .none, (.ck 1), (.ck 2)] <| .run 39 [] <| .use df21 <| .use df22 <| .run 1 [(.br false), (.br false), (.br false), .none, (.br false), .none, (.ck 3), .none, (.ck 4), (.ck 2)] <| .run 36 [] <| .run 1 [(.br false), (.br false), (.br false), .none, (.br false), .none, (.ck 3), .none, (.ck 4), (.ck 2)] <| .run 215 [] <| .use df23 <| .run 1 [(.ck 5)] <| .run 18 [] <| .run 1 [.enter] <| .run 17 [] <| .run 1 [.enter] <| .run 7 [] <| .use df24 <| .use df68 <| .run 1 [.none, .none, .none, (.ck 6), .none, (.ck 7)] <| .run 30 [] <| .use df69 <| .run 1 [.none, .none, .none, (.ck 8)] <| .run 2 [] <|  .fin
theorem df70k : crunS cfz 8 31 df70D [] (ent cfz 31 qd44) = some (qd63, [.eqA qd79 qd79, .eqA qd333 qd333, .eqA qd284 qd284, .eqA qd324 qd324, .eqA qd334 qd334, .eqA qd284 qd284, .eqA qd324 qd324, .eqA qd334 qd334, .eqA qd284 qd284, .eqA qd213 qd213, .eqA qd285 qd285, .eqA qd44 qd44, .eqA qd48 qd48]) := by kernel_rfl
theorem df70 : PQ 31 qd44 qd63 := closed_ok knil (by kernel_rfl) ((crunS_eq cfz 8 31 df70D [] (ent cfz 31 qd44)).symm.trans df70k) ⟨rfl, rfl, rfl, rfl, rfl, rfl, rfl, rfl, rfl, rfl, rfl, rfl, rfl, trivial⟩
end Go.Kv
