/- The second example of Decode. -/
import Derived.Test.YtdelimpnnpifpaaGreatDoorKvWs
import Derived.Test.YtdelimpnnpifpaaGreatDoorKvW
import Derived.Test.YtdelimpnnpifpaaGreatDoorKdB
set_option linter.all false
namespace Go.Kv
open Go Go.RowKit Go.Proofs
set_option maxRecDepth 100000
theorem de27 : PQ 122 qd418 (aI 3) := cq (.run 13 [] <| .fin) []

theorem de29 : PQ 122 qd419 (aI 5) := cq (.run 13 [] <| .fin) []

theorem de30 : PQ 122 qd420 (aI 13) := cq (.run 13 [] <| .fin) []

theorem de32 : PQ 122 qd421 (aI 9) := cq (.run 13 [] <| .fin) []

theorem de34 : PQ 122 qd389 (aI 12) := cq (.run 13 [] <| .fin) []

noncomputable def de35D : CT cfz := .run 61 [] <| .use dd22 <| .use dd23 <| .run 1 [.none, (.ck 0), (.ck 1), .none] <| .run 24 [] <| .use dd24 <| .use dd94 <| .run 1 [.none, (.ck 2), (.ck 3), .none] <| .run 24 [] <| .use dd26 <| .use de27 <| .run 1 [.none, (.ck 4), (.ck 5), .none] <| .run 24 [] <| .use dd28 <| .use de29 <| .run 1 [.none, (.ck 6), (.ck 7), .none] <| .run 59 [] <| .run 1 [.none, (.ck 0), (.ck 1), .none] <| .run 24 [] <| .use de30 <| .run 1 [.none, (.ck 4), (.ck 8), .none] <| .run 24 [] <| .use dd31 <| .use de32 <| .run 1 [.none, (.ck 9), (.ck 10), .none] <| .run 24 [] <| .use dd32 <| .use de34 <| .run 1 [.none, (.ck 11), (.ck 12), .none] <| .run 32 [] <|  .fin
theorem de35k : crunS cfz 8 80 de35D [] (ent cfz 80 qd79) = some (qd298, [.eqA qd437 qd437, .eqA qd395 qd395, .eqA qd435 qd435, .eqA qd413 qd413, .eqA qd438 qd438, .eqA qd418 qd418, .eqA qd439 qd439, .eqA qd419 qd419, .eqA qd437 qd437, .eqA qd395 qd395, .eqA qd438 qd438, .eqA qd420 qd420, .eqA qd440 qd440, .eqA qd421 qd421, .eqA qd441 qd441, .eqA qd389 qd389]) := by kernel_rfl
theorem de35 : PQ 80 qd79 qd298 := closed_ok knil (by kernel_rfl) ((crunS_eq cfz 8 80 de35D [] (ent cfz 80 qd79)).symm.trans de35k) ⟨rfl, rfl, rfl, rfl, rfl, rfl, rfl, rfl, rfl, rfl, rfl, rfl, rfl, rfl, rfl, rfl, trivial⟩

theorem de37 : PQ 122 qd378 (aI 12) := cq (.run 13 [] <| .fin) []

theorem de39 : PQ 122 qd367 (aI 5) := cq (.run 13 [] <| .fin) []

theorem de40 : PQ 125 qd434 (.d (.v (.bool true))) := cq (.run 11 [] <| .fin) []

theorem de41 : PQ 156 qd159 (aI 0) := cq (.run 34 [] <| .use de40 <| .run 1 [(.ck 0)] <| .run 8 [] <| .fin) [.eqA qd434 qd434]

theorem de42 : PQ 124 qd159 (.d (.v (.bool true))) := cq (.run 8 [] <| .use de41 <| .run 1 [(.ck 0)] <| .run 4 [] <| .fin) [.eqA qd159 qd159]

theorem de43 : PQ 81 qd79 (.d (.v (.bool false))) := cq (.run 9 [] <| .use de35 <| .run 1 [(.ck 0)] <| .use de42 <| .run 1 [(.ck 1)] <| .run 4 [] <| .fin) [.eqA qd79 qd79, .eqA qd159 qd159]

noncomputable def de44D : CT cfz := .run 44 [] <| .run 1 [.enter] <| .run 61 [] <| .use dd22 <| .use dd23 <| .run 1 [.none, (.ck 0), (.ck 1), .none] <| .run 24 [] <| .use dd24 <| .use dd94 <| .run 1 [.none, (.ck 2), (.ck 3), .none] <| .run 24 [] <| .use dd26 <| .use de27 <| .run 1 [.none, (.ck 4), (.ck 5), .none] <| .run 24 [] <| .use dd28 <| .use de29 <| .run 1 [.none, (.ck 6), (.ck 7), .none] <| .run 59 [] <| .run 1 [.none, (.ck 0), (.ck 1), .none] <| .run 24 [] <| .use de30 <| .run 1 [.none, (.ck 4), (.ck 8), .none] <| .run 24 [] <| .use dd31 <| .use de32 <| .run 1 [.none, (.ck 9), (.ck 10), .none] <| .run 24 [] <| .use dd32 <| .use de34 <| .run 1 [.none, (.ck 11), (.ck 12), .none] <| .run 60 [] <| .run 1 [.enter] <| .run 38 [] <| .use de37 <| .run 1 [(.ck 13)] <| .run 1 [] <| .run 1 [.mg] <| .run 1 [] <| .run 1 [.mg] <| .run 30 [] <| .run 1 [.enter] <| .run 38 [] <| .use de39 <| .run 1 [(.ck 14)] <| .run 1 [] <| .run 1 [.mg] <| .run 1 [] <| .run 1 [.mg] <| .run 52 [] <| .use de43 <| .run 1 [(.ck 15)] <| .run 4 [] <|  .fin
theorem de44k : crunS cfz 8 93 de44D [] (ent cfz 93 qd68) = some (qd117, [.eqA qd437 qd437, .eqA qd395 qd395, .eqA qd435 qd435, .eqA qd413 qd413, .eqA qd438 qd438, .eqA qd418 qd418, .eqA qd439 qd439, .eqA qd419 qd419, .eqA qd437 qd437, .eqA qd395 qd395, .eqA qd438 qd438, .eqA qd420 qd420, .eqA qd440 qd440, .eqA qd421 qd421, .eqA qd441 qd441, .eqA qd389 qd389, .eqA qd378 qd378, .eqA qd367 qd367, .eqA qd79 qd79]) := by kernel_rfl
theorem de44 : PQ 93 qd68 qd117 := closed_ok knil (by kernel_rfl) ((crunS_eq cfz 8 93 de44D [] (ent cfz 93 qd68)).symm.trans de44k) ⟨rfl, rfl, rfl, rfl, rfl, rfl, rfl, rfl, rfl, rfl, rfl, rfl, rfl, rfl, rfl, rfl, rfl, rfl, rfl, trivial⟩

theorem de48 : PQ 122 qd422 (aI 12) := cq (.run 13 [] <| .fin) []

theorem de49 : PQ 122 qd423 (aI 3) := cq (.run 13 [] <| .fin) []

theorem de50 : PQ 122 qd404 (aI 16) := cq (.run 13 [] <| .fin) []

theorem de58 : PQ 134 qd209 (.d (.v (.bool true))) := cq (.run 14 [] <| .fin) []

theorem de67 : PQ 122 qd424 (aI 8) := cq (.run 13 [] <| .fin) []

theorem de68 : PQ 122 qd425 (aI 4) := cq (.run 13 [] <| .fin) []

noncomputable def de70D : CT cfz := .run 61 [] <| .use dd22 <| .use df59 <| .run 1 [.none, (.ck 0), (.ck 1), .none] <| .run 24 [] <| .use dd24 <| .use dd65 <| .run 1 [.none, (.ck 2), (.ck 3), .none] <| .run 24 [] <| .use dd26 <| .use dd46 <| .run 1 [.none, (.ck 4), (.ck 5), .none] <| .run 24 [] <| .use dd28 <| .use dd66 <| .run 1 [.none, (.ck 6), (.ck 7), .none] <| .run 59 [] <| .run 1 [.none, (.ck 0), (.ck 1), .none] <| .run 24 [] <| .use de67 <| .run 1 [.none, (.ck 4), (.ck 8), .none] <| .run 24 [] <| .use dd31 <| .use de68 <| .run 1 [.none, (.ck 9), (.ck 10), .none] <| .run 24 [] <| .use dd32 <| .use dd103 <| .run 1 [.none, (.ck 11), (.ck 12), .none] <| .run 32 [] <|  .fin
theorem de70k : crunS cfz 8 80 de70D [] (ent cfz 80 qd88) = some (qd317, [.eqA qd437 qd437, .eqA qd434 qd434, .eqA qd435 qd435, .eqA qd405 qd405, .eqA qd438 qd438, .eqA qd400 qd400, .eqA qd439 qd439, .eqA qd406 qd406, .eqA qd437 qd437, .eqA qd434 qd434, .eqA qd438 qd438, .eqA qd424 qd424, .eqA qd440 qd440, .eqA qd425 qd425, .eqA qd441 qd441, .eqA qd385 qd385]) := by kernel_rfl
theorem de70 : PQ 80 qd88 qd317 := closed_ok knil (by kernel_rfl) ((crunS_eq cfz 8 80 de70D [] (ent cfz 80 qd88)).symm.trans de70k) ⟨rfl, rfl, rfl, rfl, rfl, rfl, rfl, rfl, rfl, rfl, rfl, rfl, rfl, rfl, rfl, rfl, trivial⟩

theorem de72 : PQ 125 qd436 (.d (.v (.bool true))) := cq (.run 11 [] <| .fin) []

theorem de73 : PQ 156 qd165 (aI 1) := cq (.run 34 [] <| .use dd70 <| .run 1 [(.ck 0)] <| .run 30 [] <| .use de72 <| .run 1 [(.ck 1)] <| .run 8 [] <| .fin) [.eqA qd437 qd437, .eqA qd436 qd436]

theorem de74 : PQ 124 qd165 (.d (.v (.bool true))) := cq (.run 8 [] <| .use de73 <| .run 1 [(.ck 0)] <| .run 4 [] <| .fin) [.eqA qd165 qd165]

theorem de75 : PQ 81 qd88 (.d (.v (.bool false))) := cq (.run 9 [] <| .use de70 <| .run 1 [(.ck 0)] <| .use de74 <| .run 1 [(.ck 1)] <| .run 4 [] <| .fin) [.eqA qd88 qd88, .eqA qd165 qd165]

noncomputable def de76D : CT cfz := .run 71 [] <| .run 1 [.enter] <| .run 61 [] <| .use dd22 <| .use dd45 <| .run 1 [.none, (.ck 0), (.ck 1), .none] <| .run 24 [] <| .use dd24 <| .use dd89 <| .run 1 [.none, (.ck 2), (.ck 3), .none] <| .run 24 [] <| .use dd26 <| .use dd23 <| .run 1 [.none, (.ck 4), (.ck 5), .none] <| .run 24 [] <| .use dd28 <| .use de48 <| .run 1 [.none, (.ck 6), (.ck 7), .none] <| .run 59 [] <| .run 1 [.none, (.ck 0), (.ck 1), .none] <| .run 24 [] <| .use de49 <| .run 1 [.none, (.ck 4), (.ck 8), .none] <| .run 24 [] <| .use dd31 <| .use de50 <| .run 1 [.none, (.ck 9), (.ck 10), .none] <| .run 24 [] <| .use dd32 <| .use dd118 <| .run 1 [.none, (.ck 11), (.ck 12), .none] <| .run 60 [] <| .run 1 [.enter] <| .run 36 [] <| .use dd52 <| .run 1 [(.ck 13)] <| .run 1 [] <| .run 1 [.mg] <| .run 29 [] <| .use de39 <| .run 1 [(.ck 14)] <| .run 1 [] <| .run 1 [.mg] <| .run 1 [] <| .run 1 [.mg] <| .run 30 [] <| .run 1 [.enter] <| .run 36 [] <| .use dd55 <| .run 1 [(.ck 15)] <| .run 1 [] <| .run 1 [.mg] <| .run 29 [] <| .use dd36 <| .run 1 [(.ck 16)] <| .run 1 [] <| .run 1 [.mg] <| .run 1 [] <| .run 1 [.mg] <| .run 48 [] <| .run 1 [.enter] <| .run 34 [] <| .use de58 <| .run 1 [(.ck 17)] <| .run 46 [] <| .use dd61 <| .run 1 [(.ck 18)] <| .run 34 [] <| .use dd62 <| .run 1 [(.ck 19)] <| .run 32 [] <| .use df59 <| .run 1 [(.ck 20)] <| .run 113 [] <| .run 1 [.none, .none, (.ck 1), .none] <| .run 21 [] <| .run 1 [.none, .none, (.ck 5), .none] <| .run 103 [] <| .use de75 <| .run 1 [(.ck 21)] <| .run 4 [] <|  .fin
theorem de76k : crunS cfz 8 93 de76D [] (ent cfz 93 qd55) = some (qd122, [.eqA qd437 qd437, .eqA qd437 qd437, .eqA qd435 qd435, .eqA qd410 qd410, .eqA qd438 qd438, .eqA qd395 qd395, .eqA qd439 qd439, .eqA qd422 qd422, .eqA qd437 qd437, .eqA qd437 qd437, .eqA qd438 qd438, .eqA qd423 qd423, .eqA qd440 qd440, .eqA qd404 qd404, .eqA qd441 qd441, .eqA qd388 qd388, .eqA qd304 qd304, .eqA qd367 qd367, .eqA qd305 qd305, .eqA qd371 qd371, .eqA qd209 qd209, .eqA qd435 qd435, .eqA qd435 qd435, .eqA qd434 qd434, .eqA qd437 qd437, .eqA qd395 qd395, .eqA qd88 qd88]) := by kernel_rfl
theorem de76 : PQ 93 qd55 qd122 := closed_ok knil (by kernel_rfl) ((crunS_eq cfz 8 93 de76D [] (ent cfz 93 qd55)).symm.trans de76k) ⟨rfl, rfl, rfl, rfl, rfl, rfl, rfl, rfl, rfl, rfl, rfl, rfl, rfl, rfl, rfl, rfl, rfl, rfl, rfl, rfl, rfl, rfl, rfl, rfl, rfl, rfl, rfl, trivial⟩

noncomputable def de101D : CT cfz := .run 71 [] <| .run 1 [.enter] <| .run 61 [] <| .use dd22 <| .use dd23 <| .run 1 [.none, (.ck 0), (.ck 1), .none] <| .run 24 [] <| .use dd24 <| .run 1 [.none, (.ck 2), (.ck 1), .none] <| .run 24 [] <| .use dd26 <| .use dd76 <| .run 1 [.none, (.ck 3), (.ck 4), .none] <| .run 24 [] <| .use dd28 <| .use dd77 <| .run 1 [.none, (.ck 5), (.ck 6), .none] <| .run 59 [] <| .run 1 [.none, (.ck 0), (.ck 1), .none] <| .run 24 [] <| .run 1 [.none, (.ck 3), (.ck 1), .none] <| .run 24 [] <| .use dd31 <| .use dd65 <| .run 1 [.none, (.ck 7), (.ck 8), .none] <| .run 24 [] <| .use dd32 <| .use dd78 <| .run 1 [.none, (.ck 9), (.ck 10), .none] <| .run 60 [] <| .run 1 [.enter] <| .run 36 [] <| .use dd80 <| .run 1 [(.ck 11)] <| .run 1 [] <| .run 1 [.mg] <| .run 29 [] <| .use dd82 <| .run 1 [(.ck 12)] <| .run 1 [] <| .run 1 [.mg] <| .run 1 [] <| .run 1 [.mg] <| .run 30 [] <| .run 1 [.enter] <| .run 36 [] <| .use dd83 <| .run 1 [(.ck 13)] <| .run 1 [] <| .run 1 [.mg] <| .run 29 [] <| .use dd54 <| .run 1 [(.ck 14)] <| .run 1 [] <| .run 1 [.mg] <| .run 1 [] <| .run 1 [.mg] <| .run 48 [] <| .run 1 [.enter] <| .run 34 [] <| .use dd85 <| .run 1 [(.ck 15)] <| .run 46 [] <| .use dd88 <| .run 1 [(.ck 16)] <| .run 34 [] <| .use dd89 <| .run 1 [(.ck 17)] <| .run 32 [] <| .use dd90 <| .run 1 [(.ck 18)] <| .run 113 [] <| .use dd45 <| .run 1 [.none, .none, (.ck 19), .none] <| .run 21 [] <| .use dd91 <| .run 1 [.none, .none, (.ck 20), .none] <| .run 103 [] <| .use dd100 <| .run 1 [(.ck 21)] <| .run 4 [] <|  .fin
theorem de101k : crunS cfz 8 93 de101D [] (ent cfz 93 qd56) = some (qd113, [.eqA qd437 qd437, .eqA qd395 qd395, .eqA qd435 qd435, .eqA qd395 qd395, .eqA qd438 qd438, .eqA qd408 qd408, .eqA qd439 qd439, .eqA qd409 qd409, .eqA qd437 qd437, .eqA qd395 qd395, .eqA qd438 qd438, .eqA qd395 qd395, .eqA qd440 qd440, .eqA qd405 qd405, .eqA qd441 qd441, .eqA qd382 qd382, .eqA qd308 qd308, .eqA qd375 qd375, .eqA qd309 qd309, .eqA qd373 qd373, .eqA qd205 qd205, .eqA qd439 qd439, .eqA qd410 qd410, .eqA qd411 qd411, .eqA qd437 qd437, .eqA qd364 qd364, .eqA qd72 qd72]) := by kernel_rfl
theorem de101 : PQ 93 qd56 qd113 := closed_ok knil (by kernel_rfl) ((crunS_eq cfz 8 93 de101D [] (ent cfz 93 qd56)).symm.trans de101k) ⟨rfl, rfl, rfl, rfl, rfl, rfl, rfl, rfl, rfl, rfl, rfl, rfl, rfl, rfl, rfl, rfl, rfl, rfl, rfl, rfl, rfl, rfl, rfl, rfl, rfl, rfl, rfl, trivial⟩

theorem de102 : PQ 122 qd426 (aI 11) := cq (.run 13 [] <| .fin) []

theorem de103 : PQ 122 qd427 (aI 13) := cq (.run 13 [] <| .fin) []

theorem de104 : PQ 122 qd415 (aI 13) := cq (.run 13 [] <| .fin) []

theorem de105 : PQ 122 qd390 (aI 16) := cq (.run 13 [] <| .fin) []

theorem de109 : PQ 122 qd368 (aI 4) := cq (.run 13 [] <| .fin) []

theorem de112 : PQ 122 qd369 (aI 1) := cq (.run 13 [] <| .fin) []

theorem de113 : PQ 134 qd210 (.d (.v (.bool true))) := cq (.run 14 [] <| .fin) []

theorem de118 : PQ 122 qd361 (aI 16) := cq (.run 13 [] <| .fin) []

theorem de119 : PQ 122 qd428 (aI 15) := cq (.run 13 [] <| .fin) []

theorem de120 : PQ 122 qd391 (aI 15) := cq (.run 13 [] <| .fin) []

noncomputable def de122D : CT cfz := .run 61 [] <| .use dd22 <| .use dd23 <| .run 1 [.none, (.ck 0), (.ck 1), .none] <| .run 24 [] <| .use dd24 <| .use dd94 <| .run 1 [.none, (.ck 2), (.ck 3), .none] <| .run 24 [] <| .use dd26 <| .use de119 <| .run 1 [.none, (.ck 4), (.ck 5), .none] <| .run 24 [] <| .use dd28 <| .use dd66 <| .run 1 [.none, (.ck 6), (.ck 7), .none] <| .run 59 [] <| .run 1 [.none, (.ck 0), (.ck 1), .none] <| .run 24 [] <| .use de30 <| .run 1 [.none, (.ck 4), (.ck 8), .none] <| .run 24 [] <| .use dd31 <| .use de120 <| .run 1 [.none, (.ck 9), (.ck 10), .none] <| .run 24 [] <| .use dd32 <| .use dd68 <| .run 1 [.none, (.ck 11), (.ck 12), .none] <| .run 32 [] <|  .fin
theorem de122k : crunS cfz 8 80 de122D [] (ent cfz 80 qd82) = some (qd306, [.eqA qd437 qd437, .eqA qd395 qd395, .eqA qd435 qd435, .eqA qd413 qd413, .eqA qd438 qd438, .eqA qd428 qd428, .eqA qd439 qd439, .eqA qd406 qd406, .eqA qd437 qd437, .eqA qd395 qd395, .eqA qd438 qd438, .eqA qd420 qd420, .eqA qd440 qd440, .eqA qd391 qd391, .eqA qd441 qd441, .eqA qd381 qd381]) := by kernel_rfl
theorem de122 : PQ 80 qd82 qd306 := closed_ok knil (by kernel_rfl) ((crunS_eq cfz 8 80 de122D [] (ent cfz 80 qd82)).symm.trans de122k) ⟨rfl, rfl, rfl, rfl, rfl, rfl, rfl, rfl, rfl, rfl, rfl, rfl, rfl, rfl, rfl, rfl, trivial⟩

theorem de126 : PQ 81 qd82 (.d (.v (.bool false))) := cq (.run 9 [] <| .use de122 <| .run 1 [(.ck 0)] <| .use dd73 <| .run 1 [(.ck 1)] <| .run 4 [] <| .fin) [.eqA qd82 qd82, .eqA qd162 qd162]

noncomputable def de127D : CT cfz := .run 71 [] <| .run 1 [.enter] <| .run 61 [] <| .use dd22 <| .use dd23 <| .run 1 [.none, (.ck 0), (.ck 1), .none] <| .run 24 [] <| .use dd24 <| .use dd94 <| .run 1 [.none, (.ck 2), (.ck 3), .none] <| .run 24 [] <| .use dd26 <| .use de102 <| .run 1 [.none, (.ck 4), (.ck 5), .none] <| .run 24 [] <| .use dd28 <| .use de103 <| .run 1 [.none, (.ck 6), (.ck 7), .none] <| .run 59 [] <| .run 1 [.none, (.ck 0), (.ck 1), .none] <| .run 24 [] <| .use de30 <| .run 1 [.none, (.ck 4), (.ck 8), .none] <| .run 24 [] <| .use dd31 <| .use de104 <| .run 1 [.none, (.ck 9), (.ck 10), .none] <| .run 24 [] <| .use dd32 <| .use de105 <| .run 1 [.none, (.ck 11), (.ck 12), .none] <| .run 60 [] <| .run 1 [.enter] <| .run 36 [] <| .use dd105 <| .run 1 [(.ck 13)] <| .run 1 [] <| .run 1 [.mg] <| .run 29 [] <| .use de109 <| .run 1 [(.ck 14)] <| .run 1 [] <| .run 1 [.mg] <| .run 1 [] <| .run 1 [.mg] <| .run 30 [] <| .run 1 [.enter] <| .run 36 [] <| .use dd107 <| .run 1 [(.ck 15)] <| .run 1 [] <| .run 1 [.mg] <| .run 29 [] <| .use de112 <| .run 1 [(.ck 16)] <| .run 1 [] <| .run 1 [.mg] <| .run 1 [] <| .run 1 [.mg] <| .run 48 [] <| .run 1 [.enter] <| .run 34 [] <| .use de113 <| .run 1 [(.ck 17)] <| .run 46 [] <| .use dd113 <| .run 1 [(.ck 18)] <| .run 34 [] <| .use dd89 <| .run 1 [(.ck 19)] <| .run 32 [] <| .use dd63 <| .run 1 [(.ck 20)] <| .run 113 [] <| .use dd45 <| .run 1 [.none, .none, (.ck 21), .none] <| .run 21 [] <| .use de118 <| .run 1 [.none, .none, (.ck 22), .none] <| .run 103 [] <| .use de126 <| .run 1 [(.ck 23)] <| .run 4 [] <|  .fin
theorem de127k : crunS cfz 8 93 de127D [] (ent cfz 93 qd57) = some (qd118, [.eqA qd437 qd437, .eqA qd395 qd395, .eqA qd435 qd435, .eqA qd413 qd413, .eqA qd438 qd438, .eqA qd426 qd426, .eqA qd439 qd439, .eqA qd427 qd427, .eqA qd437 qd437, .eqA qd395 qd395, .eqA qd438 qd438, .eqA qd420 qd420, .eqA qd440 qd440, .eqA qd415 qd415, .eqA qd441 qd441, .eqA qd390 qd390, .eqA qd310 qd310, .eqA qd368 qd368, .eqA qd311 qd311, .eqA qd369 qd369, .eqA qd210 qd210, .eqA qd443 qd443, .eqA qd410 qd410, .eqA qd442 qd442, .eqA qd437 qd437, .eqA qd361 qd361, .eqA qd82 qd82]) := by kernel_rfl
theorem de127 : PQ 93 qd57 qd118 := closed_ok knil (by kernel_rfl) ((crunS_eq cfz 8 93 de127D [] (ent cfz 93 qd57)).symm.trans de127k) ⟨rfl, rfl, rfl, rfl, rfl, rfl, rfl, rfl, rfl, rfl, rfl, rfl, rfl, rfl, rfl, rfl, rfl, rfl, rfl, rfl, rfl, rfl, rfl, rfl, rfl, rfl, rfl, trivial⟩

theorem de128 : PQ 122 qd439 (aI 3) := cq (.run 13 [] <| .fin) []

theorem de129 : PQ 122 qd443 (aI 9) := cq (.run 13 [] <| .fin) []

theorem de136 : PQ 134 qd204 (.d (.v (.bool true))) := cq (.run 14 [] <| .fin) []

theorem de140 : PQ 122 qd392 (aI 15) := cq (.run 13 [] <| .fin) []

theorem de141 : PQ 122 qd362 (aI 4) := cq (.run 13 [] <| .fin) []

theorem de142 : PQ 122 qd393 (aI 0) := cq (.run 13 [] <| .fin) []

theorem de143 : PQ 122 qd394 (aI 13) := cq (.run 13 [] <| .fin) []

noncomputable def de144D : CT cfz := .run 61 [] <| .use dd22 <| .use dd23 <| .run 1 [.none, (.ck 0), (.ck 1), .none] <| .run 24 [] <| .use dd24 <| .use dd94 <| .run 1 [.none, (.ck 2), (.ck 3), .none] <| .run 24 [] <| .use dd26 <| .use de27 <| .run 1 [.none, (.ck 4), (.ck 5), .none] <| .run 24 [] <| .use dd28 <| .use de142 <| .run 1 [.none, (.ck 6), (.ck 7), .none] <| .run 59 [] <| .run 1 [.none, (.ck 0), (.ck 1), .none] <| .run 24 [] <| .use de30 <| .run 1 [.none, (.ck 4), (.ck 8), .none] <| .run 24 [] <| .use dd31 <| .use de32 <| .run 1 [.none, (.ck 9), (.ck 10), .none] <| .run 24 [] <| .use dd32 <| .use de143 <| .run 1 [.none, (.ck 11), (.ck 12), .none] <| .run 32 [] <|  .fin
theorem de144k : crunS cfz 8 80 de144D [] (ent cfz 80 qd74) = some (qd300, [.eqA qd437 qd437, .eqA qd395 qd395, .eqA qd435 qd435, .eqA qd413 qd413, .eqA qd438 qd438, .eqA qd418 qd418, .eqA qd439 qd439, .eqA qd393 qd393, .eqA qd437 qd437, .eqA qd395 qd395, .eqA qd438 qd438, .eqA qd420 qd420, .eqA qd440 qd440, .eqA qd421 qd421, .eqA qd441 qd441, .eqA qd394 qd394]) := by kernel_rfl
theorem de144 : PQ 80 qd74 qd300 := closed_ok knil (by kernel_rfl) ((crunS_eq cfz 8 80 de144D [] (ent cfz 80 qd74)).symm.trans de144k) ⟨rfl, rfl, rfl, rfl, rfl, rfl, rfl, rfl, rfl, rfl, rfl, rfl, rfl, rfl, rfl, rfl, trivial⟩

theorem de145 : PQ 125 qd415 (.d (.v (.bool true))) := cq (.run 11 [] <| .fin) []

theorem de146 : PQ 156 qd160 (aI 1) := cq (.run 34 [] <| .use dd70 <| .run 1 [(.ck 0)] <| .run 30 [] <| .use de145 <| .run 1 [(.ck 1)] <| .run 8 [] <| .fin) [.eqA qd437 qd437, .eqA qd415 qd415]

theorem de147 : PQ 124 qd160 (.d (.v (.bool true))) := cq (.run 8 [] <| .use de146 <| .run 1 [(.ck 0)] <| .run 4 [] <| .fin) [.eqA qd160 qd160]

theorem de148 : PQ 81 qd74 (.d (.v (.bool false))) := cq (.run 9 [] <| .use de144 <| .run 1 [(.ck 0)] <| .use de147 <| .run 1 [(.ck 1)] <| .run 4 [] <| .fin) [.eqA qd74 qd74, .eqA qd160 qd160]

noncomputable def de149D : CT cfz := .run 71 [] <| .run 1 [.enter] <| .run 61 [] <| .use dd22 <| .use dd23 <| .run 1 [.none, (.ck 0), (.ck 1), .none] <| .run 24 [] <| .use dd24 <| .use dd94 <| .run 1 [.none, (.ck 2), (.ck 3), .none] <| .run 24 [] <| .use dd26 <| .use de27 <| .run 1 [.none, (.ck 4), (.ck 5), .none] <| .run 24 [] <| .use dd28 <| .use de128 <| .run 1 [.none, (.ck 6), (.ck 7), .none] <| .run 59 [] <| .run 1 [.none, (.ck 0), (.ck 1), .none] <| .run 24 [] <| .use de30 <| .run 1 [.none, (.ck 4), (.ck 8), .none] <| .run 24 [] <| .use dd31 <| .use de32 <| .run 1 [.none, (.ck 9), (.ck 10), .none] <| .run 24 [] <| .use dd32 <| .use de129 <| .run 1 [.none, (.ck 11), (.ck 12), .none] <| .run 60 [] <| .run 1 [.enter] <| .run 36 [] <| .use dd125 <| .run 1 [(.ck 13)] <| .run 1 [] <| .run 1 [.mg] <| .run 29 [] <| .use dd38 <| .run 1 [(.ck 14)] <| .run 1 [] <| .run 1 [.mg] <| .run 1 [] <| .run 1 [.mg] <| .run 30 [] <| .run 1 [.enter] <| .run 36 [] <| .use dd127 <| .run 1 [(.ck 15)] <| .run 1 [] <| .run 1 [.mg] <| .run 29 [] <| .use dd54 <| .run 1 [(.ck 16)] <| .run 1 [] <| .run 1 [.mg] <| .run 1 [] <| .run 1 [.mg] <| .run 48 [] <| .run 1 [.enter] <| .run 34 [] <| .use de136 <| .run 1 [(.ck 17)] <| .run 46 [] <| .use dd132 <| .run 1 [(.ck 18)] <| .run 34 [] <| .use dd68 <| .run 1 [(.ck 19)] <| .run 32 [] <| .use de140 <| .run 1 [(.ck 20)] <| .run 113 [] <| .use dd45 <| .run 1 [.none, .none, (.ck 21), .none] <| .run 21 [] <| .use de141 <| .run 1 [.none, .none, (.ck 22), .none] <| .run 103 [] <| .use de148 <| .run 1 [(.ck 23)] <| .run 4 [] <|  .fin
theorem de149k : crunS cfz 8 93 de149D [] (ent cfz 93 qd58) = some (qd115, [.eqA qd437 qd437, .eqA qd395 qd395, .eqA qd435 qd435, .eqA qd413 qd413, .eqA qd438 qd438, .eqA qd418 qd418, .eqA qd439 qd439, .eqA qd439 qd439, .eqA qd437 qd437, .eqA qd395 qd395, .eqA qd438 qd438, .eqA qd420 qd420, .eqA qd440 qd440, .eqA qd421 qd421, .eqA qd441 qd441, .eqA qd443 qd443, .eqA qd313 qd313, .eqA qd372 qd372, .eqA qd314 qd314, .eqA qd373 qd373, .eqA qd204 qd204, .eqA qd395 qd395, .eqA qd381 qd381, .eqA qd392 qd392, .eqA qd437 qd437, .eqA qd362 qd362, .eqA qd74 qd74]) := by kernel_rfl
theorem de149 : PQ 93 qd58 qd115 := closed_ok knil (by kernel_rfl) ((crunS_eq cfz 8 93 de149D [] (ent cfz 93 qd58)).symm.trans de149k) ⟨rfl, rfl, rfl, rfl, rfl, rfl, rfl, rfl, rfl, rfl, rfl, rfl, rfl, rfl, rfl, rfl, rfl, rfl, rfl, rfl, rfl, rfl, rfl, rfl, rfl, rfl, rfl, trivial⟩

noncomputable def de150D : CT cfz := .run 12 [] <| .use df18 <| .use dd19 <| .use dd20 <| .run 1 [.none, .none, (.ck 0), .none, (.ck 1), (.ck 2)] <| .run 218 [] <| .use dd21 <| .run 1 [(.ck 3)] <| .run 18 [] <| .run 1 [.enter] <| .run 17 [] <| .run 1 [.enter] <| .run 7 [] <| .use de44 <| .run 1 [.none, .none, .none, (.call qd360 (.d (.v (.slice .none 0 0)))), .none, (.ck 4)] <| .run 44 [] <| .use dd44 <| .run 1 [(.ck 5)] <| .run 18 [] <| .run 1 [.enter] <| .run 36 [] <| .run 1 [.none, (.call qd360 (.d (.v (.slice .none 0 0)))), .none, .none, .none, .enter] <| .run 17 [] <| .run 1 [.enter] <| .run 7 [] <| .use de76 <| .run 1 [.none, .none, .none, (.call qd360 (.d (.v (.slice .none 0 0)))), .none, (.ck 6)] <| .run 36 [] <| .run 1 [.none, (.call qd360 (.d (.v (.slice .none 0 0)))), .none, .none, .none, .enter] <| .run 17 [] <| .run 1 [.enter] <| .run 7 [] <| .use de101 <| .run 1 [.none, .none, .none, (.call qd360 (.d (.v (.slice .none 0 0)))), .none, (.ck 7)] <| .run 36 [] <| .run 1 [.none, (.call qd360 (.d (.v (.slice .none 0 0)))), .none, .none, .none, .enter] <| .run 17 [] <| .run 1 [.enter] <| .run 7 [] <| .use de127 <| .run 1 [.none, .none, .none, (.call qd360 (.d (.v (.slice .none 0 0)))), .none, (.ck 8)] <| .run 36 [] <| .run 1 [.none, (.call qd360 (.d (.v (.slice .none 0 0)))), .none, .none, .none, .enter] <| .run 17 [] <| .run 1 [.enter] <| .run 7 [] <| .use de149 <| .run 1 [.none, .none, .none, (.call qd360 (.d (.v (.slice .none 0 0)))), .none, (.ck 9)] <| .run 80 [] <|  .fin
theorem de150k : crunS cfz 8 31 de150D [] (ent cfz 31 qd62) = some (qd272, [.eqA qd79 qd79, .eqA qd333 qd333, .eqA qd284 qd284, .eqA qd124 qd124, (.prop ([AV.d (DV.v (Value.slice none 0 0))] = [AV.d (DV.v (Value.slice none 0 0))])), (.prop (PQ 86 [AV.d (DV.v (Value.slice none 0 0))] (AV.d (DV.v (Value.slice none 0 0))))), .eqA qd68 qd68, .eqA qd125 qd125, (.prop ([AV.d (DV.v (Value.slice none 0 0))] = [AV.d (DV.v (Value.slice none 0 0))])), (.prop (PQ 86 [AV.d (DV.v (Value.slice none 0 0))] (AV.d (DV.v (Value.slice none 0 0))))), (.prop ([AV.d (DV.v (Value.slice none 0 0))] = [AV.d (DV.v (Value.slice none 0 0))])), (.prop (PQ 86 [AV.d (DV.v (Value.slice none 0 0))] (AV.d (DV.v (Value.slice none 0 0))))), .eqA qd55 qd55, (.prop ([AV.d (DV.v (Value.slice none 0 0))] = [AV.d (DV.v (Value.slice none 0 0))])), (.prop (PQ 86 [AV.d (DV.v (Value.slice none 0 0))] (AV.d (DV.v (Value.slice none 0 0))))), (.prop ([AV.d (DV.v (Value.slice none 0 0))] = [AV.d (DV.v (Value.slice none 0 0))])), (.prop (PQ 86 [AV.d (DV.v (Value.slice none 0 0))] (AV.d (DV.v (Value.slice none 0 0))))), .eqA qd56 qd56, (.prop ([AV.d (DV.v (Value.slice none 0 0))] = [AV.d (DV.v (Value.slice none 0 0))])), (.prop (PQ 86 [AV.d (DV.v (Value.slice none 0 0))] (AV.d (DV.v (Value.slice none 0 0))))), (.prop ([AV.d (DV.v (Value.slice none 0 0))] = [AV.d (DV.v (Value.slice none 0 0))])), (.prop (PQ 86 [AV.d (DV.v (Value.slice none 0 0))] (AV.d (DV.v (Value.slice none 0 0))))), .eqA qd57 qd57, (.prop ([AV.d (DV.v (Value.slice none 0 0))] = [AV.d (DV.v (Value.slice none 0 0))])), (.prop (PQ 86 [AV.d (DV.v (Value.slice none 0 0))] (AV.d (DV.v (Value.slice none 0 0))))), (.prop ([AV.d (DV.v (Value.slice none 0 0))] = [AV.d (DV.v (Value.slice none 0 0))])), (.prop (PQ 86 [AV.d (DV.v (Value.slice none 0 0))] (AV.d (DV.v (Value.slice none 0 0))))), .eqA qd58 qd58]) := by kernel_rfl
theorem de150 : PQ 31 qd62 qd272 := closed_ok knil (by kernel_rfl) ((crunS_eq cfz 8 31 de150D [] (ent cfz 31 qd62)).symm.trans de150k) ⟨rfl, ⟨rfl, ⟨rfl, ⟨rfl, ⟨rfl, ⟨clnil, ⟨rfl, ⟨rfl, ⟨rfl, ⟨clnil, ⟨rfl, ⟨clnil, ⟨rfl, ⟨rfl, ⟨clnil, ⟨rfl, ⟨clnil, ⟨rfl, ⟨rfl, ⟨clnil, ⟨rfl, ⟨clnil, ⟨rfl, ⟨rfl, ⟨clnil, ⟨rfl, ⟨clnil, ⟨rfl, trivial⟩⟩⟩⟩⟩⟩⟩⟩⟩⟩⟩⟩⟩⟩⟩⟩⟩⟩⟩⟩⟩⟩⟩⟩⟩⟩⟩⟩
end Go.Kv
