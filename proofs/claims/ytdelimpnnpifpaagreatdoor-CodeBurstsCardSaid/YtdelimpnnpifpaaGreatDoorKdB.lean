/- The third example of Decode. -/
import Derived.Test.YtdelimpnnpifpaaGreatDoorKvWs
import Derived.Test.YtdelimpnnpifpaaGreatDoorKdA
namespace Go.Kv
set_option linter.all false
open Go Go.RowKit Go.Proofs
set_option maxRecDepth 100000
noncomputable def df9D : CT cfz := .run 14 [] <| .use dd0 <| .run 1 [(.ck 0)] <| .run 3 [] <|  .fin
theorem df9k : crun cfz 91 df9D [] (ent cfz 91 qd224) = some ((.d (.v (.int .i64 0))), [.eqA qd331 qd331]) := by kernel_rfl
theorem df9 : PureCalls cfz.P cfz.glob 91 qd224 (.d (.v (.int .i64 0))) := closed_ok knil (by kernel_rfl) df9k ⟨rfl, trivial⟩

noncomputable def df10D : CT cfz := .run 7 [] <| .use df9 <| .run 1 [(.ck 0)] <| .run 3 [] <|  .fin
theorem df10k : crun cfz 127 df10D [] (ent cfz 127 qd441) = some ((.d (.v (.int .i64 0))), [.eqA qd224 qd224]) := by kernel_rfl
theorem df10 : PureCalls cfz.P cfz.glob 127 qd441 (.d (.v (.int .i64 0))) := closed_ok knil (by kernel_rfl) df10k ⟨rfl, trivial⟩

noncomputable def df15D : CT cfz := .run 36 [] <| .use dd8 <| .run 1 [(.ck 0)] <| .run 1 [] <| .run 1 [.mg] <| .run 27 [] <| .use df10 <| .run 1 [(.ck 1)] <| .run 1 [] <| .run 1 [.mg] <| .run 27 [] <| .use dd12 <| .run 1 [(.ck 2)] <| .run 1 [] <| .run 1 [.mg] <| .run 27 [] <| .use dd14 <| .run 1 [(.ck 3)] <| .run 1 [] <| .run 1 [.mg] <| .run 21 [] <|  .fin
theorem df15k : crun cfz 126 df15D [] (ent cfz 126 qd100) = some (qd183, [.eqA qd395 qd395, .eqA qd441 qd441, .eqA qd435 qd435, .eqA qd436 qd436]) := by kernel_rfl
theorem df15 : PureCalls cfz.P cfz.glob 126 qd100 qd183 := closed_ok knil (by kernel_rfl) df15k ⟨rfl, rfl, rfl, rfl, trivial⟩

noncomputable def df17D : CT cfz := .run 7 [] <| .use df15 <| .run 1 [(.ck 0)] <| .use dd16 <| .run 1 [(.ck 1)] <| .run 3 [] <|  .fin
theorem df17k : crun cfz 84 df17D [] (ent cfz 84 qd170) = some ((.d (.v (.int .i64 0))), [.eqA qd100 qd100, .eqA qd172 qd172]) := by kernel_rfl
theorem df17 : PureCalls cfz.P cfz.glob 84 qd170 (.d (.v (.int .i64 0))) := closed_ok knil (by kernel_rfl) df17k ⟨rfl, rfl, trivial⟩

noncomputable def df18D : CT cfz := .run 7 [] <| .use dd5 <| .use dd6 <| .use df17 <| .use dd4 <| .run 1 [.none, (.ck 0), .none, (.ck 1), (.ck 2), (.ck 3)] <| .run 1 [] <|  .fin
theorem df18k : crun cfz 29 df18D [] (ent cfz 29 qd79) = some ((.d (.v (.int .i64 0))), [.eqA qd273 qd273, .eqA qd332 qd332, .eqA qd170 qd170, .eqA qd233 qd233]) := by kernel_rfl
theorem df18 : PureCalls cfz.P cfz.glob 29 qd79 (.d (.v (.int .i64 0))) := closed_ok knil (by kernel_rfl) df18k ⟨rfl, rfl, rfl, rfl, trivial⟩

noncomputable def df21D : CT cfz := .run 16 [] <|  .fin
theorem df21k : crun cfz 83 df21D [] (ent cfz 83 qd324) = some ((.d (.v (.int .i64 0))), []) := by kernel_rfl
theorem df21 : PureCalls cfz.P cfz.glob 83 qd324 (.d (.v (.int .i64 0))) := closed_ok knil (by kernel_rfl) df21k trivial

noncomputable def df22D : CT cfz := .run 16 [] <|  .fin
theorem df22k : crun cfz 83 df22D [] (ent cfz 83 qd334) = some ((.d (.v (.int .i64 0))), []) := by kernel_rfl
theorem df22 : PureCalls cfz.P cfz.glob 83 qd334 (.d (.v (.int .i64 0))) := closed_ok knil (by kernel_rfl) df22k trivial

noncomputable def df23D : CT cfz := .run 12 [] <|  .fin
theorem df23k : crun cfz 92 df23D [] (ent cfz 92 qd213) = some ((.fn (.func 129) [] [(.ip [(.v (.int .i64 0))]), (.ip [qd337])]), []) := by kernel_rfl
theorem df23 : PureCalls cfz.P cfz.glob 92 qd213 (.fn (.func 129) [] [(.ip [(.v (.int .i64 0))]), (.ip [qd337])]) := closed_ok knil (by kernel_rfl) df23k trivial

noncomputable def df24D : CT cfz := .run 20 [] <|  .fin
theorem df24k : crun cfz 86 df24D [] (ent cfz 86 qd285) = some (qd315, []) := by kernel_rfl
theorem df24 : PureCalls cfz.P cfz.glob 86 qd285 qd315 := closed_ok knil (by kernel_rfl) df24k trivial

noncomputable def df31D : CT cfz := .run 13 [] <|  .fin
theorem df31k : crun cfz 122 df31D [] (ent cfz 122 qd438) = some ((.d (.v (.int .i64 2))), []) := by kernel_rfl
theorem df31 : PureCalls cfz.P cfz.glob 122 qd438 (.d (.v (.int .i64 2))) := closed_ok knil (by kernel_rfl) df31k trivial

noncomputable def df35D : CT cfz := .run 13 [] <|  .fin
theorem df35k : crun cfz 122 df35D [] (ent cfz 122 qd441) = some ((.d (.v (.int .i64 6))), []) := by kernel_rfl
theorem df35 : PureCalls cfz.P cfz.glob 122 qd441 (.d (.v (.int .i64 6))) := closed_ok knil (by kernel_rfl) df35k trivial

noncomputable def df36D : CT cfz := .run 61 [] <| .use dd22 <| .use dd23 <| .run 1 [.none, (.ck 0), (.ck 1), .none] <| .run 24 [] <| .use dd24 <| .run 1 [.none, (.ck 2), (.ck 1), .none] <| .run 24 [] <| .use dd26 <| .use dd76 <| .run 1 [.none, (.ck 3), (.ck 4), .none] <| .run 24 [] <| .use dd28 <| .use df31 <| .run 1 [.none, (.ck 5), (.ck 6), .none] <| .run 59 [] <| .run 1 [.none, (.ck 0), (.ck 1), .none] <| .run 24 [] <| .run 1 [.none, (.ck 3), (.ck 1), .none] <| .run 24 [] <| .use dd31 <| .use dd65 <| .run 1 [.none, (.ck 7), (.ck 8), .none] <| .run 24 [] <| .use dd32 <| .use df35 <| .run 1 [.none, (.ck 9), (.ck 10), .none] <| .run 32 [] <|  .fin
theorem df36k : crunS cfz 8 80 df36D [] (ent cfz 80 qd80) = some (qd316, [.eqA qd437 qd437, .eqA qd395 qd395, .eqA qd435 qd435, .eqA qd395 qd395, .eqA qd438 qd438, .eqA qd408 qd408, .eqA qd439 qd439, .eqA qd438 qd438, .eqA qd437 qd437, .eqA qd395 qd395, .eqA qd438 qd438, .eqA qd395 qd395, .eqA qd440 qd440, .eqA qd405 qd405, .eqA qd441 qd441, .eqA qd441 qd441]) := by kernel_rfl
theorem df36 : PureCalls cfz.P cfz.glob 80 qd80 qd316 := closed_ok knil (by kernel_rfl) ((crunS_eq cfz 8 80 df36D [] (ent cfz 80 qd80)).symm.trans df36k) ⟨rfl, rfl, rfl, rfl, rfl, rfl, rfl, rfl, rfl, rfl, rfl, rfl, rfl, rfl, rfl, rfl, trivial⟩

noncomputable def df39D : CT cfz := .run 36 [] <| .use dd80 <| .run 1 [(.ck 0)] <| .run 1 [] <| .run 1 [.mg] <| .run 27 [] <| .use dd125 <| .run 1 [(.ck 1)] <| .run 1 [] <| .run 1 [.mg] <| .run 21 [] <|  .fin
theorem df39k : crun cfz 131 df39D [] (ent cfz 131 qd138) = some (qd296, [.eqA qd308 qd308, .eqA qd313 qd313]) := by kernel_rfl
theorem df39 : PureCalls cfz.P cfz.glob 131 qd138 qd296 := closed_ok knil (by kernel_rfl) df39k ⟨rfl, rfl, trivial⟩

noncomputable def df43D : CT cfz := .run 36 [] <| .use dd83 <| .run 1 [(.ck 0)] <| .run 1 [] <| .run 1 [.mg] <| .run 27 [] <| .use dd127 <| .run 1 [(.ck 1)] <| .run 1 [] <| .run 1 [.mg] <| .run 21 [] <|  .fin
theorem df43k : crun cfz 131 df43D [] (ent cfz 131 qd139) = some (qd297, [.eqA qd309 qd309, .eqA qd314 qd314]) := by kernel_rfl
theorem df43 : PureCalls cfz.P cfz.glob 131 qd139 qd297 := closed_ok knil (by kernel_rfl) df43k ⟨rfl, rfl, trivial⟩

noncomputable def df44D : CT cfz := .run 13 [] <|  .fin
theorem df44k : crun cfz 122 df44D [] (ent cfz 122 qd377) = some ((.d (.v (.int .i64 11))), []) := by kernel_rfl
theorem df44 : PureCalls cfz.P cfz.glob 122 qd377 (.d (.v (.int .i64 11))) := closed_ok knil (by kernel_rfl) df44k trivial

noncomputable def df45D : CT cfz := .run 14 [] <|  .fin
theorem df45k : crun cfz 134 df45D [] (ent cfz 134 qd142) = some ((.d (.v (.bool true))), []) := by kernel_rfl
theorem df45 : PureCalls cfz.P cfz.glob 134 qd142 (.d (.v (.bool true))) := closed_ok knil (by kernel_rfl) df45k trivial

noncomputable def df50D : CT cfz := .run 13 [] <|  .fin
theorem df50k : crun cfz 122 df50D [] (ent cfz 122 qd416) = some ((.d (.v (.int .i64 9))), []) := by kernel_rfl
theorem df50 : PureCalls cfz.P cfz.glob 122 qd416 (.d (.v (.int .i64 9))) := closed_ok knil (by kernel_rfl) df50k trivial

noncomputable def df51D : CT cfz := .run 13 [] <|  .fin
theorem df51k : crun cfz 122 df51D [] (ent cfz 122 qd417) = some ((.d (.v (.int .i64 5))), []) := by kernel_rfl
theorem df51 : PureCalls cfz.P cfz.glob 122 qd417 (.d (.v (.int .i64 5))) := closed_ok knil (by kernel_rfl) df51k trivial

noncomputable def df53D : CT cfz := .run 13 [] <|  .fin
theorem df53k : crun cfz 122 df53D [] (ent cfz 122 qd365) = some ((.d (.v (.int .i64 2))), []) := by kernel_rfl
theorem df53 : PureCalls cfz.P cfz.glob 122 qd365 (.d (.v (.int .i64 2))) := closed_ok knil (by kernel_rfl) df53k trivial

noncomputable def df54D : CT cfz := .run 13 [] <|  .fin
theorem df54k : crun cfz 122 df54D [] (ent cfz 122 qd366) = some ((.d (.v (.int .i64 0))), []) := by kernel_rfl
theorem df54 : PureCalls cfz.P cfz.glob 122 qd366 (.d (.v (.int .i64 0))) := closed_ok knil (by kernel_rfl) df54k trivial

noncomputable def df55D : CT cfz := .run 14 [] <|  .fin
theorem df55k : crun cfz 134 df55D [] (ent cfz 134 qd145) = some ((.d (.v (.bool true))), []) := by kernel_rfl
theorem df55 : PureCalls cfz.P cfz.glob 134 qd145 (.d (.v (.bool true))) := closed_ok knil (by kernel_rfl) df55k trivial

noncomputable def df56D : CT cfz := .run 477 [] <|  .fin
theorem df56k : crunS cfz 8 146 df56D [] (ent cfz 146 qd9) = some ((.d (.v (.int .i64 14))), []) := by kernel_rfl
theorem df56 : PureCalls cfz.P cfz.glob 146 qd9 (.d (.v (.int .i64 14))) := closed_ok knil (by kernel_rfl) ((crunS_eq cfz 8 146 df56D [] (ent cfz 146 qd9)).symm.trans df56k) trivial

noncomputable def df57D : CT cfz := .run 8 [] <| .use df56 <| .run 1 [(.ck 0)] <| .run 1 [] <| .use dd26 <| .run 1 [(.ck 1)] <| .run 3 [] <|  .fin
theorem df57k : crun cfz 135 df57D [] (ent cfz 135 qd438) = some ((.d (.v (.int .i64 9))), [.eqA qd9 qd9, .eqA qd438 qd438]) := by kernel_rfl
theorem df57 : PureCalls cfz.P cfz.glob 135 qd438 (.d (.v (.int .i64 9))) := closed_ok knil (by kernel_rfl) df57k ⟨rfl, rfl, trivial⟩

noncomputable def df59D : CT cfz := .run 13 [] <|  .fin
theorem df59k : crun cfz 122 df59D [] (ent cfz 122 qd434) = some ((.d (.v (.int .i64 5))), []) := by kernel_rfl
theorem df59 : PureCalls cfz.P cfz.glob 122 qd434 (.d (.v (.int .i64 5))) := closed_ok knil (by kernel_rfl) df59k trivial

noncomputable def df68D : CT cfz := .run 98 [] <| .run 1 [.enter] <| .run 61 [] <| .use dd22 <| .use dd23 <| .run 1 [.none, (.ck 0), (.ck 1), .none] <| .run 24 [] <| .use dd24 <| .run 1 [.none, (.ck 2), (.ck 1), .none] <| .run 24 [] <| .use dd26 <| .use dd76 <| .run 1 [.none, (.ck 3), (.ck 4), .none] <| .run 24 [] <| .use dd28 <| .use df31 <| .run 1 [.none, (.ck 5), (.ck 6), .none] <| .run 59 [] <| .run 1 [.none, (.ck 0), (.ck 1), .none] <| .run 24 [] <| .run 1 [.none, (.ck 3), (.ck 1), .none] <| .run 24 [] <| .use dd31 <| .use dd65 <| .run 1 [.none, (.ck 7), (.ck 8), .none] <| .run 24 [] <| .use dd32 <| .use df35 <| .run 1 [.none, (.ck 9), (.ck 10), .none] <| .run 60 [] <| .run 1 [.enter] <| .run 36 [] <| .use dd80 <| .run 1 [(.ck 11)] <| .run 1 [] <| .run 1 [.mg] <| .run 27 [] <| .use dd125 <| .run 1 [(.ck 12)] <| .run 1 [] <| .run 1 [.mg] <| .run 29 [] <| .use dd36 <| .run 1 [(.ck 13)] <| .run 1 [] <| .run 1 [.mg] <| .run 1 [] <| .run 1 [.mg] <| .run 30 [] <| .run 1 [.enter] <| .run 36 [] <| .use dd83 <| .run 1 [(.ck 14)] <| .run 1 [] <| .run 1 [.mg] <| .run 27 [] <| .use dd127 <| .run 1 [(.ck 15)] <| .run 1 [] <| .run 1 [.mg] <| .run 29 [] <| .use df44 <| .run 1 [(.ck 16)] <| .run 1 [] <| .run 1 [.mg] <| .run 1 [] <| .run 1 [.mg] <| .run 48 [] <| .run 1 [.enter] <| .run 34 [] <| .use df45 <| .run 1 [(.ck 17)] <| .run 46 [] <| .use dd88 <| .run 1 [(.ck 18)] <| .run 34 [] <| .use dd89 <| .run 1 [(.ck 19)] <| .run 32 [] <| .use df50 <| .run 1 [(.ck 20)] <| .run 32 [] <| .use df51 <| .run 1 [(.ck 21)] <| .run 113 [] <| .use dd45 <| .run 1 [.none, .none, (.ck 22), .none] <| .run 21 [] <| .use df53 <| .run 1 [.none, .none, (.ck 23), .none] <| .run 21 [] <| .use df54 <| .run 1 [.none, .none, (.ck 24), .none] <| .run 62 [] <| .run 1 [.enter] <| .run 34 [] <| .use df55 <| .run 1 [(.ck 25)] <| .run 46 [] <| .use df57 <| .run 1 [(.ck 26)] <| .run 34 [] <| .run 1 [(.ck 22)] <| .run 32 [] <| .run 1 [(.ck 19)] <| .run 32 [] <| .run 1 [(.ck 22)] <| .run 82 [] <| .use dd62 <| .run 1 [.none, .none, (.ck 27), .none] <| .run 21 [] <| .run 1 [.none, .none, (.ck 22), .none] <| .run 21 [] <| .use df59 <| .run 1 [.none, .none, (.ck 28), .none] <| .run 171 [] <| .use dd135 <| .run 1 [(.ck 29)] <| .run 4 [] <|  .fin
theorem df68k : crunS cfz 8 93 df68D [] (ent cfz 93 qd44) = some (qd121, [.eqA qd437 qd437, .eqA qd395 qd395, .eqA qd435 qd435, .eqA qd395 qd395, .eqA qd438 qd438, .eqA qd408 qd408, .eqA qd439 qd439, .eqA qd438 qd438, .eqA qd437 qd437, .eqA qd395 qd395, .eqA qd438 qd438, .eqA qd395 qd395, .eqA qd440 qd440, .eqA qd405 qd405, .eqA qd441 qd441, .eqA qd441 qd441, .eqA qd308 qd308, .eqA qd313 qd313, .eqA qd371 qd371, .eqA qd309 qd309, .eqA qd314 qd314, .eqA qd377 qd377, .eqA qd142 qd142, .eqA qd439 qd439, .eqA qd410 qd410, .eqA qd416 qd416, .eqA qd417 qd417, .eqA qd437 qd437, .eqA qd365 qd365, .eqA qd366 qd366, .eqA qd145 qd145, .eqA qd438 qd438, .eqA qd437 qd437, .eqA qd410 qd410, .eqA qd437 qd437, .eqA qd435 qd435, .eqA qd437 qd437, .eqA qd434 qd434, .eqA qd78 qd78]) := by kernel_rfl
theorem df68 : PureCalls cfz.P cfz.glob 93 qd44 qd121 := closed_ok knil (by kernel_rfl) ((crunS_eq cfz 8 93 df68D [] (ent cfz 93 qd44)).symm.trans df68k) ⟨rfl, rfl, rfl, rfl, rfl, rfl, rfl, rfl, rfl, rfl, rfl, rfl, rfl, rfl, rfl, rfl, rfl, rfl, rfl, rfl, rfl, rfl, rfl, rfl, rfl, rfl, rfl, rfl, rfl, rfl, rfl, rfl, rfl, rfl, rfl, rfl, rfl, rfl, rfl, trivial⟩

noncomputable def df69D : CT cfz := .run 178 [] <|  .fin
theorem df69k : crun cfz 94 df69D [] (ent cfz 94 qd48) = some (qd315, []) := by kernel_rfl
theorem df69 : PureCalls cfz.P cfz.glob 94 qd48 qd315 := closed_ok knil (by kernel_rfl) df69k trivial

noncomputable def df70D : CT cfz := .run 12 [] <| .use df18 <| .use dd19 <| .use dd20 <| .run 1 [.none, .none, (.ck 0), .none, (.ck 1), (.ck 2)] <| .run 39 [] <| .use df21 <| .use df22 <| .run 1 [(.br false), (.br false), (.br false), .none, (.br false), .none, (.ck 3), .none, (.ck 4), (.ck 2)] <| .run 36 [] <| .run 1 [(.br false), (.br false), (.br false), .none, (.br false), .none, (.ck 3), .none, (.ck 4), (.ck 2)] <| .run 215 [] <| .use df23 <| .run 1 [(.ck 5)] <| .run 18 [] <| .run 1 [.enter] <| .run 17 [] <| .run 1 [.enter] <| .run 7 [] <| .use df24 <| .use df68 <| .run 1 [.none, .none, .none, (.ck 6), .none, (.ck 7)] <| .run 30 [] <| .use df69 <| .run 1 [.none, .none, .none, (.ck 8)] <| .run 2 [] <|  .fin
theorem df70k : crunS cfz 8 31 df70D [] (ent cfz 31 qd44) = some (qd63, [.eqA qd79 qd79, .eqA qd333 qd333, .eqA qd284 qd284, .eqA qd324 qd324, .eqA qd334 qd334, .eqA qd284 qd284, .eqA qd324 qd324, .eqA qd334 qd334, .eqA qd284 qd284, .eqA qd213 qd213, .eqA qd285 qd285, .eqA qd44 qd44, .eqA qd48 qd48]) := by kernel_rfl
theorem df70 : PureCalls cfz.P cfz.glob 31 qd44 qd63 := closed_ok knil (by kernel_rfl) ((crunS_eq cfz 8 31 df70D [] (ent cfz 31 qd44)).symm.trans df70k) ⟨rfl, rfl, rfl, rfl, rfl, rfl, rfl, rfl, rfl, rfl, rfl, rfl, rfl, trivial⟩
end Go.Kv
