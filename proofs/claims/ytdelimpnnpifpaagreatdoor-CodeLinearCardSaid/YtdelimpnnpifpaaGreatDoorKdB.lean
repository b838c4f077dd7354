import Derived.Test.YtdelimpnnpifpaaGreatDoorKvWs
import Derived.Test.YtdelimpnnpifpaaGreatDoorKvW
import Derived.Test.YtdelimpnnpifpaaGreatDoorKdA
set_option linter.all false
namespace Go.Kv
open Go Go.RowKit Go.Proofs
set_option maxRecDepth 100000
theorem df9:PQ 91 jio (aI 0):=cq (.run 14 [] <| .use dd0 <| .run 1 [(.ck 0)] <| .run 3 [] <| .fin) [.eqA jQ jQ]
theorem jlD:PQ 127 jB (aI 0):=cq (.run 7 [] <| .use df9 <| .run 1 [(.ck 0)] <| .run 3 [] <| .fin) [.eqA jio jio]
theorem jyb:PQ 126 jjg qd183:=cq (.run 36 [] <| .use dd8 <| .run 1 [(.ck 0)] <| .run 1 [] <| .run 1 [.mg] <| .run 27 [] <| .use jlD <| .run 1 [(.ck 1)] <| .run 1 [] <| .run 1 [.mg] <| .run 27 [] <| .use ZK <| .run 1 [(.ck 2)] <| .run 1 [] <| .run 1 [.mg] <| .run 27 [] <| .use jqi <| .run 1 [(.ck 3)] <| .run 1 [] <| .run 1 [.mg] <| .run 21 [] <| .fin) [.eqA jr jr,.eqA jB jB,.eqA jo jo,.eqA Km Km]
theorem jyK:PQ 84 jk9 (aI 0):=cq (.run 7 [] <| .use jyb <| .run 1 [(.ck 0)] <| .use jd4 <| .run 1 [(.ck 1)] <| .run 3 [] <| .fin) [.eqA jjg jjg,.eqA KR KR]
theorem jq6:PQ 29 yC (aI 0):=cq (.run 7 [] <| .use dd5 <| .use dd6 <| .use jyK <| .use dd4 <| .run 1 [.none,(.ck 0),.none,(.ck 1),(.ck 2),(.ck 3)] <| .run 1 [] <| .fin) [.eqA JS JS,.eqA JC JC,.eqA jk9 jk9,.eqA jM jM]
theorem jxq:PQ 83 jdk (aI 0):=cq (.run 16 [] <| .fin) []
theorem jwy:PQ 83 jb8 (aI 0):=cq (.run 16 [] <| .fin) []
theorem jyk:PQ 92 jlo (.fn (.func 129) [] [(.ip [(vI 0)]),(.ip [jnw])]):=cq (.run 12 [] <| .fin) []
theorem jzf:PQ 86 jkh qd315:=cq (.run 20 [] <| .fin) []
theorem juv:PQ 122 jl (aI 2):=cq (.run 13 [] <| .fin) []
theorem jpT:PQ 122 jB (aI 6):=cq (.run 13 [] <| .fin) []
theorem jxR:PQ 122 jk3 (aI 11):=cq (.run 13 [] <| .fin) []
theorem jxL:PQ 134 jjc (.d (.v (.bool true))):=cq (.run 14 [] <| .fin) []
theorem jw9:PQ 122 jkr (aI 9):=cq (.run 13 [] <| .fin) []
theorem jyh:PQ 122 jg5 (aI 5):=cq (.run 13 [] <| .fin) []
theorem jwZ:PQ 122 jkQ (aI 2):=cq (.run 13 [] <| .fin) []
theorem jyN:PQ 122 jg7 (aI 0):=cq (.run 13 [] <| .fin) []
theorem jym:PQ 134 jim (.d (.v (.bool true))):=cq (.run 14 [] <| .fin) []
noncomputable def job:CT cfz:=.run 477 [] <|  .fin
theorem jsU:Jj cfz 8 146 job [] (ent cfz 146 qd9)=some ((aI 14),[]):=by kernel_rfl
theorem jwO:PQ 146 qd9 (aI 14):=jA jJ (by kernel_rfl) ((jF cfz 8 146 job [] (ent cfz 146 qd9)).symm.trans jsU) trivial
theorem jyF:PQ 135 jl (aI 9):=cq (.run 8 [] <| .use jwO <| .run 1 [(.ck 0)] <| .run 1 [] <| .use kI <| .run 1 [(.ck 1)] <| .run 3 [] <| .fin) [.eqA qd9 qd9,.eqA jl jl]
theorem jlL:PQ 122 j9 (aI 5):=cq (.run 13 [] <| .fin) []
noncomputable def jnE:CT cfz:=.run 98 [] <| .run 1 [.enter] <| .run 61 [] <| .use kU <| .use Qq <| .run 1 [.none,(.ck 0),(.ck 1),.none] <| .run 24 [] <| .use kT <| .run 1 [.none,(.ck 2),(.ck 1),.none] <| .run 24 [] <| .use kI <| .use jlZ <| .run 1 [.none,(.ck 3),(.ck 4),.none] <| .run 24 [] <| .use Kj <| .use juv <| .run 1 [.none,(.ck 5),(.ck 6),.none] <| .run 59 [] <| .run 1 [.none,(.ck 0),(.ck 1),.none] <| .run 24 [] <| .run 1 [.none,(.ck 3),(.ck 1),.none] <| .run 24 [] <| .use Kk <| .use jkX <| .run 1 [.none,(.ck 7),(.ck 8),.none] <| .run 24 [] <| .use Ki <| .use jpT <| .run 1 [.none,(.ck 9),(.ck 10),.none] <| .run 60 [] <| .run 1 [.enter] <| .run 36 [] <| .use jhv <| .run 1 [(.ck 11)] <| .run 1 [] <| .run 1 [.mg] <| .run 27 [] <| .use ji8 <| .run 1 [(.ck 12)] <| .run 1 [] <| .run 1 [.mg] <| .run 29 [] <| .use jqa <| .run 1 [(.ck 13)] <| .run 1 [] <| .run 1 [.mg] <| .run 1 [] <| .run 1 [.mg] <| .run 30 [] <| .run 1 [.enter] <| .run 36 [] <| .use jhs <| .run 1 [(.ck 14)] <| .run 1 [] <| .run 1 [.mg] <| .run 27 [] <| .use jjf <| .run 1 [(.ck 15)] <| .run 1 [] <| .run 1 [.mg] <| .run 29 [] <| .use jxR <| .run 1 [(.ck 16)] <| .run 1 [] <| .run 1 [.mg] <| .run 1 [] <| .run 1 [.mg] <| .run 48 [] <| .run 1 [.enter] <| .run 34 [] <| .use jxL <| .run 1 [(.ck 17)] <| .run 46 [] <| .use jox <| .run 1 [(.ck 18)] <| .run 34 [] <| .use jdr <| .run 1 [(.ck 19)] <| .run 32 [] <| .use jw9 <| .run 1 [(.ck 20)] <| .run 32 [] <| .use jyh <| .run 1 [(.ck 21)] <| .run 113 [] <| .use yd <| .run 1 [.none,.none,(.ck 22),.none] <| .run 21 [] <| .use jwZ <| .run 1 [.none,.none,(.ck 23),.none] <| .run 21 [] <| .use jyN <| .run 1 [.none,.none,(.ck 24),.none] <| .run 62 [] <| .run 1 [.enter] <| .run 34 [] <| .use jym <| .run 1 [(.ck 25)] <| .run 46 [] <| .use jyF <| .run 1 [(.ck 26)] <| .run 34 [] <| .run 1 [(.ck 22)] <| .run 32 [] <| .run 1 [(.ck 19)] <| .run 32 [] <| .run 1 [(.ck 22)] <| .run 82 [] <| .use jgg <| .run 1 [.none,.none,(.ck 27),.none] <| .run 21 [] <| .run 1 [.none,.none,(.ck 22),.none] <| .run 21 [] <| .use jlL <| .run 1 [.none,.none,(.ck 28),.none] <| .run 171 [] <| .use jcM <| .run 1 [(.ck 29)] <| .run 4 [] <|  .fin
theorem jwt:Jj cfz 8 93 jnE [] (ent cfz 93 Gy)=some (qd121,[.eqA ja ja,.eqA jr jr,.eqA jo jo,.eqA jr jr,.eqA jl jl,.eqA ZL ZL,.eqA jE jE,.eqA jl jl,.eqA ja ja,.eqA jr jr,.eqA jl jl,.eqA jr jr,.eqA jD jD,.eqA Qv Qv,.eqA jB jB,.eqA jB jB,.eqA Qy Qy,.eqA gF gF,.eqA ge ge,.eqA Qt Qt,.eqA gX gX,.eqA jk3 jk3,.eqA jjc jjc,.eqA jE jE,.eqA kE kE,.eqA jkr jkr,.eqA jg5 jg5,.eqA ja ja,.eqA jkQ jkQ,.eqA jg7 jg7,.eqA jim jim,.eqA jl jl,.eqA ja ja,.eqA kE kE,.eqA ja ja,.eqA jo jo,.eqA ja ja,.eqA j9 j9,.eqA kV kV]):=by kernel_rfl
theorem jyg:PQ 93 Gy qd121:=jA jJ (by kernel_rfl) ((jF cfz 8 93 jnE [] (ent cfz 93 Gy)).symm.trans jwt) ⟨rfl,rfl,rfl,rfl,rfl,rfl,rfl,rfl,rfl,rfl,rfl,rfl,rfl,rfl,rfl,rfl,rfl,rfl,rfl,rfl,rfl,rfl,rfl,rfl,rfl,rfl,rfl,rfl,rfl,rfl,rfl,rfl,rfl,rfl,rfl,rfl,rfl,rfl,rfl,trivial⟩
theorem jx1:PQ 94 jpV qd315:=cq (.run 178 [] <| .fin) []
noncomputable def jnR:CT cfz:=.run 12 [] <| .use jq6 <| .use Yo <| .use zz <| .run 1 [.none,.none,(.ck 0),.none,(.ck 1),(.ck 2)] <| .run 39 [] <| .use jxq <| .use jwy <| .run 1 [(.br false),(.br false),(.br false),.none,(.br false),.none,(.ck 3),.none,(.ck 4),(.ck 2)] <| .run 36 [] <| .run 1 [(.br false),(.br false),(.br false),.none,(.br false),.none,(.ck 3),.none,(.ck 4),(.ck 2)] <| .run 215 [] <| .use jyk <| .run 1 [(.ck 5)] <| .run 18 [] <| .run 1 [.enter] <| .run 17 [] <| .run 1 [.enter] <| .run 7 [] <| .use jzf <| .use jyg <| .run 1 [.none,.none,.none,(.ck 6),.none,(.ck 7)] <| .run 30 [] <| .use jx1 <| .run 1 [.none,.none,.none,(.ck 8)] <| .run 2 [] <|  .fin
theorem jsA:Jj cfz 8 31 jnR [] (ent cfz 31 Gy)=some (qd63,[.eqA yC yC,.eqA JD JD,.eqA jP jP,.eqA jdk jdk,.eqA jb8 jb8,.eqA jP jP,.eqA jdk jdk,.eqA jb8 jb8,.eqA jP jP,.eqA jlo jlo,.eqA jkh jkh,.eqA Gy Gy,.eqA jpV jpV]):=by kernel_rfl
theorem jyM:PQ 31 Gy qd63:=jA jJ (by kernel_rfl) ((jF cfz 8 31 jnR [] (ent cfz 31 Gy)).symm.trans jsA) ⟨rfl,rfl,rfl,rfl,rfl,rfl,rfl,rfl,rfl,rfl,rfl,rfl,rfl,trivial⟩
end Go.Kv
