import Derived.Test.YtdelimpnnpifpaaGreatDoorKvWs
import Derived.Test.YtdelimpnnpifpaaGreatDoorKvW
import Derived.Test.YtdelimpnnpifpaaGreatDoorKdA
set_option linter.all false
namespace Go.Kv
open Go Go.RowKit Go.Proofs
set_option maxRecDepth 100000
theorem df9:PQ 91 jlG (aI 0):=cq (.run 14 [] <| .use dd0 <| .run 1 [(.ck 0)] <| .run 3 [] <| .fin) [.eqA jW jW]
theorem jlS:PQ 127 jE (aI 0):=cq (.run 7 [] <| .use df9 <| .run 1 [(.ck 0)] <| .run 3 [] <| .fin) [.eqA jlG jlG]
theorem jzp:PQ 126 jhX qd183:=cq (.run 36 [] <| .use dd8 <| .run 1 [(.ck 0)] <| .run 1 [] <| .run 1 [.mg] <| .run 27 [] <| .use jlS <| .run 1 [(.ck 1)] <| .run 1 [] <| .run 1 [.mg] <| .run 27 [] <| .use yB <| .run 1 [(.ck 2)] <| .run 1 [] <| .run 1 [.mg] <| .run 27 [] <| .use jpb <| .run 1 [(.ck 3)] <| .run 1 [] <| .run 1 [.mg] <| .run 21 [] <| .fin) [.eqA jx jx,.eqA jE jE,.eqA jt jt,.eqA Kt Kt]
theorem jya:PQ 84 jib (aI 0):=cq (.run 7 [] <| .use jzp <| .run 1 [(.ck 0)] <| .use jeF <| .run 1 [(.ck 1)] <| .run 3 [] <| .fin) [.eqA jhX jhX,.eqA KZ KZ]
theorem jsC:PQ 29 yQ (aI 0):=cq (.run 7 [] <| .use dd5 <| .use dd6 <| .use jya <| .use dd4 <| .run 1 [.none,(.ck 0),.none,(.ck 1),(.ck 2),(.ck 3)] <| .run 1 [] <| .fin) [.eqA J1 J1,.eqA JN JN,.eqA jib jib,.eqA jS jS]
theorem jyG:PQ 83 jdT (aI 0):=cq (.run 16 [] <| .fin) []
theorem jyX:PQ 83 jcw (aI 0):=cq (.run 16 [] <| .fin) []
theorem jyc:PQ 92 jjU (.fn (.func 129) [] [(.ip [(vI 0)]),(.ip [joI])]):=cq (.run 12 [] <| .fin) []
theorem jxR:PQ 86 jkg qd315:=cq (.run 20 [] <| .fin) []
theorem jwP:PQ 122 jp (aI 2):=cq (.run 13 [] <| .fin) []
theorem joU:PQ 122 jE (aI 6):=cq (.run 13 [] <| .fin) []
theorem jx1:PQ 122 jkj (aI 11):=cq (.run 13 [] <| .fin) []
theorem jxf:PQ 134 jhb (.d (.v (.bool true))):=cq (.run 14 [] <| .fin) []
theorem jzt:PQ 122 jjf (aI 9):=cq (.run 13 [] <| .fin) []
theorem jxK:PQ 122 jkx (aI 5):=cq (.run 13 [] <| .fin) []
theorem jyB:PQ 122 jg7 (aI 2):=cq (.run 13 [] <| .fin) []
theorem jzC:PQ 122 jks (aI 0):=cq (.run 13 [] <| .fin) []
theorem jxh:PQ 134 jhr (.d (.v (.bool true))):=cq (.run 14 [] <| .fin) []
noncomputable def jnF:CT cfz:=.run 477 [] <|  .fin
theorem jr4:Jn cfz 8 146 jnF [] (ent cfz 146 qd9)=some ((aI 14),[]):=by kernel_rfl
theorem jx2:PQ 146 qd9 (aI 14):=jC jP (by kernel_rfl) ((jK cfz 8 146 jnF [] (ent cfz 146 qd9)).symm.trans jr4) trivial
theorem jw9:PQ 135 jp (aI 9):=cq (.run 8 [] <| .use jx2 <| .run 1 [(.ck 0)] <| .run 1 [] <| .use kW <| .run 1 [(.ck 1)] <| .run 3 [] <| .fin) [.eqA qd9 qd9,.eqA jp jp]
theorem jmE:PQ 122 Jf (aI 5):=cq (.run 13 [] <| .fin) []
noncomputable def joC:CT cfz:=.run 98 [] <| .run 1 [.enter] <| .run 61 [] <| .use Kh <| .use QA <| .run 1 [.none,(.ck 0),(.ck 1),.none] <| .run 24 [] <| .use Kd <| .run 1 [.none,(.ck 2),(.ck 1),.none] <| .run 24 [] <| .use kW <| .use jmD <| .run 1 [.none,(.ck 3),(.ck 4),.none] <| .run 24 [] <| .use Ky <| .use jwP <| .run 1 [.none,(.ck 5),(.ck 6),.none] <| .run 59 [] <| .run 1 [.none,(.ck 0),(.ck 1),.none] <| .run 24 [] <| .run 1 [.none,(.ck 3),(.ck 1),.none] <| .run 24 [] <| .use Kw <| .use jiN <| .run 1 [.none,(.ck 7),(.ck 8),.none] <| .run 24 [] <| .use Ks <| .use joU <| .run 1 [.none,(.ck 9),(.ck 10),.none] <| .run 60 [] <| .run 1 [.enter] <| .run 36 [] <| .use jid <| .run 1 [(.ck 11)] <| .run 1 [] <| .run 1 [.mg] <| .run 27 [] <| .use jkt <| .run 1 [(.ck 12)] <| .run 1 [] <| .run 1 [.mg] <| .run 29 [] <| .use joW <| .run 1 [(.ck 13)] <| .run 1 [] <| .run 1 [.mg] <| .run 1 [] <| .run 1 [.mg] <| .run 30 [] <| .run 1 [.enter] <| .run 36 [] <| .use jlD <| .run 1 [(.ck 14)] <| .run 1 [] <| .run 1 [.mg] <| .run 27 [] <| .use jlm <| .run 1 [(.ck 15)] <| .run 1 [] <| .run 1 [.mg] <| .run 29 [] <| .use jx1 <| .run 1 [(.ck 16)] <| .run 1 [] <| .run 1 [.mg] <| .run 1 [] <| .run 1 [.mg] <| .run 48 [] <| .run 1 [.enter] <| .run 34 [] <| .use jxf <| .run 1 [(.ck 17)] <| .run 46 [] <| .use jp4 <| .run 1 [(.ck 18)] <| .run 34 [] <| .use jdr <| .run 1 [(.ck 19)] <| .run 32 [] <| .use jzt <| .run 1 [(.ck 20)] <| .run 32 [] <| .use jxK <| .run 1 [(.ck 21)] <| .run 113 [] <| .use yH <| .run 1 [.none,.none,(.ck 22),.none] <| .run 21 [] <| .use jyB <| .run 1 [.none,.none,(.ck 23),.none] <| .run 21 [] <| .use jzC <| .run 1 [.none,.none,(.ck 24),.none] <| .run 62 [] <| .run 1 [.enter] <| .run 34 [] <| .use jxh <| .run 1 [(.ck 25)] <| .run 46 [] <| .use jw9 <| .run 1 [(.ck 26)] <| .run 34 [] <| .run 1 [(.ck 22)] <| .run 32 [] <| .run 1 [(.ck 19)] <| .run 32 [] <| .run 1 [(.ck 22)] <| .run 82 [] <| .use jgg <| .run 1 [.none,.none,(.ck 27),.none] <| .run 21 [] <| .run 1 [.none,.none,(.ck 22),.none] <| .run 21 [] <| .use jmE <| .run 1 [.none,.none,(.ck 28),.none] <| .run 171 [] <| .use jcm <| .run 1 [(.ck 29)] <| .run 4 [] <|  .fin
theorem jvO:Jn cfz 8 93 joC [] (ent cfz 93 GS)=some (qd121,[.eqA jh jh,.eqA jx jx,.eqA jt jt,.eqA jx jx,.eqA jp jp,.eqA yu yu,.eqA jI jI,.eqA jp jp,.eqA jh jh,.eqA jx jx,.eqA jp jp,.eqA jx jx,.eqA jJ jJ,.eqA Q3 Q3,.eqA jE jE,.eqA jE jE,.eqA za za,.eqA gp gp,.eqA gP gP,.eqA zh zh,.eqA gj gj,.eqA jkj jkj,.eqA jhb jhb,.eqA jI jI,.eqA kT kT,.eqA jjf jjf,.eqA jkx jkx,.eqA jh jh,.eqA jg7 jg7,.eqA jks jks,.eqA jhr jhr,.eqA jp jp,.eqA jh jh,.eqA kT kT,.eqA jh jh,.eqA jt jt,.eqA jh jh,.eqA Jf Jf,.eqA Kf Kf]):=by kernel_rfl
theorem jzj:PQ 93 GS qd121:=jC jP (by kernel_rfl) ((jK cfz 8 93 joC [] (ent cfz 93 GS)).symm.trans jvO) ⟨rfl,rfl,rfl,rfl,rfl,rfl,rfl,rfl,rfl,rfl,rfl,rfl,rfl,rfl,rfl,rfl,rfl,rfl,rfl,rfl,rfl,rfl,rfl,rfl,rfl,rfl,rfl,rfl,rfl,rfl,rfl,rfl,rfl,rfl,rfl,rfl,rfl,rfl,rfl,trivial⟩
theorem jzB:PQ 94 jo4 qd315:=cq (.run 178 [] <| .fin) []
noncomputable def joE:CT cfz:=.run 12 [] <| .use jsC <| .use YP <| .use zT <| .run 1 [.none,.none,(.ck 0),.none,(.ck 1),(.ck 2)] <| .run 39 [] <| .use jyG <| .use jyX <| .run 1 [(.br false),(.br false),(.br false),.none,(.br false),.none,(.ck 3),.none,(.ck 4),(.ck 2)] <| .run 36 [] <| .run 1 [(.br false),(.br false),(.br false),.none,(.br false),.none,(.ck 3),.none,(.ck 4),(.ck 2)] <| .run 215 [] <| .use jyc <| .run 1 [(.ck 5)] <| .run 18 [] <| .run 1 [.enter] <| .run 17 [] <| .run 1 [.enter] <| .run 7 [] <| .use jxR <| .use jzj <| .run 1 [.none,.none,.none,(.ck 6),.none,(.ck 7)] <| .run 30 [] <| .use jzB <| .run 1 [.none,.none,.none,(.ck 8)] <| .run 2 [] <|  .fin
theorem jwI:Jn cfz 8 31 joE [] (ent cfz 31 GS)=some (qd63,[.eqA yQ yQ,.eqA JO JO,.eqA jX jX,.eqA jdT jdT,.eqA jcw jcw,.eqA jX jX,.eqA jdT jdT,.eqA jcw jcw,.eqA jX jX,.eqA jjU jjU,.eqA jkg jkg,.eqA GS GS,.eqA jo4 jo4]):=by kernel_rfl
theorem jzo:PQ 31 GS qd63:=jC jP (by kernel_rfl) ((jK cfz 8 31 joE [] (ent cfz 31 GS)).symm.trans jwI) ⟨rfl,rfl,rfl,rfl,rfl,rfl,rfl,rfl,rfl,rfl,rfl,rfl,rfl,trivial⟩
end Go.Kv
