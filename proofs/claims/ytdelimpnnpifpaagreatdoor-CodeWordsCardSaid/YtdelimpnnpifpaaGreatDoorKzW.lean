import Derived.Test.YtdelimpnnpifpaaGreatDoorKvWs
import Derived.Test.YtdelimpnnpifpaaGreatDoorKvW
import Derived.Test.YtdelimpnnpifpaaGreatDoorKdB
import Derived.Test.YtdelimpnnpifpaaGreatDoorKdC
import Derived.Test.YtdelimpnnpifpaaGreatDoorKaC
set_option linter.all false
namespace Go.Kv
open Go Go.RowKit Go.Proofs
set_option maxRecDepth 100000
theorem aw0:PQ 79 [] qd274:=cq (.run 10 [] <| .fin) []
theorem aw8:PQ 91 jk2 (aI 0):=cq (.run 14 [] <| .use dd0 <| .run 1 [(.ck 0)] <| .run 3 [] <| .fin) [.eqA jW jW]
theorem aw9:PQ 127 jh (aI 0):=cq (.run 7 [] <| .use aw8 <| .run 1 [(.ck 0)] <| .run 3 [] <| .fin) [.eqA jk2 jk2]
theorem jyZ:PQ 126 jhT qd183:=cq (.run 36 [] <| .use aw9 <| .run 1 [(.ck 0)] <| .run 1 [] <| .run 1 [.mg] <| .run 27 [] <| .run 1 [(.ck 0)] <| .run 1 [] <| .run 1 [.mg] <| .run 27 [] <| .use yB <| .run 1 [(.ck 1)] <| .run 1 [] <| .run 1 [.mg] <| .run 27 [] <| .run 1 [(.ck 0)] <| .run 1 [] <| .run 1 [.mg] <| .run 21 [] <| .fin) [.eqA jh jh,.eqA jh jh,.eqA jt jt,.eqA jh jh]
theorem jzv:PQ 84 jjQ (aI 0):=cq (.run 7 [] <| .use jyZ <| .run 1 [(.ck 0)] <| .use jeF <| .run 1 [(.ck 1)] <| .run 3 [] <| .fin) [.eqA jhT jhT,.eqA KZ KZ]
theorem jyn:PQ 29 gQ (aI 0):=cq (.run 7 [] <| .use dd5 <| .use dd6 <| .use jzv <| .use dd4 <| .run 1 [.none,(.ck 0),.none,(.ck 1),(.ck 2),(.ck 3)] <| .run 1 [] <| .fin) [.eqA J1 J1,.eqA JN JN,.eqA jjQ jjQ,.eqA jS jS]
noncomputable def jn2:CT cfz:=.run 61 [] <| .use Kh <| .use yH <| .run 1 [.none,(.ck 0),(.ck 1),.none] <| .run 24 [] <| .use Kd <| .run 1 [.none,(.ck 2),(.ck 1),.none] <| .run 24 [] <| .use kW <| .use jhD <| .run 1 [.none,(.ck 3),(.ck 4),.none] <| .run 24 [] <| .use Ky <| .run 1 [.none,(.ck 5),(.ck 4),.none] <| .run 59 [] <| .run 1 [.none,(.ck 0),(.ck 1),.none] <| .run 24 [] <| .run 1 [.none,(.ck 3),(.ck 1),.none] <| .run 24 [] <| .use Kw <| .use jhF <| .run 1 [.none,(.ck 6),(.ck 7),.none] <| .run 24 [] <| .use Ks <| .run 1 [.none,(.ck 8),(.ck 7),.none] <| .run 32 [] <|  .fin
theorem jr0:Jn cfz 8 80 jn2 [] (ent cfz 80 gQ)=some (qd301,[.eqA jh jh,.eqA jh jh,.eqA jt jt,.eqA jh jh,.eqA jp jp,.eqA KF KF,.eqA jI jI,.eqA KF KF,.eqA jh jh,.eqA jh jh,.eqA jp jp,.eqA jh jh,.eqA jJ jJ,.eqA Kr Kr,.eqA jE jE,.eqA Kr Kr]):=by kernel_rfl
theorem jx8:PQ 80 gQ qd301:=jC jP (by kernel_rfl) ((jK cfz 8 80 jn2 [] (ent cfz 80 gQ)).symm.trans jr0) ⟨rfl,rfl,rfl,rfl,rfl,rfl,rfl,rfl,rfl,rfl,rfl,rfl,rfl,rfl,rfl,rfl,trivial⟩
theorem jyp:PQ 16 gQ qd194:=cq (.run 11 [] <| .use jyn <| .run 1 [(.ck 0)] <| .run 13 [] <| .use jx8 <| .run 1 [(.ck 1)] <| .run 4 [] <| .fin) [.eqA gQ gQ,.eqA gQ gQ]
theorem jzf:PQ 126 jly qd183:=cq (.run 36 [] <| .use jeA <| .run 1 [(.ck 0)] <| .run 1 [] <| .run 1 [.mg] <| .run 27 [] <| .run 1 [(.ck 0)] <| .run 1 [] <| .run 1 [.mg] <| .run 27 [] <| .use yB <| .run 1 [(.ck 1)] <| .run 1 [] <| .run 1 [.mg] <| .run 27 [] <| .use aw9 <| .run 1 [(.ck 2)] <| .run 1 [] <| .run 1 [.mg] <| .run 21 [] <| .fin) [.eqA Jf Jf,.eqA Jf Jf,.eqA jt jt,.eqA jh jh]
theorem jy1:PQ 84 jlB (aI 0):=cq (.run 7 [] <| .use jzf <| .run 1 [(.ck 0)] <| .use jeF <| .run 1 [(.ck 1)] <| .run 3 [] <| .fin) [.eqA jly jly,.eqA KZ KZ]
theorem jzl:PQ 29 Y5 (aI 0):=cq (.run 7 [] <| .use dd5 <| .use dd6 <| .use jy1 <| .use dd4 <| .run 1 [.none,(.ck 0),.none,(.ck 1),(.ck 2),(.ck 3)] <| .run 1 [] <| .fin) [.eqA J1 J1,.eqA JN JN,.eqA jlB jlB,.eqA jS jS]
theorem jxY:PQ 122 gW (aI 12):=cq (.run 13 [] <| .fin) []
theorem jyL:PQ 122 jhN (aI 16):=cq (.run 13 [] <| .fin) []
theorem jxp:PQ 122 jhV (aI 12):=cq (.run 13 [] <| .fin) []
noncomputable def joq:CT cfz:=.run 61 [] <| .use Kh <| .use jmE <| .run 1 [.none,(.ck 0),(.ck 1),.none] <| .run 24 [] <| .use Kd <| .use jjg <| .run 1 [.none,(.ck 2),(.ck 3),.none] <| .run 24 [] <| .use kW <| .use jxY <| .run 1 [.none,(.ck 4),(.ck 5),.none] <| .run 24 [] <| .use Ky <| .run 1 [.none,(.ck 6),(.ck 5),.none] <| .run 59 [] <| .run 1 [.none,(.ck 0),(.ck 1),.none] <| .run 24 [] <| .use jyL <| .run 1 [.none,(.ck 4),(.ck 7),.none] <| .run 24 [] <| .use Kw <| .use jxp <| .run 1 [.none,(.ck 8),(.ck 9),.none] <| .run 24 [] <| .use Ks <| .run 1 [.none,(.ck 10),(.ck 5),.none] <| .run 32 [] <|  .fin
theorem jvp:Jn cfz 8 80 joq [] (ent cfz 80 Y5)=some (qd287,[.eqA jh jh,.eqA Jf Jf,.eqA jt jt,.eqA QZ QZ,.eqA jp jp,.eqA gW gW,.eqA jI jI,.eqA gW gW,.eqA jh jh,.eqA Jf Jf,.eqA jp jp,.eqA jhN jhN,.eqA jJ jJ,.eqA jhV jhV,.eqA jE jE,.eqA gW gW]):=by kernel_rfl
theorem jzz:PQ 80 Y5 qd287:=jC jP (by kernel_rfl) ((jK cfz 8 80 joq [] (ent cfz 80 Y5)).symm.trans jvp) ⟨rfl,rfl,rfl,rfl,rfl,rfl,rfl,rfl,rfl,rfl,rfl,rfl,rfl,rfl,rfl,rfl,trivial⟩
theorem jzI:PQ 16 Y5 qd191:=cq (.run 11 [] <| .use jzl <| .run 1 [(.ck 0)] <| .run 13 [] <| .use jzz <| .run 1 [(.ck 1)] <| .run 4 [] <| .fin) [.eqA Y5 Y5,.eqA Y5 Y5]
theorem jwZ:PQ 126 jkU qd302:=cq (.run 36 [] <| .use yB <| .run 1 [(.ck 0)] <| .run 1 [] <| .run 1 [.mg] <| .run 27 [] <| .use aw9 <| .run 1 [(.ck 1)] <| .run 1 [] <| .run 1 [.mg] <| .run 21 [] <| .fin) [.eqA jt jt,.eqA jh jh]
theorem jy5:PQ 84 jaB (aI 0):=cq (.run 7 [] <| .use jwZ <| .run 1 [(.ck 0)] <| .use zT <| .run 1 [(.ck 1)] <| .run 3 [] <| .fin) [.eqA jkU jkU,.eqA jX jX]
theorem jyy:PQ 134 jlk (.d (.v (.bool true))):=cq (.run 14 [] <| .fin) []
theorem jy8:PQ 134 jj0 (.d (.v (.bool true))):=cq (.run 14 [] <| .fin) []
noncomputable def joe:CT cfz:=.run 508 [] <|  .fin
theorem jtE:Jn cfz 8 146 joe [] (ent cfz 146 jjB)=some ((aI 15),[]):=by kernel_rfl
theorem jxo:PQ 146 jjB (aI 15):=jC jP (by kernel_rfl) ((jK cfz 8 146 joe [] (ent cfz 146 jjB)).symm.trans jtE) trivial
theorem juK:PQ 135 jE (aI 3):=cq (.run 8 [] <| .use jxo <| .run 1 [(.ck 0)] <| .run 1 [] <| .use Kd <| .run 1 [(.ck 1)] <| .run 3 [] <| .fin) [.eqA jjB jjB,.eqA jt jt]
theorem jw1:PQ 122 jiq (aI 5):=cq (.run 13 [] <| .fin) []
noncomputable def job:CT cfz:=.run 81 [] <| .run 1 [.none,.none,.none,.mg,.enter] <| .run 98 [] <| .run 1 [.enter] <| .run 61 [] <| .use Kh <| .use yH <| .run 1 [.none,(.ck 0),(.ck 1),.none] <| .run 24 [] <| .use Kd <| .run 1 [.none,(.ck 2),(.ck 1),.none] <| .run 24 [] <| .use kW <| .use jhD <| .run 1 [.none,(.ck 3),(.ck 4),.none] <| .run 24 [] <| .use Ky <| .run 1 [.none,(.ck 5),(.ck 4),.none] <| .run 59 [] <| .run 1 [.none,(.ck 0),(.ck 1),.none] <| .run 24 [] <| .run 1 [.none,(.ck 3),(.ck 1),.none] <| .run 24 [] <| .use Kw <| .use jhF <| .run 1 [.none,(.ck 6),(.ck 7),.none] <| .run 24 [] <| .use Ks <| .run 1 [.none,(.ck 8),(.ck 7),.none] <| .run 60 [] <| .run 1 [.enter] <| .run 36 [] <| .use jmM <| .run 1 [(.ck 9)] <| .run 1 [] <| .run 1 [.mg] <| .run 27 [] <| .use jid <| .run 1 [(.ck 10)] <| .run 1 [] <| .run 1 [.mg] <| .run 29 [] <| .use jkW <| .run 1 [(.ck 11)] <| .run 1 [] <| .run 1 [.mg] <| .run 1 [] <| .run 1 [.mg] <| .run 30 [] <| .run 1 [.enter] <| .run 36 [] <| .use jnl <| .run 1 [(.ck 12)] <| .run 1 [] <| .run 1 [.mg] <| .run 27 [] <| .use jlD <| .run 1 [(.ck 13)] <| .run 1 [] <| .run 1 [.mg] <| .run 29 [] <| .use jnR <| .run 1 [(.ck 14)] <| .run 1 [] <| .run 1 [.mg] <| .run 1 [] <| .run 1 [.mg] <| .run 48 [] <| .run 1 [.enter] <| .run 34 [] <| .use jyy <| .run 1 [(.ck 15)] <| .run 46 [] <| .use jnx <| .run 1 [(.ck 16)] <| .run 34 [] <| .use jgg <| .run 1 [(.ck 17)] <| .run 32 [] <| .use jkB <| .run 1 [(.ck 18)] <| .run 32 [] <| .use ji6 <| .run 1 [(.ck 19)] <| .run 113 [] <| .run 1 [.none,.none,(.ck 1),.none] <| .run 21 [] <| .use joU <| .run 1 [.none,.none,(.ck 20),.none] <| .run 21 [] <| .use jo0 <| .run 1 [.none,.none,(.ck 21),.none] <| .run 62 [] <| .run 1 [.enter] <| .run 34 [] <| .use jy8 <| .run 1 [(.ck 22)] <| .run 46 [] <| .use juK <| .run 1 [(.ck 23)] <| .run 34 [] <| .run 1 [(.ck 1)] <| .run 32 [] <| .use jdr <| .run 1 [(.ck 24)] <| .run 32 [] <| .use jw1 <| .run 1 [(.ck 25)] <| .run 82 [] <| .run 1 [.none,.none,(.ck 17),.none] <| .run 21 [] <| .run 1 [.none,.none,(.ck 1),.none] <| .run 21 [] <| .use jn3 <| .run 1 [.none,.none,(.ck 26),.none] <| .run 171 [] <| .use jcm <| .run 1 [(.ck 27)] <| .run 5 [] <| .run 1 [] <| .run 6 [] <|  .fin
theorem jr8:Jn cfz 8 85 job [] (ent cfz 85 Yx)=some (qd180,[.eqA jh jh,.eqA jh jh,.eqA jt jt,.eqA jh jh,.eqA jp jp,.eqA KF KF,.eqA jI jI,.eqA KF KF,.eqA jh jh,.eqA jh jh,.eqA jp jp,.eqA jh jh,.eqA jJ jJ,.eqA Kr Kr,.eqA jE jE,.eqA Kr Kr,.eqA ZZ ZZ,.eqA za za,.eqA zi zi,.eqA ZX ZX,.eqA zh zh,.eqA jc6 jc6,.eqA jlk jlk,.eqA jt jt,.eqA jt jt,.eqA jI jI,.eqA qQ qQ,.eqA jh jh,.eqA jE jE,.eqA gK gK,.eqA jj0 jj0,.eqA jE jE,.eqA jh jh,.eqA kT kT,.eqA jiq jiq,.eqA jt jt,.eqA jh jh,.eqA jcb jcb,.eqA Kf Kf]):=by kernel_rfl
theorem jzk:PQ 85 Yx qd180:=jC jP (by kernel_rfl) ((jK cfz 8 85 job [] (ent cfz 85 Yx)).symm.trans jr8) ⟨rfl,rfl,rfl,rfl,rfl,rfl,rfl,rfl,rfl,rfl,rfl,rfl,rfl,rfl,rfl,rfl,rfl,rfl,rfl,rfl,rfl,rfl,rfl,rfl,rfl,rfl,rfl,rfl,rfl,rfl,rfl,rfl,rfl,rfl,rfl,rfl,rfl,rfl,rfl,trivial⟩
theorem jy7:PQ 19 Yx qd119:=cq (.run 9 [] <| .use dd5 <| .use dd6 <| .use jy5 <| .use dd4 <| .run 1 [.none,(.ck 0),.none,.none,(.ck 1),(.ck 2),(.ck 3)] <| .run 11 [] <| .use jzk <| .run 1 [(.ck 4)] <| .run 4 [] <| .fin) [.eqA J1 J1,.eqA JN JN,.eqA jaB jaB,.eqA jS jS,.eqA Yx Yx]
theorem jy9:PQ 126 jkC qd302:=cq (.run 36 [] <| .use aw9 <| .run 1 [(.ck 0)] <| .run 1 [] <| .run 1 [.mg] <| .run 27 [] <| .use yB <| .run 1 [(.ck 1)] <| .run 1 [] <| .run 1 [.mg] <| .run 21 [] <| .fin) [.eqA jh jh,.eqA jt jt]
theorem jxs:PQ 84 jlq (aI 0):=cq (.run 7 [] <| .use jy9 <| .run 1 [(.ck 0)] <| .use zT <| .run 1 [(.ck 1)] <| .run 3 [] <| .fin) [.eqA jkC jkC,.eqA jX jX]
theorem jxg:PQ 122 jkq (aI 2):=cq (.run 13 [] <| .fin) []
theorem jxJ:PQ 134 jhw (.d (.v (.bool true))):=cq (.run 14 [] <| .fin) []
theorem jsk:PQ 122 Kt (aI 7):=cq (.run 13 [] <| .fin) []
theorem jxa:PQ 134 jk0 (.d (.v (.bool true))):=cq (.run 14 [] <| .fin) []
theorem jzE:PQ 122 jiX (aI 2):=cq (.run 13 [] <| .fin) []
noncomputable def joi:CT cfz:=.run 61 [] <| .use Kh <| .use jgg <| .run 1 [.none,(.ck 0),(.ck 1),.none] <| .run 24 [] <| .use Kd <| .use jsk <| .run 1 [.none,(.ck 2),(.ck 3),.none] <| .run 24 [] <| .use kW <| .run 1 [.none,(.ck 4),(.ck 3),.none] <| .run 24 [] <| .use Ky <| .use jiz <| .run 1 [.none,(.ck 5),(.ck 6),.none] <| .run 59 [] <| .run 1 [.none,(.ck 0),(.ck 1),.none] <| .run 24 [] <| .use jmD <| .run 1 [.none,(.ck 4),(.ck 7),.none] <| .run 24 [] <| .use Kw <| .use jwP <| .run 1 [.none,(.ck 8),(.ck 9),.none] <| .run 24 [] <| .use Ks <| .run 1 [.none,(.ck 10),(.ck 6),.none] <| .run 32 [] <|  .fin
theorem juu:Jn cfz 8 80 joi [] (ent cfz 80 zU)=some (qd302,[.eqA jh jh,.eqA jt jt,.eqA jt jt,.eqA Kt Kt,.eqA jp jp,.eqA Kt Kt,.eqA jI jI,.eqA kC kC,.eqA jh jh,.eqA jt jt,.eqA jp jp,.eqA yu yu,.eqA jJ jJ,.eqA jp jp,.eqA jE jE,.eqA kC kC]):=by kernel_rfl
theorem jwY:PQ 80 zU qd302:=jC jP (by kernel_rfl) ((jK cfz 8 80 joi [] (ent cfz 80 zU)).symm.trans juu) ⟨rfl,rfl,rfl,rfl,rfl,rfl,rfl,rfl,rfl,rfl,rfl,rfl,rfl,rfl,rfl,rfl,trivial⟩
theorem jr2:PQ 81 zU (.d (.v (.bool true))):=cq (.run 9 [] <| .use jwY <| .run 1 [(.ck 0)] <| .use jop <| .run 1 [(.ck 1)] <| .run 4 [] <| .fin) [.eqA zU zU,.eqA YI YI]
noncomputable def joA:CT cfz:=.run 81 [] <| .run 1 [.none,.none,.none,.mg,.enter] <| .run 98 [] <| .run 1 [.enter] <| .run 61 [] <| .use Kh <| .use yH <| .run 1 [.none,(.ck 0),(.ck 1),.none] <| .run 24 [] <| .use Kd <| .run 1 [.none,(.ck 2),(.ck 1),.none] <| .run 24 [] <| .use kW <| .run 1 [.none,(.ck 3),(.ck 1),.none] <| .run 24 [] <| .use Ky <| .use QA <| .run 1 [.none,(.ck 4),(.ck 5),.none] <| .run 59 [] <| .run 1 [.none,(.ck 0),(.ck 1),.none] <| .run 24 [] <| .run 1 [.none,(.ck 3),(.ck 1),.none] <| .run 24 [] <| .use Kw <| .run 1 [.none,(.ck 6),(.ck 1),.none] <| .run 24 [] <| .use Ks <| .use jls <| .run 1 [.none,(.ck 7),(.ck 8),.none] <| .run 60 [] <| .run 1 [.enter] <| .run 36 [] <| .use jmM <| .run 1 [(.ck 9)] <| .run 1 [] <| .run 1 [.mg] <| .run 27 [] <| .use jid <| .run 1 [(.ck 10)] <| .run 1 [] <| .run 1 [.mg] <| .run 29 [] <| .use jpE <| .run 1 [(.ck 11)] <| .run 1 [] <| .run 1 [.mg] <| .run 1 [] <| .run 1 [.mg] <| .run 30 [] <| .run 1 [.enter] <| .run 36 [] <| .use jnl <| .run 1 [(.ck 12)] <| .run 1 [] <| .run 1 [.mg] <| .run 27 [] <| .use jlD <| .run 1 [(.ck 13)] <| .run 1 [] <| .run 1 [.mg] <| .run 29 [] <| .use jxg <| .run 1 [(.ck 14)] <| .run 1 [] <| .run 1 [.mg] <| .run 1 [] <| .run 1 [.mg] <| .run 48 [] <| .run 1 [.enter] <| .run 34 [] <| .use jxJ <| .run 1 [(.ck 15)] <| .run 46 [] <| .use jnx <| .run 1 [(.ck 16)] <| .run 34 [] <| .use jgg <| .run 1 [(.ck 17)] <| .run 32 [] <| .use jkB <| .run 1 [(.ck 18)] <| .run 32 [] <| .use jsk <| .run 1 [(.ck 19)] <| .run 113 [] <| .run 1 [.none,.none,(.ck 1),.none] <| .run 21 [] <| .use joU <| .run 1 [.none,.none,(.ck 20),.none] <| .run 21 [] <| .use jud <| .run 1 [.none,.none,(.ck 21),.none] <| .run 62 [] <| .run 1 [.enter] <| .run 34 [] <| .use jxa <| .run 1 [(.ck 22)] <| .run 46 [] <| .use juK <| .run 1 [(.ck 23)] <| .run 34 [] <| .run 1 [(.ck 1)] <| .run 32 [] <| .use jdr <| .run 1 [(.ck 24)] <| .run 32 [] <| .use jzE <| .run 1 [(.ck 25)] <| .run 82 [] <| .run 1 [.none,.none,(.ck 17),.none] <| .run 21 [] <| .run 1 [.none,.none,(.ck 1),.none] <| .run 21 [] <| .run 1 [.none,.none,(.ck 17),.none] <| .run 171 [] <| .use jr2 <| .run 1 [(.ck 26)] <| .run 5 [] <| .run 1 [] <| .run 6 [] <|  .fin
theorem ju1:Jn cfz 8 85 joA [] (ent cfz 85 YJ)=some (qd189,[.eqA jh jh,.eqA jh jh,.eqA jt jt,.eqA jh jh,.eqA jp jp,.eqA jh jh,.eqA jI jI,.eqA jx jx,.eqA jh jh,.eqA jh jh,.eqA jp jp,.eqA jh jh,.eqA jJ jJ,.eqA jh jh,.eqA jE jE,.eqA KG KG,.eqA ZZ ZZ,.eqA za za,.eqA gG gG,.eqA ZX ZX,.eqA zh zh,.eqA jkq jkq,.eqA jhw jhw,.eqA jt jt,.eqA jt jt,.eqA jI jI,.eqA Kt Kt,.eqA jh jh,.eqA jE jE,.eqA jcT jcT,.eqA jk0 jk0,.eqA jE jE,.eqA jh jh,.eqA kT kT,.eqA jiX jiX,.eqA jt jt,.eqA jh jh,.eqA jt jt,.eqA zU zU]):=by kernel_rfl
theorem jw8:PQ 85 YJ qd189:=jC jP (by kernel_rfl) ((jK cfz 8 85 joA [] (ent cfz 85 YJ)).symm.trans ju1) ⟨rfl,rfl,rfl,rfl,rfl,rfl,rfl,rfl,rfl,rfl,rfl,rfl,rfl,rfl,rfl,rfl,rfl,rfl,rfl,rfl,rfl,rfl,rfl,rfl,rfl,rfl,rfl,rfl,rfl,rfl,rfl,rfl,rfl,rfl,rfl,rfl,rfl,rfl,rfl,trivial⟩
theorem jyt:PQ 19 YJ qd123:=cq (.run 9 [] <| .use dd5 <| .use dd6 <| .use jxs <| .use dd4 <| .run 1 [.none,(.ck 0),.none,.none,(.ck 1),(.ck 2),(.ck 3)] <| .run 11 [] <| .use jw8 <| .run 1 [(.ck 4)] <| .run 4 [] <| .fin) [.eqA J1 J1,.eqA JN JN,.eqA jlq jlq,.eqA jS jS,.eqA YJ YJ]
theorem jx0:PQ 126 jij qd183:=cq (.run 36 [] <| .use dd8 <| .run 1 [(.ck 0)] <| .run 1 [] <| .run 1 [.mg] <| .run 27 [] <| .use jeA <| .run 1 [(.ck 1)] <| .run 1 [] <| .run 1 [.mg] <| .run 27 [] <| .use yB <| .run 1 [(.ck 2)] <| .run 1 [] <| .run 1 [.mg] <| .run 27 [] <| .use aw9 <| .run 1 [(.ck 3)] <| .run 1 [] <| .run 1 [.mg] <| .run 21 [] <| .fin) [.eqA jx jx,.eqA Jf Jf,.eqA jt jt,.eqA jh jh]
theorem jsw:PQ 84 Yq (aI 0):=cq (.run 7 [] <| .use jx0 <| .run 1 [(.ck 0)] <| .use jeF <| .run 1 [(.ck 1)] <| .run 3 [] <| .fin) [.eqA jij jij,.eqA KZ KZ]
theorem jxN:PQ 105 Yq (aI 0):=cq (.run 9 [] <| .use YP <| .run 1 [(.ck 0)] <| .run 1 [] <| .use jsw <| .run 1 [(.ck 1)] <| .run 1 [] <| .use zT <| .run 1 [(.ck 2)] <| .run 3 [] <| .fin) [.eqA JO JO,.eqA Yq Yq,.eqA jX jX]
theorem jxT:PQ 91 jky (aI 0):=cq (.run 14 [] <| .use dd0 <| .run 1 [(.ck 0)] <| .run 3 [] <| .fin) [.eqA jW jW]
theorem jcv:PQ 127 jp (aI 0):=cq (.run 7 [] <| .use jxT <| .run 1 [(.ck 0)] <| .run 3 [] <| .fin) [.eqA jky jky]
theorem jvu:PQ 126 jjl qd183:=cq (.run 36 [] <| .use yB <| .run 1 [(.ck 0)] <| .run 1 [] <| .run 1 [.mg] <| .run 27 [] <| .use jcv <| .run 1 [(.ck 1)] <| .run 1 [] <| .run 1 [.mg] <| .run 27 [] <| .use aw9 <| .run 1 [(.ck 2)] <| .run 1 [] <| .run 1 [.mg] <| .run 27 [] <| .run 1 [(.ck 0)] <| .run 1 [] <| .run 1 [.mg] <| .run 21 [] <| .fin) [.eqA jt jt,.eqA jp jp,.eqA jh jh,.eqA jt jt]
theorem jot:PQ 84 YM (aI 0):=cq (.run 7 [] <| .use jvu <| .run 1 [(.ck 0)] <| .use jeF <| .run 1 [(.ck 1)] <| .run 3 [] <| .fin) [.eqA jjl jjl,.eqA KZ KZ]
theorem jwU:PQ 105 YM (aI 0):=cq (.run 9 [] <| .use YP <| .run 1 [(.ck 0)] <| .run 1 [] <| .use jot <| .run 1 [(.ck 1)] <| .run 1 [] <| .use zT <| .run 1 [(.ck 2)] <| .run 3 [] <| .fin) [.eqA JO JO,.eqA YM YM,.eqA jX jX]
theorem jsg:PQ 94 jgk qd184:=cq (.run 190 [] <| .fin) []
theorem jq3:PQ 53 jgk qd275:=cq (.run 9 [] <| .use jxN <| .run 1 [(.ck 0)] <| .run 1 [] <| .use jwU <| .run 1 [(.ck 1)] <| .run 5 [] <| .use dd6 <| .run 1 [(.ck 2)] <| .run 1 [] <| .use dd4 <| .run 1 [(.ck 3)] <| .run 13 [] <| .use jsg <| .run 1 [(.ck 4)] <| .run 5 [] <| .fin) [.eqA Yq Yq,.eqA YM YM,.eqA JN JN,.eqA jS jS,.eqA jgk jgk]
theorem jq8:PQ 30 jhy (.d (.v (.bool true))):=cq (.run 85 [] <| .fin) []
theorem jtl:PQ 30 jlz (.d (.v (.bool true))):=cq (.run 85 [] <| .fin) []
theorem juP:PQ 30 jbj (.d (.v (.bool true))):=cq (.run 133 [] <| .fin) []
theorem jus:PQ 30 jqF (.d (.v (.bool true))):=cq (.run 133 [] <| .fin) []
theorem jvM:PQ 30 jjL (.d (.v (.bool true))):=cq (.run 61 [] <| .fin) []
theorem jsL:PQ 30 jjK (.d (.v (.bool true))):=cq (.run 85 [] <| .fin) []
theorem jor:PQ 83 jcy (aI 0):=cq (.run 16 [] <| .fin) []
theorem jtG:PQ 143 jpc (.d (.v (.bool false))):=cq (.run 16 [] <| .fin) []
theorem jrc:PQ 143 jqn (.d (.v (.bool false))):=cq (.run 16 [] <| .fin) []
theorem jrg:PQ 133 jg4 (aI (-1)):=cq (.run 34 [] <| .use jtG <| .run 1 [(.ck 0)] <| .run 30 [] <| .use jrc <| .run 1 [(.ck 1)] <| .run 21 [] <| .fin) [.eqA jpc jpc,.eqA jqn jqn]
theorem jvC:PQ 142 jg4 (.d (.v (.bool false))):=cq (.run 8 [] <| .use jrg <| .run 1 [(.ck 0)] <| .run 4 [] <| .fin) [.eqA jg4 jg4]
theorem jsy:PQ 91 jh9 (aI 0):=cq (.run 14 [] <| .use dd0 <| .run 1 [(.ck 0)] <| .run 3 [] <| .fin) [.eqA jW jW]
theorem jnX:PQ 127 jI (aI 0):=cq (.run 7 [] <| .use jsy <| .run 1 [(.ck 0)] <| .run 3 [] <| .fin) [.eqA jh9 jh9]
theorem js3:PQ 126 jj2 qd245:=cq (.run 36 [] <| .use yB <| .run 1 [(.ck 0)] <| .run 1 [] <| .run 1 [.mg] <| .run 27 [] <| .use jcv <| .run 1 [(.ck 1)] <| .run 1 [] <| .run 1 [.mg] <| .run 27 [] <| .use jnX <| .run 1 [(.ck 2)] <| .run 1 [] <| .run 1 [.mg] <| .run 21 [] <| .fin) [.eqA jt jt,.eqA jp jp,.eqA jI jI]
theorem jnI:PQ 84 jc1 (aI 0):=cq (.run 7 [] <| .use js3 <| .run 1 [(.ck 0)] <| .use dd4 <| .run 1 [(.ck 1)] <| .run 3 [] <| .fin) [.eqA jj2 jj2,.eqA jS jS]
theorem js9:PQ 91 jla (aI 0):=cq (.run 14 [] <| .use dd0 <| .run 1 [(.ck 0)] <| .run 3 [] <| .fin) [.eqA jW jW]
theorem jjG:PQ 127 jJ (aI 0):=cq (.run 7 [] <| .use js9 <| .run 1 [(.ck 0)] <| .run 3 [] <| .fin) [.eqA jla jla]
theorem jrs:PQ 126 jhu qd245:=cq (.run 36 [] <| .use jjG <| .run 1 [(.ck 0)] <| .run 1 [] <| .run 1 [.mg] <| .run 27 [] <| .use jeA <| .run 1 [(.ck 1)] <| .run 1 [] <| .run 1 [.mg] <| .run 27 [] <| .use jlS <| .run 1 [(.ck 2)] <| .run 1 [] <| .run 1 [.mg] <| .run 21 [] <| .fin) [.eqA jJ jJ,.eqA Jf Jf,.eqA jE jE]
theorem jvi:PQ 84 jhl (aI 0):=cq (.run 7 [] <| .use jrs <| .run 1 [(.ck 0)] <| .use dd4 <| .run 1 [(.ck 1)] <| .run 3 [] <| .fin) [.eqA jhu jhu,.eqA jS jS]
theorem jre:PQ 144 jqx qd302:=cq (.run 36 [] <| .use jnI <| .run 1 [(.ck 0)] <| .run 1 [] <| .run 1 [.mg] <| .run 27 [] <| .use jvi <| .run 1 [(.ck 1)] <| .run 1 [] <| .run 1 [.mg] <| .run 21 [] <| .fin) [.eqA jc1 jc1,.eqA jhl jhl]
theorem jtB:PQ 104 jpf (aI 0):=cq (.run 8 [] <| .use jor <| .use YP <| .use zT <| .run 1 [.none,(.ck 0),.none,(.ck 1),(.ck 2)] <| .run 11 [] <| .use jvC <| .run 1 [(.ck 3)] <| .run 5 [] <| .use dd6 <| .run 1 [(.ck 4),.none,.none,(.ck 1),(.ck 2)] <| .run 10 [] <| .use jre <| .run 1 [(.ck 5)] <| .run 1 [(.ck 2)] <| .run 3 [] <| .fin) [.eqA jcy jcy,.eqA JO JO,.eqA jX jX,.eqA jg4 jg4,.eqA JN JN,.eqA JO JO,.eqA jX jX,.eqA jqx jqx,.eqA jX jX]
noncomputable def jiY:CT cfz:=.run 9 [] <| .use jtB <| .run 1 [(.ck 0)] <| .run 329 [] <|  .fin
theorem jpv:Jn cfz 8 43 jiY [] (ent cfz 43 jjM)=some (qd69,[.eqA jpf jpf]):=by kernel_rfl
theorem jwS:PQ 43 jjM qd69:=jC jP (by kernel_rfl) ((jK cfz 8 43 jiY [] (ent cfz 43 jjM)).symm.trans jpv) ⟨rfl,trivial⟩
noncomputable def jiV:CT cfz:=.run 36 [] <| .use yB <| .run 1 [(.ck 0)] <| .run 1 [] <| .run 1 [.mg] <| .run 27 [] <| .use jjG <| .run 1 [(.ck 1)] <| .run 1 [] <| .run 1 [.mg] <| .run 27 [] <| .use jcv <| .run 1 [(.ck 2)] <| .run 1 [] <| .run 1 [.mg] <| .run 27 [] <| .use jeA <| .run 1 [(.ck 3)] <| .run 1 [] <| .run 1 [.mg] <| .run 27 [] <| .use jnX <| .run 1 [(.ck 4)] <| .run 1 [] <| .run 1 [.mg] <| .run 27 [] <| .use jlS <| .run 1 [(.ck 5)] <| .run 1 [] <| .run 1 [.mg] <| .run 21 [] <|  .fin
theorem jqw:Jn cfz 8 126 jiV [] (ent cfz 126 jiy)=some (qd111,[.eqA jt jt,.eqA jJ jJ,.eqA jp jp,.eqA Jf Jf,.eqA jI jI,.eqA jE jE]):=by kernel_rfl
theorem jsZ:PQ 126 jiy qd111:=jC jP (by kernel_rfl) ((jK cfz 8 126 jiV [] (ent cfz 126 jiy)).symm.trans jqw) ⟨rfl,rfl,rfl,rfl,rfl,rfl,trivial⟩
theorem jrF:PQ 82 jiI (aI 0):=cq (.run 193 [] <| .fin) []
theorem jsN:PQ 84 G2 (aI 0):=cq (.run 7 [] <| .use jsZ <| .run 1 [(.ck 0)] <| .use jrF <| .run 1 [(.ck 1)] <| .run 3 [] <| .fin) [.eqA jiy jiy,.eqA jiI jiI]
theorem jv3:PQ 105 G2 (aI 0):=cq (.run 9 [] <| .use YP <| .run 1 [(.ck 0)] <| .run 1 [] <| .use jsN <| .run 1 [(.ck 1)] <| .run 1 [] <| .use zT <| .run 1 [(.ck 2)] <| .run 3 [] <| .fin) [.eqA JO JO,.eqA G2 G2,.eqA jX jX]
theorem jcW:PQ 91 QI (aI 0):=cq (.run 14 [] <| .use dd0 <| .run 1 [(.ck 0)] <| .run 3 [] <| .fin) [.eqA jW jW]
noncomputable def jkf:CT cfz:=.run 9 [] <| .use jv3 <| .run 1 [(.ck 0)] <| .run 1 [] <| .use jcW <| .run 1 [(.ck 1)] <| .run 1 [] <| .use zT <| .run 1 [(.ck 2)] <| .run 12 [] <| .use dd6 <| .use YP <| .run 1 [(.ck 3),(.ck 4),(.ck 2)] <| .run 186 [] <|  .fin
theorem jpx:Jn cfz 8 45 jkf [] (ent cfz 45 jin)=some (qd60,[.eqA G2 G2,.eqA QI QI,.eqA jX jX,.eqA JN JN,.eqA JO JO,.eqA jX jX]):=by kernel_rfl
theorem jwi:PQ 45 jin qd60:=jC jP (by kernel_rfl) ((jK cfz 8 45 jkf [] (ent cfz 45 jin)).symm.trans jpx) ⟨rfl,rfl,rfl,rfl,rfl,rfl,trivial⟩
theorem jtg:PQ 91 jlp (aI 0):=cq (.run 14 [] <| .use dd0 <| .run 1 [(.ck 0)] <| .run 3 [] <| .fin) [.eqA jW jW]
theorem joJ:PQ 91 jcM (aI 0):=cq (.run 14 [] <| .use dd0 <| .run 1 [(.ck 0)] <| .run 3 [] <| .fin) [.eqA jW jW]
theorem jsz:PQ 106 jaK (aI 2):=cq (.run 19 [] <| .fin) []
theorem jti:PQ 51 jaK qd276:=cq (.run 9 [] <| .use jcW <| .run 1 [(.ck 0)] <| .run 1 [] <| .use jtg <| .run 1 [(.ck 1)] <| .run 1 [] <| .use joJ <| .run 1 [(.ck 2)] <| .run 1 [] <| .use dd4 <| .run 1 [(.ck 3)] <| .run 14 [] <| .use jsz <| .run 1 [(.ck 4)] <| .run 4 [] <| .fin) [.eqA QI QI,.eqA jlp jlp,.eqA jcM jcM,.eqA jS jS,.eqA jaK jaK]
theorem jue:PQ 91 jkR (aI 0):=cq (.run 14 [] <| .use dd0 <| .run 1 [(.ck 0)] <| .run 3 [] <| .fin) [.eqA jW jW]
theorem jwN:PQ 106 jht (aI 1):=cq (.run 19 [] <| .fin) []
theorem jvI:PQ 52 jhJ qd281:=cq (.run 10 [] <| .use dd5 <| .run 1 [(.ck 0)] <| .run 1 [] <| .use jcW <| .run 1 [(.ck 1)] <| .run 1 [] <| .use jue <| .run 1 [(.ck 2)] <| .run 1 [] <| .use dd4 <| .run 1 [(.ck 3)] <| .run 15 [] <| .use jwN <| .run 1 [(.ck 4)] <| .run 42 [] <| .fin) [.eqA J1 J1,.eqA QI QI,.eqA jkR jkR,.eqA jS jS,.eqA jht jht]
theorem js4:PQ 106 jie (aI 2):=cq (.run 19 [] <| .fin) []
theorem js0:PQ 52 jiA qd277:=cq (.run 10 [] <| .use dd5 <| .run 1 [(.ck 0)] <| .run 1 [] <| .use jcW <| .run 1 [(.ck 1)] <| .run 1 [] <| .use joJ <| .run 1 [(.ck 2)] <| .run 1 [] <| .use dd4 <| .run 1 [(.ck 3)] <| .run 15 [] <| .use js4 <| .run 1 [(.ck 4)] <| .run 42 [] <| .fin) [.eqA J1 J1,.eqA QI QI,.eqA jcM jcM,.eqA jS jS,.eqA jie jie]
theorem ju5:PQ 91 jix (aI 0):=cq (.run 14 [] <| .use dd0 <| .run 1 [(.ck 0)] <| .run 3 [] <| .fin) [.eqA jW jW]
theorem jrY:PQ 106 jiL (aI 2):=cq (.run 19 [] <| .fin) []
theorem jwd:PQ 52 jjS qd281:=cq (.run 10 [] <| .use dd5 <| .run 1 [(.ck 0)] <| .run 1 [] <| .use jcW <| .run 1 [(.ck 1)] <| .run 1 [] <| .use ju5 <| .run 1 [(.ck 2)] <| .run 1 [] <| .use dd4 <| .run 1 [(.ck 3)] <| .run 15 [] <| .use jrY <| .run 1 [(.ck 4)] <| .run 38 [] <| .fin) [.eqA J1 J1,.eqA QI QI,.eqA jix jix,.eqA jS jS,.eqA jiL jiL]
theorem js8:PQ 143 jqs (.d (.v (.bool false))):=cq (.run 16 [] <| .fin) []
theorem juI:PQ 143 joR (.d (.v (.bool false))):=cq (.run 16 [] <| .fin) []
theorem jrJ:PQ 143 joN (.d (.v (.bool false))):=cq (.run 16 [] <| .fin) []
theorem jrq:PQ 133 qd0 (aI (-1)):=cq (.run 34 [] <| .use js8 <| .run 1 [(.ck 0)] <| .run 30 [] <| .use juI <| .run 1 [(.ck 1)] <| .run 30 [] <| .use jrJ <| .run 1 [(.ck 2)] <| .run 21 [] <| .fin) [.eqA jqs jqs,.eqA joR joR,.eqA joN joN]
theorem jvg:PQ 142 qd0 (.d (.v (.bool false))):=cq (.run 8 [] <| .use jrq <| .run 1 [(.ck 0)] <| .run 4 [] <| .fin) [.eqA qd0 qd0]
theorem jtV:PQ 126 jkF qd245:=cq (.run 36 [] <| .use yB <| .run 1 [(.ck 0)] <| .run 1 [] <| .run 1 [.mg] <| .run 27 [] <| .use jcv <| .run 1 [(.ck 1)] <| .run 1 [] <| .run 1 [.mg] <| .run 27 [] <| .use jjG <| .run 1 [(.ck 2)] <| .run 1 [] <| .run 1 [.mg] <| .run 21 [] <| .fin) [.eqA jt jt,.eqA jp jp,.eqA jJ jJ]
theorem jvf:PQ 84 jkN (aI 0):=cq (.run 7 [] <| .use jtV <| .run 1 [(.ck 0)] <| .use dd4 <| .run 1 [(.ck 1)] <| .run 3 [] <| .fin) [.eqA jkF jkF,.eqA jS jS]
theorem jt3:PQ 126 jjz qd245:=cq (.run 36 [] <| .use yB <| .run 1 [(.ck 0)] <| .run 1 [] <| .run 1 [.mg] <| .run 27 [] <| .use jeA <| .run 1 [(.ck 1)] <| .run 1 [] <| .run 1 [.mg] <| .run 27 [] <| .use jlS <| .run 1 [(.ck 2)] <| .run 1 [] <| .run 1 [.mg] <| .run 21 [] <| .fin) [.eqA jt jt,.eqA Jf Jf,.eqA jE jE]
theorem jsH:PQ 84 jhg (aI 0):=cq (.run 7 [] <| .use jt3 <| .run 1 [(.ck 0)] <| .use dd4 <| .run 1 [(.ck 1)] <| .run 3 [] <| .fin) [.eqA jjz jjz,.eqA jS jS]
theorem jwg:PQ 144 jpC qd245:=cq (.run 36 [] <| .use jnI <| .run 1 [(.ck 0)] <| .run 1 [] <| .run 1 [.mg] <| .run 27 [] <| .use jvf <| .run 1 [(.ck 1)] <| .run 1 [] <| .run 1 [.mg] <| .run 27 [] <| .use jsH <| .run 1 [(.ck 2)] <| .run 1 [] <| .run 1 [.mg] <| .run 21 [] <| .fin) [.eqA jc1 jc1,.eqA jkN jkN,.eqA jhg jhg]
theorem jtd:PQ 104 jo2 (aI 0):=cq (.run 8 [] <| .use jor <| .use YP <| .use zT <| .run 1 [.none,(.ck 0),.none,(.ck 1),(.ck 2)] <| .run 11 [] <| .use jvg <| .run 1 [(.ck 3)] <| .run 5 [] <| .use dd6 <| .run 1 [(.ck 4),.none,.none,(.ck 1),(.ck 2)] <| .run 10 [] <| .use jwg <| .run 1 [(.ck 5)] <| .use dd4 <| .run 1 [(.ck 6)] <| .run 3 [] <| .fin) [.eqA jcy jcy,.eqA JO JO,.eqA jX jX,.eqA qd0 qd0,.eqA JN JN,.eqA JO JO,.eqA jX jX,.eqA jpC jpC,.eqA jS jS]
theorem jrB:PQ 109 jis (aI 1):=cq (.run 13 [] <| .fin) []
theorem jrR:PQ 109 ji2 (aI 1):=cq (.run 13 [] <| .fin) []
theorem jvU:PQ 109 jiC (aI 1):=cq (.run 13 [] <| .fin) []
noncomputable def ji3:CT cfz:=.run 491 [] <|  .fin
theorem jqO:Jn cfz 8 145 ji3 [] (ent cfz 145 jiE)=some ((aI 3),[]):=by kernel_rfl
theorem jvy:PQ 145 jiE (aI 3):=jC jP (by kernel_rfl) ((jK cfz 8 145 ji3 [] (ent cfz 145 jiE)).symm.trans jqO) trivial
theorem juy:PQ 146 qd1 (aI 1):=cq (.run 74 [] <| .fin) []
noncomputable def jjP:CT cfz:=.run 490 [] <|  .fin
theorem jpm:Jn cfz 8 146 jjP [] (ent cfz 146 jcA)=some ((aI (-1)),[]):=by kernel_rfl
theorem jwV:PQ 146 jcA (aI (-1)):=jC jP (by kernel_rfl) ((jK cfz 8 146 jjP [] (ent cfz 146 jcA)).symm.trans jpm) trivial
theorem jrv:PQ 110 jcA (.d (.v (.bool false))):=cq (.run 8 [] <| .use jwV <| .run 1 [(.ck 0)] <| .run 4 [] <| .fin) [.eqA jcA jcA]
theorem jvP:PQ 107 jiv qd282:=cq (.run 115 [] <| .use jvy <| .run 1 [(.ck 0)] <| .run 6 [] <| .use juy <| .run 1 [(.ck 1)] <| .run 9 [] <| .use jrv <| .run 1 [(.ck 2)] <| .run 5 [] <| .fin) [.eqA jiE jiE,.eqA qd1 qd1,.eqA jcA jcA]
theorem jwk:PQ 109 jk4 (aI 2):=cq (.run 13 [] <| .fin) []
theorem jwm:PQ 109 jia (aI 2):=cq (.run 13 [] <| .fin) []
theorem jwL:PQ 109 jkG (aI 5):=cq (.run 13 [] <| .fin) []
noncomputable def jk5:CT cfz:=.run 491 [] <|  .fin
theorem joX:Jn cfz 8 145 jk5 [] (ent cfz 145 jhd)=some ((aI 2),[]):=by kernel_rfl
theorem jrX:PQ 145 jhd (aI 2):=jC jP (by kernel_rfl) ((jK cfz 8 145 jk5 [] (ent cfz 145 jhd)).symm.trans joX) trivial
theorem jsM:PQ 146 qd2 (aI 2):=cq (.run 105 [] <| .fin) []
noncomputable def jkZ:CT cfz:=.run 459 [] <|  .fin
theorem jqB:Jn cfz 8 146 jkZ [] (ent cfz 146 jcB)=some ((aI (-1)),[]):=by kernel_rfl
theorem jrZ:PQ 146 jcB (aI (-1)):=jC jP (by kernel_rfl) ((jK cfz 8 146 jkZ [] (ent cfz 146 jcB)).symm.trans jqB) trivial
theorem jsG:PQ 110 jcB (.d (.v (.bool false))):=cq (.run 8 [] <| .use jrZ <| .run 1 [(.ck 0)] <| .run 4 [] <| .fin) [.eqA jcB jcB]
theorem jvQ:PQ 107 jhe qd283:=cq (.run 115 [] <| .use jrX <| .run 1 [(.ck 0)] <| .run 6 [] <| .use jsM <| .run 1 [(.ck 1)] <| .run 9 [] <| .use jsG <| .run 1 [(.ck 2)] <| .run 5 [] <| .fin) [.eqA jhd jhd,.eqA qd2 qd2,.eqA jcB jcB]
theorem jsP:PQ 109 jjZ (aI 3):=cq (.run 13 [] <| .fin) []
theorem jut:PQ 109 jim (aI 4):=cq (.run 13 [] <| .fin) []
theorem jvm:PQ 109 jkk (aI 6):=cq (.run 13 [] <| .fin) []
noncomputable def jlC:CT cfz:=.run 491 [] <|  .fin
theorem jqy:Jn cfz 8 145 jlC [] (ent cfz 145 jh1)=some ((aI 1),[]):=by kernel_rfl
theorem jrl:PQ 145 jh1 (aI 1):=jC jP (by kernel_rfl) ((jK cfz 8 145 jlC [] (ent cfz 145 jh1)).symm.trans jqy) trivial
theorem jrw:PQ 146 qd3 (aI 3):=cq (.run 136 [] <| .fin) []
theorem juh:PQ 146 jgj (aI 0):=cq (.run 43 [] <| .fin) []
theorem jwR:PQ 110 jgj (.d (.v (.bool true))):=cq (.run 8 [] <| .use juh <| .run 1 [(.ck 0)] <| .run 4 [] <| .fin) [.eqA jgj jgj]
theorem jv5:PQ 107 jiD qd278:=cq (.run 115 [] <| .use jrl <| .run 1 [(.ck 0)] <| .run 6 [] <| .use jrw <| .run 1 [(.ck 1)] <| .run 9 [] <| .use jwR <| .run 1 [(.ck 2)] <| .run 5 [] <| .fin) [.eqA jh1 jh1,.eqA qd3 qd3,.eqA jgj jgj]
noncomputable def jjb:CT cfz:=.run 10 [] <| .use jtd <| .run 1 [(.ck 0)] <| .run 44 [] <| .run 1 [.enter] <| .run 36 [] <| .use jrB <| .run 1 [(.ck 1)] <| .run 1 [] <| .run 1 [.mg] <| .run 27 [] <| .use jrR <| .run 1 [(.ck 2)] <| .run 1 [] <| .run 1 [.mg] <| .run 27 [] <| .use jvU <| .run 1 [(.ck 3)] <| .run 1 [] <| .run 1 [.mg] <| .run 22 [] <| .use jvP <| .run 1 [(.ck 4)] <| .run 46 [] <| .run 1 [.enter] <| .run 36 [] <| .use jwk <| .run 1 [(.ck 5)] <| .run 1 [] <| .run 1 [.mg] <| .run 27 [] <| .use jwm <| .run 1 [(.ck 6)] <| .run 1 [] <| .run 1 [.mg] <| .run 27 [] <| .use jwL <| .run 1 [(.ck 7)] <| .run 1 [] <| .run 1 [.mg] <| .run 22 [] <| .use jvQ <| .run 1 [(.ck 8)] <| .run 46 [] <| .run 1 [.enter] <| .run 36 [] <| .use jsP <| .run 1 [(.ck 9)] <| .run 1 [] <| .run 1 [.mg] <| .run 27 [] <| .use jut <| .run 1 [(.ck 10)] <| .run 1 [] <| .run 1 [.mg] <| .run 27 [] <| .use jvm <| .run 1 [(.ck 11)] <| .run 1 [] <| .run 1 [.mg] <| .run 22 [] <| .use jv5 <| .run 1 [(.ck 12)] <| .run 53 [] <|  .fin
theorem jpF:Jn cfz 8 61 jjb [] (ent cfz 61 jkm)=some (qd98,[.eqA jo2 jo2,.eqA jis jis,.eqA ji2 ji2,.eqA jiC jiC,.eqA jiv jiv,.eqA jk4 jk4,.eqA jia jia,.eqA jkG jkG,.eqA jhe jhe,.eqA jjZ jjZ,.eqA jim jim,.eqA jkk jkk,.eqA jiD jiD]):=by kernel_rfl
theorem jul:PQ 61 jkm qd98:=jC jP (by kernel_rfl) ((jK cfz 8 61 jjb [] (ent cfz 61 jkm)).symm.trans jpF) ⟨rfl,rfl,rfl,rfl,rfl,rfl,rfl,rfl,rfl,rfl,rfl,rfl,rfl,trivial⟩
theorem jtW:PQ 62 jio qd192:=cq (.run 74 [] <| .fin) []
theorem juF:PQ 91 jjd (aI 0):=cq (.run 14 [] <| .use dd0 <| .run 1 [(.ck 0)] <| .run 3 [] <| .fin) [.eqA jW jW]
theorem jsQ:PQ 127 jag (aI 0):=cq (.run 7 [] <| .use juF <| .run 1 [(.ck 0)] <| .run 3 [] <| .fin) [.eqA jjd jjd]
theorem jrG:PQ 126 ji1 qd302:=cq (.run 36 [] <| .use dd8 <| .run 1 [(.ck 0)] <| .run 1 [] <| .run 1 [.mg] <| .run 27 [] <| .use jsQ <| .run 1 [(.ck 1)] <| .run 1 [] <| .run 1 [.mg] <| .run 21 [] <| .fin) [.eqA jx jx,.eqA jag jag]
theorem jsD:PQ 84 yk (aI 0):=cq (.run 7 [] <| .use jrG <| .run 1 [(.ck 0)] <| .use zT <| .run 1 [(.ck 1)] <| .run 3 [] <| .fin) [.eqA ji1 ji1,.eqA jX jX]
theorem jtt:PQ 105 yk (aI 0):=cq (.run 9 [] <| .use YP <| .run 1 [(.ck 0)] <| .run 1 [] <| .use jsD <| .run 1 [(.ck 1)] <| .run 1 [] <| .use zT <| .run 1 [(.ck 2)] <| .run 3 [] <| .fin) [.eqA JO JO,.eqA yk yk,.eqA jX jX]
theorem jsX:PQ 146 jaJ (aI (-1)):=cq (.run 87 [] <| .fin) []
theorem jvK:PQ 110 jaJ (.d (.v (.bool false))):=cq (.run 8 [] <| .use jsX <| .run 1 [(.ck 0)] <| .run 4 [] <| .fin) [.eqA jaJ jaJ]
theorem jsh:PQ 83 YG (aI 0):=cq (.run 16 [] <| .fin) []
theorem jt0:PQ 111 jiB (.fn (.func 147) [] [(.ip [jol]),(.ip [(vI 2)])]):=cq (.run 20 [] <| .fin) []
theorem jtP:PQ 63 yk qd271:=cq (.run 9 [] <| .use jtt <| .run 1 [(.ck 0)] <| .run 4 [] <| .use dd6 <| .run 1 [(.ck 1)] <| .run 1 [] <| .use jvK <| .run 1 [(.ck 2)] <| .use jsh <| .run 1 [(.ck 3)] <| .run 1 [] <| .use dd4 <| .run 1 [(.ck 4)] <| .run 17 [] <| .use jt0 <| .run 1 [(.ck 5)] <| .run 36 [] <| .run 1 [.enter] <| .run 43 [] <| .fin) [.eqA yk yk,.eqA JN JN,.eqA jaJ jaJ,.eqA YG YG,.eqA jS jS,.eqA jiB jiB]
theorem jkP:PQ 29 Kf (aI 0):=cq (.run 7 [] <| .use dd5 <| .use dd6 <| .use jsw <| .use dd4 <| .run 1 [.none,(.ck 0),.none,(.ck 1),(.ck 2),(.ck 3)] <| .run 1 [] <| .fin) [.eqA J1 J1,.eqA JN JN,.eqA Yq Yq,.eqA jS jS]
theorem ju3:PQ 185 jJ qd353:=cq (.run 20 [] <| .fin) []
theorem jrm:PQ 163 jhG qd353:=cq (.run 25 [] <| .use ju3 <| .run 1 [(.ck 0)] <| .run 3 [] <| .fin) [.eqA jJ jJ]
theorem jv0:PQ 151 jJ qd353:=cq (.run 7 [] <| .use jrm <| .run 1 [(.ck 0)] <| .run 3 [] <| .fin) [.eqA jhG jhG]
theorem jrC:PQ 114 jJ qd353:=cq (.run 7 [] <| .use jv0 <| .run 1 [(.ck 0)] <| .run 3 [] <| .fin) [.eqA jJ jJ]
theorem jrz:PQ 185 jp qd354:=cq (.run 20 [] <| .fin) []
theorem jwD:PQ 163 jkT qd354:=cq (.run 25 [] <| .use jrz <| .run 1 [(.ck 0)] <| .run 3 [] <| .fin) [.eqA jp jp]
theorem juJ:PQ 151 jp qd354:=cq (.run 7 [] <| .use jwD <| .run 1 [(.ck 0)] <| .run 3 [] <| .fin) [.eqA jkT jkT]
theorem juZ:PQ 114 jp qd354:=cq (.run 7 [] <| .use juJ <| .run 1 [(.ck 0)] <| .run 3 [] <| .fin) [.eqA jp jp]
theorem jub:PQ 185 jx qd343:=cq (.run 23 [] <| .fin) []
theorem juV:PQ 163 jjp qd343:=cq (.run 25 [] <| .use jub <| .run 1 [(.ck 0)] <| .run 3 [] <| .fin) [.eqA jx jx]
theorem jtN:PQ 151 jx qd343:=cq (.run 7 [] <| .use juV <| .run 1 [(.ck 0)] <| .run 3 [] <| .fin) [.eqA jjp jjp]
theorem jsE:PQ 114 jx qd343:=cq (.run 7 [] <| .use jtN <| .run 1 [(.ck 0)] <| .run 3 [] <| .fin) [.eqA jx jx]
theorem ju9:PQ 185 Jf qd355:=cq (.run 20 [] <| .fin) []
theorem jwy:PQ 163 jlh qd355:=cq (.run 25 [] <| .use ju9 <| .run 1 [(.ck 0)] <| .run 3 [] <| .fin) [.eqA Jf Jf]
theorem jrb:PQ 151 Jf qd355:=cq (.run 7 [] <| .use jwy <| .run 1 [(.ck 0)] <| .run 3 [] <| .fin) [.eqA jlh jlh]
theorem jtr:PQ 114 Jf qd355:=cq (.run 7 [] <| .use jrb <| .run 1 [(.ck 0)] <| .run 3 [] <| .fin) [.eqA Jf Jf]
theorem jvo:PQ 185 jt qd356:=cq (.run 20 [] <| .fin) []
theorem jtb:PQ 163 jjT qd356:=cq (.run 25 [] <| .use jvo <| .run 1 [(.ck 0)] <| .run 3 [] <| .fin) [.eqA jt jt]
theorem jsK:PQ 151 jt qd356:=cq (.run 7 [] <| .use jtb <| .run 1 [(.ck 0)] <| .run 3 [] <| .fin) [.eqA jjT jjT]
theorem jt7:PQ 114 jt qd356:=cq (.run 7 [] <| .use jsK <| .run 1 [(.ck 0)] <| .run 3 [] <| .fin) [.eqA jt jt]
theorem jvX:PQ 185 jh qd357:=cq (.run 20 [] <| .fin) []
theorem jv4:PQ 163 jiJ qd357:=cq (.run 25 [] <| .use jvX <| .run 1 [(.ck 0)] <| .run 3 [] <| .fin) [.eqA jh jh]
theorem jvA:PQ 151 jh qd357:=cq (.run 7 [] <| .use jv4 <| .run 1 [(.ck 0)] <| .run 3 [] <| .fin) [.eqA jiJ jiJ]
theorem juH:PQ 114 jh qd357:=cq (.run 7 [] <| .use jvA <| .run 1 [(.ck 0)] <| .run 3 [] <| .fin) [.eqA jh jh]
noncomputable def jho:CT cfz:=.run 36 [] <| .use jrC <| .run 1 [(.ck 0)] <| .run 1 [] <| .run 1 [.mg] <| .run 27 [] <| .use juZ <| .run 1 [(.ck 1)] <| .run 1 [] <| .run 1 [.mg] <| .run 27 [] <| .use jsE <| .run 1 [(.ck 2)] <| .run 1 [] <| .run 1 [.mg] <| .run 27 [] <| .use jtr <| .run 1 [(.ck 3)] <| .run 1 [] <| .run 1 [.mg] <| .run 27 [] <| .use jt7 <| .run 1 [(.ck 4)] <| .run 1 [] <| .run 1 [.mg] <| .run 27 [] <| .use juH <| .run 1 [(.ck 5)] <| .run 1 [] <| .run 1 [.mg] <| .run 21 [] <|  .fin
theorem jpN:Jn cfz 8 113 jho [] (ent cfz 113 jir)=some (qd46,[.eqA jJ jJ,.eqA jp jp,.eqA jx jx,.eqA Jf Jf,.eqA jt jt,.eqA jh jh]):=by kernel_rfl
theorem jrW:PQ 113 jir qd46:=jC jP (by kernel_rfl) ((jK cfz 8 113 jho [] (ent cfz 113 jir)).symm.trans jpN) ⟨rfl,rfl,rfl,rfl,rfl,rfl,trivial⟩
theorem jwK:PQ 74 Kf qd102:=cq (.run 11 [] <| .use jkP <| .run 1 [(.ck 0)] <| .run 24 [] <| .use jrW <| .run 1 [(.ck 1)] <| .run 1 [] <| .use join <| .run 1 [(.ck 2)] <| .run 5 [] <| .fin) [.eqA Kf Kf,.eqA jir jir,.eqA jvN jvN]
theorem jrO:PQ 86 jaB qd319:=cq (.run 20 [] <| .fin) []
theorem jty:PQ 20 Kf qd195:=cq (.run 11 [] <| .use jkP <| .run 1 [(.ck 0)] <| .run 14 [] <| .use jcm <| .run 1 [(.ck 1)] <| .run 10 [] <| .use jrO <| .run 1 [(.ck 2)] <| .run 4 [] <| .fin) [.eqA Kf Kf,.eqA Kf Kf,.eqA jaB jaB]
theorem jsp:PQ 29 zU (aI 0):=cq (.run 7 [] <| .use dd5 <| .use dd6 <| .use jot <| .use dd4 <| .run 1 [.none,(.ck 0),.none,(.ck 1),(.ck 2),(.ck 3)] <| .run 1 [] <| .fin) [.eqA J1 J1,.eqA JN JN,.eqA YM YM,.eqA jS jS]
theorem juT:PQ 18 zU qd281:=cq (.run 11 [] <| .use jsp <| .run 1 [(.ck 0)] <| .run 13 [] <| .use jr2 <| .run 1 [(.ck 1)] <| .run 4 [] <| .fin) [.eqA zU zU,.eqA zU zU]
theorem jq4:PQ 126 jhB qd302:=cq (.run 36 [] <| .use yB <| .run 1 [(.ck 0)] <| .run 1 [] <| .run 1 [.mg] <| .run 27 [] <| .use jcv <| .run 1 [(.ck 1)] <| .run 1 [] <| .run 1 [.mg] <| .run 21 [] <| .fin) [.eqA jt jt,.eqA jp jp]
theorem jvV:PQ 84 QW (aI 0):=cq (.run 7 [] <| .use jq4 <| .run 1 [(.ck 0)] <| .use zT <| .run 1 [(.ck 1)] <| .run 3 [] <| .fin) [.eqA jhB jhB,.eqA jX jX]
theorem jtU:PQ 105 QW (aI 0):=cq (.run 9 [] <| .use YP <| .run 1 [(.ck 0)] <| .run 1 [] <| .use jvV <| .run 1 [(.ck 1)] <| .run 1 [] <| .use zT <| .run 1 [(.ck 2)] <| .run 3 [] <| .fin) [.eqA JO JO,.eqA QW QW,.eqA jX jX]
theorem jr6:PQ 91 jg8 (aI 0):=cq (.run 14 [] <| .use dd0 <| .run 1 [(.ck 0)] <| .run 3 [] <| .fin) [.eqA jW jW]
theorem jtX:PQ 86 QW qd321:=cq (.run 20 [] <| .fin) []
theorem jrT:PQ 60 jiw qd97:=cq (.run 9 [] <| .use jtU <| .run 1 [(.ck 0)] <| .run 1 [] <| .use jr6 <| .run 1 [(.ck 1)] <| .run 3 [] <| .use YP <| .run 1 [(.ck 2)] <| .run 1 [] <| .use dd4 <| .run 1 [(.ck 3)] <| .run 33 [] <| .use jtX <| .run 1 [(.ck 4)] <| .run 22 [] <| .run 1 [(.ck 4)] <| .run 24 [] <| .fin) [.eqA QW QW,.eqA jg8 jg8,.eqA JO JO,.eqA jS jS,.eqA QW QW,.eqA QW QW]
theorem jts:PQ 199 G3 (.d (.v (.bool false))):=cq (.run 12 [] <| .fin) []
theorem jtz:PQ 212 G3 (.d (.v (.float .f64 4607182418800017408))):=cq (.run 7 [] <| .run 1 [(.ext (.int .u64 4607182418800017408))] <| .run 1 [] <| .run 1 [(.ext (.float .f64 4607182418800017408))] <| .run 3 [] <| .fin) [(.prop (∀ (w:World),Sem.run cfz.P (callFunc 220 #[Value.float FloatKind.f64 4607182418800017408]) w=Result.ok (Next.value (Value.int IntKind.u64 4607182418800017408)) w)),(.prop (∀ (w:World),Sem.run cfz.P (callFunc 219 #[Value.int IntKind.u64 4607182418800017408]) w=Result.ok (Next.value (Value.float FloatKind.f64 4607182418800017408)) w))] (hp:=⟨(fun w=>j8 (by kernel_rfl) w),⟨(fun w=>j8 (by kernel_rfl) w),trivial⟩⟩)
theorem jrP:PQ 200 jli (.d (.v (.bool false))):=cq (.run 13 [] <| .use jtz <| .run 1 [(.ck 0)] <| .run 9 [] <| .fin) [.eqA G3 G3]
theorem jr7:PQ 181 z7 (.d (.v (.bool false))):=cq (.run 8 [] <| .use jts <| .run 1 [(.ck 0)] <| .run 3 [] <| .use jrP <| .run 1 [(.br false),(.ck 1)] <| .run 4 [] <| .fin) [.eqA G3 G3,.eqA jli jli]
theorem joa:PQ 180 YG (aI 0):=cq (.run 16 [] <| .fin) []
theorem jtT:PQ 201 jg6 (.d (.v (.float .f64 4625196817309499392))):=cq (.run 9 [] <| .run 1 [(.ext (.float .f64 4625196817309499392))] <| .run 3 [] <| .fin) [(.prop (∀ (w:World),Sem.run cfz.P (callFunc 213 #[Value.float FloatKind.f64 4625196817309499392]) w=Result.ok (Next.value (Value.float FloatKind.f64 4625196817309499392)) w))] (hp:=⟨(fun w=>j8 (by kernel_rfl) w),trivial⟩)
theorem joh:PQ 180 jW (aI 0):=cq (.run 16 [] <| .fin) []
theorem juz:PQ 182 jkH (aI 0):=cq (.run 19 [] <| .use jtT <| .run 1 [(.br false),(.ck 0)] <| .run 5 [] <| .use joh <| .run 1 [(.ck 1)] <| .run 3 [] <| .fin) [.eqA jg6 jg6,.eqA jW jW]
theorem jn5:PQ 179 jX (aI 0):=cq (.run 81 [] <| .fin) []
theorem jlg:PQ 160 z7 (aI 0):=cq (.run 7 [] <| .use jr7 <| .run 1 [(.ck 0)] <| .use joa <| .run 1 [(.ck 1)] <| .run 1 [] <| .use juz <| .run 1 [(.ck 2)] <| .run 1 [] <| .use jn5 <| .run 1 [(.ck 3)] <| .run 3 [] <| .fin) [.eqA z7 z7,.eqA YG YG,.eqA jkH jkH,.eqA jX jX]
theorem jwr:PQ 139 jjv (aI 0):=cq (.run 7 [] <| .use dd8 <| .use jlg <| .use dd0 <| .use dd4 <| .run 1 [.none,(.ck 0),.none,(.ck 1),.none,(.ck 2),(.ck 3)] <| .run 1 [] <| .fin) [.eqA jx jx,.eqA z7 z7,.eqA jW jW,.eqA jS jS]
theorem jwJ:PQ 139 jhE (aI 0):=cq (.run 7 [] <| .use jeA <| .use jlg <| .use dd0 <| .use dd4 <| .run 1 [.none,(.ck 0),.none,(.ck 1),.none,(.ck 2),(.ck 3)] <| .run 1 [] <| .fin) [.eqA Jf Jf,.eqA z7 z7,.eqA jW jW,.eqA jS jS]
theorem jtJ:PQ 139 jh5 (aI 0):=cq (.run 7 [] <| .use yB <| .use jlg <| .use dd0 <| .use dd4 <| .run 1 [.none,(.ck 0),.none,(.ck 1),.none,(.ck 2),(.ck 3)] <| .run 1 [] <| .fin) [.eqA jt jt,.eqA z7 z7,.eqA jW jW,.eqA jS jS]
theorem jtQ:PQ 199 jaD (.d (.v (.bool false))):=cq (.run 12 [] <| .fin) []
theorem jui:PQ 212 jaD (.d (.v (.float .f64 4602678819172646912))):=cq (.run 7 [] <| .run 1 [(.ext (.int .u64 4602678819172646912))] <| .run 1 [] <| .run 1 [(.ext (.float .f64 4602678819172646912))] <| .run 3 [] <| .fin) [(.prop (∀ (w:World),Sem.run cfz.P (callFunc 220 #[Value.float FloatKind.f64 4602678819172646912]) w=Result.ok (Next.value (Value.int IntKind.u64 4602678819172646912)) w)),(.prop (∀ (w:World),Sem.run cfz.P (callFunc 219 #[Value.int IntKind.u64 4602678819172646912]) w=Result.ok (Next.value (Value.float FloatKind.f64 4602678819172646912)) w))] (hp:=⟨(fun w=>j8 (by kernel_rfl) w),⟨(fun w=>j8 (by kernel_rfl) w),trivial⟩⟩)
theorem jtI:PQ 200 jkA (.d (.v (.bool false))):=cq (.run 13 [] <| .use jui <| .run 1 [(.ck 0)] <| .run 9 [] <| .fin) [.eqA jaD jaD]
theorem jtf:PQ 181 Z1 (.d (.v (.bool false))):=cq (.run 8 [] <| .use jtQ <| .run 1 [(.ck 0)] <| .run 3 [] <| .use jtI <| .run 1 [(.br false),(.ck 1)] <| .run 4 [] <| .fin) [.eqA jaD jaD,.eqA jkA jkA]
theorem js5:PQ 201 jhU (.d (.v (.float .f64 4620693217682128896))):=cq (.run 9 [] <| .run 1 [(.ext (.float .f64 4620693217682128896))] <| .run 3 [] <| .fin) [(.prop (∀ (w:World),Sem.run cfz.P (callFunc 213 #[Value.float FloatKind.f64 4620693217682128896]) w=Result.ok (Next.value (Value.float FloatKind.f64 4620693217682128896)) w))] (hp:=⟨(fun w=>j8 (by kernel_rfl) w),trivial⟩)
theorem jsl:PQ 182 jjR (aI 0):=cq (.run 19 [] <| .use js5 <| .run 1 [(.br false),(.ck 0)] <| .run 5 [] <| .use joh <| .run 1 [(.ck 1)] <| .run 3 [] <| .fin) [.eqA jhU jhU,.eqA jW jW]
theorem jrd:PQ 160 Z1 (aI 0):=cq (.run 7 [] <| .use jtf <| .run 1 [(.ck 0)] <| .use joa <| .run 1 [(.ck 1)] <| .run 1 [] <| .use jsl <| .run 1 [(.ck 2)] <| .run 1 [] <| .use jn5 <| .run 1 [(.ck 3)] <| .run 3 [] <| .fin) [.eqA Z1 Z1,.eqA YG YG,.eqA jjR jjR,.eqA jX jX]
theorem juR:PQ 139 jku (aI 0):=cq (.run 7 [] <| .use jpb <| .use jrd <| .use dd0 <| .use dd4 <| .run 1 [.none,(.ck 0),.none,(.ck 1),.none,(.ck 2),(.ck 3)] <| .run 1 [] <| .fin) [.eqA Kt Kt,.eqA Z1 Z1,.eqA jW jW,.eqA jS jS]
theorem jt2:PQ 138 jqQ qd183:=cq (.run 37 [] <| .use jwr <| .run 1 [(.ck 0)] <| .run 1 [] <| .run 1 [.mg] <| .run 28 [] <| .use jwJ <| .run 1 [(.ck 1)] <| .run 1 [] <| .run 1 [.mg] <| .run 28 [] <| .use jtJ <| .run 1 [(.ck 2)] <| .run 1 [] <| .run 1 [.mg] <| .run 28 [] <| .use juR <| .run 1 [(.ck 3)] <| .run 1 [] <| .run 1 [.mg] <| .run 21 [] <| .fin) [.eqA jjv jjv,.eqA jhE jhE,.eqA jh5 jh5,.eqA jku jku]
theorem jtL:PQ 98 jeE (aI 0):=cq (.run 7 [] <| .use dd5 <| .use dd6 <| .use jt2 <| .use jeF <| .use dd4 <| .run 1 [.none,(.ck 0),.none,(.ck 1),(.ck 2),(.ck 3),(.ck 4)] <| .run 1 [] <| .fin) [.eqA J1 J1,.eqA JN JN,.eqA jqQ jqQ,.eqA KZ KZ,.eqA jS jS]
theorem jto:PQ 140 Z1 (aI 8):=cq (.run 12 [] <| .fin) []
theorem jsn:PQ 99 jqg (aI 8):=cq (.run 130 [] <| .use jto <| .run 1 [(.ck 0)] <| .run 22 [] <| .fin) [.eqA Z1 Z1]
theorem jvc:PQ 37 qd4 qd280:=cq (.run 9 [] <| .use jtL <| .use jkP <| .use zT <| .run 1 [.none,(.ck 0),.none,(.ck 1),(.ck 2)] <| .run 12 [] <| .use jcm <| .run 1 [(.ck 3)] <| .run 8 [] <| .use jsn <| .run 1 [(.ck 4)] <| .run 4 [] <| .fin) [.eqA jeE jeE,.eqA Kf Kf,.eqA jX jX,.eqA Kf Kf,.eqA jqg jqg]
theorem juG:PQ 30 jpq (.d (.v (.bool true))):=cq (.run 181 [] <| .fin) []
noncomputable def jic:CT cfz:=.run 307 [] <|  .fin
theorem jo9:Jn cfz 8 50 jic [] (ent cfz 50 jkL)=some ((.d (.v (.bool true))),[]):=by kernel_rfl
theorem jru:PQ 50 jkL (.d (.v (.bool true))):=jC jP (by kernel_rfl) ((jK cfz 8 50 jic [] (ent cfz 50 jkL)).symm.trans jo9) trivial
theorem juL:PQ 30 jqD (.d (.v (.bool true))):=cq (.run 109 [] <| .fin) []
theorem jv8:PQ 30 jh4 (.d (.v (.bool true))):=cq (.run 61 [] <| .fin) []
theorem jq5:PQ 30 jhc (.d (.v (.bool true))):=cq (.run 85 [] <| .fin) []
theorem jt8:PQ 69 jhf (.d (.v (.bool true))):=cq (.run 14 [] <| .fin) []
theorem jvk:PQ 30 jiM (.d (.v (.bool true))):=cq (.run 85 [] <| .fin) []
noncomputable def jhn:CT cfz:=.run 259 [] <|  .fin
theorem jpP:Jn cfz 8 50 jhn [] (ent cfz 50 jlJ)=some ((.d (.v (.bool true))),[]):=by kernel_rfl
theorem jwn:PQ 50 jlJ (.d (.v (.bool true))):=jC jP (by kernel_rfl) ((jK cfz 8 50 jhn [] (ent cfz 50 jlJ)).symm.trans jpP) trivial
noncomputable def jkl:CT cfz:=.run 6 [] <| .use aw0 <| .run 1 [(.ck 0)] <| .run 1 [] <| .use jyp <| .run 1 [(.ck 1)] <| .run 8 [] <| .run 1 [(.ck 0)] <| .run 1 [] <| .use jzI <| .run 1 [(.ck 2)] <| .run 8 [] <| .run 1 [(.ck 0)] <| .run 1 [] <| .use jy7 <| .run 1 [(.ck 3)] <| .run 8 [] <| .run 1 [(.ck 0)] <| .run 1 [] <| .use jyt <| .run 1 [(.ck 4)] <| .run 10 [] <| .use jq3 <| .run 1 [(.ck 5)] <| .run 8 [] <| .run 1 [(.ck 0)] <| .run 1 [] <| .run 1 [(.call jvZ qd70)] <| .run 10 [] <| .run 1 [(.ck 0)] <| .run 1 [] <| .run 1 [(.call jm2 qd272)] <| .run 10 [] <| .run 1 [(.ck 0)] <| .run 2 [] <| .use jzo <| .run 1 [(.ck 6)] <| .run 19 [] <| .run 1 [(.ck 0)] <| .run 1 [] <| .use jxO <| .run 1 [(.ck 7)] <| .run 34 [] <| .use jq8 <| .run 1 [(.br false),(.ck 8)] <| .run 5 [] <| .use jtl <| .run 1 [(.br false),(.ck 9)] <| .run 5 [] <| .use juP <| .run 1 [(.br false),(.ck 10)] <| .run 5 [] <| .use jus <| .run 1 [(.br false),(.ck 11)] <| .run 9 [] <| .run 1 [(.br false),(.ck 10)] <| .run 5 [] <| .use jvM <| .run 1 [(.br false),(.ck 12)] <| .run 5 [] <| .run 1 [(.br false),(.ck 10)] <| .run 5 [] <| .use jsL <| .run 1 [(.br false),(.ck 13)] <| .run 5 [] <| .run 1 [(.br false),(.ck 10)] <| .run 14 [] <| .use jwS <| .run 1 [(.ck 14)] <| .run 9 [] <| .use jwi <| .run 1 [(.ck 15)] <| .run 8 [] <| .use jti <| .run 1 [(.ck 16)] <| .run 8 [] <| .run 1 [(.ck 0)] <| .use jvI <| .run 1 [(.ck 17)] <| .run 8 [] <| .run 1 [(.ck 0)] <| .use js0 <| .run 1 [(.ck 18)] <| .run 8 [] <| .run 1 [(.ck 0)] <| .use jwd <| .run 1 [(.ck 19)] <| .run 12 [] <| .use jul <| .run 1 [(.ck 20)] <| .run 11 [] <| .use jtW <| .run 1 [(.ck 21)] <| .run 9 [] <| .use jtP <| .run 1 [(.ck 22)] <| .run 8 [] <| .run 1 [(.ck 0)] <| .run 1 [] <| .use jwK <| .run 1 [(.ck 23)] <| .run 8 [] <| .run 1 [(.ck 0)] <| .run 1 [] <| .use jty <| .run 1 [(.ck 24)] <| .run 8 [] <| .run 1 [(.ck 0)] <| .run 1 [] <| .use jy4 <| .run 1 [(.ck 25)] <| .run 8 [] <| .run 1 [(.ck 0)] <| .run 1 [] <| .use juT <| .run 1 [(.ck 26)] <| .run 9 [] <| .use jrT <| .run 1 [(.ck 27)] <| .run 8 [] <| .run 1 [(.ck 0)] <| .run 2 [] <| .use jvc <| .run 1 [(.ck 28)] <| .run 41 [] <| .use juG <| .run 1 [(.br true),(.ck 29)] <| .run 6 [] <| .use jru <| .run 1 [(.br true),(.ck 30)] <| .run 18 [] <| .use juL <| .run 1 [(.br true),(.ck 31)] <| .run 4 [] <| .use jv8 <| .run 1 [(.br true),(.ck 32)] <| .run 4 [] <| .use jq5 <| .run 1 [(.br true),(.ck 33)] <| .run 4 [] <| .use jt8 <| .run 1 [(.br true),(.ck 34)] <| .run 8 [] <| .use jvk <| .run 1 [(.br true),(.ck 35)] <| .run 13 [] <| .use jwn <| .run 1 [(.br true),(.ck 36)] <| .run 8 [] <|  .fin
theorem jqH:Jn cfz 8 15 jkl [] (ent cfz 15 [])=some ((.d (.v (.bool true))),[.eqA [] [],.eqA gQ gQ,.eqA [] [],.eqA Y5 Y5,.eqA [] [],.eqA Yx Yx,.eqA [] [],.eqA YJ YJ,.eqA jgk jgk,.eqA [] [],(.prop ([AV.agg [AV.d (Z3 (vI 4)),AV.d (Z3 (vI 2))],AV.d (DV.sl 4 [vI 10,vI 5,vI 1,vI 7]),AV.d (DV.v (Value.slice none 0 0))]=[AV.agg [AV.d (vI 4),AV.d (vI 2)],AV.d (DV.sl 4 [vI 10,vI 5,vI 1,vI 7]),AV.d (DV.v (Value.slice none 0 0))])),(.prop (PQ 31 [AV.agg [AV.d (vI 4),AV.d (vI 2)],AV.d (DV.sl 4 [vI 10,vI 5,vI 1,vI 7]),AV.d (DV.v (Value.slice none 0 0))] (AV.tup [AV.d (DV.sl 4 [vI 10,vI 5,vI 1,vI 0]),AV.d (DV.sl 1 [vI 3]),AV.d (vI 0)]))),.eqA [] [],(.prop ([AV.agg [AV.d (Z3 (vI 4)),AV.d (Z3 (vI 2))],AV.d (DV.sl 4 [vI 10,vI 6,vI 1,vI 7]),AV.d (DV.v (Value.slice none 0 0))]=[AV.agg [AV.d (vI 4),AV.d (vI 2)],AV.d (DV.sl 4 [vI 10,vI 6,vI 1,vI 7]),AV.d (DV.v (Value.slice none 0 0))])),(.prop (PQ 31 [AV.agg [AV.d (vI 4),AV.d (vI 2)],AV.d (DV.sl 4 [vI 10,vI 6,vI 1,vI 7]),AV.d (DV.v (Value.slice none 0 0))] (AV.tup [AV.d (DV.sl 0 []),AV.d (DV.sl 0 []),AV.d (vI 27)]))),.eqA [] [],.eqA GS GS,.eqA [] [],.eqA jeE jeE,.eqA jhy jhy,.eqA jlz jlz,.eqA jbj jbj,.eqA jqF jqF,.eqA jbj jbj,.eqA jjL jjL,.eqA jbj jbj,.eqA jjK jjK,.eqA jbj jbj,.eqA jjM jjM,.eqA jin jin,.eqA jaK jaK,.eqA [] [],.eqA jhJ jhJ,.eqA [] [],.eqA jiA jiA,.eqA [] [],.eqA jjS jjS,.eqA jkm jkm,.eqA jio jio,.eqA yk yk,.eqA [] [],.eqA Kf Kf,.eqA [] [],.eqA Kf Kf,.eqA [] [],.eqA jeE jeE,.eqA [] [],.eqA zU zU,.eqA jiw jiw,.eqA [] [],.eqA qd4 qd4,.eqA jpq jpq,.eqA jkL jkL,.eqA jqD jqD,.eqA jh4 jh4,.eqA jhc jhc,.eqA jhf jhf,.eqA jiM jiM,.eqA jlJ jlJ]):=by kernel_rfl
theorem juD:PQ 15 [] (.d (.v (.bool true))):=jC jP (by kernel_rfl) ((jK cfz 8 15 jkl [] (ent cfz 15 [])).symm.trans jqH) ⟨rfl,⟨rfl,⟨rfl,⟨rfl,⟨rfl,⟨rfl,⟨rfl,⟨rfl,⟨rfl,⟨rfl,⟨rfl,⟨jtm,⟨rfl,⟨rfl,⟨jtO,⟨rfl,rfl,rfl,rfl,rfl,rfl,rfl,rfl,rfl,rfl,rfl,rfl,rfl,rfl,rfl,rfl,rfl,rfl,rfl,rfl,rfl,rfl,rfl,rfl,rfl,rfl,rfl,rfl,rfl,rfl,rfl,rfl,rfl,rfl,rfl,rfl,rfl,rfl,rfl,rfl,rfl,rfl,rfl,rfl,trivial⟩⟩⟩⟩⟩⟩⟩⟩⟩⟩⟩⟩⟩⟩⟩⟩
noncomputable def F15:Option (Bool):=some true
theorem QV:F15=some true:=rfl
def jr5 (v:Bool):AV:=(.d (.v (.bool v)))
theorem f15 (v:Bool) (h:F15=some v):PQ 15 [] (jr5 v):=by
  cases (Option.some.inj h)
  exact juD
end Go.Kv
