import Derived.Test.YtdelimpnnpifpaaGreatDoorKvWs
import Derived.Test.YtdelimpnnpifpaaGreatDoorKvW
import Derived.Test.YtdelimpnnpifpaaGreatDoorKdB
import Derived.Test.YtdelimpnnpifpaaGreatDoorKdC
import Derived.Test.YtdelimpnnpifpaaGreatDoorKaC
set_option linter.all false
namespace Go.Kv
open Go Go.RowKit Go.Proofs
set_option maxRecDepth 100000
theorem aw0:PQ 79 [] qd274:=cq (.run 10 [] <| .fin) []
theorem aw8:PQ 91 jiE (aI 0):=cq (.run 14 [] <| .use dd0 <| .run 1 [(.ck 0)] <| .run 3 [] <| .fin) [.eqA jQ jQ]
theorem aw9:PQ 127 ja (aI 0):=cq (.run 7 [] <| .use aw8 <| .run 1 [(.ck 0)] <| .run 3 [] <| .fin) [.eqA jiE jiE]
theorem jyX:PQ 126 jjF qd183:=cq (.run 36 [] <| .use aw9 <| .run 1 [(.ck 0)] <| .run 1 [] <| .run 1 [.mg] <| .run 27 [] <| .run 1 [(.ck 0)] <| .run 1 [] <| .run 1 [.mg] <| .run 27 [] <| .use ZK <| .run 1 [(.ck 1)] <| .run 1 [] <| .run 1 [.mg] <| .run 27 [] <| .run 1 [(.ck 0)] <| .run 1 [] <| .run 1 [.mg] <| .run 21 [] <| .fin) [.eqA ja ja,.eqA ja ja,.eqA jo jo,.eqA ja ja]
theorem jxB:PQ 84 jk7 (aI 0):=cq (.run 7 [] <| .use jyX <| .run 1 [(.ck 0)] <| .use jd4 <| .run 1 [(.ck 1)] <| .run 3 [] <| .fin) [.eqA jjF jjF,.eqA KR KR]
theorem jzg:PQ 29 gB (aI 0):=cq (.run 7 [] <| .use dd5 <| .use dd6 <| .use jxB <| .use dd4 <| .run 1 [.none,(.ck 0),.none,(.ck 1),(.ck 2),(.ck 3)] <| .run 1 [] <| .fin) [.eqA JS JS,.eqA JC JC,.eqA jk7 jk7,.eqA jM jM]
noncomputable def jnP:CT cfz:=.run 61 [] <| .use kU <| .use yd <| .run 1 [.none,(.ck 0),(.ck 1),.none] <| .run 24 [] <| .use kT <| .run 1 [.none,(.ck 2),(.ck 1),.none] <| .run 24 [] <| .use kI <| .use jle <| .run 1 [.none,(.ck 3),(.ck 4),.none] <| .run 24 [] <| .use Kj <| .run 1 [.none,(.ck 5),(.ck 4),.none] <| .run 59 [] <| .run 1 [.none,(.ck 0),(.ck 1),.none] <| .run 24 [] <| .run 1 [.none,(.ck 3),(.ck 1),.none] <| .run 24 [] <| .use Kk <| .use jjS <| .run 1 [.none,(.ck 6),(.ck 7),.none] <| .run 24 [] <| .use Ki <| .run 1 [.none,(.ck 8),(.ck 7),.none] <| .run 32 [] <|  .fin
theorem jsq:Jj cfz 8 80 jnP [] (ent cfz 80 gB)=some (qd301,[.eqA ja ja,.eqA ja ja,.eqA jo jo,.eqA ja ja,.eqA jl jl,.eqA Ks Ks,.eqA jE jE,.eqA Ks Ks,.eqA ja ja,.eqA ja ja,.eqA jl jl,.eqA ja ja,.eqA jD jD,.eqA Kh Kh,.eqA jB jB,.eqA Kh Kh]):=by kernel_rfl
theorem jxE:PQ 80 gB qd301:=jA jJ (by kernel_rfl) ((jF cfz 8 80 jnP [] (ent cfz 80 gB)).symm.trans jsq) ⟨rfl,rfl,rfl,rfl,rfl,rfl,rfl,rfl,rfl,rfl,rfl,rfl,rfl,rfl,rfl,rfl,trivial⟩
theorem jxV:PQ 16 gB qd194:=cq (.run 11 [] <| .use jzg <| .run 1 [(.ck 0)] <| .run 13 [] <| .use jxE <| .run 1 [(.ck 1)] <| .run 4 [] <| .fin) [.eqA gB gB,.eqA gB gB]
theorem jwQ:PQ 126 jje qd183:=cq (.run 36 [] <| .use jex <| .run 1 [(.ck 0)] <| .run 1 [] <| .run 1 [.mg] <| .run 27 [] <| .run 1 [(.ck 0)] <| .run 1 [] <| .run 1 [.mg] <| .run 27 [] <| .use ZK <| .run 1 [(.ck 1)] <| .run 1 [] <| .run 1 [.mg] <| .run 27 [] <| .use aw9 <| .run 1 [(.ck 2)] <| .run 1 [] <| .run 1 [.mg] <| .run 21 [] <| .fin) [.eqA j9 j9,.eqA j9 j9,.eqA jo jo,.eqA ja ja]
theorem jwW:PQ 84 jjk (aI 0):=cq (.run 7 [] <| .use jwQ <| .run 1 [(.ck 0)] <| .use jd4 <| .run 1 [(.ck 1)] <| .run 3 [] <| .fin) [.eqA jje jje,.eqA KR KR]
theorem jxr:PQ 29 gD (aI 0):=cq (.run 7 [] <| .use dd5 <| .use dd6 <| .use jwW <| .use dd4 <| .run 1 [.none,(.ck 0),.none,(.ck 1),(.ck 2),(.ck 3)] <| .run 1 [] <| .fin) [.eqA JS JS,.eqA JC JC,.eqA jjk jjk,.eqA jM jM]
theorem jye:PQ 122 YS (aI 12):=cq (.run 13 [] <| .fin) []
theorem jy6:PQ 122 jkP (aI 16):=cq (.run 13 [] <| .fin) []
theorem jwX:PQ 122 jhu (aI 12):=cq (.run 13 [] <| .fin) []
noncomputable def jnN:CT cfz:=.run 61 [] <| .use kU <| .use jlL <| .run 1 [.none,(.ck 0),(.ck 1),.none] <| .run 24 [] <| .use kT <| .use jkn <| .run 1 [.none,(.ck 2),(.ck 3),.none] <| .run 24 [] <| .use kI <| .use jye <| .run 1 [.none,(.ck 4),(.ck 5),.none] <| .run 24 [] <| .use Kj <| .run 1 [.none,(.ck 6),(.ck 5),.none] <| .run 59 [] <| .run 1 [.none,(.ck 0),(.ck 1),.none] <| .run 24 [] <| .use jy6 <| .run 1 [.none,(.ck 4),(.ck 7),.none] <| .run 24 [] <| .use Kk <| .use jwX <| .run 1 [.none,(.ck 8),(.ck 9),.none] <| .run 24 [] <| .use Ki <| .run 1 [.none,(.ck 10),(.ck 5),.none] <| .run 32 [] <|  .fin
theorem jtr:Jj cfz 8 80 jnN [] (ent cfz 80 gD)=some (qd287,[.eqA ja ja,.eqA j9 j9,.eqA jo jo,.eqA QR QR,.eqA jl jl,.eqA YS YS,.eqA jE jE,.eqA YS YS,.eqA ja ja,.eqA j9 j9,.eqA jl jl,.eqA jkP jkP,.eqA jD jD,.eqA jhu jhu,.eqA jB jB,.eqA YS YS]):=by kernel_rfl
theorem jys:PQ 80 gD qd287:=jA jJ (by kernel_rfl) ((jF cfz 8 80 jnN [] (ent cfz 80 gD)).symm.trans jtr) ⟨rfl,rfl,rfl,rfl,rfl,rfl,rfl,rfl,rfl,rfl,rfl,rfl,rfl,rfl,rfl,rfl,trivial⟩
theorem jxU:PQ 16 gD qd191:=cq (.run 11 [] <| .use jxr <| .run 1 [(.ck 0)] <| .run 13 [] <| .use jys <| .run 1 [(.ck 1)] <| .run 4 [] <| .fin) [.eqA gD gD,.eqA gD gD]
theorem jyZ:PQ 126 jkT qd302:=cq (.run 36 [] <| .use ZK <| .run 1 [(.ck 0)] <| .run 1 [] <| .run 1 [.mg] <| .run 27 [] <| .use aw9 <| .run 1 [(.ck 1)] <| .run 1 [] <| .run 1 [.mg] <| .run 21 [] <| .fin) [.eqA jo jo,.eqA ja ja]
theorem jyT:PQ 84 jas (aI 0):=cq (.run 7 [] <| .use jyZ <| .run 1 [(.ck 0)] <| .use zz <| .run 1 [(.ck 1)] <| .run 3 [] <| .fin) [.eqA jkT jkT,.eqA jP jP]
theorem jyu:PQ 134 jiN (.d (.v (.bool true))):=cq (.run 14 [] <| .fin) []
theorem jyC:PQ 134 jjM (.d (.v (.bool true))):=cq (.run 14 [] <| .fin) []
noncomputable def jni:CT cfz:=.run 508 [] <|  .fin
theorem jsx:Jj cfz 8 146 jni [] (ent cfz 146 jk1)=some ((aI 15),[]):=by kernel_rfl
theorem jyA:PQ 146 jk1 (aI 15):=jA jJ (by kernel_rfl) ((jF cfz 8 146 jni [] (ent cfz 146 jk1)).symm.trans jsx) trivial
theorem jty:PQ 135 jB (aI 3):=cq (.run 8 [] <| .use jyA <| .run 1 [(.ck 0)] <| .run 1 [] <| .use kT <| .run 1 [(.ck 1)] <| .run 3 [] <| .fin) [.eqA jk1 jk1,.eqA jo jo]
theorem jyt:PQ 122 jhp (aI 5):=cq (.run 13 [] <| .fin) []
noncomputable def jnx:CT cfz:=.run 81 [] <| .run 1 [.none,.none,.none,.mg,.enter] <| .run 98 [] <| .run 1 [.enter] <| .run 61 [] <| .use kU <| .use yd <| .run 1 [.none,(.ck 0),(.ck 1),.none] <| .run 24 [] <| .use kT <| .run 1 [.none,(.ck 2),(.ck 1),.none] <| .run 24 [] <| .use kI <| .use jle <| .run 1 [.none,(.ck 3),(.ck 4),.none] <| .run 24 [] <| .use Kj <| .run 1 [.none,(.ck 5),(.ck 4),.none] <| .run 59 [] <| .run 1 [.none,(.ck 0),(.ck 1),.none] <| .run 24 [] <| .run 1 [.none,(.ck 3),(.ck 1),.none] <| .run 24 [] <| .use Kk <| .use jjS <| .run 1 [.none,(.ck 6),(.ck 7),.none] <| .run 24 [] <| .use Ki <| .run 1 [.none,(.ck 8),(.ck 7),.none] <| .run 60 [] <| .run 1 [.enter] <| .run 36 [] <| .use jmy <| .run 1 [(.ck 9)] <| .run 1 [] <| .run 1 [.mg] <| .run 27 [] <| .use jhv <| .run 1 [(.ck 10)] <| .run 1 [] <| .run 1 [.mg] <| .run 29 [] <| .use jjR <| .run 1 [(.ck 11)] <| .run 1 [] <| .run 1 [.mg] <| .run 1 [] <| .run 1 [.mg] <| .run 30 [] <| .run 1 [.enter] <| .run 36 [] <| .use jlF <| .run 1 [(.ck 12)] <| .run 1 [] <| .run 1 [.mg] <| .run 27 [] <| .use jhs <| .run 1 [(.ck 13)] <| .run 1 [] <| .run 1 [.mg] <| .run 29 [] <| .use jnb <| .run 1 [(.ck 14)] <| .run 1 [] <| .run 1 [.mg] <| .run 1 [] <| .run 1 [.mg] <| .run 48 [] <| .run 1 [.enter] <| .run 34 [] <| .use jyu <| .run 1 [(.ck 15)] <| .run 46 [] <| .use jms <| .run 1 [(.ck 16)] <| .run 34 [] <| .use jgg <| .run 1 [(.ck 17)] <| .run 32 [] <| .use jjO <| .run 1 [(.ck 18)] <| .run 32 [] <| .use jhQ <| .run 1 [(.ck 19)] <| .run 113 [] <| .run 1 [.none,.none,(.ck 1),.none] <| .run 21 [] <| .use jpT <| .run 1 [.none,.none,(.ck 20),.none] <| .run 21 [] <| .use joQ <| .run 1 [.none,.none,(.ck 21),.none] <| .run 62 [] <| .run 1 [.enter] <| .run 34 [] <| .use jyC <| .run 1 [(.ck 22)] <| .run 46 [] <| .use jty <| .run 1 [(.ck 23)] <| .run 34 [] <| .run 1 [(.ck 1)] <| .run 32 [] <| .use jdr <| .run 1 [(.ck 24)] <| .run 32 [] <| .use jyt <| .run 1 [(.ck 25)] <| .run 82 [] <| .run 1 [.none,.none,(.ck 17),.none] <| .run 21 [] <| .run 1 [.none,.none,(.ck 1),.none] <| .run 21 [] <| .use jnZ <| .run 1 [.none,.none,(.ck 26),.none] <| .run 171 [] <| .use jcM <| .run 1 [(.ck 27)] <| .run 5 [] <| .run 1 [] <| .run 6 [] <|  .fin
theorem jtx:Jj cfz 8 85 jnx [] (ent cfz 85 Yd)=some (qd180,[.eqA ja ja,.eqA ja ja,.eqA jo jo,.eqA ja ja,.eqA jl jl,.eqA Ks Ks,.eqA jE jE,.eqA Ks Ks,.eqA ja ja,.eqA ja ja,.eqA jl jl,.eqA ja ja,.eqA jD jD,.eqA Kh Kh,.eqA jB jB,.eqA Kh Kh,.eqA ZZ ZZ,.eqA Qy Qy,.eqA QP QP,.eqA Z2 Z2,.eqA Qt Qt,.eqA jcF jcF,.eqA jiN jiN,.eqA jo jo,.eqA jo jo,.eqA jE jE,.eqA qr qr,.eqA ja ja,.eqA jB jB,.eqA gA gA,.eqA jjM jjM,.eqA jB jB,.eqA ja ja,.eqA kE kE,.eqA jhp jhp,.eqA jo jo,.eqA ja ja,.eqA jcg jcg,.eqA kV kV]):=by kernel_rfl
theorem jwC:PQ 85 Yd qd180:=jA jJ (by kernel_rfl) ((jF cfz 8 85 jnx [] (ent cfz 85 Yd)).symm.trans jtx) ⟨rfl,rfl,rfl,rfl,rfl,rfl,rfl,rfl,rfl,rfl,rfl,rfl,rfl,rfl,rfl,rfl,rfl,rfl,rfl,rfl,rfl,rfl,rfl,rfl,rfl,rfl,rfl,rfl,rfl,rfl,rfl,rfl,rfl,rfl,rfl,rfl,rfl,rfl,rfl,trivial⟩
theorem jzi:PQ 19 Yd qd119:=cq (.run 9 [] <| .use dd5 <| .use dd6 <| .use jyT <| .use dd4 <| .run 1 [.none,(.ck 0),.none,.none,(.ck 1),(.ck 2),(.ck 3)] <| .run 11 [] <| .use jwC <| .run 1 [(.ck 4)] <| .run 4 [] <| .fin) [.eqA JS JS,.eqA JC JC,.eqA jas jas,.eqA jM jM,.eqA Yd Yd]
theorem jw5:PQ 126 jiO qd302:=cq (.run 36 [] <| .use aw9 <| .run 1 [(.ck 0)] <| .run 1 [] <| .run 1 [.mg] <| .run 27 [] <| .use ZK <| .run 1 [(.ck 1)] <| .run 1 [] <| .run 1 [.mg] <| .run 21 [] <| .fin) [.eqA ja ja,.eqA jo jo]
theorem jwF:PQ 84 jh2 (aI 0):=cq (.run 7 [] <| .use jw5 <| .run 1 [(.ck 0)] <| .use zz <| .run 1 [(.ck 1)] <| .run 3 [] <| .fin) [.eqA jiO jiO,.eqA jP jP]
theorem jyD:PQ 122 jhM (aI 2):=cq (.run 13 [] <| .fin) []
theorem jyS:PQ 134 jix (.d (.v (.bool true))):=cq (.run 14 [] <| .fin) []
theorem jua:PQ 122 Km (aI 7):=cq (.run 13 [] <| .fin) []
theorem jxF:PQ 134 jhg (.d (.v (.bool true))):=cq (.run 14 [] <| .fin) []
theorem jxX:PQ 122 jg6 (aI 2):=cq (.run 13 [] <| .fin) []
noncomputable def jng:CT cfz:=.run 61 [] <| .use kU <| .use jgg <| .run 1 [.none,(.ck 0),(.ck 1),.none] <| .run 24 [] <| .use kT <| .use jua <| .run 1 [.none,(.ck 2),(.ck 3),.none] <| .run 24 [] <| .use kI <| .run 1 [.none,(.ck 4),(.ck 3),.none] <| .run 24 [] <| .use Kj <| .use jlj <| .run 1 [.none,(.ck 5),(.ck 6),.none] <| .run 59 [] <| .run 1 [.none,(.ck 0),(.ck 1),.none] <| .run 24 [] <| .use jlZ <| .run 1 [.none,(.ck 4),(.ck 7),.none] <| .run 24 [] <| .use Kk <| .use juv <| .run 1 [.none,(.ck 8),(.ck 9),.none] <| .run 24 [] <| .use Ki <| .run 1 [.none,(.ck 10),(.ck 6),.none] <| .run 32 [] <|  .fin
theorem jwf:Jj cfz 8 80 jng [] (ent cfz 80 zC)=some (qd302,[.eqA ja ja,.eqA jo jo,.eqA jo jo,.eqA Km Km,.eqA jl jl,.eqA Km Km,.eqA jE jE,.eqA kg kg,.eqA ja ja,.eqA jo jo,.eqA jl jl,.eqA ZL ZL,.eqA jD jD,.eqA jl jl,.eqA jB jB,.eqA kg kg]):=by kernel_rfl
theorem jxJ:PQ 80 zC qd302:=jA jJ (by kernel_rfl) ((jF cfz 8 80 jng [] (ent cfz 80 zC)).symm.trans jwf) ⟨rfl,rfl,rfl,rfl,rfl,rfl,rfl,rfl,rfl,rfl,rfl,rfl,rfl,rfl,rfl,rfl,trivial⟩
theorem jrf:PQ 81 zC (.d (.v (.bool true))):=cq (.run 9 [] <| .use jxJ <| .run 1 [(.ck 0)] <| .use jnB <| .run 1 [(.ck 1)] <| .run 4 [] <| .fin) [.eqA zC zC,.eqA y6 y6]
noncomputable def jnM:CT cfz:=.run 81 [] <| .run 1 [.none,.none,.none,.mg,.enter] <| .run 98 [] <| .run 1 [.enter] <| .run 61 [] <| .use kU <| .use yd <| .run 1 [.none,(.ck 0),(.ck 1),.none] <| .run 24 [] <| .use kT <| .run 1 [.none,(.ck 2),(.ck 1),.none] <| .run 24 [] <| .use kI <| .run 1 [.none,(.ck 3),(.ck 1),.none] <| .run 24 [] <| .use Kj <| .use Qq <| .run 1 [.none,(.ck 4),(.ck 5),.none] <| .run 59 [] <| .run 1 [.none,(.ck 0),(.ck 1),.none] <| .run 24 [] <| .run 1 [.none,(.ck 3),(.ck 1),.none] <| .run 24 [] <| .use Kk <| .run 1 [.none,(.ck 6),(.ck 1),.none] <| .run 24 [] <| .use Ki <| .use jkW <| .run 1 [.none,(.ck 7),(.ck 8),.none] <| .run 60 [] <| .run 1 [.enter] <| .run 36 [] <| .use jmy <| .run 1 [(.ck 9)] <| .run 1 [] <| .run 1 [.mg] <| .run 27 [] <| .use jhv <| .run 1 [(.ck 10)] <| .run 1 [] <| .run 1 [.mg] <| .run 29 [] <| .use jqe <| .run 1 [(.ck 11)] <| .run 1 [] <| .run 1 [.mg] <| .run 1 [] <| .run 1 [.mg] <| .run 30 [] <| .run 1 [.enter] <| .run 36 [] <| .use jlF <| .run 1 [(.ck 12)] <| .run 1 [] <| .run 1 [.mg] <| .run 27 [] <| .use jhs <| .run 1 [(.ck 13)] <| .run 1 [] <| .run 1 [.mg] <| .run 29 [] <| .use jyD <| .run 1 [(.ck 14)] <| .run 1 [] <| .run 1 [.mg] <| .run 1 [] <| .run 1 [.mg] <| .run 48 [] <| .run 1 [.enter] <| .run 34 [] <| .use jyS <| .run 1 [(.ck 15)] <| .run 46 [] <| .use jms <| .run 1 [(.ck 16)] <| .run 34 [] <| .use jgg <| .run 1 [(.ck 17)] <| .run 32 [] <| .use jjO <| .run 1 [(.ck 18)] <| .run 32 [] <| .use jua <| .run 1 [(.ck 19)] <| .run 113 [] <| .run 1 [.none,.none,(.ck 1),.none] <| .run 21 [] <| .use jpT <| .run 1 [.none,.none,(.ck 20),.none] <| .run 21 [] <| .use jsX <| .run 1 [.none,.none,(.ck 21),.none] <| .run 62 [] <| .run 1 [.enter] <| .run 34 [] <| .use jxF <| .run 1 [(.ck 22)] <| .run 46 [] <| .use jty <| .run 1 [(.ck 23)] <| .run 34 [] <| .run 1 [(.ck 1)] <| .run 32 [] <| .use jdr <| .run 1 [(.ck 24)] <| .run 32 [] <| .use jxX <| .run 1 [(.ck 25)] <| .run 82 [] <| .run 1 [.none,.none,(.ck 17),.none] <| .run 21 [] <| .run 1 [.none,.none,(.ck 1),.none] <| .run 21 [] <| .run 1 [.none,.none,(.ck 17),.none] <| .run 171 [] <| .use jrf <| .run 1 [(.ck 26)] <| .run 5 [] <| .run 1 [] <| .run 6 [] <|  .fin
theorem jtu:Jj cfz 8 85 jnM [] (ent cfz 85 yT)=some (qd189,[.eqA ja ja,.eqA ja ja,.eqA jo jo,.eqA ja ja,.eqA jl jl,.eqA ja ja,.eqA jE jE,.eqA jr jr,.eqA ja ja,.eqA ja ja,.eqA jl jl,.eqA ja ja,.eqA jD jD,.eqA ja ja,.eqA jB jB,.eqA Kt Kt,.eqA ZZ ZZ,.eqA Qy Qy,.eqA Gc Gc,.eqA Z2 Z2,.eqA Qt Qt,.eqA jhM jhM,.eqA jix jix,.eqA jo jo,.eqA jo jo,.eqA jE jE,.eqA Km Km,.eqA ja ja,.eqA jB jB,.eqA jdh jdh,.eqA jhg jhg,.eqA jB jB,.eqA ja ja,.eqA kE kE,.eqA jg6 jg6,.eqA jo jo,.eqA ja ja,.eqA jo jo,.eqA zC zC]):=by kernel_rfl
theorem jxw:PQ 85 yT qd189:=jA jJ (by kernel_rfl) ((jF cfz 8 85 jnM [] (ent cfz 85 yT)).symm.trans jtu) ⟨rfl,rfl,rfl,rfl,rfl,rfl,rfl,rfl,rfl,rfl,rfl,rfl,rfl,rfl,rfl,rfl,rfl,rfl,rfl,rfl,rfl,rfl,rfl,rfl,rfl,rfl,rfl,rfl,rfl,rfl,rfl,rfl,rfl,rfl,rfl,rfl,rfl,rfl,rfl,trivial⟩
theorem jwN:PQ 19 yT qd123:=cq (.run 9 [] <| .use dd5 <| .use dd6 <| .use jwF <| .use dd4 <| .run 1 [.none,(.ck 0),.none,.none,(.ck 1),(.ck 2),(.ck 3)] <| .run 11 [] <| .use jxw <| .run 1 [(.ck 4)] <| .run 4 [] <| .fin) [.eqA JS JS,.eqA JC JC,.eqA jh2 jh2,.eqA jM jM,.eqA yT yT]
theorem jyY:PQ 126 jjQ qd183:=cq (.run 36 [] <| .use dd8 <| .run 1 [(.ck 0)] <| .run 1 [] <| .run 1 [.mg] <| .run 27 [] <| .use jex <| .run 1 [(.ck 1)] <| .run 1 [] <| .run 1 [.mg] <| .run 27 [] <| .use ZK <| .run 1 [(.ck 2)] <| .run 1 [] <| .run 1 [.mg] <| .run 27 [] <| .use aw9 <| .run 1 [(.ck 3)] <| .run 1 [] <| .run 1 [.mg] <| .run 21 [] <| .fin) [.eqA jr jr,.eqA j9 j9,.eqA jo jo,.eqA ja ja]
theorem jqV:PQ 84 Yj (aI 0):=cq (.run 7 [] <| .use jyY <| .run 1 [(.ck 0)] <| .use jd4 <| .run 1 [(.ck 1)] <| .run 3 [] <| .fin) [.eqA jjQ jjQ,.eqA KR KR]
theorem jxI:PQ 105 Yj (aI 0):=cq (.run 9 [] <| .use Yo <| .run 1 [(.ck 0)] <| .run 1 [] <| .use jqV <| .run 1 [(.ck 1)] <| .run 1 [] <| .use zz <| .run 1 [(.ck 2)] <| .run 3 [] <| .fin) [.eqA JD JD,.eqA Yj Yj,.eqA jP jP]
theorem jyH:PQ 91 jkB (aI 0):=cq (.run 14 [] <| .use dd0 <| .run 1 [(.ck 0)] <| .run 3 [] <| .fin) [.eqA jQ jQ]
theorem jdq:PQ 127 jl (aI 0):=cq (.run 7 [] <| .use jyH <| .run 1 [(.ck 0)] <| .run 3 [] <| .fin) [.eqA jkB jkB]
theorem jrN:PQ 126 jiB qd183:=cq (.run 36 [] <| .use ZK <| .run 1 [(.ck 0)] <| .run 1 [] <| .run 1 [.mg] <| .run 27 [] <| .use jdq <| .run 1 [(.ck 1)] <| .run 1 [] <| .run 1 [.mg] <| .run 27 [] <| .use aw9 <| .run 1 [(.ck 2)] <| .run 1 [] <| .run 1 [.mg] <| .run 27 [] <| .run 1 [(.ck 0)] <| .run 1 [] <| .run 1 [.mg] <| .run 21 [] <| .fin) [.eqA jo jo,.eqA jl jl,.eqA ja ja,.eqA jo jo]
theorem jnm:PQ 84 yV (aI 0):=cq (.run 7 [] <| .use jrN <| .run 1 [(.ck 0)] <| .use jd4 <| .run 1 [(.ck 1)] <| .run 3 [] <| .fin) [.eqA jiB jiB,.eqA KR KR]
theorem jvM:PQ 105 yV (aI 0):=cq (.run 9 [] <| .use Yo <| .run 1 [(.ck 0)] <| .run 1 [] <| .use jnm <| .run 1 [(.ck 1)] <| .run 1 [] <| .use zz <| .run 1 [(.ck 2)] <| .run 3 [] <| .fin) [.eqA JD JD,.eqA yV yV,.eqA jP jP]
theorem jwr:PQ 94 jgD qd184:=cq (.run 190 [] <| .fin) []
theorem jtL:PQ 53 jgD qd275:=cq (.run 9 [] <| .use jxI <| .run 1 [(.ck 0)] <| .run 1 [] <| .use jvM <| .run 1 [(.ck 1)] <| .run 5 [] <| .use dd6 <| .run 1 [(.ck 2)] <| .run 1 [] <| .use dd4 <| .run 1 [(.ck 3)] <| .run 13 [] <| .use jwr <| .run 1 [(.ck 4)] <| .run 5 [] <| .fin) [.eqA Yj Yj,.eqA yV yV,.eqA JC JC,.eqA jM jM,.eqA jgD jgD]
theorem jvf:PQ 30 jjn (.d (.v (.bool true))):=cq (.run 85 [] <| .fin) []
theorem jr0:PQ 30 jla (.d (.v (.bool true))):=cq (.run 85 [] <| .fin) []
theorem jvA:PQ 30 ja6 (.d (.v (.bool true))):=cq (.run 133 [] <| .fin) []
theorem jr7:PQ 30 jqp (.d (.v (.bool true))):=cq (.run 133 [] <| .fin) []
theorem jrJ:PQ 30 jiq (.d (.v (.bool true))):=cq (.run 61 [] <| .fin) []
theorem jrj:PQ 30 jhk (.d (.v (.bool true))):=cq (.run 85 [] <| .fin) []
theorem jnr:PQ 83 jcG (aI 0):=cq (.run 16 [] <| .fin) []
theorem juJ:PQ 143 jpu (.d (.v (.bool false))):=cq (.run 16 [] <| .fin) []
theorem jtR:PQ 143 jpo (.d (.v (.bool false))):=cq (.run 16 [] <| .fin) []
theorem jvB:PQ 133 jgC (aI (-1)):=cq (.run 34 [] <| .use juJ <| .run 1 [(.ck 0)] <| .run 30 [] <| .use jtR <| .run 1 [(.ck 1)] <| .run 21 [] <| .fin) [.eqA jpu jpu,.eqA jpo jpo]
theorem jwo:PQ 142 jgC (.d (.v (.bool false))):=cq (.run 8 [] <| .use jvB <| .run 1 [(.ck 0)] <| .run 4 [] <| .fin) [.eqA jgC jgC]
theorem jt1:PQ 91 jkd (aI 0):=cq (.run 14 [] <| .use dd0 <| .run 1 [(.ck 0)] <| .run 3 [] <| .fin) [.eqA jQ jQ]
theorem jn0:PQ 127 jE (aI 0):=cq (.run 7 [] <| .use jt1 <| .run 1 [(.ck 0)] <| .run 3 [] <| .fin) [.eqA jkd jkd]
theorem jwd:PQ 126 jh4 qd245:=cq (.run 36 [] <| .use ZK <| .run 1 [(.ck 0)] <| .run 1 [] <| .run 1 [.mg] <| .run 27 [] <| .use jdq <| .run 1 [(.ck 1)] <| .run 1 [] <| .run 1 [.mg] <| .run 27 [] <| .use jn0 <| .run 1 [(.ck 2)] <| .run 1 [] <| .run 1 [.mg] <| .run 21 [] <| .fin) [.eqA jo jo,.eqA jl jl,.eqA jE jE]
theorem jnW:PQ 84 jcR (aI 0):=cq (.run 7 [] <| .use jwd <| .run 1 [(.ck 0)] <| .use dd4 <| .run 1 [(.ck 1)] <| .run 3 [] <| .fin) [.eqA jh4 jh4,.eqA jM jM]
theorem juZ:PQ 91 jkb (aI 0):=cq (.run 14 [] <| .use dd0 <| .run 1 [(.ck 0)] <| .run 3 [] <| .fin) [.eqA jQ jQ]
theorem jjG:PQ 127 jD (aI 0):=cq (.run 7 [] <| .use juZ <| .run 1 [(.ck 0)] <| .run 3 [] <| .fin) [.eqA jkb jkb]
theorem jrL:PQ 126 jhi qd245:=cq (.run 36 [] <| .use jjG <| .run 1 [(.ck 0)] <| .run 1 [] <| .run 1 [.mg] <| .run 27 [] <| .use jex <| .run 1 [(.ck 1)] <| .run 1 [] <| .run 1 [.mg] <| .run 27 [] <| .use jlD <| .run 1 [(.ck 2)] <| .run 1 [] <| .run 1 [.mg] <| .run 21 [] <| .fin) [.eqA jD jD,.eqA j9 j9,.eqA jB jB]
theorem jvO:PQ 84 jkF (aI 0):=cq (.run 7 [] <| .use jrL <| .run 1 [(.ck 0)] <| .use dd4 <| .run 1 [(.ck 1)] <| .run 3 [] <| .fin) [.eqA jhi jhi,.eqA jM jM]
theorem js0:PQ 144 jp7 qd302:=cq (.run 36 [] <| .use jnW <| .run 1 [(.ck 0)] <| .run 1 [] <| .run 1 [.mg] <| .run 27 [] <| .use jvO <| .run 1 [(.ck 1)] <| .run 1 [] <| .run 1 [.mg] <| .run 21 [] <| .fin) [.eqA jcR jcR,.eqA jkF jkF]
theorem juF:PQ 104 jou (aI 0):=cq (.run 8 [] <| .use jnr <| .use Yo <| .use zz <| .run 1 [.none,(.ck 0),.none,(.ck 1),(.ck 2)] <| .run 11 [] <| .use jwo <| .run 1 [(.ck 3)] <| .run 5 [] <| .use dd6 <| .run 1 [(.ck 4),.none,.none,(.ck 1),(.ck 2)] <| .run 10 [] <| .use js0 <| .run 1 [(.ck 5)] <| .run 1 [(.ck 2)] <| .run 3 [] <| .fin) [.eqA jcG jcG,.eqA JD JD,.eqA jP jP,.eqA jgC jgC,.eqA JC JC,.eqA JD JD,.eqA jP jP,.eqA jp7 jp7,.eqA jP jP]
noncomputable def jiW:CT cfz:=.run 9 [] <| .use juF <| .run 1 [(.ck 0)] <| .run 329 [] <|  .fin
theorem joj:Jj cfz 8 43 jiW [] (ent cfz 43 jjC)=some (qd69,[.eqA jou jou]):=by kernel_rfl
theorem jtg:PQ 43 jjC qd69:=jA jJ (by kernel_rfl) ((jF cfz 8 43 jiW [] (ent cfz 43 jjC)).symm.trans joj) ⟨rfl,trivial⟩
noncomputable def jj9:CT cfz:=.run 36 [] <| .use ZK <| .run 1 [(.ck 0)] <| .run 1 [] <| .run 1 [.mg] <| .run 27 [] <| .use jjG <| .run 1 [(.ck 1)] <| .run 1 [] <| .run 1 [.mg] <| .run 27 [] <| .use jdq <| .run 1 [(.ck 2)] <| .run 1 [] <| .run 1 [.mg] <| .run 27 [] <| .use jex <| .run 1 [(.ck 3)] <| .run 1 [] <| .run 1 [.mg] <| .run 27 [] <| .use jn0 <| .run 1 [(.ck 4)] <| .run 1 [] <| .run 1 [.mg] <| .run 27 [] <| .use jlD <| .run 1 [(.ck 5)] <| .run 1 [] <| .run 1 [.mg] <| .run 21 [] <|  .fin
theorem jpW:Jj cfz 8 126 jj9 [] (ent cfz 126 jj1)=some (qd111,[.eqA jo jo,.eqA jD jD,.eqA jl jl,.eqA j9 j9,.eqA jE jE,.eqA jB jB]):=by kernel_rfl
theorem juH:PQ 126 jj1 qd111:=jA jJ (by kernel_rfl) ((jF cfz 8 126 jj9 [] (ent cfz 126 jj1)).symm.trans jpW) ⟨rfl,rfl,rfl,rfl,rfl,rfl,trivial⟩
theorem jvN:PQ 82 jj4 (aI 0):=cq (.run 193 [] <| .fin) []
theorem jsw:PQ 84 G0 (aI 0):=cq (.run 7 [] <| .use juH <| .run 1 [(.ck 0)] <| .use jvN <| .run 1 [(.ck 1)] <| .run 3 [] <| .fin) [.eqA jj1 jj1,.eqA jj4 jj4]
theorem jsh:PQ 105 G0 (aI 0):=cq (.run 9 [] <| .use Yo <| .run 1 [(.ck 0)] <| .run 1 [] <| .use jsw <| .run 1 [(.ck 1)] <| .run 1 [] <| .use zz <| .run 1 [(.ck 2)] <| .run 3 [] <| .fin) [.eqA JD JD,.eqA G0 G0,.eqA jP jP]
theorem jdm:PQ 91 Q2 (aI 0):=cq (.run 14 [] <| .use dd0 <| .run 1 [(.ck 0)] <| .run 3 [] <| .fin) [.eqA jQ jQ]
noncomputable def jkR:CT cfz:=.run 9 [] <| .use jsh <| .run 1 [(.ck 0)] <| .run 1 [] <| .use jdm <| .run 1 [(.ck 1)] <| .run 1 [] <| .use zz <| .run 1 [(.ck 2)] <| .run 12 [] <| .use dd6 <| .use Yo <| .run 1 [(.ck 3),(.ck 4),(.ck 2)] <| .run 186 [] <|  .fin
theorem jpK:Jj cfz 8 45 jkR [] (ent cfz 45 jlB)=some (qd60,[.eqA G0 G0,.eqA Q2 Q2,.eqA jP jP,.eqA JC JC,.eqA JD JD,.eqA jP jP]):=by kernel_rfl
theorem jvn:PQ 45 jlB qd60:=jA jJ (by kernel_rfl) ((jF cfz 8 45 jkR [] (ent cfz 45 jlB)).symm.trans jpK) ⟨rfl,rfl,rfl,rfl,rfl,rfl,trivial⟩
theorem jtz:PQ 91 jhB (aI 0):=cq (.run 14 [] <| .use dd0 <| .run 1 [(.ck 0)] <| .run 3 [] <| .fin) [.eqA jQ jQ]
theorem jnI:PQ 91 jdB (aI 0):=cq (.run 14 [] <| .use dd0 <| .run 1 [(.ck 0)] <| .run 3 [] <| .fin) [.eqA jQ jQ]
theorem jud:PQ 106 G9 (aI 2):=cq (.run 19 [] <| .fin) []
theorem jt7:PQ 51 G9 qd276:=cq (.run 9 [] <| .use jdm <| .run 1 [(.ck 0)] <| .run 1 [] <| .use jtz <| .run 1 [(.ck 1)] <| .run 1 [] <| .use jnI <| .run 1 [(.ck 2)] <| .run 1 [] <| .use dd4 <| .run 1 [(.ck 3)] <| .run 14 [] <| .use jud <| .run 1 [(.ck 4)] <| .run 4 [] <| .fin) [.eqA Q2 Q2,.eqA jhB jhB,.eqA jdB jdB,.eqA jM jM,.eqA G9 G9]
theorem jt0:PQ 91 jj2 (aI 0):=cq (.run 14 [] <| .use dd0 <| .run 1 [(.ck 0)] <| .run 3 [] <| .fin) [.eqA jQ jQ]
theorem jtP:PQ 106 jkG (aI 1):=cq (.run 19 [] <| .fin) []
theorem jtA:PQ 52 jgT qd281:=cq (.run 10 [] <| .use dd5 <| .run 1 [(.ck 0)] <| .run 1 [] <| .use jdm <| .run 1 [(.ck 1)] <| .run 1 [] <| .use jt0 <| .run 1 [(.ck 2)] <| .run 1 [] <| .use dd4 <| .run 1 [(.ck 3)] <| .run 15 [] <| .use jtP <| .run 1 [(.ck 4)] <| .run 42 [] <| .fin) [.eqA JS JS,.eqA Q2 Q2,.eqA jj2 jj2,.eqA jM jM,.eqA jkG jkG]
theorem jwk:PQ 106 jlq (aI 2):=cq (.run 19 [] <| .fin) []
theorem jtp:PQ 52 jlw qd277:=cq (.run 10 [] <| .use dd5 <| .run 1 [(.ck 0)] <| .run 1 [] <| .use jdm <| .run 1 [(.ck 1)] <| .run 1 [] <| .use jnI <| .run 1 [(.ck 2)] <| .run 1 [] <| .use dd4 <| .run 1 [(.ck 3)] <| .run 15 [] <| .use jwk <| .run 1 [(.ck 4)] <| .run 42 [] <| .fin) [.eqA JS JS,.eqA Q2 Q2,.eqA jdB jdB,.eqA jM jM,.eqA jlq jlq]
theorem jvC:PQ 91 jj8 (aI 0):=cq (.run 14 [] <| .use dd0 <| .run 1 [(.ck 0)] <| .run 3 [] <| .fin) [.eqA jQ jQ]
theorem jwl:PQ 106 jkz (aI 2):=cq (.run 19 [] <| .fin) []
theorem jqQ:PQ 52 jhO qd281:=cq (.run 10 [] <| .use dd5 <| .run 1 [(.ck 0)] <| .run 1 [] <| .use jdm <| .run 1 [(.ck 1)] <| .run 1 [] <| .use jvC <| .run 1 [(.ck 2)] <| .run 1 [] <| .use dd4 <| .run 1 [(.ck 3)] <| .run 15 [] <| .use jwl <| .run 1 [(.ck 4)] <| .run 38 [] <| .fin) [.eqA JS JS,.eqA Q2 Q2,.eqA jj8 jj8,.eqA jM jM,.eqA jkz jkz]
theorem jv8:PQ 143 jo2 (.d (.v (.bool false))):=cq (.run 16 [] <| .fin) []
theorem jt5:PQ 143 jpZ (.d (.v (.bool false))):=cq (.run 16 [] <| .fin) []
theorem jsS:PQ 143 jo3 (.d (.v (.bool false))):=cq (.run 16 [] <| .fin) []
theorem jqu:PQ 133 qd0 (aI (-1)):=cq (.run 34 [] <| .use jv8 <| .run 1 [(.ck 0)] <| .run 30 [] <| .use jt5 <| .run 1 [(.ck 1)] <| .run 30 [] <| .use jsS <| .run 1 [(.ck 2)] <| .run 21 [] <| .fin) [.eqA jo2 jo2,.eqA jpZ jpZ,.eqA jo3 jo3]
theorem jv3:PQ 142 qd0 (.d (.v (.bool false))):=cq (.run 8 [] <| .use jqu <| .run 1 [(.ck 0)] <| .run 4 [] <| .fin) [.eqA qd0 qd0]
theorem jtv:PQ 126 jls qd245:=cq (.run 36 [] <| .use ZK <| .run 1 [(.ck 0)] <| .run 1 [] <| .run 1 [.mg] <| .run 27 [] <| .use jdq <| .run 1 [(.ck 1)] <| .run 1 [] <| .run 1 [.mg] <| .run 27 [] <| .use jjG <| .run 1 [(.ck 2)] <| .run 1 [] <| .run 1 [.mg] <| .run 21 [] <| .fin) [.eqA jo jo,.eqA jl jl,.eqA jD jD]
theorem jqZ:PQ 84 jgR (aI 0):=cq (.run 7 [] <| .use jtv <| .run 1 [(.ck 0)] <| .use dd4 <| .run 1 [(.ck 1)] <| .run 3 [] <| .fin) [.eqA jls jls,.eqA jM jM]
theorem jvE:PQ 126 jiy qd245:=cq (.run 36 [] <| .use ZK <| .run 1 [(.ck 0)] <| .run 1 [] <| .run 1 [.mg] <| .run 27 [] <| .use jex <| .run 1 [(.ck 1)] <| .run 1 [] <| .run 1 [.mg] <| .run 27 [] <| .use jlD <| .run 1 [(.ck 2)] <| .run 1 [] <| .run 1 [.mg] <| .run 21 [] <| .fin) [.eqA jo jo,.eqA j9 j9,.eqA jB jB]
theorem juP:PQ 84 jih (aI 0):=cq (.run 7 [] <| .use jvE <| .run 1 [(.ck 0)] <| .use dd4 <| .run 1 [(.ck 1)] <| .run 3 [] <| .fin) [.eqA jiy jiy,.eqA jM jM]
theorem jsV:PQ 144 jpI qd245:=cq (.run 36 [] <| .use jnW <| .run 1 [(.ck 0)] <| .run 1 [] <| .run 1 [.mg] <| .run 27 [] <| .use jqZ <| .run 1 [(.ck 1)] <| .run 1 [] <| .run 1 [.mg] <| .run 27 [] <| .use juP <| .run 1 [(.ck 2)] <| .run 1 [] <| .run 1 [.mg] <| .run 21 [] <| .fin) [.eqA jcR jcR,.eqA jgR jgR,.eqA jih jih]
theorem jv5:PQ 104 jpj (aI 0):=cq (.run 8 [] <| .use jnr <| .use Yo <| .use zz <| .run 1 [.none,(.ck 0),.none,(.ck 1),(.ck 2)] <| .run 11 [] <| .use jv3 <| .run 1 [(.ck 3)] <| .run 5 [] <| .use dd6 <| .run 1 [(.ck 4),.none,.none,(.ck 1),(.ck 2)] <| .run 10 [] <| .use jsV <| .run 1 [(.ck 5)] <| .use dd4 <| .run 1 [(.ck 6)] <| .run 3 [] <| .fin) [.eqA jcG jcG,.eqA JD JD,.eqA jP jP,.eqA qd0 qd0,.eqA JC JC,.eqA JD JD,.eqA jP jP,.eqA jpI jpI,.eqA jM jM]
theorem jsP:PQ 109 jlr (aI 1):=cq (.run 13 [] <| .fin) []
theorem jtB:PQ 109 jkJ (aI 1):=cq (.run 13 [] <| .fin) []
theorem jvr:PQ 109 jj6 (aI 1):=cq (.run 13 [] <| .fin) []
noncomputable def jil:CT cfz:=.run 491 [] <|  .fin
theorem jps:Jj cfz 8 145 jil [] (ent cfz 145 jip)=some ((aI 3),[]):=by kernel_rfl
theorem jq5:PQ 145 jip (aI 3):=jA jJ (by kernel_rfl) ((jF cfz 8 145 jil [] (ent cfz 145 jip)).symm.trans jps) trivial
theorem juf:PQ 146 qd1 (aI 1):=cq (.run 74 [] <| .fin) []
noncomputable def jjZ:CT cfz:=.run 490 [] <|  .fin
theorem jpr:Jj cfz 8 146 jjZ [] (ent cfz 146 jcl)=some ((aI (-1)),[]):=by kernel_rfl
theorem jt4:PQ 146 jcl (aI (-1)):=jA jJ (by kernel_rfl) ((jF cfz 8 146 jjZ [] (ent cfz 146 jcl)).symm.trans jpr) trivial
theorem jv0:PQ 110 jcl (.d (.v (.bool false))):=cq (.run 8 [] <| .use jt4 <| .run 1 [(.ck 0)] <| .run 4 [] <| .fin) [.eqA jcl jcl]
theorem jwq:PQ 107 jiQ qd282:=cq (.run 115 [] <| .use jq5 <| .run 1 [(.ck 0)] <| .run 6 [] <| .use juf <| .run 1 [(.ck 1)] <| .run 9 [] <| .use jv0 <| .run 1 [(.ck 2)] <| .run 5 [] <| .fin) [.eqA jip jip,.eqA qd1 qd1,.eqA jcl jcl]
theorem jsT:PQ 109 jky (aI 2):=cq (.run 13 [] <| .fin) []
theorem jun:PQ 109 jhA (aI 2):=cq (.run 13 [] <| .fin) []
theorem jr9:PQ 109 jgW (aI 5):=cq (.run 13 [] <| .fin) []
noncomputable def jiu:CT cfz:=.run 491 [] <|  .fin
theorem jpP:Jj cfz 8 145 jiu [] (ent cfz 145 jkm)=some ((aI 2),[]):=by kernel_rfl
theorem jt8:PQ 145 jkm (aI 2):=jA jJ (by kernel_rfl) ((jF cfz 8 145 jiu [] (ent cfz 145 jkm)).symm.trans jpP) trivial
theorem jq4:PQ 146 qd2 (aI 2):=cq (.run 105 [] <| .fin) []
noncomputable def jjD:CT cfz:=.run 459 [] <|  .fin
theorem joS:Jj cfz 8 146 jjD [] (ent cfz 146 jdu)=some ((aI (-1)),[]):=by kernel_rfl
theorem jrD:PQ 146 jdu (aI (-1)):=jA jJ (by kernel_rfl) ((jF cfz 8 146 jjD [] (ent cfz 146 jdu)).symm.trans joS) trivial
theorem jv9:PQ 110 jdu (.d (.v (.bool false))):=cq (.run 8 [] <| .use jrD <| .run 1 [(.ck 0)] <| .run 4 [] <| .fin) [.eqA jdu jdu]
theorem jsg:PQ 107 jki qd283:=cq (.run 115 [] <| .use jt8 <| .run 1 [(.ck 0)] <| .run 6 [] <| .use jq4 <| .run 1 [(.ck 1)] <| .run 9 [] <| .use jv9 <| .run 1 [(.ck 2)] <| .run 5 [] <| .fin) [.eqA jkm jkm,.eqA qd2 qd2,.eqA jdu jdu]
theorem jrE:PQ 109 jjW (aI 3):=cq (.run 13 [] <| .fin) []
theorem jrU:PQ 109 jkD (aI 4):=cq (.run 13 [] <| .fin) []
theorem juX:PQ 109 jkN (aI 6):=cq (.run 13 [] <| .fin) []
noncomputable def jkK:CT cfz:=.run 491 [] <|  .fin
theorem jpJ:Jj cfz 8 145 jkK [] (ent cfz 145 jk6)=some ((aI 1),[]):=by kernel_rfl
theorem jqz:PQ 145 jk6 (aI 1):=jA jJ (by kernel_rfl) ((jF cfz 8 145 jkK [] (ent cfz 145 jk6)).symm.trans jpJ) trivial
theorem jqE:PQ 146 qd3 (aI 3):=cq (.run 136 [] <| .fin) []
theorem jtS:PQ 146 jgI (aI 0):=cq (.run 43 [] <| .fin) []
theorem jrB:PQ 110 jgI (.d (.v (.bool true))):=cq (.run 8 [] <| .use jtS <| .run 1 [(.ck 0)] <| .run 4 [] <| .fin) [.eqA jgI jgI]
theorem jrG:PQ 107 jjL qd278:=cq (.run 115 [] <| .use jqz <| .run 1 [(.ck 0)] <| .run 6 [] <| .use jqE <| .run 1 [(.ck 1)] <| .run 9 [] <| .use jrB <| .run 1 [(.ck 2)] <| .run 5 [] <| .fin) [.eqA jk6 jk6,.eqA qd3 qd3,.eqA jgI jgI]
noncomputable def jlk:CT cfz:=.run 10 [] <| .use jv5 <| .run 1 [(.ck 0)] <| .run 44 [] <| .run 1 [.enter] <| .run 36 [] <| .use jsP <| .run 1 [(.ck 1)] <| .run 1 [] <| .run 1 [.mg] <| .run 27 [] <| .use jtB <| .run 1 [(.ck 2)] <| .run 1 [] <| .run 1 [.mg] <| .run 27 [] <| .use jvr <| .run 1 [(.ck 3)] <| .run 1 [] <| .run 1 [.mg] <| .run 22 [] <| .use jwq <| .run 1 [(.ck 4)] <| .run 46 [] <| .run 1 [.enter] <| .run 36 [] <| .use jsT <| .run 1 [(.ck 5)] <| .run 1 [] <| .run 1 [.mg] <| .run 27 [] <| .use jun <| .run 1 [(.ck 6)] <| .run 1 [] <| .run 1 [.mg] <| .run 27 [] <| .use jr9 <| .run 1 [(.ck 7)] <| .run 1 [] <| .run 1 [.mg] <| .run 22 [] <| .use jsg <| .run 1 [(.ck 8)] <| .run 46 [] <| .run 1 [.enter] <| .run 36 [] <| .use jrE <| .run 1 [(.ck 9)] <| .run 1 [] <| .run 1 [.mg] <| .run 27 [] <| .use jrU <| .run 1 [(.ck 10)] <| .run 1 [] <| .run 1 [.mg] <| .run 27 [] <| .use juX <| .run 1 [(.ck 11)] <| .run 1 [] <| .run 1 [.mg] <| .run 22 [] <| .use jrG <| .run 1 [(.ck 12)] <| .run 53 [] <|  .fin
theorem jpA:Jj cfz 8 61 jlk [] (ent cfz 61 jk8)=some (qd98,[.eqA jpj jpj,.eqA jlr jlr,.eqA jkJ jkJ,.eqA jj6 jj6,.eqA jiQ jiQ,.eqA jky jky,.eqA jhA jhA,.eqA jgW jgW,.eqA jki jki,.eqA jjW jjW,.eqA jkD jkD,.eqA jkN jkN,.eqA jjL jjL]):=by kernel_rfl
theorem jwe:PQ 61 jk8 qd98:=jA jJ (by kernel_rfl) ((jF cfz 8 61 jlk [] (ent cfz 61 jk8)).symm.trans jpA) ⟨rfl,rfl,rfl,rfl,rfl,rfl,rfl,rfl,rfl,rfl,rfl,rfl,rfl,trivial⟩
theorem jsH:PQ 62 jk0 qd192:=cq (.run 74 [] <| .fin) []
theorem jq7:PQ 91 jk2 (aI 0):=cq (.run 14 [] <| .use dd0 <| .run 1 [(.ck 0)] <| .run 3 [] <| .fin) [.eqA jQ jQ]
theorem jss:PQ 127 jad (aI 0):=cq (.run 7 [] <| .use jq7 <| .run 1 [(.ck 0)] <| .run 3 [] <| .fin) [.eqA jk2 jk2]
theorem jts:PQ 126 jia qd302:=cq (.run 36 [] <| .use dd8 <| .run 1 [(.ck 0)] <| .run 1 [] <| .run 1 [.mg] <| .run 27 [] <| .use jss <| .run 1 [(.ck 1)] <| .run 1 [] <| .run 1 [.mg] <| .run 21 [] <| .fin) [.eqA jr jr,.eqA jad jad]
theorem jq1:PQ 84 ZG (aI 0):=cq (.run 7 [] <| .use jts <| .run 1 [(.ck 0)] <| .use zz <| .run 1 [(.ck 1)] <| .run 3 [] <| .fin) [.eqA jia jia,.eqA jP jP]
theorem jvS:PQ 105 ZG (aI 0):=cq (.run 9 [] <| .use Yo <| .run 1 [(.ck 0)] <| .run 1 [] <| .use jq1 <| .run 1 [(.ck 1)] <| .run 1 [] <| .use zz <| .run 1 [(.ck 2)] <| .run 3 [] <| .fin) [.eqA JD JD,.eqA ZG ZG,.eqA jP jP]
theorem jq3:PQ 146 jah (aI (-1)):=cq (.run 87 [] <| .fin) []
theorem jui:PQ 110 jah (.d (.v (.bool false))):=cq (.run 8 [] <| .use jq3 <| .run 1 [(.ck 0)] <| .run 4 [] <| .fin) [.eqA jah jah]
theorem jv1:PQ 83 Yl (aI 0):=cq (.run 16 [] <| .fin) []
theorem jsk:PQ 111 jkg (.fn (.func 147) [] [(.ip [jnu]),(.ip [(vI 2)])]):=cq (.run 20 [] <| .fin) []
theorem juu:PQ 63 ZG qd271:=cq (.run 9 [] <| .use jvS <| .run 1 [(.ck 0)] <| .run 4 [] <| .use dd6 <| .run 1 [(.ck 1)] <| .run 1 [] <| .use jui <| .run 1 [(.ck 2)] <| .use jv1 <| .run 1 [(.ck 3)] <| .run 1 [] <| .use dd4 <| .run 1 [(.ck 4)] <| .run 17 [] <| .use jsk <| .run 1 [(.ck 5)] <| .run 36 [] <| .run 1 [.enter] <| .run 43 [] <| .fin) [.eqA ZG ZG,.eqA JC JC,.eqA jah jah,.eqA Yl Yl,.eqA jM jM,.eqA jkg jkg]
theorem ji0:PQ 29 kV (aI 0):=cq (.run 7 [] <| .use dd5 <| .use dd6 <| .use jqV <| .use dd4 <| .run 1 [.none,(.ck 0),.none,(.ck 1),(.ck 2),(.ck 3)] <| .run 1 [] <| .fin) [.eqA JS JS,.eqA JC JC,.eqA Yj Yj,.eqA jM jM]
theorem jqD:PQ 185 jD qd353:=cq (.run 20 [] <| .fin) []
theorem jto:PQ 163 jh9 qd353:=cq (.run 25 [] <| .use jqD <| .run 1 [(.ck 0)] <| .run 3 [] <| .fin) [.eqA jD jD]
theorem jqx:PQ 151 jD qd353:=cq (.run 7 [] <| .use jto <| .run 1 [(.ck 0)] <| .run 3 [] <| .fin) [.eqA jh9 jh9]
theorem jv2:PQ 114 jD qd353:=cq (.run 7 [] <| .use jqx <| .run 1 [(.ck 0)] <| .run 3 [] <| .fin) [.eqA jD jD]
theorem jsD:PQ 185 jl qd354:=cq (.run 20 [] <| .fin) []
theorem jr8:PQ 163 jhK qd354:=cq (.run 25 [] <| .use jsD <| .run 1 [(.ck 0)] <| .run 3 [] <| .fin) [.eqA jl jl]
theorem js1:PQ 151 jl qd354:=cq (.run 7 [] <| .use jr8 <| .run 1 [(.ck 0)] <| .run 3 [] <| .fin) [.eqA jhK jhK]
theorem jr5:PQ 114 jl qd354:=cq (.run 7 [] <| .use js1 <| .run 1 [(.ck 0)] <| .run 3 [] <| .fin) [.eqA jl jl]
theorem jr3:PQ 185 jr qd343:=cq (.run 23 [] <| .fin) []
theorem jvJ:PQ 163 jiz qd343:=cq (.run 25 [] <| .use jr3 <| .run 1 [(.ck 0)] <| .run 3 [] <| .fin) [.eqA jr jr]
theorem jsp:PQ 151 jr qd343:=cq (.run 7 [] <| .use jvJ <| .run 1 [(.ck 0)] <| .run 3 [] <| .fin) [.eqA jiz jiz]
theorem jtM:PQ 114 jr qd343:=cq (.run 7 [] <| .use jsp <| .run 1 [(.ck 0)] <| .run 3 [] <| .fin) [.eqA jr jr]
theorem jrr:PQ 185 j9 qd355:=cq (.run 20 [] <| .fin) []
theorem juA:PQ 163 jg3 qd355:=cq (.run 25 [] <| .use jrr <| .run 1 [(.ck 0)] <| .run 3 [] <| .fin) [.eqA j9 j9]
theorem jvk:PQ 151 j9 qd355:=cq (.run 7 [] <| .use juA <| .run 1 [(.ck 0)] <| .run 3 [] <| .fin) [.eqA jg3 jg3]
theorem jtD:PQ 114 j9 qd355:=cq (.run 7 [] <| .use jvk <| .run 1 [(.ck 0)] <| .run 3 [] <| .fin) [.eqA j9 j9]
theorem jsZ:PQ 185 jo qd356:=cq (.run 20 [] <| .fin) []
theorem jq8:PQ 163 jjX qd356:=cq (.run 25 [] <| .use jsZ <| .run 1 [(.ck 0)] <| .run 3 [] <| .fin) [.eqA jo jo]
theorem jrP:PQ 151 jo qd356:=cq (.run 7 [] <| .use jq8 <| .run 1 [(.ck 0)] <| .run 3 [] <| .fin) [.eqA jjX jjX]
theorem jrX:PQ 114 jo qd356:=cq (.run 7 [] <| .use jrP <| .run 1 [(.ck 0)] <| .run 3 [] <| .fin) [.eqA jo jo]
theorem jtl:PQ 185 ja qd357:=cq (.run 20 [] <| .fin) []
theorem jqA:PQ 163 jj7 qd357:=cq (.run 25 [] <| .use jtl <| .run 1 [(.ck 0)] <| .run 3 [] <| .fin) [.eqA ja ja]
theorem jqr:PQ 151 ja qd357:=cq (.run 7 [] <| .use jqA <| .run 1 [(.ck 0)] <| .run 3 [] <| .fin) [.eqA jj7 jj7]
theorem juk:PQ 114 ja qd357:=cq (.run 7 [] <| .use jqr <| .run 1 [(.ck 0)] <| .run 3 [] <| .fin) [.eqA ja ja]
noncomputable def jiS:CT cfz:=.run 36 [] <| .use jv2 <| .run 1 [(.ck 0)] <| .run 1 [] <| .run 1 [.mg] <| .run 27 [] <| .use jr5 <| .run 1 [(.ck 1)] <| .run 1 [] <| .run 1 [.mg] <| .run 27 [] <| .use jtM <| .run 1 [(.ck 2)] <| .run 1 [] <| .run 1 [.mg] <| .run 27 [] <| .use jtD <| .run 1 [(.ck 3)] <| .run 1 [] <| .run 1 [.mg] <| .run 27 [] <| .use jrX <| .run 1 [(.ck 4)] <| .run 1 [] <| .run 1 [.mg] <| .run 27 [] <| .use juk <| .run 1 [(.ck 5)] <| .run 1 [] <| .run 1 [.mg] <| .run 21 [] <|  .fin
theorem jo6:Jj cfz 8 113 jiS [] (ent cfz 113 jlh)=some (qd46,[.eqA jD jD,.eqA jl jl,.eqA jr jr,.eqA j9 j9,.eqA jo jo,.eqA ja ja]):=by kernel_rfl
theorem ju2:PQ 113 jlh qd46:=jA jJ (by kernel_rfl) ((jF cfz 8 113 jiS [] (ent cfz 113 jlh)).symm.trans jo6) ⟨rfl,rfl,rfl,rfl,rfl,rfl,trivial⟩
theorem jrQ:PQ 74 kV qd102:=cq (.run 11 [] <| .use ji0 <| .run 1 [(.ck 0)] <| .run 24 [] <| .use ju2 <| .run 1 [(.ck 1)] <| .run 1 [] <| .use join <| .run 1 [(.ck 2)] <| .run 5 [] <| .fin) [.eqA kV kV,.eqA jlh jlh,.eqA jvl jvl]
theorem jso:PQ 86 jas qd319:=cq (.run 20 [] <| .fin) []
theorem jtj:PQ 20 kV qd195:=cq (.run 11 [] <| .use ji0 <| .run 1 [(.ck 0)] <| .run 14 [] <| .use jcM <| .run 1 [(.ck 1)] <| .run 10 [] <| .use jso <| .run 1 [(.ck 2)] <| .run 4 [] <| .fin) [.eqA kV kV,.eqA kV kV,.eqA jas jas]
theorem juR:PQ 29 zC (aI 0):=cq (.run 7 [] <| .use dd5 <| .use dd6 <| .use jnm <| .use dd4 <| .run 1 [.none,(.ck 0),.none,(.ck 1),(.ck 2),(.ck 3)] <| .run 1 [] <| .fin) [.eqA JS JS,.eqA JC JC,.eqA yV yV,.eqA jM jM]
theorem jtk:PQ 18 zC qd281:=cq (.run 11 [] <| .use juR <| .run 1 [(.ck 0)] <| .run 13 [] <| .use jrf <| .run 1 [(.ck 1)] <| .run 4 [] <| .fin) [.eqA zC zC,.eqA zC zC]
theorem jtw:PQ 126 jjq qd302:=cq (.run 36 [] <| .use ZK <| .run 1 [(.ck 0)] <| .run 1 [] <| .run 1 [.mg] <| .run 27 [] <| .use jdq <| .run 1 [(.ck 1)] <| .run 1 [] <| .run 1 [.mg] <| .run 21 [] <| .fin) [.eqA jo jo,.eqA jl jl]
theorem jus:PQ 84 Qx (aI 0):=cq (.run 7 [] <| .use jtw <| .run 1 [(.ck 0)] <| .use zz <| .run 1 [(.ck 1)] <| .run 3 [] <| .fin) [.eqA jjq jjq,.eqA jP jP]
theorem juh:PQ 105 Qx (aI 0):=cq (.run 9 [] <| .use Yo <| .run 1 [(.ck 0)] <| .run 1 [] <| .use jus <| .run 1 [(.ck 1)] <| .run 1 [] <| .use zz <| .run 1 [(.ck 2)] <| .run 3 [] <| .fin) [.eqA JD JD,.eqA Qx Qx,.eqA jP jP]
theorem jtT:PQ 91 jj5 (aI 0):=cq (.run 14 [] <| .use dd0 <| .run 1 [(.ck 0)] <| .run 3 [] <| .fin) [.eqA jQ jQ]
theorem ju5:PQ 86 Qx qd321:=cq (.run 20 [] <| .fin) []
theorem jvu:PQ 60 jkf qd97:=cq (.run 9 [] <| .use juh <| .run 1 [(.ck 0)] <| .run 1 [] <| .use jtT <| .run 1 [(.ck 1)] <| .run 3 [] <| .use Yo <| .run 1 [(.ck 2)] <| .run 1 [] <| .use dd4 <| .run 1 [(.ck 3)] <| .run 33 [] <| .use ju5 <| .run 1 [(.ck 4)] <| .run 22 [] <| .run 1 [(.ck 4)] <| .run 24 [] <| .fin) [.eqA Qx Qx,.eqA jj5 jj5,.eqA JD JD,.eqA jM jM,.eqA Qx Qx,.eqA Qx Qx]
theorem jws:PQ 199 jaz (.d (.v (.bool false))):=cq (.run 12 [] <| .fin) []
theorem ju3:PQ 212 jaz (.d (.v (.float .f64 4607182418800017408))):=cq (.run 7 [] <| .run 1 [(.ext (.int .u64 4607182418800017408))] <| .run 1 [] <| .run 1 [(.ext (.float .f64 4607182418800017408))] <| .run 3 [] <| .fin) [(.prop (∀ (w:World),Sem.run cfz.P (callFunc 220 #[Value.float FloatKind.f64 4607182418800017408]) w=Result.ok (Next.value (Value.int IntKind.u64 4607182418800017408)) w)),(.prop (∀ (w:World),Sem.run cfz.P (callFunc 219 #[Value.int IntKind.u64 4607182418800017408]) w=Result.ok (Next.value (Value.float FloatKind.f64 4607182418800017408)) w))] (hp:=⟨(fun w=>jX (by kernel_rfl) w),⟨(fun w=>jX (by kernel_rfl) w),trivial⟩⟩)
theorem jsz:PQ 200 jh1 (.d (.v (.bool false))):=cq (.run 13 [] <| .use ju3 <| .run 1 [(.ck 0)] <| .run 9 [] <| .fin) [.eqA jaz jaz]
theorem jrO:PQ 181 zM (.d (.v (.bool false))):=cq (.run 8 [] <| .use jws <| .run 1 [(.ck 0)] <| .run 3 [] <| .use jsz <| .run 1 [(.br false),(.ck 1)] <| .run 4 [] <| .fin) [.eqA jaz jaz,.eqA jh1 jh1]
theorem jna:PQ 180 Yl (aI 0):=cq (.run 16 [] <| .fin) []
theorem jrS:PQ 201 jhy (.d (.v (.float .f64 4625196817309499392))):=cq (.run 9 [] <| .run 1 [(.ext (.float .f64 4625196817309499392))] <| .run 3 [] <| .fin) [(.prop (∀ (w:World),Sem.run cfz.P (callFunc 213 #[Value.float FloatKind.f64 4625196817309499392]) w=Result.ok (Next.value (Value.float FloatKind.f64 4625196817309499392)) w))] (hp:=⟨(fun w=>jX (by kernel_rfl) w),trivial⟩)
theorem jnV:PQ 180 jQ (aI 0):=cq (.run 16 [] <| .fin) []
theorem jvI:PQ 182 jhz (aI 0):=cq (.run 19 [] <| .use jrS <| .run 1 [(.br false),(.ck 0)] <| .run 5 [] <| .use jnV <| .run 1 [(.ck 1)] <| .run 3 [] <| .fin) [.eqA jhy jhy,.eqA jQ jQ]
theorem jnl:PQ 179 jP (aI 0):=cq (.run 81 [] <| .fin) []
theorem jit:PQ 160 zM (aI 0):=cq (.run 7 [] <| .use jrO <| .run 1 [(.ck 0)] <| .use jna <| .run 1 [(.ck 1)] <| .run 1 [] <| .use jvI <| .run 1 [(.ck 2)] <| .run 1 [] <| .use jnl <| .run 1 [(.ck 3)] <| .run 3 [] <| .fin) [.eqA zM zM,.eqA Yl Yl,.eqA jhz jhz,.eqA jP jP]
theorem jvb:PQ 139 jiC (aI 0):=cq (.run 7 [] <| .use dd8 <| .use jit <| .use dd0 <| .use dd4 <| .run 1 [.none,(.ck 0),.none,(.ck 1),.none,(.ck 2),(.ck 3)] <| .run 1 [] <| .fin) [.eqA jr jr,.eqA zM zM,.eqA jQ jQ,.eqA jM jM]
theorem jqP:PQ 139 jjd (aI 0):=cq (.run 7 [] <| .use jex <| .use jit <| .use dd0 <| .use dd4 <| .run 1 [.none,(.ck 0),.none,(.ck 1),.none,(.ck 2),(.ck 3)] <| .run 1 [] <| .fin) [.eqA j9 j9,.eqA zM zM,.eqA jQ jQ,.eqA jM jM]
theorem jr2:PQ 139 jhh (aI 0):=cq (.run 7 [] <| .use ZK <| .use jit <| .use dd0 <| .use dd4 <| .run 1 [.none,(.ck 0),.none,(.ck 1),.none,(.ck 2),(.ck 3)] <| .run 1 [] <| .fin) [.eqA jo jo,.eqA zM zM,.eqA jQ jQ,.eqA jM jM]
theorem jqv:PQ 199 G4 (.d (.v (.bool false))):=cq (.run 12 [] <| .fin) []
theorem jvT:PQ 212 G4 (.d (.v (.float .f64 4602678819172646912))):=cq (.run 7 [] <| .run 1 [(.ext (.int .u64 4602678819172646912))] <| .run 1 [] <| .run 1 [(.ext (.float .f64 4602678819172646912))] <| .run 3 [] <| .fin) [(.prop (∀ (w:World),Sem.run cfz.P (callFunc 220 #[Value.float FloatKind.f64 4602678819172646912]) w=Result.ok (Next.value (Value.int IntKind.u64 4602678819172646912)) w)),(.prop (∀ (w:World),Sem.run cfz.P (callFunc 219 #[Value.int IntKind.u64 4602678819172646912]) w=Result.ok (Next.value (Value.float FloatKind.f64 4602678819172646912)) w))] (hp:=⟨(fun w=>jX (by kernel_rfl) w),⟨(fun w=>jX (by kernel_rfl) w),trivial⟩⟩)
theorem jrT:PQ 200 jjo (.d (.v (.bool false))):=cq (.run 13 [] <| .use jvT <| .run 1 [(.ck 0)] <| .run 9 [] <| .fin) [.eqA G4 G4]
theorem jva:PQ 181 Z6 (.d (.v (.bool false))):=cq (.run 8 [] <| .use jqv <| .run 1 [(.ck 0)] <| .run 3 [] <| .use jrT <| .run 1 [(.br false),(.ck 1)] <| .run 4 [] <| .fin) [.eqA G4 G4,.eqA jjo jjo]
theorem jwb:PQ 201 jid (.d (.v (.float .f64 4620693217682128896))):=cq (.run 9 [] <| .run 1 [(.ext (.float .f64 4620693217682128896))] <| .run 3 [] <| .fin) [(.prop (∀ (w:World),Sem.run cfz.P (callFunc 213 #[Value.float FloatKind.f64 4620693217682128896]) w=Result.ok (Next.value (Value.float FloatKind.f64 4620693217682128896)) w))] (hp:=⟨(fun w=>jX (by kernel_rfl) w),trivial⟩)
theorem jvZ:PQ 182 jlm (aI 0):=cq (.run 19 [] <| .use jwb <| .run 1 [(.br false),(.ck 0)] <| .run 5 [] <| .use jnV <| .run 1 [(.ck 1)] <| .run 3 [] <| .fin) [.eqA jid jid,.eqA jQ jQ]
theorem juo:PQ 160 Z6 (aI 0):=cq (.run 7 [] <| .use jva <| .run 1 [(.ck 0)] <| .use jna <| .run 1 [(.ck 1)] <| .run 1 [] <| .use jvZ <| .run 1 [(.ck 2)] <| .run 1 [] <| .use jnl <| .run 1 [(.ck 3)] <| .run 3 [] <| .fin) [.eqA Z6 Z6,.eqA Yl Yl,.eqA jlm jlm,.eqA jP jP]
theorem jvG:PQ 139 jhr (aI 0):=cq (.run 7 [] <| .use jqi <| .use juo <| .use dd0 <| .use dd4 <| .run 1 [.none,(.ck 0),.none,(.ck 1),.none,(.ck 2),(.ck 3)] <| .run 1 [] <| .fin) [.eqA Km Km,.eqA Z6 Z6,.eqA jQ jQ,.eqA jM jM]
theorem jvQ:PQ 138 joy qd183:=cq (.run 37 [] <| .use jvb <| .run 1 [(.ck 0)] <| .run 1 [] <| .run 1 [.mg] <| .run 28 [] <| .use jqP <| .run 1 [(.ck 1)] <| .run 1 [] <| .run 1 [.mg] <| .run 28 [] <| .use jr2 <| .run 1 [(.ck 2)] <| .run 1 [] <| .run 1 [.mg] <| .run 28 [] <| .use jvG <| .run 1 [(.ck 3)] <| .run 1 [] <| .run 1 [.mg] <| .run 21 [] <| .fin) [.eqA jiC jiC,.eqA jjd jjd,.eqA jhh jhh,.eqA jhr jhr]
theorem ju4:PQ 98 jeV (aI 0):=cq (.run 7 [] <| .use dd5 <| .use dd6 <| .use jvQ <| .use jd4 <| .use dd4 <| .run 1 [.none,(.ck 0),.none,(.ck 1),(.ck 2),(.ck 3),(.ck 4)] <| .run 1 [] <| .fin) [.eqA JS JS,.eqA JC JC,.eqA joy joy,.eqA KR KR,.eqA jM jM]
theorem juq:PQ 140 Z6 (aI 8):=cq (.run 12 [] <| .fin) []
theorem jqM:PQ 99 jpp (aI 8):=cq (.run 130 [] <| .use juq <| .run 1 [(.ck 0)] <| .run 22 [] <| .fin) [.eqA Z6 Z6]
theorem jry:PQ 37 qd4 qd280:=cq (.run 9 [] <| .use ju4 <| .use ji0 <| .use zz <| .run 1 [.none,(.ck 0),.none,(.ck 1),(.ck 2)] <| .run 12 [] <| .use jcM <| .run 1 [(.ck 3)] <| .run 8 [] <| .use jqM <| .run 1 [(.ck 4)] <| .run 4 [] <| .fin) [.eqA jeV jeV,.eqA kV kV,.eqA jP jP,.eqA kV kV,.eqA jpp jpp]
theorem jvP:PQ 30 jot (.d (.v (.bool true))):=cq (.run 181 [] <| .fin) []
noncomputable def jlz:CT cfz:=.run 307 [] <|  .fin
theorem jo8:Jj cfz 8 50 jlz [] (ent cfz 50 jie)=some ((.d (.v (.bool true))),[]):=by kernel_rfl
theorem jqK:PQ 50 jie (.d (.v (.bool true))):=jA jJ (by kernel_rfl) ((jF cfz 8 50 jlz [] (ent cfz 50 jie)).symm.trans jo8) trivial
theorem jse:PQ 30 joE (.d (.v (.bool true))):=cq (.run 109 [] <| .fin) []
theorem jub:PQ 30 jjt (.d (.v (.bool true))):=cq (.run 61 [] <| .fin) []
theorem jrz:PQ 30 jkw (.d (.v (.bool true))):=cq (.run 85 [] <| .fin) []
theorem js7:PQ 69 jhn (.d (.v (.bool true))):=cq (.run 14 [] <| .fin) []
theorem jsI:PQ 30 jlg (.d (.v (.bool true))):=cq (.run 85 [] <| .fin) []
noncomputable def jkV:CT cfz:=.run 259 [] <|  .fin
theorem jpx:Jj cfz 8 50 jkV [] (ent cfz 50 jk4)=some ((.d (.v (.bool true))),[]):=by kernel_rfl
theorem jum:PQ 50 jk4 (.d (.v (.bool true))):=jA jJ (by kernel_rfl) ((jF cfz 8 50 jkV [] (ent cfz 50 jk4)).symm.trans jpx) trivial
noncomputable def jkx:CT cfz:=.run 6 [] <| .use aw0 <| .run 1 [(.ck 0)] <| .run 1 [] <| .use jxV <| .run 1 [(.ck 1)] <| .run 8 [] <| .run 1 [(.ck 0)] <| .run 1 [] <| .use jxU <| .run 1 [(.ck 2)] <| .run 8 [] <| .run 1 [(.ck 0)] <| .run 1 [] <| .use jzi <| .run 1 [(.ck 3)] <| .run 8 [] <| .run 1 [(.ck 0)] <| .run 1 [] <| .use jwN <| .run 1 [(.ck 4)] <| .run 10 [] <| .use jtL <| .run 1 [(.ck 5)] <| .run 8 [] <| .run 1 [(.ck 0)] <| .run 1 [] <| .run 1 [(.call jqs qd70)] <| .run 10 [] <| .run 1 [(.ck 0)] <| .run 1 [] <| .run 1 [(.call jl7 qd272)] <| .run 10 [] <| .run 1 [(.ck 0)] <| .run 2 [] <| .use jyM <| .run 1 [(.ck 6)] <| .run 19 [] <| .run 1 [(.ck 0)] <| .run 1 [] <| .use jy4 <| .run 1 [(.ck 7)] <| .run 34 [] <| .use jvf <| .run 1 [(.br false),(.ck 8)] <| .run 5 [] <| .use jr0 <| .run 1 [(.br false),(.ck 9)] <| .run 5 [] <| .use jvA <| .run 1 [(.br false),(.ck 10)] <| .run 5 [] <| .use jr7 <| .run 1 [(.br false),(.ck 11)] <| .run 9 [] <| .run 1 [(.br false),(.ck 10)] <| .run 5 [] <| .use jrJ <| .run 1 [(.br false),(.ck 12)] <| .run 5 [] <| .run 1 [(.br false),(.ck 10)] <| .run 5 [] <| .use jrj <| .run 1 [(.br false),(.ck 13)] <| .run 5 [] <| .run 1 [(.br false),(.ck 10)] <| .run 14 [] <| .use jtg <| .run 1 [(.ck 14)] <| .run 9 [] <| .use jvn <| .run 1 [(.ck 15)] <| .run 8 [] <| .use jt7 <| .run 1 [(.ck 16)] <| .run 8 [] <| .run 1 [(.ck 0)] <| .use jtA <| .run 1 [(.ck 17)] <| .run 8 [] <| .run 1 [(.ck 0)] <| .use jtp <| .run 1 [(.ck 18)] <| .run 8 [] <| .run 1 [(.ck 0)] <| .use jqQ <| .run 1 [(.ck 19)] <| .run 12 [] <| .use jwe <| .run 1 [(.ck 20)] <| .run 11 [] <| .use jsH <| .run 1 [(.ck 21)] <| .run 9 [] <| .use juu <| .run 1 [(.ck 22)] <| .run 8 [] <| .run 1 [(.ck 0)] <| .run 1 [] <| .use jrQ <| .run 1 [(.ck 23)] <| .run 8 [] <| .run 1 [(.ck 0)] <| .run 1 [] <| .use jtj <| .run 1 [(.ck 24)] <| .run 8 [] <| .run 1 [(.ck 0)] <| .run 1 [] <| .use jyv <| .run 1 [(.ck 25)] <| .run 8 [] <| .run 1 [(.ck 0)] <| .run 1 [] <| .use jtk <| .run 1 [(.ck 26)] <| .run 9 [] <| .use jvu <| .run 1 [(.ck 27)] <| .run 8 [] <| .run 1 [(.ck 0)] <| .run 2 [] <| .use jry <| .run 1 [(.ck 28)] <| .run 41 [] <| .use jvP <| .run 1 [(.br true),(.ck 29)] <| .run 6 [] <| .use jqK <| .run 1 [(.br true),(.ck 30)] <| .run 18 [] <| .use jse <| .run 1 [(.br true),(.ck 31)] <| .run 4 [] <| .use jub <| .run 1 [(.br true),(.ck 32)] <| .run 4 [] <| .use jrz <| .run 1 [(.br true),(.ck 33)] <| .run 4 [] <| .use js7 <| .run 1 [(.br true),(.ck 34)] <| .run 8 [] <| .use jsI <| .run 1 [(.br true),(.ck 35)] <| .run 13 [] <| .use jum <| .run 1 [(.br true),(.ck 36)] <| .run 8 [] <|  .fin
theorem jpS:Jj cfz 8 15 jkx [] (ent cfz 15 [])=some ((.d (.v (.bool true))),[.eqA [] [],.eqA gB gB,.eqA [] [],.eqA gD gD,.eqA [] [],.eqA Yd Yd,.eqA [] [],.eqA yT yT,.eqA jgD jgD,.eqA [] [],(.prop ([AV.agg [AV.d (ZC (vI 4)),AV.d (ZC (vI 2))],AV.d (DV.sl 4 [vI 10,vI 5,vI 1,vI 7]),AV.d (DV.v (Value.slice none 0 0))]=[AV.agg [AV.d (vI 4),AV.d (vI 2)],AV.d (DV.sl 4 [vI 10,vI 5,vI 1,vI 7]),AV.d (DV.v (Value.slice none 0 0))])),(.prop (PQ 31 [AV.agg [AV.d (vI 4),AV.d (vI 2)],AV.d (DV.sl 4 [vI 10,vI 5,vI 1,vI 7]),AV.d (DV.v (Value.slice none 0 0))] (AV.tup [AV.d (DV.sl 4 [vI 10,vI 5,vI 1,vI 0]),AV.d (DV.sl 1 [vI 3]),AV.d (vI 0)]))),.eqA [] [],(.prop ([AV.agg [AV.d (ZC (vI 4)),AV.d (ZC (vI 2))],AV.d (DV.sl 4 [vI 10,vI 6,vI 1,vI 7]),AV.d (DV.v (Value.slice none 0 0))]=[AV.agg [AV.d (vI 4),AV.d (vI 2)],AV.d (DV.sl 4 [vI 10,vI 6,vI 1,vI 7]),AV.d (DV.v (Value.slice none 0 0))])),(.prop (PQ 31 [AV.agg [AV.d (vI 4),AV.d (vI 2)],AV.d (DV.sl 4 [vI 10,vI 6,vI 1,vI 7]),AV.d (DV.v (Value.slice none 0 0))] (AV.tup [AV.d (DV.sl 0 []),AV.d (DV.sl 0 []),AV.d (vI 27)]))),.eqA [] [],.eqA Gy Gy,.eqA [] [],.eqA jeV jeV,.eqA jjn jjn,.eqA jla jla,.eqA ja6 ja6,.eqA jqp jqp,.eqA ja6 ja6,.eqA jiq jiq,.eqA ja6 ja6,.eqA jhk jhk,.eqA ja6 ja6,.eqA jjC jjC,.eqA jlB jlB,.eqA G9 G9,.eqA [] [],.eqA jgT jgT,.eqA [] [],.eqA jlw jlw,.eqA [] [],.eqA jhO jhO,.eqA jk8 jk8,.eqA jk0 jk0,.eqA ZG ZG,.eqA [] [],.eqA kV kV,.eqA [] [],.eqA kV kV,.eqA [] [],.eqA jeV jeV,.eqA [] [],.eqA zC zC,.eqA jkf jkf,.eqA [] [],.eqA qd4 qd4,.eqA jot jot,.eqA jie jie,.eqA joE joE,.eqA jjt jjt,.eqA jkw jkw,.eqA jhn jhn,.eqA jlg jlg,.eqA jk4 jk4]):=by kernel_rfl
theorem jt2:PQ 15 [] (.d (.v (.bool true))):=jA jJ (by kernel_rfl) ((jF cfz 8 15 jkx [] (ent cfz 15 [])).symm.trans jpS) ⟨rfl,⟨rfl,⟨rfl,⟨rfl,⟨rfl,⟨rfl,⟨rfl,⟨rfl,⟨rfl,⟨rfl,⟨rfl,⟨jr6,⟨rfl,⟨rfl,⟨juY,⟨rfl,rfl,rfl,rfl,rfl,rfl,rfl,rfl,rfl,rfl,rfl,rfl,rfl,rfl,rfl,rfl,rfl,rfl,rfl,rfl,rfl,rfl,rfl,rfl,rfl,rfl,rfl,rfl,rfl,rfl,rfl,rfl,rfl,rfl,rfl,rfl,rfl,rfl,rfl,rfl,rfl,rfl,rfl,rfl,trivial⟩⟩⟩⟩⟩⟩⟩⟩⟩⟩⟩⟩⟩⟩⟩⟩
noncomputable def F15:Option (Bool):=some true
theorem Za:F15=some true:=rfl
def jsf (v:Bool):AV:=(.d (.v (.bool v)))
theorem f15 (v:Bool) (h:F15=some v):PQ 15 [] (jsf v):=by
  cases (Option.some.inj h)
  exact jt2
end Go.Kv
