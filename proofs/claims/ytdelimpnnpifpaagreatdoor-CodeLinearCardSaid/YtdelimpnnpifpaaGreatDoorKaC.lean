import Derived.Test.YtdelimpnnpifpaaGreatDoorGAl
import Derived.Test.YtdelimpnnpifpaaGreatDoorKaB
import Derived.Test.YtdelimpnnpifpaaGreatDoorKIs
import Derived.Test.YtdelimpnnpifpaaGreatDoorGNr
set_option linter.all false
namespace Go.Kv
open Go Go.RowKit Go.Proofs
set_option maxRecDepth 100000
def dl:List DV:=[vI 10,.v (.float .f32 1065353216),vI 5,.v (.float .f32 1065353216),vI 1,.v (.float .f32 1065353216),vI 7,.v (.float .f32 1056964608)]
theorem jbN:jeA 1065353216=some 16:=by
 unfold jeA; rw [jf]; simp only [jl9,jg,PC.holds,jp]
 rw [jm (by kernel_rfl),jm (by kernel_rfl)]
 rw [show jii FloatKind.f32 (jgb BinOp.mul FloatKind.f32 1098907648 1065353216) IntKind.i64=16 by kernel_rfl]; rfl
theorem joD:jeA 1056964608=some 8:=by
 unfold jeA; rw [jf]; simp only [jl9,jg,PC.holds,jp]
 rw [jm (by kernel_rfl),jm (by kernel_rfl)]
 rw [show jii FloatKind.f32 (jgb BinOp.mul FloatKind.f32 1098907648 1056964608) IntKind.i64=8 by kernel_rfl]; rfl
theorem Zu (w:List DV) (i:Nat) (hi:i<4) (s x z lv:Int) (f:Nat) (hs:0≤s∧s≤1000) (hlv:0≤lv∧lv≤1000) (hw:w.length=4)
  (h1:(dl.drop (i*2)).take 2=[vI x,.v (.float .f32 f)]) (h2:(w.drop i)[0]? = some (vI z)) (hf:jeA f=some lv) :
  res B99 (.c1 4 w s 4 dl 4 (i:Int))=res B99 (.c1 4 w (s+if x=z then 0 else lv) 4 dl 4 ((i+1:Nat):Int)):=by
 have g0:dl.length=8:=rfl
 have q1:cel dl (i*2)=vI x:=by
  have e:=congrArg (fun l=>l[0]?) h1
  rw [List.getElem?_take_of_lt (by omega),List.getElem?_drop] at e
  have e':dl[i*2]? = some (vI x):=by simpa using e
  unfold cel; rw [List.getD_eq_getElem?_getD,e']; rfl
 have q2:cel dl (i*2+1)=.v (.float .f32 f):=by
  have e:=congrArg (fun l=>l[1]?) h1
  rw [List.getElem?_take_of_lt (by omega),List.getElem?_drop] at e
  have e':dl[i*2+1]? = some (.v (.float .f32 f)):=by simpa using e
  unfold cel; rw [List.getD_eq_getElem?_getD,e']; rfl
 have q3:cel w i=vI z:=by
  rw [List.getElem?_drop] at h2
  have e':w[i]? = some (vI z):=by simpa using h2
  unfold cel; rw [List.getD_eq_getElem?_getD,e']; rfl
 have e1:dI (cel dl (i*2))=x:=by rw [q1]; rfl
 have e2:dF (cel dl (i*2+1))=f:=by rw [q2]; rfl
 have e3:dI (cel w i)=z:=by rw [q3]; rfl
 rw [jf]
 have a1:(i:Int)<4:=by omega
 have a2:0≤(i:Int):=by omega
 have a3:i*2≤8:=by omega
 have a4:2≤(dl.drop (i*2)).length:=by simp [g0]; omega
 have a5:i*1≤4:=by omega
 have a6:je ((i:Int)+1):=by unfold je; omega
 have a7:(i:Int)<((4:Nat):Int):=by omega
 simp only [B99,jj,a1,decide_true,if_true,jg,jd,PC.holds,Int.toNat_natCast,a2,a7,g0,a3,a4,h1,e1,e2,e3,hw,Nat.mul_one,h2,List.map_cons,List.map_nil,Option.map_some,hf,jc,jq,a6,jk]
 rw [jm (by omega)]
 by_cases hx:x=z
 ·subst hx
  simp only [bne_self_eq_false,Bool.false_eq_true,if_false,if_true,jb,Int.add_zero]
  rfl
 ·have hx2:(x != z)=true:=by simpa using hx
  simp only [hx2,hx,if_true,if_false]
  rw [jm (by unfold je; omega),jb]
  rfl
theorem jfu (a b c d:Int):F99 4 dl 4 (wD [a,b,c,d])=some (jjh a b c d):=by
 unfold F99; rw [jf]; simp only [B99,jk,jb]
 obtain ⟨x0,h0⟩:∃ x:Int,x=if 10=a then 0 else 16:=⟨_,rfl⟩
 obtain ⟨x1,h1⟩:∃ x:Int,x=if 5=b then 0 else 16:=⟨_,rfl⟩
 obtain ⟨x2,h2⟩:∃ x:Int,x=if 1=c then 0 else 16:=⟨_,rfl⟩
 obtain ⟨x3,h3⟩:∃ x:Int,x=if 7=d then 0 else 8:=⟨_,rfl⟩
 have b0:0≤x0∧x0≤16:=by rw [h0]; split <;> omega
 have b1:0≤x1∧x1≤16:=by rw [h1]; split <;> omega
 have b2:0≤x2∧x2≤16:=by rw [h2]; split <;> omega
 have s0:=Zu (wD [a,b,c,d]) 0 (by omega) 0 10 a 16 1065353216 (by omega) (by omega) rfl rfl rfl jbN
 rw [← h0] at s0
 have s1:=Zu (wD [a,b,c,d]) 1 (by omega) (0+x0) 5 b 16 1065353216 (by omega) (by omega) rfl rfl rfl jbN
 rw [← h1] at s1
 have s2:=Zu (wD [a,b,c,d]) 2 (by omega) (0+x0+x1) 1 c 16 1065353216 (by omega) (by omega) rfl rfl rfl jbN
 rw [← h2] at s2
 have s3:=Zu (wD [a,b,c,d]) 3 (by omega) (0+x0+x1+x2) 7 d 8 1056964608 (by omega) (by omega) rfl rfl rfl joD
 rw [← h3] at s3
 show res B99 (.c1 4 (wD [a,b,c,d]) 0 4 dl 4 ((0:Nat):Int))=_
 rw [s0,s1,s2,s3,jf]
 have h:¬ (((3+1:Nat):Int)<4):=by omega
 simp only [B99,jj,h,decide_false,Bool.false_eq_true,if_false,jp,ji]
 unfold jjh
 rw [h0,h1,h2,h3]
 congr 1
 simp only [eq_comm (a:=(10:Int)),eq_comm (a:=(5:Int)),eq_comm (a:=(1:Int)),eq_comm (a:=(7:Int)),Int.zero_add]
end Go.Kv
namespace Go.Kv
open Go Go.RowKit Go.Proofs
set_option maxRecDepth 100000
theorem jG (a:Int):jx a=some (a % 17):=by
 have e:=Int.mul_tdiv_add_tmod a 17
 have h1:=Int.tmod_lt_of_pos a (show (0:Int)<17 by omega)
 have h2:=Int.lt_tmod_of_pos a (show (0:Int)<17 by omega)
 have t:(a.tmod 17+17).tmod 17=a % 17:=by
  rw [Int.tmod_eq_emod_of_nonneg (by omega)]
  omega
 unfold jx; rw [jf]
 simp only [jd8,jg,PC.holds,jp,t]
 rw [jm (by unfold je; omega)]; rfl
theorem jhZ:jaU 1=some 3:=by
 unfold jaU; rw [jf]; simp only [jdM,jg,PC.holds,jp]
 rw [jm (by decide),jm (by decide),jm (by decide),jm (by rfl)]; rfl
theorem jmB (l:List Int) (v:Int) (hl:l.length≤300) (k:Nat) (hk:k<l.length) (hv:l.getD k 0=v) (hn:∀ j,j<k→l.getD j 0≠v):jaX l.length (l.map vI) v=some (k:Int):=by
 have loop:∀ (m i:Nat),k=i+m→res Gp (.c1 l.length (l.map vI) v (l.length:Int) (i:Int))=some (k:Int):=by
  intro m
  induction m with
  | zero =>
   intro i h
   have:i=k:=by omega
   subst this
   have g1:=j5 hk
   rw [jf]
   have h1:(i:Int)<(l.length:Int):=by omega
   have h4:0≤(i:Int):=by omega
   have h5:(v==v)=true:=by simp
   simp only [Gp,jj,h1,decide_true,if_true,jg,jd,PC.holds,h4,Int.toNat_natCast,Nat.mul_one,ju,hv,g1,jp,h5]
   rw [jm (by simp; omega),ji]
  | succ m ih =>
   intro i h
   have hi:i<l.length:=by omega
   have g1:=j5 hi
   have hne:=hn i (by omega)
   rw [jf]
   have h1:(i:Int)<(l.length:Int):=by omega
   have h4:0≤(i:Int):=by omega
   have h3:je ((i:Int)+1):=by unfold je; omega
   have h5:(v==l.getD i 0)=false:=by simpa using fun e=>hne e.symm
   have h12:(i:Int)+1=((i+1:Nat):Int):=by omega
   simp only [Gp,jj,h1,decide_true,if_true,jg,jd,PC.holds,h4,Int.toNat_natCast,Nat.mul_one,ju,g1,jk,h5,h3,Bool.false_eq_true,if_false]
   rw [jm (by simp; omega),jb,h12]
   exact ih (i+1) (by omega)
 unfold jaX; rw [jf]
 simp only [Gp,jk,jb]
 exact loop k 0 (by omega)
theorem jcd:Ga 6=some 3:=by
 have h:jaX 16 (pwT.map vI) 6=some ((15:Nat):Int):=jmB pwT 6 (by decide) 15 (by decide) (by decide) (by decide)
 unfold Ga; rw [jf]
 simp only [jdR,show [DV.v (.int .i64 1),DV.v (.int .i64 3),DV.v (.int .i64 9),DV.v (.int .i64 10),DV.v (.int .i64 13),DV.v (.int .i64 5),DV.v (.int .i64 15),DV.v (.int .i64 11),DV.v (.int .i64 16),DV.v (.int .i64 14),DV.v (.int .i64 8),DV.v (.int .i64 7),DV.v (.int .i64 4),DV.v (.int .i64 12),DV.v (.int .i64 2),DV.v (.int .i64 6)]=pwT.map vI from rfl,h,jc,jq,jg,PC.holds,show (16:Int) - ((15:Nat):Int)=1 by decide,jhZ,jp]
 rw [jm (by decide)]; rfl
theorem qj (t:Nat):∀ l:List DV,y7 (l.map AV.d)=true
 | []=>rfl
 | x :: l=>by rw [List.map_cons]; unfold y7; exact qj t l
theorem gc (k:Nat):∀ l:List DV,ko k (l.map AV.d)=true
 | []=>rfl
 | x :: l=>by rw [List.map_cons]; unfold ko; rw [gc k l]; rfl
theorem GH:∀ l:List DV,toDs (l.map AV.d)=some l
 | []=>rfl
 | x :: l=>by rw [List.map_cons]; unfold toDs; rw [GH l]; rfl
theorem je1 (l:List DV):List.map aD (l.map AV.d)=l:=by rw [List.map_map]; simp [Function.comp_def,aD]
theorem jdA:jx 0=some 0:=by rw [jG]; rfl
theorem jb4:jx 1=some 1:=by rw [jG]; rfl
theorem jdw:jx 3=some 3:=by rw [jG]; rfl
theorem jdn:jx 6=some 6:=by rw [jG]; rfl
theorem jaf:jx 18=some 1:=by rw [jG]; rfl
theorem joI (n:Nat) (h1:1≤n) (h2:n<289) (c:List DV) (hc:c.length=n*2) :
  res B97 (.c2 n n (n:Int) (c.map AV.d))=res B97 (.c2 (n+1) (n+1) ((n+1:Nat):Int) ((c++(QD n).cells).map AV.d)):=by
 have hlt:(n:Int)<289:=by omega
 have hw:QD n=⟨(10*((n % 17:Nat):Int)+((n / 17:Nat):Int)) % 17,(5*((n % 17:Nat):Int)+2*((n / 17:Nat):Int)) % 17,((n % 17:Nat):Int),((n / 17:Nat):Int),_⟩:=rfl
 rw [hw]
 rw [jf]
 have ha:((n:Nat):Int).tmod 17=((n % 17:Nat):Int):=by rw [Int.tmod_eq_emod_of_nonneg (by omega)]; omega
 have hb:((n:Nat):Int).tdiv 17=((n / 17:Nat):Int):=by rw [Int.tdiv_eq_ediv_of_nonneg (by omega)]; omega
 have hb1:(((n / 17:Nat)):Int).tmod 17=((n / 17:Nat):Int):=by rw [Int.tmod_eq_emod_of_nonneg (by omega)]; omega
 have hb2:(((n / 17:Nat)):Int).tdiv 17=0:=by rw [Int.tdiv_eq_ediv_of_nonneg (by omega)]; omega
 have la:n % 17≤16:=by omega
 have lb:n / 17≤16:=by omega
 generalize n % 17=a at ha la ⊢
 generalize n / 17=b at hb hb1 hb2 lb ⊢
 obtain ⟨m70,em70,qm70⟩:∃ m:Int,jx (0+(a:Int)*9)=some m∧m=(0+(a:Int)*9) % 17:=⟨_,jG _,rfl⟩
 obtain ⟨m72,em72,qm72⟩:∃ m:Int,jx (m70+(b:Int)*10)=some m∧m=(m70+(b:Int)*10) % 17:=⟨_,jG _,rfl⟩
 obtain ⟨m74,em74,qm74⟩:∃ m:Int,jx (0+(a:Int)*13)=some m∧m=(0+(a:Int)*13) % 17:=⟨_,jG _,rfl⟩
 obtain ⟨m76,em76,qm76⟩:∃ m:Int,jx (m74+(b:Int)*15)=some m∧m=(m74+(b:Int)*15) % 17:=⟨_,jG _,rfl⟩
 obtain ⟨m77,em77,qm77⟩:∃ m:Int,jx (-m72)=some m∧m=(-m72) % 17:=⟨_,jG _,rfl⟩
 obtain ⟨m78,em78,qm78⟩:∃ m:Int,jx (-m76)=some m∧m=(-m76) % 17:=⟨_,jG _,rfl⟩
 obtain ⟨m82,em82,qm82⟩:∃ m:Int,jx (m77*1)=some m∧m=(m77*1) % 17:=⟨_,jG _,rfl⟩
 obtain ⟨m85,em85,qm85⟩:∃ m:Int,jx (m78 - 1*m82)=some m∧m=(m78 - 1*m82) % 17:=⟨_,jG _,rfl⟩
 obtain ⟨m89,em89,qm89⟩:∃ m:Int,jx (m85*3)=some m∧m=(m85*3) % 17:=⟨_,jG _,rfl⟩
 obtain ⟨m92,em92,qm92⟩:∃ m:Int,jx (m82 - 3*m89)=some m∧m=(m82 - 3*m89) % 17:=⟨_,jG _,rfl⟩
 have h72:m72=(9*(a:Int)+10*(b:Int)) % 17:=by clear ha hb hb1 hb2 qm74 qm76 qm77 qm78 qm82 qm85 qm89 qm92; omega
 have h76:m76=(13*(a:Int)+15*(b:Int)) % 17:=by clear ha hb hb1 hb2 qm70 qm72 qm77 qm78 qm82 qm85 qm89 qm92 h72; omega
 have h77:m77=(-(9*(a:Int)+10*(b:Int))) % 17:=by clear ha hb hb1 hb2 qm70 qm72 qm74 qm76 qm78 qm82 qm85 qm89 qm92 h76; omega
 have h78:m78=(-(13*(a:Int)+15*(b:Int))) % 17:=by clear ha hb hb1 hb2 qm70 qm72 qm74 qm76 qm77 qm82 qm85 qm89 qm92 h72 h77; omega
 have h82:m82=m77:=by clear ha hb hb1 hb2 qm70 qm72 qm74 qm76 qm78 qm85 qm89 qm92 h72 h76 h78; omega
 have h85:m85=(-(4*(a:Int)+5*(b:Int))) % 17:=by clear ha hb hb1 hb2 qm70 qm72 qm74 qm76 qm77 qm78 qm82 qm89 qm92 h72 h76; omega
 have w1:m89=(5*(a:Int)+2*(b:Int)) % 17:=by clear ha hb hb1 hb2 qm70 qm72 qm74 qm76 qm77 qm78 qm82 qm85 qm92 h72 h76 h77 h78 h82; omega
 have w0:m92=(10*(a:Int)+(b:Int)) % 17:=by clear ha hb hb1 hb2 qm70 qm72 qm74 qm76 qm77 qm78 qm82 qm85 qm89 h72 h76 h78 h85; have h83:m82=(-(9*(a:Int)+10*(b:Int))) % 17:=(by rw [h82]; exact h77); clear h77 h82; omega
 have rm70:0≤m70∧m70<17:=by rw [qm70]; exact ⟨Int.emod_nonneg _ (by decide),Int.emod_lt_of_pos _ (by decide)⟩
 have rm72:0≤m72∧m72<17:=by rw [qm72]; exact ⟨Int.emod_nonneg _ (by decide),Int.emod_lt_of_pos _ (by decide)⟩
 have rm74:0≤m74∧m74<17:=by rw [qm74]; exact ⟨Int.emod_nonneg _ (by decide),Int.emod_lt_of_pos _ (by decide)⟩
 have rm76:0≤m76∧m76<17:=by rw [qm76]; exact ⟨Int.emod_nonneg _ (by decide),Int.emod_lt_of_pos _ (by decide)⟩
 have rm77:0≤m77∧m77<17:=by rw [qm77]; exact ⟨Int.emod_nonneg _ (by decide),Int.emod_lt_of_pos _ (by decide)⟩
 have rm78:0≤m78∧m78<17:=by rw [qm78]; exact ⟨Int.emod_nonneg _ (by decide),Int.emod_lt_of_pos _ (by decide)⟩
 have rm82:0≤m82∧m82<17:=by rw [qm82]; exact ⟨Int.emod_nonneg _ (by decide),Int.emod_lt_of_pos _ (by decide)⟩
 have rm85:0≤m85∧m85<17:=by rw [qm85]; exact ⟨Int.emod_nonneg _ (by decide),Int.emod_lt_of_pos _ (by decide)⟩
 have rm89:0≤m89∧m89<17:=by rw [qm89]; exact ⟨Int.emod_nonneg _ (by decide),Int.emod_lt_of_pos _ (by decide)⟩
 have rm92:0≤m92∧m92<17:=by rw [qm92]; exact ⟨Int.emod_nonneg _ (by decide),Int.emod_lt_of_pos _ (by decide)⟩
 clear h72 h76 h77 h78 h82 h85
 clear qm70 qm72 qm74 qm76 qm77 qm78 qm82 qm85 qm89 qm92
 have k81:=yG 4 (k:=2) (l:=[m92,m89,(a:Int),(b:Int)]) (by simp) (by decide) (by intro x hx; simp at hx; omega)
 have k99:=jfu m92 m89 (a:Int) (b:Int)
 simp only [List.length_cons,List.length_nil,List.map_cons,List.map_nil,Nat.reduceAdd,Int.cast_ofNat_Int] at k81
 simp only [dl,wD,List.map_cons,List.map_nil] at k99
 have h12:(n:Int)+1=((n+1:Nat):Int):=by omega
 have htk:List.take (n*2) (c.map AV.d)=c.map AV.d:=List.take_of_length_le (by simp [hc])
 rw [← w0,← w1]
 simp only [B97,hlt,jj,jg,PC.holds,jq,Jr,jk,jc,if_true,decide_true,jd,ha,hb,hb1,hb2,show qB=some () from rfl,show qq=some () from rfl,show qv=some () from rfl,show qm=some () from rfl,show qJ=some () from rfl,show qu=some () from rfl,show qt=some () from rfl,show qx=some () from rfl,jdA,jb4,jdw,jdn,jaf,jcd,em70,em72,em74,em76,em77,em78,em82,em85,em89,em92,k81,k99,Int.reduceMul,Int.reduceSub,Int.reduceNeg,Int.reduceAdd,show ((6:Int) != 0)=true from rfl,Nat.le_refl,htk]
 iterate 31 rw [jm (by first | omega | (unfold je; omega) | (unfold Jt; omega) | (simp [hc]; done))]
 rw [jm (by rw [← List.map_append]; exact qj 139 _),jm (by rw [← List.map_append]; exact gc 2 _),jb,h12,← List.map_append]
 rfl
theorem jfZ:res B97 (.c1 0)=res B97 (.c2 1 1 ((1:Nat):Int) (((QD 0).cells).map AV.d)):=by
 obtain ⟨n,hn⟩:∃ n:Nat,n=0:=⟨0,rfl⟩
 have hz:res B97 (.c1 (n:Int))=res B97 (.c2 1 1 ((n:Int)+1) (((QD n).cells).map AV.d)):=by
  have h2:n<289:=by omega
  have hlt:(n:Int)<289:=by omega
  have hw:QD n=⟨(10*((n % 17:Nat):Int)+((n / 17:Nat):Int)) % 17,(5*((n % 17:Nat):Int)+2*((n / 17:Nat):Int)) % 17,((n % 17:Nat):Int),((n / 17:Nat):Int),_⟩:=rfl
  rw [hw]
  rw [jf]
  have ha:((n:Nat):Int).tmod 17=((n % 17:Nat):Int):=by rw [Int.tmod_eq_emod_of_nonneg (by omega)]; omega
  have hb:((n:Nat):Int).tdiv 17=((n / 17:Nat):Int):=by rw [Int.tdiv_eq_ediv_of_nonneg (by omega)]; omega
  have hb1:(((n / 17:Nat)):Int).tmod 17=((n / 17:Nat):Int):=by rw [Int.tmod_eq_emod_of_nonneg (by omega)]; omega
  have hb2:(((n / 17:Nat)):Int).tdiv 17=0:=by rw [Int.tdiv_eq_ediv_of_nonneg (by omega)]; omega
  have la:n % 17≤16:=by omega
  have lb:n / 17≤16:=by omega
  generalize n % 17=a at ha la ⊢
  generalize n / 17=b at hb hb1 hb2 lb ⊢
  obtain ⟨m70,em70,qm70⟩:∃ m:Int,jx (0+(a:Int)*9)=some m∧m=(0+(a:Int)*9) % 17:=⟨_,jG _,rfl⟩
  obtain ⟨m72,em72,qm72⟩:∃ m:Int,jx (m70+(b:Int)*10)=some m∧m=(m70+(b:Int)*10) % 17:=⟨_,jG _,rfl⟩
  obtain ⟨m74,em74,qm74⟩:∃ m:Int,jx (0+(a:Int)*13)=some m∧m=(0+(a:Int)*13) % 17:=⟨_,jG _,rfl⟩
  obtain ⟨m76,em76,qm76⟩:∃ m:Int,jx (m74+(b:Int)*15)=some m∧m=(m74+(b:Int)*15) % 17:=⟨_,jG _,rfl⟩
  obtain ⟨m77,em77,qm77⟩:∃ m:Int,jx (-m72)=some m∧m=(-m72) % 17:=⟨_,jG _,rfl⟩
  obtain ⟨m78,em78,qm78⟩:∃ m:Int,jx (-m76)=some m∧m=(-m76) % 17:=⟨_,jG _,rfl⟩
  obtain ⟨m82,em82,qm82⟩:∃ m:Int,jx (m77*1)=some m∧m=(m77*1) % 17:=⟨_,jG _,rfl⟩
  obtain ⟨m85,em85,qm85⟩:∃ m:Int,jx (m78 - 1*m82)=some m∧m=(m78 - 1*m82) % 17:=⟨_,jG _,rfl⟩
  obtain ⟨m89,em89,qm89⟩:∃ m:Int,jx (m85*3)=some m∧m=(m85*3) % 17:=⟨_,jG _,rfl⟩
  obtain ⟨m92,em92,qm92⟩:∃ m:Int,jx (m82 - 3*m89)=some m∧m=(m82 - 3*m89) % 17:=⟨_,jG _,rfl⟩
  have h72:m72=(9*(a:Int)+10*(b:Int)) % 17:=by clear ha hb hb1 hb2 qm74 qm76 qm77 qm78 qm82 qm85 qm89 qm92; omega
  have h76:m76=(13*(a:Int)+15*(b:Int)) % 17:=by clear ha hb hb1 hb2 qm70 qm72 qm77 qm78 qm82 qm85 qm89 qm92 h72; omega
  have h77:m77=(-(9*(a:Int)+10*(b:Int))) % 17:=by clear ha hb hb1 hb2 qm70 qm72 qm74 qm76 qm78 qm82 qm85 qm89 qm92 h76; omega
  have h78:m78=(-(13*(a:Int)+15*(b:Int))) % 17:=by clear ha hb hb1 hb2 qm70 qm72 qm74 qm76 qm77 qm82 qm85 qm89 qm92 h72 h77; omega
  have h82:m82=m77:=by clear ha hb hb1 hb2 qm70 qm72 qm74 qm76 qm78 qm85 qm89 qm92 h72 h76 h78; omega
  have h85:m85=(-(4*(a:Int)+5*(b:Int))) % 17:=by clear ha hb hb1 hb2 qm70 qm72 qm74 qm76 qm77 qm78 qm82 qm89 qm92 h72 h76; omega
  have w1:m89=(5*(a:Int)+2*(b:Int)) % 17:=by clear ha hb hb1 hb2 qm70 qm72 qm74 qm76 qm77 qm78 qm82 qm85 qm92 h72 h76 h77 h78 h82; omega
  have w0:m92=(10*(a:Int)+(b:Int)) % 17:=by clear ha hb hb1 hb2 qm70 qm72 qm74 qm76 qm77 qm78 qm82 qm85 qm89 h72 h76 h78 h85; have h83:m82=(-(9*(a:Int)+10*(b:Int))) % 17:=(by rw [h82]; exact h77); clear h77 h82; omega
  have rm70:0≤m70∧m70<17:=by rw [qm70]; exact ⟨Int.emod_nonneg _ (by decide),Int.emod_lt_of_pos _ (by decide)⟩
  have rm72:0≤m72∧m72<17:=by rw [qm72]; exact ⟨Int.emod_nonneg _ (by decide),Int.emod_lt_of_pos _ (by decide)⟩
  have rm74:0≤m74∧m74<17:=by rw [qm74]; exact ⟨Int.emod_nonneg _ (by decide),Int.emod_lt_of_pos _ (by decide)⟩
  have rm76:0≤m76∧m76<17:=by rw [qm76]; exact ⟨Int.emod_nonneg _ (by decide),Int.emod_lt_of_pos _ (by decide)⟩
  have rm77:0≤m77∧m77<17:=by rw [qm77]; exact ⟨Int.emod_nonneg _ (by decide),Int.emod_lt_of_pos _ (by decide)⟩
  have rm78:0≤m78∧m78<17:=by rw [qm78]; exact ⟨Int.emod_nonneg _ (by decide),Int.emod_lt_of_pos _ (by decide)⟩
  have rm82:0≤m82∧m82<17:=by rw [qm82]; exact ⟨Int.emod_nonneg _ (by decide),Int.emod_lt_of_pos _ (by decide)⟩
  have rm85:0≤m85∧m85<17:=by rw [qm85]; exact ⟨Int.emod_nonneg _ (by decide),Int.emod_lt_of_pos _ (by decide)⟩
  have rm89:0≤m89∧m89<17:=by rw [qm89]; exact ⟨Int.emod_nonneg _ (by decide),Int.emod_lt_of_pos _ (by decide)⟩
  have rm92:0≤m92∧m92<17:=by rw [qm92]; exact ⟨Int.emod_nonneg _ (by decide),Int.emod_lt_of_pos _ (by decide)⟩
  clear h72 h76 h77 h78 h82 h85
  clear qm70 qm72 qm74 qm76 qm77 qm78 qm82 qm85 qm89 qm92
  have k81:=yG 4 (k:=2) (l:=[m92,m89,(a:Int),(b:Int)]) (by simp) (by decide) (by intro x hx; simp at hx; omega)
  have k99:=jfu m92 m89 (a:Int) (b:Int)
  simp only [List.length_cons,List.length_nil,List.map_cons,List.map_nil,Nat.reduceAdd,Int.cast_ofNat_Int] at k81
  simp only [dl,wD,List.map_cons,List.map_nil] at k99
  rw [← w0,← w1]
  simp only [B97,hlt,jj,jg,PC.holds,jq,Jr,jk,jc,if_true,decide_true,jd,ha,hb,hb1,hb2,show qB=some () from rfl,show qq=some () from rfl,show qv=some () from rfl,show qm=some () from rfl,show qJ=some () from rfl,show qu=some () from rfl,show qt=some () from rfl,show qx=some () from rfl,jdA,jb4,jdw,jdn,jaf,jcd,em70,em72,em74,em76,em77,em78,em82,em85,em89,em92,k81,k99,Int.reduceMul,Int.reduceSub,Int.reduceNeg,Int.reduceAdd,show ((6:Int) != 0)=true from rfl,Nat.le_refl]
  iterate 29 rw [jm (by first | omega | (unfold je; omega))]
  rw [jb]
  rfl
 subst hn
 exact hz
end Go.Kv
namespace Go.Kv
open Go Go.RowKit Go.Proofs
set_option maxRecDepth 100000
theorem jmD (n:Nat) (c:List DV) (hc:c.length=n*2) (hn:¬ (n:Int)<289) (hy:(QH 2 n c).length=n*2) (hin:Qg cfz.P cfz.glob 136 2 n c (.d (.v (.func (.func 137) #[] #[]))) (QH 2 n c)) :
  res B97 (.c2 n n (n:Int) (c.map AV.d))=some (n,QH 2 n c):=by
 have htk:List.take (n*2) (c.map AV.d)=c.map AV.d:=List.take_of_length_le (by simp [hc])
 have hdr:List.drop (n*2) (c.map AV.d)=[]:=List.drop_eq_nil_of_le (by simp [hc])
 have hix:Zv (c.map AV.d) n 2=c:=by unfold Zv; rw [htk,je1]
 have hw:ZC (DV.v (Value.func (Fn.func 137) #[] #[]))=DV.v (Value.func (Fn.func 137) #[] #[]):=rfl
 have htk2:List.take (n*2) ((QH 2 n c).map AV.d)=(QH 2 n c).map AV.d:=List.take_of_length_le (by simp [hy])
 rw [jf]
 simp only [B97,jj,hn,decide_false,Bool.false_eq_true,if_false,jg,PC.holds,htk,hdr,hix,hw,GH,je1,List.append_nil,List.drop_zero,htk2,jp,Nat.zero_add]
 rw [jm (by simp [hc]),jm trivial,jm hy,jm hin,jm (by simp [hy]),jm trivial,ji]
theorem jaR:∀ n:Nat,((List.range n).flatMap fun n=>(QD n).cells).length=n*2:=by
 intro n
 rw [QW (k:=2) _ (fun i=>rfl),List.length_range]
theorem jmU:∀ (m n:Nat),1≤n→289=n+m→res B97 (.c2 n n (n:Int) (((List.range n).flatMap fun n=>(QD n).cells).map AV.d))=res B97 (.c2 289 289 ((289:Nat):Int) (cellsT.map AV.d)):=by
 intro m
 induction m with
 | zero =>
  intro n _ h
  obtain rfl:n=289:=by omega
  rfl
 | succ m ih =>
  intro n h1 h
  rw [joI n h1 (by omega) _ (jaR n),← ih (n+1) (by omega) (by omega)]
  rw [List.range_succ,List.flatMap_append]
  simp
theorem jkk:F97=some (289,QH 2 289 cellsT):=by
 unfold F97; rw [jf]
 simp only [B97,jk,jb]
 rw [jfZ]
 have h:=jmU 288 1 (by omega) (by omega)
 have e:(List.range 1).flatMap (fun n=>(QD n).cells)=(QD 0).cells:=rfl
 rw [e] at h
 rw [h]
 exact jmD 289 cellsT (jaR 289) (by omega) (jmA 2 289 cellsT) (jp2 2 289 cellsT)
end Go.Kv
namespace Go.Kv
open Go Go.RowKit Go.Proofs
set_option maxRecDepth 100000
theorem jy4:PureCalls cfz.P cfz.glob 34 [.agg [aI 4,aI 2],.d (.sl 4 [vI 10,.v (.float .f32 1065353216),vI 5,.v (.float .f32 1065353216),vI 1,.v (.float .f32 1065353216),vI 7,.v (.float .f32 1056964608)])] (.tup [.d (.sl 4 [vI 10,vI 5,vI 1,vI 0]),aI 8,aI 0]):=by
 obtain ⟨w,rest,e⟩:=jno 2 289 cellsT
 have h:F34=some (4,[vI 10,vI 5,vI 1,vI 0],8):=by
  unfold F34; rw [jf]
  simp only [B34,show qF=some () from rfl,jc,jq,jkk,e,jg,PC.holds,jp]
  rw [jm (by decide),jm (by simp),jm (by simp),jm (by rfl)]
  rfl
 exact f34 _ h
theorem jyv:PureCalls cfz.P cfz.glob 36 [.agg [aI 4,aI 2],.d (.sl 4 [vI 10,.v (.float .f32 1065353216),vI 5,.v (.float .f32 1065353216),vI 1,.v (.float .f32 1065353216),vI 7,.v (.float .f32 1056964608)])] (.tup [aI 32,aI 0]):=by
 obtain ⟨w,rest,e⟩:=jno 2 289 cellsT
 have h:F36=some 32:=by
  unfold F36; rw [jf]
  simp only [B36,show qF=some () from rfl,jc,jq,jkk,e,jg,PC.holds,jp]
  rw [jm (by decide),jm (by simp),jm (by simp),jm (by rfl)]
  rfl
 exact f36 _ h
end Go.Kv
