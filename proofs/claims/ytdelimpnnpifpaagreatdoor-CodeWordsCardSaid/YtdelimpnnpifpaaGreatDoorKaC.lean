import Derived.Test.YtdelimpnnpifpaaGreatDoorGAl
import Derived.Test.YtdelimpnnpifpaaGreatDoorKaB
import Derived.Test.YtdelimpnnpifpaaGreatDoorKIs
import Derived.Test.YtdelimpnnpifpaaGreatDoorGNr
set_option linter.all false
namespace Go.Kv
open Go Go.RowKit Go.Proofs
set_option maxRecDepth 100000
def dl:List DV:=[vI 10,.v (.float .f32 1065353216),vI 5,.v (.float .f32 1065353216),vI 1,.v (.float .f32 1065353216),vI 7,.v (.float .f32 1056964608)]
theorem jbt:jeT 1065353216=some 16:=by
 unfold jeT; rw [jd]; simp only [jl8,jf,PC.holds,jl]
 rw [jn (by kernel_rfl),jn (by kernel_rfl)]
 rw [show jkv FloatKind.f32 (jgI BinOp.mul FloatKind.f32 1098907648 1065353216) IntKind.i64=16 by kernel_rfl]; rfl
theorem jqG:jeT 1056964608=some 8:=by
 unfold jeT; rw [jd]; simp only [jl8,jf,PC.holds,jl]
 rw [jn (by kernel_rfl),jn (by kernel_rfl)]
 rw [show jkv FloatKind.f32 (jgI BinOp.mul FloatKind.f32 1098907648 1056964608) IntKind.i64=8 by kernel_rfl]; rfl
theorem ZO (w:List DV) (i:Nat) (hi:i<4) (s x z lv:Int) (f:Nat) (hs:0≤s∧s≤1000) (hlv:0≤lv∧lv≤1000) (hw:w.length=4)
  (h1:(dl.drop (i*2)).take 2=[vI x,.v (.float .f32 f)]) (h2:(w.drop i)[0]? = some (vI z)) (hf:jeT f=some lv) :
  res B99 (.c1 4 w s 4 dl 4 (i:Int))=res B99 (.c1 4 w (s+if x=z then 0 else lv) 4 dl 4 ((i+1:Nat):Int)):=by
 have g0:dl.length=8:=rfl
 have q1:cel dl (i*2)=vI x:=by
  have e:=congrArg (fun l=>l[0]?) h1
  rw [List.getElem?_take_of_lt (by omega),List.getElem?_drop] at e
  have e':dl[i*2]? = some (vI x):=by simpa using e
  unfold cel; rw [List.getD_eq_getElem?_getD,e']; rfl
 have q2:cel dl (i*2+1)=.v (.float .f32 f):=by
  have e:=congrArg (fun l=>l[1]?) h1
  rw [List.getElem?_take_of_lt (by omega),List.getElem?_drop] at e
  have e':dl[i*2+1]? = some (.v (.float .f32 f)):=by simpa using e
  unfold cel; rw [List.getD_eq_getElem?_getD,e']; rfl
 have q3:cel w i=vI z:=by
  rw [List.getElem?_drop] at h2
  have e':w[i]? = some (vI z):=by simpa using h2
  unfold cel; rw [List.getD_eq_getElem?_getD,e']; rfl
 have e1:dI (cel dl (i*2))=x:=by rw [q1]; rfl
 have e2:dF (cel dl (i*2+1))=f:=by rw [q2]; rfl
 have e3:dI (cel w i)=z:=by rw [q3]; rfl
 rw [jd]
 have a1:(i:Int)<4:=by omega
 have a2:0≤(i:Int):=by omega
 have a3:i*2≤8:=by omega
 have a4:2≤(dl.drop (i*2)).length:=by simp [g0]; omega
 have a5:i*1≤4:=by omega
 have a6:jc ((i:Int)+1):=by unfold jc; omega
 have a7:(i:Int)<((4:Nat):Int):=by omega
 simp only [B99,jg,a1,decide_true,if_true,jf,je,PC.holds,Int.toNat_natCast,a2,a7,g0,a3,a4,h1,e1,e2,e3,hw,Nat.mul_one,h2,List.map_cons,List.map_nil,Option.map_some,hf,ja,jj,a6,ji]
 rw [jn (by omega)]
 by_cases hx:x=z
 ·subst hx
  simp only [bne_self_eq_false,Bool.false_eq_true,if_false,if_true,jb,Int.add_zero]
  rfl
 ·have hx2:(x != z)=true:=by simpa using hx
  simp only [hx2,hx,if_true,if_false]
  rw [jn (by unfold jc; omega),jb]
  rfl
theorem jfH (a b c d:Int):F99 4 dl 4 (wD [a,b,c,d])=some (jg9 a b c d):=by
 unfold F99; rw [jd]; simp only [B99,ji,jb]
 obtain ⟨x0,h0⟩:∃ x:Int,x=if 10=a then 0 else 16:=⟨_,rfl⟩
 obtain ⟨x1,h1⟩:∃ x:Int,x=if 5=b then 0 else 16:=⟨_,rfl⟩
 obtain ⟨x2,h2⟩:∃ x:Int,x=if 1=c then 0 else 16:=⟨_,rfl⟩
 obtain ⟨x3,h3⟩:∃ x:Int,x=if 7=d then 0 else 8:=⟨_,rfl⟩
 have b0:0≤x0∧x0≤16:=by rw [h0]; split <;> omega
 have b1:0≤x1∧x1≤16:=by rw [h1]; split <;> omega
 have b2:0≤x2∧x2≤16:=by rw [h2]; split <;> omega
 have s0:=ZO (wD [a,b,c,d]) 0 (by omega) 0 10 a 16 1065353216 (by omega) (by omega) rfl rfl rfl jbt
 rw [← h0] at s0
 have s1:=ZO (wD [a,b,c,d]) 1 (by omega) (0+x0) 5 b 16 1065353216 (by omega) (by omega) rfl rfl rfl jbt
 rw [← h1] at s1
 have s2:=ZO (wD [a,b,c,d]) 2 (by omega) (0+x0+x1) 1 c 16 1065353216 (by omega) (by omega) rfl rfl rfl jbt
 rw [← h2] at s2
 have s3:=ZO (wD [a,b,c,d]) 3 (by omega) (0+x0+x1+x2) 7 d 8 1056964608 (by omega) (by omega) rfl rfl rfl jqG
 rw [← h3] at s3
 show res B99 (.c1 4 (wD [a,b,c,d]) 0 4 dl 4 ((0:Nat):Int))=_
 rw [s0,s1,s2,s3,jd]
 have h:¬ (((3+1:Nat):Int)<4):=by omega
 simp only [B99,jg,h,decide_false,Bool.false_eq_true,if_false,jl,jk]
 unfold jg9
 rw [h0,h1,h2,h3]
 congr 1
 simp only [eq_comm (a:=(10:Int)),eq_comm (a:=(5:Int)),eq_comm (a:=(1:Int)),eq_comm (a:=(7:Int)),Int.zero_add]
end Go.Kv
namespace Go.Kv
open Go Go.RowKit Go.Proofs
set_option maxRecDepth 100000
theorem jN (a:Int):jB a=some (a % 17):=by
 have e:=Int.mul_tdiv_add_tmod a 17
 have h1:=Int.tmod_lt_of_pos a (show (0:Int)<17 by omega)
 have h2:=Int.lt_tmod_of_pos a (show (0:Int)<17 by omega)
 have t:(a.tmod 17+17).tmod 17=a % 17:=by
  rw [Int.tmod_eq_emod_of_nonneg (by omega)]
  omega
 unfold jB; rw [jd]
 simp only [jew,jf,PC.holds,jl,t]
 rw [jn (by unfold jc; omega)]; rfl
theorem jhm:jbY 1=some 3:=by
 unfold jbY; rw [jd]; simp only [jeJ,jf,PC.holds,jl]
 rw [jn (by decide),jn (by decide),jn (by decide),jn (by rfl)]; rfl
theorem jmU (l:List Int) (v:Int) (hl:l.length≤300) (k:Nat) (hk:k<l.length) (hv:l.getD k 0=v) (hn:∀ j,j<k→l.getD j 0≠v):jbl l.length (l.map vI) v=some (k:Int):=by
 have loop:∀ (m i:Nat),k=i+m→res GM (.c1 l.length (l.map vI) v (l.length:Int) (i:Int))=some (k:Int):=by
  intro m
  induction m with
  | zero =>
   intro i h
   have:i=k:=by omega
   subst this
   have g1:=jL hk
   rw [jd]
   have h1:(i:Int)<(l.length:Int):=by omega
   have h4:0≤(i:Int):=by omega
   have h5:(v==v)=true:=by simp
   simp only [GM,jg,h1,decide_true,if_true,jf,je,PC.holds,h4,Int.toNat_natCast,Nat.mul_one,jo,hv,g1,jl,h5]
   rw [jn (by simp; omega),jk]
  | succ m ih =>
   intro i h
   have hi:i<l.length:=by omega
   have g1:=jL hi
   have hne:=hn i (by omega)
   rw [jd]
   have h1:(i:Int)<(l.length:Int):=by omega
   have h4:0≤(i:Int):=by omega
   have h3:jc ((i:Int)+1):=by unfold jc; omega
   have h5:(v==l.getD i 0)=false:=by simpa using fun e=>hne e.symm
   have h12:(i:Int)+1=((i+1:Nat):Int):=by omega
   simp only [GM,jg,h1,decide_true,if_true,jf,je,PC.holds,h4,Int.toNat_natCast,Nat.mul_one,jo,g1,ji,h5,h3,Bool.false_eq_true,if_false]
   rw [jn (by simp; omega),jb,h12]
   exact ih (i+1) (by omega)
 unfold jbl; rw [jd]
 simp only [GM,ji,jb]
 exact loop k 0 (by omega)
theorem jdK:Gb 6=some 3:=by
 have h:jbl 16 (pwT.map vI) 6=some ((15:Nat):Int):=jmU pwT 6 (by decide) 15 (by decide) (by decide) (by decide)
 unfold Gb; rw [jd]
 simp only [jeP,show [DV.v (.int .i64 1),DV.v (.int .i64 3),DV.v (.int .i64 9),DV.v (.int .i64 10),DV.v (.int .i64 13),DV.v (.int .i64 5),DV.v (.int .i64 15),DV.v (.int .i64 11),DV.v (.int .i64 16),DV.v (.int .i64 14),DV.v (.int .i64 8),DV.v (.int .i64 7),DV.v (.int .i64 4),DV.v (.int .i64 12),DV.v (.int .i64 2),DV.v (.int .i64 6)]=pwT.map vI from rfl,h,ja,jj,jf,PC.holds,show (16:Int) - ((15:Nat):Int)=1 by decide,jhm,jl]
 rw [jn (by decide)]; rfl
theorem qU (t:Nat):∀ l:List DV,z8 (l.map AV.d)=true
 | []=>rfl
 | x :: l=>by rw [List.map_cons]; unfold z8; exact qU t l
theorem gM (k:Nat):∀ l:List DV,ki k (l.map AV.d)=true
 | []=>rfl
 | x :: l=>by rw [List.map_cons]; unfold ki; rw [gM k l]; rfl
theorem jaO:∀ l:List DV,toDs (l.map AV.d)=some l
 | []=>rfl
 | x :: l=>by rw [List.map_cons]; unfold toDs; rw [jaO l]; rfl
theorem jff (l:List DV):List.map aD (l.map AV.d)=l:=by rw [List.map_map]; simp [Function.comp_def,aD]
theorem jcD:jB 0=some 0:=by rw [jN]; rfl
theorem jb8:jB 1=some 1:=by rw [jN]; rfl
theorem jb9:jB 3=some 3:=by rw [jN]; rfl
theorem jc5:jB 6=some 6:=by rw [jN]; rfl
theorem G4:jB 18=some 1:=by rw [jN]; rfl
theorem jp8 (n:Nat) (h1:1≤n) (h2:n<289) (c:List DV) (hc:c.length=n*2) :
  res B97 (.c2 n n (n:Int) (c.map AV.d))=res B97 (.c2 (n+1) (n+1) ((n+1:Nat):Int) ((c++(QS n).cells).map AV.d)):=by
 have hlt:(n:Int)<289:=by omega
 have hw:QS n=⟨(10*((n % 17:Nat):Int)+((n / 17:Nat):Int)) % 17,(5*((n % 17:Nat):Int)+2*((n / 17:Nat):Int)) % 17,((n % 17:Nat):Int),((n / 17:Nat):Int),_⟩:=rfl
 rw [hw]
 rw [jd]
 have ha:((n:Nat):Int).tmod 17=((n % 17:Nat):Int):=by rw [Int.tmod_eq_emod_of_nonneg (by omega)]; omega
 have hb:((n:Nat):Int).tdiv 17=((n / 17:Nat):Int):=by rw [Int.tdiv_eq_ediv_of_nonneg (by omega)]; omega
 have hb1:(((n / 17:Nat)):Int).tmod 17=((n / 17:Nat):Int):=by rw [Int.tmod_eq_emod_of_nonneg (by omega)]; omega
 have hb2:(((n / 17:Nat)):Int).tdiv 17=0:=by rw [Int.tdiv_eq_ediv_of_nonneg (by omega)]; omega
 have la:n % 17≤16:=by omega
 have lb:n / 17≤16:=by omega
 generalize n % 17=a at ha la ⊢
 generalize n / 17=b at hb hb1 hb2 lb ⊢
 obtain ⟨m70,em70,qm70⟩:∃ m:Int,jB (0+(a:Int)*9)=some m∧m=(0+(a:Int)*9) % 17:=⟨_,jN _,rfl⟩
 obtain ⟨m72,em72,qm72⟩:∃ m:Int,jB (m70+(b:Int)*10)=some m∧m=(m70+(b:Int)*10) % 17:=⟨_,jN _,rfl⟩
 obtain ⟨m74,em74,qm74⟩:∃ m:Int,jB (0+(a:Int)*13)=some m∧m=(0+(a:Int)*13) % 17:=⟨_,jN _,rfl⟩
 obtain ⟨m76,em76,qm76⟩:∃ m:Int,jB (m74+(b:Int)*15)=some m∧m=(m74+(b:Int)*15) % 17:=⟨_,jN _,rfl⟩
 obtain ⟨m77,em77,qm77⟩:∃ m:Int,jB (-m72)=some m∧m=(-m72) % 17:=⟨_,jN _,rfl⟩
 obtain ⟨m78,em78,qm78⟩:∃ m:Int,jB (-m76)=some m∧m=(-m76) % 17:=⟨_,jN _,rfl⟩
 obtain ⟨m82,em82,qm82⟩:∃ m:Int,jB (m77*1)=some m∧m=(m77*1) % 17:=⟨_,jN _,rfl⟩
 obtain ⟨m85,em85,qm85⟩:∃ m:Int,jB (m78 - 1*m82)=some m∧m=(m78 - 1*m82) % 17:=⟨_,jN _,rfl⟩
 obtain ⟨m89,em89,qm89⟩:∃ m:Int,jB (m85*3)=some m∧m=(m85*3) % 17:=⟨_,jN _,rfl⟩
 obtain ⟨m92,em92,qm92⟩:∃ m:Int,jB (m82 - 3*m89)=some m∧m=(m82 - 3*m89) % 17:=⟨_,jN _,rfl⟩
 have h72:m72=(9*(a:Int)+10*(b:Int)) % 17:=by clear ha hb hb1 hb2 qm74 qm76 qm77 qm78 qm82 qm85 qm89 qm92; omega
 have h76:m76=(13*(a:Int)+15*(b:Int)) % 17:=by clear ha hb hb1 hb2 qm70 qm72 qm77 qm78 qm82 qm85 qm89 qm92 h72; omega
 have h77:m77=(-(9*(a:Int)+10*(b:Int))) % 17:=by clear ha hb hb1 hb2 qm70 qm72 qm74 qm76 qm78 qm82 qm85 qm89 qm92 h76; omega
 have h78:m78=(-(13*(a:Int)+15*(b:Int))) % 17:=by clear ha hb hb1 hb2 qm70 qm72 qm74 qm76 qm77 qm82 qm85 qm89 qm92 h72 h77; omega
 have h82:m82=m77:=by clear ha hb hb1 hb2 qm70 qm72 qm74 qm76 qm78 qm85 qm89 qm92 h72 h76 h78; omega
 have h85:m85=(-(4*(a:Int)+5*(b:Int))) % 17:=by clear ha hb hb1 hb2 qm70 qm72 qm74 qm76 qm77 qm78 qm82 qm89 qm92 h72 h76; omega
 have w1:m89=(5*(a:Int)+2*(b:Int)) % 17:=by clear ha hb hb1 hb2 qm70 qm72 qm74 qm76 qm77 qm78 qm82 qm85 qm92 h72 h76 h77 h78 h82; omega
 have w0:m92=(10*(a:Int)+(b:Int)) % 17:=by clear ha hb hb1 hb2 qm70 qm72 qm74 qm76 qm77 qm78 qm82 qm85 qm89 h72 h76 h78 h85; have h83:m82=(-(9*(a:Int)+10*(b:Int))) % 17:=(by rw [h82]; exact h77); clear h77 h82; omega
 have rm70:0≤m70∧m70<17:=by rw [qm70]; exact ⟨Int.emod_nonneg _ (by decide),Int.emod_lt_of_pos _ (by decide)⟩
 have rm72:0≤m72∧m72<17:=by rw [qm72]; exact ⟨Int.emod_nonneg _ (by decide),Int.emod_lt_of_pos _ (by decide)⟩
 have rm74:0≤m74∧m74<17:=by rw [qm74]; exact ⟨Int.emod_nonneg _ (by decide),Int.emod_lt_of_pos _ (by decide)⟩
 have rm76:0≤m76∧m76<17:=by rw [qm76]; exact ⟨Int.emod_nonneg _ (by decide),Int.emod_lt_of_pos _ (by decide)⟩
 have rm77:0≤m77∧m77<17:=by rw [qm77]; exact ⟨Int.emod_nonneg _ (by decide),Int.emod_lt_of_pos _ (by decide)⟩
 have rm78:0≤m78∧m78<17:=by rw [qm78]; exact ⟨Int.emod_nonneg _ (by decide),Int.emod_lt_of_pos _ (by decide)⟩
 have rm82:0≤m82∧m82<17:=by rw [qm82]; exact ⟨Int.emod_nonneg _ (by decide),Int.emod_lt_of_pos _ (by decide)⟩
 have rm85:0≤m85∧m85<17:=by rw [qm85]; exact ⟨Int.emod_nonneg _ (by decide),Int.emod_lt_of_pos _ (by decide)⟩
 have rm89:0≤m89∧m89<17:=by rw [qm89]; exact ⟨Int.emod_nonneg _ (by decide),Int.emod_lt_of_pos _ (by decide)⟩
 have rm92:0≤m92∧m92<17:=by rw [qm92]; exact ⟨Int.emod_nonneg _ (by decide),Int.emod_lt_of_pos _ (by decide)⟩
 clear h72 h76 h77 h78 h82 h85
 clear qm70 qm72 qm74 qm76 qm77 qm78 qm82 qm85 qm89 qm92
 have k81:=Yc 4 (k:=2) (l:=[m92,m89,(a:Int),(b:Int)]) (by simp) (by decide) (by intro x hx; simp at hx; omega)
 have k99:=jfH m92 m89 (a:Int) (b:Int)
 simp only [List.length_cons,List.length_nil,List.map_cons,List.map_nil,Nat.reduceAdd,Int.cast_ofNat_Int] at k81
 simp only [dl,wD,List.map_cons,List.map_nil] at k99
 have h12:(n:Int)+1=((n+1:Nat):Int):=by omega
 have htk:List.take (n*2) (c.map AV.d)=c.map AV.d:=List.take_of_length_le (by simp [hc])
 rw [← w0,← w1]
 simp only [B97,hlt,jg,jf,PC.holds,jj,jG,ji,ja,if_true,decide_true,je,ha,hb,hb1,hb2,show qz=some () from rfl,show qR=some () from rfl,show qN=some () from rfl,show qo=some () from rfl,show qq=some () from rfl,show qv=some () from rfl,show qy=some () from rfl,show qW=some () from rfl,jcD,jb8,jb9,jc5,G4,jdK,em70,em72,em74,em76,em77,em78,em82,em85,em89,em92,k81,k99,Int.reduceMul,Int.reduceSub,Int.reduceNeg,Int.reduceAdd,show ((6:Int) != 0)=true from rfl,Nat.le_refl,htk]
 iterate 31 rw [jn (by first | omega | (unfold jc; omega) | (unfold Jg; omega) | (simp [hc]; done))]
 rw [jn (by rw [← List.map_append]; exact qU 139 _),jn (by rw [← List.map_append]; exact gM 2 _),jb,h12,← List.map_append]
 rfl
theorem jgG:res B97 (.c1 0)=res B97 (.c2 1 1 ((1:Nat):Int) (((QS 0).cells).map AV.d)):=by
 obtain ⟨n,hn⟩:∃ n:Nat,n=0:=⟨0,rfl⟩
 have hz:res B97 (.c1 (n:Int))=res B97 (.c2 1 1 ((n:Int)+1) (((QS n).cells).map AV.d)):=by
  have h2:n<289:=by omega
  have hlt:(n:Int)<289:=by omega
  have hw:QS n=⟨(10*((n % 17:Nat):Int)+((n / 17:Nat):Int)) % 17,(5*((n % 17:Nat):Int)+2*((n / 17:Nat):Int)) % 17,((n % 17:Nat):Int),((n / 17:Nat):Int),_⟩:=rfl
  rw [hw]
  rw [jd]
  have ha:((n:Nat):Int).tmod 17=((n % 17:Nat):Int):=by rw [Int.tmod_eq_emod_of_nonneg (by omega)]; omega
  have hb:((n:Nat):Int).tdiv 17=((n / 17:Nat):Int):=by rw [Int.tdiv_eq_ediv_of_nonneg (by omega)]; omega
  have hb1:(((n / 17:Nat)):Int).tmod 17=((n / 17:Nat):Int):=by rw [Int.tmod_eq_emod_of_nonneg (by omega)]; omega
  have hb2:(((n / 17:Nat)):Int).tdiv 17=0:=by rw [Int.tdiv_eq_ediv_of_nonneg (by omega)]; omega
  have la:n % 17≤16:=by omega
  have lb:n / 17≤16:=by omega
  generalize n % 17=a at ha la ⊢
  generalize n / 17=b at hb hb1 hb2 lb ⊢
  obtain ⟨m70,em70,qm70⟩:∃ m:Int,jB (0+(a:Int)*9)=some m∧m=(0+(a:Int)*9) % 17:=⟨_,jN _,rfl⟩
  obtain ⟨m72,em72,qm72⟩:∃ m:Int,jB (m70+(b:Int)*10)=some m∧m=(m70+(b:Int)*10) % 17:=⟨_,jN _,rfl⟩
  obtain ⟨m74,em74,qm74⟩:∃ m:Int,jB (0+(a:Int)*13)=some m∧m=(0+(a:Int)*13) % 17:=⟨_,jN _,rfl⟩
  obtain ⟨m76,em76,qm76⟩:∃ m:Int,jB (m74+(b:Int)*15)=some m∧m=(m74+(b:Int)*15) % 17:=⟨_,jN _,rfl⟩
  obtain ⟨m77,em77,qm77⟩:∃ m:Int,jB (-m72)=some m∧m=(-m72) % 17:=⟨_,jN _,rfl⟩
  obtain ⟨m78,em78,qm78⟩:∃ m:Int,jB (-m76)=some m∧m=(-m76) % 17:=⟨_,jN _,rfl⟩
  obtain ⟨m82,em82,qm82⟩:∃ m:Int,jB (m77*1)=some m∧m=(m77*1) % 17:=⟨_,jN _,rfl⟩
  obtain ⟨m85,em85,qm85⟩:∃ m:Int,jB (m78 - 1*m82)=some m∧m=(m78 - 1*m82) % 17:=⟨_,jN _,rfl⟩
  obtain ⟨m89,em89,qm89⟩:∃ m:Int,jB (m85*3)=some m∧m=(m85*3) % 17:=⟨_,jN _,rfl⟩
  obtain ⟨m92,em92,qm92⟩:∃ m:Int,jB (m82 - 3*m89)=some m∧m=(m82 - 3*m89) % 17:=⟨_,jN _,rfl⟩
  have h72:m72=(9*(a:Int)+10*(b:Int)) % 17:=by clear ha hb hb1 hb2 qm74 qm76 qm77 qm78 qm82 qm85 qm89 qm92; omega
  have h76:m76=(13*(a:Int)+15*(b:Int)) % 17:=by clear ha hb hb1 hb2 qm70 qm72 qm77 qm78 qm82 qm85 qm89 qm92 h72; omega
  have h77:m77=(-(9*(a:Int)+10*(b:Int))) % 17:=by clear ha hb hb1 hb2 qm70 qm72 qm74 qm76 qm78 qm82 qm85 qm89 qm92 h76; omega
  have h78:m78=(-(13*(a:Int)+15*(b:Int))) % 17:=by clear ha hb hb1 hb2 qm70 qm72 qm74 qm76 qm77 qm82 qm85 qm89 qm92 h72 h77; omega
  have h82:m82=m77:=by clear ha hb hb1 hb2 qm70 qm72 qm74 qm76 qm78 qm85 qm89 qm92 h72 h76 h78; omega
  have h85:m85=(-(4*(a:Int)+5*(b:Int))) % 17:=by clear ha hb hb1 hb2 qm70 qm72 qm74 qm76 qm77 qm78 qm82 qm89 qm92 h72 h76; omega
  have w1:m89=(5*(a:Int)+2*(b:Int)) % 17:=by clear ha hb hb1 hb2 qm70 qm72 qm74 qm76 qm77 qm78 qm82 qm85 qm92 h72 h76 h77 h78 h82; omega
  have w0:m92=(10*(a:Int)+(b:Int)) % 17:=by clear ha hb hb1 hb2 qm70 qm72 qm74 qm76 qm77 qm78 qm82 qm85 qm89 h72 h76 h78 h85; have h83:m82=(-(9*(a:Int)+10*(b:Int))) % 17:=(by rw [h82]; exact h77); clear h77 h82; omega
  have rm70:0≤m70∧m70<17:=by rw [qm70]; exact ⟨Int.emod_nonneg _ (by decide),Int.emod_lt_of_pos _ (by decide)⟩
  have rm72:0≤m72∧m72<17:=by rw [qm72]; exact ⟨Int.emod_nonneg _ (by decide),Int.emod_lt_of_pos _ (by decide)⟩
  have rm74:0≤m74∧m74<17:=by rw [qm74]; exact ⟨Int.emod_nonneg _ (by decide),Int.emod_lt_of_pos _ (by decide)⟩
  have rm76:0≤m76∧m76<17:=by rw [qm76]; exact ⟨Int.emod_nonneg _ (by decide),Int.emod_lt_of_pos _ (by decide)⟩
  have rm77:0≤m77∧m77<17:=by rw [qm77]; exact ⟨Int.emod_nonneg _ (by decide),Int.emod_lt_of_pos _ (by decide)⟩
  have rm78:0≤m78∧m78<17:=by rw [qm78]; exact ⟨Int.emod_nonneg _ (by decide),Int.emod_lt_of_pos _ (by decide)⟩
  have rm82:0≤m82∧m82<17:=by rw [qm82]; exact ⟨Int.emod_nonneg _ (by decide),Int.emod_lt_of_pos _ (by decide)⟩
  have rm85:0≤m85∧m85<17:=by rw [qm85]; exact ⟨Int.emod_nonneg _ (by decide),Int.emod_lt_of_pos _ (by decide)⟩
  have rm89:0≤m89∧m89<17:=by rw [qm89]; exact ⟨Int.emod_nonneg _ (by decide),Int.emod_lt_of_pos _ (by decide)⟩
  have rm92:0≤m92∧m92<17:=by rw [qm92]; exact ⟨Int.emod_nonneg _ (by decide),Int.emod_lt_of_pos _ (by decide)⟩
  clear h72 h76 h77 h78 h82 h85
  clear qm70 qm72 qm74 qm76 qm77 qm78 qm82 qm85 qm89 qm92
  have k81:=Yc 4 (k:=2) (l:=[m92,m89,(a:Int),(b:Int)]) (by simp) (by decide) (by intro x hx; simp at hx; omega)
  have k99:=jfH m92 m89 (a:Int) (b:Int)
  simp only [List.length_cons,List.length_nil,List.map_cons,List.map_nil,Nat.reduceAdd,Int.cast_ofNat_Int] at k81
  simp only [dl,wD,List.map_cons,List.map_nil] at k99
  rw [← w0,← w1]
  simp only [B97,hlt,jg,jf,PC.holds,jj,jG,ji,ja,if_true,decide_true,je,ha,hb,hb1,hb2,show qz=some () from rfl,show qR=some () from rfl,show qN=some () from rfl,show qo=some () from rfl,show qq=some () from rfl,show qv=some () from rfl,show qy=some () from rfl,show qW=some () from rfl,jcD,jb8,jb9,jc5,G4,jdK,em70,em72,em74,em76,em77,em78,em82,em85,em89,em92,k81,k99,Int.reduceMul,Int.reduceSub,Int.reduceNeg,Int.reduceAdd,show ((6:Int) != 0)=true from rfl,Nat.le_refl]
  iterate 29 rw [jn (by first | omega | (unfold jc; omega))]
  rw [jb]
  rfl
 subst hn
 exact hz
end Go.Kv
namespace Go.Kv
open Go Go.RowKit Go.Proofs
set_option maxRecDepth 100000
theorem jnd (n:Nat) (c:List DV) (hc:c.length=n*2) (hn:¬ (n:Int)<289) (hy:(QT 2 n c).length=n*2) (hin:Ql cfz.P cfz.glob 136 2 n c (.d (.v (.func (.func 137) #[] #[]))) (QT 2 n c)) :
  res B97 (.c2 n n (n:Int) (c.map AV.d))=some (n,QT 2 n c):=by
 have htk:List.take (n*2) (c.map AV.d)=c.map AV.d:=List.take_of_length_le (by simp [hc])
 have hdr:List.drop (n*2) (c.map AV.d)=[]:=List.drop_eq_nil_of_le (by simp [hc])
 have hix:Z9 (c.map AV.d) n 2=c:=by unfold Z9; rw [htk,jff]
 have hw:Z3 (DV.v (Value.func (Fn.func 137) #[] #[]))=DV.v (Value.func (Fn.func 137) #[] #[]):=rfl
 have htk2:List.take (n*2) ((QT 2 n c).map AV.d)=(QT 2 n c).map AV.d:=List.take_of_length_le (by simp [hy])
 rw [jd]
 simp only [B97,jg,hn,decide_false,Bool.false_eq_true,if_false,jf,PC.holds,htk,hdr,hix,hw,jaO,jff,List.append_nil,List.drop_zero,htk2,jl,Nat.zero_add]
 rw [jn (by simp [hc]),jn trivial,jn hy,jn hin,jn (by simp [hy]),jn trivial,jk]
theorem ja6:∀ n:Nat,((List.range n).flatMap fun n=>(QS n).cells).length=n*2:=by
 intro n
 rw [Q4 (k:=2) _ (fun i=>rfl),List.length_range]
theorem jmg:∀ (m n:Nat),1≤n→289=n+m→res B97 (.c2 n n (n:Int) (((List.range n).flatMap fun n=>(QS n).cells).map AV.d))=res B97 (.c2 289 289 ((289:Nat):Int) (cellsT.map AV.d)):=by
 intro m
 induction m with
 | zero =>
  intro n _ h
  obtain rfl:n=289:=by omega
  rfl
 | succ m ih =>
  intro n h1 h
  rw [jp8 n h1 (by omega) _ (ja6 n),← ih (n+1) (by omega) (by omega)]
  rw [List.range_succ,List.flatMap_append]
  simp
theorem jlK:F97=some (289,QT 2 289 cellsT):=by
 unfold F97; rw [jd]
 simp only [B97,ji,jb]
 rw [jgG]
 have h:=jmg 288 1 (by omega) (by omega)
 have e:(List.range 1).flatMap (fun n=>(QS n).cells)=(QS 0).cells:=rfl
 rw [e] at h
 rw [h]
 exact jnd 289 cellsT (ja6 289) (by omega) (jmH 2 289 cellsT) (joS 2 289 cellsT)
end Go.Kv
namespace Go.Kv
open Go Go.RowKit Go.Proofs
set_option maxRecDepth 100000
theorem jxO:PureCalls cfz.P cfz.glob 34 [.agg [aI 4,aI 2],.d (.sl 4 [vI 10,.v (.float .f32 1065353216),vI 5,.v (.float .f32 1065353216),vI 1,.v (.float .f32 1065353216),vI 7,.v (.float .f32 1056964608)])] (.tup [.d (.sl 4 [vI 10,vI 5,vI 1,vI 0]),aI 8,aI 0]):=by
 obtain ⟨w,rest,e⟩:=jnS 2 289 cellsT
 have h:F34=some (4,[vI 10,vI 5,vI 1,vI 0],8):=by
  unfold F34; rw [jd]
  simp only [B34,show qM=some () from rfl,ja,jj,jlK,e,jf,PC.holds,jl]
  rw [jn (by decide),jn (by simp),jn (by simp),jn (by rfl)]
  rfl
 exact f34 _ h
theorem jy4:PureCalls cfz.P cfz.glob 36 [.agg [aI 4,aI 2],.d (.sl 4 [vI 10,.v (.float .f32 1065353216),vI 5,.v (.float .f32 1065353216),vI 1,.v (.float .f32 1065353216),vI 7,.v (.float .f32 1056964608)])] (.tup [aI 32,aI 0]):=by
 obtain ⟨w,rest,e⟩:=jnS 2 289 cellsT
 have h:F36=some 32:=by
  unfold F36; rw [jd]
  simp only [B36,show qM=some () from rfl,ja,jj,jlK,e,jf,PC.holds,jl]
  rw [jn (by decide),jn (by simp),jn (by simp),jn (by rfl)]
  rfl
 exact f36 _ h
end Go.Kv
