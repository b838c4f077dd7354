import Derived.Test.YtdelimpnnpifpaaGreatDoorGIs
import Derived.Test.YtdelimpnnpifpaaGreatDoorKvZ
set_option linter.all false
namespace Go.Kv
open Go Go.RowKit
set_option maxRecDepth 100000
theorem Kc (a:Int):yw a=some (a % 17):=by
 have e:=Int.mul_tdiv_add_tmod a 17
 have h1:=Int.tmod_lt_of_pos a (show (0:Int)<17 by omega)
 have h2:=Int.lt_tmod_of_pos a (show (0:Int)<17 by omega)
 have t:(a.tmod 17+17).tmod 17=a % 17:=by
  rw [Int.tmod_eq_emod_of_nonneg (by omega)]
  omega
 unfold yw; rw [jf]
 simp only [joK,jg,PC.holds,jp,t]
 rw [jm (by unfold je; omega)]; rfl
def pwT:List Int:=[1,3,9,10,13,5,15,11,16,14,8,7,4,12,2,6]
def pw (n:Nat):Int:=pwT.getD (n % 16) 0
theorem jcP (n:Nat):1≤pw n∧pw n≤16:=by
 unfold pw
 have h:n % 16<16:=Nat.mod_lt _ (by omega)
 generalize n % 16=m at h
 have:m=0∨m=1∨m=2∨m=3∨m=4∨m=5∨m=6∨m=7∨m=8∨m=9∨m=10∨m=11∨m=12∨m=13∨m=14∨m=15:=by omega
 rcases this with rfl | rfl | rfl | rfl | rfl | rfl | rfl | rfl | rfl | rfl | rfl | rfl | rfl | rfl | rfl | rfl
 all_goals decide
theorem jpq {m:Nat} (h:m<16):Option.map AV.d (List.drop (m*1) gl0)[0]? = some (AV.d (DV.v (.int .i64 (dI (cel gl0 (m*1))))))∧dI (cel gl0 (m*1))=pwT.getD m 0:=by
 have:m=0∨m=1∨m=2∨m=3∨m=4∨m=5∨m=6∨m=7∨m=8∨m=9∨m=10∨m=11∨m=12∨m=13∨m=14∨m=15:=by omega
 rcases this with rfl | rfl | rfl | rfl | rfl | rfl | rfl | rfl | rfl | rfl | rfl | rfl | rfl | rfl | rfl | rfl
 all_goals exact ⟨rfl,rfl⟩
theorem Ky (n:Nat):Yt (n:Int)=some (pw n):=by
 have h:n % 16<16:=Nat.mod_lt _ (by omega)
 have t:((n:Int)).tmod 16=((n % 16:Nat):Int):=by rw [Int.tmod_eq_emod_of_nonneg (by omega)]; omega
 obtain ⟨g1,g2⟩:=jpq h
 unfold Yt; rw [jf]
 simp only [jpE,jg,PC.holds,jp,t,Int.toNat_natCast,g1,g2]
 rw [jm (by omega),jm (by omega),jm (by omega),jm trivial]; rfl
theorem zx (A:List Int) (i:Nat):dI (JY (A.map aI) i)=A.getD i 0:=by
 unfold JY
 simp only [List.getD_eq_getElem?_getD,List.getElem?_map]
 cases A[i]? <;> rfl
theorem ju (l:List Int) (i:Nat):dI (cel (l.map vI) i)=l.getD i 0:=by
 unfold cel
 simp only [List.getD_eq_getElem?_getD,List.getElem?_map]
 cases l[i]? <;> rfl
theorem j5 {l:List Int} {i:Nat} (h:i<l.length):Option.map AV.d (List.drop i (l.map vI))[0]? = some (AV.d (vI (l.getD i 0))):=by
 simp [List.getElem?_drop,h,List.getD_eq_getElem?_getD]
theorem QF {α:Type} {l:List α} {i:Nat} (d:α) (h:i<l.length):l.drop i=l.getD i d :: l.drop (i+1):=by
 rw [List.drop_eq_getElem_cons h]; simp [List.getD_eq_getElem?_getD,h]
theorem GU (k:Nat):∀ l:List Int,ko k (l.map aI)=true
 | []=>rfl
 | x :: l=>by rw [List.map_cons]; unfold ko; rw [GU k l]; rfl
theorem jy (k t:Nat) (l:List Int):(jK k (ABlk.cells (l.map aI) t)=true)=True:=eq_true (GU k l)
theorem K0:∀ U:List Int,toDs (U.map aI)=some (U.map vI)
 | []=>rfl
 | x :: xs=>by
  rw [List.map_cons,List.map_cons]
  unfold toDs
  rw [K0 xs]; rfl
theorem gY (U:List Int):List.map aD (U.map aI)=U.map vI:=by rw [List.map_map]; rfl
theorem jgr {A:List Int} {i:Nat} (v:Int) (h:i<A.length):jv (A.map aI) i [AV.d (DV.v (Value.int IntKind.i64 v))]=(A.set i v).map aI:=by
 unfold jv
 rw [List.set_eq_take_append_cons_drop,if_pos h]
 simp
theorem atA {A:List Int} {i:Nat} (h:i<A.length):(A.map aI)[i]? = some (AV.d (DV.v (Value.int IntKind.i64 (A.getD i 0)))):=by
 simp [h,List.getD_eq_getElem?_getD]
theorem Zx:∀ n:Nat,J2 (List.map (fun (x:Value)=>AV.d (DV.v x)) (Value.int IntKind.i64 0).cells.toList) n=(List.replicate n (0:Int)).map aI
 | 0=>rfl
 | n+1=>by rw [J2,Zx n,List.replicate_succ,List.map_cons]; rfl
def Zf:List Int→Nat→Nat→Int→Int
 | [],_,_,a=>a
 | x :: xs,j,i,a=>Zf xs j (i+1) ((a+x*pw (i*j)) % 17)
def syn (l:List Int) (j:Nat):Int:=Zf l j 0 0
def JK (l:List Int) (k:Nat):List Int:=(List.range k).map fun j=>syn l (j+1)
def okS (l:List Int):Prop:=∀ x ∈ l,0≤x∧x<17
theorem joF (l:List Int) (k j:Nat) (hl:l.length≤300) (hk:j<k) (hk2:k≤16) (hs:okS l):∀ (xs:List Int) (i:Nat) (A:List Int),l.drop i=xs→i≤l.length→A.length=k→0≤A.getD j 0∧A.getD j 0<17 →
  res B80 (.c2 l.length (l.map vI) k (j:Int) (k:Int) (l.length:Int) (i:Int) (A.map aI))=res B80 (.c1 l.length (l.map vI) k (k:Int) ((j+1:Nat):Int) ((A.set j (Zf xs (j+1) i (A.getD j 0))).map aI)):=by
 intro xs
 induction xs with
 | nil =>
  intro i A hd hi hA hb
  have hi2:i=l.length:=by
   have:=congrArg List.length hd
   simp at this; omega
  rw [jf]
  have h1:¬ ((i:Int)<(l.length:Int)):=by omega
  have h2:je ((j:Int)+1):=by unfold je; omega
  have e:A.set j (A.getD j 0)=A:=by
   apply List.ext_getElem?
   intro q
   rw [List.getElem?_set]
   by_cases hq:j=q
   ·subst hq
    have:j<A.length:=by omega
    simp [this,List.getD_eq_getElem?_getD]
   ·simp [hq]
  simp only [B80,jj,h1,decide_false,Bool.false_eq_true,if_false,jg,jd,PC.holds,h2,if_true,jy,jk,jb,Zf,e]
  rw [show (j:Int)+1=((j+1:Nat):Int) by omega]
 | cons x xs ih =>
  intro i A hd hi hA hb
  have hi2:i<l.length:=by
   apply Classical.byContradiction
   intro h
   rw [List.drop_eq_nil_of_le (by omega)] at hd
   simp at hd
  have hx:l.getD i 0=x∧l.drop (i+1)=xs:=by
   rw [QF 0 hi2] at hd
   simpa using hd
  have hxs:0≤x∧x<17:=by
   refine hs x ?_
   have:x ∈ l.drop i:=by rw [hd]; simp
   exact List.mem_of_mem_drop this
  have hjA:j<A.length:=by omega
  have hpw:=jcP (i*(j+1))
  have hij:i*(j+1)≤300*17:=Nat.mul_le_mul (by omega) (by omega)
  have eij:(i:Int)*((j:Int)+1)=((i*(j+1):Nat):Int):=by simp
  have hmul:0≤x*pw (i*(j+1))∧x*pw (i*(j+1))≤17*16:=by
   constructor
   ·exact Int.mul_nonneg hxs.1 (by omega)
   ·exact Int.mul_le_mul (by omega) hpw.2 (by omega) (by omega)
  have ih':=ih (i+1) (A.set j ((A.getD j 0+x*pw (i*(j+1))) % 17)) hx.2 (by omega) (by simpa using hA) (by
   rw [List.getD_eq_getElem?_getD,List.getElem?_set_self hjA]
   simp only [Option.getD_some]; omega)
  rw [List.set_set] at ih'
  have eg:(A.set j ((A.getD j 0+x*pw (i*(j+1))) % 17)).getD j 0=(A.getD j 0+x*pw (i*(j+1))) % 17:=by
   rw [List.getD_eq_getElem?_getD,List.getElem?_set_self hjA]; rfl
  rw [eg] at ih'
  rw [Zf,← ih',jf]
  have h1:(i:Int)<(l.length:Int):=by omega
  have h2:je ((j:Int)+1):=by unfold je; omega
  have h3:je ((i:Int)+1):=by unfold je; omega
  have h4:0≤(i:Int):=by omega
  have h5:(i*1≤(l.map vI).length):=by simp; omega
  have h6:je ((i*(j+1):Nat):Int):=by unfold je; omega
  have h7:je (x*pw (i*(j+1))):=by unfold je; omega
  have h8:je (A.getD j 0+x*pw (i*(j+1))):=by unfold je; omega
  have h9:0≤(j:Int):=by omega
  have h10:(j:Int)<(k:Int):=by omega
  have h11:0+j*1+1≤(A.map aI).length:=by simp; omega
  have h12:(i:Int)+1=((i+1:Nat):Int):=by omega
  have h13:i*1+1≤(l.map vI).length:=by simp; omega
  have g1:=j5 hi2
  rw [hx.1] at g1
  have g2:dI (cel (l.map vI) i)=x:=by rw [ju,hx.1]
  have g3:=atA hjA
  simp only [B80,jj,h1,decide_true,if_true,jg,jd,PC.holds,h2,h3,h4,h5,Int.toNat_natCast,Nat.mul_one,Nat.zero_add,g1,g2,eij,Ky,jc,zx,Kc,h6,h7,h8,h9,h10,g3,jq,Jr,jgr _ hjA,jy,jk,jb]
  rw [jm (by simp; omega),jm (by simp; omega),h12,jb]
theorem jl3 (l:List Int) (k:Nat) (hl:l.length≤300) (hk:k≤16) (hs:okS l):∀ (m j:Nat),k=j+m →
  res B80 (.c1 l.length (l.map vI) k (k:Int) (j:Int) ((JK l j++List.replicate m 0).map aI))=some (k,(JK l k).map vI):=by
 intro m
 induction m with
 | zero =>
  intro j hj
  have:j=k:=by omega
  subst this
  rw [jf]
  have h1:¬ ((j:Int)<(j:Int)):=by omega
  have hl2:(JK l j).length=j:=by unfold JK; simp
  have ht:List.take (j*1) (List.drop 0 ((JK l j).map aI))=(JK l j).map aI:=by
   rw [List.drop_zero,List.take_of_length_le (by simp [hl2])]
  simp only [List.replicate_zero,List.append_nil,B80,jj,h1,decide_false,Bool.false_eq_true,if_false,jg,jd,PC.holds,jp,ht,K0,gY]
  rw [jm (by simp [hl2]),ji]
 | succ m ih =>
  intro j hj
  have hl2:(JK l j).length=j:=by unfold JK; simp
  rw [jf]
  have h1:(j:Int)<(k:Int):=by omega
  simp only [B80,jj,h1,decide_true,if_true,jg,jd,PC.holds,jy,jk,jb]
  have hj0:(JK l j++List.replicate (m+1) 0).getD j 0=0:=by
   rw [List.getD_eq_getElem?_getD,List.getElem?_append_right (by omega),hl2]
   simp
  have hin:=joF l k j hl (by omega) hk hs l 0 (JK l j++List.replicate (m+1) 0) (by simp) (by omega) (by simp [hl2]; omega) (by rw [hj0]; omega)
  refine hin.trans ?_
  rw [hj0]
  have e:(JK l j++List.replicate (m+1) 0).set j (Zf l (j+1) 0 0)=JK l (j+1)++List.replicate m 0:=by
   rw [List.set_append_right _ _ (by omega),hl2,Nat.sub_self,List.replicate_succ,List.set_cons_zero]
   unfold JK
   rw [List.range_succ,List.map_append]
   simp [syn]
  rw [e]
  exact ih (j+1) (by omega)
theorem jok (n:Int) {k:Nat} {l:List Int} (hl:l.length≤300) (hk:k≤16) (hs:okS l):F80 n (k:Int) l.length (l.map vI)=some (k,(JK l k).map vI):=by
 unfold F80
 rw [jf]
 have h:=jl3 l k hl hk hs k 0 (by omega)
 simp only [B80,jg,jd,PC.holds,Int.toNat_natCast,Zx,jy,if_true,jk,jb]
 rw [jm (by omega),jm (by omega),jm (by omega),jm (by omega)]
 rw [jb]
 simpa [JK] using h
theorem jfe (a:Int):jl0 a=some (a != 0):=by
 unfold jl0; rw [jf]; simp only [jpR,jp,ji]
theorem jgM (l:List Int) (hl:l.length≤300):∀ (m i:Nat),l.length=i+m →
  ∃ v:Int,res jei (.c1 l.length (l.map vI) (l.length:Int) (i:Int))=some v∧(v≥0↔∃ x ∈ l.drop i,x≠0):=by
 intro m
 induction m with
 | zero =>
  intro i h
  refine ⟨-1,?_,?_⟩
  ·rw [jf]
   have h1:¬ ((i:Int)<(l.length:Int)):=by omega
   simp only [jei,jj,h1,decide_false,Bool.false_eq_true,if_false,jp,ji]
  ·rw [List.drop_eq_nil_of_le (by omega)]; simp
 | succ m ih =>
  intro i h
  have hi:i<l.length:=by omega
  obtain ⟨v,hv,hx⟩:=ih (i+1) (by omega)
  have h1:(i:Int)<(l.length:Int):=by omega
  have h3:je (((i+1:Nat):Int)):=by unfold je; omega
  have h4:0≤(i:Int):=by omega
  have h12:(i:Int)+1=((i+1:Nat):Int):=by omega
  have g1:=j5 hi
  by_cases hz:l.getD i 0=0
  ·refine ⟨v,?_,?_⟩
   ·rw [jf]
    rw [hz] at g1
    simp only [jei,jj,h1,decide_true,if_true,jg,jd,PC.holds,h3,h4,Int.toNat_natCast,Nat.mul_one,ju,hz,g1,jfe,jc,jq,jk,h12,show ((0:Int) != 0)=false from rfl,Bool.false_eq_true,if_false]
    rw [jm (by simp; omega),jb,hv]
   ·rw [QF 0 hi,hz,hx]; simp
  ·refine ⟨(i:Int),?_,?_⟩
   ·rw [jf]
    have hz2:(l.getD i 0 != 0)=true:=by simpa using hz
    simp only [jei,jj,h1,decide_true,if_true,jg,jd,PC.holds,h4,Int.toNat_natCast,Nat.mul_one,ju,g1,jfe,jc,jq,jp,hz2]
    rw [jm (by simp; omega),ji]
   ·constructor
    ·intro _
     exact ⟨l.getD i 0,by rw [QF 0 hi]; simp,hz⟩
    ·intro _; omega
theorem jmi {l:List Int} (hl:l.length≤300):jmZ l.length (l.map vI)=some (decide (∃ x ∈ l,x≠0)):=by
 obtain ⟨v,hv,hx⟩:=jgM l hl l.length 0 (by omega)
 have h156:jmt l.length (l.map vI)=some v:=by
  unfold jmt; rw [jf]
  simp only [jei,jk,jb]
  exact hv
 unfold jmZ; rw [jf]
 simp only [jpn,h156,jc,jq,jp,ji]
 rw [List.drop_zero] at hx
 congr 1
 exact decide_eq_decide.2 hx
def isW (l:List Int) (k:Nat):Bool:=(JK l k).all fun x=>x==0
theorem yG (n:Int) {k:Nat} {l:List Int} (hl:l.length≤300) (hk:k≤16) (hs:okS l):F81 n (k:Int) l.length (l.map vI)=some (isW l k):=by
 have hl2:(JK l k).length=k:=by unfold JK; simp
 have h:=jmi (l:=JK l k) (by omega)
 rw [hl2] at h
 unfold F81; rw [jf]
 simp only [B81,jok n hl hk hs,jc,jq,h,jp,ji]
 congr 1
 unfold isW
 rw [Bool.eq_iff_iff]
 simp
end Go.Kv
