import Derived.Test.YtdelimpnnpifpaaGreatDoorGCm
import Derived.Test.YtdelimpnnpifpaaGreatDoorKaA
import Derived.Test.YtdelimpnnpifpaaGreatDoorKvZ
set_option linter.all false
namespace Go.Kv
open Go Go.RowKit Go.Proofs Go.Sort
set_option maxRecDepth 100000
def jc3 (a b:Int):Int:=if a<b then -1 else if b<a then 1 else 0
theorem jmr (a:Int):jhE a=some false:=by
 unfold jhE; rw [jf]; simp [jmG,ji,jp]
theorem jmw (a b:Int):jmM a b=some (jc3 a b):=by
 unfold jmM; rw [jf]
 simp only [jmc,jmr,jc,jq,jj,jp,jc3]
 by_cases h:a<b
 ·simp [h,ji]
 ·by_cases h2:b<a
  ·simp [h,h2,ji]
  ·simp [h,h2,ji]
def wD (l:List Int):List DV:=l.map fun n=>.v (.int .i64 n)
def jgS:List Int→List Int→Int
 | a :: l,b :: m=>if jc3 a b≠0 then jc3 a b else jgS l m
 | _,_=>0
theorem jpb (a b c d a' b' c' d':Int):jlG 4 (wD [a,b,c,d]) 4 (wD [a',b',c',d'])=some (jgS [a,b,c,d] [a',b',c',d']):=by
 unfold jlG
 rw [jf]
 simp only [Gf,jk,jb]
 have step:∀ (i:Nat) (x y:Int),i<4→[a,b,c,d][i]? = some x→[a',b',c',d'][i]? = some y →
   res Gf (.c1 4 (wD [a,b,c,d]) 4 (wD [a',b',c',d']) 4 (i:Int))=if jc3 x y≠0 then some (jc3 x y) else res Gf (.c1 4 (wD [a,b,c,d]) 4 (wD [a',b',c',d']) 4 ((i+1:Nat):Int)):=by
  intro i x y hi hx hy
  rw [jf]
  have h1:(i:Int)<4:=by omega
  have h2:¬ ((i:Int)≥4):=by omega
  have h3:je ((i:Int)+1):=by unfold je; omega
  have h4:0≤(i:Int):=by omega
  have h5:((i:Int)).toNat=i:=by omega
  have g1:(wD [a,b,c,d]).length=4:=rfl
  have g2:(wD [a',b',c',d']).length=4:=rfl
  have c1:(List.drop (i*1) (wD [a,b,c,d]))[0]? = some (DV.v (.int .i64 (dI (cel (wD [a,b,c,d]) (i*1)))))∧dI (cel (wD [a,b,c,d]) (i*1))=x:=by
   match i,hi with
   | 0,_=>simp at hx; subst hx; exact ⟨rfl,rfl⟩
   | 1,_=>simp at hx; subst hx; exact ⟨rfl,rfl⟩
   | 2,_=>simp at hx; subst hx; exact ⟨rfl,rfl⟩
   | 3,_=>simp at hx; subst hx; exact ⟨rfl,rfl⟩
  have c2:(List.drop (i*1) (wD [a',b',c',d']))[0]? = some (DV.v (.int .i64 (dI (cel (wD [a',b',c',d']) (i*1)))))∧dI (cel (wD [a',b',c',d']) (i*1))=y:=by
   match i,hi with
   | 0,_=>simp at hy; subst hy; exact ⟨rfl,rfl⟩
   | 1,_=>simp at hy; subst hy; exact ⟨rfl,rfl⟩
   | 2,_=>simp at hy; subst hy; exact ⟨rfl,rfl⟩
   | 3,_=>simp at hy; subst hy; exact ⟨rfl,rfl⟩
  have h6:i*1+1≤4:=by omega
  simp only [Gf,jj,jg,jc1,PC.holds,h5,h1,h2,h3,h4,g1,g2,c1.1,c2.1,c1.2,c2.2,Option.map_some,jmw,jc,jq,jp,jk,decide_true,decide_false,if_true,Bool.false_eq_true,if_false,show i*1≤4 by omega,show ((4:Nat):Int)=4 from rfl,show i*1<4 by omega]
  by_cases hz:jc3 x y=0
  ·simp [hz,jb]
  ·simp [hz,ji]
 have e0:=step 0 a a' (by omega) rfl rfl
 have e1:=step 1 b b' (by omega) rfl rfl
 have e2:=step 2 c c' (by omega) rfl rfl
 have e3:=step 3 d d' (by omega) rfl rfl
 have e4:res Gf (.c1 4 (wD [a,b,c,d]) 4 (wD [a',b',c',d']) 4 ((3+1:Nat):Int))=some 0:=by
  rw [jf]
  have h1:¬ (((3+1:Nat):Int)<4):=by omega
  have h2:¬ ((4:Int)<4):=by omega
  simp only [Gf,jj,h1,h2,decide_false,Bool.false_eq_true,if_false,jp,ji,show ((4:Nat):Int)=4 from rfl]
 simp only [jgS]
 show res Gf (.c1 4 (wD [a,b,c,d]) 4 (wD [a',b',c',d']) 4 ((0:Nat):Int))=_
 rw [e0,e1,e2,e3,e4]
 repeat' split
 all_goals rfl
structure Pr where
 w0:Int
 w1:Int
 w2:Int
 w3:Int
 c:Int
def Pr.ok (p:Pr):Prop:=(0≤p.w0∧p.w0<17)∧(0≤p.w1∧p.w1<17)∧(0≤p.w2∧p.w2<17)∧(0≤p.w3∧p.w3<17)∧0≤p.c∧p.c≤1000
def Pr.cf (p q:Pr):Int:=if p.c≠q.c then p.c - q.c else jgS [p.w0,p.w1,p.w2,p.w3] [q.w0,q.w1,q.w2,q.w3]
def Pr.key (p:Pr):Int:=(((p.c*17+p.w0)*17+p.w1)*17+p.w2)*17+p.w3
theorem jhW {p q:Pr} (hp:p.ok) (hq:q.ok):Pr.cf p q<0↔p.key<q.key:=by
 obtain ⟨⟨a1,a2⟩,⟨b1,b2⟩,⟨c1,c2⟩,⟨d1,d2⟩,e1,e2⟩:=hp
 obtain ⟨⟨a1',a2'⟩,⟨b1',b2'⟩,⟨c1',c2'⟩,⟨d1',d2'⟩,e1',e2'⟩:=hq
 unfold Pr.cf Pr.key
 simp only [jgS,jc3]
 repeat' split
 all_goals omega
def Pr.cells (p:Pr):List DV:=[.sl 4 (wD [p.w0,p.w1,p.w2,p.w3]),.v (.int .i64 p.c)]
theorem jjp {p q:Pr} (hp:p.ok) (hq:q.ok):PureCalls cfs.P cfs.glob 137 [.agg (p.cells.map AV.d),.agg (q.cells.map AV.d)] (aI (Pr.cf p q)):=by
 refine jx7 4 (wD [p.w0,p.w1,p.w2,p.w3]) p.c 4 (wD [q.w0,q.w1,q.w2,q.w3]) q.c (Pr.cf p q) ?_
 unfold jtd
 rw [jf]
 have h:je (p.c - q.c):=by
  obtain ⟨_,_,_,_,e1,e2⟩:=hp
  obtain ⟨_,_,_,_,e1',e2'⟩:=hq
  unfold je; omega
 simp only [jlN,jj,jg,jc1,PC.holds,h,if_true,jpb,jc,jq,jp,Pr.cf]
 by_cases hc:p.c=q.c
 ·simp [hc,ji]
 ·simp [hc,ji]
end Go.Kv
namespace Go.Kv
open Go Go.RowKit Go.Proofs Go.Sort
theorem joa {p q:Pr} (hp:p.ok) (hq:q.ok) (h:p.key≤q.key):p.c≤q.c:=by
 obtain ⟨⟨a1,a2⟩,⟨b1,b2⟩,⟨c1,c2⟩,⟨d1,d2⟩,e1,e2⟩:=hp
 obtain ⟨⟨a1',a2'⟩,⟨b1',b2'⟩,⟨c1',c2'⟩,⟨d1',d2'⟩,e1',e2'⟩:=hq
 unfold Pr.key at h
 omega
section
variable {N:Nat} [Inhabited (_root_.Fin N)]
noncomputable def qn (T:_root_.Fin N→Pr):List (_root_.Fin N):=(pdq (ltOf fun i j=>Pr.cf (T i) (T j)) (Array.ofFn (n:=N) id) 0 N (Lib.bitLen N) true true).toList
theorem jn3 (T:_root_.Fin N→Pr) (hT:∀ i,(T i).ok):SWO (ltOf fun i j=>Pr.cf (T i) (T j)):=by
 have e:∀ i j,ltOf (fun i j=>Pr.cf (T i) (T j)) i j=decide ((T i).key<(T j).key):=by
  intro i j
  unfold ltOf
  rw [decide_eq_decide]
  exact jhW (hT i) (hT j)
 constructor
 ·intro x; rw [e]; simp
 ·intro x y z h1 h2
  rw [e] at *
  simp only [decide_eq_true_eq] at *
  omega
 ·intro x y z h1 h2
  rw [e] at *
  simp only [decide_eq_false_iff_not] at *
  omega
theorem jcp (T:_root_.Fin N→Pr) (hT:∀ i,(T i).ok):(qn T).Perm (List.ofFn (n:=N) id)∧∀ (i j:Nat) (x y:_root_.Fin N),i<j→(qn T)[i]? = some x→(qn T)[j]? = some y→(T x).key≤(T y).key:=by
 have hh:=pdq_sorts (ltOf fun i j=>Pr.cf (T i) (T j)) (jn3 T hT) (Array.ofFn (n:=N) id) 0 N (Lib.bitLen N) true true (Nat.zero_le _) (by simp) (Or.inl rfl)
 unfold qn
 revert hh
 generalize pdq (ltOf fun i j=>Pr.cf (T i) (T j)) (Array.ofFn (n:=N) id) 0 N (Lib.bitLen N) true true=d
 rintro ⟨⟨hs,_,hp⟩,ho⟩
 have hN:d.size=N:=by simpa using hs
 constructor
 ·have ex:∀ (a:Array (_root_.Fin N)) (k:Nat),a.size=k→a.extract 0 k=a:=by
   intro a k h; subst h; simp
  have e1:=ex d N hN
  have e2:=ex (Array.ofFn (n:=N) id) N (by simp)
  rw [e1,e2] at hp
  simpa using hp
 ·intro i j x y hi hx hy
  have hj':j<d.size:=by
   have:=(List.getElem?_eq_some_iff.1 hy).1
   simpa using this
  have h:=ho i j (Nat.zero_le _) hi (by omega)
  unfold ltOf at h
  rw [decide_eq_false_iff_not,jhW (hT _) (hT _),getElem!_pos d i (by omega),getElem!_pos d j hj'] at h
  have a:d[i]'(by omega)=x:=by simpa using (List.getElem?_eq_some_iff.1 hx).2
  have b:d[j]=y:=by simpa using (List.getElem?_eq_some_iff.1 hy).2
  rw [a,b] at h
  omega
theorem jhC (T:_root_.Fin N→Pr) (hT:∀ i,(T i).ok) (i0 j0:_root_.Fin N) (c1:Int) (h0:(T i0).c<c1) (hm:∀ i,i≠i0→c1≤(T i).c) (hj:j0≠i0) (hjc:(T j0).c=c1) :
  ∃ i1 rest,qn T=i0 :: i1 :: rest∧(T i1).c=c1:=by
 obtain ⟨hp,ho⟩:=jcp T hT
 have hnd:(qn T).Nodup:=hp.nodup_iff.2 (by
  unfold List.Nodup
  rw [List.pairwise_iff_getElem]
  intro i j hi hj hij
  simp
  omega)
 have hmem:∀ i,i ∈ qn T:=fun i=>hp.mem_iff.2 (by
  rw [List.mem_iff_getElem]
  exact ⟨i.val,by simp,by simp⟩)
 generalize qn T=L at hp ho hnd hmem
 match L,hp,ho,hnd,hmem with
 | [],_,_,_,hmem=>exact absurd (hmem i0) (by simp)
 | [x],_,_,_,hmem =>
  have a:=hmem i0
  have b:=hmem j0
  simp at a b
  exact absurd (b.trans a.symm) hj
 | x :: y :: rest,_,ho,hnd,hmem =>
  have hx:x=i0:=by
   apply Classical.byContradiction
   intro hne
   obtain ⟨k,hki⟩:=List.mem_iff_getElem?.1 (hmem i0)
   rcases Nat.eq_zero_or_pos k with h | h
   ·subst h; simp at hki; exact hne hki
   ·have h1:=ho 0 k x i0 h rfl hki
    have h2:=joa (hT _) (hT _) h1
    have h3:=hm x hne
    omega
  subst hx
  refine ⟨y,rest,rfl,?_⟩
  have hy:y≠x:=by
   intro e; subst e
   simp at hnd
  have h1:=hm y hy
  obtain ⟨k,hkj⟩:=List.mem_iff_getElem?.1 (hmem j0)
  match k,hkj with
  | 0,hkj=>simp at hkj; exact absurd hkj.symm hj
  | 1,hkj =>
   have:y=j0:=by simpa using hkj
   rw [this]; exact hjc
  | k+2,hkj =>
   have h3:=joa (hT _) (hT _) (ho 1 (k+2) y j0 (by omega) rfl hkj)
   omega
end
end Go.Kv
namespace Go.Kv
open Go Go.RowKit Go.Proofs Go.Sort
set_option maxRecDepth 100000
def jjh (a b c d:Int):Int:=(((if a=10 then 0 else 16)+(if b=5 then 0 else 16))+(if c=1 then 0 else 16))+(if d=7 then 0 else 8)
def QD (n:Nat):Pr :=
 ⟨(10*((n % 17:Nat):Int)+((n / 17:Nat):Int)) % 17,(5*((n % 17:Nat):Int)+2*((n / 17:Nat):Int)) % 17,((n % 17:Nat):Int),((n / 17:Nat):Int),
  jjh ((10*((n % 17:Nat):Int)+((n / 17:Nat):Int)) % 17) ((5*((n % 17:Nat):Int)+2*((n / 17:Nat):Int)) % 17) ((n % 17:Nat):Int) ((n / 17:Nat):Int)⟩
def kP (i:_root_.Fin 289):Pr:=QD i.val
instance okDec (p:Pr):Decidable p.ok:=by unfold Pr.ok; infer_instance
theorem joN:∀ i,(kP i).ok:=by decide +kernel
theorem ju9:(kP 1).c=8:=by decide +kernel
theorem jsm:∀ i,i≠1→32≤(kP i).c:=by decide +kernel
theorem jy9:(kP 120).c=32:=by decide +kernel
theorem jqj:∃ i1 rest,qn kP=1 :: i1 :: rest∧(kP i1).c=32:=jhC kP joN 1 120 32 (by rw [ju9]; decide) jsm (by decide) jy9
noncomputable def QH (_ _:Nat) (_:List DV):List DV:=Classical.choose (show ∃ y:List DV,y=(qn kP).flatMap fun i=>(kP i).cells from ⟨_,rfl⟩)
theorem jbh (a b:Nat) (c:List DV):QH a b c=(qn kP).flatMap fun i=>(kP i).cells:=Classical.choose_spec (show ∃ y:List DV,y=(qn kP).flatMap fun i=>(kP i).cells from ⟨_,rfl⟩)
end Go.Kv
namespace Go.Kv
open Go Go.RowKit Go.Proofs Go.Sort
set_option maxRecDepth 100000
def cellsT:List DV:=(List.range 289).flatMap fun n=>(QD n).cells
theorem jpk:(Array.ofFn (n:=289) id).toList.flatMap (fun i=>(kP i).cells)=cellsT:=by
 unfold cellsT
 have e:(Array.ofFn (n:=289) id).toList.map (fun i:_root_.Fin 289=>i.val)=List.range 289:=by
  apply List.ext_getElem
  ·simp only [List.length_map,Array.length_toList,Array.size_ofFn,List.length_range]
  ·intro i h1 h2
   simp only [List.getElem_map,Array.getElem_toList,Array.getElem_ofFn,id,List.getElem_range]
 rw [← e,List.flatMap_map]
 unfold kP
 rfl
theorem jkc (args:Array Value) (w:World):(callFunc 137 args).run cfz.P w=.ok (.enter 137 args) w:=by
 have hc:(JH cfz.P 137).isSome=true:=by kernel_rfl
 obtain ⟨⟨fn,c⟩,hx⟩:=Option.isSome_iff_exists.1 hc
 exact (j8 jJ.1 hx args w).1
theorem jp0 {N:Nat} [Inhabited (_root_.Fin N)] (hN:N<4611686018427387904) (T:_root_.Fin N→Pr) (hT:∀ i,(T i).ok) :
  Qg cfz.P cfz.glob 136 2 N ((Array.ofFn (n:=N) id).toList.flatMap fun i=>(T i).cells) (.d (.v (.func (.func 137) #[] #[]))) ((qn T).flatMap fun i=>(T i).cells):=by
 have hh:=jmP (P:=cfz.P) (glob:=cfz.glob) Tryz.laysSort (k:=2) (N:=N) hN Tryz.isAgg139 Tryz.sizeOf139 137 jkc (fun i=>(T i).cells) (fun i=>rfl) (fun i j=>Pr.cf (T i) (T j)) (jn3 T hT) (fun i j=>jjp (hT i) (hT j))
 exact hh
theorem jp2 (a b:Nat) (c:List DV):Qg cfz.P cfz.glob 136 2 289 cellsT (.d (.v (.func (.func 137) #[] #[]))) (QH a b c):=by
 rw [jbh,← jpk]
 exact jp0 (by omega) kP joN
theorem jno (a b:Nat) (c:List DV):∃ w rest,QH a b c=.sl 4 (wD [10,5,1,0]) :: vI 8 :: .sl 4 w :: vI 32 :: rest:=by
 obtain ⟨i1,rest,h1,h2⟩:=jqj
 rw [jbh,h1]
 refine ⟨wD [(kP i1).w0,(kP i1).w1,(kP i1).w2,(kP i1).w3],rest.flatMap (fun i=>(kP i).cells),?_⟩
 rw [List.flatMap_cons,List.flatMap_cons]
 have a0:(kP 1).w0=10:=by decide +kernel
 have a1:(kP 1).w1=5:=by decide +kernel
 have a2:(kP 1).w2=1:=by decide +kernel
 have a3:(kP 1).w3=0:=by decide +kernel
 have e1:(kP 1).cells=[.sl 4 (wD [10,5,1,0]),vI 8]:=by unfold Pr.cells; rw [a0,a1,a2,a3,ju9]
 rw [e1]
 simp [Pr.cells,h2]
theorem jmA (a b:Nat) (c:List DV):(QH a b c).length=578:=by
 rw [jbh]
 have hp:=(jcp kP joN).1.length_eq
 rw [QW (k:=2) _ (fun i=>rfl),hp]
 simp
end Go.Kv
