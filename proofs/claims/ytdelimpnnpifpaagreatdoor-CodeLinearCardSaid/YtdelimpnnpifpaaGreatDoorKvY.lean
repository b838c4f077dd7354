import Derived.Test.YtdelimpnnpifpaaGreatDoorKvW
import Derived.ProofKit
import Derived.LaidMore
import Derived.OpenShut
import Derived.Stop.Joined
set_option linter.all false
namespace Go.Kv
open Go Go.RowKit
def kj (w:World) (i:Nat):Nat:=match w.heap[i]? with
 | some (.cells cs _ _)=>cs.size+1
 | _=>0
theorem jg2 (w:World) (i:Nat) (h:w.heap.size≤i):kj w i=0:=by
 unfold kj; rw [Array.getElem?_eq_none h]
def jdI (P:Program):List Field→Nat→Nat→Bool
 | [],o,n=>o==n
 | f :: fs,o,n=>f.offset==o&&jdI P fs (o+P.cellsOf f.type) n
def Ko (P:Program):Nat→TypeId→Bool
 | 0,_=>false
 | n+1,t=>match P.underlying t with
  | some .bool=>true
  | some (.int _)=>true
  | some (.float _)=>true
  | some .string=>true
  | some (.struct fs)=>jdI P fs.toList 0 (P.cellsOf t)&&fs.toList.all (fun f=>Ko P n f.type)
  | some (.array k e)=>(P.cellsOf t==k*P.cellsOf e)&&Ko P n e
  | some (.slice e)=>Nat.ble 1 (P.cellsOf e)&&Ko P n e
  | _=>false
def YG (S:TypeId→List DV→Prop):List Field→List DV→Prop
 | [],xs=>xs=[]
 | f :: fs,xs=>∃ a b,xs=a++b∧S f.type a∧YG S fs b
def YU (S:List DV→Prop):Nat→List DV→Prop
 | 0,xs=>xs=[]
 | k+1,xs=>∃ a b,xs=a++b∧S a∧YU S k b
def Ja (P:Program):Nat→TypeId→List DV→Prop
 | 0,_,_=>False
 | n+1,t,xs=>match P.underlying t with
  | some .bool=>∃ b,xs=[.v (.bool b)]
  | some (.int k)=>∃ i,xs=[.v (.int k i)]∧(Lit.int k i).wf=true
  | some (.float k)=>∃ b,xs=[.v (.float k b)]∧(Lit.float k b).wf=true
  | some .string=>∃ s:ByteArray,xs=[.v (.string s)]∧s.size≤maxLen
  | some (.struct fs)=>YG (Ja P n) fs.toList xs
  | some (.array k e)=>YU (Ja P n e) k xs
  | some (.slice e)=>∃ ys:List (List DV),xs=[.sl ys.length ys.flatten]∧ys.length≤maxLen∧∀ y ∈ ys,Ja P n e y
  | _=>False
section
variable {H:Type} {enc:TypeId × Value→H} {P:Program} {w:World} {base:Nat} {spare:Nat→Bool} {held:Bool}
theorem zj {φ:Nat→Nat} {v:Value} (h:v.oneCell'=true):RelDs φ w [.v v] [v] :=
 RelDs.cons (by unfold RelD; exact ⟨rfl,h⟩) RelDs.nil
theorem ZT {φ:Nat→Nat} {S:TypeId→List DV→Prop} {cs:List Value}:∀ {fs:List Field} {o:Nat},jdI P fs o cs.length=true →
  (∀ f ∈ fs,∃ xs,S f.type xs∧RelDs φ w xs ((cs.drop f.offset).take (P.cellsOf f.type)))→∃ xs,YG S fs xs∧RelDs φ w xs (cs.drop o)
 | [],o,ht,_=>by
  simp [jdI] at ht
  exact ⟨[],rfl,by rw [ht,List.drop_length]; exact RelDs.nil⟩
 | f :: fs,o,ht,h=>by
  simp only [jdI,Bool.and_eq_true,beq_iff_eq] at ht
  obtain ⟨ht1,ht2⟩:=ht
  obtain ⟨b,hb1,hb2⟩:=ZT ht2 (fun g hg=>h g (List.mem_cons_of_mem _ hg))
  obtain ⟨a,ha1,ha2⟩:=h f (List.mem_cons_self ..)
  refine ⟨a++b,⟨a,b,rfl,ha1,hb1⟩,?_⟩
  rw [ht1] at ha2
  have:=ha2.append hb2
  rwa [← List.drop_drop,List.take_append_drop] at this
theorem Zs {φ:Nat→Nat} {S:List DV→Prop} {cs:List Value} {c:Nat}:∀ {n k:Nat},cs.length=(k+n)*c→(∀ i,k≤i→i<k+n→∃ xs,S xs∧RelDs φ w xs ((cs.drop (i*c)).take c)) →
  ∃ xs,YU S n xs∧RelDs φ w xs (cs.drop (k*c))
 | 0,k,hl,_=>⟨[],rfl,by rw [List.drop_of_length_le (by rw [hl]; simp)]; exact RelDs.nil⟩
 | n+1,k,hl,h=>by
  obtain ⟨b,hb1,hb2⟩:=Zs (n:=n) (k:=k+1) (by rw [hl]; congr 1; omega) (fun i h1 h2=>h i (by omega) (by omega))
  obtain ⟨a,ha1,ha2⟩:=h k (Nat.le_refl _) (by omega)
  refine ⟨a++b,⟨a,b,rfl,ha1,hb1⟩,?_⟩
  have:=ha2.append hb2
  have e:(k+1)*c=k*c+c:=Nat.succ_mul k c
  rw [e,← List.drop_drop,List.take_append_drop] at this
  exact this
def jdX (φ:Nat→Nat) (w:World):Prop:=∀ bk off v,w.cell? ⟨bk,off,none⟩=some v→off<φ bk
theorem zS (w:World):jdX (kj w) w:=by
 intro bk off v h
 unfold World.cell? at h
 unfold kj
 split at h
 ·rename_i c _ _ hh
  simp at h
  have:=(Array.getElem?_eq_some_iff.1 h).1
  simp only at hh
  rw [hh]
  exact Nat.lt_succ_of_lt this
 ·simp at h
theorem ZO {φ:Nat→Nat} {S:List DV→Prop} {bk off c:Nat}:∀ (n k:Nat),(∀ i,k≤i→i<k+n→∃ (xs:List DV) (us:List Value),S xs∧RelDs φ w xs us∧us.length=c∧jT w bk (off+i*c) us) →
  ∃ (ys:List (List DV)) (us:List Value),ys.length=n∧(∀ y ∈ ys,S y)∧RelDs φ w ys.flatten us∧us.length=n*c∧jT w bk (off+k*c) us
 | 0,k,_=>⟨[],[],rfl,by simp,RelDs.nil,by simp,by intro i u hu; simp at hu⟩
 | n+1,k,h=>by
  obtain ⟨ys,us,h1,h2,h3,h4,h5⟩:=ZO n (k+1) (fun i a b=>h i (by omega) (by omega))
  obtain ⟨xs,vs,g1,g2,g3,g4⟩:=h k (Nat.le_refl _) (by omega)
  have e:(k+1)*c=k*c+c:=Nat.succ_mul k c
  have e2:(n+1)*c=n*c+c:=Nat.succ_mul n c
  refine ⟨xs :: ys,vs++us,by simp [h1],by simpa using ⟨g1,h2⟩,by simpa using g2.append h3,by simp; omega,?_⟩
  intro i u hu
  by_cases hi:i<vs.length
  ·rw [List.getElem?_append_left hi] at hu
   exact g4 i u hu
  ·rw [List.getElem?_append_right (by omega)] at hu
   have:=h5 _ u hu
   rw [show off+k*c+i=off+(k+1)*c+(i - vs.length) by omega]
   exact this
theorem G3 {a:Addr} {n:Nat} {cs:List Value} (h:w.cells? base a n=some cs):cs.length=n∧∀ (i:Nat) u,cs[i]? = some u→w.cell? (a.add i)=some u:=by
 unfold World.cells? at h
 split at h
 ·have hl:=mapM_some_length h
  refine ⟨by simpa using hl,fun i u hu=>?_⟩
  have hi:i<n:=by
   have:=(List.getElem?_eq_some_iff.1 hu).1
   simp at hl
   omega
  have:=mapM_some_get h i i (by simp [hi])
  rw [this]; exact hu
 ·simp at h
theorem jgA {a:Addr} {v:Value} (h:w.cell? a=some v):a=⟨a.block,a.off,none⟩:=by
 obtain ⟨b,o,s⟩:=a
 unfold World.cell? at h
 split at h
 ·split at h
  ·simp at h
  ·rename_i hs
   cases s with
   | none=>rfl
   | some=>simp at hs
 ·simp at h
theorem qT (hsa:∀ {b:Nat},spare b=true) {φ:Nat→Nat} (hφ:jdX φ w):∀ {n:Nat} {t:TypeId} {fuel:Nat} {cs:List Value} {x:DataW H × List MemPlace},Ko P n t=true→DataW.trod enc P w base spare held fuel t cs=some x →
  ∃ xs,Ja P n t xs∧RelDs φ w xs cs
 | 0,t,fuel,cs,x,hp,_=>by simp [Ko] at hp
 | n+1,t,fuel,cs,x,hp,h=>by
  simp only [Ko] at hp
  split at hp
  ·rename_i hu
   cases fuel with
   | zero=>simp [DataW.trod] at h
   | succ m =>
    simp only [DataW.trod,hu] at h
    split at h <;> simp_all
    exact ⟨_,by simp only [Ja,hu]; exact ⟨_,rfl⟩,zj rfl⟩
  ·rename_i k hu
   cases fuel with
   | zero=>simp [DataW.trod] at h
   | succ m =>
    simp only [DataW.trod,hu] at h
    split at h <;> simp_all
    exact ⟨_,by simp only [Ja,hu]; exact ⟨_,rfl,by simp_all⟩,zj rfl⟩
  ·rename_i k hu
   cases fuel with
   | zero=>simp [DataW.trod] at h
   | succ m =>
    simp only [DataW.trod,hu] at h
    split at h <;> simp_all
    exact ⟨_,by simp only [Ja,hu]; exact ⟨_,rfl,by simp_all⟩,zj rfl⟩
  ·rename_i hu
   cases fuel with
   | zero=>simp [DataW.trod] at h
   | succ m =>
    simp only [DataW.trod,hu] at h
    split at h <;> simp_all
    exact ⟨_,by simp only [Ja,hu]; exact ⟨_,rfl,by simp_all⟩,zj rfl⟩
  ·rename_i fs hu
   simp only [Bool.and_eq_true,List.all_eq_true] at hp
   obtain ⟨hp1,hp2⟩:=hp
   obtain ⟨ys,m,rfl,rfl,hl,hlen,hf⟩:=DataW.trod_struct hu h
   rw [← hl] at hp1
   have:=ZT (P:=P) (w:=w) (φ:=φ) (S:=Ja P n) (cs:=cs) hp1 (fun f hfm=>by
    obtain ⟨i,hi⟩:=List.getElem?_of_mem hfm
    have hi':fs[i]? = some f:=by simpa using hi
    have h2:=hf i f hi'
    have hlt:i<ys.length:=by rw [hlen]; exact (Array.getElem?_eq_some_iff.1 hi').1
    rw [List.getElem?_eq_getElem hlt] at h2
    exact qT hsa hφ (hp2 f hfm) h2)
   obtain ⟨xs,h1,h2⟩:=this
   exact ⟨xs,by simp only [Ja,hu]; exact h1,by simpa using h2⟩
  ·rename_i k e hu
   simp only [Bool.and_eq_true,beq_iff_eq] at hp
   obtain ⟨hp1,hp2⟩:=hp
   obtain ⟨ys,m,rfl,rfl,hl,hlen,hf⟩:=DataW.trod_array hu h
   have:=Zs (w:=w) (φ:=φ) (S:=Ja P n e) (cs:=cs) (c:=P.cellsOf e) (n:=k) (k:=0) (by rw [hl,hp1]; simp) (fun i _ hi=>by
    have h2:=hf i (by omega)
    have hlt:i<ys.length:=by omega
    rw [List.getElem?_eq_getElem hlt] at h2
    exact qT hsa hφ hp2 h2)
   obtain ⟨xs,h1,h2⟩:=this
   exact ⟨xs,by simp only [Ja,hu]; exact h1,by simpa using h2⟩
  ·rename_i e hu
   simp only [Bool.and_eq_true,Nat.ble_eq] at hp
   obtain ⟨hc,hp⟩:=hp
   rcases DataW.trod_slice hu h with ⟨rfl,rfl⟩ | ⟨a,len,cap,elems,rest,m,rfl,rfl,rfl,hbase,hle,hmax,hlen,hel,hsp,_⟩
   ·refine ⟨[.sl 0 []],by simp only [Ja,hu]; exact ⟨[],rfl,by simp,by simp⟩,RelDs.cons ?_ RelDs.nil⟩
    unfold RelD
    exact ⟨0,0,0,[],.inr ⟨⟨none,rfl⟩,rfl,rfl,rfl⟩,Nat.zero_le _,Nat.le_refl _,by intro i u hu; simp at hu,RelDs.nil⟩
   ·by_cases hcap:cap=0
    ·subst hcap
     have:len=0:=by omega
     subst this
     refine ⟨[.sl 0 []],by simp only [Ja,hu]; exact ⟨[],rfl,by simp,by simp⟩,RelDs.cons ?_ RelDs.nil⟩
     unfold RelD
     exact ⟨0,0,0,[],.inr ⟨⟨some a,rfl⟩,rfl,rfl,rfl⟩,Nat.zero_le _,Nat.le_refl _,by intro i u hu; simp at hu,RelDs.nil⟩
    ·have hfst:(∃ cs,w.cells? base (a.add (0*P.cellsOf e)) (P.cellsOf e)=some cs):=by
      by_cases hl0:len=0
      ·subst hl0
       have hlt:0<rest.length∨rest=[]:=by
        cases rest with
        | nil=>exact .inr rfl
        | cons=>exact .inl (by simp)
       obtain ⟨r1,r2⟩:=hsp hsa
       have:=r2 0 (by omega)
       rw [Nat.add_zero] at this
       have hlt:0<rest.length:=by omega
       rw [List.getElem?_eq_getElem hlt,Option.bind_eq_some_iff] at this
       obtain ⟨cs,h1,_⟩:=this
       exact ⟨cs,h1⟩
      ·have:=hel 0 (by omega)
       have hlt:0<elems.length:=by omega
       rw [List.getElem?_eq_getElem hlt,Option.bind_eq_some_iff] at this
       obtain ⟨cs,h1,_⟩:=this
       exact ⟨cs,h1⟩
     obtain ⟨cs0,hcs0⟩:=hfst
     rw [Nat.zero_mul] at hcs0
     obtain ⟨hl0,hg0⟩:=G3 hcs0
     have hlt0:0<cs0.length:=by omega
     have hc0:=hg0 0 _ (List.getElem?_eq_getElem hlt0)
     have hadd0:(a.add 0).add 0=a:=by simp [Addr.add]
     rw [hadd0] at hc0
     have ha:=jgA hc0
     generalize a.block=bk at ha
     generalize a.off=off at ha
     subst ha
     have hoff:=hφ _ _ _ hc0
     obtain ⟨ys,us,y1,y2,y3,y4,y5⟩:=ZO (w:=w) (φ:=φ) (S:=Ja P n e) (bk:=bk) (off:=off) (c:=P.cellsOf e) len 0 (fun i _ hi=>by
      have h2:=hel i (by omega)
      have hlt:i<elems.length:=by omega
      rw [List.getElem?_eq_getElem hlt,Option.bind_eq_some_iff] at h2
      obtain ⟨cs,h3,h4⟩:=h2
      obtain ⟨xs,h5,h6⟩:=qT hsa hφ hp h4
      obtain ⟨c1,c2⟩:=G3 h3
      refine ⟨xs,cs,h5,h6,c1,fun j u hj=>?_⟩
      have:=c2 j u hj
      rwa [Addr.add_lit,Addr.add_lit] at this)
     refine ⟨[.sl len ys.flatten],by simp only [Ja,hu]; exact ⟨ys,by rw [y1],by omega,y2⟩,RelDs.cons ?_ RelDs.nil⟩
     unfold RelD
     rw [Nat.zero_mul,Nat.add_zero] at y5
     refine ⟨bk,off,cap,us,.inl rfl,?_,hle,y5,y3⟩
     by_cases hz:us.length=0
     ·omega
     ·have hlt:us.length - 1<us.length:=by omega
      have:=hφ _ _ _ (y5 _ _ (List.getElem?_eq_getElem hlt))
      omega
  ·simp at hp
def jnO:List DV→AV
 | [x]=>.d x
 | _=>.any
def jbS (P:Program) (t:TypeId) (xs:List DV):AV:=match P.underlying t with
 | some (.struct _)=>.agg (xs.map .d)
 | some (.array _ _)=>.agg (xs.map .d)
 | _=>jnO xs
theorem jby (hsa:∀ {b:Nat},spare b=true) {c:Ctx} {n:Nat} {t:TypeId} {v:Value} {d:DataW H} {ps:List MemPlace} {b0:Nat} (hφ:jdX c.φ w) (hp:Ko P n t=true) (hok:Value.okWide P w .any b0 t v) (h:DataW.Trod enc P w base spare held t v d ps) :
  ∃ xs,Ja P n t xs∧Rel c w (jbS P t xs) v:=by
 obtain ⟨fuel,h⟩:=h
 obtain ⟨xs,h1,h2⟩:=qT hsa (φ:=c.φ) hφ hp h
 refine ⟨xs,h1,?_⟩
 have aggCase:∀ us:Array Value,v=.agg us→Rel c w (.agg (xs.map .d)) v:=by
  intro us hv
  subst hv
  unfold Rel
  refine ⟨us.toList,rfl,?_⟩
  simp only [Value.cells] at h2
  exact Rels.map_d h2
 have oneCase:v.oneCell'=true→Rel c w (jnO xs) v:=by
  intro hv
  rw [Qa hv] at h2
  have hl:=h2.length
  match xs,hl,h2 with
  | [x],_,h2 =>
   obtain ⟨u,r,hur,hu,_⟩:=h2.cons_inv
   simp at hur
   obtain ⟨rfl,_⟩:=hur
   unfold Rel; exact hu
 unfold jbS
 unfold Value.okWide at hok
 cases n with
 | zero=>simp [Ko] at hp
 | succ n =>
  simp only [Ko] at hp
  split at hp <;> rename_i hu <;> simp only [hu] at hok ⊢
  ·cases v <;> simp [Cell.okWide,Cell.ok,hu] at hok
   exact oneCase rfl
  ·cases v <;> simp [Cell.okWide,Cell.ok,hu] at hok
   exact oneCase rfl
  ·cases v <;> simp [Cell.okWide,Cell.ok,hu] at hok
   exact oneCase rfl
  ·cases v <;> simp [Cell.okWide,Cell.ok,hu] at hok
   exact oneCase rfl
  ·obtain ⟨cs,rfl,_⟩:=hok
   exact aggCase _ rfl
  ·obtain ⟨cs,rfl,_⟩:=hok
   exact aggCase _ rfl
  ·cases v <;> simp [Cell.okWide,Cell.ok,hu] at hok
   exact oneCase rfl
  ·simp at hp
end
section
variable {H:Type} {enc:TypeId × Value→H} {P:Program}
theorem jeB {W W':World} (hb:Below W.heap.size W W') (may:MemPlace→Prop):W.keptBut W' may:=by
 have h:=World.keptBut_refl W may
 refine ⟨hb.os,hb.output,fun i hi=>?_⟩
 have h2:=h.2.2 i hi
 rw [hb.block i hi]
 exact h2
theorem zD (hl:laidOutB P=true) {W W':World} (hb:Below W.heap.size W W'):∀ {ts:List TypeId} {vs:List Value} {ds:List (DataW H)} {p:List MemPlace},(∀ t ∈ ts,P.readableRec t=true∧t<P.types.size)→(∀ x ∈ p,x.block<W.heap.size) →
  DataW.TrodAll enc P W 0 (fun _=>true) true ts vs ds p→DataW.TrodAll enc P W' 0 (fun b=>decide (b<W.heap.size)) true ts vs ds p
 | [],[],[],p,_,_,h=>h
 | t :: ts,v :: vs,d :: ds,p,ht,hp,h=>by
  obtain ⟨p1,p2,h1,h2,rfl⟩:=h
  refine ⟨p1,p2,Below.trod hl (ht t (by simp)).1 (ht t (by simp)).2 h1 hb (fun x hx=>hp x (by simp [hx])),zD hl hb (fun x hx=>ht x (by simp [hx])) (fun x hx=>hp x (by simp [hx])) h2,rfl⟩
 | [],_ :: _,_,_,_,_,h=>by simp [DataW.TrodAll] at h
 | [],[],_ :: _,_,_,_,h=>by simp [DataW.TrodAll] at h
 | _ :: _,[],_,_,_,_,h=>by simp [DataW.TrodAll] at h
 | _ :: _,_ :: _,[],_,_,_,h=>by simp [DataW.TrodAll] at h
theorem jjr {fn:Func} {s:ChangeSpec} {W W':World} {args:Array Value} {ds gs:List (DataW H)} {before:List MemPlace} {tb:TypeId} (hl:laidOutB P=true) (hv:s.vars=[]) (hres:fn.resultTypes=#[tb]) (htb:P.underlying tb=some .bool)
  (hts:∀ t ∈ fn.params.toList,P.readableRec t=true∧t<P.types.size) (hW:DataW.Whole enc P fn.params.toList s.vars false W args.toList ds gs before)
  (hfn:s.fn H (ds++gs)={ results:=[.lit (.bool true)],args:=ds }) (hb:Below W.heap.size W W'):s.post enc P fn false true false false W args (.bool true) W':=by
 have hlt:∀ x ∈ before,x.block<W.heap.size:=fun x hx=>hW.lt x hx
 have hW0:=hW
 obtain ⟨p,q,h1,h2,rfl,h4,h5⟩:=hW
 refine ⟨ds,gs,p++q,[],p,[],hW0,?_,?_,?_,jeB hb _,fun h=>by cases h⟩
 ·rw [hfn,hres]
  exact ⟨[],[],⟨1,by simp [DataW.trod,htb,Value.cells]⟩,rfl,rfl⟩
 ·rw [hfn]
  exact zD hl hb hts (fun x hx=>hlt x (by simp [hx])) h1
 ·rw [hfn,hv]
  rfl
theorem jgK {glob:Nat→Option (List DV)} {f:FuncId} {as:List AV} {W:World} {args:Array Value} (h:PureCalls P glob f as (aB true)) (hg:GlobOk glob W (kj W)) (hr:Rels (JR (kj W)) W as args.toList) :
  Calls P f args W fun e W'=>e=.returned (.bool true)∧Below W.heap.size W W':=by
 have:=h W (kj W) args.toList (jg2 W) hg hr
 rw [Array.toArray_toList] at this
 refine this.mono ?_
 rintro e w' ⟨u,φ',he,hb,_,_,hrel⟩
 unfold Rel RelD at hrel
 exact ⟨by rw [he,hrel.1],hb.toBelow⟩
def jcW:DataW Unit→Option DV
 | .lit (.int k n)=>some (.v (.int k n))
 | .lit (.string l)=>some (.v (.string ⟨l.toArray⟩))
 | _=>none
def K9:List (DataW Unit)→Option (List DV)
 | []=>some []
 | d :: ds=>match jcW d,K9 ds with
  | some x,some xs=>some (x :: xs)
  | _,_=>none
theorem YL:∀ {ds:List (DataW Unit)} {xs:List DV},K9 ds=some xs→xs.length=ds.length∧∀ (i:Nat) x,xs[i]? = some x→∃ d,ds[i]? = some d∧jcW d=some x
 | [],xs,h=>by simp [K9] at h; subst h; exact ⟨rfl,fun i x hx=>by simp at hx⟩
 | d :: ds,xs,h=>by
  simp only [K9] at h
  split at h
  ·rename_i x ys h1 h2
   simp at h; subst h
   obtain ⟨h3,h4⟩:=YL h2
   refine ⟨by simp [h3],fun i y hy=>?_⟩
   cases i with
   | zero=>simp at hy; subst hy; exact ⟨d,rfl,h1⟩
   | succ i=>exact h4 i y (by simpa using hy)
  ·simp at h
theorem jgu {φ:Nat→Nat} {w:World} {encU:TypeId × Value→Unit} {base:Nat} {sp:Nat→Bool} {held:Bool} {e:TypeId} (he:(∃ k,P.underlying e=some (.int k))∨P.underlying e=some .string) {fuel:Nat} {c:Value} {d:DataW Unit} {p:List MemPlace} {x:DV}
  (h:DataW.trod encU P w base sp held fuel e [c]=some (d,p)) (hx:jcW d=some x):RelD φ w x c:=by
 cases fuel with
 | zero=>simp [DataW.trod] at h
 | succ m =>
  rcases he with ⟨k,he⟩ | he
  ·cases c <;> simp [DataW.trod,he] at h
   obtain ⟨⟨rfl,_⟩,rfl,_⟩:=h
   simp [jcW] at hx; subst hx
   unfold RelD; exact ⟨rfl,rfl⟩
  ·cases c <;> simp [DataW.trod,he] at h
   obtain ⟨_,rfl,_⟩:=h
   simp [jcW] at hx; subst hx
   unfold RelD; exact ⟨rfl,rfl⟩
theorem jf2 {φ:Nat→Nat} {w:World} {encU:TypeId × Value→Unit} {base:Nat} {sp:Nat→Bool} {held:Bool} {t e:TypeId} {n:Nat} (ht:P.underlying t=some (.array n e)) (hct:P.cellsOf t=n) (hce:P.cellsOf e=1)
  (he:(∃ k,P.underlying e=some (.int k))∨P.underlying e=some .string) {fuel:Nat} {cs:List Value} {ds:List (DataW Unit)} {p:List MemPlace} {xs:List DV}
  (h:DataW.trod encU P w base sp held fuel t cs=some (.agg ds,p)) (hx:K9 ds=some xs):RelDs φ w xs cs:=by
 obtain ⟨ys,m,rfl,hd,hl,hlen,hel⟩:=DataW.trod_array ht h
 simp only [Prod.mk.injEq,DataW.agg.injEq] at hd
 obtain ⟨rfl,rfl⟩:=hd
 obtain ⟨h1,h2⟩:=YL hx
 rw [hct] at hl
 refine RelDs.of_get (by rw [hl,h1,List.length_map,hlen]) fun i x u hxi hui=>?_
 obtain ⟨d,hd,hlit⟩:=h2 i x hxi
 rw [List.getElem?_map] at hd
 cases hy:ys[i]? with
 | none=>rw [hy] at hd; simp at hd
 | some y =>
  rw [hy] at hd
  simp at hd
  have hin:i<n:=by rw [← hlen]; exact (List.getElem?_eq_some_iff.1 hy).1
  have h3:=hel i hin
  rw [hy,hce,Nat.mul_one] at h3
  have hc:(cs.drop i).take 1=[u]:=by
   have hi:i<cs.length:=by omega
   rw [List.drop_eq_getElem_cons hi]
   have:=(List.getElem?_eq_some_iff.1 hui).2
   simp [this]
  rw [hc] at h3
  obtain ⟨d',p'⟩:=y
  simp at hd
  subst hd
  exact jgu he h3 hlit
theorem jbU {W:World} {name:String} {g:Nat} {cs:Array Value} (hg:P.globalNamed name=some g) (hv:W.var? P name=some cs) {xs:List DV} (hr:RelDs (kj W) W xs cs.toList) :
  ∃ us:List Value,us.length<kj W g∧jT W g 0 us∧RelDs (kj W) W xs us∧W.cell? ⟨g,us.length,none⟩=none:=by
 have hc:jT W g 0 cs.toList:=by
  intro i u hu
  have:=World.var?_cell hg hv i
  simp only [Nat.zero_add]
  rw [this]
  simpa using hu
 have hp:kj W g=cs.size+1:=by
  unfold World.var? at hv
  rw [hg] at hv
  simp only [Option.bind_some] at hv
  split at hv
  ·rename_i cs' _ _ hh
   cases hv
   unfold kj; rw [hh]
  ·cases hv
 refine ⟨cs.toList,by rw [hp]; simp,hc,hr,?_⟩
 rw [World.var?_cell hg hv cs.toList.length]
 simp
end
end Go.Kv
