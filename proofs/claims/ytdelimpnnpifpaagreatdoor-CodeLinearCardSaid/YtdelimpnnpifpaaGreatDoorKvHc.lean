import Derived.Test.YtdelimpnnpifpaaGreatDoorKvHb
set_option linter.all false
namespace Go.Kv
open Go Go.RowKit
instance:LawfulBEq ByteArray where
 eq_of_beq {a b} h:=by
  rw [beq_toListBytes,ByteArray.toList_eq,ByteArray.toList_eq] at h
  have h:=eq_of_beq h
  cases a; cases b
  simp only [ByteArray.mk.injEq]
  exact Array.toList_inj.1 h
 rfl {a}:=by
  rw [beq_toListBytes]
  exact beq_self_eq_true _
section
variable {κ β:Type} [BEq κ] [LawfulBEq κ]
def J9:List (κ × β)→κ→Option β
 | [],_=>none
 | e :: r,a=>if a==e.1 then some e.2 else J9 r a
def qd:List (κ × β)→κ→β→List (κ × β)
 | [],a,v=>[(a,v)]
 | e :: r,a,v=>if a==e.1 then (a,v) :: r else e :: qd r a v
end
section
variable {κ β:Type}
def QE (eK:κ→Value) (eV:β→Value) (ents:List MapEntry) (es:List (κ × β)):Prop:=ents.map (fun e=>(e.key,e.val))=es.map fun e=>(eK e.1,eV e.2)
theorem jae {eK:κ→Value} {eV:β→Value} {x:MapEntry} {ents:List MapEntry} {e:κ × β} {es:List (κ × β)} (h:QE eK eV (x :: ents) (e :: es)):x.key=eK e.1∧x.val=eV e.2∧QE eK eV ents es:=by
 unfold QE at *
 simp only [List.map_cons,List.cons.injEq,Prod.mk.injEq] at h
 exact ⟨h.1.1,h.1.2,h.2⟩
theorem jbp {eK:κ→Value} {eV:β→Value} {x:MapEntry} {ents:List MapEntry} {e:κ × β} {es:List (κ × β)} (h1:x.key=eK e.1) (h2:x.val=eV e.2) (h:QE eK eV ents es):QE eK eV (x :: ents) (e :: es):=by
 unfold QE at *
 simp only [List.map_cons,h1,h2,h]
theorem jde {eK:κ→Value} {eV:β→Value} {ents:List MapEntry} (h:QE eK eV ents []):ents=[]:=by
 unfold QE at h; simpa using h
theorem GT {eK:κ→Value} {eV:β→Value} {es:List (κ × β)} (h:QE eK eV [] es):es=[]:=by
 unfold QE at h; simpa using h.symm
end
section
variable {κ β:Type} [BEq κ] [LawfulBEq κ] {td:TypeDesc} {eK:κ→Value} {eV:β→Value}
theorem yO (hn:∀ a b,Instr.sameNow td (eK a) (eK b)=some (a==b)) (a:κ):∀ (ents:List MapEntry) (es:List (κ × β)) (i:Nat),QE eK eV ents es→J9 es a=none →
  Instr.findNow td (eK a) ents i=some none∧∀ v' born,QE eK eV (ents++[⟨eK a,eV v',born⟩]) (qd es a v')
 | [],es,i,h,_=>by
  cases GT h
  exact ⟨rfl,fun v' born=>rfl⟩
 | x :: ents,[],i,h,_=>by cases jde h
 | x :: ents,e :: es,i,h,hm=>by
  obtain ⟨h1,h2,h3⟩:=jae h
  simp only [J9] at hm
  split at hm
  ·simp at hm
  ·rename_i hne
   obtain ⟨k1,k2⟩:=yO hn a ents es (i+1) h3 hm
   have hne:(a==e.1)=false:=by simpa using hne
   refine ⟨by simp only [Instr.findNow,h1,hn,hne]; exact k1,fun v' born=>?_⟩
   simp only [qd,hne,Bool.false_eq_true,if_false]
   exact jbp h1 h2 (k2 v' born)
theorem yg (hn:∀ a b,Instr.sameNow td (eK a) (eK b)=some (a==b)) (a:κ):∀ (ents:List MapEntry) (es:List (κ × β)) (i:Nat) (v:β),QE eK eV ents es→J9 es a=some v →
  ∃ j e,Instr.findNow td (eK a) ents i=some (some (i+j,eV v))∧ents[j]? = some e∧e.key=eK a∧∀ v',QE eK eV (ents.modify j fun e=>{ e with key:=eK a,val:=eV v' }) (qd es a v')
 | [],es,i,v,h,hm=>by cases GT h; simp [J9] at hm
 | x :: ents,[],i,v,h,_=>by cases jde h
 | x :: ents,e :: es,i,v,h,hm=>by
  obtain ⟨h1,h2,h3⟩:=jae h
  simp only [J9] at hm
  split at hm
  ·rename_i he
   simp only [Option.some.injEq] at hm
   have he':a=e.1:=by simpa using he
   refine ⟨0,x,by simp only [Instr.findNow,h1,hn,he,h2,hm,Nat.add_zero],rfl,by rw [h1,he'],fun v'=>?_⟩
   simp only [qd,he,if_true]
   exact jbp rfl rfl h3
  ·rename_i hne
   have hne:(a==e.1)=false:=by simpa using hne
   obtain ⟨j,y,k1,k2,k3,k4⟩:=yg hn a ents es (i+1) v h3 hm
   refine ⟨j+1,y,by simp only [Instr.findNow,h1,hn,hne]; rw [k1,show i+1+j=i+(j+1) by omega],by simpa using k2,k3,fun v'=>?_⟩
   simp only [qd,hne,Bool.false_eq_true,if_false]
   exact jbp h1 h2 (k4 v')
end
section
variable {cf:Cfg} {base:Nat} {w0:Start} {c:Ctx} {w:World} {H:List ABlk} {get:Nat→ABlk}
theorem qX (k:IntKind) (td:IntKind) (a b:Int):Instr.sameNow (.int td) (.int k a) (.int k b)=some (a==b):=by simp [Instr.sameNow]
theorem jft (a b:ByteArray):Instr.sameNow .string (.string a) (.string b)=some (a==b):=rfl
def YW (P:Program) (t:TypeId) (v:Value):Bool:=match P.info? t with
 | some i=>match i.zero,v with
  | some (.bool a),.bool b=>a==b
  | some (.int j a),.int k b=>j==k&&a==b
  | _,_=>false
 | none=>false
theorem zT {P:Program} {t:TypeId} {v:Value} (h:YW P t v=true) (w:World):(zeroValue t).run P w=.ok v w:=by
 unfold YW at h
 split at h
 ·rename_i i hi
  split at h
  ·rename_i a b hz
   have:a=b:=by simpa using h
   subst this
   simp [zeroValue,typeInfo,hi,hz]
  ·rename_i j a k b hz
   simp only [Bool.and_eq_true,beq_iff_eq] at h
   obtain ⟨rfl,rfl⟩:=h
   simp [zeroValue,typeInfo,hi,hz]
  ·simp at h
 ·simp at h
def jeO (P:Program) (t:TypeId):Option AMap:=match P.underlying t with
 | some (.map key elem)=>match P.underlying key,P.underlying elem with
  | some (.int k),some .bool=>some (.ib k [])
  | some .string,some .bool=>some (.sb [])
  | some (.int k),some (.int j)=>some (.ii k j [])
  | some (.int k),some (.struct _)=>some (.ia k [])
  | _,_=>none
 | _=>none
theorem jdT {P:Program} {t:TypeId} {m:AMap} (h:jeO P t=some m) {φ:Nat→Nat} {w:World}:MRel φ w m []:=by
 unfold jeO at h
 split at h
 ·split at h <;> simp at h <;> subst h <;> rfl
 ·simp at h
def Y0 (cf:Cfg) (t:TypeId) (r:Option Operand) (nm:Nat):Option ARes:=match r with
 | none=>match jeO cf.P t with
  | some m=>some ⟨[],.mp nm,[(nm,.mp m)]⟩
  | none=>none
 | some _=>none
theorem jbT (h:WRel base w0 c w H) {nm:Nat} (hnm:H[nm]? = some .gone) {t:TypeId} {x:Option Operand} {av:Operand→Value} {r:ARes} (hr:Y0 cf t x nm=some r) :
  ∃ w' c' v,(Instr.makeMap t (x.map av)).run cf.P w=.ok v w'∧Ctx.Le c w c' w'∧WRel base w0 c' w' (r.wr.foldl (fun H x=>H.set x.1 x.2) H)∧Rel c' w' r.val v:=by
 unfold Y0 at hr
 split at hr
 ·split at hr
  ·rename_i m hm
   simp only [Option.some.injEq] at hr; subst hr
   have ha:=h.alloc hnm (.map #[] 0) 0 0 (.mp m) rfl (by
    refine ⟨by simp [Ctx.new,h.le],#[],0,?_,jdT hm,rfl,by simp⟩
    simp only [Ctx.new,jz]
    exact heap_alloc_new w _)
   refine ⟨w.alloc (.map #[] 0),_,.map (some w.heap.size),by simp [Instr.makeMap,newObj]; rfl,ha.1,ha.2,?_⟩
   unfold Rel
   exact ⟨by simp [Ctx.new,ABlk.isTail],by simp [Ctx.new]⟩
  ·simp at hr
 ·simp at hr
def jqI (es:List (Int × Bool)) (a:Int):Bool:=(J9 es a).getD false
def juG (es:List (ByteArray × Bool)) (a:ByteArray):Bool:=(J9 es a).getD false
def jt3 (es:List (Int × Int)) (a:Int):Int:=(J9 es a).getD 0
def yt {κ β:Type} [BEq κ] (es:List (κ × β)) (a:κ):Bool:=(J9 es a).isSome
def okA (ok:Bool) (v:Value) (h:Bool):AV:=if ok then .tup [.d (.v v),.d (.v (.bool h))] else .d (.v v)
def QL (P:Program) (t:TypeId) (k:IntKind):Bool:=match P.underlying t with
 | some (.int j)=>j==k
 | _=>false
def ja4 (P:Program) (t:TypeId):Bool:=match P.underlying t with
 | some .string=>true
 | _=>false
theorem KB {P:Program} {t:TypeId} {k:IntKind} (h:QL P t k=true):P.underlying t=some (.int k):=by
 unfold QL at h
 split at h
 ·rename_i j hj; have:j=k:=by simpa using h
  rw [hj,this]
 ·simp at h
theorem GI {P:Program} {t:TypeId} (h:ja4 P t=true):P.underlying t=some .string:=by
 unfold ja4 at h
 split at h
 ·rename_i hj; exact hj
 ·simp at h
def jaW (P:Program) (t:TypeId):Option (List DV):=match P.info? t with
 | some i=>match i.zero with
  | some (.agg cs)=>if cs.toList.all Zn then some (cs.toList.map kK) else none
  | _=>none
 | none=>none
theorem jed {P:Program} {t:TypeId} {zs:List DV} (h:jaW P t=some zs):∃ us:List Value,(∀ w,(zeroValue t).run P w=.ok (.agg us.toArray) w)∧∀ φ w,RelDs φ w zs us:=by
 unfold jaW at h
 split at h
 ·rename_i i hi
  split at h
  ·rename_i cs hz
   split at h
   ·rename_i hall
    simp only [Option.some.injEq] at h; subst h
    exact ⟨cs.toList,fun w=>by simp [zeroValue,typeInfo,hi,hz],fun φ w=>yD hall⟩
   ·simp at h
  ·simp at h
 ·simp at h
def jcV (es:MID) (a:Int) (zs:List DV):List DV:=(J9 es a).getD zs
section
variable {φ:Nat→Nat} {w:World} {k:IntKind}
theorem Zq (a:Int):∀ (ents:List MapEntry) (es:MID) (i:Nat),MRelD φ w k es ents→J9 es a=none →
  Instr.findNow (.int k) (.int k a) ents i=some none∧∀ ds us born,RelDs φ w ds us→MRelD φ w k (qd es a ds) (ents++[⟨.int k a,.agg us.toArray,born⟩])
 | ents,[],i,h,_=>by
  unfold MRelD at h; subst h
  exact ⟨rfl,fun ds us born hr=>⟨_,[],rfl,rfl,⟨us,rfl,hr⟩,rfl⟩⟩
 | ents,e :: es,i,h,hm=>by
  obtain ⟨x,r,rfl,h1,h2,h3⟩:=h
  simp only [J9] at hm
  split at hm
  ·simp at hm
  ·rename_i hne
   obtain ⟨k1,k2⟩:=Zq a r es (i+1) h3 hm
   have hne:(a==e.1)=false:=by simpa using hne
   refine ⟨by simp only [Instr.findNow,h1,qX,hne]; exact k1,fun ds us born hr=>?_⟩
   simp only [qd,hne,Bool.false_eq_true,if_false]
   exact ⟨x,_,rfl,h1,h2,k2 ds us born hr⟩
theorem zY (a:Int):∀ (ents:List MapEntry) (es:MID) (i:Nat) (ds:List DV),MRelD φ w k es ents→J9 es a=some ds →
  ∃ j e us,Instr.findNow (.int k) (.int k a) ents i=some (some (i+j,.agg us.toArray))∧ents[j]? = some e∧e.key=.int k a∧RelDs φ w ds us ∧
   ∀ ds' us' ,RelDs φ w ds' us'→MRelD φ w k (qd es a ds') (ents.modify j fun e=>{ e with key:=.int k a,val:=.agg us'.toArray })
 | ents,[],i,ds,h,hm=>by simp [J9] at hm
 | ents,e :: es,i,ds,h,hm=>by
  obtain ⟨x,r,rfl,h1,⟨us,h2,h2'⟩,h3⟩:=h
  simp only [J9] at hm
  split at hm
  ·rename_i he
   simp only [Option.some.injEq] at hm
   have he':a=e.1:=by simpa using he
   subst hm
   refine ⟨0,x,us,by simp only [Instr.findNow,h1,qX,he,h2,Nat.add_zero],rfl,by rw [h1,he'],h2',fun ds' us' hr=>?_⟩
   simp only [qd,he,if_true]
   exact ⟨_,_,rfl,rfl,⟨us',rfl,hr⟩,h3⟩
  ·rename_i hne
   have hne:(a==e.1)=false:=by simpa using hne
   obtain ⟨j,y,vs,k1,k2,k3,k4,k5⟩:=zY a r es (i+1) ds h3 hm
   refine ⟨j+1,y,vs,by simp only [Instr.findNow,h1,qX,hne]; rw [k1,show i+1+j=i+(j+1) by omega],by simpa using k2,k3,k4,fun ds' us' hr=>?_⟩
   simp only [qd,hne,Bool.false_eq_true,if_false]
   exact ⟨x,_,rfl,h1,⟨us,h2,h2'⟩,k5 ds' us' hr⟩
end
theorem YV {P:Program} {t:TypeId} {k:IntKind} (h:P.underlying t=some (.int k)) (e:Bool) (n:Nat) (j:IntKind) (a:Int) (w:World):(Instr.checkKey e (n+1) t (.int j a)).run P w=.ok () w:=by
 simp [Instr.checkKey,run_underlying h]
theorem jcy {P:Program} {t key elem:TypeId} {k:IntKind} (ht:P.underlying t=some (.map key elem)) (hk:P.underlying key=some (.int k))
  {w:World} {r:Nat} {ents:Array MapEntry} {clock:Nat} (hh:w.heap[r]? = some (.map ents clock)) {φ:Nat→Nat} {es:MID} (he:MRelD φ w k es ents.toList) (a:Int) {zs:List DV} (hz:jaW P elem=some zs) (ok:Bool) :
  ∃ us:List Value,(Instr.lookup t (.map (some r)) (.int k a) ok).run P w=.ok (if ok then .tuple #[.agg us.toArray,.bool (yt es a)] else .agg us.toArray) w∧RelDs φ w (jcV es a zs) us:=by
 have hg:(getObj r).run P w=.ok (.map ents clock) w:=by simp [getObj,Sem.run,hh]
 have hc:=fun e=>YV hk e 9999 k a w
 cases hm:J9 es a with
 | none =>
  obtain ⟨us,hz1,hz2⟩:=jed hz
  have hf:=(Zq a ents.toList es 0 he hm).1
  have hq:(Instr.findKey key (.int k a) ents.toList).run P w=.ok none w:=by simp [Instr.findKey,run_underlying hk,hf]
  refine ⟨us,by simp [Instr.lookup,run_underlying ht,hg,hc,hq,hz1,yt,hm],?_⟩
  unfold jcV; rw [hm]; exact hz2 φ w
 | some ds =>
  obtain ⟨j,e,us,hf,_,_,hr,_⟩:=zY a ents.toList es 0 ds he hm
  have hq:(Instr.findKey key (.int k a) ents.toList).run P w=.ok (some (0+j,.agg us.toArray)) w:=by simp [Instr.findKey,run_underlying hk,hf]
  refine ⟨us,by simp [Instr.lookup,run_underlying ht,hg,hc,hq,yt,hm],?_⟩
  unfold jcV; rw [hm]; exact hr
def K5 (cf:Cfg) (t:TypeId) (x ix:AV) (ok:Bool) (get:Nat→ABlk) (dc:Dec):Option ARes:=match cf.P.underlying t,x with
 | some (.map key elem),.mp b=>match get b,ix with
  | .mp (.ib k es),.d (.v (.int j a))=>if j==k&&QL cf.P key k&&YW cf.P elem (.bool false) then some ⟨[],okA ok (.bool (jqI es a)) (yt es a),[]⟩ else none
  | .mp (.sb es),.d (.v (.string a))=>if ja4 cf.P key&&YW cf.P elem (.bool false) then some ⟨[],okA ok (.bool (juG es a)) (yt es a),[]⟩ else none
  | .mp (.ii k l es),.d (.v (.int j a))=>if j==k&&QL cf.P key k&&YW cf.P elem (.int l 0) then some ⟨[],okA ok (.int l (jt3 es a)) (yt es a),[]⟩ else none
  | .mp (.ia k es),.d (.v (.int j a))=>if j==k&&QL cf.P key k then match jaW cf.P elem,dc with
   | some zs,.as (.agg ys)=>some ⟨[.prop ((jcV es a zs).map AV.d=ys)],if ok then .tup [.agg ys,.d (.v (.bool (yt es a)))] else .agg ys,[]⟩
   | _,_=>none
   else none
  | _,_=>none
 | _,_=>none
theorem jbq (ok:Bool) (v:Value) (h:Bool) (h1:Zn v=true):Rel c w (okA ok v h) (if ok then .tuple #[v,.bool h] else v):=by
 have hv:Rel c w (.d (.v v)) v:=by unfold Rel RelD; exact ⟨rfl,by rw [← Z0]; exact h1⟩
 have hb:Rel c w (.d (.v (.bool h))) (.bool h):=by unfold Rel RelD; exact ⟨rfl,rfl⟩
 unfold okA
 cases ok
 ·simpa using hv
 ·simp only [if_true]
  unfold Rel
  exact ⟨[v,.bool h],rfl,Rels.cons hv (Rels.cons hb Rels.nil)⟩
theorem za {P:Program} {t:TypeId} {k:IntKind} (h:P.underlying t=some (.int k)) (e:Bool) (n:Nat) (j:IntKind) (a:Int) (w:World):(Instr.checkKey e (n+1) t (.int j a)).run P w=.ok () w:=by
 simp [Instr.checkKey,run_underlying h]
theorem jaj {P:Program} {t:TypeId} (h:P.underlying t=some .string) (e:Bool) (n:Nat) (a:ByteArray) (w:World):(Instr.checkKey e (n+1) t (.string a)).run P w=.ok () w:=by
 simp [Instr.checkKey,run_underlying h]
theorem Zi {κ β:Type} [BEq κ] [LawfulBEq κ] {P:Program} {eK:κ→Value} {eV:β→Value} {t key elem:TypeId} {td:TypeDesc} (hn:∀ a b,Instr.sameNow td (eK a) (eK b)=some (a==b)) (ht:P.underlying t=some (.map key elem)) (hk:P.underlying key=some td)
  {w:World} {r:Nat} {ents:Array MapEntry} {clock:Nat} (hh:w.heap[r]? = some (.map ents clock)) {es:List (κ × β)} (he:QE eK eV ents.toList es) (a:κ) (z:β) (hz:(zeroValue elem).run P w=.ok (eV z) w)
  (hc:∀ e,(Instr.checkKey e 10000 key (eK a)).run P w=.ok () w) (ok:Bool) :
  (Instr.lookup t (.map (some r)) (eK a) ok).run P w=.ok (if ok then .tuple #[eV ((J9 es a).getD z),.bool (yt es a)] else eV ((J9 es a).getD z)) w:=by
 have hg:(getObj r).run P w=.ok (.map ents clock) w:=by simp [getObj,Sem.run,hh]
 cases hm:J9 es a with
 | none =>
  have hf:=(yO hn a ents.toList es 0 he hm).1
  have hq:(Instr.findKey key (eK a) ents.toList).run P w=.ok none w:=by simp [Instr.findKey,run_underlying hk,hf]
  simp [Instr.lookup,run_underlying ht,hg,hc,hq,hz,yt,hm]
 | some v =>
  obtain ⟨j,e,hf,_⟩:=yg hn a ents.toList es 0 v he hm
  have hq:(Instr.findKey key (eK a) ents.toList).run P w=.ok (some (0+j,eV v)) w:=by simp [Instr.findKey,run_underlying hk,hf]
  simp [Instr.lookup,run_underlying ht,hg,hc,hq,yt,hm]
theorem jeg (h:WRel base w0 c w H) (hget:∀ b,get b=(H[b]?).getD .gone) {t:TypeId} {x ix:AV} {u v:Value} {ok:Bool} (hx:Rel c w x u) (hi:Rel c w ix v) {dc:Dec} {r:ARes} (hr:K5 cf t x ix ok get dc=some r) (hp:AllP r.pcs) :
  ∃ y,(Instr.lookup t u v ok).run cf.P w=.ok y w∧Rel c w r.val y∧r.wr=[]:=by
 unfold K5 at hr
 split at hr
 ·rename_i key elem b ht
  unfold Rel at hx
  obtain ⟨_,rfl⟩:=hx
  have hblk:∀ m,get b=.mp m→∃ (ents:Array MapEntry) (clock:Nat),w.heap[c.ρ b]? = some (.map ents clock)∧MRel c.φ w m ents.toList:=by
   intro m hm
   rw [hget] at hm
   cases hb:H[b]? with
   | none=>rw [hb] at hm; simp at hm
   | some k =>
    rw [hb] at hm
    simp at hm
    subst hm
    obtain ⟨_,ents,clock,hh,he,_⟩:=h.blk b _ hb
    exact ⟨ents,clock,hh,he⟩
  split at hr
  ·rename_i k es j a hgb
   split at hr
   ·rename_i hc
    simp only [Bool.and_eq_true,beq_iff_eq] at hc
    obtain ⟨⟨rfl,hk⟩,hz⟩:=hc
    simp only [Option.some.injEq] at hr; subst hr
    unfold Rel RelD at hi
    obtain ⟨rfl,_⟩:=hi
    obtain ⟨ents,clock,hh,he⟩:=hblk _ hgb
    have hk:=KB hk
    exact ⟨_,Zi (eK:=fun a=>Value.int j a) (eV:=fun b=>Value.bool b) (qX j j) ht hk hh he a false (zT hz w) (fun e=>za hk e _ _ _ w) ok,jbq ok _ _ rfl,rfl⟩
   ·simp at hr
  ·rename_i es a hgb
   split at hr
   ·rename_i hc
    simp only [Bool.and_eq_true] at hc
    obtain ⟨hk,hz⟩:=hc
    simp only [Option.some.injEq] at hr; subst hr
    unfold Rel RelD at hi
    obtain ⟨rfl,_⟩:=hi
    obtain ⟨ents,clock,hh,he⟩:=hblk _ hgb
    have hk:=GI hk
    exact ⟨_,Zi (eK:=fun a=>Value.string a) (eV:=fun b=>Value.bool b) jft ht hk hh he a false (zT hz w) (fun e=>jaj hk e _ _ w) ok,jbq ok _ _ rfl,rfl⟩
   ·simp at hr
  ·rename_i k l es j a hgb
   split at hr
   ·rename_i hc
    simp only [Bool.and_eq_true,beq_iff_eq] at hc
    obtain ⟨⟨rfl,hk⟩,hz⟩:=hc
    simp only [Option.some.injEq] at hr; subst hr
    unfold Rel RelD at hi
    obtain ⟨rfl,_⟩:=hi
    obtain ⟨ents,clock,hh,he⟩:=hblk _ hgb
    have hk:=KB hk
    exact ⟨_,Zi (eK:=fun a=>Value.int j a) (eV:=fun b=>Value.int l b) (qX j j) ht hk hh he a 0 (zT hz w) (fun e=>za hk e _ _ _ w) ok,jbq ok _ _ rfl,rfl⟩
   ·simp at hr
  ·rename_i k es j a hgb
   split at hr
   ·rename_i hc
    simp only [Bool.and_eq_true,beq_iff_eq] at hc
    obtain ⟨rfl,hk⟩:=hc
    split at hr
    ·rename_i zs ys hz
     simp only [Option.some.injEq] at hr; subst hr
     simp only [AllP,PC.holds,and_true] at hp
     subst hp
     unfold Rel RelD at hi
     obtain ⟨rfl,_⟩:=hi
     obtain ⟨ents,clock,hh,he⟩:=hblk _ hgb
     obtain ⟨us,h1,h2⟩:=jcy ht (KB hk) hh he a hz ok
     have hv:Rel c w (.agg ((jcV es a zs).map AV.d)) (.agg us.toArray):=by unfold Rel; exact ⟨us,rfl,Rels.map_d h2⟩
     have hb:Rel c w (.d (.v (.bool (yt es a)))) (.bool (yt es a)):=by unfold Rel RelD; exact ⟨rfl,rfl⟩
     refine ⟨_,h1,?_,rfl⟩
     cases ok
     ·simpa using hv
     ·simp only [if_true]
      unfold Rel
      exact ⟨[.agg us.toArray,.bool (yt es a)],rfl,Rels.cons hv (Rels.cons hb Rels.nil)⟩
    ·simp at hr
   ·simp at hr
  ·simp at hr
 ·simp at hr
def World.putObj (w:World) (r:Nat) (o:Obj):World:={ w with heap:=w.heap.setIfInBounds r o }
theorem J4 (w:World) (r k:Nat) (o:Obj) (h:k≠r):(World.putObj w r o).heap[k]? = w.heap[k]? := by
 simp [World.putObj,Array.getElem?_setIfInBounds,Ne.symm h]
theorem K6 (w:World) (r:Nat) (o:Obj) (h:r<w.heap.size):(World.putObj w r o).heap[r]? = some o:=by
 simp [World.putObj,Array.getElem?_setIfInBounds,h]
theorem WRel.putMap (h:WRel base w0 c w H) {b:Nat} {m m':AMap} (h0:H[b]? = some (.mp m)) (ents:Array MapEntry) (clock:Nat) (he:MRel c.φ w m' ents.toList) (hst:kG ents clock) :
  Ctx.Le c w c (World.putObj w (c.ρ b) (.map ents clock))∧WRel base w0 c (World.putObj w (c.ρ b) (.map ents clock)) (H.set b (.mp m')):=by
 obtain ⟨hbase,es0,cl0,hh,_⟩:=h.blk b _ h0
 have hlt:c.ρ b<w.heap.size:=(Array.getElem?_eq_some_iff.1 hh).1
 have hle:Ctx.Le c w c (World.putObj w (c.ρ b) (.map ents clock)):=by
  refine ⟨fun _ h=>h,fun _ _=>rfl,fun _=>Nat.le_refl _,fun _ h=>h,fun _ _=>Nat.le_refl _,fun _ _ _ _=>⟨rfl,rfl⟩,?_,?_,fun _ _=>⟨Nat.le_refl _,fun _ _=>rfl⟩⟩
  ·intro bk o ho
   by_cases hb:bk=c.ρ b
   ·subst hb
    simp only [World.cell?,K6 w _ _ hlt,hh]
   ·exact World.cell?_of_block (J4 w _ bk _ hb)
  ·rintro bk k ⟨cur,t,fr,h1,h3⟩
   by_cases hb:bk=c.ρ b
   ·subst hb; rw [hh] at h1; simp at h1
   ·exact ⟨cur,t,fr,by rw [J4 w _ bk _ hb]; exact h1,h3⟩
 refine ⟨hle,h.upd hle b (c.ρ b) (.mp m) (.mp m') h0 (.inr ⟨rfl,rfl⟩) rfl rfl ⟨rfl,Nat.le_refl _⟩ (by simp [World.putObj]) (fun i _ hi=>J4 w _ i _ hi) (fun _ _=>rfl) ?_ (fun _ _=>⟨rfl,rfl,rfl,rfl⟩) ?_ ?_ ⟨hbase,ents,clock,K6 w _ _ hlt,MRel.mono hle he,hst⟩ (fun _=>rfl)⟩
 ·intro i hi; exact h.hi i (by simpa [World.putObj] using hi)
 ·rw [h.live b,Jc h0]; rfl
 ·rw [h.tl b,h0]; rfl
def kD (cf:Cfg) (t:TypeId) (x k v:AV) (get:Nat→ABlk):Option ARes:=match cf.P.underlying t,x with
 | some (.map key _),.mp b=>match get b,k,v with
  | .mp (.ib kd es),.d (.v (.int j a)),.d (.v (.bool e))=>if j==kd&&QL cf.P key kd then some ⟨[],.any,[(b,.mp (.ib kd (qd es a e)))]⟩ else none
  | .mp (.sb es),.d (.v (.string a)),.d (.v (.bool e))=>if ja4 cf.P key then some ⟨[],.any,[(b,.mp (.sb (qd es a e)))]⟩ else none
  | .mp (.ii kd l es),.d (.v (.int j a)),.d (.v (.int l' e))=>if j==kd&&l'==l&&QL cf.P key kd then some ⟨[],.any,[(b,.mp (.ii kd l (qd es a e)))]⟩ else none
  | .mp (.ia kd es),.d (.v (.int j a)),.agg cs=>if j==kd&&QL cf.P key kd then match toDs cs with
   | some ds=>some ⟨[],.any,[(b,.mp (.ia kd (qd es a ds)))]⟩
   | none=>none
   else none
  | _,_,_=>none
 | _,_=>none
theorem ZX {ents:Array MapEntry} {clock:Nat} (k v:Value):kG ents clock→kG (ents.push ⟨k,v,clock⟩) (clock+1):=by
 rintro ⟨h1,h2⟩
 refine ⟨by rw [Array.size_push,h1],?_⟩
 intro i e hi
 rw [Array.getElem?_push] at hi
 split at hi
 ·rename_i h; simp at hi; subst hi; rw [h]; exact h1
 ·exact h2 i e hi
theorem QS {ents:Array MapEntry} {clock:Nat} (j:Nat) (k v:Value):kG ents clock→kG (ents.modify j fun e=>{ e with key:=k,val:=v }) clock:=by
 rintro ⟨h1,h2⟩
 refine ⟨by rw [Array.size_modify]; exact h1,?_⟩
 intro i e hi
 rw [Array.getElem?_modify] at hi
 split at hi
 ·cases hx:ents[i]? with
  | none=>rw [hx] at hi; simp at hi
  | some x =>
   rw [hx] at hi
   simp at hi
   subst hi
   exact h2 i x hx
 ·exact h2 i e hi
theorem zW {κ β:Type} [BEq κ] [LawfulBEq κ] {P:Program} {eK:κ→Value} {eV:β→Value} {t key elem:TypeId} {td:TypeDesc} (hn:∀ a b,Instr.sameNow td (eK a) (eK b)=some (a==b)) (hs:∀ a,Instr.sameBits 10000 (eK a) (eK a)=true) (ht:P.underlying t=some (.map key elem)) (hk:P.underlying key=some td)
  {w:World} {r:Nat} {ents:Array MapEntry} {clock:Nat} (hh:w.heap[r]? = some (.map ents clock)) {es:List (κ × β)} (he:QE eK eV ents.toList es) (a:κ) (v:β)
  (hc:∀ e,(Instr.checkKey e 10000 key (eK a)).run P w=.ok () w) :
  ∃ (ents':Array MapEntry) (clock':Nat),(Instr.mapUpdate t (.map (some r)) (eK a) (eV v)).run P w=.ok () (World.putObj w r (.map ents' clock'))∧QE eK eV ents'.toList (qd es a v)∧(kG ents clock→kG ents' clock'):=by
 have hg:(getObj r).run P w=.ok (.map ents clock) w:=by simp [getObj,Sem.run,hh]
 have hp:∀ o,(setObj r o).run P w=.ok () (World.putObj w r o):=by intro o; simp [setObj,Sem.run,hh,World.putObj]
 cases hm:J9 es a with
 | none =>
  obtain ⟨hf,hE⟩:=yO hn a ents.toList es 0 he hm
  have hq:(Instr.findKey key (eK a) ents.toList).run P w=.ok none w:=by simp [Instr.findKey,run_underlying hk,hf]
  refine ⟨ents.push ⟨eK a,eV v,clock⟩,clock+1,?_,?_,ZX _ _⟩
  ·simp [Instr.mapUpdate,run_underlying ht,hg,hc,hq,hp]
  ·simpa using hE v clock
 | some v0 =>
  obtain ⟨j,e,hf,h1,h2,h3⟩:=yg hn a ents.toList es 0 v0 he hm
  have hq:(Instr.findKey key (eK a) ents.toList).run P w=.ok (some (j,eV v0)) w:=by simp [Instr.findKey,run_underlying hk,hf]
  have h1':ents[j]? = some e:=by simpa using h1
  have hst:(Instr.keyThatStays (eK a) (eK a)).run P w=.ok (eK a) w:=by simp [Instr.keyThatStays,hs]
  refine ⟨ents.modify j fun e=>{ e with key:=eK a,val:=eV v },clock,?_,?_,QS _ _ _⟩
  ·simp [Instr.mapUpdate,run_underlying ht,hg,hc,hq,hp,h1',h2,hst]
  ·have:=h3 v
   rw [Array.toList_modify]
   exact this
theorem jcZ {P:Program} {t key elem:TypeId} {k:IntKind} (ht:P.underlying t=some (.map key elem)) (hk:P.underlying key=some (.int k))
  {w:World} {r:Nat} {ents:Array MapEntry} {clock:Nat} (hh:w.heap[r]? = some (.map ents clock)) {φ:Nat→Nat} {es:MID} (he:MRelD φ w k es ents.toList) (a:Int) {ds:List DV} {us:List Value} (hr:RelDs φ w ds us) :
  ∃ (ents':Array MapEntry) (clock':Nat),(Instr.mapUpdate t (.map (some r)) (.int k a) (.agg us.toArray)).run P w=.ok () (World.putObj w r (.map ents' clock'))∧MRelD φ w k (qd es a ds) ents'.toList∧(kG ents clock→kG ents' clock'):=by
 have hg:(getObj r).run P w=.ok (.map ents clock) w:=by simp [getObj,Sem.run,hh]
 have hp:∀ o,(setObj r o).run P w=.ok () (World.putObj w r o):=by intro o; simp [setObj,Sem.run,hh,World.putObj]
 have hc:=fun e=>YV hk e 9999 k a w
 cases hm:J9 es a with
 | none =>
  obtain ⟨hf,hE⟩:=Zq a ents.toList es 0 he hm
  have hq:(Instr.findKey key (.int k a) ents.toList).run P w=.ok none w:=by simp [Instr.findKey,run_underlying hk,hf]
  refine ⟨ents.push ⟨.int k a,.agg us.toArray,clock⟩,clock+1,?_,?_,ZX _ _⟩
  ·simp [Instr.mapUpdate,run_underlying ht,hg,hc,hq,hp]
  ·simpa using hE ds us clock hr
 | some d0 =>
  obtain ⟨j,e,vs,hf,h1,h2,_,h3⟩:=zY a ents.toList es 0 d0 he hm
  have hq:(Instr.findKey key (.int k a) ents.toList).run P w=.ok (some (j,.agg vs.toArray)) w:=by simp [Instr.findKey,run_underlying hk,hf]
  have h1':ents[j]? = some e:=by simpa using h1
  have hst:(Instr.keyThatStays (.int k a) (.int k a)).run P w=.ok (.int k a) w:=by simp [Instr.keyThatStays,Instr.sameBits]
  refine ⟨ents.modify j fun e=>{ e with key:=.int k a,val:=.agg us.toArray },clock,?_,?_,QS _ _ _⟩
  ·simp [Instr.mapUpdate,run_underlying ht,hg,hc,hq,hp,h1',h2,hst]
  ·have:=h3 ds us hr
   rw [Array.toList_modify]
   exact this
theorem gK (h:WRel base w0 c w H) (hget:∀ b,get b=(H[b]?).getD .gone) {t:TypeId} {x k y:AV} {u v e:Value} (hx:Rel c w x u) (hk:Rel c w k v) (hy:Rel c w y e) {r:ARes} (hr:kD cf t x k y get=some r) :
  ∃ w',(Instr.mapUpdate t u v e).run cf.P w=.ok () w'∧Ctx.Le c w c w'∧WRel base w0 c w' (r.wr.foldl (fun H x=>H.set x.1 x.2) H)∧r.val=.any:=by
 unfold kD at hr
 split at hr
 ·rename_i key elem b ht
  unfold Rel at hx
  obtain ⟨_,rfl⟩:=hx
  have hblk:∀ m,get b=.mp m→H[b]? = some (.mp m):=by
   intro m hm
   rw [hget] at hm
   cases hb:H[b]? with
   | none=>rw [hb] at hm; simp at hm
   | some k=>rw [hb] at hm; simp at hm; rw [hm]
  split at hr
  ·rename_i kd es j a e' hgb
   split at hr
   ·rename_i hc
    simp only [Bool.and_eq_true,beq_iff_eq] at hc
    obtain ⟨rfl,hki⟩:=hc
    simp only [Option.some.injEq] at hr; subst hr
    unfold Rel RelD at hk hy
    obtain ⟨rfl,_⟩:=hk
    obtain ⟨rfl,_⟩:=hy
    have h0:=hblk _ hgb
    obtain ⟨_,ents,clock,hh,he,hst⟩:=h.blk b _ h0
    have hki:=KB hki
    obtain ⟨ents',clock',k1,k2,kst⟩:=zW (eK:=fun a=>Value.int j a) (eV:=fun b=>Value.bool b) (qX j j) (fun a=>by simp [Instr.sameBits]) ht hki hh he a e' (fun e=>za hki e _ _ _ w)
    obtain ⟨k3,k4⟩:=h.putMap h0 (m':=.ib j (qd es a e')) ents' clock' k2 (kst hst)
    exact ⟨_,k1,k3,k4,rfl⟩
   ·simp at hr
  ·rename_i es a e' hgb
   split at hr
   ·rename_i hki
    simp only [Option.some.injEq] at hr; subst hr
    unfold Rel RelD at hk hy
    obtain ⟨rfl,_⟩:=hk
    obtain ⟨rfl,_⟩:=hy
    have h0:=hblk _ hgb
    obtain ⟨_,ents,clock,hh,he,hst⟩:=h.blk b _ h0
    have hki:=GI hki
    obtain ⟨ents',clock',k1,k2,kst⟩:=zW (eK:=fun a=>Value.string a) (eV:=fun b=>Value.bool b) jft (fun a=>by simp [Instr.sameBits]) ht hki hh he a e' (fun e=>jaj hki e _ _ w)
    obtain ⟨k3,k4⟩:=h.putMap h0 (m':=.sb (qd es a e')) ents' clock' k2 (kst hst)
    exact ⟨_,k1,k3,k4,rfl⟩
   ·simp at hr
  ·rename_i kd l es j a l' e' hgb
   split at hr
   ·rename_i hc
    simp only [Bool.and_eq_true,beq_iff_eq] at hc
    obtain ⟨⟨rfl,rfl⟩,hki⟩:=hc
    simp only [Option.some.injEq] at hr; subst hr
    unfold Rel RelD at hk hy
    obtain ⟨rfl,_⟩:=hk
    obtain ⟨rfl,_⟩:=hy
    have h0:=hblk _ hgb
    obtain ⟨_,ents,clock,hh,he,hst⟩:=h.blk b _ h0
    have hki:=KB hki
    obtain ⟨ents',clock',k1,k2,kst⟩:=zW (eK:=fun a=>Value.int j a) (eV:=fun b=>Value.int l' b) (qX j j) (fun a=>by simp [Instr.sameBits]) ht hki hh he a e' (fun e=>za hki e _ _ _ w)
    obtain ⟨k3,k4⟩:=h.putMap h0 (m':=.ii j l' (qd es a e')) ents' clock' k2 (kst hst)
    exact ⟨_,k1,k3,k4,rfl⟩
   ·simp at hr
  ·rename_i kd es j a cs hgb
   split at hr
   ·rename_i hc
    simp only [Bool.and_eq_true,beq_iff_eq] at hc
    obtain ⟨rfl,hki⟩:=hc
    split at hr
    ·rename_i ds hds
     simp only [Option.some.injEq] at hr; subst hr
     unfold Rel RelD at hk
     obtain ⟨rfl,_⟩:=hk
     unfold Rel at hy
     obtain ⟨us,rfl,hus⟩:=hy
     have h0:=hblk _ hgb
     obtain ⟨_,ents,clock,hh,he,hst⟩:=h.blk b _ h0
     obtain ⟨ents',clock',k1,k2,kst⟩:=jcZ ht (KB hki) hh he a (hus.toDs hds)
     obtain ⟨k3,k4⟩:=h.putMap h0 (m':=.ia j (qd es a ds)) ents' clock' k2 (kst hst)
     exact ⟨_,k1,k3,k4,rfl⟩
    ·simp at hr
   ·simp at hr
  ·simp at hr
 ·simp at hr
end
end Go.Kv
