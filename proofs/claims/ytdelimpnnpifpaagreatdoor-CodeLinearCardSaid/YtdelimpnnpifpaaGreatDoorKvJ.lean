import Derived.Test.YtdelimpnnpifpaaGreatDoorKvI
set_option linter.all false
namespace Go.Kv
open Go Go.RowKit
inductive AItem where
 | code (c:Code)
 | inBlock (id:Nat)
 | inLoop (body:Code)
 | inScope (body:Code)
 | beginRound
 | reg (ops:Array Oper) (draw:Bool) (lo:Nat)
 | regC (ops:Array Oper) (draw:Bool) (i:Nat)
 | inRng (b:Nat)
 | endRng (b:Nat)
 | regL (ops:Array Oper) (i:Nat) (us:List (Nat × AV))
 | regD (ops:Array Oper) (i:Nat) (js:List Nat)
structure AFrame where
 fn:FuncId
 tmps:List AV
 todo:List AItem
 defers:List Nat
 ret:Bool
 roundOf:Option Nat
structure ASt where
 fr:AFrame
 cs:List AFrame
 H:List ABlk
def Jm (ops:Array Oper) (j:Nat):List Nat :=
 match ops[j]? with
 | some o=>(o.after.toList.filter (Region.binds .any)).map (·.on)
 | none=>[]
structure LinExt (ops:Array Oper) (lo:Nat) (is:List Nat):Prop where
 nodup:is.Nodup
 mem:∀ i,i ∈ is↔lo≤i∧i<ops.size
 order:∀ p j q,is=p++j :: q→∀ e ∈ Jm ops j,e<lo∨e ∈ p
def RegOk (ops:Array Oper) (draw:Bool) (lo:Nat) (is:List Nat):Prop :=
 if draw then LinExt ops lo is else is=List.range' lo (ops.size - lo)
def IRel (c:Ctx):AItem→Item→Prop
 | .code x,i=>i=.code x
 | .inBlock id,i=>i=.inBlock id
 | .inLoop b,i=>i=.inLoop b
 | .inScope b,i=>i=.inScope b
 | .beginRound,i=>i=.beginRound
 | .reg ops d lo,i=>∃ is,i=.inRegion ops is∧RegOk ops d lo is
 | .regC ops d k,i=>∃ is,i=.inRegion ops (k :: is)∧RegOk ops d (k+1) is
 | .inRng b,i=>c.live b=true∧i=.inRangeFunc (c.ρ b)
 | .endRng b,i=>c.live b=true∧i=.endRangeFunc (c.ρ b)
 | .regL ..,_=>False
 | .regD ops k js,i=>∃ is,i=.inRegion ops (k :: (js++is))∧LinExt ops (k+1) is
def IRels (c:Ctx):List AItem→List Item→Prop
 | [],l=>l=[]
 | x :: xs,l=>∃ y ys,l=y :: ys∧IRel c x y∧IRels c xs ys
theorem IRels.cons {c:Ctx} {x:AItem} {xs:List AItem} {y:Item} {ys:List Item} (h:IRel c x y) (t:IRels c xs ys):IRels c (x :: xs) (y :: ys):=⟨y,ys,rfl,h,t⟩
theorem IRel.mono {c c':Ctx} {w w':World} (h:Ctx.Le c w c' w') {x:AItem} {y:Item} (hr:IRel c x y):IRel c' x y:=by
 cases x <;> first | exact hr | (obtain ⟨h1,h2⟩:=hr; exact ⟨h.live _ h1,by rw [h.ρ _ h1]; exact h2⟩)
theorem IRels.mono {c c':Ctx} {w w':World} (h:Ctx.Le c w c' w'):∀ {xs:List AItem} {ys:List Item},IRels c xs ys→IRels c' xs ys
 | [],_,hr=>hr
 | _ :: _,_,hr=>by obtain ⟨y,ys,rfl,h1,h2⟩:=hr; exact IRels.cons (IRel.mono h h1) (IRels.mono h h2)
def DRel (c:Ctx) (ds:List Nat) (l:List Deferred):Prop:=(∀ d ∈ ds,c.live d=true)∧l=ds.map fun d=>{ target:=.collected (c.ρ d),args:=#[] }
theorem DRel.mono {c c':Ctx} {w w':World} (h:Ctx.Le c w c' w') {ds:List Nat} {l:List Deferred} (hr:DRel c ds l):DRel c' ds l:=by
 refine ⟨fun d hd=>h.live d (hr.1 d hd),?_⟩
 rw [hr.2]
 apply List.map_congr_left
 intro d hd
 rw [h.ρ d (hr.1 d hd)]
def RoRel (c:Ctx) (a b:Option Nat):Prop:=match a with
 | none=>b=none
 | some r=>c.live r=true∧b=some (c.ρ r)
theorem RoRel.mono {c c':Ctx} {w w':World} (h:Ctx.Le c w c' w') {a b:Option Nat} (hr:RoRel c a b):RoRel c' a b:=by
 cases a with
 | none=>exact hr
 | some r=>exact ⟨h.live r hr.1,by rw [h.ρ r hr.1]; exact hr.2⟩
structure FRel (c:Ctx) (w:World) (a:AFrame) (fr:Frame):Prop where
 fn:fr.fn=a.fn
 tmps:Rels c w a.tmps fr.tmps.toList
 todo:IRels c a.todo fr.todo
 defers:DRel c a.defers fr.defers
 mode:fr.mode=if a.ret then .returning else .run
 kind:fr.kind=.normal
 ro:RoRel c a.roundOf fr.roundOf
theorem FRel.mono {c c':Ctx} {w w':World} (h:Ctx.Le c w c' w') {a:AFrame} {fr:Frame} (hr:FRel c w a fr):FRel c' w' a fr :=
 ⟨hr.fn,Rels.mono h hr.tmps,IRels.mono h hr.todo,DRel.mono h hr.defers,hr.mode,hr.kind,RoRel.mono h hr.ro⟩
def setT (ts:List AV) (d:Option Tmp) (v:AV):List AV:=match d with
 | some d=>ts.set d v
 | none=>ts
def JM (ops:Array Oper) (i:Nat):Option Tmp:=(ops[i]?).bind (·.dst)
def Jh (ops:Array Oper) (T:List AV):List (Nat × AV)→List AV
 | []=>T
 | x :: us=>Jh ops (setT T (JM ops x.1) x.2) us
def KP (a:AFrame) (d:Nat):AFrame:=match a.todo with
 | .regL ops i us :: k=>{ a with tmps:=Jh ops a.tmps (us.take d),todo:=.regD ops i ((us.drop d).map (·.1)) :: k }
 | _=>a
theorem FRel.late_eq {c:Ctx} {w:World} {a:AFrame} {fr:Frame} (h:FRel c w a fr) (d:Nat):KP a d=a:=by
 unfold KP
 split
 ·rename_i ops i us k ht
  have:=h.todo
  rw [ht] at this
  obtain ⟨_,_,_,h1,_⟩:=this
  exact h1.elim
 ·rfl
def FRelC (c:Ctx) (w:World) (a:AFrame) (fr:Frame):Prop:=∃ d,FRel c w (KP a d) fr
theorem FRel.toC {c:Ctx} {w:World} {a:AFrame} {fr:Frame} (h:FRel c w a fr):FRelC c w a fr:=⟨0,by rw [h.late_eq]; exact h⟩
theorem FRelC.mono {c c':Ctx} {w w':World} (h:Ctx.Le c w c' w') {a:AFrame} {fr:Frame} (hr:FRelC c w a fr):FRelC c' w' a fr:=by
 obtain ⟨d,hr⟩:=hr
 exact ⟨d,FRel.mono h hr⟩
def FRels (c:Ctx) (w:World):List AFrame→List Frame→Prop
 | [],l=>l=[]
 | x :: xs,l=>∃ y ys,l=y :: ys∧FRelC c w x y∧FRels c w xs ys
theorem FRels.mono {c c':Ctx} {w w':World} (h:Ctx.Le c w c' w'):∀ {xs:List AFrame} {ys:List Frame},FRels c w xs ys→FRels c' w' xs ys
 | [],_,hr=>hr
 | _ :: _,_,hr=>by obtain ⟨y,ys,rfl,h1,h2⟩:=hr; exact ⟨y,ys,rfl,FRelC.mono h h1,FRels.mono h h2⟩
def GlobOk (glob:Nat→Option (List DV)) (w:World) (φ:Nat→Nat):Prop :=
 ∀ g cs,glob g=some cs→∃ us:List Value,us.length<φ g∧jT w g 0 us∧RelDs φ w cs us∧w.cell? ⟨g,us.length,none⟩=none
theorem GlobOk.mono {glob:Nat→Option (List DV)} {c c':Ctx} {w w':World} (h:Ctx.Le c w c' w') (hg:GlobOk glob w c.φ):GlobOk glob w' c'.φ:=by
 intro g cs hc
 obtain ⟨us,h1,h2,h3,h4⟩:=hg g cs hc
 exact ⟨us,Nat.lt_of_lt_of_le h1 (h.φ g),Ku h (by omega) h2,RelDs.mono h h3,(h.cells g us.length h1).trans h4⟩
def jju (glob:Nat→Option (List DV)):Bool:=(glob 0).isNone
abbrev Start.on (w0:Start) (cf:Cfg):Start:=⟨w0.w,w0.φ,jju cf.glob⟩
def PureCalls (P:Program) (glob:Nat→Option (List DV)) (f:FuncId) (args:List AV) (res:AV):Prop :=
 ∀ (w:World) (φ:Nat→Nat) (us:List Value),(∀ i,w.heap.size≤i→φ i=0)→GlobOk glob w φ→Rels ({ ρ:=fun _=>0,τ:=fun _=>0,σ:=fun _=>0,φ:=φ,live:=fun _=>false,tl:=fun _=>false }:Ctx) w args us →
  Calls P f us.toArray w fun e w'=>∃ u φ',e=.returned u∧BelowD (jju glob) w.heap.size w w'∧(∀ i,i<w.heap.size→φ' i=φ i)∧(∀ i,w'.heap.size≤i→φ' i=0)∧Rel ({ ρ:=fun _=>0,τ:=fun _=>0,σ:=fun _=>0,φ:=φ',live:=fun _=>false,tl:=fun _=>false }:Ctx) w' res u
def JR (φ:Nat→Nat):Ctx:={ ρ:=fun _=>0,τ:=fun _=>0,σ:=fun _=>0,φ:=φ,live:=fun _=>false,tl:=fun _=>false }
def yK (φ:Nat→Nat) (r:Nat):Ctx:={ ρ:=fun _=>0,τ:=fun _=>r,σ:=fun _=>0,φ:=φ,live:=fun _=>false,tl:=fun _=>true }
mutual
def Jw:AV→Bool
 | .d _=>true
 | .own b e _ _ _=>Nat.beq b 0&&Nat.beq e 0
 | .agg cs=>Qd cs
 | .tup cs=>Qd cs
 | _=>false
def Qd:List AV→Bool
 | []=>true
 | a :: as=>Jw a&&Qd as
end
mutual
def ja1 (nm:Nat):AV→AV
 | .own _ _ sz n xs=>.own nm 0 sz n xs
 | .agg cs=>.agg (jfI nm cs)
 | .tup cs=>.tup (jfI nm cs)
 | a=>a
def jfI (nm:Nat):List AV→List AV
 | []=>[]
 | a :: as=>ja1 nm a :: jfI nm as
end
mutual
theorem je8 {c1 c2:Ctx} {w:World} {nm:Nat} (hφ:c2.φ=c1.φ) (hτ:c2.τ nm=c1.τ 0) (h1:c1.σ 0=0) (h2:c2.σ nm=0) (ht:c2.tl nm=true):∀ {a:AV} {u:Value},Jw a=true→Rel c1 w a u→Rel c2 w (ja1 nm a) u
 | .d x,u,_,h=>by simp only [ja1]; unfold Rel at h ⊢; rw [hφ]; exact h
 | .own b e sz n xs,u,hf,h=>by
  simp only [Jw,Bool.and_eq_true] at hf
  have hb:b=0:=Nat.eq_of_beq_eq_true hf.1
  have he:e=0:=Nat.eq_of_beq_eq_true hf.2
  subst hb
  subst he
  simp only [ja1]
  unfold Rel at h ⊢
  obtain ⟨bk,off,cap,us,q1,q2,q3,q4,q5,q6,q7,q8,q9⟩:=h
  rw [hφ]
  refine ⟨bk,off,cap,us,q1,q2,q3,q4,q5,q6,ht,by omega,?_⟩
  intro _
  obtain ⟨r1,r2,r3⟩:=q9 h1.symm
  refine ⟨by rw [hτ]; exact r1,r2,?_⟩
  rw [hφ]; exact r3
 | .agg cs,u,hf,h=>by
  simp only [ja1]
  simp only [Jw] at hf
  unfold Rel at h ⊢
  obtain ⟨us,rfl,hs⟩:=h
  exact ⟨us,rfl,gq hφ hτ h1 h2 ht hf hs⟩
 | .tup cs,u,hf,h=>by
  simp only [ja1]
  simp only [Jw] at hf
  unfold Rel at h ⊢
  obtain ⟨us,rfl,hs⟩:=h
  exact ⟨us,rfl,gq hφ hτ h1 h2 ht hf hs⟩
 | .ptr ..,_,hf,_=>by simp [Jw] at hf
 | .ip ..,_,hf,_=>by simp [Jw] at hf
 | .ms ..,_,hf,_=>by simp [Jw] at hf
 | .fn ..,_,hf,_=>by simp [Jw] at hf
 | .yl ..,_,hf,_=>by simp [Jw] at hf
 | .mp ..,_,hf,_=>by simp [Jw] at hf
 | .gx ..,_,hf,_=>by simp [Jw] at hf
 | .em,_,hf,_=>by simp [Jw] at hf
 | .nan _,_,hf,_=>by simp [Jw] at hf
 | .opt ..,_,hf,_=>by simp [Jw] at hf
 | .any,_,hf,_=>by simp [Jw] at hf
theorem gq {c1 c2:Ctx} {w:World} {nm:Nat} (hφ:c2.φ=c1.φ) (hτ:c2.τ nm=c1.τ 0) (h1:c1.σ 0=0) (h2:c2.σ nm=0) (ht:c2.tl nm=true):∀ {as:List AV} {us:List Value},Qd as=true→Rels c1 w as us→Rels c2 w (jfI nm as) us
 | [],us,_,h=>by rw [h.nil_inv]; exact Rels.nil
 | a :: as,us,hf,h=>by
  obtain ⟨u,r,rfl,hu,t⟩:=h.cons_inv
  simp only [Qd,Bool.and_eq_true] at hf
  exact Rels.cons (je8 hφ hτ h1 h2 ht hf.1 hu) (gq hφ hτ h1 h2 ht hf.2 t)
end
def gi (xs:List DV):Bool:=xs.all fun | .v _=>true | .sl ..=>false
theorem Y8 {φ φ':Nat→Nat} {w w':World}:∀ {xs:List DV} {us:List Value},gi xs=true→RelDs φ w xs us→RelDs φ' w' xs us
 | [],us,_,h=>by rw [h.nil_inv]; exact RelDs.nil
 | .v x :: xs,us,hf,h=>by
  obtain ⟨u,r,rfl,hu,t⟩:=h.cons_inv
  simp only [gi,List.all_cons,Bool.true_and] at hf
  exact RelDs.cons (by unfold RelD at hu ⊢; exact hu) (Y8 hf t)
 | .sl .. :: xs,us,hf,h=>by simp [gi] at hf
mutual
def kH:AV→Option (List PC)
 | .d (.v _)=>some []
 | .own _ _ _ _ xs=>some [.prop (gi xs=true)]
 | .agg cs=>gV cs
 | .tup cs=>gV cs
 | _=>none
def gV:List AV→Option (List PC)
 | []=>some []
 | a :: as=>match kH a,gV as with
  | some ps,some qs=>some (ps++qs)
  | _,_=>none
end
mutual
def qi:AV→Nat
 | .own _ _ _ n _=>n
 | .agg cs=>qM cs
 | .tup cs=>qM cs
 | _=>0
def qM:List AV→Nat
 | []=>0
 | a :: as=>qi a+qM as
end
mutual
def emA:AV→AV
 | .own ..=>.em
 | .agg cs=>.agg (YJ cs)
 | .tup cs=>.tup (YJ cs)
 | a=>a
def YJ:List AV→List AV
 | []=>[]
 | a :: as=>emA a :: YJ as
end
def KF (P:Program) (glob:Nat→Option (List DV)) (f:FuncId) (args:List AV) (res:AV) (st:Bool):Prop :=
 ∀ (w:World) (φ:Nat→Nat) (us:List Value),(∀ i,w.heap.size≤i→φ i=0)→GlobOk glob w φ→Rels (JR φ) w args us →
  Calls P f us.toArray w fun e w'=>∃ u φ',e=.returned u∧BelowD (jju glob) w.heap.size w w'∧(∀ i,i<w.heap.size→φ' i=φ i)∧(∀ i,w'.heap.size≤i→φ' i=0)∧Jw res=true ∧
   (qi res=0→st=false→Rel (JR φ') w' (emA res) u)∧(0<qi res∨st=true→∃ r,w.heap.size≤r∧(∃ cur t fr,w'.heap[r]? = some (.cells cur t fr)∧zA fr cur.size)∧Rel (yK φ' r) w' res u)
def Qg (P:Program) (glob:Nat→Option (List DV)) (g:FuncId) (sz n:Nat) (xs:List DV) (f:AV) (ys:List DV):Prop :=
 ∀ (w:World) (φ:Nat→Nat) (bk cap:Nat) (t:TypeId) (vs rest:List Value) (fv:Value),
  (∀ i,w.heap.size≤i→φ i=0)→GlobOk glob w φ→w.heap[bk]? = some (.cells (vs++rest).toArray t (0,0))→φ bk=0→RelDs φ w xs vs→vs.length=n*sz→Rel (JR φ) w f fv →
  Calls P g #[.slice (some ⟨bk,0,none⟩) n cap,fv] w fun e w'=>e=.returned (.tuple #[])∧∃ vs':List Value,vs'.length=vs.length∧RelDs φ w ys vs'∧BelowD (jju glob) w.heap.size (w.setRow bk (vs'++rest).toArray) w'
def KnOk (P:Program) (glob:Nat→Option (List DV)) (kn:Kn):Prop:=if kn.fr=true then KF P glob kn.g kn.args kn.res kn.st else PureCalls P glob kn.g kn.args kn.res
def YF (P:Program):Prop:=∀ (g:Nat) fn,P.funcs[g]? = some fn→fn.name ≠ "runtime.NumGoroutine"
def KnowOk (P:Program) (glob:Nat→Option (List DV)) (K:List Kn):Prop:=YF P∧∀ (j:Nat) kn,K[j]? = some kn→KnOk P glob kn
def GK (cf:Cfg) (w:World) (φ:Nat→Nat):Prop:=GlobOk cf.glob w φ∧KnowOk cf.P cf.glob cf.K
theorem GK.mono {cf:Cfg} {c c':Ctx} {w w':World} (h:Ctx.Le c w c' w') (hg:GK cf w c.φ):GK cf w' c'.φ:=⟨GlobOk.mono h hg.1,hg.2⟩
structure SRel (cf:Cfg) (base:Nat) (w0:Start) (c:Ctx) (w:World) (s:ASt) (fr:Frame) (frs:List Frame):Prop where
 fr:FRel c w s.fr fr
 frs:FRels c w s.cs frs
 mem:WRel base (w0.on cf) c w s.H
 glob:GK cf w c.φ
def Reach (cf:Cfg) (base:Nat) (w0:Start) (cs0:List Frame) (s s':ASt):Prop :=
 ∀ c w fr frs,SRel cf base w0 c w s fr frs→∃ c' w' fr' frs',SRel cf base w0 c' w' s' fr' frs'∧Steps cf.P (lone fr (frs++cs0) w) (lone fr' (frs'++cs0) w')
theorem Reach.refl (cf:Cfg) (base:Nat) (w0:Start) (cs0:List Frame) (s:ASt):Reach cf base w0 cs0 s s :=
 fun c w fr frs h=>⟨c,w,fr,frs,h,Steps.refl _ _⟩
theorem Reach.trans {cf:Cfg} {base:Nat} {w0:Start} {cs0:List Frame} {a b d:ASt} (h:Reach cf base w0 cs0 a b) (k:Reach cf base w0 cs0 b d):Reach cf base w0 cs0 a d:=by
 intro c w fr frs hs
 obtain ⟨c',w',fr',frs',h1,h2⟩:=h c w fr frs hs
 obtain ⟨c'',w'',fr'',frs'',k1,k2⟩:=k c' w' fr' frs' h1
 exact ⟨c'',w'',fr'',frs'',k1,h2.trans k2⟩
def evA (cf:Cfg) (tmps:List AV):Operand→AV
 | .tmp t=>tmps.getD t .any
 | .const v=>(qp v).getD .any
 | .global g=>match cf.glob g with
  | some cs=>.ip cs
  | none=>.any
 | .func f=>.d (.v (.func (.func f) #[] #[]))
theorem Js {c:Ctx} {w:World} {u:Value}:Rel c w .any u:=by unfold Rel; trivial
theorem Qe {cf:Cfg} {c:Ctx} {w:World} {tmps:List AV} {us:Array Value} (h:Rels c w tmps us.toList) (hg:GK cf w c.φ) (ds:List Deferred) (x:Operand) :
  Rel c w (evA cf tmps x) (({ tmps:=us,defers:=ds }:Act).eval x):=by
 cases x with
 | tmp t =>
  simp only [evA,Act.eval]
  cases ht:tmps[t]? with
  | none=>simp [List.getD,ht]; exact Js
  | some a =>
   obtain ⟨u,hu,hr⟩:=h.get t a ht
   simp [List.getD,ht]
   simp at hu
   rw [hu]
   exact hr
 | const v =>
  simp only [evA,Act.eval]
  cases hl:qp v with
  | none=>exact Js
  | some a=>exact Q9 hl
 | global g =>
  simp only [evA,Act.eval]
  cases hc:cf.glob g with
  | none=>exact Js
  | some cs =>
   obtain ⟨us,h1,h2,h3,_⟩:=hg.1 g cs hc
   unfold Rel; exact ⟨g,0,us,rfl,by omega,h2,h3⟩
 | func f=>exact qG rfl
def ZC:DV→DV
 | .v (.slice none 0 0)=>.sl 0 []
 | x=>x
theorem jku {φ:Nat→Nat} {w:World} {x:DV} {u:Value} (h:RelD φ w x u):RelD φ w (ZC x) u:=by
 unfold ZC
 split
 ·unfold RelD at h ⊢
  obtain ⟨rfl,_⟩:=h
  exact ⟨0,0,0,[],.inr ⟨⟨_,rfl⟩,rfl,rfl,rfl⟩,Nat.zero_le _,Nat.le_refl _,by intro i u hu; simp at hu,RelDs.nil⟩
 ·exact h
mutual
def jV (get:Nat→ABlk):AV→Option AV
 | .d x=>some (.d (ZC x))
 | .fn f fs cs=>match Jl get fs,Jl get cs with
  | some xs,some ys=>some (.fn f xs ys)
  | _,_=>none
 | .own _ _ _ n xs=>some (.d (.sl n xs))
 | .em=>some (.d (.sl 0 []))
 | .nan k=>some (.nan k)
 | .ms b off sz n _=>match get b with
  | .cells cs _=>if Nat.ble (off+n*sz) cs.length then
    match toDs ((cs.drop off).take (n*sz)) with
    | some xs=>some (.d (.sl n xs))
    | none=>none
   else none
  | _=>none
 | .ptr b off=>match get b with
  | .cells cs _=>if Nat.ble off cs.length then
    match toDs (cs.drop off) with
    | some xs=>some (.ip xs)
    | none=>none
   else none
  | _=>none
 | .ip cs=>some (.ip cs)
 | .agg cs=>match Jl get cs with
  | some xs=>some (.agg xs)
  | none=>none
 | .tup cs=>match Jl get cs with
  | some xs=>some (.tup xs)
  | none=>none
 | _=>none
def Jl (get:Nat→ABlk):List AV→Option (List AV)
 | []=>some []
 | a :: as=>match jV get a,Jl get as with
  | some x,some xs=>some (x :: xs)
  | _,_=>none
end
mutual
def ya:AV→Bool
 | .ms ..=>true
 | .ptr ..=>true
 | .fn _ fs cs=>jR fs||jR cs
 | .agg cs=>jR cs
 | .tup cs=>jR cs
 | _=>false
def jR:List AV→Bool
 | []=>false
 | a :: as=>ya a||jR as
end
def jfr (get:Nat→ABlk):AV→Option AV
 | .d x=>some (.d x)
 | a=>jV get a
def Kq (get:Nat→ABlk):List AV→Option (List AV)
 | []=>some []
 | a :: as=>match jfr get a,Kq get as with
  | some x,some xs=>some (x :: xs)
  | _,_=>none
mutual
def JX:AV→Bool
 | .d (.v _)=>true
 | .nan _=>true
 | .agg cs=>gp cs
 | .tup cs=>gp cs
 | _=>false
def gp:List AV→Bool
 | []=>true
 | a :: as=>JX a&&gp as
end
mutual
theorem RelD.weaken {φ φ':Nat→Nat} {w:World} (h:∀ i,φ i≤φ' i):∀ {x:DV} {u:Value},RelD φ w x u→RelD φ' w x u
 | .v x,u,hr=>by unfold RelD at hr ⊢; exact hr
 | .sl n xs,u,hr=>by
  unfold RelD at hr ⊢
  obtain ⟨bk,off,cap,us,hu,hl,hn,hc,hs⟩:=hr
  exact ⟨bk,off,cap,us,hu,Nat.le_trans hl (h bk),hn,hc,RelDs.weaken h hs⟩
theorem RelDs.weaken {φ φ':Nat→Nat} {w:World} (h:∀ i,φ i≤φ' i):∀ {xs:List DV} {us:List Value},RelDs φ w xs us→RelDs φ' w xs us
 | [],us,hr=>by rw [hr.nil_inv]; exact RelDs.nil
 | x :: xs,us,hr=>by
  obtain ⟨u,r,rfl,hu,t⟩:=hr.cons_inv
  exact RelDs.cons (RelD.weaken h hu) (RelDs.weaken h t)
end
def Jy (w:World) (φ:Nat→Nat) (base:Nat) (i:Nat):Nat :=
 if i<base then φ i else
 match w.heap[i]? with
 | some (.cells cs _ _)=>max (φ i) cs.size
 | _=>φ i
theorem J6 (w:World) (φ:Nat→Nat) (base i:Nat):φ i≤Jy w φ base i:=by
 unfold Jy
 split
 ·exact Nat.le_refl _
 ·split
  ·exact Nat.le_max_left _ _
  ·exact Nat.le_refl _
section
variable {base:Nat} {w0:Start} {c:Ctx} {w:World} {H:List ABlk}
mutual
theorem Z1 (h:WRel base w0 c w H) {get:Nat→ABlk} (hget:∀ b,get b=(H[b]?).getD .gone) {φ':Nat→Nat} (hφ:∀ i,c.φ i≤φ' i):∀ {a b:AV} {u:Value},(ya a=true→∀ i,Jy w c.φ base i≤φ' i)→jV get a=some b→Rel c w a u→Rel (JR φ') w b u
 | .d x,b,u,_,hp,hr=>by simp [jV] at hp; subst hp; unfold Rel at hr ⊢; exact jku (RelD.weaken hφ hr)
 | .fn f fs cs,b,u,hm,hp,hr=>by
  simp only [jV] at hp
  split at hp
  ·rename_i xs ys hx hy
   simp at hp; subst hp
   unfold Rel at hr ⊢
   obtain ⟨hf,us,vs,rfl,h1,h2⟩:=hr
   exact ⟨hf,us,vs,rfl,JB h hget hφ (fun hh=>hm (by simp [ya,hh])) hx h1,JB h hget hφ (fun hh=>hm (by simp [ya,hh])) hy h2⟩
  ·simp at hp
 | .own b' e sz n xs,b,u,_,hp,hr=>by
  simp [jV] at hp; subst hp
  have:=hr.toD (x:=.sl n xs) rfl
  unfold Rel; exact RelD.weaken hφ this
 | .ms b' off sz n cap,b,u,hm,hp,hr=>by
  simp only [jV] at hp
  split at hp
  ·rename_i cs t hb
   split at hp
   ·rename_i hle
    have hle:=Nat.le_of_ble_eq_true hle
    split at hp
    ·rename_i xs hxs
     simp at hp; subst hp
     unfold Rel at hr
     obtain ⟨hl,hcap,cr,hcr,rfl⟩:=hr
     obtain ⟨hbase,hφ0,us,rest,hg,hs⟩:=h.blk b' _ (jW hget hb (by simp))
     have hlen:=hs.length
     have hd:=((hs.drop off).take (n*sz)).toDs hxs
     have hfz:=hm (by simp [ya])
     unfold Rel RelD
     refine ⟨c.ρ b',off,cr,(us.drop off).take (n*sz),.inl rfl,?_,Nat.le_trans hcap hcr.le,jN (JL hg),RelDs.weaken hφ hd⟩
     refine Nat.le_trans ?_ (hfz (c.ρ b'))
     unfold Jy
     rw [if_neg (by omega),hg]
     simp; omega
    ·simp at hp
   ·simp at hp
  ·simp at hp
 | .agg cs,b,u,hm,hp,hr=>by
  simp only [jV] at hp
  split at hp
  ·rename_i xs hxs
   simp at hp; subst hp
   unfold Rel at hr ⊢
   obtain ⟨us,rfl,hs⟩:=hr
   exact ⟨us,rfl,JB h hget hφ (fun hh=>hm (by simpa [ya] using hh)) hxs hs⟩
  ·simp at hp
 | .tup cs,b,u,hm,hp,hr=>by
  simp only [jV] at hp
  split at hp
  ·rename_i xs hxs
   simp at hp; subst hp
   unfold Rel at hr ⊢
   obtain ⟨us,rfl,hs⟩:=hr
   exact ⟨us,rfl,JB h hget hφ (fun hh=>hm (by simpa [ya] using hh)) hxs hs⟩
  ·simp at hp
 | .ptr b' off,b,u,hm,hp,hr=>by
  simp only [jV] at hp
  split at hp
  ·rename_i cs t hb
   split at hp
   ·rename_i hle
    have hle:=Nat.le_of_ble_eq_true hle
    split at hp
    ·rename_i xs hxs
     simp at hp; subst hp
     unfold Rel at hr
     obtain ⟨hl,rfl⟩:=hr
     obtain ⟨hbase,hφ0,us,rest,hg,hs⟩:=h.blk b' _ (jW hget hb (by simp))
     have hlen:=hs.length
     have hd:=(hs.drop off).toDs hxs
     have hfz:=hm (by simp [ya])
     unfold Rel
     refine ⟨c.ρ b',off,us.drop off,rfl,?_,JL hg,RelDs.weaken hφ hd⟩
     refine Nat.le_trans ?_ (hfz (c.ρ b'))
     unfold Jy
     rw [if_neg (by omega),hg]
     simp; omega
    ·simp at hp
   ·simp at hp
  ·simp at hp
 | .ip cs,b,u,_,hp,hr=>by
  simp only [jV,Option.some.injEq] at hp; subst hp
  unfold Rel at hr ⊢
  obtain ⟨bk,off,us,h1,h2,h3,h4⟩:=hr
  exact ⟨bk,off,us,h1,Nat.le_trans h2 (hφ bk),h3,RelDs.weaken hφ h4⟩
 | .yl ..,_,_,_,hp,_=>by simp [jV] at hp
 | .mp ..,_,_,_,hp,_=>by simp [jV] at hp
 | .gx ..,_,_,_,hp,_=>by simp [jV] at hp
 | .em,b,u,_,hp,hr=>by
  simp only [jV,Option.some.injEq] at hp; subst hp
  unfold Rel at hr
  unfold Rel RelD
  exact ⟨0,0,0,[],.inr ⟨hr,rfl,rfl,rfl⟩,Nat.zero_le _,Nat.le_refl _,by intro i u hu; simp at hu,RelDs.nil⟩
 | .nan k,b,u,_,hp,hr=>by
  simp only [jV,Option.some.injEq] at hp; subst hp
  unfold Rel at hr ⊢; exact hr
 | .any,_,_,_,hp,_=>by simp [jV] at hp
theorem JB (h:WRel base w0 c w H) {get:Nat→ABlk} (hget:∀ b,get b=(H[b]?).getD .gone) {φ':Nat→Nat} (hφ:∀ i,c.φ i≤φ' i):∀ {as bs:List AV} {us:List Value},(jR as=true→∀ i,Jy w c.φ base i≤φ' i)→Jl get as=some bs→Rels c w as us→Rels (JR φ') w bs us
 | [],bs,us,_,hp,hr=>by simp [Jl] at hp; subst hp; rw [hr.nil_inv]; exact Rels.nil
 | a :: as,bs,us,hm,hp,hr=>by
  obtain ⟨u,r,rfl,hu,t⟩:=hr.cons_inv
  simp only [Jl] at hp
  split at hp
  ·rename_i x xs hx hxs
   simp at hp; subst hp
   exact Rels.cons (Z1 h hget hφ (fun hh=>hm (by simp [jR,hh])) hx hu) (JB h hget hφ (fun hh=>hm (by simp [jR,hh])) hxs t)
  ·simp at hp
end
theorem yb (h:WRel base w0 c w H) {get:Nat→ABlk} (hget:∀ b,get b=(H[b]?).getD .gone) {φ':Nat→Nat} (hφ:∀ i,c.φ i≤φ' i):∀ {as bs:List AV} {us:List Value},(jR as=true→∀ i,Jy w c.φ base i≤φ' i)→Kq get as=some bs→Rels c w as us→Rels (JR φ') w bs us
 | [],bs,us,_,hp,hr=>by simp [Kq] at hp; subst hp; rw [hr.nil_inv]; exact Rels.nil
 | a :: as,bs,us,hm,hp,hr=>by
  obtain ⟨u,r,rfl,hu,t⟩:=hr.cons_inv
  simp only [Kq] at hp
  split at hp
  ·rename_i x xs hx hxs
   simp at hp; subst hp
   refine Rels.cons ?_ (yb h hget hφ (fun hh=>hm (by simp [jR,hh])) hxs t)
   unfold jfr at hx
   split at hx
   ·simp at hx; subst hx
    unfold Rel at hu ⊢
    exact RelD.weaken hφ hu
   ·exact Z1 h hget hφ (fun hh=>hm (by simp [jR,hh])) hx hu
  ·simp at hp
end
mutual
def Jn (get:Nat→ABlk):AV→Option (AV × List PC)
 | .ms b off sz n _=>match get b with
  | .cells cs _=>some (.d (.sl n (((cs.drop off).take (n*sz)).map aD)),[.leN (off+n*sz) cs.length,.prop (toDs ((cs.drop off).take (n*sz))=some (((cs.drop off).take (n*sz)).map aD))])
  | _=>none
 | .agg cs=>match J0 get cs with
  | some (xs,ps)=>some (.agg xs,ps)
  | none=>none
 | .tup cs=>match J0 get cs with
  | some (xs,ps)=>some (.tup xs,ps)
  | none=>none
 | a=>match jV get a with
  | some x=>some (x,[])
  | none=>none
def J0 (get:Nat→ABlk):List AV→Option (List AV × List PC)
 | []=>some ([],[])
 | a :: as=>match Jn get a,J0 get as with
  | some (x,ps),some (xs,qs)=>some (x :: xs,ps++qs)
  | _,_=>none
end
mutual
theorem jco {get:Nat→ABlk}:∀ {a b:AV} {ps:List PC},Jn get a=some (b,ps)→AllP ps→jV get a=some b
 | .ms b' off sz n cap,b,ps,h,hp=>by
  simp only [Jn] at h
  split at h
  ·rename_i cs t hb
   simp only [Option.some.injEq,Prod.mk.injEq] at h
   obtain ⟨rfl,rfl⟩:=h
   simp only [AllP,PC.holds,and_true] at hp
   obtain ⟨h1,h2⟩:=hp
   simp only [jV,hb,Nat.ble_eq_true_of_le h1,if_true,h2]
  ·simp at h
 | .agg cs,b,ps,h,hp=>by
  simp only [Jn] at h
  split at h
  ·rename_i xs qs hx
   simp only [Option.some.injEq,Prod.mk.injEq] at h
   obtain ⟨rfl,rfl⟩:=h
   simp only [jV,qo hx hp]
  ·simp at h
 | .tup cs,b,ps,h,hp=>by
  simp only [Jn] at h
  split at h
  ·rename_i xs qs hx
   simp only [Option.some.injEq,Prod.mk.injEq] at h
   obtain ⟨rfl,rfl⟩:=h
   simp only [jV,qo hx hp]
  ·simp at h
 | .d x,b,ps,h,hp=>by simp only [Jn] at h; split at h <;> simp_all
 | .fn f fs cs,b,ps,h,hp=>by simp only [Jn] at h; split at h <;> simp_all
 | .own ..,b,ps,h,hp=>by simp only [Jn] at h; split at h <;> simp_all
 | .ptr ..,b,ps,h,hp=>by simp only [Jn] at h; split at h <;> simp_all
 | .ip ..,b,ps,h,hp=>by simp only [Jn] at h; split at h <;> simp_all
 | .yl ..,b,ps,h,hp=>by simp only [Jn] at h; split at h <;> simp_all
 | .mp ..,b,ps,h,hp=>by simp only [Jn] at h; split at h <;> simp_all
 | .gx ..,b,ps,h,hp=>by simp only [Jn] at h; split at h <;> simp_all
 | .em,b,ps,h,hp=>by simp only [Jn] at h; split at h <;> simp_all
 | .nan _,b,ps,h,hp=>by simp only [Jn] at h; split at h <;> simp_all
 | .opt ..,b,ps,h,hp=>by simp only [Jn] at h; split at h <;> simp_all
 | .any,b,ps,h,hp=>by simp only [Jn] at h; split at h <;> simp_all
theorem qo {get:Nat→ABlk}:∀ {as bs:List AV} {ps:List PC},J0 get as=some (bs,ps)→AllP ps→Jl get as=some bs
 | [],bs,ps,h,_=>by simp [J0] at h; simp [Jl,h.1]
 | a :: as,bs,ps,h,hp=>by
  simp only [J0] at h
  split at h
  ·rename_i x ps1 xs ps2 h1 h2
   simp only [Option.some.injEq,Prod.mk.injEq] at h
   obtain ⟨rfl,rfl⟩:=h
   obtain ⟨hp1,hp2⟩:=AllP.append hp
   simp only [Jl,jco h1 hp1,qo h2 hp2]
  ·simp at h
end
mutual
def Ke:AV→AV
 | .d (.v x)=>.d (.v x)
 | .nan k=>.nan k
 | .em=>.em
 | .agg cs=>.agg (ZA cs)
 | .tup cs=>.tup (ZA cs)
 | _=>.any
def ZA:List AV→List AV
 | []=>[]
 | a :: as=>Ke a :: ZA as
end
def jfq (kn:Kn) (all:List AV) (nm:Nat):Option (AV × List PC × List (Nat × ABlk)) :=
 if kn.fr then match (if jR all then kH kn.res else some []) with
  | some fs=>some (ja1 nm kn.res,if kn.st then fs else .ltN 0 (qi kn.res) :: fs,[(nm,.tail 0)])
  | none=>none
 else some (if jR all then Ke kn.res else kn.res,[],[])
def jbd (kn:Kn) (all:List AV):Option (AV × List PC) :=
 if kn.fr&&!kn.st then some (if jR all then Ke (emA kn.res) else emA kn.res,[.eqN (qi kn.res) 0])
 else none
theorem KnOk.plain {P:Program} {glob:Nat→Option (List DV)} {kn:Kn} (h:KnOk P glob kn) (hf:kn.fr=false):PureCalls P glob kn.g kn.args kn.res:=by
 unfold KnOk at h
 rw [hf] at h
 simpa using h
theorem KnOk.fresh {P:Program} {glob:Nat→Option (List DV)} {kn:Kn} (h:KnOk P glob kn) (hf:kn.fr=true):KF P glob kn.g kn.args kn.res kn.st:=by
 unfold KnOk at h
 rw [hf] at h
 simpa using h
end Go.Kv
