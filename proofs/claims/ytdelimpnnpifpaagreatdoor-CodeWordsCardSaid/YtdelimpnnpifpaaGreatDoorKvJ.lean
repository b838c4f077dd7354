import Derived.Test.YtdelimpnnpifpaaGreatDoorKvI
set_option linter.all false
namespace Go.Kv
open Go Go.RowKit
inductive AItem where
 | code (c:Code)
 | inBlock (id:Nat)
 | inLoop (body:Code)
 | inScope (body:Code)
 | beginRound
 | reg (ops:Array Oper) (draw:Bool) (lo:Nat)
 | regC (ops:Array Oper) (draw:Bool) (i:Nat)
 | inRng (b:Nat)
 | endRng (b:Nat)
 | regL (ops:Array Oper) (i:Nat) (us:List (Nat × AV))
 | regD (ops:Array Oper) (i:Nat) (js:List Nat)
structure AFrame where
 fn:FuncId
 tmps:List AV
 todo:List AItem
 defers:List Nat
 ret:Bool
 roundOf:Option Nat
structure ASt where
 fr:AFrame
 cs:List AFrame
 H:List ABlk
def Jr (ops:Array Oper) (j:Nat):List Nat :=
 match ops[j]? with
 | some o=>(o.after.toList.filter (Region.binds .any)).map (·.on)
 | none=>[]
structure LinExt (ops:Array Oper) (lo:Nat) (is:List Nat):Prop where
 nodup:is.Nodup
 mem:∀ i,i ∈ is↔lo≤i∧i<ops.size
 order:∀ p j q,is=p++j :: q→∀ e ∈ Jr ops j,e<lo∨e ∈ p
def RegOk (ops:Array Oper) (draw:Bool) (lo:Nat) (is:List Nat):Prop :=
 if draw then LinExt ops lo is else is=List.range' lo (ops.size - lo)
def IRel (c:Ctx):AItem→Item→Prop
 | .code x,i=>i=.code x
 | .inBlock id,i=>i=.inBlock id
 | .inLoop b,i=>i=.inLoop b
 | .inScope b,i=>i=.inScope b
 | .beginRound,i=>i=.beginRound
 | .reg ops d lo,i=>∃ is,i=.inRegion ops is∧RegOk ops d lo is
 | .regC ops d k,i=>∃ is,i=.inRegion ops (k :: is)∧RegOk ops d (k+1) is
 | .inRng b,i=>c.live b=true∧i=.inRangeFunc (c.ρ b)
 | .endRng b,i=>c.live b=true∧i=.endRangeFunc (c.ρ b)
 | .regL ..,_=>False
 | .regD ops k js,i=>∃ is,i=.inRegion ops (k :: (js++is))∧LinExt ops (k+1) is
def IRels (c:Ctx):List AItem→List Item→Prop
 | [],l=>l=[]
 | x :: xs,l=>∃ y ys,l=y :: ys∧IRel c x y∧IRels c xs ys
theorem IRels.cons {c:Ctx} {x:AItem} {xs:List AItem} {y:Item} {ys:List Item} (h:IRel c x y) (t:IRels c xs ys):IRels c (x :: xs) (y :: ys):=⟨y,ys,rfl,h,t⟩
theorem IRel.mono {c c':Ctx} {w w':World} (h:Ctx.Le c w c' w') {x:AItem} {y:Item} (hr:IRel c x y):IRel c' x y:=by
 cases x <;> first | exact hr | (obtain ⟨h1,h2⟩:=hr; exact ⟨h.live _ h1,by rw [h.ρ _ h1]; exact h2⟩)
theorem IRels.mono {c c':Ctx} {w w':World} (h:Ctx.Le c w c' w'):∀ {xs:List AItem} {ys:List Item},IRels c xs ys→IRels c' xs ys
 | [],_,hr=>hr
 | _ :: _,_,hr=>by obtain ⟨y,ys,rfl,h1,h2⟩:=hr; exact IRels.cons (IRel.mono h h1) (IRels.mono h h2)
def DRel (c:Ctx) (ds:List Nat) (l:List Deferred):Prop:=(∀ d ∈ ds,c.live d=true)∧l=ds.map fun d=>{ target:=.collected (c.ρ d),args:=#[] }
theorem DRel.mono {c c':Ctx} {w w':World} (h:Ctx.Le c w c' w') {ds:List Nat} {l:List Deferred} (hr:DRel c ds l):DRel c' ds l:=by
 refine ⟨fun d hd=>h.live d (hr.1 d hd),?_⟩
 rw [hr.2]
 apply List.map_congr_left
 intro d hd
 rw [h.ρ d (hr.1 d hd)]
def RoRel (c:Ctx) (a b:Option Nat):Prop:=match a with
 | none=>b=none
 | some r=>c.live r=true∧b=some (c.ρ r)
theorem RoRel.mono {c c':Ctx} {w w':World} (h:Ctx.Le c w c' w') {a b:Option Nat} (hr:RoRel c a b):RoRel c' a b:=by
 cases a with
 | none=>exact hr
 | some r=>exact ⟨h.live r hr.1,by rw [h.ρ r hr.1]; exact hr.2⟩
structure FRel (c:Ctx) (w:World) (a:AFrame) (fr:Frame):Prop where
 fn:fr.fn=a.fn
 tmps:Rels c w a.tmps fr.tmps.toList
 todo:IRels c a.todo fr.todo
 defers:DRel c a.defers fr.defers
 mode:fr.mode=if a.ret then .returning else .run
 kind:fr.kind=.normal
 ro:RoRel c a.roundOf fr.roundOf
theorem FRel.mono {c c':Ctx} {w w':World} (h:Ctx.Le c w c' w') {a:AFrame} {fr:Frame} (hr:FRel c w a fr):FRel c' w' a fr :=
 ⟨hr.fn,Rels.mono h hr.tmps,IRels.mono h hr.todo,DRel.mono h hr.defers,hr.mode,hr.kind,RoRel.mono h hr.ro⟩
def setT (ts:List AV) (d:Option Tmp) (v:AV):List AV:=match d with
 | some d=>ts.set d v
 | none=>ts
def JW (ops:Array Oper) (i:Nat):Option Tmp:=(ops[i]?).bind (·.dst)
def Jl (ops:Array Oper) (T:List AV):List (Nat × AV)→List AV
 | []=>T
 | x :: us=>Jl ops (setT T (JW ops x.1) x.2) us
def KV (a:AFrame) (d:Nat):AFrame:=match a.todo with
 | .regL ops i us :: k=>{ a with tmps:=Jl ops a.tmps (us.take d),todo:=.regD ops i ((us.drop d).map (·.1)) :: k }
 | _=>a
theorem FRel.late_eq {c:Ctx} {w:World} {a:AFrame} {fr:Frame} (h:FRel c w a fr) (d:Nat):KV a d=a:=by
 unfold KV
 split
 ·rename_i ops i us k ht
  have:=h.todo
  rw [ht] at this
  obtain ⟨_,_,_,h1,_⟩:=this
  exact h1.elim
 ·rfl
def FRelC (c:Ctx) (w:World) (a:AFrame) (fr:Frame):Prop:=∃ d,FRel c w (KV a d) fr
theorem FRel.toC {c:Ctx} {w:World} {a:AFrame} {fr:Frame} (h:FRel c w a fr):FRelC c w a fr:=⟨0,by rw [h.late_eq]; exact h⟩
theorem FRelC.mono {c c':Ctx} {w w':World} (h:Ctx.Le c w c' w') {a:AFrame} {fr:Frame} (hr:FRelC c w a fr):FRelC c' w' a fr:=by
 obtain ⟨d,hr⟩:=hr
 exact ⟨d,FRel.mono h hr⟩
def FRels (c:Ctx) (w:World):List AFrame→List Frame→Prop
 | [],l=>l=[]
 | x :: xs,l=>∃ y ys,l=y :: ys∧FRelC c w x y∧FRels c w xs ys
theorem FRels.mono {c c':Ctx} {w w':World} (h:Ctx.Le c w c' w'):∀ {xs:List AFrame} {ys:List Frame},FRels c w xs ys→FRels c' w' xs ys
 | [],_,hr=>hr
 | _ :: _,_,hr=>by obtain ⟨y,ys,rfl,h1,h2⟩:=hr; exact ⟨y,ys,rfl,FRelC.mono h h1,FRels.mono h h2⟩
def GlobOk (glob:Nat→Option (List DV)) (w:World) (φ:Nat→Nat):Prop :=
 ∀ g cs,glob g=some cs→∃ us:List Value,us.length<φ g∧j5 w g 0 us∧RelDs φ w cs us∧w.cell? ⟨g,us.length,none⟩=none
theorem GlobOk.mono {glob:Nat→Option (List DV)} {c c':Ctx} {w w':World} (h:Ctx.Le c w c' w') (hg:GlobOk glob w c.φ):GlobOk glob w' c'.φ:=by
 intro g cs hc
 obtain ⟨us,h1,h2,h3,h4⟩:=hg g cs hc
 exact ⟨us,Nat.lt_of_lt_of_le h1 (h.φ g),KJ h (by omega) h2,RelDs.mono h h3,(h.cells g us.length h1).trans h4⟩
def jlj (glob:Nat→Option (List DV)):Bool:=(glob 0).isNone
abbrev Start.on (w0:Start) (cf:Cfg):Start:=⟨w0.w,w0.φ,jlj cf.glob⟩
def PureCalls (P:Program) (glob:Nat→Option (List DV)) (f:FuncId) (args:List AV) (res:AV):Prop :=
 ∀ (w:World) (φ:Nat→Nat) (us:List Value),(∀ i,w.heap.size≤i→φ i=0)→GlobOk glob w φ→Rels ({ ρ:=fun _=>0,τ:=fun _=>0,σ:=fun _=>0,φ:=φ,live:=fun _=>false,tl:=fun _=>false }:Ctx) w args us →
  Calls P f us.toArray w fun e w'=>∃ u φ',e=.returned u∧BelowD (jlj glob) w.heap.size w w'∧(∀ i,i<w.heap.size→φ' i=φ i)∧(∀ i,w'.heap.size≤i→φ' i=0)∧Rel ({ ρ:=fun _=>0,τ:=fun _=>0,σ:=fun _=>0,φ:=φ',live:=fun _=>false,tl:=fun _=>false }:Ctx) w' res u
def J2 (φ:Nat→Nat):Ctx:={ ρ:=fun _=>0,τ:=fun _=>0,σ:=fun _=>0,φ:=φ,live:=fun _=>false,tl:=fun _=>false }
def yR (φ:Nat→Nat) (r:Nat):Ctx:={ ρ:=fun _=>0,τ:=fun _=>r,σ:=fun _=>0,φ:=φ,live:=fun _=>false,tl:=fun _=>true }
mutual
def JF:AV→Bool
 | .d _=>true
 | .own b e _ _ _=>Nat.beq b 0&&Nat.beq e 0
 | .agg cs=>qX cs
 | .tup cs=>qX cs
 | _=>false
def qX:List AV→Bool
 | []=>true
 | a :: as=>JF a&&qX as
end
mutual
def jbF (nm:Nat):AV→AV
 | .own _ _ sz n xs=>.own nm 0 sz n xs
 | .agg cs=>.agg (jfO nm cs)
 | .tup cs=>.tup (jfO nm cs)
 | a=>a
def jfO (nm:Nat):List AV→List AV
 | []=>[]
 | a :: as=>jbF nm a :: jfO nm as
end
mutual
theorem jfd {c1 c2:Ctx} {w:World} {nm:Nat} (hφ:c2.φ=c1.φ) (hτ:c2.τ nm=c1.τ 0) (h1:c1.σ 0=0) (h2:c2.σ nm=0) (ht:c2.tl nm=true):∀ {a:AV} {u:Value},JF a=true→Rel c1 w a u→Rel c2 w (jbF nm a) u
 | .d x,u,_,h=>by simp only [jbF]; unfold Rel at h ⊢; rw [hφ]; exact h
 | .own b e sz n xs,u,hf,h=>by
  simp only [JF,Bool.and_eq_true] at hf
  have hb:b=0:=Nat.eq_of_beq_eq_true hf.1
  have he:e=0:=Nat.eq_of_beq_eq_true hf.2
  subst hb
  subst he
  simp only [jbF]
  unfold Rel at h ⊢
  obtain ⟨bk,off,cap,us,q1,q2,q3,q4,q5,q6,q7,q8,q9⟩:=h
  rw [hφ]
  refine ⟨bk,off,cap,us,q1,q2,q3,q4,q5,q6,ht,by omega,?_⟩
  intro _
  obtain ⟨r1,r2,r3⟩:=q9 h1.symm
  refine ⟨by rw [hτ]; exact r1,r2,?_⟩
  rw [hφ]; exact r3
 | .agg cs,u,hf,h=>by
  simp only [jbF]
  simp only [JF] at hf
  unfold Rel at h ⊢
  obtain ⟨us,rfl,hs⟩:=h
  exact ⟨us,rfl,gN hφ hτ h1 h2 ht hf hs⟩
 | .tup cs,u,hf,h=>by
  simp only [jbF]
  simp only [JF] at hf
  unfold Rel at h ⊢
  obtain ⟨us,rfl,hs⟩:=h
  exact ⟨us,rfl,gN hφ hτ h1 h2 ht hf hs⟩
 | .ptr ..,_,hf,_=>by simp [JF] at hf
 | .ip ..,_,hf,_=>by simp [JF] at hf
 | .ms ..,_,hf,_=>by simp [JF] at hf
 | .fn ..,_,hf,_=>by simp [JF] at hf
 | .yl ..,_,hf,_=>by simp [JF] at hf
 | .mp ..,_,hf,_=>by simp [JF] at hf
 | .gx ..,_,hf,_=>by simp [JF] at hf
 | .em,_,hf,_=>by simp [JF] at hf
 | .nan _,_,hf,_=>by simp [JF] at hf
 | .opt ..,_,hf,_=>by simp [JF] at hf
 | .any,_,hf,_=>by simp [JF] at hf
theorem gN {c1 c2:Ctx} {w:World} {nm:Nat} (hφ:c2.φ=c1.φ) (hτ:c2.τ nm=c1.τ 0) (h1:c1.σ 0=0) (h2:c2.σ nm=0) (ht:c2.tl nm=true):∀ {as:List AV} {us:List Value},qX as=true→Rels c1 w as us→Rels c2 w (jfO nm as) us
 | [],us,_,h=>by rw [h.nil_inv]; exact Rels.nil
 | a :: as,us,hf,h=>by
  obtain ⟨u,r,rfl,hu,t⟩:=h.cons_inv
  simp only [qX,Bool.and_eq_true] at hf
  exact Rels.cons (jfd hφ hτ h1 h2 ht hf.1 hu) (gN hφ hτ h1 h2 ht hf.2 t)
end
def QE (xs:List DV):Bool:=xs.all fun | .v _=>true | .sl ..=>false
theorem gf {φ φ':Nat→Nat} {w w':World}:∀ {xs:List DV} {us:List Value},QE xs=true→RelDs φ w xs us→RelDs φ' w' xs us
 | [],us,_,h=>by rw [h.nil_inv]; exact RelDs.nil
 | .v x :: xs,us,hf,h=>by
  obtain ⟨u,r,rfl,hu,t⟩:=h.cons_inv
  simp only [QE,List.all_cons,Bool.true_and] at hf
  exact RelDs.cons (by unfold RelD at hu ⊢; exact hu) (gf hf t)
 | .sl .. :: xs,us,hf,h=>by simp [QE] at hf
mutual
def kU:AV→Option (List PC)
 | .d (.v _)=>some []
 | .own _ _ _ _ xs=>some [.prop (QE xs=true)]
 | .agg cs=>gi cs
 | .tup cs=>gi cs
 | _=>none
def gi:List AV→Option (List PC)
 | []=>some []
 | a :: as=>match kU a,gi as with
  | some ps,some qs=>some (ps++qs)
  | _,_=>none
end
mutual
def KD:AV→Nat
 | .own _ _ _ n _=>n
 | .agg cs=>qH cs
 | .tup cs=>qH cs
 | _=>0
def qH:List AV→Nat
 | []=>0
 | a :: as=>KD a+qH as
end
mutual
def emA:AV→AV
 | .own ..=>.em
 | .agg cs=>.agg (Gu cs)
 | .tup cs=>.tup (Gu cs)
 | a=>a
def Gu:List AV→List AV
 | []=>[]
 | a :: as=>emA a :: Gu as
end
def kJ (P:Program) (glob:Nat→Option (List DV)) (f:FuncId) (args:List AV) (res:AV) (st:Bool):Prop :=
 ∀ (w:World) (φ:Nat→Nat) (us:List Value),(∀ i,w.heap.size≤i→φ i=0)→GlobOk glob w φ→Rels (J2 φ) w args us →
  Calls P f us.toArray w fun e w'=>∃ u φ',e=.returned u∧BelowD (jlj glob) w.heap.size w w'∧(∀ i,i<w.heap.size→φ' i=φ i)∧(∀ i,w'.heap.size≤i→φ' i=0)∧JF res=true ∧
   (KD res=0→st=false→Rel (J2 φ') w' (emA res) u)∧(0<KD res∨st=true→∃ r,w.heap.size≤r∧(∃ cur t fr,w'.heap[r]? = some (.cells cur t fr)∧zV fr cur.size)∧Rel (yR φ' r) w' res u)
def Ql (P:Program) (glob:Nat→Option (List DV)) (g:FuncId) (sz n:Nat) (xs:List DV) (f:AV) (ys:List DV):Prop :=
 ∀ (w:World) (φ:Nat→Nat) (bk cap:Nat) (t:TypeId) (vs rest:List Value) (fv:Value),
  (∀ i,w.heap.size≤i→φ i=0)→GlobOk glob w φ→w.heap[bk]? = some (.cells (vs++rest).toArray t (0,0))→φ bk=0→RelDs φ w xs vs→vs.length=n*sz→Rel (J2 φ) w f fv →
  Calls P g #[.slice (some ⟨bk,0,none⟩) n cap,fv] w fun e w'=>e=.returned (.tuple #[])∧∃ vs':List Value,vs'.length=vs.length∧RelDs φ w ys vs'∧BelowD (jlj glob) w.heap.size (w.setRow bk (vs'++rest).toArray) w'
def KnOk (P:Program) (glob:Nat→Option (List DV)) (kn:Kn):Prop:=if kn.fr=true then kJ P glob kn.g kn.args kn.res kn.st else PureCalls P glob kn.g kn.args kn.res
def Y2 (P:Program):Prop:=∀ (g:Nat) fn,P.funcs[g]? = some fn→fn.name ≠ "runtime.NumGoroutine"
def KnowOk (P:Program) (glob:Nat→Option (List DV)) (K:List Kn):Prop:=Y2 P∧∀ (j:Nat) kn,K[j]? = some kn→KnOk P glob kn
def GK (cf:Cfg) (w:World) (φ:Nat→Nat):Prop:=GlobOk cf.glob w φ∧KnowOk cf.P cf.glob cf.K
theorem GK.mono {cf:Cfg} {c c':Ctx} {w w':World} (h:Ctx.Le c w c' w') (hg:GK cf w c.φ):GK cf w' c'.φ:=⟨GlobOk.mono h hg.1,hg.2⟩
structure SRel (cf:Cfg) (base:Nat) (w0:Start) (c:Ctx) (w:World) (s:ASt) (fr:Frame) (frs:List Frame):Prop where
 fr:FRel c w s.fr fr
 frs:FRels c w s.cs frs
 mem:WRel base (w0.on cf) c w s.H
 glob:GK cf w c.φ
def Reach (cf:Cfg) (base:Nat) (w0:Start) (cs0:List Frame) (s s':ASt):Prop :=
 ∀ c w fr frs,SRel cf base w0 c w s fr frs→∃ c' w' fr' frs',SRel cf base w0 c' w' s' fr' frs'∧Steps cf.P (lone fr (frs++cs0) w) (lone fr' (frs'++cs0) w')
theorem Reach.refl (cf:Cfg) (base:Nat) (w0:Start) (cs0:List Frame) (s:ASt):Reach cf base w0 cs0 s s :=
 fun c w fr frs h=>⟨c,w,fr,frs,h,Steps.refl _ _⟩
theorem Reach.trans {cf:Cfg} {base:Nat} {w0:Start} {cs0:List Frame} {a b d:ASt} (h:Reach cf base w0 cs0 a b) (k:Reach cf base w0 cs0 b d):Reach cf base w0 cs0 a d:=by
 intro c w fr frs hs
 obtain ⟨c',w',fr',frs',h1,h2⟩:=h c w fr frs hs
 obtain ⟨c'',w'',fr'',frs'',k1,k2⟩:=k c' w' fr' frs' h1
 exact ⟨c'',w'',fr'',frs'',k1,h2.trans k2⟩
def evA (cf:Cfg) (tmps:List AV):Operand→AV
 | .tmp t=>tmps.getD t .any
 | .const v=>(qD v).getD .any
 | .global g=>match cf.glob g with
  | some cs=>.ip cs
  | none=>.any
 | .func f=>.d (.v (.func (.func f) #[] #[]))
theorem Jz {c:Ctx} {w:World} {u:Value}:Rel c w .any u:=by unfold Rel; trivial
theorem Qf {cf:Cfg} {c:Ctx} {w:World} {tmps:List AV} {us:Array Value} (h:Rels c w tmps us.toList) (hg:GK cf w c.φ) (ds:List Deferred) (x:Operand) :
  Rel c w (evA cf tmps x) (({ tmps:=us,defers:=ds }:Act).eval x):=by
 cases x with
 | tmp t =>
  simp only [evA,Act.eval]
  cases ht:tmps[t]? with
  | none=>simp [List.getD,ht]; exact Jz
  | some a =>
   obtain ⟨u,hu,hr⟩:=h.get t a ht
   simp [List.getD,ht]
   simp at hu
   rw [hu]
   exact hr
 | const v =>
  simp only [evA,Act.eval]
  cases hl:qD v with
  | none=>exact Jz
  | some a=>exact zL hl
 | global g =>
  simp only [evA,Act.eval]
  cases hc:cf.glob g with
  | none=>exact Jz
  | some cs =>
   obtain ⟨us,h1,h2,h3,_⟩:=hg.1 g cs hc
   unfold Rel; exact ⟨g,0,us,rfl,by omega,h2,h3⟩
 | func f=>exact qx rfl
def Z3:DV→DV
 | .v (.slice none 0 0)=>.sl 0 []
 | x=>x
theorem jiF {φ:Nat→Nat} {w:World} {x:DV} {u:Value} (h:RelD φ w x u):RelD φ w (Z3 x) u:=by
 unfold Z3
 split
 ·unfold RelD at h ⊢
  obtain ⟨rfl,_⟩:=h
  exact ⟨0,0,0,[],.inr ⟨⟨_,rfl⟩,rfl,rfl,rfl⟩,Nat.zero_le _,Nat.le_refl _,by intro i u hu; simp at hu,RelDs.nil⟩
 ·exact h
mutual
def j7 (get:Nat→ABlk):AV→Option AV
 | .d x=>some (.d (Z3 x))
 | .fn f fs cs=>match Jq get fs,Jq get cs with
  | some xs,some ys=>some (.fn f xs ys)
  | _,_=>none
 | .own _ _ _ n xs=>some (.d (.sl n xs))
 | .em=>some (.d (.sl 0 []))
 | .nan k=>some (.nan k)
 | .ms b off sz n _=>match get b with
  | .cells cs _=>if Nat.ble (off+n*sz) cs.length then
    match toDs ((cs.drop off).take (n*sz)) with
    | some xs=>some (.d (.sl n xs))
    | none=>none
   else none
  | _=>none
 | .ptr b off=>match get b with
  | .cells cs _=>if Nat.ble off cs.length then
    match toDs (cs.drop off) with
    | some xs=>some (.ip xs)
    | none=>none
   else none
  | _=>none
 | .ip cs=>some (.ip cs)
 | .agg cs=>match Jq get cs with
  | some xs=>some (.agg xs)
  | none=>none
 | .tup cs=>match Jq get cs with
  | some xs=>some (.tup xs)
  | none=>none
 | _=>none
def Jq (get:Nat→ABlk):List AV→Option (List AV)
 | []=>some []
 | a :: as=>match j7 get a,Jq get as with
  | some x,some xs=>some (x :: xs)
  | _,_=>none
end
mutual
def ZP:AV→Bool
 | .ms ..=>true
 | .ptr ..=>true
 | .fn _ fs cs=>jZ fs||jZ cs
 | .agg cs=>jZ cs
 | .tup cs=>jZ cs
 | _=>false
def jZ:List AV→Bool
 | []=>false
 | a :: as=>ZP a||jZ as
end
def jfG (get:Nat→ABlk):AV→Option AV
 | .d x=>some (.d x)
 | a=>j7 get a
def Kz (get:Nat→ABlk):List AV→Option (List AV)
 | []=>some []
 | a :: as=>match jfG get a,Kz get as with
  | some x,some xs=>some (x :: xs)
  | _,_=>none
mutual
def J7:AV→Bool
 | .d (.v _)=>true
 | .nan _=>true
 | .agg cs=>gY cs
 | .tup cs=>gY cs
 | _=>false
def gY:List AV→Bool
 | []=>true
 | a :: as=>J7 a&&gY as
end
mutual
theorem RelD.weaken {φ φ':Nat→Nat} {w:World} (h:∀ i,φ i≤φ' i):∀ {x:DV} {u:Value},RelD φ w x u→RelD φ' w x u
 | .v x,u,hr=>by unfold RelD at hr ⊢; exact hr
 | .sl n xs,u,hr=>by
  unfold RelD at hr ⊢
  obtain ⟨bk,off,cap,us,hu,hl,hn,hc,hs⟩:=hr
  exact ⟨bk,off,cap,us,hu,Nat.le_trans hl (h bk),hn,hc,RelDs.weaken h hs⟩
theorem RelDs.weaken {φ φ':Nat→Nat} {w:World} (h:∀ i,φ i≤φ' i):∀ {xs:List DV} {us:List Value},RelDs φ w xs us→RelDs φ' w xs us
 | [],us,hr=>by rw [hr.nil_inv]; exact RelDs.nil
 | x :: xs,us,hr=>by
  obtain ⟨u,r,rfl,hu,t⟩:=hr.cons_inv
  exact RelDs.cons (RelD.weaken h hu) (RelDs.weaken h t)
end
def JC (w:World) (φ:Nat→Nat) (base:Nat) (i:Nat):Nat :=
 if i<base then φ i else
 match w.heap[i]? with
 | some (.cells cs _ _)=>max (φ i) cs.size
 | _=>φ i
theorem kr (w:World) (φ:Nat→Nat) (base i:Nat):φ i≤JC w φ base i:=by
 unfold JC
 split
 ·exact Nat.le_refl _
 ·split
  ·exact Nat.le_max_left _ _
  ·exact Nat.le_refl _
section
variable {base:Nat} {w0:Start} {c:Ctx} {w:World} {H:List ABlk}
mutual
theorem yi (h:WRel base w0 c w H) {get:Nat→ABlk} (hget:∀ b,get b=(H[b]?).getD .gone) {φ':Nat→Nat} (hφ:∀ i,c.φ i≤φ' i):∀ {a b:AV} {u:Value},(ZP a=true→∀ i,JC w c.φ base i≤φ' i)→j7 get a=some b→Rel c w a u→Rel (J2 φ') w b u
 | .d x,b,u,_,hp,hr=>by simp [j7] at hp; subst hp; unfold Rel at hr ⊢; exact jiF (RelD.weaken hφ hr)
 | .fn f fs cs,b,u,hm,hp,hr=>by
  simp only [j7] at hp
  split at hp
  ·rename_i xs ys hx hy
   simp at hp; subst hp
   unfold Rel at hr ⊢
   obtain ⟨hf,us,vs,rfl,h1,h2⟩:=hr
   exact ⟨hf,us,vs,rfl,JL h hget hφ (fun hh=>hm (by simp [ZP,hh])) hx h1,JL h hget hφ (fun hh=>hm (by simp [ZP,hh])) hy h2⟩
  ·simp at hp
 | .own b' e sz n xs,b,u,_,hp,hr=>by
  simp [j7] at hp; subst hp
  have:=hr.toD (x:=.sl n xs) rfl
  unfold Rel; exact RelD.weaken hφ this
 | .ms b' off sz n cap,b,u,hm,hp,hr=>by
  simp only [j7] at hp
  split at hp
  ·rename_i cs t hb
   split at hp
   ·rename_i hle
    have hle:=Nat.le_of_ble_eq_true hle
    split at hp
    ·rename_i xs hxs
     simp at hp; subst hp
     unfold Rel at hr
     obtain ⟨hl,hcap,cr,hcr,rfl⟩:=hr
     obtain ⟨hbase,hφ0,us,rest,hg,hs⟩:=h.blk b' _ (Ja hget hb (by simp))
     have hlen:=hs.length
     have hd:=((hs.drop off).take (n*sz)).toDs hxs
     have hfz:=hm (by simp [ZP])
     unfold Rel RelD
     refine ⟨c.ρ b',off,cr,(us.drop off).take (n*sz),.inl rfl,?_,Nat.le_trans hcap hcr.le,jT (JV hg),RelDs.weaken hφ hd⟩
     refine Nat.le_trans ?_ (hfz (c.ρ b'))
     unfold JC
     rw [if_neg (by omega),hg]
     simp; omega
    ·simp at hp
   ·simp at hp
  ·simp at hp
 | .agg cs,b,u,hm,hp,hr=>by
  simp only [j7] at hp
  split at hp
  ·rename_i xs hxs
   simp at hp; subst hp
   unfold Rel at hr ⊢
   obtain ⟨us,rfl,hs⟩:=hr
   exact ⟨us,rfl,JL h hget hφ (fun hh=>hm (by simpa [ZP] using hh)) hxs hs⟩
  ·simp at hp
 | .tup cs,b,u,hm,hp,hr=>by
  simp only [j7] at hp
  split at hp
  ·rename_i xs hxs
   simp at hp; subst hp
   unfold Rel at hr ⊢
   obtain ⟨us,rfl,hs⟩:=hr
   exact ⟨us,rfl,JL h hget hφ (fun hh=>hm (by simpa [ZP] using hh)) hxs hs⟩
  ·simp at hp
 | .ptr b' off,b,u,hm,hp,hr=>by
  simp only [j7] at hp
  split at hp
  ·rename_i cs t hb
   split at hp
   ·rename_i hle
    have hle:=Nat.le_of_ble_eq_true hle
    split at hp
    ·rename_i xs hxs
     simp at hp; subst hp
     unfold Rel at hr
     obtain ⟨hl,rfl⟩:=hr
     obtain ⟨hbase,hφ0,us,rest,hg,hs⟩:=h.blk b' _ (Ja hget hb (by simp))
     have hlen:=hs.length
     have hd:=(hs.drop off).toDs hxs
     have hfz:=hm (by simp [ZP])
     unfold Rel
     refine ⟨c.ρ b',off,us.drop off,rfl,?_,JV hg,RelDs.weaken hφ hd⟩
     refine Nat.le_trans ?_ (hfz (c.ρ b'))
     unfold JC
     rw [if_neg (by omega),hg]
     simp; omega
    ·simp at hp
   ·simp at hp
  ·simp at hp
 | .ip cs,b,u,_,hp,hr=>by
  simp only [j7,Option.some.injEq] at hp; subst hp
  unfold Rel at hr ⊢
  obtain ⟨bk,off,us,h1,h2,h3,h4⟩:=hr
  exact ⟨bk,off,us,h1,Nat.le_trans h2 (hφ bk),h3,RelDs.weaken hφ h4⟩
 | .yl ..,_,_,_,hp,_=>by simp [j7] at hp
 | .mp ..,_,_,_,hp,_=>by simp [j7] at hp
 | .gx ..,_,_,_,hp,_=>by simp [j7] at hp
 | .em,b,u,_,hp,hr=>by
  simp only [j7,Option.some.injEq] at hp; subst hp
  unfold Rel at hr
  unfold Rel RelD
  exact ⟨0,0,0,[],.inr ⟨hr,rfl,rfl,rfl⟩,Nat.zero_le _,Nat.le_refl _,by intro i u hu; simp at hu,RelDs.nil⟩
 | .nan k,b,u,_,hp,hr=>by
  simp only [j7,Option.some.injEq] at hp; subst hp
  unfold Rel at hr ⊢; exact hr
 | .any,_,_,_,hp,_=>by simp [j7] at hp
theorem JL (h:WRel base w0 c w H) {get:Nat→ABlk} (hget:∀ b,get b=(H[b]?).getD .gone) {φ':Nat→Nat} (hφ:∀ i,c.φ i≤φ' i):∀ {as bs:List AV} {us:List Value},(jZ as=true→∀ i,JC w c.φ base i≤φ' i)→Jq get as=some bs→Rels c w as us→Rels (J2 φ') w bs us
 | [],bs,us,_,hp,hr=>by simp [Jq] at hp; subst hp; rw [hr.nil_inv]; exact Rels.nil
 | a :: as,bs,us,hm,hp,hr=>by
  obtain ⟨u,r,rfl,hu,t⟩:=hr.cons_inv
  simp only [Jq] at hp
  split at hp
  ·rename_i x xs hx hxs
   simp at hp; subst hp
   exact Rels.cons (yi h hget hφ (fun hh=>hm (by simp [jZ,hh])) hx hu) (JL h hget hφ (fun hh=>hm (by simp [jZ,hh])) hxs t)
  ·simp at hp
end
theorem y0 (h:WRel base w0 c w H) {get:Nat→ABlk} (hget:∀ b,get b=(H[b]?).getD .gone) {φ':Nat→Nat} (hφ:∀ i,c.φ i≤φ' i):∀ {as bs:List AV} {us:List Value},(jZ as=true→∀ i,JC w c.φ base i≤φ' i)→Kz get as=some bs→Rels c w as us→Rels (J2 φ') w bs us
 | [],bs,us,_,hp,hr=>by simp [Kz] at hp; subst hp; rw [hr.nil_inv]; exact Rels.nil
 | a :: as,bs,us,hm,hp,hr=>by
  obtain ⟨u,r,rfl,hu,t⟩:=hr.cons_inv
  simp only [Kz] at hp
  split at hp
  ·rename_i x xs hx hxs
   simp at hp; subst hp
   refine Rels.cons ?_ (y0 h hget hφ (fun hh=>hm (by simp [jZ,hh])) hxs t)
   unfold jfG at hx
   split at hx
   ·simp at hx; subst hx
    unfold Rel at hu ⊢
    exact RelD.weaken hφ hu
   ·exact yi h hget hφ (fun hh=>hm (by simp [jZ,hh])) hx hu
  ·simp at hp
end
mutual
def Jt (get:Nat→ABlk):AV→Option (AV × List PC)
 | .ms b off sz n _=>match get b with
  | .cells cs _=>some (.d (.sl n (((cs.drop off).take (n*sz)).map aD)),[.leN (off+n*sz) cs.length,.prop (toDs ((cs.drop off).take (n*sz))=some (((cs.drop off).take (n*sz)).map aD))])
  | _=>none
 | .agg cs=>match J9 get cs with
  | some (xs,ps)=>some (.agg xs,ps)
  | none=>none
 | .tup cs=>match J9 get cs with
  | some (xs,ps)=>some (.tup xs,ps)
  | none=>none
 | a=>match j7 get a with
  | some x=>some (x,[])
  | none=>none
def J9 (get:Nat→ABlk):List AV→Option (List AV × List PC)
 | []=>some ([],[])
 | a :: as=>match Jt get a,J9 get as with
  | some (x,ps),some (xs,qs)=>some (x :: xs,ps++qs)
  | _,_=>none
end
mutual
theorem jcq {get:Nat→ABlk}:∀ {a b:AV} {ps:List PC},Jt get a=some (b,ps)→AllP ps→j7 get a=some b
 | .ms b' off sz n cap,b,ps,h,hp=>by
  simp only [Jt] at h
  split at h
  ·rename_i cs t hb
   simp only [Option.some.injEq,Prod.mk.injEq] at h
   obtain ⟨rfl,rfl⟩:=h
   simp only [AllP,PC.holds,and_true] at hp
   obtain ⟨h1,h2⟩:=hp
   simp only [j7,hb,Nat.ble_eq_true_of_le h1,if_true,h2]
  ·simp at h
 | .agg cs,b,ps,h,hp=>by
  simp only [Jt] at h
  split at h
  ·rename_i xs qs hx
   simp only [Option.some.injEq,Prod.mk.injEq] at h
   obtain ⟨rfl,rfl⟩:=h
   simp only [j7,qp hx hp]
  ·simp at h
 | .tup cs,b,ps,h,hp=>by
  simp only [Jt] at h
  split at h
  ·rename_i xs qs hx
   simp only [Option.some.injEq,Prod.mk.injEq] at h
   obtain ⟨rfl,rfl⟩:=h
   simp only [j7,qp hx hp]
  ·simp at h
 | .d x,b,ps,h,hp=>by simp only [Jt] at h; split at h <;> simp_all
 | .fn f fs cs,b,ps,h,hp=>by simp only [Jt] at h; split at h <;> simp_all
 | .own ..,b,ps,h,hp=>by simp only [Jt] at h; split at h <;> simp_all
 | .ptr ..,b,ps,h,hp=>by simp only [Jt] at h; split at h <;> simp_all
 | .ip ..,b,ps,h,hp=>by simp only [Jt] at h; split at h <;> simp_all
 | .yl ..,b,ps,h,hp=>by simp only [Jt] at h; split at h <;> simp_all
 | .mp ..,b,ps,h,hp=>by simp only [Jt] at h; split at h <;> simp_all
 | .gx ..,b,ps,h,hp=>by simp only [Jt] at h; split at h <;> simp_all
 | .em,b,ps,h,hp=>by simp only [Jt] at h; split at h <;> simp_all
 | .nan _,b,ps,h,hp=>by simp only [Jt] at h; split at h <;> simp_all
 | .opt ..,b,ps,h,hp=>by simp only [Jt] at h; split at h <;> simp_all
 | .any,b,ps,h,hp=>by simp only [Jt] at h; split at h <;> simp_all
theorem qp {get:Nat→ABlk}:∀ {as bs:List AV} {ps:List PC},J9 get as=some (bs,ps)→AllP ps→Jq get as=some bs
 | [],bs,ps,h,_=>by simp [J9] at h; simp [Jq,h.1]
 | a :: as,bs,ps,h,hp=>by
  simp only [J9] at h
  split at h
  ·rename_i x ps1 xs ps2 h1 h2
   simp only [Option.some.injEq,Prod.mk.injEq] at h
   obtain ⟨rfl,rfl⟩:=h
   obtain ⟨hp1,hp2⟩:=AllP.append hp
   simp only [Jq,jcq h1 hp1,qp h2 hp2]
  ·simp at h
end
mutual
def Km:AV→AV
 | .d (.v x)=>.d (.v x)
 | .nan k=>.nan k
 | .em=>.em
 | .agg cs=>.agg (Z6 cs)
 | .tup cs=>.tup (Z6 cs)
 | _=>.any
def Z6:List AV→List AV
 | []=>[]
 | a :: as=>Km a :: Z6 as
end
def jfS (kn:Kn) (all:List AV) (nm:Nat):Option (AV × List PC × List (Nat × ABlk)) :=
 if kn.fr then match (if jZ all then kU kn.res else some []) with
  | some fs=>some (jbF nm kn.res,if kn.st then fs else .ltN 0 (KD kn.res) :: fs,[(nm,.tail 0)])
  | none=>none
 else some (if jZ all then Km kn.res else kn.res,[],[])
def jbx (kn:Kn) (all:List AV):Option (AV × List PC) :=
 if kn.fr&&!kn.st then some (if jZ all then Km (emA kn.res) else emA kn.res,[.eqN (KD kn.res) 0])
 else none
theorem KnOk.plain {P:Program} {glob:Nat→Option (List DV)} {kn:Kn} (h:KnOk P glob kn) (hf:kn.fr=false):PureCalls P glob kn.g kn.args kn.res:=by
 unfold KnOk at h
 rw [hf] at h
 simpa using h
theorem KnOk.fresh {P:Program} {glob:Nat→Option (List DV)} {kn:Kn} (h:KnOk P glob kn) (hf:kn.fr=true):kJ P glob kn.g kn.args kn.res kn.st:=by
 unfold KnOk at h
 rw [hf] at h
 simpa using h
end Go.Kv
