import Derived.Test.YtdelimpnnpifpaaGreatDoorKvP
import Derived.RangeFuncNested
set_option linter.all false
namespace Go.Kv
open Go Go.RowKit
section
variable {cf:Cfg} {base:Nat} {w0:Start} {cs0:List Frame} {c:Ctx} {w:World} {H:List ABlk}
theorem WRel.putObj (h:WRel base w0 c w H) {b:Nat} {k k':ABlk} (h0:H[b]? = some k) (ho:k.owns=true) (hlk:loc c b k=c.ρ b) {o o':Obj} (hg:w.heap[c.ρ b]? = some o)
    (hnc:∀ cs t f,o≠.cells cs t f) (hnc':∀ cs t f,o'≠.cells cs t f) (hlv:k'.isLive=true) (htl:k'.isTail=false) (htl0:k.isTail=false)
    (hb:Ctx.Le c w c (w.putObj (c.ρ b) o')→BRel c (w.putObj (c.ρ b) o') base b k') (hlk':k'.owns=true→loc c b k'=c.ρ b) (hg':jO k'=0:=by rfl) :
    Ctx.Le c w c (w.putObj (c.ρ b) o')∧WRel base w0 c (w.putObj (c.ρ b) o') (H.set b k'):=by
  have hlt:c.ρ b<w.heap.size:=(Array.getElem?_eq_some_iff.1 hg).1
  have hle:Ctx.Le c w c (w.putObj (c.ρ b) o'):=by
    refine ⟨fun _ h=>h,fun _ _=>rfl,fun _=>Nat.le_refl _,fun _ h=>h,fun _ _=>Nat.le_refl _,fun _ _ _ _=>⟨rfl,rfl⟩,?_,?_,fun _ _=>⟨Nat.le_refl _,fun _ _=>rfl⟩⟩
    · intro bk x _
      by_cases hbk:bk=c.ρ b
      · subst hbk
        have h1:(w.putObj (c.ρ b) o').heap[c.ρ b]? = some o':=World.putObj_heap_same hlt
        unfold World.cell?
        simp only [h1,hg]
        cases o <;> cases o' <;> first | rfl | exact absurd rfl (hnc _ _ _) | exact absurd rfl (hnc' _ _ _)
      · unfold World.cell?
        simp only [World.putObj_heap_other hbk]
    · rintro bk x ⟨cur,t,fr,hh,hx⟩
      have hbk:bk≠c.ρ b:=by
        intro e; subst e
        rw [hg] at hh
        simp at hh
        exact hnc _ _ _ hh
      exact ⟨cur,t,fr,by rw [World.putObj_heap_other hbk]; exact hh,hx⟩
  have hkl:k.isLive=true:=by cases k <;> simp [ABlk.owns,ABlk.isLive] at *
  refine ⟨hle,h.upd hle b (c.ρ b) k k' h0 (.inr ⟨ho,hlk.symm⟩) rfl rfl ⟨rfl,Nat.le_refl _⟩ (by simp) (fun i _ hi=>World.putObj_heap_other hi) (fun _ _=>rfl) (fun i hi=>h.hi i (by simpa using hi)) (fun _ _=>⟨rfl,rfl,rfl,rfl⟩) ?_ ?_ (hb hle) hlk' hg'⟩
  · rw [h.live b,h0]; simp [hkl,hlv]
  · rw [h.tl b,h0]; simp [htl0,htl]
theorem WRel.setLoop (h:WRel base w0 c w H) {b:Nat} {l:ALoop} (h0:H[b]? = some (.loop l)) (st:LoopState) (pd:Option Code) :
    ∃ r,w.heap[c.ρ b]? = some (.loop r)∧r.state=l.state∧r.pending=l.pending∧∀ r':Loop,r'={ r with state:=st,pending:=pd } →
      Ctx.Le c w c (w.putObj (c.ρ b) (.loop r'))∧WRel base w0 c (w.putObj (c.ρ b) (.loop r')) (H.set b (.loop { l with state:=st,pending:=pd })):=by
  obtain ⟨h1,h2,us,h3,h4⟩:=h.blk b _ h0
  refine ⟨_,h3,rfl,rfl,fun r' hr'=>?_⟩
  subst hr'
  have hlt:c.ρ b<w.heap.size:=(Array.getElem?_eq_some_iff.1 h3).1
  refine h.putObj h0 rfl rfl h3 (by simp) (by simp) rfl rfl rfl (fun hle=>⟨h1,h2,us,?_,Rels.mono hle h4⟩) (fun _=>rfl)
  exact World.putObj_heap_same hlt
def jaa (todo:List Item) (jump:Option Code):Prop :=
  (jump=none∧todo=[])∨(jump=some .ret∧∃ k,todo=.code .ret :: k)∨(∃ id k,jump=some (.exit id)∧todo=.code (.exit id) :: k∧exitTo id k=none) ∨
    (∃ l k,jump=some (.goto l)∧todo=.code (.goto l) :: k∧gotoIn l k=none)
theorem jes {fr:Frame} {cs:List Frame} (hm:fr.mode=.run) (hr:fr.roundOf=none) (h:fr.todo=[]∨∃ k,fr.todo=.code .ret :: k) :
    step cf.P (lone fr cs w)=.next (lone { fr with mode:=.returning } cs w):=by
  refine step_lone_go ?_
  rcases h with h | ⟨k,h⟩ <;> simp [stepG,stepG.exec,hm,hr,h]
theorem jci {fr f:Frame} {cs:List Frame} {jump:Option Code} {l:Nat} {v:Value} {w':World} (hm:fr.mode=.run) (hk:fr.kind=.normal) (hr:fr.roundOf=some l) (h:jaa fr.todo jump)
    (he:(Instr.endRound l jump).run cf.P w=.ok v w') :
    step cf.P (lone fr (f :: cs) w)=.next (lone (f.finish v) cs w'):=by
  refine step_lone_go ?_
  rcases h with ⟨rfl,h⟩ | ⟨rfl,k,h⟩ | ⟨id,k,rfl,h,hx⟩ | ⟨id,k,rfl,h,hx⟩
  · simp [stepG,stepG.exec,hm,hr,h,hk,Sem.runT_eq,he,doReturn]
  · simp [stepG,stepG.exec,hm,hr,h,hk,Sem.runT_eq,he,doReturn]
  · simp [stepG,stepG.exec,hm,hr,h,hk,hx,Sem.runT_eq,he,doReturn]
  · simp [stepG,stepG.exec,hm,hr,h,hk,hx,Sem.runT_eq,he,doReturn]
theorem zo {s s':ASt} {fr:Frame} {frs:List Frame} (hs:SRel cf base w0 c w s fr frs) (hret:s.fr.ret=false) {jump:Option Code} (hf:jaa fr.todo jump)
    {ds ds':List Dec} {ps:List PC} (h:yp s jump ds=some (s',ds',ps)) :
    ∃ c' w' fr' frs',SRel cf base w0 c' w' s' fr' frs'∧Steps cf.P (lone fr (frs++cs0) w) (lone fr' (frs'++cs0) w'):=by
  obtain ⟨hfr,hfrs,hm,hgl⟩:=hs
  have hmode:fr.mode=.run:=by rw [hfr.mode,hret]; rfl
  have hro:=hfr.ro
  unfold yp at h
  split at h
  · rename_i hr0
    rw [hr0] at hro
    have hro:fr.roundOf=none:=hro
    have hform:fr.todo=[]∨∃ k,fr.todo=.code .ret :: k:=by
      rcases hf with ⟨rfl,hh⟩ | ⟨rfl,k,hh⟩ | ⟨id,k,rfl,hh,hx⟩ | ⟨id,k,rfl,hh,hx⟩
      · exact .inl hh
      · exact .inr ⟨k,hh⟩
      · simp at h
      · simp at h
    have hs':s'=⟨{ s.fr with ret:=true },s.cs,s.H⟩:=by
      split at h <;> simp at h
      · exact h.1.symm
      · exact h.1.symm
    subst hs'
    exact ⟨c,w,{ fr with mode:=.returning },frs,⟨⟨hfr.fn,hfr.tmps,hfr.todo,hfr.defers,rfl,hfr.kind,hfr.ro⟩,hfrs,hm,hgl⟩,.one (jes (cf:=cf) hmode hro hform)⟩
  · rename_i b hb
    rw [hb] at hro
    obtain ⟨hlv,hro⟩:=hro
    split at h
    · rename_i f cs l hcs hbl
      split at h
      · rename_i f' hfin
        simp only [Option.some.injEq,Prod.mk.injEq] at h
        obtain ⟨rfl,_,_⟩:=h
        rw [hcs] at hfrs
        obtain ⟨y,ys,rfl,hy,hys⟩:=hfrs
        obtain ⟨r,hg,hst,hpd,hset⟩:=hm.setLoop hbl (if jump.isNone then .ready else .done) jump
        obtain ⟨hle,hm'⟩:=hset _ rfl
        have hend:=run_endRound (P:=cf.P) jump hg
        have hstep:=jci (cf:=cf) (f:=y) (cs:=ys++cs0) hmode hfr.kind hro hf hend
        exact ⟨c,_,_,ys,⟨Y7 (FRel.mono hle (hy.fin hfin)) (qG rfl) hfin,FRels.mono hle hys,hm',GK.mono hle hgl⟩,.one hstep⟩
      · simp at h
    · simp at h
theorem jgL {s:ASt} {fr:Frame} {frs:List Frame} (hs:SRel cf base w0 c w s fr frs) (hret:s.fr.ret=false) {todo:List AItem} {l l':List Item} (hl:fr.todo=l) (hrel:IRels c todo l')
    (hstep:step cf.P (lone (fr.atR { tmps:=fr.tmps,defers:=fr.defers } l) (frs++cs0) w)=.next (lone (fr.atR { tmps:=fr.tmps,defers:=fr.defers } l') (frs++cs0) w)) :
    ∃ c' w' fr' frs',SRel cf base w0 c' w' ⟨{ s.fr with todo:=todo },s.cs,s.H⟩ fr' frs'∧Steps cf.P (lone fr (frs++cs0) w) (lone fr' (frs'++cs0) w'):=by
  obtain ⟨hfr,hfrs,hm,hgl⟩:=hs
  have hmode:fr.mode=.run:=by rw [hfr.mode,hret]; rfl
  have he:=JT hmode
  rw [hl] at he
  rw [← he] at hstep
  exact ⟨c,w,fr.atR { tmps:=fr.tmps,defers:=fr.defers } l',frs,⟨⟨hfr.fn,hfr.tmps,hrel,hfr.defers,by simp [Frame.atR,hret],hfr.kind,hfr.ro⟩,hfrs,hm,hgl⟩,.one hstep⟩
theorem JW {s s':ASt} {todo:List AItem} {ds ds':List Dec} {ps:List PC} (h:toA s todo ds=some (s',ds',ps)):s'=⟨{ s.fr with todo:=todo },s.cs,s.H⟩:=by
  unfold toA at h
  simp at h
  exact h.1.symm
theorem jtX (H:List ABlk) (x y:ABlk):((H++List.replicate 2 ABlk.gone).set H.length x).set (H.length+1) y=H++[x,y]:=by
  simp [List.replicate_succ,List.set_append]
theorem jvd (H:List ABlk) (x:ABlk):(H++List.replicate 1 ABlk.gone).set H.length x=H++[x]:=by
  simp
theorem jbi {a:Act} {f:Operand} {l g:Nat} {us vs:List Value} (hf:a.eval f=.func (.func g) us.toArray vs.toArray) (w:World) :
    (resolve a.eval (rangeCall f l) 0).run cf.P w=.ok { target:=.fn (.func g) vs.toArray,args:=us.toArray++#[Value.func (.yield l) #[] #[]] } w:=by
  simp only [resolve,hf,Deferred.ofValue,Sem.run_pure]
  simp [Act.eval]
theorem jgB {s s':ASt} {fr:Frame} {frs:List Frame} (hs:SRel cf base w0 c w s fr frs) (hret:s.fr.ret=false) {f:Operand} {ps:Array Tmp} {as bd:Code} {k:List AItem} {todo:List Item}
    (htodo:fr.todo=.code (.rangeFunc f ps as bd) :: todo) (hk:IRels c k todo) {ds ds':List Dec} {pcs:List PC} (h:jeW cf s f ps as bd k ds=some (s',ds',pcs)) :
    ∃ c' w' fr' frs',SRel cf base w0 c' w' s' fr' frs'∧Steps cf.P (lone fr (frs++cs0) w) (lone fr' (frs'++cs0) w'):=by
  obtain ⟨hfr,hfrs,hm,hgl⟩:=hs
  have hmode:fr.mode=.run:=by rw [hfr.mode,hret]; rfl
  have he:=JT hmode
  rw [htodo] at he
  have hro:=hfr.ro
  have key:∀ (c':Ctx) (w':World) (H':List ABlk) (b:Nat) (defers:List Nat) (mark:List Deferred),Ctx.Le c w c' w'→WRel base (w0.on cf) c' w' H'→c'.live b=true→DRel c' defers (mark++fr.defers) →
      (Instr.enterLoop fr.fn fr.tmps ps as bd fr.roundOf).run cf.P w=.ok (c'.ρ b,mark) w' →
      (match kC (evA cf s.fr.tmps f) with
        | none=>none
        | some (g,fs,cs)=>match ka cf.P g (fs++[.yl b]++cs) with
          | some fr=>some ((⟨fr,{ s.fr with todo:=.inRng b :: k,defers:=defers } :: s.cs,H'⟩:ASt),ds,([]:List PC))
          | none=>none)=some (s',ds',pcs) →
      ∃ c' w' fr' frs',SRel cf base w0 c' w' s' fr' frs'∧Steps cf.P (lone fr (frs++cs0) w) (lone fr' (frs'++cs0) w'):=by
    intro c' w' H' b defers mark hle hm' hlv hd hel h
    split at h
    · simp at h
    · rename_i g fs cs hc
      split at h
      · rename_i a ha
        simp only [Option.some.injEq,Prod.mk.injEq] at h
        obtain ⟨rfl,_,_⟩:=h
        have hev:=Rel.mono hle (Qe (cf:=cf) hfr.tmps hgl fr.defers f)
        obtain ⟨us,vs,hu,h1,h2⟩:=KY hev hc
        have hargs:=(h1.append (Rels.cons (show Rel c' w' (.yl b) (.func (.yield (c'.ρ b)) #[] #[]) by unfold Rel; exact ⟨hlv,rfl⟩) Rels.nil)).append h2
        obtain ⟨hfa,hrun⟩:=KE hgl.2.1 ha hargs
        have hstep:=stepR_rangeFunc (P:=cf.P) (b:=fr) (a:={ tmps:=fr.tmps,defers:=fr.defers }) (k:=todo) (cs:=frs++cs0) hel (jbi hu w') (by
          have hargs':us.toArray++#[Value.func (.yield (c'.ρ b)) #[] #[]]++vs.toArray=(us++[Value.func (.yield (c'.ρ b)) #[] #[]]++vs).toArray:=by
            apply Array.ext'; simp
          simp only [invoke,hargs']
          exact hrun w')
        rw [← he] at hstep
        refine ⟨c',w',_,_ :: frs,⟨hfa,⟨_,frs,rfl,?_,FRels.mono hle hfrs⟩,hm',GK.mono hle hgl⟩,.one hstep⟩
        exact FRel.toC ⟨hfr.fn,Rels.mono hle hfr.tmps,IRels.cons ⟨hlv,rfl⟩ (IRels.mono hle hk),hd,by simp [Frame.atR,hret],hfr.kind,RoRel.mono hle hro⟩
      · simp at h
  unfold jeW at h
  simp only at h
  split at h
  · simp at h
  rename_i H' b' defers' hr
  cases hr0:s.fr.roundOf with
  | none =>
    rw [hr0] at hr hro
    have hro:fr.roundOf=none:=hro
    simp only [Option.some.injEq,Prod.mk.injEq] at hr
    obtain ⟨rfl,rfl,rfl⟩:=hr
    have hm1:=hm.push 2
    have hnm:(s.H++List.replicate 2 ABlk.gone)[s.H.length]? = some .gone:=by simp
    have ha:=hm1.alloc hnm (.deferred (some [])) 0 0 .defd rfl (by
      refine ⟨by simp [Ctx.new,hm.le],?_⟩
      simp only [Ctx.new,jz]
      exact heap_alloc_new w _)
    obtain ⟨hle1,hm2⟩:=ha
    have hnm2:((s.H++List.replicate 2 ABlk.gone).set s.H.length .defd)[s.H.length+1]? = some .gone:=by
      rw [List.getElem?_set_ne (by omega)]; simp
    have hle2':=hm2.le_new (kR hm2 hnm2) (.loop { state:=.ready,pending:=none,fn:=fr.fn,tmps:=fr.tmps,params:=ps,assign:=as,body:=bd,defers:=w.heap.size }) 0 0 false
    have hlv0:(c.new s.H.length w.heap.size 0 0 ABlk.defd.isTail).live s.H.length=true:=by simp [Ctx.new]
    have hb:=hm2.alloc hnm2 (.loop { state:=.ready,pending:=none,fn:=fr.fn,tmps:=fr.tmps,params:=ps,assign:=as,body:=bd,defers:=w.heap.size }) 0 0
      (.loop { state:=.ready,pending:=none,fn:=s.fr.fn,tmps:=s.fr.tmps,params:=ps,assign:=as,body:=bd,defers:=s.H.length }) rfl (by
        refine ⟨by simp [Ctx.new]; have:=hm.le; omega,hle2'.live _ hlv0,fr.tmps.toList,?_,Rels.mono hle2' (Rels.mono hle1 hfr.tmps)⟩
        have hρ:=hle2'.ρ _ hlv0
        simp only [ABlk.isTail] at hρ ⊢
        rw [hρ]
        simp only [Ctx.new,jz]
        rw [hfr.fn]
        exact heap_alloc_new _ _)
    obtain ⟨hle2,hm3⟩:=hb
    rw [jtX] at hm3
    refine key _ _ _ (s.H.length+1) _ [{ target:=.collected w.heap.size,args:=#[] }] (hle1.trans hle2) hm3 (by simp [Ctx.new]) ?_ ?_ h
    · refine ⟨?_,?_⟩
      · intro d hd
        rcases List.mem_cons.1 hd with rfl | hd
        · exact hle2.live _ hlv0
        · exact hle2.live _ (hle1.live _ (hfr.defers.1 d hd))
      · simp only [List.map_cons]
        rw [hle2.ρ _ hlv0]
        have:=(DRel.mono (hle1.trans hle2) hfr.defers).2
        rw [← this]
        simp [Ctx.new]
    · rw [hro,run_enterLoop_outer]
      simp [Ctx.new]
  | some b0 =>
    rw [hr0] at hr hro
    obtain ⟨hlv0,hro⟩:=hro
    simp only at hr
    cases hbl:s.H[b0]? with
    | none=>rw [hbl] at hr; simp at hr
    | some kk =>
      rw [hbl] at hr
      cases kk with
      | loop l =>
        simp only [Option.some.injEq,Prod.mk.injEq] at hr
        obtain ⟨rfl,rfl,rfl⟩:=hr
        obtain ⟨hb1,hb2,us,hb3,hb4⟩:=hm.blk b0 _ hbl
        have hm1:=hm.push 1
        have hnm:(s.H++List.replicate 1 ABlk.gone)[s.H.length]? = some .gone:=by simp
        have hle1':=hm1.le_new (kR hm1 hnm) (.loop { state:=.ready,pending:=none,fn:=fr.fn,tmps:=fr.tmps,params:=ps,assign:=as,body:=bd,defers:=c.ρ l.defers }) 0 0 false
        have hb:=hm1.alloc hnm (.loop { state:=.ready,pending:=none,fn:=fr.fn,tmps:=fr.tmps,params:=ps,assign:=as,body:=bd,defers:=c.ρ l.defers }) 0 0
          (.loop { state:=.ready,pending:=none,fn:=s.fr.fn,tmps:=s.fr.tmps,params:=ps,assign:=as,body:=bd,defers:=l.defers }) rfl (by
            refine ⟨by simp [Ctx.new,hm.le],hle1'.live _ hb2,fr.tmps.toList,?_,Rels.mono hle1' hfr.tmps⟩
            have hρ:=hle1'.ρ _ hb2
            simp only [ABlk.isTail] at hρ ⊢
            rw [hρ]
            simp only [Ctx.new,jz]
            rw [hfr.fn]
            exact heap_alloc_new _ _)
        obtain ⟨hle1,hm2⟩:=hb
        rw [jvd] at hm2
        refine key _ _ _ s.H.length _ [] hle1 hm2 (by simp [Ctx.new]) ?_ ?_ h
        · simpa using DRel.mono hle1 hfr.defers
        · rw [hro,run_enterLoop_inner hb3]
          simp [Ctx.new]
      | _=>simp at hr
theorem jdW {ops:Array Oper} {draw:Bool} {lo:Nat} {is:List Nat} (h:RegOk ops draw lo is) (he:lo=ops.size):is=[]:=by
  subst he
  unfold RegOk at h
  split at h
  · cases is with
    | nil=>rfl
    | cons i is=>have:=(h.mem i).1 (List.mem_cons_self ..); omega
  · simpa using h
theorem jcv {s s':ASt} (hret:s.fr.ret=false) {ops:Array Oper} {lo:Nat} {k:List AItem} {ds ds1 ds':List Dec} {ps:List PC} {n:Nat} {T0:List AV} {H0:List ABlk} {nm0:Nat} {rs:List Rec} {T:List AV} {H1:List ABlk}
    (hseg:QN cf ops n lo T0 H0 nm0 ds=some (rs,T,H1,ds1)) (hdec:KN ops=true) (hchk:Zd ops lo rs=true) {is:List Nat} (his:LinExt ops lo is) {fr:Frame} {frs:List Frame}
    (hmid:Mid cf base w0 c w s.fr s.cs k T0 H0 ops is fr frs) (hr:Zt cf s ops lo (lo+rs.length) k rs T H1 ds1=some (s',ds',ps)) (hall:AllP ps→∀ r ∈ rs,AllP r.eff.pcs) (hp:AllP ps) :
    ∃ c' w' fr' frs',SRel cf base w0 c' w' s' fr' frs'∧Steps cf.P (lone fr (frs++cs0) w) (lone fr' (frs'++cs0) w'):=by
  obtain ⟨hi,hhi0⟩:∃ hi,hi=lo+rs.length:=⟨_,rfl⟩
  rw [← hhi0] at hr
  unfold Zt at hr
  simp only at hr
  split at hr
  · rename_i hB
    simp only [Bool.and_eq_true] at hB
    obtain ⟨⟨hch,hbe⟩,hso⟩:=hB
    split at hr
    · simp at hr
    · rename_i o ho
      have hhi:hi<ops.size:=(Array.getElem?_eq_some_iff.1 ho).1
      split at hr
      · simp at hr
      · rename_i hgu
        split at hr
        · rename_i f args hop
          split at hr
          · rename_i g fs cs ds2 hcal
            split at hr
            · rename_i a hen
              simp only [Option.some.injEq,Prod.mk.injEq] at hr
              obtain ⟨rfl,rfl,rfl⟩:=hr
              have hmemhi:hi ∈ is:=(his.mem hi).2 ⟨by omega,hhi⟩
              obtain ⟨σ,rest,rfl⟩:=List.append_of_mem hmemhi
              have hnd:=List.nodup_append.1 his.nodup
              have hhs:hi ∉ σ:=fun hh=>hnd.2.2 hi hh hi (by simp) rfl
              have hσ:∀ i ∈ σ,lo≤i∧i<hi:=by
                intro i hi'
                have h1:=(his.mem i).1 (by simp [hi'])
                refine ⟨h1.1,?_⟩
                apply Classical.byContradiction
                intro hn
                by_cases he:i=hi
                · subst he; exact hhs hi'
                · exact hhs (YA hdec his (by omega) h1.2 (ZF hbe (by omega) h1.2).1 hi')
              have hnl:∀ j,lo≤j→j<hi→j ∉ JV ops lo hi→j ∈ σ:=by
                intro j h1 h2 h3
                have ha:yq ops j hi=true:=by
                  cases ha:yq ops j hi with
                  | true=>rfl
                  | false=>exact absurd (KI.2 ⟨h1,h2,ha⟩) h3
                have:=YA hdec (p:=σ++[hi]) (q:=rest) (by simpa using his) h1 hhi ha (by simp)
                simp only [List.mem_append,List.mem_singleton] at this
                rcases this with h4 | h4
                · exact h4
                · omega
              obtain ⟨d,hd1,hd2⟩:=ZS (σ:=σ) (lo:=lo) (fun u v h1 h2 h3=>YA hdec his h1 ((his.mem v).1 (by simp [h3])).2 h2 h3) (fun u hu=>(KI.1 hu).1) hch
              obtain ⟨c',w',fr',T1,H2,e1,e2,e3,hmid',hsteps⟩:=jfz (cs0:=cs0) hseg hdec hchk (hall hp) hnd.1 (fun i hi'=>by have:=hσ i hi'; omega) (fun p j q hpj e he=>by
                rcases his.order p j (q++hi :: rest) (by rw [hpj]; simp) e he with h1 | h1
                · exact .inl h1
                · exact .inr h1) (rest:=hi :: rest) hmid
              obtain ⟨Tc,Hc,_,_,_,_,_,hrec⟩:=QU hseg
              have hrd:∀ m r t,rs[m]? = some r→r.dst=some t→JM ops (lo+m)=some t∧m<rs.length:=by
                intro m r t hm hd
                obtain ⟨o',ho',hd',_⟩:=hrec m r hm
                refine ⟨?_,(List.getElem?_eq_some_iff.1 hm).1⟩
                unfold JM
                rw [ho',Option.bind_some,← hd',hd]
              have hH:H2=H1:=e3 fun m r hm=>by
                have hml:=(List.getElem?_eq_some_iff.1 hm).1
                by_cases hu:lo+m ∈ JV ops lo hi
                · obtain ⟨⟨r',hr',hw'⟩,_⟩:=gQ hso hu
                  rw [show lo+m - lo=m by omega,hm] at hr'
                  cases hr'
                  exact .inr hw'
                · exact .inl (hnl _ (by omega) (by omega) hu)
              subst hH
              obtain ⟨⟨todo',ht',hk'⟩,h2,h3,h4,h5,h6,h7,h8,h9,h10⟩:=hmid'
              have hX:∀ e,(∀ u ∈ (JV ops lo hi).take e,u ∈ σ)→Rels c' w' (Jh ops (Jh ops T ((JV ops lo hi).map fun u=>(u,AV.any))) (((JV ops lo hi).map fun u=>(u,match JM ops u with
                  | some d=>T.getD d .any
                  | none=>.any)).take e)) fr'.tmps.toList:=by
                intro e he
                refine Rels.weak h2 (by rw [ky,ky,e1]) ?_
                intro t
                by_cases htl:t<T.length
                · by_cases hA : ∃ x ∈ ((JV ops lo hi).map fun u => (u, match JM ops u with
                      | some d=>T.getD d .any
                      | none=>.any)).take e,JM ops x.1=some t
                  · obtain ⟨x,hx,hxd,hXt⟩:=yj (T:=Jh ops T ((JV ops lo hi).map fun u=>(u,AV.any))) hA (by rw [ky]; exact htl)
                    rw [hXt]
                    rw [← List.map_take] at hx
                    obtain ⟨u,hu,rfl⟩:=List.mem_map.1 hx
                    have huσ:=he u hu
                    have hul:=List.mem_of_mem_take hu
                    simp only at hxd ⊢
                    rw [hxd]
                    left
                    rw [e2 t ?_]
                    · simp [List.getElem?_eq_getElem htl]
                    · intro m r hm hdm
                      obtain ⟨q1,q2⟩:=hrd m r t hm hdm
                      obtain ⟨_,d',hd',hu'⟩:=gQ hso hul
                      rw [hxd] at hd'
                      cases hd'
                      rw [hu' (lo+m) (by omega) (by omega) q1]
                      exact huσ
                  · rw [qV (fun x hx hxd=>hA ⟨x,hx,hxd⟩)]
                    by_cases hC:∃ u ∈ JV ops lo hi,JM ops u=some t
                    · obtain ⟨u,hu,hud⟩:=hC
                      obtain ⟨x,hx,_,hXt⟩:=yj (ops:=ops) (T:=T) (l:=(JV ops lo hi).map fun u=>(u,AV.any)) (t:=t) ⟨(u,AV.any),List.mem_map.2 ⟨u,hu,rfl⟩,hud⟩ htl
                      obtain ⟨u',_,rfl⟩:=List.mem_map.1 hx
                      exact .inr hXt
                    · left
                      rw [qV (fun x hx hxd=>by
                        obtain ⟨u,hu,rfl⟩:=List.mem_map.1 hx
                        exact hC ⟨u,hu,hxd⟩)]
                      refine (e2 t ?_).symm
                      intro m r hm hdm
                      obtain ⟨q1,q2⟩:=hrd m r t hm hdm
                      exact hnl _ (by omega) (by omega) (fun hu=>hC ⟨_,hu,q1⟩)
                · left
                  rw [List.getElem?_eq_none (by rw [ky,ky]; omega),List.getElem?_eq_none (by omega)]
              have hT':=hX 0 (by simp)
              simp only [List.take_zero,Jh] at hT'
              have hev:=Qe (cf:=cf) hT' h10 fr'.defers
              obtain ⟨as,ts,hoo,hargs⟩:=Kg hop
              have hndf:=gT hop
              have hargsR:=zy hev args
              obtain ⟨us,vs,hfe,hfs,hcs⟩:=KY (hev f) hcal
              have hallR:=(hfs.append hargsR).append hcs
              have hrun0:=K8 (P:=cf.P) (av:=(({ tmps:=fr'.tmps,defers:=fr'.defers }:Act).eval)) hoo hfe w'
              rw [← hargs] at hrun0
              obtain ⟨q1,q2⟩:=KE h10.2.1 hen hallR
              have hw:Region.wanted o (yielded ops fr'.tmps)=true:=by unfold Region.wanted; rw [hgu]
              have hst:=JQ (cf:=cf) (frs:=frs++cs0) h5 ht' ho hw hndf (hrun0.trans (q2 w'))
              have hrest:∀ q ∈ rest,q ∉ (JV ops lo hi).drop d→hi<q∧q<ops.size:=by
                intro q hq hqn
                have hm:=(his.mem q).1 (by simp [hq])
                refine ⟨?_,hm.2⟩
                apply Classical.byContradiction
                intro hn
                have hqh:q≠hi:=by
                  intro he; subst he
                  exact (List.nodup_cons.1 hnd.2.1).1 hq
                have hqs:q ∉ σ:=fun hh=>hnd.2.2 q hh q (by simp [hq]) rfl
                by_cases hql:q ∈ JV ops lo hi
                · rw [← List.take_append_drop d (JV ops lo hi)] at hql
                  rcases List.mem_append.1 hql with h1 | h1
                  · exact hqs (hd1 q h1)
                  · exact hqn h1
                · exact hqs (hnl q hm.1 (by omega) hql)
              obtain ⟨is2,rfl⟩:=jc5 hdec (pre:=σ++[hi]) (L:=rest) (ps:=(JV ops lo hi).drop d) (by simpa using his) (fun p hpd=>by
                have h1:=KI.1 (List.mem_of_mem_drop hpd)
                refine ⟨h1.1,?_⟩
                have h2:=(his.mem p).2 ⟨h1.1,by omega⟩
                simp only [List.mem_append,List.mem_cons] at h2
                rcases h2 with h2 | h2 | h2
                · exact absurd h2 (hd2 p hpd)
                · omega
                · exact h2) (Yh d hch) (lateOf_nodup.sublist (List.drop_sublist _ _)) (fun q hq hqn p hpd=>by
                obtain ⟨h1,h2⟩:=hrest q hq hqn
                exact (ZF hbe h1 h2).2 p (List.mem_of_mem_drop hpd))
              have hndr:=List.nodup_append.1 (List.nodup_cons.1 hnd.2.1).2
              have hlin:LinExt ops (hi+1) is2:=by
                refine ⟨hndr.2.1,?_,?_⟩
                · intro i
                  constructor
                  · intro hi'
                    have:=hrest i (by simp [hi']) (fun hh=>hndr.2.2 i hh i hi' rfl)
                    omega
                  · rintro ⟨h1,h2⟩
                    have h3:=(his.mem i).2 ⟨by omega,h2⟩
                    simp only [List.mem_append,List.mem_cons] at h3
                    rcases h3 with h3 | h3 | h3 | h3
                    · have:=hσ i h3; omega
                    · omega
                    · have:=(KI.1 (List.mem_of_mem_drop h3)).2.1; omega
                    · exact h3
                · intro p j q hpj e he
                  have:=his.order (σ++hi :: ((JV ops lo hi).drop d++p)) j q (by rw [hpj]; simp) e he
                  simp only [List.mem_append,List.mem_cons] at this
                  rcases this with h1 | h1 | h1 | h1 | h1
                  · left; omega
                  · have:=hσ e h1; left; omega
                  · left; omega
                  · have:=(KI.1 (List.mem_of_mem_drop h1)).2.1; left; omega
                  · exact .inr h1
              refine ⟨c',w',_,fr' :: frs,⟨q1,⟨fr',frs,rfl,⟨d,?_⟩,h8⟩,h9.dropGone,h10⟩,hsteps.trans (.one hst)⟩
              refine ⟨h3,hX d hd1,?_,h4,by simp [KP,hret,h5],h6,h7⟩
              rw [ht']
              refine IRels.cons ⟨is2,?_,hlin⟩ hk'
              simp [List.map_drop,Function.comp_def]
            · simp at hr
          · simp at hr
        · simp at hr
  · simp at hr
theorem jeq {s s':ASt} (hret:s.fr.ret=false) {ops:Array Oper} {lo:Nat} {k:List AItem} (hst:s.fr.todo=.reg ops true lo :: k) {ds ds':List Dec} {ps:List PC}
    (hr:jbB cf s ops lo k ds=some (s',ds',ps)) (hp:AllP ps):Reach cf base w0 cs0 s s':=by
  intro c w fr frs hs
  obtain ⟨hfr,hfrs,hm,hgl⟩:=hs
  have hmode:fr.mode=.run:=by rw [hfr.mode,hret]; rfl
  have htd:=hfr.todo
  rw [hst] at htd
  obtain ⟨y,todo,htodo,⟨is,rfl,his⟩,hk⟩:=htd
  have his:LinExt ops lo is:=by simpa [RegOk] using his
  unfold jbB at hr
  split at hr
  · simp at hr
  · rename_i rs T H1 ds1 hseg
    split at hr
    · rename_i hchk
      simp only [Bool.and_eq_true] at hchk
      obtain ⟨hchk,hdec⟩:=hchk
      simp only at hr
      have hall:∀ {qs:List PC},AllP ((rs.flatMap fun r=>r.eff.pcs)++qs)→(∀ r ∈ rs,AllP r.eff.pcs)∧AllP qs:=by
        intro qs hq
        obtain ⟨h1,h2⟩:=AllP.append hq
        refine ⟨?_,h2⟩
        clear h2 hq hseg hchk hr
        induction rs with
        | nil=>intro r hr; simp at hr
        | cons r rs ih =>
          intro x hx
          simp only [List.flatMap_cons] at h1
          obtain ⟨h3,h4⟩:=AllP.append h1
          rcases List.mem_cons.1 hx with rfl | hx
          · exact h3
          · exact ih h4 x hx
      have hmid:∀ l,is=l→Mid cf base w0 c w s.fr s.cs k s.fr.tmps (s.H++List.replicate (ops.size - lo) .gone) ops l fr frs:=by
        intro l hl
        subst hl
        exact ⟨⟨todo,htodo,hk⟩,hfr.tmps,hfr.fn,hfr.defers,hmode,hfr.kind,hfr.ro,hfrs,hm.push _,hgl⟩
      split at hr
      · rename_i hhi
        have hhi:lo+rs.length=ops.size:=by simpa using hhi
        simp only [Option.some.injEq,Prod.mk.injEq] at hr
        obtain ⟨rfl,_,rfl⟩:=hr
        have hσ:SegOrd ops lo (lo+rs.length) is:=⟨his.nodup,by rw [hhi]; exact his.mem,his.order⟩
        obtain ⟨hp1,_⟩:=hall (qs:=[]) (by simpa using hp)
        obtain ⟨c',w',fr',hmid',hsteps⟩:=jfN (cs0:=cs0) hseg hdec hchk hp1 hσ (rest:=[]) (hmid _ (by simp))
        obtain ⟨⟨todo',ht',hk'⟩,h2,h3,h4,h5,h6,h7,h8,h9,h10⟩:=hmid'
        have he:=JT h5
        rw [ht'] at he
        have hstep:=stepR_region_end (P:=cf.P) (b:=fr') (a:={ tmps:=fr'.tmps,defers:=fr'.defers }) (k:=todo') (cs:=frs++cs0) (w:=w') (ops:=ops)
        rw [← he] at hstep
        exact ⟨c',w',fr'.atR { tmps:=fr'.tmps,defers:=fr'.defers } todo',frs,⟨⟨h3,h2,hk',h4,by simp [Frame.atR,hret],h6,h7⟩,h8,h9.dropGone,h10⟩,hsteps.trans (.one hstep)⟩
      · split at hr
        · rename_i hb
          split at hr
          · simp at hr
          · rename_i o ho
            have hhi:lo+rs.length<ops.size:=(Array.getElem?_eq_some_iff.1 ho).1
            split at hr
            · rename_i ds2 ps2 hg
              split at hr
              · rename_i f args hop
                obtain ⟨σ,is',rfl,hσ,hl1,hl2⟩:=jbI hdec (by omega) hhi hb his
                have hpp:AllP ((rs.flatMap fun r=>r.eff.pcs)++ps2):=by
                  unfold qf at hr
                  simp only at hr
                  repeat' split at hr
                  all_goals first
                    | (simp at hr; done)
                    | (simp only [Option.some.injEq,Prod.mk.injEq] at hr
                       obtain ⟨_,_,rfl⟩:=hr
                       first
                         | exact hp
                         | exact hp.2
                         | exact hp.2.2
                         | exact hp.2.2.2.2
                         | exact (AllP.append (AllP.append hp.2).2).2)
                obtain ⟨hp1,hp2⟩:=hall hpp
                obtain ⟨c',w',fr',hmid',hsteps⟩:=jfN (cs0:=cs0) hseg hdec hchk hp1 hσ (rest:=_ :: is') (hmid _ rfl)
                obtain ⟨⟨todo',ht',hk'⟩,h2,h3,h4,h5,h6,h7,h8,h9,h10⟩:=hmid'
                have hs1:SRel cf base w0 c' w' ⟨{ s.fr with tmps:=T,todo:=.reg ops true (lo+rs.length) :: k },s.cs,dropGone H1⟩ fr' frs :=
                  ⟨⟨h3,h2,by rw [ht']; exact IRels.cons ⟨_,rfl,by simpa [RegOk] using hl1⟩ hk',h4,by simp [hret,h5],h6,h7⟩,h8,h9.dropGone,h10⟩
                have hw:=Q7 h2 hg hp2
                have hcall:=yQ (cs0:=cs0) (s:=⟨{ s.fr with tmps:=T,todo:=.reg ops true (lo+rs.length) :: k },s.cs,dropGone H1⟩) hs1 hret ho ht' hk' (draw:=true) (by simpa [RegOk] using hl2) hw hop (s':=s') (ds:=ds2) (ds':=ds') (ps0:=(rs.flatMap fun r=>r.eff.pcs)++ps2) (ps:=ps) (by exact hr) hp
                obtain ⟨c'',w'',fr'',frs'',hs2,hst2⟩:=hcall
                exact ⟨c'',w'',fr'',frs'',hs2,hsteps.trans hst2⟩
              · simp at hr
            · simp at hr
        · refine jcv (cs0:=cs0) hret hseg hdec hchk his (hmid _ rfl) hr (fun hp=>?_) hp
          have hpp:AllP ((rs.flatMap fun r=>r.eff.pcs)++[]):=by
            rw [List.append_nil]
            unfold Zt at hr
            simp only at hr
            repeat' split at hr
            all_goals first
              | (simp at hr; done)
              | (simp only [Option.some.injEq,Prod.mk.injEq] at hr
                 obtain ⟨_,_,rfl⟩:=hr
                 exact hp)
          exact (hall hpp).1
    · simp at hr
end
end Go.Kv
