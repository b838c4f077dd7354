import Derived.Test.YtdelimpnnpifpaaGreatDoorKvR
set_option linter.all false
namespace Go.Kv
open Go Go.RowKit
section
variable {cf:Cfg} {base:Nat} {w0:Start} {cs0:List Frame}
theorem RegOk.start {ops:Array Oper} (hd:KN ops=true) (t:Nat):RegOk ops true 0 (Region.schedule true ops t):=by
 simp only [RegOk,if_true]
 exact Yp hd t
theorem jgn {s:ASt} (hret:s.fr.ret=false) {ops:Array Oper} {i:Nat} {o:Oper} {k:List AItem} (hst:s.fr.todo=.reg ops false i :: k) (ho:ops[i]? = some o) {cc:Option Nat}
  {ds ds':List Dec} {ps:List PC} {s':ASt} (hr:jev cf s ops i o k cc ds=some (s',ds',ps)) (hp:AllP ps):Reach cf base w0 cs0 s s':=by
 intro c w fr frs hs
 obtain ⟨hfr,hfrs,hm,hgl⟩:=hs
 have hmode:fr.mode=.run:=by rw [hfr.mode,hret]; rfl
 have htd:=hfr.todo
 rw [hst] at htd
 obtain ⟨y,todo,htodo,⟨is,rfl,his⟩,hk⟩:=htd
 obtain ⟨is',rfl,his'⟩:=y9 ho his
 unfold jev at hr
 split at hr
 ·rename_i e he
  split at hr
  ·rename_i hwr
   simp only [Option.some.injEq,Prod.mk.injEq] at hr
   obtain ⟨rfl,rfl,rfl⟩:=hr
   have hmid:Mid cf base w0 c w s.fr s.cs k s.fr.tmps (s.H++List.replicate 1 .gone) ops (i :: is') fr frs :=
    ⟨⟨todo,htodo,hk⟩,hfr.tmps,hfr.fn,hfr.defers,hmode,hfr.kind,hfr.ro,hfrs,hm.push 1,hgl⟩
   obtain ⟨c',w',fr',⟨⟨todo',m1,mk⟩,m2,m3,m4,m5,m6,m7,m8,m9,m10⟩,hsteps⟩:=Y4 (cs0:=cs0) hmid ho (nm:=s.H.length) (by simp) (gd:=none) (dc:=.sp cc) (by simpa using he) hp
   rw [hwr] at m9
   refine ⟨c',w',fr',frs,⟨⟨m3,m2,?_,m4,by simp [hret,m5],m6,m7⟩,m8,m9.unpush,m10⟩,hsteps⟩
   rw [m1]
   exact IRels.cons ⟨is',rfl,his'⟩ mk
  ·simp at hr
 ·simp at hr
theorem jh7 {c:Ctx} {w:World} {a b:AV} {u:Value} (h:jh6 a b=true) (hr:Rel c w a u):Rel c w b u:=by
 unfold jh6 at h
 split at h
 ·simp only [Bool.and_eq_true] at h
  have h1:=Nat.eq_of_beq_eq_true h.1
  have h2:=Nat.eq_of_beq_eq_true h.2
  subst h1; subst h2
  exact hr
 ·simp only [Bool.and_eq_true] at h
  obtain ⟨⟨⟨⟨h1,h2⟩,h3⟩,h4⟩,h5⟩:=h
  have h1:=Nat.eq_of_beq_eq_true h1
  have h2:=Array.eq_empty_of_size_eq_zero (Nat.eq_of_beq_eq_true h2)
  have h3:=Array.eq_empty_of_size_eq_zero (Nat.eq_of_beq_eq_true h3)
  have h4:=Array.eq_empty_of_size_eq_zero (Nat.eq_of_beq_eq_true h4)
  have h5:=Array.eq_empty_of_size_eq_zero (Nat.eq_of_beq_eq_true h5)
  subst h1; subst h2; subst h3; subst h4; subst h5
  exact hr
 ·simp at h
theorem jgJ {T:List AV} {d e:Option Tmp} {a b:AV} (h:∀ t,d=some t→e≠some t):setT (setT T d a) e b=setT (setT T e b) d a:=by
 cases d with
 | none=>rfl
 | some d =>
  cases e with
  | none=>rfl
  | some e =>
   simp only [setT]
   exact List.set_comm _ _ (fun he=>h d rfl (by rw [he]))
theorem Zp {ops:Array Oper} {H:List ABlk} {T:List AV} {di:Option Tmp} {v:AV} {f:AFrame} {cs:List AFrame} {k:List AItem} {frs:List Frame} :
  ∀ {us ys:List (Nat × AV)} {ps:List PC},Yx cf ops H T di v ys us=some ps→AllP ps→∀ {c:Ctx} {w:World} {fr:Frame} (d:Nat) {is:List Nat},
   Mid cf base w0 c w f cs k (setT (Jh ops T (ys++us.take d)) di v) H ops ((us.drop d).map (·.1)++is) fr frs →
   ∃ c' w' fr',Mid cf base w0 c' w' f cs k (setT (Jh ops T (ys++us)) di v) H ops is fr' frs∧Steps cf.P (lone fr (frs++cs0) w) (lone fr' (frs++cs0) w')
 | [],ys,ps,_,_,c,w,fr,d,is,h=>⟨c,w,fr,by simpa using h,Steps.refl _ _⟩
 | x :: us,ys,ps,hr,hp,c,w,fr,d,is,h=>by
  simp only [Yx] at hr
  split at hr
  ·rename_i o dd ho hd
   split at hr
   ·rename_i e he
    split at hr
    ·rename_i hwr
     split at hr
     ·rename_i hs
      rw [Bool.and_eq_true] at hs
      obtain ⟨hs,hne⟩:=hs
      split at hr
      ·rename_i ps' hrec
       simp only [Option.some.injEq] at hr; subst hr
       obtain ⟨hp1,hp2⟩:=AllP.append hp
       cases d with
       | succ d =>
        have h':Mid cf base w0 c w f cs k (setT (Jh ops T ((ys++[x])++us.take d)) di v) H ops ((us.drop d).map (·.1)++is) fr frs:=by simpa using h
        obtain ⟨c',w',fr',hm,hst⟩:=Zp hrec hp2 d h'
        exact ⟨c',w',fr',by simpa using hm,hst⟩
       | zero =>
        simp only [List.take_zero,List.append_nil,List.drop_zero,List.map_cons,List.cons_append] at h
        have hmem:=h.mem.push 1
        have h1:Mid cf base w0 c w f cs k (setT (Jh ops T ys) di v) (H++[ABlk.gone]) ops (x.1 :: (us.map (·.1)++is)) fr frs:={ h with mem:=hmem }
        obtain ⟨c1,w1,fr1,hm1,hst1⟩:=Y4 (cs0:=cs0) h1 ho (nm:=H.length) (by simp) he hp1
        have hdo:o.dst=some dd:=by
         unfold JM at hd
         rw [ho] at hd
         exact hd
        have hne':∀ t,di=some t→some dd≠some t:=by
         intro t ht he'
         subst ht
         cases he'
         simp [juy] at hne
        have hT:setT (setT (Jh ops T ys) di v) o.dst x.2=setT (Jh ops T (ys++[x])) di v:=by
         rw [hdo,ZE]
         simp only [Jh,hd]
         exact jgJ hne'
        have hmem1:=hm1.mem
        rw [hwr] at hmem1
        have h2:Mid cf base w0 c1 w1 f cs k (setT (Jh ops T ((ys++[x])++us.take 0)) di v) H ops ((us.drop 0).map (·.1)++is) fr1 frs:=by
         refine { hm1 with tmps:=?_,mem:=hmem1.unpush (n:=1) }
         rw [List.take_zero,List.append_nil,← hT]
         exact Zl hm1.tmps (fun u hu=>jh7 hs hu)
        obtain ⟨c',w',fr',hm,hst⟩:=Zp hrec hp2 0 h2
        exact ⟨c',w',fr',by simpa using hm,hst1.trans hst⟩
      ·simp at hr
     ·simp at hr
    ·simp at hr
   ·simp at hr
  ·simp at hr
theorem jdV {c:Ctx} {w:World} {f f':AFrame} {cs:List AFrame} {H:List ABlk} {v:AV} {u:Value} {fr y:Frame} {ys:List Frame} {ps:List PC} (hy:FRelC c w f y) (hys:FRels c w cs ys) (hm:WRel base (w0.on cf) c w H) (hgl:GK cf w c.φ) (hrel:Rel c w v u)
  (h:jbP cf H f v=some (f',ps)) (hp:AllP ps) (hst:step cf.P (lone fr (y :: (ys++cs0)) w)=.next (lone (y.finish u) (ys++cs0) w)) :
  ∃ c' w' fr' frs',SRel cf base w0 c' w' ⟨f',cs,H⟩ fr' frs'∧Steps cf.P (lone fr (y :: (ys++cs0)) w) (lone fr' (frs'++cs0) w'):=by
 unfold jbP at h
 split at h
 ·rename_i ops i us k htodo
  split at h
  ·rename_i qs hlr
   split at h
   ·rename_i hret
    simp only [Option.some.injEq,Prod.mk.injEq] at h
    obtain ⟨rfl,rfl⟩:=h
    obtain ⟨d,hy⟩:=hy
    have hlf:KP f d={ f with tmps:=Jh ops f.tmps (us.take d),todo:=.regD ops i ((us.drop d).map (·.1)) :: k }:=by
     unfold KP
     rw [htodo]
    rw [hlf] at hy
    obtain ⟨h1,h2,⟨z,zs,hz,⟨is,rfl,hlin⟩,hk⟩,h4,h5,h6,h7⟩:=hy
    have hfin:y.finish u={ y with tmps:=(({ tmps:=y.tmps,defers:=y.defers }:Act).put (JM ops i) u).tmps,todo:=.inRegion ops ((us.drop d).map (·.1)++is) :: zs }:=by
     unfold Frame.finish JM
     rw [hz]
     cases hd:(ops[i]?).bind (·.dst) <;> simp only [hd,Act.put]
    have hmode:y.mode=.run:=by
     rw [h5]
     simpa using hret
    have hmid:Mid cf base w0 c w f cs k (setT (Jh ops f.tmps ([]++us.take d)) (JM ops i) v) H ops ((us.drop d).map (·.1)++is) (y.finish u) ys:=by
     rw [hfin]
     exact ⟨⟨zs,rfl,hk⟩,zm h2 _ hrel _,h1,h4,hmode,h6,h7,hys,hm,hgl⟩
    obtain ⟨c',w',fr',⟨⟨todo',ht',hk'⟩,g2,g3,g4,g5,g6,g7,g8,g9,g10⟩,hsteps⟩:=Zp (cs0:=cs0) hlr hp d hmid
    refine ⟨c',w',fr',ys,⟨⟨g3,g2,?_,g4,?_,g6,g7⟩,g8,g9,g10⟩,.head hst hsteps⟩
    ·rw [ht']
     exact IRels.cons ⟨is,rfl,by simpa [RegOk] using hlin⟩ hk'
    ·rw [g5]
     simp only [Bool.not_eq_true'] at hret
     simp [hret]
   ·simp at h
  ·simp at h
 ·split at h
  ·rename_i f1 hf1
   simp only [Option.some.injEq,Prod.mk.injEq] at h
   obtain ⟨rfl,_⟩:=h
   exact ⟨c,w,_,ys,⟨Y7 (hy.fin hf1) hrel hf1,hys,hm,hgl⟩,.one hst⟩
  ·simp at h
theorem ji4 {s s':ASt} {ds ds':List Dec} {ps:List PC} (h:gG cf s ds=some (s',ds',ps)) (hp:AllP ps):Reach cf base w0 cs0 s s':=by
 unfold gG at h
 cases hret:s.fr.ret with
 | true =>
  rw [hret] at h
  simp only at h
  intro c w fr frs hs
  obtain ⟨hfr,hfrs,hm,hgl⟩:=hs
  have hmode:fr.mode=.returning:=by rw [hfr.mode,hret]; rfl
  have hdef:=hfr.defers
  split at h
  ·rename_i d rest hd
   rw [hd] at hdef
   split at h
   ·rename_i hbl
    simp only [Option.some.injEq,Prod.mk.injEq] at h
    obtain ⟨rfl,_,_⟩:=h
    obtain ⟨hb1,hb2⟩:=hm.blk d _ hbl
    obtain ⟨hle,hm'⟩:=hm.putObj hbl rfl rfl hb2 (o':=.deferred none) (k':=.dead) (by simp) (by simp) rfl rfl rfl (fun _=>trivial) (by simp [ABlk.owns])
    have hstep:step cf.P (lone fr (frs++cs0) w)=.next (lone { fr with defers:=rest.map fun d=>{ target:=.collected (c.ρ d),args:=#[] } } (frs++cs0) (w.putObj (c.ρ d) (.deferred none))):=by
     refine step_lone_go ?_
     have hdd:=hdef.2
     simp only [List.map_cons] at hdd
     simp [stepG,unwind,hmode,hdd,Sem.runT_eq,run_takeDeferred hb2]
    exact ⟨c,_,{ fr with defers:=rest.map fun d=>{ target:=.collected (c.ρ d),args:=#[] } },frs,⟨⟨hfr.fn,Rels.mono hle hfr.tmps,IRels.mono hle hfr.todo,⟨fun x hx=>hdef.1 x (List.mem_cons_of_mem _ hx),rfl⟩,by simp [hmode,hret],hfr.kind,hfr.ro⟩,FRels.mono hle hfrs,hm',GK.mono hle hgl⟩,.one hstep⟩
   ·simp at h
  ·rename_i hd
   rw [hd] at hdef
   have hdef:fr.defers=[]:=by simpa using hdef.2
   split at h
   ·rename_i f cs fn hcs hfn
    split at h
    ·rename_i v hv
     split at h
     ·rename_i f' qs hf'
      simp only [Option.some.injEq,Prod.mk.injEq] at h
      obtain ⟨rfl,_,rfl⟩:=h
      rw [hcs] at hfrs
      obtain ⟨y,ys,rfl,hy,hys⟩:=hfrs
      obtain ⟨u,hu,hrel⟩:=zP hm hfr.tmps hv
      have hl:fr.leaving cf.P w (.returned u):=⟨hmode,hdef,hfr.kind,fn,by rw [hfr.fn]; exact hfn,hu⟩
      exact jdV (cs0:=cs0) hy hys hm hgl hrel hf' hp (step_leave_returned hl)
     ·simp at h
    ·simp at h
   ·simp at h
 | false =>
  rw [hret] at h
  simp only at h
  cases htd:s.fr.todo with
  | nil =>
   rw [htd] at h
   intro c w fr frs hs
   have ht:=hs.fr.todo
   rw [htd] at ht
   have ht:fr.todo=[]:=ht
   exact zo hs hret (.inl ⟨rfl,ht⟩) h
  | cons it k =>
   rw [htd] at h
   have key:∀ (it:AItem) (todo':List AItem),s.fr.todo=it :: k→s'=⟨{ s.fr with todo:=todo' },s.cs,s.H⟩ →
     (∀ (c:Ctx) (w:World) (fr:Frame) (frs:List Frame) (y:Item) (ys:List Item),SRel cf base w0 c w s fr frs→fr.todo=y :: ys→IRel c it y→IRels c k ys→∃ l',IRels c todo' l' ∧
      step cf.P (lone (fr.atR { tmps:=fr.tmps,defers:=fr.defers } (y :: ys)) (frs++cs0) w)=.next (lone (fr.atR { tmps:=fr.tmps,defers:=fr.defers } l') (frs++cs0) w))→Reach cf base w0 cs0 s s':=by
    intro it todo' hit hs' hst c w fr frs hs
    have ht:=hs.fr.todo
    rw [hit] at ht
    obtain ⟨y,ys,hy,h1,h2⟩:=ht
    obtain ⟨l',h3,h4⟩:=hst c w fr frs y ys hs hy h1 h2
    rw [hs']
    exact jgL hs hret hy h3 h4
   cases it with
   | code cd =>
    cases cd with
    | skip=>exact key _ _ htd (JW h) fun c w fr frs y ys hs hy h1 h2=>by cases h1; exact ⟨_,h2,stepR_skip⟩
    | label l=>exact key _ _ htd (JW h) fun c w fr frs y ys hs hy h1 h2=>by cases h1; exact ⟨_,h2,stepR_label⟩
    | seq a b=>exact key _ _ htd (JW h) fun c w fr frs y ys hs hy h1 h2=>by cases h1; exact ⟨_,IRels.cons rfl (IRels.cons rfl h2),stepR_seq⟩
    | block id b=>exact key _ _ htd (JW h) fun c w fr frs y ys hs hy h1 h2=>by cases h1; exact ⟨_,IRels.cons rfl (IRels.cons rfl h2),stepR_block⟩
    | loop b=>exact key _ _ htd (JW h) fun c w fr frs y ys hs hy h1 h2=>by cases h1; exact ⟨_,IRels.cons rfl (IRels.cons rfl h2),stepR_loop⟩
    | scope b=>exact key _ _ htd (JW h) fun c w fr frs y ys hs hy h1 h2=>by cases h1; exact ⟨_,IRels.cons rfl (IRels.cons rfl h2),step_lone_go (by simp [stepG,stepG.exec,Frame.atR])⟩
    | ret =>
     intro c w fr frs hs
     have ht:=hs.fr.todo
     rw [htd] at ht
     obtain ⟨y,ys,hy,h1,h2⟩:=ht
     cases h1
     exact zo hs hret (.inr (.inl ⟨rfl,_,hy⟩)) h
    | cond x a b =>
     simp only at h
     split at h
     ·rename_i t r ds1 hx
      simp only [Option.some.injEq,Prod.mk.injEq] at h
      obtain ⟨hs',_,rfl⟩:=h
      have htr:t=r:=hp.1
      refine key _ _ htd hs'.symm fun c w fr frs y ys hs hy h1 h2=>?_
      cases h1
      have hev:=Qe (cf:=cf) hs.fr.tmps hs.glob fr.defers x
      rw [hx] at hev
      unfold Rel RelD at hev
      refine ⟨_,IRels.cons rfl h2,?_⟩
      rw [stepR_cond hev.1,htr]
     ·rename_i t hx hnx
      simp only [Option.some.injEq,Prod.mk.injEq] at h
      obtain ⟨hs',_,_⟩:=h
      refine key _ _ htd hs'.symm fun c w fr frs y ys hs hy h1 h2=>?_
      cases h1
      have hev:=Qe (cf:=cf) hs.fr.tmps hs.glob fr.defers x
      rw [hx] at hev
      unfold Rel RelD at hev
      refine ⟨_,IRels.cons rfl h2,?_⟩
      rw [stepR_cond hev.1]
     ·simp at h
    | exit id =>
     simp only at h
     cases hx:QX id k with
     | some k' =>
      rw [hx] at h
      refine key _ _ htd (JW h) fun c w fr frs y ys hs hy h1 h2=>?_
      cases h1
      obtain ⟨l',h3,h4⟩:=gN h2 hx
      exact ⟨l',h4,stepR_exit h3⟩
     | none =>
      rw [hx] at h
      simp only at h
      split at h
      ·intro c w fr frs hs
       have ht:=hs.fr.todo
       rw [htd] at ht
       obtain ⟨y,ys,hy,h1,h2⟩:=ht
       cases h1
       exact zo hs hret (.inr (.inr (.inl ⟨id,_,rfl,hy,Zj h2 hx⟩))) h
      ·simp at h
    | goto l =>
     simp only at h
     cases hx:Q1 l k with
     | some k' =>
      rw [hx] at h
      refine key _ _ htd (JW h) fun c w fr frs y ys hs hy h1 h2=>?_
      cases h1
      obtain ⟨l',h3,h4⟩:=gj h2 hx
      exact ⟨l',h4,stepR_goto h3⟩
     | none =>
      rw [hx] at h
      simp only at h
      split at h
      ·intro c w fr frs hs
       have ht:=hs.fr.todo
       rw [htd] at ht
       obtain ⟨y,ys,hy,h1,h2⟩:=ht
       cases h1
       exact zo hs hret (.inr (.inr (.inr ⟨l,_,rfl,hy,Zo h2 hx⟩))) h
      ·simp at h
    | rangeFunc f ps as bd =>
     intro c w fr frs hs
     have ht:=hs.fr.todo
     rw [htd] at ht
     obtain ⟨y,ys,hy,h1,h2⟩:=ht
     cases h1
     exact jgB hs hret hy h2 h
    | region id ops draw =>
     simp only at h
     cases draw with
     | false =>
      simp only [Bool.false_eq_true,if_false] at h
      refine key _ _ htd (JW h) fun c w fr frs y ys hs hy h1 h2=>?_
      cases h1
      exact ⟨_,IRels.cons ⟨_,rfl,by simp [RegOk,List.range_eq_range']⟩ h2,stepR_region⟩
     | true =>
      simp only [if_true] at h
      split at h
      ·rename_i hc
       simp only [Bool.and_eq_true] at hc
       obtain ⟨hd,hf⟩:=hc
       have hs':=JW h
       intro c w fr frs hs
       obtain ⟨hfr,hfrs,hm,hgl⟩:=hs
       have hmode:fr.mode=.run:=by rw [hfr.mode,hret]; rfl
       have ht:=hfr.todo
       rw [htd] at ht
       obtain ⟨y,ys,hy,h1,h2⟩:=ht
       cases h1
       have he:=JT hmode
       rw [hy] at he
       have hstep:=stepR_region_draw (P:=cf.P) (b:=fr) (a:={ tmps:=fr.tmps,defers:=fr.defers }) (k:=ys) (cs:=frs++cs0) (w:=w) (ops:=ops) (id:=id)
       rw [← he,hf] at hstep
       obtain ⟨hle,hm'⟩:=hm.drew
       rw [hs']
       exact ⟨c,w.drew,fr.atR { tmps:=fr.tmps,defers:=fr.defers } (Item.inRegion ops (Region.schedule true ops (w.tape w.drawn (Question.order fr.fn id))) :: ys),frs,⟨⟨hfr.fn,Rels.mono hle hfr.tmps,IRels.cons ⟨_,rfl,RegOk.start hd _⟩ (IRels.mono hle h2),hfr.defers,by simp [Frame.atR,hret],hfr.kind,hfr.ro⟩,FRels.mono hle hfrs,hm',GK.mono hle hgl⟩,.one hstep⟩
      ·simp at h
    | _=>simp at h
   | inBlock id=>exact key _ _ htd (JW h) fun c w fr frs y ys hs hy h1 h2=>by cases h1; exact ⟨_,h2,stepR_inBlock⟩
   | inScope b=>exact key _ _ htd (JW h) fun c w fr frs y ys hs hy h1 h2=>by cases h1; exact ⟨_,h2,step_lone_go (by simp [stepG,stepG.exec,Frame.atR])⟩
   | inLoop b=>exact key _ _ htd (JW h) fun c w fr frs y ys hs hy h1 h2=>by cases h1; exact ⟨_,IRels.cons rfl (IRels.cons rfl h2),stepR_inLoop⟩
   | beginRound =>
    simp only at h
    split at h
    ·rename_i b hb
     split at h
     ·rename_i l hbl
      split at h
      ·rename_i hst
       simp only [Option.some.injEq,Prod.mk.injEq] at h
       obtain ⟨rfl,_,_⟩:=h
       intro c w fr frs hs
       obtain ⟨hfr,hfrs,hm,hgl⟩:=hs
       have hmode:fr.mode=.run:=by rw [hfr.mode,hret]; rfl
       have ht:=hfr.todo
       rw [htd] at ht
       obtain ⟨y,ys,hy,h1,h2⟩:=ht
       cases h1
       have hro:=hfr.ro
       rw [hb] at hro
       obtain ⟨r,hg,hs1,hp1,hset⟩:=hm.setLoop hbl .busy l.pending
       obtain ⟨hle,hm'⟩:=hset _ rfl
       have hrr:({ r with state:=.busy,pending:=l.pending }:Loop)={ r with state:=.busy }:=by rw [← hp1]
       rw [hrr] at hle hm'
       have he:=JT hmode
       rw [hy] at he
       have hstep:=stepR_beginRound (P:=cf.P) (b:=fr) (a:={ tmps:=fr.tmps,defers:=fr.defers }) (k:=ys) (cs:=frs++cs0) hro.2 (run_beginRound hg (by rw [hs1,hst]))
       rw [← he] at hstep
       exact ⟨c,_,fr.atR { tmps:=fr.tmps,defers:=fr.defers } ys,frs,⟨⟨hfr.fn,Rels.mono hle hfr.tmps,IRels.mono hle h2,hfr.defers,by simp [Frame.atR,hret],hfr.kind,hfr.ro⟩,FRels.mono hle hfrs,hm',GK.mono hle hgl⟩,.one hstep⟩
      ·simp at h
     ·simp at h
    ·simp at h
   | endRng b =>
    simp only at h
    split at h
    ·rename_i l hbl
     split at h
     ·simp at h
     ·rename_i hst
      simp only [Option.some.injEq,Prod.mk.injEq] at h
      obtain ⟨rfl,_,_⟩:=h
      intro c w fr frs hs
      obtain ⟨hfr,hfrs,hm,hgl⟩:=hs
      have hmode:fr.mode=.run:=by rw [hfr.mode,hret]; rfl
      have ht:=hfr.todo
      rw [htd] at ht
      obtain ⟨y,ys,hy,h1,h2⟩:=ht
      obtain ⟨_,rfl⟩:=h1
      obtain ⟨r,hg,hs1,hp1,hset⟩:=hm.setLoop hbl .exhausted l.pending
      obtain ⟨hle,hm'⟩:=hset _ rfl
      have hrr:({ r with state:=.exhausted,pending:=l.pending }:Loop)={ r with state:=.exhausted }:=by rw [← hp1]
      rw [hrr] at hle hm'
      have he:=JT hmode
      rw [hy] at he
      have hstep:=stepR_endRangeFunc (P:=cf.P) (b:=fr) (a:={ tmps:=fr.tmps,defers:=fr.defers }) (k:=ys) (cs:=frs++cs0) (run_endLoop (P:=cf.P) hg (by rw [hs1]; exact hst))
      rw [← he] at hstep
      refine ⟨c,_,fr.atR { tmps:=fr.tmps,defers:=fr.defers } ((r.pending.map Item.code).toList++ys),frs,⟨⟨hfr.fn,Rels.mono hle hfr.tmps,?_,hfr.defers,by simp [Frame.atR,hret],hfr.kind,hfr.ro⟩,FRels.mono hle hfrs,hm',GK.mono hle hgl⟩,.one hstep⟩
      show IRels c _ ((r.pending.map Item.code).toList++ys)
      rw [hp1]
      cases l.pending with
      | none=>exact IRels.mono hle h2
      | some cd=>exact IRels.cons rfl (IRels.mono hle h2)
    ·simp at h
   | reg ops draw lo =>
    simp only at h
    split at h
    ·rename_i hlo
     refine key _ _ htd (JW h) fun c w fr frs y ys hs hy h1 h2=>?_
     obtain ⟨is,rfl,his⟩:=h1
     have:=jdW his (by simpa using hlo)
     subst this
     exact ⟨_,h2,stepR_region_end⟩
    ·cases draw with
     | true =>
      simp only [if_true] at h
      exact jeq hret htd h hp
     | false =>
      simp only [Bool.false_eq_true,if_false] at h
      split at h
      ·rename_i o ho
       split at h
       ·exact jgn hret htd ho h hp
       ·exact jfS hret htd ho h hp
      ·simp at h
   | _=>simp at h
end
end Go.Kv
