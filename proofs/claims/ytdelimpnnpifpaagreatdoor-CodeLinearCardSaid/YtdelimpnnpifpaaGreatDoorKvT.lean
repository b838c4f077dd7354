import Derived.Test.YtdelimpnnpifpaaGreatDoorKvS
set_option linter.all false
namespace Go.Kv
open Go Go.RowKit
mutual
def zB (k:Nat):AV→Bool
 | .ptr b _=>Nat.blt b k
 | .own b _ _ _ _=>Nat.blt b k
 | .ms b _ _ _ _=>Nat.blt b k
 | .yl b=>Nat.blt b k
 | .mp b=>Nat.blt b k
 | .gx b _=>Nat.blt b k
 | .agg cs=>ko k cs
 | .tup cs=>ko k cs
 | .fn _ fs cs=>ko k fs&&ko k cs
 | .opt _ x=>zB k x
 | _=>true
def ko (k:Nat):List AV→Bool
 | []=>true
 | a :: as=>zB k a&&ko k as
end
def jiY (k:Nat):AItem→Bool
 | .inRng b=>Nat.blt b k
 | .endRng b=>Nat.blt b k
 | .regL _ _ us=>us.all fun x=>zB k x.2
 | _=>true
def yv (k:Nat) (f:AFrame):Bool :=
 ko k f.tmps&&f.todo.all (jiY k)&&f.defers.all (fun d=>Nat.blt d k)&&(match f.roundOf with
  | some b=>Nat.blt b k
  | none=>true)
def jK (k:Nat):ABlk→Bool
 | .cells cs _=>ko k cs
 | .loop l=>Nat.blt l.defers k&&ko k l.tmps
 | .itr (.it b ..)=>Nat.blt b k
 | _=>true
def zF:List Nat→List AV→List AV
 | [],ts=>ts
 | t :: ks,ts=>zF ks (ts.set t .any)
def jgY (k:Nat) (kill:List Nat) (s:ASt):Option ASt :=
 let fr:={ s.fr with tmps:=zF kill s.fr.tmps }
 if yv k fr&&s.cs.all (yv k)&&(s.H.take k).all (jK k) then some ⟨fr,s.cs,s.H.take k⟩ else none
def Ctx.cut (c:Ctx) (k:Nat):Ctx:={ c with live:=fun b=>Nat.blt b k&&c.live b,tl:=fun b=>Nat.blt b k&&c.tl b }
section
variable {c:Ctx} {w:World} {k:Nat}
mutual
theorem Rel.cut:∀ {x:AV} {u:Value},zB k x=true→Rel c w x u→Rel (c.cut k) w x u
 | .d x,u,_,hr=>by unfold Rel at hr ⊢; exact hr
 | .ptr b off,u,hb,hr=>by unfold Rel at hr ⊢; simp only [zB] at hb; exact ⟨by simp [Ctx.cut,hb,hr.1],hr.2⟩
 | .ip cs,u,_,hr=>by unfold Rel at hr ⊢; exact hr
 | .own b e sz n xs,u,hb,hr=>by
  unfold Rel at hr ⊢
  simp only [zB] at hb
  obtain ⟨bk,off,cap,us,rfl,hl,hn,hc,hs,hlen,hlive,he,hok⟩:=hr
  exact ⟨bk,off,cap,us,rfl,hl,hn,hc,hs,hlen,by simp [Ctx.cut,hb,hlive],he,hok⟩
 | .ms b off _ n cap,u,hb,hr=>by unfold Rel at hr ⊢; simp only [zB] at hb; exact ⟨by simp [Ctx.cut,hb,hr.1],hr.2⟩
 | .fn f fs cs,u,hb,hr=>by
  unfold Rel at hr ⊢
  simp only [zB,Bool.and_eq_true] at hb
  obtain ⟨hf,us,vs,rfl,h1,h2⟩:=hr
  exact ⟨hf,us,vs,rfl,Rels.cut hb.1 h1,Rels.cut hb.2 h2⟩
 | .yl b,u,hb,hr=>by unfold Rel at hr ⊢; simp only [zB] at hb; exact ⟨by simp [Ctx.cut,hb,hr.1],hr.2⟩
 | .em,u,_,hr=>by unfold Rel at hr ⊢; exact hr
 | .nan k,u,_,hr=>by unfold Rel at hr ⊢; exact hr
 | .mp b,u,hb,hr=>by unfold Rel at hr ⊢; simp only [zB] at hb; exact ⟨by simp [Ctx.cut,hb,hr.1],hr.2⟩
 | .gx b x,u,hb,hr=>by unfold Rel at hr ⊢; simp only [zB] at hb; exact ⟨by simp [Ctx.cut,hb,hr.1],by simp [Ctx.cut,hb,hr.2.1],by cases x <;> exact hr.2.2⟩
 | .agg cs,u,hb,hr=>by unfold Rel at hr ⊢; simp only [zB] at hb; obtain ⟨us,rfl,h1⟩:=hr; exact ⟨us,rfl,Rels.cut hb h1⟩
 | .tup cs,u,hb,hr=>by unfold Rel at hr ⊢; simp only [zB] at hb; obtain ⟨us,rfl,h1⟩:=hr; exact ⟨us,rfl,Rels.cut hb h1⟩
 | .opt b x,u,hb,hr=>by
  unfold Rel at hr ⊢
  simp only [zB] at hb
  intro h1
  exact Rel.cut hb (hr h1)
 | .any,u,_,hr=>by unfold Rel; trivial
theorem Rels.cut:∀ {xs:List AV} {us:List Value},ko k xs=true→Rels c w xs us→Rels (c.cut k) w xs us
 | [],us,_,hr=>by rw [hr.nil_inv]; exact Rels.nil
 | x :: xs,us,hb,hr=>by
  obtain ⟨u,r,rfl,hu,t⟩:=hr.cons_inv
  simp only [ko,Bool.and_eq_true] at hb
  exact Rels.cons (Rel.cut hb.1 hu) (Rels.cut hb.2 t)
end
theorem IRel.cut {x:AItem} {y:Item} (hb:jiY k x=true) (hr:IRel c x y):IRel (c.cut k) x y:=by
 cases x <;> first | exact hr | (obtain ⟨h1,h2⟩:=hr; simp only [jiY] at hb; exact ⟨by simp [Ctx.cut,hb,h1],h2⟩)
theorem IRels.cut:∀ {xs:List AItem} {ys:List Item},xs.all (jiY k)=true→IRels c xs ys→IRels (c.cut k) xs ys
 | [],_,_,hr=>hr
 | _ :: _,_,hb,hr=>by
  obtain ⟨y,ys,rfl,h1,h2⟩:=hr
  simp only [List.all_cons,Bool.and_eq_true] at hb
  exact IRels.cons (IRel.cut hb.1 h1) (IRels.cut hb.2 h2)
theorem FRel.cut {a:AFrame} {fr:Frame} (hb:yv k a=true) (hr:FRel c w a fr):FRel (c.cut k) w a fr:=by
 simp only [yv,Bool.and_eq_true] at hb
 obtain ⟨⟨⟨h1,h2⟩,h3⟩,h4⟩:=hb
 refine ⟨hr.fn,Rels.cut h1 hr.tmps,IRels.cut h2 hr.todo,⟨fun d hd=>?_,hr.defers.2⟩,hr.mode,hr.kind,?_⟩
 ·have:=hr.defers.1 d hd
  rw [List.all_eq_true] at h3
  simp [Ctx.cut,this,h3 d hd]
 ·have:=hr.ro
  cases hro:a.roundOf with
  | none=>rw [hro] at this; exact this
  | some b =>
   rw [hro] at this h4
   obtain ⟨hl,he⟩:=this
   exact ⟨by simp [Ctx.cut,hl]; simpa using h4,he⟩
theorem GO:∀ {ts:List AV} {i:Nat} {v:AV},ko k ts=true→zB k v=true→ko k (ts.set i v)=true
 | [],_,_,h,_=>h
 | t :: ts,i,v,h,hv=>by
  simp only [ko,Bool.and_eq_true] at h
  cases i with
  | zero=>simp only [List.set_cons_zero,ko,Bool.and_eq_true]; exact ⟨hv,h.2⟩
  | succ i=>simp only [List.set_cons_succ,ko,Bool.and_eq_true]; exact ⟨h.1,GO h.2 hv⟩
theorem Ye {ops:Array Oper}:∀ {l:List (Nat × AV)} {ts:List AV},ko k ts=true→(∀ x ∈ l,zB k x.2=true)→ko k (Jh ops ts l)=true
 | [],_,h,_=>h
 | x :: l,ts,h,hl=>by
  simp only [Jh]
  refine Ye ?_ (fun y hy=>hl y (by simp [hy]))
  cases JM ops x.1 with
  | none=>exact h
  | some d=>exact GO h (hl x (by simp))
theorem jgo {a:AFrame} (h:yv k a=true) (d:Nat):yv k (KP a d)=true:=by
 unfold KP
 split
 ·rename_i ops i us kk ht
  simp only [yv,ht,List.all_cons,Bool.and_eq_true,jiY,List.all_eq_true] at h ⊢
  obtain ⟨⟨⟨h1,h2,h3⟩,h4⟩,h5⟩:=h
  exact ⟨⟨⟨Ye h1 (fun x hx=>h2 x (List.mem_of_mem_take hx)),trivial,h3⟩,h4⟩,h5⟩
 ·exact h
theorem FRelC.cut {a:AFrame} {fr:Frame} (hb:yv k a=true) (hr:FRelC c w a fr):FRelC (c.cut k) w a fr:=by
 obtain ⟨d,hr⟩:=hr
 exact ⟨d,FRel.cut (jgo hb d) hr⟩
theorem FRels.cut:∀ {xs:List AFrame} {ys:List Frame},xs.all (yv k)=true→FRels c w xs ys→FRels (c.cut k) w xs ys
 | [],_,_,hr=>hr
 | _ :: _,_,hb,hr=>by
  obtain ⟨y,ys,rfl,h1,h2⟩:=hr
  simp only [List.all_cons,Bool.and_eq_true] at hb
  exact ⟨y,ys,rfl,FRelC.cut hb.1 h1,FRels.cut hb.2 h2⟩
theorem ja2 (b:Nat) (x:ABlk):loc (c.cut k) b x=loc c b x:=by cases x <;> rfl
theorem WRel.cut {base:Nat} {w0:Start} {H:List ABlk} (h:WRel base w0 c w H) (hb:(H.take k).all (jK k)=true):WRel base w0 (c.cut k) w (H.take k):=by
 have hget:∀ b x,(H.take k)[b]? = some x→H[b]? = some x∧b<k∧jK k x=true:=by
  intro b x hx
  have hm:=List.mem_of_getElem? hx
  rw [List.all_eq_true] at hb
  rw [List.getElem?_take] at hx
  split at hx
  ·rename_i hlt; exact ⟨hx,hlt,hb x hm⟩
  ·simp at hx
 have hopt:∀ (f:ABlk→Bool) (g:Nat→Bool),(∀ b,g b=((H[b]?).map f).getD false)→∀ b,(Nat.blt b k&&g b)=(((H.take k)[b]?).map f).getD false:=by
  intro f g hg b
  rw [List.getElem?_take,hg b]
  by_cases hlt:b<k
  ·rw [if_pos hlt,show Nat.blt b k=true from Nat.ble_eq_true_of_le hlt]; simp
  ·rw [if_neg hlt,show Nat.blt b k=false from by
    cases hbl:Nat.blt b k with
    | false=>rfl
    | true=>exact absurd (Nat.le_of_ble_eq_true hbl) hlt]
   simp
 refine ⟨h.below,h.le,?_,hopt _ _ h.live,hopt _ _ h.tl,?_,h.hi,h.lo,fun b x hx id hid=>(h.row b x (hget b x hx).1 id hid).of rfl (Nat.le_refl _) (fun b' k' hk' ho=>.inr ⟨b',k',(hget b' k' hk').1,ho,ja2 b' k'⟩) (fun b' k' hk' _=>⟨fun _ _=>rfl,k',(hget b' k' hk').1,rfl⟩)⟩
 ·intro b x hx
  obtain ⟨h0,hlt,hr⟩:=hget b x hx
  have hbr:=h.blk b x h0
  cases x with
  | gone=>trivial
  | dead=>trivial
  | cells cs t =>
   obtain ⟨h1,h2,us,rest,h3,h4⟩:=hbr
   exact ⟨h1,h2,us,rest,h3,Rels.cut (by simpa [jK] using hr) h4⟩
  | tail e=>exact hbr
  | loop l =>
   obtain ⟨h1,h2,us,h3,h4⟩:=hbr
   simp only [jK,Bool.and_eq_true] at hr
   exact ⟨h1,by simp only [Ctx.cut,hr.1,h2,Bool.and_true],us,h3,Rels.cut hr.2 h4⟩
  | defd=>exact hbr
  | mp m=>exact hbr
  | grid e p rs=>exact hbr
  | itr i =>
   obtain ⟨h1,o,h2,h3⟩:=hbr
   refine ⟨h1,o,h2,?_⟩
   cases i with
   | si=>exact h3
   | it b' =>
    have hr:Nat.blt b' k=true:=hr
    exact ⟨by simp only [Ctx.cut,hr,h3.1,Bool.and_true],h3.2⟩
 ·intro b b' x x' hx hx' ho ho' he
  rw [ja2,ja2] at he
  exact h.inj b b' x x' (hget b x hx).1 (hget b' x' hx').1 ho ho' he
theorem YI:∀ {ks:List Nat} {ts:List AV} {us:List Value},Rels c w ts us→Rels c w (zF ks ts) us
 | [],_,_,h=>h
 | t :: ks,ts,us,h=>by
  refine YI (ks:=ks) ?_
  have:us=us.set t (us.getD t undef):=by
   by_cases ht:t<us.length
   ·simp [List.getD,ht]
   ·rw [List.set_eq_of_length_le (by omega)]
  rw [this]
  exact h.set t Js
end
section
variable {cf:Cfg} {base:Nat} {w0:Start} {cs0:List Frame}
theorem jh0 {k:Nat} {kill:List Nat} {s s':ASt} (h:jgY k kill s=some s'):Reach cf base w0 cs0 s s':=by
 unfold jgY at h
 simp only at h
 split at h
 ·rename_i hb
  simp only [Bool.and_eq_true] at hb
  obtain ⟨⟨h1,h2⟩,h3⟩:=hb
  simp only [Option.some.injEq] at h; subst h
  intro c w fr frs hs
  obtain ⟨hfr,hfrs,hm,hgl⟩:=hs
  have hfr':FRel c w { s.fr with tmps:=zF kill s.fr.tmps } fr:=⟨hfr.fn,YI hfr.tmps,hfr.todo,hfr.defers,hfr.mode,hfr.kind,hfr.ro⟩
  exact ⟨c.cut k,w,fr,frs,⟨FRel.cut h1 hfr',FRels.cut h2 hfrs,WRel.cut hm h3,hgl⟩,Steps.refl _ _⟩
 ·simp at h
def Ym (cf:Cfg):Nat→ASt→List Dec→SR
 | 0,s,ds=>some (s,ds,[])
 | n+1,s,ds=>match gG cf s ds with
  | some (s',ds',ps)=>match Ym cf n s' ds' with
   | some (s'',ds'',qs)=>some (s'',ds'',ps++qs)
   | none=>none
  | none=>none
theorem jbb:∀ {n:Nat} {s s':ASt} {ds ds':List Dec} {ps:List PC},Ym cf n s ds=some (s',ds',ps)→AllP ps→Reach cf base w0 cs0 s s'
 | 0,s,s',ds,ds',ps,h,_=>by simp [Ym] at h; obtain ⟨rfl,_⟩:=h; exact Reach.refl _ _ _ _ _
 | n+1,s,s',ds,ds',ps,h,hp=>by
  simp only [Ym] at h
  split at h
  ·rename_i s1 ds1 ps1 h1
   split at h
   ·rename_i s2 ds2 ps2 h2
    simp only [Option.some.injEq,Prod.mk.injEq] at h
    obtain ⟨rfl,rfl,rfl⟩:=h
    obtain ⟨hp1,hp2⟩:=AllP.append hp
    exact Reach.trans (ji4 h1 hp1) (jbb h2 hp2)
   ·simp at h
  ·simp at h
def Gq (cf:Cfg) (f:FuncId) (s:ASt):Option AV :=
 if s.fr.ret&&s.fr.defers.isEmpty&&s.cs.isEmpty&&s.fr.fn==f then
  match cf.P.funcs[f]? with
  | some fn=>match Q4 cf fn (fun b=>(s.H[b]?).getD .gone) s.fr.tmps with
   | some v=>jV (fun b=>(s.H[b]?).getD .gone) v
   | none=>none
  | none=>none
 else none
theorem Gs (hK:KnowOk cf.P cf.glob cf.K) {f:FuncId} {args:List AV} {a:AFrame} (ha:ka cf.P f args=some a) {s':ASt} (h:∀ base w0 cs0,Reach cf base w0 cs0 ⟨a,[],[]⟩ s') {res:AV} (ho:Gq cf f s'=some res) :
  PureCalls cf.P cf.glob f args res:=by
 intro w φ us hφ hgl hargs cs
 unfold Gq at ho
 split at ho
 ·rename_i hc
  simp only [Bool.and_eq_true,List.isEmpty_iff,beq_iff_eq] at hc
  obtain ⟨⟨⟨hret,hdef⟩,hcs⟩,hfn⟩:=hc
  split at ho
  ·rename_i fn hf
   split at ho
   ·rename_i v hv
    have hm0:WRel w.heap.size (Start.on ⟨w,φ,true⟩ cf) (JR φ) w []:=⟨BelowD.refl _ _,Nat.le_refl _,by simp,by simp [JR],by simp [JR],by simp,hφ,fun _ _=>rfl,by simp⟩
    obtain ⟨hfr0,_⟩:=KE hK.1 ha hargs
    obtain ⟨c',w',fr',frs',⟨hfr,hfrs,hm,hgl'⟩,hsteps⟩:=h w.heap.size ⟨w,φ,true⟩ cs (JR φ) w _ [] ⟨hfr0,rfl,hm0,hgl,hK⟩
    obtain ⟨u,hu,hrel⟩:=zP hm hfr.tmps hv
    rw [hcs] at hfrs
    have hfrs:frs'=[]:=hfrs
    subst hfrs
    have hd:=hfr.defers
    rw [hdef] at hd
    have hd':fr'.defers=[]:=by simpa using hd.2
    have hmode:fr'.mode=.returning:=by rw [hfr.mode,hret]; rfl
    have hle':=hm.le
    refine ⟨.returned u,w',fr',⟨u,Jy w' c'.φ w.heap.size,rfl,hm.below,?_,?_,?_⟩,hsteps,hfr.fn.trans hfn,⟨hmode,hd',hfr.kind,fn,by rw [hfr.fn,hfn]; exact hf,hu⟩⟩
    ·intro i hi
     have h1:=hm.lo i hi
     show Jy w' c'.φ w.heap.size i=φ i
     unfold Jy
     rw [if_pos hi]; exact h1
    ·intro i hi
     unfold Jy
     have h0:=hm.hi i hi
     rw [if_neg (by omega),Array.getElem?_eq_none (by omega)]
     exact h0
    ·exact Z1 hm (fun _=>rfl) (J6 w' c'.φ _) (fun _ _=>Nat.le_refl _) ho hrel
   ·simp at ho
  ·simp at ho
 ·simp at ho
def yE (get:Nat→ABlk) (sz:Nat) (st:Bool):List Nat→AV→Option (AV × List PC)
 | [],.own b e sz' n xs=>if Nat.beq sz' sz then match get b with
   | .tail e'=>some (.own 0 0 sz n xs,if st then [.eqN e e'] else [.eqN e e',.ltN 0 n])
   | _=>none
  else none
 | [],.em=>if st then none else some (.own 0 0 sz 0 [],[])
 | [],.d (.v (.slice none 0 0))=>if st then none else some (.own 0 0 sz 0 [],[])
 | i :: p,.agg cs=>match cs[i]? with
  | some a=>match yE get sz st p a,Jl get (cs.set i .em) with
   | some (x,ps),some xs=>if jR (cs.set i .em) then none else some (.agg (xs.set i x),ps)
   | _,_=>none
  | none=>none
 | i :: p,.tup cs=>match cs[i]? with
  | some a=>match yE get sz st p a,Jl get (cs.set i .em) with
   | some (x,ps),some xs=>if jR (cs.set i .em) then none else some (.tup (xs.set i x),ps)
   | _,_=>none
  | none=>none
 | _,_=>none
mutual
theorem jeC {get:Nat→ABlk}:∀ {a x:AV},jV get a=some x→qi x=0∧emA x=x
 | .d y,x,h=>by simp [jV] at h; subst h; exact ⟨rfl,rfl⟩
 | .fn f fs cs,x,h=>by
  simp only [jV] at h
  split at h
  ·simp at h; subst h; exact ⟨rfl,rfl⟩
  ·simp at h
 | .own ..,x,h=>by simp [jV] at h; subst h; exact ⟨rfl,rfl⟩
 | .em,x,h=>by simp [jV] at h; subst h; exact ⟨rfl,rfl⟩
 | .nan _,x,h=>by simp [jV] at h; subst h; exact ⟨rfl,rfl⟩
 | .ms b off sz n cap,x,h=>by
  simp only [jV] at h
  split at h
  ·split at h
   ·split at h
    ·simp at h; subst h; exact ⟨rfl,rfl⟩
    ·simp at h
   ·simp at h
  ·simp at h
 | .agg cs,x,h=>by
  simp only [jV] at h
  split at h
  ·rename_i xs hxs
   simp at h; subst h
   obtain ⟨h1,h2⟩:=KZ hxs
   exact ⟨by simpa [qi] using h1,by simp [emA,h2]⟩
  ·simp at h
 | .tup cs,x,h=>by
  simp only [jV] at h
  split at h
  ·rename_i xs hxs
   simp at h; subst h
   obtain ⟨h1,h2⟩:=KZ hxs
   exact ⟨by simpa [qi] using h1,by simp [emA,h2]⟩
  ·simp at h
 | .ptr b off,x,h=>by
  simp only [jV] at h
  split at h
  ·split at h
   ·split at h
    ·simp at h; subst h; exact ⟨rfl,rfl⟩
    ·simp at h
   ·simp at h
  ·simp at h
 | .ip _,x,h=>by simp [jV] at h; subst h; exact ⟨rfl,rfl⟩
 | .yl ..,_,h=>by simp [jV] at h
 | .mp ..,_,h=>by simp [jV] at h
 | .gx ..,_,h=>by simp [jV] at h
 | .opt ..,_,h=>by simp [jV] at h
 | .any,_,h=>by simp [jV] at h
theorem KZ {get:Nat→ABlk}:∀ {as xs:List AV},Jl get as=some xs→qM xs=0∧YJ xs=xs
 | [],xs,h=>by simp [Jl] at h; subst h; exact ⟨rfl,rfl⟩
 | a :: as,xs,h=>by
  simp only [Jl] at h
  split at h
  ·rename_i x xs' hx hxs
   simp at h; subst h
   obtain ⟨h1,h2⟩:=jeC hx
   obtain ⟨h3,h4⟩:=KZ hxs
   exact ⟨by simp [qM,h1,h3],by simp [YJ,h2,h4]⟩
  ·simp at h
end
theorem GW {x:AV}:∀ {xs:List AV} {i:Nat},qM xs=0→i<xs.length→qM (xs.set i x)=qi x
 | [],i,_,hi=>by simp at hi
 | y :: ys,0,h,_=>by simp [qM] at h; simp [qM,h.2]
 | y :: ys,i+1,h,hi=>by
  simp only [qM,Nat.add_eq_zero_iff] at h
  simp only [List.set_cons_succ,qM,h.1,Nat.zero_add]
  exact GW h.2 (by simpa using hi)
theorem jcO {x:AV}:∀ {xs:List AV} {i:Nat},YJ (xs.set i x)=(YJ xs).set i (emA x)
 | [],i=>by simp [YJ]
 | y :: ys,0=>by simp [YJ]
 | y :: ys,i+1=>by simp [YJ,jcO]
theorem jgv {c:Ctx} {w:World} {H:List ABlk} (h:WRel base w0 c w H) {get:Nat→ABlk} (hget:∀ b,get b=(H[b]?).getD .gone) {sz:Nat} {st:Bool}:∀ {p:List Nat} {a x:AV} {u:Value} {ps:List PC},yE get sz st p a=some (x,ps)→AllP ps→Rel c w a u →
  (qi x=0→st=false→Rel (JR c.φ) w (emA x) u)∧(0<qi x∨st=true→∃ r,base≤r∧(∃ cur t fr,w.heap[r]? = some (.cells cur t fr)∧zA fr cur.size)∧Rel (yK c.φ r) w x u):=by
 have part:∀ {cs:List AV} {i:Nat} {a:AV} {x:AV} {xs:List AV} {us:List Value},cs[i]? = some a→Jl get (cs.set i .em)=some xs→jR (cs.set i .em)=false→Rels c w cs us →
   (∀ u,us[i]? = some u→(qi x=0→st=false→Rel (JR c.φ) w (emA x) u)∧(0<qi x∨st=true→∃ r,base≤r∧(∃ cur t fr,w.heap[r]? = some (.cells cur t fr)∧zA fr cur.size)∧Rel (yK c.φ r) w x u)) →
   (qM (xs.set i x)=0→st=false→Rels (JR c.φ) w (YJ (xs.set i x)) us)∧(0<qM (xs.set i x)∨st=true→∃ r,base≤r∧(∃ cur t fr,w.heap[r]? = some (.cells cur t fr)∧zA fr cur.size)∧Rels (yK c.φ r) w (xs.set i x) us):=by
  intro cs i a x xs us hi hpass hms hrel hx
  obtain ⟨u,hu,_⟩:=hrel.get i a hi
  have hset:Rels c w (cs.set i .em) (us.set i (.slice none 0 0)):=hrel.set i (by unfold Rel; exact ⟨_,rfl⟩)
  have hp:=JB h hget (fun _=>Nat.le_refl _) (fun hh=>by rw [hms] at hh; simp at hh) hpass hset
  obtain ⟨o1,o2⟩:=KZ hpass
  have hlen:=hp.length
  have hil:i<us.length:=(List.getElem?_eq_some_iff.1 hu).1
  have hixs:i<xs.length:=by rw [← hlen]; simpa using hil
  have hback:∀ (v:Value),(us.set i v).set i u=us:=by
   intro v
   rw [List.set_set]
   exact J1 hu
  rw [GW o1 hixs]
  obtain ⟨h1,h2⟩:=hx u hu
  refine ⟨fun h0 hst=>?_,fun h0=>?_⟩
  ·rw [jcO,o2]
   have:=hp.set i (h1 h0 hst)
   rw [hback] at this
   exact this
  ·obtain ⟨r,hr,hc,hrel'⟩:=h2 h0
   refine ⟨r,hr,hc,?_⟩
   have:=(KD (c:=yK c.φ r) hp).set i hrel'
   rw [hback] at this
   exact this
 intro p
 induction p with
 | nil =>
  intro a x u ps hk hp hr
  unfold yE at hk
  split at hk
  ·rename_i b e sz' n xs heq
   split at hk
   ·rename_i hsz
    have hsz:=Nat.eq_of_beq_eq_true hsz
    subst hsz
    split at hk
    ·rename_i e' hb
     simp only [Option.some.injEq,Prod.mk.injEq] at hk
     obtain ⟨rfl,rfl⟩:=hk
     have p1:e=e':=by
      cases st with
      | true=>exact hp.1
      | false=>exact hp.1
     refine ⟨fun h0 hst=>?_,fun _=>?_⟩
     ·subst hst
      have p2:0<n:=hp.2.1
      exact absurd h0 (by simp [qi]; omega)
     have hH:=jW hget hb (by simp)
     obtain ⟨b1,b2,b3⟩:=h.blk b _ hH
     unfold Rel at hr
     obtain ⟨bk,off,cap,us,q1,q2,q3,q4,q5,q6,q7,q8,q9⟩:=hr
     obtain ⟨r1,r2,r3⟩:=q9 (by omega)
     refine ⟨c.τ b,b2,b3,?_⟩
     unfold Rel
     refine ⟨bk,off,cap,us,q1,q2,q3,q4,q5,q6,rfl,Nat.le_refl _,?_⟩
     intro _
     exact ⟨r1,r2,r3⟩
    ·simp at hk
   ·simp at hk
  ·split at hk
   ·simp at hk
   rename_i hst
   simp only [Option.some.injEq,Prod.mk.injEq] at hk
   obtain ⟨rfl,rfl⟩:=hk
   exact ⟨fun _ _=>by simp only [emA]; unfold Rel at hr ⊢; exact hr,fun h0=>by simp [qi,hst] at h0⟩
  ·split at hk
   ·simp at hk
   rename_i hst
   simp only [Option.some.injEq,Prod.mk.injEq] at hk
   obtain ⟨rfl,rfl⟩:=hk
   refine ⟨fun _ _=>?_,fun h0=>by simp [qi,hst] at h0⟩
   unfold Rel RelD at hr
   simp only [emA]
   unfold Rel
   exact ⟨_,hr.1⟩
  ·rename_i heq; simp at heq
  ·rename_i heq; simp at heq
  ·simp at hk
 | cons i p ih =>
  intro a x u ps hk hp hr
  unfold yE at hk
  split at hk
  ·rename_i heq; simp at heq
  ·rename_i heq; simp at heq
  ·rename_i heq; simp at heq
  ·rename_i i' p' cs heq
   simp only [List.cons.injEq] at heq
   obtain ⟨rfl,rfl⟩:=heq
   split at hk
   ·rename_i a' hi
    split at hk
    ·rename_i x' ps' xs hx hxs
     split at hk
     ·simp at hk
     ·rename_i hms
      simp only [Option.some.injEq,Prod.mk.injEq] at hk
      obtain ⟨rfl,rfl⟩:=hk
      unfold Rel at hr
      obtain ⟨us,rfl,hs⟩:=hr
      have hq:=part (x:=x') hi hxs (by simpa using hms) hs (fun u hu=>by
       obtain ⟨u',hu',hrel⟩:=hs.get _ _ hi
       rw [hu] at hu'
       simp at hu'
       subst hu'
       exact ih hx hp hrel)
      simp only [qi,emA]
      refine ⟨fun h0 hst=>by unfold Rel; exact ⟨us,rfl,hq.1 h0 hst⟩,fun h0=>?_⟩
      obtain ⟨r,k1,k2,k3⟩:=hq.2 h0
      exact ⟨r,k1,k2,by unfold Rel; exact ⟨us,rfl,k3⟩⟩
    ·simp at hk
   ·simp at hk
  ·rename_i i' p' cs heq
   simp only [List.cons.injEq] at heq
   obtain ⟨rfl,rfl⟩:=heq
   split at hk
   ·rename_i a' hi
    split at hk
    ·rename_i x' ps' xs hx hxs
     split at hk
     ·simp at hk
     ·rename_i hms
      simp only [Option.some.injEq,Prod.mk.injEq] at hk
      obtain ⟨rfl,rfl⟩:=hk
      unfold Rel at hr
      obtain ⟨us,rfl,hs⟩:=hr
      have hq:=part (x:=x') hi hxs (by simpa using hms) hs (fun u hu=>by
       obtain ⟨u',hu',hrel⟩:=hs.get _ _ hi
       rw [hu] at hu'
       simp at hu'
       subst hu'
       exact ih hx hp hrel)
      simp only [qi,emA]
      refine ⟨fun h0 hst=>by unfold Rel; exact ⟨us,rfl,hq.1 h0 hst⟩,fun h0=>?_⟩
      obtain ⟨r,k1,k2,k3⟩:=hq.2 h0
      exact ⟨r,k1,k2,by unfold Rel; exact ⟨us,rfl,k3⟩⟩
    ·simp at hk
   ·simp at hk
  ·simp at hk
def jsn (cf:Cfg) (f:FuncId) (sz:Nat) (st:Bool) (p:List Nat) (s:ASt):Option (AV × List PC) :=
 if s.fr.ret&&s.fr.defers.isEmpty&&s.cs.isEmpty&&s.fr.fn==f then
  match cf.P.funcs[f]? with
  | some fn=>match Q4 cf fn (fun b=>(s.H[b]?).getD .gone) s.fr.tmps with
   | some v=>match yE (fun b=>(s.H[b]?).getD .gone) sz st p v with
    | some (x,ps)=>if Jw x then some (x,ps) else none
    | none=>none
   | none=>none
  | none=>none
 else none
def FinF (cf:Cfg) (f:FuncId) (st:Bool) (s:ASt) (res:AV):Prop:=∃ s' sz p ps,(∀ base w0 cs0,Reach cf base w0 cs0 s s')∧jsn cf f sz st p s'=some (res,ps)∧AllP ps
theorem FinF.step {f:FuncId} {st:Bool} {s s':ASt} {res:AV} (hr:∀ base w0 cs0,Reach cf base w0 cs0 s s') (h:FinF cf f st s' res):FinF cf f st s res:=by
 obtain ⟨s'',sz,p,ps,h1,h2⟩:=h
 exact ⟨s'',sz,p,ps,fun base w0 cs0=>Reach.trans (hr base w0 cs0) (h1 base w0 cs0),h2⟩
theorem FinF.pure (hK:KnowOk cf.P cf.glob cf.K) {f:FuncId} {args:List AV} {a:AFrame} (ha:ka cf.P f args=some a) {st:Bool} {res:AV} (h:FinF cf f st ⟨a,[],[]⟩ res):KF cf.P cf.glob f args res st:=by
 obtain ⟨s',sz,p,ps,h,ho,hps⟩:=h
 intro w φ us hφ hgl hargs cs
 unfold jsn at ho
 split at ho
 ·rename_i hc
  simp only [Bool.and_eq_true,List.isEmpty_iff,beq_iff_eq] at hc
  obtain ⟨⟨⟨hret,hdef⟩,hcs⟩,hfn⟩:=hc
  split at ho
  ·rename_i fn hf
   split at ho
   ·rename_i v hv
    split at ho
    ·rename_i x qs hk
     split at ho
     ·rename_i hfresh
      simp only [Option.some.injEq,Prod.mk.injEq] at ho
      obtain ⟨rfl,rfl⟩:=ho
      have hm0:WRel w.heap.size (Start.on ⟨w,φ,true⟩ cf) (JR φ) w []:=⟨BelowD.refl _ _,Nat.le_refl _,by simp,by simp [JR],by simp [JR],by simp,hφ,fun _ _=>rfl,by simp⟩
      obtain ⟨hfr0,_⟩:=KE hK.1 ha hargs
      obtain ⟨c',w',fr',frs',⟨hfr,hfrs,hm,hgl'⟩,hsteps⟩:=h w.heap.size ⟨w,φ,true⟩ cs (JR φ) w _ [] ⟨hfr0,rfl,hm0,hgl,hK⟩
      obtain ⟨u,hu,hrel⟩:=zP hm hfr.tmps hv
      rw [hcs] at hfrs
      have hfrs:frs'=[]:=hfrs
      subst hfrs
      have hd:=hfr.defers
      rw [hdef] at hd
      have hd':fr'.defers=[]:=by simpa using hd.2
      have hmode:fr'.mode=.returning:=by rw [hfr.mode,hret]; rfl
      obtain ⟨k1,k2⟩:=jgv hm (fun _=>rfl) hk hps hrel
      exact ⟨.returned u,w',fr',⟨u,c'.φ,rfl,hm.below,fun i hi=>hm.lo i hi,hm.hi,hfresh,k1,k2⟩,hsteps,hfr.fn.trans hfn,⟨hmode,hd',hfr.kind,fn,by rw [hfr.fn,hfn]; exact hf,hu⟩⟩
     ·simp at ho
    ·simp at ho
   ·simp at ho
  ·simp at ho
 ·simp at ho
def Fin (cf:Cfg) (f:FuncId) (s:ASt) (res:AV):Prop:=∃ s',(∀ base w0 cs0,Reach cf base w0 cs0 s s')∧Gq cf f s'=some res
theorem Fin.pure (hK:KnowOk cf.P cf.glob cf.K) {f:FuncId} {args:List AV} {a:AFrame} (ha:ka cf.P f args=some a) {res:AV} (h:Fin cf f ⟨a,[],[]⟩ res):PureCalls cf.P cf.glob f args res:=by
 obtain ⟨s',h1,h2⟩:=h
 exact Gs hK ha h1 h2
theorem Fin.step {f:FuncId} {s s':ASt} {res:AV} (hr:∀ base w0 cs0,Reach cf base w0 cs0 s s') (h:Fin cf f s' res):Fin cf f s res:=by
 obtain ⟨s'',h1,h2⟩:=h
 exact ⟨s'',fun base w0 cs0=>Reach.trans (hr base w0 cs0) (h1 base w0 cs0),h2⟩
end
def swN (i j b:Nat):Nat:=bif Nat.beq b i then j else bif Nat.beq b j then i else b
theorem jmv {x y:Nat} (h:x≠y):Nat.beq x y=false:=by
 cases hb:Nat.beq x y with
 | false=>rfl
 | true=>exact absurd (Nat.eq_of_beq_eq_true hb) h
theorem jbJ (i j b:Nat):swN i j (swN i j b)=b:=by
 have e:∀ x y:Nat,Nat.beq x y=decide (x=y):=by
  intro x y
  by_cases h:x=y
  ·subst h; simp
  ·rw [decide_eq_false h]; exact jmv h
 unfold swN
 simp only [e,cond_eq_ite,decide_eq_true_eq]
 split
 ·rename_i h
  split <;> simp_all
 ·rename_i h
  split
  ·simp_all
  ·simp_all
mutual
def swA (p:Nat→Nat):AV→AV
 | .ptr b off=>.ptr (p b) off
 | .own b e sz n xs=>.own (p b) e sz n xs
 | .ms b off sz n cap=>.ms (p b) off sz n cap
 | .yl b=>.yl (p b)
 | .mp b=>.mp (p b)
 | .gx b x=>.gx (p b) x
 | .fn f fs cs=>.fn f (qg p fs) (qg p cs)
 | .agg cs=>.agg (qg p cs)
 | .tup cs=>.tup (qg p cs)
 | .opt b x=>.opt b (swA p x)
 | a=>a
def qg (p:Nat→Nat):List AV→List AV
 | []=>[]
 | a :: as=>swA p a :: qg p as
end
def swI (p:Nat→Nat):AItem→AItem
 | .inRng b=>.inRng (p b)
 | .endRng b=>.endRng (p b)
 | .regL ops i us=>.regL ops i (us.map fun x=>(x.1,swA p x.2))
 | x=>x
def swF (p:Nat→Nat) (f:AFrame):AFrame :=
 { fn:=f.fn,tmps:=qg p f.tmps,todo:=f.todo.map (swI p),defers:=f.defers.map p,ret:=f.ret,roundOf:=match f.roundOf with
  | some b=>some (p b)
  | none=>none }
def swK (p:Nat→Nat):ABlk→ABlk
 | .cells cs t=>.cells (qg p cs) t
 | .loop l=>.loop { state:=l.state,pending:=l.pending,fn:=l.fn,tmps:=qg p l.tmps,params:=l.params,assign:=l.assign,body:=l.body,defers:=p l.defers }
 | .itr (.it b s seen l)=>.itr (.it (p b) s seen l)
 | x=>x
def y7:List AV→Bool
 | []=>true
 | .d _ :: as=>y7 as
 | _ :: _=>false
def flatK:ABlk→Bool
 | .cells cs _=>y7 cs
 | _=>false
def swH (p:Nat→Nat) (df:List Nat):Nat→List ABlk→List ABlk × List PC
 | _,[]=>([],[])
 | x,b :: bs=>match swH p df (x+1) bs with
  | (r,ps)=>if df.contains x then (b :: r,.prop (flatK b=true) :: ps) else (swK p b :: r,ps)
theorem jc6 {p:Nat→Nat}:∀ {cs:List AV},y7 cs=true→qg p cs=cs
 | [],_=>rfl
 | a :: as,h=>by
  cases a <;> simp only [y7] at h <;> first | (simp at h; done) | skip
  simp only [qg,swA,jc6 h]
theorem jin {p:Nat→Nat} {k:ABlk} (h:flatK k=true):swK p k=k:=by
 cases k <;> simp only [flatK] at h <;> first | (simp at h; done) | skip
 simp only [swK,jc6 h]
theorem jew {p:Nat→Nat} {df:List Nat}:∀ {H:List ABlk} {x:Nat},AllP (swH p df x H).2→(swH p df x H).1=H.map (swK p)
 | [],_,_=>rfl
 | b :: bs,x,h=>by
  simp only [swH] at h ⊢
  split at h
  ·rename_i hc
   obtain ⟨h1,h2⟩:=h
   have h1:flatK b=true:=h1
   simp only [hc,if_true,List.map_cons,jin h1,jew h2]
  ·rename_i hc
   simp only [hc,List.map_cons,jew h]
   rfl
def Ctx.sw (c:Ctx) (p:Nat→Nat):Ctx:={ ρ:=fun b=>c.ρ (p b),τ:=fun b=>c.τ (p b),σ:=fun b=>c.σ (p b),φ:=c.φ,live:=fun b=>c.live (p b),tl:=fun b=>c.tl (p b),γ:=fun b=>c.γ (p b),γn:=fun b=>c.γn (p b) }
section
variable {c:Ctx} {w:World} {p:Nat→Nat}
mutual
theorem Rel.sw (hp:∀ b,p (p b)=b):∀ {x:AV} {u:Value},Rel c w x u→Rel (c.sw p) w (swA p x) u
 | .d x,u,hr=>by unfold swA; unfold Rel at hr ⊢; exact hr
 | .ptr b off,u,hr=>by unfold swA; unfold Rel at hr ⊢; simp only [Ctx.sw,hp]; exact hr
 | .ip cs,u,hr=>by unfold swA; unfold Rel at hr ⊢; exact hr
 | .own b e sz n xs,u,hr=>by
  unfold swA
  unfold Rel jn9 at hr ⊢
  simp only [Ctx.sw,hp]
  exact hr
 | .ms b off _ n cap,u,hr=>by unfold swA; unfold Rel at hr ⊢; simp only [Ctx.sw,hp]; exact hr
 | .fn f fs cs,u,hr=>by
  unfold swA; unfold Rel at hr ⊢
  obtain ⟨hf,us,vs,rfl,h1,h2⟩:=hr
  exact ⟨hf,us,vs,rfl,Rels.sw hp h1,Rels.sw hp h2⟩
 | .yl b,u,hr=>by unfold swA; unfold Rel at hr ⊢; simp only [Ctx.sw,hp]; exact hr
 | .em,u,hr=>by unfold swA; unfold Rel at hr ⊢; exact hr
 | .nan k,u,hr=>by unfold swA; unfold Rel at hr ⊢; exact hr
 | .mp b,u,hr=>by unfold swA; unfold Rel at hr ⊢; simp only [Ctx.sw,hp]; exact hr
 | .gx b x,u,hr=>by unfold swA; unfold Rel at hr ⊢; simp only [Ctx.sw,hp]; exact ⟨hr.1,hr.2.1,by cases x <;> simpa only [GRel,hp] using hr.2.2⟩
 | .agg cs,u,hr=>by unfold swA; unfold Rel at hr ⊢; obtain ⟨us,rfl,h1⟩:=hr; exact ⟨us,rfl,Rels.sw hp h1⟩
 | .tup cs,u,hr=>by unfold swA; unfold Rel at hr ⊢; obtain ⟨us,rfl,h1⟩:=hr; exact ⟨us,rfl,Rels.sw hp h1⟩
 | .opt b x,u,hr=>by
  unfold swA; unfold Rel at hr ⊢
  intro h1
  exact Rel.sw hp (hr h1)
 | .any,u,hr=>by unfold swA; unfold Rel; trivial
theorem Rels.sw (hp:∀ b,p (p b)=b):∀ {xs:List AV} {us:List Value},Rels c w xs us→Rels (c.sw p) w (qg p xs) us
 | [],us,hr=>by unfold qg; rw [hr.nil_inv]; exact Rels.nil
 | x :: xs,us,hr=>by
  obtain ⟨u,r,rfl,hu,t⟩:=hr.cons_inv
  unfold qg
  exact Rels.cons (Rel.sw hp hu) (Rels.sw hp t)
end
theorem IRel.sw (hp:∀ b,p (p b)=b) {x:AItem} {y:Item} (hr:IRel c x y):IRel (c.sw p) (swI p x) y:=by
 cases x <;> first | exact hr | (obtain ⟨h1,h2⟩:=hr; exact ⟨by simp only [Ctx.sw,hp]; exact h1,by simp only [Ctx.sw,hp]; exact h2⟩)
theorem IRels.sw (hp:∀ b,p (p b)=b):∀ {xs:List AItem} {ys:List Item},IRels c xs ys→IRels (c.sw p) (xs.map (swI p)) ys
 | [],_,hr=>hr
 | _ :: _,_,hr=>by
  obtain ⟨y,ys,rfl,h1,h2⟩:=hr
  exact IRels.cons (IRel.sw hp h1) (IRels.sw hp h2)
theorem FRel.sw (hp:∀ b,p (p b)=b) {a:AFrame} {fr:Frame} (hr:FRel c w a fr):FRel (c.sw p) w (swF p a) fr:=by
 refine ⟨hr.fn,Rels.sw hp hr.tmps,IRels.sw hp hr.todo,⟨fun d hd=>?_,?_⟩,hr.mode,hr.kind,?_⟩
 ·obtain ⟨d0,h0,rfl⟩:=List.mem_map.1 hd
  simp only [Ctx.sw,hp]
  exact hr.defers.1 d0 h0
 ·rw [hr.defers.2]
  simp only [swF,List.map_map]
  apply List.map_congr_left
  intro d _
  simp only [Function.comp,Ctx.sw,hp]
 ·have:=hr.ro
  simp only [swF]
  cases hro:a.roundOf with
  | none=>rw [hro] at this; exact this
  | some b =>
   rw [hro] at this
   obtain ⟨hl,he⟩:=this
   exact ⟨by simp only [Ctx.sw,hp]; exact hl,by simp only [Ctx.sw,hp]; exact he⟩
theorem jbV {p:Nat→Nat}:∀ {ts:List AV} {i:Nat} {v:AV},qg p (ts.set i v)=(qg p ts).set i (swA p v)
 | [],_,_=>by simp [qg]
 | t :: ts,0,v=>by simp [qg]
 | t :: ts,i+1,v=>by simp [qg,jbV]
theorem gJ {p:Nat→Nat} {ops:Array Oper}:∀ {l:List (Nat × AV)} {ts:List AV},qg p (Jh ops ts l)=Jh ops (qg p ts) (l.map fun x=>(x.1,swA p x.2))
 | [],_=>rfl
 | x :: l,ts=>by
  simp only [Jh,List.map_cons]
  rw [gJ]
  cases JM ops x.1 with
  | none=>rfl
  | some d=>simp only [setT,jbV]
theorem jhf {p:Nat→Nat} {a:AFrame} (d:Nat):swF p (KP a d)=KP (swF p a) d:=by
 unfold KP
 split
 ·rename_i ops i us kk ht
  simp only [swF,ht,List.map_cons,swI,gJ,List.map_take,List.map_drop,List.map_map]
  rfl
 ·rename_i ht
  split
  ·rename_i ops i us kk ht2
   exfalso
   simp only [swF] at ht2
   cases ha:a.todo with
   | nil=>rw [ha] at ht2; simp at ht2
   | cons x xs =>
    rw [ha] at ht2
    simp only [List.map_cons,List.cons.injEq] at ht2
    cases x <;> simp [swI] at ht2
    exact ht _ _ _ _ ha
  ·rfl
theorem FRelC.sw (hp:∀ b,p (p b)=b) {a:AFrame} {fr:Frame} (hr:FRelC c w a fr):FRelC (c.sw p) w (swF p a) fr:=by
 obtain ⟨d,hr⟩:=hr
 exact ⟨d,by rw [← jhf]; exact FRel.sw hp hr⟩
theorem FRels.sw (hp:∀ b,p (p b)=b):∀ {xs:List AFrame} {ys:List Frame},FRels c w xs ys→FRels (c.sw p) w (xs.map (swF p)) ys
 | [],_,hr=>hr
 | _ :: _,_,hr=>by
  obtain ⟨y,ys,rfl,h1,h2⟩:=hr
  exact ⟨y,ys,rfl,FRelC.sw hp h1,FRels.sw hp h2⟩
theorem jdO (hp:∀ b,p (p b)=b) (b:Nat) (k:ABlk):loc (c.sw p) (p b) (swK p k)=loc c b k:=by
 cases k with
 | itr i=>cases i <;> simp only [swK,loc,Ctx.sw,hp]
 | _=>simp only [swK,loc,Ctx.sw,hp]
theorem ZM (k:ABlk):(swK p k).owns=k.owns∧(swK p k).isLive=k.isLive∧(swK p k).isTail=k.isTail:=by
 cases k with
 | itr i=>cases i <;> exact ⟨rfl,rfl,rfl⟩
 | _=>exact ⟨rfl,rfl,rfl⟩
theorem BRel.sw (hp:∀ b,p (p b)=b) {base b:Nat} {k:ABlk} (h:BRel c w base b k):BRel (c.sw p) w base (p b) (swK p k):=by
 cases k with
 | gone=>trivial
 | dead=>trivial
 | cells cs t =>
  obtain ⟨h1,h2,us,rest,h3,h4⟩:=h
  simp only [swK]
  unfold BRel
  simp only [Ctx.sw,hp]
  exact ⟨h1,h2,us,rest,h3,Rels.sw hp h4⟩
 | tail e=>simp only [swK]; unfold BRel at h ⊢; simp only [Ctx.sw,hp]; exact h
 | loop l =>
  obtain ⟨h1,h2,us,h3,h4⟩:=h
  simp only [swK]
  unfold BRel
  simp only [Ctx.sw,hp]
  exact ⟨h1,h2,us,h3,Rels.sw hp h4⟩
 | defd=>simp only [swK]; unfold BRel at h ⊢; simp only [Ctx.sw,hp]; exact h
 | mp m=>simp only [swK]; unfold BRel at h ⊢; simp only [Ctx.sw,hp]; exact h
 | grid e q rs=>simp only [swK]; unfold BRel ja9 jeT at h ⊢; simp only [Ctx.sw,hp]; exact h
 | itr i =>
  obtain ⟨h1,o,h2,h3⟩:=h
  cases i with
  | si s pos =>
   simp only [swK]; unfold BRel; simp only [Ctx.sw,hp]; exact ⟨h1,o,h2,h3⟩
  | it b' s seen l =>
   simp only [swK]; unfold BRel; simp only [Ctx.sw,hp]
   obtain ⟨q1,q2⟩:=h3
   exact ⟨h1,o,h2,by simp only [ItRel,Ctx.sw,hp]; exact ⟨q1,q2⟩⟩
theorem jca (k:ABlk):jO (swK p k)=jO k:=by
 cases k with
 | itr i=>cases i <;> rfl
 | _=>rfl
theorem WRel.sw (hp:∀ b,p (p b)=b) {base:Nat} {w0:Start} {H H':List ABlk} (h:WRel base w0 c w H) (hH:∀ b:Nat,H'[b]? = (H[p b]?).map (swK p)):WRel base w0 (c.sw p) w H':=by
 have hget:∀ (b:Nat) (k:ABlk),H'[b]? = some k→∃ k0,H[p b]? = some k0∧k=swK p k0:=by
  intro b k hk
  rw [hH] at hk
  cases h0:H[p b]? with
  | none=>rw [h0] at hk; simp at hk
  | some k0=>rw [h0] at hk; simp at hk; exact ⟨k0,rfl,hk.symm⟩
 have hopt:∀ (f:ABlk→Bool),(∀ k,f (swK p k)=f k)→∀ b:Nat,((H'[b]?).map f).getD false=((H[p b]?).map f).getD false:=by
  intro f hf b
  rw [hH]
  cases H[p b]? with
  | none=>rfl
  | some k=>simp [hf]
 refine ⟨h.below,h.le,?_,?_,?_,?_,h.hi,h.lo,?_⟩
 ·intro b k hk
  obtain ⟨k0,h0,rfl⟩:=hget b k hk
  have:=BRel.sw hp (h.blk _ _ h0)
  rw [hp] at this
  exact this
 ·intro b
  rw [hopt ABlk.isLive (fun k=>(ZM k).2.1) b]
  exact h.live (p b)
 ·intro b
  rw [hopt ABlk.isTail (fun k=>(ZM k).2.2) b]
  exact h.tl (p b)
 ·intro b b' k k' hk hk' ho ho' he
  obtain ⟨k0,h0,rfl⟩:=hget b k hk
  obtain ⟨k1,h1,rfl⟩:=hget b' k' hk'
  rw [(ZM k0).1] at ho
  rw [(ZM k1).1] at ho'
  have e0:=jdO (c:=c) hp (p b) k0
  have e1:=jdO (c:=c) hp (p b') k1
  rw [hp] at e0 e1
  rw [e0,e1] at he
  have:=h.inj _ _ _ _ h0 h1 ho ho' he
  rw [← hp b,this,hp]
 ·intro b k hk id hid
  obtain ⟨k0,h0,rfl⟩:=hget b k hk
  rw [jca] at hid
  obtain ⟨g1,g2,g3,g4⟩:=h.row _ _ h0 id hid
  refine ⟨g1,g2,?_,?_⟩
  ·intro b' k' hk' ho' he
   obtain ⟨k1,h1,rfl⟩:=hget b' k' hk'
   rw [(ZM k1).1] at ho'
   have e1:=jdO (c:=c) hp (p b') k1
   rw [hp] at e1
   rw [e1] at he
   exact g3 _ _ h1 ho' he
  ·intro b' k' id' hk' hid' he
   obtain ⟨k1,h1,rfl⟩:=hget b' k' hk'
   rw [jca] at hid'
   obtain ⟨q1,q2⟩:=g4 _ _ id' h1 hid' he
   exact ⟨by rw [← hp b',q1,hp],q2⟩
end
def swS (i j:Nat) (df:List Nat) (s:ASt):Option (ASt × List PC) :=
 match swH (swN i j) df 0 s.H with
 | (r,ps)=>match r[i]?,r[j]? with
  | some x,some y=>some (⟨swF (swN i j) s.fr,s.cs.map (swF (swN i j)),(r.set i y).set j x⟩,ps)
  | _,_=>none
theorem jo9 {i j b:Nat} (h1:b≠i) (h2:b≠j):swN i j b=b:=by
 unfold swN
 rw [jmv h1,jmv h2]
 rfl
theorem jnv (i j:Nat):swN i j i=j:=by unfold swN; rw [show Nat.beq i i=true from by simp]; rfl
theorem jv4 (i j:Nat):swN i j j=i:=by
 by_cases h:j=i
 ·subst h; exact jnv j j
 ·unfold swN
  rw [jmv h,show Nat.beq j j=true from by simp]
  rfl
theorem jpX {cf:Cfg} {base:Nat} {w0:Start} {cs0:List Frame} {i j:Nat} {df:List Nat} {s s':ASt} {ps:List PC} (h:swS i j df s=some (s',ps)) (hp:AllP ps):Reach cf base w0 cs0 s s':=by
 unfold swS at h
 split at h
 rename_i r qs hr
 split at h
 ·rename_i x y hx hy
  simp only [Option.some.injEq,Prod.mk.injEq] at h
  obtain ⟨rfl,rfl⟩:=h
  have hrH:r=s.H.map (swK (swN i j)):=by
   have:=jew (p:=swN i j) (df:=df) (H:=s.H) (x:=0) (by rw [hr]; exact hp)
   rw [hr] at this; exact this
  subst hrH
  intro c w fr frs hs
  obtain ⟨hfr,hfrs,hm,hgl⟩:=hs
  refine ⟨c.sw (swN i j),w,fr,frs,⟨FRel.sw (jbJ i j) hfr,FRels.sw (jbJ i j) hfrs,WRel.sw (jbJ i j) hm ?_,hgl⟩,Steps.refl _ _⟩
  intro b
  have hi:i<(s.H.map (swK (swN i j))).length:=(List.getElem?_eq_some_iff.1 hx).1
  have hj:j<(s.H.map (swK (swN i j))).length:=(List.getElem?_eq_some_iff.1 hy).1
  by_cases hbj:b=j
  ·subst hbj
   rw [List.getElem?_set_self (by simpa using hj),jv4,← List.getElem?_map,hx]
  ·rw [List.getElem?_set_ne (Ne.symm hbj)]
   by_cases hbi:b=i
   ·subst hbi
    rw [List.getElem?_set_self hi,jnv,← List.getElem?_map,hy]
   ·rw [List.getElem?_set_ne (Ne.symm hbi),jo9 hbi hbj,← List.getElem?_map]
 ·simp at h
end Go.Kv
