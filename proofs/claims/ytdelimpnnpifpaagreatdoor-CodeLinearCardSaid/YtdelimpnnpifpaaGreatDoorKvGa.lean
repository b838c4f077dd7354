import Derived.Test.YtdelimpnnpifpaaGreatDoorKvHf
set_option linter.all false
namespace Go.Kv
open Go Go.RowKit
theorem RelDs.set {φ:Nat→Nat} {w:World}:∀ {xs:List DV} {us:List Value},RelDs φ w xs us→∀ (i:Nat) {x:DV} {u:Value},RelD φ w x u→RelDs φ w (xs.set i x) (us.set i u)
 | [],us,h,i,x,u,_=>by rw [h.nil_inv]; exact RelDs.nil
 | y :: ys,us,h,i,x,u,hx=>by
  obtain ⟨v,r,rfl,hv,t⟩:=h.cons_inv
  cases i with
  | zero=>exact RelDs.cons hx t
  | succ i=>exact RelDs.cons hv (RelDs.set t i hx)
section
variable {cf:Cfg} {base:Nat} {w0:Start} {c:Ctx} {w:World} {H:List ABlk}
theorem WRel.updG (h:WRel base w0 c w H) {b e:Nat} {p:List Nat} {rs:List (List DV)} (h0:H[b]? = some (.grid e p rs)) {r:Nat} (hr:r=c.τ b∨∃ id,id<rs.length∧r=c.γ b id)
  {cur cur':Array Value} {t:TypeId} (hg:w.heap[r]? = some (.cells cur t (0,0))) (hs:cur'.size=cur.size) (hφ:c.φ r=0) {p':List Nat} {rs':List (List DV)} (hl:rs'.length=rs.length)
  (hb:Ctx.Le c w c (w.setRow r cur')→BRel c (w.setRow r cur') base b (.grid e p' rs')) :
  Ctx.Le c w c (w.setRow r cur')∧WRel base w0 c (w.setRow r cur') (H.set b (.grid e p' rs')):=by
 have hbr:=h.blk b _ h0
 have hlt:r<w.heap.size:=(Array.getElem?_eq_some_iff.1 hg).1
 have hle:Ctx.Le c w c (w.setRow r cur') :=
  ⟨fun _ h=>h,fun _ _=>rfl,fun _=>Nat.le_refl _,fun _ h=>h,fun _ _=>Nat.le_refl _,fun _ _ _ _=>⟨rfl,rfl⟩,
   fun bk o ho=>KG _ _ _ _ _ (by intro he; rw [he,hφ] at ho; omega),fun bk k hk=>Je hg hs hk,fun _ _=>⟨Nat.le_refl _,fun _ _=>rfl⟩⟩
 have hbase:base≤r:=by
  rcases hr with rfl | ⟨id,hid,rfl⟩
  ·exact hbr.1.2
  ·exact (h.row b _ h0 id hid).1
 have hlb:b<H.length:=(List.getElem?_eq_some_iff.1 h0).1
 have hget:∀ i,(H.set b (.grid e p' rs'))[i]? = if i=b then some (.grid e p' rs') else H[i]? := by
  intro i
  by_cases hi:i=b
  ·subst hi; simp [hlb]
  ·simp [List.getElem?_set_ne (Ne.symm hi),hi]
 have hloc:∀ i k,i≠b→H[i]? = some k→k.owns=true→loc c i k≠r:=by
  intro i k hi hk ho he
  rcases hr with rfl | ⟨id,hid,rfl⟩
  ·exact hi (h.inj i b _ _ hk h0 ho rfl he)
  ·exact (h.row b _ h0 id hid).2.2.1 i k hk ho he
 have hrow:∀ i k id,i≠b→H[i]? = some k→id<jO k→c.γ i id≠r:=by
  intro i k id hi hk hid he
  rcases hr with rfl | ⟨id0,hid0,rfl⟩
  ·exact (h.row i k hk id hid).2.2.1 b _ h0 rfl he.symm
  ·exact hi ((h.row b _ h0 id0 hid0).2.2.2 i k id hk hid he).1
 refine ⟨hle,⟨h.below.trans ⟨⟨rfl,rfl,rfl,by simp,fun i hi=>jL _ _ _ _ (by omega)⟩,fun _=>Nat.le_refl _⟩,by simpa using h.le,?_,?_,?_,?_,fun i hi=>h.hi i (by simpa using hi),h.lo,?_⟩⟩
 ·intro i k hk
  rw [hget] at hk
  by_cases hi:i=b
  ·simp [hi] at hk; subst hk; rw [hi]; exact hb hle
  ·simp [hi] at hk
   exact BRel.mono hle (by rw [h.live i,Jc hk]) (h.blk i k hk) (fun ho=>jL _ _ _ _ (hloc i k hi hk ho)) (fun _=>rfl) rfl rfl
    (fun id hid=>⟨jL _ _ _ _ (hrow i k id hi hk hid),rfl⟩)
 ·intro i
  rw [hget]
  by_cases hi:i=b
  ·rw [h.live i,hi,h0]; simp; rfl
  ·simp only [hi,if_false]; exact h.live i
 ·intro i
  rw [hget]
  by_cases hi:i=b
  ·rw [h.tl i,hi,h0]; simp; rfl
  ·simp only [hi,if_false]; exact h.tl i
 ·have hold:∀ i k,(if i=b then some (ABlk.grid e p' rs') else H[i]?)=some k→k.owns=true→∃ k2,H[i]? = some k2∧k2.owns=true∧loc c i k=loc c i k2:=by
   intro i k hk ho
   by_cases hi:i=b
   ·simp [hi] at hk; subst hk; rw [hi]; exact ⟨_,h0,rfl,rfl⟩
   ·simp [hi] at hk; exact ⟨k,hk,ho,rfl⟩
  intro i j k k' hk hk' ho ho' he
  rw [hget] at hk hk'
  obtain ⟨k2,q1,q2,q3⟩:=hold i k hk ho
  obtain ⟨k3,q4,q5,q6⟩:=hold j k' hk' ho'
  exact h.inj i j k2 k3 q1 q4 q2 q5 (by rw [← q3,← q6]; exact he)
 ·have hold:∀ i k,(if i=b then some (ABlk.grid e p' rs') else H[i]?)=some k→∃ k2,H[i]? = some k2∧(k.owns=true→k2.owns=true∧loc c i k=loc c i k2)∧jO k2=jO k:=by
   intro i k hk
   by_cases hi:i=b
   ·simp [hi] at hk; subst hk; rw [hi]; exact ⟨_,h0,fun _=>⟨rfl,rfl⟩,hl.symm⟩
   ·simp [hi] at hk; exact ⟨k,hk,fun ho=>⟨ho,rfl⟩,rfl⟩
  intro i k hk id hid
  rw [hget] at hk
  obtain ⟨k2,q1,_,q3⟩:=hold i k hk
  refine (h.row i k2 q1 id (by omega)).of rfl (by simp) ?_ ?_
  ·intro j k' hk' ho'
   rw [hget] at hk'
   obtain ⟨k3,q4,q5,_⟩:=hold j k' hk'
   exact .inr ⟨j,k3,q4,(q5 ho').1,(q5 ho').2⟩
  ·intro j k' hk' _
   rw [hget] at hk'
   obtain ⟨k3,q4,_,q6⟩:=hold j k' hk'
   exact ⟨fun _ _=>rfl,k3,q4,q6⟩
variable {get:Nat→ABlk}
def jba (cf:Cfg) (t:TypeId) (a i:AV):Option ARes :=
 match Q0 i,cf.P.underlying t with
 | some i,some (.slice e)=>match cf.P.info? e with
  | some ie=>if ie.size==1 then
    match a with
    | .gx b (.s ep lo n)=>some ⟨[.le 0 i,.lt i n],.gx b (.q ep (lo+i.toNat)),[]⟩
    | .gx b (.r id m)=>some ⟨[.le 0 i,.lt i m],.gx b (.p id i.toNat),[]⟩
    | _=>none
   else none
  | none=>none
 | _,_=>none
theorem YR {w:World} {bk k k':Nat} (h:Jo w bk k) (hk:k'≤k):Jo w bk k':=by
 obtain ⟨cur,t,fr,h1,h2⟩:=h
 exact ⟨cur,t,fr,h1,Nat.le_trans hk h2⟩
theorem jef {t:TypeId} {a i:AV} {u x:Value} (ha:Rel c w a u) (hx:Rel c w i x) {r:ARes} (hr:jba cf t a i=some r) (hp:AllP r.pcs) :
  ∃ v,(Instr.indexAt t u x).run cf.P w=.ok v w∧Rel c w r.val v∧r.wr=[]:=by
 unfold jba at hr
 split at hr
 ·rename_i n e hn hd
  obtain ⟨k,rfl⟩:=hx.int hn
  split at hr
  ·rename_i ie hie
   split at hr
   ·rename_i hsz
    have hsz:ie.size=1:=by simpa using hsz
    split at hr
    ·rename_i b ep lo m
     simp only [Option.some.injEq] at hr; subst hr
     simp only [AllP,PC.holds,and_true] at hp
     unfold Rel GRel at ha
     obtain ⟨h1,h2,h3,bk,cap,h4,rfl,h5⟩:=ha
     refine ⟨_,JZ hd hie _ _ _ _ _ _ hp.1 hp.2 w,?_,rfl⟩
     unfold Rel GRel
     rw [hsz,Nat.mul_one]
     exact ⟨h1,h2,h3,bk,rfl,fun he=>⟨(h5 he).1,YR (h5 he).2 (Nat.zero_le _)⟩⟩
    ·rename_i b id m
     simp only [Option.some.injEq] at hr; subst hr
     simp only [AllP,PC.holds,and_true] at hp
     unfold Rel GRel at ha
     obtain ⟨h1,h2,h3,cap,h4,rfl⟩:=ha
     refine ⟨_,JZ hd hie _ _ _ _ _ _ hp.1 hp.2 w,?_,rfl⟩
     unfold Rel GRel
     rw [hsz,Nat.mul_one,Nat.zero_add]
     exact ⟨h1,h2,h3,rfl⟩
    ·simp at hr
   ·simp at hr
  ·simp at hr
 ·simp at hr
def Qw (cf:Cfg) (t:TypeId) (a:AV) (get:Nat→ABlk) (dc:Dec):Option ARes :=
 match QT cf.P t with
 | some (_,false)=>match a with
  | .gx b (.q ep i)=>match get b with
   | .grid e p rs=>some ⟨[.eqN ep e,.ltN i p.length],.gx b (.r (p.getD i 0) (rs.getD (p.getD i 0) []).length),[]⟩
   | _=>none
  | .gx b (.p id k)=>match get b,dc with
   | .grid _ _ rs,.as y=>some ⟨[.ltN id rs.length,.prop (Option.map AV.d (List.drop k (rs.getD id []))[0]? = some y)],y,[]⟩
   | _,_=>none
  | _=>none
 | _=>none
theorem jgF (h:WRel base w0 c w H) (hget:∀ b,get b=(H[b]?).getD .gone) {t:TypeId} {a:AV} {u:Value} (ha:Rel c w a u) {dc:Dec} {r:ARes} (hr:Qw cf t a get dc=some r) (hp:AllP r.pcs) :
  ∃ v,(Instr.loadAt t u).run cf.P w=.ok v w∧Rel c w r.val v∧r.wr=[]:=by
 unfold Qw QT at hr
 split at hr
 ·rename_i sz hsz
  split at hsz
  ·rename_i i d hi hd
   simp only [Option.some.injEq,Prod.mk.injEq] at hsz
   obtain ⟨_,hag⟩:=hsz
   have oneCase:∀ (bk off:Nat) (v:Value),w.cell? ⟨bk,off,none⟩=some v→(Instr.loadAt t (.pointer (some ⟨bk,off,none⟩))).run cf.P w=.ok v w:=by
    intro bk off v hc
    simp only [Instr.loadAt,Instr.sureAddr,Sem.run_bind,Sem.run_pure,Result.andThen_ok]
    exact Qi hc hd hag
   split at hr
   ·rename_i b ep j
    split at hr
    ·rename_i e p rs hgb
     simp only [Option.some.injEq] at hr; subst hr
     simp only [AllP,PC.holds,and_true] at hp
     obtain ⟨p1,p2⟩:=hp
     have hH:=jW hget hgb (by simp)
     obtain ⟨⟨hσ,_⟩,⟨_,hn⟩,⟨us,rest,ty,hg,hul,hsl⟩,_⟩:=h.blk b _ hH
     unfold Rel GRel at ha
     obtain ⟨h1,h2,h3,bk,rfl,h5⟩:=ha
     obtain ⟨rfl,_⟩:=h5 (by omega)
     have hpj:p[j]? = some (p.getD j 0):=by rw [List.getD_eq_getElem?_getD,List.getElem?_eq_getElem p2]; rfl
     obtain ⟨xs,cap,g1,g2,g3⟩:=hsl j _ hpj
     have hxs:rs.getD (p.getD j 0) []=xs:=by rw [List.getD_eq_getElem?_getD,g1]; rfl
     have hju:j<us.length:=(List.getElem?_eq_some_iff.1 g3).1
     refine ⟨_,oneCase _ _ (.slice (some ⟨c.γ b (p.getD j 0),0,none⟩) xs.length cap) ?_,?_,rfl⟩
     ·rw [cell_of_row _ _ _ _ _ _ hg]
      simpa [List.getElem?_append_left hju] using g3
     ·simp only [hxs]
      unfold Rel GRel
      exact ⟨h1,h2,by rw [hn]; exact (List.getElem?_eq_some_iff.1 g1).1,cap,g2,rfl⟩
    ·simp at hr
   ·rename_i b id k
    split at hr
    ·rename_i e p rs y hgb
     simp only [Option.some.injEq] at hr; subst hr
     simp only [AllP,PC.holds,and_true] at hp
     obtain ⟨p1,p2⟩:=hp
     have hH:=jW hget hgb (by simp)
     obtain ⟨_,_,_,hrw⟩:=h.blk b _ hH
     unfold Rel GRel at ha
     obtain ⟨h1,h2,h3,rfl⟩:=ha
     have hid:rs[id]? = some (rs.getD id []):=by rw [List.getD_eq_getElem?_getD,List.getElem?_eq_getElem p1]; rfl
     obtain ⟨g1,vs,rest,ty,g2,g3⟩:=hrw id _ hid
     rw [List.getElem?_drop,Nat.add_zero] at p2
     cases hx:(rs.getD id [])[k]? with
     | none=>rw [hx] at p2; simp at p2
     | some x =>
      rw [hx] at p2
      simp only [Option.map_some,Option.some.injEq] at p2
      subst p2
      obtain ⟨v,hv,hrel⟩:=g3.get k x hx
      have hkv:k<vs.length:=(List.getElem?_eq_some_iff.1 hv).1
      refine ⟨v,oneCase _ _ v ?_,by unfold Rel; exact hrel,rfl⟩
      rw [cell_of_row _ _ _ _ _ _ g2]
      simpa [List.getElem?_append_left hkv] using hv
    ·simp at hr
   ·simp at hr
  ·simp at hsz
 ·simp at hr
def kZ (cf:Cfg) (t:TypeId) (a v:AV) (get:Nat→ABlk):Option ARes :=
 match QT cf.P t with
 | some (sz,_)=>if sz==1 then
   match a,v with
   | .gx b (.p id k),.d y=>match get b with
    | .grid e p rs=>some ⟨[.ltN id rs.length,.ltN k (rs.getD id []).length],.any,[(b,.grid e p (rs.set id ((rs.getD id []).set k y)))]⟩
    | _=>none
   | .gx b (.q ep i),.gx b' (.r id m)=>if b==b' then
     match get b with
     | .grid e p rs=>some ⟨[.eqN ep e,.ltN i p.length,.ltN id rs.length,.eqN m (rs.getD id []).length],.any,[(b,.grid e (p.set i id) rs)]⟩
     | _=>none
    else none
   | .gx b (.q ep i),.ms q o z m _=>if o==0&&z==1 then
    match get b,get q with
    | .grid e p rs,.cells cs _=>some ⟨[.eqN ep e,.ltN i p.length,.leN m cs.length,.prop (toDs (cs.take m)=some ((cs.take m).map aD))],.any,[(q,.dead),(b,.grid e (p.set i rs.length) (rs++[(cs.take m).map aD]))]⟩
    | _,_=>none
    else none
   | _,_=>none
  else none
 | none=>none
theorem qW (w:World) {t:TypeId} {i:TypeInfo} (hi:cf.P.info? t=some i) (hsz:i.size=1) {bk off:Nat} {us rest:List Value} {ty:TypeId} (hg:w.heap[bk]? = some (.cells (us++rest).toArray ty (0,0))) (ho:off<us.length) {x:Value} (hx:x.oneCell'=true) :
  (Instr.storeAt t (.pointer (some ⟨bk,off,none⟩)) x).run cf.P w=.ok () (w.setRow bk (us.set off x++rest).toArray):=by
 have hc:=Qa hx
 have hst:=run_storeCells_at cf.P bk off ty x.cells.toList 0 (us++rest).toArray w hg (by rw [hc]; simp; omega) (by rw [hc]; intro u hu; simp at hu; subst hu; exact hx)
 have hsz':¬ (x.cells.size≠i.size):=by rw [hc,hsz]; simp
 simp only [Instr.storeAt,Instr.sureAddr,Sem.run_bind,Sem.run_pure,Result.andThen_ok,storeVar,jY hi,Sem.run_ite,if_neg hsz']
 have e1:us.set off x++rest=us.take off++x.cells.toList++us.drop (off+1)++rest:=by
  rw [List.set_eq_take_append_cons_drop,if_pos ho,hc]
  simp
 rw [e1]
 have hrs:=KO (us:=us) (rest:=rest) (vs:=x.cells.toList) (off:=off) (n:=1) (by omega)
 rw [← hrs]
 simpa [hc] using hst
def zi (cf:Cfg) (t:TypeId) (ev:Operand→AV) (x:Operand) (lo hi mx:Option Operand):Option ARes :=
 match mx,hi with
 | none,none=>match cf.P.underlying t with
  | some (.slice e)=>match cf.P.info? e with
   | some ie=>if ie.size==1 then
     match ev x with
     | .gx b (.s ep l0 n)=>match jS ev lo 0 with
      | some l=>some ⟨[.le 0 l,.lt l n],.gx b (.s ep (l0+l.toNat) (n - l.toNat)),[]⟩
      | none=>none
     | _=>none
    else none
   | none=>none
  | _=>none
 | _,_=>none
theorem jeL {ev:Operand→AV} {av:Operand→Value} (hev:∀ x,Rel c w (ev x) (av x)) {t:TypeId} {x:Operand} {lo hi mx:Option Operand} {r:ARes} (hr:zi cf t ev x lo hi mx=some r) (hp:AllP r.pcs) :
  ∃ v,(Instr.sliceAt t (av x) (lo.map av) (hi.map av) (mx.map av)).run cf.P w=.ok v w∧Rel c w r.val v∧r.wr=[]:=by
 unfold zi at hr
 split at hr
 ·split at hr
  ·rename_i e hd
   split at hr
   ·rename_i ie hie
    split at hr
    ·rename_i hsz
     have hsz:ie.size=1:=by simpa using hsz
     split at hr
     ·rename_i b ep l0 n he
      split at hr
      ·rename_i l hl
       simp only [Option.some.injEq] at hr; subst hr
       simp only [AllP,PC.holds,and_true] at hp
       obtain ⟨p1,p2⟩:=hp
       have hx:=hev x
       rw [he] at hx
       unfold Rel GRel at hx
       obtain ⟨h1,h2,h3,bk,cap,h4,hu,h5⟩:=hx
       have hh:jS ev (none:Option Operand) (n:Int)=some (n:Int):=rfl
       have hb:=JO (P:=cf.P) hev (n:=n) hl hh true cap p1 (by omega) (by omega) (fun _=>h4)
       rw [hu]
       refine ⟨_,Jv hd hie _ _ _ _ _ _ _ w hb,?_,rfl⟩
       have hne:¬ cap=l.toNat:=by omega
       unfold Rel GRel
       refine ⟨h1,h2,h3,bk,cap - l.toNat,by omega,?_,fun he0=>⟨(h5 he0).1,YR (h5 he0).2 (by omega)⟩⟩
       rw [if_neg hne,hsz]
       simp [Addr.add_lit]
      ·simp at hr
     ·simp at hr
    ·simp at hr
   ·simp at hr
  ·simp at hr
 ·simp at hr
def Ctx.gnew (c:Ctx) (b r e:Nat) (g:Nat→Nat) (n:Nat):Ctx :=
 { c with τ:=Ju c.τ b r,σ:=Ju c.σ b e,live:=Ju c.live b true,tl:=Ju c.tl b true,γ:=Ju c.γ b g,γn:=Ju c.γn b n }
theorem WRel.setG (h:WRel base w0 c w H) {b q:Nat} {k0:ABlk} (h0:H[b]? = some k0) (hk0:k0=.gone∨∃ e p rs,k0=.grid e p rs) {cs:List AV} {ty:TypeId} (hq:H[q]? = some (.cells cs ty)) {w':World}
  (hos:w'.os=w.os) (htape:w'.tape=w.tape) (hout:w'.output=w.output∧w.drawn≤w'.drawn) (hsz:w.heap.size≤w'.heap.size) {r:Nat} (hheap:∀ i,i<w.heap.size→i≠r→w'.heap[i]? = w.heap[i]?)
  (hr:r=w.heap.size∨(k0.owns=true∧r=c.τ b)) (hφ:c.φ r=0) (hroom:∀ bk k,Jo w bk k→Jo w' bk k)
  {e:Nat} {g:Nat→Nat} {p':List Nat} {rs':List (List DV)} (he:k0=.gone∨c.σ b<e∨(c.σ b=e∧r=c.τ b)) (hg1:rs'.length=jO k0+1) (hg2:∀ id,id<jO k0→g id=c.γ b id) (hg3:g (jO k0)=c.ρ q)
  (hb:Ctx.Le c w (c.gnew b r e g rs'.length) w'→BRel (c.gnew b r e g rs'.length) w' base b (.grid e p' rs')) :
  Ctx.Le c w (c.gnew b r e g rs'.length) w'∧WRel base w0 (c.gnew b r e g rs'.length) w' ((H.set q .dead).set b (.grid e p' rs')):=by
 have hbq:b≠q:=by
  intro e0; subst e0
  rw [hq] at h0; simp at h0
  rcases hk0 with h1 | ⟨_,_,_,h1⟩ <;> rw [h1] at h0 <;> simp at h0
 have hqb:=h.blk q _ hq
 have hqlt:c.ρ q<w.heap.size:=hqb.loc_lt rfl
 have hlive:c.live b=k0.isLive:=by rw [h.live b,Jc h0]
 have htail:c.tl b=k0.isTail:=by rw [h.tl b,h0]; rfl
 have hn0:k0≠.gone→c.γn b=jO k0:=by
  intro hne
  rcases hk0 with h1 | ⟨e1,p1,rs1,h1⟩
  ·exact absurd h1 hne
  ·subst h1; exact (h.blk b _ h0).2.1.2
 have howns:k0.owns=true→∃ e p rs,k0=.grid e p rs:=by
  intro ho
  rcases hk0 with h1 | h1
  ·subst h1; simp [ABlk.owns] at ho
  ·exact h1
 have hloc0:k0.owns=true→loc c b k0=c.τ b:=by
  intro ho
  obtain ⟨_,_,_,h1⟩:=howns ho
  subst h1; rfl
 have hlt0:∀ i k,H[i]? = some k→k.owns=true→i≠b→loc c i k≠r:=by
  intro i k hk ho hi e0
  rcases hr with rfl | ⟨ho0,rfl⟩
  ·have:=(h.blk i k hk).loc_lt ho; omega
  ·exact hi (h.inj i b k k0 hk h0 ho ho0 (by rw [hloc0 ho0]; exact e0))
 have hrow0:∀ i k id,H[i]? = some k→id<jO k→c.γ i id≠r:=by
  intro i k id hk hid e0
  obtain ⟨_,g2,g3,_⟩:=h.row i k hk id hid
  rcases hr with rfl | ⟨ho0,rfl⟩
  ·omega
  ·exact g3 b k0 h0 ho0 (by rw [hloc0 ho0]; exact e0.symm)
 have hrb:base≤r:=by
  rcases hr with rfl | ⟨ho0,rfl⟩
  ·exact h.le
  ·rw [← hloc0 ho0]; exact (h.blk b k0 h0).loc_ge ho0
 have hrq:r≠c.ρ q:=fun e0=>hlt0 q _ hq rfl (Ne.symm hbq) e0.symm
 have hle:Ctx.Le c w (c.gnew b r e g rs'.length) w':=by
  refine ⟨?_,fun _ _=>rfl,fun _=>Nat.le_refl _,?_,?_,?_,?_,hroom,?_⟩
  ·intro x hx; by_cases hn:x=b <;> simp [Ctx.gnew,Ju,hn,hx]
  ·intro x hx; by_cases hn:x=b <;> simp [Ctx.gnew,Ju,hn,hx]
  ·intro x hx
   by_cases hn:x=b
   ·subst hn
    rcases he with h1 | h1 | h1
    ·subst h1; rw [htail] at hx; simp [ABlk.isTail] at hx
    ·simp [Ctx.gnew]; omega
    ·simp [Ctx.gnew]; omega
   ·simp [Ctx.gnew,jt _ _ hn]
  ·intro x hx hs _
   by_cases hn:x=b
   ·subst hn
    rcases he with h1 | h1 | h1
    ·subst h1; rw [htail] at hx; simp [ABlk.isTail] at hx
    ·simp [Ctx.gnew] at hs; omega
    ·exact ⟨by simp [Ctx.gnew,h1.2],rfl⟩
   ·exact ⟨by simp [Ctx.gnew,jt _ _ hn],rfl⟩
  ·intro bk o ho
   exact World.cell?_of_block (hheap bk (h.cell_lt ho) (by intro e0; rw [e0,hφ] at ho; omega))
  ·intro x hx
   by_cases hn:x=b
   ·subst hn
    have hne:k0≠.gone:=by intro h1; subst h1; rw [hlive] at hx; simp [ABlk.isLive] at hx
    rw [hn0 hne]
    simp only [Ctx.gnew,jz]
    exact ⟨by omega,fun id hid=>hg2 id hid⟩
   ·simp [Ctx.gnew,jt _ _ hn]
 have hlb:b<H.length:=(List.getElem?_eq_some_iff.1 h0).1
 have hlq:q<H.length:=(List.getElem?_eq_some_iff.1 hq).1
 have hget:∀ (i:Nat) (k:ABlk),((H.set q .dead).set b (.grid e p' rs'))[i]? = some k→(i=b∧k=.grid e p' rs')∨(i=q∧k=.dead)∨(i≠b∧i≠q∧H[i]? = some k):=by
  intro i k hk
  by_cases hi:i=b
  ·subst hi; rw [List.getElem?_set_self (by simpa using hlb)] at hk; simp at hk; exact .inl ⟨rfl,hk.symm⟩
  ·rw [List.getElem?_set_ne (Ne.symm hi)] at hk
   by_cases hj:i=q
   ·subst hj; rw [List.getElem?_set_self hlq] at hk; simp at hk; exact .inr (.inl ⟨rfl,hk.symm⟩)
   ·rw [List.getElem?_set_ne (Ne.symm hj)] at hk; exact .inr (.inr ⟨hi,hj,hk⟩)
 have hlocn:∀ (i:Nat) (k:ABlk),i≠b→loc (c.gnew b r e g rs'.length) i k=loc c i k:=by
  intro i k hi
  cases k <;> simp [loc,Ctx.gnew,jt _ _ hi]
 have hlocb:loc (c.gnew b r e g rs'.length) b (.grid e p' rs')=r:=by simp [loc,Ctx.gnew]
 have hγi:∀ i,i≠b→(c.gnew b r e g rs'.length).γ i=c.γ i:=by intro i hi; simp [Ctx.gnew,jt _ _ hi]
 have hγb:(c.gnew b r e g rs'.length).γ b=g:=by simp [Ctx.gnew]
 have hopt:∀ (f:ABlk→Bool),f .dead=f (.cells cs ty)→∀ i:Nat,i≠b→((((H.set q .dead).set b (.grid e p' rs'))[i]?).map f).getD false=((H[i]?).map f).getD false:=by
  intro f hf i hi
  rw [List.getElem?_set_ne (Ne.symm hi)]
  by_cases hj:i=q
  ·subst hj; rw [List.getElem?_set_self hlq,hq]; simp [hf]
  ·rw [List.getElem?_set_ne (Ne.symm hj)]
 have hbk:((H.set q .dead).set b (.grid e p' rs'))[b]? = some (.grid e p' rs'):=List.getElem?_set_self (by simpa using hlb)
 refine ⟨hle,⟨h.below.trans ⟨⟨hos,htape,hout.1,hsz,fun i hi=>hheap i (Nat.lt_of_lt_of_le hi h.le) (by omega)⟩,fun _=>hout.2⟩,Nat.le_trans h.le hsz,?_,?_,?_,?_,fun i hi=>h.hi i (by omega),h.lo,?_⟩⟩
 ·intro i k hk
  rcases hget i k hk with ⟨rfl,rfl⟩ | ⟨rfl,rfl⟩ | ⟨hi,hj,h1⟩
  ·exact hb hle
  ·trivial
  ·exact BRel.mono hle (by rw [h.live i,Jc h1]) (h.blk i k h1) (fun ho=>hheap _ ((h.blk i k h1).loc_lt ho) (hlt0 i k h1 ho hi)) (fun _=>rfl) (by simp [Ctx.gnew,jt _ _ hi]) (by simp [Ctx.gnew,jt _ _ hi])
    (fun id hid=>⟨hheap _ (h.row i k h1 id hid).2.1 (hrow0 i k id h1 hid),rfl⟩) (by simp [Ctx.gnew,jt _ _ hi])
 ·intro i
  by_cases hi:i=b
  ·subst hi; rw [hbk]; simp [Ctx.gnew,ABlk.isLive]
  ·rw [hopt ABlk.isLive rfl i hi,← h.live i]; simp [Ctx.gnew,jt _ _ hi]
 ·intro i
  by_cases hi:i=b
  ·subst hi; rw [hbk]; simp [Ctx.gnew,ABlk.isTail]
  ·rw [hopt ABlk.isTail rfl i hi,← h.tl i]; simp [Ctx.gnew,jt _ _ hi]
 ·intro i j k k' hk hk' ho ho' e0
  rcases hget i k hk with ⟨rfl,rfl⟩ | ⟨rfl,rfl⟩ | ⟨hi1,hi2,h1⟩
  ·rcases hget j k' hk' with ⟨rfl,rfl⟩ | ⟨rfl,rfl⟩ | ⟨hj1,hj2,h2⟩
   ·rfl
   ·simp [ABlk.owns] at ho'
   ·rw [hlocb,hlocn j k' hj1] at e0
    exact absurd e0.symm (hlt0 j k' h2 ho' hj1)
  ·simp [ABlk.owns] at ho
  ·rcases hget j k' hk' with ⟨rfl,rfl⟩ | ⟨rfl,rfl⟩ | ⟨hj1,hj2,h2⟩
   ·rw [hlocb,hlocn i k hi1] at e0
    exact absurd e0 (hlt0 i k h1 ho hi1)
   ·simp [ABlk.owns] at ho'
   ·rw [hlocn i k hi1,hlocn j k' hj1] at e0
    exact h.inj i j k k' h1 h2 ho ho' e0
 ·
  have hrowq:∀ i k id,H[i]? = some k→id<jO k→c.γ i id≠c.ρ q:=fun i k id hk hid e0=>(h.row i k hk id hid).2.2.1 q _ hq rfl e0.symm
  have hold:∀ x,(∃ i k id,H[i]? = some k∧id<jO k∧c.γ i id=x)∨x=c.ρ q→base≤x∧x<w.heap.size∧x≠r∧∀ i k,H[i]? = some k→k.owns=true→i≠q→loc c i k≠x:=by
   rintro x (⟨i,k,id,hk,hid,rfl⟩ | rfl)
   ·obtain ⟨g1,g2,g3,_⟩:=h.row i k hk id hid
    exact ⟨g1,g2,hrow0 i k id hk hid,fun i' k' hk' ho' _=>g3 i' k' hk' ho'⟩
   ·refine ⟨hqb.loc_ge rfl,hqlt,hrq.symm,fun i' k' hk' ho' hi' e0=>hi' (h.inj i' q k' _ hk' hq ho' rfl e0)⟩
  have howner:∀ x,(base≤x∧x<w.heap.size∧x≠r∧∀ i k,H[i]? = some k→k.owns=true→i≠q→loc c i k≠x)→∀ i k,((H.set q .dead).set b (.grid e p' rs'))[i]? = some k→k.owns=true→loc (c.gnew b r e g rs'.length) i k≠x:=by
   rintro x ⟨_,_,q3,q4⟩ i k hk ho
   rcases hget i k hk with ⟨rfl,rfl⟩ | ⟨rfl,rfl⟩ | ⟨hi1,hi2,h1⟩
   ·rw [hlocb]; exact q3.symm
   ·simp [ABlk.owns] at ho
   ·rw [hlocn i k hi1]; exact q4 i k h1 ho hi2
  have hrows:∀ i k id,((H.set q .dead).set b (.grid e p' rs'))[i]? = some k→id<jO k→(∃ k2,H[i]? = some k2∧id<jO k2∧(c.gnew b r e g rs'.length).γ i id=c.γ i id)∨(i=b∧id=jO k0∧(c.gnew b r e g rs'.length).γ i id=c.ρ q):=by
   intro i k id hk hid
   rcases hget i k hk with ⟨rfl,rfl⟩ | ⟨rfl,rfl⟩ | ⟨hi1,hi2,h1⟩
   ·have hid:id<rs'.length:=hid
    rw [hγb]
    by_cases hlast:id=jO k0
    ·exact .inr ⟨rfl,hlast,by rw [hlast]; exact hg3⟩
    ·exact .inl ⟨k0,h0,by omega,hg2 id (by omega)⟩
   ·simp [jO] at hid
   ·exact .inl ⟨k,h1,hid,by rw [hγi i hi1]⟩
  intro i k hk id hid
  have hx:=hrows i k id hk hid
  have hx2:(∃ i2 k2 id2,H[i2]? = some k2∧id2<jO k2∧c.γ i2 id2=(c.gnew b r e g rs'.length).γ i id)∨(c.gnew b r e g rs'.length).γ i id=c.ρ q:=by
   rcases hx with ⟨k2,g1,g2,g3⟩ | ⟨_,_,g3⟩
   ·exact .inl ⟨i,k2,id,g1,g2,g3.symm⟩
   ·exact .inr g3
  have ho:=hold _ hx2
  refine ⟨ho.1,by omega,howner _ ho,?_⟩
  intro i' k' id' hk' hid' e0
  rcases hrows i' k' id' hk' hid' with ⟨k3,g1,g2,g3⟩ | ⟨g1,g2,g3⟩
  ·rcases hx with ⟨k2,f1,f2,f3⟩ | ⟨f1,f2,f3⟩
   ·exact (h.row i k2 f1 id f2).2.2.2 i' k3 id' g1 g2 (by rw [← g3,← f3]; exact e0)
   ·exact absurd (by rw [← g3,e0,f3]) (hrowq i' k3 id' g1 g2)
  ·rcases hx with ⟨k2,f1,f2,f3⟩ | ⟨f1,f2,f3⟩
   ·exact absurd (by rw [← f3,← e0,g3]) (hrowq i k2 id f1 f2)
   ·exact ⟨by rw [g1,f1],by rw [g2,f2]⟩
theorem jdP (h:WRel base w0 c w H) (hget:∀ b,get b=(H[b]?).getD .gone) {t:TypeId} {a v:AV} {u x:Value} (ha:Rel c w a u) (hv:Rel c w v x) {r:ARes} (hr:kZ cf t a v get=some r) (hp:AllP r.pcs) :
  ∃ w' c',(Instr.storeAt t u x).run cf.P w=.ok () w'∧Ctx.Le c w c' w'∧WRel base w0 c' w' (r.wr.foldl (fun H x=>H.set x.1 x.2) H)∧r.val=.any:=by
 unfold kZ QT at hr
 split at hr
 ·rename_i sz ag hsz
  split at hsz
  ·rename_i i d hi hd
   simp only [Option.some.injEq,Prod.mk.injEq] at hsz
   obtain ⟨rfl,_⟩:=hsz
   split at hr
   ·rename_i h1
    have h1:i.size=1:=by simpa using h1
    split at hr
    ·rename_i b id k y
     split at hr
     ·rename_i e p rs hgb
      simp only [Option.some.injEq] at hr; subst hr
      simp only [AllP,PC.holds,and_true] at hp
      obtain ⟨p1,p2⟩:=hp
      have hH:=jW hget hgb (by simp)
      have hbr:=h.blk b _ hH
      obtain ⟨q1,q2,⟨us,rest,ty,hg,hul,hsl⟩,hrw⟩:=hbr
      unfold Rel GRel at ha
      obtain ⟨_,_,_,rfl⟩:=ha
      unfold Rel at hv
      have hid:rs[id]? = some (rs.getD id []):=by rw [List.getD_eq_getElem?_getD,List.getElem?_eq_getElem p1]; rfl
      obtain ⟨g1,vs,rest',ty',g2,g3⟩:=hrw id _ hid
      have hvl:=g3.length
      have hkv:k<vs.length:=by omega
      obtain ⟨r1,r2,r3,r4⟩:=h.row b _ hH id p1
      refine ⟨_,c,qW w hi h1 g2 hkv hv.one,?_⟩
      obtain ⟨u1,u2⟩:=h.updG hH (.inr ⟨id,p1,rfl⟩) g2 (cur':=(vs.set k x++rest').toArray) (by simp) g1 (p':=p) (rs':=rs.set id ((rs.getD id []).set k y)) (by simp) (fun hle=>by
       have hne:c.τ b≠c.γ b id:=r3 b _ hH rfl
       refine ⟨q1,⟨q2.1,by simpa using q2.2⟩,⟨us,rest,ty,by rw [jL _ _ _ _ hne]; exact hg,hul,?_⟩,?_⟩
       ·intro j id' hj
        obtain ⟨xs,cap,a1,a2,a3⟩:=hsl j id' hj
        by_cases he:id'=id
        ·subst he
         rw [hid] at a1
         simp only [Option.some.injEq] at a1; subst a1
         exact ⟨(rs.getD id' []).set k y,cap,by rw [List.getElem?_set_self p1],by simpa using a2,by simpa using a3⟩
        ·exact ⟨xs,cap,by rw [List.getElem?_set_ne (Ne.symm he)]; exact a1,a2,a3⟩
       ·intro id' xs hx
        by_cases he:id'=id
        ·subst he
         rw [List.getElem?_set_self p1] at hx
         simp only [Option.some.injEq] at hx; subst hx
         refine ⟨g1,vs.set k x,rest',ty',setRow_heap w _ _ _ _ _ g2,?_⟩
         exact RelDs.set (RelDs.mono hle g3) k (RelD.mono hle hv)
        ·rw [List.getElem?_set_ne (Ne.symm he)] at hx
         obtain ⟨a1,vs',rest'',ty'',a2,a3⟩:=hrw id' xs hx
         have hid':=(List.getElem?_eq_some_iff.1 hx).1
         have hne':c.γ b id'≠c.γ b id:=fun e0=>he (r4 b _ id' hH hid' e0).2
         exact ⟨a1,vs',rest'',ty'',by rw [jL _ _ _ _ hne']; exact a2,RelDs.mono hle a3⟩)
      exact ⟨u1,u2,rfl⟩
     ·simp at hr
    ·rename_i b ep j b' id m
     split at hr
     ·rename_i hbb
      have hbb:b=b':=by simpa using hbb
      subst hbb
      split at hr
      ·rename_i e p rs hgb
       simp only [Option.some.injEq] at hr; subst hr
       simp only [AllP,PC.holds,and_true] at hp
       obtain ⟨p1,p2,p3,p4⟩:=hp
       have hH:=jW hget hgb (by simp)
       have hbr:=h.blk b _ hH
       obtain ⟨q1,q2,⟨us,rest,ty,hg,hul,hsl⟩,hrw⟩:=hbr
       unfold Rel GRel at ha hv
       obtain ⟨_,_,_,bk,rfl,h5⟩:=ha
       obtain ⟨rfl,_⟩:=h5 (by omega)
       obtain ⟨_,_,_,cap,hcap,rfl⟩:=hv
       have hju:j<us.length:=by omega
       refine ⟨_,c,qW w hi h1 hg hju rfl,?_⟩
       obtain ⟨u1,u2⟩:=h.updG hH (.inl rfl) hg (cur':=(us.set j (.slice (some ⟨c.γ b id,0,none⟩) m cap)++rest).toArray) (by simp) q2.1 (p':=p.set j id) (rs':=rs) rfl (fun hle=>by
        refine ⟨q1,q2,⟨us.set j (.slice (some ⟨c.γ b id,0,none⟩) m cap),rest,ty,setRow_heap w _ _ _ _ _ hg,by simpa using hul,?_⟩,?_⟩
        ·intro j' id' hj
         by_cases he:j'=j
         ·subst he
          rw [List.getElem?_set_self p2] at hj
          simp only [Option.some.injEq] at hj; subst hj
          refine ⟨rs.getD id [],cap,by rw [List.getD_eq_getElem?_getD,List.getElem?_eq_getElem p3]; rfl,by omega,?_⟩
          rw [List.getElem?_set_self hju,← p4]
         ·rw [List.getElem?_set_ne (Ne.symm he)] at hj
          obtain ⟨xs,cap',a1,a2,a3⟩:=hsl j' id' hj
          exact ⟨xs,cap',a1,a2,by rw [List.getElem?_set_ne (Ne.symm he)]; exact a3⟩
        ·intro id' xs hx
         obtain ⟨a1,vs',rest'',ty'',a2,a3⟩:=hrw id' xs hx
         have hid':=(List.getElem?_eq_some_iff.1 hx).1
         obtain ⟨_,_,r3,_⟩:=h.row b _ hH id' hid'
         have hne:c.γ b id'≠c.τ b:=fun e0=>r3 b _ hH rfl e0.symm
         exact ⟨a1,vs',rest'',ty'',by rw [jL _ _ _ _ hne]; exact a2,RelDs.mono hle a3⟩)
       exact ⟨u1,u2,rfl⟩
      ·simp at hr
     ·simp at hr
    ·rename_i b ep j q o z m cp
     split at hr
     rotate_left
     ·simp at hr
     rename_i hoz
     simp only [Bool.and_eq_true,beq_iff_eq] at hoz
     obtain ⟨rfl,rfl⟩:=hoz
     split at hr
     ·rename_i e p rs cs tq hgb hgq
      simp only [Option.some.injEq] at hr; subst hr
      simp only [AllP,PC.holds,and_true] at hp
      obtain ⟨p1,p2,p3,p4⟩:=hp
      have hH:=jW hget hgb (by simp)
      have hq:=jW hget hgq (by simp)
      obtain ⟨⟨hσ,hbase⟩,⟨hφb,hγn⟩,⟨us,rest,ty,hg,hul,hsl⟩,hrw⟩:=h.blk b _ hH
      obtain ⟨hqb,hqφ,vs,qrest,hqg,hqs⟩:=h.blk q _ hq
      have hvl:=hqs.length
      unfold Rel GRel at ha
      obtain ⟨_,_,_,bk,rfl,h5⟩:=ha
      obtain ⟨rfl,_⟩:=h5 (by omega)
      unfold Rel at hv
      obtain ⟨hlq,hmc,cr,hrm,rfl⟩:=hv
      have hmr:m≤cr:=Nat.le_trans hmc hrm.le
      have hju:j<us.length:=by omega
      have hbq:b≠q:=by intro e0; subst e0; rw [hq] at hH; simp at hH
      have hτq:c.τ b≠c.ρ q:=fun e0=>hbq (h.inj b q _ _ hH hq rfl rfl e0)
      have hqlt:c.ρ q<w.heap.size:=(Array.getElem?_eq_some_iff.1 hqg).1
      refine ⟨_,c.gnew b (c.τ b) e (fun id=>if id=rs.length then c.ρ q else c.γ b id) (rs++[(cs.take m).map aD]).length,qW w hi h1 hg hju rfl,?_⟩
      have hsz:((us.set j (Value.slice (some ⟨c.ρ q,0,none⟩) m cr)++rest).toArray).size=((us++rest).toArray).size:=by simp
      obtain ⟨u1,u2⟩:=h.setG (w':=w.setRow (c.τ b) (us.set j (.slice (some ⟨c.ρ q,0,none⟩) m cr)++rest).toArray) hH (.inr ⟨_,_,_,rfl⟩) hq rfl rfl ⟨rfl,Nat.le_refl _⟩ (by simp)
       (r:=c.τ b) (fun i _ hi=>jL _ _ _ _ hi) (.inr ⟨rfl,rfl⟩) hφb (fun bk k hk=>Je hg hsz hk) (e:=e)
       (g:=fun id=>if id=rs.length then c.ρ q else c.γ b id) (p':=p.set j rs.length) (rs':=rs++[(cs.take m).map aD]) (.inr (.inr ⟨by omega,rfl⟩)) (by simp [jO])
       (fun id hid=>by
        have hid:id<rs.length:=hid
        rw [if_neg (by omega)]) (by simp [jO])
       (fun hle=>by
        refine ⟨⟨by simp [Ctx.gnew],by simp only [Ctx.gnew,jz]; exact hbase⟩,⟨by simp only [Ctx.gnew,jz]; exact hφb,by simp [Ctx.gnew]⟩,?_,?_⟩
        ·refine ⟨us.set j (.slice (some ⟨c.ρ q,0,none⟩) m cr),rest,ty,by simp only [Ctx.gnew,jz]; exact setRow_heap w _ _ _ _ _ hg,by simpa using hul,?_⟩
         intro j' id hj
         simp only [Ctx.gnew,jz]
         by_cases he:j'=j
         ·subst he
          rw [List.getElem?_set_self p2] at hj
          simp only [Option.some.injEq] at hj; subst hj
          refine ⟨(cs.take m).map aD,cr,by simp,by simp; omega,?_⟩
          rw [List.getElem?_set_self hju,if_pos rfl]
          simp; omega
         ·rw [List.getElem?_set_ne (Ne.symm he)] at hj
          obtain ⟨xs,cap',a1,a2,a3⟩:=hsl j' id hj
          have hid:=(List.getElem?_eq_some_iff.1 a1).1
          refine ⟨xs,cap',by rw [List.getElem?_append_left hid]; exact a1,a2,?_⟩
          rw [List.getElem?_set_ne (Ne.symm he),if_neg (by omega)]
          exact a3
        ·intro id xs hxs
         simp only [Ctx.gnew,jz]
         by_cases hid:id<rs.length
         ·rw [List.getElem?_append_left hid] at hxs
          obtain ⟨a1,vs',rest',t',a2,a3⟩:=hrw id xs hxs
          rw [if_neg (by omega)]
          obtain ⟨_,_,g3,_⟩:=h.row b _ hH id hid
          have hne:c.γ b id≠c.τ b:=fun e0=>g3 b _ hH rfl e0.symm
          exact ⟨a1,vs',rest',t',by rw [jL _ _ _ _ hne]; exact a2,RelDs.mono hle a3⟩
         ·rw [List.getElem?_append_right (by omega)] at hxs
          have hj0:id - rs.length=0:=by
           cases hjj:id - rs.length with
           | zero=>rfl
           | succ x=>rw [hjj] at hxs; simp at hxs
          rw [hj0] at hxs
          simp only [List.getElem?_cons_zero,Option.some.injEq] at hxs
          subst hxs
          rw [if_pos (by omega)]
          refine ⟨hqφ,vs.take m,vs.drop m++qrest,tq,?_,RelDs.mono hle ((hqs.take m).toDs p4)⟩
          rw [jL _ _ _ _ hτq.symm,hqg,← List.append_assoc,List.take_append_drop])
      exact ⟨u1,u2,rfl⟩
     ·simp at hr
    ·simp at hr
   ·simp at hr
  ·simp at hsz
 ·simp at hr
def jeu (get:Nat→ABlk):AV→Option Nat
 | .ms bx _ _ _ _=>match get bx with
  | .cells [.ms q _ _ _ _] _=>some q
  | _=>none
 | _=>none
def jiJ (get:Nat→ABlk):AV→ABlk
 | .gx b _=>get b
 | _=>.gone
def jfh (cf:Cfg) (ts:Array TypeId) (s:AV) (src:Nat × Nat × List AV) (q0:Nat) (kq kb:ABlk) (nm:Nat):Option ARes :=
 match ts.toList with
 | [t,t']=>if t==t' then
   match cf.P.underlying t with
   | some (.slice e)=>match cf.P.info? e,Qh cf.P e with
    | some ie,some zs=>if zs.length==1&&ie.size==1 then
      match src with
      | (1,1,[.ms q 0 1 m _])=>if q==q0 then
       match kq with
       | .cells cs _=>match s with
        | .gx b (.s ep 0 n)=>match kb with
         | .grid cur p rs=>some ⟨[.eqN ep cur,.eqN n p.length,.fits (n+1) ie.bytes,.leN m cs.length,.prop (toDs (cs.take m)=some ((cs.take m).map aD))],.gx b (.s (cur+1) 0 (n+1)),
           [(q,.dead),(b,.grid (cur+1) (p++[rs.length]) (rs++[(cs.take m).map aD]))]⟩
         | _=>none
        | .d (.v (.slice none 0 0))=>some ⟨[.fits 1 ie.bytes,.leN m cs.length,.prop (toDs (cs.take m)=some ((cs.take m).map aD))],.gx nm (.s 0 0 1),[(q,.dead),(nm,.grid 0 [0] [(cs.take m).map aD])]⟩
        | .em=>some ⟨[.fits 1 ie.bytes,.leN m cs.length,.prop (toDs (cs.take m)=some ((cs.take m).map aD))],.gx nm (.s 0 0 1),[(q,.dead),(nm,.grid 0 [0] [(cs.take m).map aD])]⟩
        | _=>none
       | _=>none
       else none
      | _=>none
     else none
    | _,_=>none
   | _=>none
  else none
 | _=>none
def yW (cf:Cfg) (ts:Array TypeId) (s x:AV) (get:Nat→ABlk) (nm:Nat):Option ARes :=
 match jeu get x,jbo get x with
 | some q0,some src=>jfh cf ts s src q0 (get q0) (jiJ get s) nm
 | _,_=>none
def jfV (dc:Dec) (r:Option ARes):Option ARes:=match dc with
 | .nx true=>r
 | _=>none
theorem jlC {dc:Dec} {r:Option ARes} {x:ARes} (h:jfV dc r=some x):dc=.nx true∧r=some x:=by
 unfold jfV at h
 split at h
 ·exact ⟨rfl,h⟩
 ·simp at h
theorem jlf (h:WRel base w0 c w H) (hget:∀ b,get b=(H[b]?).getD .gone) {nm:Nat} (hnm:H[nm]? = some .gone) {ts:Array TypeId} {ty:TypeId} {s x:AV} {us ux:Value} (hs:Rel c w s us) (hx:Rel c w x ux) {r:ARes}
  (hr:yW cf ts s x get nm=some r) (hp:AllP r.pcs) :
  ∃ w' c' v,(Builtin.append_ ts ty #[us,ux]).run cf.P w=.ok v w'∧Ctx.Le c w c' w'∧WRel base w0 c' w' (r.wr.foldl (fun H x=>H.set x.1 x.2) H)∧Rel c' w' r.val v:=by
 unfold yW at hr
 split at hr
 rotate_left
 ·simp at hr
 rename_i q0 src hlit hsx
 unfold jfh at hr
 split at hr
 ·rename_i t t' hts
  have hts:ts=#[t,t']:=by rw [← Array.toArray_toList (xs:=ts),hts]
  subst hts
  split at hr
  ·rename_i htt
   have htt:t=t':=by simpa using htt
   subst htt
   split at hr
   ·rename_i e hd
    split at hr
    ·rename_i ie zs hie hz
     split at hr
     ·rename_i hzl
      simp only [Bool.and_eq_true,beq_iff_eq] at hzl
      obtain ⟨hzl,hsz⟩:=hzl
      obtain ⟨z,hzz,hzs⟩:=KQ hz hie
      split at hr
      ·rename_i q m cp
       split at hr
       rotate_left
       ·simp at hr
       rename_i hqq
       have hqq:q=q0:=by simpa using hqq
       subst hqq
       obtain ⟨bk,off,cap,news,hux,_,x2,x3,x4,x5,hll⟩:=Y2 h hget hx hsx
       have hux:=hux.pos (by omega)
       subst hux
       obtain ⟨hv,r0,rfl,hv0,hr0⟩:=x4.cons_inv
       have hr0:=hr0.nil_inv
       subst hr0
       unfold Rel at hv0
       obtain ⟨hlq,hmc,cr,hrm,rfl⟩:=hv0
       have hmr:m≤cr:=Nat.le_trans hmc hrm.le
       split at hr
       ·rename_i cs tq hgq
        have hq:=jW hget hgq (by simp)
        obtain ⟨hqb,hqφ,vs,qrest,hqg,hqs⟩:=h.blk q _ hq
        have hvl:=hqs.length
        have rowOk:∀ (w':World) (φ:Nat→Nat) (c':Ctx),c'.φ=c.φ→Ctx.Le c w c' w'→w'.heap[c.ρ q]? = w.heap[c.ρ q]? → m≤cs.length→toDs (cs.take m)=some ((cs.take m).map aD) →
          c'.φ (c.ρ q)=0∧∃ (vs' rest':List Value) (t':TypeId),w'.heap[c.ρ q]? = some (.cells (vs'++rest').toArray t' (0,0))∧RelDs c'.φ w' ((cs.take m).map aD) vs':=by
         intro w' _ c' hφ hle hh hm htd
         refine ⟨by rw [hφ]; exact hqφ,vs.take m,vs.drop m++qrest,tq,?_,RelDs.mono hle ((hqs.take m).toDs htd)⟩
         rw [hh,hqg,← List.append_assoc,List.take_append_drop]
        have newGrid:∀ o,us=.slice o 0 0→Jt 1 ie.bytes→m≤cs.length→toDs (cs.take m)=some ((cs.take m).map aD) →
          ∃ w' c' v,(Builtin.append_ #[t,t] ty #[us,.slice (some ⟨bk,off,none⟩) 1 cap]).run cf.P w=.ok v w'∧Ctx.Le c w c' w'∧WRel base w0 c' w' ((H.set q .dead).set nm (.grid 0 [0] [(cs.take m).map aD]))∧Rel c' w' (.gx nm (.s 0 0 1)) v:=by
         rintro o rfl p1 p2 p3
         have hrun:=K7 (P:=cf.P) w t ty e ie z hd hie hzz o ⟨bk,off,none⟩ 1 cap [.slice (some ⟨c.ρ q,0,none⟩) m cr] (by simp [hsz]) (jZ x3) (by omega) p1.2 p1.1
         obtain ⟨d1,d2⟩:=h.drew
         have hge:=grownCap_ge w 1 0 e
         have hqlt:c.ρ q<w.heap.size:=(Array.getElem?_eq_some_iff.1 hqg).1
         obtain ⟨a1,a2⟩:=d2.setG (w':=w.drew.alloc (.cells ([Value.slice (some ⟨c.ρ q,0,none⟩) m cr].toArray++Builtin.zeroCells z.cells (grownCap w 1 0 e - 1)) e)) hnm (.inl rfl) hq rfl rfl ⟨rfl,Nat.le_refl _⟩ (by simp)
          (r:=w.drew.heap.size) (fun i hi _=>heap_alloc_old _ _ hi) (.inl rfl) (d2.hi _ (Nat.le_refl _)) (fun _ _ hk=>Ka hk) (e:=0) (g:=fun _=>c.ρ q) (p':=[0]) (rs':=[(cs.take m).map aD]) (.inl rfl) rfl (fun id hid=>by simp [jO] at hid) rfl
          (fun hle=>by
           refine ⟨⟨by simp [Ctx.gnew],by simp [Ctx.gnew]; exact h.le⟩,⟨by simp only [Ctx.gnew,jz]; exact d2.hi _ (Nat.le_refl _),by simp [Ctx.gnew]⟩,?_,?_⟩
           ·refine ⟨[.slice (some ⟨c.ρ q,0,none⟩) m cr],(Builtin.zeroCells z.cells (grownCap w 1 0 e - 1)).toList,e,?_,rfl,?_⟩
            ·simp only [Ctx.gnew,jz]
             rw [heap_alloc_new]
             congr 2
             apply Array.ext'; simp
            ·intro j id hj
             cases j with
             | zero =>
              simp at hj; subst hj
              exact ⟨_,cr,rfl,by simp; omega,by simp [Ctx.gnew]; omega⟩
             | succ j=>simp at hj
           ·intro id xs hxs
            cases id with
            | zero =>
             simp only [List.getElem?_cons_zero,Option.some.injEq] at hxs
             subst hxs
             simp only [Ctx.gnew,jz]
             have:=rowOk _ c.φ (c.gnew nm w.drew.heap.size 0 (fun _=>c.ρ q) 1) rfl (d1.trans hle) (by rw [heap_alloc_old _ _ (by simpa using hqlt)]; rfl) p2 p3
             exact this
            | succ id=>simp at hxs)
         refine ⟨_,_,_,hrun,d1.trans a1,a2,?_⟩
         unfold Rel GRel
         refine ⟨by simp [Ctx.gnew],by simp [Ctx.gnew],Nat.zero_le _,w.heap.size,_,hge,rfl,fun _=>⟨by simp [Ctx.gnew],?_⟩⟩
         refine ⟨_,_,_,by simp only [Ctx.gnew,jz]; exact heap_alloc_new _ _,?_⟩
         rw [Array.size_append,j7,hzs,hzl]
         simp; omega
        split at hr
        ·rename_i b ep n
         split at hr
         ·rename_i cur p rs hgb
          have hgb:get b=.grid cur p rs:=hgb
          simp only [Option.some.injEq] at hr; subst hr
          simp only [AllP,PC.holds,and_true] at hp
          obtain ⟨p1,p2,p3,p4,p5⟩:=hp
          have hH:=jW hget hgb (by simp)
          obtain ⟨⟨hσ,hbase⟩,⟨hφb,hγn⟩,⟨us,rest,tb,hg,hul,hsl⟩,hrw⟩:=h.blk b _ hH
          unfold Rel GRel at hs
          obtain ⟨hbt,hbl,_,bk2,cap2,hcap2,rfl,h5⟩:=hs
          obtain ⟨rfl,hrm2⟩:=h5 (by omega)
          have hbq:b≠q:=by intro e0; subst e0; rw [hq] at hH; simp at hH
          have hτq:c.τ b≠c.ρ q:=fun e0=>hbq (h.inj b q _ _ hH hq rfl rfl e0)
          have main:∀ (w1 w':World) (r':Nat) (rest'':List Value) (t'':TypeId),WRel base w0 c w1 H→Ctx.Le c w c w1→w1.heap=w.heap→w'.os=w1.os→w'.tape=w1.tape→(w'.output=w1.output∧w1.drawn≤w'.drawn) →
            w1.heap.size≤w'.heap.size→(∀ i,i<w1.heap.size→i≠r'→w'.heap[i]? = w1.heap[i]?)→(r'=w1.heap.size∨r'=c.τ b)→c.φ r'=0→(∀ bk k,Jo w1 bk k→Jo w' bk k) →
            w'.heap[r']? = some (.cells (us++[Value.slice (some ⟨c.ρ q,0,none⟩) m cr]++rest'').toArray t'' (0,0)) →
            Ctx.Le c w1 (c.gnew b r' (cur+1) (fun id=>if id=rs.length then c.ρ q else c.γ b id) (rs++[(cs.take m).map aD]).length) w' ∧
            WRel base w0 (c.gnew b r' (cur+1) (fun id=>if id=rs.length then c.ρ q else c.γ b id) (rs++[(cs.take m).map aD]).length) w' ((H.set q .dead).set b (.grid (cur+1) (p++[rs.length]) (rs++[(cs.take m).map aD]))):=by
           intro w1 w' r' rest'' t'' h1 hle1 heq k1 k2 k3 k4 k5 k6 k7 k8 k9
           refine h1.setG hH (.inr ⟨_,_,_,rfl⟩) hq k1 k2 k3 k4 k5 (by rcases k6 with k6 | k6; exact .inl k6; exact .inr ⟨rfl,k6⟩) k7 k8 (.inr (.inl (by omega))) (by simp [jO]) ?_ (by simp [jO]) ?_
           ·intro id hid
            have hid:id<rs.length:=hid
            rw [if_neg (by omega)]
           ·intro hle
            have hrq:c.ρ q≠r':=by
             rcases k6 with rfl | rfl
             ·have:=(Array.getElem?_eq_some_iff.1 hqg).1
              rw [heq]; omega
             ·exact hτq.symm
            have hqlt:c.ρ q<w1.heap.size:=by rw [heq]; exact (Array.getElem?_eq_some_iff.1 hqg).1
            refine ⟨⟨by simp [Ctx.gnew],?_⟩,⟨by simp only [Ctx.gnew,jz]; exact k7,by simp [Ctx.gnew]⟩,?_,?_⟩
            ·simp only [Ctx.gnew,jz]
             rcases k6 with rfl | rfl
             ·exact h1.le
             ·exact hbase
            ·refine ⟨us++[.slice (some ⟨c.ρ q,0,none⟩) m cr],rest'',t'',by simp only [Ctx.gnew,jz]; exact k9,by simp [hul],?_⟩
             intro j id hj
             simp only [Ctx.gnew,jz]
             by_cases hjp:j<p.length
             ·rw [List.getElem?_append_left hjp] at hj
              obtain ⟨xs,cap',a1,a2,a3⟩:=hsl j id hj
              have hid:=(List.getElem?_eq_some_iff.1 a1).1
              refine ⟨xs,cap',by rw [List.getElem?_append_left hid]; exact a1,a2,?_⟩
              rw [List.getElem?_append_left (by omega),if_neg (by omega)]
              exact a3
             ·rw [List.getElem?_append_right (by omega)] at hj
              have hj0:j - p.length=0:=by
               cases hjj:j - p.length with
               | zero=>rfl
               | succ x=>rw [hjj] at hj; simp at hj
              rw [hj0] at hj
              simp only [List.getElem?_cons_zero,Option.some.injEq] at hj
              subst hj
              refine ⟨(cs.take m).map aD,cr,by simp,by simp; omega,?_⟩
              rw [List.getElem?_append_right (by omega),show j - us.length=0 by omega,if_pos rfl]
              simp; omega
            ·intro id xs hxs
             simp only [Ctx.gnew,jz]
             by_cases hid:id<rs.length
             ·rw [List.getElem?_append_left hid] at hxs
              obtain ⟨a1,vs',rest',t',a2,a3⟩:=hrw id xs hxs
              rw [if_neg (by omega)]
              obtain ⟨_,g2,g3,_⟩:=h.row b _ hH id hid
              have hne:c.γ b id≠r':=by
               rcases k6 with rfl | rfl
               ·rw [heq]; omega
               ·exact fun e0=>g3 b _ hH rfl e0.symm
              refine ⟨a1,vs',rest',t',?_,RelDs.mono (hle1.trans hle) a3⟩
              rw [k5 _ (by rw [heq]; exact g2) hne,heq]
              exact a2
             ·rw [List.getElem?_append_right (by omega)] at hxs
              have hj0:id - rs.length=0:=by
               cases hjj:id - rs.length with
               | zero=>rfl
               | succ x=>rw [hjj] at hxs; simp at hxs
              rw [hj0] at hxs
              simp only [List.getElem?_cons_zero,Option.some.injEq] at hxs
              subst hxs
              rw [if_pos (by omega)]
              have:=rowOk w' c.φ (c.gnew b r' (cur+1) (fun id=>if id=rs.length then c.ρ q else c.γ b id) (rs++[(cs.take m).map aD]).length) rfl (hle1.trans hle) (by rw [k5 _ hqlt hrq,heq]) p4 p5
              exact this
          have hun:us.length=n:=by omega
          by_cases hroomc:n+1≤cap2
          ·obtain ⟨cur1,t1,fr1,hh1,hh2⟩:=hrm2
           rw [hg] at hh1
           simp only [Option.some.injEq,Obj.cells.injEq] at hh1
           obtain ⟨rfl,rfl,rfl⟩:=hh1
           have hrun:=JN (P:=cf.P) w t ty e ie hd hie (c.τ b) 0 n cap2 (us++rest).toArray tb (0,0) hg (.inl rfl) ⟨bk,off,none⟩ 1 cap [.slice (some ⟨c.ρ q,0,none⟩) m cr] (by simp [hsz]) (jZ x3) x5 hroomc (by rw [hsz]; simp at hh2 ⊢; omega)
           have e1:(us++rest).toArray.toList.take (0+n*ie.size)++[Value.slice (some ⟨c.ρ q,0,none⟩) m cr]++(us++rest).toArray.toList.drop (0+n*ie.size+[Value.slice (some ⟨c.ρ q,0,none⟩) m cr].length) =
             us++[Value.slice (some ⟨c.ρ q,0,none⟩) m cr]++rest.drop 1:=by
            rw [hsz,Nat.mul_one,Nat.zero_add]
            simp only [List.length_singleton]
            rw [List.take_append_of_le_length (by omega),List.take_of_length_le (by omega),List.drop_append,List.drop_eq_nil_of_le (by omega),List.nil_append,hun,Nat.add_sub_cancel_left]
           rw [e1] at hrun
           have hssz:(us++[Value.slice (some ⟨c.ρ q,0,none⟩) m cr]++rest.drop 1).toArray.size=(us++rest).toArray.size:=by
            simp at hh2 ⊢; omega
           obtain ⟨m1,m2⟩:=main w (w.setRow (c.τ b) (us++[Value.slice (some ⟨c.ρ q,0,none⟩) m cr]++rest.drop 1).toArray) (c.τ b) (rest.drop 1) tb h (Ctx.Le.refl c w) rfl rfl rfl ⟨rfl,Nat.le_refl _⟩ (by simp) (fun i _ hi=>jL _ _ _ _ hi) (.inr rfl) hφb (fun bk k hk=>Je hg hssz hk) (setRow_heap w _ _ _ _ _ hg)
           refine ⟨_,_,_,hrun,m1,m2,?_⟩
           unfold Rel GRel
           refine ⟨by simp [Ctx.gnew],by simp [Ctx.gnew],by simp [Ctx.gnew],c.τ b,cap2,hroomc,rfl,fun _=>⟨by simp [Ctx.gnew],?_⟩⟩
           simp only [Ctx.gnew,jz]
           exact Je hg hssz ⟨_,_,_,hg,hh2⟩
          ·have holds:jT w (c.τ b) 0 us:=by
            intro i u hu
            rw [cell_of_row _ _ _ _ _ _ hg]
            have hi:=(List.getElem?_eq_some_iff.1 hu).1
            simp only [Nat.zero_add,List.getElem?_toArray]
            rw [List.getElem?_append_left hi]; exact hu
           have hrun:=run_append_grow (P:=cf.P) w t ty e ie z hd hie hzz ⟨c.τ b,0,none⟩ n cap2 us (by rw [hsz,Nat.mul_one]; exact hun) (jZ holds) ⟨bk,off,none⟩ 1 cap [.slice (some ⟨c.ρ q,0,none⟩) m cr] (by simp [hsz]) (jZ x3) (by omega) (by have:=p3.2; omega) (growslice_fits (by omega) p3.1)
           obtain ⟨d1,d2⟩:=h.drew
           have hge:=grownCap_ge w (n+1) cap2 e
           have hnew:(w.drew.alloc (.cells (us.toArray++[Value.slice (some ⟨c.ρ q,0,none⟩) m cr].toArray++Builtin.zeroCells z.cells (grownCap w (n+1) cap2 e - (n+1))) e)).heap[w.drew.heap.size]? =
             some (.cells (us++[Value.slice (some ⟨c.ρ q,0,none⟩) m cr]++(Builtin.zeroCells z.cells (grownCap w (n+1) cap2 e - (n+1))).toList).toArray e (0,0)):=by
            rw [heap_alloc_new]
            congr 2
            apply Array.ext'; simp
           obtain ⟨m1,m2⟩:=main w.drew (w.drew.alloc (.cells (us.toArray++[Value.slice (some ⟨c.ρ q,0,none⟩) m cr].toArray++Builtin.zeroCells z.cells (grownCap w (n+1) cap2 e - (n+1))) e)) w.drew.heap.size (Builtin.zeroCells z.cells (grownCap w (n+1) cap2 e - (n+1))).toList e d2 d1 rfl rfl rfl ⟨rfl,Nat.le_refl _⟩ (by simp) (fun i hi _=>heap_alloc_old _ _ hi) (.inl rfl) (d2.hi _ (Nat.le_refl _)) (fun _ _ hk=>Ka hk) hnew
           refine ⟨_,_,_,hrun,d1.trans m1,m2,?_⟩
           unfold Rel GRel
           refine ⟨by simp [Ctx.gnew],by simp [Ctx.gnew],by simp [Ctx.gnew],w.heap.size,_,hge,rfl,fun _=>⟨by simp [Ctx.gnew],?_⟩⟩
           simp only [Ctx.gnew,jz]
           refine ⟨_,_,_,hnew,?_⟩
           have hzs':z.cells.size=1:=by rw [hzs,hzl]
           have hzc:=j7 z.cells (grownCap w (n+1) cap2 e - (n+1))
           rw [hzs',Nat.mul_one] at hzc
           simp [hzc,hun]; omega
         ·simp at hr
        ·rename_i hse
         simp only [Option.some.injEq] at hr; subst hr
         simp only [AllP,PC.holds,and_true] at hp
         unfold Rel RelD at hs
         exact newGrid _ hs.1 hp.1 hp.2.1 hp.2.2
        ·simp only [Option.some.injEq] at hr; subst hr
         simp only [AllP,PC.holds,and_true] at hp
         unfold Rel at hs
         obtain ⟨o,hs⟩:=hs
         exact newGrid o hs hp.1 hp.2.1 hp.2.2
        ·simp at hr
       ·simp at hr
      ·simp at hr
     ·simp at hr
    ·simp at hr
   ·simp at hr
  ·simp at hr
 ·simp at hr
end
end Go.Kv
