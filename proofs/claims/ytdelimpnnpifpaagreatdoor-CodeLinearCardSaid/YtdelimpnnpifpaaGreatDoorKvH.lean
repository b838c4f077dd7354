import Derived.Test.YtdelimpnnpifpaaGreatDoorKvG
set_option linter.all false
namespace Go.Kv
open Go Go.RowKit
inductive Src where
 | nil
 | row (m:Nat) (ys:List DV)
 | no
def jbx:AV→Src
 | .d (.v (.slice none 0 0))=>.nil
 | .d (.sl m ys)=>.row m ys
 | .own _ _ _ m ys=>.row m ys
 | .em=>.row 0 []
 | _=>.no
section
variable {cf:Cfg} {base:Nat} {w0:Start} {c:Ctx} {w:World} {H:List ABlk} {get:Nat→ABlk}
theorem gW {a:AV} {u:Value} (h:Rel c w a u) (hs:jbx a=.nil):u=.slice none 0 0:=by
 unfold jbx at hs
 split at hs <;> first | (simp at hs; done) | skip
 unfold Rel RelD at h; exact h.1
theorem YM {a:AV} {u:Value} {m:Nat} {ys:List DV} (h:Rel c w a u) (hs:jbx a=.row m ys) :
  ∃ bk off cap us,IsSl u bk off m cap us∧off+us.length≤c.φ bk∧m≤cap∧jT w bk off us∧RelDs c.φ w ys us:=by
 unfold jbx at hs
 split at hs <;> first | (simp at hs; done) | skip
 ·simp at hs; obtain ⟨rfl,rfl⟩:=hs
  unfold Rel RelD at h; exact h
 ·simp at hs; obtain ⟨rfl,rfl⟩:=hs
  unfold Rel at h
  obtain ⟨bk,off,cap,us,h1,h2,h3,h4,h5,_⟩:=h
  exact ⟨bk,off,cap,us,.inl h1,h2,h3,h4,h5⟩
 ·simp at hs; obtain ⟨rfl,rfl⟩:=hs
  unfold Rel at h
  exact ⟨0,0,0,[],.inr ⟨h,rfl,rfl,rfl⟩,Nat.zero_le _,Nat.le_refl _,by intro i u hu; simp at hu,RelDs.nil⟩
def ZN (get:Nat→ABlk):AV→Src
 | .ms b off sz n _=>match get b with
  | .cells cs _=>if Nat.ble (off+n*sz) cs.length then (match toDs ((cs.drop off).take (n*sz)) with
   | some ys=>.row n ys
   | none=>.no) else .no
  | _=>.no
 | a=>jbx a
theorem zg {a:AV} {u:Value} (h:Rel c w a u) (hs:ZN get a=.nil):u=.slice none 0 0:=by
 unfold ZN at hs
 split at hs
 ·split at hs
  ·split at hs
   ·split at hs <;> simp at hs
   ·simp at hs
  ·simp at hs
 ·exact gW h hs
theorem zk (h:WRel base w0 c w H) (hget:∀ b,get b=(H[b]?).getD .gone) {a:AV} {u:Value} {m:Nat} {ys:List DV} (ha:Rel c w a u) (hs:ZN get a=.row m ys) :
  ∃ bk off cap us,IsSl u bk off m cap us∧True∧m≤cap∧jT w bk off us∧RelDs c.φ w ys us:=by
 unfold ZN at hs
 split at hs
 ·split at hs
  ·rename_i cs t hb
   split at hs
   ·split at hs
    ·rename_i ds hd
     simp only [Src.row.injEq] at hs
     obtain ⟨rfl,rfl⟩:=hs
     unfold Rel at ha
     obtain ⟨hl,hcap,cr,hcr,rfl⟩:=ha
     obtain ⟨_,_,us,rest,hg,hr⟩:=h.blk _ _ (jW hget hb (by simp))
     exact ⟨_,_,_,_,.inl rfl,trivial,Nat.le_trans hcap hcr.le,jN (JL hg),Rels.toDs ((hr.drop _).take _) hd⟩
    ·simp at hs
   ·simp at hs
  ·simp at hs
 ·obtain ⟨bk,off,cap,us,h1,_,h3,h4,h5⟩:=YM ha hs
  exact ⟨bk,off,cap,us,h1,trivial,h3,h4,h5⟩
def jbo (get:Nat→ABlk) (a:AV):Option (Nat × Nat × List AV) :=
 match ZN get a with
 | .row m ys=>some (m,ys.length,ys.map AV.d)
 | _=>match a with
  | .ms b off sz n _=>match get b with
   | .cells cs _=>if Nat.ble (off+n*sz) cs.length&&((cs.drop off).take (n*sz)).all ye then some (n,((cs.drop off).take (n*sz)).length,(cs.drop off).take (n*sz)) else none
   | _=>none
  | _=>none
theorem Y2 (h:WRel base w0 c w H) (hget:∀ b,get b=(H[b]?).getD .gone) {a:AV} {u:Value} {m l:Nat} {ys:List AV} (ha:Rel c w a u) (hs:jbo get a=some (m,l,ys)) :
  ∃ bk off cap us,IsSl u bk off m cap us∧True∧m≤cap∧jT w bk off us∧Rels c w ys us∧(∀ v ∈ us,v.oneCell'=true)∧l=us.length:=by
 unfold jbo at hs
 split at hs
 ·rename_i m' zs hz
  simp only [Option.some.injEq,Prod.mk.injEq] at hs
  obtain ⟨rfl,rfl,rfl⟩:=hs
  obtain ⟨bk,off,cap,us,h1,h2,h3,h4,h5⟩:=zk h hget ha hz
  exact ⟨bk,off,cap,us,h1,trivial,h3,h4,Rels.map_d h5,h5.one,h5.length.symm⟩
 ·split at hs
  ·split at hs
   ·rename_i cs t hb
    split at hs
    ·rename_i hc
     simp only [Bool.and_eq_true] at hc
     simp only [Option.some.injEq,Prod.mk.injEq] at hs
     obtain ⟨rfl,rfl,rfl⟩:=hs
     unfold Rel at ha
     obtain ⟨hl,hcap,cr,hcr,rfl⟩:=ha
     obtain ⟨_,_,us,rest,hg,hr⟩:=h.blk _ _ (jW hget hb (by simp))
     exact ⟨_,_,_,_,.inl rfl,trivial,Nat.le_trans hcap hcr.le,jN (JL hg),(hr.drop _).take _,Rels.one ((hr.drop _).take _) hc.2,(Rels.length ((hr.drop _).take _)).symm⟩
    ·simp at hs
   ·simp at hs
  ·simp at hs
theorem jZ {bk off:Nat} {us:List Value} (h:jT w bk off us):∀ j v,us[j]? = some v→w.cell? ((⟨bk,off,none⟩:Addr).add j)=some v:=by
 intro j v hv; rw [Addr.add_lit]; exact h j v hv
theorem Gn {P:Program} (g o:Nat) (t:TypeId) (fr:Nat × Nat):∀ (vs:List Value) (i:Nat) (cur:Array Value) (w:World),w.heap[g]? = some (.cells cur t fr)→zA fr cur.size→o+i+vs.length≤cur.size →
  (∀ v ∈ vs,v.oneCell'=true)→(storeCells ⟨g,o,none⟩ vs i).run P w=.ok () (w.setRow g (cur.toList.take (o+i)++vs++cur.toList.drop (o+i+vs.length)).toArray):=by
 intro vs
 induction vs with
 | nil =>
  intro i cur w hg _ _ _
  simp only [storeCells,List.append_nil,List.length_nil,Nat.add_zero,List.take_append_drop,Array.toArray_toList]
  rw [setRow_self w g cur t fr hg]; rfl
 | cons v vs ih =>
  intro i cur w hg hf hl h1
  have hi:o+i<cur.size:=by simp at hl; omega
  have hfz:w.frozen? ⟨g,o+i,none⟩=false:=by
   obtain ⟨lo,hi'⟩:=fr
   unfold zA at hf
   simp only [World.frozen?,hg]
   by_cases hb:lo≤o+i
   ·have:¬ (o+i<hi'):=by simp at hf; omega
    simp [this]
   ·simp [hb]
  have hput:(store ((⟨g,o,none⟩:Addr).add i) v).run P w=.ok () (w.setRow g (cur.setIfInBounds (o+i) v)):=by
   rw [Addr.add_lit,run_store P w _ v _ (h1 v (by simp)),show w.cell? ⟨g,o+i,none⟩=some cur[o+i] by simp [World.cell?,hg,hi]]
   simp [hfz,setCell_eq_setRow w g (o+i) cur t fr v hg]
  have rest:=ih (i+1) (cur.setIfInBounds (o+i) v) (w.setRow g (cur.setIfInBounds (o+i) v)) (setRow_heap w g cur _ t _ hg) (by simpa using hf) (by simp at hl ⊢; omega) (fun x hx=>h1 x (by simp [hx]))
  simp only [storeCells,Sem.run_bind,hput,Result.andThen_ok,rest,setRow_setRow]
  congr 3
  have e:=list_seg_step cur.toList (o+i) v vs (by simp at hl ⊢; omega)
  simpa [Array.toList_setIfInBounds,Nat.add_assoc] using e
theorem JN {P:Program} (w:World) (t ty e:TypeId) (i:TypeInfo) (ht:P.underlying t=some (.slice e)) (hi:P.info? e=some i)
  (g o sLen sCap:Nat) (cur:Array Value) (te:TypeId) (fr:Nat × Nat) (hg:w.heap[g]? = some (.cells cur te fr)) (hfr:zA fr cur.size)
  (a:Addr) (m c:Nat) (news:List Value) (hl:news.length=m*i.size) (hnews:∀ j u,news[j]? = some u→w.cell? (a.add j)=some u) (h1:∀ u ∈ news,u.oneCell'=true)
  (hroom:sLen+m≤sCap) (hfit:o+sLen*i.size+news.length≤cur.size) :
  (Builtin.append_ #[t,t] ty #[.slice (some ⟨g,o,none⟩) sLen sCap,.slice (some a) m c]).run P w =
   .ok (.slice (some ⟨g,o,none⟩) (sLen+m) sCap) (w.setRow g (cur.toList.take (o+sLen*i.size)++news++cur.toList.drop (o+sLen*i.size+news.length)).toArray):=by
 have hf:=run_firstCells_some (P:=P) w i.size m a m c news hl hnews
 have hst:=Gn (P:=P) g (o+sLen*i.size) te fr news 0 cur w hg hfr (by simpa using hfit) h1
 simp only [Nat.add_zero] at hst
 simp [Builtin.append_,run_underlying ht,sizeOf,typeInfo,hi,Builtin.lenOf,hroom,hf,Addr.add_lit,hst]
theorem Jp {P:Program} (w:World) (t ty e:TypeId) (i:TypeInfo) (ht:P.underlying t=some (.slice e)) (hi:P.info? e=some i) (b:Option Addr) (sLen sCap:Nat) (hc:sLen≤sCap) :
  (Builtin.append_ #[t,t] ty #[.slice b sLen sCap,.slice none 0 0]).run P w=.ok (.slice b sLen sCap) w:=by
 cases b <;> simp [Builtin.append_,run_underlying ht,sizeOf,typeInfo,hi,Builtin.lenOf,hc,Builtin.firstCells,storeCells]
theorem kr {P:Program} (w:World) (t ty e:TypeId) (i:TypeInfo) (ht:P.underlying t=some (.slice e)) (hi:P.info? e=some i) (b:Option Addr) (sLen sCap:Nat) (hc:sLen≤sCap) (a:Addr) (c:Nat) :
  (Builtin.append_ #[t,t] ty #[.slice b sLen sCap,.slice (some a) 0 c]).run P w=.ok (.slice b sLen sCap) w:=by
 cases b <;> simp [Builtin.append_,run_underlying ht,sizeOf,typeInfo,hi,Builtin.lenOf,hc,Builtin.firstCells,storeCells,loadCells,loadCellsFrom]
theorem Kw {P:Program} (w:World) (t ty e:TypeId) (i:TypeInfo) (ht:P.underlying t=some (.slice e)) (hi:P.info? e=some i) (b:Option Addr) (sLen sCap:Nat) (hc:sLen≤sCap) (o:Option Addr) :
  (Builtin.append_ #[t,t] ty #[.slice b sLen sCap,.slice o 0 0]).run P w=.ok (.slice b sLen sCap) w:=by
 cases o with
 | none=>exact Jp w t ty e i ht hi b sLen sCap hc
 | some a=>exact kr w t ty e i ht hi b sLen sCap hc a 0
def jcB (get:Nat→ABlk):AV→ABlk
 | .own b _ _ _ _=>get b
 | _=>.gone
def jaA (get:Nat→ABlk):AV→ABlk
 | .ms b _ _ _ _=>get b
 | _=>.gone
def jbs (dc:Dec) (m:Nat):Dec:=match dc with
 | .none=>.br (!(m==0))
 | d=>d
def jos (o:Bool) (dc:Dec) (m:Nat):Dec:=if o then .enter else jbs dc m
def zu (cf:Cfg) (ts:Array TypeId) (s x:AV) (get:Nat→ABlk) (nm:Nat) (dc:Dec):Option ARes :=
 match ts.toList with
 | [t,t'] =>
  if t==t' then
   match cf.P.underlying t with
   | some (.slice e)=>match cf.P.info? e,Qh cf.P e with
    | some ie,some zs =>
     if !(zs.length==ie.size) then none else
     match s,ZN get x,jcB get s with
     | .d (.v (.slice none 0 0)),.nil,_=>some ⟨[],.d (.v (.slice none 0 0)),[]⟩
     | .own b e' sz n xs,.nil,_=>some ⟨[],.own b e' sz n xs,[]⟩
     | .d (.v (.slice none 0 0)),.row m ys,_ =>
      match jbs dc m with
      | .br false=>some ⟨[.eqN m 0],.d (.v (.slice none 0 0)),[]⟩
      | _=>some ⟨[.ltN 0 m,.eqN ys.length (m*ie.size),.fits m ie.bytes],.own nm 0 ie.size m ys,[(nm,.tail 0)]⟩
     | .own b e' sz n xs,.row m ys,bk =>
      match jos cf.own0 dc m with
      | .br false=>some ⟨[.eqN m 0],.own b e' sz n xs,[]⟩
      | .enter=>if sz==ie.size then
        match bk with
        | .tail cur=>some ⟨[.eqN e' cur,.eqN ys.length (m*ie.size),.fits (n+m) ie.bytes],.own b (cur+m) sz (n+m) (xs++ys),[(b,.tail (cur+m))]⟩
        | _=>none
       else none
      | _=>if sz==ie.size then
        match bk with
        | .tail cur=>some ⟨[.eqN e' cur,.ltN 0 m,.eqN ys.length (m*ie.size),.fits (n+m) ie.bytes],.own b (cur+m) sz (n+m) (xs++ys),[(b,.tail (cur+m))]⟩
        | _=>none
       else none
     | .em,.row m ys,_ =>
      match jbs dc m with
      | .br false=>some ⟨[.eqN m 0],.em,[]⟩
      | _=>some ⟨[.ltN 0 m,.eqN ys.length (m*ie.size),.fits m ie.bytes],.own nm 0 ie.size m ys,[(nm,.tail 0)]⟩
     | .em,.nil,_=>some ⟨[],.em,[]⟩
     | .d (.sl n xs),.nil,_=>some ⟨[],.d (.sl n xs),[]⟩
     | _,_,_=>none
    | _,_=>none
   | _=>none
  else none
 | _=>none
theorem KQ {P:Program} {t:TypeId} {cs:List AV} (hz:Qh P t=some cs) {i:TypeInfo} (hi:P.info? t=some i):∃ z,i.zero=some z∧z.cells.size=cs.length:=by
 unfold Qh at hz
 rw [hi] at hz
 simp only at hz
 split at hz
 ·rename_i z hzz
  split at hz
  ·simp at hz; subst hz; exact ⟨z,hzz,by simp⟩
  ·simp at hz
 ·simp at hz
theorem j7 (z:Array Value) (n:Nat):(Builtin.zeroCells z n).size=n*z.size:=by simp [Builtin.zeroCells]
theorem K7 {P:Program} (w:World) (t ty e:TypeId) (i:TypeInfo) (z:Value) (ht:P.underlying t=some (.slice e)) (hi:P.info? e=some i) (hz:i.zero=some z) (o:Option Addr)
  (a:Addr) (n c:Nat) (news:List Value) (hl:news.length=n*i.size) (hnews:∀ j v,news[j]? = some v→w.cell? (a.add j)=some v) (hn:0<n) (h63:n≤9223372036854775807) (hfit:n*i.bytes≤140737488355328) :
  (Builtin.append_ #[t,t] ty #[.slice o 0 0,.slice (some a) n c]).run P w =
   .ok (.slice (some ⟨w.heap.size,0,none⟩) n (grownCap w n 0 e)) (w.drew.alloc (.cells (news.toArray++Builtin.zeroCells z.cells (grownCap w n 0 e - n)) e)):=by
 cases o with
 | none=>exact run_append_nil (P:=P) w t ty e i z ht hi hz a n c news hl hnews hn (by omega) (by omega)
 | some b =>
  have:=run_append_grow (P:=P) w t ty e i z ht hi hz b 0 0 [] (by simp) (by simp) a n c news hl hnews (by omega) (by omega) (growslice_fits (by omega) (by simpa using hfit))
  simpa using this
def zp (cf:Cfg) (ts:Array TypeId) (s x:AV) (get:Nat→ABlk) (nm:Nat):Option ARes :=
 match ts.toList with
 | [t,t'] =>
  if t==t' then
   match cf.P.underlying t with
   | some (.slice e)=>match cf.P.info? e,Qh cf.P e with
    | some ie,some zs =>
     if zs.length != ie.size then none else
     match s,jbo get x with
     | .ms b 0 sz n cap,some (m,l,ys)=>if sz==ie.size then match jaA get s with
      | .cells cs ty=>if ty==e then some ⟨[.ltN 0 m,.eqN l (m*ie.size),.fits (n+m) ie.bytes,.leN (cap*ie.size) cs.length],.ms nm 0 ie.size (n+m) (n+m),[(b,.dead),(nm,.cells (cs.take (n*ie.size)++ys) e)]⟩ else none
      | _=>none
      else none
     | .d (.v (.slice none 0 0)),some (m,l,ys)=>some ⟨[.ltN 0 m,.eqN l (m*ie.size),.fits m ie.bytes],.ms nm 0 ie.size m m,[(nm,.cells (ys) e)]⟩
     | .em,some (m,l,ys)=>some ⟨[.ltN 0 m,.eqN l (m*ie.size),.fits m ie.bytes],.ms nm 0 ie.size m m,[(nm,.cells (ys) e)]⟩
     | _,_=>none
    | _,_=>none
   | _=>none
  else none
 | _=>none
theorem jeF (h:WRel base w0 c w H) (hget:∀ b,get b=(H[b]?).getD .gone) {nm:Nat} (hnm:H[nm]? = some .gone) {ts:Array TypeId} {ty:TypeId} {s x:AV} {us ux:Value} (hs:Rel c w s us) (hx:Rel c w x ux) {r:ARes}
  (hr:zp cf ts s x get nm=some r) (hp:AllP r.pcs) :
  ∃ w' c' v,(Builtin.append_ ts ty #[us,ux]).run cf.P w=.ok v w'∧Ctx.Le c w c' w'∧WRel base w0 c' w' (r.wr.foldl (fun H x=>H.set x.1 x.2) H)∧Rel c' w' r.val v:=by
 unfold zp at hr
 split at hr
 ·rename_i t t' hts
  have hts:ts=#[t,t']:=by rw [← Array.toArray_toList (xs:=ts),hts]
  subst hts
  split at hr
  ·rename_i htt
   have htt:t=t':=by simpa using htt
   subst htt
   split at hr
   ·rename_i e hd
    split at hr
    ·rename_i ie zs hie hz
     split at hr
     ·simp at hr
     rename_i hzl
     have hzl:zs.length=ie.size:=by simpa using hzl
     obtain ⟨z,hzz,hzs⟩:=KQ hz hie
     have main:∀ m l ys,jbo get x=some (m,l,ys)→(∃ o,us=.slice o 0 0)→0<m→l=m*ie.size→Jt m ie.bytes →
       ∃ w' c' v,(Builtin.append_ #[t,t] ty #[us,ux]).run cf.P w=.ok v w'∧Ctx.Le c w c' w'∧WRel base w0 c' w' (H.set nm (.cells (ys) e))∧Rel c' w' (.ms nm 0 ie.size m m) v:=by
      rintro m l ys hsx ⟨o,rfl⟩ p1 p2 p3
      obtain ⟨bk,off,cap,news,hux,x1,x2,x3,x4,x5,hll⟩:=Y2 h hget hx hsx
      have hnl:=hll.symm
      have hux:=hux.pos p1
      subst hux
      have hrun:=K7 (P:=cf.P) w t ty e ie z hd hie hzz o ⟨bk,off,none⟩ m cap news (by rw [hnl,p2]) (jZ x3) p1 p3.2 p3.1
      obtain ⟨d1,d2⟩:=h.drew
      have hge:=grownCap_ge w m 0 e
      obtain ⟨a1,a2⟩:=d2.alloc_row hnm (us:=news) (rest:=(Builtin.zeroCells z.cells (grownCap w m 0 e - m)).toList) e (Rels.mono d1 x4)
      have harr:(news++(Builtin.zeroCells z.cells (grownCap w m 0 e - m)).toList).toArray=news.toArray++Builtin.zeroCells z.cells (grownCap w m 0 e - m):=by
       apply Array.ext'; simp
      rw [harr] at a1 a2
      refine ⟨_,_,_,hrun,d1.trans a1,a2,?_⟩
      unfold Rel
      refine ⟨by simp [Ctx.new],Nat.le_refl _,_,.inr ⟨hge,?_⟩,by simp [Ctx.new]⟩
      refine ⟨_,_,_,by simp only [Ctx.new,jz]; exact heap_alloc_new _ _,?_⟩
      rw [Array.size_append,j7,List.size_toArray,hnl,p2,hzs,hzl,Nat.zero_add,← Nat.add_mul]
      exact Nat.mul_le_mul_right _ (by omega)
     split at hr
     ·rename_i b sz n cap m l ys hsx
      split at hr
      rotate_left
      ·simp at hr
      rename_i hsz
      have hsz:sz=ie.size:=by simpa using hsz
      split at hr
      rotate_left
      ·simp at hr
      rename_i cs ty' hgb
      have hgb:get b=.cells cs ty':=hgb
      split at hr
      rotate_left
      ·simp at hr
      rename_i hty
      have hty:ty'=e:=by simpa using hty
      subst hty
      simp only [Option.some.injEq] at hr; subst hr
      simp only [AllP,PC.holds,and_true] at hp
      obtain ⟨p1,p2,p3,p4⟩:=hp
      obtain ⟨bk',off',cap',news,hux,x1,x2,x3,x4,x5,hll⟩:=Y2 h hget hx hsx
      have hnl:=hll.symm
      have hux:=hux.pos p1
      subst hux
      have hH:=jW hget hgb (by simp)
      have hbk:=h.blk b _ hH
      obtain ⟨hbase,hφ,vs,rest,hg,hvs⟩:=hbk
      have hvl:=hvs.length
      have hbn:b≠nm:=by intro e; subst e; rw [hH] at hnm; simp at hnm
      unfold Rel at hs
      obtain ⟨hl,hcap,cr,hcr,rfl⟩:=hs
      have hadd:(n+m)*ie.size=n*ie.size+m*ie.size:=Nat.add_mul _ _ _
      have hmulc:n*ie.size≤cap*ie.size:=Nat.mul_le_mul_right _ hcap
      have htl:(vs.take (n*ie.size)).length=n*ie.size:=by rw [List.length_take]; omega
      have holds:jT w (c.ρ b) 0 (vs.take (n*ie.size)):=by
       intro i u hu
       rw [cell_of_row _ _ _ _ _ _ hg]
       have hi:=(List.getElem?_eq_some_iff.1 hu).1
       rw [List.getElem?_take] at hu
       split at hu
       ·simp only [Nat.zero_add,List.getElem?_toArray]
        rw [List.getElem?_append_left (by rw [List.length_take] at hi; omega)]
        exact hu
       ·simp at hu
      by_cases hroom:n+m≤cr
      ·
       have hsize:(n+m)*ie.size≤(vs++rest).length:=by
        rcases hcr with hc | ⟨_,cur,t1,fr1,hh,hk⟩
        ·have hcs:(n+m)*ie.size≤cap*ie.size:=Nat.mul_le_mul_right _ (by omega)
         rw [List.length_append]
         omega
        ·rw [hg] at hh
         simp only [Option.some.injEq,Obj.cells.injEq] at hh
         obtain ⟨rfl,_,_⟩:=hh
         have:(n+m)*ie.size≤cr*ie.size:=Nat.mul_le_mul_right _ hroom
         rw [List.size_toArray] at hk
         rw [hsz] at hk
         omega
       have hrun:=JN (P:=cf.P) w t ty ty' ie hd hie (c.ρ b) 0 n cr (vs++rest).toArray ty' (0,0) hg (.inl rfl) ⟨bk',off',none⟩ m cap' news (by rw [hnl,p2]) (jZ x3) x5 hroom
        (by rw [List.size_toArray,hnl,p2]; omega)
       obtain ⟨r1,r2⟩:=h.rename hH hnm
       have hk0:((H.set b .dead).set nm (.cells cs ty'))[nm]? = some (.cells cs ty'):=List.getElem?_set_self (by simpa using (List.getElem?_eq_some_iff.1 hnm).1)
       have hρ:(c.new nm (c.ρ b) 0 0 false).ρ nm=c.ρ b:=by simp [Ctx.new]
       obtain ⟨s1,s2⟩:=r2.store hk0 (cs':=cs.take (n*ie.size)++ys) (us:=(vs++rest).take ((n+m)*ie.size)) (us':=vs.take (n*ie.size)++news) (rest:=(vs++rest).drop ((n+m)*ie.size))
        (by rw [hρ,List.take_append_drop]; exact hg) (by rw [List.length_append,htl,List.length_take,hnl,p2]; omega)
        (Rels.append (Rels.take (Rels.mono r1 hvs) _) (Rels.mono r1 x4))
       have hrow:vs.take (n*ie.size)++news++(vs++rest).drop ((n+m)*ie.size)=(vs++rest).toArray.toList.take (0+n*ie.size)++news++(vs++rest).toArray.toList.drop (0+n*ie.size+news.length):=by
        rw [Nat.zero_add,hnl,p2,← hadd,List.take_append_of_le_length (by omega)]
       rw [hrow,hρ,List.set_set] at s2
       rw [hrow,hρ] at s1
       refine ⟨_,_,_,hrun,r1.trans s1,s2,?_⟩
       unfold Rel
       refine ⟨by simp [Ctx.new],Nat.le_refl _,cr,?_,by rw [hρ]⟩
       refine .inr ⟨hroom,?_⟩
       rw [hρ]
       refine Je hg (by rw [← hrow,List.size_toArray,List.size_toArray,List.length_append,List.length_append,htl,List.length_drop,hnl,p2]; omega) ?_
       rcases hcr with hc | ⟨_,hr⟩
       ·refine ⟨_,_,_,hg,?_⟩
        rw [← hc,List.size_toArray,List.length_append]
        omega
       ·rw [← hsz]; exact hr
      ·have hcr':cap≤cr:=hcr.le
       have hrun:=run_append_grow (P:=cf.P) w t ty ty' ie z hd hie hzz ⟨c.ρ b,0,none⟩ n cr (vs.take (n*ie.size)) htl (jZ holds) ⟨bk',off',none⟩ m cap' news (by rw [hnl,p2]) (jZ x3) (by omega) (by have:=p3.2; omega) (growslice_fits (by omega) p3.1)
       obtain ⟨d1,d2⟩:=(h.letGo hH).drew
       have hge:=grownCap_ge w (n+m) cr ty'
       obtain ⟨a1,a2⟩:=d2.alloc_row (nm:=nm) (by rw [List.getElem?_set_ne hbn]; exact hnm) (us:=vs.take (n*ie.size)++news) (rest:=(Builtin.zeroCells z.cells (grownCap w (n+m) cr ty' - (n+m))).toList) ty'
        (Rels.append (Rels.take (Rels.mono d1 hvs) (n*ie.size)) (Rels.mono d1 x4))
       have harr:(vs.take (n*ie.size)++news++(Builtin.zeroCells z.cells (grownCap w (n+m) cr ty' - (n+m))).toList).toArray=(vs.take (n*ie.size)).toArray++news.toArray++Builtin.zeroCells z.cells (grownCap w (n+m) cr ty' - (n+m)):=by
        apply Array.ext'; simp
       rw [harr] at a1 a2
       refine ⟨_,_,_,hrun,d1.trans a1,a2,?_⟩
       unfold Rel
       refine ⟨by simp [Ctx.new],Nat.le_refl _,_,.inr ⟨hge,?_⟩,by simp [Ctx.new]⟩
       refine ⟨_,_,_,by simp only [Ctx.new,jz]; exact heap_alloc_new _ _,?_⟩
       rw [Array.size_append,Array.size_append,j7,List.size_toArray,List.size_toArray,htl,hnl,p2,hzs,hzl,Nat.zero_add,← Nat.add_mul,← Nat.add_mul]
       exact Nat.mul_le_mul_right _ (by omega)
     ·rename_i m l ys hsx
      simp only [Option.some.injEq] at hr; subst hr
      simp only [AllP,PC.holds,and_true] at hp
      unfold Rel RelD at hs
      exact main m l ys hsx ⟨_,hs.1⟩ hp.1 hp.2.1 hp.2.2
     ·rename_i m l ys hsx
      simp only [Option.some.injEq] at hr; subst hr
      simp only [AllP,PC.holds,and_true] at hp
      unfold Rel at hs
      exact main m l ys hsx hs hp.1 hp.2.1 hp.2.2
     ·simp at hr
    ·simp at hr
   ·simp at hr
  ·simp at hr
 ·simp at hr
theorem jdN (h:WRel base w0 c w H) (hget:∀ b,get b=(H[b]?).getD .gone) {nm:Nat} (hnm:H[nm]? = some .gone) {ts:Array TypeId} {ty:TypeId} {s x:AV} {us ux:Value} (hs:Rel c w s us) (hx:Rel c w x ux) {dc:Dec} {r:ARes}
  (hr:zu cf ts s x get nm dc=some r) (hp:AllP r.pcs) :
  ∃ w' c' v,(Builtin.append_ ts ty #[us,ux]).run cf.P w=.ok v w'∧Ctx.Le c w c' w'∧WRel base w0 c' w' (r.wr.foldl (fun H x=>H.set x.1 x.2) H)∧Rel c' w' r.val v:=by
 unfold zu at hr
 split at hr
 ·rename_i t t' hts
  have hts:ts=#[t,t']:=by rw [← Array.toArray_toList (xs:=ts),hts]
  subst hts
  split at hr
  ·rename_i htt
   have htt:t=t':=by simpa using htt
   subst htt
   split at hr
   ·rename_i e hd
    split at hr
    ·rename_i ie zs hie hz
     split at hr
     ·simp at hr
     rename_i hzl
     have hzl:zs.length=ie.size:=by simpa using hzl
     obtain ⟨z,hzz,hzs⟩:=KQ hz hie
     have same:∀ v,(Builtin.append_ #[t,t] ty #[us,ux]).run cf.P w=.ok v w→∀ a,Rel c w a v →
       ∃ w' c' v,(Builtin.append_ #[t,t] ty #[us,ux]).run cf.P w=.ok v w'∧Ctx.Le c w c' w'∧WRel base w0 c' w' H∧Rel c' w' a v :=
      fun v hv a ha=>⟨w,c,v,hv,Ctx.Le.refl c w,h,ha⟩
     split at hr
     ·rename_i hsx
      simp only [Option.some.injEq] at hr; subst hr
      have hu:=zg hx hsx
      have hs':=hs
      unfold Rel RelD at hs'
      subst hu
      refine same _ ?_ _ hs
      rw [hs'.1]
      exact Jp w t ty e ie hd hie none 0 0 (Nat.le_refl _)
     ·rename_i b e' sz n xs hsx
      simp only [Option.some.injEq] at hr; subst hr
      have hu:=zg hx hsx
      have hs':=hs
      unfold Rel at hs'
      obtain ⟨bk,off,cap,vs,hus,_,hcap,_⟩:=hs'
      subst hu
      subst hus
      exact same _ (Jp w t ty e ie hd hie _ n cap hcap) _ hs
     ·rename_i m ys hsx
      have hs':=hs
      unfold Rel RelD at hs'
      obtain ⟨rfl,_⟩:=hs'
      obtain ⟨bk,off,cap,news,hux,x1,x2,x3,x4⟩:=zk h hget hx hsx
      have hnl:=x4.length
      split at hr
      ·simp only [Option.some.injEq] at hr; subst hr
       simp only [AllP,PC.holds,and_true] at hp
       subst hp
       rcases hux with rfl | ⟨⟨o,rfl⟩,_⟩
       ·exact same _ (kr w t ty e ie hd hie none 0 0 (Nat.le_refl _) _ cap) _ hs
       ·exact same _ (Kw w t ty e ie hd hie none 0 0 (Nat.le_refl _) o) _ hs
      ·simp only [Option.some.injEq] at hr; subst hr
       simp only [AllP,PC.holds,and_true] at hp
       obtain ⟨p1,p2,p3,p4⟩:=hp
       have hux:=hux.pos p1
       subst hux
       have hrun:=run_append_nil (P:=cf.P) w t ty e ie z hd hie hzz ⟨bk,off,none⟩ m cap news (by rw [hnl,p2]) (jZ x3) p1 (by omega) (by omega)
       obtain ⟨d1,d2⟩:=h.drew
       have hge:=grownCap_ge w m 0 e
       obtain ⟨a1,a2,a3⟩:=d2.alloc_tail hnm (us:=news) (rest:=(Builtin.zeroCells z.cells (grownCap w m 0 e - m)).toList) e ie.size m (grownCap w m 0 e) (by rw [hnl,p2]) hge
        (by
         have:(Builtin.zeroCells z.cells (grownCap w m 0 e - m)).toList.length=(grownCap w m 0 e - m)*ie.size:=by
          rw [Array.length_toList,j7,hzs,hzl]
         rw [this,hnl,p2,← Nat.add_mul]; congr 1; omega) (RelDs.mono d1 x4)
       have harr:(news++(Builtin.zeroCells z.cells (grownCap w m 0 e - m)).toList).toArray=news.toArray++Builtin.zeroCells z.cells (grownCap w m 0 e - m):=by
        apply Array.ext'; simp
       rw [harr] at a1 a2 a3
       exact ⟨_,_,_,hrun,d1.trans a1,a2,a3⟩
     ·rename_i b e' sz n xs m ys hsx
      have hs':=hs
      unfold Rel at hs'
      obtain ⟨bk,off,cap,vs,hus,s1,s2,s3,s4,s5,s6,s7,s8⟩:=hs'
      obtain ⟨bk',off',cap',news,hux,x1,x2,x3,x4⟩:=zk h hget hx hsx
      have hnl:=x4.length
      have hvl:=s4.length
      have none_:m=0→∃ w' c' v,(Builtin.append_ #[t,t] ty #[us,ux]).run cf.P w=.ok v w'∧Ctx.Le c w c' w'∧WRel base w0 c' w' H∧Rel c' w' (.own b e' sz n xs) v:=by
       intro hm
       subst hm
       subst hus
       rcases hux with rfl | ⟨⟨o,rfl⟩,_⟩
       ·exact same _ (kr w t ty e ie hd hie _ n cap s2 _ cap') _ hs
       ·exact same _ (Kw w t ty e ie hd hie _ n cap s2 o) _ hs
      have some_:∀ cur,sz=ie.size→get b=.tail cur→e'=cur→0<m→ys.length=m*ie.size→Jt (n+m) ie.bytes →
        ∃ w' c' v,(Builtin.append_ #[t,t] ty #[us,ux]).run cf.P w=.ok v w'∧Ctx.Le c w c' w'∧WRel base w0 c' w' (H.set b (.tail (cur+m)))∧Rel c' w' (.own b (cur+m) sz (n+m) (xs++ys)) v:=by
       intro cur hsz hb p0 p1 p2 ⟨p3,p4⟩
       subst hsz
       have hux:=hux.pos p1
       subst hux
       subst p0
       have hH:=jW hget hb (by simp)
       obtain ⟨b1,b2,curA,te,frA,b3,b4⟩:=h.blk b _ hH
       subst hus
       by_cases hroom:n+m≤cap
       ·obtain ⟨s8,_,s8'⟩:=s8 b1.symm
        rcases s8' with s8' | ⟨s9,curB,tb,fr,s10,s11⟩
        ·omega
        subst s8
        have hfr:zA fr curB.size:=by
         rw [b3] at s10
         simp only [Option.some.injEq,Obj.cells.injEq] at s10
         obtain ⟨rfl,_,rfl⟩:=s10
         exact b4
        have hmul:(n+m)*ie.size≤cap*ie.size:=Nat.mul_le_mul_right _ hroom
        have hadd:(n+m)*ie.size=n*ie.size+m*ie.size:=Nat.add_mul _ _ _
        have hrun:=JN (P:=cf.P) w t ty e ie hd hie (c.τ b) off n cap curB tb fr s10 hfr ⟨bk',off',none⟩ m cap' news (by rw [hnl,p2]) (jZ x3) x4.one hroom (by rw [hnl,p2]; omega)
        have hsame:∀ i,i<c.φ (c.τ b)→(curB.toList.take (off+n*ie.size)++news++curB.toList.drop (off+n*ie.size+news.length)).toArray[i]? = curB[i]? := by
         intro i hi
         rw [← s9] at hi
         have hi':i<curB.size:=by omega
         simp only [List.getElem?_toArray,List.append_assoc]
         rw [List.getElem?_append_left (by rw [List.length_take,Array.length_toList]; omega),List.getElem?_take,if_pos hi]
         simp
        obtain ⟨t1,t2⟩:=h.tail_push hH (e':=e'+m) (by omega) s10 hfr (cur':=(curB.toList.take (off+n*ie.size)++news++curB.toList.drop (off+n*ie.size+news.length)).toArray)
         (by simp; omega) (c.φ (c.τ b)+m*ie.size) (by omega) hsame
        refine ⟨_,_,_,hrun,t1,t2,?_⟩
        have hnew:=setRow_heap w (c.τ b) curB (curB.toList.take (off+n*ie.size)++news++curB.toList.drop (off+n*ie.size+news.length)).toArray tb fr s10
        unfold Rel
        refine ⟨c.τ b,off,cap,vs++news,rfl,?_,hroom,?_,(RelDs.mono t1 s4).append (RelDs.mono t1 x4),?_,s6,?_,?_⟩
        ·simp [Ctx.grow]; omega
        ·intro i u hu
         by_cases hi:i<vs.length
         ·rw [List.getElem?_append_left hi] at hu
          rw [t1.cells (c.τ b) (off+i) (by omega)]
          exact s3 i u hu
         ·rw [List.getElem?_append_right (by omega)] at hu
          rw [cell_of_row _ _ _ _ _ _ hnew]
          have hiv:(i - vs.length)<news.length:=(List.getElem?_eq_some_iff.1 hu).1
          have e1:off+i=(curB.toList.take (off+n*ie.size)).length+(i - vs.length):=by
           rw [List.length_take,Array.length_toList]; omega
          simp only [List.getElem?_toArray]
          rw [e1,List.append_assoc,List.getElem?_append_right (by omega),Nat.add_sub_cancel_left,List.getElem?_append_left hiv]
          exact hu
        ·simp [s5,hnl,p2,Nat.add_mul]
        ·simp [Ctx.grow]
        ·intro _
         have hsz2:(curB.toList.take (off+n*ie.size)++news++curB.toList.drop (off+n*ie.size+news.length)).toArray.size=curB.size:=by simp; omega
         exact ⟨by simp [Ctx.grow],⟨0,_,_,_,hnew,Nat.zero_le _⟩,.inr ⟨by simp [Ctx.grow]; omega,_,_,_,hnew,by rw [hsz2]; omega⟩⟩
       ·have hrun:=run_append_grow (P:=cf.P) w t ty e ie z hd hie hzz ⟨bk,off,none⟩ n cap vs s5 (jZ s3) ⟨bk',off',none⟩ m cap' news (by rw [hnl,p2]) (jZ x3) (by omega) (by omega) (growslice_fits (by omega) p3)
        obtain ⟨d1,d2⟩:=h.drew
        have hge:=grownCap_ge w (n+m) cap e
        have hadd:(n+m)*ie.size=n*ie.size+m*ie.size:=Nat.add_mul _ _ _
        obtain ⟨a1,a2,a3⟩:=d2.tail_move hH (e':=e'+m) (by omega) (xs:=xs++ys) (us:=vs++news) (rest:=(Builtin.zeroCells z.cells (grownCap w (n+m) cap e - (n+m))).toList) e ie.size (n+m) (grownCap w (n+m) cap e)
         (by rw [List.length_append,s5,hnl,p2,hadd]) hge
         (by
          have:(Builtin.zeroCells z.cells (grownCap w (n+m) cap e - (n+m))).toList.length=(grownCap w (n+m) cap e - (n+m))*ie.size:=by
           rw [Array.length_toList,j7,hzs,hzl]
          rw [this,List.length_append,s5,hnl,p2,← hadd,← Nat.add_mul]; congr 1; omega) ((RelDs.mono d1 s4).append (RelDs.mono d1 x4))
        have harr:(vs++news++(Builtin.zeroCells z.cells (grownCap w (n+m) cap e - (n+m))).toList).toArray=vs.toArray++news.toArray++Builtin.zeroCells z.cells (grownCap w (n+m) cap e - (n+m)):=by
         apply Array.ext'; simp
        rw [harr] at a1 a2 a3
        exact ⟨_,_,_,hrun,d1.trans a1,a2,a3⟩
      split at hr
      ·simp only [Option.some.injEq] at hr; subst hr
       simp only [AllP,PC.holds,and_true] at hp
       exact none_ hp
      ·split at hr
       ·rename_i hsz
        have hsz:sz=ie.size:=by simpa using hsz
        split at hr
        ·rename_i cur hb
         simp only [jcB] at hb
         simp only [Option.some.injEq] at hr; subst hr
         simp only [AllP,PC.holds,and_true] at hp
         obtain ⟨p0,p2,p3,p4⟩:=hp
         by_cases hm:m=0
         ·obtain ⟨w',c',v,k1,k2,k3,k4⟩:=none_ hm
          subst hm
          have hy:ys=[]:=List.eq_nil_of_length_eq_zero (by simpa using p2)
          subst hy
          subst p0
          have hH:=jW hget hb (by simp)
          refine ⟨w',c',v,k1,k2,?_,by simpa using k4⟩
          simp only [List.foldl_cons,List.foldl_nil,Nat.add_zero]
          rw [J1 hH]; exact k3
         ·exact some_ cur hsz hb p0 (by omega) p2 ⟨p3,p4⟩
        ·simp at hr
       ·simp at hr
      ·split at hr
       ·rename_i hsz
        have hsz:sz=ie.size:=by simpa using hsz
        split at hr
        ·rename_i cur hb
         simp only [jcB] at hb
         simp only [Option.some.injEq] at hr; subst hr
         simp only [AllP,PC.holds,and_true] at hp
         obtain ⟨p0,p1,p2,p3,p4⟩:=hp
         exact some_ cur hsz hb p0 p1 p2 ⟨p3,p4⟩
        ·simp at hr
       ·simp at hr
     ·rename_i m ys hsx
      have hs':=hs
      unfold Rel at hs'
      obtain ⟨o0,rfl⟩:=hs'
      obtain ⟨bk,off,cap,news,hux,x1,x2,x3,x4⟩:=zk h hget hx hsx
      have hnl:=x4.length
      split at hr
      ·simp only [Option.some.injEq] at hr; subst hr
       simp only [AllP,PC.holds,and_true] at hp
       subst hp
       rcases hux with rfl | ⟨⟨o,rfl⟩,_⟩
       ·exact same _ (kr w t ty e ie hd hie o0 0 0 (Nat.le_refl _) _ cap) _ hs
       ·exact same _ (Kw w t ty e ie hd hie o0 0 0 (Nat.le_refl _) o) _ hs
      ·simp only [Option.some.injEq] at hr; subst hr
       simp only [AllP,PC.holds,and_true] at hp
       obtain ⟨p1,p2,p3,p4⟩:=hp
       have hux:=hux.pos p1
       subst hux
       have hrun:=K7 (P:=cf.P) w t ty e ie z hd hie hzz o0 ⟨bk,off,none⟩ m cap news (by rw [hnl,p2]) (jZ x3) p1 p4 p3
       obtain ⟨d1,d2⟩:=h.drew
       have hge:=grownCap_ge w m 0 e
       obtain ⟨a1,a2,a3⟩:=d2.alloc_tail hnm (us:=news) (rest:=(Builtin.zeroCells z.cells (grownCap w m 0 e - m)).toList) e ie.size m (grownCap w m 0 e) (by rw [hnl,p2]) hge
        (by
         have:(Builtin.zeroCells z.cells (grownCap w m 0 e - m)).toList.length=(grownCap w m 0 e - m)*ie.size:=by
          rw [Array.length_toList,j7,hzs,hzl]
         rw [this,hnl,p2,← Nat.add_mul]; congr 1; omega) (RelDs.mono d1 x4)
       have harr:(news++(Builtin.zeroCells z.cells (grownCap w m 0 e - m)).toList).toArray=news.toArray++Builtin.zeroCells z.cells (grownCap w m 0 e - m):=by
        apply Array.ext'; simp
       rw [harr] at a1 a2 a3
       exact ⟨_,_,_,hrun,d1.trans a1,a2,a3⟩
     ·rename_i hsx
      simp only [Option.some.injEq] at hr; subst hr
      have hu:=zg hx hsx
      have hs':=hs
      unfold Rel at hs'
      obtain ⟨o0,rfl⟩:=hs'
      subst hu
      exact same _ (Jp w t ty e ie hd hie o0 0 0 (Nat.le_refl _)) _ hs
     ·rename_i hsx
      simp only [Option.some.injEq] at hr; subst hr
      have hu:=zg hx hsx
      have hs':=hs
      unfold Rel RelD at hs'
      obtain ⟨bk,off,cap,vs,hus,_,hcap,_⟩:=hs'
      subst hu
      rcases hus with hus | ⟨⟨o,hus⟩,_⟩
      ·subst hus
       exact same _ (Jp w t ty e ie hd hie _ _ cap hcap) _ hs
      ·subst hus
       exact same _ (Jp w t ty e ie hd hie o 0 0 (Nat.le_refl _)) _ hs
     ·simp at hr
    ·simp at hr
   ·simp at hr
  ·simp at hr
 ·simp at hr
end
end Go.Kv
