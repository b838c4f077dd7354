import Derived.Test.YtdelimpnnpifpaaGreatDoorKvN
set_option linter.all false
namespace Go.Kv
open Go Go.RowKit
section
variable {cf:Cfg} {base:Nat} {w0:Start} {cs0:List Frame}
structure Mid (cf:Cfg) (base:Nat) (w0:Start) (c:Ctx) (w:World) (f:AFrame) (cs:List AFrame) (k:List AItem) (T:List AV) (H:List ABlk) (ops:Array Oper) (is:List Nat) (fr:Frame) (frs:List Frame):Prop where
 todo:∃ todo,fr.todo=.inRegion ops is :: todo∧IRels c k todo
 tmps:Rels c w T fr.tmps.toList
 fn:fr.fn=f.fn
 defers:DRel c f.defers fr.defers
 mode:fr.mode=.run
 kind:fr.kind=.normal
 ro:RoRel c f.roundOf fr.roundOf
 frs:FRels c w cs frs
 mem:WRel base (w0.on cf) c w H
 glob:GK cf w c.φ
theorem Mid.next {c c':Ctx} {w w':World} {f:AFrame} {cs:List AFrame} {k:List AItem} {T:List AV} {H H':List ABlk} {ops:Array Oper} {j:Nat} {is:List Nat} {fr:Frame} {frs:List Frame}
  (h:Mid cf base w0 c w f cs k T H ops (j :: is) fr frs) (hle:Ctx.Le c w c' w') (hm:WRel base (w0.on cf) c' w' H') (d:Option Tmp) {a:AV} {v:Value} (hr:Rel c' w' a v) {todo:List Item} (htodo:fr.todo=.inRegion ops (j :: is) :: todo) :
  Mid cf base w0 c' w' f cs k (setT T d a) H' ops is { fr with tmps:=(({ tmps:=fr.tmps,defers:=fr.defers }:Act).put d v).tmps,todo:=.inRegion ops is :: todo } frs:=by
 obtain ⟨⟨todo',ht,hk⟩,h2,h3,h4,h5,h6,h7,h8,h9,h10⟩:=h
 rw [htodo] at ht
 simp at ht
 subst ht
 exact ⟨⟨todo,rfl,IRels.mono hle hk⟩,zm (Rels.mono hle h2) d hr _,h3,DRel.mono hle h4,h5,h6,RoRel.mono hle h7,FRels.mono hle h8,hm,GK.mono hle h10⟩
theorem kw {c:Ctx} {w:World} {ops:Array Oper} {T:List AV} {us:Array Value} (h:Rels c w T us.toList) {o:Oper} {gd:Option Bool} {b:Bool} {ps:List PC} (hg:kB ops o (fun t=>T[t]?) gd=some (b,ps)) (hp:AllP ps) :
  Region.wanted o (yielded ops us)=b:=by
 unfold kB at hg
 unfold Region.wanted
 split at hg
 ·rename_i h0
  simp only [Option.some.injEq,Prod.mk.injEq] at hg
  rw [h0]
  exact hg.1
 ·rename_i j want h0
  rw [h0]
  split at hg
  ·rename_i t r ht
   split at hg
   ·rename_i b' hb
    simp at hg
    obtain ⟨rfl,rfl⟩:=hg
    simp only [AllP,PC.holds,and_true] at hp
    obtain ⟨u,hu,hr⟩:=h.get t _ hb
    unfold Rel RelD at hr
    simp at hu
    simp only [yielded,ht,Option.bind_some,hu,hr.1,hp]
    cases r <;> cases want <;> rfl
   ·rename_i hb
    simp at hg
    obtain ⟨rfl,rfl⟩:=hg
    obtain ⟨u,hu,hr⟩:=h.get t _ hb
    simp at hu
    simp only [yielded,ht,Option.bind_some,hu,zh hr]
    rfl
   ·simp at hg
  ·rename_i t ht
   split at hg
   ·rename_i b' hb
    simp at hg
    obtain ⟨rfl,rfl⟩:=hg
    obtain ⟨u,hu,hr⟩:=h.get t _ hb
    unfold Rel RelD at hr
    simp at hu
    simp only [yielded,ht,Option.bind_some,hu,hr.1]
    cases b' <;> cases want <;> rfl
   ·rename_i hb
    simp at hg
    obtain ⟨rfl,rfl⟩:=hg
    obtain ⟨u,hu,hr⟩:=h.get t _ hb
    simp at hu
    simp only [yielded,ht,Option.bind_some,hu,zh hr]
    rfl
   ·simp at hg
  ·simp at hg
theorem qK {c:Ctx} {w:World} {f:AFrame} {cs:List AFrame} {k:List AItem} {T:List AV} {H:List ABlk} {ops:Array Oper} {j:Nat} {is:List Nat} {fr:Frame} {frs:List Frame}
  (h:Mid cf base w0 c w f cs k T H ops (j :: is) fr frs) {o:Oper} (ho:ops[j]? = some o) {nm:Nat} (hnm:H[nm]? = some .gone) {gd:Option Bool} {dc:Dec} {e:Eff}
  (he:kA cf ops o (fun t=>T[t]?) (fun b=>(H[b]?).getD .gone) nm gd dc=some e) (hp:AllP e.pcs) :
  ∃ c' w' fr',Mid cf base w0 c' w' f cs k (setT T o.dst e.val) (Kd H e.wr) ops is fr' frs∧Steps cf.P (lone fr (frs++cs0) w) (lone fr' (frs++cs0) w'):=by
 have h0:=h
 obtain ⟨⟨todo,htodo,hk⟩,htm,hfn,hde,hmode,hkind,hro,hfrs,hm,hgl⟩:=h
 have hev:=Qe (cf:=cf) htm hgl fr.defers
 unfold kA at he
 split at he
 ·simp at he
 ·rename_i ps hg
  simp only [Option.some.injEq] at he; subst he
  have hw:=kw htm hg hp
  exact ⟨c,w,_,h0.next (Ctx.Le.refl c w) hm o.dst GY htodo,.one (jfp (cf:=cf) (w:=w) (frs:=frs++cs0) hmode htodo ho hw)⟩
 ·rename_i ps hg
  rw [joZ] at he
  split at he
  ·rename_i fo args hop
   obtain ⟨as,ts,hoo,hargs⟩:=Kg hop
   have hnd:=gT hop
   split at he
   ·simp at he
   ·rename_i g fs cs' hcal
    obtain ⟨us,vs,hfe,hfs,hcs⟩:=KY (hev fo) hcal
    have hall:Rels c w (fs++evs (evA cf T) args++cs') (us++args.map (({ tmps:=fr.tmps,defers:=fr.defers }:Act).eval)++vs):=(hfs.append (zy hev args)).append hcs
    have hrun0:=K8 (P:=cf.P) (av:=(({ tmps:=fr.tmps,defers:=fr.defers }:Act).eval)) hoo hfe w
    rw [← hargs] at hrun0
    split at he
    ·rename_i as' r
     split at he
     ·rename_i fc bs hcan hpass
      split at he
      ·rename_i hflat
       simp only [Option.some.injEq] at he; subst he
       obtain ⟨hbs,hcall,hps⟩:=hp
       subst hbs
       have hw:=kw htm hg hps
       obtain ⟨fn,cd⟩:=fc
       obtain ⟨hcr,_,_⟩:=j8 hgl.2.1 hcan (us++args.map (({ tmps:=fr.tmps,defers:=fr.defers }:Act).eval)++vs).toArray w
       have hst:=JQ (cf:=cf) (frs:=frs++cs0) hmode htodo ho hw hnd (hrun0.trans hcr)
       obtain ⟨e,w',fr',⟨u,c',he,hle,hm',hru,_⟩,hcomes,_,hleave⟩:=Qn hm hgl hall (fun _=>rfl) hpass hflat hcall (fr :: (frs++cs0))
       subst he
       have hback:=step_leave_returned (P:=cf.P) (c:=fr) (cs:=frs++cs0) hleave
       have hfin:fr.finish u={ fr with tmps:=(({ tmps:=fr.tmps,defers:=fr.defers }:Act).put o.dst u).tmps,todo:=.inRegion ops is :: todo }:=by
        unfold Frame.finish
        rw [htodo]
        simp only [ho,Option.bind_some]
        cases o.dst <;> simp [Act.put]
       rw [hfin] at hback
       exact ⟨c',w',_,h0.next hle hm' o.dst hru htodo,.head hst (Steps.trans hcomes (.one hback))⟩
      ·simp at he
     ·simp at he
    ·rename_i j
     split at he
     ·rename_i kn hkn
      split at he
      ·rename_i hkg
       rw [Bool.and_eq_true] at hkg
       have hfr0:kn.fr=false:=by simpa using hkg.2
       have hkg:=beq_iff_eq.1 hkg.1
       split at he
       ·rename_i fc bs hcan hpass
        split at he
        ·rename_i hflat
         simp only [Option.some.injEq] at he; subst he
         obtain ⟨hbs,hps⟩:=hp
         have hbs:bs=kn.args:=hbs
         have hcall:=(hgl.2.2 j kn hkn).plain hfr0
         rw [hkg] at hcall
         subst hbs
         have hw:=kw htm hg hps
         obtain ⟨fn,cd⟩:=fc
         obtain ⟨hcr,_,_⟩:=j8 hgl.2.1 hcan (us++args.map (({ tmps:=fr.tmps,defers:=fr.defers }:Act).eval)++vs).toArray w
         have hst:=JQ (cf:=cf) (frs:=frs++cs0) hmode htodo ho hw hnd (hrun0.trans hcr)
         obtain ⟨e,w',fr',⟨u,c',he,hle,hm',hru,_⟩,hcomes,_,hleave⟩:=Yi hm hgl hall (fun _=>rfl) hpass hflat hcall (fr :: (frs++cs0))
         subst he
         have hback:=step_leave_returned (P:=cf.P) (c:=fr) (cs:=frs++cs0) hleave
         have hfin:fr.finish u={ fr with tmps:=(({ tmps:=fr.tmps,defers:=fr.defers }:Act).put o.dst u).tmps,todo:=.inRegion ops is :: todo }:=by
          unfold Frame.finish
          rw [htodo]
          simp only [ho,Option.bind_some]
          cases o.dst <;> simp [Act.put]
         rw [hfin] at hback
         exact ⟨c',w',_,h0.next hle hm' o.dst hru htodo,.head hst (Steps.trans hcomes (.one hback))⟩
        ·simp at he
       ·simp at he
      ·simp at he
     ·simp at he
    ·rename_i j
     split at he
     ·rename_i kn hkn
      split at he
      ·rename_i hkg
       have hkg:=beq_iff_eq.1 hkg
       split at he
       ·rename_i fc bs qs v ks wr hcan hpass hres
        simp only [Option.some.injEq] at he; subst he
        obtain ⟨hbs,hps⟩:=hp
        have hbs:bs=kn.args:=hbs
        obtain ⟨hp1,hps⟩:=AllP.append hps
        obtain ⟨hp2,hps⟩:=AllP.append hps
        have hkn':=hgl.2.2 j kn hkn
        subst hbs
        have hw:=kw htm hg hps
        obtain ⟨fn,cd⟩:=fc
        obtain ⟨hcr,_,_⟩:=j8 hgl.2.1 hcan (us++args.map (({ tmps:=fr.tmps,defers:=fr.defers }:Act).eval)++vs).toArray w
        have hst:=JQ (cf:=cf) (frs:=frs++cs0) hmode htodo ho hw hnd (hrun0.trans hcr)
        obtain ⟨e,w',fr',⟨u,c',he,hle,hm',hru⟩,hcomes,_,hleave⟩:=zK hm hgl hall (fun _=>rfl) hpass hp1 hres hp2 hkn' hkg hnm (fr :: (frs++cs0))
        subst he
        have hback:=step_leave_returned (P:=cf.P) (c:=fr) (cs:=frs++cs0) hleave
        have hfin:fr.finish u={ fr with tmps:=(({ tmps:=fr.tmps,defers:=fr.defers }:Act).put o.dst u).tmps,todo:=.inRegion ops is :: todo }:=by
         unfold Frame.finish
         rw [htodo]
         simp only [ho,Option.bind_some]
         cases o.dst <;> simp [Act.put]
        rw [hfin] at hback
        exact ⟨c',w',_,h0.next hle hm' o.dst hru htodo,.head hst (Steps.trans hcomes (.one hback))⟩
       ·simp at he
      ·simp at he
     ·simp at he
    ·rename_i j
     split at he
     ·rename_i kn hkn
      split at he
      ·rename_i hkg
       have hkg:=beq_iff_eq.1 hkg
       split at he
       ·rename_i fc bs qs v ks hcan hpass hres
        simp only [Option.some.injEq] at he; subst he
        obtain ⟨hbs,hps⟩:=hp
        have hbs:bs=kn.args:=hbs
        obtain ⟨hp1,hps⟩:=AllP.append hps
        obtain ⟨hp2,hps⟩:=AllP.append hps
        have hkn':=hgl.2.2 j kn hkn
        subst hbs
        have hw:=kw htm hg hps
        obtain ⟨fn,cd⟩:=fc
        obtain ⟨hcr,_,_⟩:=j8 hgl.2.1 hcan (us++args.map (({ tmps:=fr.tmps,defers:=fr.defers }:Act).eval)++vs).toArray w
        have hst:=JQ (cf:=cf) (frs:=frs++cs0) hmode htodo ho hw hnd (hrun0.trans hcr)
        obtain ⟨e,w',fr',⟨u,c',he,hle,hm',hru⟩,hcomes,_,hleave⟩:=zG hm hgl hall (fun _=>rfl) hpass hp1 hres hp2 hkn' hkg (fr :: (frs++cs0))
        subst he
        have hback:=step_leave_returned (P:=cf.P) (c:=fr) (cs:=frs++cs0) hleave
        have hfin:fr.finish u={ fr with tmps:=(({ tmps:=fr.tmps,defers:=fr.defers }:Act).put o.dst u).tmps,todo:=.inRegion ops is :: todo }:=by
         unfold Frame.finish
         rw [htodo]
         simp only [ho,Option.bind_some]
         cases o.dst <;> simp [Act.put]
        rw [hfin] at hback
        exact ⟨c',w',_,h0.next hle hm' o.dst hru htodo,.head hst (Steps.trans hcomes (.one hback))⟩
       ·simp at he
      ·simp at he
     ·simp at he
    ·split at he
     ·rename_i nk hnk
      simp only [Option.some.injEq] at he; subst he
      obtain ⟨hext,hps⟩:=hp
      have hw:=kw htm hg hps
      obtain ⟨u',w',hx,hw',hrel'⟩:=jaB hall hnk hext
      have hst:=qC (cf:=cf) (frs:=frs++cs0) hmode htodo ho hw hnd (.inl (hrun0.trans hx))
      have hd:Ctx.Le c w c w'∧WRel base (w0.on cf) c w' H:=by
       rcases hw' with rfl | rfl
       ·exact ⟨Ctx.Le.refl c _,hm⟩
       ·exact hm.drew
      exact ⟨c,w',_,h0.next hd.1 hd.2 o.dst (hrel' _ _ hd.1) htodo,.one hst⟩
     ·simp at he
    ·rename_i v
     split at he
     ·rename_i xs r hxs hlv
      simp only [Option.some.injEq] at he; subst he
      obtain ⟨hext,hps⟩:=hp
      have hw:=kw htm hg hps
      have hxe:=hall.vals hxs
      rw [hxe] at hrun0
      exact ⟨c,w,_,h0.next (Ctx.Le.refl c w) hm o.dst (Q9 hlv) htodo,.one (qC (cf:=cf) (frs:=frs++cs0) hmode htodo ho hw hnd (.inl (hrun0.trans (hext w))))⟩
     ·simp at he
    ·simp at he
  ·split at he
   ·rename_i hop r hr
    simp only [Option.some.injEq] at he; subst he
    obtain ⟨hp1,hp2⟩:=AllP.append hp
    have hw:=kw htm hg hp2
    obtain ⟨w',c',v,hrun,hle,hm',hrel⟩:=jfB (cf:=cf) (dc:=dc) hm (fun b=>rfl) hnm hev hr hp1
    have hnd:∀ c,o.op≠.defer c:=by
     intro cc hcc
     unfold Yr aop at hr
     rw [hcc] at hr
     simp at hr
    exact ⟨c',w',_,h0.next hle hm' o.dst hrel htodo,.one (qC (cf:=cf) (frs:=frs++cs0) hmode htodo ho hw hnd hrun)⟩
   ·simp at he
theorem Zl {c:Ctx} {w:World} {T:List AV} {us:List Value} {d:Option Tmp} {a b:AV} (h:Rels c w (setT T d a) us) (hab:∀ u,Rel c w a u→Rel c w b u):Rels c w (setT T d b) us:=by
 cases d with
 | none=>exact h
 | some d =>
  simp only [setT] at h ⊢
  by_cases hd:d<T.length
  ·obtain ⟨u,hu,hr⟩:=h.get d a (by rw [List.getElem?_set_self hd])
   have h2:=h.set d (hab u hr)
   rw [List.set_set] at h2
   rw [J1 hu] at h2
   exact h2
  ·have hd:T.length≤d:=Nat.le_of_not_lt hd
   have e1:T.set d a=T:=List.set_eq_of_length_le hd
   have e2:T.set d b=T:=List.set_eq_of_length_le hd
   rw [e1] at h
   rw [e2]
   exact h
theorem AllP.join {ps qs:List PC} (h:AllP ps) (k:AllP qs):AllP (ps++qs):=by
 induction ps with
 | nil=>exact k
 | cons p ps ih=>exact ⟨h.1,ih h.2⟩
def KJ (l:List Tmp):Nat→List AV→List AV
 | _,[]=>[]
 | i,a :: as=>(if l.contains i then bare a else a) :: KJ l (i+1) as
theorem Qc {l:List Tmp}:∀ {T:List AV} {i t:Nat},(KJ l i T)[t]? = (T[t]?).map fun a=>if l.contains (i+t) then bare a else a
 | [],_,_=>by simp [KJ]
 | a :: as,i,0=>by simp [KJ]
 | a :: as,i,t+1=>by
  simp only [KJ,List.getElem?_cons_succ]
  rw [Qc (T:=as),show i+1+t=i+(t+1) by omega]
theorem zQ {l:List Tmp}:∀ {T:List AV} {i:Nat},(KJ l i T).length=T.length
 | [],_=>rfl
 | a :: as,i=>by simp [KJ,zQ (T:=as)]
def BareOf (T' T:List AV):Prop:=T'.length=T.length∧∀ (t:Nat) a,T[t]? = some a→T'[t]? = some a∨T'[t]? = some (bare a)
theorem jgm {a:AV} {c:Ctx} {w:World} {u:Value} (h:Rel c w (bare a) u):Rel c w a u:=by
 cases a with
 | opt g x=>unfold Rel; exact fun _=>h
 | _=>exact h
theorem Rels.of_get {c:Ctx} {w:World}:∀ {T:List AV} {us:List Value},us.length=T.length→(∀ (i:Nat) a u,T[i]? = some a→us[i]? = some u→Rel c w a u)→Rels c w T us
 | [],us,hl,_=>by have:us=[]:=List.eq_nil_of_length_eq_zero (by simpa using hl); subst this; exact Rels.nil
 | x :: xs,[],hl,_=>by simp at hl
 | x :: xs,u :: us,hl,h=>Rels.cons (h 0 x u rfl rfl) (Rels.of_get (by simpa using hl) fun i y v hy hv=>h (i+1) y v (by simpa using hy) (by simpa using hv))
theorem BareOf.rels {c:Ctx} {w:World} {T' T:List AV} {us:List Value} (h:BareOf T' T) (hr:Rels c w T' us):Rels c w T us:=by
 refine Rels.of_get (by rw [hr.length,h.1]) fun i a u ha hu=>?_
 rcases h.2 i a ha with h1 | h1
 ·obtain ⟨v,hv,hrel⟩:=hr.get i _ h1
  rw [hu] at hv; simp at hv; subst hv; exact hrel
 ·obtain ⟨v,hv,hrel⟩:=hr.get i _ h1
  rw [hu] at hv; simp at hv; subst hv; exact jgm hrel
theorem BareOf.setT {T' T:List AV} (h:BareOf T' T) (d:Option Tmp) (v:AV):BareOf (setT T' d v) (setT T d v):=by
 cases d with
 | none=>exact h
 | some d =>
  refine ⟨by simp [Kv.setT,h.1],fun t a ha=>?_⟩
  simp only [Kv.setT] at ha ⊢
  by_cases htd:t=d
  ·subst htd
   have hlt:t<T.length:=by
    have:=(List.getElem?_eq_some_iff.1 ha).1
    simpa using this
   rw [List.getElem?_set_self hlt] at ha
   rw [List.getElem?_set_self (by rw [h.1]; exact hlt)]
   exact .inl ha
  ·rw [List.getElem?_set_ne (Ne.symm htd)] at ha
   rw [List.getElem?_set_ne (Ne.symm htd)]
   exact h.2 t a ha
theorem jgw (l:List Tmp) (T:List AV):BareOf (KJ l 0 T) T:=by
 refine ⟨zQ,fun t a ha=>?_⟩
 rw [Qc,ha]
 by_cases hl:l.contains (0+t)=true
 ·right; simp only [Option.map_some,hl,if_true]
 ·left; simp only [Option.map_some]; rw [if_neg hl]
theorem Y9 {tm:Nat→Option AV} {g:Bool} {x:AV}:∀ {l:List Tmp} {t:Nat},t ∈ l→tm t=some (.opt g x)→g ∈ Kp tm l
 | [],_,h,_=>by simp at h
 | y :: l,t,h,ht=>by
  rcases List.mem_cons.1 h with rfl | h
  ·simp [Kp,ht]
  ·have:=Y9 (l:=l) h ht
   simp only [Kp]
   split
   ·simp [this]
   ·exact this
theorem jdK:∀ {gs:List Bool},AllP (jiI gs)→∀ g ∈ gs,g=true
 | [],_,g,hg=>by simp at hg
 | x :: gs,h,g,hg=>by
  rcases List.mem_cons.1 hg with rfl | hg
  ·exact h.1
  ·exact jdK h.2 g hg
theorem jcn:∀ {gs:List Bool},AllP (jhY true gs)→∀ g ∈ gs,g=true
 | [],_,g,hg=>by simp at hg
 | x :: gs,h,g,hg=>by
  rcases List.mem_cons.1 hg with rfl | hg
  ·have:=h.1
   simpa [PC.holds] using this
  ·exact jcn h.2 g hg
theorem jc8 {c:Ctx} {w:World} {l:List Tmp} {T:List AV} {us:List Value} (h:Rels c w T us) (hg:∀ g ∈ Kp (fun t=>T[t]?) l,g=true):Rels c w (KJ l 0 T) us:=by
 refine Rels.of_get (by rw [h.length,zQ]) fun i a u ha hu=>?_
 rw [Qc] at ha
 simp only [Option.map_eq_some_iff,Nat.zero_add] at ha
 obtain ⟨y,hy,rfl⟩:=ha
 obtain ⟨v,hv,hrel⟩:=h.get i y hy
 rw [hu] at hv; simp at hv; subst hv
 by_cases hl:l.contains i=true
 ·rw [if_pos hl]
  cases y with
  | opt g x =>
   have hgt:=hg g (Y9 (tm:=fun t=>T[t]?) (l:=l) (t:=i) (by simpa using hl) hy)
   unfold Rel at hrel
   exact hrel hgt
  | _=>exact hrel
 ·rw [if_neg hl]; exact hrel
theorem Mid.bare {c:Ctx} {w:World} {f:AFrame} {cs:List AFrame} {k:List AItem} {T:List AV} {H:List ABlk} {ops:Array Oper} {is:List Nat} {fr:Frame} {frs:List Frame}
  (h:Mid cf base w0 c w f cs k T H ops is fr frs) {l:List Tmp} (hg:∀ g ∈ Kp (fun t=>T[t]?) l,g=true):Mid cf base w0 c w f cs k (KJ l 0 T) H ops is fr frs :=
 ⟨h.todo,jc8 h.tmps hg,h.fn,h.defers,h.mode,h.kind,h.ro,h.frs,h.mem,h.glob⟩
theorem gz {cf:Cfg} {ops:Array Oper} {o:Oper} {T:List AV} {get:Nat→ABlk} {nm:Nat} {gd:Option Bool} {dc:Dec} :
  kA cf ops o (K4 fun t=>T[t]?) get nm gd dc=kA cf ops o (fun t=>(KJ (o.looksAt ops) 0 T)[t]?) get nm gd dc:=by
 refine KU (fun t ht=>?_) (fun t ht a ha b hb=>rfl) (fun _ _ _ _ _ _=>rfl)
 have hl:(o.looksAt ops).contains (0+t)=true:=by simpa using ht
 simp only [K4,Qc,hl,if_true]
theorem Y4 {c:Ctx} {w:World} {f:AFrame} {cs:List AFrame} {k:List AItem} {T:List AV} {H:List ABlk} {ops:Array Oper} {j:Nat} {is:List Nat} {fr:Frame} {frs:List Frame}
  (h:Mid cf base w0 c w f cs k T H ops (j :: is) fr frs) {o:Oper} (ho:ops[j]? = some o) {nm:Nat} (hnm:H[nm]? = some .gone) {gd:Option Bool} {dc:Dec} {e:Eff}
  (he:qw cf ops o (fun t=>T[t]?) (fun b=>(H[b]?).getD .gone) nm gd dc=some e) (hp:AllP e.pcs) :
  ∃ c' w' fr',Mid cf base w0 c' w' f cs k (setT T o.dst e.val) (Kd H e.wr) ops is fr' frs∧Steps cf.P (lone fr (frs++cs0) w) (lone fr' (frs++cs0) w'):=by
 have hbt:=jgw (o.looksAt ops) T
 unfold qw at he
 split at he
 ·unfold jfi at he
  split at he
  ·rename_i j' want hgu
   split at he
   ·rename_i t hd
    split at he
    ·rename_i b ht
     split at he
     ·rename_i e0 he0
      split at he
      ·rename_i hwr
       simp only [Option.some.injEq] at he; subst he
       have htb:K4 (fun t=>T[t]?) t=some (.d (.v (.bool b))):=by
        have ht:T[t]? = some (.d (.v (.bool b))):=ht
        simp [K4,ht,Kv.bare]
       obtain ⟨qs,hqs⟩:=jdQ hgu hd htb he0
       simp only [hqs,List.dropLast_concat] at hp
       obtain ⟨hp1,hp2⟩:=AllP.append hp
       by_cases hb:b=want
       ·have hbb:(b==want)=true:=by simp [hb]
        rw [hbb] at hp2
        have hm:=h.bare (jcn hp2)
        rw [gz] at he0
        obtain ⟨c',w',fr',⟨m1,m2,m3,m4,m5,m6,m7,m8,m9,m10⟩,hst⟩:=qK (cs0:=cs0) hm ho hnm he0 (by rw [hqs]; exact hp1.join ⟨hb,trivial⟩)
        rw [hwr] at m9
        have m2:=(hbt.setT o.dst e0.val).rels m2
        refine ⟨c',w',fr',⟨m1,Zl m2 (fun u hu=>by unfold Rel; exact fun _=>hu),m3,m4,m5,m6,m7,m8,m9,m10⟩,hst⟩
       ·have hb':b=!want:=by cases b <;> cases want <;> simp at hb ⊢
        obtain ⟨c',w',fr',⟨m1,m2,m3,m4,m5,m6,m7,m8,m9,m10⟩,hst⟩:=qK (cs0:=cs0) h ho hnm (jel (cf:=cf) (get:=fun b=>(H[b]?).getD .gone) (nm:=nm) (dc:=.none) hgu hd ht) ⟨hb',trivial⟩
        refine ⟨c',w',fr',⟨m1,Zl m2 (fun u _=>by
         unfold Rel; intro hbw; exact absurd (beq_iff_eq.1 hbw) hb),m3,m4,m5,m6,m7,m8,m9,m10⟩,hst⟩
      ·simp at he
     ·simp at he
    ·simp at he
   ·simp at he
  ·simp at he
 ·exact qK h ho hnm he hp
 ·split at he
  ·rename_i ps hgf
   have he0:kA cf ops o (fun t=>T[t]?) (fun b=>(H[b]?).getD .gone) nm gd dc=some ⟨ps,.tup [],[]⟩:=by
    unfold kA
    rw [hgf]
   simp only [Option.some.injEq] at he; subst he
   exact qK h ho hnm he0 hp
  split at he
  ·rename_i e0 he0
   simp only [Option.some.injEq] at he; subst he
   obtain ⟨hp1,hp2⟩:=AllP.append hp
   have hm:=h.bare (jdK hp2)
   rw [gz] at he0
   obtain ⟨c',w',fr',⟨m1,m2,m3,m4,m5,m6,m7,m8,m9,m10⟩,hst⟩:=qK (cs0:=cs0) hm ho hnm he0 hp1
   exact ⟨c',w',fr',⟨m1,(hbt.setT o.dst e0.val).rels m2,m3,m4,m5,m6,m7,m8,m9,m10⟩,hst⟩
  ·simp at he
structure SegOrd (ops:Array Oper) (lo hi:Nat) (l:List Nat):Prop where
 nodup:l.Nodup
 mem:∀ i,i ∈ l↔lo≤i∧i<hi
 order:∀ p j q,l=p++j :: q→∀ e ∈ Jm ops j,e<lo∨e ∈ p
theorem yF {rs:List Rec} {lo len m t:Nat} {r:Rec} (h:rs[m]? = some r) :
  wrT rs lo len (lo+m) t=zX r.dst r.eff.val len t:=by
 unfold wrT
 rw [if_pos (by omega),show lo+m - lo=m by omega,h]
theorem yJ {rs:List Rec} {lo len m b:Nat} {r:Rec} (h:rs[m]? = some r) :
  wrN rs lo len (lo+m) b=gk r.eff.wr len b:=by
 unfold wrN
 rw [if_pos (by omega),show lo+m - lo=m by omega,h]
theorem jfz {ops:Array Oper} {n lo:Nat} {T0:List AV} {H0:List ABlk} {nm0:Nat} {ds ds':List Dec} {rs:List Rec} {T':List AV} {H':List ABlk}
  (hseg:QN cf ops n lo T0 H0 nm0 ds=some (rs,T',H',ds')) (hdec:KN ops=true) (hchk:Zd ops lo rs=true) (hpc:∀ r ∈ rs,AllP r.eff.pcs)
  {σ:List Nat} (hnd:σ.Nodup) (hmem:∀ i ∈ σ,lo≤i∧i<lo+rs.length) (hord:∀ p j q,σ=p++j :: q→∀ e ∈ Jm ops j,e<lo∨e ∈ p) {rest:List Nat}
  {c:Ctx} {w:World} {f:AFrame} {cs:List AFrame} {k:List AItem} {fr:Frame} {frs:List Frame} (h:Mid cf base w0 c w f cs k T0 H0 ops (σ++rest) fr frs) :
  ∃ c' w' fr' T1 H1,T1.length=T'.length∧(∀ t,(∀ m r,rs[m]? = some r→r.dst=some t→lo+m ∈ σ)→T1[t]? = T'[t]?)∧((∀ m r,rs[m]? = some r→lo+m ∈ σ∨r.eff.wr=[])→H1=H') ∧
   Mid cf base w0 c' w' f cs k T1 H1 ops rest fr' frs∧Steps cf.P (lone fr (frs++cs0) w) (lone fr' (frs++cs0) w'):=by
 obtain ⟨Tc,Hc,hT0,hH0,hT1,hH1,_,hrec⟩:=QU hseg
 have hsz:∀ n (_:n<rs.length),lo+n<ops.size:=fun n hn=>by
  obtain ⟨o,ho,_⟩:=hrec n rs[n] (by simp [hn])
  exact (Array.getElem?_eq_some_iff.1 ho).1
 have hTlen:∀ m,m≤rs.length→(Tc m).length=T0.length:=by
  intro m
  induction m with
  | zero=>intro _; rw [hT0]
  | succ m ih =>
   intro hm
   obtain ⟨o,_,_,_,_,_,_,_,_,_,hn,_⟩:=hrec m rs[m] (List.getElem?_eq_getElem (by omega))
   rw [hn,qh,ih (by omega)]
 have hHlen:∀ m,m≤rs.length→(Hc m).length=H0.length:=by
  intro m
  induction m with
  | zero=>intro _; rw [hH0]
  | succ m ih =>
   intro hm
   obtain ⟨o,_,_,_,_,_,_,_,_,_,_,hn⟩:=hrec m rs[m] (List.getElem?_eq_getElem (by omega))
   rw [hn,yR,ih (by omega)]
 have hlow:∀ (p:Nat→Bool) t n,n≤lo→CP (wrT rs lo T0.length) (fun t=>T0[t]?) p n t=T0[t]? := by
  intro p t n
  induction n with
  | zero=>intro _; rfl
  | succ n ih =>
   intro hn
   have:wrT rs lo T0.length n t=none:=by simp [wrT]; omega
   simp only [CP,ih (by omega),this]; simp
 have hlowN:∀ (p:Nat→Bool) b n,n≤lo→CP (wrN rs lo H0.length) (fun b=>(H0[b]?).getD .gone) p n b=(H0[b]?).getD .gone:=by
  intro p t n
  induction n with
  | zero=>intro _; rfl
  | succ n ih =>
   intro hn
   have:wrN rs lo H0.length n t=none:=by simp [wrN]; omega
   simp only [CP,ih (by omega),this]; simp
 have hcanT:∀ m,m≤rs.length→∀ t,(Tc m)[t]? = CP (wrT rs lo T0.length) (fun t=>T0[t]?) (fun _=>true) (lo+m) t:=by
  intro m
  induction m with
  | zero=>intro _ t; rw [hT0,Nat.add_zero,hlow _ _ _ (Nat.le_refl _)]
  | succ m ih =>
   intro hm t
   obtain ⟨o,_,hd,_,_,_,_,_,_,_,hn,_⟩:=hrec m rs[m] (List.getElem?_eq_getElem (by omega))
   have hw:=yF (rs:=rs) (lo:=lo) (len:=T0.length) (t:=t) (show rs[m]? = some rs[m] from List.getElem?_eq_getElem (by omega))
   rw [show lo+(m+1)=(lo+m)+1 by omega]
   simp only [CP,if_true]
   rw [hw,hn,jc4,hTlen m (by omega),ih (by omega),hd]
 have hcanN:∀ m,m≤rs.length→∀ b,((Hc m)[b]?).getD .gone=CP (wrN rs lo H0.length) (fun b=>(H0[b]?).getD .gone) (fun _=>true) (lo+m) b:=by
  intro m
  induction m with
  | zero=>intro _ t; rw [hH0,Nat.add_zero,hlowN _ _ _ (Nat.le_refl _)]
  | succ m ih =>
   intro hm t
   obtain ⟨o,_,_,_,_,_,_,hsh,_,_,_,hn⟩:=hrec m rs[m] (List.getElem?_eq_getElem (by omega))
   have hw:=yJ (rs:=rs) (lo:=lo) (len:=H0.length) (b:=t) (show rs[m]? = some rs[m] from List.getElem?_eq_getElem (by omega))
   rw [show lo+(m+1)=(lo+m)+1 by omega]
   simp only [CP,if_true]
   rw [hw,hn,yU hsh,hHlen m (by omega),ih (by omega)]
 let pOf:List Nat→Nat→Bool:=fun p k=>p.contains k
 let St:List Nat→List AV→List ABlk→Prop:=fun p T H =>
  T.length=T0.length∧H.length=H0.length∧(∀ t,T[t]? = CP (wrT rs lo T0.length) (fun t=>T0[t]?) (pOf p) (lo+rs.length) t) ∧
  (∀ b,(H[b]?).getD .gone=CP (wrN rs lo H0.length) (fun b=>(H0[b]?).getD .gone) (pOf p) (lo+rs.length) b)
 have main:∀ q p,σ=p++q→∀ {c w fr T H},St p T H→Mid cf base w0 c w f cs k T H ops (q++rest) fr frs →
   ∃ c' w' fr' T1 H1,St σ T1 H1∧Mid cf base w0 c' w' f cs k T1 H1 ops rest fr' frs∧Steps cf.P (lone fr (frs++cs0) w) (lone fr' (frs++cs0) w'):=by
  intro q
  induction q with
  | nil =>
   intro p hp c w fr T H hst hmid
   simp at hp; subst hp
   exact ⟨c,w,fr,T,H,hst,by simpa using hmid,Steps.refl _ _⟩
  | cons j q ih =>
   intro p hp c w fr T H hst hmid
   obtain ⟨hl1,hl2,hst1,hst2⟩:=hst
   have hjσ:j ∈ σ:=by rw [hp]; simp
   obtain ⟨hj1,hj2⟩:=hmem j hjσ
   have hjp:j ∉ p:=by
    have:=hnd
    rw [hp] at this
    intro hh
    have:=(List.nodup_append.1 this).2.2 j hh j (by simp)
    exact this rfl
   obtain ⟨m,rfl⟩:∃ m,j=lo+m:=⟨j - lo,by omega⟩
   have hm:m<rs.length:=by omega
   obtain ⟨o,ho,hd,hnm,hent,hgone,hex,hsh,htmR,hnmR,hnT,hnH⟩:=hrec m rs[m] (by simp [hm])
   have hrm:rs[m]? = some rs[m]:=by simp [hm]
   have hready:∀ e ∈ Jm ops (lo+m),e<lo∨e ∈ p:=hord p (lo+m) q hp
   have hclosed:∀ x ∈ p,∀ e ∈ Jm ops x,e<lo∨e ∈ p:=by
    intro x hx e he
    obtain ⟨p1,p2,hp12⟩:=List.append_of_mem hx
    have:=hord p1 x (p2++(lo+m) :: q) (by rw [hp,hp12]; simp) e he
    rcases this with h1 | h1
    ·exact .inl h1
    ·exact .inr (by rw [hp12]; simp [h1])
   have hconf:∀ n (hn:n<rs.length),n≠m→(n<m→JE rs[n] rs[m]=true)→(m<n→JE rs[m] rs[n]=true)→(lo+n ∈ p↔n<m):=by
    intro n hn hne h1 h2
    constructor
    ·intro hin
     apply Classical.byContradiction
     intro hge
     have hmn:m<n:=by omega
     have:=QY hchk m n rs[m] rs[n] hmn hrm (by simp [hn]) (h2 hmn)
     exact hjp (jkH hdec (hsz n hn) this (by omega) hclosed hin)
    ·intro hlt
     have:=QY hchk n m rs[n] rs[m] hlt (by simp [hn]) hrm (h1 hlt)
     have h3:=jkH hdec (p:=p++[lo+m]) (hsz m hm) this (show lo≤lo+n by omega) (by
      intro x hx e he
      rcases List.mem_append.1 hx with hx | hx
      ·rcases hclosed x hx e he with h4 | h4
       ·exact .inl h4
       ·exact .inr (by simp [h4])
      ·simp at hx; subst hx
       rcases hready e he with h4 | h4
       ·exact .inl h4
       ·exact .inr (by simp [h4])) (by simp)
     simp at h3
     rcases h3 with h3 | h3
     ·exact h3
     ·omega
   have hreadT:∀ t ∈ o.looksAt ops,T[t]? = (Tc m)[t]? := by
    intro t ht
    rw [hst1,hcanT m (by omega)]
    refine jfF _ _ (by omega) ?_
    intro x hx hw
    obtain ⟨n,rfl,hn⟩:∃ n,x=lo+n∧n<rs.length:=by
     have:lo≤x:=by
      apply Classical.byContradiction
      intro hlt; apply hw; simp [wrT]; omega
     exact ⟨x - lo,by omega,by omega⟩
    have hrn:rs[n]? = some rs[n]:=by simp [hn]
    rw [yF hrn] at hw
    have hdst:rs[n].dst=some t:=KV hw
    by_cases hnm':n=m
    ·subst hnm'
     have:(pOf p (lo+n))=false:=by simpa [pOf] using hjp
     rw [this]; simp
    ·have:=hconf n hn hnm' (fun _=>by simp [JE,hdst,jfK,htmR,ht]) (fun _=>by simp [JE,hdst,jfK,htmR,ht])
     simp only [pOf]
     rw [Bool.eq_iff_iff]
     simp [this]
   have hreadN:∀ b ∈ rs[m].nmR,(H[b]?).getD .gone=((Hc m)[b]?).getD .gone:=by
    intro b hb
    rw [hst2,hcanN m (by omega)]
    refine jfF _ _ (by omega) ?_
    intro x hx hw
    obtain ⟨n,rfl,hn⟩:∃ n,x=lo+n∧n<rs.length:=by
     have:lo≤x:=by
      apply Classical.byContradiction
      intro hlt; apply hw; simp [wrN]; omega
     exact ⟨x - lo,by omega,by omega⟩
    have hrn:rs[n]? = some rs[n]:=by simp [hn]
    rw [yJ hrn] at hw
    have hwr:∃ x,(b,x) ∈ rs[n].eff.wr:=qQ hw
    obtain ⟨xb,hwr⟩:=hwr
    by_cases hnm':n=m
    ·subst hnm'
     have:(pOf p (lo+n))=false:=by simpa [pOf] using hjp
     rw [this]; simp
    ·have:=hconf n hn hnm' (fun _=>by first | exact (KX hwr hb).1 | exact (KX hwr hb).2) (fun _=>by first | exact (KX hwr hb).1 | exact (KX hwr hb).2)
     simp only [pOf]
     rw [Bool.eq_iff_iff]
     simp [this]
   have hex':qw cf ops o (fun t=>T[t]?) (fun b=>(H[b]?).getD .gone) rs[m].nm rs[m].gd rs[m].dc=some rs[m].eff:=by
    rw [← hex]
    by_cases hpl:Z3 o.op=true
    ·rw [jbR hpl (get':=fun b=>((Hc m)[b]?).getD .gone)]
     exact yS (tm:=fun t=>T[t]?) (tm':=fun t=>(Tc m)[t]?) (get:=fun b=>((Hc m)[b]?).getD .gone) hreadT (fun _ _ _ _ _ _=>rfl) (fun _ _ _ _ _ _=>rfl)
    have hna:∀ t ∈ o.looksAt ops,∀ a,T[t]? = some a→∀ b ∈ jh a,b ∈ Q5 o ops (Tc m):=by
     intro t ht a ha b hb
     unfold Q5
     rw [if_neg hpl]
     refine List.mem_flatMap.2 ⟨t,ht,?_⟩
     rw [← hreadT t ht,ha]
     exact hb
    have hgb:∀ t ∈ o.looksAt ops,∀ a,T[t]? = some a→∀ b ∈ jh a,(H[b]?).getD .gone=((Hc m)[b]?).getD .gone:=by
     intro t ht a ha b hb
     refine hreadN b ?_
     rw [hnmR]
     exact List.mem_cons_of_mem _ (List.mem_append_left _ (hna t ht a ha b hb))
    refine yS (tm:=fun t=>T[t]?) (tm':=fun t=>(Tc m)[t]?) (get:=fun b=>(H[b]?).getD .gone) (get':=fun b=>((Hc m)[b]?).getD .gone) hreadT hgb ?_
    intro t ht a ha q hq
    refine hreadN q ?_
    rw [hnmR]
    refine List.mem_cons_of_mem _ (List.mem_append_right _ ?_)
    rw [jdb (hgb t ht a ha)] at hq
    exact jgq (hna t ht a ha) hq
   have hgone':H[rs[m].nm]? = some .gone:=by
    have h1:=hreadN rs[m].nm (by rw [hnmR]; simp)
    rw [hgone] at h1
    simp at h1
    have hlen:rs[m].nm<H.length:=by
     rw [hl2,← hHlen m (by omega)]
     exact (List.getElem?_eq_some_iff.1 hgone).1
    rw [List.getElem?_eq_getElem hlen] at h1 ⊢
    simp at h1
    rw [h1]
   obtain ⟨c1,w1,fr1,hmid1,hsteps1⟩:=Y4 (cs0:=cs0) (is:=q++rest) (by simpa using hmid) ho hgone' hex' (hpc _ (List.getElem_mem _))
   have hpq:σ=(p++[lo+m])++q:=by rw [hp]; simp
   have hpf:pOf p (lo+m)=false:=by simpa [pOf] using hjp
   have hpe:(pOf (p++[lo+m]))=fun x=>pOf p x||x==lo+m:=by
    funext x
    simp only [pOf]
    rw [Bool.eq_iff_iff]
    simp
   have hst':St (p++[lo+m]) (setT T o.dst rs[m].eff.val) (Kd H rs[m].eff.wr):=by
    refine ⟨by rw [qh,hl1],by rw [yR,hl2],?_,?_⟩
    ·intro t
     rw [hpe,YO _ _ hpf (by omega),yF hrm,jc4,hl1,hst1,hd]
     intro hw x hx1 hx2 hx3
     obtain ⟨n,rfl,hn⟩:∃ n,x=lo+n∧n<rs.length:=⟨x - lo,by omega,by omega⟩
     have hrn:rs[n]? = some rs[n]:=by simp [hn]
     apply Classical.byContradiction
     intro hw2
     rw [yF hrm] at hw
     rw [yF hrn] at hw2
     have hd1:rs[m].dst=some t:=KV hw
     have hd2:rs[n].dst=some t:=KV hw2
     have:=(hconf n hn (by omega) (fun _=>by omega) (fun _=>by simp [JE,hd1,hd2,jfa])).1 (by simpa [pOf] using hx3)
     omega
    ·intro b
     rw [hpe,YO _ _ hpf (by omega),yJ hrm,yU hsh,hl2,hst2]
     intro hw x hx1 hx2 hx3
     obtain ⟨n,rfl,hn⟩:∃ n,x=lo+n∧n<rs.length:=⟨x - lo,by omega,by omega⟩
     have hrn:rs[n]? = some rs[n]:=by simp [hn]
     apply Classical.byContradiction
     intro hw2
     rw [yJ hrm] at hw
     rw [yJ hrn] at hw2
     obtain ⟨x1,hx1'⟩:=qQ hw
     obtain ⟨x2,hx2'⟩:=qQ hw2
     have:=(hconf n hn (by omega) (fun _=>by omega) (fun _=>by first | exact (Ya hx1' hx2').1 | exact (Ya hx1' hx2').2)).1 (by simpa [pOf] using hx3)
     omega
   obtain ⟨c2,w2,fr2,T2,H2,hs2,hm2,hsteps2⟩:=ih (p++[lo+m]) hpq hst' hmid1
   exact ⟨c2,w2,fr2,T2,H2,hs2,hm2,hsteps1.trans hsteps2⟩
 have hstart:St [] T0 H0:=by
  refine ⟨rfl,rfl,?_,?_⟩
  ·intro t
   rw [← hlow (pOf []) t lo (Nat.le_refl _)]
   rw [Z5 _ _ (i:=lo) (n:=lo+rs.length) (by omega) (fun x _ _ _=>by simp [pOf])]
  ·intro b
   rw [← hlowN (pOf []) b lo (Nat.le_refl _)]
   rw [Z5 _ _ (i:=lo) (n:=lo+rs.length) (by omega) (fun x _ _ _=>by simp [pOf])]
 obtain ⟨c',w',fr',T1,H1,⟨e1,e2,e3,e4⟩,hmid,hsteps⟩:=main σ [] (by simp) hstart h
 refine ⟨c',w',fr',T1,H1,by rw [e1,← hT1,hTlen rs.length (Nat.le_refl _)],?_,?_,hmid,hsteps⟩
 ·intro t ht
  rw [e3,← hT1,hcanT rs.length (Nat.le_refl _)]
  refine QQ _ _ ?_
  intro x hx hw
  obtain ⟨n,rfl,hn⟩:∃ n,x=lo+n∧n<rs.length:=by
   have:lo≤x:=by
    apply Classical.byContradiction
    intro hlt; apply hw; simp [wrT]; omega
   exact ⟨x - lo,by omega,by omega⟩
  have hrn:rs[n]? = some rs[n]:=by simp [hn]
  rw [yF hrn] at hw
  simp only [pOf]
  simpa using ht n rs[n] hrn (KV hw)
 ·intro hb
  apply List.ext_getElem?
  intro b
  have hv:(H1[b]?).getD .gone=(H'[b]?).getD .gone:=by
   rw [e4,← hH1,hcanN rs.length (Nat.le_refl _)]
   refine QQ _ _ ?_
   intro x hx hw
   obtain ⟨n,rfl,hn⟩:∃ n,x=lo+n∧n<rs.length:=by
    have:lo≤x:=by
     apply Classical.byContradiction
     intro hlt; apply hw; simp [wrN]; omega
    exact ⟨x - lo,by omega,by omega⟩
   have hrn:rs[n]? = some rs[n]:=by simp [hn]
   rw [yJ hrn] at hw
   simp only [pOf]
   rcases hb n rs[n] hrn with h1 | h1
   ·simpa using h1
   ·obtain ⟨x1,hx1⟩:=qQ hw
    rw [h1] at hx1
    simp at hx1
  have hlen:H1.length=H'.length:=by rw [e2,← hH1,hHlen rs.length (Nat.le_refl _)]
  by_cases hb:b<H1.length
  ·rw [List.getElem?_eq_getElem hb,List.getElem?_eq_getElem (by omega)] at hv ⊢
   simpa using hv
  ·rw [List.getElem?_eq_none (by omega),List.getElem?_eq_none (by omega)]
theorem jfN {ops:Array Oper} {n lo:Nat} {T0:List AV} {H0:List ABlk} {nm0:Nat} {ds ds':List Dec} {rs:List Rec} {T':List AV} {H':List ABlk}
  (hseg:QN cf ops n lo T0 H0 nm0 ds=some (rs,T',H',ds')) (hdec:KN ops=true) (hchk:Zd ops lo rs=true) (hpc:∀ r ∈ rs,AllP r.eff.pcs)
  {σ:List Nat} (hσ:SegOrd ops lo (lo+rs.length) σ) {rest:List Nat}
  {c:Ctx} {w:World} {f:AFrame} {cs:List AFrame} {k:List AItem} {fr:Frame} {frs:List Frame} (h:Mid cf base w0 c w f cs k T0 H0 ops (σ++rest) fr frs) :
  ∃ c' w' fr',Mid cf base w0 c' w' f cs k T' H' ops rest fr' frs∧Steps cf.P (lone fr (frs++cs0) w) (lone fr' (frs++cs0) w'):=by
 obtain ⟨c',w',fr',T1,H1,e1,e2,e3,hmid,hsteps⟩:=jfz (cs0:=cs0) hseg hdec hchk hpc hσ.nodup (fun i hi=>(hσ.mem i).1 hi) hσ.order h
 have hin:∀ m r,rs[m]? = some r→lo+m ∈ σ:=by
  intro m r hr
  have:=(List.getElem?_eq_some_iff.1 hr).1
  exact (hσ.mem _).2 ⟨by omega,by omega⟩
 have hT:T1=T':=List.ext_getElem? fun t=>e2 t fun m r hr _=>hin m r hr
 have hH:H1=H':=e3 fun m r hr=>.inl (hin m r hr)
 subst hT; subst hH
 exact ⟨c',w',fr',hmid,hsteps⟩
end
end Go.Kv
