import Derived.Test.YtdelimpnnpifpaaGreatDoorKvD
set_option linter.all false
namespace Go.Kv
open Go Go.RowKit
def ye:AV→Bool
 | .agg _=>false
 | .tup _=>false
 | .any=>false
 | .opt ..=>false
 | _=>true
def Zb:AV→Option (List AV)
 | .agg cs=>some cs
 | .tup _=>none
 | .any=>none
 | .opt ..=>none
 | a=>some [a]
def toD:AV→Option DV
 | .d x=>some x
 | .own _ _ _ n xs=>some (.sl n xs)
 | .em=>some (.sl 0 [])
 | _=>none
def aD:AV→DV
 | .d x=>x
 | _=>.v .nilIface
def toDs:List AV→Option (List DV)
 | []=>some []
 | a :: as=>match toD a,toDs as with
  | some x,some xs=>some (x :: xs)
  | _,_=>none
theorem J1 {α:Type} {l:List α} {i:Nat} {x:α} (h:l[i]? = some x):l.set i x=l:=by
 apply List.ext_getElem?
 intro j
 by_cases hj:i=j
 ·subst hj
  rw [List.getElem?_set_self (List.getElem?_eq_some_iff.1 h).1,h]
 ·rw [List.getElem?_set_ne hj]
section
variable {c:Ctx} {w:World}
theorem RelD.one {φ:Nat→Nat} {x:DV} {u:Value} (h:RelD φ w x u):u.oneCell'=true:=by
 cases x with
 | v y=>unfold RelD at h; rw [h.1]; exact h.2
 | sl n xs=>unfold RelD at h; obtain ⟨bk,off,cap,us,hu,_⟩:=h; rcases hu with rfl | ⟨⟨o,rfl⟩,_⟩ <;> rfl
theorem Rel.one {a:AV} {u:Value} (h:Rel c w a u) (ho:ye a=true):u.oneCell'=true:=by
 cases a with
 | d x=>unfold Rel at h; exact h.one
 | ptr=>unfold Rel at h; rw [h.2]; rfl
 | ip cs=>unfold Rel at h; obtain ⟨_,_,_,rfl,_⟩:=h; rfl
 | own=>unfold Rel at h; obtain ⟨_,_,_,_,rfl,_⟩:=h; rfl
 | ms=>unfold Rel at h; obtain ⟨_,_,_,_,rfl⟩:=h; rfl
 | fn=>unfold Rel at h; obtain ⟨_,_,_,rfl,_⟩:=h; rfl
 | yl=>unfold Rel at h; rw [h.2]; rfl
 | mp=>unfold Rel at h; rw [h.2]; rfl
 | gx b x =>
  unfold Rel at h
  obtain ⟨_,_,h⟩:=h
  cases x <;> unfold GRel at h
  ·obtain ⟨_,_,_,_,rfl,_⟩:=h; rfl
  ·obtain ⟨_,_,rfl,_⟩:=h; rfl
  ·obtain ⟨_,_,_,rfl⟩:=h; rfl
  ·rw [h.2]; rfl
 | em=>unfold Rel at h; obtain ⟨_,rfl⟩:=h; rfl
 | nan=>unfold Rel at h; obtain ⟨_,rfl,_⟩:=h; rfl
 | agg=>simp [ye] at ho
 | tup=>simp [ye] at ho
 | opt=>simp [ye] at ho
 | any=>simp [ye] at ho
theorem Qa {u:Value} (h:u.oneCell'=true):u.cells=#[u]:=by
 cases u <;> first | rfl | simp [Value.oneCell'] at h
theorem Rel.cells {a:AV} {u:Value} {cs:List AV} (h:Rel c w a u) (hc:Zb a=some cs):Rels c w cs u.cells.toList:=by
 by_cases ho:ye a=true
 ·have:cs=[a]:=by cases a <;> simp [ye,Zb] at*<;> exact hc.symm
  subst this
  rw [Qa (h.one ho)]
  exact Rels.cons h Rels.nil
 ·cases a <;> simp [ye,Zb] at ho hc
  subst hc
  unfold Rel at h; obtain ⟨us,rfl,hs⟩:=h
  simpa [Value.cells] using hs
theorem Rels.one:∀ {as:List AV} {us:List Value},Rels c w as us→as.all ye=true→∀ u ∈ us,u.oneCell'=true
 | [],us,h,_,u,hu=>by rw [h.nil_inv] at hu; simp at hu
 | a :: as,us,h,ho,u,hu=>by
  obtain ⟨v,r,rfl,hv,t⟩:=h.cons_inv
  simp at ho
  rcases List.mem_cons.1 hu with rfl | hu
  ·exact hv.one ho.1
  ·exact Rels.one t (by simpa using ho.2) u hu
theorem RelDs.one {φ:Nat→Nat}:∀ {xs:List DV} {us:List Value},RelDs φ w xs us→∀ u ∈ us,u.oneCell'=true
 | [],us,h,u,hu=>by rw [h.nil_inv] at hu; simp at hu
 | a :: as,us,h,u,hu=>by
  obtain ⟨v,r,rfl,hv,t⟩:=h.cons_inv
  rcases List.mem_cons.1 hu with rfl | hu
  ·exact hv.one
  ·exact RelDs.one t u hu
theorem Rel.toD {a:AV} {u:Value} {x:DV} (h:Rel c w a u) (hx:toD a=some x):RelD c.φ w x u:=by
 cases a <;> simp [Kv.toD] at hx
 ·subst hx; unfold Rel at h; exact h
 ·subst hx
  unfold Rel at h
  obtain ⟨bk,off,cap,us,rfl,h1,h2,h3,h4,_⟩:=h
  unfold RelD; exact ⟨bk,off,cap,us,.inl rfl,h1,h2,h3,h4⟩
 ·subst hx
  unfold Rel at h
  obtain ⟨o,rfl⟩:=h
  unfold RelD; exact ⟨0,0,0,[],.inr ⟨⟨o,rfl⟩,rfl,rfl,rfl⟩,Nat.zero_le _,Nat.le_refl _,by intro i u hu; simp at hu,RelDs.nil⟩
theorem Rels.toDs:∀ {as:List AV} {us:List Value} {xs:List DV},Rels c w as us→toDs as=some xs→RelDs c.φ w xs us
 | [],us,xs,h,hx=>by simp [Kv.toDs] at hx; subst hx; rw [h.nil_inv]; exact RelDs.nil
 | a :: as,us,xs,h,hx=>by
  obtain ⟨v,r,rfl,hv,t⟩:=h.cons_inv
  simp only [Kv.toDs] at hx
  split at hx
  ·rename_i y ys h1 h2
   simp at hx; subst hx
   exact RelDs.cons (hv.toD h1) (Rels.toDs t h2)
  ·simp at hx
theorem J5 {bk off k:Nat} {us:List Value} (h:jT w bk off us):jT w bk (off+k) (us.drop k):=by
 intro i u hu
 rw [List.getElem?_drop] at hu
 have:=h (k+i) u hu
 rwa [← Nat.add_assoc] at this
theorem jN {bk off k:Nat} {us:List Value} (h:jT w bk off us):jT w bk off (us.take k):=by
 intro i u hu
 rw [List.getElem?_take] at hu
 split at hu
 ·exact h i u hu
 ·simp at hu
theorem JL {g off:Nat} {us rest:List Value} {t:TypeId} (h:w.heap[g]? = some (.cells (us++rest).toArray t (0,0))):jT w g off (us.drop off):=by
 intro i u hu
 rw [cell_of_row _ _ _ _ _ _ h]
 rw [List.getElem?_drop] at hu
 have hi:=(List.getElem?_eq_some_iff.1 hu).1
 simpa [List.getElem?_append_left hi] using hu
theorem KO {us rest vs:List Value} {off n:Nat} (h:off+n≤us.length):(us++rest).take off++vs++(us++rest).drop (off+n)=us.take off++vs++us.drop (off+n)++rest:=by
 rw [List.take_append_of_le_length (by omega),List.drop_append_of_le_length h]
 simp [List.append_assoc]
theorem J3 {P:Program} {bk off:Nat} {us:List Value} (h:jT w bk off us) (n:Nat) (hn:n=us.length):(loadCells ⟨bk,off,none⟩ n).run P w=.ok us.toArray w:=by
 subst hn
 refine run_loadCells_list w ⟨bk,off,none⟩ us fun j v hv=>?_
 rw [Addr.add_lit]
 exact h j v hv
theorem Yu {P:Program} {bk off:Nat} {us:List Value} (h:jT w bk off us) {t:TypeId} {i:TypeInfo} {d:TypeDesc} (hi:P.info? t=some i) (hd:P.underlying t=some d) (ha:jet d=true) (hl:us.length=i.size) :
  (loadVar t ⟨bk,off,none⟩).run P w=.ok (.agg us.toArray) w:=by
 simp only [loadVar,Sem.run_bind,ql hd,Result.andThen_ok,ha,if_true,jY hi,J3 h _ hl.symm,Sem.run_pure]
theorem Qi {P:Program} {bk off:Nat} {u:Value} (h:w.cell? ⟨bk,off,none⟩=some u) {t:TypeId} {d:TypeDesc} (hd:P.underlying t=some d) (ha:jet d=false) :
  (loadVar t ⟨bk,off,none⟩).run P w=.ok u w:=by
 simp only [loadVar,Sem.run_bind,ql hd,Result.andThen_ok,ha,Bool.false_eq_true,if_false,run_load,h]
end
def QT (P:Program) (t:TypeId):Option (Nat × Bool) :=
 match P.info? t,P.underlying t with
 | some i,some d=>some (i.size,jet d)
 | _,_=>none
def Qp (cf:Cfg) (t:TypeId) (a:AV) (get:Nat→ABlk) (dc:Dec):Option ARes :=
 match QT cf.P t with
 | none=>none
 | some (sz,ag) =>
  match a with
  | .ptr b off=>match get b with
   | .cells cs _ =>
    if ag then
     match dc with
     | .as (.agg ys)=>some ⟨[.leN (off+sz) cs.length,.prop ((cs.drop off).take sz=ys)],.agg ys,[]⟩
     | _=>if Nat.ble (off+sz) cs.length then some ⟨[],.agg ((cs.drop off).take sz),[]⟩ else none
    else
     match dc with
     | .as y=>some ⟨[.prop (cs[off]? = some y)],y,[]⟩
     | _=>match cs[off]? with
      | some y=>some ⟨[],y,[]⟩
      | none=>none
   | _=>none
  | .ip cs =>
   if ag then
    match dc with
    | .as (.agg ys)=>some ⟨[.leN sz cs.length,.prop ((cs.take sz).map AV.d=ys)],.agg ys,[]⟩
    | _=>if Nat.ble sz cs.length then some ⟨[],.agg ((cs.take sz).map AV.d),[]⟩ else none
   else
    match dc with
    | .as y=>some ⟨[.prop ((cs[0]?).map AV.d=some y)],y,[]⟩
    | _=>match cs with
     | x :: _=>some ⟨[],.d x,[]⟩
     | []=>none
  | _=>none
section
variable {cf:Cfg} {base:Nat} {w0:Start} {c:Ctx} {w:World} {H:List ABlk} {av:Operand→Value} {ev:Operand→AV} {get:Nat→ABlk} {o:Oper}
theorem jW (hget:∀ b,get b=(H[b]?).getD .gone) {b:Nat} {k:ABlk} (h:get b=k) (hk:k≠.gone):H[b]? = some k:=by
 rw [hget] at h
 cases hb:H[b]? with
 | none=>rw [hb] at h; simp at h; exact absurd h.symm hk
 | some k'=>rw [hb] at h; simp at h; rw [h]
theorem jdt (h:WRel base w0 c w H) (hget:∀ b,get b=(H[b]?).getD .gone) {t:TypeId} {a:AV} {u:Value} (ha:Rel c w a u) {dc:Dec} {r:ARes} (hr:Qp cf t a get dc=some r) (hp:AllP r.pcs) :
  ∃ v,(Instr.loadAt t u).run cf.P w=.ok v w∧Rel c w r.val v∧r.wr=[]:=by
 unfold Qp QT at hr
 split at hr
 ·simp at hr
 rename_i sz ag hsz
 split at hsz
 ·rename_i i d hi hd
  simp at hsz
  obtain ⟨rfl,rfl⟩:=hsz
  have aggCase:∀ (bk off:Nat) (us:List Value) (ys:List AV),u=.pointer (some ⟨bk,off,none⟩)→jT w bk off us→us.length=i.size→jet d=true→Rels c w ys us →
    ∃ v,(Instr.loadAt t u).run cf.P w=.ok v w∧Rel c w (.agg ys) v:=by
   intro bk off us ys hu hc hl hag hrel
   subst hu
   refine ⟨.agg us.toArray,?_,by unfold Rel; exact ⟨us,rfl,hrel⟩⟩
   simp only [Instr.loadAt,Instr.sureAddr,Sem.run_bind,Sem.run_pure,Result.andThen_ok]
   exact Yu hc hi hd hag hl
  have oneCase:∀ (bk off:Nat) (v:Value) (y:AV),u=.pointer (some ⟨bk,off,none⟩)→w.cell? ⟨bk,off,none⟩=some v→jet d=false→Rel c w y v →
    ∃ v,(Instr.loadAt t u).run cf.P w=.ok v w∧Rel c w y v:=by
   intro bk off v y hu hc hag hrel
   subst hu
   refine ⟨v,?_,hrel⟩
   simp only [Instr.loadAt,Instr.sureAddr,Sem.run_bind,Sem.run_pure,Result.andThen_ok]
   exact Qi hc hd hag
  split at hr
  ·rename_i b off
   split at hr
   ·rename_i cs ty hb
    unfold Rel at ha
    obtain ⟨hl,rfl⟩:=ha
    have hH:=jW hget hb (by simp)
    obtain ⟨_,_,us,rest,hg,hs⟩:=h.blk b _ hH
    have hlen:=hs.length
    split at hr
    ·rename_i hag
     split at hr
     ·rename_i ys
      simp at hr; subst hr
      simp only [AllP,PC.holds,and_true] at hp
      obtain ⟨v,h1,h2⟩:=aggCase (c.ρ b) off ((us.drop off).take i.size) ys rfl (jN (JL hg)) (by simp; omega) hag (by rw [← hp.2]; exact (hs.drop off).take _)
      exact ⟨v,h1,h2,rfl⟩
     ·split at hr
      ·rename_i hle
       simp at hr; subst hr
       have hle:=Nat.le_of_ble_eq_true hle
       obtain ⟨v,h1,h2⟩:=aggCase (c.ρ b) off ((us.drop off).take i.size) _ rfl (jN (JL hg)) (by simp; omega) hag ((hs.drop off).take _)
       exact ⟨v,h1,h2,rfl⟩
      ·simp at hr
    ·rename_i hag
     have key:∀ y,cs[off]? = some y→∃ v,(Instr.loadAt t (.pointer (some ⟨c.ρ b,off,none⟩))).run cf.P w=.ok v w∧Rel c w y v:=by
      intro y hy
      obtain ⟨v,hv,hrel⟩:=hs.get off y hy
      exact oneCase (c.ρ b) off v y rfl (by rw [cell_of_row _ _ _ _ _ _ hg]; have hi:=(List.getElem?_eq_some_iff.1 hv).1; simpa [List.getElem?_append_left hi] using hv) (by simpa using hag) hrel
     split at hr
     ·rename_i y
      simp at hr; subst hr
      simp only [AllP,PC.holds,and_true] at hp
      obtain ⟨v,h1,h2⟩:=key y hp
      exact ⟨v,h1,h2,rfl⟩
     ·split at hr
      ·rename_i y hy
       simp at hr; subst hr
       obtain ⟨v,h1,h2⟩:=key y hy
       exact ⟨v,h1,h2,rfl⟩
      ·simp at hr
   ·simp at hr
  ·rename_i cs
   unfold Rel at ha
   obtain ⟨bk,off,us,rfl,hl,hc,hs⟩:=ha
   have hlen:=hs.length
   split at hr
   ·rename_i hag
    split at hr
    ·rename_i ys
     simp only [Option.some.injEq] at hr; subst hr
     simp only [AllP,PC.holds,and_true] at hp
     obtain ⟨v,h1,h2⟩:=aggCase bk off (us.take i.size) ys rfl (jN hc) (by simp; omega) hag (by rw [← hp.2]; exact Rels.map_d (hs.take _))
     exact ⟨v,h1,h2,rfl⟩
    ·split at hr
     ·rename_i hle
      simp only [Option.some.injEq] at hr; subst hr
      have hle:=Nat.le_of_ble_eq_true hle
      obtain ⟨v,h1,h2⟩:=aggCase bk off (us.take i.size) _ rfl (jN hc) (by simp; omega) hag (Rels.map_d (hs.take _))
      exact ⟨v,h1,h2,rfl⟩
     ·simp at hr
   ·rename_i hag
    have key:∀ x,cs[0]? = some x→∃ v,(Instr.loadAt t (.pointer (some ⟨bk,off,none⟩))).run cf.P w=.ok v w∧Rel c w (.d x) v:=by
     intro y hy
     obtain ⟨v,hv,hrel⟩:=hs.get 0 y hy
     exact oneCase bk off v (.d y) rfl (by simpa using hc 0 v hv) (by simpa using hag) (by unfold Rel; exact hrel)
    split at hr
    ·rename_i y
     simp at hr; subst hr
     simp only [AllP,PC.holds,and_true] at hp
     cases hx:cs[0]? with
     | none=>simp [hx] at hp
     | some x =>
      simp [hx] at hp
      subst hp
      obtain ⟨v,h1,h2⟩:=key x hx
      exact ⟨v,h1,h2,rfl⟩
    ·split at hr
     ·rename_i x xs
      simp at hr; subst hr
      obtain ⟨v,h1,h2⟩:=key x rfl
      exact ⟨v,h1,h2,rfl⟩
     ·simp at hr
  ·simp at hr
 ·simp at hsz
def jv (cs:List AV) (off:Nat) (vs:List AV):List AV:=cs.take off++vs++cs.drop (off+vs.length)
def QG (cf:Cfg) (t:TypeId) (a v:AV) (get:Nat→ABlk) (dc:Dec):Option ARes :=
 match QT cf.P t with
 | none=>none
 | some (sz,_) =>
  match a,Zb v with
  | .ptr b off,some vs=>match get b with
   | .cells cs ty =>
    if vs.all ye then
     match dc with
     | .as (.agg ys)=>some ⟨[.eqN vs.length sz,.leN (off+sz) cs.length,.prop (jv cs off vs=ys)],.any,[(b,.cells ys ty)]⟩
     | _=>if vs.length==sz&&Nat.ble (off+sz) cs.length then some ⟨[],.any,[(b,.cells (jv cs off vs) ty)]⟩ else none
    else none
   | _=>none
  | _,_=>none
theorem jf9 (h:WRel base w0 c w H) (hget:∀ b,get b=(H[b]?).getD .gone) {t:TypeId} {a v:AV} {u x:Value} (ha:Rel c w a u) (hv:Rel c w v x) {dc:Dec} {r:ARes} (hr:QG cf t a v get dc=some r) (hp:AllP r.pcs) :
  ∃ w',(Instr.storeAt t u x).run cf.P w=.ok () w'∧Ctx.Le c w c w'∧WRel base w0 c w' (r.wr.foldl (fun H x=>H.set x.1 x.2) H)∧r.val=.any:=by
 unfold QG QT at hr
 split at hr
 ·simp at hr
 rename_i sz ag hsz
 split at hsz
 ·rename_i i d hi hd
  simp at hsz
  obtain ⟨rfl,rfl⟩:=hsz
  split at hr
  ·rename_i b off vs hvs
   split at hr
   ·rename_i cs ty hb
    split at hr
    ·rename_i hone
     unfold Rel at ha
     obtain ⟨hl,rfl⟩:=ha
     have hH:=jW hget hb (by simp)
     obtain ⟨hbase,hφ,us,rest,hg,hs⟩:=h.blk b _ hH
     have hlen:=hs.length
     have hvc:=hv.cells hvs
     have hvl:=hvc.length
     have key:vs.length=i.size→off+i.size≤cs.length→∀ ys,jv cs off vs=ys →
       ∃ w',(Instr.storeAt t (.pointer (some ⟨c.ρ b,off,none⟩)) x).run cf.P w=.ok () w'∧Ctx.Le c w c w'∧WRel base w0 c w' (H.set b (.cells ys ty)):=by
      intro h1 h2 ys hys
      have hst:=run_storeCells_at cf.P (c.ρ b) off ty x.cells.toList 0 (us++rest).toArray w hg (by simp at *; omega) (hvc.one hone)
      have hrel:Rels c w ys (us.take off++x.cells.toList++us.drop (off+x.cells.toList.length)):=by
       rw [← hys,hvl]
       exact ((hs.take off).append hvc).append (hs.drop _)
      have hst2:=h.store hH hg (us':=us.take off++x.cells.toList++us.drop (off+x.cells.toList.length)) (by simp at *; omega) hrel
      refine ⟨_,?_,hst2.1,hst2.2⟩
      have hsz':¬ (x.cells.size≠i.size):=by
       simp at hvl ⊢; omega
      simp only [Instr.storeAt,Instr.sureAddr,Sem.run_bind,Sem.run_pure,Result.andThen_ok,storeVar,jY hi,Sem.run_ite,if_neg hsz']
      have hrs:=KO (us:=us) (rest:=rest) (vs:=x.cells.toList) (off:=off) (n:=x.cells.toList.length) (by simp at *; omega)
      rw [← hrs]
      simpa using hst
     split at hr
     ·rename_i ys
      simp at hr; subst hr
      simp only [AllP,PC.holds,and_true] at hp
      obtain ⟨w',k1,k2,k3⟩:=key hp.1 hp.2.1 ys hp.2.2
      exact ⟨w',k1,k2,k3,rfl⟩
     ·split at hr
      ·rename_i hc
       simp only [Bool.and_eq_true,beq_iff_eq] at hc
       simp at hr; subst hr
       obtain ⟨w',k1,k2,k3⟩:=key hc.1 (Nat.le_of_ble_eq_true hc.2) _ rfl
       exact ⟨w',k1,k2,k3,rfl⟩
      ·simp at hr
    ·simp at hr
   ·simp at hr
  ·simp at hr
 ·simp at hsz
def jol (t:TypeId) (v:AV) (nm:Nat):Option ARes :=
 match Zb v with
 | some cs=>some ⟨[],.ptr nm 0,[(nm,.cells cs t)]⟩
 | none=>none
theorem GS (h:WRel base w0 c w H) {nm:Nat} (hnm:H[nm]? = some .gone) {cs:List AV} {us:Array Value} (t:TypeId) (hs:Rels c w cs us.toList) :
  ∃ c',Ctx.Le c w c' (w.alloc (.cells us t))∧WRel base w0 c' (w.alloc (.cells us t)) (H.set nm (.cells cs t))∧Rel c' (w.alloc (.cells us t)) (.ptr nm 0) (.pointer (some ⟨w.heap.size,0,none⟩)):=by
 have h1:=h.alloc_cells hnm t hs
 simp only [Array.toArray_toList] at h1
 exact ⟨_,h1.1,h1.2,by unfold Rel; exact ⟨by simp [Ctx.new],by simp [Ctx.new]⟩⟩
theorem jlP (h:WRel base w0 c w H) {nm:Nat} (hnm:H[nm]? = some .gone) {t:TypeId} {a:AV} {u:Value} (ha:Rel c w a u) {r:ARes} (hr:jol t a nm=some r) :
  ∃ w' c' v,(Instr.box t u).run cf.P w=.ok v w'∧Ctx.Le c w c' w'∧WRel base w0 c' w' (r.wr.foldl (fun H x=>H.set x.1 x.2) H)∧Rel c' w' r.val v:=by
 unfold jol at hr
 split at hr
 ·rename_i cs hcs
  simp at hr; subst hr
  obtain ⟨c',h1,h2,h3⟩:=GS h hnm t (ha.cells hcs)
  exact ⟨_,c',_,by simp [Instr.box,newVar,newRow],h1,h2,h3⟩
 ·simp at hr
def Qh (P:Program) (t:TypeId):Option (List AV) :=
 match P.info? t with
 | some i=>match i.zero with
  | some z=>if z.cells.toList.all Zn then some (z.cells.toList.map fun x=>.d (.v x)) else none
  | none=>none
 | none=>none
theorem zf {P:Program} {t:TypeId} {cs:List AV} (hz:Qh P t=some cs):∃ z:Value,(∀ w,(zeroValue t).run P w=.ok z w)∧∀ c w,Rels c w cs z.cells.toList:=by
 unfold Qh at hz
 split at hz
 ·rename_i i hi
  split at hz
  ·rename_i z hzz
   split at hz
   ·rename_i hall
    simp at hz; subst hz
    refine ⟨z,fun w=>by simp [zeroValue,typeInfo,hi,hzz],fun c w=>jaq _ hall⟩
   ·simp at hz
  ·simp at hz
 ·simp at hz
def jeJ (cf:Cfg) (t:TypeId) (nm:Nat):Option ARes :=
 match Qh cf.P t with
 | some cs=>some ⟨[],.ptr nm 0,[(nm,.cells cs t)]⟩
 | none=>none
theorem jf7 (h:WRel base w0 c w H) {nm:Nat} (hnm:H[nm]? = some .gone) {t:TypeId} {r:ARes} (hr:jeJ cf t nm=some r) :
  ∃ w' c' v,(Instr.alloc t true (.tuple #[])).run cf.P w=.ok v w'∧Ctx.Le c w c' w'∧WRel base w0 c' w' (r.wr.foldl (fun H x=>H.set x.1 x.2) H)∧Rel c' w' r.val v:=by
 unfold jeJ at hr
 split at hr
 ·rename_i cs hcs
  simp at hr; subst hr
  obtain ⟨z,hz,hs⟩:=zf hcs
  obtain ⟨c',h1,h2,h3⟩:=GS h hnm t (hs c w)
  exact ⟨_,c',_,by simp [Instr.alloc,hz,newVar,newRow],h1,h2,h3⟩
 ·simp at hr
end
end Go.Kv
