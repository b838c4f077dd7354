import Derived.Test.YtdelimpnnpifpaaGreatDoorKvA
set_option linter.all false
namespace Go.Kv
open Go Go.RowKit
structure ALoop where
 state:LoopState
 pending:Option Code
 fn:FuncId
 tmps:List AV
 params:Array Tmp
 assign:Code
 body:Code
 defers:Nat
abbrev MIB:Type:=List (Int × Bool)
abbrev MSB:Type:=List (ByteArray × Bool)
abbrev MII:Type:=List (Int × Int)
abbrev MID:Type:=List (Int × List DV)
inductive AMap where
 | ib (k:IntKind) (es:MIB)
 | sb (es:MSB)
 | ii (k j:IntKind) (es:MII)
 | ia (k:IntKind) (es:MID)
def AMap.enc:AMap→List (Value × Value)
 | .ib k es=>es.map fun e=>(.int k e.1,.bool e.2)
 | .sb es=>es.map fun e=>(.string e.1,.bool e.2)
 | .ii k j es=>es.map fun e=>(.int k e.1,.int j e.2)
 | .ia _ _=>[]
def MRelD (φ:Nat→Nat) (w:World) (k:IntKind):MID→List MapEntry→Prop
 | [],l=>l=[]
 | e :: es,l=>∃ x r,l=x :: r∧x.key=.int k e.1∧(∃ us:List Value,x.val=.agg us.toArray∧RelDs φ w e.2 us)∧MRelD φ w k es r
def MRel (φ:Nat→Nat) (w:World):AMap→List MapEntry→Prop
 | .ia k es,l=>MRelD φ w k es l
 | m,l=>l.map (fun e=>(e.key,e.val))=m.enc
theorem MRelD.mono {c c':Ctx} {w w':World} (h:Ctx.Le c w c' w') {k:IntKind}:∀ {es:MID} {l:List MapEntry},MRelD c.φ w k es l→MRelD c'.φ w' k es l
 | [],l,hr=>hr
 | e :: es,l,hr=>by
  obtain ⟨x,r,rfl,h1,⟨us,h2,h3⟩,h4⟩:=hr
  exact ⟨x,r,rfl,h1,⟨us,h2,RelDs.mono h h3⟩,MRelD.mono h h4⟩
theorem MRel.mono {c c':Ctx} {w w':World} (h:Ctx.Le c w c' w') {m:AMap} {l:List MapEntry} (hr:MRel c.φ w m l):MRel c'.φ w' m l:=by
 cases m with
 | ia k es=>exact MRelD.mono h hr
 | _=>exact hr
def kG (ents:Array MapEntry) (clock:Nat):Prop:=clock=ents.size∧∀ (i:Nat) (e:MapEntry),ents[i]? = some e→e.born=i
inductive AIter where
 | si (s:ByteArray) (pos:Nat)
 | it (b since:Nat) (seen:List Nat) (last:Nat)
def ItRel (c:Ctx):AIter→Obj→Prop
 | .si s pos,o=>o=.stringIter s pos
 | .it b since seen last,o=>c.live b=true∧o=.mapIter (some (c.ρ b)) since seen.reverse.toArray last
theorem ItRel.mono {c c':Ctx} {w w':World} (h:Ctx.Le c w c' w') {i:AIter} {o:Obj} (hr:ItRel c i o):ItRel c' i o:=by
 cases i with
 | si=>exact hr
 | it b=>exact ⟨h.live b hr.1,by rw [h.ρ b hr.1]; exact hr.2⟩
inductive ABlk where
 | gone
 | dead
 | cells (cs:List AV) (t:TypeId)
 | tail (e:Nat)
 | loop (l:ALoop)
 | defd
 | mp (m:AMap)
 | itr (i:AIter)
 | grid (e:Nat) (p:List Nat) (rs:List (List DV))
def ABlk.isLive:ABlk→Bool
 | .gone=>false
 | _=>true
def ABlk.owns:ABlk→Bool
 | .gone=>false
 | .dead=>false
 | _=>true
def ABlk.isTail:ABlk→Bool
 | .tail _=>true
 | .grid ..=>true
 | _=>false
def loc (c:Ctx) (b:Nat):ABlk→Nat
 | .tail _=>c.τ b
 | .grid ..=>c.τ b
 | _=>c.ρ b
def ja9 (c:Ctx) (w:World) (b:Nat) (p:List Nat) (rs:List (List DV)):Prop :=
 ∃ (us rest:List Value) (t:TypeId),w.heap[c.τ b]? = some (.cells (us++rest).toArray t (0,0))∧us.length=p.length ∧
  ∀ (j id:Nat),p[j]? = some id→∃ xs cap,rs[id]? = some xs∧xs.length≤cap∧us[j]? = some (.slice (some ⟨c.γ b id,0,none⟩) xs.length cap)
def jeT (c:Ctx) (w:World) (b:Nat) (rs:List (List DV)):Prop :=
 ∀ (id:Nat) xs,rs[id]? = some xs→c.φ (c.γ b id)=0∧∃ (vs rest:List Value) (t:TypeId),w.heap[c.γ b id]? = some (.cells (vs++rest).toArray t (0,0))∧RelDs c.φ w xs vs
def jO:ABlk→Nat
 | .grid _ _ rs=>rs.length
 | _=>0
def BRel (c:Ctx) (w:World) (base b:Nat):ABlk→Prop
 | .gone=>True
 | .dead=>True
 | .cells cs t=>base≤c.ρ b∧c.φ (c.ρ b)=0∧∃ us rest:List Value,w.heap[c.ρ b]? = some (.cells (us++rest).toArray t (0,0))∧Rels c w cs us
 | .tail e=>c.σ b=e∧base≤c.τ b∧∃ cur t fr,w.heap[c.τ b]? = some (.cells cur t fr)∧zA fr cur.size
 | .loop l=>base≤c.ρ b∧c.live l.defers=true∧∃ us:List Value,w.heap[c.ρ b]? = some (.loop { state:=l.state,pending:=l.pending,fn:=l.fn,tmps:=us.toArray,params:=l.params,assign:=l.assign,body:=l.body,defers:=c.ρ l.defers })∧Rels c w l.tmps us
 | .defd=>base≤c.ρ b∧w.heap[c.ρ b]? = some (.deferred (some []))
 | .mp m=>base≤c.ρ b∧∃ (ents:Array MapEntry) (clock:Nat),w.heap[c.ρ b]? = some (.map ents clock)∧MRel c.φ w m ents.toList∧kG ents clock
 | .itr i=>base≤c.ρ b∧∃ o:Obj,w.heap[c.ρ b]? = some o∧ItRel c i o
 | .grid e p rs=>(c.σ b=e∧base≤c.τ b)∧(c.φ (c.τ b)=0∧c.γn b=rs.length)∧ja9 c w b p rs∧jeT c w b rs
structure BelowD (sd:Bool) (B:Nat) (w w':World):Prop extends Below B w w' where
 dr:sd=true→w.drawn≤w'.drawn
theorem BelowD.refl {sd:Bool} (B:Nat) (w:World):BelowD sd B w w:=⟨Below.refl B w,fun _=>Nat.le_refl _⟩
theorem BelowD.trans {sd:Bool} {B:Nat} {a b c:World} (h:BelowD sd B a b) (k:BelowD sd B b c):BelowD sd B a c:=⟨h.toBelow.trans k.toBelow,fun e=>Nat.le_trans (h.dr e) (k.dr e)⟩
theorem BelowD.mono {sd:Bool} {B B':Nat} {w w':World} (h:BelowD sd B w w') (hB:B'≤B):BelowD sd B' w w':=⟨h.toBelow.mono hB,h.dr⟩
theorem BelowD.drew {sd:Bool} {B:Nat} {a w:World} (h:BelowD sd B a w):BelowD sd B a w.drew:=⟨h.toBelow.drew,fun e=>Nat.le_trans (h.dr e) (Nat.le_succ _)⟩
def RowAt (base:Nat) (c:Ctx) (w:World) (H:List ABlk) (b id:Nat):Prop :=
 base≤c.γ b id∧c.γ b id<w.heap.size∧(∀ b' k',H[b']? = some k'→k'.owns=true→loc c b' k'≠c.γ b id) ∧
  ∀ b' k' id',H[b']? = some k'→id'<jO k'→c.γ b' id'=c.γ b id→b'=b∧id'=id
structure WRel (base:Nat) (w0:Start) (c:Ctx) (w:World) (H:List ABlk):Prop where
 below:BelowD w0.sd base w0.w w
 le:base≤w.heap.size
 blk:∀ b k,H[b]? = some k→BRel c w base b k
 live:∀ b,c.live b=((H[b]?).map ABlk.isLive).getD false
 tl:∀ b,c.tl b=((H[b]?).map ABlk.isTail).getD false
 inj:∀ b b' k k',H[b]? = some k→H[b']? = some k'→k.owns=true→k'.owns=true→loc c b k=loc c b' k'→b=b'
 hi:∀ i,w.heap.size≤i→c.φ i=0
 lo:∀ i,i<base→c.φ i=w0.φ i
 row:∀ b k,H[b]? = some k→∀ id,id<jO k→RowAt base c w H b id
theorem BRel.loc_ge {c:Ctx} {w:World} {base b:Nat} {k:ABlk} (h:BRel c w base b k) (ho:k.owns=true):base≤loc c b k:=by
 cases k <;> simp [ABlk.owns,BRel,loc] at*<;> first | exact h.1 | exact h.2.1 | exact h.1.2
theorem BRel.loc_lt {c:Ctx} {w:World} {base b:Nat} {k:ABlk} (h:BRel c w base b k) (ho:k.owns=true):loc c b k<w.heap.size:=by
 cases k with
 | gone=>simp [ABlk.owns] at ho
 | dead=>simp [ABlk.owns] at ho
 | cells cs t=>obtain ⟨_,_,us,rest,hh,_⟩:=h; exact (Array.getElem?_eq_some_iff.1 hh).1
 | tail e=>obtain ⟨_,_,cur,t,fr,hh,_⟩:=h; exact (Array.getElem?_eq_some_iff.1 hh).1
 | loop l=>obtain ⟨_,_,us,hh,_⟩:=h; exact (Array.getElem?_eq_some_iff.1 hh).1
 | defd=>exact (Array.getElem?_eq_some_iff.1 h.2).1
 | mp m=>obtain ⟨_,_,_,hh,_⟩:=h; exact (Array.getElem?_eq_some_iff.1 hh).1
 | itr i=>obtain ⟨_,_,hh,_⟩:=h; exact (Array.getElem?_eq_some_iff.1 hh).1
 | grid e p rs=>obtain ⟨_,_,⟨us,rest,t,hh,_⟩,_⟩:=h; exact (Array.getElem?_eq_some_iff.1 hh).1
theorem BRel.mono {c c':Ctx} {w w':World} {base b:Nat} {k:ABlk} (hle:Ctx.Le c w c' w') (hl:c.live b=k.isLive) (h:BRel c w base b k)
  (hheap:k.owns=true→w'.heap[loc c b k]? = w.heap[loc c b k]?) (hφ:k.owns=true→c'.φ (loc c b k)=c.φ (loc c b k))
  (hτ:c'.τ b=c.τ b) (hσ:c'.σ b=c.σ b) (hrow:∀ id,id<jO k→w'.heap[c.γ b id]? = w.heap[c.γ b id]? ∧ c'.φ (c.γ b id)=c.φ (c.γ b id)) (hγn:c'.γn b=c.γn b:=by rfl):BRel c' w' base b k:=by
 cases k with
 | gone=>trivial
 | dead=>trivial
 | cells cs t =>
  have hρ:=hle.ρ b (by simpa [ABlk.isLive] using hl)
  obtain ⟨h1,h2,us,rest,h3,h4⟩:=h
  simp only [ABlk.owns,loc,forall_const] at hheap hφ
  unfold BRel
  rw [hρ]
  exact ⟨h1,by rw [hφ]; exact h2,us,rest,by rw [hheap]; exact h3,Rels.mono hle h4⟩
 | tail e =>
  obtain ⟨h1,h2,cur,t,h3⟩:=h
  simp only [ABlk.owns,loc,forall_const] at hheap hφ
  unfold BRel
  rw [hτ,hσ]
  exact ⟨h1,h2,cur,t,by rw [hheap]; exact h3⟩
 | loop l =>
  have hρ:=hle.ρ b (by simpa [ABlk.isLive] using hl)
  obtain ⟨h1,h2,us,h3,h4⟩:=h
  simp only [ABlk.owns,loc,forall_const] at hheap hφ
  unfold BRel
  rw [hρ]
  exact ⟨h1,hle.live _ h2,us,by rw [hheap,hle.ρ _ h2]; exact h3,Rels.mono hle h4⟩
 | defd =>
  have hρ:=hle.ρ b (by simpa [ABlk.isLive] using hl)
  simp only [ABlk.owns,loc,forall_const] at hheap hφ
  unfold BRel at *
  rw [hρ]
  exact ⟨h.1,by rw [hheap]; exact h.2⟩
 | mp m =>
  have hρ:=hle.ρ b (by simpa [ABlk.isLive] using hl)
  simp only [ABlk.owns,loc,forall_const] at hheap hφ
  unfold BRel at *
  rw [hρ]
  obtain ⟨h1,es,cl,h2,h3,h4⟩:=h
  exact ⟨h1,es,cl,by rw [hheap]; exact h2,MRel.mono hle h3,h4⟩
 | itr i =>
  have hρ:=hle.ρ b (by simpa [ABlk.isLive] using hl)
  simp only [ABlk.owns,loc,forall_const] at hheap hφ
  unfold BRel at *
  rw [hρ]
  obtain ⟨h1,o,h2,h3⟩:=h
  exact ⟨h1,o,by rw [hheap]; exact h2,ItRel.mono hle h3⟩
 | grid e p rs =>
  have hγ:=hle.γ b (by simpa [ABlk.isLive] using hl)
  simp only [ABlk.owns,loc,forall_const] at hheap hφ
  obtain ⟨h1,⟨h2,hn⟩,⟨us,rest,t,h3,h4,h5⟩,h6⟩:=h
  have hγ2:∀ id,id<rs.length→c'.γ b id=c.γ b id:=fun id hid=>hγ.2 id (by omega)
  unfold BRel ja9 jeT
  rw [hτ,hσ,hγn]
  refine ⟨h1,⟨by rw [hφ]; exact h2,hn⟩,⟨us,rest,t,by rw [hheap]; exact h3,h4,?_⟩,?_⟩
  ·intro j id hj
   obtain ⟨xs,cap,g1,g2,g3⟩:=h5 j id hj
   exact ⟨xs,cap,g1,g2,by rw [hγ2 id (List.getElem?_eq_some_iff.1 g1).1]; exact g3⟩
  ·intro id xs hx
   have hid:=(List.getElem?_eq_some_iff.1 hx).1
   obtain ⟨g1,vs,rest',t',g2,g3⟩:=h6 id xs hx
   obtain ⟨e1,e2⟩:=hrow id (by simpa [jO] using hid)
   rw [hγ2 id hid]
   exact ⟨by rw [e2]; exact g1,vs,rest',t',by rw [e1]; exact g2,RelDs.mono hle g3⟩
theorem Jc {H:List ABlk} {b:Nat} {k:ABlk} (h:H[b]? = some k):((H[b]?).map ABlk.isLive).getD false=k.isLive:=by rw [h]; rfl
theorem jgs {k:ABlk} (h:0<jO k):k.isLive=true:=by cases k <;> simp [jO,ABlk.isLive] at *
theorem RowAt.of {base:Nat} {c c':Ctx} {w w':World} {H H':List ABlk} {b id:Nat} (h:RowAt base c w H b id) (hγ:c'.γ b id=c.γ b id) (hsz:w.heap.size≤w'.heap.size)
  (h3:∀ b' k',H'[b']? = some k'→k'.owns=true→w.heap.size≤loc c' b' k'∨∃ b2 k2,H[b2]? = some k2∧k2.owns=true∧loc c' b' k'=loc c b2 k2)
  (h4:∀ b' k',H'[b']? = some k'→0<jO k'→(∀ i,i<jO k'→c'.γ b' i=c.γ b' i)∧∃ k2,H[b']? = some k2∧jO k2=jO k'):RowAt base c' w' H' b id:=by
 obtain ⟨g1,g2,g3,g4⟩:=h
 refine ⟨by rw [hγ]; exact g1,by rw [hγ]; omega,?_,?_⟩
 ·intro b' k' hk' ho he
  rw [hγ] at he
  rcases h3 b' k' hk' ho with h5 | ⟨b2,k2,h5,h6,h7⟩
  ·omega
  ·exact g3 b2 k2 h5 h6 (by rw [← h7,he])
 ·intro b' k' id' hk' hid he
  obtain ⟨e1,k2,e2,e3⟩:=h4 b' k' hk' (by omega)
  rw [hγ,e1 id' hid] at he
  exact g4 b' k2 id' e2 (by omega) he
theorem WRel.upd {base:Nat} {w0:Start} {c:Ctx} {w:World} {H:List ABlk} (h:WRel base w0 c w H) {c':Ctx} {w':World} (hle:Ctx.Le c w c' w') (nm r:Nat) (k0 k':ABlk)
  (h0:H[nm]? = some k0) (hr:r=w.heap.size∨(k0.owns=true∧r=loc c nm k0))
  (hos:w'.os=w.os) (htape:w'.tape=w.tape) (hout:w'.output=w.output∧w.drawn≤w'.drawn) (hsz:w.heap.size≤w'.heap.size)
  (hheap:∀ i,i<w.heap.size→i≠r→w'.heap[i]? = w.heap[i]?)
  (hφ:∀ i,i≠r→c'.φ i=c.φ i) (hhi:∀ i,w'.heap.size≤i→c'.φ i=0)
  (hc:∀ b,b≠nm→c'.τ b=c.τ b∧c'.σ b=c.σ b∧c'.live b=c.live b∧c'.tl b=c.tl b)
  (hl:c'.live nm=k'.isLive) (htl:c'.tl nm=k'.isTail) (hb:BRel c' w' base nm k') (hloc:k'.owns=true→loc c' nm k'=r) (hg:jO k'=0:=by rfl) (hγn:c'.γn=c.γn:=by rfl) :
  WRel base w0 c' w' (H.set nm k'):=by
 have hnm:nm<H.length:=(List.getElem?_eq_some_iff.1 h0).1
 have hbr:base≤r:=by
  rcases hr with rfl | ⟨ho,rfl⟩
  ·exact h.le
  ·exact (h.blk nm k0 h0).loc_ge ho
 have hother:∀ b k,b≠nm→H[b]? = some k→k.owns=true→loc c b k≠r:=by
  intro b k hne hk ho he
  rcases hr with hr | ⟨ho0,hr⟩
  ·have:=(h.blk b k hk).loc_lt ho; omega
  ·exact hne (h.inj b nm k k0 hk h0 ho ho0 (by rw [he,hr]))
 have hlocEq:∀ b k,b≠nm→H[b]? = some k→k.owns=true→loc c' b k=loc c b k:=by
  intro b k hne hk ho
  have hlv:c.live b=true:=by
   rw [h.live b,hk]; cases k <;> simp [ABlk.owns,ABlk.isLive] at *
  cases k <;> simp [loc] <;> first | exact hle.ρ b hlv | exact (hc b hne).1
 have hget:∀ b,(H.set nm k')[b]? = if b=nm then some k' else H[b]? := by
  intro b
  by_cases hb:b=nm
  ·subst hb; simp [hnm]
  ·simp [List.getElem?_set_ne (Ne.symm hb),hb]
 have hrr:∀ b k,H[b]? = some k→∀ id,id<jO k→c.γ b id≠r∧c.γ b id<w.heap.size:=by
  intro b k hk id hid
  obtain ⟨_,g2,g3,_⟩:=h.row b k hk id hid
  refine ⟨?_,g2⟩
  rcases hr with rfl | ⟨ho0,rfl⟩
  ·omega
  ·exact fun he=>g3 nm k0 h0 ho0 he.symm
 have hrn:∀ b k,H[b]? = some k→0<jO k→c.γn b=jO k:=by
  intro b k hk hn
  have:=h.blk b k hk
  cases k <;> simp [jO] at hn
  exact this.2.1.2
 have hγe:∀ b k,H[b]? = some k→0<jO k→∀ i,i<jO k→c'.γ b i=c.γ b i:=by
  intro b k hk hn i hi
  exact (hle.γ b (by rw [h.live b,Jc hk]; exact jgs hn)).2 i (by rw [hrn b k hk hn]; exact hi)
 refine ⟨h.below.trans ⟨⟨hos,htape,hout.1,hsz,fun i hi=>hheap i (Nat.lt_of_lt_of_le hi h.le) (by omega)⟩,fun _=>hout.2⟩,Nat.le_trans h.le hsz,?_,?_,?_,?_,hhi,fun i hi=>(hφ i (by omega)).trans (h.lo i hi),?_⟩
 ·intro b k hk
  rw [hget] at hk
  by_cases hbn:b=nm
  ·simp [hbn] at hk; subst hk; rw [hbn]; exact hb
  ·simp [hbn] at hk
   obtain ⟨h1,h2,h3,_⟩:=hc b hbn
   exact BRel.mono hle (by rw [h.live b,Jc hk]) (h.blk b k hk)
    (fun ho=>hheap _ ((h.blk b k hk).loc_lt ho) (hother b k hbn hk ho)) (fun ho=>hφ _ (hother b k hbn hk ho)) h1 h2
    (fun id hid=>⟨hheap _ (hrr b k hk id hid).2 (hrr b k hk id hid).1,hφ _ (hrr b k hk id hid).1⟩) (by rw [hγn])
 ·intro b
  rw [hget]
  by_cases hbn:b=nm
  ·simp [hbn,hl]
  ·simp only [hbn,if_false]; rw [(hc b hbn).2.2.1,h.live b]
 ·intro b
  rw [hget]
  by_cases hbn:b=nm
  ·simp [hbn,htl]
  ·simp only [hbn,if_false]; rw [(hc b hbn).2.2.2,h.tl b]
 ·intro b b' k k' hk hk' ho ho' he
  rw [hget] at hk hk'
  by_cases hbn:b=nm <;> by_cases hbn':b'=nm
  ·rw [hbn,hbn']
  ·exfalso
   simp [hbn] at hk; simp [hbn'] at hk'; subst hk
   rw [hbn,hloc ho,hlocEq b' _ hbn' hk' ho'] at he
   exact hother b' _ hbn' hk' ho' he.symm
  ·exfalso
   simp [hbn] at hk; simp [hbn'] at hk'; subst hk'
   rw [hbn',hloc ho',hlocEq b _ hbn hk ho] at he
   exact hother b _ hbn hk ho he
  ·simp [hbn] at hk; simp [hbn'] at hk'
   rw [hlocEq b _ hbn hk ho,hlocEq b' _ hbn' hk' ho'] at he
   exact h.inj b b' _ _ hk hk' ho ho' he
 ·intro b k hk id hid
  rw [hget] at hk
  by_cases hbn:b=nm
  ·simp [hbn] at hk; subst hk; omega
  ·simp [hbn] at hk
   refine (h.row b k hk id hid).of (hγe b k hk (by omega) id hid) hsz ?_ ?_
   ·intro b' k2 hk2 ho2
    rw [hget] at hk2
    by_cases hbn':b'=nm
    ·simp [hbn'] at hk2; subst hk2
     rw [hbn',hloc ho2]
     rcases hr with hr | ⟨ho0,hr⟩
     ·left; omega
     ·exact .inr ⟨nm,k0,h0,ho0,hr⟩
    ·simp [hbn'] at hk2
     exact .inr ⟨b',k2,hk2,ho2,hlocEq b' k2 hbn' hk2 ho2⟩
   ·intro b' k2 hk2 hn2
    rw [hget] at hk2
    by_cases hbn':b'=nm
    ·simp [hbn'] at hk2; subst hk2; omega
    ·simp [hbn'] at hk2
     exact ⟨hγe b' k2 hk2 hn2,k2,hk2,rfl⟩
theorem Ka {w:World} {o:Obj} {bk k:Nat} (h:Jo w bk k):Jo (w.alloc o) bk k:=by
 obtain ⟨cur,t,fr,h1,h2⟩:=h
 exact ⟨cur,t,fr,by rw [heap_alloc_old w o bk (Array.getElem?_eq_some_iff.1 h1).1]; exact h1,h2⟩
def Ju {α:Type} (f:Nat→α) (n:Nat) (v:α):Nat→α:=fun i=>if i=n then v else f i
@[simp] theorem jz {α:Type} (f:Nat→α) (n:Nat) (v:α):Ju f n v n=v:=by simp [Ju]
theorem jt {α:Type} (f:Nat→α) {n i:Nat} (v:α) (h:i≠n):Ju f n v i=f i:=by simp [Ju,h]
def Ctx.new (c:Ctx) (nm r p e:Nat) (tl:Bool):Ctx:={ tl:=Ju c.tl nm tl,  ρ:=Ju c.ρ nm r,τ:=Ju c.τ nm r,σ:=Ju c.σ nm e,φ:=Ju c.φ r p,live:=Ju c.live nm true,γ:=c.γ,γn:=c.γn }
theorem WRel.cell_lt {base:Nat} {w0:Start} {c:Ctx} {w:World} {H:List ABlk} (h:WRel base w0 c w H) {bk o:Nat} (ho:o<c.φ bk):bk<w.heap.size:=by
 apply Classical.byContradiction
 intro hn
 have:=h.hi bk (by omega)
 omega
theorem WRel.tl_live {base:Nat} {w0:Start} {c:Ctx} {w:World} {H:List ABlk} (h:WRel base w0 c w H) {nm:Nat} (hd:c.live nm=false):c.tl nm=false:=by
 have h1:=h.live nm
 rw [h.tl nm]
 rw [hd] at h1
 cases hk:H[nm]? with
 | none=>rfl
 | some k=>rw [hk] at h1; cases k <;> simp [ABlk.isLive,ABlk.isTail] at *
theorem WRel.le_new {base:Nat} {w0:Start} {c:Ctx} {w:World} {H:List ABlk} (h:WRel base w0 c w H) {nm:Nat} (hd:c.live nm=false) (o:Obj) (p e:Nat) (tl:Bool) :
  Ctx.Le c w (c.new nm w.heap.size p e tl) (w.alloc o) where
 live:=fun b hb=>by by_cases hn:b=nm <;> simp [Ctx.new,Ju,hn,hb]
 ρ:=fun b hb=>by simp only [Ctx.new]; rw [jt]; intro he; rw [he,hd] at hb; cases hb
 φ:=fun i=>by
  by_cases hi:i=w.heap.size
  ·rw [hi,h.hi _ (Nat.le_refl _)]; exact Nat.zero_le _
  ·simp [Ctx.new,jt _ _ hi]
 tl:=fun b hb=>by simp only [Ctx.new]; rw [jt]; exact hb; intro he; rw [he,h.tl_live hd] at hb; cases hb
 σ:=fun b hb=>by simp only [Ctx.new]; rw [jt]; exact Nat.le_refl _; intro he; rw [he,h.tl_live hd] at hb; cases hb
 own:=fun b hb he hr=>by
  have hne:b≠nm:=by intro he; rw [he,h.tl_live hd] at hb; cases hb
  have ht:c.τ b≠w.heap.size:=by
   obtain ⟨_,cur,t,fr,hh,_⟩:=hr
   have:=(Array.getElem?_eq_some_iff.1 hh).1
   omega
  exact ⟨by simp [Ctx.new,jt _ _ hne],by simp [Ctx.new,jt _ _ ht]⟩
 cells:=fun bk o' ho=>World.cell?_alloc_lt w o _ (h.cell_lt ho)
 size:=fun bk k hk=>Ka hk
 γ:=fun _ _=>⟨Nat.le_refl _,fun _ _=>rfl⟩
def dropGone:List ABlk→List ABlk
 | []=>[]
 | x :: xs=>match dropGone xs,x with
  | [],.gone=>[]
  | ys,x=>x :: ys
theorem zH:∀ (H:List ABlk),∃ n,H=dropGone H++List.replicate n ABlk.gone
 | []=>⟨0,rfl⟩
 | x :: xs=>by
  obtain ⟨n,hn⟩:=zH xs
  unfold dropGone
  split
  ·rename_i h
   rw [h] at hn
   exact ⟨n+1,by rw [hn]; simp [List.replicate_succ]⟩
  ·exact ⟨n,by rw [List.cons_append,← hn]⟩
section
variable {base:Nat} {w0:Start} {c:Ctx} {w:World} {H:List ABlk}
theorem kR (h:WRel base w0 c w H) {nm:Nat} (h0:H[nm]? = some .gone):c.live nm=false:=by rw [h.live nm,h0]; rfl
theorem WRel.alloc (h:WRel base w0 c w H) {nm:Nat} (h0:H[nm]? = some .gone) (o:Obj) (p e:Nat) (k:ABlk) (hlv:k.isLive=true)
  (hb:BRel (c.new nm w.heap.size p e k.isTail) (w.alloc o) base nm k) (hg:jO k=0:=by rfl) :
  Ctx.Le c w (c.new nm w.heap.size p e k.isTail) (w.alloc o)∧WRel base w0 (c.new nm w.heap.size p e k.isTail) (w.alloc o) (H.set nm k):=by
 have hd:=kR h h0
 have hle:=h.le_new hd o p e k.isTail
 refine ⟨hle,h.upd hle nm w.heap.size .gone k h0 (.inl rfl) rfl rfl ⟨rfl,Nat.le_refl _⟩ (by simp) (fun i hi _=>heap_alloc_old w o i hi) (fun i hi=>by simp [Ctx.new,jt _ _ hi]) ?_ ?_ (by simp [Ctx.new,hlv]) (by simp [Ctx.new]) hb ?_ hg⟩
 ·intro i hi
  simp at hi
  simp only [Ctx.new]
  rw [jt _ _ (by omega)]
  exact h.hi i (by omega)
 ·intro b hb
  simp [Ctx.new,jt _ _ hb]
 ·intro _
  cases k <;> simp [loc,Ctx.new]
theorem WRel.alloc_cells (h:WRel base w0 c w H) {nm:Nat} (h0:H[nm]? = some .gone) {cs:List AV} {us:List Value} (t:TypeId) (hr:Rels c w cs us) :
  Ctx.Le c w (c.new nm w.heap.size 0 0 false) (w.alloc (.cells us.toArray t))∧WRel base w0 (c.new nm w.heap.size 0 0 false) (w.alloc (.cells us.toArray t)) (H.set nm (.cells cs t)):=by
 have hle:=h.le_new (kR h h0) (.cells us.toArray t) 0 0 false
 refine h.alloc h0 (.cells us.toArray t) 0 0 (.cells cs t) rfl ⟨by simp [Ctx.new,h.le],by simp [Ctx.new],us,[],?_,Rels.mono hle hr⟩
 simp only [Ctx.new,jz,List.append_nil]
 exact heap_alloc_new w _
theorem WRel.alloc_row (h:WRel base w0 c w H) {nm:Nat} (h0:H[nm]? = some .gone) {cs:List AV} {us rest:List Value} (t:TypeId) (hr:Rels c w cs us) :
  Ctx.Le c w (c.new nm w.heap.size 0 0 false) (w.alloc (.cells (us++rest).toArray t))∧WRel base w0 (c.new nm w.heap.size 0 0 false) (w.alloc (.cells (us++rest).toArray t)) (H.set nm (.cells cs t)):=by
 have hle:=h.le_new (kR h h0) (.cells (us++rest).toArray t) 0 0 false
 refine h.alloc h0 (.cells (us++rest).toArray t) 0 0 (.cells cs t) rfl ⟨by simp [Ctx.new,h.le],by simp [Ctx.new],us,rest,?_,Rels.mono hle hr⟩
 simp only [Ctx.new,jz]
 exact heap_alloc_new w _
theorem WRel.alloc_tail (h:WRel base w0 c w H) {nm:Nat} (h0:H[nm]? = some .gone) {xs:List DV} {us rest:List Value} (t:TypeId) (sz n cap:Nat) (hn:us.length=n*sz) (hcap:n≤cap)
  (hsize:us.length+rest.length=cap*sz) (hr:RelDs c.φ w xs us) :
  Ctx.Le c w (c.new nm w.heap.size us.length 0 true) (w.alloc (.cells (us++rest).toArray t)) ∧
  WRel base w0 (c.new nm w.heap.size us.length 0 true) (w.alloc (.cells (us++rest).toArray t)) (H.set nm (.tail 0)) ∧
  Rel (c.new nm w.heap.size us.length 0 true) (w.alloc (.cells (us++rest).toArray t)) (.own nm 0 sz n xs) (.slice (some ⟨w.heap.size,0,none⟩) n cap):=by
 have hle:=h.le_new (kR h h0) (.cells (us++rest).toArray t) us.length 0 true
 have hnew:(w.alloc (.cells (us++rest).toArray t)).heap[w.heap.size]? = some (.cells (us++rest).toArray t (0,0)):=heap_alloc_new w _
 have hw:=h.alloc h0 (.cells (us++rest).toArray t) us.length 0 (.tail 0) rfl ⟨by simp [Ctx.new],by simp [Ctx.new,h.le],_,_,_,by simp only [Ctx.new,jz]; exact hnew,.inl rfl⟩
 refine ⟨hw.1,hw.2,?_⟩
 unfold Rel
 refine ⟨w.heap.size,0,cap,us,rfl,by simp [Ctx.new],hcap,?_,RelDs.mono hle hr,hn,by simp [Ctx.new],by simp [Ctx.new],?_⟩
 ·intro i u hu
  rw [cell_of_row _ _ _ _ _ _ hnew]
  have hi:=(List.getElem?_eq_some_iff.1 hu).1
  simpa [hi,List.getElem?_append_left hi] using hu
 ·intro _
  refine ⟨by simp [Ctx.new],⟨0,_,_,_,hnew,Nat.zero_le _⟩,.inr ⟨by simp [Ctx.new]; omega,_,_,_,hnew,?_⟩⟩
  simp; omega
theorem jL (w:World) (g k:Nat) (cs:Array Value) (h:k≠g):(w.setRow g cs).heap[k]? = w.heap[k]? := setRow_other w g k cs h
theorem Je {w:World} {g:Nat} {cs cur:Array Value} {t:TypeId} {fr:Nat × Nat} (hg:w.heap[g]? = some (.cells cur t fr)) (hs:cs.size=cur.size) {bk k:Nat} (h:Jo w bk k):Jo (w.setRow g cs) bk k:=by
 obtain ⟨c1,t1,f1,h1,h3⟩:=h
 by_cases hb:bk=g
 ·subst hb
  rw [hg] at h1
  simp at h1
  obtain ⟨rfl,rfl,rfl⟩:=h1
  exact ⟨cs,t,fr,setRow_heap w bk cur cs t _ hg,by rw [hs]; exact h3⟩
 ·exact ⟨c1,t1,f1,by rw [jL w g bk cs hb]; exact h1,h3⟩
theorem KG (w:World) (g bk o:Nat) (cs:Array Value) (h:bk≠g):(w.setRow g cs).cell? ⟨bk,o,none⟩=w.cell? ⟨bk,o,none⟩ :=
 World.cell?_of_block (jL w g bk cs h)
theorem WRel.store (h:WRel base w0 c w H) {b:Nat} {cs cs':List AV} {t:TypeId} (h0:H[b]? = some (.cells cs t)) {us us' rest:List Value} (hg:w.heap[c.ρ b]? = some (.cells (us++rest).toArray t (0,0)))
  (hl:us'.length=us.length) (hr:Rels c w cs' us') :
  Ctx.Le c w c (w.setRow (c.ρ b) (us'++rest).toArray)∧WRel base w0 c (w.setRow (c.ρ b) (us'++rest).toArray) (H.set b (.cells cs' t)):=by
 have hb:=h.blk b _ h0
 obtain ⟨hbase,hφ,_⟩:=hb
 have hle:Ctx.Le c w c (w.setRow (c.ρ b) (us'++rest).toArray) :=
  ⟨fun _ h=>h,fun _ _=>rfl,fun _=>Nat.le_refl _,fun _ h=>h,fun _ _=>Nat.le_refl _,fun _ _ _ _=>⟨rfl,rfl⟩,
   fun bk o ho=>KG _ _ _ _ _ (by intro he; rw [he,hφ] at ho; omega),fun bk k hk=>Je hg (by simp [hl]) hk,fun _ _=>⟨Nat.le_refl _,fun _ _=>rfl⟩⟩
 refine ⟨hle,h.upd hle b (c.ρ b) (.cells cs t) (.cells cs' t) h0 (.inr ⟨rfl,rfl⟩) rfl rfl ⟨rfl,Nat.le_refl _⟩ (by simp) (fun i _ hi=>jL _ _ _ _ hi) (fun _ _=>rfl) ?_ (fun _ _=>⟨rfl,rfl,rfl,rfl⟩) ?_ ?_ ⟨hbase,hφ,us',rest,setRow_heap _ _ _ _ _ _ hg,Rels.mono hle hr⟩ (fun _=>rfl)⟩
 ·intro i hi; exact h.hi i (by simpa using hi)
 ·rw [h.live b,Jc h0]; rfl
 ·rw [h.tl b,h0]; rfl
def Ctx.grow (c:Ctx) (b r p e:Nat):Ctx:={ c with τ:=Ju c.τ b r,σ:=Ju c.σ b e,φ:=Ju c.φ r p }
theorem WRel.tails_ne (h:WRel base w0 c w H) {b x e:Nat} (h0:H[b]? = some (.tail e)) (hx:c.tl x=true) (hne:x≠b):c.τ x≠c.τ b:=by
 intro he
 have h1:=h.tl x
 rw [hx] at h1
 cases hk:H[x]? with
 | none=>rw [hk] at h1; simp at h1
 | some k =>
  rw [hk] at h1
  cases k <;> simp [ABlk.isTail] at h1
  ·exact hne (h.inj x b _ _ hk h0 rfl rfl he)
  ·exact hne (h.inj x b _ _ hk h0 rfl rfl he)
theorem WRel.tail_push (h:WRel base w0 c w H) {b e e':Nat} (h0:H[b]? = some (.tail e)) (he:e<e') {cur cur':Array Value} {t:TypeId} {fr:Nat × Nat} (hg:w.heap[c.τ b]? = some (.cells cur t fr)) (hf:zA fr cur.size)
  (hs:cur'.size=cur.size) (p:Nat) (hp:c.φ (c.τ b)≤p) (hsame:∀ i,i<c.φ (c.τ b)→cur'[i]? = cur[i]?) :
  Ctx.Le c w (c.grow b (c.τ b) p e') (w.setRow (c.τ b) cur')∧WRel base w0 (c.grow b (c.τ b) p e') (w.setRow (c.τ b) cur') (H.set b (.tail e')):=by
 obtain ⟨hσ,hbase,_⟩:=h.blk b _ h0
 have hlt:c.τ b<w.heap.size:=(Array.getElem?_eq_some_iff.1 hg).1
 have hg':=setRow_heap w (c.τ b) cur cur' t fr hg
 have hle:Ctx.Le c w (c.grow b (c.τ b) p e') (w.setRow (c.τ b) cur'):=by
  refine ⟨fun _ h=>h,fun _ _=>rfl,?_,fun _ h=>h,?_,?_,?_,fun bk k hk=>Je hg hs hk,fun _ _=>⟨Nat.le_refl _,fun _ _=>rfl⟩⟩
  ·intro i
   by_cases hi:i=c.τ b
   ·subst hi; simpa [Ctx.grow] using hp
   ·simp [Ctx.grow,jt _ _ hi]
  ·intro x hx
   by_cases hxb:x=b
   ·subst hxb; simp [Ctx.grow]; omega
   ·simp [Ctx.grow,jt _ _ hxb]
  ·intro x hx hσx hrx
   have hxb:x≠b:=by intro hxb; subst hxb; simp [Ctx.grow] at hσx; omega
   have hne:=h.tails_ne h0 hx hxb
   exact ⟨by simp [Ctx.grow,jt _ _ hxb],by simp [Ctx.grow,jt _ _ hne]⟩
  ·intro bk o ho
   by_cases hbk:bk=c.τ b
   ·subst hbk
    rw [cell_of_row _ _ _ _ _ _ hg',cell_of_row _ _ _ _ _ _ hg,hsame o ho]
   ·exact KG _ _ _ _ _ hbk
 refine ⟨hle,h.upd hle b (c.τ b) (.tail e) (.tail e') h0 (.inr ⟨rfl,rfl⟩) rfl rfl ⟨rfl,Nat.le_refl _⟩ (by simp) (fun i _ hi=>jL _ _ _ _ hi) (fun i hi=>by simp [Ctx.grow,jt _ _ hi]) ?_ ?_ ?_ ?_ ?_ ?_⟩
 ·intro i hi
  simp at hi
  simp only [Ctx.grow]
  rw [jt _ _ (by omega)]
  exact h.hi i hi
 ·intro x hx; simp [Ctx.grow,jt _ _ hx]
 ·show c.live b=_
  rw [h.live b,Jc h0]; rfl
 ·show c.tl b=_
  rw [h.tl b,h0]; rfl
 ·exact ⟨by simp [Ctx.grow],by simp [Ctx.grow,hbase],_,_,_,by simp only [Ctx.grow,jz]; exact hg',by rw [hs]; exact hf⟩
 ·intro _; simp [loc,Ctx.grow]
theorem jf0 {w:World} {r:Nat} {cur:Array Value} {t:TypeId} {fr:Nat × Nat} (hg:w.heap[r]? = some (.cells cur t fr)) (hf:zA fr cur.size) :
  ∃ fr',zA fr' cur.size∧(w.freeze { block:=r,off:=cur.size } 1).heap[r]? = some (.cells cur t fr'):=by
 obtain ⟨lo,hi⟩:=fr
 refine ⟨if lo==hi then (cur.size,cur.size+1) else (min lo cur.size,max hi (cur.size+1)),?_,?_⟩
 ·unfold zA at *
  by_cases hx:lo=hi
  ·simp [hx]
  ·simp only [beq_iff_eq,hx,if_false]
   right
   simp at hf
   show cur.size≤min lo cur.size
   omega
 ·simp [World.freeze,Array.getElem?_modify,hg]
theorem zR {w:World} {r k off:Nat} (h:k≠r):(w.freeze { block:=r,off:=off } 1).heap[k]? = w.heap[k]? := by
 simp [World.freeze,Array.getElem?_modify,Ne.symm h]
theorem mark_size {w:World} {r off:Nat}:(w.freeze { block:=r,off:=off } 1).heap.size=w.heap.size:=by simp [World.freeze]
theorem WRel.mark (h:WRel base w0 c w H) {b e:Nat} (h0:H[b]? = some (.tail e)) {cur:Array Value} {t:TypeId} {fr:Nat × Nat} (hg:w.heap[c.τ b]? = some (.cells cur t fr)) (hf:zA fr cur.size) :
  Ctx.Le c w c (w.freeze { block:=c.τ b,off:=cur.size } 1)∧WRel base w0 c (w.freeze { block:=c.τ b,off:=cur.size } 1) (H.set b (.tail e)):=by
 obtain ⟨hσ,hbase,_⟩:=h.blk b _ h0
 obtain ⟨fr',hf',hg'⟩:=jf0 hg hf
 have hle:Ctx.Le c w c (w.freeze { block:=c.τ b,off:=cur.size } 1):=by
  refine ⟨fun _ h=>h,fun _ _=>rfl,fun _=>Nat.le_refl _,fun _ h=>h,fun _ _=>Nat.le_refl _,fun _ _ _ _=>⟨rfl,rfl⟩,?_,?_,fun _ _=>⟨Nat.le_refl _,fun _ _=>rfl⟩⟩
  ·intro bk o ho
   by_cases hbk:bk=c.τ b
   ·subst hbk
    rw [cell_of_row _ _ _ _ _ _ hg',cell_of_row _ _ _ _ _ _ hg]
   ·exact World.cell?_of_block (zR hbk)
  ·rintro bk x ⟨c1,t1,f1,h1,h3⟩
   by_cases hbk:bk=c.τ b
   ·subst hbk
    rw [hg] at h1
    simp at h1
    obtain ⟨rfl,rfl,rfl⟩:=h1
    exact ⟨_,_,_,hg',h3⟩
   ·exact ⟨c1,t1,f1,by rw [zR hbk]; exact h1,h3⟩
 refine ⟨hle,h.upd hle b (c.τ b) (.tail e) (.tail e) h0 (.inr ⟨rfl,rfl⟩) rfl rfl ⟨rfl,Nat.le_refl _⟩ (Nat.le_of_eq mark_size.symm) (fun i _ hi=>zR hi) (fun _ _=>rfl) ?_ (fun _ _=>⟨rfl,rfl,rfl,rfl⟩) ?_ ?_ ⟨hσ,hbase,_,_,_,hg',hf'⟩ ?_⟩
 ·intro i hi; exact h.hi i (by rw [mark_size] at hi; exact hi)
 ·rw [h.live b,Jc h0]
 ·rw [h.tl b,h0]; rfl
 ·intro _; rfl
theorem WRel.rename (h:WRel base w0 c w H) {b nm:Nat} {cs:List AV} {t:TypeId} (h0:H[b]? = some (.cells cs t)) (hnm:H[nm]? = some .gone) :
  Ctx.Le c w (c.new nm (c.ρ b) 0 0 false) w∧WRel base w0 (c.new nm (c.ρ b) 0 0 false) w ((H.set b .dead).set nm (.cells cs t)):=by
 have hd:=kR h hnm
 have htd:=h.tl_live hd
 obtain ⟨hbase,hφ,us,rest,hg,hr⟩:=h.blk b _ h0
 have hbn:b≠nm:=by intro e; subst e; rw [h0] at hnm; simp at hnm
 have hlive:c.live b=true:=by rw [h.live b,h0]; rfl
 have hlb:b<H.length:=(List.getElem?_eq_some_iff.1 h0).1
 have hln:nm<H.length:=(List.getElem?_eq_some_iff.1 hnm).1
 have hφe:(c.new nm (c.ρ b) 0 0 false).φ=c.φ:=by
  funext i
  simp only [Ctx.new,Ju]
  split
  ·rename_i hi; rw [hi,hφ]
  ·rfl
 have hle:Ctx.Le c w (c.new nm (c.ρ b) 0 0 false) w:=by
  refine ⟨?_,?_,fun i=>by rw [hφe]; exact Nat.le_refl _,?_,?_,?_,fun _ _ _=>rfl,fun _ _ h=>h,fun _ _=>⟨Nat.le_refl _,fun _ _=>rfl⟩⟩
  ·intro x hx; by_cases hn:x=nm <;> simp [Ctx.new,Ju,hn,hx]
  ·intro x hx; simp only [Ctx.new]; rw [jt]; intro he; rw [he,hd] at hx; cases hx
  ·intro x hx; simp only [Ctx.new]; rw [jt]; exact hx; intro he; rw [he,htd] at hx; cases hx
  ·intro x hx; simp only [Ctx.new]; rw [jt]; exact Nat.le_refl _; intro he; rw [he,htd] at hx; cases hx
  ·intro x hx _ _
   have hne:x≠nm:=by intro he; rw [he,htd] at hx; cases hx
   exact ⟨by simp [Ctx.new,jt _ _ hne],by rw [hφe]⟩
 have hget:∀ (i:Nat) (k:ABlk),((H.set b .dead).set nm (.cells cs t))[i]? = some k→(i=nm∧k=.cells cs t)∨(i=b∧k=.dead)∨(i≠b∧i≠nm∧H[i]? = some k):=by
  intro i k hk
  by_cases hi:i=nm
  ·subst hi; rw [List.getElem?_set_self (by simpa using hln)] at hk; simp at hk; exact .inl ⟨rfl,hk.symm⟩
  ·rw [List.getElem?_set_ne (Ne.symm hi)] at hk
   by_cases hj:i=b
   ·subst hj; rw [List.getElem?_set_self hlb] at hk; simp at hk; exact .inr (.inl ⟨rfl,hk.symm⟩)
   ·rw [List.getElem?_set_ne (Ne.symm hj)] at hk; exact .inr (.inr ⟨hj,hi,hk⟩)
 have hopt:∀ (f:ABlk→Bool),f .dead=f (.cells cs t)→∀ i:Nat,i≠nm→((((H.set b .dead).set nm (.cells cs t))[i]?).map f).getD false=((H[i]?).map f).getD false:=by
  intro f hf i hi
  rw [List.getElem?_set_ne (Ne.symm hi)]
  by_cases hj:i=b
  ·subst hj; rw [List.getElem?_set_self hlb,h0]; simp [hf]
  ·rw [List.getElem?_set_ne (Ne.symm hj)]
 have hnmk:((H.set b .dead).set nm (.cells cs t))[nm]? = some (.cells cs t):=List.getElem?_set_self (by simpa using hln)
 have hlocn:∀ (i:Nat) (k:ABlk),i≠nm→loc (c.new nm (c.ρ b) 0 0 false) i k=loc c i k:=by
  intro i k hi
  cases k <;> simp [loc,Ctx.new,jt _ _ hi]
 refine ⟨hle,h.below,h.le,?_,?_,?_,?_,fun i hi=>by rw [hφe]; exact h.hi i hi,fun i hi=>by rw [hφe]; exact h.lo i hi,?_⟩
 ·intro i k hk
  rcases hget i k hk with ⟨rfl,rfl⟩ | ⟨rfl,rfl⟩ | ⟨hi,hj,h1⟩
  ·refine ⟨by simp [Ctx.new,hbase],by simp [Ctx.new],us,rest,by simp only [Ctx.new,jz]; exact hg,Rels.mono hle hr⟩
  ·trivial
  ·exact BRel.mono hle (by rw [h.live i,Jc h1]) (h.blk i k h1) (fun _=>rfl) (fun _=>by rw [hφe]) (by simp [Ctx.new,jt _ _ hj]) (by simp [Ctx.new,jt _ _ hj]) (fun _ _=>⟨rfl,by rw [hφe]⟩)
 ·intro i
  by_cases hi:i=nm
  ·subst hi; rw [hnmk]; simp [Ctx.new,ABlk.isLive]
  ·rw [hopt ABlk.isLive rfl i hi,← h.live i]; simp [Ctx.new,jt _ _ hi]
 ·intro i
  by_cases hi:i=nm
  ·subst hi; rw [hnmk]; simp [Ctx.new,ABlk.isTail]
  ·rw [hopt ABlk.isTail rfl i hi,← h.tl i]; simp [Ctx.new,jt _ _ hi]
 ·intro i j k k' hk hk' ho ho' he
  rcases hget i k hk with ⟨rfl,rfl⟩ | ⟨rfl,rfl⟩ | ⟨hi1,hi2,h1⟩
  ·rcases hget j k' hk' with ⟨rfl,rfl⟩ | ⟨rfl,rfl⟩ | ⟨hj1,hj2,h2⟩
   ·rfl
   ·simp [ABlk.owns] at ho'
   ·rw [hlocn j k' hj2] at he
    have:loc c b (.cells cs t)=loc c j k':=by rw [← he]; simp [loc,Ctx.new]
    exact absurd (h.inj b j _ _ h0 h2 rfl ho' this).symm hj1
  ·simp [ABlk.owns] at ho
  ·rcases hget j k' hk' with ⟨rfl,rfl⟩ | ⟨rfl,rfl⟩ | ⟨hj1,hj2,h2⟩
   ·rw [hlocn i k hi2] at he
    have:loc c i k=loc c b (.cells cs t):=by rw [he]; simp [loc,Ctx.new]
    exact absurd (h.inj i b _ _ h1 h0 ho rfl this) hi1
   ·simp [ABlk.owns] at ho'
   ·rw [hlocn i k hi2,hlocn j k' hj2] at he
    exact h.inj i j k k' h1 h2 ho ho' he
 ·intro i k hk id hid
  rcases hget i k hk with ⟨rfl,rfl⟩ | ⟨rfl,rfl⟩ | ⟨hi1,hi2,h1⟩
  ·simp [jO] at hid
  ·simp [jO] at hid
  ·refine (h.row i k h1 id hid).of rfl (Nat.le_refl _) ?_ ?_
   ·intro j k' hk' ho'
    rcases hget j k' hk' with ⟨rfl,rfl⟩ | ⟨rfl,rfl⟩ | ⟨hj1,hj2,h2⟩
    ·exact .inr ⟨b,_,h0,rfl,by simp [loc,Ctx.new]⟩
    ·simp [ABlk.owns] at ho'
    ·exact .inr ⟨j,k',h2,ho',hlocn j k' hj2⟩
   ·intro j k' hk' hn
    rcases hget j k' hk' with ⟨rfl,rfl⟩ | ⟨rfl,rfl⟩ | ⟨hj1,hj2,h2⟩
    ·simp [jO] at hn
    ·simp [jO] at hn
    ·exact ⟨fun _ _=>rfl,k',h2,rfl⟩
theorem WRel.markDead (h:WRel base w0 c w H) {b:Nat} {cs:List AV} {t:TypeId} (h0:H[b]? = some (.cells cs t)) (off n:Nat) :
  Ctx.Le c w c (w.freeze ⟨c.ρ b,off,none⟩ n)∧WRel base w0 c (w.freeze ⟨c.ρ b,off,none⟩ n) (H.set b .dead):=by
 obtain ⟨hbase,hφ,us,rest,hg,hr⟩:=h.blk b _ h0
 have hother:∀ i,i≠c.ρ b→(w.freeze ⟨c.ρ b,off,none⟩ n).heap[i]? = w.heap[i]? := by
  intro i hi
  unfold World.freeze
  split
  ·rfl
  ·simp [Array.getElem?_modify,Ne.symm hi]
 have hsz:(w.freeze ⟨c.ρ b,off,none⟩ n).heap.size=w.heap.size:=by
  unfold World.freeze
  split
  ·rfl
  ·simp
 have hrest:(w.freeze ⟨c.ρ b,off,none⟩ n).os=w.os∧(w.freeze ⟨c.ρ b,off,none⟩ n).tape=w.tape∧(w.freeze ⟨c.ρ b,off,none⟩ n).output=w.output∧w.drawn≤(w.freeze ⟨c.ρ b,off,none⟩ n).drawn:=by
  unfold World.freeze
  split <;> exact ⟨rfl,rfl,rfl,Nat.le_refl _⟩
 obtain ⟨fr',hg'⟩:∃ fr',(w.freeze ⟨c.ρ b,off,none⟩ n).heap[c.ρ b]? = some (.cells (us++rest).toArray t fr'):=by
  unfold World.freeze
  split
  ·exact ⟨_,hg⟩
  ·simp [Array.getElem?_modify,hg]
 have hle:Ctx.Le c w c (w.freeze ⟨c.ρ b,off,none⟩ n):=by
  refine ⟨fun _ h=>h,fun _ _=>rfl,fun _=>Nat.le_refl _,fun _ h=>h,fun _ _=>Nat.le_refl _,fun _ _ _ _=>⟨rfl,rfl⟩,?_,?_,fun _ _=>⟨Nat.le_refl _,fun _ _=>rfl⟩⟩
  ·intro bk o ho
   by_cases hbk:bk=c.ρ b
   ·subst hbk
    rw [cell_of_row _ _ _ _ _ _ hg',cell_of_row _ _ _ _ _ _ hg]
   ·exact World.cell?_of_block (hother _ hbk)
  ·rintro bk x ⟨c1,t1,f1,h1,h3⟩
   by_cases hbk:bk=c.ρ b
   ·subst hbk
    rw [hg] at h1
    simp only [Option.some.injEq,Obj.cells.injEq] at h1
    obtain ⟨rfl,rfl,rfl⟩:=h1
    exact ⟨_,_,_,hg',h3⟩
   ·exact ⟨c1,t1,f1,by rw [hother _ hbk]; exact h1,h3⟩
 refine ⟨hle,h.upd hle b (c.ρ b) (.cells cs t) .dead h0 (.inr ⟨rfl,rfl⟩) hrest.1 hrest.2.1 hrest.2.2 (Nat.le_of_eq hsz.symm) (fun i _ hi=>hother i hi) (fun _ _=>rfl) ?_ (fun _ _=>⟨rfl,rfl,rfl,rfl⟩) ?_ ?_ trivial (fun ho=>by simp [ABlk.owns] at ho)⟩
 ·intro i hi; exact h.hi i (by rw [hsz] at hi; exact hi)
 ·rw [h.live b,Jc h0]; rfl
 ·rw [h.tl b,h0]; rfl
theorem WRel.letGo (h:WRel base w0 c w H) {b:Nat} {cs:List AV} {t:TypeId} (h0:H[b]? = some (.cells cs t)):WRel base w0 c w (H.set b .dead):=(h.markDead h0 0 0).2
theorem WRel.tail_move (h:WRel base w0 c w H) {b e e':Nat} (h0:H[b]? = some (.tail e)) (he:e<e') {xs:List DV} {us rest:List Value} (t:TypeId) (sz n cap:Nat) (hn:us.length=n*sz) (hcap:n≤cap)
  (hsize:us.length+rest.length=cap*sz) (hr:RelDs c.φ w xs us) :
  Ctx.Le c w (c.grow b w.heap.size us.length e') (w.alloc (.cells (us++rest).toArray t)) ∧
  WRel base w0 (c.grow b w.heap.size us.length e') (w.alloc (.cells (us++rest).toArray t)) (H.set b (.tail e')) ∧
  Rel (c.grow b w.heap.size us.length e') (w.alloc (.cells (us++rest).toArray t)) (.own b e' sz n xs) (.slice (some ⟨w.heap.size,0,none⟩) n cap):=by
 obtain ⟨hσ,hbase,_⟩:=h.blk b _ h0
 have hnew:(w.alloc (.cells (us++rest).toArray t)).heap[w.heap.size]? = some (.cells (us++rest).toArray t (0,0)):=heap_alloc_new w _
 have hle:Ctx.Le c w (c.grow b w.heap.size us.length e') (w.alloc (.cells (us++rest).toArray t)):=by
  refine ⟨fun _ h=>h,fun _ _=>rfl,?_,fun _ h=>h,?_,?_,fun bk o ho=>World.cell?_alloc_lt w _ _ (h.cell_lt ho),fun bk k hk=>Ka hk,fun _ _=>⟨Nat.le_refl _,fun _ _=>rfl⟩⟩
  ·intro i
   by_cases hi:i=w.heap.size
   ·subst hi; rw [h.hi _ (Nat.le_refl _)]; exact Nat.zero_le _
   ·simp [Ctx.grow,jt _ _ hi]
  ·intro x hx
   by_cases hxb:x=b
   ·subst hxb; simp [Ctx.grow]; omega
   ·simp [Ctx.grow,jt _ _ hxb]
  ·intro x hx hσx hrx
   have hxb:x≠b:=by intro hxb; subst hxb; simp [Ctx.grow] at hσx; omega
   have ht:c.τ x≠w.heap.size:=by
    obtain ⟨_,cur,t,fr,hh,_⟩:=hrx
    have:=(Array.getElem?_eq_some_iff.1 hh).1
    omega
   exact ⟨by simp [Ctx.grow,jt _ _ hxb],by simp [Ctx.grow,jt _ _ ht]⟩
 refine ⟨hle,h.upd hle b w.heap.size (.tail e) (.tail e') h0 (.inl rfl) rfl rfl ⟨rfl,Nat.le_refl _⟩ (by simp) (fun i hi _=>heap_alloc_old w _ i hi) (fun i hi=>by simp [Ctx.grow,jt _ _ hi]) ?_ ?_ ?_ ?_ ?_ ?_,?_⟩
 ·intro i hi
  simp at hi
  simp only [Ctx.grow]
  rw [jt _ _ (by omega)]
  exact h.hi i (by omega)
 ·intro x hx; simp [Ctx.grow,jt _ _ hx]
 ·show c.live b=_
  rw [h.live b,Jc h0]; rfl
 ·show c.tl b=_
  rw [h.tl b,h0]; rfl
 ·exact ⟨by simp [Ctx.grow],by simp [Ctx.grow,h.le],_,_,_,by simp only [Ctx.grow,jz]; exact hnew,.inl rfl⟩
 ·intro _; simp [loc,Ctx.grow]
 ·unfold Rel
  refine ⟨w.heap.size,0,cap,us,rfl,by simp [Ctx.grow],hcap,?_,RelDs.mono hle hr,hn,?_,by simp [Ctx.grow],?_⟩
  ·intro i u hu
   rw [cell_of_row _ _ _ _ _ _ hnew]
   have hi:=(List.getElem?_eq_some_iff.1 hu).1
   simpa [hi,List.getElem?_append_left hi] using hu
  ·show c.tl b=true
   rw [h.tl b,h0]; rfl
  ·intro _
   refine ⟨by simp [Ctx.grow],⟨0,_,_,_,hnew,Nat.zero_le _⟩,.inr ⟨by simp [Ctx.grow]; omega,_,_,_,hnew,?_⟩⟩
   simp; omega
theorem WRel.drew (h:WRel base w0 c w H):Ctx.Le c w c w.drew∧WRel base w0 c w.drew H:=by
 have hle:Ctx.Le c w c w.drew:=⟨fun _ h=>h,fun _ _=>rfl,fun _=>Nat.le_refl _,fun _ h=>h,fun _ _=>Nat.le_refl _,fun _ _ _ _=>⟨rfl,rfl⟩,fun _ _ _=>rfl,fun _ _ h=>h,fun _ _=>⟨Nat.le_refl _,fun _ _=>rfl⟩⟩
 exact ⟨hle,⟨h.below.drew,h.le,fun b k hk=>BRel.mono hle (by rw [h.live b,Jc hk]) (h.blk b k hk) (fun _=>rfl) (fun _=>rfl) rfl rfl (fun _ _=>⟨rfl,rfl⟩),h.live,h.tl,h.inj,h.hi,h.lo,h.row⟩⟩
theorem WRel.ext (h:WRel base w0 c w H) {w':World} {φ':Nat→Nat} (hb:BelowD w0.sd w.heap.size w w') (hφ:∀ i,i<w.heap.size→φ' i=c.φ i) (hhi:∀ i,w'.heap.size≤i→φ' i=0) :
  Ctx.Le c w { c with φ:=φ' } w'∧WRel base w0 { c with φ:=φ' } w' H:=by
 have hle:Ctx.Le c w { c with φ:=φ' } w':=by
  refine ⟨fun _ h=>h,fun _ _=>rfl,?_,fun _ h=>h,fun _ _=>Nat.le_refl _,?_,?_,?_,fun _ _=>⟨Nat.le_refl _,fun _ _=>rfl⟩⟩
  ·intro i
   by_cases hi:i<w.heap.size
   ·rw [← hφ i hi]; exact Nat.le_refl _
   ·rw [h.hi i (by omega)]; exact Nat.zero_le _
  ·intro b hb' _ hr
   obtain ⟨_,cur,t,fr,hh,_⟩:=hr
   exact ⟨rfl,hφ _ (Array.getElem?_eq_some_iff.1 hh).1⟩
  ·intro bk o ho
   exact hb.cell (p:=⟨bk,o,none⟩) (h.cell_lt ho)
  ·rintro bk k ⟨cur,t,fr,hh,hk⟩
   exact ⟨cur,t,fr,by rw [hb.block bk (Array.getElem?_eq_some_iff.1 hh).1]; exact hh,hk⟩
 refine ⟨hle,⟨h.below.trans (hb.mono h.le),Nat.le_trans h.le hb.size,fun b k hk=>?_,h.live,h.tl,h.inj,hhi,fun i hi=>(hφ i (Nat.lt_of_lt_of_le hi h.le)).trans (h.lo i hi),fun b k hk id hid=>(h.row b k hk id hid).of rfl hb.size (fun b' k' hk' ho'=>.inr ⟨b',k',hk',ho',by cases k' <;> rfl⟩) (fun b' k' hk' _=>⟨fun _ _=>rfl,k',hk',rfl⟩)⟩⟩
 exact BRel.mono hle (by rw [h.live b,Jc hk]) (h.blk b k hk) (fun ho=>hb.block _ ((h.blk b k hk).loc_lt ho)) (fun ho=>hφ _ ((h.blk b k hk).loc_lt ho)) rfl rfl
  (fun id hid=>⟨hb.block _ (h.row b k hk id hid).2.1,hφ _ (h.row b k hk id hid).2.1⟩)
theorem WRel.push (h:WRel base w0 c w H) (n:Nat):WRel base w0 c w (H++List.replicate n ABlk.gone):=by
 have hget:∀ (b:Nat) (k:ABlk),(H++List.replicate n ABlk.gone)[b]? = some k→H[b]? = some k∨(H[b]? = none∧k=ABlk.gone):=by
  intro b k hk
  by_cases hb:b<H.length
  ·rw [List.getElem?_append_left hb] at hk; exact .inl hk
  ·rw [List.getElem?_append_right (by omega)] at hk
   refine .inr ⟨by simp; omega,?_⟩
   have:=List.getElem?_eq_some_iff.1 hk
   obtain ⟨hh,he⟩:=this
   simpa using he.symm
 have hopt:∀ (f:ABlk→Bool),f ABlk.gone=false→∀ (b:Nat),(((H++List.replicate n ABlk.gone)[b]?).map f).getD false=((H[b]?).map f).getD false:=by
  intro f hf b
  cases hk:(H++List.replicate n ABlk.gone)[b]? with
  | none =>
   have hb:H.length≤b:=by
    have:=List.getElem?_eq_none_iff.1 hk
    simp at this; omega
   have:H[b]? = none:=List.getElem?_eq_none_iff.2 hb
   rw [this]
  | some k =>
   rcases hget b k hk with h1 | ⟨h1,h2⟩
   ·rw [h1]
   ·rw [h1,h2]; simp [hf]
 refine ⟨h.below,h.le,?_,?_,?_,?_,h.hi,h.lo,?_⟩
 ·intro b k hk
  rcases hget b k hk with h1 | ⟨_,rfl⟩
  ·exact h.blk b k h1
  ·trivial
 ·intro b; rw [h.live b,hopt ABlk.isLive rfl]
 ·intro b; rw [h.tl b,hopt ABlk.isTail rfl]
 ·intro b b' k k' hk hk' ho ho' he
  rcases hget b k hk with h1 | ⟨_,rfl⟩
  ·rcases hget b' k' hk' with h2 | ⟨_,rfl⟩
   ·exact h.inj b b' k k' h1 h2 ho ho' he
   ·simp [ABlk.owns] at ho'
  ·simp [ABlk.owns] at ho
 ·intro b k hk id hid
  rcases hget b k hk with h1 | ⟨_,rfl⟩
  ·refine (h.row b k h1 id hid).of rfl (Nat.le_refl _) ?_ ?_
   ·intro b' k' hk' ho'
    rcases hget b' k' hk' with h2 | ⟨_,rfl⟩
    ·exact .inr ⟨b',k',h2,ho',rfl⟩
    ·simp [ABlk.owns] at ho'
   ·intro b' k' hk' hn
    rcases hget b' k' hk' with h2 | ⟨_,rfl⟩
    ·exact ⟨fun _ _=>rfl,k',h2,rfl⟩
    ·simp [jO] at hn
  ·simp [jO] at hid
theorem WRel.unpush {n:Nat} (h:WRel base w0 c w (H++List.replicate n ABlk.gone)):WRel base w0 c w H:=by
 have hget:∀ (b:Nat) (k:ABlk),H[b]? = some k→(H++List.replicate n ABlk.gone)[b]? = some k:=by
  intro b k hk
  rw [List.getElem?_append_left (List.getElem?_eq_some_iff.1 hk).1]; exact hk
 have hopt:∀ (f:ABlk→Bool),f ABlk.gone=false→∀ (b:Nat),(((H++List.replicate n ABlk.gone)[b]?).map f).getD false=((H[b]?).map f).getD false:=by
  intro f hf b
  by_cases hb:b<H.length
  ·rw [List.getElem?_append_left hb]
  ·rw [List.getElem?_append_right (by omega),List.getElem?_eq_none (show H.length≤b by omega)]
   cases hk:(List.replicate n ABlk.gone)[b - H.length]? with
   | none=>rfl
   | some k =>
    have:=List.getElem?_eq_some_iff.1 hk
    obtain ⟨hh,he⟩:=this
    simp at he
    subst he
    simp [hf]
 refine ⟨h.below,h.le,fun b k hk=>h.blk b k (hget b k hk),?_,?_,fun b b' k k' hk hk'=>h.inj b b' k k' (hget b k hk) (hget b' k' hk'),h.hi,h.lo,fun b k hk id hid=>(h.row b k (hget b k hk) id hid).of rfl (Nat.le_refl _) (fun b' k' hk' ho'=>.inr ⟨b',k',hget b' k' hk',ho',rfl⟩) (fun b' k' hk' _=>⟨fun _ _=>rfl,k',hget b' k' hk',rfl⟩)⟩
 ·intro b; rw [h.live b,hopt ABlk.isLive rfl]
 ·intro b; rw [h.tl b,hopt ABlk.isTail rfl]
theorem WRel.dropGone (h:WRel base w0 c w H):WRel base w0 c w (dropGone H):=by
 obtain ⟨n,hn⟩:=zH H
 rw [hn] at h
 exact h.unpush
end
end Go.Kv
