import Derived.Test.YtdelimpnnpifpaaGreatDoorKvHe
import Derived.Maps.RangeRun
import Derived.Lib.Builder
import Derived.Lib.UnsafeStr
import Derived.Lib.AppendStr
set_option linter.all false
namespace Go.Kv
open Go Go.RowKit
open Go.ChangeMaps (setBlock)
theorem MRelD.len {φ:Nat→Nat} {w:World} {k:IntKind}:∀ {es:MID} {l:List MapEntry},MRelD φ w k es l→l.length=es.length
 | [],l,h=>by rw [show l=[] from h]; rfl
 | e :: es,l,h=>by
  obtain ⟨x,r,rfl,_,_,h4⟩:=h
  rw [List.length_cons,List.length_cons,MRelD.len h4]
theorem MRelD.at {φ:Nat→Nat} {w:World} {k:IntKind}:∀ {es:MID} {l:List MapEntry} (i:Nat) (x:MapEntry),MRelD φ w k es l→l[i]? = some x→i<es.length∧x.key=.int k (es.getD i (0,[])).1∧∃ us:List Value,x.val=.agg us.toArray∧RelDs φ w (es.getD i (0,[])).2 us
 | [],l,i,x,h,hx=>by rw [show l=[] from h] at hx; simp at hx
 | e :: es,l,0,x,h,hx=>by
  obtain ⟨y,r,rfl,h1,h2,h4⟩:=h
  simp at hx; subst hx
  exact ⟨by simp,h1,h2⟩
 | e :: es,l,i+1,x,h,hx=>by
  obtain ⟨y,r,rfl,h1,h2,h4⟩:=h
  obtain ⟨k1,k2,k3⟩:=MRelD.at i x h4 (by simpa using hx)
  exact ⟨by simp; omega,by simpa using k2,by simpa using k3⟩
theorem Gl {ents:Array MapEntry} {clock:Nat} (h:kG ents clock):(ents.toList.map (·.born)).Nodup:=by
 have:ents.toList.map (·.born)=List.range ents.size:=by
  apply List.ext_getElem?
  intro i
  rw [List.getElem?_map,Array.getElem?_toList]
  by_cases hi:i<ents.size
  ·have hx:ents[i]? = some ents[i]:=Array.getElem?_eq_getElem hi
   rw [hx,List.getElem?_range hi]
   exact congrArg some (h.2 i _ hx)
  ·rw [Array.getElem?_eq_none (by omega),List.getElem?_eq_none (by simp; omega)]; rfl
 rw [this]; exact List.nodup_range
section
variable {cf:Cfg} {base:Nat} {w0:Start} {c:Ctx} {w:World} {H:List ABlk} {get:Nat→ABlk}
theorem ItRel.noCells {i:AIter} {o:Obj} (h:ItRel c i o):∀ a t f,o≠.cells a t f:=by
 intro a t f
 cases i with
 | si=>rw [show o=_ from h]; exact fun h=>nomatch h
 | it=>rw [h.2]; exact fun h=>nomatch h
theorem G2 {w:World} {r:Nat} {o:Obj} {i:AIter} (h:ItRel c i o) (hh:w.heap[r]? = some o) (k:Nat):w.cell? ⟨r,k,none⟩=none:=by
 cases i with
 | si=>rw [show o=_ from h] at hh; simp [World.cell?,hh]
 | it=>rw [h.2] at hh; simp [World.cell?,hh]
theorem WRel.putItr (h:WRel base w0 c w H) {b:Nat} {i i':AIter} (h0:H[b]? = some (.itr i)) (o:Obj) (ho:ItRel c i' o) :
  Ctx.Le c w c (World.putObj w (c.ρ b) o)∧WRel base w0 c (World.putObj w (c.ρ b) o) (H.set b (.itr i')):=by
 obtain ⟨hbase,o0,hh,hi0⟩:=h.blk b _ h0
 have hlt:c.ρ b<w.heap.size:=(Array.getElem?_eq_some_iff.1 hh).1
 have hle:Ctx.Le c w c (World.putObj w (c.ρ b) o):=by
  refine ⟨fun _ h=>h,fun _ _=>rfl,fun _=>Nat.le_refl _,fun _ h=>h,fun _ _=>Nat.le_refl _,fun _ _ _ _=>⟨rfl,rfl⟩,?_,?_,fun _ _=>⟨Nat.le_refl _,fun _ _=>rfl⟩⟩
  ·intro bk k hk
   by_cases hb:bk=c.ρ b
   ·subst hb
    rw [G2 hi0 hh,G2 ho (K6 w _ o hlt)]
   ·exact World.cell?_of_block (J4 w _ bk _ hb)
  ·rintro bk k ⟨cur,t,fr,h1,h3⟩
   by_cases hb:bk=c.ρ b
   ·subst hb; rw [hh] at h1; simp only [Option.some.injEq] at h1; exact absurd h1 (hi0.noCells _ _ _)
   ·exact ⟨cur,t,fr,by rw [J4 w _ bk _ hb]; exact h1,h3⟩
 refine ⟨hle,h.upd hle b (c.ρ b) (.itr i) (.itr i') h0 (.inr ⟨rfl,rfl⟩) rfl rfl ⟨rfl,Nat.le_refl _⟩ (by simp [World.putObj]) (fun i _ hi=>J4 w _ i _ hi) (fun _ _=>rfl) ?_ (fun _ _=>⟨rfl,rfl,rfl,rfl⟩) ?_ ?_ ⟨hbase,o,K6 w _ _ hlt,ho⟩ (fun _=>rfl)⟩
 ·intro i hi; exact h.hi i (by simpa [World.putObj] using hi)
 ·rw [h.live b,Jc h0]; rfl
 ·rw [h.tl b,h0]; rfl
def Y3 (cf:Cfg) (t:TypeId) (x:AV) (get:Nat→ABlk) (nm:Nat):Option ARes:=match cf.P.underlying t,x with
 | some .string,.d (.v (.string s))=>some ⟨[],.ptr nm 0,[(nm,.itr (.si s 0))]⟩
 | some (.map _ _),.mp b=>match get b with
  | .mp (.ia _ es)=>some ⟨[],.ptr nm 0,[(nm,.itr (.it b es.length [] es.length))]⟩
  | _=>none
 | _,_=>none
theorem jc7 (h:WRel base w0 c w H) (hget:∀ b,get b=(H[b]?).getD .gone) {nm:Nat} (hnm:H[nm]? = some .gone) {t:TypeId} {x:AV} {u:Value} (hx:Rel c w x u) {r:ARes} (hr:Y3 cf t x get nm=some r) :
  ∃ w' c' v,(Instr.range t u).run cf.P w=.ok v w'∧Ctx.Le c w c' w'∧WRel base w0 c' w' (r.wr.foldl (fun H x=>H.set x.1 x.2) H)∧Rel c' w' r.val v:=by
 have hg:(c.new nm w.heap.size 0 0 false).live nm=true:=by simp [Ctx.new]
 unfold Y3 at hr
 split at hr
 ·rename_i s ht
  simp only [Option.some.injEq] at hr; subst hr
  unfold Rel RelD at hx
  obtain ⟨rfl,_⟩:=hx
  have ha:=h.alloc hnm (.stringIter s 0) 0 0 (.itr (.si s 0)) rfl (by
   refine ⟨by simp [Ctx.new,h.le],.stringIter s 0,?_,rfl⟩
   simp only [Ctx.new,jz]
   exact heap_alloc_new w _)
  refine ⟨w.alloc (.stringIter s 0),_,.pointer (some ⟨w.heap.size,0,none⟩),by simp [Instr.range,run_underlying ht,newObj]; rfl,ha.1,ha.2,?_⟩
  unfold Rel
  exact ⟨by simp [Ctx.new,ABlk.isTail],by simp [Ctx.new]⟩
 ·rename_i key elem b ht
  unfold Rel at hx
  obtain ⟨hl,rfl⟩:=hx
  split at hr
  ·rename_i k es hgb
   simp only [Option.some.injEq] at hr; subst hr
   have hb:H[b]? = some (.mp (.ia k es)):=by
    rw [hget] at hgb
    cases hb:H[b]? with
    | none=>rw [hb] at hgb; simp at hgb
    | some y=>rw [hb] at hgb; simp at hgb; rw [hgb]
   obtain ⟨_,ents,clock,hh,he,hst⟩:=h.blk b _ hb
   have hlen:clock=es.length:=by rw [hst.1,← Array.length_toList,MRelD.len he]
   have hne:b≠nm:=by intro e; subst e; rw [hb] at hnm; simp at hnm
   have ha:=h.alloc hnm (.mapIter (some (c.ρ b)) clock #[] clock) 0 0 (.itr (.it b es.length [] es.length)) rfl (by
    refine ⟨by simp [Ctx.new,h.le],.mapIter (some (c.ρ b)) clock #[] clock,?_,?_,?_⟩
    ·simp only [Ctx.new,jz]
     exact heap_alloc_new w _
    ·simp [Ctx.new,jt _ _ hne,hl]
    ·simp [Ctx.new,jt _ _ hne,hlen])
   refine ⟨w.alloc (.mapIter (some (c.ρ b)) clock #[] clock),_,.pointer (some ⟨w.heap.size,0,none⟩),?_,ha.1,ha.2,?_⟩
   ·have hgo:(getObj (c.ρ b)).run cf.P w=.ok (.map ents clock) w:=by simp [getObj,Sem.run,hh]
    simp [Instr.range,run_underlying ht,newObj,hgo]; rfl
   ·unfold Rel
    exact ⟨by simp [Ctx.new,ABlk.isTail],by simp [Ctx.new]⟩
  ·simp at hr
 ·simp at hr
def jaC (n:Nat) (rs:List Nat):List Nat:=(List.range n).filter fun j=>!rs.contains j
theorem jau {n:Nat} {rs:List Nat} {j:Nat}:j ∈ jaC n rs↔j<n∧j ∉ rs:=by
 unfold jaC
 simp [List.mem_filter]
theorem gl {P:Program} (h:WRel base w0 c w H) {b m since last:Nat} {rs:List Nat} {kd:IntKind} {es:MID} (hb:H[b]? = some (.itr (.it m since rs last))) (hmb:H[m]? = some (.mp (.ia kd es)))
  (p1:es.length=since) (p2:es.length=last) (t:TypeId) :
  (jaC es.length rs=[]∧(Instr.next (.pointer (some ⟨c.ρ b,0,none⟩)) false t).run P w=.ok (.tuple #[.bool false]) w) ∨
  ∃ j,j ∈ jaC es.length rs∧∃ w' key val,(Instr.next (.pointer (some ⟨c.ρ b,0,none⟩)) false t).run P w=.ok (.tuple #[.bool true,key,val]) w'∧Ctx.Le c w c w'∧WRel base w0 c w' (H.set b (.itr (.it m since (j :: rs) last))):=by
 obtain ⟨_,ob,hh,hlm,rfl⟩:=h.blk b _ hb
 obtain ⟨_,ents,clock,hme,he,hst0⟩:=h.blk m _ hmb
 have hlen:ents.size=es.length:=by rw [← Array.length_toList,MRelD.len he]
 have hcl:clock=es.length:=by rw [hst0.1,hlen]
 have hold:∀ x ∈ ents.toList,x.born<since:=by
  intro x hx
  obtain ⟨j,hj,rfl⟩:=List.getElem_of_mem hx
  have hj':j<ents.size:=by simpa using hj
  have:=hst0.2 j ents[j] (Array.getElem?_eq_getElem hj')
  simp at this ⊢
  omega
 have hcon:∀ j,(rs.reverse.toArray).contains j=rs.contains j:=by intro j; simp
 rcases run_next_at (P:=P) w t (c.ρ b) (c.ρ m) since last rs.reverse.toArray ents clock hh hme hold (by omega) with ⟨h0,hrun⟩ | ⟨e,hmem,w1,hal,hrun⟩
 ·left
  refine ⟨?_,hrun⟩
  apply List.eq_nil_iff_forall_not_mem.2
  intro j hj
  obtain ⟨hj1,hj2⟩:=jau.1 hj
  have hj':j<ents.size:=by omega
  have hbj:=hst0.2 j ents[j] (Array.getElem?_eq_getElem hj')
  have:ents[j] ∈ leftOf ents rs.reverse.toArray:=by
   unfold leftOf
   rw [Array.mem_filter]
   exact ⟨Array.getElem_mem hj',by rw [hbj,hcon]; simpa using hj2⟩
  rw [Array.eq_empty_of_size_eq_zero h0] at this
  simp at this
 ·right
  obtain ⟨hme1,hne⟩:=Array.mem_filter.1 (by simpa [leftOf] using hmem:e ∈ ents.filter fun e=>!(rs.reverse.toArray).contains e.born)
  obtain ⟨j,hj,rfl⟩:=Array.getElem_of_mem hme1
  have hbj:=hst0.2 j ents[j] (Array.getElem?_eq_getElem hj)
  rw [hbj,hcon] at hne
  have hjc:j ∈ jaC es.length rs:=jau.2 ⟨by omega,by simpa using hne⟩
  have hd:Ctx.Le c w c w1∧WRel base w0 c w1 H:=by
   rcases hal with rfl | rfl
   ·exact ⟨Ctx.Le.refl c _,h⟩
   ·exact h.drew
  have hit:ItRel c (.it m since (j :: rs) last) (.mapIter (some (c.ρ m)) since (rs.reverse.toArray.push ents[j].born) clock):=by
   refine ⟨hlm,?_⟩
   rw [hbj,hcl,← p2]
   simp
  obtain ⟨k1,k2⟩:=hd.2.putItr hb (i':=.it m since (j :: rs) last) _ hit
  exact ⟨j,hjc,_,_,_,hrun,Ctx.Le.trans hd.1 k1,k2⟩
def ji9 (x:AV) (isS:Bool) (get:Nat→ABlk) (dc:Dec):Option ARes:=match x,isS with
 | .ptr b 0,true=>match get b,dc with
  | .itr (.si s pos),.nx true=>some ⟨[.ltN pos s.size],.tup [.d (.v (.bool true)),.d (.v (.int .i64 (pos:Int))),.d (.v (.int .i32 (Utf8.decode s pos).1))],[(b,.itr (.si s (pos+(Utf8.decode s pos).2)))]⟩
  | .itr (.si s pos),.nx false=>some ⟨[.leN s.size pos],.tup [.d (.v (.bool false))],[]⟩
  | .itr (.si s pos),_=>if pos<s.size then some ⟨[],.tup [.d (.v (.bool true)),.d (.v (.int .i64 (pos:Int))),.d (.v (.int .i32 (Utf8.decode s pos).1))],[(b,.itr (.si s (pos+(Utf8.decode s pos).2)))]⟩
   else some ⟨[],.tup [.d (.v (.bool false))],[]⟩
  | _,_=>none
 | .ptr b 0,false=>match get b with
  | .itr (.it m since rs last)=>match get m with
   | .mp (.ia _ es)=>match jaC es.length rs with
    | []=>some ⟨[.eqN es.length since,.eqN es.length last],.tup [.d (.v (.bool false))],[]⟩
    | [j]=>some ⟨[.eqN es.length since,.eqN es.length last],.tup [.d (.v (.bool true)),.any,.any],[(b,.itr (.it m since (j :: rs) last))]⟩
    | _=>none
   | _=>none
  | _=>none
 | _,_=>none
theorem ji7 (h:WRel base w0 c w H) (hget:∀ b,get b=(H[b]?).getD .gone) {t:TypeId} {x:AV} {u:Value} {isS:Bool} {dc:Dec} (hx:Rel c w x u) {r:ARes} (hr:ji9 x isS get dc=some r) (hp:AllP r.pcs) :
  ∃ w' v,(Instr.next u isS t).run cf.P w=.ok v w'∧Ctx.Le c w c w'∧WRel base w0 c w' (r.wr.foldl (fun H x=>H.set x.1 x.2) H)∧Rel c w' r.val v:=by
 unfold ji9 at hr
 split at hr
 ·rename_i b
  unfold Rel at hx
  obtain ⟨hl,rfl⟩:=hx
  have rb (x:Bool) (w:World):Rel c w (.d (.v (.bool x))) (.bool x):=by unfold Rel RelD; exact ⟨rfl,rfl⟩
  have ri (k:IntKind) (x:Int) (w:World):Rel c w (.d (.v (.int k x))) (.int k x):=by unfold Rel RelD; exact ⟨rfl,rfl⟩
  have hG1:∀ {s:ByteArray} {pos:Nat},get b=.itr (.si s pos)→H[b]? = some (.itr (.si s pos)):=by
   intro s pos hgb
   rw [hget] at hgb
   cases hb:H[b]? with
   | none=>rw [hb] at hgb; simp at hgb
   | some y=>rw [hb] at hgb; simp at hgb; rw [hgb]
  have yes:∀ {s:ByteArray} {pos:Nat},H[b]? = some (.itr (.si s pos))→pos<s.size →
    ∃ w' v,(Instr.next (.pointer (some ⟨c.ρ b,0,none⟩)) true t).run cf.P w=.ok v w'∧Ctx.Le c w c w'∧WRel base w0 c w' (H.set b (.itr (.si s (pos+(Utf8.decode s pos).2)))) ∧
     Rel c w' (.tup [.d (.v (.bool true)),.d (.v (.int .i64 (pos:Int))),.d (.v (.int .i32 (Utf8.decode s pos).1))]) v:=by
   intro s pos hb hpos
   obtain ⟨_,o,hh,rfl⟩:=h.blk b _ hb
   have hgo:(getObj (c.ρ b)).run cf.P w=.ok (.stringIter s pos) w:=by simp [getObj,Sem.run,hh]
   obtain ⟨k1,k2⟩:=h.putItr hb (i':=.si s (pos+(Utf8.decode s pos).2)) (.stringIter s (pos+(Utf8.decode s pos).2)) rfl
   refine ⟨_,.tuple #[.bool true,.int .i64 (pos:Int),.int .i32 (Utf8.decode s pos).1],?_,k1,k2,?_⟩
   ·have hso:∀ o,(setObj (c.ρ b) o).run cf.P w=.ok () (World.putObj w (c.ρ b) o):=by intro o; simp [setObj,Sem.run,hh,World.putObj]
    simp [Instr.next,hgo,hpos,hso,goInt]
   ·unfold Rel
    exact ⟨[.bool true,.int .i64 (pos:Int),.int .i32 (Utf8.decode s pos).1],rfl,Rels.cons (rb _ _) (Rels.cons (ri _ _ _) (Rels.cons (ri _ _ _) Rels.nil))⟩
  have no:∀ {s:ByteArray} {pos:Nat},H[b]? = some (.itr (.si s pos))→¬ pos<s.size →
    ∃ w' v,(Instr.next (.pointer (some ⟨c.ρ b,0,none⟩)) true t).run cf.P w=.ok v w'∧Ctx.Le c w c w'∧WRel base w0 c w' H∧Rel c w' (.tup [.d (.v (.bool false))]) v:=by
   intro s pos hb hpos
   obtain ⟨_,o,hh,rfl⟩:=h.blk b _ hb
   have hgo:(getObj (c.ρ b)).run cf.P w=.ok (.stringIter s pos) w:=by simp [getObj,Sem.run,hh]
   refine ⟨w,.tuple #[.bool false],?_,Ctx.Le.refl c w,h,?_⟩
   ·simp [Instr.next,hgo,hpos]
   ·unfold Rel
    exact ⟨[.bool false],rfl,Rels.cons (rb _ _) Rels.nil⟩
  split at hr
  ·rename_i s pos hgb
   simp only [Option.some.injEq] at hr; subst hr
   exact yes (hG1 hgb) hp.1
  ·rename_i s pos hgb
   simp only [Option.some.injEq] at hr; subst hr
   have hp1:s.size≤pos:=hp.1
   exact no (hG1 hgb) (by omega)
  ·rename_i s pos hgb _ _
   split at hr
   ·rename_i hpos
    simp only [Option.some.injEq] at hr; subst hr
    exact yes (hG1 hgb) hpos
   ·rename_i hpos
    simp only [Option.some.injEq] at hr; subst hr
    exact no (hG1 hgb) hpos
  ·simp at hr
 ·rename_i b
  unfold Rel at hx
  obtain ⟨hl,rfl⟩:=hx
  have hG:∀ b k,k≠.gone→get b=k→H[b]? = some k:=by
   intro b k hk hgb
   rw [hget] at hgb
   cases hb:H[b]? with
   | none=>rw [hb] at hgb; simp at hgb; exact absurd hgb.symm hk
   | some y=>rw [hb] at hgb; simp at hgb; rw [hgb]
  have rb (x:Bool) (w:World):Rel c w (.d (.v (.bool x))) (.bool x):=by unfold Rel RelD; exact ⟨rfl,rfl⟩
  split at hr
  ·rename_i m since rs last hgb
   have hb:=hG b (.itr (.it m since rs last)) (by intro e; cases e) hgb
   split at hr
   ·rename_i k es hgm
    have hmb:=hG m (.mp (.ia k es)) (by intro e; cases e) hgm
    split at hr
    ·rename_i hc
     simp only [Option.some.injEq] at hr; subst hr
     obtain ⟨p1,p2,_⟩:=hp
     rcases gl (P:=cf.P) h hb hmb p1 p2 t with ⟨_,hrun⟩ | ⟨j,hj,_⟩
     ·refine ⟨w,_,hrun,Ctx.Le.refl c w,h,?_⟩
      unfold Rel
      exact ⟨[.bool false],rfl,Rels.cons (rb _ _) Rels.nil⟩
     ·rw [hc] at hj; simp at hj
    ·rename_i j hc
     simp only [Option.some.injEq] at hr; subst hr
     obtain ⟨p1,p2,_⟩:=hp
     rcases gl (P:=cf.P) h hb hmb p1 p2 t with ⟨h0,_⟩ | ⟨i,hi,w',key,val,hrun,k1,k2⟩
     ·rw [hc] at h0; simp at h0
     ·rw [hc] at hi
      obtain rfl:i=j:=by simpa using hi
      refine ⟨w',_,hrun,k1,k2,?_⟩
      unfold Rel
      exact ⟨[.bool true,key,val],rfl,Rels.cons (rb _ _) (Rels.cons (by unfold Rel; trivial) (Rels.cons (by unfold Rel; trivial) Rels.nil))⟩
    ·simp at hr
   ·simp at hr
  ·simp at hr
 ·simp at hr
def jeQ (x:AV) (get:Nat→ABlk) (dc:Dec):Option ARes:=match x with
 | .ptr b 0=>match get b with
  | .itr (.it m _ (i :: _) last)=>match get m,dc with
   | .mp (.ia k es),.as (.agg ys)=>some ⟨[.eqN es.length last,.ltN i es.length,.prop ((es.getD i (0,[])).2.map AV.d=ys)],.tup [.d (.v (.int k (es.getD i (0,[])).1)),.agg ys],[]⟩
   | _,_=>none
  | _=>none
 | _=>none
theorem jfP (h:WRel base w0 c w H) (hget:∀ b,get b=(H[b]?).getD .gone) {x:AV} {u:Value} (hx:Rel c w x u) {dc:Dec} {r:ARes} (hr:jeQ x get dc=some r) (hp:AllP r.pcs) :
  ∃ v,(Instr.entry u).run cf.P w=.ok v w∧Rel c w r.val v∧r.wr=[]:=by
 have hG:∀ b k,k≠.gone→get b=k→H[b]? = some k:=by
  intro b k hk hgb
  rw [hget] at hgb
  cases hb:H[b]? with
  | none=>rw [hb] at hgb; simp at hgb; exact absurd hgb.symm hk
  | some y=>rw [hb] at hgb; simp at hgb; rw [hgb]
 unfold jeQ at hr
 split at hr
 ·rename_i b
  unfold Rel at hx
  obtain ⟨hl,rfl⟩:=hx
  split at hr
  ·rename_i m since i rs last hgb
   split at hr
   ·rename_i k es ys hgm
    simp only [Option.some.injEq] at hr; subst hr
    obtain ⟨p1,p2,p3,_⟩:=hp
    have p1:es.length=last:=p1
    have p2:i<es.length:=p2
    have p3:(es.getD i (0,[])).2.map AV.d=ys:=p3
    obtain ⟨_,o,hh,hlm,rfl⟩:=h.blk b _ (hG b (.itr (.it m since (i :: rs) last)) (by intro e; cases e) hgb)
    obtain ⟨_,ents,clock,hm,he,hst⟩:=h.blk m _ (hG m (.mp (.ia k es)) (by intro e; cases e) hgm)
    have hlen:ents.size=es.length:=by rw [← Array.length_toList,MRelD.len he]
    have hx:ents[i]? = some ents[i]:=Array.getElem?_eq_getElem (by omega)
    have hborn:=hst.2 i _ hx
    obtain ⟨_,hk,us,hv,hus⟩:=MRelD.at i ents[i] he (by simpa using hx)
    have hcl:clock=last:=by rw [hst.1,hlen,p1]
    have hrev:(i :: rs).reverse.toArray=(rs.reverse.toArray).push ents[i].born:=by rw [hborn]; simp
    rw [hrev] at hh
    subst hcl
    have hrun:=run_entry_at (P:=cf.P) w (c.ρ b) (c.ρ m) since rs.reverse.toArray ents clock ents[i] hh hm (by simp) (Gl hst)
    refine ⟨_,hrun,?_,rfl⟩
    rw [hk,hv]
    unfold Rel
    refine ⟨[_,_],rfl,Rels.cons ?_ (Rels.cons ?_ Rels.nil)⟩
    ·unfold Rel RelD; exact ⟨rfl,rfl⟩
    ·rw [← p3]; unfold Rel; exact ⟨us,rfl,Rels.map_d hus⟩
   ·simp at hr
  ·simp at hr
 ·simp at hr
end
end Go.Kv
namespace Go.Kv
open Go Go.RowKit
section
variable {cf:Cfg} {base:Nat} {w0:Start} {c:Ctx} {w:World} {H:List ABlk} {get:Nat→ABlk}
theorem jbf (hget:∀ b,get b=(H[b]?).getD .gone) {b:Nat} {k:ABlk} (hk:k≠.gone) (h:get b=k):H[b]? = some k:=by
 rw [hget] at h
 cases hb:H[b]? with
 | none=>rw [hb] at h; simp at h; exact absurd h.symm hk
 | some y=>rw [hb] at h; simp at h; rw [h]
def Zc (get:Nat→ABlk):AV→ABlk
 | .ptr b _=>get b
 | _=>.gone
def Kl (cf:Cfg) (s d:TypeId) (x:AV) (get:Nat→ABlk):Option ARes:=match cf.P.underlying s,cf.P.underlying d,x with
 | some (.pointer t),some .unsafePointer,.ptr b off=>match Zc get x,cf.P.info? t with
  | .cells cs _,some j=>if j.size==0 then none else some ⟨[.ltN off cs.length],.ptr b off,[]⟩
  | _,_=>none
 | some .unsafePointer,some (.pointer u),.ptr b 0=>match Zc get x,cf.P.info? u with
  | .cells cs te,some _=>if te==u&&cf.P.cellsOf u != 0 then some ⟨[.leN (cf.P.cellsOf u) cs.length],.ptr b 0,[]⟩ else none
  | _,_=>none
 | _,_,_=>none
theorem jgP {P:Program} {u:TypeId} (hc:P.cellsOf u≠0) (count:Nat) (hn:1≤count):liesAt P P.depth u count 0 u 1=true:=by
 have hd:P.depth=(2*(P.types.size+Made.depth)+1)+1:=rfl
 rw [hd]
 simp only [liesAt,Bool.or_eq_true]
 left
 rw [hd]
 simp [rowAt,hc,hn,sameLayout]
theorem jcI (h:WRel base w0 c w H) (hget:∀ b,get b=(H[b]?).getD .gone) {s d:TypeId} {x:AV} {u:Value} (hx:Rel c w x u) {r:ARes} (hr:Kl cf s d x get=some r) (hp:AllP r.pcs) :
  ∃ v,(convert s d u).run cf.P w=.ok v w∧Rel c w r.val v∧r.wr=[]:=by
 unfold Kl at hr
 split at hr
 ·rename_i t b off hs hd
  split at hr
  ·rename_i cs te j hgb hj
   have hgb:get b=.cells cs te:=hgb
   split at hr
   ·simp at hr
   rename_i hsz
   simp only [Option.some.injEq] at hr; subst hr
   have p1:off<cs.length:=hp.1
   have hx':=hx
   unfold Rel at hx'
   obtain ⟨hl,rfl⟩:=hx'
   obtain ⟨_,_,us,rest,hg,hrs⟩:=h.blk b _ (jbf hget (by simp) hgb)
   have hul:=hrs.length
   exact ⟨_,Lib.run_to_unsafe w ⟨c.ρ b,off,none⟩ hs hd hj (by simpa using hsz) (e:=te) (cells:=(us++rest).toArray.size) (by simp [World.shape?,hg]) (by show off<_; rw [List.size_toArray,List.length_append]; omega),hx,rfl⟩
  ·simp at hr
 ·rename_i u' b hs hd
  split at hr
  ·rename_i cs te j hgb hj
   have hgb:get b=.cells cs te:=hgb
   split at hr
   ·rename_i hc
    simp only [Bool.and_eq_true,beq_iff_eq,bne_iff_ne,ne_eq] at hc
    obtain ⟨rfl,hc⟩:=hc
    simp only [Option.some.injEq] at hr; subst hr
    have p1:cf.P.cellsOf te≤cs.length:=hp.1
    have hx':=hx
    unfold Rel at hx'
    obtain ⟨hl,rfl⟩:=hx'
    obtain ⟨_,_,us,rest,hg,hrs⟩:=h.blk b _ (jbf hget (by simp) hgb)
    have hul:=hrs.length
    refine ⟨_,Lib.run_from_unsafe w ⟨c.ρ b,0,none⟩ hs hd hj (e:=te) (cells:=(us++rest).toArray.size) (by simp [World.shape?,hg]) (jgP hc _ ?_),hx,rfl⟩
    rw [Nat.le_div_iff_mul_le (by omega),List.size_toArray,List.length_append]
    omega
   ·simp at hr
  ·simp at hr
 ·simp at hr
def Zg (x:AV):Option ARes:=match x with
 | .ms b off _ _ cap=>some ⟨[.ltN 0 cap],.ptr b off,[]⟩
 | _=>none
theorem Gt {ts:Array TypeId} {ty:TypeId} {x:AV} {u:Value} (hx:Rel c w x u) {r:ARes} (hr:Zg x=some r) (hp:AllP r.pcs) :
  ∃ v,(Builtin.unsafeSliceData_ ts ty #[u]).run cf.P w=.ok v w∧Rel c w r.val v∧r.wr=[]:=by
 unfold Zg at hr
 split at hr
 ·simp only [Option.some.injEq] at hr; subst hr
  have p1:=hp.1
  unfold Rel at hx
  obtain ⟨hl,_,cr,hcr,rfl⟩:=hx
  have:=hcr.le
  simp only [PC.holds] at p1
  exact ⟨_,Lib.run_unsafeSliceData_row w ts ty _ _ _ (by omega),by unfold Rel; exact ⟨hl,rfl⟩,rfl⟩
 ·simp at hr
theorem QZ {P:Program} {w:World}:∀ (ns:List Int) (a:Addr) (acc:ByteArray),(∀ j x,ns[j]? = some x→w.cell? (a.add j)=some (.int .u8 x)) →
  (loadBytes a acc ns.length).run P w=.ok (kt ns acc) w
 | [],a,acc,_=>by simp [loadBytes,kt]
 | x :: l,a,acc,h=>by
  have h0:w.cell? a=some (.int .u8 x):=by
   have:=h 0 x rfl
   simpa [Addr.add] using this
  have ih:=QZ (P:=P) l (a.add 1) (acc.push x.toNat.toUInt8) (fun j y hy=>by
   have:=h (j+1) y (by simpa using hy)
   have e:(a.add 1).add j=a.add (j+1):=by
    unfold Addr.add
    by_cases hj:j=0
    ·subst hj; simp
    ·simp [hj]; omega
   rw [e]; exact this)
  simp only [List.length_cons,loadBytes,Sem.run_bind,run_load,h0,Result.andThen]
  rw [ih]
  rfl
def kO (cf:Cfg) (ts:Array TypeId) (p n:AV) (get:Nat→ABlk):Option ARes:=match p,Q0 n,ts.toList with
 | .ptr b 0,some i,[pt,_]=>match Zc get p,cf.P.underlying pt with
  | .cells cs te,some (.pointer e)=>if e==te&&cf.P.cellsOf e==1 then match Qu (cs.take i.toNat) with
    | some ns=>some ⟨[.lt 0 i,.le i cs.length,.le i 9223372036854775807],.d (.v (.string (kt ns ByteArray.empty))),[(b,.dead)]⟩
    | none=>none
   else none
  | _,_=>none
 | _,_,_=>none
theorem Gj (h:WRel base w0 c w H) (hget:∀ b,get b=(H[b]?).getD .gone) {ts:Array TypeId} {ty:TypeId} {p n:AV} {up un:Value} (hpx:Rel c w p up) (hnx:Rel c w n un) {r:ARes} (hr:kO cf ts p n get=some r) (hp:AllP r.pcs) :
  ∃ w' v,(Builtin.unsafeString_ ts ty #[up,un]).run cf.P w=.ok v w'∧Ctx.Le c w c w'∧WRel base w0 c w' (r.wr.foldl (fun H x=>H.set x.1 x.2) H)∧Rel c w' r.val v:=by
 unfold kO at hr
 split at hr
 ·rename_i b i pt it hi hts
  have hts:ts=#[pt,it]:=by rw [← Array.toArray_toList (xs:=ts),hts]
  subst hts
  split at hr
  ·rename_i cs te e hgb hpt
   have hgb:get b=.cells cs te:=hgb
   split at hr
   ·rename_i hc
    simp only [Bool.and_eq_true,beq_iff_eq] at hc
    obtain ⟨rfl,hc1⟩:=hc
    split at hr
    ·rename_i ns hns
     simp only [Option.some.injEq] at hr; subst hr
     obtain ⟨p1,p2,p3,_⟩:=hp
     have p1:0<i:=p1
     have p2:i≤cs.length:=p2
     have p3:i≤9223372036854775807:=p3
     unfold Rel at hpx
     obtain ⟨hl,rfl⟩:=hpx
     obtain ⟨k,rfl⟩:=qL hnx hi
     have hH:=jbf hget (by simp) hgb
     obtain ⟨_,_,us,rest,hg,hrs⟩:=h.blk b _ hH
     have hul:=hrs.length
     have hus:=yB (hrs.take i.toNat) hns
     have hnl:ns.length=i.toNat:=by
      have:=congrArg List.length hus
      rw [List.length_take,List.length_map] at this
      omega
     obtain ⟨m1,m2⟩:=h.markDead hH 0 i.toNat
     refine ⟨_,_,?_,m1,m2,by unfold Rel RelD; exact ⟨rfl,rfl⟩⟩
     have hcell:∀ j x,ns[j]? = some x→w.cell? ((⟨c.ρ b,0,none⟩:Addr).add j)=some (.int .u8 x):=by
      intro j x hj
      rw [Addr.add_lit,cell_of_row _ _ _ _ _ _ hg]
      have h1:(us.take i.toNat)[j]? = some (.int .u8 x):=by rw [hus,List.getElem?_map,hj]; rfl
      rw [List.getElem?_take] at h1
      split at h1
      ·simp only [Nat.zero_add,List.getElem?_toArray]
       rw [List.getElem?_append_left (by omega)]
       exact h1
      ·simp at h1
     have hlb:=QZ (P:=cf.P) ns ⟨c.ρ b,0,none⟩ .empty hcell
     have hsh:w.shape? (c.ρ b)=some (e,us.length+rest.length):=by simp [World.shape?,hg]
     have hlies:=Lib.liesAt_bytes (P:=cf.P) hc1 ((us.length+rest.length) / cf.P.cellsOf e) ns.length (by rw [hc1,Nat.div_one]; omega)
     obtain ⟨n',rfl⟩:∃ n':Nat,i=n':=⟨i.toNat,by omega⟩
     have hnn:ns.length=n':=by simpa using hnl
     subst hnn
     have hl0:ns.length≠0:=by omega
     have hneg:¬ ((ns.length:Int)<0):=by omega
     have hmax:IntKind.i64.max=9223372036854775807:=rfl
     have h63':¬ (9223372036854775807:Int)<(ns.length:Int):=by omega
     have hdef:Builtin.unsafeString_ #[pt,it] ty #[.pointer (some ⟨c.ρ b,0,none⟩),.int k (ns.length:Int)] =
       (do
        let n ← asInt (.int k (ns.length:Int))
        if n<0 then runtimePanic (.error "unsafe.String: len out of range")
        if n>IntKind.i64.max then unsupported (.unsafePointer "String: a length above the largest int")
        if n=0 then pure (.string .empty)
        else if ← variablesAt ⟨c.ρ b,0,none⟩ (← elemOf pt) n.toNat then do
         let s ← loadBytes ⟨c.ρ b,0,none⟩ .empty n.toNat
         freeze ⟨c.ρ b,0,none⟩ n.toNat
         pure (.string s)
        else unsupported (.unsafePointer "String: not so many bytes at ptr")):=rfl
     rw [hdef]
     have hl1:ns≠[]:=by intro e; rw [e] at hl0; exact hl0 rfl
     simp [asInt,asIntOf,hmax,h63',hneg,hl0,hl1,variablesAt,hsh,elemOf,run_underlying hpt,hlies,hlb]
    ·simp at hr
   ·simp at hr
  ·simp at hr
 ·simp at hr
def jcS (s:ByteArray):List DV:=s.data.toList.map fun b=>.v (.int .u8 b.toNat)
theorem yk (φ:Nat→Nat) (w:World) (s:ByteArray):RelDs φ w (jcS s) (Lib.strCells s):=by
 unfold jcS Lib.strCells
 generalize s.data.toList=l
 induction l with
 | nil=>exact RelDs.nil
 | cons b l ih=>exact RelDs.cons (by unfold RelD; exact ⟨rfl,rfl⟩) ih
def Q8 (cf:Cfg) (ts:Array TypeId) (s x:AV) (get:Nat→ABlk) (nm:Nat):Option ARes :=
 match ts.toList with
 | [t,t']=>match cf.P.underlying t,cf.P.underlying t' with
  | some (.slice e),some .string=>match cf.P.info? e,Qh cf.P e with
   | some ie,some zs =>
    if zs.length != ie.size||ie.size != 1 then none else
    match s,x with
    | .d (.v (.slice none 0 0)),.d (.v (.string b))=>some ⟨[.ltN 0 b.size,.fits b.size ie.bytes],.ms nm 0 1 b.size b.size,[(nm,.cells ((jcS b).map AV.d) e)]⟩
    | .ms bk 0 sz n cap,.d (.v (.string b))=>if sz==1 then match jaA get s with
     | .cells cs ty=>if ty==e then some ⟨[.ltN 0 b.size,.fits (n+b.size) ie.bytes,.leN cap cs.length],.ms nm 0 1 (n+b.size) (n+b.size),[(bk,.dead),(nm,.cells (cs.take n++(jcS b).map AV.d) e)]⟩ else none
     | _=>none
     else none
    | _,_=>none
   | _,_=>none
  | _,_=>none
 | _=>none
theorem jeb (h:WRel base w0 c w H) (hget:∀ b,get b=(H[b]?).getD .gone) {nm:Nat} (hnm:H[nm]? = some .gone) {ts:Array TypeId} {ty:TypeId} {s x:AV} {us ux:Value} (hs:Rel c w s us) (hx:Rel c w x ux) {r:ARes}
  (hr:Q8 cf ts s x get nm=some r) (hp:AllP r.pcs) :
  ∃ w' c' v,(Builtin.append_ ts ty #[us,ux]).run cf.P w=.ok v w'∧Ctx.Le c w c' w'∧WRel base w0 c' w' (r.wr.foldl (fun H x=>H.set x.1 x.2) H)∧Rel c' w' r.val v:=by
 unfold Q8 at hr
 split at hr
 ·rename_i t t' hts
  have hts:ts=#[t,t']:=by rw [← Array.toArray_toList (xs:=ts),hts]
  subst hts
  split at hr
  ·rename_i e hd hd'
   split at hr
   ·rename_i ie zs hie hz
    split at hr
    ·simp at hr
    rename_i hzl
    have hzl:zs.length=ie.size∧ie.size=1:=by simpa using hzl
    obtain ⟨hzl,hs1⟩:=hzl
    obtain ⟨z,hzz,hzs⟩:=KQ hz hie
    split at hr
    ·rename_i b
     simp only [Option.some.injEq] at hr; subst hr
     obtain ⟨p1,p3,_⟩:=hp
     have p1:0<b.size:=p1
     have p3:Jt b.size ie.bytes:=p3
     unfold Rel RelD at hs hx
     obtain ⟨rfl,_⟩:=hs
     obtain ⟨rfl,_⟩:=hx
     have hrun:=run_append_nil_string (P:=cf.P) w t t' ty e ie z hd hd' hie hzz b p1 (by have:=p3.2; omega) (by have:=p3.1; omega)
     obtain ⟨d1,d2⟩:=h.drew
     have hge:=grownCap_ge w b.size 0 e
     obtain ⟨a1,a2⟩:=d2.alloc_row hnm (us:=Lib.strCells b) (rest:=(Builtin.zeroCells z.cells (grownCap w b.size 0 e - b.size)).toList) e (Rels.map_d (yk c.φ w.drew b))
     have harr:(Lib.strCells b++(Builtin.zeroCells z.cells (grownCap w b.size 0 e - b.size)).toList).toArray=b.data.map (fun b=>Value.int .u8 b.toNat)++Builtin.zeroCells z.cells (grownCap w b.size 0 e - b.size):=by
      apply Array.ext'; simp [Lib.strCells]
     rw [harr] at a1 a2
     refine ⟨_,_,_,hrun,d1.trans a1,a2,?_⟩
     unfold Rel
     refine ⟨by simp [Ctx.new],Nat.le_refl _,_,.inr ⟨hge,?_⟩,by simp [Ctx.new]⟩
     refine ⟨_,_,_,by simp only [Ctx.new,jz]; exact heap_alloc_new _ _,?_⟩
     rw [Array.size_append,j7,Array.size_map,hzs,hzl,hs1]
     have:b.data.size=b.size:=rfl
     omega
    ·rename_i bk sz n cap b
     split at hr
     rotate_left
     ·simp at hr
     rename_i hsz
     have hsz:sz=1:=by simpa using hsz
     subst hsz
     split at hr
     rotate_left
     ·simp at hr
     rename_i cs ty' hgb
     have hgb:get bk=.cells cs ty':=hgb
     split at hr
     rotate_left
     ·simp at hr
     rename_i hty
     have hty:ty'=e:=by simpa using hty
     subst hty
     simp only [Option.some.injEq] at hr; subst hr
     obtain ⟨p1,p3,p4,_⟩:=hp
     have p1:0<b.size:=p1
     have p3:Jt (n+b.size) ie.bytes:=p3
     have p4:cap≤cs.length:=p4
     unfold Rel at hs
     obtain ⟨hl,hcap,cr,hcr,rfl⟩:=hs
     unfold Rel RelD at hx
     obtain ⟨rfl,_⟩:=hx
     have hH:=jbf hget (by simp) hgb
     obtain ⟨hbase,hφ,vs,rest,hg,hvs⟩:=h.blk bk _ hH
     have hvl:=hvs.length
     have hbn:bk≠nm:=by intro e; subst e; rw [hH] at hnm; simp at hnm
     have hsl:=Lib.strCells_length b
     have htl:(vs.take n).length=n:=by rw [List.length_take]; omega
     have holds:jT w (c.ρ bk) 0 (vs.take n):=by
      intro i u hu
      rw [cell_of_row _ _ _ _ _ _ hg]
      have hi:=(List.getElem?_eq_some_iff.1 hu).1
      rw [List.getElem?_take] at hu
      split at hu
      ·simp only [Nat.zero_add,List.getElem?_toArray]
       rw [List.getElem?_append_left (by rw [List.length_take] at hi; omega)]
       exact hu
      ·simp at hu
     by_cases hroom:n+b.size≤cr
     ·have hsize:n+b.size≤(vs++rest).length:=by
       rcases hcr with hc | ⟨_,cur,t1,fr1,hh,hk⟩
       ·rw [List.length_append]; omega
       ·rw [hg] at hh
        simp only [Option.some.injEq,Obj.cells.injEq] at hh
        obtain ⟨rfl,_,_⟩:=hh
        rw [List.size_toArray] at hk
        omega
      have hrun:=Lib.run_append_room_string (P:=cf.P) w t t' ty ty' ie hd hd' hie hs1 (c.ρ bk) n cr (vs++rest).toArray hg b hroom (by rw [List.size_toArray]; exact hsize)
      obtain ⟨r1,r2⟩:=h.rename hH hnm
      have hk0:((H.set bk .dead).set nm (.cells cs ty'))[nm]? = some (.cells cs ty'):=List.getElem?_set_self (by simpa using (List.getElem?_eq_some_iff.1 hnm).1)
      have hρ:(c.new nm (c.ρ bk) 0 0 false).ρ nm=c.ρ bk:=by simp [Ctx.new]
      obtain ⟨s1,s2⟩:=r2.store hk0 (cs':=cs.take n++(jcS b).map AV.d) (us:=(vs++rest).take (n+b.size)) (us':=vs.take n++Lib.strCells b) (rest:=(vs++rest).drop (n+b.size))
       (by rw [hρ,List.take_append_drop]; exact hg) (by rw [List.length_append,htl,List.length_take,hsl]; omega)
       (Rels.append (Rels.take (Rels.mono r1 hvs) _) (Rels.map_d (yk _ _ b)))
      have hrow:vs.take n++Lib.strCells b++(vs++rest).drop (n+b.size)=(vs++rest).toArray.toList.take n++Lib.strCells b++(vs++rest).toArray.toList.drop (n+b.size):=by
       rw [List.take_append_of_le_length (by omega)]
      rw [hrow,hρ,List.set_set] at s2
      rw [hrow,hρ] at s1
      refine ⟨_,_,_,hrun,r1.trans s1,s2,?_⟩
      unfold Rel
      refine ⟨by simp [Ctx.new],Nat.le_refl _,cr,?_,by rw [hρ]⟩
      refine .inr ⟨hroom,?_⟩
      rw [hρ]
      refine Je hg (by rw [← hrow,List.size_toArray,List.size_toArray,List.length_append,List.length_append,htl,List.length_drop,hsl]; omega) ?_
      rcases hcr with hc | ⟨_,hr⟩
      ·refine ⟨_,_,_,hg,?_⟩
       rw [← hc,List.size_toArray,List.length_append]
       omega
      ·exact hr
     ·have hcr':cap≤cr:=hcr.le
      have hrun:=Lib.run_append_grow_string (P:=cf.P) w t t' ty ty' ie z hd hd' hie hzz ⟨c.ρ bk,0,none⟩ n cr (vs.take n) (by rw [htl,hs1,Nat.mul_one]) (jZ holds) b (by omega) (by have:=p3.2; omega) (growslice_fits (by omega) p3.1)
      obtain ⟨d1,d2⟩:=(h.letGo hH).drew
      have hge:=grownCap_ge w (n+b.size) cr ty'
      obtain ⟨a1,a2⟩:=d2.alloc_row (nm:=nm) (by rw [List.getElem?_set_ne hbn]; exact hnm) (us:=vs.take n++Lib.strCells b) (rest:=(Builtin.zeroCells z.cells (grownCap w (n+b.size) cr ty' - (n+b.size))).toList) ty'
       (Rels.append (Rels.take (Rels.mono d1 hvs) n) (Rels.map_d (yk _ _ b)))
      have harr:(vs.take n++Lib.strCells b++(Builtin.zeroCells z.cells (grownCap w (n+b.size) cr ty' - (n+b.size))).toList).toArray=(vs.take n).toArray++(Lib.strCells b).toArray++Builtin.zeroCells z.cells (grownCap w (n+b.size) cr ty' - (n+b.size)):=by
       apply Array.ext'; simp
      rw [harr] at a1 a2
      refine ⟨_,_,_,hrun,d1.trans a1,a2,?_⟩
      unfold Rel
      refine ⟨by simp [Ctx.new],Nat.le_refl _,_,.inr ⟨hge,?_⟩,by simp [Ctx.new]⟩
      refine ⟨_,_,_,by simp only [Ctx.new,jz]; exact heap_alloc_new _ _,?_⟩
      rw [Array.size_append,Array.size_append,j7,List.size_toArray,List.size_toArray,htl,hsl,hzs,hzl,hs1,Nat.zero_add,Nat.mul_one,Nat.mul_one]
      omega
    ·simp at hr
   ·simp at hr
  ·simp at hr
 ·simp at hr
theorem Yq {P:Program} {t e:TypeId} (h:P.underlying t=some (.pointer e)) (a:Addr) (d:Nat) (w:World):(Op.equalIn (d+1) t (.pointer (some a)) (.pointer none)).run P w=.ok false w:=by
 simp only [Op.equalIn,Sem.run_bind,run_underlying h,Result.andThen_ok]
 rfl
theorem yN {P:Program} {t e:TypeId} {j:TypeInfo} (h:P.underlying t=some (.pointer e)) (hj:P.info? e=some j) (a:Addr) (d:Nat) (w:World):(Op.equalIn (d+1) t (.pointer (some a)) (.pointer (some a))).run P w=.ok true w:=by
 simp [Op.equalIn,run_underlying h,sizeOf,typeInfo,hj,run_sameAddr_same]
def jek (cf:Cfg) (op:BinOp) (t:TypeId) (x y:AV):Option ARes:=match jcX op,cf.P.underlying t,x,y with
 | some e,some (.pointer _),.ptr _ _,.d (.v (.pointer none))=>some ⟨[],.d (.v (.bool (!e))),[]⟩
 | some e,some (.pointer el),.ptr b o,.ptr b' o'=>match cf.P.info? el with
  | some _=>if b==b'&&o==o' then some ⟨[],.d (.v (.bool e)),[]⟩ else none
  | none=>none
 | _,_,_,_=>none
theorem jgH {op:BinOp} {t:TypeId} {x y:AV} {ux uy:Value} (hx:Rel c w x ux) (hy:Rel c w y uy) {r:ARes} (hr:jek cf op t x y=some r) (px py:Operand) :
  ∃ v,(eqGuard op t px py ux uy).run cf.P w=.ok () w∧(binOp op t ux uy).run cf.P w=.ok v w∧Rel c w r.val v∧r.wr=[]:=by
 unfold jek at hr
 have hop:∀ e,jcX op=some e→(op=.eql∧e=true)∨(op=.neq∧e=false):=by
  intro e he
  cases op <;> simp [jcX] at he
  ·exact .inl ⟨rfl,he⟩
  ·exact .inr ⟨rfl,he⟩
 split at hr
 ·rename_i e el b o he hd
  simp only [Option.some.injEq] at hr; subst hr
  unfold Rel at hx hy
  unfold RelD at hy
  obtain ⟨_,rfl⟩:=hx
  obtain ⟨rfl,_⟩:=hy
  have h:(Op.equal t (.pointer (some ⟨c.ρ b,o,none⟩)) (.pointer none)).run cf.P w=.ok false w:=Yq hd _ 9999 w
  rcases hop e he with ⟨rfl,rfl⟩ | ⟨rfl,rfl⟩
  ·exact ⟨.bool false,by simp [eqGuard],by simp [binOp,h],by unfold Rel RelD; exact ⟨rfl,rfl⟩,rfl⟩
  ·exact ⟨.bool true,by simp [eqGuard],by simp [binOp,h],by unfold Rel RelD; exact ⟨rfl,rfl⟩,rfl⟩
 ·rename_i e el b o b' o' he hd
  split at hr
  ·rename_i j hj
   split at hr
   ·rename_i hc
    simp only [Bool.and_eq_true,beq_iff_eq] at hc
    obtain ⟨rfl,rfl⟩:=hc
    simp only [Option.some.injEq] at hr; subst hr
    unfold Rel at hx hy
    obtain ⟨_,rfl⟩:=hx
    obtain ⟨_,rfl⟩:=hy
    have h:(Op.equal t (.pointer (some ⟨c.ρ b,o,none⟩)) (.pointer (some ⟨c.ρ b,o,none⟩))).run cf.P w=.ok true w:=yN hd hj _ 9999 w
    rcases hop e he with ⟨rfl,rfl⟩ | ⟨rfl,rfl⟩
    ·exact ⟨.bool true,by simp [eqGuard],by simp [binOp,h],by unfold Rel RelD; exact ⟨rfl,rfl⟩,rfl⟩
    ·exact ⟨.bool false,by simp [eqGuard],by simp [binOp,h],by unfold Rel RelD; exact ⟨rfl,rfl⟩,rfl⟩
   ·simp at hr
  ·simp at hr
 ·simp at hr
end
end Go.Kv
