import Derived.Calls
import Derived.Below
import Derived.AtR
import Derived.RangeFuncIn
import Derived.Laws.World
import Derived.Laws.Rows
import Derived.Laws.Cells
import Derived.Laws.CopyRow
import Derived.Laws.Append
import Derived.Laws.Bits
import Derived.KernelRfl
set_option linter.all false
namespace Go.Kv
open Go Go.RowKit
inductive DV where
 | v (x:Value)
 | sl (n:Nat) (xs:List DV)
inductive GX where
 | s (e lo n:Nat)
 | q (e i:Nat)
 | r (id m:Nat)
 | p (id k:Nat)
inductive AV where
 | d (x:DV)
 | ptr (b off:Nat)
 | ip (cs:List DV)
 | own (b e sz n:Nat) (xs:List DV)
 | ms (b off sz n cap:Nat)
 | fn (f:Fn) (fs cs:List AV)
 | yl (b:Nat)
 | mp (b:Nat)
 | em
 | nan (k:FloatKind)
 | agg (cs:List AV)
 | tup (cs:List AV)
 | opt (b:Bool) (x:AV)
 | gx (b:Nat) (x:GX)
 | any
def ZH (k:FloatKind) (b:Nat):Prop:=∃ s t,k.decode b=.nan s t
def jT (w:World) (bk off:Nat) (us:List Value):Prop:=∀ (i:Nat) u,us[i]? = some u→w.cell? ⟨bk,off+i,none⟩=some u
def IsSl (u:Value) (bk off n cap:Nat) (us:List Value):Prop:=u=.slice (some ⟨bk,off,none⟩) n cap∨((∃ o,u=.slice o 0 0)∧n=0∧cap=0∧us=[])
theorem IsSl.pos {u:Value} {bk off n cap:Nat} {us:List Value} (h:IsSl u bk off n cap us) (hn:0<n):u=.slice (some ⟨bk,off,none⟩) n cap:=by
 rcases h with h | ⟨_,h,_⟩
 ·exact h
 ·omega
mutual
def RelD (φ:Nat→Nat) (w:World):DV→Value→Prop
 | .v x,u=>u=x∧x.oneCell'=true
 | .sl n xs,u=>∃ bk off cap us,IsSl u bk off n cap us∧off+us.length≤φ bk∧n≤cap∧jT w bk off us∧RelDs φ w xs us
def RelDs (φ:Nat→Nat) (w:World):List DV→List Value→Prop
 | [],us=>us=[]
 | x :: xs,us=>∃ u r,us=u :: r∧RelD φ w x u∧RelDs φ w xs r
end
structure Start where
 w:World
 φ:Nat→Nat
 sd:Bool
structure Ctx where
 ρ:Nat→Nat
 τ:Nat→Nat
 σ:Nat→Nat
 φ:Nat→Nat
 live:Nat→Bool
 tl:Nat→Bool
 γ:Nat→Nat→Nat:=fun _ _=>0
 γn:Nat→Nat:=fun _=>0
def zA (fr:Nat × Nat) (n:Nat):Prop:=fr.1=fr.2∨n≤fr.1
def Jo (w:World) (bk k:Nat):Prop:=∃ cur t fr,w.heap[bk]? = some (.cells cur t fr)∧k≤cur.size
def RoomOk (w:World) (bk off sz cap cr:Nat):Prop:=cap=cr∨(cap≤cr∧Jo w bk (off+cr*sz))
theorem RoomOk.le {w:World} {bk off sz cap cr:Nat} (h:RoomOk w bk off sz cap cr):cap≤cr:=by
 rcases h with h | h
 ·omega
 ·exact h.1
def jn9 (c:Ctx) (w:World) (b e sz n bk off cap:Nat):Prop :=
 e=c.σ b→bk=c.τ b∧(∃ k,Jo w bk k)∧(n=cap∨(off+n*sz=c.φ bk∧Jo w bk (off+cap*sz)))
def GRel (c:Ctx) (w:World) (b:Nat):GX→Value→Prop
 | .s e lo n,u=>e≤c.σ b∧(∃ bk cap,n≤cap∧u=.slice (some ⟨bk,lo,none⟩) n cap∧(e=c.σ b→bk=c.τ b∧Jo w (c.τ b) (lo+cap)))
 | .q e i,u=>e≤c.σ b∧∃ bk,u=.pointer (some ⟨bk,i,none⟩)∧(e=c.σ b→bk=c.τ b∧Jo w (c.τ b) 0)
 | .r id m,u=>id<c.γn b∧∃ cap,m≤cap∧u=.slice (some ⟨c.γ b id,0,none⟩) m cap
 | .p id k,u=>id<c.γn b∧u=.pointer (some ⟨c.γ b id,k,none⟩)
mutual
def Rel (c:Ctx) (w:World):AV→Value→Prop
 | .d x,u=>RelD c.φ w x u
 | .ptr b off,u=>c.live b=true∧u=.pointer (some ⟨c.ρ b,off,none⟩)
 | .ip cs,u=>∃ bk off us,u=.pointer (some ⟨bk,off,none⟩)∧off+us.length≤c.φ bk∧jT w bk off us∧RelDs c.φ w cs us
 | .own b e sz n xs,u=>∃ bk off cap us,u=.slice (some ⟨bk,off,none⟩) n cap∧off+us.length≤c.φ bk∧n≤cap∧jT w bk off us ∧
   RelDs c.φ w xs us∧us.length=n*sz∧c.tl b=true∧e≤c.σ b∧jn9 c w b e sz n bk off cap
 | .ms b off sz n cap,u=>c.live b=true∧n≤cap∧∃ cr,RoomOk w (c.ρ b) off sz cap cr∧u=.slice (some ⟨c.ρ b,off,none⟩) n cr
 | .fn f fs cs,u=>(∀ l,f≠.yield l)∧∃ us vs,u=.func f us.toArray vs.toArray∧Rels c w fs us∧Rels c w cs vs
 | .yl b,u=>c.live b=true∧u=.func (.yield (c.ρ b)) #[] #[]
 | .mp b,u=>c.live b=true∧u=.map (some (c.ρ b))
 | .em,u=>∃ o,u=.slice o 0 0
 | .nan k,u=>∃ b,u=.float k b∧ZH k b
 | .agg cs,u=>∃ us,u=.agg us.toArray∧Rels c w cs us
 | .tup cs,u=>∃ us,u=.tuple us.toArray∧Rels c w cs us
 | .opt b x,u=>b=true→Rel c w x u
 | .gx b x,u=>c.tl b=true∧c.live b=true∧GRel c w b x u
 | .any,_=>True
def Rels (c:Ctx) (w:World):List AV→List Value→Prop
 | [],us=>us=[]
 | x :: xs,us=>∃ u r,us=u :: r∧Rel c w x u∧Rels c w xs r
end
theorem Rels.cons {c:Ctx} {w:World} {x:AV} {xs:List AV} {u:Value} {us:List Value} (h:Rel c w x u) (t:Rels c w xs us):Rels c w (x :: xs) (u :: us):=by
 unfold Rels; exact ⟨u,us,rfl,h,t⟩
theorem Rels.nil {c:Ctx} {w:World}:Rels c w [] []:=by unfold Rels; rfl
theorem Rels.nil_inv {c:Ctx} {w:World} {us:List Value} (h:Rels c w [] us):us=[]:=by unfold Rels at h; exact h
theorem Rels.cons_inv {c:Ctx} {w:World} {x:AV} {xs:List AV} {us:List Value} (h:Rels c w (x :: xs) us):∃ u r,us=u :: r∧Rel c w x u∧Rels c w xs r:=by
 unfold Rels at h; exact h
theorem RelDs.cons {φ:Nat→Nat} {w:World} {x:DV} {xs:List DV} {u:Value} {us:List Value} (h:RelD φ w x u) (t:RelDs φ w xs us):RelDs φ w (x :: xs) (u :: us):=by
 unfold RelDs; exact ⟨u,us,rfl,h,t⟩
theorem RelDs.nil {φ:Nat→Nat} {w:World}:RelDs φ w [] []:=by unfold RelDs; rfl
theorem RelDs.nil_inv {φ:Nat→Nat} {w:World} {us:List Value} (h:RelDs φ w [] us):us=[]:=by unfold RelDs at h; exact h
theorem RelDs.cons_inv {φ:Nat→Nat} {w:World} {x:DV} {xs:List DV} {us:List Value} (h:RelDs φ w (x :: xs) us):∃ u r,us=u :: r∧RelD φ w x u∧RelDs φ w xs r:=by
 unfold RelDs at h; exact h
theorem Rels.length {c:Ctx} {w:World}:∀ {xs:List AV} {us:List Value},Rels c w xs us→us.length=xs.length
 | [],_,h=>by simp [h.nil_inv]
 | _ :: _,_,h=>by obtain ⟨u,r,rfl,_,t⟩:=h.cons_inv; simp [Rels.length t]
theorem RelDs.length {φ:Nat→Nat} {w:World}:∀ {xs:List DV} {us:List Value},RelDs φ w xs us→us.length=xs.length
 | [],_,h=>by simp [h.nil_inv]
 | _ :: _,_,h=>by obtain ⟨u,r,rfl,_,t⟩:=h.cons_inv; simp [RelDs.length t]
theorem Rels.get {c:Ctx} {w:World}:∀ {xs:List AV} {us:List Value},Rels c w xs us→∀ (i:Nat) x,xs[i]? = some x→∃ u,us[i]? = some u∧Rel c w x u
 | [],_,_,i,x,hx=>by simp at hx
 | y :: ys,_,h,i,x,hx=>by
  obtain ⟨u,r,rfl,hu,t⟩:=h.cons_inv
  cases i with
  | zero=>simp at hx; subst hx; exact ⟨u,by simp,hu⟩
  | succ i=>simp at hx; obtain ⟨v,hv,hr⟩:=Rels.get t i x hx; exact ⟨v,by simpa using hv,hr⟩
theorem RelDs.get {φ:Nat→Nat} {w:World}:∀ {xs:List DV} {us:List Value},RelDs φ w xs us→∀ (i:Nat) x,xs[i]? = some x→∃ u,us[i]? = some u∧RelD φ w x u
 | [],_,_,i,x,hx=>by simp at hx
 | y :: ys,_,h,i,x,hx=>by
  obtain ⟨u,r,rfl,hu,t⟩:=h.cons_inv
  cases i with
  | zero=>simp at hx; subst hx; exact ⟨u,by simp,hu⟩
  | succ i=>simp at hx; obtain ⟨v,hv,hr⟩:=RelDs.get t i x hx; exact ⟨v,by simpa using hv,hr⟩
theorem Rels.append {c:Ctx} {w:World}:∀ {xs:List AV} {us:List Value},Rels c w xs us→∀ {ys:List AV} {vs:List Value},Rels c w ys vs→Rels c w (xs++ys) (us++vs)
 | [],_,h,_,_,k=>by rw [h.nil_inv]; simpa using k
 | _ :: _,_,h,_,_,k=>by obtain ⟨u,r,rfl,hu,t⟩:=h.cons_inv; exact Rels.cons hu (Rels.append t k)
theorem RelDs.append {φ:Nat→Nat} {w:World}:∀ {xs:List DV} {us:List Value},RelDs φ w xs us→∀ {ys:List DV} {vs:List Value},RelDs φ w ys vs→RelDs φ w (xs++ys) (us++vs)
 | [],_,h,_,_,k=>by rw [h.nil_inv]; simpa using k
 | _ :: _,_,h,_,_,k=>by obtain ⟨u,r,rfl,hu,t⟩:=h.cons_inv; exact RelDs.cons hu (RelDs.append t k)
theorem Rels.take {c:Ctx} {w:World}:∀ {xs:List AV} {us:List Value},Rels c w xs us→∀ n,Rels c w (xs.take n) (us.take n)
 | [],_,h,n=>by rw [h.nil_inv]; simpa using Rels.nil
 | _ :: _,_,h,n=>by
  obtain ⟨u,r,rfl,hu,t⟩:=h.cons_inv
  cases n with
  | zero=>simpa using Rels.nil
  | succ n=>simpa using Rels.cons hu (Rels.take t n)
theorem RelDs.take {φ:Nat→Nat} {w:World}:∀ {xs:List DV} {us:List Value},RelDs φ w xs us→∀ n,RelDs φ w (xs.take n) (us.take n)
 | [],_,h,n=>by rw [h.nil_inv]; simpa using RelDs.nil
 | _ :: _,_,h,n=>by
  obtain ⟨u,r,rfl,hu,t⟩:=h.cons_inv
  cases n with
  | zero=>simpa using RelDs.nil
  | succ n=>simpa using RelDs.cons hu (RelDs.take t n)
theorem Rels.drop {c:Ctx} {w:World}:∀ {xs:List AV} {us:List Value},Rels c w xs us→∀ n,Rels c w (xs.drop n) (us.drop n)
 | [],_,h,n=>by rw [h.nil_inv]; simpa using Rels.nil
 | _ :: _,_,h,n=>by
  cases n with
  | zero=>simpa using h
  | succ n=>obtain ⟨u,r,rfl,hu,t⟩:=h.cons_inv; simpa using Rels.drop t n
theorem RelDs.drop {φ:Nat→Nat} {w:World}:∀ {xs:List DV} {us:List Value},RelDs φ w xs us→∀ n,RelDs φ w (xs.drop n) (us.drop n)
 | [],_,h,n=>by rw [h.nil_inv]; simpa using RelDs.nil
 | _ :: _,_,h,n=>by
  cases n with
  | zero=>simpa using h
  | succ n=>obtain ⟨u,r,rfl,hu,t⟩:=h.cons_inv; simpa using RelDs.drop t n
theorem Rels.set {c:Ctx} {w:World}:∀ {xs:List AV} {us:List Value},Rels c w xs us→∀ i {x:AV} {u:Value},Rel c w x u→Rels c w (xs.set i x) (us.set i u)
 | [],_,h,i,_,_,_=>by rw [h.nil_inv]; simpa using Rels.nil
 | _ :: _,_,h,i,x,u,hx=>by
  obtain ⟨u',r,rfl,hu,t⟩:=h.cons_inv
  cases i with
  | zero=>simpa using Rels.cons hx t
  | succ i=>simpa using Rels.cons hu (Rels.set t i hx)
theorem Rels.map_d {c:Ctx} {w:World}:∀ {xs:List DV} {us:List Value},RelDs c.φ w xs us→Rels c w (xs.map AV.d) us
 | [],_,h=>by rw [h.nil_inv]; exact Rels.nil
 | _ :: _,_,h=>by
  obtain ⟨u,r,rfl,hu,t⟩:=h.cons_inv
  exact Rels.cons (by simpa [Rel] using hu) (Rels.map_d t)
theorem Rels.replicate {c:Ctx} {w:World} {x:AV} {u:Value} (h:Rel c w x u):∀ n,Rels c w (List.replicate n x) (List.replicate n u)
 | 0=>by simpa using Rels.nil
 | n+1=>by simpa [List.replicate_succ] using Rels.cons h (Rels.replicate h n)
theorem RelDs.of_get {φ:Nat→Nat} {w:World}:∀ {xs:List DV} {us:List Value},us.length=xs.length→(∀ (i:Nat) x u,xs[i]? = some x→us[i]? = some u→RelD φ w x u)→RelDs φ w xs us
 | [],us,hl,_=>by have:us=[]:=List.eq_nil_of_length_eq_zero (by simpa using hl); subst this; exact RelDs.nil
 | x :: xs,[],hl,_=>by simp at hl
 | x :: xs,u :: us,hl,h=>RelDs.cons (h 0 x u rfl rfl) (RelDs.of_get (by simpa using hl) fun i y v hy hv=>h (i+1) y v (by simpa using hy) (by simpa using hv))
structure Ctx.Le (c:Ctx) (w:World) (c':Ctx) (w':World):Prop where
 live:∀ b,c.live b=true→c'.live b=true
 ρ:∀ b,c.live b=true→c'.ρ b=c.ρ b
 φ:∀ i,c.φ i≤c'.φ i
 tl:∀ b,c.tl b=true→c'.tl b=true
 σ:∀ b,c.tl b=true→c.σ b≤c'.σ b
 own:∀ b,c.tl b=true→c'.σ b=c.σ b→(∃ k,Jo w (c.τ b) k)→c'.τ b=c.τ b∧c'.φ (c.τ b)=c.φ (c.τ b)
 cells:∀ bk o,o<c.φ bk→w'.cell? ⟨bk,o,none⟩=w.cell? ⟨bk,o,none⟩
 size:∀ bk k,Jo w bk k→Jo w' bk k
 γ:∀ b,c.live b=true→c.γn b≤c'.γn b∧∀ id,id<c.γn b→c'.γ b id=c.γ b id
theorem Ctx.Le.refl (c:Ctx) (w:World):Ctx.Le c w c w :=
 ⟨fun _ h=>h,fun _ _=>rfl,fun _=>Nat.le_refl _,fun _ h=>h,fun _ _=>Nat.le_refl _,fun _ _ _ _=>⟨rfl,rfl⟩,fun _ _ _=>rfl,fun _ _ h=>h,fun _ _=>⟨Nat.le_refl _,fun _ _=>rfl⟩⟩
theorem Ctx.Le.trans {a b c:Ctx} {u v w:World} (h:Ctx.Le a u b v) (k:Ctx.Le b v c w):Ctx.Le a u c w where
 live:=fun x hx=>k.live x (h.live x hx)
 ρ:=fun x hx=>(k.ρ x (h.live x hx)).trans (h.ρ x hx)
 φ:=fun i=>Nat.le_trans (h.φ i) (k.φ i)
 tl:=fun x hx=>k.tl x (h.tl x hx)
 σ:=fun x hx=>Nat.le_trans (h.σ x hx) (k.σ x (h.tl x hx))
 own:=fun x hx he hr=>by
  have h1:=h.σ x hx
  have h2:=k.σ x (h.tl x hx)
  have e1:b.σ x=a.σ x:=by omega
  obtain ⟨t1,f1⟩:=h.own x hx e1 hr
  obtain ⟨t2,f2⟩:=k.own x (h.tl x hx) (by omega) (by rw [t1]; obtain ⟨n,hn⟩:=hr; exact ⟨n,h.size _ _ hn⟩)
  exact ⟨t2.trans t1,by rw [← f1,← t1,← f2]⟩
 cells:=fun bk o ho=>(k.cells bk o (Nat.lt_of_lt_of_le ho (h.φ bk))).trans (h.cells bk o ho)
 size:=fun bk n hn=>k.size bk n (h.size bk n hn)
 γ:=fun x hx=>by
  obtain ⟨h1,h2⟩:=h.γ x hx
  obtain ⟨k1,k2⟩:=k.γ x (h.live x hx)
  exact ⟨Nat.le_trans h1 k1,fun id hid=>(k2 id (Nat.lt_of_lt_of_le hid h1)).trans (h2 id hid)⟩
theorem Ku {c c':Ctx} {w w':World} (h:Ctx.Le c w c' w') {bk off:Nat} {us:List Value} (hl:off+us.length≤c.φ bk) (hc:jT w bk off us):jT w' bk off us:=by
 intro i u hu
 have hi:i<us.length:=(List.getElem?_eq_some_iff.1 hu).1
 rw [h.cells bk (off+i) (by omega)]
 exact hc i u hu
mutual
theorem RelD.mono {c c':Ctx} {w w':World} (h:Ctx.Le c w c' w'):∀ {x:DV} {u:Value},RelD c.φ w x u→RelD c'.φ w' x u
 | .v x,u,hr=>by unfold RelD at hr ⊢; exact hr
 | .sl n xs,u,hr=>by
  unfold RelD at hr ⊢
  obtain ⟨bk,off,cap,us,hu,hl,hn,hc,hs⟩:=hr
  exact ⟨bk,off,cap,us,hu,Nat.le_trans hl (h.φ bk),hn,Ku h hl hc,RelDs.mono h hs⟩
theorem RelDs.mono {c c':Ctx} {w w':World} (h:Ctx.Le c w c' w'):∀ {xs:List DV} {us:List Value},RelDs c.φ w xs us→RelDs c'.φ w' xs us
 | [],us,hr=>by rw [hr.nil_inv]; exact RelDs.nil
 | x :: xs,us,hr=>by
  obtain ⟨u,r,rfl,hu,t⟩:=hr.cons_inv
  exact RelDs.cons (RelD.mono h hu) (RelDs.mono h t)
end
theorem GRel.mono {c c':Ctx} {w w':World} (h:Ctx.Le c w c' w') {b:Nat} (ht:c.tl b=true) (hb:c.live b=true):∀ {x:GX} {u:Value},GRel c w b x u→GRel c' w' b x u
 | .s e lo n,u,⟨h0,bk,cap,h1,h2,h3⟩=>by
  have hσ:=h.σ b ht
  refine ⟨Nat.le_trans h0 hσ,bk,cap,h1,h2,fun he=>?_⟩
  obtain ⟨g1,g2⟩:=h3 (by omega)
  obtain ⟨t1,_⟩:=h.own b ht (by omega) ⟨_,g2⟩
  exact ⟨by rw [t1]; exact g1,by rw [t1]; exact h.size _ _ g2⟩
 | .q e i,u,⟨h0,bk,h2,h3⟩=>by
  have hσ:=h.σ b ht
  refine ⟨Nat.le_trans h0 hσ,bk,h2,fun he=>?_⟩
  obtain ⟨g1,g2⟩:=h3 (by omega)
  obtain ⟨t1,_⟩:=h.own b ht (by omega) ⟨_,g2⟩
  exact ⟨by rw [t1]; exact g1,by rw [t1]; exact h.size _ _ g2⟩
 | .r id m,u,⟨h0,cap,h1,h2⟩=>⟨Nat.lt_of_lt_of_le h0 (h.γ b hb).1,cap,h1,by rw [(h.γ b hb).2 id h0]; exact h2⟩
 | .p id k,u,⟨h0,h1⟩=>⟨Nat.lt_of_lt_of_le h0 (h.γ b hb).1,by rw [(h.γ b hb).2 id h0]; exact h1⟩
mutual
theorem Rel.mono {c c':Ctx} {w w':World} (h:Ctx.Le c w c' w'):∀ {x:AV} {u:Value},Rel c w x u→Rel c' w' x u
 | .d x,u,hr=>by unfold Rel at hr ⊢; exact RelD.mono h hr
 | .ptr b off,u,hr=>by unfold Rel at hr ⊢; exact ⟨h.live b hr.1,by rw [h.ρ b hr.1]; exact hr.2⟩
 | .ip cs,u,hr=>by
  unfold Rel at hr ⊢
  obtain ⟨bk,off,us,rfl,hl,hc,hs⟩:=hr
  exact ⟨bk,off,us,rfl,Nat.le_trans hl (h.φ bk),Ku h hl hc,RelDs.mono h hs⟩
 | .own b e sz n xs,u,hr=>by
  unfold Rel at hr ⊢
  obtain ⟨bk,off,cap,us,rfl,hl,hn,hc,hs,hlen,hlive,he,hok⟩:=hr
  have hσ:=h.σ b hlive
  refine ⟨bk,off,cap,us,rfl,Nat.le_trans hl (h.φ bk),hn,Ku h hl hc,RelDs.mono h hs,hlen,h.tl b hlive,Nat.le_trans he hσ,?_⟩
  intro hee
  have e1:c'.σ b=c.σ b:=by omega
  obtain ⟨h1,⟨k,hk⟩,h4⟩:=hok (by omega)
  obtain ⟨t1,f1⟩:=h.own b hlive e1 ⟨k,h1 ▸ hk⟩
  refine ⟨by rw [t1]; exact h1,⟨k,h.size _ _ hk⟩,?_⟩
  rcases h4 with h4 | ⟨h2,h3⟩
  ·exact .inl h4
  ·exact .inr ⟨by rw [h1,f1,← h1]; exact h2,h.size _ _ h3⟩
 | .ms b off sz n cap,u,hr=>by
  unfold Rel at hr ⊢
  obtain ⟨h1,h2,cr,h3,h4⟩:=hr
  refine ⟨h.live b h1,h2,cr,?_,by rw [h.ρ b h1]; exact h4⟩
  rw [h.ρ b h1]
  rcases h3 with h3 | ⟨h3,h5⟩
  ·exact .inl h3
  ·exact .inr ⟨h3,h.size _ _ h5⟩
 | .fn f fs cs,u,hr=>by
  unfold Rel at hr ⊢
  obtain ⟨hf,us,vs,rfl,h1,h2⟩:=hr
  exact ⟨hf,us,vs,rfl,Rels.mono h h1,Rels.mono h h2⟩
 | .yl b,u,hr=>by unfold Rel at hr ⊢; exact ⟨h.live b hr.1,by rw [h.ρ b hr.1]; exact hr.2⟩
 | .mp b,u,hr=>by unfold Rel at hr ⊢; exact ⟨h.live b hr.1,by rw [h.ρ b hr.1]; exact hr.2⟩
 | .em,u,hr=>by unfold Rel at hr ⊢; exact hr
 | .nan k,u,hr=>by unfold Rel at hr ⊢; exact hr
 | .agg cs,u,hr=>by unfold Rel at hr ⊢; obtain ⟨us,rfl,h1⟩:=hr; exact ⟨us,rfl,Rels.mono h h1⟩
 | .tup cs,u,hr=>by unfold Rel at hr ⊢; obtain ⟨us,rfl,h1⟩:=hr; exact ⟨us,rfl,Rels.mono h h1⟩
 | .opt b x,u,hr=>by unfold Rel at hr ⊢; intro hb; exact Rel.mono h (hr hb)
 | .gx b x,u,hr=>by unfold Rel at hr ⊢; exact ⟨h.tl b hr.1,h.live b hr.2.1,GRel.mono h hr.1 hr.2.1 hr.2.2⟩
 | .any,u,hr=>by unfold Rel; trivial
theorem Rels.mono {c c':Ctx} {w w':World} (h:Ctx.Le c w c' w'):∀ {xs:List AV} {us:List Value},Rels c w xs us→Rels c' w' xs us
 | [],us,hr=>by rw [hr.nil_inv]; exact Rels.nil
 | x :: xs,us,hr=>by
  obtain ⟨u,r,rfl,hu,t⟩:=hr.cons_inv
  exact Rels.cons (Rel.mono h hu) (Rels.mono h t)
end
end Go.Kv
