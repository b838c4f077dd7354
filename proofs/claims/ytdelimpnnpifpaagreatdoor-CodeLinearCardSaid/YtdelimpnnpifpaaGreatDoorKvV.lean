import Derived.Test.YtdelimpnnpifpaaGreatDoorKvU
set_option linter.all false
namespace Go.Kv
open Go Go.RowKit
inductive Tr (σ ρ:Type):Type 1 where
 | ret (r:ρ)
 | nxt (s:σ)
 | br (b:Bool) (x y:Tr σ ρ)
 | ask (p:PC) (x:Tr σ ρ)
 | sees (as:List AV) (x:Tr σ ρ)
 | triv (p:PC) (h:p.holds) (x:Tr σ ρ)
 | bind {α:Type} (o:Option α) (k:α→Tr σ ρ)
 | stuck
section
variable {σ ρ:Type}
open Classical in
noncomputable def jc1 {α:Type} (p:Prop) (x:Option α):Option α:=if p then x else none
theorem jd {α:Type} (x:Option α):jc1 True x=x:=if_pos trivial
theorem jm {α:Type} {p:Prop} (h:p) (x:Option α):jc1 p x=x:=if_pos h
theorem zq {α:Type} {p:Prop} {x:Option α} {v:α} (h:jc1 p x=some v):p∧x=some v:=by
 unfold jc1 at h
 split at h
 ·rename_i hp; exact ⟨hp,h⟩
 ·simp at h
noncomputable def Tr.sem:Tr σ ρ→Option (σ ⊕ ρ)
 | .ret r=>some (.inr r)
 | .nxt s=>some (.inl s)
 | .br b x y=>if b=true then x.sem else y.sem
 | .ask p x=>jc1 p.holds x.sem
 | .sees _ x=>x.sem
 | .triv _ _ x=>x.sem
 | .bind o k=>match o with
  | some v=>(k v).sem
  | none=>none
 | .stuck=>none
theorem jp (r:ρ):(Tr.ret r:Tr σ ρ).sem=some (.inr r):=rfl
theorem jk (s:σ):(Tr.nxt s:Tr σ ρ).sem=some (.inl s):=rfl
theorem jj (b:Bool) (x y:Tr σ ρ):(Tr.br b x y).sem=if b=true then x.sem else y.sem:=rfl
theorem jg (p:PC) (x:Tr σ ρ):(Tr.ask p x).sem=jc1 p.holds x.sem:=rfl
theorem jq (as:List AV) (x:Tr σ ρ):(Tr.sees as x).sem=x.sem:=rfl
theorem Jr (p:PC) (h:p.holds) (x:Tr σ ρ):(Tr.triv p h x).sem=x.sem:=rfl
theorem Z7 {α:Type} (o:Option α) (k:α→Tr σ ρ):(Tr.bind o k).sem=match o with
  | some v=>(k v).sem
  | none=>none:=by cases o <;> rfl
theorem jc {α:Type} (v:α) (k:α→Tr σ ρ):(Tr.bind (some v) k).sem=(k v).sem:=rfl
def Tr.mach (st:σ→ASt) (out:ρ→AV):Tr σ ρ→Tr ASt AV
 | .ret r=>.ret (out r)
 | .nxt s=>.nxt (st s)
 | .br b x y=>.br b (x.mach st out) (y.mach st out)
 | .ask p x=>.ask p (x.mach st out)
 | .sees as x=>.ask (.eqA as as) (x.mach st out)
 | .triv p _ x=>.ask p (x.mach st out)
 | .bind o k=>.bind o fun v=>(k v).mach st out
 | .stuck=>.stuck
def jxN (st:σ→ASt) (out:ρ→AV):σ ⊕ ρ→ASt ⊕ AV
 | .inl s=>.inl (st s)
 | .inr r=>.inr (out r)
theorem Kf (st:σ→ASt) (out:ρ→AV):∀ {t:Tr σ ρ} {o:σ ⊕ ρ},t.sem=some o→(t.mach st out).sem=some (jxN st out o)
 | .ret r,o,h=>by simp only [jp,Option.some.injEq] at h; subst h; rfl
 | .nxt s,o,h=>by simp only [jk,Option.some.injEq] at h; subst h; rfl
 | .br b x y,o,h=>by
  rw [jj] at h
  simp only [Tr.mach,jj]
  split at h
  ·rename_i hb; rw [if_pos hb]; exact Kf st out h
  ·rename_i hb; rw [if_neg hb]; exact Kf st out h
 | .ask p x,o,h=>by
  rw [jg] at h
  obtain ⟨hb,h⟩:=zq h
  simp only [Tr.mach,jg]
  rw [jm hb]; exact Kf st out h
 | .sees as x,o,h=>by
  rw [jq] at h
  simp only [Tr.mach,jg]
  rw [jm (show PC.holds (.eqA as as) from rfl)]
  exact Kf st out h
 | .triv p hp x,o,h=>by
  rw [Jr] at h
  simp only [Tr.mach,jg]
  rw [jm hp]
  exact Kf st out h
 | .bind o' k,o,h=>by
  rw [Z7] at h
  simp only [Tr.mach,Z7]
  split at h
  ·exact Kf st out h
  ·simp at h
 | .stuck,o,h=>by simp [Tr.sem] at h
inductive Runs (B:σ→Tr σ ρ):σ→ρ→Prop where
 | ret {s:σ} {r:ρ}:(B s).sem=some (.inr r)→Runs B s r
 | nxt {s s':σ} {r:ρ}:(B s).sem=some (.inl s')→Runs B s' r→Runs B s r
theorem Runs.det {B:σ→Tr σ ρ} {s:σ} {r r':ρ} (h:Runs B s r):Runs B s r'→r=r':=by
 induction h with
 | ret h =>
  intro k
  cases k with
  | ret k=>rw [h] at k; simpa using k
  | nxt k _=>rw [h] at k; simp at k
 | nxt h _ ih =>
  intro k
  cases k with
  | ret k=>rw [h] at k; simp at k
  | nxt k k' =>
   rw [h] at k
   simp at k
   subst k
   exact ih k'
open Classical in
noncomputable def res (B:σ→Tr σ ρ) (s:σ):Option ρ:=if h:∃ r,Runs B s r then some h.choose else none
theorem yY {B:σ→Tr σ ρ} {s:σ} {r:ρ} (h:res B s=some r):Runs B s r:=by
 unfold res at h
 split at h
 ·rename_i hr
  simp at h
  rw [← h]
  exact hr.choose_spec
 ·simp at h
theorem Qs {B:σ→Tr σ ρ} {s:σ} {r:ρ} (h:Runs B s r):res B s=some r:=by
 unfold res
 have hex:∃ r,Runs B s r:=⟨r,h⟩
 rw [dif_pos hex]
 congr 1
 exact (hex.choose_spec).det h
theorem jmg {B:σ→Tr σ ρ} {s:σ} {r:ρ} (h:(B s).sem=some (.inr r)):res B s=some r:=Qs (.ret h)
theorem jmO {B:σ→Tr σ ρ} {s s':σ} (h:(B s).sem=some (.inl s')):res B s=res B s':=by
 cases hr:res B s' with
 | some r=>exact Qs (.nxt h (yY hr))
 | none =>
  unfold res
  rw [dif_neg]
  rintro ⟨r,hr'⟩
  cases hr' with
  | ret k=>rw [h] at k; simp at k
  | nxt k k' =>
   rw [h] at k
   simp at k
   subst k
   rw [Qs k'] at hr
   simp at hr
def je4 {σ ρ:Type} (f:σ→Option ρ):Option (σ ⊕ ρ)→Option ρ
 | some (.inr r)=>some r
 | some (.inl s')=>f s'
 | none=>none
theorem ji (f:σ→Option ρ) (r:ρ):je4 f (some (.inr r))=some r:=rfl
theorem jb (f:σ→Option ρ) (s:σ):je4 f (some (.inl s))=f s:=rfl
theorem jf (B:σ→Tr σ ρ) (s:σ):res B s=je4 (res B) (B s).sem:=by
 cases h:(B s).sem with
 | none =>
  unfold res je4
  rw [dif_neg]
  rintro ⟨r,hr⟩
  cases hr with
  | ret k=>rw [h] at k; simp at k
  | nxt k _=>rw [h] at k; simp at k
 | some o=>cases o with
  | inl s'=>exact jmO h
  | inr r=>exact jmg h
end
inductive DT (cf:Cfg):Type 1 where
 | go (n:Nat) (ds:List Dec) (drop:List Nat) (d:DT cf)
 | dead
 | br (b:Bool) (d1 d2:DT cf)
 | split (t:Nat) (d1 d2:DT cf)
 | bind {α:Type} {o:Option α} {g:Nat} {args:List AV} {out:α→AV} (h:∀ v,o=some v→PureCalls cf.P cf.glob g args (out v)) (d:α→DT cf)
 | bindF {α:Type} {o:Option α} {g:Nat} {args:List AV} {out:α→AV} {st:Bool} (h:∀ v,o=some v→KF cf.P cf.glob g args (out v) st) (d:α→DT cf)
 | assume (t:Nat) (r:Bool) (d:DT cf)
 | strip (t:Nat) (d:DT cf)
 | frz (t:Nat) (d:DT cf)
 | ren (i j:Nat) (df:List Nat) (keep:List (List Nat)) (gone:List Nat) (d:DT cf)
 | cut (k:Nat) (keep:List (List Nat)) (gone:List Nat)
 | cutP (k:Nat) (df:List Nat) (keep:List (List Nat)) (gone:List Nat)
 | fin
 | finP
 | finF (sz:Nat) (st:Bool) (p:List Nat)
def jcK {σ ρ:Type}:List PC→Tr σ ρ→Tr σ ρ
 | [],x=>x
 | p :: ps,x=>.ask p (jcK ps x)
def jfl:Nat→List Nat→List PC→Option (List PC)
 | _,_,[]=>some []
 | i,dr,p :: ps=>match jfl (i+1) dr ps with
  | some qs=>if dr.contains i then (match p.check with
    | true=>some qs
    | false=>none) else some (p :: qs)
  | none=>none
theorem gw:∀ {ps qs:List PC} {i:Nat} {dr:List Nat},jfl i dr ps=some qs→AllP qs→AllP ps
 | [],_,_,_,_,_=>trivial
 | p :: ps,qs,i,dr,h,hq=>by
  simp only [jfl] at h
  split at h
  ·rename_i qs' hqs
   split at h
   ·split at h
    ·rename_i hc
     simp only [Option.some.injEq] at h; subst h
     exact ⟨PC.check_ok hc,gw hqs hq⟩
    ·simp at h
   ·simp only [Option.some.injEq] at h; subst h
    exact ⟨hq.1,gw hqs hq.2⟩
  ·simp at h
def Qj:List Nat→List ABlk→List ABlk
 | [],H=>H
 | b :: bs,H=>match H[b]? with
  | some (.cells _ _)=>Qj bs (H.set b .dead)
  | _=>Qj bs H
def ASt.setB (s:ASt) (t:Nat) (b:Bool):ASt:={ s with fr:={ s.fr with tmps:=s.fr.tmps.set t (.d (.v (.bool b))) } }
def jd6:Nat→Nat→List Nat→List Nat
 | 0,_,_=>[]
 | n+1,i,kp=>if kp.contains i then jd6 n (i+1) kp else i :: jd6 n (i+1) kp
def AFrame.hold (f:AFrame) (kp:List Nat):AFrame:={ f with tmps:=zF (jd6 f.tmps.length 0 kp) f.tmps }
def kX:List (List Nat)→List AFrame→List AFrame
 | kp :: kps,f :: fs=>f.hold kp :: kX kps fs
 | _,fs=>fs
def jeY (k:Nat) (kps:List (List Nat)) (gn:List Nat) (s:ASt):Option ASt :=
 match kps with
 | kp :: kps=>jgY k [] ⟨s.fr.hold kp,kX kps s.cs,Qj gn s.H⟩
 | []=>none
mutual
def JJ:AV→AV
 | .d (.v (.slice none 0 0))=>.d (.sl 0 [])
 | .em=>.d (.sl 0 [])
 | .agg cs=>.agg (yf cs)
 | .tup cs=>.tup (yf cs)
 | a=>a
def yf:List AV→List AV
 | []=>[]
 | a :: as=>JJ a :: yf as
end
section
variable {c:Ctx} {w:World}
mutual
theorem jcc:∀ {a:AV} {u:Value},Rel c w a u→Rel c w (JJ a) u
 | .d (.v x),u,h=>by
  by_cases hx:x=.slice none 0 0
  ·subst hx
   unfold Rel RelD at h
   obtain ⟨rfl,_⟩:=h
   simp only [JJ]
   unfold Rel RelD
   exact ⟨0,0,0,[],.inr ⟨⟨_,rfl⟩,rfl,rfl,rfl⟩,Nat.zero_le _,Nat.le_refl _,by intro i u hu; simp at hu,RelDs.nil⟩
  ·have:JJ (.d (.v x))=.d (.v x):=by
    unfold JJ
    split
    ·rename_i heq; simp at heq; exact absurd heq hx
    ·rename_i heq; simp at heq
    ·rename_i heq; simp at heq
    ·rename_i heq; simp at heq
    ·rfl
   rw [this]; exact h
 | .agg cs,u,h=>by
  simp only [JJ]
  unfold Rel at h ⊢
  obtain ⟨us,rfl,hs⟩:=h
  exact ⟨us,rfl,yc hs⟩
 | .tup cs,u,h=>by
  simp only [JJ]
  unfold Rel at h ⊢
  obtain ⟨us,rfl,hs⟩:=h
  exact ⟨us,rfl,yc hs⟩
 | .d (.sl ..),u,h=>by simpa [JJ] using h
 | .ptr ..,u,h=>by simpa [JJ] using h
 | .ip ..,u,h=>by simpa [JJ] using h
 | .own ..,u,h=>by simpa [JJ] using h
 | .ms ..,u,h=>by simpa [JJ] using h
 | .fn ..,u,h=>by simpa [JJ] using h
 | .yl ..,u,h=>by simpa [JJ] using h
 | .mp ..,u,h=>by simpa [JJ] using h
 | .gx ..,u,h=>by simpa [JJ] using h
 | .em,u,h=>by
  unfold Rel at h
  simp only [JJ]
  unfold Rel RelD
  exact ⟨0,0,0,[],.inr ⟨h,rfl,rfl,rfl⟩,Nat.zero_le _,Nat.le_refl _,by intro i u hu; simp at hu,RelDs.nil⟩
 | .opt ..,u,h=>by simpa [JJ] using h
 | .nan _,u,h=>by simpa [JJ] using h
 | .any,u,h=>by simpa [JJ] using h
theorem yc:∀ {as:List AV} {us:List Value},Rels c w as us→Rels c w (yf as) us
 | [],us,h=>by simpa [yf] using h
 | a :: as,us,h=>by
  obtain ⟨u,r,rfl,hu,t⟩:=h.cons_inv
  simp only [yf]
  exact Rels.cons (jcc hu) (yc t)
end
end
theorem PureCalls.weak {P:Program} {glob:Nat→Option (List DV)} {f:FuncId} {args:List AV} {r:AV} (h:PureCalls P glob f args r):PureCalls P glob f args (JJ r):=by
 intro w φ us h1 h2 h3
 refine (h w φ us h1 h2 h3).mono ?_
 rintro e w' ⟨u,φ',e1,e2,e3,e4,e5⟩
 exact ⟨u,φ',e1,e2,e3,e4,jcc e5⟩
def jon (cf:Cfg) (f:FuncId) (s:ASt):Option (AV × List PC) :=
 if s.fr.ret&&s.fr.defers.isEmpty&&s.cs.isEmpty&&s.fr.fn==f then
  match cf.P.funcs[f]? with
  | some fn=>match Q4 cf fn (fun b=>(s.H[b]?).getD .gone) s.fr.tmps with
   | some v=>Jn (fun b=>(s.H[b]?).getD .gone) v
   | none=>none
  | none=>none
 else none
theorem jmj {cf:Cfg} {f:FuncId} {s:ASt} {v:AV} {ps:List PC} (h:jon cf f s=some (v,ps)) (hp:AllP ps):Gq cf f s=some v:=by
 unfold jon at h
 unfold Gq
 split at h
 ·rename_i hc
  rw [if_pos hc]
  split at h
  ·rename_i fn hf
   simp only [hf]
   split at h
   ·rename_i v' hv
    simp only [hv]
    exact jco h hp
   ·simp at h
  ·simp at h
 ·simp at h
def jl4 (k:Nat) (df:List Nat):Nat→List ABlk→Option (List PC)
 | _,[]=>some []
 | i,b :: bs=>match jl4 k df (i+1) bs with
  | some ps=>if df.contains i then some (.prop (jK k b=true) :: ps) else match jK k b with
   | true=>some ps
   | false=>none
  | none=>none
theorem jbw {k:Nat} {df:List Nat}:∀ {H:List ABlk} {i:Nat} {ps:List PC},jl4 k df i H=some ps→AllP ps→H.all (jK k)=true
 | [],_,_,_,_=>rfl
 | b :: bs,i,ps,h,hp=>by
  simp only [jl4] at h
  split at h
  ·rename_i qs hq
   split at h
   ·simp only [Option.some.injEq] at h; subst h
    simp only [List.all_cons,Bool.and_eq_true]
    exact ⟨hp.1,jbw hq hp.2⟩
   ·split at h
    ·rename_i hb
     simp only [Option.some.injEq] at h; subst h
     simp only [List.all_cons,Bool.and_eq_true]
     exact ⟨hb,jbw hq hp⟩
    ·simp at h
  ·simp at h
def jjz (k:Nat) (df:List Nat) (kps:List (List Nat)) (gn:List Nat) (s:ASt):Option (ASt × List PC) :=
 match kps with
 | kp :: kps =>
  if yv k (s.fr.hold kp)&&(kX kps s.cs).all (yv k) then
   match jl4 k df 0 ((Qj gn s.H).take k) with
   | some ps=>some (⟨s.fr.hold kp,kX kps s.cs,(Qj gn s.H).take k⟩,ps)
   | none=>none
  else none
 | []=>none
theorem jh3 {k:Nat} {df:List Nat} {kps:List (List Nat)} {gn:List Nat} {s s':ASt} {ps:List PC} (h:jjz k df kps gn s=some (s',ps)) (hp:AllP ps):jeY k kps gn s=some s':=by
 unfold jjz at h
 split at h
 ·rename_i kp kps'
  split at h
  ·rename_i hc
   split at h
   ·rename_i qs hq
    simp only [Option.some.injEq,Prod.mk.injEq] at h
    obtain ⟨rfl,rfl⟩:=h
    have h3:=jbw hq hp
    simp only [Bool.and_eq_true] at hc
    show (if (yv k (s.fr.hold kp)&&(kX kps' s.cs).all (yv k)&&((Qj gn s.H).take k).all (jK k))=true then some (⟨s.fr.hold kp,kX kps' s.cs,(Qj gn s.H).take k⟩:ASt) else none)=_
    rw [hc.1,hc.2,h3]; rfl
   ·simp at h
  ·simp at h
 ·simp at h
def joP (t:Nat) (s:ASt):Option (ASt × List PC):=match s.fr.tmps[t]? with
 | some (.ms b off sz n _)=>match s.H[b]? with
  | some (.cells cs _)=>some ({ s with fr:={ s.fr with tmps:=s.fr.tmps.set t (.d (.sl n (((cs.drop off).take (n*sz)).map aD))) },H:=s.H.set b .dead },
    [.leN (off+n*sz) cs.length,.prop (toDs ((cs.drop off).take (n*sz))=some (((cs.drop off).take (n*sz)).map aD))])
  | _=>none
 | some (.own _ _ _ n xs)=>some ({ s with fr:={ s.fr with tmps:=s.fr.tmps.set t (.d (.sl n xs)) } },[])
 | _=>none
def jqk (i j:Nat) (df:List Nat) (kps:List (List Nat)) (gn:List Nat) (s:ASt):Option (ASt × List PC) :=
 match kps with
 | kp :: kps=>swS i j df ⟨s.fr.hold kp,kX kps s.cs,Qj gn s.H⟩
 | []=>none
def jC (cf:Cfg) (f:FuncId):DT cf→List Kn→ASt→Tr ASt AV
 | .go n ds dr d,K,s=>match Ym { cf with K:=K } n s ds with
  | some (s',[],ps)=>match jfl 0 dr ps with
   | some qs=>jcK qs (jC cf f d K s')
   | none=>.stuck
  | _=>.stuck
 | .dead,_,_=>.stuck
 | .br b d1 d2,K,s=>.br b (jC cf f d1 K s) (jC cf f d2 K s)
 | .split t d1 d2,K,s=>match s.fr.tmps[t]? with
  | some (.d (.v (.bool b)))=>.br b (jC cf f d1 K (s.setB t true)) (jC cf f d2 K (s.setB t false))
  | _=>.stuck
 | .bind (o:=o) (g:=g) (args:=args) (out:=out) _ d,K,s=>.bind o fun v=>jC cf f (d v) (K++[⟨g,args,out v,false,false⟩]) s
 | .bindF (o:=o) (g:=g) (args:=args) (out:=out) (st:=st) _ d,K,s=>.bind o fun v=>jC cf f (d v) (K++[⟨g,args,out v,true,st⟩]) s
 | .assume t r d,K,s=>match s.fr.tmps[t]? with
  | some (.d (.v (.bool b)))=>.ask (.eqB b r) (jC cf f d K (s.setB t r))
  | _=>.stuck
 | .strip t d,K,s=>match s.fr.tmps[t]? with
  | some (.opt g x)=>.ask (.eqB g true) (jC cf f d K { s with fr:={ s.fr with tmps:=s.fr.tmps.set t x } })
  | _=>.stuck
 | .frz t d,K,s=>match joP t s with
  | some (s',ps)=>jcK ps (jC cf f d K s')
  | none=>.stuck
 | .ren i j df kp gn d,K,s=>match jqk i j df kp gn s with
  | some (s',ps)=>jcK ps (jC cf f d K s')
  | none=>.stuck
 | .cut k kp gn,_,s=>match jeY k kp gn s with
  | some s'=>.nxt s'
  | none=>.stuck
 | .cutP k df kp gn,_,s=>match jjz k df kp gn s with
  | some (s',ps)=>jcK ps (.nxt s')
  | none=>.stuck
 | .fin,_,s=>match Gq cf f s with
  | some v=>.ret (JJ v)
  | none=>.stuck
 | .finP,_,s=>match jon cf f s with
  | some (v,ps)=>jcK ps (.ret (JJ v))
  | none=>.stuck
 | .finF ..,_,_=>.stuck
section
variable {cf:Cfg} {base:Nat} {w0:Start} {cs0:List Frame}
theorem jfC {K:List Kn} (h0:KnowOk cf.P cf.glob cf.K) (hK:KnowOk cf.P cf.glob K) {s s':ASt} (h:Reach { cf with K:=K } base w0 cs0 s s'):Reach cf base w0 cs0 s s':=by
 intro c w fr frs hs
 obtain ⟨h1,h2,h3,h4⟩:=hs
 obtain ⟨c',w',fr',frs',⟨k1,k2,k3,k4⟩,hst⟩:=h c w fr frs ⟨h1,h2,h3,h4.1,hK⟩
 exact ⟨c',w',fr',frs',⟨k1,k2,k3,k4.1,h0⟩,hst⟩
theorem WRel.letDie {c:Ctx} {w:World} {H:List ABlk} (h:WRel base w0 c w H) {b:Nat} {k0:ABlk} (hb:H[b]? = some k0) (hl:k0.isLive=true) (ht:k0.isTail=false):WRel base w0 c w (H.set b .dead):=by
 have hlt:b<H.length:=(List.getElem?_eq_some_iff.1 hb).1
 have hget:∀ (i:Nat) (k:ABlk),(H.set b .dead)[i]? = some k→(i=b∧k=.dead)∨(i≠b∧H[i]? = some k):=by
  intro i k hk
  by_cases hi:i=b
  ·subst hi; rw [List.getElem?_set_self hlt] at hk; simp at hk; exact .inl ⟨rfl,hk.symm⟩
  ·rw [List.getElem?_set_ne (Ne.symm hi)] at hk; exact .inr ⟨hi,hk⟩
 have hopt:∀ (f:ABlk→Bool),f .dead=f k0→∀ i:Nat,(((H.set b .dead)[i]?).map f).getD false=((H[i]?).map f).getD false:=by
  intro f hf i
  by_cases hi:i=b
  ·subst hi; rw [List.getElem?_set_self hlt,hb]; simp [hf]
  ·rw [List.getElem?_set_ne (Ne.symm hi)]
 refine ⟨h.below,h.le,?_,?_,?_,?_,h.hi,h.lo,?_⟩
 ·intro i k hk
  rcases hget i k hk with ⟨rfl,rfl⟩ | ⟨_,h1⟩
  ·trivial
  ·exact h.blk i k h1
 ·intro i; rw [h.live i,hopt ABlk.isLive (by rw [hl]; rfl)]
 ·intro i; rw [h.tl i,hopt ABlk.isTail (by rw [ht]; rfl)]
 ·intro i j k k' hk hk' ho ho' he
  rcases hget i k hk with ⟨rfl,rfl⟩ | ⟨_,h1⟩
  ·simp [ABlk.owns] at ho
  ·rcases hget j k' hk' with ⟨rfl,rfl⟩ | ⟨_,h2⟩
   ·simp [ABlk.owns] at ho'
   ·exact h.inj i j k k' h1 h2 ho ho' he
 ·intro i k hk id hid
  rcases hget i k hk with ⟨rfl,rfl⟩ | ⟨_,h1⟩
  ·simp [jO] at hid
  ·refine (h.row i k h1 id hid).of rfl (Nat.le_refl _) ?_ ?_
   ·intro j k' hk' ho'
    rcases hget j k' hk' with ⟨rfl,rfl⟩ | ⟨_,h2⟩
    ·simp [ABlk.owns] at ho'
    ·exact .inr ⟨j,k',h2,ho',rfl⟩
   ·intro j k' hk' hn
    rcases hget j k' hk' with ⟨rfl,rfl⟩ | ⟨_,h2⟩
    ·simp [jO] at hn
    ·exact ⟨fun _ _=>rfl,k',h2,rfl⟩
theorem WRel.bury {c:Ctx} {w:World}:∀ {gn:List Nat} {H:List ABlk},WRel base w0 c w H→WRel base w0 c w (Qj gn H)
 | [],_,h=>h
 | b :: bs,H,h=>by
  simp only [Qj]
  split
  ·rename_i cs t hb
   exact WRel.bury (gn:=bs) (h.letDie hb rfl rfl)
  ·exact WRel.bury h
theorem FRel.hold {c:Ctx} {w:World} {f:AFrame} {fr:Frame} (h:FRel c w f fr) (kp:List Nat):FRel c w (f.hold kp) fr :=
 ⟨h.fn,YI h.tmps,h.todo,h.defers,h.mode,h.kind,h.ro⟩
theorem yH:∀ {ks:List Nat} {ts:List AV},(zF ks ts).length=ts.length
 | [],_=>rfl
 | k :: ks,ts=>by simp only [zF]; rw [yH]; simp
theorem jbX:∀ {ks:List Nat} {ts:List AV} (t:Nat),(zF ks ts)[t]? = ts[t]? ∨ (zF ks ts)[t]? = some AV.any
 | [],_,_=>.inl rfl
 | k :: ks,ts,t=>by
  simp only [zF]
  rcases jbX (ks:=ks) (ts:=ts.set k .any) t with h | h
  ·rw [h,List.getElem?_set]
   split
   ·split
    ·exact .inr rfl
    ·rename_i h1 h2
     left
     rw [List.getElem?_eq_none (by omega)]
   ·exact .inl rfl
  ·exact .inr h
theorem FRelC.hold {c:Ctx} {w:World} {f:AFrame} {fr:Frame} (h:FRelC c w f fr) (kp:List Nat):FRelC c w (f.hold kp) fr:=by
 obtain ⟨d,h⟩:=h
 refine ⟨d,?_⟩
 unfold KP at h ⊢
 split at h
 ·rename_i ops i us kk ht
  have ht':(f.hold kp).todo=.regL ops i us :: kk:=ht
  split
  ·rename_i ops' i' us' kk' ht2
   rw [ht'] at ht2
   simp only [List.cons.injEq,AItem.regL.injEq] at ht2
   obtain ⟨⟨rfl,rfl,rfl⟩,rfl⟩:=ht2
   exact ⟨h.fn,Rels.weak h.tmps (by rw [ky,ky]; exact yH) (Gd yH (jbX ·)),h.todo,h.defers,h.mode,h.kind,h.ro⟩
  ·rename_i hn
   exact absurd ht' (hn _ _ _ _)
 ·rename_i hn
  split
  ·rename_i ops' i' us' kk' ht2
   exact absurd ht2 (hn _ _ _ _)
  ·exact h.hold kp
theorem FRels.hold {c:Ctx} {w:World}:∀ {fs:List AFrame} {frs:List Frame} (kps:List (List Nat)),FRels c w fs frs→FRels c w (kX kps fs) frs
 | [],_,kps,h=>by cases kps <;> exact h
 | f :: fs,_,[],h=>h
 | f :: fs,_,kp :: kps,h=>by
  obtain ⟨y,ys,rfl,h1,h2⟩:=h
  exact ⟨y,ys,rfl,FRelC.hold h1 kp,FRels.hold kps h2⟩
theorem jdE {k:Nat} {kps:List (List Nat)} {gn:List Nat} {s s':ASt} (h:jeY k kps gn s=some s'):Reach cf base w0 cs0 s s':=by
 unfold jeY at h
 split at h
 ·rename_i kp kps
  have h0:Reach cf base w0 cs0 s ⟨s.fr.hold kp,kX kps s.cs,Qj gn s.H⟩:=by
   intro c w fr frs hs
   obtain ⟨a1,a2,a3,a4⟩:=hs
   exact ⟨c,w,fr,frs,⟨a1.hold kp,a2.hold kps,a3.bury,a4⟩,Steps.refl _ _⟩
  exact Reach.trans h0 (jh0 h)
 ·simp at h
theorem jmn {i j:Nat} {df:List Nat} {kps:List (List Nat)} {gn:List Nat} {s s':ASt} {ps:List PC} (h:jqk i j df kps gn s=some (s',ps)) (hp:AllP ps):Reach cf base w0 cs0 s s':=by
 unfold jqk at h
 split at h
 ·rename_i kp kps
  have h0:Reach cf base w0 cs0 s ⟨s.fr.hold kp,kX kps s.cs,Qj gn s.H⟩:=by
   intro c w fr frs hs
   obtain ⟨a1,a2,a3,a4⟩:=hs
   exact ⟨c,w,fr,frs,⟨a1.hold kp,a2.hold kps,a3.bury,a4⟩,Steps.refl _ _⟩
  exact Reach.trans h0 (jpX h hp)
 ·simp at h
theorem KnowOk.snoc {P:Program} {glob:Nat→Option (List DV)} {K:List Kn} (h:KnowOk P glob K) {kn:Kn} (hk:KnOk P glob kn):KnowOk P glob (K++[kn]):=by
 refine ⟨h.1,?_⟩
 intro j k hj
 by_cases hlt:j<K.length
 ·rw [List.getElem?_append_left hlt] at hj; exact h.2 j k hj
 ·rw [List.getElem?_append_right (by omega)] at hj
  have:=List.mem_of_getElem? hj
  simp at this
  subst this
  exact hk
theorem qD {σ ρ:Type} {o:σ ⊕ ρ} {x:Tr σ ρ}:∀ {ps:List PC},(jcK ps x).sem=some o→AllP ps∧x.sem=some o
 | [],h=>⟨trivial,h⟩
 | p :: ps,h=>by
  simp only [jcK,jg] at h
  obtain ⟨hp,h⟩:=zq h
  obtain ⟨h1,h2⟩:=qD h
  exact ⟨⟨hp,h1⟩,h2⟩
theorem Zk {s:ASt} {t:Nat} {b:Bool} (h:s.fr.tmps[t]? = some (.d (.v (.bool b)))):Reach cf base w0 cs0 s (s.setB t b):=by
 have:s.setB t b=s:=by
  unfold ASt.setB
  rw [J1 h]
 rw [this]
 exact Reach.refl _ _ _ _ _
theorem jbW {s:ASt} {t:Nat} {g:Bool} {x:AV} (h:s.fr.tmps[t]? = some (.opt g x)) (hg:g=true):Reach cf base w0 cs0 s { s with fr:={ s.fr with tmps:=s.fr.tmps.set t x } }:=by
 intro c w fr frs hs
 obtain ⟨hfr,hfrs,hm,hgl⟩:=hs
 obtain ⟨u,hu,hr⟩:=hfr.tmps.get t _ h
 unfold Rel at hr
 have h2:=hfr.tmps.set t (hr hg)
 rw [J1 hu] at h2
 exact ⟨c,w,fr,frs,⟨⟨hfr.fn,h2,hfr.todo,hfr.defers,hfr.mode,hfr.kind,hfr.ro⟩,hfrs,hm,hgl⟩,Steps.refl _ _⟩
theorem WRel.freeze {c:Ctx} {w:World} {H:List ABlk} (h:WRel base w0 c w H) {b:Nat} {cs:List AV} {t:TypeId} (h0:H[b]? = some (.cells cs t)) {k:Nat} (hk:k=((w.heap[c.ρ b]?).elim 0 fun | .cells a _ _=>a.size | _=>0)) :
  Ctx.Le c w { c with φ:=Ju c.φ (c.ρ b) k } w∧WRel base w0 { c with φ:=Ju c.φ (c.ρ b) k } w (H.set b .dead):=by
 obtain ⟨hbase,hφ0,us,rest,hg,hs⟩:=h.blk b _ h0
 have hlt:c.ρ b<w.heap.size:=(Array.getElem?_eq_some_iff.1 hg).1
 have hle:Ctx.Le c w { c with φ:=Ju c.φ (c.ρ b) k } w:=by
  refine ⟨fun _ h=>h,fun _ _=>rfl,?_,fun _ h=>h,fun _ _=>Nat.le_refl _,?_,fun _ _ _=>rfl,fun _ _ h=>h,fun _ _=>⟨Nat.le_refl _,fun _ _=>rfl⟩⟩
  ·intro i
   by_cases hi:i=c.ρ b
   ·subst hi; rw [hφ0]; exact Nat.zero_le _
   ·simp [jt _ _ hi]
  ·intro x hx _ _
   refine ⟨rfl,?_⟩
   have hne:c.τ x≠c.ρ b:=by
    intro he
    have ht:=h.tl x
    rw [hx] at ht
    cases hxk:H[x]? with
    | none=>rw [hxk] at ht; simp at ht
    | some kx =>
     rw [hxk] at ht
     cases kx with
     | tail e =>
      have:=h.inj x b _ _ hxk h0 rfl rfl he
      subst this
      rw [hxk] at h0
      simp at h0
     | grid e p rs =>
      have:=h.inj x b _ _ hxk h0 rfl rfl he
      subst this
      rw [hxk] at h0
      simp at h0
     | _=>simp [ABlk.isTail] at ht
   simp [jt _ _ hne]
 refine ⟨hle,h.upd hle b (c.ρ b) (.cells cs t) .dead h0 (.inr ⟨rfl,rfl⟩) rfl rfl ⟨rfl,Nat.le_refl _⟩ (Nat.le_refl _) (fun _ _ _=>rfl) (fun i hi=>by simp [jt _ _ hi]) ?_ (fun _ _=>⟨rfl,rfl,rfl,rfl⟩) ?_ ?_ trivial (fun ho=>by simp [ABlk.owns] at ho)⟩
 ·intro i hi
  have hne:i≠c.ρ b:=by omega
  simp only [jt _ _ hne]
  exact h.hi i hi
 ·show c.live b=_
  rw [h.live b,Jc h0]; rfl
 ·show c.tl b=_
  rw [h.tl b,h0]; rfl
theorem jfY {t:Nat} {s s':ASt} {ps:List PC} (h:joP t s=some (s',ps)) (hp:AllP ps):Reach cf base w0 cs0 s s':=by
 unfold joP at h
 split at h
 ·rename_i b off sz n cap ht
  split at h
  ·rename_i cs ty hb
   simp only [Option.some.injEq,Prod.mk.injEq] at h
   obtain ⟨rfl,rfl⟩:=h
   obtain ⟨p1,p2,_⟩:=hp
   have p1:off+n*sz≤cs.length:=p1
   have p2:toDs ((cs.drop off).take (n*sz))=some (((cs.drop off).take (n*sz)).map aD):=p2
   intro c w fr frs hs
   obtain ⟨hfr,hfrs,hm,hgl⟩:=hs
   obtain ⟨hbase,hφ0,us,rest,hg,hcs⟩:=hm.blk b _ hb
   obtain ⟨f1,f2⟩:=hm.freeze hb (k:=(us++rest).toArray.size) (by rw [hg]; rfl)
   obtain ⟨u,hu,hr⟩:=hfr.tmps.get t _ ht
   unfold Rel at hr
   obtain ⟨hl,hcap,cr,hcr,rfl⟩:=hr
   have hlen:=hcs.length
   have hd:=((hcs.drop off).take (n*sz)).toDs p2
   have hnew:Rel { c with φ:=Ju c.φ (c.ρ b) (us++rest).toArray.size } w (.d (.sl n (((cs.drop off).take (n*sz)).map aD))) (.slice (some ⟨c.ρ b,off,none⟩) n cr):=by
    unfold Rel RelD
    refine ⟨c.ρ b,off,cr,(us.drop off).take (n*sz),.inl rfl,?_,Nat.le_trans hcap hcr.le,jN (JL hg),RelDs.mono f1 hd⟩
    simp; omega
   have hfr':=FRel.mono f1 hfr
   have h2:=hfr'.tmps.set t hnew
   rw [J1 hu] at h2
   exact ⟨_,w,fr,frs,⟨⟨hfr'.fn,h2,hfr'.todo,hfr'.defers,hfr'.mode,hfr'.kind,hfr'.ro⟩,FRels.mono f1 hfrs,f2,GK.mono f1 hgl⟩,Steps.refl _ _⟩
  ·simp at h
 ·rename_i b e sz n xs ht
  simp only [Option.some.injEq,Prod.mk.injEq] at h
  obtain ⟨rfl,rfl⟩:=h
  intro c w fr frs hs
  obtain ⟨hfr,hfrs,hm,hgl⟩:=hs
  obtain ⟨u,hu,hr⟩:=hfr.tmps.get t _ ht
  have hnew:Rel c w (.d (.sl n xs)) u:=by
   unfold Rel
   exact hr.toD rfl
  have h2:=hfr.tmps.set t hnew
  rw [J1 hu] at h2
  exact ⟨c,w,fr,frs,⟨⟨hfr.fn,h2,hfr.todo,hfr.defers,hfr.mode,hfr.kind,hfr.ro⟩,hfrs,hm,hgl⟩,Steps.refl _ _⟩
 ·simp at h
def FinW (cf:Cfg) (f:FuncId) (s:ASt) (r:AV):Prop:=∃ v,Fin cf f s v∧JJ v=r
theorem FinW.step {f:FuncId} {s s':ASt} {r:AV} (hr:∀ base w0 cs0,Reach cf base w0 cs0 s s') (h:FinW cf f s' r):FinW cf f s r:=by
 obtain ⟨v,h1,h2⟩:=h
 exact ⟨v,Fin.step hr h1,h2⟩
def Ends (cf:Cfg) (f:FuncId) (s:ASt):ASt ⊕ AV→Prop
 | .inl s'=>∀ base w0 cs0,Reach cf base w0 cs0 s s'
 | .inr r=>FinW cf f s r
theorem Ends.step {f:FuncId} {s s':ASt} (hr:∀ base w0 cs0,Reach cf base w0 cs0 s s'):∀ {o:ASt ⊕ AV},Ends cf f s' o→Ends cf f s o
 | .inl _,h=>fun base w0 cs0=>Reach.trans (hr base w0 cs0) (h base w0 cs0)
 | .inr _,h=>FinW.step hr h
theorem J7 (h0:KnowOk cf.P cf.glob cf.K) {f:FuncId}:∀ {d:DT cf} {K:List Kn} {s:ASt} {o:ASt ⊕ AV},KnowOk cf.P cf.glob K→(jC cf f d K s).sem=some o→Ends cf f s o
 | .go n ds dr d,K,s,o,hK,h=>by
  simp only [jC] at h
  split at h
  ·rename_i s' ps ha
   split at h
   ·rename_i qs hq
    obtain ⟨hp,h2⟩:=qD h
    exact Ends.step (fun base w0 cs0=>jfC h0 hK (jbb ha (gw hq hp))) (J7 h0 hK h2)
   ·simp [Tr.sem] at h
  ·simp [Tr.sem] at h
 | .dead,K,s,o,hK,h=>by simp [jC,Tr.sem] at h
 | .br b d1 d2,K,s,o,hK,h=>by
  simp only [jC,jj] at h
  split at h
  ·exact J7 h0 hK h
  ·exact J7 h0 hK h
 | .split t d1 d2,K,s,o,hK,h=>by
  simp only [jC] at h
  split at h
  ·rename_i b hb
   rw [jj] at h
   split at h
   ·rename_i hbt
    subst hbt
    exact Ends.step (fun base w0 cs0=>Zk hb) (J7 h0 hK h)
   ·rename_i hbt
    have:b=false:=by simpa using hbt
    subst this
    exact Ends.step (fun base w0 cs0=>Zk hb) (J7 h0 hK h)
  ·simp [Tr.sem] at h
 | .bind (o:=o') (g:=g) (args:=args) (out:=out) hc d,K,s,o,hK,h=>by
  simp only [jC,Z7] at h
  split at h
  ·rename_i v
   exact J7 h0 (hK.snoc (kn:=⟨g,args,out v,false,false⟩) (by unfold KnOk; rw [if_neg (by simp)]; exact hc v rfl)) h
  ·simp at h
 | .bindF (o:=o') (g:=g) (args:=args) (out:=out) hc d,K,s,o,hK,h=>by
  simp only [jC,Z7] at h
  split at h
  ·rename_i v
   exact J7 h0 (hK.snoc (kn:=⟨g,args,out v,true,_⟩) (by unfold KnOk; rw [if_pos rfl]; exact hc v rfl)) h
  ·simp at h
 | .finF ..,K,s,o,hK,h=>by simp [jC,Tr.sem] at h
 | .assume t r d,K,s,o,hK,h=>by
  simp only [jC] at h
  split at h
  ·rename_i b hb
   rw [jg] at h
   obtain ⟨hbt,h⟩:=zq h
   have hbt:b=r:=hbt
   subst hbt
   exact Ends.step (fun base w0 cs0=>Zk hb) (J7 h0 hK h)
  ·simp [Tr.sem] at h
 | .strip t d,K,s,o,hK,h=>by
  simp only [jC] at h
  split at h
  ·rename_i g x hb
   rw [jg] at h
   obtain ⟨hbt,h⟩:=zq h
   have hbt:g=true:=hbt
   exact Ends.step (fun base w0 cs0=>jbW hb hbt) (J7 h0 hK h)
  ·simp [Tr.sem] at h
 | .frz t d,K,s,o,hK,h=>by
  simp only [jC] at h
  split at h
  ·rename_i s' ps hz
   obtain ⟨hp,h2⟩:=qD h
   exact Ends.step (fun base w0 cs0=>jfY hz hp) (J7 h0 hK h2)
  ·simp [Tr.sem] at h
 | .ren i j df kp gn d,K,s,o,hK,h=>by
  simp only [jC] at h
  split at h
  ·rename_i s' ps hz
   obtain ⟨hp,h2⟩:=qD h
   exact Ends.step (fun base w0 cs0=>jmn hz hp) (J7 h0 hK h2)
  ·simp [Tr.sem] at h
 | .cut k kp gn,K,s,o,hK,h=>by
  simp only [jC] at h
  split at h
  ·rename_i s' ht
   simp only [jk,Option.some.injEq] at h
   subst h
   exact fun base w0 cs0=>jdE ht
  ·simp [Tr.sem] at h
 | .cutP k df kp gn,K,s,o,hK,h=>by
  simp only [jC] at h
  split at h
  ·rename_i s' ps ht
   obtain ⟨hp,h2⟩:=qD h
   simp only [jk,Option.some.injEq] at h2
   subst h2
   exact fun base w0 cs0=>jdE (jh3 ht hp)
  ·simp [Tr.sem] at h
 | .finP,K,s,o,hK,h=>by
  simp only [jC] at h
  split at h
  ·rename_i v ps hv
   obtain ⟨hp,h2⟩:=qD h
   simp only [jp,Option.some.injEq] at h2
   subst h2
   exact ⟨v,⟨s,fun _ _ _=>Reach.refl _ _ _ _ _,jmj hv hp⟩,rfl⟩
  ·simp [Tr.sem] at h
 | .fin,K,s,o,hK,h=>by
  simp only [jC] at h
  split at h
  ·rename_i v hv
   simp only [jp,Option.some.injEq] at h
   subst h
   exact ⟨v,⟨s,fun _ _ _=>Reach.refl _ _ _ _ _,hv⟩,rfl⟩
  ·simp [Tr.sem] at h
def EndsF (cf:Cfg) (f:FuncId) (st:Bool) (s:ASt):ASt ⊕ AV→Prop
 | .inl s'=>∀ base w0 cs0,Reach cf base w0 cs0 s s'
 | .inr r=>FinF cf f st s r
theorem EndsF.step {f:FuncId} {st:Bool} {s s':ASt} (hr:∀ base w0 cs0,Reach cf base w0 cs0 s s'):∀ {o:ASt ⊕ AV},EndsF cf f st s' o→EndsF cf f st s o
 | .inl _,h=>fun base w0 cs0=>Reach.trans (hr base w0 cs0) (h base w0 cs0)
 | .inr _,h=>FinF.step hr h
def ent (cf:Cfg) (f:FuncId) (args:List AV):ASt:=match ka cf.P f args with
 | some a=>⟨a,[],[]⟩
 | none=>⟨⟨0,[],[],[],false,none⟩,[],[]⟩
theorem jg9 (h0:KnowOk cf.P cf.glob cf.K) {σ ρ:Type} {f:FuncId} {B:σ→Tr σ ρ} {st:σ→ASt} {out:ρ→AV} (hB:∀ s,∃ d,jC cf f d [] (st s)=(B s).mach st out) {s:σ} {r:ρ} (h:Runs B s r):FinW cf f (st s) (out r):=by
 have hnil:KnowOk cf.P cf.glob []:=⟨h0.1,by intro j kn hj; simp at hj⟩
 induction h with
 | @ret s r h =>
  obtain ⟨d,hd⟩:=hB s
  have:=Kf st out h
  rw [← hd] at this
  exact J7 h0 hnil this
 | @nxt s s' r h _ ih =>
  obtain ⟨d,hd⟩:=hB s
  have:=Kf st out h
  rw [← hd] at this
  exact FinW.step (J7 h0 hnil this) ih
theorem jn (h0:KnowOk cf.P cf.glob cf.K) {σ ρ:Type} {f:FuncId} {B:σ→Tr σ ρ} {st:σ→ASt} {out:ρ→AV} (hB:∀ s,∃ d,jC cf f d [] (st s)=(B s).mach st out) {s:σ} {args:List AV}
  (hs:st s=ent cf f args) (he:(ka cf.P f args).isSome=true) (v:ρ) (h:res B s=some v):PureCalls cf.P cf.glob f args (out v):=by
 obtain ⟨x,h1,h2⟩:=jg9 h0 hB (yY h)
 rw [hs] at h1
 unfold ent at h1
 cases ha:ka cf.P f args with
 | none=>rw [ha] at he; simp at he
 | some a =>
  rw [ha] at h1
  rw [← h2]
  exact (Fin.pure h0 ha h1).weak
end
theorem jqN (c:Bool):PC.holds (.eqB (!c||(c==true)) true):=by cases c <;> rfl
theorem qc (c:Bool):PC.holds (.eqB (!!c||(c==false)) true):=by cases c <;> rfl
theorem JG (b:Bool):PC.holds (.eqB (!b||b) true):=by cases b <;> rfl
def sp:Nat→Nat→List (Nat × AV)→List AV
 | 0,_,_=>[]
 | n+1,i,[]=>.any :: sp n (i+1) []
 | n+1,i,(j,a) :: l=>if Nat.beq i j then a :: sp n (i+1) l else .any :: sp n (i+1) ((j,a) :: l)
abbrev vI (n:Int):DV:=.v (.int .i64 n)
abbrev aI (n:Int):AV:=.d (.v (.int .i64 n))
abbrev aB (b:Bool):AV:=.d (.v (.bool b))
end Go.Kv
