import Derived.Test.YtdelimpnnpifpaaGreatDoorKvV
set_option linter.all false
namespace Go.Kv
open Go Go.RowKit
inductive CT (cf:Cfg):Type 1 where
 | run (n:Nat) (ds:List Dec) (d:CT cf)
 | use {g:Nat} {args:List AV} {r:AV} (h:PureCalls cf.P cf.glob g args r) (d:CT cf)
 | fin
 | finE
def jic {β:Type} (x:ABlk) (k:ABlk→β):β:=match x with
 | .gone=>k .gone
 | .dead=>k .dead
 | .cells cs t=>jbQ cs fun cs=>k (.cells cs t)
 | .tail e=>k (.tail e)
 | .loop l=>k (.loop l)
 | .defd=>k .defd
 | .mp m=>k (.mp m)
 | .itr i=>k (.itr i)
 | .grid e p rs=>k (.grid e p rs)
theorem jiF {β:Type} (x:ABlk) (k:ABlk→β):jic x k=k x:=by
 cases x <;> first | rfl | simp only [jic,Qf]
def fSt {β:Type} (s:ASt) (k:ASt→β):β:=jbQ s.fr.tmps fun T=>zL jic s.H fun H=>k ⟨{ s.fr with tmps:=T },s.cs,H⟩
theorem jez {β:Type} (s:ASt) (k:ASt→β):fSt s k=k s:=by
 unfold fSt
 rw [Qf,QA jiF]
def jfd (cf:Cfg):Nat→ASt→List Dec→SR
 | 0,s,ds=>some (s,ds,[])
 | n+1,s,ds=>match gG cf s ds with
  | some (s',ds',ps)=>fSt s' fun s'=>match jfd cf n s' ds' with
   | some (s'',ds'',qs)=>some (s'',ds'',ps++qs)
   | none=>none
  | none=>none
theorem gh (cf:Cfg):∀ (n:Nat) (s:ASt) (ds:List Dec),jfd cf n s ds=Ym cf n s ds
 | 0,_,_=>rfl
 | n+1,s,ds=>by
  simp only [jfd,Ym,jez]
  cases gG cf s ds with
  | none=>rfl
  | some x =>
   obtain ⟨s',ds',ps⟩:=x
   simp only [gh cf n]
   cases Ym cf n s' ds' with
   | none=>rfl
   | some y=>rfl
def Ys (cf:Cfg) (f:FuncId):CT cf→List Kn→ASt→Option (AV × List PC)
 | .run n ds d,K,s=>match jfd { cf with K:=K } n s ds with
  | some (s',[],ps)=>match Ys cf f d K s' with
   | some (v,qs)=>some (v,G5 ps++qs)
   | none=>none
  | _=>none
 | .use (g:=g) (args:=args) (r:=r) _ d,K,s=>Ys cf f d (K++[⟨g,args,r,false,false⟩]) s
 | .fin,_,s=>match Gq cf f s with
  | some v=>some (JJ v,[])
  | none=>none
 | .finE,_,s=>match Gq cf f s with
  | some v=>some (v,[])
  | none=>none
section
variable {cf:Cfg}
def FinV (cf:Cfg) (f:FuncId) (s:ASt) (r:AV):Prop:=∃ v,Fin cf f s v∧(JJ v=r∨v=r)
theorem FinV.step {f:FuncId} {s s':ASt} {r:AV} (hr:∀ base w0 cs0,Reach cf base w0 cs0 s s') (h:FinV cf f s' r):FinV cf f s r:=by
 obtain ⟨v,h1,h2⟩:=h
 exact ⟨v,Fin.step hr h1,h2⟩
theorem jbv (h0:KnowOk cf.P cf.glob cf.K) {f:FuncId}:∀ {d:CT cf} {K:List Kn} {s:ASt} {v:AV} {ps:List PC},KnowOk cf.P cf.glob K→Ys cf f d K s=some (v,ps)→AllP ps→FinV cf f s v
 | .run n ds d,K,s,v,ps,hK,h,hp=>by
  simp only [Ys,gh] at h
  split at h
  ·rename_i s' qs ha
   split at h
   ·rename_i v' qs' hd
    simp only [Option.some.injEq,Prod.mk.injEq] at h
    obtain ⟨rfl,rfl⟩:=h
    obtain ⟨hp1,hp2⟩:=AllP.append hp
    exact FinV.step (fun base w0 cs0=>jfC h0 hK (jbb ha (gU hp1))) (jbv h0 hK hd hp2)
   ·simp at h
  ·simp at h
 | .use hc d,K,s,v,ps,hK,h,hp=>by
  simp only [Ys] at h
  exact jbv h0 (hK.snoc (kn:=⟨_,_,_,false,false⟩) (by unfold KnOk; rw [if_neg (by simp)]; exact hc)) h hp
 | .fin,K,s,v,ps,hK,h,hp=>by
  simp only [Ys] at h
  split at h
  ·rename_i v' hv
   simp only [Option.some.injEq,Prod.mk.injEq] at h
   obtain ⟨rfl,rfl⟩:=h
   exact ⟨v',⟨s,fun _ _ _=>Reach.refl _ _ _ _ _,hv⟩,.inl rfl⟩
  ·simp at h
 | .finE,K,s,v,ps,hK,h,hp=>by
  simp only [Ys] at h
  split at h
  ·rename_i v' hv
   simp only [Option.some.injEq,Prod.mk.injEq] at h
   obtain ⟨rfl,rfl⟩:=h
   exact ⟨v',⟨s,fun _ _ _=>Reach.refl _ _ _ _ _,hv⟩,.inr rfl⟩
  ·simp at h
theorem jA (h0:KnowOk cf.P cf.glob cf.K) {f:FuncId} {args:List AV} {d:CT cf} {v:AV} {ps:List PC} (he:(ka cf.P f args).isSome=true) (h:Ys cf f d [] (ent cf f args)=some (v,ps)) (hp:AllP ps) :
  PureCalls cf.P cf.glob f args v:=by
 have hnil:KnowOk cf.P cf.glob []:=⟨h0.1,by intro j kn hj; simp at hj⟩
 obtain ⟨x,h1,h2⟩:=jbv h0 hnil h hp
 unfold ent at h1
 cases ha:ka cf.P f args with
 | none=>rw [ha] at he; simp at he
 | some a =>
  rw [ha] at h1
  rcases h2 with h2 | h2
  ·rw [← h2]
   exact (Fin.pure h0 ha h1).weak
  ·rw [← h2]
   exact Fin.pure h0 ha h1
end
end Go.Kv
