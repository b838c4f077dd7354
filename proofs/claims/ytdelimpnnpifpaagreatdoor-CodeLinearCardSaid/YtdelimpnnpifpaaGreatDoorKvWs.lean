import Derived.Test.YtdelimpnnpifpaaGreatDoorKvW
set_option linter.all false
namespace Go.Kv
open Go Go.RowKit
def ju7 {β:Type} (b:Bool) (s:ASt) (k:ASt→β):β:=match b with
 | true=>fSt s k
 | false=>k s
theorem jmb {β:Type} (b:Bool) (s:ASt) (k:ASt→β):ju7 b s k=k s:=by
 cases b
 ·rfl
 ·exact jez s k
def jds (cf:Cfg) (m:Nat):Nat→ASt→List Dec→SR
 | 0,s,ds=>fSt s fun s=>some (s,ds,[])
 | n+1,s,ds=>match gG cf s ds with
  | some (s',ds',ps)=>ju7 (Nat.beq (n % m) 0) s' fun s'=>match jds cf m n s' ds' with
   | some (s'',ds'',qs)=>some (s'',ds'',ps++qs)
   | none=>none
  | none=>none
theorem jcf (cf:Cfg) (m:Nat):∀ (n:Nat) (s:ASt) (ds:List Dec),jds cf m n s ds=Ym cf n s ds
 | 0,s,_=>by unfold jds; rw [jez]; rfl
 | n+1,s,ds=>by
  simp only [jds,Ym,jmb]
  cases gG cf s ds with
  | none=>rfl
  | some x =>
   obtain ⟨s',ds',ps⟩:=x
   simp only [jcf cf m n]
   cases Ym cf n s' ds' with
   | none=>rfl
   | some y=>rfl
def Jj (cf:Cfg) (m:Nat) (f:FuncId):CT cf→List Kn→ASt→Option (AV × List PC)
 | .run n ds d,K,s=>match jds { cf with K:=K } m n s ds with
  | some (s',[],ps)=>match Jj cf m f d K s' with
   | some (v,qs)=>some (v,G5 ps++qs)
   | none=>none
  | _=>none
 | .use (g:=g) (args:=args) (r:=r) _ d,K,s=>Jj cf m f d (K++[⟨g,args,r,false,false⟩]) s
 | .fin,_,s=>match Gq cf f s with
  | some v=>some (JJ v,[])
  | none=>none
 | .finE,_,s=>match Gq cf f s with
  | some v=>some (v,[])
  | none=>none
theorem jF (cf:Cfg) (m:Nat) (f:FuncId):∀ (d:CT cf) (K:List Kn) (s:ASt),Jj cf m f d K s=Ys cf f d K s
 | .run n ds d,K,s=>by
  simp only [Jj,Ys,jcf,gh]
  simp only [jF cf m f d]
  cases Ym { cf with K:=K } n s ds with
  | none=>rfl
  | some x =>
   obtain ⟨s',ds',ps⟩:=x
   cases ds' with
   | nil=>rfl
   | cons=>rfl
 | .use _ d,K,s=>by simp only [Jj,Ys]; exact jF cf m f d _ s
 | .fin,K,s=>rfl
 | .finE,K,s=>rfl
end Go.Kv
