import Derived.Test.YtdelimpnnpifpaaGreatDoorKvW
set_option linter.all false
namespace Go.Kv
open Go Go.RowKit
def jvE {β:Type} (b:Bool) (s:ASt) (k:ASt→β):β:=match b with
 | true=>fSt s k
 | false=>k s
theorem jm9 {β:Type} (b:Bool) (s:ASt) (k:ASt→β):jvE b s k=k s:=by
 cases b
 ·rfl
 ·exact jeL s k
def jdV (cf:Cfg) (m:Nat):Nat→ASt→List Dec→SR
 | 0,s,ds=>fSt s fun s=>some (s,ds,[])
 | n+1,s,ds=>match gc cf s ds with
  | some (s',ds',ps)=>jvE (Nat.beq (n % m) 0) s' fun s'=>match jdV cf m n s' ds' with
   | some (s'',ds'',qs)=>some (s'',ds'',ps++qs)
   | none=>none
  | none=>none
theorem jdQ (cf:Cfg) (m:Nat):∀ (n:Nat) (s:ASt) (ds:List Dec),jdV cf m n s ds=yJ cf n s ds
 | 0,s,_=>by unfold jdV; rw [jeL]; rfl
 | n+1,s,ds=>by
  simp only [jdV,yJ,jm9]
  cases gc cf s ds with
  | none=>rfl
  | some x =>
   obtain ⟨s',ds',ps⟩:=x
   simp only [jdQ cf m n]
   cases yJ cf n s' ds' with
   | none=>rfl
   | some y=>rfl
def Jn (cf:Cfg) (m:Nat) (f:FuncId):CT cf→List Kn→ASt→Option (AV × List PC)
 | .run n ds d,K,s=>match jdV { cf with K:=K } m n s ds with
  | some (s',[],ps)=>match Jn cf m f d K s' with
   | some (v,qs)=>some (v,jaR ps++qs)
   | none=>none
  | _=>none
 | .use (g:=g) (args:=args) (r:=r) _ d,K,s=>Jn cf m f d (K++[⟨g,args,r,false,false⟩]) s
 | .fin,_,s=>match GO cf f s with
  | some v=>some (JR v,[])
  | none=>none
 | .finE,_,s=>match GO cf f s with
  | some v=>some (v,[])
  | none=>none
theorem jK (cf:Cfg) (m:Nat) (f:FuncId):∀ (d:CT cf) (K:List Kn) (s:ASt),Jn cf m f d K s=YW cf f d K s
 | .run n ds d,K,s=>by
  simp only [Jn,YW,jdQ,Gw]
  simp only [jK cf m f d]
  cases yJ { cf with K:=K } n s ds with
  | none=>rfl
  | some x =>
   obtain ⟨s',ds',ps⟩:=x
   cases ds' with
   | nil=>rfl
   | cons=>rfl
 | .use _ d,K,s=>by simp only [Jn,YW]; exact jK cf m f d _ s
 | .fin,K,s=>rfl
 | .finE,K,s=>rfl
end Go.Kv
