import Derived.Test.YtdelimpnnpifpaaGreatDoorKvHd
set_option linter.all false
namespace Go.Kv
open Go Go.RowKit
def Gg (op:BinOp) (k k':FloatKind):Option AV :=
 if k=k' then
  if qS op then some (.nan k)
  else match op with
   | .neq=>some (.d (.v (.bool true)))
   | .eql=>some (.d (.v (.bool false)))
   | .lss=>some (.d (.v (.bool false)))
   | .leq=>some (.d (.v (.bool false)))
   | .gtr=>some (.d (.v (.bool false)))
   | .geq=>some (.d (.v (.bool false)))
   | _=>none
 else none
def jbj (op:BinOp) (x y:AV):Option ARes:=match x,y with
 | .nan k,.nan k'=>(Gg op k k').map fun a=>⟨[],a,[]⟩
 | .nan k,.d (.v (.float k' _))=>(Gg op k k').map fun a=>⟨[],a,[]⟩
 | .d (.v (.float k' _)),.nan k=>(Gg op k k').map fun a=>⟨[],a,[]⟩
 | _,_=>none
def QM (cf:Cfg) (s d:TypeId) (x:AV):Option ARes:=match cf.P.underlying s,cf.P.underlying d,x with
 | some _,some (.float fk),.nan _=>some ⟨[],.nan fk,[]⟩
 | _,_,_=>none
theorem jlt {f:Ieee.Format} {w:Nat} (h1:¬ (w % f.signWeight<f.binade)) (h2:¬ (w % f.signWeight<f.infRung)) (h3:¬ (w % f.signWeight=f.infRung)):∃ s t,f.read w=.nan s t:=by
 unfold Ieee.Format.read
 dsimp only
 rw [if_neg h1,if_neg h2,if_neg h3]
 exact ⟨_,_,rfl⟩
theorem jaF (t:Nat):ZH .f32 ((t % 2)*2 ^ 31+0x7f800000+1+(t / 2) % (2 ^ 23 - 1)):=by
 have h1:Ieee.single.signWeight=2147483648:=rfl
 have h2:Ieee.single.binade=8388608:=rfl
 have h3:Ieee.single.infRung=2139095040:=rfl
 have:(t / 2) % (2 ^ 23 - 1)<8388607:=Nat.mod_lt _ (by decide)
 have h:=jlt (f:=Ieee.single) (w:=(t % 2)*2 ^ 31+0x7f800000+1+(t / 2) % (2 ^ 23 - 1))
 rw [h1,h2,h3] at h
 generalize (t / 2) % (2 ^ 23 - 1)=r at *
 generalize hq:t % 2=q at *
 have hq2:q=0∨q=1:=by omega
 rcases hq2 with e | e <;> subst e <;> exact h (by omega) (by omega) (by omega)
theorem jaE (t:Nat):ZH .f64 ((t % 2)*2 ^ 63+0x7ff0000000000000+1+(t / 2) % (2 ^ 52 - 1)):=by
 have h1:Ieee.double.signWeight=9223372036854775808:=rfl
 have h2:Ieee.double.binade=4503599627370496:=rfl
 have h3:Ieee.double.infRung=9218868437227405312:=rfl
 have:(t / 2) % (2 ^ 52 - 1)<4503599627370495:=Nat.mod_lt _ (by decide)
 have h:=jlt (f:=Ieee.double) (w:=(t % 2)*2 ^ 63+0x7ff0000000000000+1+(t / 2) % (2 ^ 52 - 1))
 rw [h1,h2,h3] at h
 generalize (t / 2) % (2 ^ 52 - 1)=r at *
 generalize hq:t % 2=q at *
 have hq2:q=0∨q=1:=by omega
 rcases hq2 with e | e <;> subst e <;> exact h (by omega) (by omega) (by omega)
theorem jhR (k:FloatKind) (x y t:Nat):ZH k ((Question.nanBits k x y).cut t):=by
 cases k
 ·exact jaF t
 ·exact jaE t
theorem jkC (k:FloatKind) (x t:Nat):ZH k ((Question.nanConv k x).cut t):=by
 cases k
 ·exact jaF t
 ·exact jaE t
theorem jfn {k:FloatKind} {b:Nat} (h:ZH k b):∃ s t,k.format.read b=.nan s t:=h
theorem jgt {op:BinOp} {k:FloatKind} {a b:Nat} (h:ZH k a∨ZH k b) (ho:qS op=true):floatBits op k a b=none:=by
 rcases h with h | h <;> obtain ⟨s,t,h⟩:=jfn h <;> cases op <;> simp [qS] at ho <;>
  simp only [floatBits,Ieee.Format.add,Ieee.Format.sub,Ieee.Format.mul,Ieee.Format.div,h] <;>
  cases (k.format.read _) <;> rfl
theorem jgl {k:FloatKind} {a b:Nat} (h:ZH k a∨ZH k b):k.format.order a b=none:=by
 unfold Ieee.Format.order
 rcases h with h | h <;> obtain ⟨s,t,h⟩:=jfn h <;> rw [h] <;> cases (k.format.read _) <;> rfl
section
variable {cf:Cfg} {base:Nat} {w0:Start} {c:Ctx} {w:World} {H:List ABlk}
theorem gO (h:WRel base w0 c w H) {op:BinOp} {k k':FloatKind} {a b:Nat} {r:AV} (hk:k=k') (hn:ZH k a∨ZH k b) (hr:Gg op k k'=some r) (t:TypeId) (x y:Operand) :
  ∃ w' v,(eqGuard op t x y (.float k a) (.float k b)).run cf.P w=.ok () w∧(binOp op t (.float k a) (.float k b)).run cf.P w=.ok v w'∧Ctx.Le c w c w'∧WRel base w0 c w' H∧Rel c w' r v:=by
 subst hk
 have hg:(eqGuard op t x y (.float k a) (.float k b)).run cf.P w=.ok () w:=by cases op <;> simp [eqGuard]
 unfold Gg at hr
 rw [if_pos rfl] at hr
 split at hr
 ·rename_i ha
  simp only [Option.some.injEq] at hr; subst hr
  have hb:=jgt hn ha
  obtain ⟨d1,d2⟩:=h.drew
  refine ⟨w.drew,.float k ((Question.nanBits k a b).cut (w.tape w.drawn (Question.nanBits k a b))),hg,?_,d1,d2,?_⟩
  ·have hf:(Question.nanBits k a b).forced=false:=rfl
   unfold floatBits at hb
   cases op <;> simp [qS] at ha <;> simp only at hb <;> simp [binOp,Op.floatArith,hb,hf]
  ·unfold Rel; exact ⟨_,rfl,jhR _ _ _ _⟩
 ·rename_i ha
  have ho:=jgl hn
  have rb (b:Bool):Rel c w (.d (.v (.bool b))) (.bool b):=by unfold Rel RelD; exact ⟨rfl,rfl⟩
  cases op <;> simp [qS] at ha <;> simp at hr <;> subst hr <;> exact ⟨w,_,hg,by simp [binOp,Op.floatCmp,ho],Ctx.Le.refl c w,h,rb _⟩
theorem Zm {op:BinOp} {k k':FloatKind} {z:AV} (hz:Gg op k k'=some z):k=k':=by
 unfold Gg at hz
 split at hz
 ·assumption
 ·simp at hz
theorem jee (h:WRel base w0 c w H) {op:BinOp} {X Y:AV} {u v:Value} (hx:Rel c w X u) (hy:Rel c w Y v) {r:ARes} (hr:jbj op X Y=some r) (t:TypeId) (x y:Operand) :
  ∃ w' c' z,(eqGuard op t x y u v).run cf.P w=.ok () w∧(binOp op t u v).run cf.P w=.ok z w'∧Ctx.Le c w c' w'∧WRel base w0 c' w' (r.wr.foldl (fun H x=>H.set x.1 x.2) H)∧Rel c' w' r.val z:=by
 unfold jbj at hr
 split at hr
 ·unfold Rel at hx hy
  obtain ⟨a,rfl,ha⟩:=hx
  obtain ⟨b,rfl,hb⟩:=hy
  simp only [Option.map_eq_some_iff] at hr
  obtain ⟨z,hz,rfl⟩:=hr
  have hk:=Zm hz
  subst hk
  obtain ⟨w',v,h1,h2,h3,h4,h5⟩:=gO (cf:=cf) (a:=a) (b:=b) h rfl (.inl ha) hz t x y
  exact ⟨w',c,v,h1,h2,h3,h4,h5⟩
 ·unfold Rel at hx hy
  unfold RelD at hy
  obtain ⟨a,rfl,ha⟩:=hx
  obtain ⟨rfl,_⟩:=hy
  simp only [Option.map_eq_some_iff] at hr
  obtain ⟨z,hz,rfl⟩:=hr
  have hk:=Zm hz
  subst hk
  obtain ⟨w',v,h1,h2,h3,h4,h5⟩:=gO (cf:=cf) h rfl (.inl ha) hz t x y
  exact ⟨w',c,v,h1,h2,h3,h4,h5⟩
 ·unfold Rel at hx hy
  unfold RelD at hx
  obtain ⟨b,rfl,hb⟩:=hy
  obtain ⟨rfl,_⟩:=hx
  simp only [Option.map_eq_some_iff] at hr
  obtain ⟨z,hz,rfl⟩:=hr
  have hk:=Zm hz
  subst hk
  obtain ⟨w',v,h1,h2,h3,h4,h5⟩:=gO (cf:=cf) h rfl (.inr hb) hz t x y
  exact ⟨w',c,v,h1,h2,h3,h4,h5⟩
 ·simp at hr
theorem jcm (h:WRel base w0 c w H) {s d:TypeId} {x:AV} {u:Value} (hx:Rel c w x u) {r:ARes} (hr:QM cf s d x=some r) :
  ∃ w' c' v,(convert s d u).run cf.P w=.ok v w'∧Ctx.Le c w c' w'∧WRel base w0 c' w' (r.wr.foldl (fun H x=>H.set x.1 x.2) H)∧Rel c' w' r.val v:=by
 unfold QM at hr
 split at hr
 ·rename_i us fk k hs hd
  simp only [Option.some.injEq] at hr; subst hr
  unfold Rel at hx
  obtain ⟨b,rfl,hb⟩:=hx
  by_cases hk:k=fk
  ·subst hk
   refine ⟨w,c,.float k b,?_,Ctx.Le.refl c w,h,?_⟩
   ·cases us <;> simp [convert,run_underlying hs,run_underlying hd,Conv.floatToFloat]
   ·unfold Rel; exact ⟨b,rfl,hb⟩
  ·obtain ⟨sg,t,hb'⟩:=hb
   obtain ⟨d1,d2⟩:=h.drew
   have hf:(Question.nanConv fk b).forced=false:=rfl
   refine ⟨w.drew,c,.float fk ((Question.nanConv fk b).cut (w.tape w.drawn (Question.nanConv fk b))),?_,d1,d2,?_⟩
   ·cases us <;> simp [convert,run_underlying hs,run_underlying hd,Conv.floatToFloat,hk,hb',hf]
   ·unfold Rel; exact ⟨_,rfl,jkC _ _ _⟩
 ·simp at hr
end
end Go.Kv
