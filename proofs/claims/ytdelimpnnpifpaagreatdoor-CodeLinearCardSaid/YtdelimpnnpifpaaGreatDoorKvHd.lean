import Derived.Test.YtdelimpnnpifpaaGreatDoorKvHc
import Derived.Laws.FloatArith
set_option linter.all false
namespace Go.Kv
open Go Go.RowKit
def jrp (op:BinOp) (k:FloatKind) (x y:Nat):Option Bool:=match op with
 | .eql=>some (k.format.order x y==some .eq)
 | .neq=>some (k.format.order x y != some .eq)
 | .lss=>some (k.format.order x y==some .lt)
 | .leq=>some (k.format.order x y==some .lt||k.format.order x y==some .eq)
 | .gtr=>some (k.format.order x y==some .gt)
 | .geq=>some (k.format.order x y==some .gt||k.format.order x y==some .eq)
 | _=>none
def qS:BinOp→Bool
 | .add=>true
 | .sub=>true
 | .mul=>true
 | .quo=>true
 | _=>false
def jgb (op:BinOp) (k:FloatKind) (x y:Nat):Nat:=(floatBits op k x y).getD 0
def fok (op:BinOp) (k:FloatKind) (x y:Nat):Bool:=(floatBits op k x y).isSome
def Gh (op:BinOp) (k:FloatKind) (x y:Nat):Option (Value × List PC) :=
 if qS op then some (.float k (jgb op k x y),[.eqB (fok op k x y) true])
 else match jrp op k x y with
  | some b=>some (.bool b,[])
  | none=>none
theorem jbM {P:Program} {op:BinOp} {k:FloatKind} {a b:Nat} {t:TypeId} {v:Value} {ps:List PC} (h:Gh op k a b=some (v,ps)) (hp:AllP ps) (w:World) (x y:Operand) :
  (eqGuard op t x y (.float k a) (.float k b)).run P w=.ok () w∧(binOp op t (.float k a) (.float k b)).run P w=.ok v w∧Zn v=true:=by
 have hg:(eqGuard op t x y (.float k a) (.float k b)).run P w=.ok () w:=by cases op <;> simp [eqGuard]
 refine ⟨hg,?_⟩
 unfold Gh at h
 split at h
 ·simp only [Option.some.injEq,Prod.mk.injEq] at h
  obtain ⟨rfl,rfl⟩:=h
  simp only [AllP,PC.holds,and_true] at hp
  unfold fok at hp
  obtain ⟨r,hr⟩:=Option.isSome_iff_exists.1 hp
  refine ⟨?_,rfl⟩
  unfold jgb
  rw [hr]
  exact run_float_arith w op t k a b r hr
 ·rename_i hn
  cases op <;> simp [qS] at hn <;> simp [jrp] at h <;> obtain ⟨rfl,rfl⟩:=h <;> exact ⟨by simp [binOp,Op.floatCmp],rfl⟩
section
variable {cf:Cfg} {base:Nat} {w0:Start} {c:Ctx} {w:World} {H:List ABlk} {get:Nat→ABlk}
def jii (s:FloatKind) (b:Nat) (k:IntKind):Int:=(floatToIntVal s b k).getD 0
def jeN (s:FloatKind) (b:Nat) (k:IntKind):Bool:=(floatToIntVal s b k).isSome
def juN (s:FloatKind) (b:Nat) (k:FloatKind):Nat:=(floatToFloatBits s b k).getD 0
def jht (s:FloatKind) (b:Nat) (k:FloatKind):Bool:=(floatToFloatBits s b k).isSome
def YK (cf:Cfg) (s d:TypeId) (x:AV):Option ARes:=match cf.P.underlying s,cf.P.underlying d,x with
 | some _,some (.float fk),.d (.v (.int _ n))=>some ⟨[],.d (.v (.float fk (floatOfInt fk n))),[]⟩
 | some _,some (.int k),.d (.v (.float f b))=>some ⟨[.eqB (jeN f b k) true],.d (.v (.int k (jii f b k))),[]⟩
 | some _,some (.float fk),.d (.v (.float f b))=>some ⟨[.eqB (jht f b fk) true],.d (.v (.float fk (juN f b fk))),[]⟩
 | _,_,_=>none
theorem jf3 {s d:TypeId} {x:AV} {u:Value} (hx:Rel c w x u) {r:ARes} (hr:YK cf s d x=some r) (hp:AllP r.pcs) :
  ∃ v,(convert s d u).run cf.P w=.ok v w∧Rel c w r.val v∧r.wr=[]:=by
 have rv:∀ {v:Value},Zn v=true→Rel c w (.d (.v v)) v:=fun h=>by unfold Rel RelD; exact ⟨rfl,by rw [← Z0]; exact h⟩
 unfold YK at hr
 split at hr
 ·rename_i hs hd
  simp only [Option.some.injEq] at hr; subst hr
  unfold Rel RelD at hx
  obtain ⟨rfl,_⟩:=hx
  exact ⟨_,run_convert_int_float w s d _ _ _ (by rw [hs]; rfl) hd,rv rfl,rfl⟩
 ·rename_i hs hd
  simp only [Option.some.injEq] at hr; subst hr
  unfold Rel RelD at hx
  obtain ⟨rfl,_⟩:=hx
  simp only [AllP,PC.holds,and_true] at hp
  unfold jeN at hp
  obtain ⟨n,hn⟩:=Option.isSome_iff_exists.1 hp
  refine ⟨_,run_convert_float_int w s d _ _ _ _ (by rw [hs]; rfl) hd hn,?_,rfl⟩
  unfold jii
  rw [hn]
  exact rv rfl
 ·rename_i hs hd
  simp only [Option.some.injEq] at hr; subst hr
  unfold Rel RelD at hx
  obtain ⟨rfl,_⟩:=hx
  simp only [AllP,PC.holds,and_true] at hp
  unfold jht at hp
  obtain ⟨n,hn⟩:=Option.isSome_iff_exists.1 hp
  refine ⟨_,run_convert_float_float w s d _ _ _ _ (by rw [hs]; rfl) hd hn,?_,rfl⟩
  unfold juN
  rw [hn]
  exact rv rfl
 ·simp at hr
end
end Go.Kv
