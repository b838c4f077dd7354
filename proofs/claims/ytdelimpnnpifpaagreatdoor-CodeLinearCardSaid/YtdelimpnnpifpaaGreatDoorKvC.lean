import Derived.Test.YtdelimpnnpifpaaGreatDoorKvB
import Derived.Orders
set_option linter.all false
namespace Go.Kv
open Go Go.RowKit
def Jz (P:Program) {α:Type}:Sem α→Option α
 | .pure a=>some a
 | .program k=>Jz P (k P)
 | .mark _ k=>Jz P k
 | _=>none
theorem jX {P:Program} {α:Type}:∀ {s:Sem α} {a:α},Jz P s=some a→∀ w,s.run P w=.ok a w
 | .pure a,b,h,w=>by simp [Jz] at h; subst h; rfl
 | .program k,b,h,w=>by
  simp only [Jz] at h
  simp only [Sem.run]
  exact jX h w
 | .mark m k,b,h,w=>by
  simp only [Jz] at h
  simp only [Sem.run]
  exact jX h w
 | .load ..,_,h,_=>by simp [Jz] at h
 | .store ..,_,h,_=>by simp [Jz] at h
 | .new ..,_,h,_=>by simp [Jz] at h
 | .shape ..,_,h,_=>by simp [Jz] at h
 | .freeze ..,_,h,_=>by simp [Jz] at h
 | .frozen ..,_,h,_=>by simp [Jz] at h
 | .getObj ..,_,h,_=>by simp [Jz] at h
 | .setObj ..,_,h,_=>by simp [Jz] at h
 | .choose ..,_,h,_=>by simp [Jz] at h
 | .sys ..,_,h,_=>by simp [Jz] at h
 | .halt ..,_,h,_=>by simp [Jz] at h
def je (n:Int):Prop := -9223372036854775808≤n∧n≤9223372036854775807
def Jt (n bytes:Nat):Prop:=n*bytes≤140737488355328∧n≤9223372036854775807
instance (n:Int):Decidable (je n):=by unfold je; infer_instance
instance (n m:Nat):Decidable (Jt n m):=by unfold Jt; infer_instance
inductive PC where
 | le (a b:Int)
 | lt (a b:Int)
 | leN (a b:Nat)
 | ltN (a b:Nat)
 | eqI (a b:Int)
 | eqN (a b:Nat)
 | neI (a b:Int)
 | nlt (a b:Int)
 | eqB (a b:Bool)
 | in64 (a:Int)
 | fits (n m:Nat)
 | lt0 (l c:Int)
 | eqA (as bs:List AV)
 | prop (p:Prop)
def PC.holds:PC→Prop
 | .le a b=>a≤b
 | .lt a b=>a<b
 | .leN a b=>a≤b
 | .ltN a b=>a<b
 | .eqI a b=>a=b
 | .eqN a b=>a=b
 | .neI a b=>a≠b
 | .nlt a b=>¬ a<b
 | .eqB a b=>a=b
 | .in64 a=>je a
 | .fits n m=>Jt n m
 | .lt0 l c=>l≤c∨l=0
 | .eqA as bs=>as=bs
 | .prop p=>p
def PC.check:PC→Bool
 | .le a b=>decide (a≤b)
 | .lt a b=>decide (a<b)
 | .leN a b=>decide (a≤b)
 | .ltN a b=>decide (a<b)
 | .eqI a b=>decide (a=b)
 | .eqN a b=>decide (a=b)
 | .neI a b=>decide (a≠b)
 | .nlt a b=>decide (¬ a<b)
 | .eqB a b=>decide (a=b)
 | .in64 a=>decide (je a)
 | .fits n m=>decide (Jt n m)
 | .lt0 l c=>decide (l≤c∨l=0)
 | .eqA _ _=>false
 | .prop _=>false
theorem PC.check_ok {p:PC} (h:p.check=true):p.holds:=by
 cases p <;> simp only [PC.check,decide_eq_true_eq] at h <;> first | exact h | (simp at h; done)
def AllP:List PC→Prop
 | []=>True
 | p :: ps=>p.holds∧AllP ps
theorem AllP.append {ps qs:List PC} (h:AllP (ps++qs)):AllP ps∧AllP qs:=by
 induction ps with
 | nil=>exact ⟨trivial,h⟩
 | cons p ps ih=>exact ⟨⟨h.1,(ih h.2).1⟩,(ih h.2).2⟩
def G5:List PC→List PC
 | []=>[]
 | p :: ps=>match p.check with
  | true=>G5 ps
  | false=>p :: G5 ps
theorem gU:∀ {ps:List PC},AllP (G5 ps)→AllP ps
 | [],_=>trivial
 | p :: ps,h=>by
  unfold G5 at h
  split at h
  ·rename_i hc
   exact ⟨PC.check_ok hc,gU h⟩
  ·exact ⟨h.1,gU h.2⟩
inductive Dec where
 | none
 | as (x:AV)
 | br (b:Bool)
 | call (args:List AV) (res:AV)
 | enter
 | ext (v:Value)
 | extN
 | ck (j:Nat)
 | cq (j:Nat)
 | ce (j:Nat)
 | inp (ys:List DV)
 | sp (c:Option Nat)
 | mg
 | nx (b:Bool)
inductive ExtK where
 | nan (k:FloatKind)
 | same (a:AV)
def ExtK.val:ExtK→AV
 | .nan k=>.nan k
 | .same a=>a
def jbK:List AV→Option ExtK
 | [.nan k]=>some (.nan k)
 | [.ptr b off]=>some (.same (.ptr b off))
 | _=>none
def jea (P:Program) (g:FuncId):ExtK→Prop
 | .nan k=>∀ b,ZH k b→∀ w:World,∃ b' w',(callFunc g #[.float k b]).run P w=.ok (.value (.float k b')) w'∧ZH k b'∧(w'=w∨w'=w.drew)
 | .same _=>∀ (x:Value) (w:World),(callFunc g #[x]).run P w=.ok (.value x) w
structure Kn where
 g:Nat
 args:List AV
 res:AV
 fr:Bool:=false
 st:Bool:=false
structure Cfg where
 P:Program
 ex:Bool
 glob:Nat→Option (List DV)
 K:List Kn:=[]
 own0:Bool:=false
 rows:List Nat:=[]
structure ARes where
 pcs:List PC
 val:AV
 wr:List (Nat × ABlk)
def AV.val:AV→Option Value
 | .d (.v x)=>some x
 | _=>none
def QB:List AV→Option (List Value)
 | []=>some []
 | a :: as=>match a.val,QB as with
  | some x,some xs=>some (x :: xs)
  | _,_=>none
def AV.full:AV→Option Value
 | .agg cs=>match QB cs with
  | some xs=>some (.agg xs.toArray)
  | none=>none
 | .tup cs=>match QB cs with
  | some xs=>some (.tuple xs.toArray)
  | none=>none
 | .d (.v x)=>some x
 | _=>none
theorem Rel.val {c:Ctx} {w:World} {a:AV} {u x:Value} (h:Rel c w a u) (hv:a.val=some x):u=x:=by
 cases a with
 | d y =>
  cases y with
  | v y=>simp [AV.val] at hv; subst hv; simp [Rel,RelD] at h; exact h.1
  | sl=>simp [AV.val] at hv
 | _=>simp [AV.val] at hv
theorem Rels.vals {c:Ctx} {w:World}:∀ {as:List AV} {us xs:List Value},Rels c w as us→QB as=some xs→us=xs
 | [],us,xs,h,hv=>by simp [QB] at hv; subst hv; exact h.nil_inv
 | a :: as,us,xs,h,hv=>by
  obtain ⟨u,r,rfl,hu,t⟩:=h.cons_inv
  simp only [QB] at hv
  split at hv
  ·rename_i x xs' h1 h2
   simp at hv; subst hv
   rw [hu.val h1,Rels.vals t h2]
  ·simp at hv
theorem Rel.full {c:Ctx} {w:World} {a:AV} {u x:Value} (h:Rel c w a u) (hv:a.full=some x):u=x:=by
 cases a with
 | d y =>
  cases y with
  | v y=>simp [AV.full] at hv; subst hv; simp [Rel,RelD] at h; exact h.1
  | sl=>simp [AV.full] at hv
 | agg cs =>
  unfold Rel at h; obtain ⟨us,rfl,hs⟩:=h
  simp only [AV.full] at hv
  split at hv
  ·rename_i xs hxs; simp at hv; subst hv; rw [hs.vals hxs]
  ·simp at hv
 | tup cs =>
  unfold Rel at h; obtain ⟨us,rfl,hs⟩:=h
  simp only [AV.full] at hv
  split at hv
  ·rename_i xs hxs; simp at hv; subst hv; rw [hs.vals hxs]
  ·simp at hv
 | _=>simp [AV.full] at hv
def Zn:Value→Bool
 | .agg _=>false
 | .tuple _=>false
 | _=>true
theorem Z0 (x:Value):Zn x=x.oneCell':=by cases x <;> rfl
def zI:Value→Option AV
 | .agg cs=>if cs.toList.all Zn then some (.agg (cs.toList.map fun x=>.d (.v x))) else none
 | .tuple _=>none
 | x=>some (.d (.v x))
def yX:List Value→Option (List AV)
 | []=>some []
 | x :: xs=>match zI x,yX xs with
  | some a,some as=>some (a :: as)
  | _,_=>none
def qp:Value→Option AV
 | .tuple vs=>match yX vs.toList with
  | some as=>some (.tup as)
  | none=>none
 | x=>zI x
theorem YT {φ:Nat→Nat} {w:World}:∀ (xs:List Value),xs.all Zn=true→RelDs φ w (xs.map DV.v) xs
 | [],_=>RelDs.nil
 | x :: xs,h=>by
  simp at h
  exact RelDs.cons (by unfold RelD; exact ⟨rfl,by rw [← Z0]; exact h.1⟩) (YT xs (by simpa using h.2))
theorem jaq {c:Ctx} {w:World} (xs:List Value) (h:xs.all Zn=true):Rels c w (xs.map fun x=>AV.d (.v x)) xs:=by
 have:=Rels.map_d (c:=c) (YT (φ:=c.φ) (w:=w) xs h)
 simpa [List.map_map,Function.comp_def] using this
theorem jaH {c:Ctx} {w:World} {x:Value} {a:AV} (h:zI x=some a):Rel c w a x:=by
 cases x with
 | agg cs =>
  simp only [zI] at h
  split at h
  ·rename_i hall
   simp at h; subst h
   unfold Rel; exact ⟨cs.toList,by simp,jaq _ hall⟩
  ·simp at h
 | tuple=>simp [zI] at h
 | _=>simp [zI] at h; subst h; unfold Rel RelD; exact ⟨rfl,rfl⟩
theorem gR {c:Ctx} {w:World}:∀ {xs:List Value} {as:List AV},yX xs=some as→Rels c w as xs
 | [],as,h=>by simp [yX] at h; subst h; exact Rels.nil
 | x :: xs,as,h=>by
  simp only [yX] at h
  split at h
  ·rename_i a as' h1 h2
   simp at h; subst h
   exact Rels.cons (jaH h1) (gR h2)
  ·simp at h
theorem Q9 {c:Ctx} {w:World} {x:Value} {a:AV} (h:qp x=some a):Rel c w a x:=by
 cases x with
 | tuple vs =>
  simp only [qp] at h
  split at h
  ·rename_i as has
   simp at h; subst h
   unfold Rel; exact ⟨vs.toList,by simp,gR has⟩
  ·simp at h
 | _=>exact jaH (by simpa [qp] using h)
def Zr:Op→Bool
 | .select _ _=>true
 | _=>false
def Jx (cf:Cfg) (o:Oper) (ev:Operand→AV):Option ARes :=
 if Zr o.op then none
 else if o.op.operands.toList.all (fun x=>(ev x).full.isSome) then
  match Jz cf.P (execOp (fun x=>((ev x).full).getD undef) o) with
  | some (.value v)=>match qp v with
   | some a=>some ⟨[],a,[]⟩
   | none=>none
  | _=>none
 else none
def OpOk (cf:Cfg) (base:Nat) (w0:Start) (c:Ctx) (w:World) (H:List ABlk) (av:Operand→Value) (o:Oper) (r:ARes):Prop :=
 ∃ w' c' v,((execOp av o).run cf.P w=.ok (.value v) w'∨((execOp av o).run cf.P w=.ok .skip w'∧v=undef)) ∧
  Ctx.Le c w c' w'∧WRel base w0 c' w' (r.wr.foldl (fun H x=>H.set x.1 x.2) H)∧Rel c' w' r.val v
theorem OpOk.same {cf:Cfg} {base:Nat} {w0:Start} {c:Ctx} {w:World} {H:List ABlk} (h:WRel base w0 c w H) {av:Operand→Value} {o:Oper} {ps:List PC} {a:AV} {v:Value}
  (hr:(execOp av o).run cf.P w=.ok (.value v) w) (ha:Rel c w a v):OpOk cf base w0 c w H av o ⟨ps,a,[]⟩ :=
 ⟨w,c,v,.inl hr,Ctx.Le.refl c w,h,ha⟩
theorem Jg {cf:Cfg} {base:Nat} {w0:Start} {c:Ctx} {w:World} {H:List ABlk} (h:WRel base w0 c w H) {av:Operand→Value} {ev:Operand→AV} (hev:∀ x,Rel c w (ev x) (av x)) {o:Oper} {r:ARes}
  (hr:Jx cf o ev=some r):OpOk cf base w0 c w H av o r:=by
 unfold Jx at hr
 split at hr
 ·simp at hr
 rename_i hsel
 split at hr
 ·rename_i hall
  split at hr
  ·rename_i v hv
   split at hr
   ·rename_i a ha
    simp at hr; subst hr
    refine OpOk.same h ?_ (Q9 ha)
    have hcongr:execOp av o=execOp (fun x=>((ev x).full).getD undef) o:=by
     refine execOp_congr o (by intro cs b he; rw [he] at hsel; simp [Zr] at hsel) ?_
     intro x hx
     have:=List.all_eq_true.1 hall x (by simpa using hx)
     cases hf:(ev x).full with
     | none=>rw [hf] at this; simp at this
     | some y=>rw [(hev x).full hf]; simp
    rw [hcongr]
    exact jX hv w
   ·simp at hr
  ·simp at hr
 ·simp at hr
def zL {α β:Type} (f:α→(α→β)→β):List α→(List α→β)→β
 | [],k=>k []
 | x :: xs,k=>f x fun x=>zL f xs fun xs=>k (x :: xs)
def fId {α β:Type} (x:α) (k:α→β):β:=k x
def jul {β:Type} (v:Value) (k:Value→β):β:=match v with
 | .int i n=>k (.int i n)
 | .bool b=>k (.bool b)
 | .float i n=>k (.float i n)
 | .string s=>k (.string s)
 | v=>k v
def fDV {β:Type} (x:DV) (k:DV→β):β:=match x with
 | .v v=>jul v fun v=>k (.v v)
 | .sl n xs=>k (.sl n xs)
mutual
def fAV {β:Type}:AV→(AV→β)→β
 | .d x,k=>fDV x fun x=>k (.d x)
 | .ptr b o,k=>k (.ptr b o)
 | .ip cs,k=>k (.ip cs)
 | .own b e sz n xs,k=>k (.own b e sz n xs)
 | .ms b o sz n c,k=>k (.ms b o sz n c)
 | .fn f fs cs,k=>jbQ fs fun fs=>jbQ cs fun cs=>k (.fn f fs cs)
 | .yl b,k=>k (.yl b)
 | .mp b,k=>k (.mp b)
 | .gx b x,k=>k (.gx b x)
 | .em,k=>k .em
 | .nan f,k=>k (.nan f)
 | .agg cs,k=>jbQ cs fun cs=>k (.agg cs)
 | .tup cs,k=>jbQ cs fun cs=>k (.tup cs)
 | .opt b x,k=>fAV x fun x=>k (.opt b x)
 | .any,k=>k .any
def jbQ {β:Type}:List AV→(List AV→β)→β
 | [],k=>k []
 | a :: as,k=>fAV a fun a=>jbQ as fun as=>k (a :: as)
end
def jqf {β:Type} (x:ABlk) (k:ABlk→β):β:=match x with
 | .gone=>k .gone
 | .dead=>k .dead
 | .cells cs t=>k (.cells cs t)
 | .tail e=>k (.tail e)
 | .loop l=>k (.loop l)
 | .defd=>k .defd
 | .mp m=>k (.mp m)
 | .itr i=>k (.itr i)
 | .grid e p rs=>k (.grid e p rs)
theorem jmH {β:Type} (v:Value) (k:Value→β):jul v k=k v:=by cases v <;> rfl
theorem jgV {β:Type} (x:DV) (k:DV→β):fDV x k=k x:=by
 cases x with
 | v v=>simp only [fDV,jmH]
 | sl=>rfl
mutual
theorem jbz {β:Type}:∀ (a:AV) (k:AV→β),fAV a k=k a
 | .d x,k=>by simp only [fAV,jgV]
 | .ptr ..,k=>rfl
 | .ip ..,k=>rfl
 | .own ..,k=>rfl
 | .ms ..,k=>rfl
 | .fn f fs cs,k=>by simp only [fAV,Qf fs,Qf cs]
 | .yl _,k=>rfl
 | .mp _,k=>rfl
 | .gx _ _,k=>rfl
 | .em,k=>rfl
 | .nan _,k=>rfl
 | .agg cs,k=>by simp only [fAV,Qf cs]
 | .tup cs,k=>by simp only [fAV,Qf cs]
 | .opt b x,k=>by simp only [fAV,jbz x]
 | .any,k=>rfl
theorem Qf {β:Type}:∀ (as:List AV) (k:List AV→β),jbQ as k=k as
 | [],k=>rfl
 | a :: as,k=>by simp only [jbQ,jbz a,Qf as]
end
theorem jl1 {β:Type} (x:ABlk) (k:ABlk→β):jqf x k=k x:=by cases x <;> rfl
theorem QA {α β:Type} {f:α→(α→β)→β} (hf:∀ x k,f x k=k x):∀ (xs:List α) (k:List α→β),zL f xs k=k xs
 | [],k=>rfl
 | x :: xs,k=>by simp only [zL,hf,QA hf xs]
theorem jhx {α β:Type} (xs:List α) (k:List α→β):zL fId xs k=k xs:=QA (fun _ _=>rfl) xs k
theorem jis {β:Type} (xs:List ABlk) (k:List ABlk→β):zL jqf xs k=k xs:=QA jl1 xs k
end Go.Kv
