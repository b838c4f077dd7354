import Derived.Test.YtdelimpnnpifpaaGreatDoorKvJ
set_option linter.all false
namespace Go.Kv
open Go Go.RowKit
def zl (f:AFrame) (v:AV):Option AFrame:=match f.todo with
 | .regC ops d i :: k=>some { f with tmps:=setT f.tmps ((ops[i]?).bind (·.dst)) v,todo:=.reg ops d (i+1) :: k }
 | .inRng b :: k=>some { f with todo:=.endRng b :: k }
 | _=>none
def JH (P:Program) (g:FuncId):Option (Func × Code) :=
 match P.funcs[g]? with
 | some fn=>match fn.body with
  | some c=>some (fn,c)
  | none=>none
 | none=>none
def ka (P:Program) (g:FuncId) (args:List AV):Option AFrame :=
 match JH P g with
 | some (fn,c)=>some { fn:=g,tmps:=args++List.replicate (fn.ntmps - args.length) .any,todo:=[.code c],defers:=[],ret:=false,roundOf:=none }
 | none=>none
def QX (id:Nat):List AItem→Option (List AItem)
 | .inBlock id' :: k=>if id'==id then some k else QX id k
 | _ :: k=>QX id k
 | []=>none
def Q1 (l:Nat):List AItem→Option (List AItem)
 | .inScope body :: k=>match findLabel body l with
  | some rest=>some (.code rest :: .inScope body :: k)
  | none=>Q1 l k
 | _ :: k=>Q1 l k
 | []=>none
def kC:AV→Option (FuncId × List AV × List AV)
 | .d (.v (.func (.func g) fs cs))=>if fs.size==0&&cs.size==0 then some (g,[],[]) else none
 | .fn (.func g) fs cs=>some (g,fs,cs)
 | _=>none
def KA (ts:List AV):List Tmp→List AV→List AV
 | t :: ps,a :: as=>KA (ts.set t a) ps as
 | _,_=>ts
def jaY (ops:Array Oper) (tmps:List AV) (o:Oper) (ds:List Dec):Option (Bool × List Dec × List PC) :=
 match o.guard with
 | none=>some (true,ds,[])
 | some (j,want)=>match (ops[j]?).bind (·.dst) with
  | none=>none
  | some t=>match tmps[t]?,ds with
   | some (.d (.v (.bool b))),.br r :: ds=>some (r==want,ds,[.eqB b r])
   | some (.d (.v (.bool b))),ds=>some (b==want,ds,[])
   | some (.tup []),.br _ :: ds=>some (false,ds,[])
   | some (.tup []),ds=>some (false,ds,[])
   | _,_=>none
def jiP:Op→Bool
 | .load ..=>true
 | .pick ..=>true
 | .field ..=>true
 | .index ..=>true
 | .store ..=>true
 | .lookup ..=>true
 | .entry ..=>true
 | .makeSlice ..=>true
 | .call { callee:=.builtin .append,.. }=>true
 | _=>false
def Dec.isCall:Dec→Bool
 | .call ..=>true
 | .enter=>true
 | .ext _=>true
 | .extN=>true
 | .ck _=>true
 | .cq _=>true
 | .ce _=>true
 | .inp _=>true
 | _=>false
def jmz:Op→Bool
 | .next _ true=>true
 | _=>false
def jeX (op:Op) (ds:List Dec):Dec × List Dec :=
 if jiP op then match ds with
  | []=>(.none,[])
  | d :: ds=>if d.isCall then (.none,d :: ds) else (d,ds)
 else if jmz op then match ds with
  | .nx b :: ds=>(.nx b,ds)
  | ds=>(.none,ds)
 else (.none,ds)
def qe:Op→Option (Operand × List Operand)
 | .call { callee:=.value f,args,.. }=>some (f,args.toList)
 | _=>none
def yA (l:ALoop) (b:Nat) (args:List AV):AFrame :=
 { fn:=l.fn,tmps:=KA l.tmps l.params.toList args,todo:=[.code l.assign,.beginRound,.code l.body],defers:=[],ret:=false,roundOf:=some b }
abbrev SR:=Option (ASt × List Dec × List PC)
def qf (cf:Cfg) (s:ASt) (ops:Array Oper) (draw:Bool) (i:Nat) (o:Oper) (k:List AItem) (f:Operand) (args:List Operand) (ds:List Dec) (ps:List PC):SR :=
 let ev:=evA cf s.fr.tmps
 match ev f with
 | .yl b=>match s.H[b]? with
  | some (.loop l) =>
   if args.length==l.params.size then
    match ds with
    | .enter :: ds=>some (⟨yA l b (evs ev args),{ s.fr with todo:=.regC ops draw i :: k } :: s.cs,s.H⟩,ds,ps)
    | ds=>some (⟨yA l b (evs ev args),{ s.fr with todo:=.regC ops draw i :: k } :: s.cs,s.H⟩,ds,ps)
   else none
  | _=>none
 | fv=>match kC fv with
  | none=>none
  | some (g,fs,cs) =>
   let all:=fs++evs ev args++cs
   match ds with
   | .enter :: ds=>match ka cf.P g all with
    | some fr=>some ({ fr:=fr,cs:={ s.fr with todo:=.regC ops draw i :: k } :: s.cs,H:=s.H },ds,ps)
    | none=>none
   | .call as r :: ds=>match JH cf.P g,Kq (fun b=>(s.H[b]?).getD .gone) all with
    | some _,some bs=>if !(jR all)||JX r then
      some ({ fr:={ s.fr with tmps:=setT s.fr.tmps o.dst r,todo:=.reg ops draw (i+1) :: k },cs:=s.cs,H:=s.H },ds,.prop (bs=as) :: .prop (PureCalls cf.P cf.glob g as r) :: ps)
     else none
    | _,_=>none
   | .ck j :: ds=>match cf.K[j]? with
    | some kn=>if kn.g==g&&!kn.fr then match JH cf.P g,Jl (fun b=>(s.H[b]?).getD .gone) all with
     | some _,some bs=>if !(jR all)||JX kn.res then
       some ({ fr:={ s.fr with tmps:=setT s.fr.tmps o.dst kn.res,todo:=.reg ops draw (i+1) :: k },cs:=s.cs,H:=s.H },ds,.eqA bs kn.args :: ps)
      else none
     | _,_=>none
     else none
    | none=>none
   | .cq j :: ds=>match cf.K[j]? with
    | some kn=>if kn.g==g then match JH cf.P g,J0 (fun b=>((s.H++[.gone])[b]?).getD .gone) all,jfq kn all s.H.length with
     | some _,some (bs,qs),some (v,fs,wr) =>
       some ({ fr:={ s.fr with tmps:=setT s.fr.tmps o.dst v,todo:=.reg ops draw (i+1) :: k },cs:=s.cs,H:=match wr with
        | []=>s.H
        | wr=>dropGone (wr.foldl (fun H x=>H.set x.1 x.2) (s.H++[.gone])) },ds,.eqA bs kn.args :: (qs++(fs++ps)))
     | _,_,_=>none
     else none
    | none=>none
   | .ce j :: ds=>match cf.K[j]? with
    | some kn=>if kn.g==g then match JH cf.P g,J0 (fun b=>(s.H[b]?).getD .gone) all,jbd kn all with
     | some _,some (bs,qs),some (v,fs) =>
       some ({ fr:={ s.fr with tmps:=setT s.fr.tmps o.dst v,todo:=.reg ops draw (i+1) :: k },cs:=s.cs,H:=s.H },ds,.eqA bs kn.args :: (qs++(fs++ps)))
     | _,_,_=>none
     else none
    | none=>none
   | .inp ys :: ds=>match all with
    | [.ms b 0 sz n _,f]=>match JH cf.P g,s.H[b]?,jV (fun b=>(s.H[b]?).getD .gone) f with
     | some _,some (.cells cs t),some f'=>if jR [f] then none else
       some ({ fr:={ s.fr with tmps:=setT s.fr.tmps o.dst .any,todo:=.reg ops draw (i+1) :: k },cs:=s.cs,H:=s.H.set b (.cells (ys.map AV.d++cs.drop (n*sz)) t) },ds,
        .leN (n*sz) cs.length :: .prop (toDs (cs.take (n*sz))=some ((cs.take (n*sz)).map aD)) :: .eqN ys.length (n*sz) :: .prop (Qg cf.P cf.glob g sz n ((cs.take (n*sz)).map aD) f' ys) :: ps)
     | _,_,_=>none
    | _=>none
   | .extN :: ds=>match jbK all with
    | some nk=>some ({ fr:={ s.fr with tmps:=setT s.fr.tmps o.dst nk.val,todo:=.reg ops draw (i+1) :: k },cs:=s.cs,H:=s.H },ds,.prop (jea cf.P g nk) :: ps)
    | none=>none
   | .ext v :: ds=>match QB all,qp v with
    | some xs,some r=>some ({ fr:={ s.fr with tmps:=setT s.fr.tmps o.dst r,todo:=.reg ops draw (i+1) :: k },cs:=s.cs,H:=s.H },ds,.prop (∀ w,(callFunc g xs.toArray).run cf.P w=.ok (.value v) w) :: ps)
    | _,_=>none
   | ds=>match ka cf.P g all with
    | some fr=>some ({ fr:=fr,cs:={ s.fr with todo:=.regC ops draw i :: k } :: s.cs,H:=s.H },ds,ps)
    | none=>none
def jeD (cf:Cfg) (s:ASt) (ops:Array Oper) (i:Nat) (o:Oper) (k:List AItem) (ds:List Dec):SR :=
 match jaY ops s.fr.tmps o ds with
 | none=>none
 | some (false,ds,ps)=>some ({ s with fr:={ s.fr with tmps:=setT s.fr.tmps o.dst (.tup []),todo:=.reg ops false (i+1) :: k } },ds,ps)
 | some (true,ds,ps) =>
  match qe o.op with
  | some (f,args)=>qf cf s ops false i o k f args ds ps
  | none =>
   match jeX o.op ds with
   | (dc,ds) =>
    match jmh cf o (evA cf s.fr.tmps) (fun b=>((s.H++[.gone])[b]?).getD .gone) s.H.length dc with
    | some r=>fAV r.val fun v=>zL fId (setT s.fr.tmps o.dst v) fun T1 =>
     some ({ fr:={ s.fr with tmps:=T1,todo:=.reg ops false (i+1) :: k },cs:=s.cs,H:=match r.wr with
      | []=>s.H
      | wr=>dropGone (wr.foldl (fun H x=>H.set x.1 x.2) (s.H++[.gone])) },ds,r.pcs++ps)
    | none=>none
section
variable {cf:Cfg} {base:Nat} {w0:Start} {cs0:List Frame} {c:Ctx} {w:World}
theorem JT {fr:Frame} (hm:fr.mode=.run):fr=fr.atR { tmps:=fr.tmps,defers:=fr.defers } fr.todo:=by
 cases fr; simp [Frame.atR] at *; exact hm
theorem zm {ts:List AV} {us:Array Value} (h:Rels c w ts us.toList) (d:Option Tmp) {a:AV} {u:Value} (hr:Rel c w a u) (ds:List Deferred) :
  Rels c w (setT ts d a) (({ tmps:=us,defers:=ds }:Act).put d u).tmps.toList:=by
 cases d with
 | none=>exact h
 | some d=>simpa [setT,Act.put] using h.set d hr
theorem Y7 {f f':AFrame} {fr:Frame} {a:AV} {u:Value} (h:FRel c w f fr) (hr:Rel c w a u) (hf:zl f a=some f'):FRel c w f' (fr.finish u):=by
 obtain ⟨h1,h2,h3,h4,h5,h6,h7⟩:=h
 unfold zl at hf
 split at hf
 ·rename_i ops d i k htodo
  simp only [Option.some.injEq] at hf; subst hf
  rw [htodo] at h3
  obtain ⟨y,ys,hy,⟨is,rfl,his⟩,hk⟩:=h3
  have hfin:fr.finish u={ fr with tmps:=(({ tmps:=fr.tmps,defers:=fr.defers }:Act).put ((ops[i]?).bind (·.dst)) u).tmps,todo:=.inRegion ops is :: ys }:=by
   unfold Frame.finish
   rw [hy]
   cases hd:(ops[i]?).bind (·.dst) <;> simp only [hd,Act.put]
  rw [hfin]
  exact ⟨h1,zm h2 _ hr _,IRels.cons ⟨is,rfl,his⟩ hk,h4,h5,h6,h7⟩
 ·rename_i b k htodo
  simp only [Option.some.injEq] at hf; subst hf
  rw [htodo] at h3
  obtain ⟨y,ys,hy,⟨hl,rfl⟩,hk⟩:=h3
  have hfin:fr.finish u={ fr with todo:=.endRangeFunc (c.ρ b) :: ys }:=by
   unfold Frame.finish
   rw [hy]
  rw [hfin]
  exact ⟨h1,h2,IRels.cons ⟨hl,rfl⟩ hk,h4,h5,h6,h7⟩
 ·simp at hf
theorem FRelC.fin {f f':AFrame} {fr:Frame} {a:AV} (h:FRelC c w f fr) (hf:zl f a=some f'):FRel c w f fr:=by
 obtain ⟨d,h⟩:=h
 have:KP f d=f:=by
  unfold zl at hf
  split at hf
  ·rename_i ht; unfold KP; rw [ht]
  ·rename_i ht; unfold KP; rw [ht]
  ·simp at hf
 rwa [this] at h
theorem j8 {P:Program} (hn:YF P) {g:FuncId} {fn:Func} {cd:Code} (h:JH P g=some (fn,cd)) (args:Array Value) (w:World) :
  (callFunc g args).run P w=.ok (.enter g args) w∧P.funcs[g]? = some fn∧fn.body=some cd:=by
 unfold JH at h
 split at h
 ·rename_i fn' hfn
  split at h
  ·rename_i c' hb
   simp at h
   obtain ⟨rfl,rfl⟩:=h
   refine ⟨?_,hfn,hb⟩
   simp [callFunc,hfn,hb,show ¬ fn'.name = "runtime.NumGoroutine" from hn _ _ hfn]
  ·simp at h
 ·simp at h
theorem KE (hn:YF cf.P) {g:FuncId} {args:List AV} {us:List Value} {a:AFrame} (h:ka cf.P g args=some a) (hr:Rels c w args us) :
  FRel c w a (Frame.enter cf.P g us.toArray .normal)∧∀ w,(callFunc g us.toArray).run cf.P w=.ok (.enter g us.toArray) w:=by
 unfold ka at h
 split at h
 ·rename_i fn cd hc
  simp only [Option.some.injEq] at h; subst h
  obtain ⟨_,hfn,hb⟩:=j8 hn hc us.toArray w
  refine ⟨⟨rfl,?_,?_,⟨fun d hd=>by simp at hd,rfl⟩,rfl,rfl,rfl⟩,fun w=>(j8 hn hc us.toArray w).1⟩
  ·simp only [Frame.enter,hfn,Option.map_some,Option.getD_some]
   have:=hr.append (Rels.replicate (c:=c) (w:=w) (x:=.any) (u:=undef) Js (fn.ntmps - args.length))
   simpa [hr.length] using this
  ·simp only [Frame.enter,hfn,Option.bind_some,hb,Option.getD_some]
   exact IRels.cons rfl rfl
 ·simp at h
theorem KY {a:AV} {u:Value} {g:FuncId} {fs cs:List AV} (h:Rel c w a u) (hc:kC a=some (g,fs,cs)) :
  ∃ us vs:List Value,u=.func (.func g) us.toArray vs.toArray∧Rels c w fs us∧Rels c w cs vs:=by
 unfold kC at hc
 split at hc
 ·rename_i g' fs' cs'
  split at hc
  ·rename_i h0
   simp at hc
   obtain ⟨rfl,rfl,rfl⟩:=hc
   simp at h0
   unfold Rel RelD at h
   refine ⟨[],[],?_,Rels.nil,Rels.nil⟩
   rw [h.1]
   obtain ⟨h1,h2⟩:=h0
   simp [h1,h2]
  ·simp at hc
 ·simp at hc
  obtain ⟨rfl,rfl,rfl⟩:=hc
  unfold Rel at h
  obtain ⟨_,us,vs,hu,h1,h2⟩:=h
  exact ⟨us,vs,hu,h1,h2⟩
 ·simp at hc
theorem K8 {P:Program} {av:Operand→Value} {o:Oper} {f:Operand} {args:Array Operand} {ts:Array TypeId} (ho:o.op=.call { callee:=.value f,args:=args,argTypes:=ts }) {g:FuncId} {us vs:List Value}
  (hf:av f=.func (.func g) us.toArray vs.toArray) (w:World) :
  (execOp av o).run P w=(callFunc g (us++args.toList.map av++vs).toArray).run P w:=by
 have:(us.toArray++args.map av++vs.toArray)=(us++args.toList.map av++vs).toArray:=by
  apply Array.ext'; simp
 simp only [execOp,ho,resolve,hf,Deferred.ofValue,Sem.run_bind,Sem.run_pure,Result.andThen_ok,invoke,this]
theorem qC {fr:Frame} (hm:fr.mode=.run) {frs:List Frame} {ops:Array Oper} {i:Nat} {is:List Nat} {todo:List Item} (htodo:fr.todo=.inRegion ops (i :: is) :: todo) {o:Oper} (ho:ops[i]? = some o)
  (hw:Region.wanted o (yielded ops fr.tmps)=true) (hnd:∀ c,o.op≠.defer c) {v:Value} {w':World}
  (hr:(execOp ({ tmps:=fr.tmps,defers:=fr.defers }:Act).eval o).run cf.P w=.ok (.value v) w'∨((execOp ({ tmps:=fr.tmps,defers:=fr.defers }:Act).eval o).run cf.P w=.ok .skip w'∧v=undef)) :
  step cf.P (lone fr frs w)=.next (lone { fr with tmps:=(({ tmps:=fr.tmps,defers:=fr.defers }:Act).put o.dst v).tmps,todo:=.inRegion ops is :: todo } frs w'):=by
 have hfr:=JT hm
 rw [htodo] at hfr
 have hg:=stepGR_op (P:=cf.P) (b:=fr) (a:={ tmps:=fr.tmps,defers:=fr.defers }) (k:=todo) (cs:=frs) (w:=w) (rest:=is) ho hw
 rw [Oper.semAt_eq _ _ _ hnd] at hg
 have hfin:∀ v,(fr.atR { tmps:=fr.tmps,defers:=fr.defers } (.inRegion ops (i :: is) :: todo)).finish v=fr.atR (({ tmps:=fr.tmps,defers:=fr.defers }:Act).put o.dst v) (.inRegion ops is :: todo):=by
  intro v; rw [Frame.finish_atR,ho]; rfl
 have hres:fr.atR (({ tmps:=fr.tmps,defers:=fr.defers }:Act).put o.dst v) (.inRegion ops is :: todo)={ fr with tmps:=(({ tmps:=fr.tmps,defers:=fr.defers }:Act).put o.dst v).tmps,todo:=.inRegion ops is :: todo }:=by
  cases o.dst <;> (cases fr; simp [Frame.atR,Act.put] at *; exact hm.symm)
 rw [← hres,← hfin]
 conv=>lhs; rw [hfr]
 refine step_lone_go ?_
 rw [hg]
 rcases hr with hr | ⟨hr,rfl⟩ <;> simp [stepG.apply,hr]
theorem JQ {fr:Frame} (hm:fr.mode=.run) {frs:List Frame} {ops:Array Oper} {i:Nat} {is:List Nat} {todo:List Item} (htodo:fr.todo=.inRegion ops (i :: is) :: todo) {o:Oper} (ho:ops[i]? = some o)
  (hw:Region.wanted o (yielded ops fr.tmps)=true) (hnd:∀ c,o.op≠.defer c) {g:FuncId} {args:Array Value} {w':World}
  (hr:(execOp ({ tmps:=fr.tmps,defers:=fr.defers }:Act).eval o).run cf.P w=.ok (.enter g args) w') :
  step cf.P (lone fr frs w)=.next (lone (Frame.enter cf.P g args .normal) (fr :: frs) w'):=by
 have hfr:=JT hm
 rw [htodo] at hfr
 have hg:=stepGR_op (P:=cf.P) (b:=fr) (a:={ tmps:=fr.tmps,defers:=fr.defers }) (k:=todo) (cs:=frs) (w:=w) (rest:=is) ho hw
 rw [Oper.semAt_eq _ _ _ hnd] at hg
 conv=>lhs; rw [hfr]
 refine step_lone_go ?_
 rw [hg]
 conv=>rhs; rw [hfr]
 simp [stepG.apply,hr,Frame.atR]
theorem jb3 {fr:Frame} (hm:fr.mode=.run) {frs:List Frame} {ops:Array Oper} {i:Nat} {is:List Nat} {todo:List Item} (htodo:fr.todo=.inRegion ops (i :: is) :: todo) {o:Oper} (ho:ops[i]? = some o)
  (hw:Region.wanted o (yielded ops fr.tmps)=true) (hnd:∀ c,o.op≠.defer c) {l:Nat} {f:FuncId} {tmps:Array Value} {as bd:Code} {w':World}
  (hr:(execOp ({ tmps:=fr.tmps,defers:=fr.defers }:Act).eval o).run cf.P w=.ok (.round l f tmps as bd) w') :
  step cf.P (lone fr frs w)=.next (lone (Frame.round l f tmps as bd .normal) (fr :: frs) w'):=by
 have hfr:=JT hm
 rw [htodo] at hfr
 have hg:=stepGR_op (P:=cf.P) (b:=fr) (a:={ tmps:=fr.tmps,defers:=fr.defers }) (k:=todo) (cs:=frs) (w:=w) (rest:=is) ho hw
 rw [Oper.semAt_eq _ _ _ hnd] at hg
 conv=>lhs; rw [hfr]
 refine step_lone_go ?_
 rw [hg]
 conv=>rhs; rw [hfr]
 simp [stepG.apply,hr,Frame.atR]
theorem jfp {fr:Frame} (hm:fr.mode=.run) {frs:List Frame} {ops:Array Oper} {i:Nat} {is:List Nat} {todo:List Item} (htodo:fr.todo=.inRegion ops (i :: is) :: todo) {o:Oper} (ho:ops[i]? = some o)
  (hw:Region.wanted o (yielded ops fr.tmps)=false) :
  step cf.P (lone fr frs w)=.next (lone { fr with tmps:=(({ tmps:=fr.tmps,defers:=fr.defers }:Act).put o.dst undef).tmps,todo:=.inRegion ops is :: todo } frs w):=by
 have hfr:=JT hm
 rw [htodo] at hfr
 have hs:=stepR_op_skip (P:=cf.P) (b:=fr) (a:={ tmps:=fr.tmps,defers:=fr.defers }) (k:=todo) (cs:=frs) (w:=w) (ops:=ops) (i:=i) (rest:=is) (by simp [ho,hw])
 conv=>lhs; rw [hfr]
 rw [hs]
 congr 2
 rw [ho]
 simp only [Option.bind_some]
 cases o.dst <;> (cases fr; simp [Frame.atR,Act.put] at *; exact hm.symm)
theorem GY:Rel c w (.tup []) undef:=by
 unfold Rel; exact ⟨[],rfl,Rels.nil⟩
theorem zh {u:Value} (h:Rel c w (.tup []) u):u=.tuple #[]:=by
 unfold Rel at h
 obtain ⟨us,rfl,hs⟩:=h
 rw [hs.nil_inv]
theorem Q7 {ops:Array Oper} {tmps:List AV} {us:Array Value} (h:Rels c w tmps us.toList) {o:Oper} {ds ds':List Dec} {b:Bool} {ps:List PC} (hg:jaY ops tmps o ds=some (b,ds',ps)) (hp:AllP ps) :
  Region.wanted o (yielded ops us)=b:=by
 unfold jaY at hg
 unfold Region.wanted
 split at hg
 ·rename_i h0
  simp only [Option.some.injEq,Prod.mk.injEq] at hg
  rw [h0]
  exact hg.1
 ·rename_i j want h0
  rw [h0]
  split at hg
  ·simp at hg
  ·rename_i t ht
   split at hg
   ·rename_i b' r ds0 hb
    simp at hg
    obtain ⟨rfl,rfl,rfl⟩:=hg
    simp only [AllP,PC.holds,and_true] at hp
    obtain ⟨u,hu,hr⟩:=h.get t _ hb
    unfold Rel RelD at hr
    simp at hu
    simp only [yielded,ht,Option.bind_some,hu,hr.1,hp]
    cases r <;> cases want <;> rfl
   ·rename_i b' hb hnb
    simp at hg
    obtain ⟨rfl,rfl,rfl⟩:=hg
    obtain ⟨u,hu,hr⟩:=h.get t _ hb
    unfold Rel RelD at hr
    simp at hu
    simp only [yielded,ht,Option.bind_some,hu,hr.1]
    cases b' <;> cases want <;> rfl
   ·rename_i hb
    simp at hg
    obtain ⟨rfl,rfl,rfl⟩:=hg
    obtain ⟨u,hu,hr⟩:=h.get t _ hb
    simp at hu
    simp only [yielded,ht,Option.bind_some,hu,zh hr]
    rfl
   ·rename_i hb hnb
    simp at hg
    obtain ⟨rfl,rfl,rfl⟩:=hg
    obtain ⟨u,hu,hr⟩:=h.get t _ hb
    simp at hu
    simp only [yielded,ht,Option.bind_some,hu,zh hr]
    rfl
   ·simp at hg
end
end Go.Kv
