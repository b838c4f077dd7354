import Derived.Test.YtdelimpnnpifpaaGreatDoorKvGa
set_option linter.all false
namespace Go.Kv
open Go Go.RowKit
section
variable {cf:Cfg} {base:Nat} {w0:Start} {c:Ctx} {w:World} {H:List ABlk} {get:Nat→ABlk}
def orE (a b:Option ARes):Option ARes:=match a with
 | some r=>some r
 | none=>b
def eqS (a b:ByteArray):Bool:=a.toList==b.toList
def jmJ (cf:Cfg) (o:Oper) (op:BinOp) (t:TypeId) (x y:AV) (ev:Operand→AV):Option ARes :=
 match x,y with
 | .d (.v (.int k a)),.d (.v (.int k' b)) =>
  match jaV op k a b with
  | some (v,ps)=>some ⟨ps,.d (.v v),[]⟩
  | none=>if k=k' then
    match jhX cf.ex op k a b with
    | some (v,ps)=>some ⟨ps,.d (.v v),[]⟩
    | none=>Jx cf o ev
   else none
 | .d (.v (.string a)),.d (.v (.string b)) =>
  match op with
  | .add=>some ⟨[.le ((a.size+b.size:Nat):Int) 9223372036854775807],.d (.v (.string (a++b))),[]⟩
  | .eql=>some ⟨[],.d (.v (.bool (eqS a b))),[]⟩
  | .neq=>some ⟨[],.d (.v (.bool (!eqS a b))),[]⟩
  | _=>Jx cf o ev
 | .d (.v (.float k a)),.d (.v (.float k' b)) =>
  if k=k' then
   match Gh op k a b with
   | some (v,ps)=>some ⟨ps,.d (.v v),[]⟩
   | none=>Jx cf o ev
  else none
 | .agg _,.agg _ =>
  match jcX op,x.full,y.full with
  | some e,some a,some b =>
   if cf.P.eqGuardType cf.P.depth t then none else
   match eqD cf.P 10000 t a b with
   | some r=>some ⟨[],.d (.v (.bool (if e then r else !r))),[]⟩
   | none=>none
  | _,_,_=>none
 | _,_=>Jx cf o ev
theorem jqd:IntKind.i64.max=9223372036854775807:=by
 simp [IntKind.max,IntKind.signed,IntKind.bits]
theorem qG {v:Value} (h:Zn v=true):Rel c w (.d (.v v)) v:=by
 unfold Rel RelD; exact ⟨rfl,by rw [← Z0]; exact h⟩
theorem jlI (h:WRel base w0 c w H) {av:Operand→Value} {ev:Operand→AV} (hev:∀ x,Rel c w (ev x) (av x)) {o:Oper} {op:BinOp} {t t':TypeId} {x y:Operand} (ho:o.op=.binOp op t x y t') {r:ARes}
  (hr:jmJ cf o op t (ev x) (ev y) ev=some r) (hp:AllP r.pcs):OpOk cf base w0 c w H av o r:=by
 have hx:=hev x
 have hy:=hev y
 unfold jmJ at hr
 split at hr
 ·rename_i k a k' b hex hey
  rw [hex] at hx; rw [hey] at hy
  unfold Rel RelD at hx hy
  split at hr
  ·rename_i v ps hsh
   simp only [Option.some.injEq] at hr; subst hr
   obtain ⟨h1,h2,h3⟩:=jdF (P:=cf.P) (k':=k') (t:=t) hsh hp w x y
   refine OpOk.same h ?_ (qG h3)
   simp [execOp,ho,hx.1,hy.1,h1,h2]
  ·split at hr
   ·rename_i hk
    subst hk
    split at hr
    ·rename_i v ps hio
     simp only [Option.some.injEq] at hr; subst hr
     obtain ⟨h1,h2,h3⟩:=jf8 (P:=cf.P) (t:=t) hio hp w x y
     refine OpOk.same h ?_ (qG h3)
     simp [execOp,ho,hx.1,hy.1,h1,h2]
    ·exact Jg h hev hr
   ·simp at hr
 ·rename_i a b hex hey
  rw [hex] at hx; rw [hey] at hy
  unfold Rel RelD at hx hy
  split at hr
  ·simp only [Option.some.injEq] at hr; subst hr
   simp only [AllP,PC.holds,and_true] at hp
   refine OpOk.same h ?_ (qG rfl)
   have hn:¬ (((a.size+b.size:Nat):Int)>IntKind.i64.max):=by rw [jqd]; omega
   have:(Op.stringOp .add a b).run cf.P w=.ok (.string (a++b)) w:=by
    simp only [Op.stringOp,if_neg hn]; rfl
   simp [execOp,ho,hx.1,hy.1,eqGuard,binOp,this]
  ·simp only [Option.some.injEq] at hr; subst hr
   refine OpOk.same h ?_ (qG rfl)
   have:(Op.stringOp .eql a b).run cf.P w=.ok (.bool (eqS a b)) w:=rfl
   simp [execOp,ho,hx.1,hy.1,eqGuard,binOp,this]
  ·simp only [Option.some.injEq] at hr; subst hr
   refine OpOk.same h ?_ (qG rfl)
   have:(Op.stringOp .neq a b).run cf.P w=.ok (.bool (!eqS a b)) w:=rfl
   simp [execOp,ho,hx.1,hy.1,eqGuard,binOp,this]
  ·exact Jg h hev hr
 ·rename_i k a k' b hex hey
  rw [hex] at hx; rw [hey] at hy
  unfold Rel RelD at hx hy
  split at hr
  ·rename_i hk
   subst hk
   split at hr
   ·rename_i v ps hio
    simp only [Option.some.injEq] at hr; subst hr
    obtain ⟨h1,h2,h3⟩:=jbM (P:=cf.P) (t:=t) hio hp w x y
    refine OpOk.same h ?_ (qG h3)
    simp [execOp,ho,hx.1,hy.1,h1,h2]
   ·exact Jg h hev hr
  ·simp at hr
 ·rename_i as bs hex hey
  split at hr
  ·rename_i e a b he hfa hfb
   split at hr
   ·simp at hr
   rename_i hg
   split at hr
   ·rename_i r' hr'
    simp only [Option.some.injEq] at hr; subst hr
    refine OpOk.same h ?_ (qG rfl)
    have e1:=hx.full hfa
    have e2:=hy.full hfb
    have ha:∃ xs,a=.agg xs:=by
     rw [hex] at hfa; simp only [AV.full] at hfa
     split at hfa
     ·simp at hfa; exact ⟨_,hfa.symm⟩
     ·simp at hfa
    have hb:∃ xs,b=.agg xs:=by
     rw [hey] at hfb; simp only [AV.full] at hfb
     split at hfb
     ·simp at hfb; exact ⟨_,hfb.symm⟩
     ·simp at hfb
    obtain ⟨xs,rfl⟩:=ha
    obtain ⟨ys,rfl⟩:=hb
    have hq:=je7 (P:=cf.P) 10000 t _ _ r' hr' w
    have hgd:=run_eqGuard_agg (P:=cf.P) w op t x y xs ys (by simpa using hg)
    cases op <;> simp [jcX] at he
    ·subst he
     have:=run_eql_struct (P:=cf.P) w t xs ys
     rw [hq] at this
     simp [execOp,ho,e1,e2,hgd,this]
    ·subst he
     have:=run_neq_struct (P:=cf.P) w t xs ys
     rw [hq] at this
     simp [execOp,ho,e1,e2,hgd,this]
   ·simp at hr
  ·simp at hr
 ·exact Jg h hev hr
def unA (cf:Cfg) (o:Oper) (op:UnOp) (x:AV) (ev:Operand→AV):Option ARes :=
 match op,x with
 | .neg,.d (.v (.int .i64 n))=>if cf.ex then some ⟨[.in64 (-n)],.d (.v (.int .i64 (-n))),[]⟩ else Jx cf o ev
 | _,_=>Jx cf o ev
theorem jpa (h:WRel base w0 c w H) {av:Operand→Value} {ev:Operand→AV} (hev:∀ x,Rel c w (ev x) (av x)) {o:Oper} {op:UnOp} {t:TypeId} {x:Operand} (ho:o.op=.unOp op t x) {r:ARes}
  (hr:unA cf o op (ev x) ev=some r) (hp:AllP r.pcs):OpOk cf base w0 c w H av o r:=by
 have hx:=hev x
 unfold unA at hr
 split at hr
 ·rename_i n hex
  split at hr
  ·simp only [Option.some.injEq] at hr; subst hr
   simp only [AllP,PC.holds,and_true] at hp
   rw [hex] at hx; unfold Rel RelD at hx
   refine OpOk.same h ?_ (qG rfl)
   have:IntKind.i64.wrap (0 - n) = -n:=by rw [show (0 - n:Int) = -n by omega]; exact zc hp
   simp only [execOp,ho,hx.1,Op.unary,Op.intArith,this]; rfl
  ·exact Jg h hev hr
 ·exact Jg h hev hr
def ja0:AV→Option Nat
 | .em=>some 0
 | .own _ _ _ n _=>some n
 | .d (.sl n _)=>some n
 | .ms _ _ _ n _=>some n
 | .gx _ (.s _ _ n)=>some n
 | .gx _ (.r _ m)=>some m
 | _=>none
theorem jm2 {a:AV} {u:Value} {n:Nat} (h:Rel c w a u) (hn:ja0 a=some n):∃ b cap,u=.slice b n cap∧True:=by
 cases a with
 | d x =>
  cases x with
  | v=>simp [ja0] at hn
  | sl m xs =>
   simp [ja0] at hn; subst hn
   unfold Rel RelD at h
   obtain ⟨bk,off,cap,us,hu,_⟩:=h
   rcases hu with rfl | ⟨⟨o,rfl⟩,rfl,_⟩
   ·exact ⟨_,cap,rfl,trivial⟩
   ·exact ⟨_,0,rfl,trivial⟩
 | own =>
  simp [ja0] at hn; subst hn
  unfold Rel at h
  obtain ⟨bk,off,cap,us,rfl,_⟩:=h
  exact ⟨_,cap,rfl,trivial⟩
 | em=>simp [ja0] at hn; subst hn; unfold Rel at h; obtain ⟨o,rfl⟩:=h; exact ⟨_,_,rfl,trivial⟩
 | ms=>simp [ja0] at hn; subst hn; unfold Rel at h; obtain ⟨_,_,_,_,rfl⟩:=h; exact ⟨_,_,rfl,trivial⟩
 | gx b x =>
  cases x <;> simp [ja0] at hn
  ·subst hn
   unfold Rel GRel at h
   obtain ⟨_,_,_,_,cap,_,rfl,_⟩:=h
   exact ⟨_,cap,rfl,trivial⟩
  ·subst hn
   unfold Rel GRel at h
   obtain ⟨_,_,_,cap,_,rfl⟩:=h
   exact ⟨_,cap,rfl,trivial⟩
 | _=>simp [ja0] at hn
def jpy (cf:Cfg) (ts:Array TypeId) (a:AV):Option ARes :=
 match ts.toList with
 | [t]=>match cf.P.underlying t,ja0 a with
  | some (.slice _),some n=>some ⟨[],.d (.v (.int .i64 n)),[]⟩
  | _,_=>none
 | _=>none
theorem jl8 {ts:Array TypeId} {ty:TypeId} {a:AV} {u:Value} (h:Rel c w a u) {r:ARes} (hr:jpy cf ts a=some r) :
  ∃ v,(Builtin.len_ ts ty #[u]).run cf.P w=.ok v w∧Rel c w r.val v∧r.wr=[]:=by
 unfold jpy at hr
 split at hr
 ·rename_i t hts
  have hts:ts=#[t]:=by rw [← Array.toArray_toList (xs:=ts),hts]
  subst hts
  split at hr
  ·rename_i e n hd hn
   simp only [Option.some.injEq] at hr; subst hr
   obtain ⟨b,cap,rfl,_⟩:=jm2 h hn
   exact ⟨_,by simp [Builtin.len_,run_underlying hd]; rfl,qG rfl,rfl⟩
  ·simp at hr
 ·simp at hr
def jhd (cf:Cfg) (arr:TypeId) (a:AV):Option ARes :=
 match cf.P.underlying arr with
 | some (.array k _) =>
  match a with
  | .d (.sl n xs)=>if k==0 then none else some ⟨[.leN k n],.ip xs,[]⟩
  | .own _ _ _ n xs=>some ⟨[.leN k n],.ip xs,[]⟩
  | .ms b off _ n _=>some ⟨[.leN k n],.ptr b off,[]⟩
  | _=>none
 | _=>none
theorem jld {arr:TypeId} {a:AV} {u:Value} (h:Rel c w a u) {r:ARes} (hr:jhd cf arr a=some r) (hp:AllP r.pcs) :
  ∃ v,(Instr.arrayAt arr u).run cf.P w=.ok v w∧Rel c w r.val v∧r.wr=[]:=by
 unfold jhd at hr
 split at hr
 ·rename_i k e hd
  have run:∀ (b:Option Addr) (n cap:Nat),k≤n→(Instr.arrayAt arr (.slice b n cap)).run cf.P w=.ok (.pointer b) w:=by
   intro b n cap hk
   have:¬ n<k:=by omega
   simp [Instr.arrayAt,run_underlying hd,this]
  split at hr
  ·split at hr
   ·simp at hr
   rename_i hk0
   have hk0:k≠0:=by simpa using hk0
   simp only [Option.some.injEq] at hr; subst hr
   simp only [AllP,PC.holds,and_true] at hp
   unfold Rel RelD at h
   obtain ⟨bk,off,cap,us,hu,h1,h2,h3,h4⟩:=h
   have hu:=hu.pos (by omega)
   subst hu
   exact ⟨_,run _ _ _ hp,by unfold Rel; exact ⟨bk,off,us,rfl,h1,h3,h4⟩,rfl⟩
  ·simp only [Option.some.injEq] at hr; subst hr
   simp only [AllP,PC.holds,and_true] at hp
   unfold Rel at h
   obtain ⟨bk,off,cap,us,rfl,h1,h2,h3,h4,_⟩:=h
   exact ⟨_,run _ _ _ hp,by unfold Rel; exact ⟨bk,off,us,rfl,h1,h3,h4⟩,rfl⟩
  ·simp only [Option.some.injEq] at hr; subst hr
   simp only [AllP,PC.holds,and_true] at hp
   unfold Rel at h
   obtain ⟨h1,_,_,_,rfl⟩:=h
   exact ⟨_,run _ _ _ hp,by unfold Rel; exact ⟨h1,rfl⟩,rfl⟩
  ·simp at hr
 ·simp at hr
def jfj (P:Program) (t:TypeId) (cs:List AV) (off:Nat) (dc:Dec):Option ARes :=
 match QT P t with
 | some (sz,ag) =>
  if ag then some ⟨[],.agg ((cs.drop off).take sz),[]⟩
  else match dc with
   | .as y=>some ⟨[.prop (cs[off]? = some y)],y,[]⟩
   | _=>match cs[off]? with
    | some y=>some ⟨[],y,[]⟩
    | none=>none
 | none=>none
theorem jdd {P:Program} {t:TypeId} {cs:List AV} {us:List Value} {off:Nat} {dc:Dec} (hs:Rels c w cs us) {r:ARes} (hr:jfj P t cs off dc=some r) (hp:AllP r.pcs) :
  ∃ v,(part t us.toArray off).run P w=.ok v w∧Rel c w r.val v∧r.wr=[]:=by
 unfold jfj QT at hr
 split at hr
 ·rename_i sz ag hsz
  split at hsz
  ·rename_i i d hi hd
   simp at hsz
   obtain ⟨rfl,rfl⟩:=hsz
   split at hr
   ·rename_i hag
    simp only [Option.some.injEq] at hr; subst hr
    refine ⟨.agg (us.toArray.extract off (off+i.size)),?_,?_,rfl⟩
    ·simp only [part,Sem.run_bind,ql hd,Result.andThen_ok,hag,if_true,jY hi,Sem.run_pure]
    ·unfold Rel
     refine ⟨(us.drop off).take i.size,?_,(hs.drop off).take _⟩
     congr 1
     apply Array.ext'
     simp [List.extract_eq_take_drop]
   ·rename_i hag
    have key:∀ y,cs[off]? = some y→∃ v,(part t us.toArray off).run P w=.ok v w∧Rel c w y v:=by
     intro y hy
     obtain ⟨v,hv,hrel⟩:=hs.get off y hy
     refine ⟨v,?_,hrel⟩
     simp only [part,Sem.run_bind,ql hd,Result.andThen_ok,hag,Bool.false_eq_true,if_false]
     simp [hv]
    split at hr
    ·simp only [Option.some.injEq] at hr; subst hr
     simp only [AllP,PC.holds,and_true] at hp
     obtain ⟨v,h1,h2⟩:=key _ hp
     exact ⟨v,h1,h2,rfl⟩
    ·split at hr
     ·rename_i y hy
      simp only [Option.some.injEq] at hr; subst hr
      obtain ⟨v,h1,h2⟩:=key y hy
      exact ⟨v,h1,h2,rfl⟩
     ·simp at hr
  ·simp at hsz
 ·simp at hr
def jd2 (cf:Cfg) (t:TypeId) (a:AV) (f:Nat) (dc:Dec):Option ARes :=
 match cf.P.underlying t,a with
 | some (.struct fields),.agg cs=>match fields[f]? with
  | some fd=>jfj cf.P fd.type cs fd.offset dc
  | none=>none
 | _,_=>none
theorem jgy {t:TypeId} {a:AV} {u:Value} {f:Nat} {dc:Dec} (h:Rel c w a u) {r:ARes} (hr:jd2 cf t a f dc=some r) (hp:AllP r.pcs) :
  ∃ v,(Instr.field t u f).run cf.P w=.ok v w∧Rel c w r.val v∧r.wr=[]:=by
 unfold jd2 at hr
 split at hr
 ·rename_i fields cs hd
  split at hr
  ·rename_i fd hf
   unfold Rel at h
   obtain ⟨us,rfl,hs⟩:=h
   obtain ⟨v,h1,h2,h3⟩:=jdd hs hr hp
   exact ⟨v,by simp [Instr.field,run_underlying hd,hf,asAgg,h1],h2,h3⟩
  ·simp at hr
 ·simp at hr
def jeR (cf:Cfg) (t:TypeId) (a i:AV) (dc:Dec):Option ARes :=
 match cf.P.underlying t,a,Q0 i with
 | some (.array len e),.agg cs,some i=>match cf.P.info? e with
  | some ie=>match jfj cf.P e cs (i.toNat*ie.size) dc with
   | some r=>some ⟨.le 0 i :: .lt i len :: r.pcs,r.val,r.wr⟩
   | none=>none
  | none=>none
 | some .string,.d (.v (.string s)),some i=>some ⟨[.le 0 i,.ltN i.toNat s.size],.d (.v (.int .u8 (s.data.toList.getD i.toNat 0).toNat)),[]⟩
 | _,_,_=>none
theorem jgd {t:TypeId} {a i:AV} {u x:Value} {dc:Dec} (h:Rel c w a u) (hx:Rel c w i x) {r:ARes} (hr:jeR cf t a i dc=some r) (hp:AllP r.pcs) :
  ∃ v,(Instr.index t u x).run cf.P w=.ok v w∧Rel c w r.val v∧r.wr=[]:=by
 unfold jeR at hr
 split at hr
 ·rename_i len e cs n hd hn
  obtain ⟨k,rfl⟩:=hx.int hn
  split at hr
  ·rename_i ie hie
   split at hr
   ·rename_i r' hr'
    simp only [Option.some.injEq] at hr; subst hr
    simp only [AllP] at hp
    unfold Rel at h
    obtain ⟨us,rfl,hs⟩:=h
    obtain ⟨v,h1,h2,h3⟩:=jdd hs hr' hp.2.2
    have hp1:0≤n:=hp.1
    have hp2:n<(len:Int):=hp.2.1
    exact ⟨v,by simp [Instr.index,asIntOf,run_underlying hd,hp1,hp2,jY hie,h1],h2,h3⟩
   ·simp at hr
  ·simp at hr
 ·rename_i s n hd hn
  obtain ⟨k,rfl⟩:=hx.int hn
  simp only [Option.some.injEq] at hr; subst hr
  simp only [AllP,PC.holds,and_true] at hp
  unfold Rel RelD at h
  obtain ⟨rfl,_⟩:=h
  refine ⟨_,?_,qG rfl,rfl⟩
  have hs:n.toNat<s.data.toList.length:=by simpa using hp.2
  have hg:s[n.toNat]? = some (s.data.toList.getD n.toNat 0):=by
   rw [getElem?_pos s n.toNat hp.2]
   simp [List.getD,List.getElem?_eq_getElem hs]
   rfl
  simp [Instr.index,asIntOf,run_underlying hd,hp.1,hg]
 ·simp at hr
def gb (a:AV) (i:Nat):Option ARes :=
 match a with
 | .tup vs=>match vs[i]? with
  | some x=>some ⟨[],x,[]⟩
  | none=>none
 | _=>none
theorem jbY {a:AV} {u:Value} {i:Nat} (h:Rel c w a u) {r:ARes} (hr:gb a i=some r) :
  ∃ v,(Instr.extract u i).run cf.P w=.ok v w∧Rel c w r.val v∧r.wr=[]:=by
 unfold gb at hr
 split at hr
 ·rename_i vs
  split at hr
  ·rename_i x hx
   simp only [Option.some.injEq] at hr; subst hr
   unfold Rel at h
   obtain ⟨us,rfl,hs⟩:=h
   obtain ⟨v,hv,hrel⟩:=hs.get i x hx
   exact ⟨v,by simp [Instr.extract,hv],hrel,rfl⟩
  ·simp at hr
 ·simp at hr
def evs (ev:Operand→AV):List Operand→List AV
 | []=>[]
 | x :: xs=>ev x :: evs ev xs
theorem zy {ev:Operand→AV} {av:Operand→Value} (hev:∀ x,Rel c w (ev x) (av x)):∀ xs,Rels c w (evs ev xs) (xs.map av)
 | []=>Rels.nil
 | x :: xs=>Rels.cons (hev x) (zy hev xs)
def jeZ:Fn→Bool
 | .yield _=>true
 | _=>false
def yy (f:Fn) (first captured:Array Operand) (ev:Operand→AV):Option ARes :=
 if jeZ f then none else some ⟨[],.fn f (evs ev first.toList) (evs ev captured.toList),[]⟩
def yo (cf:Cfg) (o:Oper) (x:AV) (ev:Operand→AV):Option ARes :=
 match x with
 | .ptr b off=>some ⟨[],.ptr b off,[]⟩
 | .ip cs=>some ⟨[],.ip cs,[]⟩
 | .yl b=>some ⟨[],.yl b,[]⟩
 | .fn (.func g) fs cs=>some ⟨[],.fn (.func g) fs cs,[]⟩
 | _=>Jx cf o ev
def jm3 (known:Bool):AV→Option (Bool × List PC)
 | .d (.v (.bool p))=>some (p,[])
 | .opt g (.d (.v (.bool p)))=>some (p,[.eqB (!known||g) true])
 | _=>none
theorem jfD {known:Bool} {a:AV} {u:Value} {p:Bool} {ps:List PC} (h:Rel c w a u) (ho:jm3 known a=some (p,ps)) (hp:AllP ps) (hk:known=true):u=.bool p:=by
 unfold jm3 at ho
 split at ho
 ·simp at ho; obtain ⟨rfl,rfl⟩:=ho
  unfold Rel RelD at h; exact h.1
 ·simp at ho; obtain ⟨rfl,rfl⟩:=ho
  simp only [AllP,PC.holds,and_true] at hp
  subst hk
  unfold Rel at h
  have h:=h (by simpa using hp)
  unfold Rel RelD at h; exact h.1
 ·simp at ho
def jjH (cf:Cfg) (o:Oper) (x a b:AV) (ev:Operand→AV) (dc:Dec):Option ARes :=
 match dc,x with
 | .br t,.d (.v (.bool b'))=>some ⟨[.eqB b' t],if t then a else b,[]⟩
 | .none,.d (.v (.bool b'))=>some ⟨[],if b' then a else b,[]⟩
 | .mg,.d (.v (.bool b'))=>match jm3 b' a,jm3 (!b') b with
  | some (p,ps),some (q,qs)=>some ⟨ps++qs,.d (.v (.bool (if b' then p else q))),[]⟩
  | _,_=>none
 | _,_=>Jx cf o ev
def jmW (dc:Dec) (r:Option ARes):Option ARes:=match dc with
 | .mg=>r
 | _=>none
theorem jfm {dc:Dec} {x:Option ARes} {r:ARes} (h:jmW dc x=some r):x=some r:=by
 unfold jmW at h
 split at h
 ·exact h
 ·simp at h
def aop (cf:Cfg) (o:Oper) (ev:Operand→AV) (get:Nat→ABlk) (nm:Nat) (dc:Dec):Option ARes :=
 match o.op with
 | .move x=>some ⟨[],ev x,[]⟩
 | .assign x=>some ⟨[],ev x,[]⟩
 | .pick x a b=>jjH cf o (ev x) (ev a) (ev b) ev dc
 | .alloc t=>jeJ cf t nm
 | .box t x=>jol t (ev x) nm
 | .build t ps=>orE (ja3 cf t ev ps) (Jx cf o ev)
 | .buildSlice t len ps=>K2 cf (jmQ cf o) t len ev ps nm
 | .load t a=>orE (Qp cf t (ev a) get dc) (Qw cf t (ev a) get dc)
 | .store t a x=>orE (QG cf t (ev a) (ev x) get dc) (kZ cf t (ev a) (ev x) get)
 | .nilCheck x=>yo cf o (ev x) ev
 | .binOp op t x y _=>orE (jbj op (ev x) (ev y)) (orE (jeo cf op t (ev x) (ev y)) (jmJ cf o op t (ev x) (ev y) ev))
 | .unOp op _ x=>unA cf o op (ev x) ev
 | .sliceToArrayPointer arr x=>jhd cf arr (ev x)
 | .makeFunc f first captured=>orE (Jx cf o ev) (yy f first captured ev)
 | .slice t x lo hi mx=>orE (jbk cf t ev x lo hi mx) (orE (zr cf t ev x lo hi mx) (orE (zi cf t ev x lo hi mx) (Jx cf o ev)))
 | .makeSlice t l cp=>zZ cf t (ev l) (ev cp) nm dc
 | .fieldAddr s x f=>Zh cf s (ev x) f
 | .field t x f=>orE (jd2 cf t (ev x) f dc) (Jx cf o ev)
 | .indexAddr t x i=>orE (z7 cf t (ev x) (ev i)) (jba cf t (ev x) (ev i))
 | .index t x i=>jeR cf t (ev x) (ev i) dc
 | .extract t i=>gb (ev t) i
 | .call { callee:=.builtin .len,args,argTypes }=>match args.toList with
  | [x]=>orE (jpy cf argTypes (ev x)) (Jx cf o ev)
  | _=>none
 | .call { callee:=.builtin .append,args,argTypes }=>match args.toList with
  | [s,x]=>orE (jmW dc (zp cf argTypes (ev s) (ev x) get nm)) (orE (jfV dc (yW cf argTypes (ev s) (ev x) get nm)) (orE (zu cf argTypes (ev s) (ev x) get nm dc) (KC cf argTypes (ev s) (ev x) get)))
  | _=>none
 | .call { callee:=.builtin .copy,args,argTypes }=>match args.toList with
  | [d,s]=>yi cf argTypes (ev d) (ev s) get
  | _=>none
 | .call { callee:=.builtin _,.. }=>Jx cf o ev
 | .convert s d x=>orE (QM cf s d (ev x)) (orE (YK cf s d (ev x)) (orE (Yb cf s d (ev x) get) (orE (z6 cf s d (ev x) get) (Jx cf o ev))))
 | .makeInterface _ _=>Jx cf o ev
 | .makeMap t r=>Y0 cf t r nm
 | .lookup t x i ok=>K5 cf t (ev x) (ev i) ok get dc
 | .mapUpdate t m k x=>kD cf t (ev m) (ev k) (ev x) get
 | .insert t m k x=>kD cf t (ev m) (ev k) (ev x) get
 | _=>none
theorem Ji {av:Operand→Value} {o:Oper} {r:ARes} (h:WRel base w0 c w H) (hk:∃ v,(execOp av o).run cf.P w=.ok (.value v) w∧Rel c w r.val v∧r.wr=[]):OpOk cf base w0 c w H av o r:=by
 obtain ⟨v,h1,h2,h3⟩:=hk
 exact ⟨w,c,v,.inl h1,Ctx.Le.refl c w,by rw [h3]; exact h,h2⟩
theorem JA {a b:Option ARes} {r:ARes} (h:orE a b=some r):a=some r∨b=some r:=by
 unfold orE at h
 split at h
 ·exact .inl (by simpa using h)
 ·exact .inr h
theorem jbH (h:WRel base w0 c w H) (hget:∀ b,get b=(H[b]?).getD .gone) {nm:Nat} (hnm:H[nm]? = some .gone) {av:Operand→Value} {ev:Operand→AV} (hev:∀ x,Rel c w (ev x) (av x)) {o:Oper} {dc:Dec} {r:ARes}
  (hr:aop cf o ev get nm dc=some r) (hp:AllP r.pcs):OpOk cf base w0 c w H av o r:=by
 unfold aop at hr
 split at hr
 ·rename_i x ho
  simp only [Option.some.injEq] at hr; subst hr
  exact OpOk.same h (by simp [execOp,ho]) (hev x)
 ·rename_i x ho
  simp only [Option.some.injEq] at hr; subst hr
  exact OpOk.same h (by simp [execOp,ho]) (hev x)
 ·rename_i x a b ho
  unfold jjH at hr
  split at hr
  ·rename_i t b' hx
   simp only [Option.some.injEq] at hr; subst hr
   simp only [AllP,PC.holds,and_true] at hp
   have hx':=hev x
   rw [hx] at hx'; unfold Rel RelD at hx'
   subst hp
   refine OpOk.same (v:=if b' then av a else av b) h (by simp [execOp,ho,hx'.1,asBool]) ?_
   cases b'
   ·simpa using hev b
   ·simpa using hev a
  ·rename_i b' hx
   simp only [Option.some.injEq] at hr; subst hr
   have hx':=hev x
   rw [hx] at hx'; unfold Rel RelD at hx'
   refine OpOk.same (v:=if b' then av a else av b) h (by simp [execOp,ho,hx'.1,asBool]) ?_
   cases b'
   ·simpa using hev b
   ·simpa using hev a
  ·rename_i b' hx
   split at hr
   ·rename_i p ps q qs h1 h2
    simp only [Option.some.injEq] at hr; subst hr
    obtain ⟨hp1,hp2⟩:=AllP.append hp
    have hx':=hev x
    rw [hx] at hx'; unfold Rel RelD at hx'
    have e:(if b' then av a else av b)=.bool (if b' then p else q):=by
     cases b' with
     | true=>simpa using jfD (hev a) h1 hp1 rfl
     | false=>simpa using jfD (hev b) h2 hp2 rfl
    refine OpOk.same (v:=.bool (if b' then p else q)) h (by simp [execOp,ho,hx'.1,asBool,e]) (qG rfl)
   ·simp at hr
  ·exact Jg h hev hr
 ·rename_i t ho
  obtain ⟨w',c',v,h1,h2,h3,h4⟩:=jf7 h hnm hr
  exact ⟨w',c',v,.inl (by simp [execOp,ho,h1]),h2,h3,h4⟩
 ·rename_i t x ho
  obtain ⟨w',c',v,h1,h2,h3,h4⟩:=jlP (cf:=cf) h hnm (hev x) hr
  exact ⟨w',c',v,.inl (by simp [execOp,ho,h1]),h2,h3,h4⟩
 ·rename_i t ps ho
  rcases JA hr with hr | hr
  ·obtain ⟨v,h1,h2,h3⟩:=jfW hev hr
   exact Ji h ⟨v,by simp only [execOp,ho,Sem.run_bind,h1]; rfl,h2,h3⟩
  ·exact Jg h hev hr
 ·rename_i t len ps ho
  obtain ⟨w',c',v,h1,h2,h3,h4⟩:=gM h hnm hev hr
  exact ⟨w',c',v,.inl (by simp only [execOp,ho,Sem.run_bind,h1]; rfl),h2,h3,h4⟩
 ·rename_i t a ho
  rcases JA hr with hr | hr
  ·obtain ⟨v,h1,h2,h3⟩:=jdt h hget (hev a) hr hp
   exact Ji h ⟨v,by simp [execOp,ho,h1],h2,h3⟩
  ·obtain ⟨v,h1,h2,h3⟩:=jgF h hget (hev a) hr hp
   exact Ji h ⟨v,by simp [execOp,ho,h1],h2,h3⟩
 ·rename_i t a x ho
  rcases JA hr with hr | hr
  ·obtain ⟨w',h1,h2,h3,h4⟩:=jf9 h hget (hev a) (hev x) hr hp
   exact ⟨w',c,undef,.inr ⟨by simp [execOp,ho,h1],rfl⟩,h2,h3,by rw [h4]; unfold Rel; trivial⟩
  ·obtain ⟨w',c',h1,h2,h3,h4⟩:=jdP h hget (hev a) (hev x) hr hp
   exact ⟨w',c',undef,.inr ⟨by simp [execOp,ho,h1],rfl⟩,h2,h3,by rw [h4]; unfold Rel; trivial⟩
 ·rename_i x ho
  have hx:=hev x
  unfold yo at hr
  split at hr
  ·rename_i b off he
   simp only [Option.some.injEq] at hr; subst hr
   rw [he] at hx
   have hx':=hx
   unfold Rel at hx'
   exact OpOk.same (v:=av x) h (by simp [execOp,ho,hx'.2]) hx
  ·rename_i cs he
   simp only [Option.some.injEq] at hr; subst hr
   rw [he] at hx
   have hx':=hx
   unfold Rel at hx'
   obtain ⟨bk,off,us,hu,_⟩:=hx'
   exact OpOk.same (v:=av x) h (by simp [execOp,ho,hu]) hx
  ·rename_i b he
   simp only [Option.some.injEq] at hr; subst hr
   rw [he] at hx
   have hx':=hx
   unfold Rel at hx'
   exact OpOk.same (v:=av x) h (by simp [execOp,ho,hx'.2]) hx
  ·rename_i g fs cs he
   simp only [Option.some.injEq] at hr; subst hr
   rw [he] at hx
   have hx':=hx
   unfold Rel at hx'
   obtain ⟨_,us,vs,hu,_⟩:=hx'
   exact OpOk.same (v:=av x) h (by simp [execOp,ho,hu]) hx
  ·exact Jg h hev hr
 ·rename_i op t x y t' ho
  rcases JA hr with hr | hr
  ·obtain ⟨w',c',v,h1,h2,h3,h4,h5⟩:=jee (cf:=cf) h (hev x) (hev y) hr t x y
   exact ⟨w',c',v,.inl (by simp [execOp,ho,h1,h2]),h3,h4,h5⟩
  rcases JA hr with hr | hr
  ·obtain ⟨v,h1,h2,h3,h4⟩:=jgG (hev x) (hev y) hr hp x y
   exact Ji h ⟨v,by simp [execOp,ho,h1,h2],h3,h4⟩
  ·exact jlI h hev ho hr hp
 ·rename_i op t x ho
  exact jpa h hev ho hr hp
 ·rename_i arr x ho
  obtain ⟨v,h1,h2,h3⟩:=jld (hev x) hr hp
  exact Ji h ⟨v,by simp [execOp,ho,h1],h2,h3⟩
 ·rename_i f first captured ho
  rcases JA hr with hr | hr
  ·exact Jg h hev hr
  ·unfold yy at hr
   split at hr
   ·simp at hr
   rename_i hy
   simp only [Option.some.injEq] at hr; subst hr
   refine OpOk.same (v:=.func f (first.map av) (captured.map av)) h (by simp [execOp,ho,Instr.makeFunc]) ?_
   unfold Rel
   refine ⟨fun l hl=>by subst hl; simp [jeZ] at hy,first.toList.map av,captured.toList.map av,?_,zy hev _,zy hev _⟩
   congr 1 <;> (apply Array.ext'; simp)
 ·rename_i t x lo hi mx ho
  rcases JA hr with hr | hr
  ·obtain ⟨v,h1,h2,h3⟩:=jf5 hev hr hp
   exact Ji h ⟨v,by simp [execOp,ho,h1],h2,h3⟩
  ·rcases JA hr with hr | hr
   ·obtain ⟨v,h1,h2,h3⟩:=jen hev hr hp
    exact Ji h ⟨v,by simp [execOp,ho,h1],h2,h3⟩
   ·rcases JA hr with hr | hr
    ·obtain ⟨v,h1,h2,h3⟩:=jeL hev hr hp
     exact Ji h ⟨v,by simp [execOp,ho,h1],h2,h3⟩
    ·exact Jg h hev hr
 ·rename_i t l cp ho
  obtain ⟨w',c',v,h1,h2,h3,h4⟩:=GA h hnm (hev l) (hev cp) hr hp
  exact ⟨w',c',v,.inl (by simp [execOp,ho,h1]),h2,h3,h4⟩
 ·rename_i s x f ho
  obtain ⟨v,h1,h2,h3⟩:=Gk (hev x) hr hp
  exact Ji h ⟨v,by simp [execOp,ho,h1],h2,h3⟩
 ·rename_i t x f ho
  rcases JA hr with hr | hr
  ·obtain ⟨v,h1,h2,h3⟩:=jgy (hev x) hr hp
   exact Ji h ⟨v,by simp [execOp,ho,h1],h2,h3⟩
  ·exact Jg h hev hr
 ·rename_i t x i ho
  rcases JA hr with hr | hr
  ·obtain ⟨v,h1,h2,h3⟩:=Gx (hev x) (hev i) hr hp
   exact Ji h ⟨v,by simp [execOp,ho,h1],h2,h3⟩
  ·obtain ⟨v,h1,h2,h3⟩:=jef (hev x) (hev i) hr hp
   exact Ji h ⟨v,by simp [execOp,ho,h1],h2,h3⟩
 ·rename_i t x i ho
  obtain ⟨v,h1,h2,h3⟩:=jgd (hev x) (hev i) hr hp
  exact Ji h ⟨v,by simp [execOp,ho,h1],h2,h3⟩
 ·rename_i t i ho
  obtain ⟨v,h1,h2,h3⟩:=jbY (cf:=cf) (hev t) hr
  exact Ji h ⟨v,by simp [execOp,ho,h1],h2,h3⟩
 ·rename_i args argTypes ho
  split at hr
  ·rename_i x hx
   have hargs:args=#[x]:=by rw [← Array.toArray_toList (xs:=args),hx]
   subst hargs
   rcases JA hr with hr | hr
   ·obtain ⟨v,h1,h2,h3⟩:=jl8 (ty:=o.type) (hev x) hr
    exact Ji h ⟨v,by simp [execOp,ho,resolve,invoke,builtin,h1],h2,h3⟩
   ·exact Jg h hev hr
  ·simp at hr
 ·rename_i args argTypes ho
  split at hr
  ·rename_i s x hx
   have hargs:args=#[s,x]:=by rw [← Array.toArray_toList (xs:=args),hx]
   subst hargs
   rcases JA hr with hr | hr
   ·obtain ⟨w',c',v,h1,h2,h3,h4⟩:=jeF (ty:=o.type) h hget hnm (hev s) (hev x) (jfm hr) hp
    exact ⟨w',c',v,.inl (by simp [execOp,ho,resolve,invoke,builtin,h1]),h2,h3,h4⟩
   rcases JA hr with hr | hr
   ·obtain ⟨w',c',v,h1,h2,h3,h4⟩:=jlf (ty:=o.type) h hget hnm (hev s) (hev x) (jlC hr).2 hp
    exact ⟨w',c',v,.inl (by simp [execOp,ho,resolve,invoke,builtin,h1]),h2,h3,h4⟩
   rcases JA hr with hr | hr
   ·obtain ⟨w',c',v,h1,h2,h3,h4⟩:=jdN (ty:=o.type) h hget hnm (hev s) (hev x) hr hp
    exact ⟨w',c',v,.inl (by simp [execOp,ho,resolve,invoke,builtin,h1]),h2,h3,h4⟩
   ·obtain ⟨w',v,h1,h2,h3,h4⟩:=ja8 (ty:=o.type) h hget (hev s) (hev x) hr hp
    exact ⟨w',c,v,.inl (by simp [execOp,ho,resolve,invoke,builtin,h1]),h2,h3,h4⟩
  ·simp at hr
 ·rename_i args argTypes ho
  split at hr
  ·rename_i d s hx
   have hargs:args=#[d,s]:=by rw [← Array.toArray_toList (xs:=args),hx]
   subst hargs
   obtain ⟨w',v,h1,h2,h3,h4⟩:=jgi (ty:=o.type) h hget (hev d) (hev s) hr hp
   exact ⟨w',c,v,.inl (by simp [execOp,ho,resolve,invoke,builtin,h1]),h2,h3,h4⟩
  ·simp at hr
 ·exact Jg h hev hr
 ·rename_i s d x ho
  rcases JA hr with hr | hr
  ·obtain ⟨w',c',v,h1,h2,h3,h4⟩:=jcm h (hev x) hr
   exact ⟨w',c',v,.inl (by simp [execOp,ho,h1]),h2,h3,h4⟩
  rcases JA hr with hr | hr
  ·obtain ⟨v,h1,h2,h3⟩:=jf3 (hev x) hr hp
   exact Ji h ⟨v,by simp [execOp,ho,h1],h2,h3⟩
  rcases JA hr with hr | hr
  ·obtain ⟨w',v,h1,h2,h3,h4⟩:=jiw h hget (hev x) hr hp
   exact ⟨w',c,v,.inl (by simp [execOp,ho,h1]),h2,h3,h4⟩
  rcases JA hr with hr | hr
  ·obtain ⟨v,h1,h2,h3⟩:=jgN h hget (hev x) hr hp
   exact Ji h ⟨v,by simp [execOp,ho,h1],h2,h3⟩
  ·exact Jg h hev hr
 ·exact Jg h hev hr
 ·rename_i t x ho
  obtain ⟨w',c',v,h1,h2,h3,h4⟩:=jbT (av:=av) h hnm hr
  exact ⟨w',c',v,.inl (by simp [execOp,ho,h1]),h2,h3,h4⟩
 ·rename_i t x i ok ho
  obtain ⟨v,h1,h2,h3⟩:=jeg h hget (hev x) (hev i) hr hp
  exact Ji h ⟨v,by simp [execOp,ho,h1],h2,h3⟩
 ·rename_i t m k x ho
  obtain ⟨w',h1,h2,h3,h4⟩:=gK h hget (hev m) (hev k) (hev x) hr
  exact ⟨w',c,undef,.inr ⟨by simp [execOp,ho,h1],rfl⟩,h2,h3,by rw [h4]; unfold Rel; trivial⟩
 ·rename_i t m k x ho
  obtain ⟨w',h1,h2,h3,h4⟩:=gK h hget (hev m) (hev k) (hev x) hr
  exact ⟨w',c,undef,.inr ⟨by simp [execOp,ho,h1],rfl⟩,h2,h3,by rw [h4]; unfold Rel; trivial⟩
 ·simp at hr
def Yr (cf:Cfg) (o:Oper) (ev:Operand→AV) (get:Nat→ABlk) (nm:Nat) (dc:Dec):Option ARes :=
 match o.op with
 | .convert s d x=>orE (Kl cf s d (ev x) get) (aop cf o ev get nm dc)
 | .binOp op t x y _=>orE (jek cf op t (ev x) (ev y)) (aop cf o ev get nm dc)
 | .call { callee:=.builtin .append,args,argTypes,.. }=>match args.toList with
  | [s,x]=>orE (jmW dc (Q8 cf argTypes (ev s) (ev x) get nm)) (aop cf o ev get nm dc)
  | _=>none
 | .call { callee:=.builtin .unsafeSliceData,args,.. }=>match args.toList with
  | [x]=>Zg (ev x)
  | _=>none
 | .call { callee:=.builtin .unsafeString,args,argTypes,.. }=>match args.toList with
  | [p,n]=>kO cf argTypes (ev p) (ev n) get
  | _=>none
 | _=>aop cf o ev get nm dc
theorem jfB (h:WRel base w0 c w H) (hget:∀ b,get b=(H[b]?).getD .gone) {nm:Nat} (hnm:H[nm]? = some .gone) {av:Operand→Value} {ev:Operand→AV} (hev:∀ x,Rel c w (ev x) (av x)) {o:Oper} {dc:Dec} {r:ARes}
  (hr:Yr cf o ev get nm dc=some r) (hp:AllP r.pcs):OpOk cf base w0 c w H av o r:=by
 unfold Yr at hr
 split at hr
 ·rename_i s d x ho
  rcases JA hr with hr | hr
  ·obtain ⟨v,h1,h2,h3⟩:=jcI (cf:=cf) h hget (hev x) hr hp
   exact Ji h ⟨v,by simp [execOp,ho,h1],h2,h3⟩
  ·exact jbH h hget hnm hev hr hp
 ·rename_i op t x y t' ho
  rcases JA hr with hr | hr
  ·obtain ⟨v,h1,h2,h3,h4⟩:=jgH (hev x) (hev y) hr x y
   exact Ji h ⟨v,by simp [execOp,ho,h1,h2],h3,h4⟩
  ·exact jbH h hget hnm hev hr hp
 ·rename_i args argTypes ho
  split at hr
  ·rename_i s x hx
   have hargs:args=#[s,x]:=by rw [← Array.toArray_toList (xs:=args),hx]
   subst hargs
   rcases JA hr with hr | hr
   ·obtain ⟨w',c',v,h1,h2,h3,h4⟩:=jeb (ty:=o.type) h hget hnm (hev s) (hev x) (jfm hr) hp
    exact ⟨w',c',v,.inl (by simp [execOp,ho,resolve,invoke,builtin,h1]),h2,h3,h4⟩
   ·exact jbH h hget hnm hev hr hp
  ·simp at hr
 ·rename_i args argTypes ho
  split at hr
  ·rename_i x hx
   have hargs:args=#[x]:=by rw [← Array.toArray_toList (xs:=args),hx]
   subst hargs
   obtain ⟨v,h1,h2,h3⟩:=Gt (cf:=cf) (ts:=argTypes) (ty:=o.type) (hev x) hr hp
   exact Ji h ⟨v,by simp [execOp,ho,resolve,invoke,builtin,h1],h2,h3⟩
  ·simp at hr
 ·rename_i args argTypes ho
  split at hr
  ·rename_i p n hx
   have hargs:args=#[p,n]:=by rw [← Array.toArray_toList (xs:=args),hx]
   subst hargs
   obtain ⟨w',v,h1,h2,h3,h4⟩:=Gj (cf:=cf) (ty:=o.type) h hget (hev p) (hev n) hr hp
   exact ⟨w',c,v,.inl (by simp [execOp,ho,resolve,invoke,builtin,h1]),h2,h3,h4⟩
  ·simp at hr
 ·exact jbH h hget hnm hev hr hp
def jmh (cf:Cfg) (o:Oper) (ev:Operand→AV) (get:Nat→ABlk) (nm:Nat) (dc:Dec):Option ARes :=
 match o.op with
 | .range t x=>Y3 cf t (ev x) get nm
 | .next x b=>ji9 (ev x) b get dc
 | .entry x=>jeQ (ev x) get dc
 | _=>Yr cf o ev get nm dc
theorem jmq (h:WRel base w0 c w H) (hget:∀ b,get b=(H[b]?).getD .gone) {nm:Nat} (hnm:H[nm]? = some .gone) {av:Operand→Value} {ev:Operand→AV} (hev:∀ x,Rel c w (ev x) (av x)) {o:Oper} {dc:Dec} {r:ARes}
  (hr:jmh cf o ev get nm dc=some r) (hp:AllP r.pcs):OpOk cf base w0 c w H av o r:=by
 unfold jmh at hr
 split at hr
 ·rename_i t x ho
  obtain ⟨w',c',v,h1,h2,h3,h4⟩:=jc7 h hget hnm (hev x) hr
  exact ⟨w',c',v,.inl (by simp [execOp,ho,h1]),h2,h3,h4⟩
 ·rename_i x b ho
  obtain ⟨w',v,h1,h2,h3,h4⟩:=ji7 (cf:=cf) (t:=o.type) h hget (hev x) hr hp
  exact ⟨w',c,v,.inl (by simp [execOp,ho,h1]),h2,h3,h4⟩
 ·rename_i x ho
  obtain ⟨v,h1,h2,h3⟩:=jfP (cf:=cf) h hget (hev x) hr hp
  exact Ji h ⟨v,by simp [execOp,ho,h1],h2,h3⟩
 ·exact jfB h hget hnm hev hr hp
end
end Go.Kv
