import Derived.Test.YtdelimpnnpifpaaGreatDoorKvL
set_option linter.all false
namespace Go.Kv
open Go Go.RowKit
mutual
def jh:AV→List Nat
 | .ptr b _=>[b]
 | .own b _ _ _ _=>[b]
 | .ms b _ _ _ _=>[b]
 | .mp b=>[b]
 | .gx b _=>[b]
 | .agg cs=>jH cs
 | .tup cs=>jH cs
 | .fn _ fs cs=>jH fs++jH cs
 | .opt _ x=>jh x
 | _=>[]
def jH:List AV→List Nat
 | []=>[]
 | a :: as=>jh a++jH as
end
section
variable {cf:Cfg} {get get':Nat→ABlk}
mutual
theorem j6:∀ {a:AV},(∀ b ∈ jh a,get b=get' b)→jV get a=jV get' a
 | .d _,_=>rfl
 | .own ..,_=>rfl
 | .ms b off sz n cap,h=>by
  have:=h b (by simp [jh])
  simp only [jV,this]
 | .agg cs,h=>by
  have:=J8 (as:=cs) (fun b hb=>h b (by simpa [jh] using hb))
  simp only [jV,this]
 | .tup cs,h=>by
  have:=J8 (as:=cs) (fun b hb=>h b (by simpa [jh] using hb))
  simp only [jV,this]
 | .ptr b off,h=>by
  have:=h b (by simp [jh])
  simp only [jV,this]
 | .ip ..,_=>rfl
 | .fn _ fs cs,h=>by
  have h1:=J8 (as:=fs) (fun b hb=>h b (by simp [jh,hb]))
  have h2:=J8 (as:=cs) (fun b hb=>h b (by simp [jh,hb]))
  simp only [jV,h1,h2]
 | .yl ..,_=>rfl
 | .mp ..,_=>rfl
 | .gx ..,_=>rfl
 | .em,_=>rfl
 | .nan _,_=>rfl
 | .opt ..,_=>rfl
 | .any,_=>rfl
theorem J8:∀ {as:List AV},(∀ b ∈ jH as,get b=get' b)→Jl get as=Jl get' as
 | [],_=>rfl
 | a :: as,h=>by
  have h1:=j6 (a:=a) (fun b hb=>h b (by simp [jH,hb]))
  have h2:=J8 (as:=as) (fun b hb=>h b (by simp [jH,hb]))
  simp only [Jl,h1,h2]
end
theorem Z9:∀ {as:List AV},(∀ b ∈ jH as,get b=get' b)→Kq get as=Kq get' as
 | [],_=>rfl
 | a :: as,h=>by
  have h1:=j6 (a:=a) (fun b hb=>h b (by simp [jH,hb]))
  have h3:jfr get a=jfr get' a:=by cases a <;> first | rfl | exact h1
  have h2:=Z9 (as:=as) (fun b hb=>h b (by simp [jH,hb]))
  simp only [Kq,h3,h2]
mutual
theorem jb9:∀ {a:AV},(∀ b ∈ jh a,get b=get' b)→Jn get a=Jn get' a
 | .ms b off sz n cap,h=>by
  have:=h b (by simp [jh])
  simp only [Jn,this]
 | .agg cs,h=>by
  have:=Kz (as:=cs) (fun b hb=>h b (by simpa [jh] using hb))
  simp only [Jn,this]
 | .tup cs,h=>by
  have:=Kz (as:=cs) (fun b hb=>h b (by simpa [jh] using hb))
  simp only [Jn,this]
 | .d x,h=>by simp only [Jn,j6 h]
 | .own ..,h=>by simp only [Jn,j6 h]
 | .ptr ..,h=>by simp only [Jn,j6 h]
 | .ip ..,h=>by simp only [Jn,j6 h]
 | .fn _ fs cs,h=>by simp only [Jn,j6 h]
 | .yl ..,h=>by simp only [Jn,j6 h]
 | .mp ..,h=>by simp only [Jn,j6 h]
 | .gx ..,h=>by simp only [Jn,j6 h]
 | .em,h=>by simp only [Jn,j6 h]
 | .nan _,h=>by simp only [Jn,j6 h]
 | .opt ..,h=>by simp only [Jn,j6 h]
 | .any,h=>by simp only [Jn,j6 h]
theorem Kz:∀ {as:List AV},(∀ b ∈ jH as,get b=get' b)→J0 get as=J0 get' as
 | [],_=>rfl
 | a :: as,h=>by
  have h1:=jb9 (a:=a) (fun b hb=>h b (by simp [jH,hb]))
  have h2:=Kz (as:=as) (fun b hb=>h b (by simp [jH,hb]))
  simp only [J0,h1,h2]
end
theorem jbE {o:Oper} {ev ev':Operand→AV} (h:∀ x ∈ o.op.operands,ev x=ev' x):Jx cf o ev=Jx cf o ev':=by
 unfold Jx
 by_cases hs:Zr o.op=true
 ·simp [hs]
 ·rw [if_neg hs,if_neg hs]
  have h1:o.op.operands.toList.all (fun x=>(ev x).full.isSome)=o.op.operands.toList.all (fun x=>(ev' x).full.isSome):=by
   rw [Bool.eq_iff_iff]
   simp only [List.all_eq_true]
   constructor
   ·intro hh x hx; rw [← h x (by simpa using hx)]; exact hh x hx
   ·intro hh x hx; rw [h x (by simpa using hx)]; exact hh x hx
  have h2:execOp (fun x=>((ev x).full).getD undef) o=execOp (fun x=>((ev' x).full).getD undef) o :=
   execOp_congr o (by intro cs b he; rw [he] at hs; simp [Zr] at hs) fun x hx=>by rw [h x hx]
  rw [h1,h2]
theorem jcb {t:TypeId} {a:AV} {dc:Dec} (h:∀ b ∈ jh a,get b=get' b):Qp cf t a get dc=Qp cf t a get' dc:=by
 unfold Qp
 cases a <;> try rfl
 rename_i b off
 have:=h b (by simp [jh])
 simp only [this]
theorem jbF {t:TypeId} {a v:AV} {dc:Dec} (h:∀ b ∈ jh a,get b=get' b):QG cf t a v get dc=QG cf t a v get' dc:=by
 unfold QG
 cases a with
 | ptr b off =>
  have:=h b (by simp [jh])
  cases QT cf.P t <;> cases Zb v <;> first | rfl | simp only [this]
 | _=>rfl
theorem Yg {x:AV} (h:∀ b ∈ jh x,get b=get' b):ZN get x=ZN get' x:=by
 unfold ZN
 cases x <;> try rfl
 case ms b off sz n cap =>
  have:=h b (by simp [jh])
  simp only [this]
theorem gZ {x:AV} (h:∀ b ∈ jh x,get b=get' b):jbo get x=jbo get' x:=by
 unfold jbo
 rw [Yg h]
 cases x <;> try rfl
 case ms b off sz n cap =>
  have:=h b (by simp [jh])
  simp only [this]
theorem Gm {ts:Array TypeId} {s x:AV} {nm:Nat} {dc:Dec} (h:∀ b ∈ jh s,get b=get' b) (hx:∀ b ∈ jh x,get b=get' b):zu cf ts s x get nm dc=zu cf ts s x get' nm dc:=by
 unfold zu
 have:jcB get s=jcB get' s:=by
  cases s <;> first | rfl | exact h _ (by simp [jh])
 rw [this,Yg hx]
theorem Gz {ts:Array TypeId} {s x:AV} {nm:Nat} (h:∀ b ∈ jh s,get b=get' b) (hx:∀ b ∈ jh x,get b=get' b):zp cf ts s x get nm=zp cf ts s x get' nm:=by
 unfold zp
 have:jaA get s=jaA get' s:=by
  cases s <;> first | rfl | exact h _ (by simp [jh])
 rw [this,gZ hx]
theorem Yv {ts:Array TypeId} {s x:AV} (h:∀ b ∈ jh s,get b=get' b):KC cf ts s x get=KC cf ts s x get':=by
 unfold KC
 cases s <;> try rfl
 case ms b off sz n cap =>
  have:=h b (by simp [jh])
  cases jbx x <;> simp only [this]
theorem jda {ts:Array TypeId} {s x:AV} (h:∀ b ∈ jh s,get b=get' b):jao cf ts s x get=jao cf ts s x get':=by
 unfold jao
 cases s <;> try rfl
 case ms b off sz n cap =>
  have:=h b (by simp [jh])
  cases jbx x <;> simp only [this]
theorem gf {s:AV} (h:∀ b ∈ jh s,get b=get' b):jbt get s=jbt get' s:=by
 unfold jbt
 cases s <;> try rfl
 case d x=>cases x <;> rfl
 case ms b off sz n cap =>
  have:=h b (by simp [jh])
  simp only [this]
theorem jbC {ts:Array TypeId} {s x:AV} (h:∀ b ∈ jh s,get b=get' b) (hx:∀ b ∈ jh x,get b=get' b):yi cf ts s x get=yi cf ts s x get':=by
 have h0:=jda (cf:=cf) (ts:=ts) (x:=x) h
 unfold yi
 cases x <;> try exact h0
 case ms b off sz n cap =>
  have e:=gf (s:=.ms b off sz n cap) hx
  simp only [e]
  generalize jbt get' (.ms b off sz n cap)=rw0
  cases s <;> try rfl
  case ms b' off' sz' n' cap' =>
   have:=h b' (by simp [jh])
   cases rw0 with
   | none=>rfl
   | some p=>obtain ⟨m0,ys⟩:=p; simp only [this]
theorem jdH {t t':TypeId} {s:AV} (h:∀ b ∈ jh s,get b=get' b):Y5 cf t t' s get=Y5 cf t t' s get':=by
 unfold Y5
 simp only [gf h]
theorem jbr {t t':TypeId} {s:AV} (h:∀ b ∈ jh s,get b=get' b):z6 cf t t' s get=z6 cf t t' s get':=by
 have:=jdH (cf:=cf) (t:=t) (t':=t') h
 cases s <;> try exact this
 case d x=>cases x <;> first | rfl | exact this | (rename_i u; cases u <;> first | rfl | exact this)
theorem jdv {t t':TypeId} {s:AV} (h:∀ b ∈ jh s,get b=get' b):Yb cf t t' s get=Yb cf t t' s get':=by
 unfold Yb
 cases s <;> try rfl
 case own b e sz n xs =>
  have:=h b (by simp [jh])
  simp only [this]
theorem GB {t:TypeId} {x i:AV} {ok:Bool} {dc:Dec} (h:∀ b ∈ jh x,get b=get' b):K5 cf t x i ok get dc=K5 cf t x i ok get' dc:=by
 unfold K5
 split
 ·rename_i b _
  rw [h b (by simp [jh])]
 ·rfl
theorem zJ {t:TypeId} {x k v:AV} (h:∀ b ∈ jh x,get b=get' b):kD cf t x k v get=kD cf t x k v get':=by
 unfold kD
 split
 ·rename_i b _
  rw [h b (by simp [jh])]
 ·rfl
theorem zd {ev ev':Operand→AV}:∀ {xs:List Operand},(∀ x ∈ xs,ev x=ev' x)→evs ev xs=evs ev' xs
 | [],_=>rfl
 | x :: xs,h=>by simp only [evs]; rw [h x (by simp),zd fun y hy=>h y (by simp [hy])]
theorem ZY {ev ev':Operand→AV} {ps:Array (Nat × Operand)} (h:∀ x ∈ ps.map (·.2),ev x=ev' x):qa ev ps=qa ev' ps:=by
 unfold qa
 apply List.map_congr_left
 intro x hx
 rw [h x.2 (Array.mem_map.2 ⟨x,by simpa using hx,rfl⟩)]
theorem ZQ {ev ev':Operand→AV} {x:Option Operand} {d:Int} (h:∀ y,x=some y→ev y=ev' y):jS ev x d=jS ev' x d:=by
 cases x with
 | none=>rfl
 | some y=>simp only [jS,h y rfl]
def ki (dc:Dec) (get:Nat→ABlk) (bs:List Nat):List Nat:=match dc with
 | .nx true=>bs.flatMap fun b=>match get b with
  | .cells [.ms q _ _ _ _] _=>[q]
  | _=>[]
 | _=>[]
theorem jdb {dc:Dec} {get get':Nat→ABlk} {bs:List Nat} (h:∀ b ∈ bs,get b=get' b):ki dc get bs=ki dc get' bs:=by
 unfold ki
 cases dc <;> try rfl
 case nx b =>
  cases b
  ·rfl
  ·simp only
   induction bs with
   | nil=>rfl
   | cons b bs ih=>simp only [List.flatMap_cons]; rw [h b (by simp),ih fun x hx=>h x (by simp [hx])]
theorem jgq {dc:Dec} {get:Nat→ABlk} {bs bs':List Nat} (h:∀ b ∈ bs,b ∈ bs') {q:Nat} (hq:q ∈ ki dc get bs):q ∈ ki dc get bs':=by
 unfold ki at hq ⊢
 cases dc <;> try (simp at hq; done)
 case nx b =>
  cases b
  ·simp at hq
  ·obtain ⟨b,hb,hq⟩:=List.mem_flatMap.1 hq
   exact List.mem_flatMap.2 ⟨b,h b hb,hq⟩
theorem jeh {x:AV} (h:∀ b ∈ jh x,get b=get' b):jeu get x=jeu get' x:=by
 cases x <;> try rfl
 case ms b _ _ _ _=>simp only [jeu,h b (by simp [jh])]
theorem jgz {x:AV} {q:Nat} (h:jeu get x=some q):q ∈ ki (.nx true) get (jh x):=by
 cases x <;> simp [jeu] at h
 case ms b _ _ _ _ =>
  simp only [ki,jh,List.flatMap_cons,List.flatMap_nil,List.append_nil]
  split at h
  ·rename_i q' _ _ _ _ _ hb
   simp only [Option.some.injEq] at h; subst h
   rw [hb]; simp
  ·simp at h
theorem jcA {ts:Array TypeId} {s x:AV} {nm:Nat} (h:∀ b ∈ jh s,get b=get' b) (hx:∀ b ∈ jh x,get b=get' b) (hd:∀ q ∈ ki (.nx true) get (jh x),get q=get' q) :
  yW cf ts s x get nm=yW cf ts s x get' nm:=by
 have hb:jiJ get s=jiJ get' s:=by
  cases s <;> try rfl
  case gx b _=>exact h b (by simp [jh])
 unfold yW
 rw [← jeh hx,← gZ hx,← hb]
 cases hl:jeu get x with
 | none=>rfl
 | some q =>
  cases jbo get x with
  | none=>rfl
  | some src =>
   show jfh cf ts s src q (get q) (jiJ get s) nm=jfh cf ts s src q (get' q) (jiJ get s) nm
   rw [hd q (jgz hl)]
theorem jbg {t:TypeId} {a:AV} {dc:Dec} (h:∀ b ∈ jh a,get b=get' b):Qw cf t a get dc=Qw cf t a get' dc:=by
 unfold Qw
 cases a <;> try rfl
 case gx b x=>cases x <;> first | rfl | simp only [h b (by simp [jh])]
theorem Gi {t:TypeId} {a v:AV} (h:∀ b ∈ jh a,get b=get' b) (hv:∀ b ∈ jh v,get b=get' b):kZ cf t a v get=kZ cf t a v get':=by
 cases a <;> try rfl
 case gx b x =>
  have hb:=h b (by simp [jh])
  cases v <;> try (cases x <;> rfl)
  case ms q o sz m cp =>
   have hq:=hv q (by simp [jh])
   cases x <;> first | rfl | (simp [kZ,hb,hq])
  case d y=>cases x <;> first | rfl | simp [kZ,hb]
  case gx b' y =>
   cases x <;> cases y <;> first | rfl | (by_cases hbb:(b==b')=true <;> simp [kZ,hbb,hb])
theorem jfU {o:Oper} {ev ev':Operand→AV} {nm:Nat} {dc:Dec} (h:∀ x ∈ o.op.operands,ev x=ev' x) (hg:∀ x ∈ o.op.operands,∀ b ∈ jh (ev x),get b=get' b) (hd:∀ x ∈ o.op.operands,∀ q ∈ ki dc get (jh (ev x)),get q=get' q) :
  aop cf o ev get nm dc=aop cf o ev' get' nm dc:=by
 have hp:=jbE (cf:=cf) h
 have hl:∀ t x,x ∈ o.op.operands→Qp cf t (ev x) get dc=Qp cf t (ev' x) get' dc:=fun t x hx=>by rw [jcb (hg x hx),h x hx]
 unfold aop
 cases hop:o.op <;> rw [hop] at h hg hl hd <;> simp only [Op.operands] at h hg hl
 case move x=>simp only [h x (by simp)]
 case assign x=>simp only [h x (by simp)]
 case pick x a b=>simp only [h x (by simp),h a (by simp),h b (by simp),jjH,hp]
 case box t x=>simp only [h x (by simp)]
 case build t ps=>simp only [hp,ja3,ZY (ps:=ps) (fun x hx=>h x (by simpa using hx))]
 case buildSlice t n ps=>simp only [K2,ZY (ps:=ps) (fun x hx=>h x (by simpa using hx))]
 case load t a=>show orE (Qp cf t (ev a) get dc) (Qw cf t (ev a) get dc)=orE (Qp cf t (ev' a) get' dc) (Qw cf t (ev' a) get' dc); rw [hl t a (by simp),jbg (hg a (by simp)),h a (by simp)]
 case store t a x=>show orE (QG cf t (ev a) (ev x) get dc) (kZ cf t (ev a) (ev x) get)=orE (QG cf t (ev' a) (ev' x) get' dc) (kZ cf t (ev' a) (ev' x) get'); rw [jbF (hg a (by simp)),Gi (hg a (by simp)) (hg x (by simp)),h a (by simp),h x (by simp)]
 case nilCheck x=>simp only [yo,h x (by simp),hp]
 case binOp op t x y t'=>simp only [jmJ,h x (by simp),h y (by simp),hp]
 case unOp op t x=>simp only [unA,h x (by simp),hp]
 case convert s d x=>show orE (QM cf s d (ev x)) (orE (YK cf s d (ev x)) (orE (Yb cf s d (ev x) get) (orE (z6 cf s d (ev x) get) (Jx cf o ev))))=orE (QM cf s d (ev' x)) (orE (YK cf s d (ev' x)) (orE (Yb cf s d (ev' x) get') (orE (z6 cf s d (ev' x) get') (Jx cf o ev')))); rw [jdv (hg x (by simp)),jbr (hg x (by simp)),h x (by simp),hp]
 case makeSlice t l cp=>simp only [h l (by simp),h cp (by simp)]
 case sliceToArrayPointer a x=>simp only [h x (by simp)]
 case makeInterface t x=>exact hp
 case makeFunc f first captured =>
  simp only [hp,yy,zd (xs:=first.toList) (fun x hx=>h x (by simp at hx; simp [hx])),zd (xs:=captured.toList) (fun x hx=>h x (by simp at hx; simp [hx]))]
 case slice t x lo hi mx =>
  have h1:=h x (by simp)
  have h2:∀ d,jS ev lo d=jS ev' lo d:=fun d=>ZQ fun y hy=>h y (by subst hy; simp)
  have h3:∀ d,jS ev hi d=jS ev' hi d:=fun d=>ZQ fun y hy=>h y (by subst hy; simp)
  have h4:∀ y,hi=some y→ev y=ev' y:=fun y hy=>h y (by subst hy; simp)
  have h5:∀ y,mx=some y→ev y=ev' y:=fun y hy=>h y (by subst hy; simp)
  have h6:zr cf t ev x lo hi mx=zr cf t ev' x lo hi mx:=by
   unfold zr
   cases hi with
   | none=>cases cf.P.underlying t with
    | none=>rfl
    | some d=>cases d <;> rfl
   | some yh=>cases mx with
    | none=>cases cf.P.underlying t with
     | none=>rfl
     | some d=>cases d <;> rfl
    | some ym=>cases cf.P.underlying t with
     | none=>rfl
     | some d=>cases d <;> simp only [h1,h2,h4 yh rfl,h5 ym rfl]
  have h7:zi cf t ev x lo hi mx=zi cf t ev' x lo hi mx:=by simp only [zi,h1,h2]
  simp only [hp,jbk,h1,h2,h3,h6,h7]
 case fieldAddr t x f=>simp only [h x (by simp)]
 case field t x f=>simp only [h x (by simp),hp]
 case indexAddr t x i=>simp only [h x (by simp),h i (by simp)]
 case index t x i=>simp only [h x (by simp),h i (by simp)]
 case extract t i=>simp only [h t (by simp)]
 case lookup t x i ok=>show K5 cf t (ev x) (ev i) ok get dc=K5 cf t (ev' x) (ev' i) ok get' dc; rw [GB (hg x (by simp)),h x (by simp),h i (by simp)]
 case mapUpdate t m k x=>show kD cf t (ev m) (ev k) (ev x) get=kD cf t (ev' m) (ev' k) (ev' x) get'; rw [zJ (hg m (by simp)),h m (by simp),h k (by simp),h x (by simp)]
 case insert t m k x=>show kD cf t (ev m) (ev k) (ev x) get=kD cf t (ev' m) (ev' k) (ev' x) get'; rw [zJ (hg m (by simp)),h m (by simp),h k (by simp),h x (by simp)]
 case call cl =>
  obtain ⟨callee,args,argTypes⟩:=cl
  cases callee with
  | value f=>rfl
  | invoke r m=>rfl
  | builtin b =>
   simp only [Call.operands] at h hg
   have hargs:∀ x ∈ args.toList,ev x=ev' x:=fun x hx=>h x (by simp at hx ⊢; exact hx)
   have hgs:∀ x ∈ args.toList,∀ b ∈ jh (ev x),get b=get' b:=fun x hx=>hg x (by simp at hx ⊢; exact hx)
   have hds:∀ x ∈ args.toList,∀ q ∈ ki dc get (jh (ev x)),get q=get' q:=fun x hx=>hd x (by simp [Op.operands,Call.operands] at hx ⊢; exact hx)
   cases b <;> try exact hp
   case append =>
    simp only
    split
    ·rename_i s x hx
     rw [hx] at hargs hgs hds
     have hap:jfV dc (yW cf argTypes (ev s) (ev x) get nm)=jfV dc (yW cf argTypes (ev s) (ev x) get' nm):=by
      unfold jfV
      split
      ·exact jcA (hgs s (by simp)) (hgs x (by simp)) (hds x (by simp))
      ·rfl
     rw [hap,Gz (hgs s (by simp)) (hgs x (by simp)),Gm (hgs s (by simp)) (hgs x (by simp)),Yv (hgs s (by simp)),hargs s (by simp),hargs x (by simp)]
    ·rfl
   case copy =>
    simp only
    split
    ·rename_i s x hx
     rw [hx] at hargs hgs
     rw [jbC (hgs s (by simp)) (hgs x (by simp)),hargs s (by simp),hargs x (by simp)]
    ·rfl
   case len =>
    simp only
    split
    ·rename_i x hx
     rw [hx] at hargs
     rw [hargs x (by simp),hp]
    ·rfl
theorem gS {t t':TypeId} {s:AV} (h:∀ b ∈ jh s,get b=get' b):Kl cf t t' s get=Kl cf t t' s get':=by
 unfold Kl
 have:Zc get s=Zc get' s:=by
  cases s <;> first | rfl | exact h _ (by simp [jh])
 rw [this]
theorem Gu {ts:Array TypeId} {s x:AV} {nm:Nat} (h:∀ b ∈ jh s,get b=get' b):Q8 cf ts s x get nm=Q8 cf ts s x get' nm:=by
 unfold Q8
 have:jaA get s=jaA get' s:=by
  cases s <;> first | rfl | exact h _ (by simp [jh])
 rw [this]
theorem yn {ts:Array TypeId} {p n:AV} (h:∀ b ∈ jh p,get b=get' b):kO cf ts p n get=kO cf ts p n get':=by
 unfold kO
 have:Zc get p=Zc get' p:=by
  cases p <;> first | rfl | exact h _ (by simp [jh])
 rw [this]
theorem jdS {o:Oper} {ev ev':Operand→AV} {nm:Nat} {dc:Dec} (h:∀ x ∈ o.op.operands,ev x=ev' x) (hg:∀ x ∈ o.op.operands,∀ b ∈ jh (ev x),get b=get' b) (hd:∀ x ∈ o.op.operands,∀ q ∈ ki dc get (jh (ev x)),get q=get' q) :
  Yr cf o ev get nm dc=Yr cf o ev' get' nm dc:=by
 have h0:=jfU (cf:=cf) (nm:=nm) (dc:=dc) h hg hd
 unfold Yr
 rw [h0]
 cases hop:o.op <;> rw [hop] at h hg <;> simp only [Op.operands] at h hg <;> try rfl
 case binOp op t x y t'=>simp only [h x (by simp),h y (by simp)]
 case convert s d x =>
  show orE (Kl cf s d (ev x) get) _=orE (Kl cf s d (ev' x) get') _
  rw [gS (hg x (by simp)),h x (by simp)]
 case call cl =>
  obtain ⟨callee,args,argTypes⟩:=cl
  cases callee with
  | value f=>rfl
  | invoke r m=>rfl
  | builtin b =>
   simp only [Call.operands] at h hg
   have hargs:∀ x ∈ args.toList,ev x=ev' x:=fun x hx=>h x (by simp at hx ⊢; exact hx)
   have hgs:∀ x ∈ args.toList,∀ b ∈ jh (ev x),get b=get' b:=fun x hx=>hg x (by simp at hx ⊢; exact hx)
   cases b <;> try rfl
   case append =>
    simp only
    split
    ·rename_i s x hx
     rw [hx] at hargs hgs
     rw [Gu (hgs s (by simp)),hargs s (by simp),hargs x (by simp)]
    ·rfl
   case unsafeSliceData =>
    simp only
    split
    ·rename_i x hx
     rw [hx] at hargs
     rw [hargs x (by simp)]
    ·rfl
   case unsafeString =>
    simp only
    split
    ·rename_i p n hx
     rw [hx] at hargs hgs
     rw [yn (hgs p (by simp)),hargs p (by simp),hargs n (by simp)]
    ·rfl
end
def evT (cf:Cfg) (tm:Nat→Option AV):Operand→AV
 | .tmp t=>(tm t).getD .any
 | .const v=>(qp v).getD .any
 | .global g=>match cf.glob g with
  | some cs=>.ip cs
  | none=>.any
 | .func f=>.d (.v (.func (.func f) #[] #[]))
theorem joZ (cf:Cfg) (ts:List AV):evT cf (fun t=>ts[t]?)=evA cf ts:=by
 funext x
 cases x <;> first | rfl | simp [evT,evA,List.getD]
def kB (ops:Array Oper) (o:Oper) (tm:Nat→Option AV) (gd:Option Bool):Option (Bool × List PC) :=
 match o.guard with
 | none=>some (true,[])
 | some (j,want)=>match (ops[j]?).bind (·.dst),gd with
  | some t,some r=>match tm t with
   | some (.d (.v (.bool b)))=>some (r==want,[.eqB b r])
   | some (.tup [])=>some (false,[])
   | _=>none
  | some t,none=>match tm t with
   | some (.d (.v (.bool b)))=>some (b==want,[])
   | some (.tup [])=>some (false,[])
   | _=>none
  | _,_=>none
structure Eff where
 pcs:List PC
 val:AV
 wr:List (Nat × ABlk)
def kA (cf:Cfg) (ops:Array Oper) (o:Oper) (tm:Nat→Option AV) (get:Nat→ABlk) (nm:Nat) (gd:Option Bool) (dc:Dec):Option Eff :=
 match kB ops o tm gd with
 | none=>none
 | some (false,ps)=>some ⟨ps,.tup [],[]⟩
 | some (true,ps) =>
  match qe o.op with
  | some (f,args) =>
   match kC (evT cf tm f) with
   | none=>none
   | some (g,fs,cs) =>
    match dc with
    | .call as r=>match JH cf.P g,Kq get (fs++evs (evT cf tm) args++cs) with
     | some _,some bs=>if !(jR (fs++evs (evT cf tm) args++cs))||JX r then some ⟨.prop (bs=as) :: .prop (PureCalls cf.P cf.glob g as r) :: ps,r,[]⟩ else none
     | _,_=>none
    | .ck j=>match cf.K[j]? with
     | some kn=>if kn.g==g&&!kn.fr then match JH cf.P g,Jl get (fs++evs (evT cf tm) args++cs) with
      | some _,some bs=>if !(jR (fs++evs (evT cf tm) args++cs))||JX kn.res then some ⟨.eqA bs kn.args :: ps,kn.res,[]⟩ else none
      | _,_=>none
      else none
     | none=>none
    | .cq j=>match cf.K[j]? with
     | some kn=>if kn.g==g then match JH cf.P g,J0 get (fs++evs (evT cf tm) args++cs),jfq kn (fs++evs (evT cf tm) args++cs) nm with
      | some _,some (bs,qs),some (v,ks,wr)=>some ⟨.eqA bs kn.args :: (qs++(ks++ps)),v,wr⟩
      | _,_,_=>none
      else none
     | none=>none
    | .ce j=>match cf.K[j]? with
     | some kn=>if kn.g==g then match JH cf.P g,J0 get (fs++evs (evT cf tm) args++cs),jbd kn (fs++evs (evT cf tm) args++cs) with
      | some _,some (bs,qs),some (v,ks)=>some ⟨.eqA bs kn.args :: (qs++(ks++ps)),v,[]⟩
      | _,_,_=>none
      else none
     | none=>none
    | .extN=>match jbK (fs++evs (evT cf tm) args++cs) with
     | some nk=>some ⟨.prop (jea cf.P g nk) :: ps,nk.val,[]⟩
     | none=>none
    | .ext v=>match QB (fs++evs (evT cf tm) args++cs),qp v with
     | some xs,some r=>some ⟨.prop (∀ w,(callFunc g xs.toArray).run cf.P w=.ok (.value v) w) :: ps,r,[]⟩
     | _,_=>none
    | _=>none
  | none=>match Yr cf o (evT cf tm) get nm dc with
   | some r=>some ⟨r.pcs++ps,r.val,r.wr⟩
   | none=>none
theorem kY {ev:Operand→AV}:∀ {xs:List Operand} {b:Nat},b ∈ jH (evs ev xs)→∃ x ∈ xs,b ∈ jh (ev x)
 | [],b,h=>by simp [evs,jH] at h
 | x :: xs,b,h=>by
  simp only [evs,jH,List.mem_append] at h
  rcases h with h | h
  ·exact ⟨x,by simp,h⟩
  ·obtain ⟨y,hy,hb⟩:=kY h
   exact ⟨y,by simp [hy],hb⟩
theorem Jq:∀ (xs ys:List AV),jH (xs++ys)=jH xs++jH ys
 | [],ys=>by simp [jH]
 | x :: xs,ys=>by simp [jH,Jq xs ys]
theorem JI {a:AV} {g:FuncId} {fs cs:List AV} (h:kC a=some (g,fs,cs)) {b:Nat} (hb:b ∈ jH fs∨b ∈ jH cs):b ∈ jh a:=by
 unfold kC at h
 split at h
 ·split at h
  ·simp at h; obtain ⟨_,rfl,rfl⟩:=h; simp [jH] at hb
  ·simp at h
 ·simp at h; obtain ⟨_,rfl,rfl⟩:=h; simpa [jh] using hb
 ·simp at h
theorem KU {cf:Cfg} {ops:Array Oper} {o:Oper} {tm tm':Nat→Option AV} {get get':Nat→ABlk} {nm:Nat} {gd:Option Bool} {dc:Dec}
  (h:∀ t ∈ o.looksAt ops,tm t=tm' t) (hg:∀ t ∈ o.looksAt ops,∀ a,tm t=some a→∀ b ∈ jh a,get b=get' b) (hd:∀ t ∈ o.looksAt ops,∀ a,tm t=some a→∀ q ∈ ki dc get (jh a),get q=get' q) :
  kA cf ops o tm get nm gd dc=kA cf ops o tm' get' nm gd dc:=by
 have hop:∀ x ∈ o.op.operands,evT cf tm x=evT cf tm' x:=by
  intro x hx
  cases x with
  | tmp t=>simp only [evT]; rw [h t (List.mem_append_left _ (List.mem_filterMap.2 ⟨.tmp t,by simpa using hx,rfl⟩))]
  | _=>rfl
 have hwhere:∀ x ∈ o.op.operands,∀ b ∈ jh (evT cf tm x),∃ t ∈ o.looksAt ops,tm t=some (evT cf tm x):=by
  intro x hx b hb
  cases x with
  | tmp t =>
   have ht:t ∈ o.looksAt ops:=List.mem_append_left _ (List.mem_filterMap.2 ⟨.tmp t,by simpa using hx,rfl⟩)
   simp only [evT] at hb
   cases htm:tm t with
   | none=>rw [htm] at hb; simp [jh] at hb
   | some a=>exact ⟨t,ht,by simp [evT,htm]⟩
  | const v =>
   simp only [evT] at hb
   exfalso
   have:∀ (v:Value) (a:AV),zI v=some a→jh a=[]:=by
    intro v a hv
    cases v with
    | agg cs =>
     simp only [zI] at hv
     split at hv
     ·simp at hv; subst hv
      simp only [jh]
      generalize cs.toList=l
      induction l with
      | nil=>rfl
      | cons x xs ih=>simp [jH,jh,ih]
     ·simp at hv
    | tuple=>simp [zI] at hv
    | _=>simp [zI] at hv; subst hv; rfl
   have hl:∀ (vs:List Value) (as:List AV),yX vs=some as→jH as=[]:=by
    intro vs
    induction vs with
    | nil=>intro as ha; simp [yX] at ha; subst ha; rfl
    | cons x xs ih =>
     intro as ha
     simp only [yX] at ha
     split at ha
     ·rename_i a as' h1 h2
      simp at ha; subst ha
      simp [jH,this x a h1,ih as' h2]
     ·simp at ha
   have:jh ((qp v).getD .any)=[]:=by
    cases hv:qp v with
    | none=>rfl
    | some a =>
     cases v with
     | tuple vs =>
      simp only [qp] at hv
      split at hv
      ·rename_i as has
       simp at hv; subst hv
       simpa [jh] using hl _ _ has
      ·simp at hv
     | _=>exact this _ _ (by simpa [qp] using hv)
   rw [this] at hb; simp at hb
  | global g =>
   simp only [evT] at hb
   split at hb <;> simp [jh] at hb
  | func f=>simp [evT,jh] at hb
 have hgo:∀ x ∈ o.op.operands,∀ b ∈ jh (evT cf tm x),get b=get' b:=by
  intro x hx b hb
  obtain ⟨t,ht,htm⟩:=hwhere x hx b hb
  exact hg t ht _ htm b hb
 have hdo:∀ x ∈ o.op.operands,∀ q ∈ ki dc get (jh (evT cf tm x)),get q=get' q:=by
  intro x hx q hq
  have hne:∃ b,b ∈ jh (evT cf tm x):=by
   unfold ki at hq
   split at hq
   ·obtain ⟨b,hb,_⟩:=List.mem_flatMap.1 hq
    exact ⟨b,hb⟩
   ·simp at hq
  obtain ⟨b,hb⟩:=hne
  obtain ⟨t,ht,htm⟩:=hwhere x hx b hb
  exact hd t ht _ htm q hq
 have hgd:kB ops o tm gd=kB ops o tm' gd:=by
  unfold kB
  cases hgu:o.guard with
  | none=>rfl
  | some jw =>
   obtain ⟨j,want⟩:=jw
   simp only
   cases hd:(ops[j]?).bind (·.dst) with
   | none=>rfl
   | some t =>
    have:tm t=tm' t:=h t (by simp [Oper.looksAt,hgu,hd])
    cases gd <;> simp [this]
 unfold kA
 rw [hgd]
 split
 ·rfl
 ·rfl
 ·split
  ·rename_i f args hc
   obtain ⟨as,ts,hoo,rfl⟩:=Kg hc
   have hf:=hop f (by rw [hoo]; simp [Op.operands,Call.operands])
   have hev:evs (evT cf tm) as.toList=evs (evT cf tm') as.toList:=zd fun x hx=>hop x (by rw [hoo]; simp [Op.operands,Call.operands]; exact .inr (by simpa using hx))
   rw [← hf]
   split
   ·rfl
   ·rename_i g fs cs hcal
    rw [← hev]
    have hpass:Jl get (fs++evs (evT cf tm) as.toList++cs)=Jl get' (fs++evs (evT cf tm) as.toList++cs):=by
     apply J8
     intro b hb
     rw [Jq,Jq,List.mem_append,List.mem_append] at hb
     rcases hb with (hb | hb) | hb
     ·exact hgo f (by rw [hoo]; simp [Op.operands,Call.operands]) b (JI hcal (.inl hb))
     ·obtain ⟨x,hx,hxb⟩:=kY hb
      exact hgo x (by rw [hoo]; simp [Op.operands,Call.operands]; exact .inr (by simpa using hx)) b hxb
     ·exact hgo f (by rw [hoo]; simp [Op.operands,Call.operands]) b (JI hcal (.inr hb))
    have hpassR:Kq get (fs++evs (evT cf tm) as.toList++cs)=Kq get' (fs++evs (evT cf tm) as.toList++cs):=by
     apply Z9
     intro b hb
     rw [Jq,Jq,List.mem_append,List.mem_append] at hb
     rcases hb with (hb | hb) | hb
     ·exact hgo f (by rw [hoo]; simp [Op.operands,Call.operands]) b (JI hcal (.inl hb))
     ·obtain ⟨x,hx,hxb⟩:=kY hb
      exact hgo x (by rw [hoo]; simp [Op.operands,Call.operands]; exact .inr (by simpa using hx)) b hxb
     ·exact hgo f (by rw [hoo]; simp [Op.operands,Call.operands]) b (JI hcal (.inr hb))
    have hpassP:J0 get (fs++evs (evT cf tm) as.toList++cs)=J0 get' (fs++evs (evT cf tm) as.toList++cs):=by
     apply Kz
     intro b hb
     rw [Jq,Jq,List.mem_append,List.mem_append] at hb
     rcases hb with (hb | hb) | hb
     ·exact hgo f (by rw [hoo]; simp [Op.operands,Call.operands]) b (JI hcal (.inl hb))
     ·obtain ⟨x,hx,hxb⟩:=kY hb
      exact hgo x (by rw [hoo]; simp [Op.operands,Call.operands]; exact .inr (by simpa using hx)) b hxb
     ·exact hgo f (by rw [hoo]; simp [Op.operands,Call.operands]) b (JI hcal (.inr hb))
    rw [hpass,hpassR,hpassP]
  ·rw [jdS hop hgo hdo]
def jli:Option Nat→Dec
 | none=>.none
 | some j=>.ck j
def bare:AV→AV
 | .opt _ x=>x
 | a=>a
def K4 (tm:Nat→Option AV) (t:Nat):Option AV:=(tm t).map bare
def Kp (tm:Nat→Option AV):List Tmp→List Bool
 | []=>[]
 | t :: ts=>match tm t with
  | some (.opt g _)=>g :: Kp tm ts
  | _=>Kp tm ts
def jiI:List Bool→List PC
 | []=>[]
 | g :: gs=>.eqB g true :: jiI gs
def jhY (b:Bool):List Bool→List PC
 | []=>[]
 | g :: gs=>.eqB (!b||g) true :: jhY b gs
def jfi (cf:Cfg) (ops:Array Oper) (o:Oper) (tm:Nat→Option AV) (get:Nat→ABlk) (nm:Nat) (c:Option Nat):Option Eff :=
 match o.guard with
 | some (j,want)=>match (ops[j]?).bind (·.dst) with
  | some t=>match tm t with
   | some (.d (.v (.bool b)))=>match kA cf ops o (K4 tm) get nm (some want) (jli c) with
    | some e=>match e.wr with
     | []=>some ⟨e.pcs.dropLast++jhY (b==want) (Kp tm (o.looksAt ops)),.opt (b==want) e.val,[]⟩
     | _=>none
    | none=>none
   | _=>none
  | none=>none
 | none=>none
def qw (cf:Cfg) (ops:Array Oper) (o:Oper) (tm:Nat→Option AV) (get:Nat→ABlk) (nm:Nat) (gd:Option Bool) (dc:Dec):Option Eff :=
 match dc with
 | .sp c=>jfi cf ops o tm get nm c
 | .mg=>kA cf ops o tm get nm gd .mg
 | dc=>match kB ops o tm gd with
  | some (false,ps)=>some ⟨ps,.tup [],[]⟩
  | _=>match kA cf ops o (K4 tm) get nm gd dc with
   | some e=>some ⟨e.pcs++jiI (Kp tm (o.looksAt ops)),e.val,e.wr⟩
   | none=>none
theorem ZB (a:AV):jh (bare a)=jh a:=by
 cases a <;> rfl
theorem Zy {tm tm':Nat→Option AV}:∀ {l:List Tmp},(∀ t ∈ l,tm t=tm' t)→Kp tm l=Kp tm' l
 | [],_=>rfl
 | t :: ts,h=>by
  simp only [Kp]
  rw [h t (by simp),Zy (l:=ts) (fun x hx=>h x (by simp [hx]))]
theorem yS {cf:Cfg} {ops:Array Oper} {o:Oper} {tm tm':Nat→Option AV} {get get':Nat→ABlk} {nm:Nat} {gd:Option Bool} {dc:Dec}
  (h:∀ t ∈ o.looksAt ops,tm t=tm' t) (hg:∀ t ∈ o.looksAt ops,∀ a,tm t=some a→∀ b ∈ jh a,get b=get' b) (hd:∀ t ∈ o.looksAt ops,∀ a,tm t=some a→∀ q ∈ ki dc get (jh a),get q=get' q) :
  qw cf ops o tm get nm gd dc=qw cf ops o tm' get' nm gd dc:=by
 have h1:∀ t ∈ o.looksAt ops,K4 tm t=K4 tm' t:=fun t ht=>by simp only [K4,h t ht]
 have h2:∀ t ∈ o.looksAt ops,∀ a,K4 tm t=some a→∀ b ∈ jh a,get b=get' b:=by
  intro t ht a ha b hb
  simp only [K4,Option.map_eq_some_iff] at ha
  obtain ⟨x,hx,rfl⟩:=ha
  rw [ZB] at hb
  exact hg t ht x hx b hb
 have h2d:∀ t ∈ o.looksAt ops,∀ a,K4 tm t=some a→∀ q ∈ ki dc get (jh a),get q=get' q:=by
  intro t ht a ha q hq
  simp only [K4,Option.map_eq_some_iff] at ha
  obtain ⟨x,hx,rfl⟩:=ha
  rw [ZB] at hq
  exact hd t ht x hx q hq
 have h2n:∀ c,∀ t ∈ o.looksAt ops,∀ a,K4 tm t=some a→∀ q ∈ ki (jli c) get (jh a),get q=get' q:=by
  intro c t _ a _ q hq
  cases c <;> simp [jli,ki] at hq
 have h3:=Zy h
 unfold qw
 split
 ·rename_i c
  unfold jfi
  split
  ·rename_i j want hgu
   split
   ·rename_i t hd
    have ht:tm t=tm' t:=h t (by simp [Oper.looksAt,hgu,hd])
    rw [ht,KU h1 h2 (h2n _),h3]
   ·rfl
  ·rfl
 ·exact KU h hg hd
 ·have hgd:kB ops o tm gd=kB ops o tm' gd:=by
   unfold kB
   cases hgu:o.guard with
   | none=>rfl
   | some jw =>
    obtain ⟨j,want⟩:=jw
    simp only
    cases hd:(ops[j]?).bind (·.dst) with
    | none=>rfl
    | some t =>
     have:tm t=tm' t:=h t (by simp [Oper.looksAt,hgu,hd])
     cases gd <;> simp [this]
  rw [hgd,KU h1 h2 h2d,h3]
theorem jmN (a:PC) (qs ks:List PC) (b:PC):∃ zs,a :: (qs++(ks++[b]))=zs++[b]:=⟨a :: (qs++ks),by simp⟩
theorem jdQ {cf:Cfg} {ops:Array Oper} {o:Oper} {tm:Nat→Option AV} {get:Nat→ABlk} {nm:Nat} {dc:Dec} {j:Nat} {want b:Bool} {t:Nat} {e:Eff}
  (hg:o.guard=some (j,want)) (hd:(ops[j]?).bind (·.dst)=some t) (ht:tm t=some (.d (.v (.bool b)))) (h:kA cf ops o tm get nm (some want) dc=some e):∃ qs,e.pcs=qs++[.eqB b want]:=by
 have hg1:kB ops o tm (some want)=some (true,[.eqB b want]):=by
  unfold kB
  rw [hg]
  simp only [hd,ht]
  simp
 unfold kA at h
 rw [hg1] at h
 simp only at h
 repeat' split at h
 all_goals first
  | (simp at h; done)
  | (simp only [Option.some.injEq] at h; subst h; exact ⟨[_],rfl⟩)
  | (simp only [Option.some.injEq] at h; subst h; exact ⟨[_,_],rfl⟩)
  | (simp only [Option.some.injEq] at h; subst h; exact jmN _ _ _ _)
  | (simp only [Option.some.injEq] at h; subst h; exact ⟨_,rfl⟩)
theorem jel {cf:Cfg} {ops:Array Oper} {o:Oper} {tm:Nat→Option AV} {get:Nat→ABlk} {nm:Nat} {dc:Dec} {j:Nat} {want b:Bool} {t:Nat}
  (hg:o.guard=some (j,want)) (hd:(ops[j]?).bind (·.dst)=some t) (ht:tm t=some (.d (.v (.bool b)))):kA cf ops o tm get nm (some (!want)) dc=some ⟨[.eqB b (!want)],.tup [],[]⟩:=by
 have hg1:kB ops o tm (some (!want))=some (false,[.eqB b (!want)]):=by
  unfold kB
  rw [hg]
  simp only [hd,ht]
  cases want <;> simp
 unfold kA
 rw [hg1]
def Z3:Op→Bool
 | .move _=>true
 | .fieldAddr ..=>true
 | .indexAddr ..=>true
 | _=>false
theorem jbR {cf:Cfg} {ops:Array Oper} {o:Oper} {tm:Nat→Option AV} {get get':Nat→ABlk} {nm:Nat} {gd:Option Bool} {dc:Dec} (hp:Z3 o.op=true) :
  qw cf ops o tm get nm gd dc=qw cf ops o tm get' nm gd dc:=by
 have haop:∀ ev nm dc,Yr cf o ev get nm dc=Yr cf o ev get' nm dc:=by
  intro ev nm dc
  cases hop:o.op <;> simp [Z3,hop] at hp <;> simp only [Yr,aop,hop]
 have hcall:qe o.op=none:=by
  cases hop:o.op <;> simp [Z3,hop] at hp <;> rfl
 have h0:∀ tm gd dc,kA cf ops o tm get nm gd dc=kA cf ops o tm get' nm gd dc:=by
  intro tm gd dc
  unfold kA
  simp only [hcall,haop]
 unfold qw jfi
 simp only [h0]
end Go.Kv
