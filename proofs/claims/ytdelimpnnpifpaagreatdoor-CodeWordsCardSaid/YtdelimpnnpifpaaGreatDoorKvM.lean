import Derived.Test.YtdelimpnnpifpaaGreatDoorKvL
set_option linter.all false
namespace Go.Kv
open Go Go.RowKit
mutual
def jm:AV→List Nat
 | .ptr b _=>[b]
 | .own b _ _ _ _=>[b]
 | .ms b _ _ _ _=>[b]
 | .mp b=>[b]
 | .gx b _=>[b]
 | .agg cs=>jO cs
 | .tup cs=>jO cs
 | .fn _ fs cs=>jO fs++jO cs
 | .opt _ x=>jm x
 | _=>[]
def jO:List AV→List Nat
 | []=>[]
 | a :: as=>jm a++jO as
end
section
variable {cf:Cfg} {get get':Nat→ABlk}
mutual
theorem Jc:∀ {a:AV},(∀ b ∈ jm a,get b=get' b)→j7 get a=j7 get' a
 | .d _,_=>rfl
 | .own ..,_=>rfl
 | .ms b off sz n cap,h=>by
  have:=h b (by simp [jm])
  simp only [j7,this]
 | .agg cs,h=>by
  have:=kv (as:=cs) (fun b hb=>h b (by simpa [jm] using hb))
  simp only [j7,this]
 | .tup cs,h=>by
  have:=kv (as:=cs) (fun b hb=>h b (by simpa [jm] using hb))
  simp only [j7,this]
 | .ptr b off,h=>by
  have:=h b (by simp [jm])
  simp only [j7,this]
 | .ip ..,_=>rfl
 | .fn _ fs cs,h=>by
  have h1:=kv (as:=fs) (fun b hb=>h b (by simp [jm,hb]))
  have h2:=kv (as:=cs) (fun b hb=>h b (by simp [jm,hb]))
  simp only [j7,h1,h2]
 | .yl ..,_=>rfl
 | .mp ..,_=>rfl
 | .gx ..,_=>rfl
 | .em,_=>rfl
 | .nan _,_=>rfl
 | .opt ..,_=>rfl
 | .any,_=>rfl
theorem kv:∀ {as:List AV},(∀ b ∈ jO as,get b=get' b)→Jq get as=Jq get' as
 | [],_=>rfl
 | a :: as,h=>by
  have h1:=Jc (a:=a) (fun b hb=>h b (by simp [jO,hb]))
  have h2:=kv (as:=as) (fun b hb=>h b (by simp [jO,hb]))
  simp only [Jq,h1,h2]
end
theorem yo:∀ {as:List AV},(∀ b ∈ jO as,get b=get' b)→Kz get as=Kz get' as
 | [],_=>rfl
 | a :: as,h=>by
  have h1:=Jc (a:=a) (fun b hb=>h b (by simp [jO,hb]))
  have h3:jfG get a=jfG get' a:=by cases a <;> first | rfl | exact h1
  have h2:=yo (as:=as) (fun b hb=>h b (by simp [jO,hb]))
  simp only [Kz,h3,h2]
mutual
theorem jcF:∀ {a:AV},(∀ b ∈ jm a,get b=get' b)→Jt get a=Jt get' a
 | .ms b off sz n cap,h=>by
  have:=h b (by simp [jm])
  simp only [Jt,this]
 | .agg cs,h=>by
  have:=KM (as:=cs) (fun b hb=>h b (by simpa [jm] using hb))
  simp only [Jt,this]
 | .tup cs,h=>by
  have:=KM (as:=cs) (fun b hb=>h b (by simpa [jm] using hb))
  simp only [Jt,this]
 | .d x,h=>by simp only [Jt,Jc h]
 | .own ..,h=>by simp only [Jt,Jc h]
 | .ptr ..,h=>by simp only [Jt,Jc h]
 | .ip ..,h=>by simp only [Jt,Jc h]
 | .fn _ fs cs,h=>by simp only [Jt,Jc h]
 | .yl ..,h=>by simp only [Jt,Jc h]
 | .mp ..,h=>by simp only [Jt,Jc h]
 | .gx ..,h=>by simp only [Jt,Jc h]
 | .em,h=>by simp only [Jt,Jc h]
 | .nan _,h=>by simp only [Jt,Jc h]
 | .opt ..,h=>by simp only [Jt,Jc h]
 | .any,h=>by simp only [Jt,Jc h]
theorem KM:∀ {as:List AV},(∀ b ∈ jO as,get b=get' b)→J9 get as=J9 get' as
 | [],_=>rfl
 | a :: as,h=>by
  have h1:=jcF (a:=a) (fun b hb=>h b (by simp [jO,hb]))
  have h2:=KM (as:=as) (fun b hb=>h b (by simp [jO,hb]))
  simp only [J9,h1,h2]
end
theorem jb5 {o:Oper} {ev ev':Operand→AV} (h:∀ x ∈ o.op.operands,ev x=ev' x):JG cf o ev=JG cf o ev':=by
 unfold JG
 by_cases hs:yy o.op=true
 ·simp [hs]
 ·rw [if_neg hs,if_neg hs]
  have h1:o.op.operands.toList.all (fun x=>(ev x).full.isSome)=o.op.operands.toList.all (fun x=>(ev' x).full.isSome):=by
   rw [Bool.eq_iff_iff]
   simp only [List.all_eq_true]
   constructor
   ·intro hh x hx; rw [← h x (by simpa using hx)]; exact hh x hx
   ·intro hh x hx; rw [h x (by simpa using hx)]; exact hh x hx
  have h2:execOp (fun x=>((ev x).full).getD undef) o=execOp (fun x=>((ev' x).full).getD undef) o :=
   execOp_congr o (by intro cs b he; rw [he] at hs; simp [yy] at hs) fun x hx=>by rw [h x hx]
  rw [h1,h2]
theorem jdz {t:TypeId} {a:AV} {dc:Dec} (h:∀ b ∈ jm a,get b=get' b):Qy cf t a get dc=Qy cf t a get' dc:=by
 unfold Qy
 cases a <;> try rfl
 rename_i b off
 have:=h b (by simp [jm])
 simp only [this]
theorem jbT {t:TypeId} {a v:AV} {dc:Dec} (h:∀ b ∈ jm a,get b=get' b):zj cf t a v get dc=zj cf t a v get' dc:=by
 unfold zj
 cases a with
 | ptr b off =>
  have:=h b (by simp [jm])
  cases QL cf.P t <;> cases Zm v <;> first | rfl | simp only [this]
 | _=>rfl
theorem YA {x:AV} (h:∀ b ∈ jm x,get b=get' b):ZV get x=ZV get' x:=by
 unfold ZV
 cases x <;> try rfl
 case ms b off sz n cap =>
  have:=h b (by simp [jm])
  simp only [this]
theorem Gv {x:AV} (h:∀ b ∈ jm x,get b=get' b):jb2 get x=jb2 get' x:=by
 unfold jb2
 rw [YA h]
 cases x <;> try rfl
 case ms b off sz n cap =>
  have:=h b (by simp [jm])
  simp only [this]
theorem GB {ts:Array TypeId} {s x:AV} {nm:Nat} {dc:Dec} (h:∀ b ∈ jm s,get b=get' b) (hx:∀ b ∈ jm x,get b=get' b):zt cf ts s x get nm dc=zt cf ts s x get' nm dc:=by
 unfold zt
 have:jdW get s=jdW get' s:=by
  cases s <;> first | rfl | exact h _ (by simp [jm])
 rw [this,YA hx]
theorem GL {ts:Array TypeId} {s x:AV} {nm:Nat} (h:∀ b ∈ jm s,get b=get' b) (hx:∀ b ∈ jm x,get b=get' b):zP cf ts s x get nm=zP cf ts s x get' nm:=by
 unfold zP
 have:jae get s=jae get' s:=by
  cases s <;> first | rfl | exact h _ (by simp [jm])
 rw [this,Gv hx]
theorem YU {ts:Array TypeId} {s x:AV} (h:∀ b ∈ jm s,get b=get' b):KQ cf ts s x get=KQ cf ts s x get':=by
 unfold KQ
 cases s <;> try rfl
 case ms b off sz n cap =>
  have:=h b (by simp [jm])
  cases jbn x <;> simp only [this]
theorem jdH {ts:Array TypeId} {s x:AV} (h:∀ b ∈ jm s,get b=get' b):jaq cf ts s x get=jaq cf ts s x get':=by
 unfold jaq
 cases s <;> try rfl
 case ms b off sz n cap =>
  have:=h b (by simp [jm])
  cases jbn x <;> simp only [this]
theorem Gf {s:AV} (h:∀ b ∈ jm s,get b=get' b):jbd get s=jbd get' s:=by
 unfold jbd
 cases s <;> try rfl
 case d x=>cases x <;> rfl
 case ms b off sz n cap =>
  have:=h b (by simp [jm])
  simp only [this]
theorem jbs {ts:Array TypeId} {s x:AV} (h:∀ b ∈ jm s,get b=get' b) (hx:∀ b ∈ jm x,get b=get' b):yT cf ts s x get=yT cf ts s x get':=by
 have h0:=jdH (cf:=cf) (ts:=ts) (x:=x) h
 unfold yT
 cases x <;> try exact h0
 case ms b off sz n cap =>
  have e:=Gf (s:=.ms b off sz n cap) hx
  simp only [e]
  generalize jbd get' (.ms b off sz n cap)=rw0
  cases s <;> try rfl
  case ms b' off' sz' n' cap' =>
   have:=h b' (by simp [jm])
   cases rw0 with
   | none=>rfl
   | some p=>obtain ⟨m0,ys⟩:=p; simp only [this]
theorem jdv {t t':TypeId} {s:AV} (h:∀ b ∈ jm s,get b=get' b):Gd cf t t' s get=Gd cf t t' s get':=by
 unfold Gd
 simp only [Gf h]
theorem jbo {t t':TypeId} {s:AV} (h:∀ b ∈ jm s,get b=get' b):ZC cf t t' s get=ZC cf t t' s get':=by
 have:=jdv (cf:=cf) (t:=t) (t':=t') h
 cases s <;> try exact this
 case d x=>cases x <;> first | rfl | exact this | (rename_i u; cases u <;> first | rfl | exact this)
theorem jcS {t t':TypeId} {s:AV} (h:∀ b ∈ jm s,get b=get' b):Ys cf t t' s get=Ys cf t t' s get':=by
 unfold Ys
 cases s <;> try rfl
 case own b e sz n xs =>
  have:=h b (by simp [jm])
  simp only [this]
theorem GQ {t:TypeId} {x i:AV} {ok:Bool} {dc:Dec} (h:∀ b ∈ jm x,get b=get' b):qg cf t x i ok get dc=qg cf t x i ok get' dc:=by
 unfold qg
 split
 ·rename_i b _
  rw [h b (by simp [jm])]
 ·rfl
theorem Zc {t:TypeId} {x k v:AV} (h:∀ b ∈ jm x,get b=get' b):kR cf t x k v get=kR cf t x k v get':=by
 unfold kR
 split
 ·rename_i b _
  rw [h b (by simp [jm])]
 ·rfl
theorem zu {ev ev':Operand→AV}:∀ {xs:List Operand},(∀ x ∈ xs,ev x=ev' x)→evs ev xs=evs ev' xs
 | [],_=>rfl
 | x :: xs,h=>by simp only [evs]; rw [h x (by simp),zu fun y hy=>h y (by simp [hy])]
theorem yA {ev ev':Operand→AV} {ps:Array (Nat × Operand)} (h:∀ x ∈ ps.map (·.2),ev x=ev' x):qm ev ps=qm ev' ps:=by
 unfold qm
 apply List.map_congr_left
 intro x hx
 rw [h x.2 (Array.mem_map.2 ⟨x,by simpa using hx,rfl⟩)]
theorem ZN {ev ev':Operand→AV} {x:Option Operand} {d:Int} (h:∀ y,x=some y→ev y=ev' y):jY ev x d=jY ev' x d:=by
 cases x with
 | none=>rfl
 | some y=>simp only [jY,h y rfl]
def kB (dc:Dec) (get:Nat→ABlk) (bs:List Nat):List Nat:=match dc with
 | .nx true=>bs.flatMap fun b=>match get b with
  | .cells [.ms q _ _ _ _] _=>[q]
  | _=>[]
 | _=>[]
theorem jdy {dc:Dec} {get get':Nat→ABlk} {bs:List Nat} (h:∀ b ∈ bs,get b=get' b):kB dc get bs=kB dc get' bs:=by
 unfold kB
 cases dc <;> try rfl
 case nx b =>
  cases b
  ·rfl
  ·simp only
   induction bs with
   | nil=>rfl
   | cons b bs ih=>simp only [List.flatMap_cons]; rw [h b (by simp),ih fun x hx=>h x (by simp [hx])]
theorem jg1 {dc:Dec} {get:Nat→ABlk} {bs bs':List Nat} (h:∀ b ∈ bs,b ∈ bs') {q:Nat} (hq:q ∈ kB dc get bs):q ∈ kB dc get bs':=by
 unfold kB at hq ⊢
 cases dc <;> try (simp at hq; done)
 case nx b =>
  cases b
  ·simp at hq
  ·obtain ⟨b,hb,hq⟩:=List.mem_flatMap.1 hq
   exact List.mem_flatMap.2 ⟨b,h b hb,hq⟩
theorem jem {x:AV} (h:∀ b ∈ jm x,get b=get' b):jec get x=jec get' x:=by
 cases x <;> try rfl
 case ms b _ _ _ _=>simp only [jec,h b (by simp [jm])]
theorem jgO {x:AV} {q:Nat} (h:jec get x=some q):q ∈ kB (.nx true) get (jm x):=by
 cases x <;> simp [jec] at h
 case ms b _ _ _ _ =>
  simp only [kB,jm,List.flatMap_cons,List.flatMap_nil,List.append_nil]
  split at h
  ·rename_i q' _ _ _ _ _ hb
   simp only [Option.some.injEq] at h; subst h
   rw [hb]; simp
  ·simp at h
theorem jc3 {ts:Array TypeId} {s x:AV} {nm:Nat} (h:∀ b ∈ jm s,get b=get' b) (hx:∀ b ∈ jm x,get b=get' b) (hd:∀ q ∈ kB (.nx true) get (jm x),get q=get' q) :
  YC cf ts s x get nm=YC cf ts s x get' nm:=by
 have hb:jjc get s=jjc get' s:=by
  cases s <;> try rfl
  case gx b _=>exact h b (by simp [jm])
 unfold YC
 rw [← jem hx,← Gv hx,← hb]
 cases hl:jec get x with
 | none=>rfl
 | some q =>
  cases jb2 get x with
  | none=>rfl
  | some src =>
   show jfC cf ts s src q (get q) (jjc get s) nm=jfC cf ts s src q (get' q) (jjc get s) nm
   rw [hd q (jgO hl)]
theorem jbU {t:TypeId} {a:AV} {dc:Dec} (h:∀ b ∈ jm a,get b=get' b):zf cf t a get dc=zf cf t a get' dc:=by
 unfold zf
 cases a <;> try rfl
 case gx b x=>cases x <;> first | rfl | simp only [h b (by simp [jm])]
theorem GW {t:TypeId} {a v:AV} (h:∀ b ∈ jm a,get b=get' b) (hv:∀ b ∈ jm v,get b=get' b):Kl cf t a v get=Kl cf t a v get':=by
 cases a <;> try rfl
 case gx b x =>
  have hb:=h b (by simp [jm])
  cases v <;> try (cases x <;> rfl)
  case ms q o sz m cp =>
   have hq:=hv q (by simp [jm])
   cases x <;> first | rfl | (simp [Kl,hb,hq])
  case d y=>cases x <;> first | rfl | simp [Kl,hb]
  case gx b' y =>
   cases x <;> cases y <;> first | rfl | (by_cases hbb:(b==b')=true <;> simp [Kl,hbb,hb])
theorem jgP {o:Oper} {ev ev':Operand→AV} {nm:Nat} {dc:Dec} (h:∀ x ∈ o.op.operands,ev x=ev' x) (hg:∀ x ∈ o.op.operands,∀ b ∈ jm (ev x),get b=get' b) (hd:∀ x ∈ o.op.operands,∀ q ∈ kB dc get (jm (ev x)),get q=get' q) :
  aop cf o ev get nm dc=aop cf o ev' get' nm dc:=by
 have hp:=jb5 (cf:=cf) h
 have hl:∀ t x,x ∈ o.op.operands→Qy cf t (ev x) get dc=Qy cf t (ev' x) get' dc:=fun t x hx=>by rw [jdz (hg x hx),h x hx]
 unfold aop
 cases hop:o.op <;> rw [hop] at h hg hl hd <;> simp only [Op.operands] at h hg hl
 case move x=>simp only [h x (by simp)]
 case assign x=>simp only [h x (by simp)]
 case pick x a b=>simp only [h x (by simp),h a (by simp),h b (by simp),jj9,hp]
 case box t x=>simp only [h x (by simp)]
 case build t ps=>simp only [hp,jbB,yA (ps:=ps) (fun x hx=>h x (by simpa using hx))]
 case buildSlice t n ps=>simp only [qe,yA (ps:=ps) (fun x hx=>h x (by simpa using hx))]
 case load t a=>show orE (Qy cf t (ev a) get dc) (zf cf t (ev a) get dc)=orE (Qy cf t (ev' a) get' dc) (zf cf t (ev' a) get' dc); rw [hl t a (by simp),jbU (hg a (by simp)),h a (by simp)]
 case store t a x=>show orE (zj cf t (ev a) (ev x) get dc) (Kl cf t (ev a) (ev x) get)=orE (zj cf t (ev' a) (ev' x) get' dc) (Kl cf t (ev' a) (ev' x) get'); rw [jbT (hg a (by simp)),GW (hg a (by simp)) (hg x (by simp)),h a (by simp),h x (by simp)]
 case nilCheck x=>simp only [Yj,h x (by simp),hp]
 case binOp op t x y t'=>simp only [jmA,h x (by simp),h y (by simp),hp]
 case unOp op t x=>simp only [unA,h x (by simp),hp]
 case convert s d x=>show orE (Q9 cf s d (ev x)) (orE (Gg cf s d (ev x)) (orE (Ys cf s d (ev x) get) (orE (ZC cf s d (ev x) get) (JG cf o ev))))=orE (Q9 cf s d (ev' x)) (orE (Gg cf s d (ev' x)) (orE (Ys cf s d (ev' x) get') (orE (ZC cf s d (ev' x) get') (JG cf o ev')))); rw [jcS (hg x (by simp)),jbo (hg x (by simp)),h x (by simp),hp]
 case makeSlice t l cp=>simp only [h l (by simp),h cp (by simp)]
 case sliceToArrayPointer a x=>simp only [h x (by simp)]
 case makeInterface t x=>exact hp
 case makeFunc f first captured =>
  simp only [hp,yM,zu (xs:=first.toList) (fun x hx=>h x (by simp at hx; simp [hx])),zu (xs:=captured.toList) (fun x hx=>h x (by simp at hx; simp [hx]))]
 case slice t x lo hi mx =>
  have h1:=h x (by simp)
  have h2:∀ d,jY ev lo d=jY ev' lo d:=fun d=>ZN fun y hy=>h y (by subst hy; simp)
  have h3:∀ d,jY ev hi d=jY ev' hi d:=fun d=>ZN fun y hy=>h y (by subst hy; simp)
  have h4:∀ y,hi=some y→ev y=ev' y:=fun y hy=>h y (by subst hy; simp)
  have h5:∀ y,mx=some y→ev y=ev' y:=fun y hy=>h y (by subst hy; simp)
  have h6:zB cf t ev x lo hi mx=zB cf t ev' x lo hi mx:=by
   unfold zB
   cases hi with
   | none=>cases cf.P.underlying t with
    | none=>rfl
    | some d=>cases d <;> rfl
   | some yh=>cases mx with
    | none=>cases cf.P.underlying t with
     | none=>rfl
     | some d=>cases d <;> rfl
    | some ym=>cases cf.P.underlying t with
     | none=>rfl
     | some d=>cases d <;> simp only [h1,h2,h4 yh rfl,h5 ym rfl]
  have h7:zD cf t ev x lo hi mx=zD cf t ev' x lo hi mx:=by simp only [zD,h1,h2]
  simp only [hp,jb3,h1,h2,h3,h6,h7]
 case fieldAddr t x f=>simp only [h x (by simp)]
 case field t x f=>simp only [h x (by simp),hp]
 case indexAddr t x i=>simp only [h x (by simp),h i (by simp)]
 case index t x i=>simp only [h x (by simp),h i (by simp)]
 case extract t i=>simp only [h t (by simp)]
 case lookup t x i ok=>show qg cf t (ev x) (ev i) ok get dc=qg cf t (ev' x) (ev' i) ok get' dc; rw [GQ (hg x (by simp)),h x (by simp),h i (by simp)]
 case mapUpdate t m k x=>show kR cf t (ev m) (ev k) (ev x) get=kR cf t (ev' m) (ev' k) (ev' x) get'; rw [Zc (hg m (by simp)),h m (by simp),h k (by simp),h x (by simp)]
 case insert t m k x=>show kR cf t (ev m) (ev k) (ev x) get=kR cf t (ev' m) (ev' k) (ev' x) get'; rw [Zc (hg m (by simp)),h m (by simp),h k (by simp),h x (by simp)]
 case call cl =>
  obtain ⟨callee,args,argTypes⟩:=cl
  cases callee with
  | value f=>rfl
  | invoke r m=>rfl
  | builtin b =>
   simp only [Call.operands] at h hg
   have hargs:∀ x ∈ args.toList,ev x=ev' x:=fun x hx=>h x (by simp at hx ⊢; exact hx)
   have hgs:∀ x ∈ args.toList,∀ b ∈ jm (ev x),get b=get' b:=fun x hx=>hg x (by simp at hx ⊢; exact hx)
   have hds:∀ x ∈ args.toList,∀ q ∈ kB dc get (jm (ev x)),get q=get' q:=fun x hx=>hd x (by simp [Op.operands,Call.operands] at hx ⊢; exact hx)
   cases b <;> try exact hp
   case append =>
    simp only
    split
    ·rename_i s x hx
     rw [hx] at hargs hgs hds
     have hap:jf9 dc (YC cf argTypes (ev s) (ev x) get nm)=jf9 dc (YC cf argTypes (ev s) (ev x) get' nm):=by
      unfold jf9
      split
      ·exact jc3 (hgs s (by simp)) (hgs x (by simp)) (hds x (by simp))
      ·rfl
     rw [hap,GL (hgs s (by simp)) (hgs x (by simp)),GB (hgs s (by simp)) (hgs x (by simp)),YU (hgs s (by simp)),hargs s (by simp),hargs x (by simp)]
    ·rfl
   case copy =>
    simp only
    split
    ·rename_i s x hx
     rw [hx] at hargs hgs
     rw [jbs (hgs s (by simp)) (hgs x (by simp)),hargs s (by simp),hargs x (by simp)]
    ·rfl
   case len =>
    simp only
    split
    ·rename_i x hx
     rw [hx] at hargs
     rw [hargs x (by simp),hp]
    ·rfl
theorem gO {t t':TypeId} {s:AV} (h:∀ b ∈ jm s,get b=get' b):Ku cf t t' s get=Ku cf t t' s get':=by
 unfold Ku
 have:Zx get s=Zx get' s:=by
  cases s <;> first | rfl | exact h _ (by simp [jm])
 rw [this]
theorem GN {ts:Array TypeId} {s x:AV} {nm:Nat} (h:∀ b ∈ jm s,get b=get' b):zw cf ts s x get nm=zw cf ts s x get' nm:=by
 unfold zw
 have:jae get s=jae get' s:=by
  cases s <;> first | rfl | exact h _ (by simp [jm])
 rw [this]
theorem yP {ts:Array TypeId} {p n:AV} (h:∀ b ∈ jm p,get b=get' b):Kc cf ts p n get=Kc cf ts p n get':=by
 unfold Kc
 have:Zx get p=Zx get' p:=by
  cases p <;> first | rfl | exact h _ (by simp [jm])
 rw [this]
theorem jd8 {o:Oper} {ev ev':Operand→AV} {nm:Nat} {dc:Dec} (h:∀ x ∈ o.op.operands,ev x=ev' x) (hg:∀ x ∈ o.op.operands,∀ b ∈ jm (ev x),get b=get' b) (hd:∀ x ∈ o.op.operands,∀ q ∈ kB dc get (jm (ev x)),get q=get' q) :
  YT cf o ev get nm dc=YT cf o ev' get' nm dc:=by
 have h0:=jgP (cf:=cf) (nm:=nm) (dc:=dc) h hg hd
 unfold YT
 rw [h0]
 cases hop:o.op <;> rw [hop] at h hg <;> simp only [Op.operands] at h hg <;> try rfl
 case binOp op t x y t'=>simp only [h x (by simp),h y (by simp)]
 case convert s d x =>
  show orE (Ku cf s d (ev x) get) _=orE (Ku cf s d (ev' x) get') _
  rw [gO (hg x (by simp)),h x (by simp)]
 case call cl =>
  obtain ⟨callee,args,argTypes⟩:=cl
  cases callee with
  | value f=>rfl
  | invoke r m=>rfl
  | builtin b =>
   simp only [Call.operands] at h hg
   have hargs:∀ x ∈ args.toList,ev x=ev' x:=fun x hx=>h x (by simp at hx ⊢; exact hx)
   have hgs:∀ x ∈ args.toList,∀ b ∈ jm (ev x),get b=get' b:=fun x hx=>hg x (by simp at hx ⊢; exact hx)
   cases b <;> try rfl
   case append =>
    simp only
    split
    ·rename_i s x hx
     rw [hx] at hargs hgs
     rw [GN (hgs s (by simp)),hargs s (by simp),hargs x (by simp)]
    ·rfl
   case unsafeSliceData =>
    simp only
    split
    ·rename_i x hx
     rw [hx] at hargs
     rw [hargs x (by simp)]
    ·rfl
   case unsafeString =>
    simp only
    split
    ·rename_i p n hx
     rw [hx] at hargs hgs
     rw [yP (hgs p (by simp)),hargs p (by simp),hargs n (by simp)]
    ·rfl
end
def evT (cf:Cfg) (tm:Nat→Option AV):Operand→AV
 | .tmp t=>(tm t).getD .any
 | .const v=>(qD v).getD .any
 | .global g=>match cf.glob g with
  | some cs=>.ip cs
  | none=>.any
 | .func f=>.d (.v (.func (.func f) #[] #[]))
theorem jp5 (cf:Cfg) (ts:List AV):evT cf (fun t=>ts[t]?)=evA cf ts:=by
 funext x
 cases x <;> first | rfl | simp [evT,evA,List.getD]
def kQ (ops:Array Oper) (o:Oper) (tm:Nat→Option AV) (gd:Option Bool):Option (Bool × List PC) :=
 match o.guard with
 | none=>some (true,[])
 | some (j,want)=>match (ops[j]?).bind (·.dst),gd with
  | some t,some r=>match tm t with
   | some (.d (.v (.bool b)))=>some (r==want,[.eqB b r])
   | some (.tup [])=>some (false,[])
   | _=>none
  | some t,none=>match tm t with
   | some (.d (.v (.bool b)))=>some (b==want,[])
   | some (.tup [])=>some (false,[])
   | _=>none
  | _,_=>none
structure Eff where
 pcs:List PC
 val:AV
 wr:List (Nat × ABlk)
def kN (cf:Cfg) (ops:Array Oper) (o:Oper) (tm:Nat→Option AV) (get:Nat→ABlk) (nm:Nat) (gd:Option Bool) (dc:Dec):Option Eff :=
 match kQ ops o tm gd with
 | none=>none
 | some (false,ps)=>some ⟨ps,.tup [],[]⟩
 | some (true,ps) =>
  match qk o.op with
  | some (f,args) =>
   match kO (evT cf tm f) with
   | none=>none
   | some (g,fs,cs) =>
    match dc with
    | .call as r=>match JU cf.P g,Kz get (fs++evs (evT cf tm) args++cs) with
     | some _,some bs=>if !(jZ (fs++evs (evT cf tm) args++cs))||J7 r then some ⟨.prop (bs=as) :: .prop (PureCalls cf.P cf.glob g as r) :: ps,r,[]⟩ else none
     | _,_=>none
    | .ck j=>match cf.K[j]? with
     | some kn=>if kn.g==g&&!kn.fr then match JU cf.P g,Jq get (fs++evs (evT cf tm) args++cs) with
      | some _,some bs=>if !(jZ (fs++evs (evT cf tm) args++cs))||J7 kn.res then some ⟨.eqA bs kn.args :: ps,kn.res,[]⟩ else none
      | _,_=>none
      else none
     | none=>none
    | .cq j=>match cf.K[j]? with
     | some kn=>if kn.g==g then match JU cf.P g,J9 get (fs++evs (evT cf tm) args++cs),jfS kn (fs++evs (evT cf tm) args++cs) nm with
      | some _,some (bs,qs),some (v,ks,wr)=>some ⟨.eqA bs kn.args :: (qs++(ks++ps)),v,wr⟩
      | _,_,_=>none
      else none
     | none=>none
    | .ce j=>match cf.K[j]? with
     | some kn=>if kn.g==g then match JU cf.P g,J9 get (fs++evs (evT cf tm) args++cs),jbx kn (fs++evs (evT cf tm) args++cs) with
      | some _,some (bs,qs),some (v,ks)=>some ⟨.eqA bs kn.args :: (qs++(ks++ps)),v,[]⟩
      | _,_,_=>none
      else none
     | none=>none
    | .extN=>match jba (fs++evs (evT cf tm) args++cs) with
     | some nk=>some ⟨.prop (jev cf.P g nk) :: ps,nk.val,[]⟩
     | none=>none
    | .ext v=>match zg (fs++evs (evT cf tm) args++cs),qD v with
     | some xs,some r=>some ⟨.prop (∀ w,(callFunc g xs.toArray).run cf.P w=.ok (.value v) w) :: ps,r,[]⟩
     | _,_=>none
    | _=>none
  | none=>match YT cf o (evT cf tm) get nm dc with
   | some r=>some ⟨r.pcs++ps,r.val,r.wr⟩
   | none=>none
theorem Kp {ev:Operand→AV}:∀ {xs:List Operand} {b:Nat},b ∈ jO (evs ev xs)→∃ x ∈ xs,b ∈ jm (ev x)
 | [],b,h=>by simp [evs,jO] at h
 | x :: xs,b,h=>by
  simp only [evs,jO,List.mem_append] at h
  rcases h with h | h
  ·exact ⟨x,by simp,h⟩
  ·obtain ⟨y,hy,hb⟩:=Kp h
   exact ⟨y,by simp [hy],hb⟩
theorem Jy:∀ (xs ys:List AV),jO (xs++ys)=jO xs++jO ys
 | [],ys=>by simp [jO]
 | x :: xs,ys=>by simp [jO,Jy xs ys]
theorem JS {a:AV} {g:FuncId} {fs cs:List AV} (h:kO a=some (g,fs,cs)) {b:Nat} (hb:b ∈ jO fs∨b ∈ jO cs):b ∈ jm a:=by
 unfold kO at h
 split at h
 ·split at h
  ·simp at h; obtain ⟨_,rfl,rfl⟩:=h; simp [jO] at hb
  ·simp at h
 ·simp at h; obtain ⟨_,rfl,rfl⟩:=h; simpa [jm] using hb
 ·simp at h
theorem qf {cf:Cfg} {ops:Array Oper} {o:Oper} {tm tm':Nat→Option AV} {get get':Nat→ABlk} {nm:Nat} {gd:Option Bool} {dc:Dec}
  (h:∀ t ∈ o.looksAt ops,tm t=tm' t) (hg:∀ t ∈ o.looksAt ops,∀ a,tm t=some a→∀ b ∈ jm a,get b=get' b) (hd:∀ t ∈ o.looksAt ops,∀ a,tm t=some a→∀ q ∈ kB dc get (jm a),get q=get' q) :
  kN cf ops o tm get nm gd dc=kN cf ops o tm' get' nm gd dc:=by
 have hop:∀ x ∈ o.op.operands,evT cf tm x=evT cf tm' x:=by
  intro x hx
  cases x with
  | tmp t=>simp only [evT]; rw [h t (List.mem_append_left _ (List.mem_filterMap.2 ⟨.tmp t,by simpa using hx,rfl⟩))]
  | _=>rfl
 have hwhere:∀ x ∈ o.op.operands,∀ b ∈ jm (evT cf tm x),∃ t ∈ o.looksAt ops,tm t=some (evT cf tm x):=by
  intro x hx b hb
  cases x with
  | tmp t =>
   have ht:t ∈ o.looksAt ops:=List.mem_append_left _ (List.mem_filterMap.2 ⟨.tmp t,by simpa using hx,rfl⟩)
   simp only [evT] at hb
   cases htm:tm t with
   | none=>rw [htm] at hb; simp [jm] at hb
   | some a=>exact ⟨t,ht,by simp [evT,htm]⟩
  | const v =>
   simp only [evT] at hb
   exfalso
   have:∀ (v:Value) (a:AV),zZ v=some a→jm a=[]:=by
    intro v a hv
    cases v with
    | agg cs =>
     simp only [zZ] at hv
     split at hv
     ·simp at hv; subst hv
      simp only [jm]
      generalize cs.toList=l
      induction l with
      | nil=>rfl
      | cons x xs ih=>simp [jO,jm,ih]
     ·simp at hv
    | tuple=>simp [zZ] at hv
    | _=>simp [zZ] at hv; subst hv; rfl
   have hl:∀ (vs:List Value) (as:List AV),Yo vs=some as→jO as=[]:=by
    intro vs
    induction vs with
    | nil=>intro as ha; simp [Yo] at ha; subst ha; rfl
    | cons x xs ih =>
     intro as ha
     simp only [Yo] at ha
     split at ha
     ·rename_i a as' h1 h2
      simp at ha; subst ha
      simp [jO,this x a h1,ih as' h2]
     ·simp at ha
   have:jm ((qD v).getD .any)=[]:=by
    cases hv:qD v with
    | none=>rfl
    | some a =>
     cases v with
     | tuple vs =>
      simp only [qD] at hv
      split at hv
      ·rename_i as has
       simp at hv; subst hv
       simpa [jm] using hl _ _ has
      ·simp at hv
     | _=>exact this _ _ (by simpa [qD] using hv)
   rw [this] at hb; simp at hb
  | global g =>
   simp only [evT] at hb
   split at hb <;> simp [jm] at hb
  | func f=>simp [evT,jm] at hb
 have hgo:∀ x ∈ o.op.operands,∀ b ∈ jm (evT cf tm x),get b=get' b:=by
  intro x hx b hb
  obtain ⟨t,ht,htm⟩:=hwhere x hx b hb
  exact hg t ht _ htm b hb
 have hdo:∀ x ∈ o.op.operands,∀ q ∈ kB dc get (jm (evT cf tm x)),get q=get' q:=by
  intro x hx q hq
  have hne:∃ b,b ∈ jm (evT cf tm x):=by
   unfold kB at hq
   split at hq
   ·obtain ⟨b,hb,_⟩:=List.mem_flatMap.1 hq
    exact ⟨b,hb⟩
   ·simp at hq
  obtain ⟨b,hb⟩:=hne
  obtain ⟨t,ht,htm⟩:=hwhere x hx b hb
  exact hd t ht _ htm q hq
 have hgd:kQ ops o tm gd=kQ ops o tm' gd:=by
  unfold kQ
  cases hgu:o.guard with
  | none=>rfl
  | some jw =>
   obtain ⟨j,want⟩:=jw
   simp only
   cases hd:(ops[j]?).bind (·.dst) with
   | none=>rfl
   | some t =>
    have:tm t=tm' t:=h t (by simp [Oper.looksAt,hgu,hd])
    cases gd <;> simp [this]
 unfold kN
 rw [hgd]
 split
 ·rfl
 ·rfl
 ·split
  ·rename_i f args hc
   obtain ⟨as,ts,hoo,rfl⟩:=Kx hc
   have hf:=hop f (by rw [hoo]; simp [Op.operands,Call.operands])
   have hev:evs (evT cf tm) as.toList=evs (evT cf tm') as.toList:=zu fun x hx=>hop x (by rw [hoo]; simp [Op.operands,Call.operands]; exact .inr (by simpa using hx))
   rw [← hf]
   split
   ·rfl
   ·rename_i g fs cs hcal
    rw [← hev]
    have hpass:Jq get (fs++evs (evT cf tm) as.toList++cs)=Jq get' (fs++evs (evT cf tm) as.toList++cs):=by
     apply kv
     intro b hb
     rw [Jy,Jy,List.mem_append,List.mem_append] at hb
     rcases hb with (hb | hb) | hb
     ·exact hgo f (by rw [hoo]; simp [Op.operands,Call.operands]) b (JS hcal (.inl hb))
     ·obtain ⟨x,hx,hxb⟩:=Kp hb
      exact hgo x (by rw [hoo]; simp [Op.operands,Call.operands]; exact .inr (by simpa using hx)) b hxb
     ·exact hgo f (by rw [hoo]; simp [Op.operands,Call.operands]) b (JS hcal (.inr hb))
    have hpassR:Kz get (fs++evs (evT cf tm) as.toList++cs)=Kz get' (fs++evs (evT cf tm) as.toList++cs):=by
     apply yo
     intro b hb
     rw [Jy,Jy,List.mem_append,List.mem_append] at hb
     rcases hb with (hb | hb) | hb
     ·exact hgo f (by rw [hoo]; simp [Op.operands,Call.operands]) b (JS hcal (.inl hb))
     ·obtain ⟨x,hx,hxb⟩:=Kp hb
      exact hgo x (by rw [hoo]; simp [Op.operands,Call.operands]; exact .inr (by simpa using hx)) b hxb
     ·exact hgo f (by rw [hoo]; simp [Op.operands,Call.operands]) b (JS hcal (.inr hb))
    have hpassP:J9 get (fs++evs (evT cf tm) as.toList++cs)=J9 get' (fs++evs (evT cf tm) as.toList++cs):=by
     apply KM
     intro b hb
     rw [Jy,Jy,List.mem_append,List.mem_append] at hb
     rcases hb with (hb | hb) | hb
     ·exact hgo f (by rw [hoo]; simp [Op.operands,Call.operands]) b (JS hcal (.inl hb))
     ·obtain ⟨x,hx,hxb⟩:=Kp hb
      exact hgo x (by rw [hoo]; simp [Op.operands,Call.operands]; exact .inr (by simpa using hx)) b hxb
     ·exact hgo f (by rw [hoo]; simp [Op.operands,Call.operands]) b (JS hcal (.inr hb))
    rw [hpass,hpassR,hpassP]
  ·rw [jd8 hop hgo hdo]
def jkS:Option Nat→Dec
 | none=>.none
 | some j=>.ck j
def bare:AV→AV
 | .opt _ x=>x
 | a=>a
def K7 (tm:Nat→Option AV) (t:Nat):Option AV:=(tm t).map bare
def KE (tm:Nat→Option AV):List Tmp→List Bool
 | []=>[]
 | t :: ts=>match tm t with
  | some (.opt g _)=>g :: KE tm ts
  | _=>KE tm ts
def jjW:List Bool→List PC
 | []=>[]
 | g :: gs=>.eqB g true :: jjW gs
def jjk (b:Bool):List Bool→List PC
 | []=>[]
 | g :: gs=>.eqB (!b||g) true :: jjk b gs
def jfg (cf:Cfg) (ops:Array Oper) (o:Oper) (tm:Nat→Option AV) (get:Nat→ABlk) (nm:Nat) (c:Option Nat):Option Eff :=
 match o.guard with
 | some (j,want)=>match (ops[j]?).bind (·.dst) with
  | some t=>match tm t with
   | some (.d (.v (.bool b)))=>match kN cf ops o (K7 tm) get nm (some want) (jkS c) with
    | some e=>match e.wr with
     | []=>some ⟨e.pcs.dropLast++jjk (b==want) (KE tm (o.looksAt ops)),.opt (b==want) e.val,[]⟩
     | _=>none
    | none=>none
   | _=>none
  | none=>none
 | none=>none
def qJ (cf:Cfg) (ops:Array Oper) (o:Oper) (tm:Nat→Option AV) (get:Nat→ABlk) (nm:Nat) (gd:Option Bool) (dc:Dec):Option Eff :=
 match dc with
 | .sp c=>jfg cf ops o tm get nm c
 | .mg=>kN cf ops o tm get nm gd .mg
 | dc=>match kQ ops o tm gd with
  | some (false,ps)=>some ⟨ps,.tup [],[]⟩
  | _=>match kN cf ops o (K7 tm) get nm gd dc with
   | some e=>some ⟨e.pcs++jjW (KE tm (o.looksAt ops)),e.val,e.wr⟩
   | none=>none
theorem yb (a:AV):jm (bare a)=jm a:=by
 cases a <;> rfl
theorem yC {tm tm':Nat→Option AV}:∀ {l:List Tmp},(∀ t ∈ l,tm t=tm' t)→KE tm l=KE tm' l
 | [],_=>rfl
 | t :: ts,h=>by
  simp only [KE]
  rw [h t (by simp),yC (l:=ts) (fun x hx=>h x (by simp [hx]))]
theorem Yl {cf:Cfg} {ops:Array Oper} {o:Oper} {tm tm':Nat→Option AV} {get get':Nat→ABlk} {nm:Nat} {gd:Option Bool} {dc:Dec}
  (h:∀ t ∈ o.looksAt ops,tm t=tm' t) (hg:∀ t ∈ o.looksAt ops,∀ a,tm t=some a→∀ b ∈ jm a,get b=get' b) (hd:∀ t ∈ o.looksAt ops,∀ a,tm t=some a→∀ q ∈ kB dc get (jm a),get q=get' q) :
  qJ cf ops o tm get nm gd dc=qJ cf ops o tm' get' nm gd dc:=by
 have h1:∀ t ∈ o.looksAt ops,K7 tm t=K7 tm' t:=fun t ht=>by simp only [K7,h t ht]
 have h2:∀ t ∈ o.looksAt ops,∀ a,K7 tm t=some a→∀ b ∈ jm a,get b=get' b:=by
  intro t ht a ha b hb
  simp only [K7,Option.map_eq_some_iff] at ha
  obtain ⟨x,hx,rfl⟩:=ha
  rw [yb] at hb
  exact hg t ht x hx b hb
 have h2d:∀ t ∈ o.looksAt ops,∀ a,K7 tm t=some a→∀ q ∈ kB dc get (jm a),get q=get' q:=by
  intro t ht a ha q hq
  simp only [K7,Option.map_eq_some_iff] at ha
  obtain ⟨x,hx,rfl⟩:=ha
  rw [yb] at hq
  exact hd t ht x hx q hq
 have h2n:∀ c,∀ t ∈ o.looksAt ops,∀ a,K7 tm t=some a→∀ q ∈ kB (jkS c) get (jm a),get q=get' q:=by
  intro c t _ a _ q hq
  cases c <;> simp [jkS,kB] at hq
 have h3:=yC h
 unfold qJ
 split
 ·rename_i c
  unfold jfg
  split
  ·rename_i j want hgu
   split
   ·rename_i t hd
    have ht:tm t=tm' t:=h t (by simp [Oper.looksAt,hgu,hd])
    rw [ht,qf h1 h2 (h2n _),h3]
   ·rfl
  ·rfl
 ·exact qf h hg hd
 ·have hgd:kQ ops o tm gd=kQ ops o tm' gd:=by
   unfold kQ
   cases hgu:o.guard with
   | none=>rfl
   | some jw =>
    obtain ⟨j,want⟩:=jw
    simp only
    cases hd:(ops[j]?).bind (·.dst) with
    | none=>rfl
    | some t =>
     have:tm t=tm' t:=h t (by simp [Oper.looksAt,hgu,hd])
     cases gd <;> simp [this]
  rw [hgd,qf h1 h2 h2d,h3]
theorem jmJ (a:PC) (qs ks:List PC) (b:PC):∃ zs,a :: (qs++(ks++[b]))=zs++[b]:=⟨a :: (qs++ks),by simp⟩
theorem je3 {cf:Cfg} {ops:Array Oper} {o:Oper} {tm:Nat→Option AV} {get:Nat→ABlk} {nm:Nat} {dc:Dec} {j:Nat} {want b:Bool} {t:Nat} {e:Eff}
  (hg:o.guard=some (j,want)) (hd:(ops[j]?).bind (·.dst)=some t) (ht:tm t=some (.d (.v (.bool b)))) (h:kN cf ops o tm get nm (some want) dc=some e):∃ qs,e.pcs=qs++[.eqB b want]:=by
 have hg1:kQ ops o tm (some want)=some (true,[.eqB b want]):=by
  unfold kQ
  rw [hg]
  simp only [hd,ht]
  simp
 unfold kN at h
 rw [hg1] at h
 simp only at h
 repeat' split at h
 all_goals first
  | (simp at h; done)
  | (simp only [Option.some.injEq] at h; subst h; exact ⟨[_],rfl⟩)
  | (simp only [Option.some.injEq] at h; subst h; exact ⟨[_,_],rfl⟩)
  | (simp only [Option.some.injEq] at h; subst h; exact jmJ _ _ _ _)
  | (simp only [Option.some.injEq] at h; subst h; exact ⟨_,rfl⟩)
theorem jeC {cf:Cfg} {ops:Array Oper} {o:Oper} {tm:Nat→Option AV} {get:Nat→ABlk} {nm:Nat} {dc:Dec} {j:Nat} {want b:Bool} {t:Nat}
  (hg:o.guard=some (j,want)) (hd:(ops[j]?).bind (·.dst)=some t) (ht:tm t=some (.d (.v (.bool b)))):kN cf ops o tm get nm (some (!want)) dc=some ⟨[.eqB b (!want)],.tup [],[]⟩:=by
 have hg1:kQ ops o tm (some (!want))=some (false,[.eqB b (!want)]):=by
  unfold kQ
  rw [hg]
  simp only [hd,ht]
  cases want <;> simp
 unfold kN
 rw [hg1]
def yj:Op→Bool
 | .move _=>true
 | .fieldAddr ..=>true
 | .indexAddr ..=>true
 | _=>false
theorem jdu {cf:Cfg} {ops:Array Oper} {o:Oper} {tm:Nat→Option AV} {get get':Nat→ABlk} {nm:Nat} {gd:Option Bool} {dc:Dec} (hp:yj o.op=true) :
  qJ cf ops o tm get nm gd dc=qJ cf ops o tm get' nm gd dc:=by
 have haop:∀ ev nm dc,YT cf o ev get nm dc=YT cf o ev get' nm dc:=by
  intro ev nm dc
  cases hop:o.op <;> simp [yj,hop] at hp <;> simp only [YT,aop,hop]
 have hcall:qk o.op=none:=by
  cases hop:o.op <;> simp [yj,hop] at hp <;> rfl
 have h0:∀ tm gd dc,kN cf ops o tm get nm gd dc=kN cf ops o tm get' nm gd dc:=by
  intro tm gd dc
  unfold kN
  simp only [hcall,haop]
 unfold qJ jfg
 simp only [h0]
end Go.Kv
