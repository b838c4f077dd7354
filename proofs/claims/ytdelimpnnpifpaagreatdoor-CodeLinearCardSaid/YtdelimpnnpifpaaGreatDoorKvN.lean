import Derived.Test.YtdelimpnnpifpaaGreatDoorKvM
set_option linter.all false
namespace Go.Kv
open Go Go.RowKit
section last
variable {V:Type} (wr:Nat→Nat→Option V) (c0:Nat→V)
def CP (p:Nat→Bool):Nat→Nat→V
  | 0,l=>c0 l
  | k+1,l=>if p k then (wr k l).getD (CP p k l) else CP p k l
theorem QQ {p q:Nat→Bool} {l:Nat}:∀ {n:Nat},(∀ k,k<n→wr k l≠none→p k=q k)→CP wr c0 p n l=CP wr c0 q n l
  | 0,_=>rfl
  | n+1,h=>by
    have ih:=QQ (n:=n) (fun k hk hw=>h k (by omega) hw)
    simp only [CP,ih]
    cases hw:wr n l with
    | none=>simp
    | some v=>rw [h n (by omega) (by rw [hw]; simp)]
theorem Z5 {p:Nat→Bool} {l i:Nat}:∀ {n:Nat},i≤n→(∀ k,i≤k→k<n→wr k l≠none→p k=false)→CP wr c0 p n l=CP wr c0 p i l
  | 0, hi, _ => by have : i = 0 := by omega
                   subst this; rfl
  | n+1,hi,h=>by
    by_cases he:i=n+1
    · subst he; rfl
    · have ih:=Z5 (n:=n) (by omega) (fun k h1 h2=>h k h1 (by omega))
      simp only [CP,ih]
      cases hw:wr n l with
      | none=>simp
      | some v=>rw [h n (by omega) (by omega) (by rw [hw]; simp)]; simp
theorem jfF {p:Nat→Bool} {l i n:Nat} (hi:i≤n) (h:∀ k,k<n→wr k l≠none→p k=decide (k<i)):CP wr c0 p n l=CP wr c0 (fun _=>true) i l:=by
  rw [Z5 wr c0 hi (fun k h1 h2 h3=>by rw [h k h2 h3]; simp; omega)]
  exact QQ wr c0 (fun k hk hw=>by rw [h k (by omega) hw]; simp; omega)
theorem YO {p:Nat→Bool} {l i:Nat} (hp:p i=false):∀ {n:Nat},i<n→(wr i l≠none→∀ k,i<k→k<n→p k=true→wr k l=none) →
    CP wr c0 (fun k=>p k||k==i) n l=(wr i l).getD (CP wr c0 p n l)
  | 0,hi,_=>by omega
  | n+1,hi,h=>by
    by_cases he:i=n
    · subst he
      have:CP wr c0 (fun k=>p k||k==i) i l=CP wr c0 p i l:=by
        refine QQ wr c0 fun k hk _=>?_
        have hki:(k==i)=false:=by simp; omega
        simp [hki]
      simp [CP,hp,this]
    · have ih:=YO hp (n:=n) (by omega) (fun h1 k h2 h3 h4=>h h1 k h2 (by omega) h4)
      have hne:(n==i)=false:=by simp; omega
      simp only [CP,hne,Bool.or_false,ih]
      cases hpn:p n with
      | false=>simp
      | true =>
        simp only [if_true]
        cases hwi:wr i l with
        | none=>simp
        | some v =>
          rw [h (by rw [hwi]; simp) n (by omega) (by omega) hpn]
          simp
end last
structure Rec where
  gd:Option Bool
  dc:Dec
  dst:Option Tmp
  nm:Nat
  eff:Eff
  tmR:List Tmp
  nmR:List Nat
def Kd (H:List ABlk) (wr:List (Nat × ABlk)):List ABlk:=wr.foldl (fun H x=>H.set x.1 x.2) H
def jiH:List (Nat × ABlk)→Bool
  | []=>true
  | [_]=>true
  | [_,_]=>true
  | _=>false
def jd5:Option ABlk→Bool
  | some .gone=>true
  | _=>false
def jfE:Dec→Bool
  | .enter=>true
  | _=>false
def jl2 (ds:List Dec):Dec × List Dec:=match ds with
  | []=>(.enter,[])
  | d :: ds=>if d.isCall then (d,ds) else (.enter,d :: ds)
def jeE (o:Oper) (ds:List Dec):Dec × List Dec:=match qe o.op with
  | some _=>jl2 ds
  | none=>jeX o.op ds
def jkU (o:Oper) (gv:Option Bool) (ds:List Dec):Option Bool × Dec × List Dec :=
  match o.guard with
  | none=>(none,jeE o ds)
  | some (_,want)=>match ds with
    | .br r :: ds=>if r==want then (some r,jeE o ds) else (some r,.none,ds)
    | .sp c :: ds=>(none,.sp c,ds)
    | ds=>match gv with
      | some b=>if b==want then (none,jeE o ds) else (none,.none,ds)
      | none=>(none,.none,ds)
def jjv (ops:Array Oper) (o:Oper) (T:List AV):Option Bool:=match o.guard with
  | none=>none
  | some (j,_)=>match (ops[j]?).bind (·.dst) with
    | some t=>match T[t]? with
      | some (.d (.v (.bool b)))=>some b
      | _=>none
    | none=>none
def Q5 (o:Oper) (ops:Array Oper) (T:List AV):List Nat:=if Z3 o.op then [] else (o.looksAt ops).flatMap fun t=>(T[t]?).elim [] jh
def QN (cf:Cfg) (ops:Array Oper):Nat→Nat→List AV→List ABlk→Nat→List Dec→Option (List Rec × List AV × List ABlk × List Dec)
  | 0,_,T,H,_,ds=>some ([],T,H,ds)
  | n+1,i,T,H,nm,ds =>
    match ops[i]? with
    | none=>none
    | some o =>
      match jkU o (jjv ops o T) ds with
      | (gd,dc,ds') =>
        if jfE dc then some ([],T,H,ds)
        else if !jd5 H[nm]? then none
        else match qw cf ops o (fun t=>T[t]?) (fun b=>(H[b]?).getD .gone) nm gd dc with
          | none=>none
          | some e=>fAV e.val fun v=>zL fId (setT T o.dst v) fun T1=>zL jqf (Kd H e.wr) fun H1 =>
            if !jiH e.wr then none
            else match QN cf ops n (i+1) T1 H1 (nm+1) ds' with
              | none=>none
              | some (rs,T',H',ds'') =>
                some ({ gd := gd, dc := dc, dst := o.dst, nm := nm, eff := ⟨e.pcs, v, e.wr⟩, tmR := o.looksAt ops,
                        nmR:=nm :: (Q5 o ops T++ki dc (fun b=>(H[b]?).getD .gone) (Q5 o ops T)) } :: rs,T',H',ds'')
def jfK (d:Option Tmp) (l:List Tmp):Bool:=match d with
  | some d=>l.contains d
  | none=>false
def jfa (a b:Option Tmp):Bool:=match a,b with
  | some a,some b=>a==b
  | _,_=>false
def JE (a b:Rec):Bool :=
  jfK a.dst b.tmR||jfK b.dst a.tmR||jfa a.dst b.dst ||
  a.eff.wr.any (fun x=>b.nmR.contains x.1||b.eff.wr.any fun y=>y.1==x.1)||b.eff.wr.any (fun x=>a.nmR.contains x.1)
def KN (ops:Array Oper):Bool:=(List.range ops.size).all fun j=>(Jm ops j).all fun e=>Nat.blt e j
theorem Ze {ops:Array Oper} (h:KN ops=true):∀ j e,e ∈ Jm ops j→e<j:=by
  intro j e he
  have hj:j<ops.size:=by
    apply Classical.byContradiction
    intro hn
    unfold Jm at he
    rw [Array.getElem?_eq_none (by omega)] at he
    simp at he
  unfold KN at h
  rw [List.all_eq_true] at h
  have:=List.all_eq_true.1 (h j (by simp [hj])) e he
  simpa [Nat.blt_eq] using this
def jcQ (ops:Array Oper) (acc:List Nat) (j:Nat):Nat:=(Jm ops j).foldl (fun m e=>m ||| 2 ^ e ||| acc.getD e 0) 0
def qA (ops:Array Oper):Nat→List Nat
  | 0=>[]
  | n+1=>qA ops n++[jcQ ops (qA ops n) n]
theorem zn (ops:Array Oper):∀ n,(qA ops n).length=n
  | 0=>rfl
  | n+1=>by simp [qA,zn ops n]
theorem ze {ops:Array Oper}:∀ {n j:Nat},j<n→(qA ops n).getD j 0=jcQ ops (qA ops j) j
  | 0,j,h=>by omega
  | n+1,j,h=>by
    simp only [qA,List.getD_eq_getElem?_getD]
    by_cases hj:j<n
    · rw [List.getElem?_append_left (by rw [zn]; exact hj)]
      have:=ze (ops:=ops) hj
      rwa [List.getD_eq_getElem?_getD] at this
    · have:j=n:=by omega
      subst this
      rw [List.getElem?_append_right (by rw [zn]; exact Nat.le_refl _)]
      simp [zn]
theorem jab {acc:List Nat} {i:Nat}:∀ {es:List Nat} {m0:Nat},(es.foldl (fun m e=>m ||| 2 ^ e ||| acc.getD e 0) m0).testBit i=true→m0.testBit i=true∨∃ e ∈ es,e=i∨(acc.getD e 0).testBit i=true
  | [],m0,h=>.inl h
  | e :: es,m0,h=>by
    simp only [List.foldl_cons] at h
    rcases jab h with h1 | ⟨e',h1,h2⟩
    · simp only [Nat.testBit_or,Bool.or_eq_true,Nat.testBit_two_pow,decide_eq_true_eq] at h1
      rcases h1 with (h1 | h1) | h1
      · exact .inl h1
      · exact .inr ⟨e,by simp,.inl h1⟩
      · exact .inr ⟨e,by simp,.inr h1⟩
    · exact .inr ⟨e',by simp [h1],h2⟩
theorem Z4 {ops:Array Oper} (hd:KN ops=true) {n i:Nat}:∀ j,j<n→((qA ops n).getD j 0).testBit i=true→i<j ∧
    ∀ (lo:Nat) (p:List Nat),lo≤i→(∀ x ∈ p,∀ e ∈ Jm ops x,e<lo∨e ∈ p)→j ∈ p→i ∈ p:=by
  intro j
  induction j using Nat.strongRecOn with
  | _ j ih =>
    intro hj h
    rw [ze hj] at h
    rcases jab h with h1 | ⟨e,he,h1⟩
    · simp at h1
    · have hej:=Ze hd j e he
      rcases h1 with rfl | h1
      · refine ⟨hej,fun lo p hlo hcl hjp=>?_⟩
        rcases hcl j hjp e he with h2 | h2
        · omega
        · exact h2
      · have h1':((qA ops n).getD e 0).testBit i=true:=by
          rw [ze (show e<n by omega)]
          rwa [ze hej] at h1
        obtain ⟨b1,b2⟩:=ih e hej (by omega) h1'
        refine ⟨by omega,fun lo p hlo hcl hjp=>?_⟩
        rcases hcl j hjp e he with h2 | h2
        · omega
        · exact b2 lo p hlo hcl h2
def jh5 (ops:Array Oper) (i j:Nat):Bool:=(Jm ops j).contains i||((qA ops ops.size).getD j 0).testBit i
theorem jkH {ops:Array Oper} (hd:KN ops=true) {i j:Nat} (hj:j<ops.size) (h:jh5 ops i j=true) {lo:Nat} {p:List Nat} (hlo:lo≤i) (hcl:∀ x ∈ p,∀ e ∈ Jm ops x,e<lo∨e ∈ p) (hjp:j ∈ p):i ∈ p:=by
  unfold jh5 at h
  simp only [Bool.or_eq_true] at h
  rcases h with h | h
  · rcases hcl j hjp i (by simpa using h) with h1 | h1
    · omega
    · exact h1
  · exact (Z4 hd j hj h).2 lo p hlo hcl hjp
def jbl (ops:Array Oper) (a:Rec) (i:Nat):Nat→List Rec→Bool
  | _,[]=>true
  | j,b :: bs=>(!JE a b||jh5 ops i j)&&jbl ops a i (j+1) bs
def Zd (ops:Array Oper):Nat→List Rec→Bool
  | _,[]=>true
  | i,a :: rs=>jbl ops a i (i+1) rs&&Zd ops (i+1) rs
theorem y8 {ops:Array Oper} {a:Rec} {i:Nat}:∀ {rs:List Rec} {j:Nat},jbl ops a i j rs=true→∀ m b,rs[m]? = some b→JE a b=true→jh5 ops i (j+m)=true
  | [],_,_,m,b,hb,_=>by simp at hb
  | x :: rs,j,h,m,b,hb,hc=>by
    simp only [jbl,Bool.and_eq_true,Bool.or_eq_true,Bool.not_eq_true'] at h
    cases m with
    | zero =>
      simp at hb; subst hb
      rcases h.1 with h1 | h1
      · rw [hc] at h1; simp at h1
      · exact h1
    | succ m =>
      have:=y8 h.2 m b (by simpa using hb) hc
      rwa [show j+1+m=j+(m+1) by omega] at this
theorem QY {ops:Array Oper}:∀ {rs:List Rec} {i:Nat},Zd ops i rs=true→∀ m n a b,m<n→rs[m]? = some a→rs[n]? = some b→JE a b=true→jh5 ops (i+m) (i+n)=true
  | [],_,_,m,n,a,b,_,ha,_,_=>by simp at ha
  | x :: rs,i,h,m,n,a,b,hmn,ha,hb,hc=>by
    simp only [Zd,Bool.and_eq_true] at h
    cases m with
    | zero =>
      simp at ha; subst ha
      cases n with
      | zero=>omega
      | succ n =>
        have:=y8 h.1 n b (by simpa using hb) hc
        rwa [show i+1+n=i+(n+1) by omega] at this
    | succ m =>
      cases n with
      | zero=>omega
      | succ n =>
        have:=QY h.2 m n a b (by omega) (by simpa using ha) (by simpa using hb) hc
        rwa [show i+1+m=i+(m+1) by omega,show i+1+n=i+(n+1) by omega] at this
def zX (dst:Option Tmp) (a:AV) (len t:Nat):Option (Option AV) :=
  match dst with
  | some d=>if d=t∧d<len then some (some a) else none
  | none=>none
def gk (wr:List (Nat × ABlk)) (len b:Nat):Option ABlk :=
  match wr with
  | [(b',x)]=>if b'=b∧b'<len then some x else none
  | [(b1,x1),(b2,x2)]=>if b2=b∧b2<len then some x2 else if b1=b∧b1<len then some x1 else none
  | _=>none
def wrT (rs:List Rec) (lo len:Nat) (k t:Nat):Option (Option AV) :=
  if lo≤k then match rs[k - lo]? with
    | some r=>zX r.dst r.eff.val len t
    | none=>none
  else none
def wrN (rs:List Rec) (lo len:Nat) (k b:Nat):Option ABlk :=
  if lo≤k then match rs[k - lo]? with
    | some r=>gk r.eff.wr len b
    | none=>none
  else none
theorem jc4 {ts:List AV} {d:Option Tmp} {a:AV} {t:Nat}:(setT ts d a)[t]? = (zX d a ts.length t).getD ts[t]? := by
  cases d with
  | none=>rfl
  | some d =>
    simp only [setT,zX]
    by_cases h:d=t
    · subst h
      by_cases hl:d<ts.length
      · simp [hl]
      · simp [hl]
    · simp [h,List.getElem?_set_ne h]
theorem KV {dst:Option Tmp} {a:AV} {len t:Nat} (h:zX dst a len t≠none):dst=some t:=by
  cases dst with
  | none=>simp [zX] at h
  | some d =>
    by_cases hdt:d=t
    · rw [hdt]
    · simp [zX,hdt] at h
theorem qQ {wr:List (Nat × ABlk)} {len b:Nat} (h:gk wr len b≠none):∃ x,(b,x) ∈ wr:=by
  unfold gk at h
  split at h
  · rename_i b' x'
    by_cases hbb:b'=b
    · exact ⟨x',by rw [hbb]; simp⟩
    · simp [hbb] at h
  · rename_i b1 x1 b2 x2
    by_cases hb2:b2=b
    · exact ⟨x2,by rw [hb2]; simp⟩
    · by_cases hb1:b1=b
      · exact ⟨x1,by rw [hb1]; simp⟩
      · simp [hb1,hb2] at h
  · simp at h
theorem KX {a b:Rec} {x:Nat} {k:ABlk} (h:(x,k) ∈ a.eff.wr) (hb:x ∈ b.nmR):JE a b=true∧JE b a=true:=by
  unfold JE
  have e1:(a.eff.wr.any fun y=>b.nmR.contains y.1||b.eff.wr.any fun z=>z.1==y.1)=true:=List.any_eq_true.2 ⟨_,h,by simp [hb]⟩
  have e2:(a.eff.wr.any fun y=>b.nmR.contains y.1)=true:=List.any_eq_true.2 ⟨_,h,by simp [hb]⟩
  constructor
  · rw [e1]; simp
  · rw [e2]; simp
theorem Ya {a b:Rec} {x:Nat} {k l:ABlk} (h:(x,k) ∈ a.eff.wr) (hb:(x,l) ∈ b.eff.wr):JE a b=true∧JE b a=true:=by
  unfold JE
  have e1:(a.eff.wr.any fun y=>b.nmR.contains y.1||b.eff.wr.any fun z=>z.1==y.1)=true:=List.any_eq_true.2 ⟨_,h,by simp only [Bool.or_eq_true]; exact .inr (List.any_eq_true.2 ⟨_,hb,by simp⟩)⟩
  have e2:(b.eff.wr.any fun y=>a.nmR.contains y.1||a.eff.wr.any fun z=>z.1==y.1)=true:=List.any_eq_true.2 ⟨_,hb,by simp only [Bool.or_eq_true]; exact .inr (List.any_eq_true.2 ⟨_,h,by simp⟩)⟩
  constructor
  · rw [e1]; simp
  · rw [e2]; simp
theorem qh {ts:List AV} {d:Option Tmp} {a:AV}:(setT ts d a).length=ts.length:=by cases d <;> simp [setT]
theorem yU {H:List ABlk} {wr:List (Nat × ABlk)} (h:jiH wr=true) {b:Nat} :
    ((Kd H wr)[b]?).getD .gone=(gk wr H.length b).getD ((H[b]?).getD .gone):=by
  match wr,h with
  | [],_=>rfl
  | [(b',x)],_ =>
    simp only [Kd,List.foldl_cons,List.foldl_nil,gk]
    by_cases hb:b'=b
    · subst hb
      by_cases hl:b'<H.length
      · simp [hl]
      · simp [hl]
    · simp [hb,List.getElem?_set_ne hb]
  | [(b1,x1),(b2,x2)],_ =>
    simp only [Kd,List.foldl_cons,List.foldl_nil,gk]
    by_cases hb2:b2=b
    · subst hb2
      by_cases hl:b2<H.length
      · simp [hl]
      · have h1:((H.set b1 x1).set b2 x2)[b2]? = none:=List.getElem?_eq_none (by simpa using hl)
        have h2:H[b2]? = none:=List.getElem?_eq_none (by simpa using hl)
        rw [h1,h2,if_neg (fun h=>hl h.2)]
        by_cases hb1:b1=b2∧b1<H.length
        · exact absurd (hb1.1 ▸ hb1.2) hl
        · rw [if_neg hb1]; rfl
    · rw [List.getElem?_set_ne hb2,if_neg (fun h=>hb2 h.1)]
      by_cases hb1:b1=b
      · subst hb1
        by_cases hl:b1<H.length
        · simp [hl]
        · simp [hl]
      · simp [hb1,List.getElem?_set_ne hb1]
theorem yR {H:List ABlk} {wr:List (Nat × ABlk)}:(Kd H wr).length=H.length:=by
  unfold Kd
  induction wr generalizing H with
  | nil=>rfl
  | cons x xs ih=>simp only [List.foldl_cons]; rw [ih]; simp
theorem QU {cf:Cfg} {ops:Array Oper}:∀ {n i:Nat} {T:List AV} {H:List ABlk} {nm:Nat} {ds:List Dec} {rs:List Rec} {T':List AV} {H':List ABlk} {ds':List Dec},
    QN cf ops n i T H nm ds=some (rs,T',H',ds') →
    ∃ Tc:Nat→List AV,∃ Hc:Nat→List ABlk,Tc 0=T∧Hc 0=H∧Tc rs.length=T'∧Hc rs.length=H'∧rs.length≤n ∧
      ∀ m r,rs[m]? = some r→∃ o,ops[i+m]? = some o∧r.dst=o.dst∧r.nm=nm+m∧jfE r.dc=false∧(Hc m)[r.nm]? = some .gone ∧
        qw cf ops o (fun t=>(Tc m)[t]?) (fun b=>((Hc m)[b]?).getD .gone) r.nm r.gd r.dc=some r.eff∧jiH r.eff.wr=true ∧
        r.tmR=o.looksAt ops∧r.nmR=r.nm :: (Q5 o ops (Tc m)++ki r.dc (fun b=>((Hc m)[b]?).getD .gone) (Q5 o ops (Tc m))) ∧
        Tc (m+1)=setT (Tc m) o.dst r.eff.val∧Hc (m+1)=Kd (Hc m) r.eff.wr
  | 0,i,T,H,nm,ds,rs,T',H',ds',h=>by
    simp [QN] at h
    obtain ⟨rfl,rfl,rfl,rfl⟩:=h
    exact ⟨fun _=>T,fun _=>H,rfl,rfl,rfl,rfl,Nat.le_refl _,fun m r hr=>by simp at hr⟩
  | n+1,i,T,H,nm,ds,rs,T',H',ds',h=>by
    simp only [QN] at h
    split at h
    · simp at h
    rename_i o ho
    generalize jkU o (jjv ops o T) ds=x at h
    obtain ⟨gd,dc,ds1⟩:=x
    simp only at h
    split at h
    · simp at h
      obtain ⟨rfl,rfl,rfl,rfl⟩:=h
      exact ⟨fun _=>T,fun _=>H,rfl,rfl,rfl,rfl,Nat.zero_le _,fun m r hr=>by simp at hr⟩
    rename_i hent
    split at h
    · simp at h
    rename_i hgone
    split at h
    · simp at h
    rename_i e he
    simp only [jbz,jhx,jis] at h
    split at h
    · simp at h
    rename_i hshort
    split at h
    · simp at h
    rename_i rs' T2 H2 ds2 hrec
    simp only [Option.some.injEq,Prod.mk.injEq] at h
    obtain ⟨rfl,rfl,rfl,rfl⟩:=h
    obtain ⟨Tc,Hc,a1,a2,a3,a4,a5,a6⟩:=QU hrec
    refine ⟨fun m=>if m=0 then T else Tc (m - 1),fun m=>if m=0 then H else Hc (m - 1),by simp,by simp,by simpa using a3,by simpa using a4,by simp; omega,?_⟩
    intro m r hr
    cases m with
    | zero =>
      simp at hr; subst hr
      refine ⟨o,by simpa using ho,rfl,by simp,by simpa using hent,?_,by simpa using he,by simpa using hshort,rfl,by simp,by simpa using a1,by simpa using a2⟩
      simp only [if_true]
      cases hg:H[nm]? with
      | none=>rw [hg] at hgone; simp [jd5] at hgone
      | some k=>rw [hg] at hgone; cases k <;> simp [jd5] at hgone; rfl
    | succ m =>
      obtain ⟨o',b1,b2,b3,b4,b5,b6,b7,b8,b9,b10,b11⟩:=a6 m r (by simpa using hr)
      refine ⟨o',by rw [← b1]; congr 1; omega,b2,by rw [b3]; omega,b4,?_,?_,b7,b8,?_,?_,?_⟩
      · simpa using b5
      · simpa using b6
      · simpa using b9
      · simpa using b10
      · simpa using b11
end Go.Kv
