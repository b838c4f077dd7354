import Derived.Test.YtdelimpnnpifpaaGreatDoorKvO
set_option linter.all false
namespace Go.Kv
open Go Go.RowKit
theorem Yk {ops:Array Oper} {j:Nat} {listed:Array Bool}:j ∈ Region.ready .any ops listed↔listed.getD j true=false∧j<ops.size∧∀ e ∈ Jm ops j,listed.getD e false=true:=by
  rw [mem_ready]
  constructor
  · rintro ⟨h0,o,ho,h⟩
    refine ⟨h0,(Array.getElem?_eq_some_iff.1 ho).1,?_⟩
    intro e he
    unfold Jm at he
    rw [ho] at he
    simp only [List.mem_map,List.mem_filter] at he
    obtain ⟨ed,⟨h1,h2⟩,rfl⟩:=he
    exact h ed (by simpa using h1) h2
  · rintro ⟨h0,hj,h⟩
    refine ⟨h0,ops[j],by simp [hj],?_⟩
    intro e he hb
    refine h e.on ?_
    unfold Jm
    simp only [Array.getElem?_eq_getElem hj]
    exact List.mem_map.2 ⟨e,List.mem_filter.2 ⟨by simpa using he,hb⟩,rfl⟩
theorem jml {ops:Array Oper} (hd:KN ops=true):∀ (fuel t:Nat) (listed:Array Bool),listed.size=ops.size→((List.range ops.size).filter fun i=>!listed.getD i true).length≤fuel →
    (Region.linearise.go .any ops fuel t listed []).Nodup∧(∀ i,i ∈ Region.linearise.go .any ops fuel t listed []↔i<ops.size∧listed.getD i true=false) ∧
    (∀ p j q,Region.linearise.go .any ops fuel t listed []=p++j :: q→∀ e ∈ Jm ops j,listed.getD e false=true∨e ∈ p):=by
  intro fuel
  induction fuel with
  | zero =>
    intro t listed hs hu
    have hnil:(List.range ops.size).filter (fun i=>!listed.getD i true)=[]:=List.eq_nil_of_length_eq_zero (by omega)
    simp only [Region.linearise.go,List.reverse_nil]
    refine ⟨List.nodup_nil,?_,?_⟩
    · intro i
      constructor
      · intro h; simp at h
      · rintro ⟨h1,h2⟩
        have:i ∈ (List.range ops.size).filter fun i=>!listed.getD i true:=by simp [h1]; rw [← Array.getD_eq_getD_getElem?]; exact h2
        rw [hnil] at this; exact this
    · intro p j q h; simp at h
  | succ fuel ih =>
    intro t listed hs hu
    simp only [Region.linearise.go]
    change (let r:=(match (Region.ready .any ops listed)[t % (Region.ready .any ops listed).length]? with
      | some i=>Region.linearise.go .any ops fuel (t / (Region.ready .any ops listed).length) (listed.setIfInBounds i true) [i]
      | none=>[].reverse); r.Nodup∧(∀ i,i ∈ r↔i<ops.size∧listed.getD i true=false)∧(∀ p j q,r=p++j :: q→∀ e ∈ Jm ops j,listed.getD e false=true∨e ∈ p))
    cases hi:(Region.ready .any ops listed)[t % (Region.ready .any ops listed).length]? with
    | none =>
      have hnil:Region.ready .any ops listed=[]:=by
        cases hr:Region.ready .any ops listed with
        | nil=>rfl
        | cons x xs =>
          rw [hr] at hi
          have hlt:t % (x :: xs).length<(x :: xs).length:=Nat.mod_lt _ (by simp)
          simp at hi
          simp at hlt
          omega
      have hall:∀ n,n<ops.size→listed.getD n true=true:=by
        intro n
        induction n using Nat.strongRecOn with
        | _ n ihn =>
          intro hn
          apply Classical.byContradiction
          intro hne
          have hne:listed.getD n true=false:=by simpa using hne
          have:n ∈ Region.ready .any ops listed:=by
            rw [Yk]
            refine ⟨hne,hn,?_⟩
            intro e he
            have hen:=Ze hd n e he
            have:=ihn e hen (by omega)
            have hsz:e<listed.size:=by omega
            simp [Array.getD,hsz] at this ⊢
            exact this
          rw [hnil] at this; simp at this
      simp only [List.reverse_nil]
      refine ⟨List.nodup_nil,?_,?_⟩
      · intro i
        constructor
        · intro h; simp at h
        · rintro ⟨h1,h2⟩; rw [hall i h1] at h2; simp at h2
      · intro p j q h; simp at h
    | some i =>
      have hmem:i ∈ Region.ready .any ops listed:=List.mem_of_getElem? hi
      obtain ⟨hun,hisz,hedge⟩:=Yk.1 hmem
      have hset:∀ x d,(listed.setIfInBounds i true).getD x d=if x=i then true else listed.getD x d:=by
        intro x d
        by_cases hx:x=i
        · subst hx; simp [Array.getD,hs,hisz]
        · simp only [hx,if_false]
          simp only [Array.getD_eq_getD_getElem?]
          rw [Array.getElem?_setIfInBounds_ne (Ne.symm hx)]
      have hcount:((List.range ops.size).filter fun x=>!(listed.setIfInBounds i true).getD x true).length≤fuel:=by
        have h1:((List.range ops.size).filter fun x=>!(listed.setIfInBounds i true).getD x true)=((List.range ops.size).filter fun x=>!listed.getD x true).filter fun x=>x != i:=by
          rw [List.filter_filter]
          apply List.filter_congr
          intro x _
          rw [hset]
          by_cases hx:x=i <;> simp [hx]
        rw [h1]
        have h2:i ∈ (List.range ops.size).filter fun x=>!listed.getD x true:=by
          refine List.mem_filter.2 ⟨by simp [hisz],?_⟩
          rw [hun]; rfl
        have h3:(((List.range ops.size).filter fun x=>!listed.getD x true).filter fun x=>x != i).length<((List.range ops.size).filter fun x=>!listed.getD x true).length :=
          List.length_filter_lt_length_iff_exists.2 ⟨i,h2,by simp⟩
        omega
      obtain ⟨a1,a2,a3⟩:=ih (t / (Region.ready .any ops listed).length) (listed.setIfInBounds i true) (by simp [hs]) hcount
      simp only
      rw [linearise_go_acc,List.reverse_singleton,List.singleton_append]
      refine ⟨List.nodup_cons.2 ⟨?_,a1⟩,?_,?_⟩
      · intro h
        have:=(a2 i).1 h
        rw [hset] at this; simp at this
      · intro x
        rw [List.mem_cons,a2,hset]
        constructor
        · rintro (rfl | ⟨h1,h2⟩)
          · exact ⟨hisz,hun⟩
          · by_cases hx:x=i
            · simp [hx] at h2
            · simp [hx] at h2; exact ⟨h1,by rw [Array.getD_eq_getD_getElem?]; exact h2⟩
        · rintro ⟨h1,h2⟩
          by_cases hx:x=i
          · exact .inl hx
          · right; refine ⟨h1,?_⟩; simp only [hx,if_false]; exact h2
      · intro p j q h e he
        cases p with
        | nil =>
          simp at h
          obtain ⟨rfl,rfl⟩:=h
          exact .inl (hedge e he)
        | cons y p =>
          simp at h
          obtain ⟨rfl,h⟩:=h
          rcases a3 p j q h e he with h1 | h1
          · rw [hset] at h1
            by_cases hx:e=i
            · right; simp [hx]
            · simp only [hx,if_false] at h1; exact .inl h1
          · right; simp [h1]
theorem Yp {ops:Array Oper} (hd:KN ops=true) (t:Nat):LinExt ops 0 (Region.schedule true ops t):=by
  simp only [Region.schedule,Bool.true_or,if_true,Region.linearise]
  have hgd:∀ i,i<ops.size→(Array.replicate ops.size false).getD i true=false:=by
    intro i hi; simp [Array.getD,hi]
  have hge:∀ i,(Array.replicate ops.size false).getD i false=false:=by
    intro i; simp only [Array.getD]; split <;> simp
  obtain ⟨a1,a2,a3⟩:=jml hd ops.size t (Array.replicate ops.size false) (by simp) (by
    refine Nat.le_trans (List.length_filter_le _ _) ?_; simp)
  refine ⟨a1,?_,?_⟩
  · intro i
    rw [a2]
    constructor
    · rintro ⟨h1,_⟩; exact ⟨Nat.zero_le _,h1⟩
    · rintro ⟨_,h1⟩; exact ⟨h1,hgd i h1⟩
  · intro p j q h e he
    rcases a3 p j q h e he with h1 | h1
    · rw [hge] at h1; simp at h1
    · exact .inr h1
def YY (ops:Array Oper) (lo hi:Nat):Bool :=
  (List.range' lo (hi - lo)).all (fun i=>((qA ops ops.size).getD hi 0).testBit i)&&(List.range' (hi+1) (ops.size - (hi+1))).all (fun j=>((qA ops ops.size).getD j 0).testBit hi)
theorem jbI {ops:Array Oper} (hd:KN ops=true) {lo hi:Nat} (hlo:lo≤hi) (hhi:hi<ops.size) (hb:YY ops lo hi=true) {is:List Nat} (h:LinExt ops lo is) :
    ∃ σ is',is=σ++hi :: is'∧SegOrd ops lo hi σ∧LinExt ops hi (hi :: is')∧LinExt ops (hi+1) is':=by
  unfold YY at hb
  simp only [Bool.and_eq_true,List.all_eq_true] at hb
  obtain ⟨hb1,hb2⟩:=hb
  have hmem:hi ∈ is:=(h.mem hi).2 ⟨hlo,hhi⟩
  obtain ⟨σ,is',rfl⟩:=List.append_of_mem hmem
  have hnd:=List.nodup_append.1 h.nodup
  have hclosed:∀ x ∈ σ++[hi],∀ e ∈ Jm ops x,e<lo∨e ∈ σ++[hi]:=by
    intro x hx e he
    rcases List.mem_append.1 hx with hx | hx
    · obtain ⟨p1,p2,hp⟩:=List.append_of_mem hx
      rcases h.order p1 x (p2++hi :: is') (by rw [hp]; simp) e he with h1 | h1
      · exact .inl h1
      · exact .inr (by rw [hp]; simp [h1])
    · simp at hx; subst hx
      rcases h.order σ x is' rfl e he with h1 | h1
      · exact .inl h1
      · exact .inr (by simp [h1])
  have hclosed':∀ x ∈ σ,∀ e ∈ Jm ops x,e<lo∨e ∈ σ:=by
    intro x hx e he
    obtain ⟨p1,p2,hp⟩:=List.append_of_mem hx
    rcases h.order p1 x (p2++hi :: is') (by rw [hp]; simp) e he with h1 | h1
    · exact .inl h1
    · exact .inr (by rw [hp]; simp [h1])
  have hhiσ:hi ∉ σ:=fun hh=>hnd.2.2 hi hh hi (by simp) rfl
  have hσ:∀ i,i ∈ σ↔lo≤i∧i<hi:=by
    intro i
    constructor
    · intro hi'
      have:=(h.mem i).1 (by simp [hi'])
      refine ⟨this.1,?_⟩
      apply Classical.byContradiction
      intro hn
      by_cases he:i=hi
      · subst he; exact hhiσ hi'
      · have hbit:=hb2 i (by simp; omega)
        exact hhiσ ((Z4 hd i this.2 hbit).2 lo σ hlo hclosed' hi')
    · rintro ⟨h1,h2⟩
      have hbit:=hb1 i (by simp; omega)
      have:=(Z4 hd hi hhi hbit).2 lo (σ++[hi]) h1 hclosed (by simp)
      rcases List.mem_append.1 this with h3 | h3
      · exact h3
      · simp at h3; omega
  have his':∀ i,i ∈ is'↔hi+1≤i∧i<ops.size:=by
    intro i
    have hnd2:=List.nodup_cons.1 hnd.2.1
    constructor
    · intro hi'
      have:=(h.mem i).1 (by simp [hi'])
      refine ⟨?_,this.2⟩
      apply Classical.byContradiction
      intro hn
      by_cases he:i=hi
      · subst he; exact hnd2.1 hi'
      · have:=(hσ i).2 ⟨this.1,by omega⟩
        exact hnd.2.2 i this i (by simp [hi']) rfl
    · rintro ⟨h1,h2⟩
      have:=(h.mem i).2 ⟨by omega,h2⟩
      rcases List.mem_append.1 this with h3 | h3
      · have:=(hσ i).1 h3; omega
      · rcases List.mem_cons.1 h3 with h3 | h3
        · omega
        · exact h3
  have hord2:∀ p j q,is'=p++j :: q→∀ e ∈ Jm ops j,e<hi+1∨e ∈ p:=by
    intro p j q hp e he
    rcases h.order (σ++hi :: p) j q (by rw [hp]; simp) e he with h1 | h1
    · left; omega
    · rcases List.mem_append.1 h1 with h2 | h2
      · have:=(hσ e).1 h2; left; omega
      · rcases List.mem_cons.1 h2 with h2 | h2
        · left; omega
        · exact .inr h2
  refine ⟨σ,is',rfl,⟨hnd.1,hσ,?_⟩,⟨hnd.2.1,?_,?_⟩,⟨(List.nodup_cons.1 hnd.2.1).2,his',hord2⟩⟩
  · intro p j q hp e he
    rcases h.order p j (q++hi :: is') (by rw [hp]; simp) e he with h1 | h1
    · exact .inl h1
    · exact .inr h1
  · intro i
    rw [List.mem_cons,his']
    omega
  · intro p j q hp e he
    cases p with
    | nil =>
      simp at hp
      obtain ⟨rfl,rfl⟩:=hp
      left; exact Ze hd _ e he
    | cons y p =>
      simp at hp
      obtain ⟨rfl,hp⟩:=hp
      rcases hord2 p j q hp e he with h1 | h1
      · by_cases hee:e=hi
        · right; simp [hee]
        · left; omega
      · right; simp [h1]
def yq (ops:Array Oper) (i j:Nat):Bool:=((qA ops ops.size).getD j 0).testBit i
def JV (ops:Array Oper) (lo hi:Nat):List Nat:=(List.range' lo (hi - lo)).filter fun j=>!(yq ops j hi)
def Qb (ops:Array Oper):List Nat→Bool
  | []=>true
  | j :: js=>js.all (fun i=>yq ops j i)&&Qb ops js
def jbm (ops:Array Oper) (hi:Nat) (us:List Nat):Bool:=(List.range' (hi+1) (ops.size - (hi+1))).all fun j=>yq ops hi j&&us.all (fun u=>yq ops u j)
def jks (ops:Array Oper) (rs:List Rec) (lo hi:Nat) (us:List Nat):Bool :=
  us.all fun u=>match rs[u - lo]? with
    | some r=>(match r.eff.wr with
      | []=>true
      | _=>false)&&(match JM ops u with
      | some d=>(List.range' lo (hi+1 - lo)).all fun j=>Nat.beq j u||!(match JM ops j with
        | some e=>Nat.beq e d
        | none=>false)
      | none=>false)
    | none=>false
theorem jey {ops:Array Oper} {lo:Nat} {p q:List Nat} (h:LinExt ops lo (p++q)):∀ x ∈ p,∀ e ∈ Jm ops x,e<lo∨e ∈ p:=by
  intro x hx e he
  obtain ⟨p1,p2,rfl⟩:=List.append_of_mem hx
  rcases h.order p1 x (p2++q) (by simp) e he with h1 | h1
  · exact .inl h1
  · exact .inr (by simp [h1])
theorem YA {ops:Array Oper} (hd:KN ops=true) {lo:Nat} {p q:List Nat} (h:LinExt ops lo (p++q)) {i j:Nat} (hlo:lo≤i) (hj:j<ops.size) (ha:yq ops i j=true) (hjp:j ∈ p):i ∈ p :=
  (Z4 hd j hj ha).2 lo p hlo (jey h) hjp
theorem jc5 {ops:Array Oper} (hd:KN ops=true) {lo:Nat}:∀ {ps:List Nat} {pre L:List Nat},LinExt ops lo (pre++L)→(∀ p ∈ ps,lo≤p∧p ∈ L)→Qb ops ps=true→ps.Nodup →
    (∀ q ∈ L,q ∉ ps→∀ p ∈ ps,yq ops p q=true)→∃ L',L=ps++L'
  | [],pre,L,_,_,_,_,_=>⟨L,rfl⟩
  | p :: ps,pre,L,h,hin,hch,hnd,hbe=>by
    simp only [Qb,Bool.and_eq_true,List.all_eq_true] at hch
    obtain ⟨hp1,hp2⟩:=hin p (by simp)
    have hndL:=h.nodup
    cases L with
    | nil=>simp at hp2
    | cons a L =>
      have hpp:p ∉ pre:=fun hh=>(List.nodup_append.1 hndL).2.2 p hh p hp2 rfl
      have ha:a=p:=by
        apply Classical.byContradiction
        intro hne
        have haz:a<ops.size:=((h.mem a).1 (by simp)).2
        have hanc:yq ops p a=true:=by
          by_cases haps:a ∈ ps
          · exact hch.1 a haps
          · exact hbe a (by simp) (by simp [hne,haps]) p (by simp)
        have:=YA hd (p:=pre++[a]) (q:=L) (by simpa using h) hp1 haz hanc (by simp)
        simp only [List.mem_append,List.mem_singleton] at this
        rcases this with h1 | h1
        · exact hpp h1
        · exact hne h1.symm
      subst ha
      have hnd':=List.nodup_cons.1 hnd
      obtain ⟨L',hL'⟩:=jc5 hd (ps:=ps) (pre:=pre++[a]) (L:=L) (by simpa using h) (by
        intro x hx
        obtain ⟨h1,h2⟩:=hin x (by simp [hx])
        refine ⟨h1,?_⟩
        rcases List.mem_cons.1 h2 with h3 | h3
        · subst h3; exact absurd hx hnd'.1
        · exact h3) hch.2 hnd'.2 (by
        intro q hq hqn x hx
        have hqa:q≠a:=by
          intro he
          subst he
          have:=List.nodup_append.1 hndL
          exact (List.nodup_cons.1 this.2.1).1 hq
        exact hbe q (by simp [hq]) (by simp [hqa,hqn]) x (by simp [hx]))
      exact ⟨L',by rw [hL']; rfl⟩
theorem ZS {ops:Array Oper} {σ:List Nat} {lo:Nat} (hcl:∀ u v,lo≤u→yq ops u v=true→v ∈ σ→u ∈ σ):∀ {us:List Nat},(∀ u ∈ us,lo≤u)→Qb ops us=true→∃ d,(∀ u ∈ us.take d,u ∈ σ)∧(∀ u ∈ us.drop d,u ∉ σ)
  | [],_,_=>⟨0,by simp,by simp⟩
  | u :: us,hlo,h=>by
    simp only [Qb,Bool.and_eq_true,List.all_eq_true] at h
    by_cases hu:u ∈ σ
    · obtain ⟨d,h1,h2⟩:=ZS hcl (fun x hx=>hlo x (by simp [hx])) h.2
      refine ⟨d+1,?_,by simpa using h2⟩
      intro x hx
      simp only [List.take_succ_cons,List.mem_cons] at hx
      rcases hx with rfl | hx
      · exact hu
      · exact h1 x hx
    · refine ⟨0,by simp,?_⟩
      intro x hx
      simp only [List.drop_zero,List.mem_cons] at hx
      rcases hx with rfl | hx
      · exact hu
      · intro hxs
        exact hu (hcl u x (hlo u (by simp)) (h.1 x hx) hxs)
theorem Yh {ops:Array Oper}:∀ (d:Nat) {us:List Nat},Qb ops us=true→Qb ops (us.drop d)=true
  | 0,_,h=>h
  | d+1,[],h=>h
  | d+1,u :: us,h=>by
    simp only [Qb,Bool.and_eq_true] at h
    simpa using Yh d h.2
theorem KI {ops:Array Oper} {lo hi u:Nat}:u ∈ JV ops lo hi↔lo≤u∧u<hi∧yq ops u hi=false:=by
  simp only [JV,List.mem_filter,List.mem_range'_1,Bool.not_eq_true']
  constructor
  · rintro ⟨h1,h2⟩; exact ⟨h1.1,by omega,h2⟩
  · rintro ⟨h1,h2,h3⟩; exact ⟨⟨h1,by omega⟩,h3⟩
theorem lateOf_nodup {ops:Array Oper} {lo hi:Nat}:(JV ops lo hi).Nodup:=List.Nodup.sublist List.filter_sublist List.nodup_range'
theorem ZF {ops:Array Oper} {hi:Nat} {us:List Nat} (h:jbm ops hi us=true) {j:Nat} (h1:hi<j) (h2:j<ops.size):yq ops hi j=true∧∀ u ∈ us,yq ops u j=true:=by
  simp only [jbm,List.all_eq_true,Bool.and_eq_true] at h
  exact h j (by simp; omega)
theorem gQ {ops:Array Oper} {rs:List Rec} {lo hi:Nat} {us:List Nat} (h:jks ops rs lo hi us=true) {u:Nat} (hu:u ∈ us) :
    (∃ r,rs[u - lo]? = some r∧r.eff.wr=[])∧∃ d,JM ops u=some d∧∀ j,lo≤j→j≤hi→JM ops j=some d→j=u:=by
  simp only [jks,List.all_eq_true] at h
  have h:=h u hu
  split at h
  · rename_i r hr
    rw [Bool.and_eq_true] at h
    obtain ⟨h1,h2⟩:=h
    refine ⟨⟨r,hr,?_⟩,?_⟩
    · split at h1
      · assumption
      · simp at h1
    · split at h2
      · rename_i d hd
        refine ⟨d,hd,?_⟩
        intro j hj1 hj2 hj
        rw [List.all_eq_true] at h2
        have:=h2 j (by simp; omega)
        rw [hj] at this
        simpa using this
      · simp at h2
  · simp at h
theorem ky {ops:Array Oper}:∀ {l:List (Nat × AV)} {T:List AV},(Jh ops T l).length=T.length
  | [],_=>rfl
  | x :: l,T=>by simp only [Jh]; rw [ky,qh]
theorem ZE {ops:Array Oper}:∀ {l m:List (Nat × AV)} {T:List AV},Jh ops T (l++m)=Jh ops (Jh ops T l) m
  | [],_,_=>rfl
  | x :: l,m,T=>by simp only [Jh,List.cons_append]; exact ZE
theorem Yy {T:List AV} {d:Option Tmp} {v:AV} {t:Nat}:(setT T d v)[t]? = if d=some t∧t<T.length then some v else T[t]? := by
  cases d with
  | none=>simp [setT]
  | some d =>
    simp only [setT,List.getElem?_set,Option.some.injEq]
    by_cases h:d=t
    · subst h
      by_cases h2:d<T.length
      · simp [h2]
      · simp [h2]
    · simp [h]
theorem qV {ops:Array Oper} {t:Nat}:∀ {l:List (Nat × AV)} {T:List AV},(∀ x ∈ l,JM ops x.1≠some t)→(Jh ops T l)[t]? = T[t]?
  | [],_,_=>rfl
  | x :: l,T,h=>by
    simp only [Jh]
    rw [qV (fun y hy=>h y (by simp [hy])),Yy,if_neg (fun hh=>h x (by simp) hh.1)]
theorem yj {ops:Array Oper} {t:Nat}:∀ {l:List (Nat × AV)} {T:List AV},(∃ x ∈ l,JM ops x.1=some t)→t<T.length→∃ x ∈ l,JM ops x.1=some t∧(Jh ops T l)[t]? = some x.2
  | [],_,h,_=>by obtain ⟨x,hx,_⟩:=h; simp at hx
  | x :: l,T,h,ht=>by
    simp only [Jh]
    by_cases hl:∃ y ∈ l,JM ops y.1=some t
    · obtain ⟨y,hy,h1,h2⟩:=yj (T:=setT T (JM ops x.1) x.2) hl (by rw [qh]; exact ht)
      exact ⟨y,by simp [hy],h1,h2⟩
    · obtain ⟨y,hy,h1⟩:=h
      rcases List.mem_cons.1 hy with rfl | hy
      · refine ⟨y,by simp,h1,?_⟩
        rw [qV (fun z hz hd=>hl ⟨z,hz,hd⟩),Yy,if_pos ⟨h1,ht⟩]
      · exact absurd ⟨y,hy,h1⟩ hl
theorem Gd {ops:Array Oper}:∀ {l:List (Nat × AV)} {A B:List AV},B.length=A.length→(∀ t:Nat,B[t]? = A[t]? ∨ B[t]? = some AV.any)→∀ t:Nat,(Jh ops B l)[t]? = (Jh ops A l)[t]? ∨ (Jh ops B l)[t]? = some AV.any
  | [],_,_,_,h=>h
  | x :: l,A,B,hl,h=>by
    simp only [Jh]
    refine Gd (by rw [qh,qh,hl]) ?_
    intro t
    rw [Yy,Yy,hl]
    split
    · exact .inl rfl
    · exact h t
theorem Rels.weak {c:Ctx} {w:World}:∀ {B A:List AV} {us:List Value},Rels c w A us→B.length=A.length→(∀ t:Nat,B[t]? = A[t]? ∨ B[t]? = some AV.any)→Rels c w B us
  | [],A,us,h,hl,_=>by
    have:A=[]:=List.eq_nil_of_length_eq_zero (by simpa using hl.symm)
    subst this; exact h
  | b :: B,A,us,h,hl,hpt=>by
    cases A with
    | nil=>simp at hl
    | cons a A =>
      obtain ⟨u,r,rfl,hu,t⟩:=h.cons_inv
      refine Rels.cons ?_ (Rels.weak t (by simpa using hl) (fun i=>by simpa using hpt (i+1)))
      have:=hpt 0
      simp only [List.getElem?_cons_zero,Option.some.injEq] at this
      rcases this with rfl | rfl
      · exact hu
      · exact Js
end Go.Kv
namespace Go.Kv
open Go Go.RowKit
def jm8 (cf:Cfg) (get:Nat→ABlk) (tmps:List AV):ResultVar→Option AV
  | .tmp t=>some (tmps.getD t .any)
  | .cell a t=>match Qp cf t (tmps.getD a .any) get .none with
    | some r=>if r.pcs.isEmpty then some r.val else none
    | none=>none
def jaO (cf:Cfg) (get:Nat→ABlk) (tmps:List AV):List ResultVar→Option (List AV)
  | []=>some []
  | x :: xs=>match jm8 cf get tmps x,jaO cf get tmps xs with
    | some a,some as=>some (a :: as)
    | _,_=>none
def Q4 (cf:Cfg) (fn:Func) (get:Nat→ABlk) (tmps:List AV):Option AV :=
  match jaO cf get tmps fn.results.toList with
  | some [a]=>some a
  | some as=>some (.tup as)
  | none=>none
def Zt (cf:Cfg) (s:ASt) (ops:Array Oper) (lo hi:Nat) (k:List AItem) (rs:List Rec) (T:List AV) (H:List ABlk) (ds:List Dec):SR :=
  let us:=JV ops lo hi
  if Qb ops us&&jbm ops hi us&&jks ops rs lo hi us then
    match ops[hi]? with
    | none=>none
    | some o=>match o.guard with
      | some _=>none
      | none=>match qe o.op with
        | some (f,args) =>
          let T':=Jh ops T (us.map fun u=>(u,AV.any))
          match kC (evA cf T' f),ds with
          | some (g,fs,cs),.enter :: ds=>match ka cf.P g (fs++evs (evA cf T') args++cs) with
            | some fr=>some (⟨fr,{ s.fr with tmps:=T',todo:=.regL ops hi (us.map fun u=>(u,match JM ops u with
              | some d=>T.getD d .any
              | none=>.any)) :: k } :: s.cs,dropGone H⟩,ds,rs.flatMap fun r=>r.eff.pcs)
            | none=>none
          | _,_=>none
        | none=>none
  else none
def jbB (cf:Cfg) (s:ASt) (ops:Array Oper) (lo:Nat) (k:List AItem) (ds:List Dec):SR :=
  match QN cf ops (ops.size - lo) lo s.fr.tmps (s.H++List.replicate (ops.size - lo) .gone) s.H.length ds with
  | none=>none
  | some (rs,T,H,ds') =>
    if Zd ops lo rs&&KN ops then
      let hi:=lo+rs.length
      if hi==ops.size then some (⟨{ s.fr with tmps:=T,todo:=k },s.cs,dropGone H⟩,ds',rs.flatMap fun r=>r.eff.pcs)
      else if YY ops lo hi then
        match ops[hi]? with
        | none=>none
        | some o =>
          match jaY ops T o ds' with
          | some (true,ds2,ps)=>match qe o.op with
            | some (f,args)=>qf cf ⟨{ s.fr with tmps:=T },s.cs,dropGone H⟩ ops true hi o k f args ds2 ((rs.flatMap fun r=>r.eff.pcs)++ps)
            | none=>none
          | _=>none
      else Zt cf s ops lo hi k rs T H ds'
    else none
def jh6:AV→AV→Bool
  | .ptr b o,.ptr b' o'=>Nat.beq b b'&&Nat.beq o o'
  | .d (.v (.func (.func f) a b)),.d (.v (.func (.func f') a' b'))=>Nat.beq f f'&&Nat.beq a.size 0&&Nat.beq b.size 0&&Nat.beq a'.size 0&&Nat.beq b'.size 0
  | _,_=>false
def juy (di:Option Tmp) (d:Tmp):Bool:=match di with
  | some i=>!(Nat.beq i d)
  | none=>true
def Yx (cf:Cfg) (ops:Array Oper) (H:List ABlk) (T:List AV) (di:Option Tmp) (v:AV):List (Nat × AV)→List (Nat × AV)→Option (List PC)
  | _,[]=>some []
  | ys,x :: us =>
    let T1:=setT (Jh ops T ys) di v
    match ops[x.1]?,JM ops x.1 with
    | some o,some d=>match qw cf ops o (fun t=>T1[t]?) (fun b=>((H++[.gone])[b]?).getD .gone) H.length none .none with
      | some e=>match e.wr with
        | []=>if jh6 e.val x.2&&juy di d then
            match Yx cf ops H T di v (ys++[x]) us with
            | some ps=>some (e.pcs++ps)
            | none=>none
          else none
        | _=>none
      | none=>none
    | _,_=>none
def jbP (cf:Cfg) (H:List ABlk) (f:AFrame) (v:AV):Option (AFrame × List PC):=match f.todo with
  | .regL ops i us :: k=>match Yx cf ops H f.tmps (JM ops i) v [] us with
    | some ps=>if !f.ret then some ({ f with tmps:=setT (Jh ops f.tmps us) (JM ops i) v,todo:=.reg ops true (i+1) :: k },ps) else none
    | none=>none
  | _=>match zl f v with
    | some f'=>some (f',[])
    | none=>none
def yp (s:ASt) (jump:Option Code) (ds:List Dec):SR :=
  match s.fr.roundOf with
  | none=>match jump with
    | none=>some (⟨{ s.fr with ret:=true },s.cs,s.H⟩,ds,[])
    | some .ret=>some (⟨{ s.fr with ret:=true },s.cs,s.H⟩,ds,[])
    | _=>none
  | some b=>match s.cs,s.H[b]? with
    | f :: cs,some (.loop l)=>match zl f (.d (.v (.bool jump.isNone))) with
      | some f'=>some (⟨f',cs,s.H.set b (.loop { l with state:=if jump.isNone then .ready else .done,pending:=jump })⟩,ds,[])
      | none=>none
    | _,_=>none
def toA (s:ASt) (todo:List AItem) (ds:List Dec):SR:=some (⟨{ s.fr with todo:=todo },s.cs,s.H⟩,ds,[])
def jeW (cf:Cfg) (s:ASt) (f:Operand) (ps:Array Tmp) (as bd:Code) (k:List AItem) (ds:List Dec):SR :=
  let r:Option (List ABlk × Nat × List Nat):=match s.fr.roundOf with
    | none=>some (s.H++[.defd,.loop { state:=.ready,pending:=none,fn:=s.fr.fn,tmps:=s.fr.tmps,params:=ps,assign:=as,body:=bd,defers:=s.H.length }],s.H.length+1,s.H.length :: s.fr.defers)
    | some b=>match s.H[b]? with
      | some (.loop l)=>some (s.H++[.loop { state:=.ready,pending:=none,fn:=s.fr.fn,tmps:=s.fr.tmps,params:=ps,assign:=as,body:=bd,defers:=l.defers }],s.H.length,s.fr.defers)
      | _=>none
  match r with
  | none=>none
  | some (H,b,defers)=>match kC (evA cf s.fr.tmps f) with
    | none=>none
    | some (g,fs,cs)=>match ka cf.P g (fs++[.yl b]++cs) with
      | some fr=>some (⟨fr,{ s.fr with todo:=.inRng b :: k,defers:=defers } :: s.cs,H⟩,ds,[])
      | none=>none
def jev (cf:Cfg) (s:ASt) (ops:Array Oper) (i:Nat) (o:Oper) (k:List AItem) (c:Option Nat) (ds:List Dec):SR :=
  match qw cf ops o (fun t=>s.fr.tmps[t]?) (fun b=>((s.H++[.gone])[b]?).getD .gone) s.H.length none (.sp c) with
  | some e=>match e.wr with
    | []=>some (⟨{ s.fr with tmps:=setT s.fr.tmps o.dst e.val,todo:=.reg ops false (i+1) :: k },s.cs,s.H⟩,ds,e.pcs)
    | _=>none
  | none=>none
def gG (cf:Cfg) (s:ASt) (ds:List Dec):SR :=
  match s.fr.ret with
  | true=>match s.fr.defers with
    | d :: rest=>match s.H[d]? with
      | some .defd=>some (⟨{ s.fr with defers:=rest },s.cs,s.H.set d .dead⟩,ds,[])
      | _=>none
    | []=>match s.cs,cf.P.funcs[s.fr.fn]? with
      | f :: cs,some fn=>match Q4 cf fn (fun b=>(s.H[b]?).getD .gone) s.fr.tmps with
        | some v=>match jbP cf s.H f v with
          | some (f',ps)=>some (⟨f',cs,s.H⟩,ds,ps)
          | none=>none
        | none=>none
      | _,_=>none
  | false=>match s.fr.todo with
    | []=>yp s none ds
    | .code .ret :: _=>yp s (some .ret) ds
    | .code .skip :: k=>toA s k ds
    | .code (.label _) :: k=>toA s k ds
    | .inBlock _ :: k=>toA s k ds
    | .inScope _ :: k=>toA s k ds
    | .code (.seq a b) :: k=>toA s (.code a :: .code b :: k) ds
    | .code (.cond x a b) :: k=>match evA cf s.fr.tmps x,ds with
      | .d (.v (.bool t)),.br r :: ds=>some (⟨{ s.fr with todo:=.code (if r then a else b) :: k },s.cs,s.H⟩,ds,[.eqB t r])
      | .d (.v (.bool t)),ds=>some (⟨{ s.fr with todo:=.code (if t then a else b) :: k },s.cs,s.H⟩,ds,[])
      | _,_=>none
    | .code (.block id b) :: k=>toA s (.code b :: .inBlock id :: k) ds
    | .code (.loop b) :: k=>toA s (.code b :: .inLoop b :: k) ds
    | .inLoop b :: k=>toA s (.code b :: .inLoop b :: k) ds
    | .code (.scope b) :: k=>toA s (.code b :: .inScope b :: k) ds
    | .code (.exit id) :: k=>match QX id k with
      | some k'=>toA s k' ds
      | none=>if s.fr.roundOf.isSome then yp s (some (.exit id)) ds else none
    | .code (.goto l) :: k=>match Q1 l k with
      | some k'=>toA s k' ds
      | none=>if s.fr.roundOf.isSome then yp s (some (.goto l)) ds else none
    | .code (.rangeFunc f ps as bd) :: k=>jeW cf s f ps as bd k ds
    | .beginRound :: k=>match s.fr.roundOf with
      | some b=>match s.H[b]? with
        | some (.loop l)=>if l.state=.ready then some (⟨{ s.fr with todo:=k },s.cs,s.H.set b (.loop { l with state:=.busy })⟩,ds,[]) else none
        | _=>none
      | none=>none
    | .endRng b :: k=>match s.H[b]? with
      | some (.loop l)=>if l.state=.busy then none else
        some (⟨{ s.fr with todo:=(l.pending.map AItem.code).toList++k },s.cs,s.H.set b (.loop { l with state:=.exhausted })⟩,ds,[])
      | _=>none
    | .code (.region _ ops draw) :: k=>if draw then
        if KN ops&&cf.P.follows .mixedOrders then toA s (.reg ops true 0 :: k) ds else none
      else toA s (.reg ops false 0 :: k) ds
    | .reg ops draw lo :: k =>
      if lo==ops.size then toA s k ds
      else if draw then jbB cf s ops lo k ds
      else match ops[lo]? with
        | some o=>match o.guard,ds with
          | some _,.sp c :: ds=>jev cf s ops lo o k c ds
          | _,ds=>jeD cf s ops lo o k ds
        | none=>none
    | _=>none
section
variable {cf:Cfg} {base:Nat} {w0:Start} {cs0:List Frame}
def Y6 (us:Array Value):ResultVar→Sem Value
  | .tmp t=>pure (us.getD t undef)
  | .cell a t=>do loadVar t (← asAddr (us.getD a undef))
theorem jeU (fn:Func) (us:Array Value):results fn us=(do
    let vs ← fn.results.mapM (Y6 us)
    pure (if h:vs.size=1 then vs[0] else .tuple vs)):=by
  have:(fun x:ResultVar=>match x with
    | .tmp t=>(pure (us.getD t undef):Sem Value)
    | .cell a t=>do loadVar t (← asAddr (us.getD a undef)))=Y6 us:=by
    funext x; cases x <;> rfl
  rw [← this]
  rfl
theorem jmu {c:Ctx} {w:World} {H:List ABlk} (h:WRel base w0 c w H) {tmps:List AV} {us:Array Value} (ht:Rels c w tmps us.toList) {x:ResultVar} {a:AV} (hr:jm8 cf (fun b=>(H[b]?).getD .gone) tmps x=some a) :
    ∃ v,(Y6 us x).run cf.P w=.ok v w∧Rel c w a v:=by
  have hget:∀ t,Rel c w (tmps.getD t .any) (us.getD t undef):=by
    intro t
    cases hx:tmps[t]? with
    | none=>simp [List.getD,hx]; exact Js
    | some y =>
      obtain ⟨u,hu,hrel⟩:=ht.get t y hx
      simp at hu
      simp [List.getD,hx,hu]
      exact hrel
  cases x with
  | tmp t =>
    simp [jm8] at hr; subst hr
    exact ⟨_,rfl,by simpa using hget t⟩
  | cell p t =>
    simp only [jm8] at hr
    split at hr
    · rename_i r hl
      split at hr
      · rename_i hpc
        simp at hr; subst hr
        have hpcs:r.pcs=[]:=by simpa using hpc
        have hp:=hget p
        obtain ⟨v,h1,h2,_⟩:=jdt h (fun b=>rfl) hp hl (by rw [hpcs]; trivial)
        refine ⟨v,?_,h2⟩
        have hptr:∃ ad,us.getD p undef=.pointer (some ad):=by
          unfold Qp at hl
          split at hl
          · simp at hl
          · split at hl
            · rename_i heq
              rw [heq] at hp; unfold Rel at hp; exact ⟨_,hp.2⟩
            · rename_i heq
              rw [heq] at hp; unfold Rel at hp
              obtain ⟨bk,off,us',hu,_⟩:=hp
              exact ⟨_,hu⟩
            · simp at hl
        obtain ⟨ad,had⟩:=hptr
        rw [had] at h1
        simp only [Y6,had]
        simpa [Instr.loadAt,Instr.sureAddr,asAddr] using h1
      · simp at hr
    · simp at hr
theorem jcq {c:Ctx} {w:World} {H:List ABlk} (h:WRel base w0 c w H) {tmps:List AV} {us:Array Value} (ht:Rels c w tmps us.toList):∀ {xs:List ResultVar} {as:List AV},jaO cf (fun b=>(H[b]?).getD .gone) tmps xs=some as →
    ∃ vs,(xs.mapM (Y6 us)).run cf.P w=.ok vs w∧Rels c w as vs
  | [],as,hr=>by simp [jaO] at hr; subst hr; exact ⟨[],rfl,Rels.nil⟩
  | x :: xs,as,hr=>by
    simp only [jaO] at hr
    split at hr
    · rename_i a as' h1 h2
      simp at hr; subst hr
      obtain ⟨v,r1,r2⟩:=jmu h ht h1
      obtain ⟨vs,s1,s2⟩:=jcq h ht h2
      refine ⟨v :: vs,?_,Rels.cons r2 s2⟩
      simp only [List.mapM_cons,Sem.run_bind,r1,Result.andThen_ok,s1,Sem.run_pure]
    · simp at hr
theorem zP {c:Ctx} {w:World} {H:List ABlk} (h:WRel base w0 c w H) {tmps:List AV} {us:Array Value} (ht:Rels c w tmps us.toList) {fn:Func} {a:AV} (hr:Q4 cf fn (fun b=>(H[b]?).getD .gone) tmps=some a) :
    ∃ v,(results fn us).run cf.P w=.ok v w∧Rel c w a v:=by
  unfold Q4 at hr
  have key:∀ as,jaO cf (fun b=>(H[b]?).getD .gone) tmps fn.results.toList=some as→∃ vs:List Value,Rels c w as vs∧(results fn us).run cf.P w=.ok (if h:vs.toArray.size=1 then vs.toArray[0] else .tuple vs.toArray) w:=by
    intro as has
    obtain ⟨vs,h1,h2⟩:=jcq h ht has
    refine ⟨vs,h2,?_⟩
    rw [jeU,Sem.run_bind,Array.mapM_eq_mapM_toList,Sem.run_map,h1]
    simp only [Result.andThen_ok,Sem.run_pure]
  split at hr
  · rename_i x hx
    simp at hr; subst hr
    obtain ⟨vs,h1,h2⟩:=key _ hx
    obtain ⟨u,r,rfl,hu,ht'⟩:=h1.cons_inv
    have:r=[]:=ht'.nil_inv
    subst this
    exact ⟨u,by rw [h2]; rfl,hu⟩
  · rename_i as hne hx
    simp only [Option.some.injEq] at hr; subst hr
    obtain ⟨vs,h1,h2⟩:=key _ hx
    refine ⟨.tuple vs.toArray,?_,by unfold Rel; exact ⟨vs,rfl,h1⟩⟩
    rw [h2]
    have hl:=h1.length
    rw [dif_neg]
    intro h1'
    simp at h1'
    rcases as with _ | ⟨a,_ | ⟨b,as⟩⟩
    · simp at hl; simp [hl] at h1'
    · exact hne a rfl
    · simp at hl; omega
  · simp at hr
theorem gN {c:Ctx} {id:Nat}:∀ {k k':List AItem} {l:List Item},IRels c k l→QX id k=some k'→∃ l',exitTo id l=some l'∧IRels c k' l'
  | [],_,_,_,h=>by simp [QX] at h
  | x :: k,k',l,hr,h=>by
    obtain ⟨y,ys,rfl,hx,hk⟩:=hr
    cases x with
    | inBlock id' =>
      have hx:y=.inBlock id':=hx
      subst hx
      simp only [QX] at h
      simp only [exitTo]
      split at h
      · rename_i he
        simp only [Option.some.injEq] at h; subst h
        exact ⟨ys,by simp [he],hk⟩
      · rename_i he
        obtain ⟨l',h1,h2⟩:=gN hk h
        exact ⟨l',by simp [he,h1],h2⟩
    | _ =>
      simp only [QX] at h
      obtain ⟨l',h1,h2⟩:=gN hk h
      refine ⟨l',?_,h2⟩
      first
        | exact False.elim hx
        | (have hx:y=_:=hx; subst hx; simpa [exitTo] using h1)
        | (obtain ⟨is,rfl,_⟩:=hx; simpa [exitTo] using h1)
        | (obtain ⟨_,rfl⟩:=hx; simpa [exitTo] using h1)
theorem Zj {c:Ctx} {id:Nat}:∀ {k:List AItem} {l:List Item},IRels c k l→QX id k=none→exitTo id l=none
  | [], l, hr, _ => by have : l = [] := hr
                       subst this; rfl
  | x :: k,l,hr,h=>by
    obtain ⟨y,ys,rfl,hx,hk⟩:=hr
    cases x with
    | inBlock id' =>
      have hx:y=.inBlock id':=hx
      subst hx
      simp only [QX] at h
      simp only [exitTo]
      split at h
      · simp at h
      · rename_i he
        simp [he,Zj hk h]
    | _ =>
      simp only [QX] at h
      have h1:=Zj hk h
      first
        | exact False.elim hx
        | (have hx:y=_:=hx; subst hx; simpa [exitTo] using h1)
        | (obtain ⟨is,rfl,_⟩:=hx; simpa [exitTo] using h1)
        | (obtain ⟨_,rfl⟩:=hx; simpa [exitTo] using h1)
theorem gj {c:Ctx} {lb:Nat}:∀ {k k':List AItem} {l:List Item},IRels c k l→Q1 lb k=some k'→∃ l',gotoIn lb l=some l'∧IRels c k' l'
  | [],_,_,_,h=>by simp [Q1] at h
  | x :: k,k',l,hr,h=>by
    obtain ⟨y,ys,rfl,hx,hk⟩:=hr
    cases x with
    | inScope bd =>
      have hx:y=.inScope bd:=hx
      subst hx
      simp only [Q1] at h
      simp only [gotoIn]
      split at h
      · rename_i rest he
        simp only [Option.some.injEq] at h; subst h
        exact ⟨.code rest :: .inScope bd :: ys,by simp [he],IRels.cons rfl (IRels.cons rfl hk)⟩
      · rename_i he
        obtain ⟨l',h1,h2⟩:=gj hk h
        exact ⟨l',by simp [he,h1],h2⟩
    | _ =>
      simp only [Q1] at h
      obtain ⟨l',h1,h2⟩:=gj hk h
      refine ⟨l',?_,h2⟩
      first
        | exact False.elim hx
        | (have hx:y=_:=hx; subst hx; simpa [gotoIn] using h1)
        | (obtain ⟨is,rfl,_⟩:=hx; simpa [gotoIn] using h1)
        | (obtain ⟨_,rfl⟩:=hx; simpa [gotoIn] using h1)
theorem Zo {c:Ctx} {lb:Nat}:∀ {k:List AItem} {l:List Item},IRels c k l→Q1 lb k=none→gotoIn lb l=none
  | [], l, hr, _ => by have : l = [] := hr
                       subst this; rfl
  | x :: k,l,hr,h=>by
    obtain ⟨y,ys,rfl,hx,hk⟩:=hr
    cases x with
    | inScope bd =>
      have hx:y=.inScope bd:=hx
      subst hx
      simp only [Q1] at h
      simp only [gotoIn]
      split at h
      · simp at h
      · rename_i he
        simp [he,Zo hk h]
    | _ =>
      simp only [Q1] at h
      have h1:=Zo hk h
      first
        | exact False.elim hx
        | (have hx:y=_:=hx; subst hx; simpa [gotoIn] using h1)
        | (obtain ⟨is,rfl,_⟩:=hx; simpa [gotoIn] using h1)
        | (obtain ⟨_,rfl⟩:=hx; simpa [gotoIn] using h1)
end
end Go.Kv
