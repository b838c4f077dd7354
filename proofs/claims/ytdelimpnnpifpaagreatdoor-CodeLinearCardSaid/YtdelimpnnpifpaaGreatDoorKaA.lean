import Derived.Test.YtdelimpnnpifpaaGreatDoorKvW
import Derived.Shelf.SlSortCmp.WholeK
import Derived.Lib.QuietBelow
import Derived.Test.YtdelimpnnpifpaaGreatDoorKzA
set_option linter.all false
namespace Go.Kv
open Go Go.RowKit Go.Proofs Go.Sort
theorem jfO {α β:Type} {k:Nat} (f:α→List β) (hk:∀ a,(f a).length=k):∀ (l:List α) (i:Nat) (h:i<l.length),((l.flatMap f).drop (i*k)).take k=f l[i]
 | a :: l,0,_=>by
  rw [List.flatMap_cons,Nat.zero_mul,List.drop_zero]
  simp [hk a]
 | a :: l,i+1,h=>by
  have ih:=jfO f hk l i (by simpa using h)
  rw [List.flatMap_cons,Nat.succ_mul,Nat.add_comm (i*k) k,← List.drop_drop,List.drop_left' (hk a)]
  simpa using ih
theorem QW {α β:Type} {k:Nat} (f:α→List β) (hk:∀ a,(f a).length=k):∀ (l:List α),(l.flatMap f).length=l.length*k
 | []=>by simp
 | a :: l=>by rw [List.flatMap_cons,List.length_append,hk,QW f hk l,List.length_cons,Nat.succ_mul]; omega
theorem RelDs.flat {φ:Nat→Nat} {w:World} {α:Type} (f:α→List DV) (g:α→List Value) (h:∀ a,RelDs φ w (f a) (g a)):∀ l:List α,RelDs φ w (l.flatMap f) (l.flatMap g)
 | []=>RelDs.nil
 | a :: l=>by rw [List.flatMap_cons,List.flatMap_cons]; exact (h a).append (RelDs.flat f g h l)
theorem gg {α:Type} [Inhabited α] {k:Nat} (enc:α→List Value) (hk:∀ a,(enc a).length=k) (d:Array α):(Go.Sort.flatK enc k d).toList=d.toList.flatMap enc:=by
 apply List.ext_getElem
 ·rw [QW enc hk]; simp
 ·intro i h1 h2
  have hi:i<d.size*k:=by simpa using h1
  have hk0:0<k:=by
   rcases Nat.eq_zero_or_pos k with h | h
   ·subst h; simp at hi
   ·exact h
  have hd:i / k<d.toList.length:=by
   rw [Nat.div_lt_iff_lt_mul hk0]; simpa using hi
  have hm:=Nat.mod_lt i hk0
  have e1:(Go.Sort.flatK enc k d).toList[i]=(Go.Sort.flatK enc k d)[i]! := by
   rw [getElem!_pos (Go.Sort.flatK enc k d) i (by simpa using hi)]; simp
  rw [e1,get_flatK _ _ _ _ hi]
  have hd':i / k<d.size:=by simpa using hd
  rw [getElem!_pos d (i / k) hd']
  have hc:=jfO enc hk d.toList (i / k) hd
  have hm':i % k<(enc d[i / k]).length:=by rw [hk]; exact hm
  rw [getElem!_pos (enc d[i / k]) (i % k) hm']
  have e2:(enc d[i / k])[i % k]? = (d.toList.flatMap enc)[i]? := by
   have:enc d[i / k]=((d.toList.flatMap enc).drop (i / k*k)).take k:=by rw [hc]; simp
   rw [this,List.getElem?_take_of_lt hm,List.getElem?_drop,Nat.div_add_mod']
  rw [List.getElem?_eq_getElem hm',List.getElem?_eq_getElem h2] at e2
  exact Option.some.inj e2
theorem jbL (F:Array Value) (rest:List Value) (c:List Value) (hl:c.length=F.size):putCells id 0 F (c++rest).toArray=(F.toList++rest).toArray:=by
 apply Array.ext
 ·simp [putCells,hl]
 ·intro i h1 h2
  have hi':i<(c++rest).length:=by simpa [putCells] using h1
  have e:(putCells id 0 F (c++rest).toArray)[i]=if i<F.size then F[i]! else (c++rest)[i]:=by
   simp [putCells]
  rw [e]
  by_cases hi:i<F.size
  ·rw [if_pos hi,getElem!_pos F i hi]
   simp [List.getElem_append_left,hi]
  ·rw [if_neg hi,List.getElem_append_right (by omega)]
   simp only [List.getElem_toArray]
   rw [List.getElem_append_right (by simpa using Nat.le_of_not_lt hi)]
   simp [hl]
theorem jlv {φ:Nat→Nat} {w:World}:∀ {xs:List DV} {us:List Value},RelDs φ w xs us→∀ u ∈ us,u.oneCell'=true
 | [],us,h=>by rw [h.nil_inv]; simp
 | x :: xs,us,h=>by
  obtain ⟨u,r,rfl,hu,t⟩:=h.cons_inv
  intro v hv
  rcases List.mem_cons.1 hv with rfl | hv
  ·cases x with
   | v y=>unfold RelD at hu; rw [hu.1]; exact hu.2
   | sl n ys =>
    unfold RelD at hu
    obtain ⟨bk,off,cap,us,hu,_⟩:=hu
    rcases hu with rfl | ⟨⟨o,rfl⟩,_⟩ <;> rfl
  ·exact jlv t v hv
theorem jmf {w:World} {bk:Nat} {t:TypeId} {F:Array Value} {vs rest:List Value} (hh:w.heap[bk]? = some (.cells (vs++rest).toArray t (0,0))) (hl:vs.length=F.size):putRow id w bk 0 F=w.setRow bk (F.toList++rest).toArray:=by
 unfold putRow mapBlock World.setRow
 congr 1
 apply Array.ext_getElem?
 intro j
 simp only [Array.getElem?_modify]
 by_cases hj:bk=j
 ·subst hj
  simp only [if_true,hh,Option.map_some,onCells,jbL F rest vs hl]
 ·simp [hj]
theorem jaw {w:World} {bk:Nat} {t:TypeId} {F:Array Value} {vs rest:List Value} (hh:w.heap[bk]? = some (.cells (vs++rest).toArray t (0,0))) (hl:vs.length=F.size) (n:Nat) (os:Array Obj) {sd:Bool} :
  BelowD sd w.heap.size (w.setRow bk (F.toList++rest).toArray) (grow (putRow id (Go.Sort.ahead w n) bk 0 F) os):=by
 have e:putRow id (Go.Sort.ahead w n) bk 0 F=Go.Sort.ahead (w.setRow bk (F.toList++rest).toArray) n:=by
  rw [putRow_ahead,jmf hh hl]
 rw [e]
 refine ⟨⟨rfl,rfl,rfl,?_,fun j hj=>?_⟩,fun _=>Nat.le_add_right _ _⟩
 ·simp [Go.Sort.ahead]
 ·rw [heap_grow_old _ _ (by simpa [Go.Sort.ahead] using hj)]; rfl
theorem jdU {w:World} {bk:Nat} {t:TypeId} {F:Array Value} {vs rest:List Value} (hh:w.heap[bk]? = some (.cells (vs++rest).toArray t (0,0))) (hF:F.toList=vs):Holds id w bk 0 F:=by
 intro j hj
 have hj':j<vs.length:=by rw [← hF]; simpa using hj
 constructor
 ·unfold World.cell?
  simp only [hh,Nat.zero_add,id]
  rw [getElem!_pos F j hj]
  have:(vs++rest)[j]? = some F[j]:=by
   rw [List.getElem?_append_left hj',← hF]; simp [hj]
  simpa using this
 ·unfold World.frozen?
  simp [hh]
section
variable {P:Program} {ρ:Go.Shelf.Ren} {glob:Nat→Option (List DV)}
theorem jlO {φ:Nat→Nat} {w W:World} {bk:Nat} (hi:∀ i,w.heap.size≤i→φ i=0) (hb:φ bk=0) (hs:w.heap.size≤W.heap.size) (hk:∀ j,j<w.heap.size→j≠bk→W.heap[j]? = w.heap[j]?) (hr:∀ k,Jo w bk k→Jo W bk k):Ctx.Le (JR φ) w (JR φ) W:=by
 refine ⟨fun _ h=>h,fun _ _=>rfl,fun _=>Nat.le_refl _,fun _ h=>h,fun _ _=>Nat.le_refl _,fun _ _ _ _=>⟨rfl,rfl⟩,?_,?_,fun _ _=>⟨Nat.le_refl _,fun _ _=>rfl⟩⟩
 ·intro j o ho
  have ho:o<φ j:=ho
  have hj:j<w.heap.size:=by
   apply Classical.byContradiction
   intro h; rw [hi j (by omega)] at ho; omega
  have hne:j≠bk:=by intro e; rw [e,hb] at ho; omega
  exact World.cell?_of_block (hk j hj hne)
 ·intro j k h
  by_cases hj:j=bk
  ·subst hj; exact hr k h
  ·obtain ⟨cur,t,fr,h1,h2⟩:=h
   exact ⟨cur,t,fr,by rw [hk j (Array.getElem?_eq_some_iff.1 h1).1 hj]; exact h1,h2⟩
theorem jmP (L:SlLaysF0.n6 P ρ) {k N:Nat} [Inhabited (_root_.Fin N)] (hN:N<4611686018427387904) (aE:∀ w,(isAgg (ρ.t 24)).run P w=.ok true w) (zE:∀ w,(Go.sizeOf (ρ.t 24)).run P w=.ok k w) (g:Nat) (eg:∀ args w,(callFunc g args).run P w=.ok (.enter g args) w)
  (eD:_root_.Fin N→List DV) (he:∀ i,(eD i).length=k) (cf:_root_.Fin N→_root_.Fin N→Int) (hO:SWO (ltOf cf)) (hcmp:∀ i j,PureCalls P (fun _=>none) g [.agg ((eD i).map AV.d),.agg ((eD j).map AV.d)] (aI (cf i j))) :
  Qg P glob (ρ.f 6) k N ((Array.ofFn (n:=N) id).toList.flatMap eD) (.d (.v (.func (.func g) #[] #[]))) ((pdq (ltOf cf) (Array.ofFn (n:=N) id) 0 N (Lib.bitLen N) true true).toList.flatMap eD):=by
 intro w φ bk cap t vs rest fv hφ hgl hh hb hrel hlen hf
 unfold Rel RelD at hf
 obtain ⟨rfl,_⟩:=hf
 let enc:_root_.Fin N→List Value:=fun i=>(vs.drop (i.val*k)).take k
 have hofn:∀ i:_root_.Fin N,(Array.ofFn (n:=N) id).toList[i.val]'(by simp)=i:=fun i=>by simp
 have henc:∀ i,RelDs φ w (eD i) (enc i):=by
  intro i
  have h1:=(hrel.drop (i.val*k)).take k
  rw [jfO eD he _ i.val (by simp),hofn] at h1
  exact h1
 have hk:∀ i,(enc i).length=k:=fun i=>by rw [(henc i).length,he]
 have h1:∀ i,∀ v ∈ enc i,v.oneCell'=true:=fun i=>jlv (henc i)
 have hvs:(Go.Sort.flatK enc k (Array.ofFn (n:=N) id)).toList=vs:=by
  rw [gg enc hk]
  have hl2:=QW enc hk (Array.ofFn (n:=N) id).toList
  apply List.ext_getElem
  ·rw [hl2,hlen]; simp
  ·intro i hi1 hi2
   have hk0:0<k:=by
    rcases Nat.eq_zero_or_pos k with h | h
    ·subst h; simp at hlen; omega
    ·exact h
   have hik:i / k<N:=by rw [Nat.div_lt_iff_lt_mul hk0]; omega
   have hm:=Nat.mod_lt i hk0
   have c1:=jfO enc hk (Array.ofFn (n:=N) id).toList (i / k) (by simpa using hik)
   have c2:(Array.ofFn (n:=N) id).toList[i / k]'(by simpa using hik)=⟨i / k,hik⟩:=by simp
   rw [c2] at c1
   have e1:((Array.ofFn (n:=N) id).toList.flatMap enc)[i]? = vs[i]? := by
    have a1:(((Array.ofFn (n:=N) id).toList.flatMap enc).drop (i / k*k)).take k=(vs.drop (i / k*k)).take k:=c1
    have a2:=congrArg (·[i % k]?) a1
    simp only [List.getElem?_take_of_lt hm,List.getElem?_drop,Nat.div_add_mod'] at a2
    exact a2
   rw [List.getElem?_eq_getElem hi1,List.getElem?_eq_getElem hi2] at e1
   exact Option.some.inj e1
 have hblk:bk<w.heap.size:=(Array.getElem?_eq_some_iff.1 hh).1
 have hH:HoldsK enc k w bk 0 (Array.ofFn (n:=N) id):=jdU hh hvs
 have hNs:(Array.ofFn (n:=N) (id:_root_.Fin N→_root_.Fin N)).size=N:=by simp
 have hC:CmpLays P g #[] enc k cf bk 0 (Array.ofFn (n:=N) (id:_root_.Fin N→_root_.Fin N)).size w:=by
  intro m os dk hdk x y
  have hFs:vs.length=(Go.Sort.flatK enc k dk).size:=by rw [size_flatK,hdk,hNs,hlen]
  have hbel:=jaw (F:=Go.Sort.flatK enc k dk) hh hFs m os (sd:=false)
  have hW:sortWorldK enc k w bk 0 m dk os=grow (putRow id (Go.Sort.ahead w m) bk 0 (Go.Sort.flatK enc k dk)) os:=rfl
  rw [hW]
  generalize grow (putRow id (Go.Sort.ahead w m) bk 0 (Go.Sort.flatK enc k dk)) os=W at hbel
  have hsz:=hbel.size
  rw [size_setRow] at hsz
  have hle:Ctx.Le (JR φ) w (JR φ) W:=jlO hφ hb hsz (fun j hj hne=>by rw [hbel.block j (by simpa using hj),setRow_other _ _ _ _ hne]) (fun q hq=>by
   have h2:=Je hh (cs:=((Go.Sort.flatK enc k dk).toList++rest).toArray) (by simp; simpa using hFs.symm) hq
   obtain ⟨cur,t',fr,h3,h4⟩:=h2
   exact ⟨cur,t',fr,by rw [hbel.block bk (by simpa using hblk)]; exact h3,h4⟩)
  have hg2:GlobOk (fun _=>none) W φ:=by intro g cs hc; simp at hc
  have hr1:Rel (JR φ) W (.agg ((eD x).map AV.d)) (.agg (enc x).toArray):=by
   unfold Rel
   exact ⟨enc x,rfl,Rels.map_d (RelDs.mono hle (henc x))⟩
  have hr2:Rel (JR φ) W (.agg ((eD y).map AV.d)) (.agg (enc y).toArray):=by
   unfold Rel
   exact ⟨enc y,rfl,Rels.map_d (RelDs.mono hle (henc y))⟩
  refine (hcmp x y W φ [.agg (enc x).toArray,.agg (enc y).toArray] (fun i hi=>hφ i (by omega)) hg2 (Rels.cons hr1 (Rels.cons hr2 Rels.nil))).mono ?_
  rintro e w' ⟨u,φ',he',hbd,_,_,hru⟩
  unfold Rel RelD at hru
  refine ⟨by rw [he',hru.1],?_⟩
  obtain ⟨p,hp⟩:=regrown_of_below hbd.toBelow
  refine ⟨p.d - W.drawn,p.os,?_⟩
  have hd:W.drawn≤p.d:=by
   have:=hbd.dr rfl
   rw [hp] at this; exact this
  rw [hp]
  show grow { W with drawn:=p.d } p.os=grow { W with drawn:=W.drawn+(p.d - W.drawn) } p.os
  rw [Nat.add_sub_cancel' hd]
 have main:=AnyQ.slices_SortFunc_eq L k aE zE enc hk h1 cf hO g #[] bk 0 cap (Array.ofFn (n:=N) (id:_root_.Fin N→_root_.Fin N)) w eg hC hH hblk (by rw [hNs]; exact hN)
 rw [hNs] at main
 refine main.mono ?_
 rintro e w' ⟨he',n,os,hw⟩
 refine ⟨he',?_⟩
 have hp:=pdq_sorts (ltOf cf) hO (Array.ofFn (n:=N) (id:_root_.Fin N→_root_.Fin N)) 0 N (Lib.bitLen N) true true (Nat.zero_le _) (by rw [hNs]; exact Nat.le_refl _) (Or.inl rfl)
 generalize pdq (ltOf cf) (Array.ofFn (n:=N) (id:_root_.Fin N→_root_.Fin N)) 0 N (Lib.bitLen N) true true=d' at hw hp
 have hds:d'.size=N:=by rw [hp.1.1,hNs]
 have hFs:vs.length=(Go.Sort.flatK enc k d').size:=by rw [size_flatK,hds,hlen]
 refine ⟨(Go.Sort.flatK enc k d').toList,by simpa using hFs.symm,?_,?_⟩
 ·rw [gg enc hk]
  exact RelDs.flat eD enc henc _
 ·rw [hw]
  exact jaw hh hFs n os
end
end Go.Kv
namespace Go.Proofs
open Go.Shelf Go.RowKit
def Tryz.laysSort_ren:Go.Shelf.Ren:=⟨fun | 6=>136 | 15=>158 | 14=>157 | 28=>176 | 29=>177 | 20=>168 | 21=>169 | 22=>170 | 23=>171 | 24=>172 | 25=>173 | 26=>174 | 27=>175 | 46=>193 | 47=>194 | 48=>195 | 49=>196 | 50=>197 | 57=>211 | n=>n,fun | 22=>140 | 24=>139 | 25=>180 | 3=>3 | 39=>151 | 0=>0 | 53=>217 | 55=>219 | 4=>4 | 46=>211 | 45=>210 | 50=>148 | 5=>5 | 9=>9 | 66=>234 | 70=>238 | 76=>247 | 77=>248 | n=>n,fun | n=>n⟩
theorem Tryz.laysSort:Go.Proofs.SlLaysF0.n6 Tryz.prog Tryz.laysSort_ren where
 mixed:=by kernel_rfl
 f6 := ⟨"slices.SortFunc[[]kilovar/code.priced,kilovar/code.priced]",by decide,Tryz.func136.trans (congrArg some (by kernel_rfl))⟩
 f14 := ⟨"slices.pdqsortCmpFunc[kilovar/code.priced]",by decide,Tryz.func157.trans (congrArg some (by kernel_rfl))⟩
 f15:=Tryz.func158.trans (congrArg some (by kernel_rfl))
 f20 := ⟨"slices.insertionSortCmpFunc[kilovar/code.priced]",by decide,Tryz.func168.trans (congrArg some (by kernel_rfl))⟩
 f21 := ⟨"slices.heapSortCmpFunc[kilovar/code.priced]",by decide,Tryz.func169.trans (congrArg some (by kernel_rfl))⟩
 f22 := ⟨"slices.breakPatternsCmpFunc[kilovar/code.priced]",by decide,Tryz.func170.trans (congrArg some (by kernel_rfl))⟩
 f23 := ⟨"slices.choosePivotCmpFunc[kilovar/code.priced]",by decide,Tryz.func171.trans (congrArg some (by kernel_rfl))⟩
 f24 := ⟨"slices.reverseRangeCmpFunc[kilovar/code.priced]",by decide,Tryz.func172.trans (congrArg some (by kernel_rfl))⟩
 f25 := ⟨"slices.partialInsertionSortCmpFunc[kilovar/code.priced]",by decide,Tryz.func173.trans (congrArg some (by kernel_rfl))⟩
 f26 := ⟨"slices.partitionEqualCmpFunc[kilovar/code.priced]",by decide,Tryz.func174.trans (congrArg some (by kernel_rfl))⟩
 f27 := ⟨"slices.partitionCmpFunc[kilovar/code.priced]",by decide,Tryz.func175.trans (congrArg some (by kernel_rfl))⟩
 f28:=Tryz.func176.trans (congrArg some (by kernel_rfl))
 f29:=Tryz.func177.trans (congrArg some (by kernel_rfl))
 f46 := ⟨"slices.siftDownCmpFunc[kilovar/code.priced]",by decide,Tryz.func193.trans (congrArg some (by kernel_rfl))⟩
 f47:=Tryz.func194.trans (congrArg some (by kernel_rfl))
 f48:=Tryz.func195.trans (congrArg some (by kernel_rfl))
 f49 := ⟨"slices.medianAdjacentCmpFunc[kilovar/code.priced]",by decide,Tryz.func196.trans (congrArg some (by kernel_rfl))⟩
 f50 := ⟨"slices.medianCmpFunc[kilovar/code.priced]",by decide,Tryz.func197.trans (congrArg some (by kernel_rfl))⟩
 f57 := ⟨"slices.order2CmpFunc[kilovar/code.priced]",by decide,Tryz.func211.trans (congrArg some (by kernel_rfl))⟩
 t0:=Tryz.underlying0
 a0:=Tryz.isAgg0
 z0:=Tryz.sizeOf0
 v0:=Tryz.zeroValue0
 t3:=Tryz.underlying3
 a3:=Tryz.isAgg3
 z3:=Tryz.sizeOf3
 v3:=Tryz.zeroValue3
 t4:=Tryz.underlying4
 a4:=Tryz.isAgg4
 z4:=Tryz.sizeOf4
 v4:=Tryz.zeroValue4
 t5:=Tryz.underlying5
 a5:=Tryz.isAgg5
 z5:=Tryz.sizeOf5
 v5:=Tryz.zeroValue5
 t9:=Tryz.underlying9
 a9:=Tryz.isAgg9
 z9:=Tryz.sizeOf9
 v9:=Tryz.zeroValue9
 t22:=Tryz.underlying140
 a22:=Tryz.isAgg140
 z22:=Tryz.sizeOf140
 v22:=Tryz.zeroValue140
 t25:=Tryz.underlying180
 a25:=Tryz.isAgg180
 z25:=Tryz.sizeOf180
 v25:=Tryz.zeroValue180
 t39:=Tryz.underlying151
 a39:=Tryz.isAgg151
 z39:=Tryz.sizeOf151
 v39:=Tryz.zeroValue151
 t45:=Tryz.underlying210
 a45:=Tryz.isAgg210
 z45:=Tryz.sizeOf210
 v45:=Tryz.zeroValue210
 t46:=Tryz.underlying211
 a46:=Tryz.isAgg211
 z46:=Tryz.sizeOf211
 v46:=Tryz.zeroValue211
 t50:=Tryz.underlying148
 a50:=Tryz.isAgg148
 z50:=Tryz.sizeOf148
 v50:=Tryz.zeroValue148
 t53:=Tryz.underlying217
 a53:=Tryz.isAgg217
 z53:=Tryz.sizeOf217
 v53:=Tryz.zeroValue217
 t55:=Tryz.underlying219
 a55:=Tryz.isAgg219
 z55:=Tryz.sizeOf219
 v55:=Tryz.zeroValue219
 t66:=Tryz.underlying234
 a66:=Tryz.isAgg234
 z66:=Tryz.sizeOf234
 v66:=Tryz.zeroValue234
 t70:=Tryz.underlying238
 a70:=Tryz.isAgg238
 z70:=Tryz.sizeOf238
 v70:=Tryz.zeroValue238
 t76:=Tryz.underlying247
 a76:=Tryz.isAgg247
 z76:=Tryz.sizeOf247
 v76:=Tryz.zeroValue247
 t77:=Tryz.underlying248
 a77:=Tryz.isAgg248
 z77:=Tryz.sizeOf248
 v77:=Tryz.zeroValue248
end Go.Proofs
