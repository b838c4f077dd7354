import Derived.Test.YtdelimpnnpifpaaGreatDoorKvF
set_option linter.all false
namespace Go.Kv
open Go Go.RowKit
section
variable {cf:Cfg} {base:Nat} {w0:Start} {c:Ctx} {w:World} {H:List ABlk} {get:Nat→ABlk}
def ga (place:Nat→Option (Nat × Nat)) (cells:List AV):List (Nat × AV)→Option (List AV)
 | []=>some cells
 | (i,a) :: rest =>
  match place i,Zb a with
  | some (off,size),some vs =>
   if vs.length==size&&Nat.ble (off+vs.length) cells.length&&vs.all ye then ga place (jv cells off vs) rest else none
  | _,_=>none
theorem Zw:∀ (vs:List Value) (off j:Nat) (cs:Array Value),off+j+vs.length≤cs.size →
  ((vs.zipIdx j).foldl (fun (cs:Array Value) (x:Value × Nat)=>cs.setIfInBounds (off+x.2) x.1) cs).toList=cs.toList.take (off+j)++vs++cs.toList.drop (off+j+vs.length)
 | [],off,j,cs,_=>by simp
 | v :: vs,off,j,cs,h=>by
  simp only [List.zipIdx_cons,List.foldl_cons]
  rw [Zw vs off (j+1) _ (by simp at h ⊢; omega)]
  have e:=list_seg_step cs.toList (off+j) v vs (by simp at h ⊢; omega)
  simpa [Array.toList_setIfInBounds,Nat.add_assoc] using e
theorem QV {place:Nat→Option (Nat × Nat)}:∀ {parts:List (Nat × AV)} {vals:List (Nat × Value)} {cells cells':List AV} {us:Array Value},
  Rels c w cells us.toList→parts.map (·.1)=vals.map (·.1)→Rels c w (parts.map (·.2)) (vals.map (·.2))→ga place cells parts=some cells' →
  ∃ us',Instr.fill place us vals=some us'∧Rels c w cells' us'.toList
 | [],vals,cells,cells',us,hc,hi,hv,hf=>by
  simp [ga] at hf; subst hf
  have:vals=[]:=by cases vals <;> simp at hi ⊢
  subst this
  exact ⟨us,rfl,hc⟩
 | (i,a) :: parts,vals,cells,cells',us,hc,hi,hv,hf=>by
  cases vals with
  | nil=>simp at hi
  | cons x vals =>
   obtain ⟨i',u⟩:=x
   simp at hi
   obtain ⟨rfl,hi⟩:=hi
   obtain ⟨u',r,he,hu,ht⟩:=hv.cons_inv
   simp at he
   obtain ⟨rfl,rfl⟩:=he
   simp only [ga] at hf
   split at hf
   ·rename_i off size vs hpl hvs
    split at hf
    ·rename_i hcond
     simp only [Bool.and_eq_true,beq_iff_eq] at hcond
     obtain ⟨⟨h1,h2⟩,h3⟩:=hcond
     have h2:=Nat.le_of_ble_eq_true h2
     have hcl:=hc.length
     have hvc:=hu.cells hvs
     have hvl:=hvc.length
     have hsp:((u.cells.zipIdx).foldl (fun (cs:Array Value) (x:Value × Nat)=>cs.setIfInBounds (off+x.2) x.1) us).toList=us.toList.take off++u.cells.toList++us.toList.drop (off+u.cells.toList.length):=by
      have:=Zw u.cells.toList off 0 us (by simp at *; omega)
      simp only [Nat.add_zero] at this
      rw [← this,← Array.foldl_toList]
      simp [Array.toList_zipIdx]
     obtain ⟨us',hus,hrel⟩:=QV (place:=place) (parts:=parts) (vals:=vals) (us:=(u.cells.zipIdx).foldl (fun (cs:Array Value) (x:Value × Nat)=>cs.setIfInBounds (off+x.2) x.1) us)
      (by rw [hsp,hvl]; exact ((hc.take off).append hvc).append (hc.drop _)) hi ht hf
     refine ⟨us',?_,hrel⟩
     simp only [Instr.fill,hpl]
     have hsz:u.cells.size=size:=by simp at hvl; omega
     have hle:¬ (off+u.cells.size>us.size):=by simp at hcl; omega
     rw [if_neg (by simp [hsz]; omega)]
     exact hus
    ·simp at hf
   ·simp at hf
def ZP (P:Program):List Field→Option (List (Nat × Nat))
 | []=>some []
 | f :: fs=>match P.info? f.type,ZP P fs with
  | some i,some r=>some ((f.offset,i.size) :: r)
  | _,_=>none
theorem yP {P:Program}:∀ {fs:List Field} {ps:List (Nat × Nat)},ZP P fs=some ps→∀ w,(fs.mapM (m:=Sem) fun f=>do pure (f.offset,← sizeOf f.type)).run P w=.ok ps w
 | [],ps,h,w=>by simp [ZP] at h; subst h; rfl
 | f :: fs,ps,h,w=>by
  simp only [ZP] at h
  split at h
  ·rename_i i r hi hr
   simp at h; subst h
   simp only [List.mapM_cons,Sem.run_bind,jY hi,Sem.run_pure,Result.andThen_ok,yP hr]
  ·simp at h
def qa (ev:Operand→AV) (ps:Array (Nat × Operand)):List (Nat × AV):=ps.toList.map fun x=>(x.1,ev x.2)
theorem GZ {ev:Operand→AV} {av:Operand→Value} (hev:∀ x,Rel c w (ev x) (av x)) (ps:Array (Nat × Operand)) :
  (qa ev ps).map (·.1)=((ps.map fun (i,x)=>(i,av x)).toList).map (·.1)∧Rels c w ((qa ev ps).map (·.2)) (((ps.map fun (i,x)=>(i,av x)).toList).map (·.2)):=by
 constructor
 ·simp [qa,Function.comp_def]
 ·simp only [qa,Array.toList_map,List.map_map]
  induction ps.toList with
  | nil=>exact Rels.nil
  | cons x xs ih=>exact Rels.cons (hev x.2) ih
def ja3 (cf:Cfg) (t:TypeId) (ev:Operand→AV) (ps:Array (Nat × Operand)):Option ARes :=
 match Qh cf.P t with
 | none=>none
 | some zs =>
  match cf.P.underlying t with
  | some (.struct fields)=>match ZP cf.P fields.toList with
   | some places=>match ga (fun i=>places[i]?) zs (qa ev ps) with
    | some cs=>some ⟨[],.agg cs,[]⟩
    | none=>none
   | none=>none
  | some (.array _ e)=>match cf.P.info? e with
   | some ie=>match ga (fun i=>some (i*ie.size,ie.size)) zs (qa ev ps) with
    | some cs=>some ⟨[],.agg cs,[]⟩
    | none=>none
   | none=>none
  | _=>none
theorem jfW {ev:Operand→AV} {av:Operand→Value} (hev:∀ x,Rel c w (ev x) (av x)) {t:TypeId} {ps:Array (Nat × Operand)} {r:ARes} (hr:ja3 cf t ev ps=some r) :
  ∃ v,(Instr.build t (ps.map fun (i,x)=>(i,av x))).run cf.P w=.ok v w∧Rel c w r.val v∧r.wr=[]:=by
 unfold ja3 at hr
 obtain ⟨hp1,hp2⟩:=GZ hev ps
 split at hr
 ·simp at hr
 rename_i zs hz
 obtain ⟨z,hzr,hzs⟩:=zf hz
 split at hr
 ·rename_i fields hd
  split at hr
  ·rename_i places hpl
   split at hr
   ·rename_i cs hf
    simp at hr; subst hr
    obtain ⟨us,hus,hrel⟩:=QV (hzs c w) hp1 hp2 hf
    refine ⟨.agg us,?_,by unfold Rel; exact ⟨us.toList,by simp,hrel⟩,rfl⟩
    have hm:(fields.mapM (m:=Sem) fun f=>do pure (f.offset,← sizeOf f.type)).run cf.P w=.ok places.toArray w:=by
     rw [Array.mapM_eq_mapM_toList,Sem.run_map,yP hpl]
     rfl
    have hus':Instr.fill (fun i=>places.toArray[i]?) z.cells (ps.map fun (i,x)=>(i,av x)).toList=some us:=by
     have:(fun i=>places.toArray[i]?)=(fun i:Nat=>places[i]?):=by funext i; simp
     rw [this]; exact hus
    simp only [Instr.build,Sem.run_bind,hzr,Result.andThen_ok,run_underlying hd,hm]
    rw [hus']
    rfl
   ·simp at hr
  ·simp at hr
 ·rename_i n e hd
  split at hr
  ·rename_i ie hie
   split at hr
   ·rename_i cs hf
    simp at hr; subst hr
    obtain ⟨us,hus,hrel⟩:=QV (hzs c w) hp1 hp2 hf
    refine ⟨.agg us,?_,by unfold Rel; exact ⟨us.toList,by simp,hrel⟩,rfl⟩
    simp only [Instr.build,Sem.run_bind,hzr,Result.andThen_ok,run_underlying hd,jY hie]
    rw [hus]
    rfl
   ·simp at hr
  ·simp at hr
 ·simp at hr
def J2 (zs:List AV):Nat→List AV
 | 0=>[]
 | n+1=>zs++J2 zs n
theorem qZ (z:List Value) (hz:z≠[]):∀ n,(List.range (n*z.length)).map (fun i=>z.toArray[i % z.toArray.size]!)=(List.replicate n z).flatten
 | 0=>by simp
 | n+1=>by
  have hp:0<z.length:=List.length_pos_iff.2 hz
  rw [Nat.add_mul,Nat.one_mul,Nat.add_comm,List.range_add,List.map_append,List.replicate_succ,List.flatten_cons,← qZ z hz n]
  congr 1
  ·apply List.ext_getElem?
   intro i
   by_cases hi:i<z.length
   ·simp [hi,Nat.mod_eq_of_lt hi]
   ·simp [hi]
  ·rw [List.map_map]
   apply List.map_congr_left
   intro i _
   simp [Nat.add_mod_left]
theorem KT {zs:List AV} {us:List Value} (h:Rels c w zs us):∀ n,Rels c w (J2 zs n) (List.replicate n us).flatten
 | 0=>by simpa [J2] using Rels.nil
 | n+1=>by simpa [J2,List.replicate_succ] using h.append (KT h n)
def jmQ (cf:Cfg) (o:Oper):Bool:=cf.own0&&!(match o.dst with
 | some d=>cf.rows.contains d
 | none=>false)
def K2 (cf:Cfg) (rw0:Bool) (t:TypeId) (len:Nat) (ev:Operand→AV) (ps:Array (Nat × Operand)) (nm:Nat):Option ARes :=
 match cf.P.underlying t with
 | some (.slice e)=>match cf.P.info? e,Qh cf.P e with
  | some ie,some zs =>
   if ie.size==0||Nat.blt 16777216 (len*ie.size)||!(zs.length==ie.size) then none else
   match ga (fun i=>some (i*ie.size,ie.size)) (J2 zs len) (qa ev ps) with
   | some cs=>match toDs cs with
    | some xs=>zL fDV xs fun xs=>if xs.length==len*ie.size then some ⟨[],if len==0&&!rw0 then .em else .own nm 0 ie.size len xs,[(nm,.tail 0)]⟩ else none
    | none=>if cs.length==len*ie.size then some ⟨[],.ms nm 0 ie.size len len,[(nm,.cells cs e)]⟩ else none
   | none=>none
  | _,_=>none
 | _=>none
theorem gM (h:WRel base w0 c w H) {nm:Nat} (hnm:H[nm]? = some .gone) {ev:Operand→AV} {av:Operand→Value} (hev:∀ x,Rel c w (ev x) (av x)) {t:TypeId} {len:Nat} {ps:Array (Nat × Operand)} {r:ARes} {rw0:Bool}
  (hr:K2 cf rw0 t len ev ps nm=some r) :
  ∃ w' c' v,(Instr.buildSlice t len (ps.map fun (i,x)=>(i,av x))).run cf.P w=.ok v w'∧Ctx.Le c w c' w'∧WRel base w0 c' w' (r.wr.foldl (fun H x=>H.set x.1 x.2) H)∧Rel c' w' r.val v:=by
 unfold K2 at hr
 obtain ⟨hp1,hp2⟩:=GZ hev ps
 split at hr
 ·rename_i e hd
  split at hr
  ·rename_i ie zs hie hz
   split at hr
   ·simp at hr
   rename_i hcond
   simp only [Bool.or_eq_true,not_or,beq_iff_eq,Bool.not_eq_true,Bool.not_eq_true'] at hcond
   obtain ⟨⟨hs0,hbig⟩,hzl⟩:=hcond
   have hzl:zs.length=ie.size:=by simpa using hzl
   have hbig:¬ len*ie.size>16777216:=by
    intro hgt
    have:Nat.blt 16777216 (len*ie.size)=true:=by simp [Nat.blt_eq]; omega
    rw [this] at hbig; simp at hbig
   obtain ⟨z,hzr,hzs⟩:=zf hz
   split at hr
   ·rename_i cs hf
    split at hr
    ·rename_i xs hxs
     rw [QA jgV] at hr
     split at hr
     ·rename_i hxl
      have hxl:xs.length=len*ie.size:=by simpa using hxl
      simp at hr; subst hr
      have hzlen:=(hzs c w).length
      have hne:z.cells.toList≠[]:=by intro he; rw [he] at hzlen; simp at hzlen; omega
      have hcells:((Array.range (len*ie.size)).map fun i=>z.cells[i % z.cells.size]!).toList=(List.replicate len z.cells.toList).flatten:=by
       have:=qZ z.cells.toList hne len
       simp only [Array.toArray_toList] at this
       rw [← this,hzlen,hzl]
       simp [Array.toList_range]
      obtain ⟨us,hus,hrel⟩:=QV (us:=(Array.range (len*ie.size)).map fun i=>z.cells[i % z.cells.size]!) (by rw [hcells]; exact KT (hzs c w) len) hp1 hp2 hf
      have hrd:=hrel.toDs hxs
      have hul:=hrd.length
      obtain ⟨a1,a2,a3⟩:=h.alloc_tail hnm (us:=us.toList) (rest:=[]) e ie.size len len (by rw [hul,hxl]) (Nat.le_refl _) (by rw [hul,hxl]; rfl) hrd
      simp only [List.append_nil,Array.toArray_toList] at a1 a2 a3
      have a4:Rel (c.new nm w.heap.size us.toList.length 0 true) (w.alloc (.cells us e)) (if len=0∧rw0=false then .em else .own nm 0 ie.size len xs) (.slice (some ⟨w.heap.size,0,none⟩) len len):=by
       split
       ·rename_i h0
        obtain ⟨h0,_⟩:=h0
        subst h0
        unfold Rel
        exact ⟨_,rfl⟩
       ·exact a3
      refine ⟨_,_,_,?_,a1,a2,a4⟩
      have hrun:(if len*ie.size=0 then (pure #[]:Sem (Array Value)) else do pure (← zeroValue e).cells).run cf.P w=.ok (if len*ie.size=0 then #[] else z.cells) w:=by
       split <;> simp [hzr]
      have hfill:Instr.fill (fun i=>some (i*ie.size,ie.size)) ((Array.range (len*ie.size)).map fun i=>(if len*ie.size=0 then #[] else z.cells)[i % (if len*ie.size=0 then (#[]:Array Value) else z.cells).size]!) (ps.map fun (i,x)=>(i,av x)).toList=some us:=by
       by_cases h0:len*ie.size=0
       ·have hr0:Array.range 0=#[]:=rfl
        rw [h0] at hus ⊢
        rw [hr0] at hus ⊢
        simpa using hus
       ·simpa only [if_neg h0] using hus
      simp only [Instr.buildSlice,Sem.run_bind,run_underlying hd,Result.andThen_ok,jY hie,Sem.run_ite]
      rw [if_neg (by omega)]
      by_cases h0:len*ie.size=0
      ·simp only [if_pos h0] at hfill ⊢
       simp only [Sem.run_pure,Result.andThen_ok]
       erw [hfill]
       simp [newRow]
      ·simp only [if_neg h0] at hfill ⊢
       simp only [hzr,Sem.run_pure,Result.andThen_ok]
       erw [hfill]
       simp [newRow]
     ·simp at hr
    ·rename_i hxs
     split at hr
     ·rename_i hxl
      have hxl:cs.length=len*ie.size:=by simpa using hxl
      simp only [Option.some.injEq] at hr; subst hr
      have hzlen:=(hzs c w).length
      have hne:z.cells.toList≠[]:=by intro he; rw [he] at hzlen; simp at hzlen; omega
      have hcells:((Array.range (len*ie.size)).map fun i=>z.cells[i % z.cells.size]!).toList=(List.replicate len z.cells.toList).flatten:=by
       have:=qZ z.cells.toList hne len
       simp only [Array.toArray_toList] at this
       rw [← this,hzlen,hzl]
       simp [Array.toList_range]
      obtain ⟨us,hus,hrel⟩:=QV (us:=(Array.range (len*ie.size)).map fun i=>z.cells[i % z.cells.size]!) (by rw [hcells]; exact KT (hzs c w) len) hp1 hp2 hf
      obtain ⟨a1,a2⟩:=h.alloc_cells hnm (us:=us.toList) e hrel
      simp only [Array.toArray_toList] at a1 a2
      have a4:Rel (c.new nm w.heap.size 0 0 false) (w.alloc (.cells us e)) (.ms nm 0 ie.size len len) (.slice (some ⟨w.heap.size,0,none⟩) len len):=by
       unfold Rel
       exact ⟨by simp [Ctx.new],Nat.le_refl _,len,.inl rfl,by simp [Ctx.new]⟩
      refine ⟨_,_,_,?_,a1,a2,a4⟩
      have hrun:(if len*ie.size=0 then (pure #[]:Sem (Array Value)) else do pure (← zeroValue e).cells).run cf.P w=.ok (if len*ie.size=0 then #[] else z.cells) w:=by
       split <;> simp [hzr]
      have hfill:Instr.fill (fun i=>some (i*ie.size,ie.size)) ((Array.range (len*ie.size)).map fun i=>(if len*ie.size=0 then #[] else z.cells)[i % (if len*ie.size=0 then (#[]:Array Value) else z.cells).size]!) (ps.map fun (i,x)=>(i,av x)).toList=some us:=by
       by_cases h0:len*ie.size=0
       ·have hr0:Array.range 0=#[]:=rfl
        rw [h0] at hus ⊢
        rw [hr0] at hus ⊢
        simpa using hus
       ·simpa only [if_neg h0] using hus
      simp only [Instr.buildSlice,Sem.run_bind,run_underlying hd,Result.andThen_ok,jY hie,Sem.run_ite]
      rw [if_neg (by omega)]
      by_cases h0:len*ie.size=0
      ·simp only [if_pos h0] at hfill ⊢
       simp only [Sem.run_pure,Result.andThen_ok]
       erw [hfill]
       simp [newRow]
      ·simp only [if_neg h0] at hfill ⊢
       simp only [hzr,Sem.run_pure,Result.andThen_ok]
       erw [hfill]
       simp [newRow]
     ·simp at hr
   ·simp at hr
  ·simp at hr
 ·simp at hr
end
end Go.Kv
