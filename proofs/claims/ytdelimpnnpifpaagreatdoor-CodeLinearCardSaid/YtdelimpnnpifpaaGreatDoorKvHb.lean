import Derived.Test.YtdelimpnnpifpaaGreatDoorKvH
import Derived.Laws.MakeOwn
import Derived.Laws.BytesString
import Derived.Laws.Slices
set_option linter.all false
namespace Go.Kv
open Go Go.RowKit
section
variable {cf:Cfg} {base:Nat} {w0:Start} {c:Ctx} {w:World} {H:List ABlk} {get:Nat→ABlk}
def kK:Value→DV
 | .slice none 0 0=>.sl 0 []
 | x=>.v x
theorem jjV {φ:Nat→Nat} {w:World} {x:Value} (h:Zn x=true):RelD φ w (kK x) x:=by
 unfold kK
 split
 ·unfold RelD
  exact ⟨0,0,0,[],.inr ⟨⟨_,rfl⟩,rfl,rfl,rfl⟩,Nat.zero_le _,Nat.le_refl _,by intro i u hu; simp at hu,RelDs.nil⟩
 ·unfold RelD; exact ⟨rfl,by rw [← Z0]; exact h⟩
theorem yD {φ:Nat→Nat} {w:World}:∀ {xs:List Value},xs.all Zn=true→RelDs φ w (xs.map kK) xs
 | [],_=>RelDs.nil
 | x :: xs,h=>by
  simp only [List.all_cons,Bool.and_eq_true] at h
  exact RelDs.cons (jjV h.1) (yD h.2)
def jeK (P:Program) (t:TypeId):Option (List DV):=match P.info? t with
 | some i=>match i.zero with
  | some z=>if z.cells.toList.all Zn then some (z.cells.toList.map kK) else none
  | none=>none
 | none=>none
theorem jcx {P:Program} {t:TypeId} {zs:List DV} (h:jeK P t=some zs) {i:TypeInfo} (hi:P.info? t=some i) {z:Value} (hz:i.zero=some z):∀ φ w,RelDs φ w zs z.cells.toList:=by
 unfold jeK at h
 rw [hi] at h
 simp only [hz] at h
 split at h
 ·rename_i hall
  simp only [Option.some.injEq] at h; subst h
  exact fun φ w=>yD hall
 ·simp at h
theorem G1 {φ:Nat→Nat} {w:World} {zs:List DV} {us:List Value} (h:RelDs φ w zs us):∀ n:Nat,RelDs φ w (List.replicate n zs).flatten (List.replicate n us).flatten
 | 0=>by simpa using RelDs.nil
 | n+1=>by
  rw [List.replicate_succ,List.replicate_succ,List.flatten_cons,List.flatten_cons]
  exact h.append (G1 h n)
def zZ (cf:Cfg) (t:TypeId) (l cp:AV) (nm:Nat) (dc:Dec):Option ARes :=
 match cf.P.underlying t,Q0 l,Q0 cp with
 | some (.slice e),some l,some cp=>match cf.P.info? e,Qh cf.P e with
  | some ie,some zs =>
   if zs.length==ie.size&&Nat.blt 0 ie.size then
    match dc with
    | .mg=>match jeK cf.P e with
     | some ds=>some ⟨[.eqI l cp,.le 0 l,.le l cp,.le ((ie.bytes:Int)*cp) 281474976710656,.le cp 9223372036854775807],.own nm 0 ie.size l.toNat (List.replicate l.toNat ds).flatten,[(nm,.tail 0)]⟩
     | none=>none
    | _=>some ⟨[.le 0 l,.le l cp,.le ((ie.bytes:Int)*cp) 281474976710656,.le cp 9223372036854775807],.ms nm 0 ie.size l.toNat cp.toNat,[(nm,.cells (J2 zs cp.toNat) e)]⟩
   else none
  | _,_=>none
 | _,_,_=>none
theorem qL {a:AV} {u:Value} {n:Int} (h:Rel c w a u) (hi:Q0 a=some n):∃ k,u=.int k n:=by
 unfold Q0 at hi
 split at hi
 ·rename_i k n'
  simp at hi; subst hi
  unfold Rel RelD at h
  exact ⟨k,h.1⟩
 ·simp at hi
theorem GA (h:WRel base w0 c w H) {nm:Nat} (hnm:H[nm]? = some .gone) {t:TypeId} {l cp:AV} {ul uc:Value} (hl:Rel c w l ul) (hc:Rel c w cp uc) {dc:Dec} {r:ARes} (hr:zZ cf t l cp nm dc=some r) (hp:AllP r.pcs) :
  ∃ w' c' v,(Instr.makeSlice t ul uc).run cf.P w=.ok v w'∧Ctx.Le c w c' w'∧WRel base w0 c' w' (r.wr.foldl (fun H x=>H.set x.1 x.2) H)∧Rel c' w' r.val v:=by
 unfold zZ at hr
 split at hr
 ·rename_i e l' cp' hd hil hic
  split at hr
  ·rename_i ie zs hie hz
   split at hr
   ·rename_i hcond
    simp only [Bool.and_eq_true,beq_iff_eq,Nat.blt_eq] at hcond
    obtain ⟨hzl,hs0⟩:=hcond
    have main:0≤l'→l'≤cp'→(ie.bytes:Int)*cp'≤281474976710656→cp'≤9223372036854775807→∃ (z:Value) (us:List Value),ie.zero=some z∧us=(List.replicate cp'.toNat z.cells.toList).flatten∧us.length=cp'.toNat*ie.size ∧
      (∀ c w,Rels c w zs z.cells.toList)∧(Instr.makeSlice t ul uc).run cf.P w=.ok (.slice (some ⟨w.heap.size,0,none⟩) l'.toNat cp'.toNat) (w.alloc (.cells us.toArray e)):=by
     intro p1 p2 p3 p4
     obtain ⟨kl,rfl⟩:=qL hl hil
     obtain ⟨kc,rfl⟩:=qL hc hic
     obtain ⟨z,hzz,hzs⟩:=KQ hz hie
     obtain ⟨z',hzr,hzrel⟩:=zf hz
     have hzeq:z'=z:=by
      have h1:=hzr w
      have h2:(zeroValue e).run cf.P w=.ok z w:=by simp [zeroValue,typeInfo,hie,hzz]
      rw [h1] at h2
      simpa using h2
     subst hzeq
     have hrun:=run_make (P:=cf.P) w t e ie z' hd hie hzz kl kc l' cp' p1 p2 p3 p4
     have hne:z'.cells.toList≠[]:=by
      intro he
      have hz0:=congrArg List.length he
      rw [Array.length_toList,List.length_nil] at hz0
      omega
     have hcells:(madeCells z'.cells (cp'.toNat*ie.size)).toList=(List.replicate cp'.toNat z'.cells.toList).flatten:=by
      have:=qZ z'.cells.toList hne cp'.toNat
      simp only [Array.toArray_toList] at this
      unfold madeCells
      rw [← this,Array.length_toList,hzs,hzl]
      simp [Array.toList_range]
     refine ⟨z',_,hzz,rfl,?_,hzrel,?_⟩
     ·rw [List.length_flatten,List.map_replicate,List.sum_replicate_nat,Array.length_toList,hzs,hzl]
     ·rw [← hcells,Array.toArray_toList]
      exact hrun
    split at hr
    ·split at hr
     ·rename_i ds hds
      simp only [Option.some.injEq] at hr; subst hr
      simp only [AllP,PC.holds,and_true] at hp
      obtain ⟨p0,p1,p2,p3,p4⟩:=hp
      subst p0
      obtain ⟨z,us,hzz,hus,hlen,hzrel,hrun⟩:=main p1 p2 p3 p4
      have hr:=G1 (jcx hds hie hzz c.φ w) l'.toNat
      rw [← hus] at hr
      obtain ⟨a1,a2,a3⟩:=h.alloc_tail hnm (us:=us) (rest:=[]) e ie.size l'.toNat l'.toNat hlen (Nat.le_refl _) (by rw [List.length_nil,hlen]; rfl) hr
      simp only [List.append_nil] at a1 a2 a3
      exact ⟨_,_,_,hrun,a1,a2,a3⟩
     ·simp at hr
    ·simp only [Option.some.injEq] at hr; subst hr
     simp only [AllP,PC.holds,and_true] at hp
     obtain ⟨p1,p2,p3,p4⟩:=hp
     obtain ⟨z,us,hzz,hus,hlen,hzrel,hrun⟩:=main p1 p2 p3 p4
     have hrel:Rels c w (J2 zs cp'.toNat) us:=by
      rw [hus]; exact KT (hzrel c w) _
     obtain ⟨a1,a2⟩:=h.alloc_cells hnm e hrel
     refine ⟨_,_,_,hrun,a1,a2,?_⟩
     unfold Rel
     exact ⟨by simp [Ctx.new],Int.toNat_le_toNat p2,cp'.toNat,.inl rfl,by simp [Ctx.new]⟩
   ·simp at hr
  ·simp at hr
 ·simp at hr
def jao (cf:Cfg) (ts:Array TypeId) (d s:AV) (get:Nat→ABlk):Option ARes :=
 match ts.toList with
 | [t,_]=>match cf.P.underlying t with
  | some (.slice e)=>match cf.P.info? e with
   | some ie =>
    match d,jbx s with
    | .ms b off _ n _,.row m ys=>match get b with
     | .cells cs ty=>some ⟨[.eqN ys.length (m*ie.size),.leN (off+min m n*ie.size) cs.length],.d (.v (.int .i64 (min m n:Nat))),[(b,.cells (jv cs off ((ys.take (min m n*ie.size)).map AV.d)) ty)]⟩
     | _=>none
    | .ms ..,.nil=>some ⟨[],.d (.v (.int .i64 0)),[]⟩
    | _,_=>none
   | none=>none
  | _=>none
 | _=>none
theorem jhJ (h:WRel base w0 c w H) (hget:∀ b,get b=(H[b]?).getD .gone) {ts:Array TypeId} {ty:TypeId} {d s:AV} {ud us:Value} (hd:Rel c w d ud) (hs:Rel c w s us) {r:ARes}
  (hr:jao cf ts d s get=some r) (hp:AllP r.pcs) :
  ∃ w' v,(Builtin.copy_ ts ty #[ud,us]).run cf.P w=.ok v w'∧Ctx.Le c w c w'∧WRel base w0 c w' (r.wr.foldl (fun H x=>H.set x.1 x.2) H)∧Rel c w' r.val v:=by
 unfold jao at hr
 split at hr
 ·rename_i t t' hts
  have hts:ts=#[t,t']:=by rw [← Array.toArray_toList (xs:=ts),hts]
  subst hts
  split at hr
  ·rename_i e hu
   split at hr
   ·rename_i ie hie
    split at hr
    ·rename_i b off sz n cap m ys hsx
     split at hr
     ·rename_i cs tb hb
      simp only [Option.some.injEq] at hr; subst hr
      simp only [AllP,PC.holds,and_true] at hp
      obtain ⟨p1,p2⟩:=hp
      obtain ⟨bk',off',cap',news,hus,x1,x2,x3,x4⟩:=YM hs hsx
      unfold Rel at hd
      obtain ⟨hl,hcap,cr,hcr,rfl⟩:=hd
      have hH:=jW hget hb (by simp)
      obtain ⟨hbase,hφ,vs,rest,hg,hvs⟩:=h.blk b _ hH
      have hnl:=x4.length
      have hvl:=hvs.length
      rcases hus with rfl | ⟨⟨o,rfl⟩,rfl,_,rfl⟩
      rotate_left
      ·have hys:ys=[]:=List.eq_nil_of_length_eq_zero (by simpa using hnl.symm)
       subst hys
       have hsame:H.set b (.cells (jv cs off ((List.take (min 0 n*ie.size) ([]:List DV)).map AV.d)) tb)=H:=by
        have e1:jv cs off ((List.take (min 0 n*ie.size) ([]:List DV)).map AV.d)=cs:=by simp [jv]
        rw [e1]
        exact J1 hH
       refine ⟨w,.int .i64 0,?_,Ctx.Le.refl c w,by simp only [List.foldl_cons,List.foldl_nil]; rw [hsame]; exact h,by unfold Rel RelD; simp; rfl⟩
       cases o <;> simp [Builtin.copy_,run_underlying hu,Builtin.lenOf,Builtin.firstCells,sizeOf,typeInfo,hie,storeCells,goInt,loadCells,loadCellsFrom]
      have hk:min m n*ie.size≤m*ie.size:=Nat.mul_le_mul_right _ (by omega)
      have hl2:(news.take (min m n*ie.size)).length=min m n*ie.size:=by rw [List.length_take]; omega
      have hload:(loadCells ⟨bk',off',none⟩ (min m n*ie.size)).run cf.P w=.ok (news.take (min m n*ie.size)).toArray w :=
       J3 (jN x3) _ hl2.symm
      have hone:∀ u ∈ news.take (min m n*ie.size),u.oneCell'=true:=fun u hu=>x4.one u (List.mem_of_mem_take hu)
      have hst:=run_storeCells_at cf.P (c.ρ b) off tb (news.take (min m n*ie.size)) 0 (vs++rest).toArray w hg (by simp at *; omega) hone
      have hrel:Rels c w (jv cs off ((ys.take (min m n*ie.size)).map AV.d)) (vs.take off++news.take (min m n*ie.size)++vs.drop (off+(news.take (min m n*ie.size)).length)):=by
       unfold jv
       have e1:((ys.take (min m n*ie.size)).map AV.d).length=(news.take (min m n*ie.size)).length:=by simp [hnl]
       rw [e1]
       exact ((hvs.take off).append (Rels.map_d (x4.take _))).append (hvs.drop _)
      have hst2:=h.store hH hg (us':=vs.take off++news.take (min m n*ie.size)++vs.drop (off+(news.take (min m n*ie.size)).length)) (by simp; omega) hrel
      refine ⟨_,.int .i64 (min m n:Nat),?_,hst2.1,hst2.2,by unfold Rel RelD; exact ⟨rfl,rfl⟩⟩
      simp only [Nat.add_zero] at hst
      have hrs:=KO (us:=vs) (rest:=rest) (vs:=news.take (min m n*ie.size)) (off:=off) (n:=(news.take (min m n*ie.size)).length) (by simp at *; omega)
      rw [← hrs]
      have hmin:Nat.min m n=min m n:=rfl
      simp [Builtin.copy_,run_underlying hu,Builtin.lenOf,Builtin.firstCells,sizeOf,typeInfo,hie,hmin,hload,hst,goInt]
     ·simp at hr
    ·rename_i b off sz n cap hsx
     simp only [Option.some.injEq] at hr; subst hr
     have hun:=gW hs hsx
     subst hun
     unfold Rel at hd
     obtain ⟨hl,hcap,cr,hcr,rfl⟩:=hd
     refine ⟨w,.int .i64 0,?_,Ctx.Le.refl c w,h,by unfold Rel RelD; exact ⟨rfl,rfl⟩⟩
     simp [Builtin.copy_,run_underlying hu,Builtin.lenOf,Builtin.firstCells,sizeOf,typeInfo,hie,storeCells,goInt]
    ·simp at hr
   ·simp at hr
  ·simp at hr
 ·simp at hr
def KC (cf:Cfg) (ts:Array TypeId) (s x:AV) (get:Nat→ABlk):Option ARes :=
 match ts.toList with
 | [t,t'] =>
  if t==t' then
   match cf.P.underlying t with
   | some (.slice e)=>match cf.P.info? e with
    | some ie =>
     match s,jbx x with
     | .ms b off sz n cap,.row m ys =>
      if sz==ie.size then
       match get b with
       | .cells cs ty=>some ⟨[.leN (n+m) cap,.eqN ys.length (m*ie.size),.leN (off+(n+m)*ie.size) cs.length],.ms b off sz (n+m) cap,[(b,.cells (jv cs (off+n*ie.size) (ys.map AV.d)) ty)]⟩
       | _=>none
      else none
     | .ms b off sz n cap,.nil=>some ⟨[],.ms b off sz n cap,[]⟩
     | _,_=>none
    | none=>none
   | _=>none
  else none
 | _=>none
theorem ja8 (h:WRel base w0 c w H) (hget:∀ b,get b=(H[b]?).getD .gone) {ts:Array TypeId} {ty:TypeId} {s x:AV} {us ux:Value} (hs:Rel c w s us) (hx:Rel c w x ux) {r:ARes}
  (hr:KC cf ts s x get=some r) (hp:AllP r.pcs) :
  ∃ w' v,(Builtin.append_ ts ty #[us,ux]).run cf.P w=.ok v w'∧Ctx.Le c w c w'∧WRel base w0 c w' (r.wr.foldl (fun H x=>H.set x.1 x.2) H)∧Rel c w' r.val v:=by
 unfold KC at hr
 split at hr
 ·rename_i t t' hts
  have hts:ts=#[t,t']:=by rw [← Array.toArray_toList (xs:=ts),hts]
  subst hts
  split at hr
  ·rename_i htt
   have htt:t=t':=by simpa using htt
   subst htt
   split at hr
   ·rename_i e hu
    split at hr
    ·rename_i ie hie
     split at hr
     ·rename_i b off sz n cap m ys hsx
      split at hr
      ·rename_i hsz
       have hsz:sz=ie.size:=by simpa using hsz
       split at hr
       ·rename_i cs tb hb
        simp only [Option.some.injEq] at hr; subst hr
        simp only [AllP,PC.holds,and_true] at hp
        obtain ⟨p1,p2,p3⟩:=hp
        obtain ⟨bk',off',cap',news,hux,x1,x2,x3,x4⟩:=YM hx hsx
        have hs0:=hs
        unfold Rel at hs
        obtain ⟨hl,hcap,cr,hcr,rfl⟩:=hs
        have hH:=jW hget hb (by simp)
        obtain ⟨hbase,hφ,vs,rest,hg,hvs⟩:=h.blk b _ hH
        have hnl:=x4.length
        have hvl:=hvs.length
        rcases hux with rfl | ⟨⟨o,rfl⟩,rfl,_,rfl⟩
        rotate_left
        ·have hys:ys=[]:=List.eq_nil_of_length_eq_zero (by simpa using hnl.symm)
         subst hys
         have hsame:H.set b (.cells (jv cs (off+n*ie.size) (([]:List DV).map AV.d)) tb)=H:=by
          have e1:jv cs (off+n*ie.size) (([]:List DV).map AV.d)=cs:=by simp [jv]
          rw [e1]
          exact J1 hH
         exact ⟨w,_,Kw w t ty e ie hu hie _ n cr (Nat.le_trans hcap hcr.le) o,Ctx.Le.refl c w,by simp only [List.foldl_cons,List.foldl_nil]; rw [hsame]; exact h,hs0⟩
        have hadd:(n+m)*ie.size=n*ie.size+m*ie.size:=Nat.add_mul _ _ _
        have hrun:=JN (P:=cf.P) w t ty e ie hu hie (c.ρ b) off n cr (vs++rest).toArray tb (0,0) hg (.inl rfl) ⟨bk',off',none⟩ m cap' news (by rw [hnl,p2]) (jZ x3) x4.one (Nat.le_trans p1 hcr.le) (by simp; omega)
        have hrel:Rels c w (jv cs (off+n*ie.size) (ys.map AV.d)) (vs.take (off+n*ie.size)++news++vs.drop (off+n*ie.size+news.length)):=by
         unfold jv
         have e1:(ys.map AV.d).length=news.length:=by simp [hnl]
         rw [e1]
         exact ((hvs.take _).append (Rels.map_d x4)).append (hvs.drop _)
        have hst2:=h.store hH hg (us':=vs.take (off+n*ie.size)++news++vs.drop (off+n*ie.size+news.length)) (by simp; omega) hrel
        have hrs:=KO (us:=vs) (rest:=rest) (vs:=news) (off:=off+n*ie.size) (n:=news.length) (by simp at *; omega)
        refine ⟨_,.slice (some ⟨c.ρ b,off,none⟩) (n+m) cr,?_,hst2.1,hst2.2,?_⟩
        ·rw [← hrs]
         simpa using hrun
        unfold Rel
        exact ⟨hl,p1,cr,hcr.elim .inl fun x=>.inr ⟨x.1,hst2.1.size _ _ x.2⟩,rfl⟩
       ·simp at hr
      ·simp at hr
     ·rename_i b off sz n cap hsx
      simp only [Option.some.injEq] at hr; subst hr
      have hun:=gW hx hsx
      subst hun
      have hs':=hs
      unfold Rel at hs'
      obtain ⟨hl,hcap,cr,hcr,rfl⟩:=hs'
      exact ⟨w,_,Jp w t ty e ie hu hie _ n cr (Nat.le_trans hcap hcr.le),Ctx.Le.refl c w,h,hs⟩
     ·simp at hr
    ·simp at hr
   ·simp at hr
  ·simp at hr
 ·simp at hr
def ja7:AV→Option (List PC)
 | .own ..=>some []
 | .ms ..=>some []
 | .d (.sl n _)=>some [.ltN 0 n]
 | _=>none
theorem G6 {a:AV} {u:Value} {ps:List PC} (h:Rel c w a u) (hs:ja7 a=some ps) (hp:AllP ps):∃ p n cp,u=.slice (some p) n cp:=by
 unfold ja7 at hs
 split at hs
 ·unfold Rel at h; obtain ⟨bk,off,cap,us,rfl,_⟩:=h; exact ⟨_,_,_,rfl⟩
 ·unfold Rel at h; obtain ⟨_,_,_,_,rfl⟩:=h; exact ⟨_,_,_,rfl⟩
 ·simp at hs; subst hs
  have hn:=hp.1
  unfold Rel RelD at h
  obtain ⟨bk,off,cap,us,hu,_⟩:=h
  exact ⟨_,_,_,hu.pos hn⟩
 ·simp at hs
def jeo (cf:Cfg) (op:BinOp) (t:TypeId) (x y:AV):Option ARes :=
 match jcX op,cf.P.underlying t,x,y with
 | some e,some (.slice _),.d (.v (.slice none 0 0)),b=>match ja7 b with
  | some ps=>some ⟨ps,.d (.v (.bool (!e))),[]⟩
  | none=>none
 | some e,some (.slice _),a,.d (.v (.slice none 0 0))=>match ja7 a with
  | some ps=>some ⟨ps,.d (.v (.bool (!e))),[]⟩
  | none=>none
 | _,_,_,_=>none
theorem GF {P:Program} {t e:TypeId} (h:P.underlying t=some (.slice e)) (p:Addr) (n cp d:Nat) (w:World):(Op.equalIn (d+1) t (.slice none 0 0) (.slice (some p) n cp)).run P w=.ok false w:=by
 simp only [Op.equalIn,Sem.run_bind,run_underlying h,Result.andThen_ok]
 rfl
theorem Yf {P:Program} {t e:TypeId} (h:P.underlying t=some (.slice e)) (p:Addr) (n cp:Nat) (w:World):(Op.equal t (.slice none 0 0) (.slice (some p) n cp)).run P w=.ok false w :=
 GF h p n cp 9999 w
theorem GG {P:Program} {t e:TypeId} (h:P.underlying t=some (.slice e)) (p:Addr) (n cp d:Nat) (w:World):(Op.equalIn (d+1) t (.slice (some p) n cp) (.slice none 0 0)).run P w=.ok false w:=by
 simp only [Op.equalIn,Sem.run_bind,run_underlying h,Result.andThen_ok]
 rfl
theorem Yc {P:Program} {t e:TypeId} (h:P.underlying t=some (.slice e)) (p:Addr) (n cp:Nat) (w:World):(Op.equal t (.slice (some p) n cp) (.slice none 0 0)).run P w=.ok false w :=
 GG h p n cp 9999 w
theorem jgG {op:BinOp} {t:TypeId} {x y:AV} {ux uy:Value} (hx:Rel c w x ux) (hy:Rel c w y uy) {r:ARes} (hr:jeo cf op t x y=some r) (hp:AllP r.pcs) (px py:Operand) :
  ∃ v,(eqGuard op t px py ux uy).run cf.P w=.ok () w∧(binOp op t ux uy).run cf.P w=.ok v w∧Rel c w r.val v∧r.wr=[]:=by
 unfold jeo at hr
 have hop:∀ e,jcX op=some e→(op=.eql∧e=true)∨(op=.neq∧e=false):=by
  intro e he
  cases op <;> simp [jcX] at he
  ·exact .inl ⟨rfl,he⟩
  ·exact .inr ⟨rfl,he⟩
 split at hr
 ·rename_i e el he hd
  split at hr
  ·rename_i ps hs
   simp only [Option.some.injEq] at hr; subst hr
   unfold Rel RelD at hx
   obtain ⟨rfl,_⟩:=hx
   obtain ⟨p,n,cp,rfl⟩:=G6 hy hs hp
   rcases hop e he with ⟨rfl,rfl⟩ | ⟨rfl,rfl⟩
   ·exact ⟨.bool false,by simp [eqGuard],by simp [binOp,Yf hd],by unfold Rel RelD; exact ⟨rfl,rfl⟩,rfl⟩
   ·exact ⟨.bool true,by simp [eqGuard],by simp [binOp,Yf hd],by unfold Rel RelD; exact ⟨rfl,rfl⟩,rfl⟩
  ·simp at hr
 ·rename_i e el he hd hne
  split at hr
  ·rename_i ps hs
   simp only [Option.some.injEq] at hr; subst hr
   unfold Rel RelD at hy
   obtain ⟨rfl,_⟩:=hy
   obtain ⟨p,n,cp,rfl⟩:=G6 hx hs hp
   rcases hop e he with ⟨rfl,rfl⟩ | ⟨rfl,rfl⟩
   ·exact ⟨.bool false,by simp [eqGuard],by simp [binOp,Yc hd],by unfold Rel RelD; exact ⟨rfl,rfl⟩,rfl⟩
   ·exact ⟨.bool true,by simp [eqGuard],by simp [binOp,Yc hd],by unfold Rel RelD; exact ⟨rfl,rfl⟩,rfl⟩
  ·simp at hr
 ·simp at hr
def jbt (get:Nat→ABlk):AV→Option (Nat × List AV)
 | .d (.sl n xs)=>some (n,xs.map AV.d)
 | .own _ _ _ n xs=>some (n,xs.map AV.d)
 | .ms b off sz n _=>match get b with
  | .cells cs _=>if Nat.ble (off+n*sz) cs.length then some (n,(cs.drop off).take (n*sz)) else none
  | _=>none
 | _=>none
theorem je3 (h:WRel base w0 c w H) (hget:∀ b,get b=(H[b]?).getD .gone) {a:AV} {u:Value} (ha:Rel c w a u) {n:Nat} {xs:List AV} (hr:jbt get a=some (n,xs)) :
  ∃ bk off cap us,IsSl u bk off n cap us∧jT w bk off us∧Rels c w xs us:=by
 unfold jbt at hr
 split at hr
 ·simp only [Option.some.injEq,Prod.mk.injEq] at hr; obtain ⟨rfl,rfl⟩:=hr
  unfold Rel RelD at ha
  obtain ⟨bk,off,cap,us,hu,_,_,h3,h4⟩:=ha
  exact ⟨bk,off,cap,us,hu,h3,Rels.map_d h4⟩
 ·simp only [Option.some.injEq,Prod.mk.injEq] at hr; obtain ⟨rfl,rfl⟩:=hr
  unfold Rel at ha
  obtain ⟨bk,off,cap,us,rfl,_,_,h3,h4,_⟩:=ha
  exact ⟨bk,off,cap,us,.inl rfl,h3,Rels.map_d h4⟩
 ·split at hr
  ·rename_i cs t hb
   split at hr
   ·simp only [Option.some.injEq,Prod.mk.injEq] at hr; obtain ⟨rfl,rfl⟩:=hr
    unfold Rel at ha
    obtain ⟨hl,hcap,cr,hcr,rfl⟩:=ha
    obtain ⟨_,_,us,rest,hg,hs⟩:=h.blk _ _ (jW hget hb (by simp))
    exact ⟨_,_,_,_,.inl rfl,jN (JL hg),(hs.drop _).take _⟩
   ·simp at hr
  ·simp at hr
 ·simp at hr
def Qu:List AV→Option (List Int)
 | []=>some []
 | .d (.v (.int .u8 n)) :: r=>match Qu r with
  | some ns=>some (n :: ns)
  | none=>none
 | _ :: _=>none
theorem yB:∀ {xs:List AV} {us:List Value} {ns:List Int},Rels c w xs us→Qu xs=some ns→us=ns.map (Value.int .u8)
 | [],us,ns,h,hb=>by simp [Qu] at hb; subst hb; exact h.nil_inv
 | x :: xs,us,ns,h,hb=>by
  obtain ⟨u,r,rfl,hu,t⟩:=h.cons_inv
  unfold Qu at hb
  split at hb
  ·rename_i heq; simp at heq
  ·rename_i n r' heq
   simp only [List.cons.injEq] at heq
   obtain ⟨rfl,rfl⟩:=heq
   split at hb
   ·rename_i ns' hns
    simp only [Option.some.injEq] at hb; subst hb
    unfold Rel RelD at hu
    rw [yB t hns,hu.1]; rfl
   ·simp at hb
  ·simp at hb
def kt:List Int→ByteArray→ByteArray
 | [],s=>s
 | n :: ns,s=>kt ns (s.push (UInt8.ofNat n.toNat))
theorem gE:∀ (ns:List Int) (s:ByteArray),ns.foldl (fun r n=>r.push (UInt8.ofNat n.toNat)) s=kt ns s
 | [],_=>rfl
 | n :: ns,s=>by simp only [List.foldl_cons,kt]; exact gE ns _
def yi (cf:Cfg) (ts:Array TypeId) (d s:AV) (get:Nat→ABlk):Option ARes :=
 match s with
 | .ms b' off' sz' m' cap'=>match ts.toList with
  | [t,_]=>match cf.P.underlying t with
   | some (.slice e)=>match cf.P.info? e with
    | some ie =>
     match d,jbt get (.ms b' off' sz' m' cap') with
     | .ms b off _ n _,some (m,ys)=>match get b with
      | .cells cs ty=>some ⟨[.eqN ys.length (m*ie.size),.leN (off+min m n*ie.size) cs.length,.eqB (ys.all ye) true],.d (.v (.int .i64 (min m n:Nat))),[(b,.cells (jv cs off (ys.take (min m n*ie.size))) ty)]⟩
      | _=>none
     | _,_=>none
    | none=>none
   | _=>none
  | _=>none
 | s=>jao cf ts d s get
theorem jgi (h:WRel base w0 c w H) (hget:∀ b,get b=(H[b]?).getD .gone) {ts:Array TypeId} {ty:TypeId} {d s:AV} {ud us:Value} (hd:Rel c w d ud) (hs:Rel c w s us) {r:ARes}
  (hr:yi cf ts d s get=some r) (hp:AllP r.pcs) :
  ∃ w' v,(Builtin.copy_ ts ty #[ud,us]).run cf.P w=.ok v w'∧Ctx.Le c w c w'∧WRel base w0 c w' (r.wr.foldl (fun H x=>H.set x.1 x.2) H)∧Rel c w' r.val v:=by
 unfold yi at hr
 split at hr
 ·split at hr
  ·rename_i t t' hts
   have hts:ts=#[t,t']:=by rw [← Array.toArray_toList (xs:=ts),hts]
   subst hts
   split at hr
   ·rename_i e hu
    split at hr
    ·rename_i ie hie
     split at hr
     ·rename_i b off sz n cap m ys hsx
      split at hr
      ·rename_i cs tb hb
       simp only [Option.some.injEq] at hr; subst hr
       simp only [AllP,PC.holds,and_true] at hp
       obtain ⟨p1,p2,p3⟩:=hp
       obtain ⟨bk',off',cap',news,hus,x3,x4⟩:=je3 h hget hs hsx
       unfold Rel at hd
       obtain ⟨hl,hcap,cr,hcr,rfl⟩:=hd
       have hH:=jW hget hb (by simp)
       obtain ⟨hbase,hφ,vs,rest,hg,hvs⟩:=h.blk b _ hH
       have hnl:=x4.length
       have hvl:=hvs.length
       rcases hus with rfl | ⟨⟨o,rfl⟩,rfl,_,rfl⟩
       rotate_left
       ·have hys:ys=[]:=List.eq_nil_of_length_eq_zero (by simpa using hnl.symm)
        subst hys
        have hsame:H.set b (.cells (jv cs off (List.take (min 0 n*ie.size) ([]:List AV))) tb)=H:=by
         have e1:jv cs off (List.take (min 0 n*ie.size) ([]:List AV))=cs:=by simp [jv]
         rw [e1]
         exact J1 hH
        refine ⟨w,.int .i64 0,?_,Ctx.Le.refl c w,by simp only [List.foldl_cons,List.foldl_nil]; rw [hsame]; exact h,by unfold Rel RelD; simp; rfl⟩
        cases o <;> simp [Builtin.copy_,run_underlying hu,Builtin.lenOf,Builtin.firstCells,sizeOf,typeInfo,hie,storeCells,goInt,loadCells,loadCellsFrom]
       have hk:min m n*ie.size≤m*ie.size:=Nat.mul_le_mul_right _ (by omega)
       have hl2:(news.take (min m n*ie.size)).length=min m n*ie.size:=by rw [List.length_take]; omega
       have hload:(loadCells ⟨bk',off',none⟩ (min m n*ie.size)).run cf.P w=.ok (news.take (min m n*ie.size)).toArray w :=
        J3 (jN x3) _ hl2.symm
       have hone:∀ u ∈ news.take (min m n*ie.size),u.oneCell'=true:=fun u hu=>x4.one p3 u (List.mem_of_mem_take hu)
       have hst:=run_storeCells_at cf.P (c.ρ b) off tb (news.take (min m n*ie.size)) 0 (vs++rest).toArray w hg (by simp at *; omega) hone
       have hrel:Rels c w (jv cs off (ys.take (min m n*ie.size))) (vs.take off++news.take (min m n*ie.size)++vs.drop (off+(news.take (min m n*ie.size)).length)):=by
        unfold jv
        have e1:(ys.take (min m n*ie.size)).length=(news.take (min m n*ie.size)).length:=by simp [hnl]
        rw [e1]
        exact ((hvs.take off).append (x4.take _)).append (hvs.drop _)
       have hst2:=h.store hH hg (us':=vs.take off++news.take (min m n*ie.size)++vs.drop (off+(news.take (min m n*ie.size)).length)) (by simp; omega) hrel
       refine ⟨_,.int .i64 (min m n:Nat),?_,hst2.1,hst2.2,by unfold Rel RelD; exact ⟨rfl,rfl⟩⟩
       simp only [Nat.add_zero] at hst
       have hrs:=KO (us:=vs) (rest:=rest) (vs:=news.take (min m n*ie.size)) (off:=off) (n:=(news.take (min m n*ie.size)).length) (by simp at *; omega)
       rw [← hrs]
       have hmin:Nat.min m n=min m n:=rfl
       simp [Builtin.copy_,run_underlying hu,Builtin.lenOf,Builtin.firstCells,sizeOf,typeInfo,hie,hmin,hload,hst,goInt]
      ·simp at hr
     ·simp at hr
    ·simp at hr
   ·simp at hr
  ·simp at hr
 ·exact jhJ h hget hd hs hr hp
def Yb (cf:Cfg) (s d:TypeId) (x:AV) (get:Nat→ABlk):Option ARes :=
 match x with
 | .own b e sz n xs =>
  if s==d then
   match cf.P.underlying s with
   | some (.slice el)=>match cf.P.underlying el,get b with
    | some (.int .u8),.tail e'=>some ⟨[.eqN e e'],.own b e sz n xs,[]⟩
    | _,_=>none
   | _=>none
  else none
 | _=>none
theorem jiw (h:WRel base w0 c w H) (hget:∀ b,get b=(H[b]?).getD .gone) {s d:TypeId} {x:AV} {u:Value} (hx:Rel c w x u) {r:ARes} (hr:Yb cf s d x get=some r) (hp:AllP r.pcs) :
  ∃ w' v,(convert s d u).run cf.P w=.ok v w'∧Ctx.Le c w c w'∧WRel base w0 c w' (r.wr.foldl (fun H x=>H.set x.1 x.2) H)∧Rel c w' r.val v:=by
 unfold Yb at hr
 split at hr
 ·rename_i b e sz n xs
  split at hr
  ·rename_i hsd
   have hsd:s=d:=by simpa using hsd
   subst hsd
   split at hr
   ·rename_i el hs
    split at hr
    ·rename_i e' he hb
     simp only [Option.some.injEq] at hr; subst hr
     obtain ⟨p1,_⟩:=hp
     have p1:e=e':=p1
     have hx0:=hx
     unfold Rel at hx
     obtain ⟨bk,off,cap,us,rfl,q1,q2,q3,q4,q5,q6,q7,q8⟩:=hx
     have hH:=jW hget hb (by simp)
     obtain ⟨b1,_,cur,t,fr,hg,hf⟩:=h.blk b _ hH
     obtain ⟨hbk,_,_⟩:=q8 (by omega)
     subst hbk
     obtain ⟨m1,m2⟩:=h.mark hH hg hf
     rw [J1 hH] at m2
     have hsh:w.shape? (c.τ b)=some (t,cur.size):=by simp [World.shape?,hg]
     exact ⟨_,_,by simp [convert,run_underlying hs,run_underlying he,markStringish,hsh],m1,m2,Rel.mono m1 hx0⟩
    ·simp at hr
   ·simp at hr
  ·simp at hr
 ·simp at hr
def isB:DV→Bool
 | .v (.int .u8 _)=>true
 | _=>false
def byB:DV→Int
 | .v (.int .u8 n)=>n
 | _=>0
theorem jat:∀ {xs:List DV},xs.all isB=true→Qu (xs.map AV.d)=some (xs.map byB)
 | [],_=>rfl
 | x :: xs,h=>by
  rw [List.all_cons,Bool.and_eq_true] at h
  obtain ⟨h1,h2⟩:=h
  unfold isB at h1
  split at h1
  ·simp only [List.map_cons,Qu,jat h2,byB]
  ·simp at h1
def Y5 (cf:Cfg) (src dst:TypeId) (x:AV) (get:Nat→ABlk):Option ARes :=
 match cf.P.underlying src,cf.P.underlying dst with
 | some (.slice e),some .string=>match cf.P.underlying e,jbt get x with
  | some (.int .u8),some (n,xs)=>match Qu xs with
   | some ns=>if ns.length==n then some ⟨[],.d (.v (.string (kt ns ByteArray.empty))),[]⟩ else none
   | none=>none
  | _,_=>none
 | _,_=>none
theorem jdj (h:WRel base w0 c w H) (hget:∀ b,get b=(H[b]?).getD .gone) {src dst:TypeId} {x:AV} {u:Value} (hx:Rel c w x u) {r:ARes} (hr:Y5 cf src dst x get=some r) :
  ∃ v,(convert src dst u).run cf.P w=.ok v w∧Rel c w r.val v∧r.wr=[]:=by
 unfold Y5 at hr
 split at hr
 ·rename_i e hs hd
  split at hr
  ·rename_i n xs he hrow
   split at hr
   ·rename_i ns hns
    split at hr
    ·rename_i hlen
     have hlen:ns.length=n:=by simpa using hlen
     simp only [Option.some.injEq] at hr; subst hr
     obtain ⟨bk,off,cap,us,hu,h1,h2⟩:=je3 h hget hx hrow
     have hus:=yB h2 hns
     subst hus
     rcases hu with rfl | ⟨⟨o,rfl⟩,rfl,rfl,hu⟩
     rotate_left
     ·have hn:ns=[]:=List.eq_nil_of_length_eq_zero hlen
      subst hn
      refine ⟨_,?_,by unfold Rel RelD; exact ⟨rfl,rfl⟩,rfl⟩
      rw [run_convert_bytes_string w src dst e _ _ _ hs he hd]
      cases o <;> rfl
     have hload:(loadCells ⟨bk,off,none⟩ n).run cf.P w=.ok (ns.map (Value.int .u8)).toArray w:=J3 h1 n (by simp [hlen])
     refine ⟨_,?_,by unfold Rel RelD; exact ⟨rfl,rfl⟩,rfl⟩
     rw [run_convert_bytes_string w src dst e _ _ _ hs he hd,run_bytesToString w _ n cap ns hload,gE]
    ·simp at hr
   ·simp at hr
  ·simp at hr
 ·simp at hr
def z6 (cf:Cfg) (src dst:TypeId) (x:AV) (get:Nat→ABlk):Option ARes :=
 match x with
 | .d (.sl n xs)=>match cf.P.underlying src,cf.P.underlying dst with
  | some (.slice e),some .string=>match cf.P.underlying e with
   | some (.int .u8)=>some ⟨[.eqN xs.length n,.eqB (xs.all isB) true],.d (.v (.string (kt (xs.map byB) ByteArray.empty))),[]⟩
   | _=>none
  | _,_=>none
 | .d (.v (.int k n))=>match cf.P.underlying src,cf.P.underlying dst with
  | some (.int _),some .string=>some ⟨[.le 0 n,.lt n 128],.d (.v (.string (kt [n] ByteArray.empty))),[]⟩
  | _,_=>none
 | x=>Y5 cf src dst x get
theorem jmp {n:Int} (h0:0≤n) (h1:n<128):Utf8.encode n=kt [n] ByteArray.empty:=by
 have hv:Utf8.valid n=true:=by unfold Utf8.valid; simp; omega
 unfold Utf8.encode
 simp only [hv,if_true]
 rw [if_pos (by omega)]
 rfl
theorem jgN (h:WRel base w0 c w H) (hget:∀ b,get b=(H[b]?).getD .gone) {src dst:TypeId} {x:AV} {u:Value} (hx:Rel c w x u) {r:ARes} (hr:z6 cf src dst x get=some r) (hp:AllP r.pcs) :
  ∃ v,(convert src dst u).run cf.P w=.ok v w∧Rel c w r.val v∧r.wr=[]:=by
 unfold z6 at hr
 split at hr
 ·rename_i n xs
  split at hr
  ·rename_i e hs hd
   split at hr
   ·rename_i he
    simp only [Option.some.injEq] at hr; subst hr
    obtain ⟨hl,hb,_⟩:=hp
    have hl:xs.length=n:=hl
    have hb:xs.all isB=true:=hb
    obtain ⟨v,h1,h2,h3⟩:=jdj (cf:=cf) (src:=src) (dst:=dst) h hget hx (r:=⟨[],.d (.v (.string (kt (xs.map byB) ByteArray.empty))),[]⟩) (by
     simp only [Y5,hs,hd,he,jbt,jat hb,List.length_map,hl,beq_self_eq_true,if_true])
    exact ⟨v,h1,h2,rfl⟩
   ·simp at hr
  ·simp at hr
 ·rename_i k n
  split at hr
  ·rename_i k' hs hd
   simp only [Option.some.injEq] at hr; subst hr
   obtain ⟨p1,p2,_⟩:=hp
   unfold Rel RelD at hx
   obtain ⟨rfl,_⟩:=hx
   refine ⟨.string (kt [n] ByteArray.empty),?_,by unfold Rel RelD; exact ⟨rfl,rfl⟩,rfl⟩
   rw [← jmp p1 p2]
   simp [convert,run_underlying hs,run_underlying hd,Conv.intToString]
  ·simp at hr
 ·exact jdj h hget hx hr
def zr (cf:Cfg) (t:TypeId) (ev:Operand→AV) (x:Operand) (lo hi mx:Option Operand):Option ARes :=
 match cf.P.underlying t,hi,mx with
 | some (.slice e),some hi,some mx=>match cf.P.info? e with
  | none=>none
  | some ie =>
   match ev x,jS ev lo 0,Q0 (ev hi),Q0 (ev mx) with
   | .d (.v (.slice none 0 0)),some l,some h,some m=>some ⟨[.eqI l 0,.eqI h 0,.eqI m 0],.d (.v (.slice none 0 0)),[]⟩
   | .d (.sl n xs),some l,some h,some m=>some ⟨[.le 0 l,.le l h,.le h m,.le m n,.eqN xs.length (n*ie.size)],.d (.sl (h.toNat - l.toNat) ((xs.drop (l.toNat*ie.size)).take ((h.toNat - l.toNat)*ie.size))),[]⟩
   | .own _ _ _ n xs,some l,some h,some m=>some ⟨[.le 0 l,.le l h,.le h m,.le m n,.eqN xs.length (n*ie.size)],.d (.sl (h.toNat - l.toNat) ((xs.drop (l.toNat*ie.size)).take ((h.toNat - l.toNat)*ie.size))),[]⟩
   | _,_,_,_=>none
 | _,_,_=>none
theorem QI {P:Program} {ev:Operand→AV} {av:Operand→Value} (hev:∀ x,Rel c w (ev x) (av x)) {lo:Option Operand} {hi mx:Operand} {n cap:Nat} {l h m:Int} (hl:jS ev lo 0=some l) (hh:Q0 (ev hi)=some h) (hm:Q0 (ev mx)=some m)
  (h0:0≤l) (h1:l≤h) (h2:h≤m) (h3:m≤cap) (w':World) :
  (Instr.sliceBounds true n cap (lo.map av) (some (av hi)) (some (av mx))).run P w'=.ok (l.toNat,h.toNat,m.toNat) w':=by
 obtain ⟨kh,ekh⟩:=qL (hev hi) hh
 obtain ⟨km,ekm⟩:=qL (hev mx) hm
 have eh:(h.toNat:Int)=h:=Int.toNat_of_nonneg (by omega)
 have em:(m.toNat:Int)=m:=Int.toNat_of_nonneg (by omega)
 have b1:(Instr.sliceBound (.int km m) cap .slice3Acap).run P w'=.ok m.toNat w':=run_sliceBound w' km m cap _ (by omega) (by omega)
 have b2:(Instr.sliceBound (.int kh h) m.toNat .slice3B).run P w'=.ok h.toNat w':=run_sliceBound w' kh h m.toNat _ (by omega) (by omega)
 cases lo with
 | none =>
  simp [jS] at hl; subst hl
  simp [Instr.sliceBounds,ekh,ekm,b1,b2]
 | some x =>
  simp [jS] at hl
  obtain ⟨kl,ekl⟩:=qL (hev x) hl
  have b3:(Instr.sliceBound (.int kl l) h.toNat .slice3C).run P w'=.ok l.toNat w':=run_sliceBound w' kl l h.toNat _ (by omega) (by omega)
  simp [Instr.sliceBounds,ekh,ekm,ekl,b1,b2,b3]
theorem jen {ev:Operand→AV} {av:Operand→Value} (hev:∀ x,Rel c w (ev x) (av x)) {t:TypeId} {x:Operand} {lo hi mx:Option Operand} {r:ARes} (hr:zr cf t ev x lo hi mx=some r) (hp:AllP r.pcs) :
  ∃ v,(Instr.sliceAt t (av x) (lo.map av) (hi.map av) (mx.map av)).run cf.P w=.ok v w∧Rel c w r.val v∧r.wr=[]:=by
 unfold zr at hr
 split at hr
 ·rename_i e hi mx hd
  split at hr
  ·simp at hr
  rename_i ie hie
  have hx:=hev x
  have run3:∀ (a:Option Addr) (n cap:Nat) (l h m:Int),(∀ w',(Instr.sliceBounds true n cap (lo.map av) (some (av hi)) (some (av mx))).run cf.P w'=.ok (l.toNat,h.toNat,m.toNat) w') →
    (Instr.sliceAt t (.slice a n cap) (lo.map av) (some (av hi)) (some (av mx))).run cf.P w=.ok (.slice (if m.toNat=l.toNat then a else a.map (·.add (l.toNat*ie.size))) (h.toNat - l.toNat) (m.toNat - l.toNat)) w:=by
   intro a n cap l h m hb
   simp [Instr.sliceAt,run_underlying hd,Instr.slice,hb,jY hie]
  have row:∀ (bk off n cap:Nat) (us:List Value) (xs:List DV) (l h m:Int),off+us.length≤c.φ bk→n≤cap→jT w bk off us→RelDs c.φ w xs us→0≤l→l≤h→h≤m→m≤n→xs.length=n*ie.size →
    Rel c w (.d (.sl (h.toNat - l.toNat) ((xs.drop (l.toNat*ie.size)).take ((h.toNat - l.toNat)*ie.size))))
     (.slice (if m.toNat=l.toNat then some ⟨bk,off,none⟩ else (some (⟨bk,off,none⟩:Addr)).map (·.add (l.toNat*ie.size))) (h.toNat - l.toNat) (m.toNat - l.toNat)):=by
   intro bk off n cap us xs l h m q1 q2 q3 q4 p1 p2 p3 p4 p5
   have hlen:=q4.length
   have hmul:l.toNat*ie.size≤n*ie.size:=Nat.mul_le_mul_right _ (by omega)
   unfold Rel RelD
   by_cases hc:m.toNat=l.toNat
   ·refine ⟨bk,off,m.toNat - l.toNat,[],.inl (by simp [hc]),by simp; omega,by omega,?_,?_⟩
    ·intro i u hi; simp at hi
    ·have e1:h.toNat - l.toNat=0:=by omega
     rw [e1]; simp; exact RelDs.nil
   ·refine ⟨bk,off+l.toNat*ie.size,m.toNat - l.toNat,(us.drop (l.toNat*ie.size)).take ((h.toNat - l.toNat)*ie.size),.inl (by simp [hc,Addr.add_lit]),?_,by omega,jN (J5 q3),(q4.drop _).take _⟩
    simp; omega
  split at hr
  ·rename_i l h m he hl hh hm
   simp only [Option.some.injEq] at hr; subst hr
   simp only [AllP,PC.holds,and_true] at hp
   obtain ⟨rfl,rfl,rfl⟩:=hp
   rw [he] at hx; unfold Rel RelD at hx
   rw [hx.1]
   have hb:=QI (P:=cf.P) (n:=0) (cap:=0) hev hl hh hm (by omega) (by omega) (by omega) (by omega)
   exact ⟨_,run3 _ _ _ _ _ _ hb,by unfold Rel RelD; exact ⟨by simp,rfl⟩,rfl⟩
  ·rename_i n xs l h m he hl hh hm
   simp only [Option.some.injEq] at hr; subst hr
   simp only [AllP,PC.holds,and_true] at hp
   obtain ⟨p1,p2,p3,p4,p5⟩:=hp
   rw [he] at hx; unfold Rel RelD at hx
   obtain ⟨bk,off,cap,us,hu,q1,q2,q3,q4⟩:=hx
   have hb:=QI (P:=cf.P) (n:=n) (cap:=cap) hev hl hh hm p1 p2 p3 (by omega)
   rcases hu with hu | ⟨⟨o,hu⟩,hn0,hcap0,hus⟩
   rotate_left
   ·subst hcap0
    rw [hu]
    subst hn0
    refine ⟨_,run3 _ _ _ _ _ _ hb,?_,rfl⟩
    unfold Rel RelD
    have e1:h.toNat - l.toNat=0:=by omega
    have e2:m.toNat - l.toNat=0:=by omega
    refine ⟨bk,off,0,[],.inr ⟨⟨_,by simp [e1,e2]; rfl⟩,e1,rfl,rfl⟩,by simp; omega,by omega,?_,?_⟩
    ·intro i u hi; simp at hi
    ·rw [e1]; simp; exact RelDs.nil
   rw [hu]
   exact ⟨_,run3 _ _ _ _ _ _ hb,row bk off n cap us xs l h m q1 q2 q3 q4 p1 p2 p3 p4 p5,rfl⟩
  ·rename_i b e' sz n xs l h m he hl hh hm
   simp only [Option.some.injEq] at hr; subst hr
   simp only [AllP,PC.holds,and_true] at hp
   obtain ⟨p1,p2,p3,p4,p5⟩:=hp
   rw [he] at hx; unfold Rel at hx
   obtain ⟨bk,off,cap,us,hu,q1,q2,q3,q4,_⟩:=hx
   rw [hu]
   have hb:=QI (P:=cf.P) (n:=n) (cap:=cap) hev hl hh hm p1 p2 p3 (by omega)
   exact ⟨_,run3 _ _ _ _ _ _ hb,row bk off n cap us xs l h m q1 q2 q3 q4 p1 p2 p3 p4 p5,rfl⟩
  ·simp at hr
 ·simp at hr
end
end Go.Kv
