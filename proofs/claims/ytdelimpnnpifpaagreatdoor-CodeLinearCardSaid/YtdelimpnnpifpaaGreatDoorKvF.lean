import Derived.Test.YtdelimpnnpifpaaGreatDoorKvE
set_option linter.all false
namespace Go.Kv
open Go Go.RowKit
section
variable {cf:Cfg} {base:Nat} {w0:Start} {c:Ctx} {w:World} {H:List ABlk} {get:Nat→ABlk}
def Zh (cf:Cfg) (s:TypeId) (a:AV) (f:Nat):Option ARes :=
 match cf.P.underlying s with
 | some (.struct fields)=>match fields[f]? with
  | some fd=>match cf.P.info? fd.type with
   | some i=>if i.size==0 then none else
    match a with
    | .ptr b off=>some ⟨[],.ptr b (off+fd.offset),[]⟩
    | .ip cs=>some ⟨[.leN fd.offset cs.length],.ip (cs.drop fd.offset),[]⟩
    | _=>none
   | none=>none
  | none=>none
 | _=>none
theorem KW {cs:List DV} {bk off k:Nat} {us:List Value} (hl:off+us.length≤c.φ bk) (hc:jT w bk off us) (hs:RelDs c.φ w cs us) (hk:k≤cs.length) :
  Rel c w (.ip (cs.drop k)) (.pointer (some ⟨bk,off+k,none⟩)):=by
 unfold Rel
 have:=hs.length
 exact ⟨bk,off+k,us.drop k,rfl,by simp; omega,J5 hc,hs.drop k⟩
theorem Gk {s:TypeId} {a:AV} {u:Value} {f:Nat} (ha:Rel c w a u) {r:ARes} (hr:Zh cf s a f=some r) (hp:AllP r.pcs) :
  ∃ v,(Instr.fieldAt s u f).run cf.P w=.ok v w∧Rel c w r.val v∧r.wr=[]:=by
 unfold Zh at hr
 split at hr
 ·rename_i fields hd
  split at hr
  ·rename_i fd hf
   split at hr
   ·rename_i i hi
    split at hr
    ·simp at hr
    ·rename_i hsz
     have hsz:¬ i.size=0:=by simpa using hsz
     split at hr
     ·rename_i b off
      simp at hr; subst hr
      unfold Rel at ha
      obtain ⟨hl,rfl⟩:=ha
      refine ⟨.pointer (some ⟨c.ρ b,off+fd.offset,none⟩),?_,by unfold Rel; exact ⟨hl,rfl⟩,rfl⟩
      simp [Instr.fieldAt,run_underlying hd,hf,Instr.sureAddr,fieldPlace,jY hi,hsz,Addr.add_lit]
     ·rename_i cs
      simp at hr; subst hr
      simp only [AllP,PC.holds,and_true] at hp
      unfold Rel at ha
      obtain ⟨bk,off,us,rfl,hl,hc,hs⟩:=ha
      refine ⟨.pointer (some ⟨bk,off+fd.offset,none⟩),?_,KW hl hc hs hp,rfl⟩
      simp [Instr.fieldAt,run_underlying hd,hf,Instr.sureAddr,fieldPlace,jY hi,hsz,Addr.add_lit]
     ·simp at hr
   ·simp at hr
  ·simp at hr
 ·simp at hr
def Q0:AV→Option Int
 | .d (.v (.int _ i))=>some i
 | _=>none
theorem Rel.int {a:AV} {u:Value} {i:Int} (h:Rel c w a u) (ha:Q0 a=some i):∃ k,u=.int k i:=by
 cases a with
 | d x =>
  cases x with
  | v y=>cases y <;> simp [Q0] at ha; subst ha; unfold Rel RelD at h; exact ⟨_,h.1⟩
  | sl=>simp [Q0] at ha
 | _=>simp [Q0] at ha
def z7 (cf:Cfg) (t:TypeId) (a i:AV):Option ARes :=
 match Q0 i,cf.P.underlying t with
 | some i,some (.array len e)=>match cf.P.info? e with
  | some ie =>
   match a with
   | .ptr b off=>some ⟨[.le 0 i,.lt i len],.ptr b (off+i.toNat*ie.size),[]⟩
   | .ip cs=>some ⟨[.le 0 i,.lt i len,.leN (i.toNat*ie.size) cs.length],.ip (cs.drop (i.toNat*ie.size)),[]⟩
   | _=>none
  | none=>none
 | some i,some (.slice e)=>match cf.P.info? e with
  | some ie =>
   match a with
   | .ms b off _ n _=>some ⟨[.le 0 i,.lt i n],.ptr b (off+i.toNat*ie.size),[]⟩
   | .d (.sl n xs)=>some ⟨[.le 0 i,.lt i n,.leN (i.toNat*ie.size) xs.length],.ip (xs.drop (i.toNat*ie.size)),[]⟩
   | .own _ _ _ n xs=>some ⟨[.le 0 i,.lt i n,.leN (i.toNat*ie.size) xs.length],.ip (xs.drop (i.toNat*ie.size)),[]⟩
   | _=>none
  | none=>none
 | _,_=>none
theorem Qk {P:Program} {t e:TypeId} {len:Nat} {ie:TypeInfo} (hd:P.underlying t=some (.array len e)) (hi:P.info? e=some ie) (bk off:Nat) (k:IntKind) (i:Int) (h0:0≤i) (h1:i<len) (w:World) :
  (Instr.indexAt t (.pointer (some ⟨bk,off,none⟩)) (.int k i)).run P w=.ok (.pointer (some ⟨bk,off+i.toNat*ie.size,none⟩)) w:=by
 simp [Instr.indexAt,asIntOf,run_underlying hd,Instr.sureAddr,h0,h1,jY hi,Addr.add_lit]
theorem JZ {P:Program} {t e:TypeId} {ie:TypeInfo} (hd:P.underlying t=some (.slice e)) (hi:P.info? e=some ie) (bk off n cap:Nat) (k:IntKind) (i:Int) (h0:0≤i) (h1:i<n) (w:World) :
  (Instr.indexAt t (.slice (some ⟨bk,off,none⟩) n cap) (.int k i)).run P w=.ok (.pointer (some ⟨bk,off+i.toNat*ie.size,none⟩)) w:=by
 simp [Instr.indexAt,asIntOf,run_underlying hd,h0,h1,jY hi,Addr.add_lit]
theorem Gx {t:TypeId} {a i:AV} {u x:Value} (ha:Rel c w a u) (hx:Rel c w i x) {r:ARes} (hr:z7 cf t a i=some r) (hp:AllP r.pcs) :
  ∃ v,(Instr.indexAt t u x).run cf.P w=.ok v w∧Rel c w r.val v∧r.wr=[]:=by
 unfold z7 at hr
 split at hr
 ·rename_i n len e hn hd
  obtain ⟨k,rfl⟩:=hx.int hn
  split at hr
  ·rename_i ie hie
   split at hr
   ·rename_i b off
    simp only [Option.some.injEq] at hr; subst hr
    simp only [AllP,PC.holds,and_true] at hp
    unfold Rel at ha
    obtain ⟨hl,rfl⟩:=ha
    exact ⟨_,Qk hd hie _ _ _ _ hp.1 hp.2 w,by unfold Rel; exact ⟨hl,rfl⟩,rfl⟩
   ·rename_i cs
    simp only [Option.some.injEq] at hr; subst hr
    simp only [AllP,PC.holds,and_true] at hp
    unfold Rel at ha
    obtain ⟨bk,off,us,rfl,hl,hc,hs⟩:=ha
    exact ⟨_,Qk hd hie _ _ _ _ hp.1 hp.2.1 w,KW hl hc hs hp.2.2,rfl⟩
   ·simp at hr
  ·simp at hr
 ·rename_i n e hn hd
  obtain ⟨k,rfl⟩:=hx.int hn
  split at hr
  ·rename_i ie hie
   split at hr
   ·rename_i b off sz m cap
    simp only [Option.some.injEq] at hr; subst hr
    simp only [AllP,PC.holds,and_true] at hp
    unfold Rel at ha
    obtain ⟨hl,_,cr,_,rfl⟩:=ha
    exact ⟨_,JZ hd hie _ _ _ _ _ _ hp.1 hp.2 w,by unfold Rel; exact ⟨hl,rfl⟩,rfl⟩
   ·rename_i m xs
    simp only [Option.some.injEq] at hr; subst hr
    simp only [AllP,PC.holds,and_true] at hp
    unfold Rel RelD at ha
    obtain ⟨bk,off,cap,us,hu,hl,hcap,hc,hs⟩:=ha
    have hu:=hu.pos (by omega)
    subst hu
    exact ⟨_,JZ hd hie _ _ _ _ _ _ hp.1 hp.2.1 w,KW hl hc hs hp.2.2,rfl⟩
   ·rename_i m xs
    simp only [Option.some.injEq] at hr; subst hr
    simp only [AllP,PC.holds,and_true] at hp
    unfold Rel at ha
    obtain ⟨bk,off,cap,us,rfl,hl,hcap,hc,hs,_⟩:=ha
    exact ⟨_,JZ hd hie _ _ _ _ _ _ hp.1 hp.2.1 w,KW hl hc hs hp.2.2,rfl⟩
   ·simp at hr
  ·simp at hr
 ·simp at hr
def jS (ev:Operand→AV):Option Operand→Int→Option Int
 | none,dflt=>some dflt
 | some x,_=>Q0 (ev x)
def jbk (cf:Cfg) (t:TypeId) (ev:Operand→AV) (x:Operand) (lo hi mx:Option Operand):Option ARes :=
 match mx with
 | some _=>none
 | none =>
 match cf.P.underlying t with
 | some (.slice e)=>match cf.P.info? e with
  | none=>none
  | some ie =>
   match ev x with
   | .d (.v (.slice none 0 0))=>match jS ev lo 0,jS ev hi 0 with
    | some l,some h=>some ⟨[.eqI l 0,.eqI h 0],.d (.v (.slice none 0 0)),[]⟩
    | _,_=>none
   | .d (.sl n xs)=>match jS ev lo 0,jS ev hi n with
    | some l,some h=>some ⟨[.le 0 l,.le l h,.le h n,.eqN xs.length (n*ie.size)],.d (.sl (h.toNat - l.toNat) ((xs.drop (l.toNat*ie.size)).take ((h.toNat - l.toNat)*ie.size))),[]⟩
    | _,_=>none
   | .own b e' sz n xs =>
    if sz==ie.size then
     match hi with
     | none=>match jS ev lo 0 with
      | some l=>some ⟨[.le 0 l,.le l n],.own b e' sz (n - l.toNat) (xs.drop (l.toNat*sz)),[]⟩
      | none=>none
     | some _=>match jS ev lo 0,jS ev hi n with
      | some l,some h=>some ⟨[.le 0 l,.le l h,.le h n],.d (.sl (h.toNat - l.toNat) ((xs.drop (l.toNat*sz)).take ((h.toNat - l.toNat)*sz))),[]⟩
      | _,_=>none
    else none
   | .ms b off sz n cap=>if sz==ie.size then match jS ev lo 0,jS ev hi n with
    | some l,some h=>some ⟨[.le 0 l,.le l h,.le h cap,.eqB (decide (l<(cap:Int))||decide (l=0)) true],.ms b (off+l.toNat*ie.size) sz (h.toNat - l.toNat) (cap - l.toNat),[]⟩
    | _,_=>none
    else none
   | _=>none
 | some (.array n e)=>match cf.P.info? e with
  | none=>none
  | some ie =>
   match ev x with
   | .ptr b off=>match jS ev lo 0,jS ev hi n with
    | some l,some h=>some ⟨[.le 0 l,.le l h,.le h n,.lt0 l n],.ms b (if Nat.beq n l.toNat then off else off+l.toNat*ie.size) ie.size (h.toNat - l.toNat) (n - l.toNat),[]⟩
    | _,_=>none
   | .ip cs=>match jS ev lo 0,jS ev hi n with
    | some l,some h=>some ⟨[.le 0 l,.le l h,.le h n,.leN (n*ie.size) cs.length],.d (.sl (h.toNat - l.toNat) ((cs.drop (l.toNat*ie.size)).take ((h.toNat - l.toNat)*ie.size))),[]⟩
    | _,_=>none
   | _=>none
 | some .string=>match ev x with
  | .d (.v (.string s))=>match jS ev lo 0,jS ev hi s.size with
   | some l,some h=>some ⟨[.le 0 l,.le l h,.le h s.size],.d (.v (.string (s.extract l.toNat h.toNat))),[]⟩
   | _,_=>none
  | _=>none
 | _=>none
theorem ku {P:Program} (k:IntKind) (i:Int) (y:Nat) (code:BoundsCode) (h0:0≤i) (h1:i≤y) (w:World):(Instr.sliceBound (.int k i) y code).run P w=.ok i.toNat w:=by
 simp [Instr.sliceBound,asIntOf,h0,h1]
theorem JO {P:Program} {ev:Operand→AV} {av:Operand→Value} (hev:∀ x,Rel c w (ev x) (av x)) {lo hi:Option Operand} {n:Nat} {l h:Int} (hl:jS ev lo 0=some l) (hh:jS ev hi n=some h)
  (isS:Bool) (cap:Nat) (h0:0≤l) (h1:l≤h) (h2:h≤cap) (hhi:hi=none→n≤cap) (w':World) :
  (Instr.sliceBounds isS n cap (lo.map av) (hi.map av) none).run P w'=.ok (l.toNat,h.toNat,cap) w':=by
 have eh:(h.toNat:Int)=h:=Int.toNat_of_nonneg (by omega)
 cases hi with
 | none =>
  simp [jS] at hh; subst hh
  cases lo with
  | none=>simp [jS] at hl; subst hl; simp [Instr.sliceBounds]
  | some x =>
   simp [jS] at hl
   obtain ⟨k,hk⟩:=(hev x).int hl
   simp only [Option.map_some,Option.map_none,hk,Instr.sliceBounds]
   simp [ku k l n .sliceB h0 (by omega)]
 | some y =>
  simp [jS] at hh
  obtain ⟨k,hk⟩:=(hev y).int hh
  cases lo with
  | none =>
   simp [jS] at hl; subst hl
   simp only [Option.map_some,Option.map_none,hk,Instr.sliceBounds]
   simp [ku k h cap _ (by omega) h2]
  | some x =>
   simp [jS] at hl
   obtain ⟨k',hk'⟩:=(hev x).int hl
   simp only [Option.map_some,hk,hk',Instr.sliceBounds]
   simp [ku k h cap _ (by omega) h2,ku k' l h.toNat .sliceB h0 (by omega)]
theorem Jv {P:Program} {t e:TypeId} {ie:TypeInfo} (hd:P.underlying t=some (.slice e)) (hi:P.info? e=some ie) (a:Option Addr) (n cap:Nat) (lo hi':Option Value) (l h:Nat) (w:World)
  (hb:∀ w',(Instr.sliceBounds true n cap lo hi' none).run P w'=.ok (l,h,cap) w') :
  (Instr.sliceAt t (.slice a n cap) lo hi' none).run P w=.ok (.slice (if cap=l then a else a.map (·.add (l*ie.size))) (h - l) (cap - l)) w:=by
 simp [Instr.sliceAt,run_underlying hd,Instr.slice,hb,jY hi]
theorem Qo {P:Program} {t e:TypeId} {ie:TypeInfo} {n:Nat} (hd:P.underlying t=some (.array n e)) (hi:P.info? e=some ie) (a:Addr) (lo hi':Option Value) (l h:Nat) (w:World)
  (hb:∀ w',(Instr.sliceBounds false n n lo hi' none).run P w'=.ok (l,h,n) w') :
  (Instr.sliceAt t (.pointer (some a)) lo hi' none).run P w=.ok (.slice (some (if n=l then a else a.add (l*ie.size))) (h - l) (n - l)) w:=by
 simp [Instr.sliceAt,run_underlying hd,Instr.sureAddr,hb,jY hi]
theorem Yn {P:Program} {t:TypeId} (hd:P.underlying t=some .string) (s:ByteArray) (lo hi':Option Value) (l h:Nat) (w:World)
  (hb:∀ w',(Instr.sliceBounds false s.size s.size lo hi' none).run P w'=.ok (l,h,s.size) w') :
  (Instr.sliceAt t (.string s) lo hi' none).run P w=.ok (.string (s.extract l h)) w:=by
 simp [Instr.sliceAt,run_underlying hd,Instr.slice,hb]
theorem jf5 {ev:Operand→AV} {av:Operand→Value} (hev:∀ x,Rel c w (ev x) (av x)) {t:TypeId} {x:Operand} {lo hi mx:Option Operand} {r:ARes} (hr:jbk cf t ev x lo hi mx=some r) (hp:AllP r.pcs) :
  ∃ v,(Instr.sliceAt t (av x) (lo.map av) (hi.map av) (mx.map av)).run cf.P w=.ok v w∧Rel c w r.val v∧r.wr=[]:=by
 unfold jbk at hr
 split at hr
 ·simp at hr
 have hx:=hev x
 split at hr
 ·rename_i e hd
  split at hr
  ·simp at hr
  rename_i ie hie
  split at hr
  ·rename_i he
   split at hr
   ·rename_i l h hl hh
    simp only [Option.some.injEq] at hr; subst hr
    simp only [AllP,PC.holds,and_true] at hp
    rw [he] at hx; unfold Rel RelD at hx
    rw [hx.1]
    obtain ⟨rfl,rfl⟩:=hp
    have hb:=JO (P:=cf.P) hev hl hh true 0 (by omega) (by omega) (by omega) (fun _=>Nat.le_refl _)
    exact ⟨_,Jv hd hie _ _ _ _ _ _ _ w hb,by unfold Rel RelD; exact ⟨by simp,rfl⟩,rfl⟩
   ·simp at hr
  ·rename_i n xs he
   split at hr
   ·rename_i l h hl hh
    simp only [Option.some.injEq] at hr; subst hr
    simp only [AllP,PC.holds,and_true] at hp
    obtain ⟨p1,p2,p3,p4⟩:=hp
    rw [he] at hx; unfold Rel RelD at hx
    obtain ⟨bk,off,cap,us,hu,q1,q2,q3,q4⟩:=hx
    have hlen:=q4.length
    have hb:=JO (P:=cf.P) hev hl hh true cap p1 p2 (by omega) (fun _=>q2)
    have hmul:l.toNat*ie.size≤n*ie.size:=Nat.mul_le_mul_right _ (by omega)
    rcases hu with hu | ⟨⟨o,hu⟩,hn0,hcap0,hus⟩
    rotate_left
    ·subst hcap0
     rw [hu]
     subst hn0
     refine ⟨_,Jv hd hie _ _ _ _ _ _ _ w hb,?_,rfl⟩
     unfold Rel RelD
     have e1:h.toNat - l.toNat=0:=by omega
     refine ⟨bk,off,0,[],.inr ⟨⟨_,by simp [e1]; rfl⟩,e1,rfl,rfl⟩,by simp; omega,by omega,?_,?_⟩
     ·intro i u hi; simp at hi
     ·rw [e1]; simp; exact RelDs.nil
    rw [hu]
    refine ⟨_,Jv hd hie _ _ _ _ _ _ _ w hb,?_,rfl⟩
    unfold Rel RelD
    by_cases hc:cap=l.toNat
    ·refine ⟨bk,off,cap - l.toNat,[],.inl (by simp [hc]),by simp; omega,by omega,?_,?_⟩
     ·intro i u hi; simp at hi
     ·have e1:h.toNat - l.toNat=0:=by omega
      rw [e1]; simp; exact RelDs.nil
    ·refine ⟨bk,off+l.toNat*ie.size,cap - l.toNat,(us.drop (l.toNat*ie.size)).take ((h.toNat - l.toNat)*ie.size),.inl (by simp [hc,Addr.add_lit]),?_,by omega,jN (J5 q3),(q4.drop _).take _⟩
     simp; omega
   ·simp at hr
  ·rename_i b e' sz n xs he
   split at hr
   ·rename_i hsz
    have hsz:sz=ie.size:=by simpa using hsz
    subst hsz
    rw [he] at hx; unfold Rel at hx
    obtain ⟨bk,off,cap,us,hu,q1,q2,q3,q4,q5,q6,q7,q8⟩:=hx
    rw [hu]
    have hlen:=q4.length
    split at hr
    ·split at hr
     ·rename_i l hl
      simp only [Option.some.injEq] at hr; subst hr
      simp only [AllP,PC.holds,and_true] at hp
      obtain ⟨p1,p2⟩:=hp
      have hb:=JO (P:=cf.P) hev hl (hi:=none) (n:=n) rfl true cap p1 (by omega) (by omega) (fun _=>q2)
      refine ⟨_,Jv hd hie _ _ _ _ _ _ _ w hb,?_,rfl⟩
      have hmul:l.toNat*ie.size≤n*ie.size:=Nat.mul_le_mul_right _ (by omega)
      have hms:(n - l.toNat)*ie.size=n*ie.size - l.toNat*ie.size:=Nat.sub_mul _ _ _
      unfold Rel
      by_cases hc:cap=l.toNat
      ·have hn:n=l.toNat:=by omega
       refine ⟨bk,off,cap - l.toNat,[],by simp [hc,hn],by simp; omega,by omega,?_,?_,by simp [hn],q6,q7,?_⟩
       ·intro i u hi; simp at hi
       ·rw [List.drop_of_length_le (by rw [← hlen,q5,hn]; exact Nat.le_refl _)]; exact RelDs.nil
       ·intro hee
        obtain ⟨r1,r2,_⟩:=q8 hee
        exact ⟨r1,r2,.inl (by omega)⟩
      ·refine ⟨bk,off+l.toNat*ie.size,cap - l.toNat,us.drop (l.toNat*ie.size),by simp [hc,Addr.add_lit],by simp; omega,by omega,J5 q3,q4.drop _,by simp; omega,q6,q7,?_⟩
       intro hee
       obtain ⟨r1,r2,q8⟩:=q8 hee
       refine ⟨r1,r2,?_⟩
       rcases q8 with q8 | ⟨q9,q10⟩
       ·exact .inl (by omega)
       ·have hcs:(cap - l.toNat)*ie.size=cap*ie.size - l.toNat*ie.size:=Nat.sub_mul _ _ _
        have hcm:l.toNat*ie.size≤cap*ie.size:=Nat.mul_le_mul_right _ (by omega)
        refine .inr ⟨by omega,?_⟩
        have:off+l.toNat*ie.size+(cap - l.toNat)*ie.size=off+cap*ie.size:=by omega
        rw [this]; exact q10
     ·simp at hr
    ·split at hr
     ·rename_i l h hl hh
      simp only [Option.some.injEq] at hr; subst hr
      simp only [AllP,PC.holds,and_true] at hp
      obtain ⟨p1,p2,p3⟩:=hp
      have hb:=JO (P:=cf.P) hev hl hh true cap p1 p2 (by omega) (fun _=>q2)
      refine ⟨_,Jv hd hie _ _ _ _ _ _ _ w hb,?_,rfl⟩
      have hmul:l.toNat*ie.size≤n*ie.size:=Nat.mul_le_mul_right _ (by omega)
      unfold Rel RelD
      by_cases hc:cap=l.toNat
      ·refine ⟨bk,off,cap - l.toNat,[],.inl (by simp [hc]),by simp; omega,by omega,?_,?_⟩
       ·intro i u hi; simp at hi
       ·have e1:h.toNat - l.toNat=0:=by omega
        rw [e1]; simp; exact RelDs.nil
      ·refine ⟨bk,off+l.toNat*ie.size,cap - l.toNat,(us.drop (l.toNat*ie.size)).take ((h.toNat - l.toNat)*ie.size),.inl (by simp [hc,Addr.add_lit]),?_,by omega,jN (J5 q3),(q4.drop _).take _⟩
       simp; omega
     ·simp at hr
   ·simp at hr
  ·rename_i b off sz n cap he
   split at hr
   rotate_left
   ·simp at hr
   rename_i hsz
   have hsz:sz=ie.size:=by simpa using hsz
   split at hr
   ·rename_i l h hl hh
    simp only [Option.some.injEq] at hr; subst hr
    simp only [AllP,PC.holds,and_true] at hp
    obtain ⟨p1,p2,p3,p4⟩:=hp
    rw [he] at hx; unfold Rel at hx
    obtain ⟨hx1,hx2,cr,hcr0,hxe⟩:=hx
    have hcr:=hcr0.le
    rw [hxe]
    have hn:hi=none→n≤cr:=by
     intro hn; subst hn; simp [jS] at hh; omega
    have hb:=JO (P:=cf.P) hev hl hh true cr p1 p2 (by omega) hn
    refine ⟨_,Jv hd hie _ _ _ _ _ _ _ w hb,?_,rfl⟩
    unfold Rel
    refine ⟨hx1,by omega,cr - l.toNat,?_,?_⟩
    ·rcases hcr0 with hc | ⟨hc,hr⟩
     ·exact .inl (by omega)
     ·refine .inr ⟨by omega,?_⟩
      have e1:off+l.toNat*ie.size+(cr - l.toNat)*sz=off+cr*sz:=by
       rw [hsz,Nat.add_assoc,← Nat.add_mul]; congr 2; omega
      rw [e1]; exact hr
    by_cases hc:cr=l.toNat
    ·have hp4:l<(cap:Int)∨l=0:=by simpa using p4
     have:l=0:=by omega
     subst this; simp at hc; simp [hc]
    ·simp [hc,Addr.add_lit]
   ·simp at hr
  ·simp at hr
 ·rename_i n e hd
  split at hr
  ·simp at hr
  rename_i ie hie
  split at hr
  ·rename_i b off he
   split at hr
   ·rename_i l h hl hh
    simp only [Option.some.injEq] at hr; subst hr
    simp only [AllP,PC.holds,and_true] at hp
    obtain ⟨p1,p2,p3,p4⟩:=hp
    rw [he] at hx; unfold Rel at hx
    rw [hx.2]
    have hb:=JO (P:=cf.P) hev hl hh false n p1 p2 p3 (fun _=>Nat.le_refl _)
    refine ⟨_,Qo hd hie _ _ _ _ _ w hb,?_,rfl⟩
    unfold Rel
    refine ⟨hx.1,by omega,n - l.toNat,.inl rfl,?_⟩
    by_cases hc:n=l.toNat
    ·simp [hc]
    ·simp [hc,Addr.add_lit]
   ·simp at hr
  ·rename_i cs he
   split at hr
   ·rename_i l h hl hh
    simp only [Option.some.injEq] at hr; subst hr
    simp only [AllP,PC.holds,and_true] at hp
    obtain ⟨p1,p2,p3,p4⟩:=hp
    rw [he] at hx; unfold Rel at hx
    obtain ⟨bk,off,us,hu,q1,q3,q4⟩:=hx
    rw [hu]
    have hlen:=q4.length
    have hb:=JO (P:=cf.P) hev hl hh false n p1 p2 p3 (fun _=>Nat.le_refl _)
    refine ⟨_,Qo hd hie _ _ _ _ _ w hb,?_,rfl⟩
    have hmul:l.toNat*ie.size≤n*ie.size:=Nat.mul_le_mul_right _ (by omega)
    unfold Rel RelD
    by_cases hc:n=l.toNat
    ·refine ⟨bk,off,n - l.toNat,[],.inl (by simp [hc]),by simp; omega,by omega,?_,?_⟩
     ·intro i u hi; simp at hi
     ·have e1:h.toNat - l.toNat=0:=by omega
      rw [e1]; simp; exact RelDs.nil
    ·refine ⟨bk,off+l.toNat*ie.size,n - l.toNat,(us.drop (l.toNat*ie.size)).take ((h.toNat - l.toNat)*ie.size),.inl (by simp [hc,Addr.add_lit]),?_,by omega,jN (J5 q3),(q4.drop _).take _⟩
     simp; omega
   ·simp at hr
  ·simp at hr
 ·rename_i hd
  split at hr
  ·rename_i s he
   split at hr
   ·rename_i l h hl hh
    simp only [Option.some.injEq] at hr; subst hr
    simp only [AllP,PC.holds,and_true] at hp
    obtain ⟨p1,p2,p3⟩:=hp
    rw [he] at hx; unfold Rel RelD at hx
    rw [hx.1]
    have hb:=JO (P:=cf.P) hev hl hh false s.size p1 p2 p3 (fun _=>Nat.le_refl _)
    exact ⟨_,Yn hd s _ _ _ _ w hb,by unfold Rel RelD; exact ⟨rfl,rfl⟩,rfl⟩
   ·simp at hr
  ·simp at hr
 ·simp at hr
end
end Go.Kv
