import Derived.Test.YtdelimpnnpifpaaGreatDoorKvK
set_option linter.all false
namespace Go.Kv
open Go Go.RowKit
section
variable {cf:Cfg} {base:Nat} {w0:Start} {cs0:List Frame} {c:Ctx} {w:World}
theorem Kg {op:Op} {f:Operand} {args:List Operand} (h:qe op=some (f,args)):∃ as ts,op=.call { callee:=.value f,args:=as,argTypes:=ts }∧args=as.toList:=by
  unfold qe at h
  split at h
  · simp at h
    obtain ⟨rfl,rfl⟩:=h
    exact ⟨_,_,rfl,rfl⟩
  · simp at h
theorem qR:∀ (ps:List Tmp) {ts:List AV} {us:Array Value} {as:List AV} {vs:List Value},Rels c w ts us.toList→Rels c w as vs →
    Rels c w (KA ts ps as) ((ps.zip vs).foldl (fun tmps (x:Tmp × Value)=>tmps.setIfInBounds x.1 x.2) us).toList
  | [],ts,us,as,vs,h,_=>by simpa [KA] using h
  | p :: ps,ts,us,[],vs,h,ha=>by
    have:vs=[]:=ha.nil_inv
    subst this
    simpa [KA] using h
  | p :: ps,ts,us,a :: as,vs,h,ha=>by
    obtain ⟨u,r,rfl,hu,t⟩:=ha.cons_inv
    simp only [KA,List.zip_cons_cons,List.foldl_cons]
    exact qR ps (by simpa using h.set p hu) t
theorem jaB {P:Program} {g:FuncId} {as:List AV} {us:List Value} {k:ExtK} (h:Rels c w as us) (hn:jbK as=some k) (hx:jea P g k) :
    ∃ u w',(callFunc g us.toArray).run P w=.ok (.value u) w'∧(w'=w∨w'=w.drew)∧∀ c' w'',Ctx.Le c w c' w''→Rel c' w'' k.val u:=by
  unfold jbK at hn
  split at hn
  · simp only [Option.some.injEq] at hn; subst hn
    obtain ⟨u,r,rfl,hu,t⟩:=h.cons_inv
    rw [t.nil_inv]
    unfold Rel at hu
    obtain ⟨b,rfl,hb⟩:=hu
    obtain ⟨b',w',h1,h2,h3⟩:=hx b hb w
    exact ⟨_,w',h1,h3,fun _ _ _=>by unfold ExtK.val Rel; exact ⟨b',rfl,h2⟩⟩
  · rename_i b off
    simp only [Option.some.injEq] at hn; subst hn
    obtain ⟨u,r,rfl,hu,t⟩:=h.cons_inv
    rw [t.nil_inv]
    exact ⟨u,w,hx u w,.inl rfl,fun _ _ hle=>Rel.mono hle hu⟩
  · simp at hn
mutual
theorem gy {c c':Ctx} {w w':World}:∀ {a:AV} {u:Value},JX a=true→Rel c w a u→Rel c' w' a u
  | .d (.v x),u,_,h=>by unfold Rel RelD at h ⊢; exact h
  | .d (.sl ..),_,hf,_=>by simp [JX] at hf
  | .agg cs,u,hf,h=>by
    unfold Rel at h ⊢
    obtain ⟨us,rfl,hs⟩:=h
    exact ⟨us,rfl,yM (by simpa [JX] using hf) hs⟩
  | .tup cs,u,hf,h=>by
    unfold Rel at h ⊢
    obtain ⟨us,rfl,hs⟩:=h
    exact ⟨us,rfl,yM (by simpa [JX] using hf) hs⟩
  | .ptr ..,_,hf,_=>by simp [JX] at hf
  | .ip ..,_,hf,_=>by simp [JX] at hf
  | .own ..,_,hf,_=>by simp [JX] at hf
  | .ms ..,_,hf,_=>by simp [JX] at hf
  | .fn ..,_,hf,_=>by simp [JX] at hf
  | .yl ..,_,hf,_=>by simp [JX] at hf
  | .mp ..,_,hf,_=>by simp [JX] at hf
  | .gx ..,_,hf,_=>by simp [JX] at hf
  | .em,_,hf,_=>by simp [JX] at hf
  | .nan k,u,_,h=>by unfold Rel at h ⊢; exact h
  | .opt ..,_,hf,_=>by simp [JX] at hf
  | .any,_,hf,_=>by simp [JX] at hf
theorem yM {c c':Ctx} {w w':World}:∀ {as:List AV} {us:List Value},gp as=true→Rels c w as us→Rels c' w' as us
  | [],us,_,h=>by rw [h.nil_inv]; exact Rels.nil
  | a :: as,us,hf,h=>by
    obtain ⟨u,r,rfl,hu,t⟩:=h.cons_inv
    simp [gp] at hf
    exact Rels.cons (gy hf.1 hu) (yM hf.2 t)
end
mutual
theorem Qz {c:Ctx} {w:World}:∀ {a:AV} {u:Value},Rel (JR c.φ) w a u→Rel c w a u
  | .d x,u,h=>by unfold Rel at h ⊢; exact h
  | .ip cs,u,h=>by unfold Rel at h ⊢; exact h
  | .agg cs,u,h=>by unfold Rel at h ⊢; obtain ⟨us,rfl,hs⟩:=h; exact ⟨us,rfl,KD hs⟩
  | .tup cs,u,h=>by unfold Rel at h ⊢; obtain ⟨us,rfl,hs⟩:=h; exact ⟨us,rfl,KD hs⟩
  | .fn f fs cs,u,h=>by unfold Rel at h ⊢; obtain ⟨h0,us,vs,rfl,h1,h2⟩:=h; exact ⟨h0,us,vs,rfl,KD h1,KD h2⟩
  | .ptr ..,_,h=>by unfold Rel at h; simp [JR] at h
  | .own ..,_,h=>by unfold Rel at h; simp [JR] at h
  | .ms ..,_,h=>by unfold Rel at h; simp [JR] at h
  | .yl ..,_,h=>by unfold Rel at h; simp [JR] at h
  | .mp ..,_,h=>by unfold Rel at h; simp [JR] at h
  | .gx ..,_,h=>by unfold Rel at h; simp [JR] at h
  | .em,_,h=>by unfold Rel at h ⊢; exact h
  | .nan _,_,h=>by unfold Rel at h ⊢; exact h
  | .opt b x,u,h=>by unfold Rel at h ⊢; intro hb; exact Qz (h hb)
  | .any,_,_=>by unfold Rel; trivial
theorem KD {c:Ctx} {w:World}:∀ {as:List AV} {us:List Value},Rels (JR c.φ) w as us→Rels c w as us
  | [],us,h=>by rw [h.nil_inv]; exact Rels.nil
  | a :: as,us,h=>by obtain ⟨u,r,rfl,hu,t⟩:=h.cons_inv; exact Rels.cons (Qz hu) (KD t)
end
theorem GlobOk.weaken {glob:Nat→Option (List DV)} {φ φ':Nat→Nat} {w:World} (h:∀ i,φ i≤φ' i) (hg:GlobOk glob w φ):GlobOk glob w φ':=by
  intro g cs hc
  obtain ⟨us,h1,h2,h3,h4⟩:=hg g cs hc
  exact ⟨us,Nat.lt_of_lt_of_le h1 (h g),h2,RelDs.weaken h h3,h4⟩
theorem Yi {H:List ABlk} (hm:WRel base (w0.on cf) c w H) (hgl:GK cf w c.φ) {g:FuncId} {all bs:List AV} {us:List Value} {r:AV} (hall:Rels c w all us) {get:Nat→ABlk} (hget:∀ b,get b=(H[b]?).getD .gone) (hpass:Jl get all=some bs)
    (hflat:(!(jR all)||JX r)=true) (hcall:PureCalls cf.P cf.glob g bs r) :
    Calls cf.P g us.toArray w fun e w'=>∃ u c',e=.returned u∧Ctx.Le c w c' w'∧WRel base (w0.on cf) c' w' H∧Rel c' w' r u∧(∀ b,c'.ρ b=c.ρ b):=by
  by_cases hms:jR all=true
  · have hfl:JX r=true:=by simpa [hms] using hflat
    have hfz:∀ i,w.heap.size≤i→Jy w c.φ base i=0:=by
      intro i hi
      unfold Jy
      have h0:=hm.hi i hi
      have hle:=hm.le
      rw [if_neg (by omega),Array.getElem?_eq_none (by omega)]
      exact h0
    refine (hcall w (Jy w c.φ base) us hfz (hgl.1.weaken (J6 w c.φ base)) (JB hm hget (J6 w c.φ base) (fun _ _=>Nat.le_refl _) hpass hall)).mono ?_
    rintro e w' ⟨u,φ',he,hb,h1,h2,hr⟩
    have hext:=hm.ext (φ':=fun i=>if i<w.heap.size then c.φ i else φ' i) hb (fun i hi=>by simp [hi]) (fun i hi=>by
      have:=hb.size
      rw [if_neg (by omega)]; exact h2 i hi)
    exact ⟨u,_,he,hext.1,hext.2,gy hfl hr,fun _=>rfl⟩
  · have hms:jR all=false:=by simpa using hms
    refine (hcall w c.φ us hm.hi hgl.1 (JB hm hget (fun _=>Nat.le_refl _) (fun h=>by rw [hms] at h; simp at h) hpass hall)).mono ?_
    rintro e w' ⟨u,φ',he,hb,h1,h2,hr⟩
    have hext:=hm.ext (φ':=φ') hb h1 h2
    exact ⟨u,_,he,hext.1,hext.2,Qz hr,fun _=>rfl⟩
theorem Qn {H:List ABlk} (hm:WRel base (w0.on cf) c w H) (hgl:GK cf w c.φ) {g:FuncId} {all bs:List AV} {us:List Value} {r:AV} (hall:Rels c w all us) {get:Nat→ABlk} (hget:∀ b,get b=(H[b]?).getD .gone) (hpass:Kq get all=some bs)
    (hflat:(!(jR all)||JX r)=true) (hcall:PureCalls cf.P cf.glob g bs r) :
    Calls cf.P g us.toArray w fun e w'=>∃ u c',e=.returned u∧Ctx.Le c w c' w'∧WRel base (w0.on cf) c' w' H∧Rel c' w' r u∧(∀ b,c'.ρ b=c.ρ b):=by
  by_cases hms:jR all=true
  · have hfl:JX r=true:=by simpa [hms] using hflat
    have hfz:∀ i,w.heap.size≤i→Jy w c.φ base i=0:=by
      intro i hi
      unfold Jy
      have h0:=hm.hi i hi
      have hle:=hm.le
      rw [if_neg (by omega),Array.getElem?_eq_none (by omega)]
      exact h0
    refine (hcall w (Jy w c.φ base) us hfz (hgl.1.weaken (J6 w c.φ base)) (yb hm hget (J6 w c.φ base) (fun _ _=>Nat.le_refl _) hpass hall)).mono ?_
    rintro e w' ⟨u,φ',he,hb,h1,h2,hr⟩
    have hext:=hm.ext (φ':=fun i=>if i<w.heap.size then c.φ i else φ' i) hb (fun i hi=>by simp [hi]) (fun i hi=>by
      have:=hb.size
      rw [if_neg (by omega)]; exact h2 i hi)
    exact ⟨u,_,he,hext.1,hext.2,gy hfl hr,fun _=>rfl⟩
  · have hms:jR all=false:=by simpa using hms
    refine (hcall w c.φ us hm.hi hgl.1 (yb hm hget (fun _=>Nat.le_refl _) (fun h=>by rw [hms] at h; simp at h) hpass hall)).mono ?_
    rintro e w' ⟨u,φ',he,hb,h1,h2,hr⟩
    have hext:=hm.ext (φ':=φ') hb h1 h2
    exact ⟨u,_,he,hext.1,hext.2,Qz hr,fun _=>rfl⟩
mutual
theorem gm {c c':Ctx} {w w':World}:∀ {a:AV} {u:Value},Rel c w a u→Rel c' w' (Ke a) u
  | .d (.v x),u,h=>by simp only [Ke]; unfold Rel RelD at h ⊢; exact h
  | .d (.sl ..),_,_=>Js
  | .agg cs,u,h=>by
    simp only [Ke]
    unfold Rel at h ⊢
    obtain ⟨us,rfl,hs⟩:=h
    exact ⟨us,rfl,QJ hs⟩
  | .tup cs,u,h=>by
    simp only [Ke]
    unfold Rel at h ⊢
    obtain ⟨us,rfl,hs⟩:=h
    exact ⟨us,rfl,QJ hs⟩
  | .nan k,u,h=>by simp only [Ke]; unfold Rel at h ⊢; exact h
  | .em,u,h=>by simp only [Ke]; unfold Rel at h ⊢; exact h
  | .ptr ..,_,_=>Js
  | .ip ..,_,_=>Js
  | .own ..,_,_=>Js
  | .ms ..,_,_=>Js
  | .fn ..,_,_=>Js
  | .yl ..,_,_=>Js
  | .mp ..,_,_=>Js
  | .gx ..,_,_=>Js
  | .opt ..,_,_=>Js
  | .any,_,_=>Js
theorem QJ {c c':Ctx} {w w':World}:∀ {as:List AV} {us:List Value},Rels c w as us→Rels c' w' (ZA as) us
  | [],us,h=>by rw [h.nil_inv]; exact Rels.nil
  | a :: as,us,h=>by
    obtain ⟨u,r,rfl,hu,t⟩:=h.cons_inv
    exact Rels.cons (gm hu) (QJ t)
end
mutual
theorem jaK {φ φ':Nat→Nat} {w:World} {r:Nat} (hr:φ' r=φ r):∀ {a:AV} {u:Value} {ps:List PC},kH a=some ps→AllP ps→Jw a=true→Rel (yK φ r) w a u→Rel (yK φ' r) w a u
  | .d (.v x),u,ps,_,_,_,h=>by unfold Rel RelD at h ⊢; exact h
  | .d (.sl ..),_,_,hf,_,_,_=>by simp [kH] at hf
  | .own b e sz n xs,u,ps,hf,hp,hfr,h=>by
    simp only [kH,Option.some.injEq] at hf
    subst hf
    have hx:gi xs=true:=hp.1
    simp only [Jw,Bool.and_eq_true] at hfr
    have he:e=0:=Nat.eq_of_beq_eq_true hfr.2
    subst he
    unfold Rel at h ⊢
    obtain ⟨bk,off,cap,us,q1,q2,q3,q4,q5,q6,q7,q8,q9⟩:=h
    obtain ⟨r1,r2,r3⟩:=q9 rfl
    have r1:bk=r:=r1
    subst r1
    refine ⟨bk,off,cap,us,q1,?_,q3,q4,Y8 hx q5,q6,rfl,Nat.le_refl _,?_⟩
    · show off+us.length≤φ' bk
      rw [hr]; exact q2
    · intro _
      refine ⟨rfl,r2,?_⟩
      show n=cap∨(off+n*sz=φ' bk∧_)
      rw [hr]; exact r3
  | .agg cs,u,ps,hf,hp,hfr,h=>by
    simp only [kH] at hf
    simp only [Jw] at hfr
    unfold Rel at h ⊢
    obtain ⟨us,rfl,hs⟩:=h
    exact ⟨us,rfl,zU hr hf hp hfr hs⟩
  | .tup cs,u,ps,hf,hp,hfr,h=>by
    simp only [kH] at hf
    simp only [Jw] at hfr
    unfold Rel at h ⊢
    obtain ⟨us,rfl,hs⟩:=h
    exact ⟨us,rfl,zU hr hf hp hfr hs⟩
  | .ptr ..,_,_,hf,_,_,_=>by simp [kH] at hf
  | .ip ..,_,_,hf,_,_,_=>by simp [kH] at hf
  | .ms ..,_,_,hf,_,_,_=>by simp [kH] at hf
  | .fn ..,_,_,hf,_,_,_=>by simp [kH] at hf
  | .yl ..,_,_,hf,_,_,_=>by simp [kH] at hf
  | .mp ..,_,_,hf,_,_,_=>by simp [kH] at hf
  | .gx ..,_,_,hf,_,_,_=>by simp [kH] at hf
  | .em,_,_,hf,_,_,_=>by simp [kH] at hf
  | .nan _,_,_,hf,_,_,_=>by simp [kH] at hf
  | .opt ..,_,_,hf,_,_,_=>by simp [kH] at hf
  | .any,_,_,hf,_,_,_=>by simp [kH] at hf
theorem zU {φ φ':Nat→Nat} {w:World} {r:Nat} (hr:φ' r=φ r):∀ {as:List AV} {us:List Value} {ps:List PC},gV as=some ps→AllP ps→Qd as=true→Rels (yK φ r) w as us→Rels (yK φ' r) w as us
  | [],us,_,_,_,_,h=>by rw [h.nil_inv]; exact Rels.nil
  | a :: as,us,ps,hf,hp,hfr,h=>by
    obtain ⟨u,r',rfl,hu,t⟩:=h.cons_inv
    simp only [gV] at hf
    split at hf
    · rename_i p1 p2 h1 h2
      simp only [Option.some.injEq] at hf
      subst hf
      obtain ⟨hp1,hp2⟩:=AllP.append hp
      simp only [Qd,Bool.and_eq_true] at hfr
      exact Rels.cons (jaK hr h1 hp1 hfr.1 hu) (zU hr h2 hp2 hfr.2 t)
    · simp at hf
end
theorem WRel.named {w':World} {c1:Ctx} {H:List ABlk} (hm:WRel base w0 c w H) (hm1:WRel base w0 c1 w' H) (hρ:c1.ρ=c.ρ) (hτ:c1.τ=c.τ) (hlv:c1.live=c.live) (htl:c1.tl=c.tl) (hγ:c1.γ=c.γ) {nm:Nat} (hnm:H[nm]? = some .gone) {r:Nat} (hr:w.heap.size≤r)
    (hb:∃ cur t fr,w'.heap[r]? = some (.cells cur t fr)∧zA fr cur.size) :
    Ctx.Le c1 w' { c1 with τ:=Ju c1.τ nm r,σ:=Ju c1.σ nm 0,live:=Ju c1.live nm true,tl:=Ju c1.tl nm true } w' ∧
    WRel base w0 { c1 with τ:=Ju c1.τ nm r,σ:=Ju c1.σ nm 0,live:=Ju c1.live nm true,tl:=Ju c1.tl nm true } w' (H.set nm (.tail 0)):=by
  have hlt:nm<H.length:=(List.getElem?_eq_some_iff.1 hnm).1
  have hdead:c1.live nm=false:=by rw [hm1.live nm,hnm]; rfl
  have htd:c1.tl nm=false:=by rw [hm1.tl nm,hnm]; rfl
  have hle:Ctx.Le c1 w' { c1 with τ:=Ju c1.τ nm r,σ:=Ju c1.σ nm 0,live:=Ju c1.live nm true,tl:=Ju c1.tl nm true } w':=by
    refine ⟨?_,fun _ _=>rfl,fun _=>Nat.le_refl _,?_,?_,?_,fun _ _ _=>rfl,fun _ _ h=>h,fun _ _=>⟨Nat.le_refl _,fun _ _=>rfl⟩⟩
    · intro b hb'
      by_cases hbn:b=nm
      · subst hbn; simp
      · simp [jt _ _ hbn,hb']
    · intro b hb'
      by_cases hbn:b=nm
      · subst hbn; simp
      · simp [jt _ _ hbn,hb']
    · intro b hb'
      have hbn:b≠nm:=by intro h; subst h; rw [htd] at hb'; simp at hb'
      simp [jt _ _ hbn]
    · intro b hb' _ _
      have hbn:b≠nm:=by intro h; subst h; rw [htd] at hb'; simp at hb'
      simp [jt _ _ hbn]
  have hget:∀ b,(H.set nm (.tail 0))[b]? = if b=nm then some (.tail 0) else H[b]? := by
    intro b
    by_cases hbn:b=nm
    · subst hbn; simp [hlt]
    · simp [List.getElem?_set_ne (Ne.symm hbn),hbn]
  have hlocEq:∀ b k,b≠nm→loc { c1 with τ:=Ju c1.τ nm r,σ:=Ju c1.σ nm 0,live:=Ju c1.live nm true,tl:=Ju c1.tl nm true } b k=loc c1 b k:=by
    intro b k hne
    cases k <;> simp [loc,jt _ _ hne]
  have hloc:∀ b k,loc c1 b k=loc c b k:=by
    intro b k
    cases k <;> simp [loc,hρ,hτ]
  refine ⟨hle,⟨hm1.below,hm1.le,?_,?_,?_,?_,hm1.hi,hm1.lo,?_⟩⟩
  · intro b k hk
    rw [hget] at hk
    by_cases hbn:b=nm
    · simp [hbn] at hk; subst hk
      subst hbn
      unfold BRel
      exact ⟨by simp,by simp; exact Nat.le_trans hm.le hr,by simpa using hb⟩
    · simp [hbn] at hk
      exact BRel.mono hle (by rw [hm1.live b,Jc hk]) (hm1.blk b k hk) (fun _=>rfl) (fun _=>rfl) (by simp [jt _ _ hbn]) (by simp [jt _ _ hbn]) (fun _ _=>⟨rfl,rfl⟩)
  · intro b
    rw [hget]
    by_cases hbn:b=nm
    · simp [hbn,ABlk.isLive]
    · simp only [hbn,if_false]; rw [← hm1.live b]; simp [jt _ _ hbn]
  · intro b
    rw [hget]
    by_cases hbn:b=nm
    · simp [hbn,ABlk.isTail]
    · simp only [hbn,if_false]; rw [← hm1.tl b]; simp [jt _ _ hbn]
  · intro b b' k k' hk hk' ho ho' he
    rw [hget] at hk hk'
    by_cases hbn:b=nm <;> by_cases hbn':b'=nm
    · rw [hbn,hbn']
    · exfalso
      simp [hbn] at hk; simp [hbn'] at hk'; subst hk
      rw [hlocEq b' k' hbn',hloc] at he
      have h1:=(hm.blk b' k' hk').loc_lt ho'
      rw [hbn] at he
      have he:r=loc c b' k':=by simpa [show ∀ (c:Ctx) (b e:Nat),loc c b (.tail e)=c.τ b from fun _ _ _=>rfl] using he
      omega
    · exfalso
      simp [hbn] at hk; simp [hbn'] at hk'; subst hk'
      rw [hlocEq b k hbn,hloc] at he
      have h1:=(hm.blk b k hk).loc_lt ho
      rw [hbn'] at he
      have he:loc c b k=r:=by simpa [show ∀ (c:Ctx) (b e:Nat),loc c b (.tail e)=c.τ b from fun _ _ _=>rfl] using he
      omega
    · simp [hbn] at hk; simp [hbn'] at hk'
      rw [hlocEq b k hbn,hlocEq b' k' hbn'] at he
      exact hm1.inj b b' _ _ hk hk' ho ho' he
  · intro b k hk id hid
    rw [hget] at hk
    by_cases hbn:b=nm
    · simp [hbn] at hk; subst hk; simp [jO] at hid
    · simp [hbn] at hk
      obtain ⟨g1,g2,g3,g4⟩:=hm1.row b k hk id hid
      have hlow:=(hm.row b k hk id hid).2.1
      rw [← hγ] at hlow
      refine ⟨g1,g2,?_,?_⟩
      · intro b' k' hk' ho' he
        rw [hget] at hk'
        by_cases hbn':b'=nm
        · simp [hbn'] at hk'; subst hk'
          rw [hbn'] at he
          have he:r=c1.γ b id:=by simpa [show ∀ (c:Ctx) (b e:Nat),loc c b (.tail e)=c.τ b from fun _ _ _=>rfl] using he
          omega
        · simp [hbn'] at hk'
          rw [hlocEq b' k' hbn'] at he
          exact g3 b' k' hk' ho' he
      · intro b' k' id' hk' hid' he
        rw [hget] at hk'
        by_cases hbn':b'=nm
        · simp [hbn'] at hk'; subst hk'; simp [jO] at hid'
        · simp [hbn'] at hk'
          exact g4 b' k' id' hk' hid' he
theorem K1 {H:List ABlk} (hm:WRel base (w0.on cf) c w H) (hgl:GK cf w c.φ) {g:FuncId} {all bs:List AV} {us:List Value} {r:AV} (hall:Rels c w all us) {get:Nat→ABlk} (hget:∀ b,get b=(H[b]?).getD .gone) (hpass:Jl get all=some bs)
    (hflat:jR all=true→∃ qs,kH r=some qs∧AllP qs) {st:Bool} (hcall:KF cf.P cf.glob g bs r st) (hn:0<qi r∨st=true) {nm:Nat} (hnm:H[nm]? = some .gone) :
    Calls cf.P g us.toArray w fun e w'=>∃ u c',e=.returned u∧Ctx.Le c w c' w'∧WRel base (w0.on cf) c' w' (H.set nm (.tail 0))∧Rel c' w' (ja1 nm r) u:=by
  have fin:∀ (φ2 φ':Nat→Nat) (w':World) (r0:Nat) (u:Value),BelowD (jju cf.glob) w.heap.size w w'→(∀ i,i<w.heap.size→φ2 i=c.φ i)→(∀ i,w'.heap.size≤i→φ2 i=0)→w.heap.size≤r0 →
      (∃ cur t fr,w'.heap[r0]? = some (.cells cur t fr)∧zA fr cur.size)→Jw r=true→Rel (yK φ2 r0) w' r u →
      ∃ c',Ctx.Le c w c' w'∧WRel base (w0.on cf) c' w' (H.set nm (.tail 0))∧Rel c' w' (ja1 nm r) u:=by
    intro φ2 φ' w' r0 u hb h1 h2 hr hc hf hrel
    obtain ⟨e1,e2⟩:=hm.ext (φ':=φ2) hb h1 h2
    obtain ⟨n1,n2⟩:=hm.named e2 rfl rfl rfl rfl rfl hnm hr hc
    exact ⟨_,e1.trans n1,n2,je8 (c1:=yK φ2 r0) (c2:={ c with φ:=φ2,τ:=Ju c.τ nm r0,σ:=Ju c.σ nm 0,live:=Ju c.live nm true,tl:=Ju c.tl nm true }) rfl (by simp [yK]) rfl (by simp) (by simp) hf hrel⟩
  by_cases hms:jR all=true
  · obtain ⟨qs,hq1,hq2⟩:=hflat hms
    have hfz:∀ i,w.heap.size≤i→Jy w c.φ base i=0:=by
      intro i hi
      unfold Jy
      have h0:=hm.hi i hi
      have hle:=hm.le
      rw [if_neg (by omega),Array.getElem?_eq_none (by omega)]
      exact h0
    refine (hcall w (Jy w c.φ base) us hfz (hgl.1.weaken (J6 w c.φ base)) (JB hm hget (J6 w c.φ base) (fun _ _=>Nat.le_refl _) hpass hall)).mono ?_
    rintro e w' ⟨u,φ',he,hb,h1,h2,hf,_,hx⟩
    obtain ⟨r0,hr,hc,hrel⟩:=hx hn
    have hs:=hb.size
    have hrel2:Rel (yK (fun i=>if i<w.heap.size then c.φ i else φ' i) r0) w' r u:=jaK (by simp; omega) hq1 hq2 hf hrel
    obtain ⟨c',k1,k2,k3⟩:=fin (fun i=>if i<w.heap.size then c.φ i else φ' i) φ' w' r0 u hb (fun i hi=>by simp [hi]) (fun i hi=>by
      show (if i<w.heap.size then c.φ i else φ' i)=0
      rw [if_neg (by omega)]; exact h2 i hi) hr hc hf hrel2
    exact ⟨u,c',he,k1,k2,k3⟩
  · have hms:jR all=false:=by simpa using hms
    refine (hcall w c.φ us hm.hi hgl.1 (JB hm hget (fun _=>Nat.le_refl _) (fun h=>by rw [hms] at h; simp at h) hpass hall)).mono ?_
    rintro e w' ⟨u,φ',he,hb,h1,h2,hf,_,hx⟩
    obtain ⟨r0,hr,hc,hrel⟩:=hx hn
    obtain ⟨c',k1,k2,k3⟩:=fin φ' φ' w' r0 u hb h1 h2 hr hc hf hrel
    exact ⟨u,c',he,k1,k2,k3⟩
theorem qI {H:List ABlk} (hm:WRel base (w0.on cf) c w H) (hgl:GK cf w c.φ) {g:FuncId} {all bs:List AV} {us:List Value} {r:AV} (hall:Rels c w all us) {get:Nat→ABlk} (hget:∀ b,get b=(H[b]?).getD .gone) (hpass:Jl get all=some bs)
    (hcall:PureCalls cf.P cf.glob g bs r) :
    Calls cf.P g us.toArray w fun e w'=>∃ u c',e=.returned u∧Ctx.Le c w c' w'∧WRel base (w0.on cf) c' w' H∧Rel c' w' (if jR all then Ke r else r) u:=by
  by_cases hms:jR all=true
  · have hfz:∀ i,w.heap.size≤i→Jy w c.φ base i=0:=by
      intro i hi
      unfold Jy
      have h0:=hm.hi i hi
      have hle:=hm.le
      rw [if_neg (by omega),Array.getElem?_eq_none (by omega)]
      exact h0
    refine (hcall w (Jy w c.φ base) us hfz (hgl.1.weaken (J6 w c.φ base)) (JB hm hget (J6 w c.φ base) (fun _ _=>Nat.le_refl _) hpass hall)).mono ?_
    rintro e w' ⟨u,φ',he,hb,h1,h2,hr⟩
    have hext:=hm.ext (φ':=fun i=>if i<w.heap.size then c.φ i else φ' i) hb (fun i hi=>by simp [hi]) (fun i hi=>by
      have:=hb.size
      rw [if_neg (by omega)]; exact h2 i hi)
    exact ⟨u,_,he,hext.1,hext.2,by rw [if_pos hms]; exact gm hr⟩
  · have hms:jR all=false:=by simpa using hms
    refine (hcall w c.φ us hm.hi hgl.1 (JB hm hget (fun _=>Nat.le_refl _) (fun h=>by rw [hms] at h; simp at h) hpass hall)).mono ?_
    rintro e w' ⟨u,φ',he,hb,h1,h2,hr⟩
    have hext:=hm.ext (φ':=φ') hb h1 h2
    exact ⟨u,_,he,hext.1,hext.2,by rw [if_neg (by simp [hms])]; exact Qz hr⟩
theorem zK {H:List ABlk} (hm:WRel base (w0.on cf) c w H) (hgl:GK cf w c.φ) {g:FuncId} {all:List AV} {us:List Value} {kn:Kn} (hall:Rels c w all us) {get:Nat→ABlk} (hget:∀ b,get b=(H[b]?).getD .gone) {qs:List PC} (hpass:J0 get all=some (kn.args,qs)) (hq:AllP qs)
    {nm:Nat} {v:AV} {fs:List PC} {wr:List (Nat × ABlk)} (hres:jfq kn all nm=some (v,fs,wr)) (hf:AllP fs) (hcall:KnOk cf.P cf.glob kn) (hg:kn.g=g) (hnm:H[nm]? = some .gone) :
    Calls cf.P g us.toArray w fun e w'=>∃ u c',e=.returned u∧Ctx.Le c w c' w'∧WRel base (w0.on cf) c' w' (wr.foldl (fun H x=>H.set x.1 x.2) H)∧Rel c' w' v u:=by
  subst hg
  have hp:=qo hpass hq
  unfold jfq at hres
  split at hres
  · rename_i hfr
    split at hres
    · rename_i fs' hfl
      simp only [Option.some.injEq,Prod.mk.injEq] at hres
      obtain ⟨rfl,rfl,rfl⟩:=hres
      by_cases hst:kn.st=true
      · rw [if_pos hst] at hf
        exact K1 hm hgl hall hget hp (fun h=>by rw [if_pos h] at hfl; exact ⟨_,hfl,hf⟩) (hcall.fresh hfr) (.inr hst) hnm
      · rw [if_neg hst] at hf
        exact K1 hm hgl hall hget hp (fun h=>by rw [if_pos h] at hfl; exact ⟨_,hfl,hf.2⟩) (hcall.fresh hfr) (.inl hf.1) hnm
    · simp at hres
  · rename_i hfr
    simp only [Option.some.injEq,Prod.mk.injEq] at hres
    obtain ⟨rfl,rfl,rfl⟩:=hres
    exact qI hm hgl hall hget hp (hcall.plain (by simpa using hfr))
theorem YN {H:List ABlk} (hm:WRel base (w0.on cf) c w H) (hgl:GK cf w c.φ) {g:FuncId} {b sz n cap:Nat} {f f':AV} {cs:List AV} {t:TypeId} {ys:List DV} {us:List Value} (hall:Rels c w [.ms b 0 sz n cap,f] us) {get:Nat→ABlk} (hget:∀ b,get b=(H[b]?).getD .gone)
    (hb:H[b]? = some (.cells cs t)) (hpf:jV get f=some f') (hmf:jR [f]=false) (h1:n*sz≤cs.length) (h2:toDs (cs.take (n*sz))=some ((cs.take (n*sz)).map aD)) (h3:ys.length=n*sz) (hcall:Qg cf.P cf.glob g sz n ((cs.take (n*sz)).map aD) f' ys) :
    Calls cf.P g us.toArray w fun e w'=>∃ u c',e=.returned u∧Ctx.Le c w c' w'∧WRel base (w0.on cf) c' w' (H.set b (.cells (ys.map AV.d++cs.drop (n*sz)) t))∧Rel c' w' .any u:=by
  obtain ⟨u1,r1,rfl,hu1,t1⟩:=hall.cons_inv
  obtain ⟨u2,r2,rfl,hu2,t2⟩:=t1.cons_inv
  rw [t2.nil_inv]
  unfold Rel at hu1
  obtain ⟨hl,hcap,cr,hcr,rfl⟩:=hu1
  obtain ⟨hbase,hφ,us0,rest,hg,hs⟩:=hm.blk b _ hb
  have hlen:=hs.length
  have hms:ya f=false:=by simpa [jR] using hmf
  have hf:=Z1 hm hget (φ':=c.φ) (fun _=>Nat.le_refl _) (fun h=>by rw [hms] at h; simp at h) hpf hu2
  have hd:=(hs.take (n*sz)).toDs h2
  have hg':w.heap[c.ρ b]? = some (.cells (us0.take (n*sz)++(us0.drop (n*sz)++rest)).toArray t (0,0)):=by
    rw [hg,← List.append_assoc,List.take_append_drop]
  refine (hcall w c.φ (c.ρ b) cr t (us0.take (n*sz)) (us0.drop (n*sz)++rest) u2 hm.hi hgl.1 hg' hφ hd (by simp; omega) hf).mono ?_
  rintro e w' ⟨he,vs',hl',hr',hbel⟩
  have hsz0:(us0.take (n*sz)).length=n*sz:=by simp; omega
  have hr2:Rels c w (ys.map AV.d++cs.drop (n*sz)) (vs'++us0.drop (n*sz)):=by
    refine Rels.append ?_ (hs.drop _)
    exact Rels.map_d hr'
  have hst:=hm.store hb hg (us':=vs'++us0.drop (n*sz)) (by simp; omega) hr2
  rw [List.append_assoc] at hst
  have hsize:(w.setRow (c.ρ b) (vs'++(us0.drop (n*sz)++rest)).toArray).heap.size=w.heap.size:=size_setRow _ _ _
  have hext:=hst.2.ext (φ':=c.φ) (by rw [hsize]; exact hbel) (fun _ _=>rfl) (fun i hi=>hm.hi i (by have:=hbel.size; omega))
  exact ⟨_,c,he,Ctx.Le.trans hst.1 hext.1,hext.2,Js⟩
theorem zG {H:List ABlk} (hm:WRel base (w0.on cf) c w H) (hgl:GK cf w c.φ) {g:FuncId} {all:List AV} {us:List Value} {kn:Kn} (hall:Rels c w all us) {get:Nat→ABlk} (hget:∀ b,get b=(H[b]?).getD .gone) {qs:List PC} (hpass:J0 get all=some (kn.args,qs)) (hq:AllP qs)
    {v:AV} {fs:List PC} (hres:jbd kn all=some (v,fs)) (hf:AllP fs) (hcall:KnOk cf.P cf.glob kn) (hg:kn.g=g) :
    Calls cf.P g us.toArray w fun e w'=>∃ u c',e=.returned u∧Ctx.Le c w c' w'∧WRel base (w0.on cf) c' w' H∧Rel c' w' v u:=by
  subst hg
  have hp:=qo hpass hq
  unfold jbd at hres
  split at hres
  · rename_i hfr
    rw [Bool.and_eq_true] at hfr
    have hst:kn.st=false:=by simpa using hfr.2
    have hfr:=hfr.1
    simp only [Option.some.injEq,Prod.mk.injEq] at hres
    obtain ⟨rfl,rfl⟩:=hres
    have hn:qi kn.res=0:=hf.1
    refine qI (r:=emA kn.res) hm hgl hall hget hp ?_
    intro w φ us h1 h2 h3
    refine (hcall.fresh hfr w φ us h1 h2 h3).mono ?_
    rintro e w' ⟨u,φ',he,hb,k1,k2,_,hx,_⟩
    exact ⟨u,φ',he,hb,k1,k2,hx hn hst⟩
  · simp at hres
theorem kF {f:AFrame} {fr:Frame} (h:FRel c w f fr) {ops:Array Oper} {draw:Bool} {i:Nat} {k:List AItem} {is:List Nat} {todo:List Item} (hk:IRels c k todo) (his:RegOk ops draw (i+1) is) (d:Option Tmp) {a:AV} {v:Value} (hr:Rel c w a v) :
    FRel c w { f with tmps:=setT f.tmps d a,todo:=.reg ops draw (i+1) :: k } { fr with tmps:=(({ tmps:=fr.tmps,defers:=fr.defers }:Act).put d v).tmps,todo:=.inRegion ops is :: todo } :=
  ⟨h.fn,zm h.tmps d hr _,IRels.cons ⟨is,rfl,his⟩ hk,h.defers,h.mode,h.kind,h.ro⟩
theorem gT {o:Oper} {f:Operand} {args:List Operand} (h:qe o.op=some (f,args)):∀ c,o.op≠.defer c:=by
  obtain ⟨as,ts,ho,_⟩:=Kg h
  intro c hc; rw [ho] at hc; cases hc
theorem yQ {s:ASt} {fr:Frame} {frs:List Frame} (hs:SRel cf base w0 c w s fr frs) (hret:s.fr.ret=false) {ops:Array Oper} {draw:Bool} {i:Nat} {o:Oper} {k:List AItem} {is:List Nat} {todo:List Item}
    (ho:ops[i]? = some o) (htodo:fr.todo=.inRegion ops (i :: is) :: todo) (hk:IRels c k todo) (his:RegOk ops draw (i+1) is) (hw:Region.wanted o (yielded ops fr.tmps)=true) {f:Operand} {args:List Operand} (hop:qe o.op=some (f,args))
    {ds ds':List Dec} {ps0 ps:List PC} {s':ASt} (hr:qf cf s ops draw i o k f args ds ps0=some (s',ds',ps)) (hp:AllP ps) :
    ∃ c' w' fr' frs',SRel cf base w0 c' w' s' fr' frs'∧Steps cf.P (lone fr (frs++cs0) w) (lone fr' (frs'++cs0) w'):=by
  obtain ⟨hfr,hfrs,hm,hgl⟩:=hs
  have hmode:fr.mode=.run:=by rw [hfr.mode,hret]; rfl
  have hev:=Qe (cf:=cf) hfr.tmps hgl fr.defers
  obtain ⟨as,ts,hoo,hargs⟩:=Kg hop
  have hnd:=gT hop
  have hfv:=hev f
  have hargsR:=zy hev args
  unfold qf at hr
  simp only at hr
  split at hr
  · rename_i b hyl
    rw [hyl] at hfv; unfold Rel at hfv
    obtain ⟨hlv,hfe⟩:=hfv
    split at hr
    · rename_i l hl
      split at hr
      · rename_i hlen
        split at hr
        · rename_i ds0
          simp only [Option.some.injEq,Prod.mk.injEq] at hr
          obtain ⟨rfl,rfl,rfl⟩:=hr
          obtain ⟨hb1,hb2,us,hb3,hb4⟩:=hm.blk b _ hl
          have hsz:(as.map (({ tmps:=fr.tmps,defers:=fr.defers }:Act).eval)).size=l.params.size:=by
            simp [hargs] at hlen; simpa using hlen
          have hrun:(execOp (({ tmps:=fr.tmps,defers:=fr.defers }:Act).eval) o).run cf.P w =
              .ok (.round (c.ρ b) l.fn ((l.params.zip (as.map (({ tmps:=fr.tmps,defers:=fr.defers }:Act).eval))).foldl (fun tmps (x:Tmp × Value)=>tmps.setIfInBounds x.1 x.2) us.toArray) l.assign l.body) w:=by
            have hgo:(getObj (c.ρ b)).run cf.P w=.ok (.loop { state:=l.state,pending:=l.pending,fn:=l.fn,tmps:=us.toArray,params:=l.params,assign:=l.assign,body:=l.body,defers:=c.ρ l.defers }) w:=by
              simp [getObj,Sem.run,hb3]
            simp only [execOp,hoo,resolve,hfe,Deferred.ofValue,Sem.run_bind,Sem.run_pure,Result.andThen_ok,invoke,Instr.yield,Instr.getLoop,hgo,Array.empty_append]
            rw [if_neg (by simpa using hsz)]
            rfl
          have hst:=jb3 (cf:=cf) (frs:=frs++cs0) hmode htodo ho hw hnd hrun
          refine ⟨c,w,_,fr :: frs,⟨?_,⟨fr,frs,rfl,?_,hfrs⟩,hm,hgl⟩,.one hst⟩
          · refine ⟨rfl,?_,IRels.cons rfl (IRels.cons rfl (IRels.cons rfl rfl)),⟨fun d hd=>by simp [yA] at hd,rfl⟩,rfl,rfl,⟨hlv,rfl⟩⟩
            have:=qR l.params.toList hb4 hargsR
            simp only [Frame.round,yA]
            rw [← Array.foldl_toList]
            rw [hargs] at this ⊢
            simpa using this
          · exact FRel.toC ⟨hfr.fn,hfr.tmps,by rw [htodo]; exact IRels.cons ⟨is,rfl,his⟩ hk,hfr.defers,hfr.mode,hfr.kind,hfr.ro⟩
        · skip
          simp only [Option.some.injEq,Prod.mk.injEq] at hr
          obtain ⟨rfl,rfl,rfl⟩:=hr
          obtain ⟨hb1,hb2,us,hb3,hb4⟩:=hm.blk b _ hl
          have hsz:(as.map (({ tmps:=fr.tmps,defers:=fr.defers }:Act).eval)).size=l.params.size:=by
            simp [hargs] at hlen; simpa using hlen
          have hrun:(execOp (({ tmps:=fr.tmps,defers:=fr.defers }:Act).eval) o).run cf.P w =
              .ok (.round (c.ρ b) l.fn ((l.params.zip (as.map (({ tmps:=fr.tmps,defers:=fr.defers }:Act).eval))).foldl (fun tmps (x:Tmp × Value)=>tmps.setIfInBounds x.1 x.2) us.toArray) l.assign l.body) w:=by
            have hgo:(getObj (c.ρ b)).run cf.P w=.ok (.loop { state:=l.state,pending:=l.pending,fn:=l.fn,tmps:=us.toArray,params:=l.params,assign:=l.assign,body:=l.body,defers:=c.ρ l.defers }) w:=by
              simp [getObj,Sem.run,hb3]
            simp only [execOp,hoo,resolve,hfe,Deferred.ofValue,Sem.run_bind,Sem.run_pure,Result.andThen_ok,invoke,Instr.yield,Instr.getLoop,hgo,Array.empty_append]
            rw [if_neg (by simpa using hsz)]
            rfl
          have hst:=jb3 (cf:=cf) (frs:=frs++cs0) hmode htodo ho hw hnd hrun
          refine ⟨c,w,_,fr :: frs,⟨?_,⟨fr,frs,rfl,?_,hfrs⟩,hm,hgl⟩,.one hst⟩
          · refine ⟨rfl,?_,IRels.cons rfl (IRels.cons rfl (IRels.cons rfl rfl)),⟨fun d hd=>by simp [yA] at hd,rfl⟩,rfl,rfl,⟨hlv,rfl⟩⟩
            have:=qR l.params.toList hb4 hargsR
            simp only [Frame.round,yA]
            rw [← Array.foldl_toList]
            rw [hargs] at this ⊢
            simpa using this
          · exact FRel.toC ⟨hfr.fn,hfr.tmps,by rw [htodo]; exact IRels.cons ⟨is,rfl,his⟩ hk,hfr.defers,hfr.mode,hfr.kind,hfr.ro⟩
      · simp at hr
    · simp at hr
  · split at hr
    · simp at hr
    · rename_i g fs cs hcal
      obtain ⟨us,vs,hfe,hfs,hcs⟩:=KY hfv hcal
      have hall:Rels c w (fs++evs (evA cf s.fr.tmps) args++cs) (us++args.map (({ tmps:=fr.tmps,defers:=fr.defers }:Act).eval)++vs):=(hfs.append hargsR).append hcs
      have hrun0:=K8 (P:=cf.P) (av:=(({ tmps:=fr.tmps,defers:=fr.defers }:Act).eval)) hoo hfe w
      rw [← hargs] at hrun0
      split at hr
      · rename_i ds0
        split at hr
        · rename_i fr1 hen
          simp only [Option.some.injEq,Prod.mk.injEq] at hr
          obtain ⟨rfl,rfl,rfl⟩:=hr
          obtain ⟨e1,e2⟩:=KE hgl.2.1 hen hall
          have hst:=JQ (cf:=cf) (frs:=frs++cs0) hmode htodo ho hw hnd (hrun0.trans (e2 w))
          refine ⟨c,w,_,fr :: frs,⟨e1,⟨fr,frs,rfl,?_,hfrs⟩,hm,hgl⟩,.one hst⟩
          exact FRel.toC ⟨hfr.fn,hfr.tmps,by rw [htodo]; exact IRels.cons ⟨is,rfl,his⟩ hk,hfr.defers,hfr.mode,hfr.kind,hfr.ro⟩
        · simp at hr
      · rename_i as' r ds0
        split at hr
        · rename_i fc bs hcan hpass
          split at hr
          · rename_i hflat
            simp only [Option.some.injEq,Prod.mk.injEq] at hr
            obtain ⟨rfl,rfl,rfl⟩:=hr
            obtain ⟨hbs,hcall,_⟩:=hp
            subst hbs
            obtain ⟨fn,cd⟩:=fc
            obtain ⟨hcr,_,_⟩:=j8 hgl.2.1 hcan (us++args.map (({ tmps:=fr.tmps,defers:=fr.defers }:Act).eval)++vs).toArray w
            have hst:=JQ (cf:=cf) (frs:=frs++cs0) hmode htodo ho hw hnd (hrun0.trans hcr)
            obtain ⟨e,w',fr',⟨u,c',he,hle,hm',hru,hρ⟩,hcomes,_,hleave⟩:=Qn hm hgl hall (fun _=>rfl) hpass hflat hcall (fr :: (frs++cs0))
            subst he
            have hback:=step_leave_returned (P:=cf.P) (c:=fr) (cs:=frs++cs0) hleave
            have hfin:fr.finish u={ fr with tmps:=(({ tmps:=fr.tmps,defers:=fr.defers }:Act).put o.dst u).tmps,todo:=.inRegion ops is :: todo }:=by
              unfold Frame.finish
              rw [htodo]
              simp only [ho,Option.bind_some]
              cases o.dst <;> simp [Act.put]
            rw [hfin] at hback
            refine ⟨c',w',_,frs,⟨kF (FRel.mono hle hfr) (IRels.mono hle hk) his o.dst hru,FRels.mono hle hfrs,hm',GK.mono hle hgl⟩,?_⟩
            exact .head hst (Steps.trans hcomes (.one hback))
          · simp at hr
        · simp at hr
      · rename_i j ds0
        split at hr
        · rename_i kn hkn
          split at hr
          · rename_i hg
            rw [Bool.and_eq_true] at hg
            have hfr0:kn.fr=false:=by simpa using hg.2
            have hg:=beq_iff_eq.1 hg.1
            split at hr
            · rename_i fc bs hcan hpass
              split at hr
              · rename_i hflat
                simp only [Option.some.injEq,Prod.mk.injEq] at hr
                obtain ⟨rfl,rfl,rfl⟩:=hr
                obtain ⟨hbs,_⟩:=hp
                have hbs:bs=kn.args:=hbs
                have hcall:=(hgl.2.2 j kn hkn).plain hfr0
                rw [hg] at hcall
                subst hbs
                obtain ⟨fn,cd⟩:=fc
                obtain ⟨hcr,_,_⟩:=j8 hgl.2.1 hcan (us++args.map (({ tmps:=fr.tmps,defers:=fr.defers }:Act).eval)++vs).toArray w
                have hst:=JQ (cf:=cf) (frs:=frs++cs0) hmode htodo ho hw hnd (hrun0.trans hcr)
                obtain ⟨e,w',fr',⟨u,c',he,hle,hm',hru,hρ⟩,hcomes,_,hleave⟩:=Yi hm hgl hall (fun _=>rfl) hpass hflat hcall (fr :: (frs++cs0))
                subst he
                have hback:=step_leave_returned (P:=cf.P) (c:=fr) (cs:=frs++cs0) hleave
                have hfin:fr.finish u={ fr with tmps:=(({ tmps:=fr.tmps,defers:=fr.defers }:Act).put o.dst u).tmps,todo:=.inRegion ops is :: todo }:=by
                  unfold Frame.finish
                  rw [htodo]
                  simp only [ho,Option.bind_some]
                  cases o.dst <;> simp [Act.put]
                rw [hfin] at hback
                refine ⟨c',w',_,frs,⟨kF (FRel.mono hle hfr) (IRels.mono hle hk) his o.dst hru,FRels.mono hle hfrs,hm',GK.mono hle hgl⟩,?_⟩
                exact .head hst (Steps.trans hcomes (.one hback))
              · simp at hr
            · simp at hr
          · simp at hr
        · simp at hr
      · rename_i j ds0
        split at hr
        · rename_i kn hkn
          split at hr
          · rename_i hg
            have hg:=beq_iff_eq.1 hg
            split at hr
            · rename_i fc bs qs v fs wr hcan hpass hres
              simp only [Option.some.injEq,Prod.mk.injEq] at hr
              obtain ⟨rfl,rfl,rfl⟩:=hr
              obtain ⟨hbs,hp⟩:=hp
              have hbs:bs=kn.args:=hbs
              obtain ⟨hp1,hp⟩:=AllP.append hp
              obtain ⟨hp2,hp3⟩:=AllP.append hp
              have hkn':=hgl.2.2 j kn hkn
              subst hbs
              obtain ⟨fn,cd⟩:=fc
              obtain ⟨hcr,_,_⟩:=j8 hgl.2.1 hcan (us++args.map (({ tmps:=fr.tmps,defers:=fr.defers }:Act).eval)++vs).toArray w
              have hst:=JQ (cf:=cf) (frs:=frs++cs0) hmode htodo ho hw hnd (hrun0.trans hcr)
              have hm1:=hm.push 1
              have hnm:(s.H++List.replicate 1 ABlk.gone)[s.H.length]? = some .gone:=by simp
              obtain ⟨e,w',fr',⟨u,c',he,hle,hm',hru⟩,hcomes,_,hleave⟩:=zK hm1 hgl hall (fun _=>rfl) hpass hp1 hres hp2 hkn' hg hnm (fr :: (frs++cs0))
              subst he
              have hback:=step_leave_returned (P:=cf.P) (c:=fr) (cs:=frs++cs0) hleave
              have hfin:fr.finish u={ fr with tmps:=(({ tmps:=fr.tmps,defers:=fr.defers }:Act).put o.dst u).tmps,todo:=.inRegion ops is :: todo }:=by
                unfold Frame.finish
                rw [htodo]
                simp only [ho,Option.bind_some]
                cases o.dst <;> simp [Act.put]
              rw [hfin] at hback
              refine ⟨c',w',_,frs,⟨kF (FRel.mono hle hfr) (IRels.mono hle hk) his o.dst hru,FRels.mono hle hfrs,?_,GK.mono hle hgl⟩,?_⟩
              · simp only
                split
                · exact hm'.unpush (n:=1)
                · exact hm'.dropGone
              exact .head hst (Steps.trans hcomes (.one hback))
            · simp at hr
          · simp at hr
        · simp at hr
      · rename_i j ds0
        split at hr
        · rename_i kn hkn
          split at hr
          · rename_i hg
            have hg:=beq_iff_eq.1 hg
            split at hr
            · rename_i fc bs qs v fs hcan hpass hres
              simp only [Option.some.injEq,Prod.mk.injEq] at hr
              obtain ⟨rfl,rfl,rfl⟩:=hr
              obtain ⟨hbs,hp⟩:=hp
              have hbs:bs=kn.args:=hbs
              obtain ⟨hp1,hp⟩:=AllP.append hp
              obtain ⟨hp2,hp3⟩:=AllP.append hp
              have hkn':=hgl.2.2 j kn hkn
              subst hbs
              obtain ⟨fn,cd⟩:=fc
              obtain ⟨hcr,_,_⟩:=j8 hgl.2.1 hcan (us++args.map (({ tmps:=fr.tmps,defers:=fr.defers }:Act).eval)++vs).toArray w
              have hst:=JQ (cf:=cf) (frs:=frs++cs0) hmode htodo ho hw hnd (hrun0.trans hcr)
              obtain ⟨e,w',fr',⟨u,c',he,hle,hm',hru⟩,hcomes,_,hleave⟩:=zG hm hgl hall (fun _=>rfl) hpass hp1 hres hp2 hkn' hg (fr :: (frs++cs0))
              subst he
              have hback:=step_leave_returned (P:=cf.P) (c:=fr) (cs:=frs++cs0) hleave
              have hfin:fr.finish u={ fr with tmps:=(({ tmps:=fr.tmps,defers:=fr.defers }:Act).put o.dst u).tmps,todo:=.inRegion ops is :: todo }:=by
                unfold Frame.finish
                rw [htodo]
                simp only [ho,Option.bind_some]
                cases o.dst <;> simp [Act.put]
              rw [hfin] at hback
              refine ⟨c',w',_,frs,⟨kF (FRel.mono hle hfr) (IRels.mono hle hk) his o.dst hru,FRels.mono hle hfrs,hm',GK.mono hle hgl⟩,?_⟩
              exact .head hst (Steps.trans hcomes (.one hback))
            · simp at hr
          · simp at hr
        · simp at hr
      · rename_i ys ds0
        split at hr
        · rename_i b sz n cap ff hall0
          split at hr
          · rename_i fc cs t f' hcan hb hpf
            split at hr
            · simp at hr
            · rename_i hmf
              have hmf:jR [ff]=false:=by simpa using hmf
              simp only [Option.some.injEq,Prod.mk.injEq] at hr
              obtain ⟨rfl,rfl,rfl⟩:=hr
              obtain ⟨p1,p2,p3,p4,_⟩:=hp
              have hall':=hall
              rw [hall0] at hall'
              obtain ⟨fn,cd⟩:=fc
              obtain ⟨hcr,_,_⟩:=j8 hgl.2.1 hcan (us++args.map (({ tmps:=fr.tmps,defers:=fr.defers }:Act).eval)++vs).toArray w
              have hst:=JQ (cf:=cf) (frs:=frs++cs0) hmode htodo ho hw hnd (hrun0.trans hcr)
              obtain ⟨e,w',fr',⟨u,c',he,hle,hm',hru⟩,hcomes,_,hleave⟩:=YN hm hgl hall' (fun _=>rfl) hb hpf hmf p1 p2 p3 p4 (fr :: (frs++cs0))
              subst he
              have hback:=step_leave_returned (P:=cf.P) (c:=fr) (cs:=frs++cs0) hleave
              have hfin:fr.finish u={ fr with tmps:=(({ tmps:=fr.tmps,defers:=fr.defers }:Act).put o.dst u).tmps,todo:=.inRegion ops is :: todo }:=by
                unfold Frame.finish
                rw [htodo]
                simp only [ho,Option.bind_some]
                cases o.dst <;> simp [Act.put]
              rw [hfin] at hback
              refine ⟨c',w',_,frs,⟨kF (FRel.mono hle hfr) (IRels.mono hle hk) his o.dst hru,FRels.mono hle hfrs,hm',GK.mono hle hgl⟩,?_⟩
              exact .head hst (Steps.trans hcomes (.one hback))
          · simp at hr
        · simp at hr
      · rename_i ds0
        split at hr
        · rename_i nk hnk
          simp only [Option.some.injEq,Prod.mk.injEq] at hr
          obtain ⟨rfl,rfl,rfl⟩:=hr
          obtain ⟨hext,_⟩:=hp
          obtain ⟨u',w',hx,hw',hrel'⟩:=jaB hall hnk hext
          have hst:=qC (cf:=cf) (frs:=frs++cs0) hmode htodo ho hw hnd (.inl (hrun0.trans hx))
          have hd:Ctx.Le c w c w'∧WRel base (w0.on cf) c w' s.H:=by
            rcases hw' with rfl | rfl
            · exact ⟨Ctx.Le.refl c _,hm⟩
            · exact hm.drew
          exact ⟨c,w',_,frs,⟨kF (FRel.mono hd.1 hfr) (IRels.mono hd.1 hk) his o.dst (hrel' _ _ hd.1),FRels.mono hd.1 hfrs,hd.2,GK.mono hd.1 hgl⟩,.one hst⟩
        · simp at hr
      · rename_i v ds0
        split at hr
        · rename_i xs r hxs hlv
          simp only [Option.some.injEq,Prod.mk.injEq] at hr
          obtain ⟨rfl,rfl,rfl⟩:=hr
          obtain ⟨hext,_⟩:=hp
          have hxe:=hall.vals hxs
          rw [hxe] at hrun0
          have hst:=qC (cf:=cf) (frs:=frs++cs0) hmode htodo ho hw hnd (.inl (hrun0.trans (hext w)))
          exact ⟨c,w,_,frs,⟨kF hfr hk his o.dst (Q9 hlv),hfrs,hm,hgl⟩,.one hst⟩
        · simp at hr
      · skip
        split at hr
        · rename_i fr1 hen
          simp only [Option.some.injEq,Prod.mk.injEq] at hr
          obtain ⟨rfl,rfl,rfl⟩:=hr
          obtain ⟨e1,e2⟩:=KE hgl.2.1 hen hall
          have hst:=JQ (cf:=cf) (frs:=frs++cs0) hmode htodo ho hw hnd (hrun0.trans (e2 w))
          refine ⟨c,w,_,fr :: frs,⟨e1,⟨fr,frs,rfl,?_,hfrs⟩,hm,hgl⟩,.one hst⟩
          exact FRel.toC ⟨hfr.fn,hfr.tmps,by rw [htodo]; exact IRels.cons ⟨is,rfl,his⟩ hk,hfr.defers,hfr.mode,hfr.kind,hfr.ro⟩
        · simp at hr
theorem y9 {ops:Array Oper} {i:Nat} {o:Oper} (ho:ops[i]? = some o) {is:List Nat} (h:RegOk ops false i is):∃ is',is=i :: is'∧RegOk ops false (i+1) is':=by
  have hi:i<ops.size:=(Array.getElem?_eq_some_iff.1 ho).1
  unfold RegOk at h ⊢
  simp at h ⊢
  subst h
  have:ops.size - i=(ops.size - (i+1))+1:=by omega
  rw [this,List.range'_succ]
theorem jfS {s:ASt} (hret:s.fr.ret=false) {ops:Array Oper} {i:Nat} {o:Oper} {k:List AItem} (hst:s.fr.todo=.reg ops false i :: k) (ho:ops[i]? = some o)
    {ds ds':List Dec} {ps:List PC} {s':ASt} (hr:jeD cf s ops i o k ds=some (s',ds',ps)) (hp:AllP ps):Reach cf base w0 cs0 s s':=by
  intro c w fr frs hs
  have hs0:=hs
  obtain ⟨hfr,hfrs,hm,hgl⟩:=hs
  have hmode:fr.mode=.run:=by rw [hfr.mode,hret]; rfl
  have htd:=hfr.todo
  rw [hst] at htd
  obtain ⟨y,todo,htodo,⟨is,rfl,his⟩,hk⟩:=htd
  obtain ⟨is',rfl,his'⟩:=y9 ho his
  have hev:=Qe (cf:=cf) hfr.tmps hgl fr.defers
  unfold jeD at hr
  split at hr
  · simp at hr
  · rename_i ds1 ps1 hg
    simp only [Option.some.injEq,Prod.mk.injEq] at hr
    obtain ⟨rfl,rfl,rfl⟩:=hr
    have hw:=Q7 hfr.tmps hg hp
    have hstep:=jfp (cf:=cf) (w:=w) (frs:=frs++cs0) hmode htodo ho hw
    exact ⟨c,w,_,frs,⟨kF hfr hk his' o.dst GY,hfrs,hm,hgl⟩,.one hstep⟩
  · rename_i ds1 ps1 hg
    split at hr
    · rename_i f args hop
      have hps:AllP ps1:=by
        unfold qf at hr
        simp only at hr
        repeat' split at hr
        all_goals first
          | (simp at hr; done)
          | (simp only [Option.some.injEq,Prod.mk.injEq] at hr
             obtain ⟨_,_,rfl⟩:=hr
             first
               | exact hp
               | exact hp.2
               | exact hp.2.2
               | exact hp.2.2.2.2
               | exact (AllP.append (AllP.append hp.2).2).2)
      exact yQ hs0 hret ho htodo hk his' (Q7 hfr.tmps hg hps) hop hr hp
    · rename_i hop
      split at hr
      rename_i dc ds2 htk
      split at hr
      · rename_i r hr'
        simp only [jbz,jhx] at hr
        simp only [Option.some.injEq,Prod.mk.injEq] at hr
        obtain ⟨rfl,rfl,rfl⟩:=hr
        obtain ⟨hp1,hp2⟩:=AllP.append hp
        have hw:=Q7 hfr.tmps hg hp2
        have hm1:=hm.push 1
        have hnm:(s.H++List.replicate 1 ABlk.gone)[s.H.length]? = some .gone:=by simp
        have hok:=jmq (cf:=cf) (dc:=dc) hm1 (get:=fun b=>((s.H++[.gone])[b]?).getD .gone) (fun b=>rfl) hnm hev hr' hp1
        obtain ⟨w',c',v,hrun,hle,hm',hrel⟩:=hok
        have hnd:∀ c,o.op≠.defer c:=by
          intro cc hcc
          unfold jmh Yr aop at hr'
          rw [hcc] at hr'
          simp at hr'
        have hstep:=qC (cf:=cf) (frs:=frs++cs0) hmode htodo ho hw hnd hrun
        refine ⟨c',w',_,frs,⟨kF (FRel.mono hle hfr) (IRels.mono hle hk) his' o.dst hrel,FRels.mono hle hfrs,?_,GK.mono hle hgl⟩,.one hstep⟩
        simp only
        split
        · rename_i hwr
          rw [hwr] at hm'
          exact hm'.unpush (n:=1)
        · exact hm'.dropGone
      · simp at hr
end
end Go.Kv
