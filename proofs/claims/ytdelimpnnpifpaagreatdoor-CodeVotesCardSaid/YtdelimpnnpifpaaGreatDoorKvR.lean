import Derived.Test.YtdelimpnnpifpaaGreatDoorKvP
import Derived.RangeFuncNested
set_option linter.all false
namespace Go.Kv
open Go Go.RowKit
section
variable {cf : Cfg} {base : Nat} {w0 : Start} {cs0 : List Frame} {c : Ctx} {w : World} {H : List ABlk}
theorem WRel.putObj (h : WRel base w0 c w H) {b : Nat} {k k' : ABlk} (h0 : H[b]? = some k) (ho : k.owns = true) (hlk : loc c b k = c.ρ b) {o o' : Obj} (hg : w.heap[c.ρ b]? = some o)
    (hnc : ∀ cs t f, o ≠ .cells cs t f) (hnc' : ∀ cs t f, o' ≠ .cells cs t f) (hlv : k'.isLive = true) (htl : k'.isTail = false) (htl0 : k.isTail = false)
    (hb : Ctx.Le c w c (w.putObj (c.ρ b) o') → BRel c (w.putObj (c.ρ b) o') base b k') (hlk' : k'.owns = true → loc c b k' = c.ρ b) :
    Ctx.Le c w c (w.putObj (c.ρ b) o') ∧ WRel base w0 c (w.putObj (c.ρ b) o') (H.set b k') := by
  have hlt : c.ρ b < w.heap.size := (Array.getElem?_eq_some_iff.1 hg).1
  have hle : Ctx.Le c w c (w.putObj (c.ρ b) o') := by
    refine ⟨fun _ h => h, fun _ _ => rfl, fun _ => Nat.le_refl _, fun _ h => h, fun _ _ => Nat.le_refl _, fun _ _ _ _ => ⟨rfl, rfl⟩, ?_, ?_⟩
    · intro bk x _
      by_cases hbk : bk = c.ρ b
      · subst hbk
        have h1 : (w.putObj (c.ρ b) o').heap[c.ρ b]? = some o' := World.putObj_heap_same hlt
        unfold World.cell?
        simp only [h1, hg]
        cases o <;> cases o' <;> first | rfl | exact absurd rfl (hnc _ _ _) | exact absurd rfl (hnc' _ _ _)
      · unfold World.cell?
        simp only [World.putObj_heap_other hbk]
    · rintro bk x ⟨cur, t, fr, hh, hx⟩
      have hbk : bk ≠ c.ρ b := by
        intro e; subst e
        rw [hg] at hh
        simp at hh
        exact hnc _ _ _ hh
      exact ⟨cur, t, fr, by rw [World.putObj_heap_other hbk]; exact hh, hx⟩
  have hkl : k.isLive = true := by cases k <;> simp [ABlk.owns, ABlk.isLive] at *
  refine ⟨hle, h.upd hle b (c.ρ b) k k' h0 (.inr ⟨ho, hlk.symm⟩) rfl rfl ⟨rfl, Nat.le_refl _⟩ (by simp) (fun i _ hi => World.putObj_heap_other hi) (fun _ _ => rfl) (fun i hi => h.hi i (by simpa using hi)) (fun _ _ => ⟨rfl, rfl, rfl, rfl⟩) ?_ ?_ (hb hle) hlk'⟩
  · rw [h.live b, h0]; simp [hkl, hlv]
  · rw [h.tl b, h0]; simp [htl0, htl]
theorem WRel.setLoop (h : WRel base w0 c w H) {b : Nat} {l : ALoop} (h0 : H[b]? = some (.loop l)) (st : LoopState) (pd : Option Code) :
    ∃ r, w.heap[c.ρ b]? = some (.loop r) ∧ r.state = l.state ∧ r.pending = l.pending ∧ ∀ r' : Loop, r' = { r with state := st, pending := pd } →
      Ctx.Le c w c (w.putObj (c.ρ b) (.loop r')) ∧ WRel base w0 c (w.putObj (c.ρ b) (.loop r')) (H.set b (.loop { l with state := st, pending := pd })) := by
  obtain ⟨h1, h2, us, h3, h4⟩ := h.blk b _ h0
  refine ⟨_, h3, rfl, rfl, fun r' hr' => ?_⟩
  subst hr'
  have hlt : c.ρ b < w.heap.size := (Array.getElem?_eq_some_iff.1 h3).1
  refine h.putObj h0 rfl rfl h3 (by simp) (by simp) rfl rfl rfl (fun hle => ⟨h1, h2, us, ?_, Rels.mono hle h4⟩) (fun _ => rfl)
  exact World.putObj_heap_same hlt
def LeaveForm (todo : List Item) (jump : Option Code) : Prop :=
  (jump = none ∧ todo = []) ∨ (jump = some .ret ∧ ∃ k, todo = .code .ret :: k) ∨ (∃ id k, jump = some (.exit id) ∧ todo = .code (.exit id) :: k ∧ exitTo id k = none) ∨
    (∃ l k, jump = some (.goto l) ∧ todo = .code (.goto l) :: k ∧ gotoIn l k = none)
theorem leave_none {fr : Frame} {cs : List Frame} (hm : fr.mode = .run) (hr : fr.roundOf = none) (h : fr.todo = [] ∨ ∃ k, fr.todo = .code .ret :: k) :
    step cf.P (lone fr cs w) = .next (lone { fr with mode := .returning } cs w) := by
  refine step_lone_go ?_
  rcases h with h | ⟨k, h⟩ <;> simp [stepG, stepG.exec, hm, hr, h]
theorem leave_round {fr f : Frame} {cs : List Frame} {jump : Option Code} {l : Nat} {v : Value} {w' : World} (hm : fr.mode = .run) (hk : fr.kind = .normal) (hr : fr.roundOf = some l) (h : LeaveForm fr.todo jump)
    (he : (Instr.endRound l jump).run cf.P w = .ok v w') :
    step cf.P (lone fr (f :: cs) w) = .next (lone (f.finish v) cs w') := by
  refine step_lone_go ?_
  rcases h with ⟨rfl, h⟩ | ⟨rfl, k, h⟩ | ⟨id, k, rfl, h, hx⟩ | ⟨id, k, rfl, h, hx⟩
  · simp [stepG, stepG.exec, hm, hr, h, hk, Sem.runT_eq, he, doReturn]
  · simp [stepG, stepG.exec, hm, hr, h, hk, Sem.runT_eq, he, doReturn]
  · simp [stepG, stepG.exec, hm, hr, h, hk, hx, Sem.runT_eq, he, doReturn]
  · simp [stepG, stepG.exec, hm, hr, h, hk, hx, Sem.runT_eq, he, doReturn]
theorem leaveA_ok {s s' : ASt} {fr : Frame} {frs : List Frame} (hs : SRel cf base w0 c w s fr frs) (hret : s.fr.ret = false) {jump : Option Code} (hf : LeaveForm fr.todo jump)
    {ds ds' : List Dec} {ps : List PC} (h : leaveA s jump ds = some (s', ds', ps)) :
    ∃ c' w' fr' frs', SRel cf base w0 c' w' s' fr' frs' ∧ Steps cf.P (lone fr (frs ++ cs0) w) (lone fr' (frs' ++ cs0) w') := by
  obtain ⟨hfr, hfrs, hm, hgl⟩ := hs
  have hmode : fr.mode = .run := by rw [hfr.mode, hret]; rfl
  have hro := hfr.ro
  unfold leaveA at h
  split at h
  · rename_i hr0
    rw [hr0] at hro
    have hro : fr.roundOf = none := hro
    have hform : fr.todo = [] ∨ ∃ k, fr.todo = .code .ret :: k := by
      rcases hf with ⟨rfl, hh⟩ | ⟨rfl, k, hh⟩ | ⟨id, k, rfl, hh, hx⟩ | ⟨id, k, rfl, hh, hx⟩
      · exact .inl hh
      · exact .inr ⟨k, hh⟩
      · simp at h
      · simp at h
    have hs' : s' = ⟨{ s.fr with ret := true }, s.cs, s.H⟩ := by
      split at h <;> simp at h
      · exact h.1.symm
      · exact h.1.symm
    subst hs'
    exact ⟨c, w, { fr with mode := .returning }, frs, ⟨⟨hfr.fn, hfr.tmps, hfr.todo, hfr.defers, rfl, hfr.kind, hfr.ro⟩, hfrs, hm, hgl⟩, .one (leave_none (cf := cf) hmode hro hform)⟩
  · rename_i b hb
    rw [hb] at hro
    obtain ⟨hlv, hro⟩ := hro
    split at h
    · rename_i f cs l hcs hbl
      split at h
      · rename_i f' hfin
        simp only [Option.some.injEq, Prod.mk.injEq] at h
        obtain ⟨rfl, _, _⟩ := h
        rw [hcs] at hfrs
        obtain ⟨y, ys, rfl, hy, hys⟩ := hfrs
        obtain ⟨r, hg, hst, hpd, hset⟩ := hm.setLoop hbl (if jump.isNone then .ready else .done) jump
        obtain ⟨hle, hm'⟩ := hset _ rfl
        have hend := run_endRound (P := cf.P) jump hg
        have hstep := leave_round (cf := cf) (f := y) (cs := ys ++ cs0) hmode hfr.kind hro hf hend
        exact ⟨c, _, _, ys, ⟨finishA_ok (FRel.mono hle hy) (rel_v rfl) hfin, FRels.mono hle hys, hm', GK.mono hle hgl⟩, .one hstep⟩
      · simp at h
    · simp at h
theorem todo_step {s : ASt} {fr : Frame} {frs : List Frame} (hs : SRel cf base w0 c w s fr frs) (hret : s.fr.ret = false) {todo : List AItem} {l l' : List Item} (hl : fr.todo = l) (hrel : IRels c todo l')
    (hstep : step cf.P (lone (fr.atR { tmps := fr.tmps, defers := fr.defers } l) (frs ++ cs0) w) = .next (lone (fr.atR { tmps := fr.tmps, defers := fr.defers } l') (frs ++ cs0) w)) :
    ∃ c' w' fr' frs', SRel cf base w0 c' w' ⟨{ s.fr with todo := todo }, s.cs, s.H⟩ fr' frs' ∧ Steps cf.P (lone fr (frs ++ cs0) w) (lone fr' (frs' ++ cs0) w') := by
  obtain ⟨hfr, hfrs, hm, hgl⟩ := hs
  have hmode : fr.mode = .run := by rw [hfr.mode, hret]; rfl
  have he := frame_atR hmode
  rw [hl] at he
  rw [← he] at hstep
  exact ⟨c, w, fr.atR { tmps := fr.tmps, defers := fr.defers } l', frs, ⟨⟨hfr.fn, hfr.tmps, hrel, hfr.defers, by simp [Frame.atR, hret], hfr.kind, hfr.ro⟩, hfrs, hm, hgl⟩, .one hstep⟩
theorem toA_inv {s s' : ASt} {todo : List AItem} {ds ds' : List Dec} {ps : List PC} (h : toA s todo ds = some (s', ds', ps)) : s' = ⟨{ s.fr with todo := todo }, s.cs, s.H⟩ := by
  unfold toA at h
  simp at h
  exact h.1.symm
theorem push2 (H : List ABlk) (x y : ABlk) : ((H ++ List.replicate 2 ABlk.gone).set H.length x).set (H.length + 1) y = H ++ [x, y] := by
  simp [List.replicate_succ, List.set_append]
theorem push1 (H : List ABlk) (x : ABlk) : (H ++ List.replicate 1 ABlk.gone).set H.length x = H ++ [x] := by
  simp
theorem range_callee {a : Act} {f : Operand} {l g : Nat} {us vs : List Value} (hf : a.eval f = .func (.func g) us.toArray vs.toArray) (w : World) :
    (resolve a.eval (rangeCall f l) 0).run cf.P w = .ok { target := .fn (.func g) vs.toArray, args := us.toArray ++ #[Value.func (.yield l) #[] #[]] } w := by
  simp only [resolve, hf, Deferred.ofValue, Sem.run_pure]
  simp [Act.eval]
theorem rangeA_ok {s s' : ASt} {fr : Frame} {frs : List Frame} (hs : SRel cf base w0 c w s fr frs) (hret : s.fr.ret = false) {f : Operand} {ps : Array Tmp} {as bd : Code} {k : List AItem} {todo : List Item}
    (htodo : fr.todo = .code (.rangeFunc f ps as bd) :: todo) (hk : IRels c k todo) {ds ds' : List Dec} {pcs : List PC} (h : rangeA cf s f ps as bd k ds = some (s', ds', pcs)) :
    ∃ c' w' fr' frs', SRel cf base w0 c' w' s' fr' frs' ∧ Steps cf.P (lone fr (frs ++ cs0) w) (lone fr' (frs' ++ cs0) w') := by
  obtain ⟨hfr, hfrs, hm, hgl⟩ := hs
  have hmode : fr.mode = .run := by rw [hfr.mode, hret]; rfl
  have he := frame_atR hmode
  rw [htodo] at he
  have hro := hfr.ro
  have key : ∀ (c' : Ctx) (w' : World) (H' : List ABlk) (b : Nat) (defers : List Nat) (mark : List Deferred), Ctx.Le c w c' w' → WRel base (w0.on cf) c' w' H' → c'.live b = true → DRel c' defers (mark ++ fr.defers) →
      (Instr.enterLoop fr.fn fr.tmps ps as bd fr.roundOf).run cf.P w = .ok (c'.ρ b, mark) w' →
      (match calleeOf (evA cf s.fr.tmps f) with
        | none => none
        | some (g, fs, cs) => match enterA cf.P g (fs ++ [.yl b] ++ cs) with
          | some fr => some ((⟨fr, { s.fr with todo := .inRng b :: k, defers := defers } :: s.cs, H'⟩ : ASt), ds, ([] : List PC))
          | none => none) = some (s', ds', pcs) →
      ∃ c' w' fr' frs', SRel cf base w0 c' w' s' fr' frs' ∧ Steps cf.P (lone fr (frs ++ cs0) w) (lone fr' (frs' ++ cs0) w') := by
    intro c' w' H' b defers mark hle hm' hlv hd hel h
    split at h
    · simp at h
    · rename_i g fs cs hc
      split at h
      · rename_i a ha
        simp only [Option.some.injEq, Prod.mk.injEq] at h
        obtain ⟨rfl, _, _⟩ := h
        have hev := Rel.mono hle (evA_rel (cf := cf) hfr.tmps hgl fr.defers f)
        obtain ⟨us, vs, hu, h1, h2⟩ := calleeOf_ok hev hc
        have hargs := (h1.append (Rels.cons (show Rel c' w' (.yl b) (.func (.yield (c'.ρ b)) #[] #[]) by unfold Rel; exact ⟨hlv, rfl⟩) Rels.nil)).append h2
        obtain ⟨hfa, hrun⟩ := enterA_ok hgl.2.1 ha hargs
        have hstep := stepR_rangeFunc (P := cf.P) (b := fr) (a := { tmps := fr.tmps, defers := fr.defers }) (k := todo) (cs := frs ++ cs0) hel (range_callee hu w') (by
          have hargs' : us.toArray ++ #[Value.func (.yield (c'.ρ b)) #[] #[]] ++ vs.toArray = (us ++ [Value.func (.yield (c'.ρ b)) #[] #[]] ++ vs).toArray := by
            apply Array.ext'; simp
          simp only [invoke, hargs']
          exact hrun w')
        rw [← he] at hstep
        refine ⟨c', w', _, _ :: frs, ⟨hfa, ⟨_, frs, rfl, ?_, FRels.mono hle hfrs⟩, hm', GK.mono hle hgl⟩, .one hstep⟩
        exact ⟨hfr.fn, Rels.mono hle hfr.tmps, IRels.cons ⟨hlv, rfl⟩ (IRels.mono hle hk), hd, by simp [Frame.atR, hret], hfr.kind, RoRel.mono hle hro⟩
      · simp at h
  unfold rangeA at h
  simp only at h
  split at h
  · simp at h
  rename_i H' b' defers' hr
  cases hr0 : s.fr.roundOf with
  | none =>
    rw [hr0] at hr hro
    have hro : fr.roundOf = none := hro
    simp only [Option.some.injEq, Prod.mk.injEq] at hr
    obtain ⟨rfl, rfl, rfl⟩ := hr
    have hm1 := hm.push 2
    have hnm : (s.H ++ List.replicate 2 ABlk.gone)[s.H.length]? = some .gone := by simp
    have ha := hm1.alloc hnm (.deferred (some [])) 0 0 .defd rfl (by
      refine ⟨by simp [Ctx.new, hm.le], ?_⟩
      simp only [Ctx.new, updN_same]
      exact heap_alloc_new w _)
    obtain ⟨hle1, hm2⟩ := ha
    have hnm2 : ((s.H ++ List.replicate 2 ABlk.gone).set s.H.length .defd)[s.H.length + 1]? = some .gone := by
      rw [List.getElem?_set_ne (by omega)]; simp
    have hle2' := hm2.le_new (live_gone hm2 hnm2) (.loop { state := .ready, pending := none, fn := fr.fn, tmps := fr.tmps, params := ps, assign := as, body := bd, defers := w.heap.size }) 0 0 false
    have hlv0 : (c.new s.H.length w.heap.size 0 0 ABlk.defd.isTail).live s.H.length = true := by simp [Ctx.new]
    have hb := hm2.alloc hnm2 (.loop { state := .ready, pending := none, fn := fr.fn, tmps := fr.tmps, params := ps, assign := as, body := bd, defers := w.heap.size }) 0 0
      (.loop { state := .ready, pending := none, fn := s.fr.fn, tmps := s.fr.tmps, params := ps, assign := as, body := bd, defers := s.H.length }) rfl (by
        refine ⟨by simp [Ctx.new]; have := hm.le; omega, hle2'.live _ hlv0, fr.tmps.toList, ?_, Rels.mono hle2' (Rels.mono hle1 hfr.tmps)⟩
        have hρ := hle2'.ρ _ hlv0
        simp only [ABlk.isTail] at hρ ⊢
        rw [hρ]
        simp only [Ctx.new, updN_same]
        rw [hfr.fn]
        exact heap_alloc_new _ _)
    obtain ⟨hle2, hm3⟩ := hb
    rw [push2] at hm3
    refine key _ _ _ (s.H.length + 1) _ [{ target := .collected w.heap.size, args := #[] }] (hle1.trans hle2) hm3 (by simp [Ctx.new]) ?_ ?_ h
    · refine ⟨?_, ?_⟩
      · intro d hd
        rcases List.mem_cons.1 hd with rfl | hd
        · exact hle2.live _ hlv0
        · exact hle2.live _ (hle1.live _ (hfr.defers.1 d hd))
      · simp only [List.map_cons]
        rw [hle2.ρ _ hlv0]
        have := (DRel.mono (hle1.trans hle2) hfr.defers).2
        rw [← this]
        simp [Ctx.new]
    · rw [hro, run_enterLoop_outer]
      simp [Ctx.new]
  | some b0 =>
    rw [hr0] at hr hro
    obtain ⟨hlv0, hro⟩ := hro
    simp only at hr
    cases hbl : s.H[b0]? with
    | none => rw [hbl] at hr; simp at hr
    | some kk =>
      rw [hbl] at hr
      cases kk with
      | loop l =>
        simp only [Option.some.injEq, Prod.mk.injEq] at hr
        obtain ⟨rfl, rfl, rfl⟩ := hr
        obtain ⟨hb1, hb2, us, hb3, hb4⟩ := hm.blk b0 _ hbl
        have hm1 := hm.push 1
        have hnm : (s.H ++ List.replicate 1 ABlk.gone)[s.H.length]? = some .gone := by simp
        have hle1' := hm1.le_new (live_gone hm1 hnm) (.loop { state := .ready, pending := none, fn := fr.fn, tmps := fr.tmps, params := ps, assign := as, body := bd, defers := c.ρ l.defers }) 0 0 false
        have hb := hm1.alloc hnm (.loop { state := .ready, pending := none, fn := fr.fn, tmps := fr.tmps, params := ps, assign := as, body := bd, defers := c.ρ l.defers }) 0 0
          (.loop { state := .ready, pending := none, fn := s.fr.fn, tmps := s.fr.tmps, params := ps, assign := as, body := bd, defers := l.defers }) rfl (by
            refine ⟨by simp [Ctx.new, hm.le], hle1'.live _ hb2, fr.tmps.toList, ?_, Rels.mono hle1' hfr.tmps⟩
            have hρ := hle1'.ρ _ hb2
            simp only [ABlk.isTail] at hρ ⊢
            rw [hρ]
            simp only [Ctx.new, updN_same]
            rw [hfr.fn]
            exact heap_alloc_new _ _)
        obtain ⟨hle1, hm2⟩ := hb
        rw [push1] at hm2
        refine key _ _ _ s.H.length _ [] hle1 hm2 (by simp [Ctx.new]) ?_ ?_ h
        · simpa using DRel.mono hle1 hfr.defers
        · rw [hro, run_enterLoop_inner hb3]
          simp [Ctx.new]
      | _ => simp at hr
theorem regOk_draw {ops : Array Oper} {draw : Bool} {lo : Nat} {is : List Nat} (h : RegOk ops draw lo is) (he : lo = ops.size) : is = [] := by
  subst he
  unfold RegOk at h
  split at h
  · cases is with
    | nil => rfl
    | cons i is => have := (h.mem i).1 (List.mem_cons_self ..); omega
  · simpa using h
theorem stepSeg_ok {s s' : ASt} (hret : s.fr.ret = false) {ops : Array Oper} {lo : Nat} {k : List AItem} (hst : s.fr.todo = .reg ops true lo :: k) {ds ds' : List Dec} {ps : List PC}
    (hr : stepSeg cf s ops lo k ds = some (s', ds', ps)) (hp : AllP ps) : Reach cf base w0 cs0 s s' := by
  intro c w fr frs hs
  obtain ⟨hfr, hfrs, hm, hgl⟩ := hs
  have hmode : fr.mode = .run := by rw [hfr.mode, hret]; rfl
  have htd := hfr.todo
  rw [hst] at htd
  obtain ⟨y, todo, htodo, ⟨is, rfl, his⟩, hk⟩ := htd
  have his : LinExt ops lo is := by simpa [RegOk] using his
  unfold stepSeg at hr
  split at hr
  · simp at hr
  · rename_i rs T H1 ds1 hseg
    split at hr
    · rename_i hchk
      simp only [Bool.and_eq_true] at hchk
      obtain ⟨hchk, hdec⟩ := hchk
      simp only at hr
      have hall : ∀ {qs : List PC}, AllP ((rs.flatMap fun r => r.eff.pcs) ++ qs) → (∀ r ∈ rs, AllP r.eff.pcs) ∧ AllP qs := by
        intro qs hq
        obtain ⟨h1, h2⟩ := AllP.append hq
        refine ⟨?_, h2⟩
        clear h2 hq hseg hchk hr
        induction rs with
        | nil => intro r hr; simp at hr
        | cons r rs ih =>
          intro x hx
          simp only [List.flatMap_cons] at h1
          obtain ⟨h3, h4⟩ := AllP.append h1
          rcases List.mem_cons.1 hx with rfl | hx
          · exact h3
          · exact ih h4 x hx
      have hmid : ∀ l, is = l → Mid cf base w0 c w s.fr s.cs k s.fr.tmps (s.H ++ List.replicate (ops.size - lo) .gone) ops l fr frs := by
        intro l hl
        subst hl
        exact ⟨⟨todo, htodo, hk⟩, hfr.tmps, hfr.fn, hfr.defers, hmode, hfr.kind, hfr.ro, hfrs, hm.push _, hgl⟩
      split at hr
      · rename_i hhi
        have hhi : lo + rs.length = ops.size := by simpa using hhi
        simp only [Option.some.injEq, Prod.mk.injEq] at hr
        obtain ⟨rfl, _, rfl⟩ := hr
        have hσ : SegOrd ops lo (lo + rs.length) is := ⟨his.nodup, by rw [hhi]; exact his.mem, his.order⟩
        obtain ⟨hp1, _⟩ := hall (qs := []) (by simpa using hp)
        obtain ⟨c', w', fr', hmid', hsteps⟩ := seg_all (cs0 := cs0) hseg hdec hchk hp1 hσ (rest := []) (hmid _ (by simp))
        obtain ⟨⟨todo', ht', hk'⟩, h2, h3, h4, h5, h6, h7, h8, h9, h10⟩ := hmid'
        have he := frame_atR h5
        rw [ht'] at he
        have hstep := stepR_region_end (P := cf.P) (b := fr') (a := { tmps := fr'.tmps, defers := fr'.defers }) (k := todo') (cs := frs ++ cs0) (w := w') (ops := ops)
        rw [← he] at hstep
        exact ⟨c', w', fr'.atR { tmps := fr'.tmps, defers := fr'.defers } todo', frs, ⟨⟨h3, h2, hk', h4, by simp [Frame.atR, hret], h6, h7⟩, h8, h9.dropGone, h10⟩, hsteps.trans (.one hstep)⟩
      · split at hr
        · rename_i hb
          split at hr
          · simp at hr
          · rename_i o ho
            have hhi : lo + rs.length < ops.size := (Array.getElem?_eq_some_iff.1 ho).1
            split at hr
            · rename_i ds2 ps2 hg
              split at hr
              · rename_i f args hop
                obtain ⟨σ, is', rfl, hσ, hl1, hl2⟩ := linExt_split hdec (by omega) hhi hb his
                have hpp : AllP ((rs.flatMap fun r => r.eff.pcs) ++ ps2) := by
                  unfold stepCall at hr
                  simp only at hr
                  repeat' split at hr
                  all_goals first
                    | (simp at hr; done)
                    | (simp only [Option.some.injEq, Prod.mk.injEq] at hr
                       obtain ⟨_, _, rfl⟩ := hr
                       first
                         | exact hp
                         | exact hp.2
                         | exact hp.2.2
                         | exact hp.2.2.2.2
                         | exact (AllP.append (AllP.append hp.2).2).2)
                obtain ⟨hp1, hp2⟩ := hall hpp
                obtain ⟨c', w', fr', hmid', hsteps⟩ := seg_all (cs0 := cs0) hseg hdec hchk hp1 hσ (rest := _ :: is') (hmid _ rfl)
                obtain ⟨⟨todo', ht', hk'⟩, h2, h3, h4, h5, h6, h7, h8, h9, h10⟩ := hmid'
                have hs1 : SRel cf base w0 c' w' ⟨{ s.fr with tmps := T, todo := .reg ops true (lo + rs.length) :: k }, s.cs, dropGone H1⟩ fr' frs :=
                  ⟨⟨h3, h2, by rw [ht']; exact IRels.cons ⟨_, rfl, by simpa [RegOk] using hl1⟩ hk', h4, by simp [hret, h5], h6, h7⟩, h8, h9.dropGone, h10⟩
                have hw := guardA_ok h2 hg hp2
                have hcall := stepCall_ok (cs0 := cs0) (s := ⟨{ s.fr with tmps := T, todo := .reg ops true (lo + rs.length) :: k }, s.cs, dropGone H1⟩) hs1 hret ho ht' hk' (draw := true) (by simpa [RegOk] using hl2) hw hop (s' := s') (ds := ds2) (ds' := ds') (ps0 := (rs.flatMap fun r => r.eff.pcs) ++ ps2) (ps := ps) (by exact hr) hp
                obtain ⟨c'', w'', fr'', frs'', hs2, hst2⟩ := hcall
                exact ⟨c'', w'', fr'', frs'', hs2, hsteps.trans hst2⟩
              · simp at hr
            · simp at hr
        · simp at hr
    · simp at hr
end
end Go.Kv
