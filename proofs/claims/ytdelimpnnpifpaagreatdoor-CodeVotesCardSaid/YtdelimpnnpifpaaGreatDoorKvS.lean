import Derived.Test.YtdelimpnnpifpaaGreatDoorKvR
set_option linter.all false
namespace Go.Kv
open Go Go.RowKit
section
variable {cf : Cfg} {base : Nat} {w0 : Start} {cs0 : List Frame}
theorem RegOk.start {ops : Array Oper} (hd : decrB ops = true) (t : Nat) : RegOk ops true 0 (Region.schedule true ops t) := by
 simp only [RegOk, if_true]
 exact linExt_schedule hd t
theorem stepSp_ok {s : ASt} (hret : s.fr.ret = false) {ops : Array Oper} {i : Nat} {o : Oper} {k : List AItem} (hst : s.fr.todo = .reg ops false i :: k) (ho : ops[i]? = some o) {cc : Option Nat}
  {ds ds' : List Dec} {ps : List PC} {s' : ASt} (hr : stepSp cf s ops i o k cc ds = some (s', ds', ps)) (hp : AllP ps) : Reach cf base w0 cs0 s s' := by
 intro c w fr frs hs
 obtain ⟨hfr, hfrs, hm, hgl⟩ := hs
 have hmode : fr.mode = .run := by rw [hfr.mode, hret]; rfl
 have htd := hfr.todo
 rw [hst] at htd
 obtain ⟨y, todo, htodo, ⟨is, rfl, his⟩, hk⟩ := htd
 obtain ⟨is', rfl, his'⟩ := regOk_false ho his
 unfold stepSp at hr
 split at hr
 ·rename_i e he
  split at hr
  ·rename_i hwr
   simp only [Option.some.injEq, Prod.mk.injEq] at hr
   obtain ⟨rfl, rfl, rfl⟩ := hr
   have hmid : Mid cf base w0 c w s.fr s.cs k s.fr.tmps (s.H ++ List.replicate 1 .gone) ops (i :: is') fr frs :=
    ⟨⟨todo, htodo, hk⟩, hfr.tmps, hfr.fn, hfr.defers, hmode, hfr.kind, hfr.ro, hfrs, hm.push 1, hgl⟩
   obtain ⟨c', w', fr', ⟨⟨todo', m1, mk⟩, m2, m3, m4, m5, m6, m7, m8, m9, m10⟩, hsteps⟩ := mid_step (cs0 := cs0) hmid ho (nm := s.H.length) (by simp) (gd := none) (dc := .sp cc) (by simpa using he) hp
   rw [hwr] at m9
   refine ⟨c', w', fr', frs, ⟨⟨m3, m2, ?_, m4, by simp [hret, m5], m6, m7⟩, m8, m9.unpush, m10⟩, hsteps⟩
   rw [m1]
   exact IRels.cons ⟨is', rfl, his'⟩ mk
  ·simp at hr
 ·simp at hr
theorem astep_ok {s s' : ASt} {ds ds' : List Dec} {ps : List PC} (h : astep cf s ds = some (s', ds', ps)) (hp : AllP ps) : Reach cf base w0 cs0 s s' := by
 unfold astep at h
 cases hret : s.fr.ret with
 | true =>
  rw [hret] at h
  simp only at h
  intro c w fr frs hs
  obtain ⟨hfr, hfrs, hm, hgl⟩ := hs
  have hmode : fr.mode = .returning := by rw [hfr.mode, hret]; rfl
  have hdef := hfr.defers
  split at h
  ·rename_i d rest hd
   rw [hd] at hdef
   split at h
   ·rename_i hbl
    simp only [Option.some.injEq, Prod.mk.injEq] at h
    obtain ⟨rfl, _, _⟩ := h
    obtain ⟨hb1, hb2⟩ := hm.blk d _ hbl
    obtain ⟨hle, hm'⟩ := hm.putObj hbl rfl rfl hb2 (o' := .deferred none) (k' := .dead) (by simp) (by simp) rfl rfl rfl (fun _ => trivial) (by simp [ABlk.owns])
    have hstep : step cf.P (lone fr (frs ++ cs0) w) = .next (lone { fr with defers := rest.map fun d => { target := .collected (c.ρ d), args := #[] } } (frs ++ cs0) (w.putObj (c.ρ d) (.deferred none))) := by
     refine step_lone_go ?_
     have hdd := hdef.2
     simp only [List.map_cons] at hdd
     simp [stepG, unwind, hmode, hdd, Sem.runT_eq, run_takeDeferred hb2]
    exact ⟨c, _, { fr with defers := rest.map fun d => { target := .collected (c.ρ d), args := #[] } }, frs, ⟨⟨hfr.fn, Rels.mono hle hfr.tmps, IRels.mono hle hfr.todo, ⟨fun x hx => hdef.1 x (List.mem_cons_of_mem _ hx), rfl⟩, by simp [hmode, hret], hfr.kind, hfr.ro⟩, FRels.mono hle hfrs, hm', GK.mono hle hgl⟩, .one hstep⟩
   ·simp at h
  ·rename_i hd
   rw [hd] at hdef
   have hdef : fr.defers = [] := by simpa using hdef.2
   split at h
   ·rename_i f cs fn hcs hfn
    split at h
    ·rename_i v hv
     split at h
     ·rename_i f' hf'
      simp only [Option.some.injEq, Prod.mk.injEq] at h
      obtain ⟨rfl, _, _⟩ := h
      rw [hcs] at hfrs
      obtain ⟨y, ys, rfl, hy, hys⟩ := hfrs
      obtain ⟨u, hu, hrel⟩ := resultA_ok hm hfr.tmps hv
      have hl : fr.leaving cf.P w (.returned u) := ⟨hmode, hdef, hfr.kind, fn, by rw [hfr.fn]; exact hfn, hu⟩
      exact ⟨c, w, _, ys, ⟨finishA_ok hy hrel hf', hys, hm, hgl⟩, .one (step_leave_returned hl)⟩
     ·simp at h
    ·simp at h
   ·simp at h
 | false =>
  rw [hret] at h
  simp only at h
  cases htd : s.fr.todo with
  | nil =>
   rw [htd] at h
   intro c w fr frs hs
   have ht := hs.fr.todo
   rw [htd] at ht
   have ht : fr.todo = [] := ht
   exact leaveA_ok hs hret (.inl ⟨rfl, ht⟩) h
  | cons it k =>
   rw [htd] at h
   have key : ∀ (it : AItem) (todo' : List AItem), s.fr.todo = it :: k → s' = ⟨{ s.fr with todo := todo' }, s.cs, s.H⟩ →
     (∀ (c : Ctx) (w : World) (fr : Frame) (frs : List Frame) (y : Item) (ys : List Item), SRel cf base w0 c w s fr frs → fr.todo = y :: ys → IRel c it y → IRels c k ys → ∃ l', IRels c todo' l' ∧
      step cf.P (lone (fr.atR { tmps := fr.tmps, defers := fr.defers } (y :: ys)) (frs ++ cs0) w) = .next (lone (fr.atR { tmps := fr.tmps, defers := fr.defers } l') (frs ++ cs0) w)) → Reach cf base w0 cs0 s s' := by
    intro it todo' hit hs' hst c w fr frs hs
    have ht := hs.fr.todo
    rw [hit] at ht
    obtain ⟨y, ys, hy, h1, h2⟩ := ht
    obtain ⟨l', h3, h4⟩ := hst c w fr frs y ys hs hy h1 h2
    rw [hs']
    exact todo_step hs hret hy h3 h4
   cases it with
   | code cd =>
    cases cd with
    | skip => exact key _ _ htd (toA_inv h) fun c w fr frs y ys hs hy h1 h2 => by cases h1; exact ⟨_, h2, stepR_skip⟩
    | label l => exact key _ _ htd (toA_inv h) fun c w fr frs y ys hs hy h1 h2 => by cases h1; exact ⟨_, h2, stepR_label⟩
    | seq a b => exact key _ _ htd (toA_inv h) fun c w fr frs y ys hs hy h1 h2 => by cases h1; exact ⟨_, IRels.cons rfl (IRels.cons rfl h2), stepR_seq⟩
    | block id b => exact key _ _ htd (toA_inv h) fun c w fr frs y ys hs hy h1 h2 => by cases h1; exact ⟨_, IRels.cons rfl (IRels.cons rfl h2), stepR_block⟩
    | loop b => exact key _ _ htd (toA_inv h) fun c w fr frs y ys hs hy h1 h2 => by cases h1; exact ⟨_, IRels.cons rfl (IRels.cons rfl h2), stepR_loop⟩
    | scope b => exact key _ _ htd (toA_inv h) fun c w fr frs y ys hs hy h1 h2 => by cases h1; exact ⟨_, IRels.cons rfl (IRels.cons rfl h2), step_lone_go (by simp [stepG, stepG.exec, Frame.atR])⟩
    | ret =>
     intro c w fr frs hs
     have ht := hs.fr.todo
     rw [htd] at ht
     obtain ⟨y, ys, hy, h1, h2⟩ := ht
     cases h1
     exact leaveA_ok hs hret (.inr (.inl ⟨rfl, _, hy⟩)) h
    | cond x a b =>
     simp only at h
     split at h
     ·rename_i t r ds1 hx
      simp only [Option.some.injEq, Prod.mk.injEq] at h
      obtain ⟨hs', _, rfl⟩ := h
      have htr : t = r := hp.1
      refine key _ _ htd hs'.symm fun c w fr frs y ys hs hy h1 h2 => ?_
      cases h1
      have hev := evA_rel (cf := cf) hs.fr.tmps hs.glob fr.defers x
      rw [hx] at hev
      unfold Rel RelD at hev
      refine ⟨_, IRels.cons rfl h2, ?_⟩
      rw [stepR_cond hev.1, htr]
     ·rename_i t hx hnx
      simp only [Option.some.injEq, Prod.mk.injEq] at h
      obtain ⟨hs', _, _⟩ := h
      refine key _ _ htd hs'.symm fun c w fr frs y ys hs hy h1 h2 => ?_
      cases h1
      have hev := evA_rel (cf := cf) hs.fr.tmps hs.glob fr.defers x
      rw [hx] at hev
      unfold Rel RelD at hev
      refine ⟨_, IRels.cons rfl h2, ?_⟩
      rw [stepR_cond hev.1]
     ·simp at h
    | exit id =>
     simp only at h
     cases hx : exitA id k with
     | some k' =>
      rw [hx] at h
      refine key _ _ htd (toA_inv h) fun c w fr frs y ys hs hy h1 h2 => ?_
      cases h1
      obtain ⟨l', h3, h4⟩ := exitA_ok h2 hx
      exact ⟨l', h4, stepR_exit h3⟩
     | none =>
      rw [hx] at h
      simp only at h
      split at h
      ·intro c w fr frs hs
       have ht := hs.fr.todo
       rw [htd] at ht
       obtain ⟨y, ys, hy, h1, h2⟩ := ht
       cases h1
       exact leaveA_ok hs hret (.inr (.inr (.inl ⟨id, _, rfl, hy, exitA_none h2 hx⟩))) h
      ·simp at h
    | goto l =>
     simp only at h
     cases hx : gotoA l k with
     | some k' =>
      rw [hx] at h
      refine key _ _ htd (toA_inv h) fun c w fr frs y ys hs hy h1 h2 => ?_
      cases h1
      obtain ⟨l', h3, h4⟩ := gotoA_ok h2 hx
      exact ⟨l', h4, stepR_goto h3⟩
     | none =>
      rw [hx] at h
      simp only at h
      split at h
      ·intro c w fr frs hs
       have ht := hs.fr.todo
       rw [htd] at ht
       obtain ⟨y, ys, hy, h1, h2⟩ := ht
       cases h1
       exact leaveA_ok hs hret (.inr (.inr (.inr ⟨l, _, rfl, hy, gotoA_none h2 hx⟩))) h
      ·simp at h
    | rangeFunc f ps as bd =>
     intro c w fr frs hs
     have ht := hs.fr.todo
     rw [htd] at ht
     obtain ⟨y, ys, hy, h1, h2⟩ := ht
     cases h1
     exact rangeA_ok hs hret hy h2 h
    | region id ops draw =>
     simp only at h
     cases draw with
     | false =>
      simp only [Bool.false_eq_true, if_false] at h
      refine key _ _ htd (toA_inv h) fun c w fr frs y ys hs hy h1 h2 => ?_
      cases h1
      exact ⟨_, IRels.cons ⟨_, rfl, by simp [RegOk, List.range_eq_range']⟩ h2, stepR_region⟩
     | true =>
      simp only [if_true] at h
      split at h
      ·rename_i hc
       simp only [Bool.and_eq_true] at hc
       obtain ⟨hd, hf⟩ := hc
       have hs' := toA_inv h
       intro c w fr frs hs
       obtain ⟨hfr, hfrs, hm, hgl⟩ := hs
       have hmode : fr.mode = .run := by rw [hfr.mode, hret]; rfl
       have ht := hfr.todo
       rw [htd] at ht
       obtain ⟨y, ys, hy, h1, h2⟩ := ht
       cases h1
       have he := frame_atR hmode
       rw [hy] at he
       have hstep := stepR_region_draw (P := cf.P) (b := fr) (a := { tmps := fr.tmps, defers := fr.defers }) (k := ys) (cs := frs ++ cs0) (w := w) (ops := ops) (id := id)
       rw [← he, hf] at hstep
       obtain ⟨hle, hm'⟩ := hm.drew
       rw [hs']
       exact ⟨c, w.drew, fr.atR { tmps := fr.tmps, defers := fr.defers } (Item.inRegion ops (Region.schedule true ops (w.tape w.drawn (Question.order fr.fn id))) :: ys), frs, ⟨⟨hfr.fn, Rels.mono hle hfr.tmps, IRels.cons ⟨_, rfl, RegOk.start hd _⟩ (IRels.mono hle h2), hfr.defers, by simp [Frame.atR, hret], hfr.kind, hfr.ro⟩, FRels.mono hle hfrs, hm', GK.mono hle hgl⟩, .one hstep⟩
      ·simp at h
    | _ => simp at h
   | inBlock id => exact key _ _ htd (toA_inv h) fun c w fr frs y ys hs hy h1 h2 => by cases h1; exact ⟨_, h2, stepR_inBlock⟩
   | inScope b => exact key _ _ htd (toA_inv h) fun c w fr frs y ys hs hy h1 h2 => by cases h1; exact ⟨_, h2, step_lone_go (by simp [stepG, stepG.exec, Frame.atR])⟩
   | inLoop b => exact key _ _ htd (toA_inv h) fun c w fr frs y ys hs hy h1 h2 => by cases h1; exact ⟨_, IRels.cons rfl (IRels.cons rfl h2), stepR_inLoop⟩
   | beginRound =>
    simp only at h
    split at h
    ·rename_i b hb
     split at h
     ·rename_i l hbl
      split at h
      ·rename_i hst
       simp only [Option.some.injEq, Prod.mk.injEq] at h
       obtain ⟨rfl, _, _⟩ := h
       intro c w fr frs hs
       obtain ⟨hfr, hfrs, hm, hgl⟩ := hs
       have hmode : fr.mode = .run := by rw [hfr.mode, hret]; rfl
       have ht := hfr.todo
       rw [htd] at ht
       obtain ⟨y, ys, hy, h1, h2⟩ := ht
       cases h1
       have hro := hfr.ro
       rw [hb] at hro
       obtain ⟨r, hg, hs1, hp1, hset⟩ := hm.setLoop hbl .busy l.pending
       obtain ⟨hle, hm'⟩ := hset _ rfl
       have hrr : ({ r with state := .busy, pending := l.pending } : Loop) = { r with state := .busy } := by rw [← hp1]
       rw [hrr] at hle hm'
       have he := frame_atR hmode
       rw [hy] at he
       have hstep := stepR_beginRound (P := cf.P) (b := fr) (a := { tmps := fr.tmps, defers := fr.defers }) (k := ys) (cs := frs ++ cs0) hro.2 (run_beginRound hg (by rw [hs1, hst]))
       rw [← he] at hstep
       exact ⟨c, _, fr.atR { tmps := fr.tmps, defers := fr.defers } ys, frs, ⟨⟨hfr.fn, Rels.mono hle hfr.tmps, IRels.mono hle h2, hfr.defers, by simp [Frame.atR, hret], hfr.kind, hfr.ro⟩, FRels.mono hle hfrs, hm', GK.mono hle hgl⟩, .one hstep⟩
      ·simp at h
     ·simp at h
    ·simp at h
   | endRng b =>
    simp only at h
    split at h
    ·rename_i l hbl
     split at h
     ·simp at h
     ·rename_i hst
      simp only [Option.some.injEq, Prod.mk.injEq] at h
      obtain ⟨rfl, _, _⟩ := h
      intro c w fr frs hs
      obtain ⟨hfr, hfrs, hm, hgl⟩ := hs
      have hmode : fr.mode = .run := by rw [hfr.mode, hret]; rfl
      have ht := hfr.todo
      rw [htd] at ht
      obtain ⟨y, ys, hy, h1, h2⟩ := ht
      obtain ⟨_, rfl⟩ := h1
      obtain ⟨r, hg, hs1, hp1, hset⟩ := hm.setLoop hbl .exhausted l.pending
      obtain ⟨hle, hm'⟩ := hset _ rfl
      have hrr : ({ r with state := .exhausted, pending := l.pending } : Loop) = { r with state := .exhausted } := by rw [← hp1]
      rw [hrr] at hle hm'
      have he := frame_atR hmode
      rw [hy] at he
      have hstep := stepR_endRangeFunc (P := cf.P) (b := fr) (a := { tmps := fr.tmps, defers := fr.defers }) (k := ys) (cs := frs ++ cs0) (run_endLoop (P := cf.P) hg (by rw [hs1]; exact hst))
      rw [← he] at hstep
      refine ⟨c, _, fr.atR { tmps := fr.tmps, defers := fr.defers } ((r.pending.map Item.code).toList ++ ys), frs, ⟨⟨hfr.fn, Rels.mono hle hfr.tmps, ?_, hfr.defers, by simp [Frame.atR, hret], hfr.kind, hfr.ro⟩, FRels.mono hle hfrs, hm', GK.mono hle hgl⟩, .one hstep⟩
      show IRels c _ ((r.pending.map Item.code).toList ++ ys)
      rw [hp1]
      cases l.pending with
      | none => exact IRels.mono hle h2
      | some cd => exact IRels.cons rfl (IRels.mono hle h2)
    ·simp at h
   | reg ops draw lo =>
    simp only at h
    split at h
    ·rename_i hlo
     refine key _ _ htd (toA_inv h) fun c w fr frs y ys hs hy h1 h2 => ?_
     obtain ⟨is, rfl, his⟩ := h1
     have := regOk_draw his (by simpa using hlo)
     subst this
     exact ⟨_, h2, stepR_region_end⟩
    ·cases draw with
     | true =>
      simp only [if_true] at h
      exact stepSeg_ok hret htd h hp
     | false =>
      simp only [Bool.false_eq_true, if_false] at h
      split at h
      ·rename_i o ho
       split at h
       ·exact stepSp_ok hret htd ho h hp
       ·exact stepOp_ok hret htd ho h hp
      ·simp at h
   | _ => simp at h
end
end Go.Kv
