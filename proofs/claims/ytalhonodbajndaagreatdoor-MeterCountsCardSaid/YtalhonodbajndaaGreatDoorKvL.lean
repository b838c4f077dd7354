/- The soundness of the abstract machine's steps. -/
import Derived.Test.YtalhonodbajndaaGreatDoorKvK
namespace Go.Kv
set_option linter.unusedVariables false
set_option linter.unusedSimpArgs false
open Go Go.RowKit

section
variable {cf : Cfg} {base : Nat} {w0 : Start} {cs0 : List Frame} {c : Ctx} {w : World}

theorem callOf_spec {op : Op} {f : Operand} {args : List Operand} (h : callOf op = some (f, args)) : ∃ as ts, op = .call { callee := .value f, args := as, argTypes := ts } ∧ args = as.toList := by
  unfold callOf at h
  split at h
  · simp at h
    obtain ⟨rfl, rfl⟩ := h
    exact ⟨_, _, rfl, rfl⟩
  · simp at h

theorem setParams_ok : ∀ (ps : List Tmp) {ts : List AV} {us : Array Value} {as : List AV} {vs : List Value}, Rels c w ts us.toList → Rels c w as vs →
    Rels c w (setParams ts ps as) ((ps.zip vs).foldl (fun tmps (x : Tmp × Value) => tmps.setIfInBounds x.1 x.2) us).toList
  | [], ts, us, as, vs, h, _ => by simpa [setParams] using h
  | p :: ps, ts, us, [], vs, h, ha => by
    have : vs = [] := ha.nil_inv
    subst this
    simpa [setParams] using h
  | p :: ps, ts, us, a :: as, vs, h, ha => by
    obtain ⟨u, r, rfl, hu, t⟩ := ha.cons_inv
    simp only [setParams, List.zip_cons_cons, List.foldl_cons]
    exact setParams_ok ps (by simpa using h.set p hu) t

theorem nanArg_rel {as : List AV} {us : List Value} {k : FloatKind} (h : Rels c w as us) (hn : nanArg as = some k) : ∃ b, us = [.float k b] ∧ NanB k b := by
  unfold nanArg at hn
  split at hn
  · simp only [Option.some.injEq] at hn; subst hn
    obtain ⟨u, r, rfl, hu, t⟩ := h.cons_inv
    rw [t.nil_inv]
    unfold Rel at hu
    obtain ⟨b, rfl, hb⟩ := hu
    exact ⟨b, rfl, hb⟩
  · simp at hn
mutual
theorem flat_rel {c c' : Ctx} {w w' : World} : ∀ {a : AV} {u : Value}, flatA a = true → Rel c w a u → Rel c' w' a u
  | .d (.v x), u, _, h => by unfold Rel RelD at h ⊢; exact h
  | .d (.sl ..), _, hf, _ => by simp [flatA] at hf
  | .agg cs, u, hf, h => by
    unfold Rel at h ⊢
    obtain ⟨us, rfl, hs⟩ := h
    exact ⟨us, rfl, flats_rel (by simpa [flatA] using hf) hs⟩
  | .tup cs, u, hf, h => by
    unfold Rel at h ⊢
    obtain ⟨us, rfl, hs⟩ := h
    exact ⟨us, rfl, flats_rel (by simpa [flatA] using hf) hs⟩
  | .ptr .., _, hf, _ => by simp [flatA] at hf
  | .ip .., _, hf, _ => by simp [flatA] at hf
  | .own .., _, hf, _ => by simp [flatA] at hf
  | .ms .., _, hf, _ => by simp [flatA] at hf
  | .fn .., _, hf, _ => by simp [flatA] at hf
  | .yl .., _, hf, _ => by simp [flatA] at hf
  | .mp .., _, hf, _ => by simp [flatA] at hf
  | .em, _, hf, _ => by simp [flatA] at hf
  | .nan k, u, _, h => by unfold Rel at h ⊢; exact h
  | .opt .., _, hf, _ => by simp [flatA] at hf
  | .any, _, hf, _ => by simp [flatA] at hf
theorem flats_rel {c c' : Ctx} {w w' : World} : ∀ {as : List AV} {us : List Value}, flatAs as = true → Rels c w as us → Rels c' w' as us
  | [], us, _, h => by rw [h.nil_inv]; exact Rels.nil
  | a :: as, us, hf, h => by
    obtain ⟨u, r, rfl, hu, t⟩ := h.cons_inv
    simp [flatAs] at hf
    exact Rels.cons (flat_rel hf.1 hu) (flats_rel hf.2 t)
end

mutual
/-- What is related without names is related under any names. -/
theorem rel_ctx0 {c : Ctx} {w : World} : ∀ {a : AV} {u : Value}, Rel (ctx0 c.φ) w a u → Rel c w a u
  | .d x, u, h => by unfold Rel at h ⊢; exact h
  | .ip cs, u, h => by unfold Rel at h ⊢; exact h
  | .agg cs, u, h => by unfold Rel at h ⊢; obtain ⟨us, rfl, hs⟩ := h; exact ⟨us, rfl, rels_ctx0 hs⟩
  | .tup cs, u, h => by unfold Rel at h ⊢; obtain ⟨us, rfl, hs⟩ := h; exact ⟨us, rfl, rels_ctx0 hs⟩
  | .fn f fs cs, u, h => by unfold Rel at h ⊢; obtain ⟨h0, us, vs, rfl, h1, h2⟩ := h; exact ⟨h0, us, vs, rfl, rels_ctx0 h1, rels_ctx0 h2⟩
  | .ptr .., _, h => by unfold Rel at h; simp [ctx0] at h
  | .own .., _, h => by unfold Rel at h; simp [ctx0] at h
  | .ms .., _, h => by unfold Rel at h; simp [ctx0] at h
  | .yl .., _, h => by unfold Rel at h; simp [ctx0] at h
  | .mp .., _, h => by unfold Rel at h; simp [ctx0] at h
  | .em, _, h => by unfold Rel at h ⊢; exact h
  | .nan _, _, h => by unfold Rel at h ⊢; exact h
  | .opt b x, u, h => by unfold Rel at h ⊢; intro hb; exact rel_ctx0 (h hb)
  | .any, _, _ => by unfold Rel; trivial
theorem rels_ctx0 {c : Ctx} {w : World} : ∀ {as : List AV} {us : List Value}, Rels (ctx0 c.φ) w as us → Rels c w as us
  | [], us, h => by rw [h.nil_inv]; exact Rels.nil
  | a :: as, us, h => by obtain ⟨u, r, rfl, hu, t⟩ := h.cons_inv; exact Rels.cons (rel_ctx0 hu) (rels_ctx0 t)
end

theorem GlobOk.weaken {glob : Nat → Option (List DV)} {φ φ' : Nat → Nat} {w : World} (h : ∀ i, φ i ≤ φ' i) (hg : GlobOk glob w φ) : GlobOk glob w φ' := by
  intro g cs hc
  obtain ⟨us, h1, h2, h3⟩ := hg g cs hc
  exact ⟨us, Nat.le_trans h1 (h g), h2, RelDs.weaken h h3⟩

/-- A call by its contract. -/
theorem contract_ok {H : List ABlk} (hm : WRel base w0 c w H) (hgl : GK cf w c.φ) {g : FuncId} {all bs : List AV} {us : List Value} {r : AV} (hall : Rels c w all us) {get : Nat → ABlk} (hget : ∀ b, get b = (H[b]?).getD .gone) (hpass : passAs get all = some bs)
    (hflat : (!(hasMss all) || flatA r) = true) (hcall : PureCalls cf.P cf.glob g bs r) :
    Calls cf.P g us.toArray w fun e w' => ∃ u c', e = .returned u ∧ Ctx.Le c w c' w' ∧ WRel base w0 c' w' H ∧ Rel c' w' r u ∧ (∀ b, c'.ρ b = c.ρ b) := by
  by_cases hms : hasMss all = true
  · have hfl : flatA r = true := by simpa [hms] using hflat
    have hfz : ∀ i, w.heap.size ≤ i → frozeN w c.φ base i = 0 := by
      intro i hi
      unfold frozeN
      have h0 := hm.hi i hi
      have hle := hm.le
      rw [if_neg (by omega), Array.getElem?_eq_none (by omega)]
      exact h0
    refine (hcall w (frozeN w c.φ base) us hfz (hgl.1.weaken (frozeN_ge w c.φ base)) (passAs_ok hm hget (frozeN_ge w c.φ base) (fun _ _ => Nat.le_refl _) hpass hall)).mono ?_
    rintro e w' ⟨u, φ', he, hb, h1, h2, hr⟩
    have hext := hm.ext (φ' := fun i => if i < w.heap.size then c.φ i else φ' i) hb (fun i hi => by simp [hi]) (fun i hi => by
      have := hb.size
      rw [if_neg (by omega)]; exact h2 i hi)
    exact ⟨u, _, he, hext.1, hext.2, flat_rel hfl hr, fun _ => rfl⟩
  · have hms : hasMss all = false := by simpa using hms
    refine (hcall w c.φ us hm.hi hgl.1 (passAs_ok hm hget (fun _ => Nat.le_refl _) (fun h => by rw [hms] at h; simp at h) hpass hall)).mono ?_
    rintro e w' ⟨u, φ', he, hb, h1, h2, hr⟩
    have hext := hm.ext (φ' := φ') hb h1 h2
    exact ⟨u, _, he, hext.1, hext.2, rel_ctx0 hr, fun _ => rfl⟩

/-- Where a frame has gone on behind an operation's value. -/
theorem put_FRel {f : AFrame} {fr : Frame} (h : FRel c w f fr) {ops : Array Oper} {draw : Bool} {i : Nat} {k : List AItem} {is : List Nat} {todo : List Item} (hk : IRels c k todo) (his : RegOk ops draw (i + 1) is) (d : Option Tmp) {a : AV} {v : Value} (hr : Rel c w a v) :
    FRel c w { f with tmps := setT f.tmps d a, todo := .reg ops draw (i + 1) :: k } { fr with tmps := (({ tmps := fr.tmps, defers := fr.defers } : Act).put d v).tmps, todo := .inRegion ops is :: todo } :=
  ⟨h.fn, setT_rels h.tmps d hr _, IRels.cons ⟨is, rfl, his⟩ hk, h.defers, h.mode, h.kind, h.ro⟩

theorem no_defer {o : Oper} {f : Operand} {args : List Operand} (h : callOf o.op = some (f, args)) : ∀ c, o.op ≠ .defer c := by
  obtain ⟨as, ts, ho, _⟩ := callOf_spec h
  intro c hc; rw [ho] at hc; cases hc

theorem stepCall_ok {s : ASt} {fr : Frame} {frs : List Frame} (hs : SRel cf base w0 c w s fr frs) (hret : s.fr.ret = false) {ops : Array Oper} {draw : Bool} {i : Nat} {o : Oper} {k : List AItem} {is : List Nat} {todo : List Item}
    (ho : ops[i]? = some o) (htodo : fr.todo = .inRegion ops (i :: is) :: todo) (hk : IRels c k todo) (his : RegOk ops draw (i + 1) is) (hw : Region.wanted o (yielded ops fr.tmps) = true) {f : Operand} {args : List Operand} (hop : callOf o.op = some (f, args))
    {ds ds' : List Dec} {ps0 ps : List PC} {s' : ASt} (hr : stepCall cf s ops draw i o k f args ds ps0 = some (s', ds', ps)) (hp : AllP ps) :
    ∃ c' w' fr' frs', SRel cf base w0 c' w' s' fr' frs' ∧ Steps cf.P (lone fr (frs ++ cs0) w) (lone fr' (frs' ++ cs0) w') := by
  obtain ⟨hfr, hfrs, hm, hgl⟩ := hs
  have hmode : fr.mode = .run := by rw [hfr.mode, hret]; rfl
  have hev := evA_rel (cf := cf) hfr.tmps hgl fr.defers
  obtain ⟨as, ts, hoo, hargs⟩ := callOf_spec hop
  have hnd := no_defer hop
  have hfv := hev f
  have hargsR := evs_rel hev args
  unfold stepCall at hr
  simp only at hr
  split at hr
  · rename_i b hyl
    rw [hyl] at hfv; unfold Rel at hfv
    obtain ⟨hlv, hfe⟩ := hfv
    split at hr
    · rename_i l hl
      split at hr
      · rename_i hlen
        split at hr
        · rename_i ds0
          simp only [Option.some.injEq, Prod.mk.injEq] at hr
          obtain ⟨rfl, rfl, rfl⟩ := hr
          obtain ⟨hb1, hb2, us, hb3, hb4⟩ := hm.blk b _ hl
          have hsz : (as.map (({ tmps := fr.tmps, defers := fr.defers } : Act).eval)).size = l.params.size := by
            simp [hargs] at hlen; simpa using hlen
          have hrun : (execOp (({ tmps := fr.tmps, defers := fr.defers } : Act).eval) o).run cf.P w =
              .ok (.round (c.ρ b) l.fn ((l.params.zip (as.map (({ tmps := fr.tmps, defers := fr.defers } : Act).eval))).foldl (fun tmps (x : Tmp × Value) => tmps.setIfInBounds x.1 x.2) us.toArray) l.assign l.body) w := by
            have hgo : (getObj (c.ρ b)).run cf.P w = .ok (.loop { state := l.state, pending := l.pending, fn := l.fn, tmps := us.toArray, params := l.params, assign := l.assign, body := l.body, defers := c.ρ l.defers }) w := by
              simp [getObj, Sem.run, hb3]
            simp only [execOp, hoo, resolve, hfe, Deferred.ofValue, Sem.run_bind, Sem.run_pure, Result.andThen_ok, invoke, Instr.yield, Instr.getLoop, hgo, Array.empty_append]
            rw [if_neg (by simpa using hsz)]
            rfl
          have hst := op_round (cf := cf) (frs := frs ++ cs0) hmode htodo ho hw hnd hrun
          refine ⟨c, w, _, fr :: frs, ⟨?_, ⟨fr, frs, rfl, ?_, hfrs⟩, hm, hgl⟩, .one hst⟩
          · refine ⟨rfl, ?_, IRels.cons rfl (IRels.cons rfl (IRels.cons rfl rfl)), ⟨fun d hd => by simp [roundA] at hd, rfl⟩, rfl, rfl, ⟨hlv, rfl⟩⟩
            have := setParams_ok l.params.toList hb4 hargsR
            simp only [Frame.round, roundA]
            rw [← Array.foldl_toList]
            rw [hargs] at this ⊢
            simpa using this
          · exact ⟨hfr.fn, hfr.tmps, by rw [htodo]; exact IRels.cons ⟨is, rfl, his⟩ hk, hfr.defers, hfr.mode, hfr.kind, hfr.ro⟩
        · skip
          simp only [Option.some.injEq, Prod.mk.injEq] at hr
          obtain ⟨rfl, rfl, rfl⟩ := hr
          obtain ⟨hb1, hb2, us, hb3, hb4⟩ := hm.blk b _ hl
          have hsz : (as.map (({ tmps := fr.tmps, defers := fr.defers } : Act).eval)).size = l.params.size := by
            simp [hargs] at hlen; simpa using hlen
          have hrun : (execOp (({ tmps := fr.tmps, defers := fr.defers } : Act).eval) o).run cf.P w =
              .ok (.round (c.ρ b) l.fn ((l.params.zip (as.map (({ tmps := fr.tmps, defers := fr.defers } : Act).eval))).foldl (fun tmps (x : Tmp × Value) => tmps.setIfInBounds x.1 x.2) us.toArray) l.assign l.body) w := by
            have hgo : (getObj (c.ρ b)).run cf.P w = .ok (.loop { state := l.state, pending := l.pending, fn := l.fn, tmps := us.toArray, params := l.params, assign := l.assign, body := l.body, defers := c.ρ l.defers }) w := by
              simp [getObj, Sem.run, hb3]
            simp only [execOp, hoo, resolve, hfe, Deferred.ofValue, Sem.run_bind, Sem.run_pure, Result.andThen_ok, invoke, Instr.yield, Instr.getLoop, hgo, Array.empty_append]
            rw [if_neg (by simpa using hsz)]
            rfl
          have hst := op_round (cf := cf) (frs := frs ++ cs0) hmode htodo ho hw hnd hrun
          refine ⟨c, w, _, fr :: frs, ⟨?_, ⟨fr, frs, rfl, ?_, hfrs⟩, hm, hgl⟩, .one hst⟩
          · refine ⟨rfl, ?_, IRels.cons rfl (IRels.cons rfl (IRels.cons rfl rfl)), ⟨fun d hd => by simp [roundA] at hd, rfl⟩, rfl, rfl, ⟨hlv, rfl⟩⟩
            have := setParams_ok l.params.toList hb4 hargsR
            simp only [Frame.round, roundA]
            rw [← Array.foldl_toList]
            rw [hargs] at this ⊢
            simpa using this
          · exact ⟨hfr.fn, hfr.tmps, by rw [htodo]; exact IRels.cons ⟨is, rfl, his⟩ hk, hfr.defers, hfr.mode, hfr.kind, hfr.ro⟩
      · simp at hr
    · simp at hr
  · split at hr
    · simp at hr
    · rename_i g fs cs hcal
      obtain ⟨us, vs, hfe, hfs, hcs⟩ := calleeOf_ok hfv hcal
      have hall : Rels c w (fs ++ evs (evA cf s.fr.tmps) args ++ cs) (us ++ args.map (({ tmps := fr.tmps, defers := fr.defers } : Act).eval) ++ vs) := (hfs.append hargsR).append hcs
      have hrun0 := run_callValue (P := cf.P) (av := (({ tmps := fr.tmps, defers := fr.defers } : Act).eval)) hoo hfe w
      rw [← hargs] at hrun0
      split at hr
      · rename_i ds0
        split at hr
        · rename_i fr1 hen
          simp only [Option.some.injEq, Prod.mk.injEq] at hr
          obtain ⟨rfl, rfl, rfl⟩ := hr
          obtain ⟨e1, e2⟩ := enterA_ok hgl.2.1 hen hall
          have hst := op_enter (cf := cf) (frs := frs ++ cs0) hmode htodo ho hw hnd (hrun0.trans (e2 w))
          refine ⟨c, w, _, fr :: frs, ⟨e1, ⟨fr, frs, rfl, ?_, hfrs⟩, hm, hgl⟩, .one hst⟩
          exact ⟨hfr.fn, hfr.tmps, by rw [htodo]; exact IRels.cons ⟨is, rfl, his⟩ hk, hfr.defers, hfr.mode, hfr.kind, hfr.ro⟩
        · simp at hr
      · rename_i as' r ds0
        split at hr
        · rename_i fc bs hcan hpass
          split at hr
          · rename_i hflat
            simp only [Option.some.injEq, Prod.mk.injEq] at hr
            obtain ⟨rfl, rfl, rfl⟩ := hr
            obtain ⟨hbs, hcall, _⟩ := hp
            subst hbs
            obtain ⟨fn, cd⟩ := fc
            obtain ⟨hcr, _, _⟩ := canEnter_run hgl.2.1 hcan (us ++ args.map (({ tmps := fr.tmps, defers := fr.defers } : Act).eval) ++ vs).toArray w
            have hst := op_enter (cf := cf) (frs := frs ++ cs0) hmode htodo ho hw hnd (hrun0.trans hcr)
            obtain ⟨e, w', fr', ⟨u, c', he, hle, hm', hru, hρ⟩, hcomes, _, hleave⟩ := contract_ok hm hgl hall (fun _ => rfl) hpass hflat hcall (fr :: (frs ++ cs0))
            subst he
            have hback := step_leave_returned (P := cf.P) (c := fr) (cs := frs ++ cs0) hleave
            have hfin : fr.finish u = { fr with tmps := (({ tmps := fr.tmps, defers := fr.defers } : Act).put o.dst u).tmps, todo := .inRegion ops is :: todo } := by
              unfold Frame.finish
              rw [htodo]
              simp only [ho, Option.bind_some]
              cases o.dst <;> simp [Act.put]
            rw [hfin] at hback
            refine ⟨c', w', _, frs, ⟨put_FRel (FRel.mono hle hfr) (IRels.mono hle hk) his o.dst hru, FRels.mono hle hfrs, hm', GK.mono hle hgl⟩, ?_⟩
            exact .head hst (Steps.trans hcomes (.one hback))
          · simp at hr
        · simp at hr
      · rename_i j ds0
        split at hr
        · rename_i kn hkn
          split at hr
          · rename_i hg
            have hg := beq_iff_eq.1 hg
            split at hr
            · rename_i fc bs hcan hpass
              split at hr
              · rename_i hflat
                simp only [Option.some.injEq, Prod.mk.injEq] at hr
                obtain ⟨rfl, rfl, rfl⟩ := hr
                obtain ⟨hbs, _⟩ := hp
                have hbs : bs = kn.args := hbs
                have hcall := hgl.2.2 j kn hkn
                rw [hg] at hcall
                subst hbs
                obtain ⟨fn, cd⟩ := fc
                obtain ⟨hcr, _, _⟩ := canEnter_run hgl.2.1 hcan (us ++ args.map (({ tmps := fr.tmps, defers := fr.defers } : Act).eval) ++ vs).toArray w
                have hst := op_enter (cf := cf) (frs := frs ++ cs0) hmode htodo ho hw hnd (hrun0.trans hcr)
                obtain ⟨e, w', fr', ⟨u, c', he, hle, hm', hru, hρ⟩, hcomes, _, hleave⟩ := contract_ok hm hgl hall (fun _ => rfl) hpass hflat hcall (fr :: (frs ++ cs0))
                subst he
                have hback := step_leave_returned (P := cf.P) (c := fr) (cs := frs ++ cs0) hleave
                have hfin : fr.finish u = { fr with tmps := (({ tmps := fr.tmps, defers := fr.defers } : Act).put o.dst u).tmps, todo := .inRegion ops is :: todo } := by
                  unfold Frame.finish
                  rw [htodo]
                  simp only [ho, Option.bind_some]
                  cases o.dst <;> simp [Act.put]
                rw [hfin] at hback
                refine ⟨c', w', _, frs, ⟨put_FRel (FRel.mono hle hfr) (IRels.mono hle hk) his o.dst hru, FRels.mono hle hfrs, hm', GK.mono hle hgl⟩, ?_⟩
                exact .head hst (Steps.trans hcomes (.one hback))
              · simp at hr
            · simp at hr
          · simp at hr
        · simp at hr
      · rename_i ds0
        split at hr
        · rename_i nk hnk
          simp only [Option.some.injEq, Prod.mk.injEq] at hr
          obtain ⟨rfl, rfl, rfl⟩ := hr
          obtain ⟨hext, _⟩ := hp
          obtain ⟨b, hxe, hb⟩ := nanArg_rel hall hnk
          rw [hxe] at hrun0
          obtain ⟨b', w', hx, hb', hw'⟩ := hext b hb w
          have hst := op_value (cf := cf) (frs := frs ++ cs0) hmode htodo ho hw hnd (.inl (hrun0.trans hx))
          have hd : Ctx.Le c w c w' ∧ WRel base w0 c w' s.H := by
            rcases hw' with rfl | rfl
            · exact ⟨Ctx.Le.refl c _, hm⟩
            · exact hm.drew
          exact ⟨c, w', _, frs, ⟨put_FRel (FRel.mono hd.1 hfr) (IRels.mono hd.1 hk) his o.dst (by unfold Rel; exact ⟨b', rfl, hb'⟩), FRels.mono hd.1 hfrs, hd.2, GK.mono hd.1 hgl⟩, .one hst⟩
        · simp at hr
      · rename_i v ds0
        split at hr
        · rename_i xs r hxs hlv
          simp only [Option.some.injEq, Prod.mk.injEq] at hr
          obtain ⟨rfl, rfl, rfl⟩ := hr
          obtain ⟨hext, _⟩ := hp
          have hxe := hall.vals hxs
          rw [hxe] at hrun0
          have hst := op_value (cf := cf) (frs := frs ++ cs0) hmode htodo ho hw hnd (.inl (hrun0.trans (hext w)))
          exact ⟨c, w, _, frs, ⟨put_FRel hfr hk his o.dst (rel_liftV hlv), hfrs, hm, hgl⟩, .one hst⟩
        · simp at hr
      · skip
        split at hr
        · rename_i fr1 hen
          simp only [Option.some.injEq, Prod.mk.injEq] at hr
          obtain ⟨rfl, rfl, rfl⟩ := hr
          obtain ⟨e1, e2⟩ := enterA_ok hgl.2.1 hen hall
          have hst := op_enter (cf := cf) (frs := frs ++ cs0) hmode htodo ho hw hnd (hrun0.trans (e2 w))
          refine ⟨c, w, _, fr :: frs, ⟨e1, ⟨fr, frs, rfl, ?_, hfrs⟩, hm, hgl⟩, .one hst⟩
          exact ⟨hfr.fn, hfr.tmps, by rw [htodo]; exact IRels.cons ⟨is, rfl, his⟩ hk, hfr.defers, hfr.mode, hfr.kind, hfr.ro⟩
        · simp at hr

theorem regOk_false {ops : Array Oper} {i : Nat} {o : Oper} (ho : ops[i]? = some o) {is : List Nat} (h : RegOk ops false i is) : ∃ is', is = i :: is' ∧ RegOk ops false (i + 1) is' := by
  have hi : i < ops.size := (Array.getElem?_eq_some_iff.1 ho).1
  unfold RegOk at h ⊢
  simp at h ⊢
  subst h
  have : ops.size - i = (ops.size - (i + 1)) + 1 := by omega
  rw [this, List.range'_succ]

theorem stepOp_ok {s : ASt} (hret : s.fr.ret = false) {ops : Array Oper} {i : Nat} {o : Oper} {k : List AItem} (hst : s.fr.todo = .reg ops false i :: k) (ho : ops[i]? = some o)
    {ds ds' : List Dec} {ps : List PC} {s' : ASt} (hr : stepOp cf s ops i o k ds = some (s', ds', ps)) (hp : AllP ps) : Reach cf base w0 cs0 s s' := by
  intro c w fr frs hs
  have hs0 := hs
  obtain ⟨hfr, hfrs, hm, hgl⟩ := hs
  have hmode : fr.mode = .run := by rw [hfr.mode, hret]; rfl
  have htd := hfr.todo
  rw [hst] at htd
  obtain ⟨y, todo, htodo, ⟨is, rfl, his⟩, hk⟩ := htd
  obtain ⟨is', rfl, his'⟩ := regOk_false ho his
  have hev := evA_rel (cf := cf) hfr.tmps hgl fr.defers
  unfold stepOp at hr
  split at hr
  · simp at hr
  · rename_i ds1 ps1 hg
    simp only [Option.some.injEq, Prod.mk.injEq] at hr
    obtain ⟨rfl, rfl, rfl⟩ := hr
    have hw := guardA_ok hfr.tmps hg hp
    have hstep := op_skip (cf := cf) (w := w) (frs := frs ++ cs0) hmode htodo ho hw
    exact ⟨c, w, _, frs, ⟨put_FRel hfr hk his' o.dst undef_rel, hfrs, hm, hgl⟩, .one hstep⟩
  · rename_i ds1 ps1 hg
    split at hr
    · rename_i f args hop
      have hps : AllP ps1 := by
        unfold stepCall at hr
        simp only at hr
        repeat' split at hr
        all_goals first
          | (simp at hr; done)
          | (simp only [Option.some.injEq, Prod.mk.injEq] at hr
             obtain ⟨_, _, rfl⟩ := hr
             first
               | exact hp
               | exact hp.2
               | exact hp.2.2)
      exact stepCall_ok hs0 hret ho htodo hk his' (guardA_ok hfr.tmps hg hps) hop hr hp
    · rename_i hop
      split at hr
      rename_i dc ds2 htk
      split at hr
      · rename_i r hr'
        simp only [fAV_eq, fSp_eq] at hr
        simp only [Option.some.injEq, Prod.mk.injEq] at hr
        obtain ⟨rfl, rfl, rfl⟩ := hr
        obtain ⟨hp1, hp2⟩ := AllP.append hp
        have hw := guardA_ok hfr.tmps hg hp2
        have hm1 := hm.push 1
        have hnm : (s.H ++ List.replicate 1 ABlk.gone)[s.H.length]? = some .gone := by simp
        have hok := aop_ok (cf := cf) (dc := dc) hm1 (get := fun b => ((s.H ++ [.gone])[b]?).getD .gone) (fun b => rfl) hnm hev hr' hp1
        obtain ⟨w', c', v, hrun, hle, hm', hrel⟩ := hok
        have hnd : ∀ c, o.op ≠ .defer c := by
          intro cc hcc
          unfold aop at hr'
          rw [hcc] at hr'
          simp at hr'
        have hstep := op_value (cf := cf) (frs := frs ++ cs0) hmode htodo ho hw hnd hrun
        refine ⟨c', w', _, frs, ⟨put_FRel (FRel.mono hle hfr) (IRels.mono hle hk) his' o.dst hrel, FRels.mono hle hfrs, ?_, GK.mono hle hgl⟩, .one hstep⟩
        simp only
        split
        · rename_i hwr
          rw [hwr] at hm'
          exact hm'.unpush (n := 1)
        · exact hm'.dropGone
      · simp at hr
end
end Go.Kv
