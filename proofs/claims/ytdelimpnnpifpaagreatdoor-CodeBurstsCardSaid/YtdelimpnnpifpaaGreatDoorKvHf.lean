import Derived.Test.YtdelimpnnpifpaaGreatDoorKvHe
import Derived.Maps.RangeRun
namespace Go.Kv
set_option linter.all false
open Go Go.RowKit
open Go.ChangeMaps (setBlock)
theorem MRelD.len {φ : Nat → Nat} {w : World} {k : IntKind} : ∀ {es : MID} {l : List MapEntry}, MRelD φ w k es l → l.length = es.length
  | [], l, h => by rw [show l = [] from h]; rfl
  | e :: es, l, h => by
    obtain ⟨x, r, rfl, _, _, h4⟩ := h
    rw [List.length_cons, List.length_cons, MRelD.len h4]
theorem MRelD.at {φ : Nat → Nat} {w : World} {k : IntKind} : ∀ {es : MID} {l : List MapEntry} (i : Nat) (x : MapEntry), MRelD φ w k es l → l[i]? = some x → i < es.length ∧ x.key = .int k (es.getD i (0, [])).1 ∧ ∃ us : List Value, x.val = .agg us.toArray ∧ RelDs φ w (es.getD i (0, [])).2 us
  | [], l, i, x, h, hx => by rw [show l = [] from h] at hx; simp at hx
  | e :: es, l, 0, x, h, hx => by
    obtain ⟨y, r, rfl, h1, h2, h4⟩ := h
    simp at hx; subst hx
    exact ⟨by simp, h1, h2⟩
  | e :: es, l, i + 1, x, h, hx => by
    obtain ⟨y, r, rfl, h1, h2, h4⟩ := h
    obtain ⟨k1, k2, k3⟩ := MRelD.at i x h4 (by simpa using hx)
    exact ⟨by simp; omega, by simpa using k2, by simpa using k3⟩
theorem stamped_nodup {ents : Array MapEntry} {clock : Nat} (h : Stamped ents clock) : (ents.toList.map (·.born)).Nodup := by
  have : ents.toList.map (·.born) = List.range ents.size := by
    apply List.ext_getElem?
    intro i
    rw [List.getElem?_map, Array.getElem?_toList]
    by_cases hi : i < ents.size
    · have hx : ents[i]? = some ents[i] := Array.getElem?_eq_getElem hi
      rw [hx, List.getElem?_range hi]
      exact congrArg some (h.2 i _ hx)
    · rw [Array.getElem?_eq_none (by omega), List.getElem?_eq_none (by simp; omega)]; rfl
  rw [this]; exact List.nodup_range
section
variable {cf : Cfg} {base : Nat} {w0 : Start} {c : Ctx} {w : World} {H : List ABlk} {get : Nat → ABlk}
theorem ItRel.noCells {i : AIter} {o : Obj} (h : ItRel c i o) : ∀ a t f, o ≠ .cells a t f := by
  intro a t f
  cases i with
  | si => rw [show o = _ from h]; exact fun h => nomatch h
  | it => rw [h.2]; exact fun h => nomatch h
theorem cell_none {w : World} {r : Nat} {o : Obj} {i : AIter} (h : ItRel c i o) (hh : w.heap[r]? = some o) (k : Nat) : w.cell? ⟨r, k, none⟩ = none := by
  cases i with
  | si => rw [show o = _ from h] at hh; simp [World.cell?, hh]
  | it => rw [h.2] at hh; simp [World.cell?, hh]
theorem WRel.putItr (h : WRel base w0 c w H) {b : Nat} {i i' : AIter} (h0 : H[b]? = some (.itr i)) (o : Obj) (ho : ItRel c i' o) :
    Ctx.Le c w c (World.putObj w (c.ρ b) o) ∧ WRel base w0 c (World.putObj w (c.ρ b) o) (H.set b (.itr i')) := by
  obtain ⟨hbase, o0, hh, hi0⟩ := h.blk b _ h0
  have hlt : c.ρ b < w.heap.size := (Array.getElem?_eq_some_iff.1 hh).1
  have hle : Ctx.Le c w c (World.putObj w (c.ρ b) o) := by
    refine ⟨fun _ h => h, fun _ _ => rfl, fun _ => Nat.le_refl _, fun _ h => h, fun _ _ => Nat.le_refl _, fun _ _ _ _ => ⟨rfl, rfl⟩, ?_, ?_⟩
    · intro bk k hk
      by_cases hb : bk = c.ρ b
      · subst hb
        rw [cell_none hi0 hh, cell_none ho (putObj_same w _ o hlt)]
      · exact World.cell?_of_block (putObj_other w _ bk _ hb)
    · rintro bk k ⟨cur, t, fr, h1, h3⟩
      by_cases hb : bk = c.ρ b
      · subst hb; rw [hh] at h1; simp only [Option.some.injEq] at h1; exact absurd h1 (hi0.noCells _ _ _)
      · exact ⟨cur, t, fr, by rw [putObj_other w _ bk _ hb]; exact h1, h3⟩
  refine ⟨hle, h.upd hle b (c.ρ b) (.itr i) (.itr i') h0 (.inr ⟨rfl, rfl⟩) rfl rfl ⟨rfl, Nat.le_refl _⟩ (by simp [World.putObj]) (fun i _ hi => putObj_other w _ i _ hi) (fun _ _ => rfl) ?_ (fun _ _ => ⟨rfl, rfl, rfl, rfl⟩) ?_ ?_ ⟨hbase, o, putObj_same w _ _ hlt, ho⟩ (fun _ => rfl)⟩
  · intro i hi; exact h.hi i (by simpa [World.putObj] using hi)
  · rw [h.live b, getD_live h0]; rfl
  · rw [h.tl b, h0]; rfl
def rangeItA (cf : Cfg) (t : TypeId) (x : AV) (get : Nat → ABlk) (nm : Nat) : Option ARes := match cf.P.underlying t, x with
  | some .string, .d (.v (.string s)) => some ⟨[], .ptr nm 0, [(nm, .itr (.si s 0))]⟩
  | some (.map _ _), .mp b => match get b with
    | .mp (.ia _ es) => some ⟨[], .ptr nm 0, [(nm, .itr (.it b es.length [] es.length))]⟩
    | _ => none
  | _, _ => none
theorem rangeItA_ok (h : WRel base w0 c w H) (hget : ∀ b, get b = (H[b]?).getD .gone) {nm : Nat} (hnm : H[nm]? = some .gone) {t : TypeId} {x : AV} {u : Value} (hx : Rel c w x u) {r : ARes} (hr : rangeItA cf t x get nm = some r) :
    ∃ w' c' v, (Instr.range t u).run cf.P w = .ok v w' ∧ Ctx.Le c w c' w' ∧ WRel base w0 c' w' (r.wr.foldl (fun H x => H.set x.1 x.2) H) ∧ Rel c' w' r.val v := by
  have hg : (c.new nm w.heap.size 0 0 false).live nm = true := by simp [Ctx.new]
  unfold rangeItA at hr
  split at hr
  · rename_i s ht
    simp only [Option.some.injEq] at hr; subst hr
    unfold Rel RelD at hx
    obtain ⟨rfl, _⟩ := hx
    have ha := h.alloc hnm (.stringIter s 0) 0 0 (.itr (.si s 0)) rfl (by
      refine ⟨by simp [Ctx.new, h.le], .stringIter s 0, ?_, rfl⟩
      simp only [Ctx.new, updN_same]
      exact heap_alloc_new w _)
    refine ⟨w.alloc (.stringIter s 0), _, .pointer (some ⟨w.heap.size, 0, none⟩), by simp [Instr.range, run_underlying ht, newObj]; rfl, ha.1, ha.2, ?_⟩
    unfold Rel
    exact ⟨by simp [Ctx.new, ABlk.isTail], by simp [Ctx.new]⟩
  · rename_i key elem b ht
    unfold Rel at hx
    obtain ⟨hl, rfl⟩ := hx
    split at hr
    · rename_i k es hgb
      simp only [Option.some.injEq] at hr; subst hr
      have hb : H[b]? = some (.mp (.ia k es)) := by
        rw [hget] at hgb
        cases hb : H[b]? with
        | none => rw [hb] at hgb; simp at hgb
        | some y => rw [hb] at hgb; simp at hgb; rw [hgb]
      obtain ⟨_, ents, clock, hh, he, hst⟩ := h.blk b _ hb
      have hlen : clock = es.length := by rw [hst.1, ← Array.length_toList, MRelD.len he]
      have hne : b ≠ nm := by intro e; subst e; rw [hb] at hnm; simp at hnm
      have ha := h.alloc hnm (.mapIter (some (c.ρ b)) clock #[] clock) 0 0 (.itr (.it b es.length [] es.length)) rfl (by
        refine ⟨by simp [Ctx.new, h.le], .mapIter (some (c.ρ b)) clock #[] clock, ?_, ?_, ?_⟩
        · simp only [Ctx.new, updN_same]
          exact heap_alloc_new w _
        · simp [Ctx.new, updN_ne _ _ hne, hl]
        · simp [Ctx.new, updN_ne _ _ hne, hlen])
      refine ⟨w.alloc (.mapIter (some (c.ρ b)) clock #[] clock), _, .pointer (some ⟨w.heap.size, 0, none⟩), ?_, ha.1, ha.2, ?_⟩
      · have hgo : (getObj (c.ρ b)).run cf.P w = .ok (.map ents clock) w := by simp [getObj, Sem.run, hh]
        simp [Instr.range, run_underlying ht, newObj, hgo]; rfl
      · unfold Rel
        exact ⟨by simp [Ctx.new, ABlk.isTail], by simp [Ctx.new]⟩
    · simp at hr
  · simp at hr
def cands (n : Nat) (rs : List Nat) : List Nat := (List.range n).filter fun j => !rs.contains j
theorem mem_cands {n : Nat} {rs : List Nat} {j : Nat} : j ∈ cands n rs ↔ j < n ∧ j ∉ rs := by
  unfold cands
  simp [List.mem_filter]
theorem next_cases {P : Program} (h : WRel base w0 c w H) {b m since last : Nat} {rs : List Nat} {kd : IntKind} {es : MID} (hb : H[b]? = some (.itr (.it m since rs last))) (hmb : H[m]? = some (.mp (.ia kd es)))
    (p1 : es.length = since) (p2 : es.length = last) (t : TypeId) :
    (cands es.length rs = [] ∧ (Instr.next (.pointer (some ⟨c.ρ b, 0, none⟩)) false t).run P w = .ok (.tuple #[.bool false]) w) ∨
    ∃ j, j ∈ cands es.length rs ∧ ∃ w' key val, (Instr.next (.pointer (some ⟨c.ρ b, 0, none⟩)) false t).run P w = .ok (.tuple #[.bool true, key, val]) w' ∧ Ctx.Le c w c w' ∧ WRel base w0 c w' (H.set b (.itr (.it m since (j :: rs) last))) := by
  obtain ⟨_, ob, hh, hlm, rfl⟩ := h.blk b _ hb
  obtain ⟨_, ents, clock, hme, he, hst0⟩ := h.blk m _ hmb
  have hlen : ents.size = es.length := by rw [← Array.length_toList, MRelD.len he]
  have hcl : clock = es.length := by rw [hst0.1, hlen]
  have hold : ∀ x ∈ ents.toList, x.born < since := by
    intro x hx
    obtain ⟨j, hj, rfl⟩ := List.getElem_of_mem hx
    have hj' : j < ents.size := by simpa using hj
    have := hst0.2 j ents[j] (Array.getElem?_eq_getElem hj')
    simp at this ⊢
    omega
  have hcon : ∀ j, (rs.reverse.toArray).contains j = rs.contains j := by intro j; simp
  rcases run_next_at (P := P) w t (c.ρ b) (c.ρ m) since last rs.reverse.toArray ents clock hh hme hold (by omega) with ⟨h0, hrun⟩ | ⟨e, hmem, w1, hal, hrun⟩
  · left
    refine ⟨?_, hrun⟩
    apply List.eq_nil_iff_forall_not_mem.2
    intro j hj
    obtain ⟨hj1, hj2⟩ := mem_cands.1 hj
    have hj' : j < ents.size := by omega
    have hbj := hst0.2 j ents[j] (Array.getElem?_eq_getElem hj')
    have : ents[j] ∈ leftOf ents rs.reverse.toArray := by
      unfold leftOf
      rw [Array.mem_filter]
      exact ⟨Array.getElem_mem hj', by rw [hbj, hcon]; simpa using hj2⟩
    rw [Array.eq_empty_of_size_eq_zero h0] at this
    simp at this
  · right
    obtain ⟨hme1, hne⟩ := Array.mem_filter.1 (by simpa [leftOf] using hmem : e ∈ ents.filter fun e => !(rs.reverse.toArray).contains e.born)
    obtain ⟨j, hj, rfl⟩ := Array.getElem_of_mem hme1
    have hbj := hst0.2 j ents[j] (Array.getElem?_eq_getElem hj)
    rw [hbj, hcon] at hne
    have hjc : j ∈ cands es.length rs := mem_cands.2 ⟨by omega, by simpa using hne⟩
    have hd : Ctx.Le c w c w1 ∧ WRel base w0 c w1 H := by
      rcases hal with rfl | rfl
      · exact ⟨Ctx.Le.refl c _, h⟩
      · exact h.drew
    have hit : ItRel c (.it m since (j :: rs) last) (.mapIter (some (c.ρ m)) since (rs.reverse.toArray.push ents[j].born) clock) := by
      refine ⟨hlm, ?_⟩
      rw [hbj, hcl, ← p2]
      simp
    obtain ⟨k1, k2⟩ := hd.2.putItr hb (i' := .it m since (j :: rs) last) _ hit
    exact ⟨j, hjc, _, _, _, hrun, Ctx.Le.trans hd.1 k1, k2⟩
def nextA (x : AV) (isS : Bool) (get : Nat → ABlk) (dc : Dec) : Option ARes := match x, isS with
  | .ptr b 0, true => match get b, dc with
    | .itr (.si s pos), .nx true => some ⟨[.ltN pos s.size], .tup [.d (.v (.bool true)), .d (.v (.int .i64 (pos : Int))), .d (.v (.int .i32 (Utf8.decode s pos).1))], [(b, .itr (.si s (pos + (Utf8.decode s pos).2)))]⟩
    | .itr (.si s pos), .nx false => some ⟨[.leN s.size pos], .tup [.d (.v (.bool false))], []⟩
    | .itr (.si s pos), _ => if pos < s.size then some ⟨[], .tup [.d (.v (.bool true)), .d (.v (.int .i64 (pos : Int))), .d (.v (.int .i32 (Utf8.decode s pos).1))], [(b, .itr (.si s (pos + (Utf8.decode s pos).2)))]⟩
      else some ⟨[], .tup [.d (.v (.bool false))], []⟩
    | _, _ => none
  | .ptr b 0, false => match get b with
    | .itr (.it m since rs last) => match get m with
      | .mp (.ia _ es) => match cands es.length rs with
        | [] => some ⟨[.eqN es.length since, .eqN es.length last], .tup [.d (.v (.bool false))], []⟩
        | [j] => some ⟨[.eqN es.length since, .eqN es.length last], .tup [.d (.v (.bool true)), .any, .any], [(b, .itr (.it m since (j :: rs) last))]⟩
        | _ => none
      | _ => none
    | _ => none
  | _, _ => none
theorem nextA_ok (h : WRel base w0 c w H) (hget : ∀ b, get b = (H[b]?).getD .gone) {t : TypeId} {x : AV} {u : Value} {isS : Bool} {dc : Dec} (hx : Rel c w x u) {r : ARes} (hr : nextA x isS get dc = some r) (hp : AllP r.pcs) :
    ∃ w' v, (Instr.next u isS t).run cf.P w = .ok v w' ∧ Ctx.Le c w c w' ∧ WRel base w0 c w' (r.wr.foldl (fun H x => H.set x.1 x.2) H) ∧ Rel c w' r.val v := by
  unfold nextA at hr
  split at hr
  · rename_i b
    unfold Rel at hx
    obtain ⟨hl, rfl⟩ := hx
    have rb (x : Bool) (w : World) : Rel c w (.d (.v (.bool x))) (.bool x) := by unfold Rel RelD; exact ⟨rfl, rfl⟩
    have ri (k : IntKind) (x : Int) (w : World) : Rel c w (.d (.v (.int k x))) (.int k x) := by unfold Rel RelD; exact ⟨rfl, rfl⟩
    have hG1 : ∀ {s : ByteArray} {pos : Nat}, get b = .itr (.si s pos) → H[b]? = some (.itr (.si s pos)) := by
      intro s pos hgb
      rw [hget] at hgb
      cases hb : H[b]? with
      | none => rw [hb] at hgb; simp at hgb
      | some y => rw [hb] at hgb; simp at hgb; rw [hgb]
    have yes : ∀ {s : ByteArray} {pos : Nat}, H[b]? = some (.itr (.si s pos)) → pos < s.size →
        ∃ w' v, (Instr.next (.pointer (some ⟨c.ρ b, 0, none⟩)) true t).run cf.P w = .ok v w' ∧ Ctx.Le c w c w' ∧ WRel base w0 c w' (H.set b (.itr (.si s (pos + (Utf8.decode s pos).2)))) ∧
          Rel c w' (.tup [.d (.v (.bool true)), .d (.v (.int .i64 (pos : Int))), .d (.v (.int .i32 (Utf8.decode s pos).1))]) v := by
      intro s pos hb hpos
      obtain ⟨_, o, hh, rfl⟩ := h.blk b _ hb
      have hgo : (getObj (c.ρ b)).run cf.P w = .ok (.stringIter s pos) w := by simp [getObj, Sem.run, hh]
      obtain ⟨k1, k2⟩ := h.putItr hb (i' := .si s (pos + (Utf8.decode s pos).2)) (.stringIter s (pos + (Utf8.decode s pos).2)) rfl
      refine ⟨_, .tuple #[.bool true, .int .i64 (pos : Int), .int .i32 (Utf8.decode s pos).1], ?_, k1, k2, ?_⟩
      · have hso : ∀ o, (setObj (c.ρ b) o).run cf.P w = .ok () (World.putObj w (c.ρ b) o) := by intro o; simp [setObj, Sem.run, hh, World.putObj]
        simp [Instr.next, hgo, hpos, hso, goInt]
      · unfold Rel
        exact ⟨[.bool true, .int .i64 (pos : Int), .int .i32 (Utf8.decode s pos).1], rfl, Rels.cons (rb _ _) (Rels.cons (ri _ _ _) (Rels.cons (ri _ _ _) Rels.nil))⟩
    have no : ∀ {s : ByteArray} {pos : Nat}, H[b]? = some (.itr (.si s pos)) → ¬ pos < s.size →
        ∃ w' v, (Instr.next (.pointer (some ⟨c.ρ b, 0, none⟩)) true t).run cf.P w = .ok v w' ∧ Ctx.Le c w c w' ∧ WRel base w0 c w' H ∧ Rel c w' (.tup [.d (.v (.bool false))]) v := by
      intro s pos hb hpos
      obtain ⟨_, o, hh, rfl⟩ := h.blk b _ hb
      have hgo : (getObj (c.ρ b)).run cf.P w = .ok (.stringIter s pos) w := by simp [getObj, Sem.run, hh]
      refine ⟨w, .tuple #[.bool false], ?_, Ctx.Le.refl c w, h, ?_⟩
      · simp [Instr.next, hgo, hpos]
      · unfold Rel
        exact ⟨[.bool false], rfl, Rels.cons (rb _ _) Rels.nil⟩
    split at hr
    · rename_i s pos hgb
      simp only [Option.some.injEq] at hr; subst hr
      exact yes (hG1 hgb) hp.1
    · rename_i s pos hgb
      simp only [Option.some.injEq] at hr; subst hr
      have hp1 : s.size ≤ pos := hp.1
      exact no (hG1 hgb) (by omega)
    · rename_i s pos hgb _ _
      split at hr
      · rename_i hpos
        simp only [Option.some.injEq] at hr; subst hr
        exact yes (hG1 hgb) hpos
      · rename_i hpos
        simp only [Option.some.injEq] at hr; subst hr
        exact no (hG1 hgb) hpos
    · simp at hr
  · rename_i b
    unfold Rel at hx
    obtain ⟨hl, rfl⟩ := hx
    have hG : ∀ b k, k ≠ .gone → get b = k → H[b]? = some k := by
      intro b k hk hgb
      rw [hget] at hgb
      cases hb : H[b]? with
      | none => rw [hb] at hgb; simp at hgb; exact absurd hgb.symm hk
      | some y => rw [hb] at hgb; simp at hgb; rw [hgb]
    have rb (x : Bool) (w : World) : Rel c w (.d (.v (.bool x))) (.bool x) := by unfold Rel RelD; exact ⟨rfl, rfl⟩
    split at hr
    · rename_i m since rs last hgb
      have hb := hG b (.itr (.it m since rs last)) (by intro e; cases e) hgb
      split at hr
      · rename_i k es hgm
        have hmb := hG m (.mp (.ia k es)) (by intro e; cases e) hgm
        split at hr
        · rename_i hc
          simp only [Option.some.injEq] at hr; subst hr
          obtain ⟨p1, p2, _⟩ := hp
          rcases next_cases (P := cf.P) h hb hmb p1 p2 t with ⟨_, hrun⟩ | ⟨j, hj, _⟩
          · refine ⟨w, _, hrun, Ctx.Le.refl c w, h, ?_⟩
            unfold Rel
            exact ⟨[.bool false], rfl, Rels.cons (rb _ _) Rels.nil⟩
          · rw [hc] at hj; simp at hj
        · rename_i j hc
          simp only [Option.some.injEq] at hr; subst hr
          obtain ⟨p1, p2, _⟩ := hp
          rcases next_cases (P := cf.P) h hb hmb p1 p2 t with ⟨h0, _⟩ | ⟨i, hi, w', key, val, hrun, k1, k2⟩
          · rw [hc] at h0; simp at h0
          · rw [hc] at hi
            obtain rfl : i = j := by simpa using hi
            refine ⟨w', _, hrun, k1, k2, ?_⟩
            unfold Rel
            exact ⟨[.bool true, key, val], rfl, Rels.cons (rb _ _) (Rels.cons (by unfold Rel; trivial) (Rels.cons (by unfold Rel; trivial) Rels.nil))⟩
        · simp at hr
      · simp at hr
    · simp at hr
  · simp at hr
def entryA (x : AV) (get : Nat → ABlk) (dc : Dec) : Option ARes := match x with
  | .ptr b 0 => match get b with
    | .itr (.it m _ (i :: _) last) => match get m, dc with
      | .mp (.ia k es), .as (.agg ys) => some ⟨[.eqN es.length last, .ltN i es.length, .prop ((es.getD i (0, [])).2.map AV.d = ys)], .tup [.d (.v (.int k (es.getD i (0, [])).1)), .agg ys], []⟩
      | _, _ => none
    | _ => none
  | _ => none
theorem entryA_ok (h : WRel base w0 c w H) (hget : ∀ b, get b = (H[b]?).getD .gone) {x : AV} {u : Value} (hx : Rel c w x u) {dc : Dec} {r : ARes} (hr : entryA x get dc = some r) (hp : AllP r.pcs) :
    ∃ v, (Instr.entry u).run cf.P w = .ok v w ∧ Rel c w r.val v ∧ r.wr = [] := by
  have hG : ∀ b k, k ≠ .gone → get b = k → H[b]? = some k := by
    intro b k hk hgb
    rw [hget] at hgb
    cases hb : H[b]? with
    | none => rw [hb] at hgb; simp at hgb; exact absurd hgb.symm hk
    | some y => rw [hb] at hgb; simp at hgb; rw [hgb]
  unfold entryA at hr
  split at hr
  · rename_i b
    unfold Rel at hx
    obtain ⟨hl, rfl⟩ := hx
    split at hr
    · rename_i m since i rs last hgb
      split at hr
      · rename_i k es ys hgm
        simp only [Option.some.injEq] at hr; subst hr
        obtain ⟨p1, p2, p3, _⟩ := hp
        have p1 : es.length = last := p1
        have p2 : i < es.length := p2
        have p3 : (es.getD i (0, [])).2.map AV.d = ys := p3
        obtain ⟨_, o, hh, hlm, rfl⟩ := h.blk b _ (hG b (.itr (.it m since (i :: rs) last)) (by intro e; cases e) hgb)
        obtain ⟨_, ents, clock, hm, he, hst⟩ := h.blk m _ (hG m (.mp (.ia k es)) (by intro e; cases e) hgm)
        have hlen : ents.size = es.length := by rw [← Array.length_toList, MRelD.len he]
        have hx : ents[i]? = some ents[i] := Array.getElem?_eq_getElem (by omega)
        have hborn := hst.2 i _ hx
        obtain ⟨_, hk, us, hv, hus⟩ := MRelD.at i ents[i] he (by simpa using hx)
        have hcl : clock = last := by rw [hst.1, hlen, p1]
        have hrev : (i :: rs).reverse.toArray = (rs.reverse.toArray).push ents[i].born := by rw [hborn]; simp
        rw [hrev] at hh
        subst hcl
        have hrun := run_entry_at (P := cf.P) w (c.ρ b) (c.ρ m) since rs.reverse.toArray ents clock ents[i] hh hm (by simp) (stamped_nodup hst)
        refine ⟨_, hrun, ?_, rfl⟩
        rw [hk, hv]
        unfold Rel
        refine ⟨[_, _], rfl, Rels.cons ?_ (Rels.cons ?_ Rels.nil)⟩
        · unfold Rel RelD; exact ⟨rfl, rfl⟩
        · rw [← p3]; unfold Rel; exact ⟨us, rfl, Rels.map_d hus⟩
      · simp at hr
    · simp at hr
  · simp at hr
end
end Go.Kv
