import Derived.Test.YtfdjkfmiofgclaaGreatDoorKvV
namespace Go.Kv
set_option linter.all false
open Go Go.RowKit
open Go.ChangeMaps (setBlock)
def stNext (s : ASt) (ops : Array Oper) (i : Nat) (o : Oper) (k : List AItem) (v : AV) (H : List ABlk) : ASt :=
 { fr := { s.fr with tmps := setT s.fr.tmps o.dst v, todo := .reg ops false (i + 1) :: k }, cs := s.cs, H := H }
structure PkR where
 ps : List PC
 d : ASt
 g : Nat → ASt
 n : Nat
 rs : List Nat
def nextPk (cf : Cfg) (s : ASt) : Option PkR :=
 if s.fr.ret then none else
 match s.fr.todo with
 | .reg ops false i :: k => match ops[i]? with
  | some o => match o.op, o.guard with
   | .next x false, none => match evA cf s.fr.tmps x with
    | .ptr b 0 => match s.H[b]? with
     | some (.itr (.it m since rs last)) => match s.H[m]? with
      | some (.mp (.ia _ es)) => some ⟨[.eqN es.length since, .eqN es.length last], stNext s ops i o k (.tup [.d (.v (.bool false))]) s.H,
        fun j => stNext s ops i o k (.tup [.d (.v (.bool true)), .any, .any]) (s.H.set b (.itr (.it m since (j :: rs) last))), es.length, rs⟩
      | _ => none
     | _ => none
    | _ => none
   | _, _ => none
  | none => none
 | _ => none
def PickOk (cf : Cfg) (s : ASt) (L : List ASt) : Prop := ∀ base w0 cs0 c w fr frs, SRel cf base w0 c w s fr frs →
 ∃ s', s' ∈ L ∧ ∃ c' w' fr' frs', SRel cf base w0 c' w' s' fr' frs' ∧ Steps cf.P (lone fr (frs ++ cs0) w) (lone fr' (frs' ++ cs0) w')
theorem PickOk.step {cf : Cfg} {s s' : ASt} {L : List ASt} (hr : ∀ base w0 cs0, Reach cf base w0 cs0 s s') (h : PickOk cf s' L) : PickOk cf s L := by
 intro base w0 cs0 c w fr frs hs
 obtain ⟨c1, w1, fr1, frs1, h1, k1⟩ := hr base w0 cs0 c w fr frs hs
 obtain ⟨s2, hm, c2, w2, fr2, frs2, h2, k2⟩ := h base w0 cs0 c1 w1 fr1 frs1 h1
 exact ⟨s2, hm, c2, w2, fr2, frs2, h2, Steps.trans k1 k2⟩
theorem nextPk_ok {cf : Cfg} {s : ASt} {r : PkR} (h : nextPk cf s = some r) (hp : AllP r.ps) : PickOk cf s (if (cands r.n r.rs).isEmpty then [r.d] else (cands r.n r.rs).map r.g) := by
 intro base w0 cs0 c w fr frs hs
 obtain ⟨hfr, hfrs, hm, hgl⟩ := hs
 unfold nextPk at h
 split at h
 ·simp at h
 ·rename_i hret
  have hret : s.fr.ret = false := by simpa using hret
  split at h
  ·rename_i ops i k hst
   split at h
   ·rename_i o ho
    split at h
    ·rename_i x hop hgd
     split at h
     ·rename_i b hev0
      split at h
      ·rename_i m since rs last hb
       split at h
       ·rename_i kd es hmb
        simp only [Option.some.injEq] at h; subst h
        obtain ⟨p1, p2, _⟩ := hp
        have p1 : es.length = since := p1
        have p2 : es.length = last := p2
        have hmode : fr.mode = .run := by rw [hfr.mode, hret]; rfl
        have htd := hfr.todo
        rw [hst] at htd
        obtain ⟨y, todo, htodo, ⟨is, rfl, his⟩, hk⟩ := htd
        obtain ⟨is', rfl, his'⟩ := regOk_false ho his
        have hev := evA_rel (cf := cf) hfr.tmps hgl fr.defers
        have hgA : guardA ops s.fr.tmps o [] = some (true, [], []) := by unfold guardA; rw [hgd]
        have hw := guardA_ok hfr.tmps hgA trivial
        have hx := hev x
        rw [hev0] at hx
        unfold Rel at hx
        obtain ⟨hl, hxe⟩ := hx
        have hnd : ∀ c, o.op ≠ .defer c := by intro cc hcc; rw [hop] at hcc; cases hcc
        have rb (x : Bool) (c : Ctx) (w : World) : Rel c w (.d (.v (.bool x))) (.bool x) := by unfold Rel RelD; exact ⟨rfl, rfl⟩
        rcases next_cases (P := cf.P) hm hb hmb p1 p2 o.type with ⟨hc0, hrun⟩ | ⟨j, hjc, w', key, val, hrun, hle, k2⟩
        ·simp only [hc0, List.isEmpty_nil, if_true]
         have hrun' : (execOp (({ tmps := fr.tmps, defers := fr.defers } : Act).eval) o).run cf.P w = .ok (.value (.tuple #[.bool false])) w := by
          simp only [execOp, hop, hxe, Sem.run_bind, hrun]; rfl
         have hstep := op_value (cf := cf) (frs := frs ++ cs0) hmode htodo ho hw hnd (.inl hrun')
         refine ⟨_, List.mem_singleton.2 rfl, c, w, _, frs, ⟨put_FRel hfr hk his' o.dst (a := .tup [.d (.v (.bool false))]) ?_, hfrs, hm, hgl⟩, .one hstep⟩
         unfold Rel
         exact ⟨[.bool false], rfl, Rels.cons (rb _ _ _) Rels.nil⟩
        ·have hc1 : (cands es.length rs).isEmpty = false := by
          cases hz : cands es.length rs with
          | nil => rw [hz] at hjc; simp at hjc
          | cons => rfl
         simp only [hc1, Bool.false_eq_true, if_false]
         have hrun' : (execOp (({ tmps := fr.tmps, defers := fr.defers } : Act).eval) o).run cf.P w = .ok (.value (.tuple #[.bool true, key, val])) w' := by
          simp only [execOp, hop, hxe, Sem.run_bind, hrun]; rfl
         have hstep := op_value (cf := cf) (frs := frs ++ cs0) hmode htodo ho hw hnd (.inl hrun')
         refine ⟨_, List.mem_map.2 ⟨j, hjc, rfl⟩, c, _, _, frs, ⟨put_FRel (FRel.mono hle hfr) (IRels.mono hle hk) his' o.dst (a := .tup [.d (.v (.bool true)), .any, .any]) ?_, FRels.mono hle hfrs, k2, GK.mono hle hgl⟩, .one hstep⟩
         unfold Rel
         exact ⟨[.bool true, key, val], rfl, Rels.cons (rb _ _ _) (Rels.cons (by unfold Rel; trivial) (Rels.cons (by unfold Rel; trivial) Rels.nil))⟩
       ·simp at h
      ·simp at h
     ·simp at h
    ·simp at h
   ·simp at h
  ·simp at h
def Surely (cf : Cfg) (f : FuncId) (s : ASt) (r : AV) : Prop :=
 ∀ base w0 cs0 c w fr frs, SRel cf base w0 c w s fr frs → ∃ s' v, outA cf f s' = some v ∧ weakA v = r ∧ ∃ c' w' fr' frs', SRel cf base w0 c' w' s' fr' frs' ∧ Steps cf.P (lone fr (frs ++ cs0) w) (lone fr' (frs' ++ cs0) w')
theorem Surely.of_fin {cf : Cfg} {f : FuncId} {s : ASt} {r : AV} (h : FinW cf f s r) : Surely cf f s r := by
 obtain ⟨v, ⟨s', h1, h2⟩, h3⟩ := h
 intro base w0 cs0 c w fr frs hs
 exact ⟨s', v, h2, h3, h1 base w0 cs0 c w fr frs hs⟩
theorem Surely.pick {cf : Cfg} {f : FuncId} {s : ASt} {r : AV} {L : List ASt} (h : PickOk cf s L) (ha : ∀ s' ∈ L, Surely cf f s' r) : Surely cf f s r := by
 intro base w0 cs0 c w fr frs hs
 obtain ⟨s1, hm, c1, w1, fr1, frs1, h1, k1⟩ := h base w0 cs0 c w fr frs hs
 obtain ⟨s2, v, h2, h3, c2, w2, fr2, frs2, h4, k2⟩ := ha s1 hm base w0 cs0 c1 w1 fr1 frs1 h1
 exact ⟨s2, v, h2, h3, c2, w2, fr2, frs2, h4, Steps.trans k1 k2⟩
theorem Surely.step {cf : Cfg} {f : FuncId} {s s' : ASt} {r : AV} (hr : ∀ base w0 cs0, Reach cf base w0 cs0 s s') (h : Surely cf f s' r) : Surely cf f s r :=
 Surely.pick (L := [s']) (fun base w0 cs0 c w fr frs hs => ⟨s', List.mem_singleton.2 rfl, hr base w0 cs0 c w fr frs hs⟩) (fun x hx => by rw [List.mem_singleton.1 hx]; exact h)
theorem Surely.pure {cf : Cfg} (hK : KnowOk cf.P cf.glob cf.K) {f : FuncId} {args : List AV} {a : AFrame} (ha : enterA cf.P f args = some a) {res : AV} (h : Surely cf f ⟨a, [], []⟩ res) :
  PureCalls cf.P cf.glob f args res := by
 intro w φ us hφ hgl hargs cs
 have hm0 : WRel w.heap.size ⟨w, φ⟩ (ctx0 φ) w [] := ⟨Below.refl _ _, Nat.le_refl _, by simp, by simp [ctx0], by simp [ctx0], by simp, hφ, fun _ _ => rfl⟩
 obtain ⟨hfr0, _⟩ := enterA_ok hK.1 ha hargs
 obtain ⟨s', v0, ho, hwk, c', w', fr', frs', ⟨hfr, hfrs, hm, hgl'⟩, hsteps⟩ := h w.heap.size ⟨w, φ⟩ cs (ctx0 φ) w _ [] ⟨hfr0, rfl, hm0, hgl, hK⟩
 unfold outA at ho
 split at ho
 ·rename_i hc
  simp only [Bool.and_eq_true, List.isEmpty_iff, beq_iff_eq] at hc
  obtain ⟨⟨⟨hret, hdef⟩, hcs⟩, hfn⟩ := hc
  split at ho
  ·rename_i fn hf
   split at ho
   ·rename_i v hv
    obtain ⟨u, hu, hrel⟩ := resultA_ok hm hfr.tmps hv
    rw [hcs] at hfrs
    have hfrs : frs' = [] := hfrs
    subst hfrs
    have hd := hfr.defers
    rw [hdef] at hd
    have hd' : fr'.defers = [] := by simpa using hd.2
    have hmode : fr'.mode = .returning := by rw [hfr.mode, hret]; rfl
    have hle' := hm.le
    refine ⟨.returned u, w', fr', ⟨u, frozeN w' c'.φ w.heap.size, rfl, hm.below, ?_, ?_, ?_⟩, hsteps, hfr.fn.trans hfn, ⟨hmode, hd', hfr.kind, fn, by rw [hfr.fn, hfn]; exact hf, hu⟩⟩
    ·intro i hi
     have h1 := hm.lo i hi
     show frozeN w' c'.φ w.heap.size i = φ i
     unfold frozeN
     rw [if_pos hi]; exact h1
    ·intro i hi
     unfold frozeN
     have h0 := hm.hi i hi
     rw [if_neg (by omega), Array.getElem?_eq_none (by omega)]
     exact h0
    ·rw [← hwk]
     exact weakA_ok (passA_ok hm (fun _ => rfl) (frozeN_ge w' c'.φ _) (fun _ _ => Nat.le_refl _) ho hrel)
   ·simp at ho
  ·simp at ho
 ·simp at ho
section
variable {σ ρ : Type}
inductive SRuns (B : σ → Tr σ ρ) (Pk : σ → Option (Prop × List σ)) : σ → ρ → Prop where
 | ret {s : σ} {r : ρ} : (B s).sem = some (.inr r) → SRuns B Pk s r
 | nxt {s s' : σ} {r : ρ} : (B s).sem = some (.inl s') → SRuns B Pk s' r → SRuns B Pk s r
 | pick {s : σ} {r : ρ} {q : Prop} {l : List σ} : Pk s = some (q, l) → (B s).sem = none → q → l ≠ [] → (∀ s' ∈ l, SRuns B Pk s' r) → SRuns B Pk s r
theorem tree_sure {cf : Cfg} (h0 : KnowOk cf.P cf.glob cf.K) {f : FuncId} {B : σ → Tr σ ρ} {Pk : σ → Option (Prop × List σ)} {st : σ → ASt} {out : ρ → AV} (hB : ∀ s, ∃ d, xrun cf f d [] (st s) = (B s).mach st out)
  (hP : ∀ s q l, Pk s = some (q, l) → q → PickOk cf (st s) (l.map st)) {s : σ} {r : ρ} (h : SRuns B Pk s r) : Surely cf f (st s) (out r) := by
 have hnil : KnowOk cf.P cf.glob [] := ⟨h0.1, by intro j kn hj; simp at hj⟩
 induction h with
 | @ret s r h =>
  obtain ⟨d, hd⟩ := hB s
  have := mach_sem st out h
  rw [← hd] at this
  exact Surely.of_fin (xrun_ok h0 hnil this)
 | @nxt s s' r h _ ih =>
  obtain ⟨d, hd⟩ := hB s
  have := mach_sem st out h
  rw [← hd] at this
  exact Surely.step (xrun_ok h0 hnil this) ih
 | @pick s r q l h _ hq _ _ ih =>
  refine Surely.pick (hP s q l h hq) ?_
  intro x hx
  obtain ⟨y, hy, rfl⟩ := List.mem_map.1 hx
  exact ih y hy
theorem sure_pure {cf : Cfg} (h0 : KnowOk cf.P cf.glob cf.K) {f : FuncId} {B : σ → Tr σ ρ} {Pk : σ → Option (Prop × List σ)} {st : σ → ASt} {out : ρ → AV} (hB : ∀ s, ∃ d, xrun cf f d [] (st s) = (B s).mach st out)
  (hP : ∀ s q l, Pk s = some (q, l) → q → PickOk cf (st s) (l.map st)) {s : σ} {args : List AV} (hs : st s = ent cf f args) (he : (enterA cf.P f args).isSome = true) (v : ρ) (h : SRuns B Pk s v) : PureCalls cf.P cf.glob f args (out v) := by
 have h1 := tree_sure h0 hB hP h
 rw [hs] at h1
 unfold ent at h1
 cases ha : enterA cf.P f args with
 | none => rw [ha] at he; simp at he
 | some a =>
  rw [ha] at h1
  exact Surely.pure h0 ha h1
theorem SRuns.det {B : σ → Tr σ ρ} {Pk : σ → Option (Prop × List σ)} {s : σ} {r r' : ρ} (h : SRuns B Pk s r) : SRuns B Pk s r' → r = r' := by
 induction h with
 | ret h =>
  intro k
  cases k with
  | ret k => rw [h] at k; simpa using k
  | nxt k _ => rw [h] at k; simp at k
  | pick _ k => rw [h] at k; simp at k
 | nxt h _ ih =>
  intro k
  cases k with
  | ret k => rw [h] at k; simp at k
  | nxt k k' =>
   rw [h] at k
   simp at k
   subst k
   exact ih k'
  | pick _ k => rw [h] at k; simp at k
 | @pick s r q l h hn _ hl _ ih =>
  intro k
  cases k with
  | ret k => rw [hn] at k; simp at k
  | nxt k _ => rw [hn] at k; simp at k
  | pick k _ _ _ ka =>
   rw [h] at k
   simp only [Option.some.injEq, Prod.mk.injEq] at k
   obtain ⟨_, rfl⟩ := k
   obtain ⟨x, hx⟩ := List.exists_mem_of_ne_nil l hl
   exact ih x hx (ka x hx)
open Classical in
noncomputable def sres (B : σ → Tr σ ρ) (Pk : σ → Option (Prop × List σ)) (s : σ) : Option ρ := if h : ∃ r, SRuns B Pk s r then some h.choose else none
theorem sruns_of {B : σ → Tr σ ρ} {Pk : σ → Option (Prop × List σ)} {s : σ} {r : ρ} (h : sres B Pk s = some r) : SRuns B Pk s r := by
 unfold sres at h
 split at h
 ·rename_i hr
  simp at h
  rw [← h]
  exact hr.choose_spec
 ·simp at h
theorem sres_of {B : σ → Tr σ ρ} {Pk : σ → Option (Prop × List σ)} {s : σ} {r : ρ} (h : SRuns B Pk s r) : sres B Pk s = some r := by
 unfold sres
 have hex : ∃ r, SRuns B Pk s r := ⟨r, h⟩
 rw [dif_pos hex]
 congr 1
 exact (hex.choose_spec).det h
end
theorem pick_ok0 {cf : Cfg} {σ : Type} {st : σ → ASt} {s d : σ} {g : Nat → σ} {ps : List PC} {n : Nat} {rs : List Nat} (h : nextPk cf (st s) = some ⟨ps, st d, fun j => st (g j), n, rs⟩) {q : Prop} {l : List σ}
  (hl : some (AllP ps, if (cands n rs).isEmpty then [d] else (cands n rs).map g) = some (q, l)) (hq : q) : PickOk cf (st s) (l.map st) := by
 simp only [Option.some.injEq, Prod.mk.injEq] at hl
 obtain ⟨rfl, rfl⟩ := hl
 have := nextPk_ok h hq
 simp only at this
 split
 ·rename_i hc
  rw [if_pos hc] at this
  exact this
 ·rename_i hc
  rw [if_neg hc] at this
  rw [List.map_map]
  exact this
end Go.Kv
