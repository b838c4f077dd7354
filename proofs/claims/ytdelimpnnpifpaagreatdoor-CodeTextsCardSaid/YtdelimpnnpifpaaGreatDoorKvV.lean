/- Trees of runs: what a function computes, as a step of plain Lean; and what that says of its calls. -/
import Derived.Test.YtdelimpnnpifpaaGreatDoorKvU
set_option linter.all false
namespace Go.Kv
open Go Go.RowKit

inductive Tr (σ ρ : Type) : Type 1 where
  | ret (r : ρ)
  | nxt (s : σ)
  | br (b : Bool) (x y : Tr σ ρ)
  | ask (p : PC) (x : Tr σ ρ)
  | sees (as : List AV) (x : Tr σ ρ)
  | triv (p : PC) (h : p.holds) (x : Tr σ ρ)
  | bind {α : Type} (o : Option α) (k : α → Tr σ ρ)
  | stuck

section
variable {σ ρ : Type}
open Classical in
/-- What is there if a condition holds. -/
noncomputable def need {α : Type} (p : Prop) (x : Option α) : Option α := if p then x else none
theorem need_true {α : Type} (x : Option α) : need True x = x := if_pos trivial
theorem need_of {α : Type} {p : Prop} (h : p) (x : Option α) : need p x = x := if_pos h
theorem need_some {α : Type} {p : Prop} {x : Option α} {v : α} (h : need p x = some v) : p ∧ x = some v := by
  unfold need at h
  split at h
  · rename_i hp; exact ⟨hp, h⟩
  · simp at h
/-- What a tree comes to. -/
noncomputable def Tr.sem : Tr σ ρ → Option (σ ⊕ ρ)
  | .ret r => some (.inr r)
  | .nxt s => some (.inl s)
  | .br b x y => if b = true then x.sem else y.sem
  | .ask p x => need p.holds x.sem
  | .sees _ x => x.sem
  | .triv _ _ x => x.sem
  | .bind o k => match o with
    | some v => (k v).sem
    | none => none
  | .stuck => none

theorem sem_ret (r : ρ) : (Tr.ret r : Tr σ ρ).sem = some (.inr r) := rfl
theorem sem_nxt (s : σ) : (Tr.nxt s : Tr σ ρ).sem = some (.inl s) := rfl
theorem sem_br (b : Bool) (x y : Tr σ ρ) : (Tr.br b x y).sem = if b = true then x.sem else y.sem := rfl
theorem sem_ask (p : PC) (x : Tr σ ρ) : (Tr.ask p x).sem = need p.holds x.sem := rfl
theorem sem_sees (as : List AV) (x : Tr σ ρ) : (Tr.sees as x).sem = x.sem := rfl
theorem sem_triv (p : PC) (h : p.holds) (x : Tr σ ρ) : (Tr.triv p h x).sem = x.sem := rfl
theorem sem_bind {α : Type} (o : Option α) (k : α → Tr σ ρ) : (Tr.bind o k).sem = match o with
    | some v => (k v).sem
    | none => none := by cases o <;> rfl
theorem sem_bind_some {α : Type} (v : α) (k : α → Tr σ ρ) : (Tr.bind (some v) k).sem = (k v).sem := rfl
theorem sem_ask_of {p : PC} (h : p.holds) (x : Tr σ ρ) : (Tr.ask p x).sem = x.sem := by rw [sem_ask, need_of h]

/-- The tree as the machine gives it. -/
def Tr.mach (st : σ → ASt) (out : ρ → AV) : Tr σ ρ → Tr ASt AV
  | .ret r => .ret (out r)
  | .nxt s => .nxt (st s)
  | .br b x y => .br b (x.mach st out) (y.mach st out)
  | .ask p x => .ask p (x.mach st out)
  | .sees as x => .ask (.eqA as as) (x.mach st out)
  | .triv p _ x => .ask p (x.mach st out)
  | .bind o k => .bind o fun v => (k v).mach st out
  | .stuck => .stuck

def mapO (st : σ → ASt) (out : ρ → AV) : σ ⊕ ρ → ASt ⊕ AV
  | .inl s => .inl (st s)
  | .inr r => .inr (out r)

theorem mach_sem (st : σ → ASt) (out : ρ → AV) : ∀ {t : Tr σ ρ} {o : σ ⊕ ρ}, t.sem = some o → (t.mach st out).sem = some (mapO st out o)
  | .ret r, o, h => by simp only [sem_ret, Option.some.injEq] at h; subst h; rfl
  | .nxt s, o, h => by simp only [sem_nxt, Option.some.injEq] at h; subst h; rfl
  | .br b x y, o, h => by
    rw [sem_br] at h
    simp only [Tr.mach, sem_br]
    split at h
    · rename_i hb; rw [if_pos hb]; exact mach_sem st out h
    · rename_i hb; rw [if_neg hb]; exact mach_sem st out h
  | .ask p x, o, h => by
    rw [sem_ask] at h
    obtain ⟨hb, h⟩ := need_some h
    simp only [Tr.mach, sem_ask]
    rw [need_of hb]; exact mach_sem st out h
  | .sees as x, o, h => by
    rw [sem_sees] at h
    simp only [Tr.mach, sem_ask]
    rw [need_of (show PC.holds (.eqA as as) from rfl)]
    exact mach_sem st out h
  | .triv p hp x, o, h => by
    rw [sem_triv] at h
    simp only [Tr.mach, sem_ask]
    rw [need_of hp]
    exact mach_sem st out h
  | .bind o' k, o, h => by
    rw [sem_bind] at h
    simp only [Tr.mach, sem_bind]
    split at h
    · exact mach_sem st out h
    · simp at h
  | .stuck, o, h => by simp [Tr.sem] at h

/-! ### Transition systems -/
inductive Runs (B : σ → Tr σ ρ) : σ → ρ → Prop where
  | ret {s : σ} {r : ρ} : (B s).sem = some (.inr r) → Runs B s r
  | nxt {s s' : σ} {r : ρ} : (B s).sem = some (.inl s') → Runs B s' r → Runs B s r
theorem Runs.det {B : σ → Tr σ ρ} {s : σ} {r r' : ρ} (h : Runs B s r) : Runs B s r' → r = r' := by
  induction h with
  | ret h =>
    intro k
    cases k with
    | ret k => rw [h] at k; simpa using k
    | nxt k _ => rw [h] at k; simp at k
  | nxt h _ ih =>
    intro k
    cases k with
    | ret k => rw [h] at k; simp at k
    | nxt k k' =>
      rw [h] at k
      simp at k
      subst k
      exact ih k'
open Classical in
/-- What a transition system comes to. -/
noncomputable def res (B : σ → Tr σ ρ) (s : σ) : Option ρ := if h : ∃ r, Runs B s r then some h.choose else none
theorem runs_of_res {B : σ → Tr σ ρ} {s : σ} {r : ρ} (h : res B s = some r) : Runs B s r := by
  unfold res at h
  split at h
  · rename_i hr
    simp at h
    rw [← h]
    exact hr.choose_spec
  · simp at h
theorem res_of_runs {B : σ → Tr σ ρ} {s : σ} {r : ρ} (h : Runs B s r) : res B s = some r := by
  unfold res
  have hex : ∃ r, Runs B s r := ⟨r, h⟩
  rw [dif_pos hex]
  congr 1
  exact (hex.choose_spec).det h
theorem res_ret {B : σ → Tr σ ρ} {s : σ} {r : ρ} (h : (B s).sem = some (.inr r)) : res B s = some r := res_of_runs (.ret h)
theorem res_nxt {B : σ → Tr σ ρ} {s s' : σ} (h : (B s).sem = some (.inl s')) : res B s = res B s' := by
  cases hr : res B s' with
  | some r => exact res_of_runs (.nxt h (runs_of_res hr))
  | none =>
    unfold res
    rw [dif_neg]
    rintro ⟨r, hr'⟩
    cases hr' with
    | ret k => rw [h] at k; simp at k
    | nxt k k' =>
      rw [h] at k
      simp at k
      subst k
      rw [res_of_runs k'] at hr
      simp at hr
def stepO {σ ρ : Type} (f : σ → Option ρ) : Option (σ ⊕ ρ) → Option ρ
  | some (.inr r) => some r
  | some (.inl s') => f s'
  | none => none
theorem stepO_ret (f : σ → Option ρ) (r : ρ) : stepO f (some (.inr r)) = some r := rfl
theorem stepO_nxt (f : σ → Option ρ) (s : σ) : stepO f (some (.inl s)) = f s := rfl
theorem stepO_none (f : σ → Option ρ) : stepO f none = none := rfl
theorem res_eq (B : σ → Tr σ ρ) (s : σ) : res B s = stepO (res B) (B s).sem := by
  cases h : (B s).sem with
  | none =>
    unfold res stepO
    rw [dif_neg]
    rintro ⟨r, hr⟩
    cases hr with
    | ret k => rw [h] at k; simp at k
    | nxt k _ => rw [h] at k; simp at k
  | some o => cases o with
    | inl s' => exact res_nxt h
    | inr r => exact res_ret h
end

/-! ### The machine's tree -/
inductive DT (cf : Cfg) : Type 1 where
  | go (n : Nat) (ds : List Dec) (drop : List Nat) (d : DT cf)
  | dead
  | br (b : Bool) (d1 d2 : DT cf)
  | split (t : Nat) (d1 d2 : DT cf)
  | bind {α : Type} {o : Option α} {g : Nat} {args : List AV} {out : α → AV} (h : ∀ v, o = some v → PureCalls cf.P cf.glob g args (out v)) (d : α → DT cf)
  | bindF {α : Type} {o : Option α} {g : Nat} {args : List AV} {out : α → AV} {st : Bool} (h : ∀ v, o = some v → PureCallsF cf.P cf.glob g args (out v) st) (d : α → DT cf)
  | assume (t : Nat) (r : Bool) (d : DT cf)
  | strip (t : Nat) (d : DT cf)
  | frz (t : Nat) (d : DT cf)
  | ren (i j : Nat) (df : List Nat) (keep : List (List Nat)) (gone : List Nat) (d : DT cf)
  | cut (k : Nat) (keep : List (List Nat)) (gone : List Nat)
  | cutP (k : Nat) (df : List Nat) (keep : List (List Nat)) (gone : List Nat)
  | fin
  | finP
  | finF (sz : Nat) (st : Bool) (p : List Nat)

def asks {σ ρ : Type} : List PC → Tr σ ρ → Tr σ ρ
  | [], x => x
  | p :: ps, x => .ask p (asks ps x)

/-- Conditions that the kernel sees to hold are left out. -/
def dropC : Nat → List Nat → List PC → Option (List PC)
  | _, _, [] => some []
  | i, dr, p :: ps => match dropC (i + 1) dr ps with
    | some qs => if dr.contains i then (match p.check with
        | true => some qs
        | false => none) else some (p :: qs)
    | none => none
theorem dropC_ok : ∀ {ps qs : List PC} {i : Nat} {dr : List Nat}, dropC i dr ps = some qs → AllP qs → AllP ps
  | [], _, _, _, _, _ => trivial
  | p :: ps, qs, i, dr, h, hq => by
    simp only [dropC] at h
    split at h
    · rename_i qs' hqs
      split at h
      · split at h
        · rename_i hc
          simp only [Option.some.injEq] at h; subst h
          exact ⟨PC.check_ok hc, dropC_ok hqs hq⟩
        · simp at h
      · simp only [Option.some.injEq] at h; subst h
        exact ⟨hq.1, dropC_ok hqs hq.2⟩
    · simp at h

/-- Blocks that nothing reads any more. -/
def buryA : List Nat → List ABlk → List ABlk
  | [], H => H
  | b :: bs, H => match H[b]? with
    | some (.cells _ _) => buryA bs (H.set b .dead)
    | _ => buryA bs H

def ASt.setB (s : ASt) (t : Nat) (b : Bool) : ASt := { s with fr := { s.fr with tmps := s.fr.tmps.set t (.d (.v (.bool b))) } }

def killOf : Nat → Nat → List Nat → List Nat
  | 0, _, _ => []
  | n + 1, i, kp => if kp.contains i then killOf n (i + 1) kp else i :: killOf n (i + 1) kp
def AFrame.hold (f : AFrame) (kp : List Nat) : AFrame := { f with tmps := killT (killOf f.tmps.length 0 kp) f.tmps }
def holdAll : List (List Nat) → List AFrame → List AFrame
  | kp :: kps, f :: fs => f.hold kp :: holdAll kps fs
  | _, fs => fs
def trimK (k : Nat) (kps : List (List Nat)) (gn : List Nat) (s : ASt) : Option ASt :=
  match kps with
  | kp :: kps => trimA k [] ⟨s.fr.hold kp, holdAll kps s.cs, buryA gn s.H⟩
  | [] => none

mutual
/-- No slice is a slice without elements. -/
def weakA : AV → AV
  | .d (.v (.slice none 0 0)) => .d (.sl 0 [])
  | .em => .d (.sl 0 [])
  | .agg cs => .agg (weakAs cs)
  | .tup cs => .tup (weakAs cs)
  | a => a
def weakAs : List AV → List AV
  | [] => []
  | a :: as => weakA a :: weakAs as
end

section
variable {c : Ctx} {w : World}
mutual
theorem weakA_ok : ∀ {a : AV} {u : Value}, Rel c w a u → Rel c w (weakA a) u
  | .d (.v x), u, h => by
    by_cases hx : x = .slice none 0 0
    · subst hx
      unfold Rel RelD at h
      obtain ⟨rfl, _⟩ := h
      simp only [weakA]
      unfold Rel RelD
      exact ⟨0, 0, 0, [], .inr ⟨⟨_, rfl⟩, rfl, rfl, rfl⟩, Nat.zero_le _, Nat.le_refl _, by intro i u hu; simp at hu, RelDs.nil⟩
    · have : weakA (.d (.v x)) = .d (.v x) := by
        unfold weakA
        split
        · rename_i heq; simp at heq; exact absurd heq hx
        · rename_i heq; simp at heq
        · rename_i heq; simp at heq
        · rename_i heq; simp at heq
        · rfl
      rw [this]; exact h
  | .agg cs, u, h => by
    simp only [weakA]
    unfold Rel at h ⊢
    obtain ⟨us, rfl, hs⟩ := h
    exact ⟨us, rfl, weakAs_ok hs⟩
  | .tup cs, u, h => by
    simp only [weakA]
    unfold Rel at h ⊢
    obtain ⟨us, rfl, hs⟩ := h
    exact ⟨us, rfl, weakAs_ok hs⟩
  | .d (.sl ..), u, h => by simpa [weakA] using h
  | .ptr .., u, h => by simpa [weakA] using h
  | .ip .., u, h => by simpa [weakA] using h
  | .own .., u, h => by simpa [weakA] using h
  | .ms .., u, h => by simpa [weakA] using h
  | .fn .., u, h => by simpa [weakA] using h
  | .yl .., u, h => by simpa [weakA] using h
  | .mp .., u, h => by simpa [weakA] using h
  | .em, u, h => by
    unfold Rel at h
    simp only [weakA]
    unfold Rel RelD
    exact ⟨0, 0, 0, [], .inr ⟨h, rfl, rfl, rfl⟩, Nat.zero_le _, Nat.le_refl _, by intro i u hu; simp at hu, RelDs.nil⟩
  | .opt .., u, h => by simpa [weakA] using h
  | .nan _, u, h => by simpa [weakA] using h
  | .any, u, h => by simpa [weakA] using h
theorem weakAs_ok : ∀ {as : List AV} {us : List Value}, Rels c w as us → Rels c w (weakAs as) us
  | [], us, h => by simpa [weakAs] using h
  | a :: as, us, h => by
    obtain ⟨u, r, rfl, hu, t⟩ := h.cons_inv
    simp only [weakAs]
    exact Rels.cons (weakA_ok hu) (weakAs_ok t)
end
end

theorem PureCalls.weak {P : Program} {glob : Nat → Option (List DV)} {f : FuncId} {args : List AV} {r : AV} (h : PureCalls P glob f args r) : PureCalls P glob f args (weakA r) := by
  intro w φ us h1 h2 h3
  refine (h w φ us h1 h2 h3).mono ?_
  rintro e w' ⟨u, φ', e1, e2, e3, e4, e5⟩
  exact ⟨u, φ', e1, e2, e3, e4, weakA_ok e5⟩

def outP (cf : Cfg) (f : FuncId) (s : ASt) : Option (AV × List PC) :=
  if s.fr.ret && s.fr.defers.isEmpty && s.cs.isEmpty && s.fr.fn == f then
    match cf.P.funcs[f]? with
    | some fn => match resultA cf fn (fun b => (s.H[b]?).getD .gone) s.fr.tmps with
      | some v => passP (fun b => (s.H[b]?).getD .gone) v
      | none => none
    | none => none
  else none
theorem outP_ok {cf : Cfg} {f : FuncId} {s : ASt} {v : AV} {ps : List PC} (h : outP cf f s = some (v, ps)) (hp : AllP ps) : outA cf f s = some v := by
  unfold outP at h
  unfold outA
  split at h
  · rename_i hc
    rw [if_pos hc]
    split at h
    · rename_i fn hf
      simp only [hf]
      split at h
      · rename_i v' hv
        simp only [hv]
        exact passP_ok h hp
      · simp at h
    · simp at h
  · simp at h

/-- Blocks whose contents are no told list: that they name nothing that is forgotten is asked. -/
def chkH (k : Nat) (df : List Nat) : Nat → List ABlk → Option (List PC)
  | _, [] => some []
  | i, b :: bs => match chkH k df (i + 1) bs with
    | some ps => if df.contains i then some (.prop (refK k b = true) :: ps) else match refK k b with
      | true => some ps
      | false => none
    | none => none
theorem chkH_ok {k : Nat} {df : List Nat} : ∀ {H : List ABlk} {i : Nat} {ps : List PC}, chkH k df i H = some ps → AllP ps → H.all (refK k) = true
  | [], _, _, _, _ => rfl
  | b :: bs, i, ps, h, hp => by
    simp only [chkH] at h
    split at h
    · rename_i qs hq
      split at h
      · simp only [Option.some.injEq] at h; subst h
        simp only [List.all_cons, Bool.and_eq_true]
        exact ⟨hp.1, chkH_ok hq hp.2⟩
      · split at h
        · rename_i hb
          simp only [Option.some.injEq] at h; subst h
          simp only [List.all_cons, Bool.and_eq_true]
          exact ⟨hb, chkH_ok hq hp⟩
        · simp at h
    · simp at h
def trimP (k : Nat) (df : List Nat) (kps : List (List Nat)) (gn : List Nat) (s : ASt) : Option (ASt × List PC) :=
  match kps with
  | kp :: kps =>
    if refF k (s.fr.hold kp) && (holdAll kps s.cs).all (refF k) then
      match chkH k df 0 ((buryA gn s.H).take k) with
      | some ps => some (⟨s.fr.hold kp, holdAll kps s.cs, (buryA gn s.H).take k⟩, ps)
      | none => none
    else none
  | [] => none
theorem trimP_ok {k : Nat} {df : List Nat} {kps : List (List Nat)} {gn : List Nat} {s s' : ASt} {ps : List PC} (h : trimP k df kps gn s = some (s', ps)) (hp : AllP ps) : trimK k kps gn s = some s' := by
  unfold trimP at h
  split at h
  · rename_i kp kps'
    split at h
    · rename_i hc
      split at h
      · rename_i qs hq
        simp only [Option.some.injEq, Prod.mk.injEq] at h
        obtain ⟨rfl, rfl⟩ := h
        have h3 := chkH_ok hq hp
        simp only [Bool.and_eq_true] at hc
        show (if (refF k (s.fr.hold kp) && (holdAll kps' s.cs).all (refF k) && ((buryA gn s.H).take k).all (refK k)) = true then some (⟨s.fr.hold kp, holdAll kps' s.cs, (buryA gn s.H).take k⟩ : ASt) else none) = _
        rw [hc.1, hc.2, h3]; rfl
      · simp at h
    · simp at h
  · simp at h

/-- A row in memory that is not changed any more. -/
def frzA (t : Nat) (s : ASt) : Option (ASt × List PC) := match s.fr.tmps[t]? with
  | some (.ms b off sz n _) => match s.H[b]? with
    | some (.cells cs _) => some ({ s with fr := { s.fr with tmps := s.fr.tmps.set t (.d (.sl n (((cs.drop off).take (n * sz)).map aD))) }, H := s.H.set b .dead },
        [.leN (off + n * sz) cs.length, .prop (toDs ((cs.drop off).take (n * sz)) = some (((cs.drop off).take (n * sz)).map aD))])
    | _ => none
  | _ => none
/-- Two blocks change their names; what is not read any more is forgotten. -/
def renS (i j : Nat) (df : List Nat) (kps : List (List Nat)) (gn : List Nat) (s : ASt) : Option (ASt × List PC) :=
  match kps with
  | kp :: kps => swS i j df ⟨s.fr.hold kp, holdAll kps s.cs, buryA gn s.H⟩
  | [] => none
def xrun (cf : Cfg) (f : FuncId) : DT cf → List Kn → ASt → Tr ASt AV
  | .go n ds dr d, K, s => match arun { cf with K := K } n s ds with
    | some (s', [], ps) => match dropC 0 dr ps with
      | some qs => asks qs (xrun cf f d K s')
      | none => .stuck
    | _ => .stuck
  | .dead, _, _ => .stuck
  | .br b d1 d2, K, s => .br b (xrun cf f d1 K s) (xrun cf f d2 K s)
  | .split t d1 d2, K, s => match s.fr.tmps[t]? with
    | some (.d (.v (.bool b))) => .br b (xrun cf f d1 K (s.setB t true)) (xrun cf f d2 K (s.setB t false))
    | _ => .stuck
  | .bind (o := o) (g := g) (args := args) (out := out) _ d, K, s => .bind o fun v => xrun cf f (d v) (K ++ [⟨g, args, out v, false, false⟩]) s
  | .bindF (o := o) (g := g) (args := args) (out := out) (st := st) _ d, K, s => .bind o fun v => xrun cf f (d v) (K ++ [⟨g, args, out v, true, st⟩]) s
  | .assume t r d, K, s => match s.fr.tmps[t]? with
    | some (.d (.v (.bool b))) => .ask (.eqB b r) (xrun cf f d K (s.setB t r))
    | _ => .stuck
  | .strip t d, K, s => match s.fr.tmps[t]? with
    | some (.opt g x) => .ask (.eqB g true) (xrun cf f d K { s with fr := { s.fr with tmps := s.fr.tmps.set t x } })
    | _ => .stuck
  | .frz t d, K, s => match frzA t s with
    | some (s', ps) => asks ps (xrun cf f d K s')
    | none => .stuck
  | .ren i j df kp gn d, K, s => match renS i j df kp gn s with
    | some (s', ps) => asks ps (xrun cf f d K s')
    | none => .stuck
  | .cut k kp gn, _, s => match trimK k kp gn s with
    | some s' => .nxt s'
    | none => .stuck
  | .cutP k df kp gn, _, s => match trimP k df kp gn s with
    | some (s', ps) => asks ps (.nxt s')
    | none => .stuck
  | .fin, _, s => match outA cf f s with
    | some v => .ret (weakA v)
    | none => .stuck
  | .finP, _, s => match outP cf f s with
    | some (v, ps) => asks ps (.ret (weakA v))
    | none => .stuck
  | .finF .., _, _ => .stuck

def xrunF (cf : Cfg) (f : FuncId) (st : Bool) : DT cf → List Kn → ASt → Tr ASt AV
  | .go n ds dr d, K, s => match arun { cf with K := K } n s ds with
    | some (s', [], ps) => match dropC 0 dr ps with
      | some qs => asks qs (xrunF cf f st d K s')
      | none => .stuck
    | _ => .stuck
  | .dead, _, _ => .stuck
  | .br b d1 d2, K, s => .br b (xrunF cf f st d1 K s) (xrunF cf f st d2 K s)
  | .split t d1 d2, K, s => match s.fr.tmps[t]? with
    | some (.d (.v (.bool b))) => .br b (xrunF cf f st d1 K (s.setB t true)) (xrunF cf f st d2 K (s.setB t false))
    | _ => .stuck
  | .bind (o := o) (g := g) (args := args) (out := out) _ d, K, s => .bind o fun v => xrunF cf f st (d v) (K ++ [⟨g, args, out v, false, false⟩]) s
  | .bindF (o := o) (g := g) (args := args) (out := out) (st := st0) _ d, K, s => .bind o fun v => xrunF cf f st (d v) (K ++ [⟨g, args, out v, true, st0⟩]) s
  | .assume t r d, K, s => match s.fr.tmps[t]? with
    | some (.d (.v (.bool b))) => .ask (.eqB b r) (xrunF cf f st d K (s.setB t r))
    | _ => .stuck
  | .strip t d, K, s => match s.fr.tmps[t]? with
    | some (.opt g x) => .ask (.eqB g true) (xrunF cf f st d K { s with fr := { s.fr with tmps := s.fr.tmps.set t x } })
    | _ => .stuck
  | .frz t d, K, s => match frzA t s with
    | some (s', ps) => asks ps (xrunF cf f st d K s')
    | none => .stuck
  | .ren i j df kp gn d, K, s => match renS i j df kp gn s with
    | some (s', ps) => asks ps (xrunF cf f st d K s')
    | none => .stuck
  | .cut k kp gn, _, s => match trimK k kp gn s with
    | some s' => .nxt s'
    | none => .stuck
  | .cutP k df kp gn, _, s => match trimP k df kp gn s with
    | some (s', ps) => asks ps (.nxt s')
    | none => .stuck
  | .fin, _, _ => .stuck
  | .finP, _, _ => .stuck
  | .finF sz st' p, _, s => match st' == st with
    | true => match outF cf f sz st p s with
      | some (v, ps) => asks ps (.ret v)
      | none => .stuck
    | false => .stuck

section
variable {cf : Cfg} {base : Nat} {w0 : Start} {cs0 : List Frame}

theorem reach_K {K : List Kn} (h0 : KnowOk cf.P cf.glob cf.K) (hK : KnowOk cf.P cf.glob K) {s s' : ASt} (h : Reach { cf with K := K } base w0 cs0 s s') : Reach cf base w0 cs0 s s' := by
  intro c w fr frs hs
  obtain ⟨h1, h2, h3, h4⟩ := hs
  obtain ⟨c', w', fr', frs', ⟨k1, k2, k3, k4⟩, hst⟩ := h c w fr frs ⟨h1, h2, h3, h4.1, hK⟩
  exact ⟨c', w', fr', frs', ⟨k1, k2, k3, k4.1, h0⟩, hst⟩

theorem WRel.bury {c : Ctx} {w : World} : ∀ {gn : List Nat} {H : List ABlk}, WRel base w0 c w H → WRel base w0 c w (buryA gn H)
  | [], _, h => h
  | b :: bs, H, h => by
    simp only [buryA]
    split
    · rename_i cs t hb
      refine WRel.bury (gn := bs) ?_
      have hlt : b < H.length := (List.getElem?_eq_some_iff.1 hb).1
      have hget : ∀ (i : Nat) (k : ABlk), (H.set b .dead)[i]? = some k → (i = b ∧ k = .dead) ∨ (i ≠ b ∧ H[i]? = some k) := by
        intro i k hk
        by_cases hi : i = b
        · subst hi; rw [List.getElem?_set_self hlt] at hk; simp at hk; exact .inl ⟨rfl, hk.symm⟩
        · rw [List.getElem?_set_ne (Ne.symm hi)] at hk; exact .inr ⟨hi, hk⟩
      have hopt : ∀ (f : ABlk → Bool), f .dead = f (.cells cs t) → ∀ i : Nat, (((H.set b .dead)[i]?).map f).getD false = ((H[i]?).map f).getD false := by
        intro f hf i
        by_cases hi : i = b
        · subst hi; rw [List.getElem?_set_self hlt, hb]; simp [hf]
        · rw [List.getElem?_set_ne (Ne.symm hi)]
      refine ⟨h.below, h.le, ?_, ?_, ?_, ?_, h.hi, h.lo⟩
      · intro i k hk
        rcases hget i k hk with ⟨rfl, rfl⟩ | ⟨_, h1⟩
        · trivial
        · exact h.blk i k h1
      · intro i; rw [h.live i, hopt ABlk.isLive rfl]
      · intro i; rw [h.tl i, hopt ABlk.isTail rfl]
      · intro i j k k' hk hk' ho ho' he
        rcases hget i k hk with ⟨rfl, rfl⟩ | ⟨_, h1⟩
        · simp [ABlk.owns] at ho
        · rcases hget j k' hk' with ⟨rfl, rfl⟩ | ⟨_, h2⟩
          · simp [ABlk.owns] at ho'
          · exact h.inj i j k k' h1 h2 ho ho' he
    · exact WRel.bury h

theorem FRel.hold {c : Ctx} {w : World} {f : AFrame} {fr : Frame} (h : FRel c w f fr) (kp : List Nat) : FRel c w (f.hold kp) fr :=
  ⟨h.fn, killT_ok h.tmps, h.todo, h.defers, h.mode, h.kind, h.ro⟩
theorem killT_len : ∀ {ks : List Nat} {ts : List AV}, (killT ks ts).length = ts.length
  | [], _ => rfl
  | k :: ks, ts => by simp only [killT]; rw [killT_len]; simp
theorem killT_pt : ∀ {ks : List Nat} {ts : List AV} (t : Nat), (killT ks ts)[t]? = ts[t]? ∨ (killT ks ts)[t]? = some AV.any
  | [], _, _ => .inl rfl
  | k :: ks, ts, t => by
    simp only [killT]
    rcases killT_pt (ks := ks) (ts := ts.set k .any) t with h | h
    · rw [h, List.getElem?_set]
      split
      · split
        · exact .inr rfl
        · rename_i h1 h2
          left
          rw [List.getElem?_eq_none (by omega)]
      · exact .inl rfl
    · exact .inr h
theorem FRelC.hold {c : Ctx} {w : World} {f : AFrame} {fr : Frame} (h : FRelC c w f fr) (kp : List Nat) : FRelC c w (f.hold kp) fr := by
  obtain ⟨d, h⟩ := h
  refine ⟨d, ?_⟩
  unfold lateF at h ⊢
  split at h
  · rename_i ops i us kk ht
    have ht' : (f.hold kp).todo = .regL ops i us :: kk := ht
    split
    · rename_i ops' i' us' kk' ht2
      rw [ht'] at ht2
      simp only [List.cons.injEq, AItem.regL.injEq] at ht2
      obtain ⟨⟨rfl, rfl, rfl⟩, rfl⟩ := ht2
      exact ⟨h.fn, Rels.weak h.tmps (by rw [setVs_len, setVs_len]; exact killT_len) (setVs_cong killT_len (killT_pt ·)), h.todo, h.defers, h.mode, h.kind, h.ro⟩
    · rename_i hn
      exact absurd ht' (hn _ _ _ _)
  · rename_i hn
    split
    · rename_i ops' i' us' kk' ht2
      exact absurd ht2 (hn _ _ _ _)
    · exact h.hold kp
theorem FRels.hold {c : Ctx} {w : World} : ∀ {fs : List AFrame} {frs : List Frame} (kps : List (List Nat)), FRels c w fs frs → FRels c w (holdAll kps fs) frs
  | [], _, kps, h => by cases kps <;> exact h
  | f :: fs, _, [], h => h
  | f :: fs, _, kp :: kps, h => by
    obtain ⟨y, ys, rfl, h1, h2⟩ := h
    exact ⟨y, ys, rfl, FRelC.hold h1 kp, FRels.hold kps h2⟩

theorem trimK_ok {k : Nat} {kps : List (List Nat)} {gn : List Nat} {s s' : ASt} (h : trimK k kps gn s = some s') : Reach cf base w0 cs0 s s' := by
  unfold trimK at h
  split at h
  · rename_i kp kps
    have h0 : Reach cf base w0 cs0 s ⟨s.fr.hold kp, holdAll kps s.cs, buryA gn s.H⟩ := by
      intro c w fr frs hs
      obtain ⟨a1, a2, a3, a4⟩ := hs
      exact ⟨c, w, fr, frs, ⟨a1.hold kp, a2.hold kps, a3.bury, a4⟩, Steps.refl _ _⟩
    exact Reach.trans h0 (trimA_ok h)
  · simp at h

theorem renS_ok {i j : Nat} {df : List Nat} {kps : List (List Nat)} {gn : List Nat} {s s' : ASt} {ps : List PC} (h : renS i j df kps gn s = some (s', ps)) (hp : AllP ps) : Reach cf base w0 cs0 s s' := by
  unfold renS at h
  split at h
  · rename_i kp kps
    have h0 : Reach cf base w0 cs0 s ⟨s.fr.hold kp, holdAll kps s.cs, buryA gn s.H⟩ := by
      intro c w fr frs hs
      obtain ⟨a1, a2, a3, a4⟩ := hs
      exact ⟨c, w, fr, frs, ⟨a1.hold kp, a2.hold kps, a3.bury, a4⟩, Steps.refl _ _⟩
    exact Reach.trans h0 (swS_ok h hp)
  · simp at h

theorem KnowOk.snoc {P : Program} {glob : Nat → Option (List DV)} {K : List Kn} (h : KnowOk P glob K) {kn : Kn} (hk : KnOk P glob kn) : KnowOk P glob (K ++ [kn]) := by
  refine ⟨h.1, ?_⟩
  intro j k hj
  by_cases hlt : j < K.length
  · rw [List.getElem?_append_left hlt] at hj; exact h.2 j k hj
  · rw [List.getElem?_append_right (by omega)] at hj
    have := List.mem_of_getElem? hj
    simp at this
    subst this
    exact hk

theorem asks_sem {σ ρ : Type} {o : σ ⊕ ρ} {x : Tr σ ρ} : ∀ {ps : List PC}, (asks ps x).sem = some o → AllP ps ∧ x.sem = some o
  | [], h => ⟨trivial, h⟩
  | p :: ps, h => by
    simp only [asks, sem_ask] at h
    obtain ⟨hp, h⟩ := need_some h
    obtain ⟨h1, h2⟩ := asks_sem h
    exact ⟨⟨hp, h1⟩, h2⟩

theorem setB_reach {s : ASt} {t : Nat} {b : Bool} (h : s.fr.tmps[t]? = some (.d (.v (.bool b)))) : Reach cf base w0 cs0 s (s.setB t b) := by
  have : s.setB t b = s := by
    unfold ASt.setB
    rw [set_self h]
  rw [this]
  exact Reach.refl _ _ _ _ _

theorem strip_reach {s : ASt} {t : Nat} {g : Bool} {x : AV} (h : s.fr.tmps[t]? = some (.opt g x)) (hg : g = true) : Reach cf base w0 cs0 s { s with fr := { s.fr with tmps := s.fr.tmps.set t x } } := by
  intro c w fr frs hs
  obtain ⟨hfr, hfrs, hm, hgl⟩ := hs
  obtain ⟨u, hu, hr⟩ := hfr.tmps.get t _ h
  unfold Rel at hr
  have h2 := hfr.tmps.set t (hr hg)
  rw [set_self hu] at h2
  exact ⟨c, w, fr, frs, ⟨⟨hfr.fn, h2, hfr.todo, hfr.defers, hfr.mode, hfr.kind, hfr.ro⟩, hfrs, hm, hgl⟩, Steps.refl _ _⟩

theorem WRel.freeze {c : Ctx} {w : World} {H : List ABlk} (h : WRel base w0 c w H) {b : Nat} {cs : List AV} {t : TypeId} (h0 : H[b]? = some (.cells cs t)) {k : Nat} (hk : k = ((w.heap[c.ρ b]?).elim 0 fun | .cells a _ _ => a.size | _ => 0)) :
    Ctx.Le c w { c with φ := updN c.φ (c.ρ b) k } w ∧ WRel base w0 { c with φ := updN c.φ (c.ρ b) k } w (H.set b .dead) := by
  obtain ⟨hbase, hφ0, us, rest, hg, hs⟩ := h.blk b _ h0
  have hlt : c.ρ b < w.heap.size := (Array.getElem?_eq_some_iff.1 hg).1
  have hle : Ctx.Le c w { c with φ := updN c.φ (c.ρ b) k } w := by
    refine ⟨fun _ h => h, fun _ _ => rfl, ?_, fun _ h => h, fun _ _ => Nat.le_refl _, ?_, fun _ _ _ => rfl, fun _ _ h => h⟩
    · intro i
      by_cases hi : i = c.ρ b
      · subst hi; rw [hφ0]; exact Nat.zero_le _
      · simp [updN_ne _ _ hi]
    · intro x hx _ _
      refine ⟨rfl, ?_⟩
      have hne : c.τ x ≠ c.ρ b := by
        intro he
        have ht := h.tl x
        rw [hx] at ht
        cases hxk : H[x]? with
        | none => rw [hxk] at ht; simp at ht
        | some kx =>
          rw [hxk] at ht
          cases kx with
          | tail e =>
            have := h.inj x b _ _ hxk h0 rfl rfl he
            subst this
            rw [hxk] at h0
            simp at h0
          | _ => simp [ABlk.isTail] at ht
      simp [updN_ne _ _ hne]
  refine ⟨hle, h.upd hle b (c.ρ b) (.cells cs t) .dead h0 (.inr ⟨rfl, rfl⟩) rfl rfl ⟨rfl, Nat.le_refl _⟩ (Nat.le_refl _) (fun _ _ _ => rfl) (fun i hi => by simp [updN_ne _ _ hi]) ?_ (fun _ _ => ⟨rfl, rfl, rfl, rfl⟩) ?_ ?_ trivial (fun ho => by simp [ABlk.owns] at ho)⟩
  · intro i hi
    have hne : i ≠ c.ρ b := by omega
    simp only [updN_ne _ _ hne]
    exact h.hi i hi
  · show c.live b = _
    rw [h.live b, getD_live h0]; rfl
  · show c.tl b = _
    rw [h.tl b, h0]; rfl
theorem frz_reach {t : Nat} {s s' : ASt} {ps : List PC} (h : frzA t s = some (s', ps)) (hp : AllP ps) : Reach cf base w0 cs0 s s' := by
  unfold frzA at h
  split at h
  · rename_i b off sz n cap ht
    split at h
    · rename_i cs ty hb
      simp only [Option.some.injEq, Prod.mk.injEq] at h
      obtain ⟨rfl, rfl⟩ := h
      obtain ⟨p1, p2, _⟩ := hp
      have p1 : off + n * sz ≤ cs.length := p1
      have p2 : toDs ((cs.drop off).take (n * sz)) = some (((cs.drop off).take (n * sz)).map aD) := p2
      intro c w fr frs hs
      obtain ⟨hfr, hfrs, hm, hgl⟩ := hs
      obtain ⟨hbase, hφ0, us, rest, hg, hcs⟩ := hm.blk b _ hb
      obtain ⟨f1, f2⟩ := hm.freeze hb (k := (us ++ rest).toArray.size) (by rw [hg]; rfl)
      obtain ⟨u, hu, hr⟩ := hfr.tmps.get t _ ht
      unfold Rel at hr
      obtain ⟨hl, hcap, cr, hcr, rfl⟩ := hr
      have hlen := hcs.length
      have hd := ((hcs.drop off).take (n * sz)).toDs p2
      have hnew : Rel { c with φ := updN c.φ (c.ρ b) (us ++ rest).toArray.size } w (.d (.sl n (((cs.drop off).take (n * sz)).map aD))) (.slice (some ⟨c.ρ b, off, none⟩) n cr) := by
        unfold Rel RelD
        refine ⟨c.ρ b, off, cr, (us.drop off).take (n * sz), .inl rfl, ?_, Nat.le_trans hcap hcr.le, cellsAt_take (cellsAt_row hg), RelDs.mono f1 hd⟩
        simp; omega
      have hfr' := FRel.mono f1 hfr
      have h2 := hfr'.tmps.set t hnew
      rw [set_self hu] at h2
      exact ⟨_, w, fr, frs, ⟨⟨hfr'.fn, h2, hfr'.todo, hfr'.defers, hfr'.mode, hfr'.kind, hfr'.ro⟩, FRels.mono f1 hfrs, f2, GK.mono f1 hgl⟩, Steps.refl _ _⟩
    · simp at h
  · simp at h

/-- From this state the call of f comes to its end and hands back what may be called `res`. -/
def FinW (cf : Cfg) (f : FuncId) (s : ASt) (r : AV) : Prop := ∃ v, Fin cf f s v ∧ weakA v = r
theorem FinW.step {f : FuncId} {s s' : ASt} {r : AV} (hr : ∀ base w0 cs0, Reach cf base w0 cs0 s s') (h : FinW cf f s' r) : FinW cf f s r := by
  obtain ⟨v, h1, h2⟩ := h
  exact ⟨v, Fin.step hr h1, h2⟩

def Ends (cf : Cfg) (f : FuncId) (s : ASt) : ASt ⊕ AV → Prop
  | .inl s' => ∀ base w0 cs0, Reach cf base w0 cs0 s s'
  | .inr r => FinW cf f s r
theorem Ends.step {f : FuncId} {s s' : ASt} (hr : ∀ base w0 cs0, Reach cf base w0 cs0 s s') : ∀ {o : ASt ⊕ AV}, Ends cf f s' o → Ends cf f s o
  | .inl _, h => fun base w0 cs0 => Reach.trans (hr base w0 cs0) (h base w0 cs0)
  | .inr _, h => FinW.step hr h

theorem xrun_ok (h0 : KnowOk cf.P cf.glob cf.K) {f : FuncId} : ∀ {d : DT cf} {K : List Kn} {s : ASt} {o : ASt ⊕ AV}, KnowOk cf.P cf.glob K → (xrun cf f d K s).sem = some o → Ends cf f s o
  | .go n ds dr d, K, s, o, hK, h => by
    simp only [xrun] at h
    split at h
    · rename_i s' ps ha
      split at h
      · rename_i qs hq
        obtain ⟨hp, h2⟩ := asks_sem h
        exact Ends.step (fun base w0 cs0 => reach_K h0 hK (arun_ok ha (dropC_ok hq hp))) (xrun_ok h0 hK h2)
      · simp [Tr.sem] at h
    · simp [Tr.sem] at h
  | .dead, K, s, o, hK, h => by simp [xrun, Tr.sem] at h
  | .br b d1 d2, K, s, o, hK, h => by
    simp only [xrun, sem_br] at h
    split at h
    · exact xrun_ok h0 hK h
    · exact xrun_ok h0 hK h
  | .split t d1 d2, K, s, o, hK, h => by
    simp only [xrun] at h
    split at h
    · rename_i b hb
      rw [sem_br] at h
      split at h
      · rename_i hbt
        subst hbt
        exact Ends.step (fun base w0 cs0 => setB_reach hb) (xrun_ok h0 hK h)
      · rename_i hbt
        have : b = false := by simpa using hbt
        subst this
        exact Ends.step (fun base w0 cs0 => setB_reach hb) (xrun_ok h0 hK h)
    · simp [Tr.sem] at h
  | .bind (o := o') (g := g) (args := args) (out := out) hc d, K, s, o, hK, h => by
    simp only [xrun, sem_bind] at h
    split at h
    · rename_i v
      exact xrun_ok h0 (hK.snoc (kn := ⟨g, args, out v, false, false⟩) (by unfold KnOk; rw [if_neg (by simp)]; exact hc v rfl)) h
    · simp at h
  | .bindF (o := o') (g := g) (args := args) (out := out) hc d, K, s, o, hK, h => by
    simp only [xrun, sem_bind] at h
    split at h
    · rename_i v
      exact xrun_ok h0 (hK.snoc (kn := ⟨g, args, out v, true, _⟩) (by unfold KnOk; rw [if_pos rfl]; exact hc v rfl)) h
    · simp at h
  | .finF .., K, s, o, hK, h => by simp [xrun, Tr.sem] at h
  | .assume t r d, K, s, o, hK, h => by
    simp only [xrun] at h
    split at h
    · rename_i b hb
      rw [sem_ask] at h
      obtain ⟨hbt, h⟩ := need_some h
      have hbt : b = r := hbt
      subst hbt
      exact Ends.step (fun base w0 cs0 => setB_reach hb) (xrun_ok h0 hK h)
    · simp [Tr.sem] at h
  | .strip t d, K, s, o, hK, h => by
    simp only [xrun] at h
    split at h
    · rename_i g x hb
      rw [sem_ask] at h
      obtain ⟨hbt, h⟩ := need_some h
      have hbt : g = true := hbt
      exact Ends.step (fun base w0 cs0 => strip_reach hb hbt) (xrun_ok h0 hK h)
    · simp [Tr.sem] at h
  | .frz t d, K, s, o, hK, h => by
    simp only [xrun] at h
    split at h
    · rename_i s' ps hz
      obtain ⟨hp, h2⟩ := asks_sem h
      exact Ends.step (fun base w0 cs0 => frz_reach hz hp) (xrun_ok h0 hK h2)
    · simp [Tr.sem] at h
  | .ren i j df kp gn d, K, s, o, hK, h => by
    simp only [xrun] at h
    split at h
    · rename_i s' ps hz
      obtain ⟨hp, h2⟩ := asks_sem h
      exact Ends.step (fun base w0 cs0 => renS_ok hz hp) (xrun_ok h0 hK h2)
    · simp [Tr.sem] at h
  | .cut k kp gn, K, s, o, hK, h => by
    simp only [xrun] at h
    split at h
    · rename_i s' ht
      simp only [sem_nxt, Option.some.injEq] at h
      subst h
      exact fun base w0 cs0 => trimK_ok ht
    · simp [Tr.sem] at h
  | .cutP k df kp gn, K, s, o, hK, h => by
    simp only [xrun] at h
    split at h
    · rename_i s' ps ht
      obtain ⟨hp, h2⟩ := asks_sem h
      simp only [sem_nxt, Option.some.injEq] at h2
      subst h2
      exact fun base w0 cs0 => trimK_ok (trimP_ok ht hp)
    · simp [Tr.sem] at h
  | .finP, K, s, o, hK, h => by
    simp only [xrun] at h
    split at h
    · rename_i v ps hv
      obtain ⟨hp, h2⟩ := asks_sem h
      simp only [sem_ret, Option.some.injEq] at h2
      subst h2
      exact ⟨v, ⟨s, fun _ _ _ => Reach.refl _ _ _ _ _, outP_ok hv hp⟩, rfl⟩
    · simp [Tr.sem] at h
  | .fin, K, s, o, hK, h => by
    simp only [xrun] at h
    split at h
    · rename_i v hv
      simp only [sem_ret, Option.some.injEq] at h
      subst h
      exact ⟨v, ⟨s, fun _ _ _ => Reach.refl _ _ _ _ _, hv⟩, rfl⟩
    · simp [Tr.sem] at h

def EndsF (cf : Cfg) (f : FuncId) (st : Bool) (s : ASt) : ASt ⊕ AV → Prop
  | .inl s' => ∀ base w0 cs0, Reach cf base w0 cs0 s s'
  | .inr r => FinF cf f st s r
theorem EndsF.step {f : FuncId} {st : Bool} {s s' : ASt} (hr : ∀ base w0 cs0, Reach cf base w0 cs0 s s') : ∀ {o : ASt ⊕ AV}, EndsF cf f st s' o → EndsF cf f st s o
  | .inl _, h => fun base w0 cs0 => Reach.trans (hr base w0 cs0) (h base w0 cs0)
  | .inr _, h => FinF.step hr h

theorem xrunF_ok (h0 : KnowOk cf.P cf.glob cf.K) {f : FuncId} {st : Bool} : ∀ {d : DT cf} {K : List Kn} {s : ASt} {o : ASt ⊕ AV}, KnowOk cf.P cf.glob K → (xrunF cf f st d K s).sem = some o → EndsF cf f st s o
  | .go n ds dr d, K, s, o, hK, h => by
    simp only [xrunF] at h
    split at h
    · rename_i s' ps ha
      split at h
      · rename_i qs hq
        obtain ⟨hp, h2⟩ := asks_sem h
        exact EndsF.step (fun base w0 cs0 => reach_K h0 hK (arun_ok ha (dropC_ok hq hp))) (xrunF_ok h0 hK h2)
      · simp [Tr.sem] at h
    · simp [Tr.sem] at h
  | .dead, K, s, o, hK, h => by simp [xrunF, Tr.sem] at h
  | .br b d1 d2, K, s, o, hK, h => by
    simp only [xrunF, sem_br] at h
    split at h
    · exact xrunF_ok h0 hK h
    · exact xrunF_ok h0 hK h
  | .split t d1 d2, K, s, o, hK, h => by
    simp only [xrunF] at h
    split at h
    · rename_i b hb
      rw [sem_br] at h
      split at h
      · rename_i hbt
        subst hbt
        exact EndsF.step (fun base w0 cs0 => setB_reach hb) (xrunF_ok h0 hK h)
      · rename_i hbt
        have : b = false := by simpa using hbt
        subst this
        exact EndsF.step (fun base w0 cs0 => setB_reach hb) (xrunF_ok h0 hK h)
    · simp [Tr.sem] at h
  | .bind (o := o') (g := g) (args := args) (out := out) hc d, K, s, o, hK, h => by
    simp only [xrunF, sem_bind] at h
    split at h
    · rename_i v
      exact xrunF_ok h0 (hK.snoc (kn := ⟨g, args, out v, false, false⟩) (by unfold KnOk; rw [if_neg (by simp)]; exact hc v rfl)) h
    · simp at h
  | .bindF (o := o') (g := g) (args := args) (out := out) hc d, K, s, o, hK, h => by
    simp only [xrunF, sem_bind] at h
    split at h
    · rename_i v
      exact xrunF_ok h0 (hK.snoc (kn := ⟨g, args, out v, true, _⟩) (by unfold KnOk; rw [if_pos rfl]; exact hc v rfl)) h
    · simp at h
  | .assume t r d, K, s, o, hK, h => by
    simp only [xrunF] at h
    split at h
    · rename_i b hb
      rw [sem_ask] at h
      obtain ⟨hbt, h⟩ := need_some h
      have hbt : b = r := hbt
      subst hbt
      exact EndsF.step (fun base w0 cs0 => setB_reach hb) (xrunF_ok h0 hK h)
    · simp [Tr.sem] at h
  | .strip t d, K, s, o, hK, h => by
    simp only [xrunF] at h
    split at h
    · rename_i g x hb
      rw [sem_ask] at h
      obtain ⟨hbt, h⟩ := need_some h
      have hbt : g = true := hbt
      exact EndsF.step (fun base w0 cs0 => strip_reach hb hbt) (xrunF_ok h0 hK h)
    · simp [Tr.sem] at h
  | .frz t d, K, s, o, hK, h => by
    simp only [xrunF] at h
    split at h
    · rename_i s' ps hz
      obtain ⟨hp, h2⟩ := asks_sem h
      exact EndsF.step (fun base w0 cs0 => frz_reach hz hp) (xrunF_ok h0 hK h2)
    · simp [Tr.sem] at h
  | .ren i j df kp gn d, K, s, o, hK, h => by
    simp only [xrunF] at h
    split at h
    · rename_i s' ps hz
      obtain ⟨hp, h2⟩ := asks_sem h
      exact EndsF.step (fun base w0 cs0 => renS_ok hz hp) (xrunF_ok h0 hK h2)
    · simp [Tr.sem] at h
  | .cut k kp gn, K, s, o, hK, h => by
    simp only [xrunF] at h
    split at h
    · rename_i s' ht
      simp only [sem_nxt, Option.some.injEq] at h
      subst h
      exact fun base w0 cs0 => trimK_ok ht
    · simp [Tr.sem] at h
  | .cutP k df kp gn, K, s, o, hK, h => by
    simp only [xrunF] at h
    split at h
    · rename_i s' ps ht
      obtain ⟨hp, h2⟩ := asks_sem h
      simp only [sem_nxt, Option.some.injEq] at h2
      subst h2
      exact fun base w0 cs0 => trimK_ok (trimP_ok ht hp)
    · simp [Tr.sem] at h
  | .fin, K, s, o, hK, h => by simp [xrunF, Tr.sem] at h
  | .finP, K, s, o, hK, h => by simp [xrunF, Tr.sem] at h
  | .finF sz st' p, K, s, o, hK, h => by
    simp only [xrunF] at h
    split at h
    · split at h
      · rename_i v ps hv
        obtain ⟨hp, h2⟩ := asks_sem h
        simp only [sem_ret, Option.some.injEq] at h2
        subst h2
        exact ⟨s, sz, p, ps, fun _ _ _ => Reach.refl _ _ _ _ _, hv, hp⟩
      · simp [Tr.sem] at h
    · simp [Tr.sem] at h

/-- The state at a call's entry. -/
def ent (cf : Cfg) (f : FuncId) (args : List AV) : ASt := match enterA cf.P f args with
  | some a => ⟨a, [], []⟩
  | none => ⟨⟨0, [], [], [], false, none⟩, [], []⟩

theorem tree_fin (h0 : KnowOk cf.P cf.glob cf.K) {σ ρ : Type} {f : FuncId} {B : σ → Tr σ ρ} {st : σ → ASt} {out : ρ → AV} (hB : ∀ s, ∃ d, xrun cf f d [] (st s) = (B s).mach st out) {s : σ} {r : ρ} (h : Runs B s r) : FinW cf f (st s) (out r) := by
  have hnil : KnowOk cf.P cf.glob [] := ⟨h0.1, by intro j kn hj; simp at hj⟩
  induction h with
  | @ret s r h =>
    obtain ⟨d, hd⟩ := hB s
    have := mach_sem st out h
    rw [← hd] at this
    exact xrun_ok h0 hnil this
  | @nxt s s' r h _ ih =>
    obtain ⟨d, hd⟩ := hB s
    have := mach_sem st out h
    rw [← hd] at this
    exact FinW.step (xrun_ok h0 hnil this) ih

/-- **A contract, out of a transition system.** -/
theorem tree_pure (h0 : KnowOk cf.P cf.glob cf.K) {σ ρ : Type} {f : FuncId} {B : σ → Tr σ ρ} {st : σ → ASt} {out : ρ → AV} (hB : ∀ s, ∃ d, xrun cf f d [] (st s) = (B s).mach st out) {s : σ} {args : List AV}
    (hs : st s = ent cf f args) (he : (enterA cf.P f args).isSome = true) (v : ρ) (h : res B s = some v) : PureCalls cf.P cf.glob f args (out v) := by
  obtain ⟨x, h1, h2⟩ := tree_fin h0 hB (runs_of_res h)
  rw [hs] at h1
  unfold ent at h1
  cases ha : enterA cf.P f args with
  | none => rw [ha] at he; simp at he
  | some a =>
    rw [ha] at h1
    rw [← h2]
    exact (Fin.pure h0 ha h1).weak
theorem tree_finF (h0 : KnowOk cf.P cf.glob cf.K) {σ ρ : Type} {f : FuncId} {sf : Bool} {B : σ → Tr σ ρ} {st : σ → ASt} {out : ρ → AV} (hB : ∀ s, ∃ d, xrunF cf f sf d [] (st s) = (B s).mach st out) {s : σ} {r : ρ} (h : Runs B s r) : FinF cf f sf (st s) (out r) := by
  have hnil : KnowOk cf.P cf.glob [] := ⟨h0.1, by intro j kn hj; simp at hj⟩
  induction h with
  | @ret s r h =>
    obtain ⟨d, hd⟩ := hB s
    have := mach_sem st out h
    rw [← hd] at this
    exact xrunF_ok h0 hnil this
  | @nxt s s' r h _ ih =>
    obtain ⟨d, hd⟩ := hB s
    have := mach_sem st out h
    rw [← hd] at this
    exact FinF.step (xrunF_ok h0 hnil this) ih

/-- **A contract, out of a transition system.** -/
theorem tree_pureF (h0 : KnowOk cf.P cf.glob cf.K) {σ ρ : Type} {f : FuncId} {sf : Bool} {B : σ → Tr σ ρ} {st : σ → ASt} {out : ρ → AV} (hB : ∀ s, ∃ d, xrunF cf f sf d [] (st s) = (B s).mach st out) {s : σ} {args : List AV}
    (hs : st s = ent cf f args) (he : (enterA cf.P f args).isSome = true) (v : ρ) (h : res B s = some v) : PureCallsF cf.P cf.glob f args (out v) sf := by
  have h1 := tree_finF h0 hB (runs_of_res h)
  rw [hs] at h1
  unfold ent at h1
  cases ha : enterA cf.P f args with
  | none => rw [ha] at he; simp at he
  | some a =>
    rw [ha] at h1
    exact FinF.pure h0 ha h1
end

theorem tv_t (c : Bool) : PC.holds (.eqB (!c || (c == true)) true) := by cases c <;> rfl
theorem tv_f (c : Bool) : PC.holds (.eqB (!!c || (c == false)) true) := by cases c <;> rfl
theorem tv_s (b : Bool) : PC.holds (.eqB (!b || b) true) := by cases b <;> rfl
/-- A list of temporaries, of which some are told. -/
def sp : Nat → Nat → List (Nat × AV) → List AV
  | 0, _, _ => []
  | n + 1, i, [] => .any :: sp n (i + 1) []
  | n + 1, i, (j, a) :: l => if Nat.beq i j then a :: sp n (i + 1) l else .any :: sp n (i + 1) ((j, a) :: l)
abbrev vI (n : Int) : DV := .v (.int .i64 n)
abbrev aI (n : Int) : AV := .d (.v (.int .i64 n))
abbrev aB (b : Bool) : AV := .d (.v (.bool b))
abbrev aS (s : ByteArray) : AV := .d (.v (.string s))
abbrev aL (n : Nat) (xs : List DV) : AV := .d (.sl n xs)
end Go.Kv
