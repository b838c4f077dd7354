/- Closed calls: what is run by the kernel alone. -/
import Derived.Test.YtdelimpnnpifpaaGreatDoorKvV
set_option linter.all false
namespace Go.Kv
open Go Go.RowKit

/-- A step of a closed run. -/
inductive CT (cf : Cfg) : Type 1 where
  | run (n : Nat) (ds : List Dec) (d : CT cf)
  | use {g : Nat} {args : List AV} {r : AV} (h : PureCalls cf.P cf.glob g args r) (d : CT cf)
  | fin
  | finE

/-- A state made up before it is used: for the kernel's sake. -/
def fBlkD {β : Type} (x : ABlk) (k : ABlk → β) : β := match x with
  | .gone => k .gone
  | .dead => k .dead
  | .cells cs t => fAVs cs fun cs => k (.cells cs t)
  | .tail e => k (.tail e)
  | .loop l => k (.loop l)
  | .defd => k .defd
  | .mp m => k (.mp m)
  | .itr i => k (.itr i)
theorem fBlkD_eq {β : Type} (x : ABlk) (k : ABlk → β) : fBlkD x k = k x := by
  cases x <;> first | rfl | simp only [fBlkD, fAVs_eq]
def fSt {β : Type} (s : ASt) (k : ASt → β) : β := fAVs s.fr.tmps fun T => fList fBlkD s.H fun H => k ⟨{ s.fr with tmps := T }, s.cs, H⟩
theorem fSt_eq {β : Type} (s : ASt) (k : ASt → β) : fSt s k = k s := by
  unfold fSt
  rw [fAVs_eq, fList_eq fBlkD_eq]
def arunF (cf : Cfg) : Nat → ASt → List Dec → SR
  | 0, s, ds => some (s, ds, [])
  | n + 1, s, ds => match astep cf s ds with
    | some (s', ds', ps) => fSt s' fun s' => match arunF cf n s' ds' with
      | some (s'', ds'', qs) => some (s'', ds'', ps ++ qs)
      | none => none
    | none => none
theorem arunF_eq (cf : Cfg) : ∀ (n : Nat) (s : ASt) (ds : List Dec), arunF cf n s ds = arun cf n s ds
  | 0, _, _ => rfl
  | n + 1, s, ds => by
    simp only [arunF, arun, fSt_eq]
    cases astep cf s ds with
    | none => rfl
    | some x =>
      obtain ⟨s', ds', ps⟩ := x
      simp only [arunF_eq cf n]
      cases arun cf n s' ds' with
      | none => rfl
      | some y => rfl

/-- Of the conditions, those that are not seen to hold; the arguments are looked at by the one who uses the run. -/
def crun (cf : Cfg) (f : FuncId) : CT cf → List Kn → ASt → Option (AV × List PC)
  | .run n ds d, K, s => match arunF { cf with K := K } n s ds with
    | some (s', [], ps) => match crun cf f d K s' with
      | some (v, qs) => some (v, openP ps ++ qs)
      | none => none
    | _ => none
  | .use (g := g) (args := args) (r := r) _ d, K, s => crun cf f d (K ++ [⟨g, args, r, false, false⟩]) s
  | .fin, _, s => match outA cf f s with
    | some v => some (weakA v, [])
    | none => none
  | .finE, _, s => match outA cf f s with
    | some v => some (v, [])
    | none => none

section
variable {cf : Cfg}
def FinV (cf : Cfg) (f : FuncId) (s : ASt) (r : AV) : Prop := ∃ v, Fin cf f s v ∧ (weakA v = r ∨ v = r)
theorem FinV.step {f : FuncId} {s s' : ASt} {r : AV} (hr : ∀ base w0 cs0, Reach cf base w0 cs0 s s') (h : FinV cf f s' r) : FinV cf f s r := by
  obtain ⟨v, h1, h2⟩ := h
  exact ⟨v, Fin.step hr h1, h2⟩
theorem crun_ok (h0 : KnowOk cf.P cf.glob cf.K) {f : FuncId} : ∀ {d : CT cf} {K : List Kn} {s : ASt} {v : AV} {ps : List PC}, KnowOk cf.P cf.glob K → crun cf f d K s = some (v, ps) → AllP ps → FinV cf f s v
  | .run n ds d, K, s, v, ps, hK, h, hp => by
    simp only [crun, arunF_eq] at h
    split at h
    · rename_i s' qs ha
      split at h
      · rename_i v' qs' hd
        simp only [Option.some.injEq, Prod.mk.injEq] at h
        obtain ⟨rfl, rfl⟩ := h
        obtain ⟨hp1, hp2⟩ := AllP.append hp
        exact FinV.step (fun base w0 cs0 => reach_K h0 hK (arun_ok ha (openP_ok hp1))) (crun_ok h0 hK hd hp2)
      · simp at h
    · simp at h
  | .use hc d, K, s, v, ps, hK, h, hp => by
    simp only [crun] at h
    exact crun_ok h0 (hK.snoc (kn := ⟨_, _, _, false, false⟩) (by unfold KnOk; rw [if_neg (by simp)]; exact hc)) h hp
  | .fin, K, s, v, ps, hK, h, hp => by
    simp only [crun] at h
    split at h
    · rename_i v' hv
      simp only [Option.some.injEq, Prod.mk.injEq] at h
      obtain ⟨rfl, rfl⟩ := h
      exact ⟨v', ⟨s, fun _ _ _ => Reach.refl _ _ _ _ _, hv⟩, .inl rfl⟩
    · simp at h
  | .finE, K, s, v, ps, hK, h, hp => by
    simp only [crun] at h
    split at h
    · rename_i v' hv
      simp only [Option.some.injEq, Prod.mk.injEq] at h
      obtain ⟨rfl, rfl⟩ := h
      exact ⟨v', ⟨s, fun _ _ _ => Reach.refl _ _ _ _ _, hv⟩, .inr rfl⟩
    · simp at h

/-- A contract, out of a closed run. -/
theorem closed_ok (h0 : KnowOk cf.P cf.glob cf.K) {f : FuncId} {args : List AV} {d : CT cf} {v : AV} {ps : List PC} (he : (enterA cf.P f args).isSome = true) (h : crun cf f d [] (ent cf f args) = some (v, ps)) (hp : AllP ps) :
    PureCalls cf.P cf.glob f args v := by
  have hnil : KnowOk cf.P cf.glob [] := ⟨h0.1, by intro j kn hj; simp at hj⟩
  obtain ⟨x, h1, h2⟩ := crun_ok h0 hnil h hp
  unfold ent at h1
  cases ha : enterA cf.P f args with
  | none => rw [ha] at he; simp at he
  | some a =>
    rw [ha] at h1
    rcases h2 with h2 | h2
    · rw [← h2]
      exact (Fin.pure h0 ha h1).weak
    · rw [← h2]
      exact Fin.pure h0 ha h1
end
end Go.Kv
