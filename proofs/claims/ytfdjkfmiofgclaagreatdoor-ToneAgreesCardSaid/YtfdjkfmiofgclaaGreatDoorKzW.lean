import Derived.Test.YtfdjkfmiofgclaaGreatDoorKvW
import Derived.Test.YtfdjkfmiofgclaaGreatDoorKAw
namespace Go.Kv
set_option linter.all false
open Go Go.RowKit
def fStB {β : Type} (b : Bool) (s : ASt) (k : ASt → β) : β := match b with
 | true => fSt s k
 | false => k s
theorem fStB_eq {β : Type} (b : Bool) (s : ASt) (k : ASt → β) : fStB b s k = k s := by
 cases b
 ·rfl
 ·exact fSt_eq s k
def arunS (cf : Cfg) (m : Nat) : Nat → ASt → List Dec → SR
 | 0, s, ds => fSt s fun s => some (s, ds, [])
 | n + 1, s, ds => match astep cf s ds with
  | some (s', ds', ps) => fStB (Nat.beq (n % m) 0) s' fun s' => match arunS cf m n s' ds' with
   | some (s'', ds'', qs) => some (s'', ds'', ps ++ qs)
   | none => none
  | none => none
theorem arunS_eq (cf : Cfg) (m : Nat) : ∀ (n : Nat) (s : ASt) (ds : List Dec), arunS cf m n s ds = arun cf n s ds
 | 0, s, _ => by unfold arunS; rw [fSt_eq]; rfl
 | n + 1, s, ds => by
  simp only [arunS, arun, fStB_eq]
  cases astep cf s ds with
  | none => rfl
  | some x =>
   obtain ⟨s', ds', ps⟩ := x
   simp only [arunS_eq cf m n]
   cases arun cf n s' ds' with
   | none => rfl
   | some y => rfl
def crunS (cf : Cfg) (m : Nat) (f : FuncId) : CT cf → List Kn → ASt → Option (AV × List PC)
 | .run n ds d, K, s => match arunS { cf with K := K } m n s ds with
  | some (s', [], ps) => match crunS cf m f d K s' with
   | some (v, qs) => some (v, openP ps ++ qs)
   | none => none
  | _ => none
 | .use (g := g) (args := args) (r := r) _ d, K, s => crunS cf m f d (K ++ [⟨g, args, r, false, false⟩]) s
 | .fin, _, s => match outA cf f s with
  | some v => some (weakA v, [])
  | none => none
theorem crunS_eq (cf : Cfg) (m : Nat) (f : FuncId) : ∀ (d : CT cf) (K : List Kn) (s : ASt), crunS cf m f d K s = crun cf f d K s
 | .run n ds d, K, s => by
  simp only [crunS, crun, arunS_eq, arunF_eq]
  simp only [crunS_eq cf m f d]
  cases arun { cf with K := K } n s ds with
  | none => rfl
  | some x =>
   obtain ⟨s', ds', ps⟩ := x
   cases ds' with
   | nil => rfl
   | cons => rfl
 | .use _ d, K, s => by simp only [crunS, crun]; exact crunS_eq cf m f d _ s
 | .fin, K, s => rfl
end Go.Kv
namespace Go.Kv
open Go Go.RowKit Go.Proofs
set_option maxRecDepth 100000
noncomputable def aw355D : CT cfz := .run 6 [] <| .use aw0 <| .run 1 [(.ck 0)] <| .use aw70 <| .run 1 [(.ck 1)] <| .run 8 [] <| .run 1 [(.ck 0)] <| .use aw98 <| .run 1 [(.ck 2)] <| .run 9 [] <| .run 1 [(.ck 0)] <| .use aw113 <| .run 1 [(.ck 3)] <| .run 9 [] <| .use aw114 <| .run 1 [(.ck 4)] <| .use aw148 <| .run 1 [(.ck 5)] <| .run 9 [] <| .run 1 [(.ck 4)] <| .use aw154 <| .run 1 [(.ck 6)] <| .run 9 [] <| .use aw155 <| .run 1 [(.ck 7)] <| .use aw187 <| .run 1 [(.ck 8)] <| .run 9 [] <| .run 1 [(.ck 0)] <| .use arTop <| .run 1 [(.ck 9)] <| .run 28 [] <| .use aw188 <| .run 1 [(.br false), (.ck 10)] <| .run 25 [] <| .use aw189 <| .run 1 [(.br false), (.ck 11)] <| .run 7 [] <| .use aw190 <| .run 1 [(.ck 12)] <| .use aw212 <| .run 1 [(.ck 13)] <| .run 8 [] <| .run 1 [(.ck 12)] <| .use aw215 <| .run 1 [(.ck 14)] <| .run 8 [] <| .run 1 [(.ck 12)] <| .use aw219 <| .run 1 [(.ck 15)] <| .run 8 [] <| .run 1 [(.ck 12)] <| .use aw248 <| .run 1 [(.ck 16)] <| .run 8 [] <| .run 1 [(.ck 12)] <| .use best10 <| .run 1 [(.ck 17)] <| .run 10 [] <| .run 1 [(.ck 12)] <| .use best9 <| .run 1 [(.ck 18)] <| .run 10 [] <| .run 1 [(.ck 12)] <| .use aw251 <| .run 1 [(.ck 19)] <| .run 10 [] <| .use aw264 <| .run 1 [(.ck 20)] <| .run 12 [] <| .use aw271 <| .run 1 [(.ck 21)] <| .run 12 [] <| .use aw284 <| .run 1 [(.ck 22)] <| .run 42 [] <| .use aw285 <| .run 1 [(.br false), (.ck 23)] <| .run 5 [] <| .use aw286 <| .run 1 [(.br false), (.ck 24)] <| .run 9 [] <| .use aw287 <| .run 1 [(.br false), (.ck 25)] <| .run 15 [] <| .use aw288 <| .run 1 [(.br false), (.ck 26)] <| .run 5 [] <| .use aw289 <| .run 1 [(.br false), (.ck 27)] <| .run 5 [] <| .use aw290 <| .run 1 [(.br false), (.ck 28)] <| .run 10 [] <| .use aw308 <| .run 1 [(.ck 29)] <| .run 12 [] <| .use aw312 <| .run 1 [(.ck 30)] <| .run 12 [] <| .use aw316 <| .run 1 [(.ck 31)] <| .run 10 [] <| .use aw320 <| .run 1 [(.ck 32)] <| .run 12 [] <| .use aw325 <| .run 1 [(.ck 33)] <| .run 13 [] <| .use aw328 <| .run 1 [(.ck 34)] <| .run 20 [] <| .use aw353 <| .run 1 [(.ck 35)] <| .run 46 [] <| .use aw354 <| .run 1 [(.br true), (.ck 36)] <| .run 10 [] <| .run 1 [(.br true), (.ck 36)] <| .run 10 [] <| .run 1 [(.br true), (.ck 36)] <| .run 8 [] <|  .fin
theorem aw355k : crunS cfz 8 15 aw355D [] (ent cfz 15 []) = some ((.d (.v (.bool true))), [.eqA qa355 qa355, .eqA qa29 qa29, .eqA qa355 qa355, .eqA qa2 qa2, .eqA qa355 qa355, .eqA qa3 qa3, .eqA qa351 qa351, .eqA qa1 qa1, .eqA qa351 qa351, .eqA qa1 qa1, .eqA qa350 qa350, .eqA qa0 qa0, .eqA qa355 qa355, .eqA qa31 qa31, .eqA qa110 qa110, .eqA qa128 qa128, .eqA [] [], .eqA qa72 qa72, .eqA [] [], .eqA qa73 qa73, .eqA [] [], .eqA qa74 qa74, .eqA [] [], .eqA qa100 qa100, .eqA [] [], .eqA qa95 qa95, .eqA [] [], .eqA qa99 qa99, .eqA [] [], .eqA qa70 qa70, .eqA qa119 qa119, .eqA qa109 qa109, .eqA qa104 qa104, .eqA qa129 qa129, .eqA qa130 qa130, .eqA qa131 qa131, .eqA qa105 qa105, .eqA qa108 qa108, .eqA qa126 qa126, .eqA qa157 qa157, .eqA qa135 qa135, .eqA qa155 qa155, .eqA qa155 qa155, .eqA qa169 qa169, .eqA qa136 qa136, .eqA qa68 qa68, .eqA qa276 qa276, .eqA qa276 qa276, .eqA qa276 qa276]) := by kernel_rfl
theorem aw355 : PureCalls cfz.P cfz.glob 15 [] (.d (.v (.bool true))) := closed_ok knil (by kernel_rfl) ((crunS_eq cfz 8 15 aw355D [] (ent cfz 15 [])).symm.trans aw355k) ⟨rfl, rfl, rfl, rfl, rfl, rfl, rfl, rfl, rfl, rfl, rfl, rfl, rfl, rfl, rfl, rfl, rfl, rfl, rfl, rfl, rfl, rfl, rfl, rfl, rfl, rfl, rfl, rfl, rfl, rfl, rfl, rfl, rfl, rfl, rfl, rfl, rfl, rfl, rfl, rfl, rfl, rfl, rfl, rfl, rfl, rfl, rfl, rfl, rfl, trivial⟩
end Go.Kv
namespace Go.Kv
open Go Go.RowKit Go.Proofs
set_option maxRecDepth 100000
noncomputable def F15 : Option Bool := some true
def out15 (v : Bool) : AV := (.d (.v (.bool v)))
theorem f15 (v : Bool) (h : F15 = some v) : PureCalls cfz.P cfz.glob 15 [] (out15 v) := by
 cases (Option.some.inj h)
 exact aw355
end Go.Kv
