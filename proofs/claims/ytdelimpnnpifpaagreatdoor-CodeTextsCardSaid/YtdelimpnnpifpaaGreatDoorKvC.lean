/- The abstract operations that touch no memory, and their soundness. -/
import Derived.Test.YtdelimpnnpifpaaGreatDoorKvB
import Derived.Orders
set_option linter.all false
namespace Go.Kv
open Go Go.RowKit

def pureRun (P : Program) {α : Type} : Sem α → Option α
  | .pure a => some a
  | .program k => pureRun P (k P)
  | .mark _ k => pureRun P k
  | _ => none

theorem pureRun_run {P : Program} {α : Type} : ∀ {s : Sem α} {a : α}, pureRun P s = some a → ∀ w, s.run P w = .ok a w
  | .pure a, b, h, w => by simp [pureRun] at h; subst h; rfl
  | .program k, b, h, w => by
    simp only [pureRun] at h
    simp only [Sem.run]
    exact pureRun_run h w
  | .mark m k, b, h, w => by
    simp only [pureRun] at h
    simp only [Sem.run]
    exact pureRun_run h w
  | .load .., _, h, _ => by simp [pureRun] at h
  | .store .., _, h, _ => by simp [pureRun] at h
  | .new .., _, h, _ => by simp [pureRun] at h
  | .shape .., _, h, _ => by simp [pureRun] at h
  | .freeze .., _, h, _ => by simp [pureRun] at h
  | .frozen .., _, h, _ => by simp [pureRun] at h
  | .getObj .., _, h, _ => by simp [pureRun] at h
  | .setObj .., _, h, _ => by simp [pureRun] at h
  | .choose .., _, h, _ => by simp [pureRun] at h
  | .sys .., _, h, _ => by simp [pureRun] at h
  | .halt .., _, h, _ => by simp [pureRun] at h

def inI64 (n : Int) : Prop := -9223372036854775808 ≤ n ∧ n ≤ 9223372036854775807
def fitsN (n bytes : Nat) : Prop := n * bytes ≤ 140737488355328 ∧ n ≤ 9223372036854775807
instance (n : Int) : Decidable (inI64 n) := by unfold inI64; infer_instance
instance (n m : Nat) : Decidable (fitsN n m) := by unfold fitsN; infer_instance

/-- A condition of a path. -/
inductive PC where
  | le (a b : Int)
  | lt (a b : Int)
  | leN (a b : Nat)
  | ltN (a b : Nat)
  | eqI (a b : Int)
  | eqN (a b : Nat)
  | neI (a b : Int)
  | nlt (a b : Int)
  | eqB (a b : Bool)
  | in64 (a : Int)
  | fits (n m : Nat)
  | lt0 (l c : Int)
  | eqA (as bs : List AV)
  | prop (p : Prop)
def PC.holds : PC → Prop
  | .le a b => a ≤ b
  | .lt a b => a < b
  | .leN a b => a ≤ b
  | .ltN a b => a < b
  | .eqI a b => a = b
  | .eqN a b => a = b
  | .neI a b => a ≠ b
  | .nlt a b => ¬ a < b
  | .eqB a b => a = b
  | .in64 a => inI64 a
  | .fits n m => fitsN n m
  | .lt0 l c => l ≤ c ∨ l = 0
  | .eqA as bs => as = bs
  | .prop p => p
def PC.check : PC → Bool
  | .le a b => decide (a ≤ b)
  | .lt a b => decide (a < b)
  | .leN a b => decide (a ≤ b)
  | .ltN a b => decide (a < b)
  | .eqI a b => decide (a = b)
  | .eqN a b => decide (a = b)
  | .neI a b => decide (a ≠ b)
  | .nlt a b => decide (¬ a < b)
  | .eqB a b => decide (a = b)
  | .in64 a => decide (inI64 a)
  | .fits n m => decide (fitsN n m)
  | .lt0 l c => decide (l ≤ c ∨ l = 0)
  | .eqA _ _ => false
  | .prop _ => false
theorem PC.check_ok {p : PC} (h : p.check = true) : p.holds := by
  cases p <;> simp only [PC.check, decide_eq_true_eq] at h <;> first | exact h | (simp at h; done)

def AllP : List PC → Prop
  | [] => True
  | p :: ps => p.holds ∧ AllP ps
theorem AllP.append {ps qs : List PC} (h : AllP (ps ++ qs)) : AllP ps ∧ AllP qs := by
  induction ps with
  | nil => exact ⟨trivial, h⟩
  | cons p ps ih => exact ⟨⟨h.1, (ih h.2).1⟩, (ih h.2).2⟩

/-- The conditions that are not plain. -/
def openP : List PC → List PC
  | [] => []
  | p :: ps => match p.check with
    | true => openP ps
    | false => p :: openP ps
theorem openP_ok : ∀ {ps : List PC}, AllP (openP ps) → AllP ps
  | [], _ => trivial
  | p :: ps, h => by
    unfold openP at h
    split at h
    · rename_i hc
      exact ⟨PC.check_ok hc, openP_ok h⟩
    · exact ⟨h.1, openP_ok h.2⟩

inductive Dec where
  | none
  | as (x : AV)
  | br (b : Bool)
  | call (args : List AV) (res : AV)
  | enter
  | ext (v : Value)
  | extN
  | ck (j : Nat)
  | cq (j : Nat)
  | ce (j : Nat)
  | inp (ys : List DV)
  | sp (c : Option Nat)
  | mg
  | nx (b : Bool)

/-- What a function outside of the program is asked for: a NaN for a NaN; a pointer as it is. -/
inductive ExtK where
  | nan (k : FloatKind)
  | same (a : AV)
def ExtK.val : ExtK → AV
  | .nan k => .nan k
  | .same a => a
def nanArg : List AV → Option ExtK
  | [.nan k] => some (.nan k)
  | [.ptr b off] => some (.same (.ptr b off))
  | _ => none
/-- A function outside of the program hands back a NaN of its kind for a NaN; or what it is given. -/
def NanExt (P : Program) (g : FuncId) : ExtK → Prop
  | .nan k => ∀ b, NanB k b → ∀ w : World, ∃ b' w', (callFunc g #[.float k b]).run P w = .ok (.value (.float k b')) w' ∧ NanB k b' ∧ (w' = w ∨ w' = w.drew)
  | .same _ => ∀ (x : Value) (w : World), (callFunc g #[x]).run P w = .ok (.value x) w
/-- A call that is known: its function, its arguments, what it hands back. -/
structure Kn where
  g : Nat
  args : List AV
  res : AV
  fr : Bool := false
  st : Bool := false

structure Cfg where
  P : Program
  ex : Bool
  glob : Nat → Option (List DV)
  K : List Kn := []
  own0 : Bool := false
  rows : List Nat := []

structure ARes where
  pcs : List PC
  val : AV
  wr : List (Nat × ABlk)

def AV.val : AV → Option Value
  | .d (.v x) => some x
  | _ => none
def avVals : List AV → Option (List Value)
  | [] => some []
  | a :: as => match a.val, avVals as with
    | some x, some xs => some (x :: xs)
    | _, _ => none
def AV.full : AV → Option Value
  | .agg cs => match avVals cs with
    | some xs => some (.agg xs.toArray)
    | none => none
  | .tup cs => match avVals cs with
    | some xs => some (.tuple xs.toArray)
    | none => none
  | .d (.v x) => some x
  | _ => none

theorem Rel.val {c : Ctx} {w : World} {a : AV} {u x : Value} (h : Rel c w a u) (hv : a.val = some x) : u = x := by
  cases a with
  | d y =>
    cases y with
    | v y => simp [AV.val] at hv; subst hv; simp [Rel, RelD] at h; exact h.1
    | sl => simp [AV.val] at hv
  | _ => simp [AV.val] at hv
theorem Rels.vals {c : Ctx} {w : World} : ∀ {as : List AV} {us xs : List Value}, Rels c w as us → avVals as = some xs → us = xs
  | [], us, xs, h, hv => by simp [avVals] at hv; subst hv; exact h.nil_inv
  | a :: as, us, xs, h, hv => by
    obtain ⟨u, r, rfl, hu, t⟩ := h.cons_inv
    simp only [avVals] at hv
    split at hv
    · rename_i x xs' h1 h2
      simp at hv; subst hv
      rw [hu.val h1, Rels.vals t h2]
    · simp at hv
theorem Rel.full {c : Ctx} {w : World} {a : AV} {u x : Value} (h : Rel c w a u) (hv : a.full = some x) : u = x := by
  cases a with
  | d y =>
    cases y with
    | v y => simp [AV.full] at hv; subst hv; simp [Rel, RelD] at h; exact h.1
    | sl => simp [AV.full] at hv
  | agg cs =>
    unfold Rel at h; obtain ⟨us, rfl, hs⟩ := h
    simp only [AV.full] at hv
    split at hv
    · rename_i xs hxs; simp at hv; subst hv; rw [hs.vals hxs]
    · simp at hv
  | tup cs =>
    unfold Rel at h; obtain ⟨us, rfl, hs⟩ := h
    simp only [AV.full] at hv
    split at hv
    · rename_i xs hxs; simp at hv; subst hv; rw [hs.vals hxs]
    · simp at hv
  | _ => simp [AV.full] at hv

def one' : Value → Bool
  | .agg _ => false
  | .tuple _ => false
  | _ => true
theorem one'_eq (x : Value) : one' x = x.oneCell' := by cases x <;> rfl

def lift1 : Value → Option AV
  | .agg cs => if cs.toList.all one' then some (.agg (cs.toList.map fun x => .d (.v x))) else none
  | .tuple _ => none
  | x => some (.d (.v x))
def lifts : List Value → Option (List AV)
  | [] => some []
  | x :: xs => match lift1 x, lifts xs with
    | some a, some as => some (a :: as)
    | _, _ => none
def liftV : Value → Option AV
  | .tuple vs => match lifts vs.toList with
    | some as => some (.tup as)
    | none => none
  | x => lift1 x

theorem relDs_vals {φ : Nat → Nat} {w : World} : ∀ (xs : List Value), xs.all one' = true → RelDs φ w (xs.map DV.v) xs
  | [], _ => RelDs.nil
  | x :: xs, h => by
    simp at h
    exact RelDs.cons (by unfold RelD; exact ⟨rfl, by rw [← one'_eq]; exact h.1⟩) (relDs_vals xs (by simpa using h.2))
theorem rels_vals {c : Ctx} {w : World} (xs : List Value) (h : xs.all one' = true) : Rels c w (xs.map fun x => AV.d (.v x)) xs := by
  have := Rels.map_d (c := c) (relDs_vals (φ := c.φ) (w := w) xs h)
  simpa [List.map_map, Function.comp_def] using this
theorem rel_lift1 {c : Ctx} {w : World} {x : Value} {a : AV} (h : lift1 x = some a) : Rel c w a x := by
  cases x with
  | agg cs =>
    simp only [lift1] at h
    split at h
    · rename_i hall
      simp at h; subst h
      unfold Rel; exact ⟨cs.toList, by simp, rels_vals _ hall⟩
    · simp at h
  | tuple => simp [lift1] at h
  | _ => simp [lift1] at h; subst h; unfold Rel RelD; exact ⟨rfl, rfl⟩
theorem rels_lifts {c : Ctx} {w : World} : ∀ {xs : List Value} {as : List AV}, lifts xs = some as → Rels c w as xs
  | [], as, h => by simp [lifts] at h; subst h; exact Rels.nil
  | x :: xs, as, h => by
    simp only [lifts] at h
    split at h
    · rename_i a as' h1 h2
      simp at h; subst h
      exact Rels.cons (rel_lift1 h1) (rels_lifts h2)
    · simp at h
theorem rel_liftV {c : Ctx} {w : World} {x : Value} {a : AV} (h : liftV x = some a) : Rel c w a x := by
  cases x with
  | tuple vs =>
    simp only [liftV] at h
    split at h
    · rename_i as has
      simp at h; subst h
      unfold Rel; exact ⟨vs.toList, by simp, rels_lifts has⟩
    · simp at h
  | _ => exact rel_lift1 (by simpa [liftV] using h)

def isSelect : Op → Bool
  | .select _ _ => true
  | _ => false

def pureOp (cf : Cfg) (o : Oper) (ev : Operand → AV) : Option ARes :=
  if isSelect o.op then none
  else if o.op.operands.toList.all (fun x => (ev x).full.isSome) then
    match pureRun cf.P (execOp (fun x => ((ev x).full).getD undef) o) with
    | some (.value v) => match liftV v with
      | some a => some ⟨[], a, []⟩
      | none => none
    | _ => none
  else none

/-- What the soundness of an operation says. -/
def OpOk (cf : Cfg) (base : Nat) (w0 : Start) (c : Ctx) (w : World) (H : List ABlk) (av : Operand → Value) (o : Oper) (r : ARes) : Prop :=
  ∃ w' c' v, ((execOp av o).run cf.P w = .ok (.value v) w' ∨ ((execOp av o).run cf.P w = .ok .skip w' ∧ v = undef)) ∧
    Ctx.Le c w c' w' ∧ WRel base w0 c' w' (r.wr.foldl (fun H x => H.set x.1 x.2) H) ∧ Rel c' w' r.val v

theorem OpOk.same {cf : Cfg} {base : Nat} {w0 : Start} {c : Ctx} {w : World} {H : List ABlk} (h : WRel base w0 c w H) {av : Operand → Value} {o : Oper} {ps : List PC} {a : AV} {v : Value}
    (hr : (execOp av o).run cf.P w = .ok (.value v) w) (ha : Rel c w a v) : OpOk cf base w0 c w H av o ⟨ps, a, []⟩ :=
  ⟨w, c, v, .inl hr, Ctx.Le.refl c w, h, ha⟩

theorem pureOp_ok {cf : Cfg} {base : Nat} {w0 : Start} {c : Ctx} {w : World} {H : List ABlk} (h : WRel base w0 c w H) {av : Operand → Value} {ev : Operand → AV} (hev : ∀ x, Rel c w (ev x) (av x)) {o : Oper} {r : ARes}
    (hr : pureOp cf o ev = some r) : OpOk cf base w0 c w H av o r := by
  unfold pureOp at hr
  split at hr
  · simp at hr
  rename_i hsel
  split at hr
  · rename_i hall
    split at hr
    · rename_i v hv
      split at hr
      · rename_i a ha
        simp at hr; subst hr
        refine OpOk.same h ?_ (rel_liftV ha)
        have hcongr : execOp av o = execOp (fun x => ((ev x).full).getD undef) o := by
          refine execOp_congr o (by intro cs b he; rw [he] at hsel; simp [isSelect] at hsel) ?_
          intro x hx
          have := List.all_eq_true.1 hall x (by simpa using hx)
          cases hf : (ev x).full with
          | none => rw [hf] at this; simp at this
          | some y => rw [(hev x).full hf]; simp
        rw [hcongr]
        exact pureRun_run hv w
      · simp at hr
    · simp at hr
  · simp at hr

/-! ### Values made up before they are used: for the kernel's sake -/
def fList {α β : Type} (f : α → (α → β) → β) : List α → (List α → β) → β
  | [], k => k []
  | x :: xs, k => f x fun x => fList f xs fun xs => k (x :: xs)
def fId {α β : Type} (x : α) (k : α → β) : β := k x
def fVal {β : Type} (v : Value) (k : Value → β) : β := match v with
  | .int i n => k (.int i n)
  | .bool b => k (.bool b)
  | .float i n => k (.float i n)
  | .string s => k (.string s)
  | v => k v
def fDV {β : Type} (x : DV) (k : DV → β) : β := match x with
  | .v v => fVal v fun v => k (.v v)
  | .sl n xs => k (.sl n xs)
mutual
def fAV {β : Type} : AV → (AV → β) → β
  | .d x, k => fDV x fun x => k (.d x)
  | .ptr b o, k => k (.ptr b o)
  | .ip cs, k => k (.ip cs)
  | .own b e sz n xs, k => k (.own b e sz n xs)
  | .ms b o sz n c, k => k (.ms b o sz n c)
  | .fn f fs cs, k => fAVs fs fun fs => fAVs cs fun cs => k (.fn f fs cs)
  | .yl b, k => k (.yl b)
  | .mp b, k => k (.mp b)
  | .em, k => k .em
  | .nan f, k => k (.nan f)
  | .agg cs, k => fAVs cs fun cs => k (.agg cs)
  | .tup cs, k => fAVs cs fun cs => k (.tup cs)
  | .opt b x, k => fAV x fun x => k (.opt b x)
  | .any, k => k .any
def fAVs {β : Type} : List AV → (List AV → β) → β
  | [], k => k []
  | a :: as, k => fAV a fun a => fAVs as fun as => k (a :: as)
end
def fBlk {β : Type} (x : ABlk) (k : ABlk → β) : β := match x with
  | .gone => k .gone
  | .dead => k .dead
  | .cells cs t => k (.cells cs t)
  | .tail e => k (.tail e)
  | .loop l => k (.loop l)
  | .defd => k .defd
  | .mp m => k (.mp m)
  | .itr i => k (.itr i)
theorem fVal_eq {β : Type} (v : Value) (k : Value → β) : fVal v k = k v := by cases v <;> rfl
theorem fDV_eq {β : Type} (x : DV) (k : DV → β) : fDV x k = k x := by
  cases x with
  | v v => simp only [fDV, fVal_eq]
  | sl => rfl
mutual
theorem fAV_eq {β : Type} : ∀ (a : AV) (k : AV → β), fAV a k = k a
  | .d x, k => by simp only [fAV, fDV_eq]
  | .ptr .., k => rfl
  | .ip .., k => rfl
  | .own .., k => rfl
  | .ms .., k => rfl
  | .fn f fs cs, k => by simp only [fAV, fAVs_eq fs, fAVs_eq cs]
  | .yl _, k => rfl
  | .mp _, k => rfl
  | .em, k => rfl
  | .nan _, k => rfl
  | .agg cs, k => by simp only [fAV, fAVs_eq cs]
  | .tup cs, k => by simp only [fAV, fAVs_eq cs]
  | .opt b x, k => by simp only [fAV, fAV_eq x]
  | .any, k => rfl
theorem fAVs_eq {β : Type} : ∀ (as : List AV) (k : List AV → β), fAVs as k = k as
  | [], k => rfl
  | a :: as, k => by simp only [fAVs, fAV_eq a, fAVs_eq as]
end
theorem fBlk_eq {β : Type} (x : ABlk) (k : ABlk → β) : fBlk x k = k x := by cases x <;> rfl
theorem fList_eq {α β : Type} {f : α → (α → β) → β} (hf : ∀ x k, f x k = k x) : ∀ (xs : List α) (k : List α → β), fList f xs k = k xs
  | [], k => rfl
  | x :: xs, k => by simp only [fList, hf, fList_eq hf xs]
theorem fSp_eq {α β : Type} (xs : List α) (k : List α → β) : fList fId xs k = k xs := fList_eq (fun _ _ => rfl) xs k
theorem fBlks_eq {β : Type} (xs : List ABlk) (k : List ABlk → β) : fList fBlk xs k = k xs := fList_eq fBlk_eq xs k
end Go.Kv
