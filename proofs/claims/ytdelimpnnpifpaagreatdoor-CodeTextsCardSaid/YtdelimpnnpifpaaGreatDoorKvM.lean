/- What an operation looks at. -/
import Derived.Test.YtdelimpnnpifpaaGreatDoorKvL
set_option linter.all false
namespace Go.Kv
open Go Go.RowKit

mutual
def avNames : AV → List Nat
  | .ptr b _ => [b]
  | .own b _ _ _ _ => [b]
  | .ms b _ _ _ _ => [b]
  | .mp b => [b]
  | .agg cs => avNamess cs
  | .tup cs => avNamess cs
  | .fn _ fs cs => avNamess fs ++ avNamess cs
  | .opt _ x => avNames x
  | _ => []
def avNamess : List AV → List Nat
  | [] => []
  | a :: as => avNames a ++ avNamess as
end

section
variable {cf : Cfg} {get get' : Nat → ABlk}

mutual
theorem passA_congr : ∀ {a : AV}, (∀ b ∈ avNames a, get b = get' b) → passA get a = passA get' a
  | .d _, _ => rfl
  | .own .., _ => rfl
  | .ms b off sz n cap, h => by
    have := h b (by simp [avNames])
    simp only [passA, this]
  | .agg cs, h => by
    have := passAs_congr (as := cs) (fun b hb => h b (by simpa [avNames] using hb))
    simp only [passA, this]
  | .tup cs, h => by
    have := passAs_congr (as := cs) (fun b hb => h b (by simpa [avNames] using hb))
    simp only [passA, this]
  | .ptr b off, h => by
    have := h b (by simp [avNames])
    simp only [passA, this]
  | .ip .., _ => rfl
  | .fn _ fs cs, h => by
    have h1 := passAs_congr (as := fs) (fun b hb => h b (by simp [avNames, hb]))
    have h2 := passAs_congr (as := cs) (fun b hb => h b (by simp [avNames, hb]))
    simp only [passA, h1, h2]
  | .yl .., _ => rfl
  | .mp .., _ => rfl
  | .em, _ => rfl
  | .nan _, _ => rfl
  | .opt .., _ => rfl
  | .any, _ => rfl
theorem passAs_congr : ∀ {as : List AV}, (∀ b ∈ avNamess as, get b = get' b) → passAs get as = passAs get' as
  | [], _ => rfl
  | a :: as, h => by
    have h1 := passA_congr (a := a) (fun b hb => h b (by simp [avNamess, hb]))
    have h2 := passAs_congr (as := as) (fun b hb => h b (by simp [avNamess, hb]))
    simp only [passAs, h1, h2]
end
theorem passRs_congr : ∀ {as : List AV}, (∀ b ∈ avNamess as, get b = get' b) → passRs get as = passRs get' as
  | [], _ => rfl
  | a :: as, h => by
    have h1 := passA_congr (a := a) (fun b hb => h b (by simp [avNamess, hb]))
    have h3 : passR get a = passR get' a := by cases a <;> first | rfl | exact h1
    have h2 := passRs_congr (as := as) (fun b hb => h b (by simp [avNamess, hb]))
    simp only [passRs, h3, h2]

mutual
theorem passP_congr : ∀ {a : AV}, (∀ b ∈ avNames a, get b = get' b) → passP get a = passP get' a
  | .ms b off sz n cap, h => by
    have := h b (by simp [avNames])
    simp only [passP, this]
  | .agg cs, h => by
    have := passPs_congr (as := cs) (fun b hb => h b (by simpa [avNames] using hb))
    simp only [passP, this]
  | .tup cs, h => by
    have := passPs_congr (as := cs) (fun b hb => h b (by simpa [avNames] using hb))
    simp only [passP, this]
  | .d x, h => by simp only [passP, passA_congr h]
  | .own .., h => by simp only [passP, passA_congr h]
  | .ptr .., h => by simp only [passP, passA_congr h]
  | .ip .., h => by simp only [passP, passA_congr h]
  | .fn _ fs cs, h => by simp only [passP, passA_congr h]
  | .yl .., h => by simp only [passP, passA_congr h]
  | .mp .., h => by simp only [passP, passA_congr h]
  | .em, h => by simp only [passP, passA_congr h]
  | .nan _, h => by simp only [passP, passA_congr h]
  | .opt .., h => by simp only [passP, passA_congr h]
  | .any, h => by simp only [passP, passA_congr h]
theorem passPs_congr : ∀ {as : List AV}, (∀ b ∈ avNamess as, get b = get' b) → passPs get as = passPs get' as
  | [], _ => rfl
  | a :: as, h => by
    have h1 := passP_congr (a := a) (fun b hb => h b (by simp [avNamess, hb]))
    have h2 := passPs_congr (as := as) (fun b hb => h b (by simp [avNamess, hb]))
    simp only [passPs, h1, h2]
end

theorem pureOp_congr {o : Oper} {ev ev' : Operand → AV} (h : ∀ x ∈ o.op.operands, ev x = ev' x) : pureOp cf o ev = pureOp cf o ev' := by
  unfold pureOp
  by_cases hs : isSelect o.op = true
  · simp [hs]
  · rw [if_neg hs, if_neg hs]
    have h1 : o.op.operands.toList.all (fun x => (ev x).full.isSome) = o.op.operands.toList.all (fun x => (ev' x).full.isSome) := by
      rw [Bool.eq_iff_iff]
      simp only [List.all_eq_true]
      constructor
      · intro hh x hx; rw [← h x (by simpa using hx)]; exact hh x hx
      · intro hh x hx; rw [h x (by simpa using hx)]; exact hh x hx
    have h2 : execOp (fun x => ((ev x).full).getD undef) o = execOp (fun x => ((ev' x).full).getD undef) o :=
      execOp_congr o (by intro cs b he; rw [he] at hs; simp [isSelect] at hs) fun x hx => by rw [h x hx]
    rw [h1, h2]

theorem loadA_congr {t : TypeId} {a : AV} {dc : Dec} (h : ∀ b ∈ avNames a, get b = get' b) : loadA cf t a get dc = loadA cf t a get' dc := by
  unfold loadA
  cases a <;> try rfl
  rename_i b off
  have := h b (by simp [avNames])
  simp only [this]
theorem storeA_congr {t : TypeId} {a v : AV} {dc : Dec} (h : ∀ b ∈ avNames a, get b = get' b) : storeA cf t a v get dc = storeA cf t a v get' dc := by
  unfold storeA
  cases a with
  | ptr b off =>
    have := h b (by simp [avNames])
    cases szAgg cf.P t <;> cases cellsA v <;> first | rfl | simp only [this]
  | _ => rfl
theorem srcA2_congr {x : AV} (h : ∀ b ∈ avNames x, get b = get' b) : srcA2 get x = srcA2 get' x := by
  unfold srcA2
  cases x <;> try rfl
  case ms b off sz n cap =>
    have := h b (by simp [avNames])
    simp only [this]
theorem srcG_congr {x : AV} (h : ∀ b ∈ avNames x, get b = get' b) : srcG get x = srcG get' x := by
  unfold srcG
  rw [srcA2_congr h]
  cases x <;> try rfl
  case ms b off sz n cap =>
    have := h b (by simp [avNames])
    simp only [this]
theorem appendA_congr {ts : Array TypeId} {s x : AV} {nm : Nat} {dc : Dec} (h : ∀ b ∈ avNames s, get b = get' b) (hx : ∀ b ∈ avNames x, get b = get' b) : appendA cf ts s x get nm dc = appendA cf ts s x get' nm dc := by
  unfold appendA
  have : blkOf get s = blkOf get' s := by
    cases s <;> first | rfl | exact h _ (by simp [avNames])
  rw [this, srcA2_congr hx]

theorem rowNewA_congr {ts : Array TypeId} {s x : AV} {nm : Nat} (h : ∀ b ∈ avNames s, get b = get' b) (hx : ∀ b ∈ avNames x, get b = get' b) : rowNewA cf ts s x get nm = rowNewA cf ts s x get' nm := by
  unfold rowNewA
  have : blkMs get s = blkMs get' s := by
    cases s <;> first | rfl | exact h _ (by simp [avNames])
  rw [this, srcG_congr hx]
theorem appendMsA_congr {ts : Array TypeId} {s x : AV} (h : ∀ b ∈ avNames s, get b = get' b) : appendMsA cf ts s x get = appendMsA cf ts s x get' := by
  unfold appendMsA
  cases s <;> try rfl
  case ms b off sz n cap =>
    have := h b (by simp [avNames])
    cases srcA x <;> simp only [this]
theorem copyA_congr {ts : Array TypeId} {s x : AV} (h : ∀ b ∈ avNames s, get b = get' b) : copyA cf ts s x get = copyA cf ts s x get' := by
  unfold copyA
  cases s <;> try rfl
  case ms b off sz n cap =>
    have := h b (by simp [avNames])
    cases srcA x <;> simp only [this]
theorem rowA_congr {s : AV} (h : ∀ b ∈ avNames s, get b = get' b) : rowA get s = rowA get' s := by
  unfold rowA
  cases s <;> try rfl
  case d x => cases x <;> rfl
  case ms b off sz n cap =>
    have := h b (by simp [avNames])
    simp only [this]
theorem copyA2_congr {ts : Array TypeId} {s x : AV} (h : ∀ b ∈ avNames s, get b = get' b) (hx : ∀ b ∈ avNames x, get b = get' b) : copyA2 cf ts s x get = copyA2 cf ts s x get' := by
  have h0 := copyA_congr (cf := cf) (ts := ts) (x := x) h
  unfold copyA2
  cases x <;> try exact h0
  case ms b off sz n cap =>
    have e := rowA_congr (s := .ms b off sz n cap) hx
    simp only [e]
    generalize rowA get' (.ms b off sz n cap) = rw0
    cases s <;> try rfl
    case ms b' off' sz' n' cap' =>
      have := h b' (by simp [avNames])
      cases rw0 with
      | none => rfl
      | some p => obtain ⟨m0, ys⟩ := p; simp only [this]
theorem textA_congr {t t' : TypeId} {s : AV} (h : ∀ b ∈ avNames s, get b = get' b) : textA cf t t' s get = textA cf t t' s get' := by
  unfold textA
  simp only [rowA_congr h]
theorem textA2_congr {t t' : TypeId} {s : AV} (h : ∀ b ∈ avNames s, get b = get' b) : textA2 cf t t' s get = textA2 cf t t' s get' := by
  have := textA_congr (cf := cf) (t := t) (t' := t') h
  cases s <;> try exact this
  case d x => cases x <;> first | rfl | exact this | (rename_i u; cases u <;> first | rfl | exact this)
theorem markA_congr {t t' : TypeId} {s : AV} (h : ∀ b ∈ avNames s, get b = get' b) : markA cf t t' s get = markA cf t t' s get' := by
  unfold markA
  cases s <;> try rfl
  case own b e sz n xs =>
    have := h b (by simp [avNames])
    simp only [this]
theorem lookupA_congr {t : TypeId} {x i : AV} {ok : Bool} {dc : Dec} (h : ∀ b ∈ avNames x, get b = get' b) : lookupA cf t x i ok get dc = lookupA cf t x i ok get' dc := by
  unfold lookupA
  split
  · rename_i b _
    rw [h b (by simp [avNames])]
  · rfl
theorem mapUpdA_congr {t : TypeId} {x k v : AV} (h : ∀ b ∈ avNames x, get b = get' b) : mapUpdA cf t x k v get = mapUpdA cf t x k v get' := by
  unfold mapUpdA
  split
  · rename_i b _
    rw [h b (by simp [avNames])]
  · rfl
theorem evs_congr {ev ev' : Operand → AV} : ∀ {xs : List Operand}, (∀ x ∈ xs, ev x = ev' x) → evs ev xs = evs ev' xs
  | [], _ => rfl
  | x :: xs, h => by simp only [evs]; rw [h x (by simp), evs_congr fun y hy => h y (by simp [hy])]

theorem partsA_congr {ev ev' : Operand → AV} {ps : Array (Nat × Operand)} (h : ∀ x ∈ ps.map (·.2), ev x = ev' x) : partsA ev ps = partsA ev' ps := by
  unfold partsA
  apply List.map_congr_left
  intro x hx
  rw [h x.2 (Array.mem_map.2 ⟨x, by simpa using hx, rfl⟩)]

theorem boundA_congr {ev ev' : Operand → AV} {x : Option Operand} {d : Int} (h : ∀ y, x = some y → ev y = ev' y) : boundA ev x d = boundA ev' x d := by
  cases x with
  | none => rfl
  | some y => simp only [boundA, h y rfl]

theorem aop_congr {o : Oper} {ev ev' : Operand → AV} {nm : Nat} {dc : Dec} (h : ∀ x ∈ o.op.operands, ev x = ev' x) (hg : ∀ x ∈ o.op.operands, ∀ b ∈ avNames (ev x), get b = get' b) :
    aop cf o ev get nm dc = aop cf o ev' get' nm dc := by
  have hp := pureOp_congr (cf := cf) h
  have hl : ∀ t x, x ∈ o.op.operands → loadA cf t (ev x) get dc = loadA cf t (ev' x) get' dc := fun t x hx => by rw [loadA_congr (hg x hx), h x hx]
  unfold aop
  cases hop : o.op <;> rw [hop] at h hg hl <;> simp only [Op.operands] at h hg hl
  case move x => simp only [h x (by simp)]
  case assign x => simp only [h x (by simp)]
  case pick x a b => simp only [h x (by simp), h a (by simp), h b (by simp), pickA, hp]
  case box t x => simp only [h x (by simp)]
  case build t ps => simp only [hp, buildA, partsA_congr (ps := ps) (fun x hx => h x (by simpa using hx))]
  case buildSlice t n ps => simp only [buildSliceA, partsA_congr (ps := ps) (fun x hx => h x (by simpa using hx))]
  case load t a => exact hl t a (by simp)
  case store t a x => show storeA cf t (ev a) (ev x) get dc = storeA cf t (ev' a) (ev' x) get' dc; rw [storeA_congr (hg a (by simp)), h a (by simp), h x (by simp)]
  case nilCheck x => simp only [nilCheckA, h x (by simp), hp]
  case binOp op t x y t' => simp only [binA, h x (by simp), h y (by simp), hp]
  case unOp op t x => simp only [unA, h x (by simp), hp]
  case convert s d x => show orE (nanConvA cf s d (ev x)) (orE (convFA cf s d (ev x)) (orE (markA cf s d (ev x) get) (orE (textA2 cf s d (ev x) get) (pureOp cf o ev)))) = orE (nanConvA cf s d (ev' x)) (orE (convFA cf s d (ev' x)) (orE (markA cf s d (ev' x) get') (orE (textA2 cf s d (ev' x) get') (pureOp cf o ev')))); rw [markA_congr (hg x (by simp)), textA2_congr (hg x (by simp)), h x (by simp), hp]
  case makeSlice t l cp => simp only [h l (by simp), h cp (by simp)]
  case sliceToArrayPointer a x => simp only [h x (by simp)]
  case makeInterface t x => exact hp
  case makeFunc f first captured =>
    simp only [hp, makeFuncA, evs_congr (xs := first.toList) (fun x hx => h x (by simp at hx; simp [hx])), evs_congr (xs := captured.toList) (fun x hx => h x (by simp at hx; simp [hx]))]
  case slice t x lo hi mx =>
    have h1 := h x (by simp)
    have h2 : ∀ d, boundA ev lo d = boundA ev' lo d := fun d => boundA_congr fun y hy => h y (by subst hy; simp)
    have h3 : ∀ d, boundA ev hi d = boundA ev' hi d := fun d => boundA_congr fun y hy => h y (by subst hy; simp)
    have h4 : ∀ y, hi = some y → ev y = ev' y := fun y hy => h y (by subst hy; simp)
    have h5 : ∀ y, mx = some y → ev y = ev' y := fun y hy => h y (by subst hy; simp)
    have h6 : slice3A cf t ev x lo hi mx = slice3A cf t ev' x lo hi mx := by
      unfold slice3A
      cases hi with
      | none => cases cf.P.underlying t with
        | none => rfl
        | some d => cases d <;> rfl
      | some yh => cases mx with
        | none => cases cf.P.underlying t with
          | none => rfl
          | some d => cases d <;> rfl
        | some ym => cases cf.P.underlying t with
          | none => rfl
          | some d => cases d <;> simp only [h1, h2, h4 yh rfl, h5 ym rfl]
    simp only [hp, sliceA, h1, h2, h3, h6]
  case fieldAddr t x f => simp only [h x (by simp)]
  case field t x f => simp only [h x (by simp), hp]
  case indexAddr t x i => simp only [h x (by simp), h i (by simp)]
  case index t x i => simp only [h x (by simp), h i (by simp)]
  case extract t i => simp only [h t (by simp)]
  case lookup t x i ok => show lookupA cf t (ev x) (ev i) ok get dc = lookupA cf t (ev' x) (ev' i) ok get' dc; rw [lookupA_congr (hg x (by simp)), h x (by simp), h i (by simp)]
  case mapUpdate t m k x => show mapUpdA cf t (ev m) (ev k) (ev x) get = mapUpdA cf t (ev' m) (ev' k) (ev' x) get'; rw [mapUpdA_congr (hg m (by simp)), h m (by simp), h k (by simp), h x (by simp)]
  case insert t m k x => show mapUpdA cf t (ev m) (ev k) (ev x) get = mapUpdA cf t (ev' m) (ev' k) (ev' x) get'; rw [mapUpdA_congr (hg m (by simp)), h m (by simp), h k (by simp), h x (by simp)]
  case call cl =>
    obtain ⟨callee, args, argTypes⟩ := cl
    cases callee with
    | value f => rfl
    | invoke r m => rfl
    | builtin b =>
      simp only [Call.operands] at h hg
      have hargs : ∀ x ∈ args.toList, ev x = ev' x := fun x hx => h x (by simp at hx ⊢; exact hx)
      have hgs : ∀ x ∈ args.toList, ∀ b ∈ avNames (ev x), get b = get' b := fun x hx => hg x (by simp at hx ⊢; exact hx)
      cases b <;> try exact hp
      case append =>
        simp only
        split
        · rename_i s x hx
          rw [hx] at hargs hgs
          rw [rowNewA_congr (hgs s (by simp)) (hgs x (by simp)), appendA_congr (hgs s (by simp)) (hgs x (by simp)), appendMsA_congr (hgs s (by simp)), hargs s (by simp), hargs x (by simp)]
        · rfl
      case copy =>
        simp only
        split
        · rename_i s x hx
          rw [hx] at hargs hgs
          rw [copyA2_congr (hgs s (by simp)) (hgs x (by simp)), hargs s (by simp), hargs x (by simp)]
        · rfl
      case len =>
        simp only
        split
        · rename_i x hx
          rw [hx] at hargs
          rw [hargs x (by simp), hp]
        · rfl
theorem ptrConvA_congr {t t' : TypeId} {s : AV} (h : ∀ b ∈ avNames s, get b = get' b) : ptrConvA cf t t' s get = ptrConvA cf t t' s get' := by
  unfold ptrConvA
  have : blkPtr get s = blkPtr get' s := by
    cases s <;> first | rfl | exact h _ (by simp [avNames])
  rw [this]
theorem rowStrA_congr {ts : Array TypeId} {s x : AV} {nm : Nat} (h : ∀ b ∈ avNames s, get b = get' b) : rowStrA cf ts s x get nm = rowStrA cf ts s x get' nm := by
  unfold rowStrA
  have : blkMs get s = blkMs get' s := by
    cases s <;> first | rfl | exact h _ (by simp [avNames])
  rw [this]
theorem unsafeStrA_congr {ts : Array TypeId} {p n : AV} (h : ∀ b ∈ avNames p, get b = get' b) : unsafeStrA cf ts p n get = unsafeStrA cf ts p n get' := by
  unfold unsafeStrA
  have : blkPtr get p = blkPtr get' p := by
    cases p <;> first | rfl | exact h _ (by simp [avNames])
  rw [this]
theorem aopU_congr {o : Oper} {ev ev' : Operand → AV} {nm : Nat} {dc : Dec} (h : ∀ x ∈ o.op.operands, ev x = ev' x) (hg : ∀ x ∈ o.op.operands, ∀ b ∈ avNames (ev x), get b = get' b) :
    aopU cf o ev get nm dc = aopU cf o ev' get' nm dc := by
  have h0 := aop_congr (cf := cf) (nm := nm) (dc := dc) h hg
  unfold aopU
  rw [h0]
  cases hop : o.op <;> rw [hop] at h hg <;> simp only [Op.operands] at h hg <;> try rfl
  case binOp op t x y t' => simp only [h x (by simp), h y (by simp)]
  case convert s d x =>
    show orE (ptrConvA cf s d (ev x) get) _ = orE (ptrConvA cf s d (ev' x) get') _
    rw [ptrConvA_congr (hg x (by simp)), h x (by simp)]
  case call cl =>
    obtain ⟨callee, args, argTypes⟩ := cl
    cases callee with
    | value f => rfl
    | invoke r m => rfl
    | builtin b =>
      simp only [Call.operands] at h hg
      have hargs : ∀ x ∈ args.toList, ev x = ev' x := fun x hx => h x (by simp at hx ⊢; exact hx)
      have hgs : ∀ x ∈ args.toList, ∀ b ∈ avNames (ev x), get b = get' b := fun x hx => hg x (by simp at hx ⊢; exact hx)
      cases b <;> try rfl
      case append =>
        simp only
        split
        · rename_i s x hx
          rw [hx] at hargs hgs
          rw [rowStrA_congr (hgs s (by simp)), hargs s (by simp), hargs x (by simp)]
        · rfl
      case unsafeSliceData =>
        simp only
        split
        · rename_i x hx
          rw [hx] at hargs
          rw [hargs x (by simp)]
        · rfl
      case unsafeString =>
        simp only
        split
        · rename_i p n hx
          rw [hx] at hargs hgs
          rw [unsafeStrA_congr (hgs p (by simp)), hargs p (by simp), hargs n (by simp)]
        · rfl
end

/-- The operands by a look-up of temporaries. -/
def evT (cf : Cfg) (tm : Nat → Option AV) : Operand → AV
  | .tmp t => (tm t).getD .any
  | .const v => (liftV v).getD .any
  | .global g => match cf.glob g with
    | some cs => .ip cs
    | none => .any
  | .func f => .d (.v (.func (.func f) #[] #[]))

theorem evT_eq (cf : Cfg) (ts : List AV) : evT cf (fun t => ts[t]?) = evA cf ts := by
  funext x
  cases x <;> first | rfl | simp [evT, evA, List.getD]

def guard1 (ops : Array Oper) (o : Oper) (tm : Nat → Option AV) (gd : Option Bool) : Option (Bool × List PC) :=
  match o.guard with
  | none => some (true, [])
  | some (j, want) => match (ops[j]?).bind (·.dst), gd with
    | some t, some r => match tm t with
      | some (.d (.v (.bool b))) => some (r == want, [.eqB b r])
      | some (.tup []) => some (false, [])
      | _ => none
    | some t, none => match tm t with
      | some (.d (.v (.bool b))) => some (b == want, [])
      | some (.tup []) => some (false, [])
      | _ => none
    | _, _ => none

structure Eff where
  pcs : List PC
  val : AV
  wr : List (Nat × ABlk)

/-- One operation of a region whose order is drawn: it enters no frame. -/
def exec0 (cf : Cfg) (ops : Array Oper) (o : Oper) (tm : Nat → Option AV) (get : Nat → ABlk) (nm : Nat) (gd : Option Bool) (dc : Dec) : Option Eff :=
  match guard1 ops o tm gd with
  | none => none
  | some (false, ps) => some ⟨ps, .tup [], []⟩
  | some (true, ps) =>
    match callOf o.op with
    | some (f, args) =>
      match calleeOf (evT cf tm f) with
      | none => none
      | some (g, fs, cs) =>
        match dc with
        | .call as r => match canEnter cf.P g, passRs get (fs ++ evs (evT cf tm) args ++ cs) with
          | some _, some bs => if !(hasMss (fs ++ evs (evT cf tm) args ++ cs)) || flatA r then some ⟨.prop (bs = as) :: .prop (PureCalls cf.P cf.glob g as r) :: ps, r, []⟩ else none
          | _, _ => none
        | .ck j => match cf.K[j]? with
          | some kn => if kn.g == g && !kn.fr then match canEnter cf.P g, passAs get (fs ++ evs (evT cf tm) args ++ cs) with
            | some _, some bs => if !(hasMss (fs ++ evs (evT cf tm) args ++ cs)) || flatA kn.res then some ⟨.eqA bs kn.args :: ps, kn.res, []⟩ else none
            | _, _ => none
            else none
          | none => none
        | .cq j => match cf.K[j]? with
          | some kn => if kn.g == g then match canEnter cf.P g, passPs get (fs ++ evs (evT cf tm) args ++ cs), knRes kn (fs ++ evs (evT cf tm) args ++ cs) nm with
            | some _, some (bs, qs), some (v, ks, wr) => some ⟨.eqA bs kn.args :: (qs ++ (ks ++ ps)), v, wr⟩
            | _, _, _ => none
            else none
          | none => none
        | .ce j => match cf.K[j]? with
          | some kn => if kn.g == g then match canEnter cf.P g, passPs get (fs ++ evs (evT cf tm) args ++ cs), knResE kn (fs ++ evs (evT cf tm) args ++ cs) with
            | some _, some (bs, qs), some (v, ks) => some ⟨.eqA bs kn.args :: (qs ++ (ks ++ ps)), v, []⟩
            | _, _, _ => none
            else none
          | none => none
        | .extN => match nanArg (fs ++ evs (evT cf tm) args ++ cs) with
          | some nk => some ⟨.prop (NanExt cf.P g nk) :: ps, nk.val, []⟩
          | none => none
        | .ext v => match avVals (fs ++ evs (evT cf tm) args ++ cs), liftV v with
          | some xs, some r => some ⟨.prop (∀ w, (callFunc g xs.toArray).run cf.P w = .ok (.value v) w) :: ps, r, []⟩
          | _, _ => none
        | _ => none
    | none => match aopU cf o (evT cf tm) get nm dc with
      | some r => some ⟨r.pcs ++ ps, r.val, r.wr⟩
      | none => none

theorem mem_evs_names {ev : Operand → AV} : ∀ {xs : List Operand} {b : Nat}, b ∈ avNamess (evs ev xs) → ∃ x ∈ xs, b ∈ avNames (ev x)
  | [], b, h => by simp [evs, avNamess] at h
  | x :: xs, b, h => by
    simp only [evs, avNamess, List.mem_append] at h
    rcases h with h | h
    · exact ⟨x, by simp, h⟩
    · obtain ⟨y, hy, hb⟩ := mem_evs_names h
      exact ⟨y, by simp [hy], hb⟩
theorem avNamess_append : ∀ (xs ys : List AV), avNamess (xs ++ ys) = avNamess xs ++ avNamess ys
  | [], ys => by simp [avNamess]
  | x :: xs, ys => by simp [avNamess, avNamess_append xs ys]
theorem calleeOf_names {a : AV} {g : FuncId} {fs cs : List AV} (h : calleeOf a = some (g, fs, cs)) {b : Nat} (hb : b ∈ avNamess fs ∨ b ∈ avNamess cs) : b ∈ avNames a := by
  unfold calleeOf at h
  split at h
  · split at h
    · simp at h; obtain ⟨_, rfl, rfl⟩ := h; simp [avNamess] at hb
    · simp at h
  · simp at h; obtain ⟨_, rfl, rfl⟩ := h; simpa [avNames] using hb
  · simp at h

theorem exec0_congr {cf : Cfg} {ops : Array Oper} {o : Oper} {tm tm' : Nat → Option AV} {get get' : Nat → ABlk} {nm : Nat} {gd : Option Bool} {dc : Dec}
    (h : ∀ t ∈ o.looksAt ops, tm t = tm' t) (hg : ∀ t ∈ o.looksAt ops, ∀ a, tm t = some a → ∀ b ∈ avNames a, get b = get' b) :
    exec0 cf ops o tm get nm gd dc = exec0 cf ops o tm' get' nm gd dc := by
  have hop : ∀ x ∈ o.op.operands, evT cf tm x = evT cf tm' x := by
    intro x hx
    cases x with
    | tmp t => simp only [evT]; rw [h t (List.mem_append_left _ (List.mem_filterMap.2 ⟨.tmp t, by simpa using hx, rfl⟩))]
    | _ => rfl
  have hgo : ∀ x ∈ o.op.operands, ∀ b ∈ avNames (evT cf tm x), get b = get' b := by
    intro x hx b hb
    cases x with
    | tmp t =>
      have ht : t ∈ o.looksAt ops := List.mem_append_left _ (List.mem_filterMap.2 ⟨.tmp t, by simpa using hx, rfl⟩)
      simp only [evT] at hb
      cases htm : tm t with
      | none => rw [htm] at hb; simp [avNames] at hb
      | some a => rw [htm] at hb; exact hg t ht a htm b (by simpa using hb)
    | const v =>
      simp only [evT] at hb
      exfalso
      have : ∀ (v : Value) (a : AV), lift1 v = some a → avNames a = [] := by
        intro v a hv
        cases v with
        | agg cs =>
          simp only [lift1] at hv
          split at hv
          · simp at hv; subst hv
            simp only [avNames]
            generalize cs.toList = l
            induction l with
            | nil => rfl
            | cons x xs ih => simp [avNamess, avNames, ih]
          · simp at hv
        | tuple => simp [lift1] at hv
        | _ => simp [lift1] at hv; subst hv; rfl
      have hl : ∀ (vs : List Value) (as : List AV), lifts vs = some as → avNamess as = [] := by
        intro vs
        induction vs with
        | nil => intro as ha; simp [lifts] at ha; subst ha; rfl
        | cons x xs ih =>
          intro as ha
          simp only [lifts] at ha
          split at ha
          · rename_i a as' h1 h2
            simp at ha; subst ha
            simp [avNamess, this x a h1, ih as' h2]
          · simp at ha
      have : avNames ((liftV v).getD .any) = [] := by
        cases hv : liftV v with
        | none => rfl
        | some a =>
          cases v with
          | tuple vs =>
            simp only [liftV] at hv
            split at hv
            · rename_i as has
              simp at hv; subst hv
              simpa [avNames] using hl _ _ has
            · simp at hv
          | _ => exact this _ _ (by simpa [liftV] using hv)
      rw [this] at hb; simp at hb
    | global g =>
      simp only [evT] at hb
      split at hb <;> simp [avNames] at hb
    | func f => simp [evT, avNames] at hb
  have hgd : guard1 ops o tm gd = guard1 ops o tm' gd := by
    unfold guard1
    cases hgu : o.guard with
    | none => rfl
    | some jw =>
      obtain ⟨j, want⟩ := jw
      simp only
      cases hd : (ops[j]?).bind (·.dst) with
      | none => rfl
      | some t =>
        have : tm t = tm' t := h t (by simp [Oper.looksAt, hgu, hd])
        cases gd <;> simp [this]
  unfold exec0
  rw [hgd]
  split
  · rfl
  · rfl
  · split
    · rename_i f args hc
      obtain ⟨as, ts, hoo, rfl⟩ := callOf_spec hc
      have hf := hop f (by rw [hoo]; simp [Op.operands, Call.operands])
      have hev : evs (evT cf tm) as.toList = evs (evT cf tm') as.toList := evs_congr fun x hx => hop x (by rw [hoo]; simp [Op.operands, Call.operands]; exact .inr (by simpa using hx))
      rw [← hf]
      split
      · rfl
      · rename_i g fs cs hcal
        rw [← hev]
        have hpass : passAs get (fs ++ evs (evT cf tm) as.toList ++ cs) = passAs get' (fs ++ evs (evT cf tm) as.toList ++ cs) := by
          apply passAs_congr
          intro b hb
          rw [avNamess_append, avNamess_append, List.mem_append, List.mem_append] at hb
          rcases hb with (hb | hb) | hb
          · exact hgo f (by rw [hoo]; simp [Op.operands, Call.operands]) b (calleeOf_names hcal (.inl hb))
          · obtain ⟨x, hx, hxb⟩ := mem_evs_names hb
            exact hgo x (by rw [hoo]; simp [Op.operands, Call.operands]; exact .inr (by simpa using hx)) b hxb
          · exact hgo f (by rw [hoo]; simp [Op.operands, Call.operands]) b (calleeOf_names hcal (.inr hb))
        have hpassR : passRs get (fs ++ evs (evT cf tm) as.toList ++ cs) = passRs get' (fs ++ evs (evT cf tm) as.toList ++ cs) := by
          apply passRs_congr
          intro b hb
          rw [avNamess_append, avNamess_append, List.mem_append, List.mem_append] at hb
          rcases hb with (hb | hb) | hb
          · exact hgo f (by rw [hoo]; simp [Op.operands, Call.operands]) b (calleeOf_names hcal (.inl hb))
          · obtain ⟨x, hx, hxb⟩ := mem_evs_names hb
            exact hgo x (by rw [hoo]; simp [Op.operands, Call.operands]; exact .inr (by simpa using hx)) b hxb
          · exact hgo f (by rw [hoo]; simp [Op.operands, Call.operands]) b (calleeOf_names hcal (.inr hb))
        have hpassP : passPs get (fs ++ evs (evT cf tm) as.toList ++ cs) = passPs get' (fs ++ evs (evT cf tm) as.toList ++ cs) := by
          apply passPs_congr
          intro b hb
          rw [avNamess_append, avNamess_append, List.mem_append, List.mem_append] at hb
          rcases hb with (hb | hb) | hb
          · exact hgo f (by rw [hoo]; simp [Op.operands, Call.operands]) b (calleeOf_names hcal (.inl hb))
          · obtain ⟨x, hx, hxb⟩ := mem_evs_names hb
            exact hgo x (by rw [hoo]; simp [Op.operands, Call.operands]; exact .inr (by simpa using hx)) b hxb
          · exact hgo f (by rw [hoo]; simp [Op.operands, Call.operands]) b (calleeOf_names hcal (.inr hb))
        rw [hpass, hpassR, hpassP]
    · rw [aopU_congr hop hgo]

/-- The decision of what is done ahead of its guard. -/
def spDec : Option Nat → Dec
  | none => .none
  | some j => .ck j
/-- A value that is there only under a condition, taken as there. -/
def bare : AV → AV
  | .opt _ x => x
  | a => a
def bareO (tm : Nat → Option AV) (t : Nat) : Option AV := (tm t).map bare
/-- The conditions under which what is looked at is there. -/
def optsOf (tm : Nat → Option AV) : List Tmp → List Bool
  | [] => []
  | t :: ts => match tm t with
    | some (.opt g _) => g :: optsOf tm ts
    | _ => optsOf tm ts
def asksT : List Bool → List PC
  | [] => []
  | g :: gs => .eqB g true :: asksT gs
def asksI (b : Bool) : List Bool → List PC
  | [] => []
  | g :: gs => .eqB (!b || g) true :: asksI b gs

/-- One operation, done whatever its guard holds: it changes nothing but its temporary. -/
def execS (cf : Cfg) (ops : Array Oper) (o : Oper) (tm : Nat → Option AV) (get : Nat → ABlk) (nm : Nat) (c : Option Nat) : Option Eff :=
  match o.guard with
  | some (j, want) => match (ops[j]?).bind (·.dst) with
    | some t => match tm t with
      | some (.d (.v (.bool b))) => match exec0 cf ops o (bareO tm) get nm (some want) (spDec c) with
        | some e => match e.wr with
          | [] => some ⟨e.pcs.dropLast ++ asksI (b == want) (optsOf tm (o.looksAt ops)), .opt (b == want) e.val, []⟩
          | _ => none
        | none => none
      | _ => none
    | none => none
  | none => none
def exec1 (cf : Cfg) (ops : Array Oper) (o : Oper) (tm : Nat → Option AV) (get : Nat → ABlk) (nm : Nat) (gd : Option Bool) (dc : Dec) : Option Eff :=
  match dc with
  | .sp c => execS cf ops o tm get nm c
  | .mg => exec0 cf ops o tm get nm gd .mg
  | dc => match guard1 ops o tm gd with
    | some (false, ps) => some ⟨ps, .tup [], []⟩
    | _ => match exec0 cf ops o (bareO tm) get nm gd dc with
      | some e => some ⟨e.pcs ++ asksT (optsOf tm (o.looksAt ops)), e.val, e.wr⟩
      | none => none

theorem avNames_bare (a : AV) : avNames (bare a) = avNames a := by
  cases a <;> rfl
theorem optsOf_congr {tm tm' : Nat → Option AV} : ∀ {l : List Tmp}, (∀ t ∈ l, tm t = tm' t) → optsOf tm l = optsOf tm' l
  | [], _ => rfl
  | t :: ts, h => by
    simp only [optsOf]
    rw [h t (by simp), optsOf_congr (l := ts) (fun x hx => h x (by simp [hx]))]

theorem exec1_congr {cf : Cfg} {ops : Array Oper} {o : Oper} {tm tm' : Nat → Option AV} {get get' : Nat → ABlk} {nm : Nat} {gd : Option Bool} {dc : Dec}
    (h : ∀ t ∈ o.looksAt ops, tm t = tm' t) (hg : ∀ t ∈ o.looksAt ops, ∀ a, tm t = some a → ∀ b ∈ avNames a, get b = get' b) :
    exec1 cf ops o tm get nm gd dc = exec1 cf ops o tm' get' nm gd dc := by
  have h1 : ∀ t ∈ o.looksAt ops, bareO tm t = bareO tm' t := fun t ht => by simp only [bareO, h t ht]
  have h2 : ∀ t ∈ o.looksAt ops, ∀ a, bareO tm t = some a → ∀ b ∈ avNames a, get b = get' b := by
    intro t ht a ha b hb
    simp only [bareO, Option.map_eq_some_iff] at ha
    obtain ⟨x, hx, rfl⟩ := ha
    rw [avNames_bare] at hb
    exact hg t ht x hx b hb
  have h3 := optsOf_congr h
  unfold exec1
  split
  · rename_i c
    unfold execS
    split
    · rename_i j want hgu
      split
      · rename_i t hd
        have ht : tm t = tm' t := h t (by simp [Oper.looksAt, hgu, hd])
        rw [ht, exec0_congr h1 h2, h3]
      · rfl
    · rfl
  · exact exec0_congr h hg
  · have hgd : guard1 ops o tm gd = guard1 ops o tm' gd := by
      unfold guard1
      cases hgu : o.guard with
      | none => rfl
      | some jw =>
        obtain ⟨j, want⟩ := jw
        simp only
        cases hd : (ops[j]?).bind (·.dst) with
        | none => rfl
        | some t =>
          have : tm t = tm' t := h t (by simp [Oper.looksAt, hgu, hd])
          cases gd <;> simp [this]
    rw [hgd, exec0_congr h1 h2, h3]

theorem last_of (a : PC) (qs ks : List PC) (b : PC) : ∃ zs, a :: (qs ++ (ks ++ [b])) = zs ++ [b] := ⟨a :: (qs ++ ks), by simp⟩
/-- What the guard asks stands last. -/
theorem exec0_last {cf : Cfg} {ops : Array Oper} {o : Oper} {tm : Nat → Option AV} {get : Nat → ABlk} {nm : Nat} {dc : Dec} {j : Nat} {want b : Bool} {t : Nat} {e : Eff}
    (hg : o.guard = some (j, want)) (hd : (ops[j]?).bind (·.dst) = some t) (ht : tm t = some (.d (.v (.bool b)))) (h : exec0 cf ops o tm get nm (some want) dc = some e) : ∃ qs, e.pcs = qs ++ [.eqB b want] := by
  have hg1 : guard1 ops o tm (some want) = some (true, [.eqB b want]) := by
    unfold guard1
    rw [hg]
    simp only [hd, ht]
    simp
  unfold exec0 at h
  rw [hg1] at h
  simp only at h
  repeat' split at h
  all_goals first
    | (simp at h; done)
    | (simp only [Option.some.injEq] at h; subst h; exact ⟨[_], rfl⟩)
    | (simp only [Option.some.injEq] at h; subst h; exact ⟨[_, _], rfl⟩)
    | (simp only [Option.some.injEq] at h; subst h; exact last_of _ _ _ _)
    | (simp only [Option.some.injEq] at h; subst h; exact ⟨_, rfl⟩)
/-- What the guard does not want is passed over. -/
theorem exec0_skip {cf : Cfg} {ops : Array Oper} {o : Oper} {tm : Nat → Option AV} {get : Nat → ABlk} {nm : Nat} {dc : Dec} {j : Nat} {want b : Bool} {t : Nat}
    (hg : o.guard = some (j, want)) (hd : (ops[j]?).bind (·.dst) = some t) (ht : tm t = some (.d (.v (.bool b)))) : exec0 cf ops o tm get nm (some (!want)) dc = some ⟨[.eqB b (!want)], .tup [], []⟩ := by
  have hg1 : guard1 ops o tm (some (!want)) = some (false, [.eqB b (!want)]) := by
    unfold guard1
    rw [hg]
    simp only [hd, ht]
    cases want <;> simp
  unfold exec0
  rw [hg1]
/-- Operations that look at no block. -/
def plainOp : Op → Bool
  | .move _ => true
  | .fieldAddr .. => true
  | .indexAddr .. => true
  | _ => false
theorem exec1_plain {cf : Cfg} {ops : Array Oper} {o : Oper} {tm : Nat → Option AV} {get get' : Nat → ABlk} {nm : Nat} {gd : Option Bool} {dc : Dec} (hp : plainOp o.op = true) :
    exec1 cf ops o tm get nm gd dc = exec1 cf ops o tm get' nm gd dc := by
  have haop : ∀ ev nm dc, aopU cf o ev get nm dc = aopU cf o ev get' nm dc := by
    intro ev nm dc
    cases hop : o.op <;> simp [plainOp, hop] at hp <;> simp only [aopU, aop, hop]
  have hcall : callOf o.op = none := by
    cases hop : o.op <;> simp [plainOp, hop] at hp <;> rfl
  have h0 : ∀ tm gd dc, exec0 cf ops o tm get nm gd dc = exec0 cf ops o tm get' nm gd dc := by
    intro tm gd dc
    unfold exec0
    simp only [hcall, haop]
  unfold exec1 execS
  simp only [h0]
end Go.Kv
