import Derived.Test.YtleohlnmcbkpjaaGreatDoorKLy
import Derived.Test.YtleohlnmcbkpjaaGreatDoorKvY
import Derived.Test.YtleohlnmcbkpjaaGreatDoorKX1
namespace Go.Kv
set_option linter.all false
open Go Go.RowKit Go.Proofs
noncomputable def F32 (n : Int) : Option ByteArray := if -9223372036854775808 ≤ n ∧ n ≤ 9223372036854775807 then some ⟨(Lib.itoa n).toArray⟩ else none
def out32 (v : ByteArray) : AV := (.d (.v (.string v)))
noncomputable def F85 (s : ByteArray) (c : Int) : Option Int := some (Lib.indexByte s.data.toList c.toNat.toUInt8)
def out85 (v : Int) : AV := (.d (.v (.int .i64 v)))
def strD (s : ByteArray) : DV := .v (.string s)
def splitS (c : UInt8) (s : ByteArray) : List ByteArray := Lib.splitB ⟨#[c]⟩ 0 (Lib.countB s ⟨#[c]⟩) s
noncomputable def F35 (s sep : ByteArray) : Option (Nat × List DV) := if s.size < 4294967281 ∧ sep.size = 1 then some ((splitS (sep.data.toList.getD 0 0) s).length, (splitS (sep.data.toList.getD 0 0) s).map strD) else none
def out35 (v : Nat × List DV) : AV := (.d (.sl v.1 v.2))
theorem npow : Tryz.prog.globalNamed "internal/strconv.uint64pow10" = some 2 := by kernel_rfl
theorem u64s {φ : Nat → Nat} {w : World} : ∀ {zs : List Int} {us : List Value}, RelDs φ w (zs.map fun z => DV.v (.int .u64 z)) us → us = zs.map fun z => Value.int .u64 z
  | [], _, h => h.nil_inv
  | s :: ss, _, h => by
    obtain ⟨u, r, rfl, hu, t⟩ := h.cons_inv
    unfold RelD at hu
    rw [hu.1, u64s t]; rfl
theorem tab_of {w : World} {φ : Nat → Nat} (hgl : GlobOk cfz.glob w φ) : Lib.TabIs Tryz.prog w "internal/strconv.uint64pow10" .u64 Lib.pow10Tab := by
  obtain ⟨us, h1, h2⟩ := var_of_glob hgl npow (xs := gl2) rfl (by simp [gl2])
  have e : gl2 = Lib.pow10Tab.map fun z => DV.v (.int .u64 z) := by rfl
  rw [e] at h1
  rw [u64s h1] at h2
  exact h2
theorem below_gr (w : World) (k : Nat) (os : Array Obj) : Below w.heap.size w (Go.Sort.grow (w.drewN k) os) :=
  ⟨rfl, rfl, rfl, by show _ ≤ (w.heap ++ os).size; rw [Array.size_append]; omega, fun j hj => by show (w.heap ++ os)[j]? = _; exact Array.getElem?_append_left hj⟩
theorem plain_ret {w w' : World} {φ : Nat → Nat} {e : Ending} {v : Value} {r : AV} (hφ : ∀ i, w.heap.size ≤ i → φ i = 0) (he : e = .returned v) (hb : Below w.heap.size w w') (hr : ∀ φ', Rel ({ ρ := fun _ => 0, τ := fun _ => 0, σ := fun _ => 0, φ := φ', live := fun _ => false, tl := fun _ => false } : Ctx) w' r v) :
    ∃ u φ', e = .returned u ∧ Below w.heap.size w w' ∧ (∀ i, i < w.heap.size → φ' i = φ i) ∧ (∀ i, w'.heap.size ≤ i → φ' i = 0) ∧ Rel ({ ρ := fun _ => 0, τ := fun _ => 0, σ := fun _ => 0, φ := φ', live := fun _ => false, tl := fun _ => false } : Ctx) w' r u :=
  ⟨v, φ, he, hb, fun _ _ => rfl, fun i hi => hφ i (by have := hb.size; omega), hr φ⟩
theorem f32 (n : Int) (v : ByteArray) (h : F32 n = some v) : PureCalls cfz.P cfz.glob 32 [(.d (.v (.int .i64 n)))] (out32 v) := by
  unfold F32 at h
  split at h
  · rename_i hn
    cases h
    intro w φ us hφ hgl hargs
    obtain ⟨u1, r1, rfl, hu1, t1⟩ := hargs.cons_inv
    rw [t1.nil_inv]
    unfold Rel RelD at hu1
    obtain ⟨rfl, _⟩ := hu1
    refine Calls.mono (Any.strconv_Itoa Tryz.laysItoa n hn.1 hn.2 w (tab_of hgl)) ?_
    rintro e w' ⟨he, k, os, rfl⟩
    refine plain_ret hφ he (below_gr _ _ _) ?_
    intro φ'
    unfold out32 Rel RelD
    exact ⟨rfl, rfl⟩
  · cases h
theorem f85 (s : ByteArray) (c : Int) (v : Int) (h : F85 s c = some v) : PureCalls cfz.P cfz.glob 85 [(.d (.v (.string s))), (.d (.v (.int .u8 c)))] (out85 v) := by
  cases h
  intro w φ us hφ hgl hargs
  obtain ⟨u1, r1, rfl, hu1, t1⟩ := hargs.cons_inv
  obtain ⟨u2, r2, rfl, hu2, t2⟩ := t1.cons_inv
  rw [t2.nil_inv]
  unfold Rel RelD at hu1 hu2
  obtain ⟨rfl, _⟩ := hu1
  obtain ⟨rfl, _⟩ := hu2
  refine Calls.mono (Any.stringslite_IndexByte Tryz.laysIb s c w) ?_
  rintro e w' ⟨he, rfl⟩
  refine plain_ret hφ he (Below.refl _ _) ?_
  intro φ'
  unfold out85 Rel RelD
  exact ⟨rfl, rfl⟩
theorem strs_rel {φ : Nat → Nat} {w : World} : ∀ ss : List ByteArray, RelDs φ w (ss.map strD) (ss.map Value.string)
  | [] => RelDs.nil
  | s :: ss => RelDs.cons (by unfold strD RelD; exact ⟨rfl, rfl⟩) (strs_rel ss)
theorem sep_one (sep : ByteArray) (h : sep.size = 1) : sep = ⟨#[sep.data.toList.getD 0 0]⟩ := by
  obtain ⟨c, rfl⟩ := Lib.one_byte sep h
  rfl
end Go.Kv
namespace Go.Proofs
open Go.Shelf Go.RowKit Go.Lib
set_option maxHeartbeats 1000000 in
theorem split_any {P : Program} {ρ : Ren} (L : Lays.n146 P ρ) (hi9 : (P.info? (ρ.t 9)).map (fun i => (i.zero, i.size, i.bytes)) = some (some (.string ByteArray.empty), 1, 16)) (s : ByteArray) (c : UInt8) (w : World) (hs : s.size < 4294967281) :
    Calls P (ρ.f 146) #[.string s, .string ⟨#[c]⟩] w fun e w' =>
      e = .returned (.slice (some ⟨w.heap.size, 0, none⟩) (Lib.countB s ⟨#[c]⟩ + 1) (Lib.countB s ⟨#[c]⟩ + 1)) ∧ w' = w.alloc (.cells ((Lib.splitB ⟨#[c]⟩ 0 (Lib.countB s ⟨#[c]⟩) s).map Value.string).toArray (ρ.t 9)) := by
  have h1 : 1 ≤ (⟨#[c]⟩ : ByteArray).size := Nat.le_refl 1
  have hle := Lib.countB_le ⟨#[c]⟩ h1 s.size s (Nat.le_refl _)
  have hlen := Lib.splitB_all ⟨#[c]⟩ h1 0 _ s rfl
  have cc := Any.strings_genSplit_core { L with } hi9 s ⟨#[c]⟩ 0 (-1) (Lib.countB s ⟨#[c]⟩ + 1) w hs h1 (Nat.zero_le _)
    (fun x d hx => by
      refine Calls.mono (Any.strings_Index_one { L with } x c (w.alloc (.cells d (ρ.t 9)))) ?_
      rintro e w' ⟨he, hw⟩
      exact ⟨by rw [he]; exact congrArg _ (congrArg _ (Lib.index_one _ _).symm), hw⟩)
    (by
      refine Calls.mono (Any.strings_Count_one { L with } s c w) ?_
      rintro e w' ⟨he, hw⟩
      refine ⟨?_, hw⟩
      rw [he]
      show _ = Ending.returned (Value.int .i64 ((Lib.count s.data.toList [c] : Nat) : Int))
      rw [Lib.count_one]
      rfl) (by decide) (by decide) (by rw [if_pos (by decide)]; omega)
  rw [Nat.add_sub_cancel, hlen] at cc
  have e2 : Lib.cellsOf (Lib.splitB ⟨#[c]⟩ 0 (Lib.countB s ⟨#[c]⟩) s) (Lib.countB s ⟨#[c]⟩ + 1) = ((Lib.splitB ⟨#[c]⟩ 0 (Lib.countB s ⟨#[c]⟩) s).map Value.string).toArray := by rw [← hlen]; exact Lib.cellsOf_full _
  rw [e2] at cc
  have t3 := L.t3; have t9 := L.t9; have t31 := L.t31
  have a3 := L.a3; have a9 := L.a9; have a31 := L.a31
  have z3 := L.z3; have v3 := L.v3; have z9 := L.z9; have v9 := L.v9; have z31 := L.z31; have v31 := L.v31
  have e221 : ∀ args w, (callFunc (ρ.f 221) args).run P w = .ok (.enter (ρ.f 221) args) w := enters_of L.f221 (by kernel_rfl) rfl
  go_enter L.f146, Body.n146_ntmps ρ
  go_wp2_with (go_at_fn (ρ.f 221); refine cc.mono ?_; rintro e w' ⟨rfl, hw⟩; rw [hw])
  go_ret
  exact ⟨rfl, rfl⟩
end Go.Proofs
namespace Go.Kv
open Go Go.RowKit Go.Proofs
theorem f35 (s sep : ByteArray) (v : Nat × List DV) (h : F35 s sep = some v) : PureCalls cfz.P cfz.glob 35 [(.d (.v (.string s))), (.d (.v (.string sep)))] (out35 v) := by
  unfold F35 at h
  split at h
  · rename_i hn
    cases h
    obtain ⟨hs, h1⟩ := hn
    have e1 := sep_one sep h1
    generalize sep.data.toList.getD 0 0 = c at e1
    subst e1
    intro w φ us hφ hgl hargs
    obtain ⟨u1, r1, rfl, hu1, t1⟩ := hargs.cons_inv
    obtain ⟨u2, r2, rfl, hu2, t2⟩ := t1.cons_inv
    rw [t2.nil_inv]
    unfold Rel RelD at hu1 hu2
    obtain ⟨rfl, _⟩ := hu1
    obtain ⟨rfl, _⟩ := hu2
    refine Calls.mono (split_any Tryz.laysSplit (by kernel_rfl) s c w hs) ?_
    rintro e w' ⟨he, rfl⟩
    have hlen := Lib.splitB_all ⟨#[c]⟩ (Nat.le_refl 1) 0 _ s rfl
    refine ⟨_, fun i => if i = w.heap.size then (Lib.countB s ⟨#[c]⟩ + 1) else φ i, he, Below.alloc (Below.refl _ _) (Nat.le_refl _) _, fun i hi => if_neg (by omega), fun i hi => ?_, ?_⟩
    · have : (w.alloc (.cells ((Lib.splitB ⟨#[c]⟩ 0 (Lib.countB s ⟨#[c]⟩) s).map Value.string).toArray (Tryz.laysSplit_ren.t 9))).heap.size = w.heap.size + 1 := Array.size_push ..
      rw [this] at hi
      show (if i = w.heap.size then _ else φ i) = 0
      rw [if_neg (by omega)]
      exact hφ i (by omega)
    · unfold out35 Rel RelD
      refine ⟨w.heap.size, 0, Lib.countB s ⟨#[c]⟩ + 1, (splitS c s).map Value.string, .inl (by rw [splitS, hlen]), ?_, by rw [splitS, hlen]; exact Nat.le_refl _, ?_, ?_⟩
      · simp [splitS, hlen]
      · intro i u hu
        have e0 : (w.alloc (.cells ((Lib.splitB ⟨#[c]⟩ 0 (Lib.countB s ⟨#[c]⟩) s).map Value.string).toArray (Tryz.laysSplit_ren.t 9))).heap[w.heap.size]? = some (.cells ((Lib.splitB ⟨#[c]⟩ 0 (Lib.countB s ⟨#[c]⟩) s).map Value.string).toArray (Tryz.laysSplit_ren.t 9)) := Array.getElem?_push_size ..
        unfold World.cell?
        simp only [e0, Nat.zero_add]
        unfold splitS at hu
        simpa using hu
      · exact strs_rel _
  · cases h
end Go.Kv
