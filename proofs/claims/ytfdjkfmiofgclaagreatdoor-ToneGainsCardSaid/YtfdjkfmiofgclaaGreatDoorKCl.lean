import Derived.Test.YtfdjkfmiofgclaaGreatDoorKvW
import Derived.Test.YtfdjkfmiofgclaaGreatDoorKzA
import Derived.Shelf.Slices.Clone
namespace Go.Proofs
set_option linter.all false
open Go.Shelf Go.RowKit
def Tryz.laysClone_ren : Go.Shelf.Ren := ⟨fun | 15 => 144 | n => n, fun | 22 => 30 | n => n, fun | n => n⟩
theorem Tryz.laysClone : Go.Proofs.Lays2.n15 Tryz.prog Tryz.laysClone_ren := {
 mixed := by kernel_rfl
 f15 := Tryz.func144.trans (congrArg some (by kernel_rfl))
 t3 := Tryz.underlying3
 a3 := Tryz.isAgg3
 z3 := Tryz.sizeOf3
 v3 := Tryz.zeroValue3
 t4 := Tryz.underlying4
 a4 := Tryz.isAgg4
 z4 := Tryz.sizeOf4
 v4 := Tryz.zeroValue4
 t22 := Tryz.underlying30
 a22 := Tryz.isAgg30
 z22 := Tryz.sizeOf30
 v22 := Tryz.zeroValue30
 i3 := by kernel_rfl }
end Go.Proofs
namespace Go.Kv
open Go Go.RowKit Go.Proofs
theorem clone0 (glob : Nat → Option (List DV)) : PureCalls cfz.P glob 144 [.d (.sl 0 [])] (.d (.sl 0 [])) := by
 intro w φ us hφ _ hargs
 obtain ⟨u, r, rfl, hu, ht⟩ := hargs.cons_inv
 rw [ht.nil_inv]
 unfold Rel RelD at hu
 obtain ⟨bk, off, cap, us, hu, _, _, _, hs⟩ := hu
 rw [hs.nil_inv] at hu
 have some_ : ∀ (a : Addr) (c : Nat), Calls cfz.P 144 #[.slice (some a) 0 c] w fun e w' => ∃ u φ', e = .returned u ∧ Below w.heap.size w w' ∧ (∀ i, i < w.heap.size → φ' i = φ i) ∧ (∀ i, w'.heap.size ≤ i → φ' i = 0) ∧ Rel (ctx0 φ') w' (.d (.sl 0 [])) u := by
  intro a c
  refine (Any.slices_Clone_int_zero Tryz.laysClone a c w).mono ?_
  rintro e w' ⟨v, rfl, hown, hne, hb⟩
  refine ⟨v, φ, rfl, hb, fun _ _ => rfl, fun i hi => hφ i (Nat.le_trans hb.size hi), ?_⟩
  rcases hown.2 with ⟨h0, _⟩ | ⟨g, cp, cur, hv, _⟩
  ·exact absurd h0 hne
  ·unfold Rel RelD
   exact ⟨g, 0, cp, [], .inl hv, Nat.zero_le _, Nat.zero_le _, by intro i u hu; simp at hu, RelDs.nil⟩
 rcases hu with rfl | ⟨⟨o, rfl⟩, _⟩
 ·exact some_ _ _
 ·cases o with
  | some a => exact some_ _ _
  | none =>
   refine (Any.slices_Clone_int_nil Tryz.laysClone 0 0 w).mono ?_
   rintro e w' ⟨rfl, rfl⟩
   refine ⟨_, φ, rfl, Below.refl _ _, fun _ _ => rfl, hφ, ?_⟩
   unfold Rel RelD
   exact ⟨0, 0, 0, [], .inr ⟨⟨none, rfl⟩, rfl, rfl, rfl⟩, Nat.zero_le _, Nat.le_refl _, by intro i u hu; simp at hu, RelDs.nil⟩
def F144z (n : Nat) (xs : List DV) : Option Unit := if n = 0 ∧ xs.length = 0 then some () else none
def out144z (_ : Unit) : AV := .d (.sl 0 [])
theorem f144z (n : Nat) (xs : List DV) (v : Unit) (h : F144z n xs = some v) : PureCalls cfz.P cfz.glob 144 [(.d (.sl n xs))] (out144z v) := by
 unfold F144z at h
 split at h
 ·rename_i hc
  obtain ⟨rfl, hx⟩ := hc
  obtain rfl := List.eq_nil_of_length_eq_zero hx
  exact clone0 _
 ·simp at h
end Go.Kv
