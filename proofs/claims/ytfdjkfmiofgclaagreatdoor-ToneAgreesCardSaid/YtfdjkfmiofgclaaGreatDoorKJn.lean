import Derived.Test.YtfdjkfmiofgclaaGreatDoorKvW
import Derived.Test.YtfdjkfmiofgclaaGreatDoorKzA
import Derived.Shelf.Strings.OnBuilder
namespace Go.Proofs
set_option linter.all false
open Go.Shelf Go.RowKit
def Tryz.laysJoin_ren : Go.Shelf.Ren := ⟨fun | 156 => 183 | 165 => 200 | 166 => 148 | 169 => 151 | 240 => 182 | 241 => 207 | 276 => 199 | 277 => 213 | n => n, fun | 31 => 232 | 9 => 9 | 3 => 3 | 4 => 4 | 0 => 0 | 20 => 20 | 72 => 225 | 76 => 228 | 70 => 222 | 37 => 223 | 75 => 227 | 127 => 260 | 164 => 274 | 5 => 5 | 80 => 233 | n => n, fun | n => n⟩
theorem Tryz.laysJoin : Go.Proofs.Lays.n156 Tryz.prog Tryz.laysJoin_ren := {
 mixed := by kernel_rfl
 f156 := Tryz.func183.trans (congrArg some (by kernel_rfl))
 f165 := Tryz.func200.trans (congrArg some (by kernel_rfl))
 f166 := Tryz.func148.trans (congrArg some (by kernel_rfl))
 f169 := Tryz.func151.trans (congrArg some (by kernel_rfl))
 f240 := Tryz.func182.trans (congrArg some (by kernel_rfl))
 f241 := Tryz.func207.trans (congrArg some (by kernel_rfl))
 f276 := Tryz.func199.trans (congrArg some (by kernel_rfl))
 f277 := Tryz.func213.trans (congrArg some (by kernel_rfl))
 t0 := Tryz.underlying0
 a0 := Tryz.isAgg0
 z0 := Tryz.sizeOf0
 v0 := Tryz.zeroValue0
 t3 := Tryz.underlying3
 a3 := Tryz.isAgg3
 z3 := Tryz.sizeOf3
 v3 := Tryz.zeroValue3
 t4 := Tryz.underlying4
 a4 := Tryz.isAgg4
 z4 := Tryz.sizeOf4
 v4 := Tryz.zeroValue4
 t9 := Tryz.underlying9
 a9 := Tryz.isAgg9
 z9 := Tryz.sizeOf9
 v9 := Tryz.zeroValue9
 t20 := Tryz.underlying20
 a20 := Tryz.isAgg20
 z20 := Tryz.sizeOf20
 v20 := Tryz.zeroValue20
 t31 := Tryz.underlying232
 a31 := Tryz.isAgg232
 z31 := Tryz.sizeOf232
 v31 := Tryz.zeroValue232
 t37 := Tryz.underlying223
 a37 := Tryz.isAgg223
 z37 := Tryz.sizeOf223
 v37 := Tryz.zeroValue223
 t70 := Tryz.underlying222
 a70 := Tryz.isAgg222
 z70 := Tryz.sizeOf222
 v70 := Tryz.zeroValue222
 t72 := Tryz.underlying225
 a72 := Tryz.isAgg225
 z72 := Tryz.sizeOf225
 v72 := Tryz.zeroValue225
 t75 := Tryz.underlying227
 a75 := Tryz.isAgg227
 z75 := Tryz.sizeOf227
 v75 := Tryz.zeroValue227
 t76 := Tryz.underlying228
 a76 := Tryz.isAgg228
 z76 := Tryz.sizeOf228
 v76 := Tryz.zeroValue228
 t127 := Tryz.underlying260
 a127 := Tryz.isAgg260
 z127 := Tryz.sizeOf260
 v127 := Tryz.zeroValue260
 t164 := Tryz.underlying274
 a164 := Tryz.isAgg274
 z164 := Tryz.sizeOf274
 v164 := Tryz.zeroValue274 }
end Go.Proofs
namespace Go.Proofs
open Go.Shelf Go.RowKit
theorem Tryz.extraJoin : Builder.Extra Tryz.prog Tryz.laysJoin_ren := {
 sizeBuilder := by kernel_rfl
 liesBuilder := by kernel_rfl
 t5 := Tryz.underlying5
 a5 := Tryz.isAgg5
 z5 := Tryz.sizeOf5
 v5 := Tryz.zeroValue5
 infoByte := by kernel_rfl
 cellsByte := by kernel_rfl
 sizeByte := by kernel_rfl
 neB5 := by decide }
end Go.Proofs
namespace Go.Kv
open Go Go.RowKit Go.Proofs
def strD (s : ByteArray) : DV := .v (.string s)
def joinB (ss : List ByteArray) (sep : ByteArray) : ByteArray := ⟨(Lib.join (ss.map (·.data.toList)) sep.data.toList).toArray⟩
theorem strs_of {φ : Nat → Nat} {w : World} : ∀ {ss : List ByteArray} {us : List Value}, RelDs φ w (ss.map strD) us → us = ss.map Value.string
 | [], _, h => h.nil_inv
 | s :: ss, _, h => by
  obtain ⟨u, r, rfl, hu, t⟩ := h.cons_inv
  unfold strD RelD at hu
  rw [hu.1, strs_of t]; rfl
theorem join_pure (ss : List ByteArray) (sep : ByteArray) (h1 : ss.length ≤ 140737488355328) (h2 : (Lib.join (ss.map (·.data.toList)) sep.data.toList).length ≤ 140737488355328) :
  PureCalls cfz.P cfz.glob 183 [.d (.sl ss.length (ss.map strD)), .d (.v (.string sep))] (.d (.v (.string (joinB ss sep)))) := by
 intro w φ us hφ hgl hargs
 obtain ⟨u1, r1, rfl, hu1, t1⟩ := hargs.cons_inv
 obtain ⟨u2, r2, rfl, hu2, t2⟩ := t1.cons_inv
 rw [t2.nil_inv]
 unfold Rel RelD at hu1 hu2
 obtain ⟨rfl, _⟩ := hu2
 obtain ⟨bk, off, cap, vs, hsl, hoff, hcap, hcells, hrel⟩ := hu1
 have hvs := strs_of hrel
 subst hvs
 have main : Calls Tryz.prog 183 #[u1, .string sep] w fun e w' => e = .returned (.string (joinB ss sep)) ∧ Below w.heap.size w w' := by
  rcases hsl with rfl | ⟨⟨o, rfl⟩, h0, _, _⟩
  ·by_cases hn : ss = []
   ·subst hn
    exact (Any.strings_Join_none Tryz.laysJoin Tryz.extraJoin _ cap sep w).mono fun e w' ⟨he, hw⟩ => ⟨he, hw ▸ Below.refl _ _⟩
   ·have hlt : bk < w.heap.size := by
     apply Classical.byContradiction
     intro hh
     have := hφ bk (by omega)
     have hl : 0 < ss.length := List.length_pos_iff.2 hn
     simp only [List.length_map] at hoff
     omega
    refine Any.strings_Join Tryz.laysJoin Tryz.extraJoin bk off cap ss sep w (fun j x hx => ?_) hlt h1 hcap h2
    exact hcells j (.string x) (by rw [List.getElem?_map, hx]; rfl)
  ·have hn : ss = [] := List.eq_nil_of_length_eq_zero h0
   subst hn
   exact (Any.strings_Join_none Tryz.laysJoin Tryz.extraJoin o 0 sep w).mono fun e w' ⟨he, hw⟩ => ⟨he, hw ▸ Below.refl _ _⟩
 refine Calls.mono main ?_
 rintro e w' ⟨rfl, hb⟩
 refine ⟨_, fun i => if i < w.heap.size then φ i else 0, rfl, hb, fun i hi => if_pos hi, fun i hi => if_neg (by have := hb.size; omega), ?_⟩
 unfold Rel RelD
 exact ⟨rfl, rfl⟩
end Go.Kv
namespace Go.Kv
open Go Go.RowKit Go.Proofs
theorem jn0 : PureCalls cfz.P cfz.glob 183 [.d (.sl 4 [.v (.string (ByteArray.mk #[109, 97, 105, 110, 115])), .v (.string (ByteArray.mk #[49])), .v (.string (ByteArray.mk #[48])), .v (.string (ByteArray.mk #[49]))]), .d (.v (.string (ByteArray.mk #[32])))] (.d (.v (.string (ByteArray.mk #[109, 97, 105, 110, 115, 32, 49, 32, 48, 32, 49])))) := by
 have h := join_pure [(ByteArray.mk #[109, 97, 105, 110, 115]), (ByteArray.mk #[49]), (ByteArray.mk #[48]), (ByteArray.mk #[49])] (ByteArray.mk #[32]) (by decide) (by decide)
 rw [show joinB [(ByteArray.mk #[109, 97, 105, 110, 115]), (ByteArray.mk #[49]), (ByteArray.mk #[48]), (ByteArray.mk #[49])] (ByteArray.mk #[32]) = (ByteArray.mk #[109, 97, 105, 110, 115, 32, 49, 32, 48, 32, 49]) from by decide] at h
 exact h
theorem jn1 : PureCalls cfz.P cfz.glob 183 [.d (.sl 4 [.v (.string (ByteArray.mk #[110, 111, 100, 101])), .v (.string (ByteArray.mk #[116])), .v (.string (ByteArray.mk #[48])), .v (.string (ByteArray.mk #[48]))]), .d (.v (.string (ByteArray.mk #[32])))] (.d (.v (.string (ByteArray.mk #[110, 111, 100, 101, 32, 116, 32, 48, 32, 48])))) := by
 have h := join_pure [(ByteArray.mk #[110, 111, 100, 101]), (ByteArray.mk #[116]), (ByteArray.mk #[48]), (ByteArray.mk #[48])] (ByteArray.mk #[32]) (by decide) (by decide)
 rw [show joinB [(ByteArray.mk #[110, 111, 100, 101]), (ByteArray.mk #[116]), (ByteArray.mk #[48]), (ByteArray.mk #[48])] (ByteArray.mk #[32]) = (ByteArray.mk #[110, 111, 100, 101, 32, 116, 32, 48, 32, 48]) from by decide] at h
 exact h
theorem jn2 : PureCalls cfz.P cfz.glob 183 [.d (.sl 5 [.v (.string (ByteArray.mk #[108, 111, 97, 100])), .v (.string (ByteArray.mk #[48])), .v (.string (ByteArray.mk #[111, 110])), .v (.string (ByteArray.mk #[49])), .v (.string (ByteArray.mk #[45, 50]))]), .d (.v (.string (ByteArray.mk #[32])))] (.d (.v (.string (ByteArray.mk #[108, 111, 97, 100, 32, 48, 32, 111, 110, 32, 49, 32, 45, 50])))) := by
 have h := join_pure [(ByteArray.mk #[108, 111, 97, 100]), (ByteArray.mk #[48]), (ByteArray.mk #[111, 110]), (ByteArray.mk #[49]), (ByteArray.mk #[45, 50])] (ByteArray.mk #[32]) (by decide) (by decide)
 rw [show joinB [(ByteArray.mk #[108, 111, 97, 100]), (ByteArray.mk #[48]), (ByteArray.mk #[111, 110]), (ByteArray.mk #[49]), (ByteArray.mk #[45, 50])] (ByteArray.mk #[32]) = (ByteArray.mk #[108, 111, 97, 100, 32, 48, 32, 111, 110, 32, 49, 32, 45, 50]) from by decide] at h
 exact h
end Go.Kv
