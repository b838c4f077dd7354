/- Contracts of the library's Itoa, Split and Join. -/
import Derived.Lib.Split
import Derived.Lib.SplitLaws
import Derived.Lib.ItoaNum
import Derived.Test.YtdelimpnnpifpaaGreatDoorKvW
import Derived.Test.YtdelimpnnpifpaaGreatDoorKzA
import Derived.Shelf.Strconv.Itoa4
import Derived.Shelf.Strings.Split
import Derived.Test.YtdelimpnnpifpaaGreatDoorKvY
import Derived.Test.YtdelimpnnpifpaaGreatDoorKaD
import Derived.Shelf.Strings.Search1
import Derived.Test.YtdelimpnnpifpaaGreatDoorKvZ
set_option linter.all false
namespace Go.Kv
open Go
def spl (c : UInt8) : List UInt8 → List UInt8 → List (List UInt8)
  | cur, [] => [cur]
  | cur, b :: l => if b = c then cur :: spl c [] l else spl c (cur ++ [b]) l
theorem spl_none {c : UInt8} : ∀ (l cur : List UInt8), c ∉ l → spl c cur l = [cur ++ l]
  | [], cur, _ => by simp [spl]
  | b :: l, cur, h => by
    simp only [List.mem_cons, not_or] at h
    rw [spl, if_neg (fun e => h.1 e.symm), spl_none l _ h.2]; simp
theorem spl_app {c : UInt8} : ∀ (a cur b : List UInt8), c ∉ a → spl c cur (a ++ c :: b) = (cur ++ a) :: spl c [] b
  | [], cur, b, _ => by simp [spl]
  | x :: a, cur, b, h => by
    simp only [List.mem_cons, not_or] at h
    rw [List.cons_append, spl, if_neg (fun e => h.1 e.symm), spl_app a _ b h.2]; simp
theorem spl_ne {c : UInt8} : ∀ (l cur : List UInt8), spl c cur l ≠ []
  | [], _ => by simp [spl]
  | b :: l, cur => by
    rw [spl]; split
    · simp
    · exact spl_ne l _
theorem spl_length {c : UInt8} : ∀ (l cur : List UInt8), (spl c cur l).length ≤ l.length + 1
  | [], _ => by simp [spl]
  | b :: l, cur => by
    rw [spl]; split
    · have := spl_length (c := c) l []; simp only [List.length_cons]; omega
    · have := spl_length (c := c) l (cur ++ [b]); simp only [List.length_cons]; omega
theorem idx_none {c : UInt8} : ∀ (l : List UInt8), Lib.indexByte l c = -1 → c ∉ l
  | [], _ => by simp
  | b :: l, h => by
    rw [Lib.indexByte] at h
    split at h
    · omega
    · rename_i hb
      split at h
      · rename_i hl
        have := idx_none l (by simpa using hl)
        simp only [List.mem_cons, not_or]
        exact ⟨fun e => hb (by simp [e]), this⟩
      · have := Lib.indexByte_ge l c; omega
theorem idx_some {c : UInt8} : ∀ (l : List UInt8) (i : Nat), Lib.indexByte l c = (i : Int) → i < l.length ∧ l = l.take i ++ c :: l.drop (i + 1) ∧ c ∉ l.take i
  | [], i, h => by rw [Lib.indexByte] at h; omega
  | b :: l, i, h => by
    rw [Lib.indexByte] at h
    split at h
    · rename_i hb
      have : i = 0 := by omega
      subst this
      have hb : b = c := by simpa using hb
      simp [hb]
    · rename_i hb
      split at h
      · omega
      · rename_i hl
        have g1 := Lib.indexByte_ge l c
        have g2 : ¬ Lib.indexByte l c = -1 := by simpa using hl
        obtain ⟨j, rfl⟩ : ∃ j, i = j + 1 := ⟨i - 1, by omega⟩
        obtain ⟨h1, h2, h3⟩ := idx_some (c := c) l j (by omega)
        refine ⟨by simp; omega, ?_, ?_⟩
        · simp only [List.take_succ_cons, List.drop_succ_cons, List.cons_append]
          exact congrArg _ h2
        · simp only [List.take_succ_cons, List.mem_cons, not_or]
          exact ⟨fun e => hb (by simp [e]), h3⟩
theorem ext_to (s : ByteArray) (a b : Nat) : (s.extract a b).data.toList = (s.data.toList.take b).drop a := by
  rw [ByteArray.data_extract, Array.toList_extract, List.extract_eq_take_drop, List.take_drop]
  by_cases h : a ≤ b
  · rw [Nat.add_sub_cancel' h]
  · rw [show a + (b - a) = a by omega, List.drop_eq_nil_of_le (by simp; exact Nat.min_le_left _ _), List.drop_eq_nil_of_le (by simp; omega)]
theorem ext_drop (s : ByteArray) (a b : Nat) (hb : s.size ≤ b) : (s.extract a b).data.toList = s.data.toList.drop a := by
  rw [ext_to, List.take_of_length_le (by simpa using hb)]
theorem ext_take (s : ByteArray) (b : Nat) : (s.extract 0 b).data.toList = s.data.toList.take b := by
  rw [ext_to]; rfl
/-- The library's split at one byte. -/
theorem splitB_one (c : UInt8) : ∀ (k : Nat) (s : ByteArray), s.data.toList.count c ≤ k → (Lib.splitB ⟨#[c]⟩ 0 k s).map (·.data.toList) = spl c [] s.data.toList
  | 0, s, h => by
    rw [Lib.splitB_zero]
    have : c ∉ s.data.toList := fun hm => by have := List.count_pos_iff.2 hm; omega
    rw [spl_none _ _ this]; rfl
  | k + 1, s, h => by
    have e : Lib.indexB s ⟨#[c]⟩ = Lib.indexByte s.data.toList c := Lib.index_one _ _
    rcases Lib.indexB_cases s ⟨#[c]⟩ with h1 | ⟨i, h1, h2⟩
    · rw [Lib.splitB_miss _ _ _ _ h1]
      rw [e] at h1
      rw [spl_none _ _ (idx_none _ h1)]; rfl
    · rw [Lib.splitB_hit _ _ _ _ _ h1]
      rw [e] at h1
      obtain ⟨q1, q2, q3⟩ := idx_some _ _ h1
      have hz : (⟨#[c]⟩ : ByteArray).size = 1 := rfl
      have hc : (s.data.toList.drop (i + 1)).count c ≤ k := by
        have := congrArg (List.count c) q2
        rw [List.count_append, List.count_cons_self] at this
        omega
      have ih := splitB_one c k (s.extract (i + 1) s.size) (by rw [ext_drop _ _ _ (Nat.le_refl _)]; exact hc)
      rw [hz, List.map_cons, ih, ext_drop _ _ _ (Nat.le_refl _)]
      conv => rhs; rw [q2]
      rw [spl_app _ _ _ q3, Nat.add_zero, ext_take]; rfl
end Go.Kv
namespace Go.Proofs
open Go.Shelf Go.RowKit
def Tryz.laysSplit_ren : Go.Shelf.Ren := ⟨fun | 146 => 116 | 221 => 153 | 268 => 165 | 138 => 166 | 143 => 167 | 195 => 189 | 197 => 190 | 218 => 191 | 219 => 192 | 260 => 206 | 217 => 207 | 225 => 208 | 224 => 209 | 267 => 210 | 266 => 217 | 314 => 218 | n => n, fun | 9 => 9 | 31 => 153 | 3 => 3 | 4 => 4 | 0 => 0 | 105 => 231 | 21 => 21 | 5 => 5 | 46 => 151 | 119 => 250 | 139 => 253 | 138 => 252 | 146 => 254 | 51 => 217 | n => n, fun | 1 => 1 | 3 => 4 | 4 => 5 | n => n⟩
theorem Tryz.laysSplit : Go.Proofs.Lays.n146 Tryz.prog Tryz.laysSplit_ren := {
  mixed := by kernel_rfl
  f138 := Tryz.func166.trans (congrArg some (by kernel_rfl))
  f143 := Tryz.func167.trans (congrArg some (by kernel_rfl))
  f146 := Tryz.func116.trans (congrArg some (by kernel_rfl))
  f195 := Tryz.func189.trans (congrArg some (by kernel_rfl))
  f197 := Tryz.func190.trans (congrArg some (by kernel_rfl))
  f217 := Tryz.func207.trans (congrArg some (by kernel_rfl))
  f218 := Tryz.func191.trans (congrArg some (by kernel_rfl))
  f219 := Tryz.func192.trans (congrArg some (by kernel_rfl))
  f221 := Tryz.func153.trans (congrArg some (by kernel_rfl))
  f224 := Tryz.func209.trans (congrArg some (by kernel_rfl))
  f225 := Tryz.func208.trans (congrArg some (by kernel_rfl))
  f260 := Tryz.func206.trans (congrArg some (by kernel_rfl))
  f266 := Tryz.func217.trans (congrArg some (by kernel_rfl))
  f267 := Tryz.func210.trans (congrArg some (by kernel_rfl))
  f268 := Tryz.func165.trans (congrArg some (by kernel_rfl))
  f314 := Tryz.func218.trans (congrArg some (by kernel_rfl))
  t0 := Tryz.underlying0
  a0 := Tryz.isAgg0
  z0 := Tryz.sizeOf0
  v0 := Tryz.zeroValue0
  t3 := Tryz.underlying3
  a3 := Tryz.isAgg3
  z3 := Tryz.sizeOf3
  v3 := Tryz.zeroValue3
  t4 := Tryz.underlying4
  a4 := Tryz.isAgg4
  z4 := Tryz.sizeOf4
  v4 := Tryz.zeroValue4
  t5 := Tryz.underlying5
  a5 := Tryz.isAgg5
  z5 := Tryz.sizeOf5
  v5 := Tryz.zeroValue5
  t9 := Tryz.underlying9
  a9 := Tryz.isAgg9
  z9 := Tryz.sizeOf9
  v9 := Tryz.zeroValue9
  t21 := Tryz.underlying21
  a21 := Tryz.isAgg21
  z21 := Tryz.sizeOf21
  v21 := Tryz.zeroValue21
  t31 := Tryz.underlying153
  a31 := Tryz.isAgg153
  z31 := Tryz.sizeOf153
  v31 := Tryz.zeroValue153
  t46 := Tryz.underlying151
  a46 := Tryz.isAgg151
  z46 := Tryz.sizeOf151
  v46 := Tryz.zeroValue151
  t51 := Tryz.underlying217
  a51 := Tryz.isAgg217
  z51 := Tryz.sizeOf217
  v51 := Tryz.zeroValue217
  t105 := Tryz.underlying231
  a105 := Tryz.isAgg231
  z105 := Tryz.sizeOf231
  v105 := Tryz.zeroValue231
  t119 := Tryz.underlying250
  a119 := Tryz.isAgg250
  z119 := Tryz.sizeOf250
  t138 := Tryz.underlying252
  a138 := Tryz.isAgg252
  z138 := Tryz.sizeOf252
  v138 := Tryz.zeroValue252
  t139 := Tryz.underlying253
  a139 := Tryz.isAgg253
  z139 := Tryz.sizeOf253
  v139 := Tryz.zeroValue253
  t146 := Tryz.underlying254
  a146 := Tryz.isAgg254
  z146 := Tryz.sizeOf254
  v146 := Tryz.zeroValue254
  g1 := by kernel_rfl
  g3 := by kernel_rfl
  g4 := by kernel_rfl }
def Tryz.laysItoa_ren : Go.Shelf.Ren := ⟨fun | 171 => 114 | 243 => 151 | 246 => 163 | 283 => 185 | 284 => 186 | 285 => 187 | 286 => 188 | 129 => 177 | 317 => 202 | 318 => 203 | 319 => 204 | 320 => 205 | 337 => 215 | 338 => 216 | n => n, fun | 3 => 3 | 9 => 9 | 2 => 2 | 4 => 4 | 171 => 226 | 0 => 0 | 53 => 219 | 37 => 86 | 5 => 5 | 173 => 228 | 212 => 245 | 51 => 217 | 20 => 20 | 213 => 246 | 46 => 151 | 232 => 260 | 233 => 261 | n => n, fun | 17 => 2 | 18 => 6 | 19 => 7 | n => n⟩
theorem Tryz.laysItoa : Go.Proofs.LaysM.n171 Tryz.prog Tryz.laysItoa_ren := {
  mixed := by kernel_rfl
  f129 := Tryz.func177.trans (congrArg some (by kernel_rfl))
  f171 := Tryz.func114.trans (congrArg some (by kernel_rfl))
  f243 := Tryz.func151.trans (congrArg some (by kernel_rfl))
  f246 := Tryz.func163.trans (congrArg some (by kernel_rfl))
  f283 := Tryz.func185.trans (congrArg some (by kernel_rfl))
  f284 := Tryz.func186.trans (congrArg some (by kernel_rfl))
  f285 := Tryz.func187.trans (congrArg some (by kernel_rfl))
  f286 := Tryz.func188.trans (congrArg some (by kernel_rfl))
  f317 := Tryz.func202.trans (congrArg some (by kernel_rfl))
  f318 := Tryz.func203.trans (congrArg some (by kernel_rfl))
  f319 := Tryz.func204.trans (congrArg some (by kernel_rfl))
  f320 := Tryz.func205.trans (congrArg some (by kernel_rfl))
  f337 := Tryz.func215.trans (congrArg some (by kernel_rfl))
  f338 := Tryz.func216.trans (congrArg some (by kernel_rfl))
  t0 := Tryz.underlying0
  a0 := Tryz.isAgg0
  z0 := Tryz.sizeOf0
  v0 := Tryz.zeroValue0
  t2 := Tryz.underlying2
  a2 := Tryz.isAgg2
  z2 := Tryz.sizeOf2
  v2 := Tryz.zeroValue2
  t3 := Tryz.underlying3
  a3 := Tryz.isAgg3
  z3 := Tryz.sizeOf3
  v3 := Tryz.zeroValue3
  t4 := Tryz.underlying4
  a4 := Tryz.isAgg4
  z4 := Tryz.sizeOf4
  v4 := Tryz.zeroValue4
  t5 := Tryz.underlying5
  a5 := Tryz.isAgg5
  z5 := Tryz.sizeOf5
  v5 := Tryz.zeroValue5
  t9 := Tryz.underlying9
  a9 := Tryz.isAgg9
  z9 := Tryz.sizeOf9
  v9 := Tryz.zeroValue9
  t20 := Tryz.underlying20
  a20 := Tryz.isAgg20
  z20 := Tryz.sizeOf20
  v20 := Tryz.zeroValue20
  t37 := Tryz.underlying86
  a37 := Tryz.isAgg86
  z37 := Tryz.sizeOf86
  v37 := Tryz.zeroValue86
  t46 := Tryz.underlying151
  a46 := Tryz.isAgg151
  z46 := Tryz.sizeOf151
  v46 := Tryz.zeroValue151
  t51 := Tryz.underlying217
  a51 := Tryz.isAgg217
  z51 := Tryz.sizeOf217
  v51 := Tryz.zeroValue217
  t53 := Tryz.underlying219
  a53 := Tryz.isAgg219
  z53 := Tryz.sizeOf219
  v53 := Tryz.zeroValue219
  t171 := Tryz.underlying226
  a171 := Tryz.isAgg226
  z171 := Tryz.sizeOf226
  v171 := Tryz.zeroValue226
  t173 := Tryz.underlying228
  a173 := Tryz.isAgg228
  z173 := Tryz.sizeOf228
  v173 := Tryz.zeroValue228
  t212 := Tryz.underlying245
  a212 := Tryz.isAgg245
  z212 := Tryz.sizeOf245
  v212 := Tryz.zeroValue245
  t213 := Tryz.underlying246
  a213 := Tryz.isAgg246
  z213 := Tryz.sizeOf246
  t232 := Tryz.underlying260
  a232 := Tryz.isAgg260
  z232 := Tryz.sizeOf260
  v232 := Tryz.zeroValue260
  t233 := Tryz.underlying261
  a233 := Tryz.isAgg261
  z233 := Tryz.sizeOf261
  v233 := Tryz.zeroValue261
  g17 := by kernel_rfl
  g18 := by kernel_rfl
  g19 := by kernel_rfl
  i0 := by kernel_rfl
  i2 := by kernel_rfl
  i3 := by kernel_rfl
  i4 := by kernel_rfl
  i5 := by kernel_rfl
  i9 := by kernel_rfl
  i20 := by kernel_rfl
  i37 := by kernel_rfl
  i46 := by kernel_rfl
  i51 := by kernel_rfl
  i53 := by kernel_rfl
  i171 := by kernel_rfl
  i173 := by kernel_rfl
  i212 := by kernel_rfl
  i232 := by kernel_rfl
  i233 := by kernel_rfl
  m17 := by kernel_rfl
  m18 := by kernel_rfl
  m19 := by kernel_rfl }
end Go.Proofs
namespace Go.Kv
open Go Go.RowKit Go.Proofs
noncomputable def F114 (n : Int) : Option ByteArray := if -9223372036854775808 ≤ n ∧ n ≤ 9223372036854775807 then some ⟨(Lib.itoa n).toArray⟩ else none
def out114 (v : ByteArray) : AV := (.d (.v (.string v)))
def splitS (c : UInt8) (s : ByteArray) : List ByteArray := Lib.splitB ⟨#[c]⟩ 0 (Lib.countB s ⟨#[c]⟩) s
noncomputable def F116 (s sep : ByteArray) : Option (Nat × List DV) := if s.size < 4294967281 ∧ sep.size = 1 then some ((splitS (sep.data.toList.getD 0 0) s).length, (splitS (sep.data.toList.getD 0 0) s).map strD) else none
def out116 (v : Nat × List DV) : AV := (.d (.sl v.1 v.2))
theorem npow : Tryz.prog.globalNamed "internal/strconv.uint64pow10" = some 2 := by kernel_rfl
theorem u64s {φ : Nat → Nat} {w : World} : ∀ {zs : List Int} {us : List Value}, RelDs φ w (zs.map fun z => DV.v (.int .u64 z)) us → us = zs.map fun z => Value.int .u64 z
  | [], _, h => h.nil_inv
  | s :: ss, _, h => by
    obtain ⟨u, r, rfl, hu, t⟩ := h.cons_inv
    unfold RelD at hu
    rw [hu.1, u64s t]; rfl
theorem tab_of {w : World} {φ : Nat → Nat} (hgl : GlobOk cfz.glob w φ) : Lib.TabIs Tryz.prog w "internal/strconv.uint64pow10" .u64 Lib.pow10Tab := by
  obtain ⟨us, h1, h2⟩ := var_of_glob hgl npow (xs := gl2) rfl (by simp [gl2])
  have e : gl2 = Lib.pow10Tab.map fun z => DV.v (.int .u64 z) := by rfl
  rw [e] at h1
  rw [u64s h1] at h2
  exact h2
theorem below_gr (w : World) (k : Nat) (os : Array Obj) : Below w.heap.size w (Go.Sort.grow (w.drewN k) os) :=
  ⟨rfl, rfl, rfl, by show _ ≤ (w.heap ++ os).size; rw [Array.size_append]; omega, fun j hj => by show (w.heap ++ os)[j]? = _; exact Array.getElem?_append_left hj⟩
theorem plain_ret {w w' : World} {φ : Nat → Nat} {e : Ending} {v : Value} {r : AV} (hφ : ∀ i, w.heap.size ≤ i → φ i = 0) (he : e = .returned v) (hb : Below w.heap.size w w') (hr : ∀ φ', Rel ({ ρ := fun _ => 0, τ := fun _ => 0, σ := fun _ => 0, φ := φ', live := fun _ => false, tl := fun _ => false } : Ctx) w' r v) :
    ∃ u φ', e = .returned u ∧ BelowD (sdOf cfz.glob) w.heap.size w w' ∧ (∀ i, i < w.heap.size → φ' i = φ i) ∧ (∀ i, w'.heap.size ≤ i → φ' i = 0) ∧ Rel ({ ρ := fun _ => 0, τ := fun _ => 0, σ := fun _ => 0, φ := φ', live := fun _ => false, tl := fun _ => false } : Ctx) w' r u :=
  ⟨v, φ, he, ⟨hb, fun e => nomatch (show false = true from e)⟩, fun _ _ => rfl, fun i hi => hφ i (by have := hb.size; omega), hr φ⟩
theorem f114 (n : Int) (v : ByteArray) (h : F114 n = some v) : PureCalls cfz.P cfz.glob 114 [(.d (.v (.int .i64 n)))] (out114 v) := by
  unfold F114 at h
  split at h
  · rename_i hn
    cases h
    intro w φ us hφ hgl hargs
    obtain ⟨u1, r1, rfl, hu1, t1⟩ := hargs.cons_inv
    rw [t1.nil_inv]
    unfold Rel RelD at hu1
    obtain ⟨rfl, _⟩ := hu1
    refine Calls.mono (Any.strconv_Itoa Tryz.laysItoa n hn.1 hn.2 w (tab_of hgl)) ?_
    rintro e w' ⟨he, k, os, rfl⟩
    refine plain_ret hφ he (below_gr _ _ _) ?_
    intro φ'
    unfold out114 Rel RelD
    exact ⟨rfl, rfl⟩
  · cases h
theorem strs_rel {φ : Nat → Nat} {w : World} : ∀ ss : List ByteArray, RelDs φ w (ss.map strD) (ss.map Value.string)
  | [] => RelDs.nil
  | s :: ss => RelDs.cons (by unfold strD RelD; exact ⟨rfl, rfl⟩) (strs_rel ss)
theorem sep_one (sep : ByteArray) (h : sep.size = 1) : sep = ⟨#[sep.data.toList.getD 0 0]⟩ := by
  obtain ⟨c, rfl⟩ := Lib.one_byte sep h
  rfl
end Go.Kv
namespace Go.Proofs
open Go.Shelf Go.RowKit Go.Lib
set_option maxHeartbeats 1000000 in
theorem split_any {P : Program} {ρ : Ren} (L : Lays.n146 P ρ) (hi9 : (P.info? (ρ.t 9)).map (fun i => (i.zero, i.size, i.bytes)) = some (some (.string ByteArray.empty), 1, 16)) (s : ByteArray) (c : UInt8) (w : World) (hs : s.size < 4294967281) :
    Calls P (ρ.f 146) #[.string s, .string ⟨#[c]⟩] w fun e w' =>
      e = .returned (.slice (some ⟨w.heap.size, 0, none⟩) (Lib.countB s ⟨#[c]⟩ + 1) (Lib.countB s ⟨#[c]⟩ + 1)) ∧ w' = w.alloc (.cells ((Lib.splitB ⟨#[c]⟩ 0 (Lib.countB s ⟨#[c]⟩) s).map Value.string).toArray (ρ.t 9)) := by
  have h1 : 1 ≤ (⟨#[c]⟩ : ByteArray).size := Nat.le_refl 1
  have hle := Lib.countB_le ⟨#[c]⟩ h1 s.size s (Nat.le_refl _)
  have hlen := Lib.splitB_all ⟨#[c]⟩ h1 0 _ s rfl
  have cc := Any.strings_genSplit_core { L with } hi9 s ⟨#[c]⟩ 0 (-1) (Lib.countB s ⟨#[c]⟩ + 1) w hs h1 (Nat.zero_le _)
    (fun x d hx => by
      refine Calls.mono (Any.strings_Index_one { L with } x c (w.alloc (.cells d (ρ.t 9)))) ?_
      rintro e w' ⟨he, hw⟩
      exact ⟨by rw [he]; exact congrArg _ (congrArg _ (Lib.index_one _ _).symm), hw⟩)
    (by
      refine Calls.mono (Any.strings_Count_one { L with } s c w) ?_
      rintro e w' ⟨he, hw⟩
      refine ⟨?_, hw⟩
      rw [he]
      show _ = Ending.returned (Value.int .i64 ((Lib.count s.data.toList [c] : Nat) : Int))
      rw [Lib.count_one]
      rfl) (by decide) (by decide) (by rw [if_pos (by decide)]; omega)
  rw [Nat.add_sub_cancel, hlen] at cc
  have e2 : Lib.cellsOf (Lib.splitB ⟨#[c]⟩ 0 (Lib.countB s ⟨#[c]⟩) s) (Lib.countB s ⟨#[c]⟩ + 1) = ((Lib.splitB ⟨#[c]⟩ 0 (Lib.countB s ⟨#[c]⟩) s).map Value.string).toArray := by rw [← hlen]; exact Lib.cellsOf_full _
  rw [e2] at cc
  have t3 := L.t3; have t9 := L.t9; have t31 := L.t31
  have a3 := L.a3; have a9 := L.a9; have a31 := L.a31
  have z3 := L.z3; have v3 := L.v3; have z9 := L.z9; have v9 := L.v9; have z31 := L.z31; have v31 := L.v31
  have e221 : ∀ args w, (callFunc (ρ.f 221) args).run P w = .ok (.enter (ρ.f 221) args) w := enters_of L.f221 (by kernel_rfl) rfl
  go_enter L.f146, Body.n146_ntmps ρ
  go_wp2_with (go_at_fn (ρ.f 221); refine cc.mono ?_; rintro e w' ⟨rfl, hw⟩; rw [hw])
  go_ret
  exact ⟨rfl, rfl⟩
end Go.Proofs
namespace Go.Kv
open Go Go.RowKit Go.Proofs
theorem f116 (s sep : ByteArray) (v : Nat × List DV) (h : F116 s sep = some v) : PureCalls cfz.P cfz.glob 116 [(.d (.v (.string s))), (.d (.v (.string sep)))] (out116 v) := by
  unfold F116 at h
  split at h
  · rename_i hn
    cases h
    obtain ⟨hs, h1⟩ := hn
    have e1 := sep_one sep h1
    generalize sep.data.toList.getD 0 0 = c at e1
    subst e1
    intro w φ us hφ hgl hargs
    obtain ⟨u1, r1, rfl, hu1, t1⟩ := hargs.cons_inv
    obtain ⟨u2, r2, rfl, hu2, t2⟩ := t1.cons_inv
    rw [t2.nil_inv]
    unfold Rel RelD at hu1 hu2
    obtain ⟨rfl, _⟩ := hu1
    obtain ⟨rfl, _⟩ := hu2
    refine Calls.mono (split_any Tryz.laysSplit (by kernel_rfl) s c w hs) ?_
    rintro e w' ⟨he, rfl⟩
    have hlen := Lib.splitB_all ⟨#[c]⟩ (Nat.le_refl 1) 0 _ s rfl
    refine ⟨_, fun i => if i = w.heap.size then (Lib.countB s ⟨#[c]⟩ + 1) else φ i, he, ⟨Below.alloc (Below.refl _ _) (Nat.le_refl _) _, fun e => nomatch (show false = true from e)⟩, fun i hi => if_neg (by omega), fun i hi => ?_, ?_⟩
    · have : (w.alloc (.cells ((Lib.splitB ⟨#[c]⟩ 0 (Lib.countB s ⟨#[c]⟩) s).map Value.string).toArray (Tryz.laysSplit_ren.t 9))).heap.size = w.heap.size + 1 := Array.size_push ..
      rw [this] at hi
      show (if i = w.heap.size then _ else φ i) = 0
      rw [if_neg (by omega)]
      exact hφ i (by omega)
    · unfold out116 Rel RelD
      refine ⟨w.heap.size, 0, Lib.countB s ⟨#[c]⟩ + 1, (splitS c s).map Value.string, .inl (by rw [splitS, hlen]), ?_, by rw [splitS, hlen]; exact Nat.le_refl _, ?_, ?_⟩
      · simp [splitS, hlen]
      · intro i u hu
        have e0 : (w.alloc (.cells ((Lib.splitB ⟨#[c]⟩ 0 (Lib.countB s ⟨#[c]⟩) s).map Value.string).toArray (Tryz.laysSplit_ren.t 9))).heap[w.heap.size]? = some (.cells ((Lib.splitB ⟨#[c]⟩ 0 (Lib.countB s ⟨#[c]⟩) s).map Value.string).toArray (Tryz.laysSplit_ren.t 9)) := Array.getElem?_push_size ..
        unfold World.cell?
        simp only [e0, Nat.zero_add]
        unfold splitS at hu
        simpa using hu
      · exact strs_rel _
  · cases h
end Go.Kv
namespace Go.Kv
open Go Go.RowKit Go.Proofs
def strsOf (l : List DV) : List ByteArray := l.map dS
open Classical in
noncomputable def F112 (n : Nat) (l : List DV) (sep : ByteArray) : Option ByteArray :=
  if n = l.length ∧ l = (strsOf l).map strD ∧ l.length ≤ 1000 ∧ (Lib.join ((strsOf l).map (·.data.toList)) sep.data.toList).length ≤ 100000 then some (joinB (strsOf l) sep) else none
def out112 (v : ByteArray) : AV := (.d (.v (.string v)))
theorem f112 (n : Nat) (l : List DV) (sep : ByteArray) (v : ByteArray) (h : F112 n l sep = some v) : PureCalls cfz.P cfz.glob 112 [.d (.sl n l), .d (.v (.string sep))] (out112 v) := by
  unfold F112 at h
  split at h
  · rename_i hc
    obtain ⟨h1, h2, h3, h4⟩ := hc
    cases h
    have hl : (strsOf l).length = l.length := by simp [strsOf]
    have := join_pure (strsOf l) sep (by omega) (by omega)
    rw [hl, ← h2, ← h1] at this
    exact this
  · cases h
end Go.Kv
