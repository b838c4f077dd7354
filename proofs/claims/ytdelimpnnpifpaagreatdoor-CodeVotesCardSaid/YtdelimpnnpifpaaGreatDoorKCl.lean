import Derived.Test.YtdelimpnnpifpaaGreatDoorKvW
import Derived.Test.YtdelimpnnpifpaaGreatDoorKvZ
import Derived.Test.YtdelimpnnpifpaaGreatDoorKzA
import Derived.Test.YtdelimpnnpifpaaGreatDoorKaD
set_option linter.all false
namespace Go.Kv
open Go Go.RowKit Go.Proofs
set_option maxRecDepth 100000
inductive S86 where
 | c0 (a0 : Nat) (a1 : List DV)
def out86 (v : Nat × List DV) : AV := (.d (.sl v.fst v.snd))
noncomputable def st86 : S86 → ASt
 | .c0 a0 a1 => ent cfz 86 [(.d (.sl a0 a1))]
noncomputable def B86 : S86 → Tr S86 (Nat × List DV)
 | .c0 a0 a1 => (.ask (.ltN 0 a0) (.br (a0.beq 0)
 (.ask (.eqN a0 0) (.ret (0, [])))
 (.ask (.ltN 0 a0) (.ask (.eqN a1.length (a0 * 1)) (.ask (.fits a0 8) (.ret (a0, a1)))))))
noncomputable def F86 (a0 : Nat) (a1 : List DV) : Option (Nat × List DV) := res B86 (.c0 a0 a1)
noncomputable def D86_0 (a0 : Nat) (a1 : List DV) : DT cfz := (.go 16 [(.br false)] [1] (.br (a0.beq 0) (.go 4 [(.br false)] [] .fin) (.go 4 [(.br true)] [] .fin)))
theorem k86_0 (a0 : Nat) (a1 : List DV) : xrun cfz 86 (D86_0 a0 a1) [] (st86 (.c0 a0 a1)) = (B86 (.c0 a0 a1)).mach st86 out86 := by kernel_rfl
theorem ok86 : ∀ s, ∃ d, xrun cfz 86 d [] (st86 s) = (B86 s).mach st86 out86
 | .c0 a0 a1 => ⟨_, k86_0 a0 a1⟩
theorem f86 (a0 : Nat) (a1 : List DV) (v : Nat × List DV) (h : F86 a0 a1 = some v) : PureCalls cfz.P cfz.glob 86 [(.d (.sl a0 a1))] (out86 v) := tree_pure knil ok86 (s := .c0 a0 a1) rfl (by kernel_rfl) v h
end Go.Kv
namespace Go.Kv
open Go Go.RowKit
def F86c (n : Nat) (xs : List DV) : Option (Nat × List DV) := if xs.length = n ∧ fitsN n 8 then some (n, xs) else none
def out86c (v : Nat × List DV) : AV := (.d (.sl v.fst v.snd))
theorem f86c (a73 : Nat) (a74 : List DV) (v : Nat × List DV) (h : F86c a73 a74 = some v) : PureCalls cfz.P cfz.glob 86 [(.d (.sl a73 a74))] (out86c v) := by
 unfold F86c at h
 split at h
 ·rename_i hh
  cases h
  obtain ⟨h1, h2⟩ := hh
  subst h1
  match a74, h2 with
  | [], _ => exact clone0
  | x :: xs, h2 =>
   refine f86 _ _ _ ?_
   unfold F86; rw [res_eq]
   have e : ((x :: xs).length).beq 0 = false := rfl
   simp only [B86, e, sem_ask, sem_br, PC.holds, Bool.false_eq_true, if_false, sem_ret, Nat.mul_one]
   rw [need_of (by simp), need_of (by simp), need_of trivial, need_of h2]
   rfl
 ·cases h
end Go.Kv
