/- A NaN is no sample: CheckSample tells ErrForm, whatever bits are drawn. -/
import Derived.Test.YtalhonodbajndaaGreatDoorGZ1
namespace Go.Kv
set_option linter.unusedVariables false
set_option linter.unusedSimpArgs false
open Go Go.RowKit Go.Proofs
set_option maxRecDepth 100000
/-- What the floor of a word comes to, by what it stands for: of a NaN some NaN. -/
def floorS (z : Nat) (d : Ieee.Datum) : Sem Value := match d with
  | .nan s t => if FloatKind.f64.format.quiet t = t then pure (.float .f64 z) else
      choose (.extern "math.Floor,Ceil,Trunc,RoundToEven.signallingNaN kept" 2) >>= fun k => pure (.float .f64 (if k == 1 then z else FloatKind.f64.encode (.nan s (FloatKind.f64.format.quiet t))))
  | d => pure (.float .f64 (FloatKind.f64.encode (d.integral .down)))
theorem floor_sem (z : Nat) (w : World) : (callFunc 146 #[.float .f64 z]).run cfz.P w = ((floorS z (FloatKind.f64.decode z)).bind fun v => .pure (.value v)).run cfz.P w := by kernel_rfl
theorem nan_quiet {s : Bool} {t : Nat} (h : t < 2 ^ 52) (h0 : 0 < t) : NanB .f64 (FloatKind.f64.encode (.nan s (FloatKind.f64.format.quiet t))) := by
  have h1 : Ieee.double.signWeight = 9223372036854775808 := rfl
  have h2 : Ieee.double.binade = 4503599627370496 := rfl
  have h3 : Ieee.double.infRung = 9218868437227405312 := rfl
  have hq : 0 < (Ieee.double.quiet t) % 4503599627370496 ∧ (Ieee.double.quiet t) % 4503599627370496 < 4503599627370496 := by
    refine ⟨?_, Nat.mod_lt _ (by decide)⟩
    have e : Ieee.double.quiet t = t ||| 2 ^ 51 := rfl
    have l : t ||| 2 ^ 51 < 2 ^ 52 := Nat.or_lt_two_pow h (by decide)
    have g : t ≤ t ||| 2 ^ 51 := Nat.left_le_or
    rw [e, Nat.mod_eq_of_lt (by omega)]
    omega
  show NanB .f64 (Ieee.double.word s (Ieee.double.infRung + (Ieee.double.quiet t) % Ieee.double.binade))
  unfold Ieee.Format.word
  rw [h1, h2, h3]
  generalize (Ieee.double.quiet t) % 4503599627370496 = r at *
  have hh := rd_nan (f := Ieee.double) (w := if s = true then 9223372036854775808 + (9218868437227405312 + r) else 9218868437227405312 + r)
  rw [h1, h2, h3] at hh
  cases s
  · exact hh (by simp; omega) (by simp; omega) (by simp; omega)
  · exact hh (by simp; omega) (by simp; omega) (by simp; omega)
theorem nan_frac {b : Nat} {s : Bool} {t : Nat} (h : FloatKind.f64.decode b = .nan s t) : t < 2 ^ 52 ∧ 0 < t := by
  have h1 : Ieee.double.signWeight = 9223372036854775808 := rfl
  have h2 : Ieee.double.binade = 4503599627370496 := rfl
  have h3 : Ieee.double.infRung = 9218868437227405312 := rfl
  have h : Ieee.double.read b = .nan s t := h
  unfold Ieee.Format.read at h
  rw [h1, h2, h3] at h
  dsimp only at h
  split at h
  · simp at h
  · split at h
    · simp at h
    · split at h
      · simp at h
      · simp only [Ieee.Datum.nan.injEq] at h
        omega
theorem nan_floor : NanExt cfz.P 146 FloatKind.f64 := by
  intro b hb w
  rw [floor_sem]
  obtain ⟨s, t, h⟩ := hb
  obtain ⟨t1, t2⟩ := nan_frac h
  rw [h]
  simp only [floorS]
  by_cases hq : FloatKind.f64.format.quiet t = t
  · rw [if_pos hq]
    exact ⟨b, w, rfl, ⟨s, t, h⟩, .inl rfl⟩
  · rw [if_neg hq]
    refine ⟨_, w.drew, rfl, ?_, .inr rfl⟩
    split
    · exact ⟨s, t, h⟩
    · exact nan_quiet t1 t2

noncomputable def nn0D : CT cfz := .run 12 [] <|  .fin
theorem nn0k : crun cfz 109 nn0D [] (ent cfz 109 [(.nan .f64)]) = some ((.d (.v (.bool true))), []) := by kernel_rfl
theorem nn0 : PureCalls cfz.P cfz.glob 109 [(.nan .f64)] (.d (.v (.bool true))) := closed_ok knil (by kernel_rfl) nn0k trivial

noncomputable def nn1D : CT cfz := .run 8 [] <| .use nn0 <| .run 1 [(.ck 0)] <| .run 3 [] <| .run 1 [(.br true)] <| .run 4 [] <|  .fin
theorem nn1k : crun cfz 140 nn1D [] (ent cfz 140 [(.nan .f32)]) = some ((.d (.v (.bool true))), [.eqA [(.nan .f64)] [(.nan .f64)]]) := by kernel_rfl
theorem nn1 : PureCalls cfz.P cfz.glob 140 [(.nan .f32)] (.d (.v (.bool true))) := closed_ok knil (by kernel_rfl) nn1k ⟨rfl, trivial⟩

noncomputable def nn2D : CT cfz := .run 16 [] <|  .fin
theorem nn2k : crun cfz 139 nn2D [] (ent cfz 139 [(.d (.v (.bool true))), (.d (.v (.int .i64 1)))]) = some ((.d (.v (.int .i64 1))), []) := by kernel_rfl
theorem nn2 : PureCalls cfz.P cfz.glob 139 [(.d (.v (.bool true))), (.d (.v (.int .i64 1)))] (.d (.v (.int .i64 1))) := closed_ok knil (by kernel_rfl) nn2k trivial

noncomputable def nn3D : CT cfz := .run 9 [] <| .run 1 [.extN] <| .run 3 [] <|  .fin
theorem nn3k : crun cfz 136 nn3D [] (ent cfz 136 [(.nan .f64)]) = some ((.nan .f64), [(.prop (NanExt cfz.P 146 FloatKind.f64))]) := by kernel_rfl
theorem nn3 : PureCalls cfz.P cfz.glob 136 [(.nan .f64)] (.nan .f64) := closed_ok knil (by kernel_rfl) nn3k ⟨nan_floor, trivial⟩

noncomputable def nn4D : CT cfz := .run 16 [] <|  .fin
theorem nn4k : crun cfz 139 nn4D [] (ent cfz 139 [(.d (.v (.bool true))), (.d (.v (.int .i64 3)))]) = some ((.d (.v (.int .i64 3))), []) := by kernel_rfl
theorem nn4 : PureCalls cfz.P cfz.glob 139 [(.d (.v (.bool true))), (.d (.v (.int .i64 3)))] (.d (.v (.int .i64 3))) := closed_ok knil (by kernel_rfl) nn4k trivial

noncomputable def nn5D : CT cfz := .run 19 [] <| .use nn3 <| .run 1 [(.br false), (.ck 0)] <| .run 5 [] <| .use nn4 <| .run 1 [(.ck 1)] <| .run 3 [] <|  .fin
theorem nn5k : crun cfz 141 nn5D [] (ent cfz 141 [(.nan .f32), (.d (.v (.float .f32 1149239296)))]) = some ((.d (.v (.int .i64 3))), [.eqA [(.nan .f64)] [(.nan .f64)], .eqA [(.d (.v (.bool true))), (.d (.v (.int .i64 3)))] [(.d (.v (.bool true))), (.d (.v (.int .i64 3)))]]) := by kernel_rfl
theorem nn5 : PureCalls cfz.P cfz.glob 141 [(.nan .f32), (.d (.v (.float .f32 1149239296)))] (.d (.v (.int .i64 3))) := closed_ok knil (by kernel_rfl) nn5k ⟨rfl, ⟨rfl, trivial⟩⟩

noncomputable def nn6D : CT cfz := .run 40 [] <|  .fin
theorem nn6k : crun cfz 138 nn6D [] (ent cfz 138 [(.d (.sl 2 [(.v (.int .i64 1)), (.v (.int .i64 3))]))]) = some ((.d (.v (.int .i64 1))), []) := by kernel_rfl
theorem nn6 : PureCalls cfz.P cfz.glob 138 [(.d (.sl 2 [(.v (.int .i64 1)), (.v (.int .i64 3))]))] (.d (.v (.int .i64 1))) := closed_ok knil (by kernel_rfl) nn6k trivial

noncomputable def nn7D : CT cfz := .run 7 [] <| .use nn1 <| .run 1 [(.ck 0)] <| .use nn2 <| .run 1 [(.ck 1)] <| .run 1 [] <| .use nn5 <| .run 1 [(.ck 2)] <| .run 1 [] <| .use nn6 <| .run 1 [(.ck 3)] <| .run 3 [] <|  .fin
theorem nn7k : crun cfz 114 nn7D [] (ent cfz 114 [(.nan .f32)]) = some ((.d (.v (.int .i64 1))), [.eqA [(.nan .f32)] [(.nan .f32)], .eqA [(.d (.v (.bool true))), (.d (.v (.int .i64 1)))] [(.d (.v (.bool true))), (.d (.v (.int .i64 1)))], .eqA [(.nan .f32), (.d (.v (.float .f32 1149239296)))] [(.nan .f32), (.d (.v (.float .f32 1149239296)))], .eqA [(.d (.sl 2 [(.v (.int .i64 1)), (.v (.int .i64 3))]))] [(.d (.sl 2 [(.v (.int .i64 1)), (.v (.int .i64 3))]))]]) := by kernel_rfl
theorem nn7 : PureCalls cfz.P cfz.glob 114 [(.nan .f32)] (.d (.v (.int .i64 1))) := closed_ok knil (by kernel_rfl) nn7k ⟨rfl, ⟨rfl, ⟨rfl, ⟨rfl, trivial⟩⟩⟩⟩

/-- A word that is a NaN. -/
def isNan32 (a : Nat) : Bool := match FloatKind.f32.decode a with
  | .nan _ _ => true
  | _ => false
theorem isNan32_b {a : Nat} (h : isNan32 a = true) : NanB .f32 a := by
  unfold isNan32 at h
  split at h
  · rename_i s t e; exact ⟨s, t, e⟩
  · simp at h
noncomputable def F114 (a : Nat) : Option (Int) := if isNan32 a = true then some 1 else F114x a
theorem f114 (a : Nat) (v : Int) (h : F114 a = some v) : PureCalls cfz.P cfz.glob 114 [(.d (.v (.float .f32 a)))] (out114 v) := by
  unfold F114 at h
  split at h
  · rename_i hn
    simp only [Option.some.injEq] at h; subst h
    intro w φ us h1 h2 h3
    refine nn7 w φ us h1 h2 ?_
    obtain ⟨u, r, rfl, hu, t⟩ := h3.cons_inv
    refine Rels.cons ?_ t
    unfold Rel RelD at hu
    obtain ⟨rfl, _⟩ := hu
    unfold Rel
    exact ⟨a, rfl, isNan32_b hn⟩
  · exact f114x a v h
end Go.Kv
