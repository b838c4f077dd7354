/-
  NARROWER THAN 'FOR EVERY INPUT', by the rows' own cells (each row's printed sentence says how): CodeWords: laid · CodeDecoded: laid · CodeSoft: laid · CodeSpread: laid · CodeBursts: laid · CodeVotes: laid · CodeLinear: laid · CodeUndoes: laid · CodeTrusts: laid · CodeTexts: laid · CodeScatters: laid.
  DERIVED. THE GIVEN ROWS OF THIS SEAT. 11 by the template 'for every input the law returns true; each argument reads behind the call as it read before'; 0 by the template 'total and deterministic' (their statements: YtdelimpnnpifpaaGreatDoorTotals.lean).
  GIVEN WITH THE SEED: the statements are not yours to turn. If you find one false, say at which input.
  Laid BY PROGRAM, IN A SANDBOX (cutbox-rows.mjs): the forced cells as the released guide's own fill.sh prints them over the translation 86e97b78e95c08ba… (all of the seat's roots in one cut). By AI agents, Wed Nov 11 2026. No macro, syntax, notation, axiom, sorry.
-/
import Derived.Test.YtdelimpnnpifpaaGreatDoorChecked
import GoSem.PinnedTables
import GoSem.Claim
import GoSem.ClaimJoined
import GoSem.ClaimMapViews
import Derived.JoinedTies
import Derived.KernelRfl
namespace Go.Proofs.YtdelimpnnpifpaaGreatDoor
/- THE CELL 'sum', in the pinned program and in every row, IS THE sha256 OF THE DUMP (.gsa) THAT YtdelimpnnpifpaaGreatDoorProg.lean LOADS. Nothing in Lean hashes anything: it is a label: what it is worth is what the hold of that sum in a sandbox is worth. -/
noncomputable def Tryz.pinned : Pinned := { name := "ytdelimpnnpifpaagreatdoor", sum := "86e97b78e95c08ba46b33f5c6e120fdfed6b10d0fce7e3aa2357ba640e059dc8", checked := Tryz.checked }
namespace Rows
def none {H : Type} : Left H := { results := [], args := [] }

/- WHAT THE LISTED PACKAGE-LEVEL VARIABLES READ AS WHEN THE CALL BEGINS. Each datum BY PROGRAM (the guide's laid-datum.mjs) off the statement by which the dump's own 'gosem.cut.vars' lays the variable. In a bare row this is a premise. The card (YtdelimpnnpifpaaGreatDoorCards.lean) ties it to the program's text. -/
def laid_math_bits_deBruijn32tab {H : Type} : DataW H := .agg [.lit (.int .u8 0), .lit (.int .u8 1), .lit (.int .u8 28), .lit (.int .u8 2), .lit (.int .u8 29), .lit (.int .u8 14), .lit (.int .u8 24), .lit (.int .u8 3), .lit (.int .u8 30), .lit (.int .u8 22), .lit (.int .u8 20), .lit (.int .u8 15), .lit (.int .u8 25), .lit (.int .u8 17), .lit (.int .u8 4), .lit (.int .u8 8), .lit (.int .u8 31), .lit (.int .u8 27), .lit (.int .u8 13), .lit (.int .u8 23), .lit (.int .u8 21), .lit (.int .u8 19), .lit (.int .u8 16), .lit (.int .u8 7), .lit (.int .u8 26), .lit (.int .u8 12), .lit (.int .u8 18), .lit (.int .u8 6), .lit (.int .u8 11), .lit (.int .u8 5), .lit (.int .u8 10), .lit (.int .u8 9)]
def laid_math_bits_deBruijn64tab {H : Type} : DataW H := .agg [.lit (.int .u8 0), .lit (.int .u8 1), .lit (.int .u8 56), .lit (.int .u8 2), .lit (.int .u8 57), .lit (.int .u8 49), .lit (.int .u8 28), .lit (.int .u8 3), .lit (.int .u8 61), .lit (.int .u8 58), .lit (.int .u8 42), .lit (.int .u8 50), .lit (.int .u8 38), .lit (.int .u8 29), .lit (.int .u8 17), .lit (.int .u8 4), .lit (.int .u8 62), .lit (.int .u8 47), .lit (.int .u8 59), .lit (.int .u8 36), .lit (.int .u8 45), .lit (.int .u8 43), .lit (.int .u8 51), .lit (.int .u8 22), .lit (.int .u8 53), .lit (.int .u8 39), .lit (.int .u8 33), .lit (.int .u8 30), .lit (.int .u8 24), .lit (.int .u8 18), .lit (.int .u8 12), .lit (.int .u8 5), .lit (.int .u8 63), .lit (.int .u8 55), .lit (.int .u8 48), .lit (.int .u8 27), .lit (.int .u8 60), .lit (.int .u8 41), .lit (.int .u8 37), .lit (.int .u8 16), .lit (.int .u8 46), .lit (.int .u8 35), .lit (.int .u8 44), .lit (.int .u8 21), .lit (.int .u8 52), .lit (.int .u8 32), .lit (.int .u8 23), .lit (.int .u8 11), .lit (.int .u8 54), .lit (.int .u8 26), .lit (.int .u8 40), .lit (.int .u8 15), .lit (.int .u8 34), .lit (.int .u8 20), .lit (.int .u8 31), .lit (.int .u8 10), .lit (.int .u8 25), .lit (.int .u8 14), .lit (.int .u8 19), .lit (.int .u8 9), .lit (.int .u8 13), .lit (.int .u8 8), .lit (.int .u8 7), .lit (.int .u8 6)]
def laid_internal_strconv_uint64pow10 {H : Type} : DataW H := .agg [.lit (.int .u64 1), .lit (.int .u64 10), .lit (.int .u64 100), .lit (.int .u64 1000), .lit (.int .u64 10000), .lit (.int .u64 100000), .lit (.int .u64 1000000), .lit (.int .u64 10000000), .lit (.int .u64 100000000), .lit (.int .u64 1000000000), .lit (.int .u64 10000000000), .lit (.int .u64 100000000000), .lit (.int .u64 1000000000000), .lit (.int .u64 10000000000000), .lit (.int .u64 100000000000000), .lit (.int .u64 1000000000000000), .lit (.int .u64 10000000000000000), .lit (.int .u64 100000000000000000), .lit (.int .u64 1000000000000000000), .lit (.int .u64 10000000000000000000)]
def laid_kilovar_code_powers {H : Type} : DataW H := .agg [.lit (.int .i64 1), .lit (.int .i64 3), .lit (.int .i64 9), .lit (.int .i64 10), .lit (.int .i64 13), .lit (.int .i64 5), .lit (.int .i64 15), .lit (.int .i64 11), .lit (.int .i64 16), .lit (.int .i64 14), .lit (.int .i64 8), .lit (.int .i64 7), .lit (.int .i64 4), .lit (.int .i64 12), .lit (.int .i64 2), .lit (.int .i64 6)]
def laid_unicode_utf8_acceptRanges {H : Type} : DataW H := .agg [.agg [.lit (.int .u8 128), .lit (.int .u8 191)], .agg [.lit (.int .u8 160), .lit (.int .u8 191)], .agg [.lit (.int .u8 128), .lit (.int .u8 159)], .agg [.lit (.int .u8 144), .lit (.int .u8 191)], .agg [.lit (.int .u8 128), .lit (.int .u8 143)], .agg [.lit (.int .u8 0), .lit (.int .u8 0)], .agg [.lit (.int .u8 0), .lit (.int .u8 0)], .agg [.lit (.int .u8 0), .lit (.int .u8 0)], .agg [.lit (.int .u8 0), .lit (.int .u8 0)], .agg [.lit (.int .u8 0), .lit (.int .u8 0)], .agg [.lit (.int .u8 0), .lit (.int .u8 0)], .agg [.lit (.int .u8 0), .lit (.int .u8 0)], .agg [.lit (.int .u8 0), .lit (.int .u8 0)], .agg [.lit (.int .u8 0), .lit (.int .u8 0)], .agg [.lit (.int .u8 0), .lit (.int .u8 0)], .agg [.lit (.int .u8 0), .lit (.int .u8 0)]]
/-- One of Go's own tables, pinned by name: the form's constant. -/
def laid_unicode_utf8_first : DataW Unit := Go.Pinned.utf8First

/-- 'kilovarlaw03.CodeWords': WHATEVER THE INPUT: true; the input reads as it did. -/
def codeWordsSpec : ChangeSpec := { name := "codeWords", fn := fun _ => fun
  | [d1, d2, d3] => { results := [.lit (.bool true)], args := [d1, d2, d3] }
  | _ => none }
def codeWordsRow : OpenClaim := { program := "ytdelimpnnpifpaagreatdoor", sum := "86e97b78e95c08ba46b33f5c6e120fdfed6b10d0fce7e3aa2357ba640e059dc8", func := "kilovar/kilovarlaw03.CodeWords", spec := "codeWords", inPlace := ["math.Float64bits", "math.Float64frombits", "math.archFloor", "math.archTrunc", "internal/abi.NoEscape", "internal/bytealg.MakeNoZero"], unfollowed := true, recurses := true, named := ["kilovar/code.powers", "internal/strconv.uint64pow10", "math/bits.deBruijn32tab", "math/bits.deBruijn64tab"], apart := false, laid := [("math/bits.deBruijn32tab", laid_math_bits_deBruijn32tab), ("math/bits.deBruijn64tab", laid_math_bits_deBruijn64tab), ("internal/strconv.uint64pow10", laid_internal_strconv_uint64pow10), ("kilovar/code.powers", laid_kilovar_code_powers)] }
def CodeWordsSaid : Prop := codeWordsRow.holds Tryz.pinned (OpenSpec.ofChange codeWordsSpec)

/-- ITS FALSE NEIGHBOUR: 'it returns false'. Refute it at one input. -/
def codeWordsWrong : ChangeSpec := { name := "codeWords", fn := fun _ => fun
  | [d1, d2, d3] => { results := [.lit (.bool false)], args := [d1, d2, d3] }
  | _ => none }
def CodeWordsWrongFalsely : Prop := codeWordsRow.holds Tryz.pinned (OpenSpec.ofChange codeWordsWrong)

/-- 'kilovarlaw03.CodeDecoded': WHATEVER THE INPUT: true; the input reads as it did. -/
def codeDecodedSpec : ChangeSpec := { name := "codeDecoded", fn := fun _ => fun
  | [d1, d2, d3] => { results := [.lit (.bool true)], args := [d1, d2, d3] }
  | _ => none }
def codeDecodedRow : OpenClaim := { program := "ytdelimpnnpifpaagreatdoor", sum := "86e97b78e95c08ba46b33f5c6e120fdfed6b10d0fce7e3aa2357ba640e059dc8", func := "kilovar/kilovarlaw03.CodeDecoded", spec := "codeDecoded", inPlace := ["math.Float64bits", "math.Float64frombits", "math.archFloor", "math.archTrunc", "internal/abi.NoEscape", "internal/bytealg.MakeNoZero"], unfollowed := true, recurses := true, named := ["kilovar/code.powers", "internal/strconv.uint64pow10", "math/bits.deBruijn32tab", "math/bits.deBruijn64tab"], apart := false, laid := [("math/bits.deBruijn32tab", laid_math_bits_deBruijn32tab), ("math/bits.deBruijn64tab", laid_math_bits_deBruijn64tab), ("internal/strconv.uint64pow10", laid_internal_strconv_uint64pow10), ("kilovar/code.powers", laid_kilovar_code_powers)] }
def CodeDecodedSaid : Prop := codeDecodedRow.holds Tryz.pinned (OpenSpec.ofChange codeDecodedSpec)

/-- ITS FALSE NEIGHBOUR: 'it returns false'. Refute it at one input. -/
def codeDecodedWrong : ChangeSpec := { name := "codeDecoded", fn := fun _ => fun
  | [d1, d2, d3] => { results := [.lit (.bool false)], args := [d1, d2, d3] }
  | _ => none }
def CodeDecodedWrongFalsely : Prop := codeDecodedRow.holds Tryz.pinned (OpenSpec.ofChange codeDecodedWrong)

/-- 'kilovarlaw03.CodeSoft': WHATEVER THE INPUT: true; the input reads as it did. -/
def codeSoftSpec : ChangeSpec := { name := "codeSoft", fn := fun _ => fun
  | [d1, d2, d3] => { results := [.lit (.bool true)], args := [d1, d2, d3] }
  | _ => none }
def codeSoftRow : OpenClaim := { program := "ytdelimpnnpifpaagreatdoor", sum := "86e97b78e95c08ba46b33f5c6e120fdfed6b10d0fce7e3aa2357ba640e059dc8", func := "kilovar/kilovarlaw03.CodeSoft", spec := "codeSoft", inPlace := ["math.Float64bits", "math.Float64frombits", "math.archFloor", "math.archTrunc", "internal/abi.NoEscape", "internal/bytealg.MakeNoZero"], unfollowed := true, recurses := true, named := ["kilovar/code.powers", "internal/strconv.uint64pow10", "math/bits.deBruijn32tab", "math/bits.deBruijn64tab"], apart := false, laid := [("math/bits.deBruijn32tab", laid_math_bits_deBruijn32tab), ("math/bits.deBruijn64tab", laid_math_bits_deBruijn64tab), ("internal/strconv.uint64pow10", laid_internal_strconv_uint64pow10), ("kilovar/code.powers", laid_kilovar_code_powers)] }
def CodeSoftSaid : Prop := codeSoftRow.holds Tryz.pinned (OpenSpec.ofChange codeSoftSpec)

/-- ITS FALSE NEIGHBOUR: 'it returns false'. Refute it at one input. -/
def codeSoftWrong : ChangeSpec := { name := "codeSoft", fn := fun _ => fun
  | [d1, d2, d3] => { results := [.lit (.bool false)], args := [d1, d2, d3] }
  | _ => none }
def CodeSoftWrongFalsely : Prop := codeSoftRow.holds Tryz.pinned (OpenSpec.ofChange codeSoftWrong)

/-- 'kilovarlaw03.CodeSpread': WHATEVER THE INPUT: true; the input reads as it did. -/
def codeSpreadSpec : ChangeSpec := { name := "codeSpread", fn := fun _ => fun
  | [d1, d2, d3] => { results := [.lit (.bool true)], args := [d1, d2, d3] }
  | _ => none }
def codeSpreadRow : OpenClaim := { program := "ytdelimpnnpifpaagreatdoor", sum := "86e97b78e95c08ba46b33f5c6e120fdfed6b10d0fce7e3aa2357ba640e059dc8", func := "kilovar/kilovarlaw03.CodeSpread", spec := "codeSpread", inPlace := ["math.Float64bits", "math.Float64frombits", "math.archFloor", "math.archTrunc", "internal/abi.NoEscape", "internal/bytealg.MakeNoZero"], unfollowed := true, recurses := true, named := ["kilovar/code.powers", "internal/strconv.uint64pow10", "math/bits.deBruijn32tab", "math/bits.deBruijn64tab"], apart := false, laid := [("math/bits.deBruijn32tab", laid_math_bits_deBruijn32tab), ("math/bits.deBruijn64tab", laid_math_bits_deBruijn64tab), ("internal/strconv.uint64pow10", laid_internal_strconv_uint64pow10), ("kilovar/code.powers", laid_kilovar_code_powers)] }
def CodeSpreadSaid : Prop := codeSpreadRow.holds Tryz.pinned (OpenSpec.ofChange codeSpreadSpec)

/-- ITS FALSE NEIGHBOUR: 'it returns false'. Refute it at one input. -/
def codeSpreadWrong : ChangeSpec := { name := "codeSpread", fn := fun _ => fun
  | [d1, d2, d3] => { results := [.lit (.bool false)], args := [d1, d2, d3] }
  | _ => none }
def CodeSpreadWrongFalsely : Prop := codeSpreadRow.holds Tryz.pinned (OpenSpec.ofChange codeSpreadWrong)

/-- 'kilovarlaw03.CodeBursts': WHATEVER THE INPUT: true; the input reads as it did. -/
def codeBurstsSpec : ChangeSpec := { name := "codeBursts", fn := fun _ => fun
  | [d1, d2, d3] => { results := [.lit (.bool true)], args := [d1, d2, d3] }
  | _ => none }
def codeBurstsRow : OpenClaim := { program := "ytdelimpnnpifpaagreatdoor", sum := "86e97b78e95c08ba46b33f5c6e120fdfed6b10d0fce7e3aa2357ba640e059dc8", func := "kilovar/kilovarlaw03.CodeBursts", spec := "codeBursts", inPlace := ["math.Float64bits", "math.Float64frombits", "math.archFloor", "math.archTrunc", "internal/abi.NoEscape", "internal/bytealg.MakeNoZero"], unfollowed := true, recurses := true, named := ["kilovar/code.powers", "internal/strconv.uint64pow10", "math/bits.deBruijn32tab", "math/bits.deBruijn64tab"], apart := false, laid := [("math/bits.deBruijn32tab", laid_math_bits_deBruijn32tab), ("math/bits.deBruijn64tab", laid_math_bits_deBruijn64tab), ("internal/strconv.uint64pow10", laid_internal_strconv_uint64pow10), ("kilovar/code.powers", laid_kilovar_code_powers)] }
def CodeBurstsSaid : Prop := codeBurstsRow.holds Tryz.pinned (OpenSpec.ofChange codeBurstsSpec)

/-- ITS FALSE NEIGHBOUR: 'it returns false'. Refute it at one input. -/
def codeBurstsWrong : ChangeSpec := { name := "codeBursts", fn := fun _ => fun
  | [d1, d2, d3] => { results := [.lit (.bool false)], args := [d1, d2, d3] }
  | _ => none }
def CodeBurstsWrongFalsely : Prop := codeBurstsRow.holds Tryz.pinned (OpenSpec.ofChange codeBurstsWrong)

/-- 'kilovarlaw03.CodeVotes': WHATEVER THE INPUT: true; the input reads as it did. -/
def codeVotesSpec : ChangeSpec := { name := "codeVotes", fn := fun _ => fun
  | [d1, d2, d3] => { results := [.lit (.bool true)], args := [d1, d2, d3] }
  | _ => none }
def codeVotesRow : OpenClaim := { program := "ytdelimpnnpifpaagreatdoor", sum := "86e97b78e95c08ba46b33f5c6e120fdfed6b10d0fce7e3aa2357ba640e059dc8", func := "kilovar/kilovarlaw03.CodeVotes", spec := "codeVotes", inPlace := ["math.Float64bits", "math.Float64frombits", "math.archFloor", "math.archTrunc", "internal/abi.NoEscape", "internal/bytealg.MakeNoZero"], unfollowed := true, recurses := true, named := ["kilovar/code.powers", "internal/strconv.uint64pow10", "math/bits.deBruijn32tab", "math/bits.deBruijn64tab"], apart := false, laid := [("math/bits.deBruijn32tab", laid_math_bits_deBruijn32tab), ("math/bits.deBruijn64tab", laid_math_bits_deBruijn64tab), ("internal/strconv.uint64pow10", laid_internal_strconv_uint64pow10), ("kilovar/code.powers", laid_kilovar_code_powers)] }
def CodeVotesSaid : Prop := codeVotesRow.holds Tryz.pinned (OpenSpec.ofChange codeVotesSpec)

/-- ITS FALSE NEIGHBOUR: 'it returns false'. Refute it at one input. -/
def codeVotesWrong : ChangeSpec := { name := "codeVotes", fn := fun _ => fun
  | [d1, d2, d3] => { results := [.lit (.bool false)], args := [d1, d2, d3] }
  | _ => none }
def CodeVotesWrongFalsely : Prop := codeVotesRow.holds Tryz.pinned (OpenSpec.ofChange codeVotesWrong)

/-- 'kilovarlaw03.CodeLinear': WHATEVER THE INPUT: true; the input reads as it did. -/
def codeLinearSpec : ChangeSpec := { name := "codeLinear", fn := fun _ => fun
  | [d1, d2, d3] => { results := [.lit (.bool true)], args := [d1, d2, d3] }
  | _ => none }
def codeLinearRow : OpenClaim := { program := "ytdelimpnnpifpaagreatdoor", sum := "86e97b78e95c08ba46b33f5c6e120fdfed6b10d0fce7e3aa2357ba640e059dc8", func := "kilovar/kilovarlaw03.CodeLinear", spec := "codeLinear", inPlace := ["math.Float64bits", "math.Float64frombits", "math.archFloor", "math.archTrunc", "internal/abi.NoEscape", "internal/bytealg.MakeNoZero"], unfollowed := true, recurses := true, named := ["kilovar/code.powers", "internal/strconv.uint64pow10", "math/bits.deBruijn32tab", "math/bits.deBruijn64tab"], apart := false, laid := [("math/bits.deBruijn32tab", laid_math_bits_deBruijn32tab), ("math/bits.deBruijn64tab", laid_math_bits_deBruijn64tab), ("internal/strconv.uint64pow10", laid_internal_strconv_uint64pow10), ("kilovar/code.powers", laid_kilovar_code_powers)] }
def CodeLinearSaid : Prop := codeLinearRow.holds Tryz.pinned (OpenSpec.ofChange codeLinearSpec)

/-- ITS FALSE NEIGHBOUR: 'it returns false'. Refute it at one input. -/
def codeLinearWrong : ChangeSpec := { name := "codeLinear", fn := fun _ => fun
  | [d1, d2, d3] => { results := [.lit (.bool false)], args := [d1, d2, d3] }
  | _ => none }
def CodeLinearWrongFalsely : Prop := codeLinearRow.holds Tryz.pinned (OpenSpec.ofChange codeLinearWrong)

/-- 'kilovarlaw03.CodeUndoes': WHATEVER THE INPUT: true; the input reads as it did. -/
def codeUndoesSpec : ChangeSpec := { name := "codeUndoes", fn := fun _ => fun
  | [d1, d2, d3] => { results := [.lit (.bool true)], args := [d1, d2, d3] }
  | _ => none }
def codeUndoesRow : OpenClaim := { program := "ytdelimpnnpifpaagreatdoor", sum := "86e97b78e95c08ba46b33f5c6e120fdfed6b10d0fce7e3aa2357ba640e059dc8", func := "kilovar/kilovarlaw03.CodeUndoes", spec := "codeUndoes", inPlace := ["math.Float64bits", "math.Float64frombits", "math.archFloor", "math.archTrunc", "internal/abi.NoEscape", "internal/bytealg.MakeNoZero"], unfollowed := true, recurses := true, named := ["kilovar/code.powers", "internal/strconv.uint64pow10", "math/bits.deBruijn32tab", "math/bits.deBruijn64tab"], apart := false, laid := [("math/bits.deBruijn32tab", laid_math_bits_deBruijn32tab), ("math/bits.deBruijn64tab", laid_math_bits_deBruijn64tab), ("internal/strconv.uint64pow10", laid_internal_strconv_uint64pow10), ("kilovar/code.powers", laid_kilovar_code_powers)] }
def CodeUndoesSaid : Prop := codeUndoesRow.holds Tryz.pinned (OpenSpec.ofChange codeUndoesSpec)

/-- ITS FALSE NEIGHBOUR: 'it returns false'. Refute it at one input. -/
def codeUndoesWrong : ChangeSpec := { name := "codeUndoes", fn := fun _ => fun
  | [d1, d2, d3] => { results := [.lit (.bool false)], args := [d1, d2, d3] }
  | _ => none }
def CodeUndoesWrongFalsely : Prop := codeUndoesRow.holds Tryz.pinned (OpenSpec.ofChange codeUndoesWrong)

/-- 'kilovarlaw03.CodeTrusts': WHATEVER THE INPUT: true; the input reads as it did. -/
def codeTrustsSpec : ChangeSpec := { name := "codeTrusts", fn := fun _ => fun
  | [d1, d2, d3] => { results := [.lit (.bool true)], args := [d1, d2, d3] }
  | _ => none }
def codeTrustsRow : OpenClaim := { program := "ytdelimpnnpifpaagreatdoor", sum := "86e97b78e95c08ba46b33f5c6e120fdfed6b10d0fce7e3aa2357ba640e059dc8", func := "kilovar/kilovarlaw03.CodeTrusts", spec := "codeTrusts", inPlace := ["math.Float64bits", "math.Float64frombits", "math.archFloor", "math.archTrunc", "internal/abi.NoEscape", "internal/bytealg.MakeNoZero"], unfollowed := true, recurses := true, named := ["kilovar/code.powers", "internal/strconv.uint64pow10", "math/bits.deBruijn32tab", "math/bits.deBruijn64tab"], apart := false, laid := [("math/bits.deBruijn32tab", laid_math_bits_deBruijn32tab), ("math/bits.deBruijn64tab", laid_math_bits_deBruijn64tab), ("internal/strconv.uint64pow10", laid_internal_strconv_uint64pow10), ("kilovar/code.powers", laid_kilovar_code_powers)] }
def CodeTrustsSaid : Prop := codeTrustsRow.holds Tryz.pinned (OpenSpec.ofChange codeTrustsSpec)

/-- ITS FALSE NEIGHBOUR: 'it returns false'. Refute it at one input. -/
def codeTrustsWrong : ChangeSpec := { name := "codeTrusts", fn := fun _ => fun
  | [d1, d2, d3] => { results := [.lit (.bool false)], args := [d1, d2, d3] }
  | _ => none }
def CodeTrustsWrongFalsely : Prop := codeTrustsRow.holds Tryz.pinned (OpenSpec.ofChange codeTrustsWrong)

/-- 'kilovarlaw03.CodeTexts': WHATEVER THE INPUT: true; the input reads as it did. -/
def codeTextsSpec : ChangeSpec := { name := "codeTexts", fn := fun _ => fun
  | [d1, d2, d3] => { results := [.lit (.bool true)], args := [d1, d2, d3] }
  | _ => none }
def codeTextsRow : OpenClaim := { program := "ytdelimpnnpifpaagreatdoor", sum := "86e97b78e95c08ba46b33f5c6e120fdfed6b10d0fce7e3aa2357ba640e059dc8", func := "kilovar/kilovarlaw03.CodeTexts", spec := "codeTexts", inPlace := ["math.Float64bits", "math.Float64frombits", "math.archFloor", "math.archTrunc", "internal/abi.NoEscape", "internal/bytealg.MakeNoZero", "internal/bytealg.CountString", "internal/bytealg.IndexByteString", "internal/bytealg.IndexString"], unfollowed := true, recurses := true, named := ["kilovar/code.powers", "internal/strconv.uint64pow10", "math/bits.deBruijn32tab", "math/bits.deBruijn64tab", "unicode/utf8.first", "unicode/utf8.acceptRanges", "internal/bytealg.MaxLen"], apart := false, laid := [("math/bits.deBruijn32tab", laid_math_bits_deBruijn32tab), ("math/bits.deBruijn64tab", laid_math_bits_deBruijn64tab), ("internal/strconv.uint64pow10", laid_internal_strconv_uint64pow10), ("unicode/utf8.acceptRanges", laid_unicode_utf8_acceptRanges), ("kilovar/code.powers", laid_kilovar_code_powers), ("unicode/utf8.first", laid_unicode_utf8_first)] }
def CodeTextsSaid : Prop := codeTextsRow.holds Tryz.pinned (OpenSpec.ofChange codeTextsSpec)

/-- ITS FALSE NEIGHBOUR: 'it returns false'. Refute it at one input. -/
def codeTextsWrong : ChangeSpec := { name := "codeTexts", fn := fun _ => fun
  | [d1, d2, d3] => { results := [.lit (.bool false)], args := [d1, d2, d3] }
  | _ => none }
def CodeTextsWrongFalsely : Prop := codeTextsRow.holds Tryz.pinned (OpenSpec.ofChange codeTextsWrong)

/-- 'kilovarlaw03.CodeScatters': WHATEVER THE INPUT: true; the input reads as it did. -/
def codeScattersSpec : ChangeSpec := { name := "codeScatters", fn := fun _ => fun
  | [d1, d2, d3] => { results := [.lit (.bool true)], args := [d1, d2, d3] }
  | _ => none }
def codeScattersRow : OpenClaim := { program := "ytdelimpnnpifpaagreatdoor", sum := "86e97b78e95c08ba46b33f5c6e120fdfed6b10d0fce7e3aa2357ba640e059dc8", func := "kilovar/kilovarlaw03.CodeScatters", spec := "codeScatters", inPlace := ["math.Float64bits", "math.Float64frombits", "math.archFloor", "math.archTrunc", "internal/abi.NoEscape", "internal/bytealg.MakeNoZero", "internal/bytealg.CountString", "internal/bytealg.IndexByteString", "internal/bytealg.IndexString"], unfollowed := true, recurses := true, named := ["kilovar/code.powers", "internal/strconv.uint64pow10", "math/bits.deBruijn32tab", "math/bits.deBruijn64tab", "unicode/utf8.first", "unicode/utf8.acceptRanges", "internal/bytealg.MaxLen"], apart := false, laid := [("math/bits.deBruijn32tab", laid_math_bits_deBruijn32tab), ("math/bits.deBruijn64tab", laid_math_bits_deBruijn64tab), ("internal/strconv.uint64pow10", laid_internal_strconv_uint64pow10), ("unicode/utf8.acceptRanges", laid_unicode_utf8_acceptRanges), ("kilovar/code.powers", laid_kilovar_code_powers), ("unicode/utf8.first", laid_unicode_utf8_first)] }
def CodeScattersSaid : Prop := codeScattersRow.holds Tryz.pinned (OpenSpec.ofChange codeScattersSpec)

/-- ITS FALSE NEIGHBOUR: 'it returns false'. Refute it at one input. -/
def codeScattersWrong : ChangeSpec := { name := "codeScatters", fn := fun _ => fun
  | [d1, d2, d3] => { results := [.lit (.bool false)], args := [d1, d2, d3] }
  | _ => none }
def CodeScattersWrongFalsely : Prop := codeScattersRow.holds Tryz.pinned (OpenSpec.ofChange codeScattersWrong)

/- THE SECOND FORM. 'bulk': how many values and letters a reading holds, each counted each time it is reached (what is shared counts as often as it is met; a slice's spare places count too). A statement '..UptoSaid' is the law's where the arguments, and the package variables that the reading takes, are together of bulk at most 1048576: NARROWER than '..Said'. Prove '..Said' where nothing that the law and all that it calls make is longer than what came in: it says more and counts as full. Else prove '..UptoSaid'. A law counts once. -/
mutual
def uptoBulk {H : Type} : DataW H → Nat
  | .lit (.string bytes) => bytes.length + 1
  | .lit _ => 1
  | .nil => 1
  | .ptr d => uptoBulk d + 1
  | .slice elems spare => uptoBulkAll elems + uptoBulkAll spare + 1
  | .agg parts => uptoBulkAll parts + 1
  | .iface _ d => uptoBulk d + 1
  | .map entries => uptoBulkEntries entries + 1
  | .held _ => 1
def uptoBulkAll {H : Type} : List (DataW H) → Nat
  | [] => 0
  | d :: r => uptoBulk d + uptoBulkAll r
def uptoBulkEntries {H : Type} : List (Lit × DataW H) → Nat
  | [] => 0
  | x :: r => uptoBulkEntry x + uptoBulkEntries r
def uptoBulkEntry {H : Type} : Lit × DataW H → Nat
  | (.string bytes, d) => bytes.length + uptoBulk d + 1
  | (_, d) => uptoBulk d + 1
 end
def uptoSmall : (H : Type) → List (DataW H) → Bool := fun _ ds => decide (uptoBulkAll ds ≤ 1048576)
def OpenSpec.upto (s : _root_.Go.ChangeSpec) : _root_.Go.OpenSpec := { _root_.Go.OpenSpec.ofChange s with cond := some uptoSmall }

/-- 'kilovarlaw03.CodeWords', WHERE WHAT IT READS IS OF BULK AT MOST 1048576: true; the input reads as it did. -/
def codeWordsUptoRow : OpenClaim := { program := "ytdelimpnnpifpaagreatdoor", sum := "86e97b78e95c08ba46b33f5c6e120fdfed6b10d0fce7e3aa2357ba640e059dc8", func := "kilovar/kilovarlaw03.CodeWords", spec := "codeWords", inPlace := ["math.Float64bits", "math.Float64frombits", "math.archFloor", "math.archTrunc", "internal/abi.NoEscape", "internal/bytealg.MakeNoZero"], unfollowed := true, recurses := true, named := ["kilovar/code.powers", "internal/strconv.uint64pow10", "math/bits.deBruijn32tab", "math/bits.deBruijn64tab"], apart := false, laid := [("math/bits.deBruijn32tab", laid_math_bits_deBruijn32tab), ("math/bits.deBruijn64tab", laid_math_bits_deBruijn64tab), ("internal/strconv.uint64pow10", laid_internal_strconv_uint64pow10), ("kilovar/code.powers", laid_kilovar_code_powers)], narrowed := true }
def CodeWordsUptoSaid : Prop := codeWordsUptoRow.holds Tryz.pinned (OpenSpec.upto codeWordsSpec)

/-- 'kilovarlaw03.CodeDecoded', WHERE WHAT IT READS IS OF BULK AT MOST 1048576: true; the input reads as it did. -/
def codeDecodedUptoRow : OpenClaim := { program := "ytdelimpnnpifpaagreatdoor", sum := "86e97b78e95c08ba46b33f5c6e120fdfed6b10d0fce7e3aa2357ba640e059dc8", func := "kilovar/kilovarlaw03.CodeDecoded", spec := "codeDecoded", inPlace := ["math.Float64bits", "math.Float64frombits", "math.archFloor", "math.archTrunc", "internal/abi.NoEscape", "internal/bytealg.MakeNoZero"], unfollowed := true, recurses := true, named := ["kilovar/code.powers", "internal/strconv.uint64pow10", "math/bits.deBruijn32tab", "math/bits.deBruijn64tab"], apart := false, laid := [("math/bits.deBruijn32tab", laid_math_bits_deBruijn32tab), ("math/bits.deBruijn64tab", laid_math_bits_deBruijn64tab), ("internal/strconv.uint64pow10", laid_internal_strconv_uint64pow10), ("kilovar/code.powers", laid_kilovar_code_powers)], narrowed := true }
def CodeDecodedUptoSaid : Prop := codeDecodedUptoRow.holds Tryz.pinned (OpenSpec.upto codeDecodedSpec)

/-- 'kilovarlaw03.CodeSoft', WHERE WHAT IT READS IS OF BULK AT MOST 1048576: true; the input reads as it did. -/
def codeSoftUptoRow : OpenClaim := { program := "ytdelimpnnpifpaagreatdoor", sum := "86e97b78e95c08ba46b33f5c6e120fdfed6b10d0fce7e3aa2357ba640e059dc8", func := "kilovar/kilovarlaw03.CodeSoft", spec := "codeSoft", inPlace := ["math.Float64bits", "math.Float64frombits", "math.archFloor", "math.archTrunc", "internal/abi.NoEscape", "internal/bytealg.MakeNoZero"], unfollowed := true, recurses := true, named := ["kilovar/code.powers", "internal/strconv.uint64pow10", "math/bits.deBruijn32tab", "math/bits.deBruijn64tab"], apart := false, laid := [("math/bits.deBruijn32tab", laid_math_bits_deBruijn32tab), ("math/bits.deBruijn64tab", laid_math_bits_deBruijn64tab), ("internal/strconv.uint64pow10", laid_internal_strconv_uint64pow10), ("kilovar/code.powers", laid_kilovar_code_powers)], narrowed := true }
def CodeSoftUptoSaid : Prop := codeSoftUptoRow.holds Tryz.pinned (OpenSpec.upto codeSoftSpec)

/-- 'kilovarlaw03.CodeSpread', WHERE WHAT IT READS IS OF BULK AT MOST 1048576: true; the input reads as it did. -/
def codeSpreadUptoRow : OpenClaim := { program := "ytdelimpnnpifpaagreatdoor", sum := "86e97b78e95c08ba46b33f5c6e120fdfed6b10d0fce7e3aa2357ba640e059dc8", func := "kilovar/kilovarlaw03.CodeSpread", spec := "codeSpread", inPlace := ["math.Float64bits", "math.Float64frombits", "math.archFloor", "math.archTrunc", "internal/abi.NoEscape", "internal/bytealg.MakeNoZero"], unfollowed := true, recurses := true, named := ["kilovar/code.powers", "internal/strconv.uint64pow10", "math/bits.deBruijn32tab", "math/bits.deBruijn64tab"], apart := false, laid := [("math/bits.deBruijn32tab", laid_math_bits_deBruijn32tab), ("math/bits.deBruijn64tab", laid_math_bits_deBruijn64tab), ("internal/strconv.uint64pow10", laid_internal_strconv_uint64pow10), ("kilovar/code.powers", laid_kilovar_code_powers)], narrowed := true }
def CodeSpreadUptoSaid : Prop := codeSpreadUptoRow.holds Tryz.pinned (OpenSpec.upto codeSpreadSpec)

/-- 'kilovarlaw03.CodeBursts', WHERE WHAT IT READS IS OF BULK AT MOST 1048576: true; the input reads as it did. -/
def codeBurstsUptoRow : OpenClaim := { program := "ytdelimpnnpifpaagreatdoor", sum := "86e97b78e95c08ba46b33f5c6e120fdfed6b10d0fce7e3aa2357ba640e059dc8", func := "kilovar/kilovarlaw03.CodeBursts", spec := "codeBursts", inPlace := ["math.Float64bits", "math.Float64frombits", "math.archFloor", "math.archTrunc", "internal/abi.NoEscape", "internal/bytealg.MakeNoZero"], unfollowed := true, recurses := true, named := ["kilovar/code.powers", "internal/strconv.uint64pow10", "math/bits.deBruijn32tab", "math/bits.deBruijn64tab"], apart := false, laid := [("math/bits.deBruijn32tab", laid_math_bits_deBruijn32tab), ("math/bits.deBruijn64tab", laid_math_bits_deBruijn64tab), ("internal/strconv.uint64pow10", laid_internal_strconv_uint64pow10), ("kilovar/code.powers", laid_kilovar_code_powers)], narrowed := true }
def CodeBurstsUptoSaid : Prop := codeBurstsUptoRow.holds Tryz.pinned (OpenSpec.upto codeBurstsSpec)

/-- 'kilovarlaw03.CodeVotes', WHERE WHAT IT READS IS OF BULK AT MOST 1048576: true; the input reads as it did. -/
def codeVotesUptoRow : OpenClaim := { program := "ytdelimpnnpifpaagreatdoor", sum := "86e97b78e95c08ba46b33f5c6e120fdfed6b10d0fce7e3aa2357ba640e059dc8", func := "kilovar/kilovarlaw03.CodeVotes", spec := "codeVotes", inPlace := ["math.Float64bits", "math.Float64frombits", "math.archFloor", "math.archTrunc", "internal/abi.NoEscape", "internal/bytealg.MakeNoZero"], unfollowed := true, recurses := true, named := ["kilovar/code.powers", "internal/strconv.uint64pow10", "math/bits.deBruijn32tab", "math/bits.deBruijn64tab"], apart := false, laid := [("math/bits.deBruijn32tab", laid_math_bits_deBruijn32tab), ("math/bits.deBruijn64tab", laid_math_bits_deBruijn64tab), ("internal/strconv.uint64pow10", laid_internal_strconv_uint64pow10), ("kilovar/code.powers", laid_kilovar_code_powers)], narrowed := true }
def CodeVotesUptoSaid : Prop := codeVotesUptoRow.holds Tryz.pinned (OpenSpec.upto codeVotesSpec)

/-- 'kilovarlaw03.CodeLinear', WHERE WHAT IT READS IS OF BULK AT MOST 1048576: true; the input reads as it did. -/
def codeLinearUptoRow : OpenClaim := { program := "ytdelimpnnpifpaagreatdoor", sum := "86e97b78e95c08ba46b33f5c6e120fdfed6b10d0fce7e3aa2357ba640e059dc8", func := "kilovar/kilovarlaw03.CodeLinear", spec := "codeLinear", inPlace := ["math.Float64bits", "math.Float64frombits", "math.archFloor", "math.archTrunc", "internal/abi.NoEscape", "internal/bytealg.MakeNoZero"], unfollowed := true, recurses := true, named := ["kilovar/code.powers", "internal/strconv.uint64pow10", "math/bits.deBruijn32tab", "math/bits.deBruijn64tab"], apart := false, laid := [("math/bits.deBruijn32tab", laid_math_bits_deBruijn32tab), ("math/bits.deBruijn64tab", laid_math_bits_deBruijn64tab), ("internal/strconv.uint64pow10", laid_internal_strconv_uint64pow10), ("kilovar/code.powers", laid_kilovar_code_powers)], narrowed := true }
def CodeLinearUptoSaid : Prop := codeLinearUptoRow.holds Tryz.pinned (OpenSpec.upto codeLinearSpec)

/-- 'kilovarlaw03.CodeUndoes', WHERE WHAT IT READS IS OF BULK AT MOST 1048576: true; the input reads as it did. -/
def codeUndoesUptoRow : OpenClaim := { program := "ytdelimpnnpifpaagreatdoor", sum := "86e97b78e95c08ba46b33f5c6e120fdfed6b10d0fce7e3aa2357ba640e059dc8", func := "kilovar/kilovarlaw03.CodeUndoes", spec := "codeUndoes", inPlace := ["math.Float64bits", "math.Float64frombits", "math.archFloor", "math.archTrunc", "internal/abi.NoEscape", "internal/bytealg.MakeNoZero"], unfollowed := true, recurses := true, named := ["kilovar/code.powers", "internal/strconv.uint64pow10", "math/bits.deBruijn32tab", "math/bits.deBruijn64tab"], apart := false, laid := [("math/bits.deBruijn32tab", laid_math_bits_deBruijn32tab), ("math/bits.deBruijn64tab", laid_math_bits_deBruijn64tab), ("internal/strconv.uint64pow10", laid_internal_strconv_uint64pow10), ("kilovar/code.powers", laid_kilovar_code_powers)], narrowed := true }
def CodeUndoesUptoSaid : Prop := codeUndoesUptoRow.holds Tryz.pinned (OpenSpec.upto codeUndoesSpec)

/-- 'kilovarlaw03.CodeTrusts', WHERE WHAT IT READS IS OF BULK AT MOST 1048576: true; the input reads as it did. -/
def codeTrustsUptoRow : OpenClaim := { program := "ytdelimpnnpifpaagreatdoor", sum := "86e97b78e95c08ba46b33f5c6e120fdfed6b10d0fce7e3aa2357ba640e059dc8", func := "kilovar/kilovarlaw03.CodeTrusts", spec := "codeTrusts", inPlace := ["math.Float64bits", "math.Float64frombits", "math.archFloor", "math.archTrunc", "internal/abi.NoEscape", "internal/bytealg.MakeNoZero"], unfollowed := true, recurses := true, named := ["kilovar/code.powers", "internal/strconv.uint64pow10", "math/bits.deBruijn32tab", "math/bits.deBruijn64tab"], apart := false, laid := [("math/bits.deBruijn32tab", laid_math_bits_deBruijn32tab), ("math/bits.deBruijn64tab", laid_math_bits_deBruijn64tab), ("internal/strconv.uint64pow10", laid_internal_strconv_uint64pow10), ("kilovar/code.powers", laid_kilovar_code_powers)], narrowed := true }
def CodeTrustsUptoSaid : Prop := codeTrustsUptoRow.holds Tryz.pinned (OpenSpec.upto codeTrustsSpec)

/-- 'kilovarlaw03.CodeTexts', WHERE WHAT IT READS IS OF BULK AT MOST 1048576: true; the input reads as it did. -/
def codeTextsUptoRow : OpenClaim := { program := "ytdelimpnnpifpaagreatdoor", sum := "86e97b78e95c08ba46b33f5c6e120fdfed6b10d0fce7e3aa2357ba640e059dc8", func := "kilovar/kilovarlaw03.CodeTexts", spec := "codeTexts", inPlace := ["math.Float64bits", "math.Float64frombits", "math.archFloor", "math.archTrunc", "internal/abi.NoEscape", "internal/bytealg.MakeNoZero", "internal/bytealg.CountString", "internal/bytealg.IndexByteString", "internal/bytealg.IndexString"], unfollowed := true, recurses := true, named := ["kilovar/code.powers", "internal/strconv.uint64pow10", "math/bits.deBruijn32tab", "math/bits.deBruijn64tab", "unicode/utf8.first", "unicode/utf8.acceptRanges", "internal/bytealg.MaxLen"], apart := false, laid := [("math/bits.deBruijn32tab", laid_math_bits_deBruijn32tab), ("math/bits.deBruijn64tab", laid_math_bits_deBruijn64tab), ("internal/strconv.uint64pow10", laid_internal_strconv_uint64pow10), ("unicode/utf8.acceptRanges", laid_unicode_utf8_acceptRanges), ("kilovar/code.powers", laid_kilovar_code_powers), ("unicode/utf8.first", laid_unicode_utf8_first)], narrowed := true }
def CodeTextsUptoSaid : Prop := codeTextsUptoRow.holds Tryz.pinned (OpenSpec.upto codeTextsSpec)

/-- 'kilovarlaw03.CodeScatters', WHERE WHAT IT READS IS OF BULK AT MOST 1048576: true; the input reads as it did. -/
def codeScattersUptoRow : OpenClaim := { program := "ytdelimpnnpifpaagreatdoor", sum := "86e97b78e95c08ba46b33f5c6e120fdfed6b10d0fce7e3aa2357ba640e059dc8", func := "kilovar/kilovarlaw03.CodeScatters", spec := "codeScatters", inPlace := ["math.Float64bits", "math.Float64frombits", "math.archFloor", "math.archTrunc", "internal/abi.NoEscape", "internal/bytealg.MakeNoZero", "internal/bytealg.CountString", "internal/bytealg.IndexByteString", "internal/bytealg.IndexString"], unfollowed := true, recurses := true, named := ["kilovar/code.powers", "internal/strconv.uint64pow10", "math/bits.deBruijn32tab", "math/bits.deBruijn64tab", "unicode/utf8.first", "unicode/utf8.acceptRanges", "internal/bytealg.MaxLen"], apart := false, laid := [("math/bits.deBruijn32tab", laid_math_bits_deBruijn32tab), ("math/bits.deBruijn64tab", laid_math_bits_deBruijn64tab), ("internal/strconv.uint64pow10", laid_internal_strconv_uint64pow10), ("unicode/utf8.acceptRanges", laid_unicode_utf8_acceptRanges), ("kilovar/code.powers", laid_kilovar_code_powers), ("unicode/utf8.first", laid_unicode_utf8_first)], narrowed := true }
def CodeScattersUptoSaid : Prop := codeScattersUptoRow.holds Tryz.pinned (OpenSpec.upto codeScattersSpec)

end Rows
end Go.Proofs.YtdelimpnnpifpaaGreatDoor
