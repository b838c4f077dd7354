/-
  NARROWER THAN 'FOR EVERY INPUT', by the rows' own cells (each row's printed sentence says how): ToneMains: laid · ToneGains: laid · ToneBits: laid · ToneVotes: laid · ToneSenders: laid · ToneReceivers: laid · ToneWays: laid · ToneCarried: laid · ToneAgrees: laid · ToneTones: laid · ToneMaps: laid · ToneRanks: laid.
  DERIVED. THE GIVEN ROWS OF THIS SEAT. 12 by the template 'for every input the law returns true; each argument reads behind the call as it read before'; 0 by the template 'total and deterministic' (their statements: YtfdjkfmiofgclaaGreatDoorTotals.lean).
  GIVEN WITH THE SEED: the statements are not yours to turn. If you find one false, say at which input.
  Laid BY PROGRAM, IN A SANDBOX (cutbox-rows.mjs): the forced cells as the released guide's own fill.sh prints them over the translation 43bb0dbc6df8c2b8… (all of the seat's roots in one cut). By AI agents, Wed Nov 11 2026. No macro, syntax, notation, axiom, sorry.
-/
import Derived.Test.YtfdjkfmiofgclaaGreatDoorChecked
import GoSem.Claim
import GoSem.ClaimJoined
import GoSem.ClaimMapViews
import Derived.JoinedTies
import Derived.KernelRfl
namespace Go.Proofs.YtfdjkfmiofgclaaGreatDoor
/- THE CELL 'sum', in the pinned program and in every row, IS THE sha256 OF THE DUMP (.gsa) THAT YtfdjkfmiofgclaaGreatDoorProg.lean LOADS. Nothing in Lean hashes anything: it is a label: what it is worth is what the hold of that sum in a sandbox is worth. -/
noncomputable def Tryz.pinned : Pinned := { name := "ytfdjkfmiofgclaagreatdoor", sum := "43bb0dbc6df8c2b8350d999f16b599d2b9cc5b926c7a63b4c8e705caa29d8934", checked := Tryz.checked }
namespace Rows
def none {H : Type} : Left H := { results := [], args := [] }

/- WHAT THE LISTED PACKAGE-LEVEL VARIABLES READ AS WHEN THE CALL BEGINS. Each datum BY PROGRAM (the guide's laid-datum.mjs) off the statement by which the dump's own 'gosem.cut.vars' lays the variable. In a bare row this is a premise. The card (YtfdjkfmiofgclaaGreatDoorCards.lean) ties it to the program's text. -/
def laid_math_bits_deBruijn32tab {H : Type} : DataW H := .agg [.lit (.int .u8 0), .lit (.int .u8 1), .lit (.int .u8 28), .lit (.int .u8 2), .lit (.int .u8 29), .lit (.int .u8 14), .lit (.int .u8 24), .lit (.int .u8 3), .lit (.int .u8 30), .lit (.int .u8 22), .lit (.int .u8 20), .lit (.int .u8 15), .lit (.int .u8 25), .lit (.int .u8 17), .lit (.int .u8 4), .lit (.int .u8 8), .lit (.int .u8 31), .lit (.int .u8 27), .lit (.int .u8 13), .lit (.int .u8 23), .lit (.int .u8 21), .lit (.int .u8 19), .lit (.int .u8 16), .lit (.int .u8 7), .lit (.int .u8 26), .lit (.int .u8 12), .lit (.int .u8 18), .lit (.int .u8 6), .lit (.int .u8 11), .lit (.int .u8 5), .lit (.int .u8 10), .lit (.int .u8 9)]
def laid_math_bits_deBruijn64tab {H : Type} : DataW H := .agg [.lit (.int .u8 0), .lit (.int .u8 1), .lit (.int .u8 56), .lit (.int .u8 2), .lit (.int .u8 57), .lit (.int .u8 49), .lit (.int .u8 28), .lit (.int .u8 3), .lit (.int .u8 61), .lit (.int .u8 58), .lit (.int .u8 42), .lit (.int .u8 50), .lit (.int .u8 38), .lit (.int .u8 29), .lit (.int .u8 17), .lit (.int .u8 4), .lit (.int .u8 62), .lit (.int .u8 47), .lit (.int .u8 59), .lit (.int .u8 36), .lit (.int .u8 45), .lit (.int .u8 43), .lit (.int .u8 51), .lit (.int .u8 22), .lit (.int .u8 53), .lit (.int .u8 39), .lit (.int .u8 33), .lit (.int .u8 30), .lit (.int .u8 24), .lit (.int .u8 18), .lit (.int .u8 12), .lit (.int .u8 5), .lit (.int .u8 63), .lit (.int .u8 55), .lit (.int .u8 48), .lit (.int .u8 27), .lit (.int .u8 60), .lit (.int .u8 41), .lit (.int .u8 37), .lit (.int .u8 16), .lit (.int .u8 46), .lit (.int .u8 35), .lit (.int .u8 44), .lit (.int .u8 21), .lit (.int .u8 52), .lit (.int .u8 32), .lit (.int .u8 23), .lit (.int .u8 11), .lit (.int .u8 54), .lit (.int .u8 26), .lit (.int .u8 40), .lit (.int .u8 15), .lit (.int .u8 34), .lit (.int .u8 20), .lit (.int .u8 31), .lit (.int .u8 10), .lit (.int .u8 25), .lit (.int .u8 14), .lit (.int .u8 19), .lit (.int .u8 9), .lit (.int .u8 13), .lit (.int .u8 8), .lit (.int .u8 7), .lit (.int .u8 6)]
def laid_internal_strconv_uint64pow10 {H : Type} : DataW H := .agg [.lit (.int .u64 1), .lit (.int .u64 10), .lit (.int .u64 100), .lit (.int .u64 1000), .lit (.int .u64 10000), .lit (.int .u64 100000), .lit (.int .u64 1000000), .lit (.int .u64 10000000), .lit (.int .u64 100000000), .lit (.int .u64 1000000000), .lit (.int .u64 10000000000), .lit (.int .u64 100000000000), .lit (.int .u64 1000000000000), .lit (.int .u64 10000000000000), .lit (.int .u64 100000000000000), .lit (.int .u64 1000000000000000), .lit (.int .u64 10000000000000000), .lit (.int .u64 100000000000000000), .lit (.int .u64 1000000000000000000), .lit (.int .u64 10000000000000000000)]
def laid_kilovar_tone_states {H : Type} : DataW H := .agg [.lit (.string [111, 110]), .lit (.string [111, 102, 102]), .lit (.string [109, 97, 121])]

/-- 'kilovarlaw02.ToneMains': WHATEVER THE INPUT: true; the input reads as it did. -/
def toneMainsSpec : ChangeSpec := { name := "toneMains", fn := fun _ => fun
  | [d1, d2] => { results := [.lit (.bool true)], args := [d1, d2] }
  | _ => none }
def toneMainsRow : OpenClaim := { program := "ytfdjkfmiofgclaagreatdoor", sum := "43bb0dbc6df8c2b8350d999f16b599d2b9cc5b926c7a63b4c8e705caa29d8934", func := "kilovar/kilovarlaw02.ToneMains", spec := "toneMains", inPlace := ["internal/abi.NoEscape", "internal/bytealg.MakeNoZero"], unfollowed := true, recurses := true, named := ["kilovar/tone.states", "internal/strconv.uint64pow10", "math/bits.deBruijn32tab", "math/bits.deBruijn64tab"], apart := false, laid := [("math/bits.deBruijn32tab", laid_math_bits_deBruijn32tab), ("math/bits.deBruijn64tab", laid_math_bits_deBruijn64tab), ("internal/strconv.uint64pow10", laid_internal_strconv_uint64pow10), ("kilovar/tone.states", laid_kilovar_tone_states)] }
def ToneMainsSaid : Prop := toneMainsRow.holds Tryz.pinned (OpenSpec.ofChange toneMainsSpec)

/-- ITS FALSE NEIGHBOUR: 'it returns false'. Refute it at one input. -/
def toneMainsWrong : ChangeSpec := { name := "toneMains", fn := fun _ => fun
  | [d1, d2] => { results := [.lit (.bool false)], args := [d1, d2] }
  | _ => none }
def ToneMainsWrongFalsely : Prop := toneMainsRow.holds Tryz.pinned (OpenSpec.ofChange toneMainsWrong)

/-- 'kilovarlaw02.ToneGains': WHATEVER THE INPUT: true; the input reads as it did. -/
def toneGainsSpec : ChangeSpec := { name := "toneGains", fn := fun _ => fun
  | [d1, d2] => { results := [.lit (.bool true)], args := [d1, d2] }
  | _ => none }
def toneGainsRow : OpenClaim := { program := "ytfdjkfmiofgclaagreatdoor", sum := "43bb0dbc6df8c2b8350d999f16b599d2b9cc5b926c7a63b4c8e705caa29d8934", func := "kilovar/kilovarlaw02.ToneGains", spec := "toneGains", inPlace := ["internal/abi.NoEscape", "internal/bytealg.MakeNoZero"], unfollowed := true, recurses := true, named := ["kilovar/tone.states", "internal/strconv.uint64pow10", "math/bits.deBruijn32tab", "math/bits.deBruijn64tab"], apart := false, laid := [("math/bits.deBruijn32tab", laid_math_bits_deBruijn32tab), ("math/bits.deBruijn64tab", laid_math_bits_deBruijn64tab), ("internal/strconv.uint64pow10", laid_internal_strconv_uint64pow10), ("kilovar/tone.states", laid_kilovar_tone_states)] }
def ToneGainsSaid : Prop := toneGainsRow.holds Tryz.pinned (OpenSpec.ofChange toneGainsSpec)

/-- ITS FALSE NEIGHBOUR: 'it returns false'. Refute it at one input. -/
def toneGainsWrong : ChangeSpec := { name := "toneGains", fn := fun _ => fun
  | [d1, d2] => { results := [.lit (.bool false)], args := [d1, d2] }
  | _ => none }
def ToneGainsWrongFalsely : Prop := toneGainsRow.holds Tryz.pinned (OpenSpec.ofChange toneGainsWrong)

/-- 'kilovarlaw02.ToneBits': WHATEVER THE INPUT: true; the input reads as it did. -/
def toneBitsSpec : ChangeSpec := { name := "toneBits", fn := fun _ => fun
  | [d1, d2, d3] => { results := [.lit (.bool true)], args := [d1, d2, d3] }
  | _ => none }
def toneBitsRow : OpenClaim := { program := "ytfdjkfmiofgclaagreatdoor", sum := "43bb0dbc6df8c2b8350d999f16b599d2b9cc5b926c7a63b4c8e705caa29d8934", func := "kilovar/kilovarlaw02.ToneBits", spec := "toneBits", inPlace := ["internal/abi.NoEscape", "internal/bytealg.MakeNoZero"], unfollowed := true, recurses := true, named := ["kilovar/tone.states", "internal/strconv.uint64pow10", "math/bits.deBruijn32tab", "math/bits.deBruijn64tab"], apart := false, laid := [("math/bits.deBruijn32tab", laid_math_bits_deBruijn32tab), ("math/bits.deBruijn64tab", laid_math_bits_deBruijn64tab), ("internal/strconv.uint64pow10", laid_internal_strconv_uint64pow10), ("kilovar/tone.states", laid_kilovar_tone_states)] }
def ToneBitsSaid : Prop := toneBitsRow.holds Tryz.pinned (OpenSpec.ofChange toneBitsSpec)

/-- ITS FALSE NEIGHBOUR: 'it returns false'. Refute it at one input. -/
def toneBitsWrong : ChangeSpec := { name := "toneBits", fn := fun _ => fun
  | [d1, d2, d3] => { results := [.lit (.bool false)], args := [d1, d2, d3] }
  | _ => none }
def ToneBitsWrongFalsely : Prop := toneBitsRow.holds Tryz.pinned (OpenSpec.ofChange toneBitsWrong)

/-- 'kilovarlaw02.ToneVotes': WHATEVER THE INPUT: true; the input reads as it did. -/
def toneVotesSpec : ChangeSpec := { name := "toneVotes", fn := fun _ => fun
  | [d] => { results := [.lit (.bool true)], args := [d] }
  | _ => none }
def toneVotesRow : OpenClaim := { program := "ytfdjkfmiofgclaagreatdoor", sum := "43bb0dbc6df8c2b8350d999f16b599d2b9cc5b926c7a63b4c8e705caa29d8934", func := "kilovar/kilovarlaw02.ToneVotes", spec := "toneVotes", inPlace := ["internal/abi.NoEscape", "internal/bytealg.MakeNoZero"], unfollowed := true, recurses := true, named := ["kilovar/tone.states", "internal/strconv.uint64pow10", "math/bits.deBruijn32tab", "math/bits.deBruijn64tab"], apart := false, laid := [("math/bits.deBruijn32tab", laid_math_bits_deBruijn32tab), ("math/bits.deBruijn64tab", laid_math_bits_deBruijn64tab), ("internal/strconv.uint64pow10", laid_internal_strconv_uint64pow10), ("kilovar/tone.states", laid_kilovar_tone_states)] }
def ToneVotesSaid : Prop := toneVotesRow.holds Tryz.pinned (OpenSpec.ofChange toneVotesSpec)

/-- ITS FALSE NEIGHBOUR: 'it returns false'. Refute it at one input. -/
def toneVotesWrong : ChangeSpec := { name := "toneVotes", fn := fun _ => fun
  | [d] => { results := [.lit (.bool false)], args := [d] }
  | _ => none }
def ToneVotesWrongFalsely : Prop := toneVotesRow.holds Tryz.pinned (OpenSpec.ofChange toneVotesWrong)

/-- 'kilovarlaw02.ToneSenders': WHATEVER THE INPUT: true; the input reads as it did. -/
def toneSendersSpec : ChangeSpec := { name := "toneSenders", fn := fun _ => fun
  | [d1, d2, d3] => { results := [.lit (.bool true)], args := [d1, d2, d3] }
  | _ => none }
def toneSendersRow : OpenClaim := { program := "ytfdjkfmiofgclaagreatdoor", sum := "43bb0dbc6df8c2b8350d999f16b599d2b9cc5b926c7a63b4c8e705caa29d8934", func := "kilovar/kilovarlaw02.ToneSenders", spec := "toneSenders", inPlace := ["internal/abi.NoEscape", "internal/bytealg.MakeNoZero"], unfollowed := true, recurses := true, named := ["kilovar/tone.states", "internal/strconv.uint64pow10", "math/bits.deBruijn32tab", "math/bits.deBruijn64tab"], apart := false, laid := [("math/bits.deBruijn32tab", laid_math_bits_deBruijn32tab), ("math/bits.deBruijn64tab", laid_math_bits_deBruijn64tab), ("internal/strconv.uint64pow10", laid_internal_strconv_uint64pow10), ("kilovar/tone.states", laid_kilovar_tone_states)] }
def ToneSendersSaid : Prop := toneSendersRow.holds Tryz.pinned (OpenSpec.ofChange toneSendersSpec)

/-- ITS FALSE NEIGHBOUR: 'it returns false'. Refute it at one input. -/
def toneSendersWrong : ChangeSpec := { name := "toneSenders", fn := fun _ => fun
  | [d1, d2, d3] => { results := [.lit (.bool false)], args := [d1, d2, d3] }
  | _ => none }
def ToneSendersWrongFalsely : Prop := toneSendersRow.holds Tryz.pinned (OpenSpec.ofChange toneSendersWrong)

/-- 'kilovarlaw02.ToneReceivers': WHATEVER THE INPUT: true; the input reads as it did. -/
def toneReceiversSpec : ChangeSpec := { name := "toneReceivers", fn := fun _ => fun
  | [d1, d2, d3] => { results := [.lit (.bool true)], args := [d1, d2, d3] }
  | _ => none }
def toneReceiversRow : OpenClaim := { program := "ytfdjkfmiofgclaagreatdoor", sum := "43bb0dbc6df8c2b8350d999f16b599d2b9cc5b926c7a63b4c8e705caa29d8934", func := "kilovar/kilovarlaw02.ToneReceivers", spec := "toneReceivers", inPlace := ["internal/abi.NoEscape", "internal/bytealg.MakeNoZero"], unfollowed := true, recurses := true, named := ["kilovar/tone.states", "internal/strconv.uint64pow10", "math/bits.deBruijn32tab", "math/bits.deBruijn64tab"], apart := false, laid := [("math/bits.deBruijn32tab", laid_math_bits_deBruijn32tab), ("math/bits.deBruijn64tab", laid_math_bits_deBruijn64tab), ("internal/strconv.uint64pow10", laid_internal_strconv_uint64pow10), ("kilovar/tone.states", laid_kilovar_tone_states)] }
def ToneReceiversSaid : Prop := toneReceiversRow.holds Tryz.pinned (OpenSpec.ofChange toneReceiversSpec)

/-- ITS FALSE NEIGHBOUR: 'it returns false'. Refute it at one input. -/
def toneReceiversWrong : ChangeSpec := { name := "toneReceivers", fn := fun _ => fun
  | [d1, d2, d3] => { results := [.lit (.bool false)], args := [d1, d2, d3] }
  | _ => none }
def ToneReceiversWrongFalsely : Prop := toneReceiversRow.holds Tryz.pinned (OpenSpec.ofChange toneReceiversWrong)

/-- 'kilovarlaw02.ToneWays': WHATEVER THE INPUT: true; the input reads as it did. -/
def toneWaysSpec : ChangeSpec := { name := "toneWays", fn := fun _ => fun
  | [d1, d2, d3] => { results := [.lit (.bool true)], args := [d1, d2, d3] }
  | _ => none }
def toneWaysRow : OpenClaim := { program := "ytfdjkfmiofgclaagreatdoor", sum := "43bb0dbc6df8c2b8350d999f16b599d2b9cc5b926c7a63b4c8e705caa29d8934", func := "kilovar/kilovarlaw02.ToneWays", spec := "toneWays", inPlace := ["internal/abi.NoEscape", "internal/bytealg.MakeNoZero"], unfollowed := true, recurses := true, named := ["kilovar/tone.states", "internal/strconv.uint64pow10", "math/bits.deBruijn32tab", "math/bits.deBruijn64tab"], apart := false, laid := [("math/bits.deBruijn32tab", laid_math_bits_deBruijn32tab), ("math/bits.deBruijn64tab", laid_math_bits_deBruijn64tab), ("internal/strconv.uint64pow10", laid_internal_strconv_uint64pow10), ("kilovar/tone.states", laid_kilovar_tone_states)] }
def ToneWaysSaid : Prop := toneWaysRow.holds Tryz.pinned (OpenSpec.ofChange toneWaysSpec)

/-- ITS FALSE NEIGHBOUR: 'it returns false'. Refute it at one input. -/
def toneWaysWrong : ChangeSpec := { name := "toneWays", fn := fun _ => fun
  | [d1, d2, d3] => { results := [.lit (.bool false)], args := [d1, d2, d3] }
  | _ => none }
def ToneWaysWrongFalsely : Prop := toneWaysRow.holds Tryz.pinned (OpenSpec.ofChange toneWaysWrong)

/-- 'kilovarlaw02.ToneCarried': WHATEVER THE INPUT: true; the input reads as it did. -/
def toneCarriedSpec : ChangeSpec := { name := "toneCarried", fn := fun _ => fun
  | [d1, d2, d3] => { results := [.lit (.bool true)], args := [d1, d2, d3] }
  | _ => none }
def toneCarriedRow : OpenClaim := { program := "ytfdjkfmiofgclaagreatdoor", sum := "43bb0dbc6df8c2b8350d999f16b599d2b9cc5b926c7a63b4c8e705caa29d8934", func := "kilovar/kilovarlaw02.ToneCarried", spec := "toneCarried", inPlace := ["internal/abi.NoEscape", "internal/bytealg.MakeNoZero"], unfollowed := true, recurses := true, named := ["kilovar/tone.states", "internal/strconv.uint64pow10", "math/bits.deBruijn32tab", "math/bits.deBruijn64tab"], apart := false, laid := [("math/bits.deBruijn32tab", laid_math_bits_deBruijn32tab), ("math/bits.deBruijn64tab", laid_math_bits_deBruijn64tab), ("internal/strconv.uint64pow10", laid_internal_strconv_uint64pow10), ("kilovar/tone.states", laid_kilovar_tone_states)] }
def ToneCarriedSaid : Prop := toneCarriedRow.holds Tryz.pinned (OpenSpec.ofChange toneCarriedSpec)

/-- ITS FALSE NEIGHBOUR: 'it returns false'. Refute it at one input. -/
def toneCarriedWrong : ChangeSpec := { name := "toneCarried", fn := fun _ => fun
  | [d1, d2, d3] => { results := [.lit (.bool false)], args := [d1, d2, d3] }
  | _ => none }
def ToneCarriedWrongFalsely : Prop := toneCarriedRow.holds Tryz.pinned (OpenSpec.ofChange toneCarriedWrong)

/-- 'kilovarlaw02.ToneAgrees': WHATEVER THE INPUT: true; the input reads as it did. -/
def toneAgreesSpec : ChangeSpec := { name := "toneAgrees", fn := fun _ => fun
  | [d1, d2] => { results := [.lit (.bool true)], args := [d1, d2] }
  | _ => none }
def toneAgreesRow : OpenClaim := { program := "ytfdjkfmiofgclaagreatdoor", sum := "43bb0dbc6df8c2b8350d999f16b599d2b9cc5b926c7a63b4c8e705caa29d8934", func := "kilovar/kilovarlaw02.ToneAgrees", spec := "toneAgrees", inPlace := ["internal/abi.NoEscape", "internal/bytealg.MakeNoZero"], unfollowed := true, recurses := true, named := ["kilovar/tone.states", "internal/strconv.uint64pow10", "math/bits.deBruijn32tab", "math/bits.deBruijn64tab"], apart := false, laid := [("math/bits.deBruijn32tab", laid_math_bits_deBruijn32tab), ("math/bits.deBruijn64tab", laid_math_bits_deBruijn64tab), ("internal/strconv.uint64pow10", laid_internal_strconv_uint64pow10), ("kilovar/tone.states", laid_kilovar_tone_states)] }
def ToneAgreesSaid : Prop := toneAgreesRow.holds Tryz.pinned (OpenSpec.ofChange toneAgreesSpec)

/-- ITS FALSE NEIGHBOUR: 'it returns false'. Refute it at one input. -/
def toneAgreesWrong : ChangeSpec := { name := "toneAgrees", fn := fun _ => fun
  | [d1, d2] => { results := [.lit (.bool false)], args := [d1, d2] }
  | _ => none }
def ToneAgreesWrongFalsely : Prop := toneAgreesRow.holds Tryz.pinned (OpenSpec.ofChange toneAgreesWrong)

/-- 'kilovarlaw02.ToneTones': WHATEVER THE INPUT: true; the input reads as it did. -/
def toneTonesSpec : ChangeSpec := { name := "toneTones", fn := fun _ => fun
  | [d1, d2] => { results := [.lit (.bool true)], args := [d1, d2] }
  | _ => none }
def toneTonesRow : OpenClaim := { program := "ytfdjkfmiofgclaagreatdoor", sum := "43bb0dbc6df8c2b8350d999f16b599d2b9cc5b926c7a63b4c8e705caa29d8934", func := "kilovar/kilovarlaw02.ToneTones", spec := "toneTones", inPlace := ["internal/abi.NoEscape", "internal/bytealg.MakeNoZero"], unfollowed := true, recurses := true, named := ["kilovar/tone.states", "internal/strconv.uint64pow10", "math/bits.deBruijn32tab", "math/bits.deBruijn64tab"], apart := false, laid := [("math/bits.deBruijn32tab", laid_math_bits_deBruijn32tab), ("math/bits.deBruijn64tab", laid_math_bits_deBruijn64tab), ("internal/strconv.uint64pow10", laid_internal_strconv_uint64pow10), ("kilovar/tone.states", laid_kilovar_tone_states)] }
def ToneTonesSaid : Prop := toneTonesRow.holds Tryz.pinned (OpenSpec.ofChange toneTonesSpec)

/-- ITS FALSE NEIGHBOUR: 'it returns false'. Refute it at one input. -/
def toneTonesWrong : ChangeSpec := { name := "toneTones", fn := fun _ => fun
  | [d1, d2] => { results := [.lit (.bool false)], args := [d1, d2] }
  | _ => none }
def ToneTonesWrongFalsely : Prop := toneTonesRow.holds Tryz.pinned (OpenSpec.ofChange toneTonesWrong)

/-- 'kilovarlaw02.ToneMaps': WHATEVER THE INPUT: true; the input reads as it did. -/
def toneMapsSpec : ChangeSpec := { name := "toneMaps", fn := fun _ => fun
  | [d1, d2] => { results := [.lit (.bool true)], args := [d1, d2] }
  | _ => none }
def toneMapsRow : OpenClaim := { program := "ytfdjkfmiofgclaagreatdoor", sum := "43bb0dbc6df8c2b8350d999f16b599d2b9cc5b926c7a63b4c8e705caa29d8934", func := "kilovar/kilovarlaw02.ToneMaps", spec := "toneMaps", inPlace := ["internal/abi.NoEscape", "internal/bytealg.MakeNoZero"], unfollowed := true, recurses := true, named := ["kilovar/tone.states", "internal/strconv.uint64pow10", "math/bits.deBruijn32tab", "math/bits.deBruijn64tab"], apart := false, laid := [("math/bits.deBruijn32tab", laid_math_bits_deBruijn32tab), ("math/bits.deBruijn64tab", laid_math_bits_deBruijn64tab), ("internal/strconv.uint64pow10", laid_internal_strconv_uint64pow10), ("kilovar/tone.states", laid_kilovar_tone_states)] }
def ToneMapsSaid : Prop := toneMapsRow.holds Tryz.pinned (OpenSpec.ofChange toneMapsSpec)

/-- ITS FALSE NEIGHBOUR: 'it returns false'. Refute it at one input. -/
def toneMapsWrong : ChangeSpec := { name := "toneMaps", fn := fun _ => fun
  | [d1, d2] => { results := [.lit (.bool false)], args := [d1, d2] }
  | _ => none }
def ToneMapsWrongFalsely : Prop := toneMapsRow.holds Tryz.pinned (OpenSpec.ofChange toneMapsWrong)

/-- 'kilovarlaw02.ToneRanks': WHATEVER THE INPUT: true; the input reads as it did. -/
def toneRanksSpec : ChangeSpec := { name := "toneRanks", fn := fun _ => fun
  | [d1, d2, d3] => { results := [.lit (.bool true)], args := [d1, d2, d3] }
  | _ => none }
def toneRanksRow : OpenClaim := { program := "ytfdjkfmiofgclaagreatdoor", sum := "43bb0dbc6df8c2b8350d999f16b599d2b9cc5b926c7a63b4c8e705caa29d8934", func := "kilovar/kilovarlaw02.ToneRanks", spec := "toneRanks", inPlace := ["internal/abi.NoEscape", "internal/bytealg.MakeNoZero"], unfollowed := true, recurses := true, named := ["kilovar/tone.states", "internal/strconv.uint64pow10", "math/bits.deBruijn32tab", "math/bits.deBruijn64tab"], apart := false, laid := [("math/bits.deBruijn32tab", laid_math_bits_deBruijn32tab), ("math/bits.deBruijn64tab", laid_math_bits_deBruijn64tab), ("internal/strconv.uint64pow10", laid_internal_strconv_uint64pow10), ("kilovar/tone.states", laid_kilovar_tone_states)] }
def ToneRanksSaid : Prop := toneRanksRow.holds Tryz.pinned (OpenSpec.ofChange toneRanksSpec)

/-- ITS FALSE NEIGHBOUR: 'it returns false'. Refute it at one input. -/
def toneRanksWrong : ChangeSpec := { name := "toneRanks", fn := fun _ => fun
  | [d1, d2, d3] => { results := [.lit (.bool false)], args := [d1, d2, d3] }
  | _ => none }
def ToneRanksWrongFalsely : Prop := toneRanksRow.holds Tryz.pinned (OpenSpec.ofChange toneRanksWrong)

/- THE SECOND FORM. 'bulk': how many values and letters a reading holds, each counted each time it is reached (what is shared counts as often as it is met; a slice's spare places count too). A statement '..UptoSaid' is the law's where the arguments, and the package variables that the reading takes, are together of bulk at most 1048576: NARROWER than '..Said'. Prove '..Said' where nothing that the law and all that it calls make is longer than what came in: it says more and counts as full. Else prove '..UptoSaid'. A law counts once. -/
mutual
def uptoBulk {H : Type} : DataW H → Nat
  | .lit (.string bytes) => bytes.length + 1
  | .lit _ => 1
  | .nil => 1
  | .ptr d => uptoBulk d + 1
  | .slice elems spare => uptoBulkAll elems + uptoBulkAll spare + 1
  | .agg parts => uptoBulkAll parts + 1
  | .iface _ d => uptoBulk d + 1
  | .map entries => uptoBulkEntries entries + 1
  | .held _ => 1
def uptoBulkAll {H : Type} : List (DataW H) → Nat
  | [] => 0
  | d :: r => uptoBulk d + uptoBulkAll r
def uptoBulkEntries {H : Type} : List (Lit × DataW H) → Nat
  | [] => 0
  | x :: r => uptoBulkEntry x + uptoBulkEntries r
def uptoBulkEntry {H : Type} : Lit × DataW H → Nat
  | (.string bytes, d) => bytes.length + uptoBulk d + 1
  | (_, d) => uptoBulk d + 1
 end
def uptoSmall : (H : Type) → List (DataW H) → Bool := fun _ ds => decide (uptoBulkAll ds ≤ 1048576)
def OpenSpec.upto (s : _root_.Go.ChangeSpec) : _root_.Go.OpenSpec := { _root_.Go.OpenSpec.ofChange s with cond := some uptoSmall }

/-- 'kilovarlaw02.ToneMains', WHERE WHAT IT READS IS OF BULK AT MOST 1048576: true; the input reads as it did. -/
def toneMainsUptoRow : OpenClaim := { program := "ytfdjkfmiofgclaagreatdoor", sum := "43bb0dbc6df8c2b8350d999f16b599d2b9cc5b926c7a63b4c8e705caa29d8934", func := "kilovar/kilovarlaw02.ToneMains", spec := "toneMains", inPlace := ["internal/abi.NoEscape", "internal/bytealg.MakeNoZero"], unfollowed := true, recurses := true, named := ["kilovar/tone.states", "internal/strconv.uint64pow10", "math/bits.deBruijn32tab", "math/bits.deBruijn64tab"], apart := false, laid := [("math/bits.deBruijn32tab", laid_math_bits_deBruijn32tab), ("math/bits.deBruijn64tab", laid_math_bits_deBruijn64tab), ("internal/strconv.uint64pow10", laid_internal_strconv_uint64pow10), ("kilovar/tone.states", laid_kilovar_tone_states)], narrowed := true }
def ToneMainsUptoSaid : Prop := toneMainsUptoRow.holds Tryz.pinned (OpenSpec.upto toneMainsSpec)

/-- 'kilovarlaw02.ToneGains', WHERE WHAT IT READS IS OF BULK AT MOST 1048576: true; the input reads as it did. -/
def toneGainsUptoRow : OpenClaim := { program := "ytfdjkfmiofgclaagreatdoor", sum := "43bb0dbc6df8c2b8350d999f16b599d2b9cc5b926c7a63b4c8e705caa29d8934", func := "kilovar/kilovarlaw02.ToneGains", spec := "toneGains", inPlace := ["internal/abi.NoEscape", "internal/bytealg.MakeNoZero"], unfollowed := true, recurses := true, named := ["kilovar/tone.states", "internal/strconv.uint64pow10", "math/bits.deBruijn32tab", "math/bits.deBruijn64tab"], apart := false, laid := [("math/bits.deBruijn32tab", laid_math_bits_deBruijn32tab), ("math/bits.deBruijn64tab", laid_math_bits_deBruijn64tab), ("internal/strconv.uint64pow10", laid_internal_strconv_uint64pow10), ("kilovar/tone.states", laid_kilovar_tone_states)], narrowed := true }
def ToneGainsUptoSaid : Prop := toneGainsUptoRow.holds Tryz.pinned (OpenSpec.upto toneGainsSpec)

/-- 'kilovarlaw02.ToneBits', WHERE WHAT IT READS IS OF BULK AT MOST 1048576: true; the input reads as it did. -/
def toneBitsUptoRow : OpenClaim := { program := "ytfdjkfmiofgclaagreatdoor", sum := "43bb0dbc6df8c2b8350d999f16b599d2b9cc5b926c7a63b4c8e705caa29d8934", func := "kilovar/kilovarlaw02.ToneBits", spec := "toneBits", inPlace := ["internal/abi.NoEscape", "internal/bytealg.MakeNoZero"], unfollowed := true, recurses := true, named := ["kilovar/tone.states", "internal/strconv.uint64pow10", "math/bits.deBruijn32tab", "math/bits.deBruijn64tab"], apart := false, laid := [("math/bits.deBruijn32tab", laid_math_bits_deBruijn32tab), ("math/bits.deBruijn64tab", laid_math_bits_deBruijn64tab), ("internal/strconv.uint64pow10", laid_internal_strconv_uint64pow10), ("kilovar/tone.states", laid_kilovar_tone_states)], narrowed := true }
def ToneBitsUptoSaid : Prop := toneBitsUptoRow.holds Tryz.pinned (OpenSpec.upto toneBitsSpec)

/-- 'kilovarlaw02.ToneVotes', WHERE WHAT IT READS IS OF BULK AT MOST 1048576: true; the input reads as it did. -/
def toneVotesUptoRow : OpenClaim := { program := "ytfdjkfmiofgclaagreatdoor", sum := "43bb0dbc6df8c2b8350d999f16b599d2b9cc5b926c7a63b4c8e705caa29d8934", func := "kilovar/kilovarlaw02.ToneVotes", spec := "toneVotes", inPlace := ["internal/abi.NoEscape", "internal/bytealg.MakeNoZero"], unfollowed := true, recurses := true, named := ["kilovar/tone.states", "internal/strconv.uint64pow10", "math/bits.deBruijn32tab", "math/bits.deBruijn64tab"], apart := false, laid := [("math/bits.deBruijn32tab", laid_math_bits_deBruijn32tab), ("math/bits.deBruijn64tab", laid_math_bits_deBruijn64tab), ("internal/strconv.uint64pow10", laid_internal_strconv_uint64pow10), ("kilovar/tone.states", laid_kilovar_tone_states)], narrowed := true }
def ToneVotesUptoSaid : Prop := toneVotesUptoRow.holds Tryz.pinned (OpenSpec.upto toneVotesSpec)

/-- 'kilovarlaw02.ToneSenders', WHERE WHAT IT READS IS OF BULK AT MOST 1048576: true; the input reads as it did. -/
def toneSendersUptoRow : OpenClaim := { program := "ytfdjkfmiofgclaagreatdoor", sum := "43bb0dbc6df8c2b8350d999f16b599d2b9cc5b926c7a63b4c8e705caa29d8934", func := "kilovar/kilovarlaw02.ToneSenders", spec := "toneSenders", inPlace := ["internal/abi.NoEscape", "internal/bytealg.MakeNoZero"], unfollowed := true, recurses := true, named := ["kilovar/tone.states", "internal/strconv.uint64pow10", "math/bits.deBruijn32tab", "math/bits.deBruijn64tab"], apart := false, laid := [("math/bits.deBruijn32tab", laid_math_bits_deBruijn32tab), ("math/bits.deBruijn64tab", laid_math_bits_deBruijn64tab), ("internal/strconv.uint64pow10", laid_internal_strconv_uint64pow10), ("kilovar/tone.states", laid_kilovar_tone_states)], narrowed := true }
def ToneSendersUptoSaid : Prop := toneSendersUptoRow.holds Tryz.pinned (OpenSpec.upto toneSendersSpec)

/-- 'kilovarlaw02.ToneReceivers', WHERE WHAT IT READS IS OF BULK AT MOST 1048576: true; the input reads as it did. -/
def toneReceiversUptoRow : OpenClaim := { program := "ytfdjkfmiofgclaagreatdoor", sum := "43bb0dbc6df8c2b8350d999f16b599d2b9cc5b926c7a63b4c8e705caa29d8934", func := "kilovar/kilovarlaw02.ToneReceivers", spec := "toneReceivers", inPlace := ["internal/abi.NoEscape", "internal/bytealg.MakeNoZero"], unfollowed := true, recurses := true, named := ["kilovar/tone.states", "internal/strconv.uint64pow10", "math/bits.deBruijn32tab", "math/bits.deBruijn64tab"], apart := false, laid := [("math/bits.deBruijn32tab", laid_math_bits_deBruijn32tab), ("math/bits.deBruijn64tab", laid_math_bits_deBruijn64tab), ("internal/strconv.uint64pow10", laid_internal_strconv_uint64pow10), ("kilovar/tone.states", laid_kilovar_tone_states)], narrowed := true }
def ToneReceiversUptoSaid : Prop := toneReceiversUptoRow.holds Tryz.pinned (OpenSpec.upto toneReceiversSpec)

/-- 'kilovarlaw02.ToneWays', WHERE WHAT IT READS IS OF BULK AT MOST 1048576: true; the input reads as it did. -/
def toneWaysUptoRow : OpenClaim := { program := "ytfdjkfmiofgclaagreatdoor", sum := "43bb0dbc6df8c2b8350d999f16b599d2b9cc5b926c7a63b4c8e705caa29d8934", func := "kilovar/kilovarlaw02.ToneWays", spec := "toneWays", inPlace := ["internal/abi.NoEscape", "internal/bytealg.MakeNoZero"], unfollowed := true, recurses := true, named := ["kilovar/tone.states", "internal/strconv.uint64pow10", "math/bits.deBruijn32tab", "math/bits.deBruijn64tab"], apart := false, laid := [("math/bits.deBruijn32tab", laid_math_bits_deBruijn32tab), ("math/bits.deBruijn64tab", laid_math_bits_deBruijn64tab), ("internal/strconv.uint64pow10", laid_internal_strconv_uint64pow10), ("kilovar/tone.states", laid_kilovar_tone_states)], narrowed := true }
def ToneWaysUptoSaid : Prop := toneWaysUptoRow.holds Tryz.pinned (OpenSpec.upto toneWaysSpec)

/-- 'kilovarlaw02.ToneCarried', WHERE WHAT IT READS IS OF BULK AT MOST 1048576: true; the input reads as it did. -/
def toneCarriedUptoRow : OpenClaim := { program := "ytfdjkfmiofgclaagreatdoor", sum := "43bb0dbc6df8c2b8350d999f16b599d2b9cc5b926c7a63b4c8e705caa29d8934", func := "kilovar/kilovarlaw02.ToneCarried", spec := "toneCarried", inPlace := ["internal/abi.NoEscape", "internal/bytealg.MakeNoZero"], unfollowed := true, recurses := true, named := ["kilovar/tone.states", "internal/strconv.uint64pow10", "math/bits.deBruijn32tab", "math/bits.deBruijn64tab"], apart := false, laid := [("math/bits.deBruijn32tab", laid_math_bits_deBruijn32tab), ("math/bits.deBruijn64tab", laid_math_bits_deBruijn64tab), ("internal/strconv.uint64pow10", laid_internal_strconv_uint64pow10), ("kilovar/tone.states", laid_kilovar_tone_states)], narrowed := true }
def ToneCarriedUptoSaid : Prop := toneCarriedUptoRow.holds Tryz.pinned (OpenSpec.upto toneCarriedSpec)

/-- 'kilovarlaw02.ToneAgrees', WHERE WHAT IT READS IS OF BULK AT MOST 1048576: true; the input reads as it did. -/
def toneAgreesUptoRow : OpenClaim := { program := "ytfdjkfmiofgclaagreatdoor", sum := "43bb0dbc6df8c2b8350d999f16b599d2b9cc5b926c7a63b4c8e705caa29d8934", func := "kilovar/kilovarlaw02.ToneAgrees", spec := "toneAgrees", inPlace := ["internal/abi.NoEscape", "internal/bytealg.MakeNoZero"], unfollowed := true, recurses := true, named := ["kilovar/tone.states", "internal/strconv.uint64pow10", "math/bits.deBruijn32tab", "math/bits.deBruijn64tab"], apart := false, laid := [("math/bits.deBruijn32tab", laid_math_bits_deBruijn32tab), ("math/bits.deBruijn64tab", laid_math_bits_deBruijn64tab), ("internal/strconv.uint64pow10", laid_internal_strconv_uint64pow10), ("kilovar/tone.states", laid_kilovar_tone_states)], narrowed := true }
def ToneAgreesUptoSaid : Prop := toneAgreesUptoRow.holds Tryz.pinned (OpenSpec.upto toneAgreesSpec)

/-- 'kilovarlaw02.ToneTones', WHERE WHAT IT READS IS OF BULK AT MOST 1048576: true; the input reads as it did. -/
def toneTonesUptoRow : OpenClaim := { program := "ytfdjkfmiofgclaagreatdoor", sum := "43bb0dbc6df8c2b8350d999f16b599d2b9cc5b926c7a63b4c8e705caa29d8934", func := "kilovar/kilovarlaw02.ToneTones", spec := "toneTones", inPlace := ["internal/abi.NoEscape", "internal/bytealg.MakeNoZero"], unfollowed := true, recurses := true, named := ["kilovar/tone.states", "internal/strconv.uint64pow10", "math/bits.deBruijn32tab", "math/bits.deBruijn64tab"], apart := false, laid := [("math/bits.deBruijn32tab", laid_math_bits_deBruijn32tab), ("math/bits.deBruijn64tab", laid_math_bits_deBruijn64tab), ("internal/strconv.uint64pow10", laid_internal_strconv_uint64pow10), ("kilovar/tone.states", laid_kilovar_tone_states)], narrowed := true }
def ToneTonesUptoSaid : Prop := toneTonesUptoRow.holds Tryz.pinned (OpenSpec.upto toneTonesSpec)

/-- 'kilovarlaw02.ToneMaps', WHERE WHAT IT READS IS OF BULK AT MOST 1048576: true; the input reads as it did. -/
def toneMapsUptoRow : OpenClaim := { program := "ytfdjkfmiofgclaagreatdoor", sum := "43bb0dbc6df8c2b8350d999f16b599d2b9cc5b926c7a63b4c8e705caa29d8934", func := "kilovar/kilovarlaw02.ToneMaps", spec := "toneMaps", inPlace := ["internal/abi.NoEscape", "internal/bytealg.MakeNoZero"], unfollowed := true, recurses := true, named := ["kilovar/tone.states", "internal/strconv.uint64pow10", "math/bits.deBruijn32tab", "math/bits.deBruijn64tab"], apart := false, laid := [("math/bits.deBruijn32tab", laid_math_bits_deBruijn32tab), ("math/bits.deBruijn64tab", laid_math_bits_deBruijn64tab), ("internal/strconv.uint64pow10", laid_internal_strconv_uint64pow10), ("kilovar/tone.states", laid_kilovar_tone_states)], narrowed := true }
def ToneMapsUptoSaid : Prop := toneMapsUptoRow.holds Tryz.pinned (OpenSpec.upto toneMapsSpec)

/-- 'kilovarlaw02.ToneRanks', WHERE WHAT IT READS IS OF BULK AT MOST 1048576: true; the input reads as it did. -/
def toneRanksUptoRow : OpenClaim := { program := "ytfdjkfmiofgclaagreatdoor", sum := "43bb0dbc6df8c2b8350d999f16b599d2b9cc5b926c7a63b4c8e705caa29d8934", func := "kilovar/kilovarlaw02.ToneRanks", spec := "toneRanks", inPlace := ["internal/abi.NoEscape", "internal/bytealg.MakeNoZero"], unfollowed := true, recurses := true, named := ["kilovar/tone.states", "internal/strconv.uint64pow10", "math/bits.deBruijn32tab", "math/bits.deBruijn64tab"], apart := false, laid := [("math/bits.deBruijn32tab", laid_math_bits_deBruijn32tab), ("math/bits.deBruijn64tab", laid_math_bits_deBruijn64tab), ("internal/strconv.uint64pow10", laid_internal_strconv_uint64pow10), ("kilovar/tone.states", laid_kilovar_tone_states)], narrowed := true }
def ToneRanksUptoSaid : Prop := toneRanksUptoRow.holds Tryz.pinned (OpenSpec.upto toneRanksSpec)

end Rows
end Go.Proofs.YtfdjkfmiofgclaaGreatDoor
