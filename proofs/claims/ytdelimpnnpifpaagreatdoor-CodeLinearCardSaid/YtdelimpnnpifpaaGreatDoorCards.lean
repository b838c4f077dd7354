/-
  DERIVED. GIVEN WITH THE SEED: THE CARDS: each row of YtdelimpnnpifpaaGreatDoorRows.lean that lists a variable, with what it lists TIED to the program's text (the seventh form; the later family's looks); each row that meets fmt, with fmt's text TOLD by the authors' own Lean function (tested against real Go, not proved from fmt's source: count such statements apart). THE CARD IS WHAT COUNTS. Prove the row's statement (the work); the ties are given (YtdelimpnnpifpaaGreatDoorTie.lean); close each card by the builder's one call (the guide's Derived/Test/ToyasCard.lean, 'card_holds'). Laid BY PROGRAM, IN A SANDBOX (cutbox-door.mjs). By AI agents, Wed Nov 11 2026. No macro, syntax, notation, axiom, sorry.
-/
import Derived.Test.YtdelimpnnpifpaaGreatDoorRows
import GoSem.ClaimSeven
namespace Go.Proofs.YtdelimpnnpifpaaGreatDoor
namespace Rows

/-- THE TIED CARD OF 'kilovarlaw03.CodeWords'. -/
def codeWordsCard : Claim7 := { stood := { row := codeWordsRow, standIns := [], harness := (true, "7ea06ffd6ddb7799912c3dbbb101e36cc1e3fcf0ee32eb8dda875d72666d5391"), looks := false }, kinds := [], alts := [], laidByText := true, laidKinds := [.data, .data, .data, .widerDeep], laidTests := true, laidLooks := .later }
def CodeWordsCardSaid : Prop := Claim7.holds Tryz.pinned (.plain (OpenSpec.ofChange codeWordsSpec)) codeWordsCard

/-- THE TIED CARD OF 'kilovarlaw03.CodeDecoded'. -/
def codeDecodedCard : Claim7 := { stood := { row := codeDecodedRow, standIns := [], harness := (true, "7ea06ffd6ddb7799912c3dbbb101e36cc1e3fcf0ee32eb8dda875d72666d5391"), looks := false }, kinds := [], alts := [], laidByText := true, laidKinds := [.data, .data, .data, .widerDeep], laidTests := true, laidLooks := .later }
def CodeDecodedCardSaid : Prop := Claim7.holds Tryz.pinned (.plain (OpenSpec.ofChange codeDecodedSpec)) codeDecodedCard

/-- THE TIED CARD OF 'kilovarlaw03.CodeSoft'. -/
def codeSoftCard : Claim7 := { stood := { row := codeSoftRow, standIns := [], harness := (true, "7ea06ffd6ddb7799912c3dbbb101e36cc1e3fcf0ee32eb8dda875d72666d5391"), looks := false }, kinds := [], alts := [], laidByText := true, laidKinds := [.data, .data, .data, .widerDeep], laidTests := true, laidLooks := .later }
def CodeSoftCardSaid : Prop := Claim7.holds Tryz.pinned (.plain (OpenSpec.ofChange codeSoftSpec)) codeSoftCard

/-- THE TIED CARD OF 'kilovarlaw03.CodeSpread'. -/
def codeSpreadCard : Claim7 := { stood := { row := codeSpreadRow, standIns := [], harness := (true, "7ea06ffd6ddb7799912c3dbbb101e36cc1e3fcf0ee32eb8dda875d72666d5391"), looks := false }, kinds := [], alts := [], laidByText := true, laidKinds := [.data, .data, .data, .widerDeep], laidTests := true, laidLooks := .later }
def CodeSpreadCardSaid : Prop := Claim7.holds Tryz.pinned (.plain (OpenSpec.ofChange codeSpreadSpec)) codeSpreadCard

/-- THE TIED CARD OF 'kilovarlaw03.CodeBursts'. -/
def codeBurstsCard : Claim7 := { stood := { row := codeBurstsRow, standIns := [], harness := (true, "7ea06ffd6ddb7799912c3dbbb101e36cc1e3fcf0ee32eb8dda875d72666d5391"), looks := false }, kinds := [], alts := [], laidByText := true, laidKinds := [.data, .data, .data, .widerDeep], laidTests := true, laidLooks := .later }
def CodeBurstsCardSaid : Prop := Claim7.holds Tryz.pinned (.plain (OpenSpec.ofChange codeBurstsSpec)) codeBurstsCard

/-- THE TIED CARD OF 'kilovarlaw03.CodeVotes'. -/
def codeVotesCard : Claim7 := { stood := { row := codeVotesRow, standIns := [], harness := (true, "7ea06ffd6ddb7799912c3dbbb101e36cc1e3fcf0ee32eb8dda875d72666d5391"), looks := false }, kinds := [], alts := [], laidByText := true, laidKinds := [.data, .data, .data, .widerDeep], laidTests := true, laidLooks := .later }
def CodeVotesCardSaid : Prop := Claim7.holds Tryz.pinned (.plain (OpenSpec.ofChange codeVotesSpec)) codeVotesCard

/-- THE TIED CARD OF 'kilovarlaw03.CodeLinear'. -/
def codeLinearCard : Claim7 := { stood := { row := codeLinearRow, standIns := [], harness := (true, "7ea06ffd6ddb7799912c3dbbb101e36cc1e3fcf0ee32eb8dda875d72666d5391"), looks := false }, kinds := [], alts := [], laidByText := true, laidKinds := [.data, .data, .data, .widerDeep], laidTests := true, laidLooks := .later }
def CodeLinearCardSaid : Prop := Claim7.holds Tryz.pinned (.plain (OpenSpec.ofChange codeLinearSpec)) codeLinearCard

/-- THE TIED CARD OF 'kilovarlaw03.CodeUndoes'. -/
def codeUndoesCard : Claim7 := { stood := { row := codeUndoesRow, standIns := [], harness := (true, "7ea06ffd6ddb7799912c3dbbb101e36cc1e3fcf0ee32eb8dda875d72666d5391"), looks := false }, kinds := [], alts := [], laidByText := true, laidKinds := [.data, .data, .data, .widerDeep], laidTests := true, laidLooks := .later }
def CodeUndoesCardSaid : Prop := Claim7.holds Tryz.pinned (.plain (OpenSpec.ofChange codeUndoesSpec)) codeUndoesCard

/-- THE TIED CARD OF 'kilovarlaw03.CodeTrusts'. -/
def codeTrustsCard : Claim7 := { stood := { row := codeTrustsRow, standIns := [], harness := (true, "7ea06ffd6ddb7799912c3dbbb101e36cc1e3fcf0ee32eb8dda875d72666d5391"), looks := false }, kinds := [], alts := [], laidByText := true, laidKinds := [.data, .data, .data, .widerDeep], laidTests := true, laidLooks := .later }
def CodeTrustsCardSaid : Prop := Claim7.holds Tryz.pinned (.plain (OpenSpec.ofChange codeTrustsSpec)) codeTrustsCard

/-- THE TIED CARD OF 'kilovarlaw03.CodeTexts'. -/
def codeTextsCard : Claim7 := { stood := { row := codeTextsRow, standIns := [], harness := (true, "7ea06ffd6ddb7799912c3dbbb101e36cc1e3fcf0ee32eb8dda875d72666d5391"), looks := false }, kinds := [], alts := [], laidByText := true, laidKinds := [.data, .data, .data, .data, .widerDeep, .pinned], laidTests := true, laidLooks := .later }
def CodeTextsCardSaid : Prop := Claim7.holds Tryz.pinned (.plain (OpenSpec.ofChange codeTextsSpec)) codeTextsCard

/-- THE TIED CARD OF 'kilovarlaw03.CodeScatters'. -/
def codeScattersCard : Claim7 := { stood := { row := codeScattersRow, standIns := [], harness := (true, "7ea06ffd6ddb7799912c3dbbb101e36cc1e3fcf0ee32eb8dda875d72666d5391"), looks := false }, kinds := [], alts := [], laidByText := true, laidKinds := [.data, .data, .data, .data, .widerDeep, .pinned], laidTests := true, laidLooks := .later }
def CodeScattersCardSaid : Prop := Claim7.holds Tryz.pinned (.plain (OpenSpec.ofChange codeScattersSpec)) codeScattersCard

/-- THE SECOND FORM's CARD OF 'kilovarlaw03.CodeWords'. -/
def codeWordsUptoCard : Claim7 := { stood := { row := codeWordsUptoRow, standIns := [], harness := (true, "7ea06ffd6ddb7799912c3dbbb101e36cc1e3fcf0ee32eb8dda875d72666d5391"), looks := false }, kinds := [], alts := [], laidByText := true, laidKinds := [.data, .data, .data, .widerDeep], laidTests := true, laidLooks := .later }
def CodeWordsUptoCardSaid : Prop := Claim7.holds Tryz.pinned (.plain (OpenSpec.upto codeWordsSpec)) codeWordsUptoCard

/-- THE SECOND FORM's CARD OF 'kilovarlaw03.CodeDecoded'. -/
def codeDecodedUptoCard : Claim7 := { stood := { row := codeDecodedUptoRow, standIns := [], harness := (true, "7ea06ffd6ddb7799912c3dbbb101e36cc1e3fcf0ee32eb8dda875d72666d5391"), looks := false }, kinds := [], alts := [], laidByText := true, laidKinds := [.data, .data, .data, .widerDeep], laidTests := true, laidLooks := .later }
def CodeDecodedUptoCardSaid : Prop := Claim7.holds Tryz.pinned (.plain (OpenSpec.upto codeDecodedSpec)) codeDecodedUptoCard

/-- THE SECOND FORM's CARD OF 'kilovarlaw03.CodeSoft'. -/
def codeSoftUptoCard : Claim7 := { stood := { row := codeSoftUptoRow, standIns := [], harness := (true, "7ea06ffd6ddb7799912c3dbbb101e36cc1e3fcf0ee32eb8dda875d72666d5391"), looks := false }, kinds := [], alts := [], laidByText := true, laidKinds := [.data, .data, .data, .widerDeep], laidTests := true, laidLooks := .later }
def CodeSoftUptoCardSaid : Prop := Claim7.holds Tryz.pinned (.plain (OpenSpec.upto codeSoftSpec)) codeSoftUptoCard

/-- THE SECOND FORM's CARD OF 'kilovarlaw03.CodeSpread'. -/
def codeSpreadUptoCard : Claim7 := { stood := { row := codeSpreadUptoRow, standIns := [], harness := (true, "7ea06ffd6ddb7799912c3dbbb101e36cc1e3fcf0ee32eb8dda875d72666d5391"), looks := false }, kinds := [], alts := [], laidByText := true, laidKinds := [.data, .data, .data, .widerDeep], laidTests := true, laidLooks := .later }
def CodeSpreadUptoCardSaid : Prop := Claim7.holds Tryz.pinned (.plain (OpenSpec.upto codeSpreadSpec)) codeSpreadUptoCard

/-- THE SECOND FORM's CARD OF 'kilovarlaw03.CodeBursts'. -/
def codeBurstsUptoCard : Claim7 := { stood := { row := codeBurstsUptoRow, standIns := [], harness := (true, "7ea06ffd6ddb7799912c3dbbb101e36cc1e3fcf0ee32eb8dda875d72666d5391"), looks := false }, kinds := [], alts := [], laidByText := true, laidKinds := [.data, .data, .data, .widerDeep], laidTests := true, laidLooks := .later }
def CodeBurstsUptoCardSaid : Prop := Claim7.holds Tryz.pinned (.plain (OpenSpec.upto codeBurstsSpec)) codeBurstsUptoCard

/-- THE SECOND FORM's CARD OF 'kilovarlaw03.CodeVotes'. -/
def codeVotesUptoCard : Claim7 := { stood := { row := codeVotesUptoRow, standIns := [], harness := (true, "7ea06ffd6ddb7799912c3dbbb101e36cc1e3fcf0ee32eb8dda875d72666d5391"), looks := false }, kinds := [], alts := [], laidByText := true, laidKinds := [.data, .data, .data, .widerDeep], laidTests := true, laidLooks := .later }
def CodeVotesUptoCardSaid : Prop := Claim7.holds Tryz.pinned (.plain (OpenSpec.upto codeVotesSpec)) codeVotesUptoCard

/-- THE SECOND FORM's CARD OF 'kilovarlaw03.CodeLinear'. -/
def codeLinearUptoCard : Claim7 := { stood := { row := codeLinearUptoRow, standIns := [], harness := (true, "7ea06ffd6ddb7799912c3dbbb101e36cc1e3fcf0ee32eb8dda875d72666d5391"), looks := false }, kinds := [], alts := [], laidByText := true, laidKinds := [.data, .data, .data, .widerDeep], laidTests := true, laidLooks := .later }
def CodeLinearUptoCardSaid : Prop := Claim7.holds Tryz.pinned (.plain (OpenSpec.upto codeLinearSpec)) codeLinearUptoCard

/-- THE SECOND FORM's CARD OF 'kilovarlaw03.CodeUndoes'. -/
def codeUndoesUptoCard : Claim7 := { stood := { row := codeUndoesUptoRow, standIns := [], harness := (true, "7ea06ffd6ddb7799912c3dbbb101e36cc1e3fcf0ee32eb8dda875d72666d5391"), looks := false }, kinds := [], alts := [], laidByText := true, laidKinds := [.data, .data, .data, .widerDeep], laidTests := true, laidLooks := .later }
def CodeUndoesUptoCardSaid : Prop := Claim7.holds Tryz.pinned (.plain (OpenSpec.upto codeUndoesSpec)) codeUndoesUptoCard

/-- THE SECOND FORM's CARD OF 'kilovarlaw03.CodeTrusts'. -/
def codeTrustsUptoCard : Claim7 := { stood := { row := codeTrustsUptoRow, standIns := [], harness := (true, "7ea06ffd6ddb7799912c3dbbb101e36cc1e3fcf0ee32eb8dda875d72666d5391"), looks := false }, kinds := [], alts := [], laidByText := true, laidKinds := [.data, .data, .data, .widerDeep], laidTests := true, laidLooks := .later }
def CodeTrustsUptoCardSaid : Prop := Claim7.holds Tryz.pinned (.plain (OpenSpec.upto codeTrustsSpec)) codeTrustsUptoCard

/-- THE SECOND FORM's CARD OF 'kilovarlaw03.CodeTexts'. -/
def codeTextsUptoCard : Claim7 := { stood := { row := codeTextsUptoRow, standIns := [], harness := (true, "7ea06ffd6ddb7799912c3dbbb101e36cc1e3fcf0ee32eb8dda875d72666d5391"), looks := false }, kinds := [], alts := [], laidByText := true, laidKinds := [.data, .data, .data, .data, .widerDeep, .pinned], laidTests := true, laidLooks := .later }
def CodeTextsUptoCardSaid : Prop := Claim7.holds Tryz.pinned (.plain (OpenSpec.upto codeTextsSpec)) codeTextsUptoCard

/-- THE SECOND FORM's CARD OF 'kilovarlaw03.CodeScatters'. -/
def codeScattersUptoCard : Claim7 := { stood := { row := codeScattersUptoRow, standIns := [], harness := (true, "7ea06ffd6ddb7799912c3dbbb101e36cc1e3fcf0ee32eb8dda875d72666d5391"), looks := false }, kinds := [], alts := [], laidByText := true, laidKinds := [.data, .data, .data, .data, .widerDeep, .pinned], laidTests := true, laidLooks := .later }
def CodeScattersUptoCardSaid : Prop := Claim7.holds Tryz.pinned (.plain (OpenSpec.upto codeScattersSpec)) codeScattersUptoCard
end Rows
end Go.Proofs.YtdelimpnnpifpaaGreatDoor
