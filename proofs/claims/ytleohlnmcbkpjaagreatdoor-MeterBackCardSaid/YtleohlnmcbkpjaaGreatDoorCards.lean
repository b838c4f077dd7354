/-
  DERIVED. GIVEN WITH THE SEED: THE CARDS: each row of YtleohlnmcbkpjaaGreatDoorRows.lean that lists a variable, with what it lists TIED to the program's text (the seventh form; the later family's looks); each row that meets fmt, with fmt's text TOLD by the authors' own Lean function (tested against real Go, not proved from fmt's source: count such statements apart). THE CARD IS WHAT COUNTS. Prove the row's statement (the work); the ties are given (YtleohlnmcbkpjaaGreatDoorTie.lean); close each card by the builder's one call (the guide's Derived/Test/ToyasCard.lean, 'card_holds'). Laid BY PROGRAM, IN A SANDBOX (cutbox-door.mjs). By AI agents, Wed Nov 11 2026. No macro, syntax, notation, axiom, sorry.
-/
import Derived.Test.YtleohlnmcbkpjaaGreatDoorRows
import GoSem.ClaimSeven
namespace Go.Proofs.YtleohlnmcbkpjaaGreatDoor
namespace Rows

/-- THE TIED CARD OF 'kilovarlaw06.MeterTexts'. -/
def meterTextsCard : Claim7 := { stood := { row := meterTextsRow, standIns := [], harness := (true, "fe9a96a885781712bc32319ee0c68d68192835eefbe2198b61b528cb291b3392"), looks := false }, kinds := [], alts := [], laidByText := true, laidKinds := [.data, .data, .data, .data, .data, .pinned], laidTests := true, laidLooks := .later }
def MeterTextsCardSaid : Prop := Claim7.holds Tryz.pinned (.plain (OpenSpec.ofChange meterTextsSpec)) meterTextsCard

/-- THE TIED CARD OF 'kilovarlaw06.MeterBack'. -/
def meterBackCard : Claim7 := { stood := { row := meterBackRow, standIns := [], harness := (true, "fe9a96a885781712bc32319ee0c68d68192835eefbe2198b61b528cb291b3392"), looks := false }, kinds := [], alts := [], laidByText := true, laidKinds := [.data, .data, .data, .data, .data, .pinned], laidTests := true, laidLooks := .later }
def MeterBackCardSaid : Prop := Claim7.holds Tryz.pinned (.plain (OpenSpec.ofChange meterBackSpec)) meterBackCard

/-- THE SECOND FORM's CARD OF 'kilovarlaw06.MeterTexts'. -/
def meterTextsUptoCard : Claim7 := { stood := { row := meterTextsUptoRow, standIns := [], harness := (true, "fe9a96a885781712bc32319ee0c68d68192835eefbe2198b61b528cb291b3392"), looks := false }, kinds := [], alts := [], laidByText := true, laidKinds := [.data, .data, .data, .data, .data, .pinned], laidTests := true, laidLooks := .later }
def MeterTextsUptoCardSaid : Prop := Claim7.holds Tryz.pinned (.plain (OpenSpec.upto meterTextsSpec)) meterTextsUptoCard

/-- THE SECOND FORM's CARD OF 'kilovarlaw06.MeterBack'. -/
def meterBackUptoCard : Claim7 := { stood := { row := meterBackUptoRow, standIns := [], harness := (true, "fe9a96a885781712bc32319ee0c68d68192835eefbe2198b61b528cb291b3392"), looks := false }, kinds := [], alts := [], laidByText := true, laidKinds := [.data, .data, .data, .data, .data, .pinned], laidTests := true, laidLooks := .later }
def MeterBackUptoCardSaid : Prop := Claim7.holds Tryz.pinned (.plain (OpenSpec.upto meterBackSpec)) meterBackUptoCard
end Rows
end Go.Proofs.YtleohlnmcbkpjaaGreatDoor
