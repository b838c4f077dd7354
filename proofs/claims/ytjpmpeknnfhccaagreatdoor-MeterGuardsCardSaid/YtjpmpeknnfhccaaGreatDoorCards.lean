/-
  DERIVED. GIVEN WITH THE SEED: THE CARDS: each row of YtjpmpeknnfhccaaGreatDoorRows.lean that lists a variable, with what it lists TIED to the program's text (the seventh form; the later family's looks); each row that meets fmt, with fmt's text TOLD by the authors' own Lean function (tested against real Go, not proved from fmt's source: count such statements apart). THE CARD IS WHAT COUNTS. Prove the row's statement (the work); the ties are given (YtjpmpeknnfhccaaGreatDoorTie.lean); close each card by the builder's one call (the guide's Derived/Test/ToyasCard.lean, 'card_holds'). Laid BY PROGRAM, IN A SANDBOX (cutbox-door.mjs). By AI agents, Wed Nov 11 2026. No macro, syntax, notation, axiom, sorry.
-/
import Derived.Test.YtjpmpeknnfhccaaGreatDoorRows
import GoSem.ClaimSeven
namespace Go.Proofs.YtjpmpeknnfhccaaGreatDoor
namespace Rows

/-- THE TIED CARD OF 'kilovarlaw06.MeterStreams'. -/
def meterStreamsCard : Claim7 := { stood := { row := meterStreamsRow, standIns := [], harness := (true, "db1809fc3c31c44669df0b24d29bd24681a5bad3b6259000b7a01fbda55a472b"), looks := false }, kinds := [], alts := [], laidByText := true, laidKinds := [.data, .data, .data, .data], laidTests := true, laidLooks := .later }
def MeterStreamsCardSaid : Prop := Claim7.holds Tryz.pinned (.plain (OpenSpec.ofChange meterStreamsSpec)) meterStreamsCard

/-- THE TIED CARD OF 'kilovarlaw06.MeterGuards'. -/
def meterGuardsCard : Claim7 := { stood := { row := meterGuardsRow, standIns := [], harness := (true, "db1809fc3c31c44669df0b24d29bd24681a5bad3b6259000b7a01fbda55a472b"), looks := false }, kinds := [], alts := [], laidByText := true, laidKinds := [.data, .data, .data, .data], laidTests := true, laidLooks := .later }
def MeterGuardsCardSaid : Prop := Claim7.holds Tryz.pinned (.plain (OpenSpec.ofChange meterGuardsSpec)) meterGuardsCard

/-- THE SECOND FORM's CARD OF 'kilovarlaw06.MeterStreams'. -/
def meterStreamsUptoCard : Claim7 := { stood := { row := meterStreamsUptoRow, standIns := [], harness := (true, "db1809fc3c31c44669df0b24d29bd24681a5bad3b6259000b7a01fbda55a472b"), looks := false }, kinds := [], alts := [], laidByText := true, laidKinds := [.data, .data, .data, .data], laidTests := true, laidLooks := .later }
def MeterStreamsUptoCardSaid : Prop := Claim7.holds Tryz.pinned (.plain (OpenSpec.upto meterStreamsSpec)) meterStreamsUptoCard

/-- THE SECOND FORM's CARD OF 'kilovarlaw06.MeterGuards'. -/
def meterGuardsUptoCard : Claim7 := { stood := { row := meterGuardsUptoRow, standIns := [], harness := (true, "db1809fc3c31c44669df0b24d29bd24681a5bad3b6259000b7a01fbda55a472b"), looks := false }, kinds := [], alts := [], laidByText := true, laidKinds := [.data, .data, .data, .data], laidTests := true, laidLooks := .later }
def MeterGuardsUptoCardSaid : Prop := Claim7.holds Tryz.pinned (.plain (OpenSpec.upto meterGuardsSpec)) meterGuardsUptoCard
end Rows
end Go.Proofs.YtjpmpeknnfhccaaGreatDoor
