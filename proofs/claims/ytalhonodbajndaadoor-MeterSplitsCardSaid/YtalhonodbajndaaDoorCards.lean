/-
  DERIVED. GIVEN WITH THE SEED: THE CARDS: each row of YtalhonodbajndaaDoorRows.lean that lists a variable, with what it lists TIED to the program's text (the seventh form; the later family's looks); each row that meets fmt, with fmt's text TOLD by the authors' own Lean function (tested against real Go, not proved from fmt's source: count such statements apart). THE CARD IS WHAT COUNTS. Prove the row's statement (the work); the ties are given (YtalhonodbajndaaDoorTie.lean); close each card by the builder's one call (the guide's Derived/Test/ToyasCard.lean, 'card_holds'). Laid BY PROGRAM, IN A SANDBOX (cutbox-door.mjs). By AI agents, Wed Nov 11 2026. No macro, syntax, notation, axiom, sorry.
-/
import Derived.Test.YtalhonodbajndaaDoorRows
import GoSem.ClaimSeven
namespace Go.Proofs.YtalhonodbajndaaDoor
namespace Rows

/-- THE TIED CARD OF 'kilovarlaw06.MeterSplits'. -/
def meterSplitsCard : Claim7 := { stood := { row := meterSplitsRow, standIns := [], harness := (true, "ef8d55a9dd387cb5d90c0846bc97e25769b0db5184b456f779eaea31bbd13e4f"), looks := false }, kinds := [], alts := [], laidByText := true, laidKinds := [.data, .data, .data, .data], laidTests := true, laidLooks := .later }
def MeterSplitsCardSaid : Prop := Claim7.holds Tryd.pinned (.plain (OpenSpec.ofChange meterSplitsSpec)) meterSplitsCard

/-- THE TIED CARD OF 'kilovarlaw06.MeterRings'. -/
def meterRingsCard : Claim7 := { stood := { row := meterRingsRow, standIns := [], harness := (true, "ef8d55a9dd387cb5d90c0846bc97e25769b0db5184b456f779eaea31bbd13e4f"), looks := false }, kinds := [], alts := [], laidByText := true, laidKinds := [.data, .data, .data, .data], laidTests := true, laidLooks := .later }
def MeterRingsCardSaid : Prop := Claim7.holds Tryd.pinned (.plain (OpenSpec.ofChange meterRingsSpec)) meterRingsCard

/-- THE TIED CARD OF 'kilovarlaw06.MeterSlews'. -/
def meterSlewsCard : Claim7 := { stood := { row := meterSlewsRow, standIns := [], harness := (true, "ef8d55a9dd387cb5d90c0846bc97e25769b0db5184b456f779eaea31bbd13e4f"), looks := false }, kinds := [], alts := [], laidByText := true, laidKinds := [.data, .data, .data, .data], laidTests := true, laidLooks := .later }
def MeterSlewsCardSaid : Prop := Claim7.holds Tryd.pinned (.plain (OpenSpec.ofChange meterSlewsSpec)) meterSlewsCard

/-- THE SECOND FORM's CARD OF 'kilovarlaw06.MeterSplits'. -/
def meterSplitsUptoCard : Claim7 := { stood := { row := meterSplitsUptoRow, standIns := [], harness := (true, "ef8d55a9dd387cb5d90c0846bc97e25769b0db5184b456f779eaea31bbd13e4f"), looks := false }, kinds := [], alts := [], laidByText := true, laidKinds := [.data, .data, .data, .data], laidTests := true, laidLooks := .later }
def MeterSplitsUptoCardSaid : Prop := Claim7.holds Tryd.pinned (.plain (OpenSpec.upto meterSplitsSpec)) meterSplitsUptoCard

/-- THE SECOND FORM's CARD OF 'kilovarlaw06.MeterRings'. -/
def meterRingsUptoCard : Claim7 := { stood := { row := meterRingsUptoRow, standIns := [], harness := (true, "ef8d55a9dd387cb5d90c0846bc97e25769b0db5184b456f779eaea31bbd13e4f"), looks := false }, kinds := [], alts := [], laidByText := true, laidKinds := [.data, .data, .data, .data], laidTests := true, laidLooks := .later }
def MeterRingsUptoCardSaid : Prop := Claim7.holds Tryd.pinned (.plain (OpenSpec.upto meterRingsSpec)) meterRingsUptoCard

/-- THE SECOND FORM's CARD OF 'kilovarlaw06.MeterSlews'. -/
def meterSlewsUptoCard : Claim7 := { stood := { row := meterSlewsUptoRow, standIns := [], harness := (true, "ef8d55a9dd387cb5d90c0846bc97e25769b0db5184b456f779eaea31bbd13e4f"), looks := false }, kinds := [], alts := [], laidByText := true, laidKinds := [.data, .data, .data, .data], laidTests := true, laidLooks := .later }
def MeterSlewsUptoCardSaid : Prop := Claim7.holds Tryd.pinned (.plain (OpenSpec.upto meterSlewsSpec)) meterSlewsUptoCard
end Rows
end Go.Proofs.YtalhonodbajndaaDoor
