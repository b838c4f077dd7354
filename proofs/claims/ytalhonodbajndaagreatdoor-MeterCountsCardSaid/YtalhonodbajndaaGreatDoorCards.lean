/-
  DERIVED. GIVEN WITH THE SEED: THE CARDS: each row of YtalhonodbajndaaGreatDoorRows.lean that lists a variable, with what it lists TIED to the program's text (the seventh form; the later family's looks); each row that meets fmt, with fmt's text TOLD by the authors' own Lean function (tested against real Go, not proved from fmt's source: count such statements apart). THE CARD IS WHAT COUNTS. Prove the row's statement (the work); the ties are given (YtalhonodbajndaaGreatDoorTie.lean); close each card by the builder's one call (the guide's Derived/Test/ToyasCard.lean, 'card_holds'). Laid BY PROGRAM, IN A SANDBOX (cutbox-door.mjs). By AI agents, Wed Nov 11 2026. No macro, syntax, notation, axiom, sorry.
-/
import Derived.Test.YtalhonodbajndaaGreatDoorRows
import GoSem.ClaimSeven
namespace Go.Proofs.YtalhonodbajndaaGreatDoor
namespace Rows

/-- THE TIED CARD OF 'kilovarlaw06.MeterCounts'. -/
def meterCountsCard : Claim7 := { stood := { row := meterCountsRow, standIns := [], harness := (true, "f813b1902343e8bee4e51c5c05b8dce04c2e7ef6ebd5fbbed8264f4095b2aabf"), looks := false }, kinds := [], alts := [], laidByText := true, laidKinds := [.data, .data, .data, .data], laidTests := true, laidLooks := .later }
def MeterCountsCardSaid : Prop := Claim7.holds Tryz.pinned (.plain (OpenSpec.ofChange meterCountsSpec)) meterCountsCard

/-- THE TIED CARD OF 'kilovarlaw06.MeterProfiles'. -/
def meterProfilesCard : Claim7 := { stood := { row := meterProfilesRow, standIns := [], harness := (true, "f813b1902343e8bee4e51c5c05b8dce04c2e7ef6ebd5fbbed8264f4095b2aabf"), looks := false }, kinds := [], alts := [], laidByText := true, laidKinds := [.data, .data, .data, .data], laidTests := true, laidLooks := .later }
def MeterProfilesCardSaid : Prop := Claim7.holds Tryz.pinned (.plain (OpenSpec.ofChange meterProfilesSpec)) meterProfilesCard

/-- THE TIED CARD OF 'kilovarlaw06.MeterReads'. -/
def meterReadsCard : Claim7 := { stood := { row := meterReadsRow, standIns := [], harness := (true, "f813b1902343e8bee4e51c5c05b8dce04c2e7ef6ebd5fbbed8264f4095b2aabf"), looks := false }, kinds := [], alts := [], laidByText := true, laidKinds := [.data, .data, .data, .data], laidTests := true, laidLooks := .later }
def MeterReadsCardSaid : Prop := Claim7.holds Tryz.pinned (.plain (OpenSpec.ofChange meterReadsSpec)) meterReadsCard

/-- THE TIED CARD OF 'kilovarlaw06.MeterIntervals'. -/
def meterIntervalsCard : Claim7 := { stood := { row := meterIntervalsRow, standIns := [], harness := (true, "f813b1902343e8bee4e51c5c05b8dce04c2e7ef6ebd5fbbed8264f4095b2aabf"), looks := false }, kinds := [], alts := [], laidByText := true, laidKinds := [.data, .data, .data, .data], laidTests := true, laidLooks := .later }
def MeterIntervalsCardSaid : Prop := Claim7.holds Tryz.pinned (.plain (OpenSpec.ofChange meterIntervalsSpec)) meterIntervalsCard

/-- THE TIED CARD OF 'kilovarlaw06.MeterClocks'. -/
def meterClocksCard : Claim7 := { stood := { row := meterClocksRow, standIns := [], harness := (true, "f813b1902343e8bee4e51c5c05b8dce04c2e7ef6ebd5fbbed8264f4095b2aabf"), looks := false }, kinds := [], alts := [], laidByText := true, laidKinds := [.data, .data, .data, .data], laidTests := true, laidLooks := .later }
def MeterClocksCardSaid : Prop := Claim7.holds Tryz.pinned (.plain (OpenSpec.ofChange meterClocksSpec)) meterClocksCard

/-- THE TIED CARD OF 'kilovarlaw06.MeterBlocks'. -/
def meterBlocksCard : Claim7 := { stood := { row := meterBlocksRow, standIns := [], harness := (true, "f813b1902343e8bee4e51c5c05b8dce04c2e7ef6ebd5fbbed8264f4095b2aabf"), looks := false }, kinds := [], alts := [], laidByText := true, laidKinds := [.data, .data, .data, .data], laidTests := true, laidLooks := .later }
def MeterBlocksCardSaid : Prop := Claim7.holds Tryz.pinned (.plain (OpenSpec.ofChange meterBlocksSpec)) meterBlocksCard

/-- THE TIED CARD OF 'kilovarlaw06.MeterReadings'. -/
def meterReadingsCard : Claim7 := { stood := { row := meterReadingsRow, standIns := [], harness := (true, "f813b1902343e8bee4e51c5c05b8dce04c2e7ef6ebd5fbbed8264f4095b2aabf"), looks := false }, kinds := [], alts := [], laidByText := true, laidKinds := [.data, .data, .data, .data], laidTests := true, laidLooks := .later }
def MeterReadingsCardSaid : Prop := Claim7.holds Tryz.pinned (.plain (OpenSpec.ofChange meterReadingsSpec)) meterReadingsCard

/-- THE TIED CARD OF 'kilovarlaw06.MeterSeals'. -/
def meterSealsCard : Claim7 := { stood := { row := meterSealsRow, standIns := [], harness := (true, "f813b1902343e8bee4e51c5c05b8dce04c2e7ef6ebd5fbbed8264f4095b2aabf"), looks := false }, kinds := [], alts := [], laidByText := true, laidKinds := [.data, .data, .data, .data], laidTests := true, laidLooks := .later }
def MeterSealsCardSaid : Prop := Claim7.holds Tryz.pinned (.plain (OpenSpec.ofChange meterSealsSpec)) meterSealsCard

/-- THE SECOND FORM's CARD OF 'kilovarlaw06.MeterCounts'. -/
def meterCountsUptoCard : Claim7 := { stood := { row := meterCountsUptoRow, standIns := [], harness := (true, "f813b1902343e8bee4e51c5c05b8dce04c2e7ef6ebd5fbbed8264f4095b2aabf"), looks := false }, kinds := [], alts := [], laidByText := true, laidKinds := [.data, .data, .data, .data], laidTests := true, laidLooks := .later }
def MeterCountsUptoCardSaid : Prop := Claim7.holds Tryz.pinned (.plain (OpenSpec.upto meterCountsSpec)) meterCountsUptoCard

/-- THE SECOND FORM's CARD OF 'kilovarlaw06.MeterProfiles'. -/
def meterProfilesUptoCard : Claim7 := { stood := { row := meterProfilesUptoRow, standIns := [], harness := (true, "f813b1902343e8bee4e51c5c05b8dce04c2e7ef6ebd5fbbed8264f4095b2aabf"), looks := false }, kinds := [], alts := [], laidByText := true, laidKinds := [.data, .data, .data, .data], laidTests := true, laidLooks := .later }
def MeterProfilesUptoCardSaid : Prop := Claim7.holds Tryz.pinned (.plain (OpenSpec.upto meterProfilesSpec)) meterProfilesUptoCard

/-- THE SECOND FORM's CARD OF 'kilovarlaw06.MeterReads'. -/
def meterReadsUptoCard : Claim7 := { stood := { row := meterReadsUptoRow, standIns := [], harness := (true, "f813b1902343e8bee4e51c5c05b8dce04c2e7ef6ebd5fbbed8264f4095b2aabf"), looks := false }, kinds := [], alts := [], laidByText := true, laidKinds := [.data, .data, .data, .data], laidTests := true, laidLooks := .later }
def MeterReadsUptoCardSaid : Prop := Claim7.holds Tryz.pinned (.plain (OpenSpec.upto meterReadsSpec)) meterReadsUptoCard

/-- THE SECOND FORM's CARD OF 'kilovarlaw06.MeterIntervals'. -/
def meterIntervalsUptoCard : Claim7 := { stood := { row := meterIntervalsUptoRow, standIns := [], harness := (true, "f813b1902343e8bee4e51c5c05b8dce04c2e7ef6ebd5fbbed8264f4095b2aabf"), looks := false }, kinds := [], alts := [], laidByText := true, laidKinds := [.data, .data, .data, .data], laidTests := true, laidLooks := .later }
def MeterIntervalsUptoCardSaid : Prop := Claim7.holds Tryz.pinned (.plain (OpenSpec.upto meterIntervalsSpec)) meterIntervalsUptoCard

/-- THE SECOND FORM's CARD OF 'kilovarlaw06.MeterClocks'. -/
def meterClocksUptoCard : Claim7 := { stood := { row := meterClocksUptoRow, standIns := [], harness := (true, "f813b1902343e8bee4e51c5c05b8dce04c2e7ef6ebd5fbbed8264f4095b2aabf"), looks := false }, kinds := [], alts := [], laidByText := true, laidKinds := [.data, .data, .data, .data], laidTests := true, laidLooks := .later }
def MeterClocksUptoCardSaid : Prop := Claim7.holds Tryz.pinned (.plain (OpenSpec.upto meterClocksSpec)) meterClocksUptoCard

/-- THE SECOND FORM's CARD OF 'kilovarlaw06.MeterBlocks'. -/
def meterBlocksUptoCard : Claim7 := { stood := { row := meterBlocksUptoRow, standIns := [], harness := (true, "f813b1902343e8bee4e51c5c05b8dce04c2e7ef6ebd5fbbed8264f4095b2aabf"), looks := false }, kinds := [], alts := [], laidByText := true, laidKinds := [.data, .data, .data, .data], laidTests := true, laidLooks := .later }
def MeterBlocksUptoCardSaid : Prop := Claim7.holds Tryz.pinned (.plain (OpenSpec.upto meterBlocksSpec)) meterBlocksUptoCard

/-- THE SECOND FORM's CARD OF 'kilovarlaw06.MeterReadings'. -/
def meterReadingsUptoCard : Claim7 := { stood := { row := meterReadingsUptoRow, standIns := [], harness := (true, "f813b1902343e8bee4e51c5c05b8dce04c2e7ef6ebd5fbbed8264f4095b2aabf"), looks := false }, kinds := [], alts := [], laidByText := true, laidKinds := [.data, .data, .data, .data], laidTests := true, laidLooks := .later }
def MeterReadingsUptoCardSaid : Prop := Claim7.holds Tryz.pinned (.plain (OpenSpec.upto meterReadingsSpec)) meterReadingsUptoCard

/-- THE SECOND FORM's CARD OF 'kilovarlaw06.MeterSeals'. -/
def meterSealsUptoCard : Claim7 := { stood := { row := meterSealsUptoRow, standIns := [], harness := (true, "f813b1902343e8bee4e51c5c05b8dce04c2e7ef6ebd5fbbed8264f4095b2aabf"), looks := false }, kinds := [], alts := [], laidByText := true, laidKinds := [.data, .data, .data, .data], laidTests := true, laidLooks := .later }
def MeterSealsUptoCardSaid : Prop := Claim7.holds Tryz.pinned (.plain (OpenSpec.upto meterSealsSpec)) meterSealsUptoCard
end Rows
end Go.Proofs.YtalhonodbajndaaGreatDoor
