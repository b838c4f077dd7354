/-
  DERIVED. GIVEN WITH THE SEED: THE CARDS: each row of YtfdjkfmiofgclaaGreatDoorRows.lean that lists a variable, with what it lists TIED to the program's text (the seventh form; the later family's looks); each row that meets fmt, with fmt's text TOLD by the authors' own Lean function (tested against real Go, not proved from fmt's source: count such statements apart). THE CARD IS WHAT COUNTS. Prove the row's statement (the work); the ties are given (YtfdjkfmiofgclaaGreatDoorTie.lean); close each card by the builder's one call (the guide's Derived/Test/ToyasCard.lean, 'card_holds'). Laid BY PROGRAM, IN A SANDBOX (cutbox-door.mjs). By AI agents, Wed Nov 11 2026. No macro, syntax, notation, axiom, sorry.
-/
import Derived.Test.YtfdjkfmiofgclaaGreatDoorRows
import GoSem.ClaimSeven
namespace Go.Proofs.YtfdjkfmiofgclaaGreatDoor
namespace Rows

/-- THE TIED CARD OF 'kilovarlaw02.ToneMains'. -/
def toneMainsCard : Claim7 := { stood := { row := toneMainsRow, standIns := [], harness := (true, "b82ba2e0634b42eb894f8c9dea2ed033dcd5bbe400e611f6788ab46e155db3ef"), looks := false }, kinds := [], alts := [], laidByText := true, laidKinds := [.data, .data, .data, .widerDeep], laidTests := true, laidLooks := .later }
def ToneMainsCardSaid : Prop := Claim7.holds Tryz.pinned (.plain (OpenSpec.ofChange toneMainsSpec)) toneMainsCard

/-- THE TIED CARD OF 'kilovarlaw02.ToneGains'. -/
def toneGainsCard : Claim7 := { stood := { row := toneGainsRow, standIns := [], harness := (true, "b82ba2e0634b42eb894f8c9dea2ed033dcd5bbe400e611f6788ab46e155db3ef"), looks := false }, kinds := [], alts := [], laidByText := true, laidKinds := [.data, .data, .data, .widerDeep], laidTests := true, laidLooks := .later }
def ToneGainsCardSaid : Prop := Claim7.holds Tryz.pinned (.plain (OpenSpec.ofChange toneGainsSpec)) toneGainsCard

/-- THE TIED CARD OF 'kilovarlaw02.ToneBits'. -/
def toneBitsCard : Claim7 := { stood := { row := toneBitsRow, standIns := [], harness := (true, "b82ba2e0634b42eb894f8c9dea2ed033dcd5bbe400e611f6788ab46e155db3ef"), looks := false }, kinds := [], alts := [], laidByText := true, laidKinds := [.data, .data, .data, .widerDeep], laidTests := true, laidLooks := .later }
def ToneBitsCardSaid : Prop := Claim7.holds Tryz.pinned (.plain (OpenSpec.ofChange toneBitsSpec)) toneBitsCard

/-- THE TIED CARD OF 'kilovarlaw02.ToneVotes'. -/
def toneVotesCard : Claim7 := { stood := { row := toneVotesRow, standIns := [], harness := (true, "b82ba2e0634b42eb894f8c9dea2ed033dcd5bbe400e611f6788ab46e155db3ef"), looks := false }, kinds := [], alts := [], laidByText := true, laidKinds := [.data, .data, .data, .widerDeep], laidTests := true, laidLooks := .later }
def ToneVotesCardSaid : Prop := Claim7.holds Tryz.pinned (.plain (OpenSpec.ofChange toneVotesSpec)) toneVotesCard

/-- THE TIED CARD OF 'kilovarlaw02.ToneSenders'. -/
def toneSendersCard : Claim7 := { stood := { row := toneSendersRow, standIns := [], harness := (true, "b82ba2e0634b42eb894f8c9dea2ed033dcd5bbe400e611f6788ab46e155db3ef"), looks := false }, kinds := [], alts := [], laidByText := true, laidKinds := [.data, .data, .data, .widerDeep], laidTests := true, laidLooks := .later }
def ToneSendersCardSaid : Prop := Claim7.holds Tryz.pinned (.plain (OpenSpec.ofChange toneSendersSpec)) toneSendersCard

/-- THE TIED CARD OF 'kilovarlaw02.ToneReceivers'. -/
def toneReceiversCard : Claim7 := { stood := { row := toneReceiversRow, standIns := [], harness := (true, "b82ba2e0634b42eb894f8c9dea2ed033dcd5bbe400e611f6788ab46e155db3ef"), looks := false }, kinds := [], alts := [], laidByText := true, laidKinds := [.data, .data, .data, .widerDeep], laidTests := true, laidLooks := .later }
def ToneReceiversCardSaid : Prop := Claim7.holds Tryz.pinned (.plain (OpenSpec.ofChange toneReceiversSpec)) toneReceiversCard

/-- THE TIED CARD OF 'kilovarlaw02.ToneWays'. -/
def toneWaysCard : Claim7 := { stood := { row := toneWaysRow, standIns := [], harness := (true, "b82ba2e0634b42eb894f8c9dea2ed033dcd5bbe400e611f6788ab46e155db3ef"), looks := false }, kinds := [], alts := [], laidByText := true, laidKinds := [.data, .data, .data, .widerDeep], laidTests := true, laidLooks := .later }
def ToneWaysCardSaid : Prop := Claim7.holds Tryz.pinned (.plain (OpenSpec.ofChange toneWaysSpec)) toneWaysCard

/-- THE TIED CARD OF 'kilovarlaw02.ToneCarried'. -/
def toneCarriedCard : Claim7 := { stood := { row := toneCarriedRow, standIns := [], harness := (true, "b82ba2e0634b42eb894f8c9dea2ed033dcd5bbe400e611f6788ab46e155db3ef"), looks := false }, kinds := [], alts := [], laidByText := true, laidKinds := [.data, .data, .data, .widerDeep], laidTests := true, laidLooks := .later }
def ToneCarriedCardSaid : Prop := Claim7.holds Tryz.pinned (.plain (OpenSpec.ofChange toneCarriedSpec)) toneCarriedCard

/-- THE TIED CARD OF 'kilovarlaw02.ToneAgrees'. -/
def toneAgreesCard : Claim7 := { stood := { row := toneAgreesRow, standIns := [], harness := (true, "b82ba2e0634b42eb894f8c9dea2ed033dcd5bbe400e611f6788ab46e155db3ef"), looks := false }, kinds := [], alts := [], laidByText := true, laidKinds := [.data, .data, .data, .widerDeep], laidTests := true, laidLooks := .later }
def ToneAgreesCardSaid : Prop := Claim7.holds Tryz.pinned (.plain (OpenSpec.ofChange toneAgreesSpec)) toneAgreesCard

/-- THE TIED CARD OF 'kilovarlaw02.ToneTones'. -/
def toneTonesCard : Claim7 := { stood := { row := toneTonesRow, standIns := [], harness := (true, "b82ba2e0634b42eb894f8c9dea2ed033dcd5bbe400e611f6788ab46e155db3ef"), looks := false }, kinds := [], alts := [], laidByText := true, laidKinds := [.data, .data, .data, .widerDeep], laidTests := true, laidLooks := .later }
def ToneTonesCardSaid : Prop := Claim7.holds Tryz.pinned (.plain (OpenSpec.ofChange toneTonesSpec)) toneTonesCard

/-- THE TIED CARD OF 'kilovarlaw02.ToneMaps'. -/
def toneMapsCard : Claim7 := { stood := { row := toneMapsRow, standIns := [], harness := (true, "b82ba2e0634b42eb894f8c9dea2ed033dcd5bbe400e611f6788ab46e155db3ef"), looks := false }, kinds := [], alts := [], laidByText := true, laidKinds := [.data, .data, .data, .widerDeep], laidTests := true, laidLooks := .later }
def ToneMapsCardSaid : Prop := Claim7.holds Tryz.pinned (.plain (OpenSpec.ofChange toneMapsSpec)) toneMapsCard

/-- THE TIED CARD OF 'kilovarlaw02.ToneRanks'. -/
def toneRanksCard : Claim7 := { stood := { row := toneRanksRow, standIns := [], harness := (true, "b82ba2e0634b42eb894f8c9dea2ed033dcd5bbe400e611f6788ab46e155db3ef"), looks := false }, kinds := [], alts := [], laidByText := true, laidKinds := [.data, .data, .data, .widerDeep], laidTests := true, laidLooks := .later }
def ToneRanksCardSaid : Prop := Claim7.holds Tryz.pinned (.plain (OpenSpec.ofChange toneRanksSpec)) toneRanksCard

/-- THE SECOND FORM's CARD OF 'kilovarlaw02.ToneMains'. -/
def toneMainsUptoCard : Claim7 := { stood := { row := toneMainsUptoRow, standIns := [], harness := (true, "b82ba2e0634b42eb894f8c9dea2ed033dcd5bbe400e611f6788ab46e155db3ef"), looks := false }, kinds := [], alts := [], laidByText := true, laidKinds := [.data, .data, .data, .widerDeep], laidTests := true, laidLooks := .later }
def ToneMainsUptoCardSaid : Prop := Claim7.holds Tryz.pinned (.plain (OpenSpec.upto toneMainsSpec)) toneMainsUptoCard

/-- THE SECOND FORM's CARD OF 'kilovarlaw02.ToneGains'. -/
def toneGainsUptoCard : Claim7 := { stood := { row := toneGainsUptoRow, standIns := [], harness := (true, "b82ba2e0634b42eb894f8c9dea2ed033dcd5bbe400e611f6788ab46e155db3ef"), looks := false }, kinds := [], alts := [], laidByText := true, laidKinds := [.data, .data, .data, .widerDeep], laidTests := true, laidLooks := .later }
def ToneGainsUptoCardSaid : Prop := Claim7.holds Tryz.pinned (.plain (OpenSpec.upto toneGainsSpec)) toneGainsUptoCard

/-- THE SECOND FORM's CARD OF 'kilovarlaw02.ToneBits'. -/
def toneBitsUptoCard : Claim7 := { stood := { row := toneBitsUptoRow, standIns := [], harness := (true, "b82ba2e0634b42eb894f8c9dea2ed033dcd5bbe400e611f6788ab46e155db3ef"), looks := false }, kinds := [], alts := [], laidByText := true, laidKinds := [.data, .data, .data, .widerDeep], laidTests := true, laidLooks := .later }
def ToneBitsUptoCardSaid : Prop := Claim7.holds Tryz.pinned (.plain (OpenSpec.upto toneBitsSpec)) toneBitsUptoCard

/-- THE SECOND FORM's CARD OF 'kilovarlaw02.ToneVotes'. -/
def toneVotesUptoCard : Claim7 := { stood := { row := toneVotesUptoRow, standIns := [], harness := (true, "b82ba2e0634b42eb894f8c9dea2ed033dcd5bbe400e611f6788ab46e155db3ef"), looks := false }, kinds := [], alts := [], laidByText := true, laidKinds := [.data, .data, .data, .widerDeep], laidTests := true, laidLooks := .later }
def ToneVotesUptoCardSaid : Prop := Claim7.holds Tryz.pinned (.plain (OpenSpec.upto toneVotesSpec)) toneVotesUptoCard

/-- THE SECOND FORM's CARD OF 'kilovarlaw02.ToneSenders'. -/
def toneSendersUptoCard : Claim7 := { stood := { row := toneSendersUptoRow, standIns := [], harness := (true, "b82ba2e0634b42eb894f8c9dea2ed033dcd5bbe400e611f6788ab46e155db3ef"), looks := false }, kinds := [], alts := [], laidByText := true, laidKinds := [.data, .data, .data, .widerDeep], laidTests := true, laidLooks := .later }
def ToneSendersUptoCardSaid : Prop := Claim7.holds Tryz.pinned (.plain (OpenSpec.upto toneSendersSpec)) toneSendersUptoCard

/-- THE SECOND FORM's CARD OF 'kilovarlaw02.ToneReceivers'. -/
def toneReceiversUptoCard : Claim7 := { stood := { row := toneReceiversUptoRow, standIns := [], harness := (true, "b82ba2e0634b42eb894f8c9dea2ed033dcd5bbe400e611f6788ab46e155db3ef"), looks := false }, kinds := [], alts := [], laidByText := true, laidKinds := [.data, .data, .data, .widerDeep], laidTests := true, laidLooks := .later }
def ToneReceiversUptoCardSaid : Prop := Claim7.holds Tryz.pinned (.plain (OpenSpec.upto toneReceiversSpec)) toneReceiversUptoCard

/-- THE SECOND FORM's CARD OF 'kilovarlaw02.ToneWays'. -/
def toneWaysUptoCard : Claim7 := { stood := { row := toneWaysUptoRow, standIns := [], harness := (true, "b82ba2e0634b42eb894f8c9dea2ed033dcd5bbe400e611f6788ab46e155db3ef"), looks := false }, kinds := [], alts := [], laidByText := true, laidKinds := [.data, .data, .data, .widerDeep], laidTests := true, laidLooks := .later }
def ToneWaysUptoCardSaid : Prop := Claim7.holds Tryz.pinned (.plain (OpenSpec.upto toneWaysSpec)) toneWaysUptoCard

/-- THE SECOND FORM's CARD OF 'kilovarlaw02.ToneCarried'. -/
def toneCarriedUptoCard : Claim7 := { stood := { row := toneCarriedUptoRow, standIns := [], harness := (true, "b82ba2e0634b42eb894f8c9dea2ed033dcd5bbe400e611f6788ab46e155db3ef"), looks := false }, kinds := [], alts := [], laidByText := true, laidKinds := [.data, .data, .data, .widerDeep], laidTests := true, laidLooks := .later }
def ToneCarriedUptoCardSaid : Prop := Claim7.holds Tryz.pinned (.plain (OpenSpec.upto toneCarriedSpec)) toneCarriedUptoCard

/-- THE SECOND FORM's CARD OF 'kilovarlaw02.ToneAgrees'. -/
def toneAgreesUptoCard : Claim7 := { stood := { row := toneAgreesUptoRow, standIns := [], harness := (true, "b82ba2e0634b42eb894f8c9dea2ed033dcd5bbe400e611f6788ab46e155db3ef"), looks := false }, kinds := [], alts := [], laidByText := true, laidKinds := [.data, .data, .data, .widerDeep], laidTests := true, laidLooks := .later }
def ToneAgreesUptoCardSaid : Prop := Claim7.holds Tryz.pinned (.plain (OpenSpec.upto toneAgreesSpec)) toneAgreesUptoCard

/-- THE SECOND FORM's CARD OF 'kilovarlaw02.ToneTones'. -/
def toneTonesUptoCard : Claim7 := { stood := { row := toneTonesUptoRow, standIns := [], harness := (true, "b82ba2e0634b42eb894f8c9dea2ed033dcd5bbe400e611f6788ab46e155db3ef"), looks := false }, kinds := [], alts := [], laidByText := true, laidKinds := [.data, .data, .data, .widerDeep], laidTests := true, laidLooks := .later }
def ToneTonesUptoCardSaid : Prop := Claim7.holds Tryz.pinned (.plain (OpenSpec.upto toneTonesSpec)) toneTonesUptoCard

/-- THE SECOND FORM's CARD OF 'kilovarlaw02.ToneMaps'. -/
def toneMapsUptoCard : Claim7 := { stood := { row := toneMapsUptoRow, standIns := [], harness := (true, "b82ba2e0634b42eb894f8c9dea2ed033dcd5bbe400e611f6788ab46e155db3ef"), looks := false }, kinds := [], alts := [], laidByText := true, laidKinds := [.data, .data, .data, .widerDeep], laidTests := true, laidLooks := .later }
def ToneMapsUptoCardSaid : Prop := Claim7.holds Tryz.pinned (.plain (OpenSpec.upto toneMapsSpec)) toneMapsUptoCard

/-- THE SECOND FORM's CARD OF 'kilovarlaw02.ToneRanks'. -/
def toneRanksUptoCard : Claim7 := { stood := { row := toneRanksUptoRow, standIns := [], harness := (true, "b82ba2e0634b42eb894f8c9dea2ed033dcd5bbe400e611f6788ab46e155db3ef"), looks := false }, kinds := [], alts := [], laidByText := true, laidKinds := [.data, .data, .data, .widerDeep], laidTests := true, laidLooks := .later }
def ToneRanksUptoCardSaid : Prop := Claim7.holds Tryz.pinned (.plain (OpenSpec.upto toneRanksSpec)) toneRanksUptoCard
end Rows
end Go.Proofs.YtfdjkfmiofgclaaGreatDoor
