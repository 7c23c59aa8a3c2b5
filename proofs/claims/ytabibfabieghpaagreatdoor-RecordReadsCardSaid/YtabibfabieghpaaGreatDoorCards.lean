/-
  DERIVED. GIVEN WITH THE SEED: THE CARDS: each row of YtabibfabieghpaaGreatDoorRows.lean that lists a variable, with what it lists TIED to the program's text (the seventh form; the later family's looks); each row that meets fmt, with fmt's text TOLD by the authors' own Lean function (tested against real Go, not proved from fmt's source: count such statements apart). THE CARD IS WHAT COUNTS. Prove the row's statement (the work); the ties are given (YtabibfabieghpaaGreatDoorTie.lean); close each card by the builder's one call (the guide's Derived/Test/ToyasCard.lean, 'card_holds'). Laid BY PROGRAM, IN A SANDBOX (cutbox-door.mjs). By AI agents, Wed Nov 11 2026. No macro, syntax, notation, axiom, sorry.
-/
import Derived.Test.YtabibfabieghpaaGreatDoorRows
import GoSem.ClaimSeven
namespace Go.Proofs.YtabibfabieghpaaGreatDoor
namespace Rows

/-- THE TIED CARD OF 'latchkeylaw14.RecordSmall'. -/
def recordSmallCard : Claim7 := { stood := { row := recordSmallRow, standIns := [], harness := (true, "02bee5e1d727832b970d737a9a608b71c181e95595b6661bbf091cccc4eb3a30"), looks := true }, kinds := [], alts := [], laidByText := true, laidKinds := [.handle], laidTests := true, laidLooks := .later }
def RecordSmallCardSaid : Prop := Claim7.holds Tryz.pinned (.plain (OpenSpec.ofChange recordSmallSpec)) recordSmallCard

/-- THE TIED CARD OF 'latchkeylaw14.RecordOrder'. -/
def recordOrderCard : Claim7 := { stood := { row := recordOrderRow, standIns := [], harness := (true, "02bee5e1d727832b970d737a9a608b71c181e95595b6661bbf091cccc4eb3a30"), looks := true }, kinds := [], alts := [], laidByText := true, laidKinds := [.handle], laidTests := true, laidLooks := .later }
def RecordOrderCardSaid : Prop := Claim7.holds Tryz.pinned (.plain (OpenSpec.ofChange recordOrderSpec)) recordOrderCard

/-- THE TIED CARD OF 'latchkeylaw14.RecordCodes'. -/
def recordCodesCard : Claim7 := { stood := { row := recordCodesRow, standIns := [], harness := (true, "02bee5e1d727832b970d737a9a608b71c181e95595b6661bbf091cccc4eb3a30"), looks := true }, kinds := [], alts := [], laidByText := true, laidKinds := [.data, .handle, .pinned], laidTests := true, laidLooks := .later }
def RecordCodesCardSaid : Prop := Claim7.holds Tryz.pinned (.plain (OpenSpec.ofChange recordCodesSpec)) recordCodesCard

/-- THE TIED CARD OF 'latchkeylaw14.RecordClients'. -/
def recordClientsCard : Claim7 := { stood := { row := recordClientsRow, standIns := [], harness := (true, "02bee5e1d727832b970d737a9a608b71c181e95595b6661bbf091cccc4eb3a30"), looks := true }, kinds := [], alts := [], laidByText := true, laidKinds := [.data, .handle, .pinned], laidTests := true, laidLooks := .later }
def RecordClientsCardSaid : Prop := Claim7.holds Tryz.pinned (.plain (OpenSpec.ofChange recordClientsSpec)) recordClientsCard

/-- THE TIED CARD OF 'latchkeylaw14.RecordFamilies'. -/
def recordFamiliesCard : Claim7 := { stood := { row := recordFamiliesRow, standIns := [], harness := (true, "02bee5e1d727832b970d737a9a608b71c181e95595b6661bbf091cccc4eb3a30"), looks := true }, kinds := [], alts := [], laidByText := true, laidKinds := [.data, .handle, .pinned], laidTests := true, laidLooks := .later }
def RecordFamiliesCardSaid : Prop := Claim7.holds Tryz.pinned (.plain (OpenSpec.ofChange recordFamiliesSpec)) recordFamiliesCard

/-- THE TIED CARD OF 'latchkeylaw14.RecordOneWay'. -/
def recordOneWayCard : Claim7 := { stood := { row := recordOneWayRow, standIns := [], harness := (true, "02bee5e1d727832b970d737a9a608b71c181e95595b6661bbf091cccc4eb3a30"), looks := true }, kinds := [], alts := [], laidByText := true, laidKinds := [.data, .handle, .pinned], laidTests := true, laidLooks := .later }
def RecordOneWayCardSaid : Prop := Claim7.holds Tryz.pinned (.plain (OpenSpec.ofChange recordOneWaySpec)) recordOneWayCard

/-- THE TIED CARD OF 'latchkeylaw14.RecordReads'. -/
def recordReadsCard : Claim7 := { stood := { row := recordReadsRow, standIns := [], harness := (true, "02bee5e1d727832b970d737a9a608b71c181e95595b6661bbf091cccc4eb3a30"), looks := true }, kinds := [], alts := [], laidByText := true, laidKinds := [.data, .handle, .pinned], laidTests := true, laidLooks := .later }
def RecordReadsCardSaid : Prop := Claim7.holds Tryz.pinned (.plain (OpenSpec.ofChange recordReadsSpec)) recordReadsCard

/-- THE SECOND FORM's CARD OF 'latchkeylaw14.RecordSmall'. -/
def recordSmallUptoCard : Claim7 := { stood := { row := recordSmallUptoRow, standIns := [], harness := (true, "02bee5e1d727832b970d737a9a608b71c181e95595b6661bbf091cccc4eb3a30"), looks := true }, kinds := [], alts := [], laidByText := true, laidKinds := [.handle], laidTests := true, laidLooks := .later }
def RecordSmallUptoCardSaid : Prop := Claim7.holds Tryz.pinned (.plain (OpenSpec.upto recordSmallSpec)) recordSmallUptoCard

/-- THE SECOND FORM's CARD OF 'latchkeylaw14.RecordOrder'. -/
def recordOrderUptoCard : Claim7 := { stood := { row := recordOrderUptoRow, standIns := [], harness := (true, "02bee5e1d727832b970d737a9a608b71c181e95595b6661bbf091cccc4eb3a30"), looks := true }, kinds := [], alts := [], laidByText := true, laidKinds := [.handle], laidTests := true, laidLooks := .later }
def RecordOrderUptoCardSaid : Prop := Claim7.holds Tryz.pinned (.plain (OpenSpec.upto recordOrderSpec)) recordOrderUptoCard

/-- THE SECOND FORM's CARD OF 'latchkeylaw14.RecordCodes'. -/
def recordCodesUptoCard : Claim7 := { stood := { row := recordCodesUptoRow, standIns := [], harness := (true, "02bee5e1d727832b970d737a9a608b71c181e95595b6661bbf091cccc4eb3a30"), looks := true }, kinds := [], alts := [], laidByText := true, laidKinds := [.data, .handle, .pinned], laidTests := true, laidLooks := .later }
def RecordCodesUptoCardSaid : Prop := Claim7.holds Tryz.pinned (.plain (OpenSpec.upto recordCodesSpec)) recordCodesUptoCard

/-- THE SECOND FORM's CARD OF 'latchkeylaw14.RecordClients'. -/
def recordClientsUptoCard : Claim7 := { stood := { row := recordClientsUptoRow, standIns := [], harness := (true, "02bee5e1d727832b970d737a9a608b71c181e95595b6661bbf091cccc4eb3a30"), looks := true }, kinds := [], alts := [], laidByText := true, laidKinds := [.data, .handle, .pinned], laidTests := true, laidLooks := .later }
def RecordClientsUptoCardSaid : Prop := Claim7.holds Tryz.pinned (.plain (OpenSpec.upto recordClientsSpec)) recordClientsUptoCard

/-- THE SECOND FORM's CARD OF 'latchkeylaw14.RecordFamilies'. -/
def recordFamiliesUptoCard : Claim7 := { stood := { row := recordFamiliesUptoRow, standIns := [], harness := (true, "02bee5e1d727832b970d737a9a608b71c181e95595b6661bbf091cccc4eb3a30"), looks := true }, kinds := [], alts := [], laidByText := true, laidKinds := [.data, .handle, .pinned], laidTests := true, laidLooks := .later }
def RecordFamiliesUptoCardSaid : Prop := Claim7.holds Tryz.pinned (.plain (OpenSpec.upto recordFamiliesSpec)) recordFamiliesUptoCard

/-- THE SECOND FORM's CARD OF 'latchkeylaw14.RecordOneWay'. -/
def recordOneWayUptoCard : Claim7 := { stood := { row := recordOneWayUptoRow, standIns := [], harness := (true, "02bee5e1d727832b970d737a9a608b71c181e95595b6661bbf091cccc4eb3a30"), looks := true }, kinds := [], alts := [], laidByText := true, laidKinds := [.data, .handle, .pinned], laidTests := true, laidLooks := .later }
def RecordOneWayUptoCardSaid : Prop := Claim7.holds Tryz.pinned (.plain (OpenSpec.upto recordOneWaySpec)) recordOneWayUptoCard

/-- THE SECOND FORM's CARD OF 'latchkeylaw14.RecordReads'. -/
def recordReadsUptoCard : Claim7 := { stood := { row := recordReadsUptoRow, standIns := [], harness := (true, "02bee5e1d727832b970d737a9a608b71c181e95595b6661bbf091cccc4eb3a30"), looks := true }, kinds := [], alts := [], laidByText := true, laidKinds := [.data, .handle, .pinned], laidTests := true, laidLooks := .later }
def RecordReadsUptoCardSaid : Prop := Claim7.holds Tryz.pinned (.plain (OpenSpec.upto recordReadsSpec)) recordReadsUptoCard
end Rows
end Go.Proofs.YtabibfabieghpaaGreatDoor
