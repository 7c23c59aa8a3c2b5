/-
  DERIVED. GIVEN WITH THE SEED: THE CARDS: each row of YtokephnlelpjhaaDoorRows.lean that lists a variable, with what it lists TIED to the program's text (the seventh form; the later family's looks); each row that meets fmt, with fmt's text TOLD by the authors' own Lean function (tested against real Go, not proved from fmt's source: count such statements apart). THE CARD IS WHAT COUNTS. Prove the row's statement (the work); the ties are given (YtokephnlelpjhaaDoorTie.lean); close each card by the builder's one call (the guide's Derived/Test/ToyasCard.lean, 'card_holds'). Laid BY PROGRAM, IN A SANDBOX (cutbox-door.mjs). By AI agents, Wed Nov 11 2026. No macro, syntax, notation, axiom, sorry.
-/
import Derived.Test.YtokephnlelpjhaaDoorRows
import GoSem.ClaimSeven
namespace Go.Proofs.YtokephnlelpjhaaDoor
namespace Rows

/-- THE TIED CARD OF 'latchkeylaw02.CodecWrites'. -/
def codecWritesCard : Claim7 := { stood := { row := codecWritesRow, standIns := [], harness := (true, "d926d759628f8a2c508fca1979cf53f4a5d57d1c002fb13502f8bdb94bb00bcc"), looks := true }, kinds := [], alts := [], laidByText := true, laidKinds := [.handle], laidTests := true, laidLooks := .later }
def CodecWritesCardSaid : Prop := Claim7.holds Tryd.pinned (.plain (OpenSpec.ofChange codecWritesSpec)) codecWritesCard

/-- THE TIED CARD OF 'latchkeylaw02.CodecReads'. -/
def codecReadsCard : Claim7 := { stood := { row := codecReadsRow, standIns := [], harness := (true, "d926d759628f8a2c508fca1979cf53f4a5d57d1c002fb13502f8bdb94bb00bcc"), looks := true }, kinds := [], alts := [], laidByText := true, laidKinds := [.handle], laidTests := true, laidLooks := .later }
def CodecReadsCardSaid : Prop := Claim7.holds Tryd.pinned (.plain (OpenSpec.ofChange codecReadsSpec)) codecReadsCard

/-- THE TIED CARD OF 'latchkeylaw02.CodecThrough'. -/
def codecThroughCard : Claim7 := { stood := { row := codecThroughRow, standIns := [], harness := (true, "d926d759628f8a2c508fca1979cf53f4a5d57d1c002fb13502f8bdb94bb00bcc"), looks := true }, kinds := [], alts := [], laidByText := true, laidKinds := [.handle], laidTests := true, laidLooks := .later }
def CodecThroughCardSaid : Prop := Claim7.holds Tryd.pinned (.plain (OpenSpec.ofChange codecThroughSpec)) codecThroughCard

/-- THE TIED CARD OF 'latchkeylaw02.CodecLetters'. -/
def codecLettersCard : Claim7 := { stood := { row := codecLettersRow, standIns := [], harness := (true, "d926d759628f8a2c508fca1979cf53f4a5d57d1c002fb13502f8bdb94bb00bcc"), looks := true }, kinds := [], alts := [], laidByText := true, laidKinds := [.handle], laidTests := true, laidLooks := .later }
def CodecLettersCardSaid : Prop := Claim7.holds Tryd.pinned (.plain (OpenSpec.ofChange codecLettersSpec)) codecLettersCard

/-- THE TIED CARD OF 'latchkeylaw02.CodecBack'. -/
def codecBackCard : Claim7 := { stood := { row := codecBackRow, standIns := [], harness := (true, "d926d759628f8a2c508fca1979cf53f4a5d57d1c002fb13502f8bdb94bb00bcc"), looks := true }, kinds := [], alts := [], laidByText := true, laidKinds := [.handle], laidTests := true, laidLooks := .later }
def CodecBackCardSaid : Prop := Claim7.holds Tryd.pinned (.plain (OpenSpec.ofChange codecBackSpec)) codecBackCard

/-- THE SECOND FORM's CARD OF 'latchkeylaw02.CodecWrites'. -/
def codecWritesUptoCard : Claim7 := { stood := { row := codecWritesUptoRow, standIns := [], harness := (true, "d926d759628f8a2c508fca1979cf53f4a5d57d1c002fb13502f8bdb94bb00bcc"), looks := true }, kinds := [], alts := [], laidByText := true, laidKinds := [.handle], laidTests := true, laidLooks := .later }
def CodecWritesUptoCardSaid : Prop := Claim7.holds Tryd.pinned (.plain (OpenSpec.upto codecWritesSpec)) codecWritesUptoCard

/-- THE SECOND FORM's CARD OF 'latchkeylaw02.CodecReads'. -/
def codecReadsUptoCard : Claim7 := { stood := { row := codecReadsUptoRow, standIns := [], harness := (true, "d926d759628f8a2c508fca1979cf53f4a5d57d1c002fb13502f8bdb94bb00bcc"), looks := true }, kinds := [], alts := [], laidByText := true, laidKinds := [.handle], laidTests := true, laidLooks := .later }
def CodecReadsUptoCardSaid : Prop := Claim7.holds Tryd.pinned (.plain (OpenSpec.upto codecReadsSpec)) codecReadsUptoCard

/-- THE SECOND FORM's CARD OF 'latchkeylaw02.CodecThrough'. -/
def codecThroughUptoCard : Claim7 := { stood := { row := codecThroughUptoRow, standIns := [], harness := (true, "d926d759628f8a2c508fca1979cf53f4a5d57d1c002fb13502f8bdb94bb00bcc"), looks := true }, kinds := [], alts := [], laidByText := true, laidKinds := [.handle], laidTests := true, laidLooks := .later }
def CodecThroughUptoCardSaid : Prop := Claim7.holds Tryd.pinned (.plain (OpenSpec.upto codecThroughSpec)) codecThroughUptoCard

/-- THE SECOND FORM's CARD OF 'latchkeylaw02.CodecLetters'. -/
def codecLettersUptoCard : Claim7 := { stood := { row := codecLettersUptoRow, standIns := [], harness := (true, "d926d759628f8a2c508fca1979cf53f4a5d57d1c002fb13502f8bdb94bb00bcc"), looks := true }, kinds := [], alts := [], laidByText := true, laidKinds := [.handle], laidTests := true, laidLooks := .later }
def CodecLettersUptoCardSaid : Prop := Claim7.holds Tryd.pinned (.plain (OpenSpec.upto codecLettersSpec)) codecLettersUptoCard

/-- THE SECOND FORM's CARD OF 'latchkeylaw02.CodecBack'. -/
def codecBackUptoCard : Claim7 := { stood := { row := codecBackUptoRow, standIns := [], harness := (true, "d926d759628f8a2c508fca1979cf53f4a5d57d1c002fb13502f8bdb94bb00bcc"), looks := true }, kinds := [], alts := [], laidByText := true, laidKinds := [.handle], laidTests := true, laidLooks := .later }
def CodecBackUptoCardSaid : Prop := Claim7.holds Tryd.pinned (.plain (OpenSpec.upto codecBackSpec)) codecBackUptoCard
end Rows
end Go.Proofs.YtokephnlelpjhaaDoor
