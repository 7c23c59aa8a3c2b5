/-
  DERIVED. GIVEN WITH THE SEED: THE CARDS: each row of YtbclmmneiphcaaaGreatDoorRows.lean that lists a variable, with what it lists TIED to the program's text (the seventh form; the later family's looks); each row that meets fmt, with fmt's text TOLD by the authors' own Lean function (tested against real Go, not proved from fmt's source: count such statements apart). THE CARD IS WHAT COUNTS. Prove the row's statement (the work); the ties are given (YtbclmmneiphcaaaGreatDoorTie.lean); close each card by the builder's one call (the guide's Derived/Test/ToyasCard.lean, 'card_holds'). Laid BY PROGRAM, IN A SANDBOX (cutbox-door.mjs). By AI agents, Wed Nov 11 2026. No macro, syntax, notation, axiom, sorry.
-/
import Derived.Test.YtbclmmneiphcaaaGreatDoorRows
import GoSem.ClaimSeven
namespace Go.Proofs.YtbclmmneiphcaaaGreatDoor
namespace Rows

/-- THE TIED CARD OF 'latchkeylaw10.NodePages'. -/
def nodePagesCard : Claim7 := { stood := { row := nodePagesRow, standIns := [], harness := (true, "8bfdb4be33f03beeae886bbdb0b76315e2686e032431e9aea2fae1f99a1c86d5"), looks := true }, kinds := [], alts := [], laidByText := true, laidKinds := [.handle], laidTests := true, laidLooks := .later }
def NodePagesCardSaid : Prop := Claim7.holds Tryz.pinned (.plain (OpenSpec.ofChange nodePagesSpec)) nodePagesCard

/-- THE TIED CARD OF 'latchkeylaw10.NodeSplits'. -/
def nodeSplitsCard : Claim7 := { stood := { row := nodeSplitsRow, standIns := [], harness := (true, "8bfdb4be33f03beeae886bbdb0b76315e2686e032431e9aea2fae1f99a1c86d5"), looks := true }, kinds := [], alts := [], laidByText := true, laidKinds := [.handle], laidTests := true, laidLooks := .later }
def NodeSplitsCardSaid : Prop := Claim7.holds Tryz.pinned (.plain (OpenSpec.ofChange nodeSplitsSpec)) nodeSplitsCard

/-- THE SECOND FORM's CARD OF 'latchkeylaw10.NodePages'. -/
def nodePagesUptoCard : Claim7 := { stood := { row := nodePagesUptoRow, standIns := [], harness := (true, "8bfdb4be33f03beeae886bbdb0b76315e2686e032431e9aea2fae1f99a1c86d5"), looks := true }, kinds := [], alts := [], laidByText := true, laidKinds := [.handle], laidTests := true, laidLooks := .later }
def NodePagesUptoCardSaid : Prop := Claim7.holds Tryz.pinned (.plain (OpenSpec.upto nodePagesSpec)) nodePagesUptoCard

/-- THE SECOND FORM's CARD OF 'latchkeylaw10.NodeSplits'. -/
def nodeSplitsUptoCard : Claim7 := { stood := { row := nodeSplitsUptoRow, standIns := [], harness := (true, "8bfdb4be33f03beeae886bbdb0b76315e2686e032431e9aea2fae1f99a1c86d5"), looks := true }, kinds := [], alts := [], laidByText := true, laidKinds := [.handle], laidTests := true, laidLooks := .later }
def NodeSplitsUptoCardSaid : Prop := Claim7.holds Tryz.pinned (.plain (OpenSpec.upto nodeSplitsSpec)) nodeSplitsUptoCard
end Rows
end Go.Proofs.YtbclmmneiphcaaaGreatDoor
