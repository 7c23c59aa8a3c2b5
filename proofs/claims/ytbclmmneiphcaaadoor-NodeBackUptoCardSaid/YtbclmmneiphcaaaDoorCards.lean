/-
  DERIVED. GIVEN WITH THE SEED: THE CARDS: each row of YtbclmmneiphcaaaDoorRows.lean that lists a variable, with what it lists TIED to the program's text (the seventh form; the later family's looks); each row that meets fmt, with fmt's text TOLD by the authors' own Lean function (tested against real Go, not proved from fmt's source: count such statements apart). THE CARD IS WHAT COUNTS. Prove the row's statement (the work); the ties are given (YtbclmmneiphcaaaDoorTie.lean); close each card by the builder's one call (the guide's Derived/Test/ToyasCard.lean, 'card_holds'). Laid BY PROGRAM, IN A SANDBOX (cutbox-door.mjs). By AI agents, Wed Nov 11 2026. No macro, syntax, notation, axiom, sorry.
-/
import Derived.Test.YtbclmmneiphcaaaDoorRows
import GoSem.ClaimSeven
namespace Go.Proofs.YtbclmmneiphcaaaDoor
namespace Rows

/-- THE TIED CARD OF 'latchkeylaw10.NodeFinds'. -/
def nodeFindsCard : Claim7 := { stood := { row := nodeFindsRow, standIns := [], harness := (true, "8bc7dae25d5853a48f2896da5e83ca9cea73e539f280a8eba911ec34a4d4da27"), looks := true }, kinds := [], alts := [], laidByText := true, laidKinds := [.handle], laidTests := true, laidLooks := .later }
def NodeFindsCardSaid : Prop := Claim7.holds Tryd.pinned (.plain (OpenSpec.ofChange nodeFindsSpec)) nodeFindsCard

/-- THE TIED CARD OF 'latchkeylaw10.NodeJoins'. -/
def nodeJoinsCard : Claim7 := { stood := { row := nodeJoinsRow, standIns := [], harness := (true, "8bc7dae25d5853a48f2896da5e83ca9cea73e539f280a8eba911ec34a4d4da27"), looks := true }, kinds := [], alts := [], laidByText := true, laidKinds := [.handle], laidTests := true, laidLooks := .later }
def NodeJoinsCardSaid : Prop := Claim7.holds Tryd.pinned (.plain (OpenSpec.ofChange nodeJoinsSpec)) nodeJoinsCard

/-- THE TIED CARD OF 'latchkeylaw10.NodeBack'. -/
def nodeBackCard : Claim7 := { stood := { row := nodeBackRow, standIns := [], harness := (true, "8bc7dae25d5853a48f2896da5e83ca9cea73e539f280a8eba911ec34a4d4da27"), looks := true }, kinds := [], alts := [], laidByText := true, laidKinds := [.handle], laidTests := true, laidLooks := .later }
def NodeBackCardSaid : Prop := Claim7.holds Tryd.pinned (.plain (OpenSpec.ofChange nodeBackSpec)) nodeBackCard

/-- THE TIED CARD OF 'latchkeylaw10.NodeParts'. -/
def nodePartsCard : Claim7 := { stood := { row := nodePartsRow, standIns := [], harness := (true, "8bc7dae25d5853a48f2896da5e83ca9cea73e539f280a8eba911ec34a4d4da27"), looks := true }, kinds := [], alts := [], laidByText := true, laidKinds := [.handle], laidTests := true, laidLooks := .later }
def NodePartsCardSaid : Prop := Claim7.holds Tryd.pinned (.plain (OpenSpec.ofChange nodePartsSpec)) nodePartsCard

/-- THE TIED CARD OF 'latchkeylaw10.NodeBetween'. -/
def nodeBetweenCard : Claim7 := { stood := { row := nodeBetweenRow, standIns := [], harness := (true, "8bc7dae25d5853a48f2896da5e83ca9cea73e539f280a8eba911ec34a4d4da27"), looks := true }, kinds := [], alts := [], laidByText := true, laidKinds := [.handle], laidTests := true, laidLooks := .later }
def NodeBetweenCardSaid : Prop := Claim7.holds Tryd.pinned (.plain (OpenSpec.ofChange nodeBetweenSpec)) nodeBetweenCard

/-- THE SECOND FORM's CARD OF 'latchkeylaw10.NodeFinds'. -/
def nodeFindsUptoCard : Claim7 := { stood := { row := nodeFindsUptoRow, standIns := [], harness := (true, "8bc7dae25d5853a48f2896da5e83ca9cea73e539f280a8eba911ec34a4d4da27"), looks := true }, kinds := [], alts := [], laidByText := true, laidKinds := [.handle], laidTests := true, laidLooks := .later }
def NodeFindsUptoCardSaid : Prop := Claim7.holds Tryd.pinned (.plain (OpenSpec.upto nodeFindsSpec)) nodeFindsUptoCard

/-- THE SECOND FORM's CARD OF 'latchkeylaw10.NodeJoins'. -/
def nodeJoinsUptoCard : Claim7 := { stood := { row := nodeJoinsUptoRow, standIns := [], harness := (true, "8bc7dae25d5853a48f2896da5e83ca9cea73e539f280a8eba911ec34a4d4da27"), looks := true }, kinds := [], alts := [], laidByText := true, laidKinds := [.handle], laidTests := true, laidLooks := .later }
def NodeJoinsUptoCardSaid : Prop := Claim7.holds Tryd.pinned (.plain (OpenSpec.upto nodeJoinsSpec)) nodeJoinsUptoCard

/-- THE SECOND FORM's CARD OF 'latchkeylaw10.NodeBack'. -/
def nodeBackUptoCard : Claim7 := { stood := { row := nodeBackUptoRow, standIns := [], harness := (true, "8bc7dae25d5853a48f2896da5e83ca9cea73e539f280a8eba911ec34a4d4da27"), looks := true }, kinds := [], alts := [], laidByText := true, laidKinds := [.handle], laidTests := true, laidLooks := .later }
def NodeBackUptoCardSaid : Prop := Claim7.holds Tryd.pinned (.plain (OpenSpec.upto nodeBackSpec)) nodeBackUptoCard

/-- THE SECOND FORM's CARD OF 'latchkeylaw10.NodeParts'. -/
def nodePartsUptoCard : Claim7 := { stood := { row := nodePartsUptoRow, standIns := [], harness := (true, "8bc7dae25d5853a48f2896da5e83ca9cea73e539f280a8eba911ec34a4d4da27"), looks := true }, kinds := [], alts := [], laidByText := true, laidKinds := [.handle], laidTests := true, laidLooks := .later }
def NodePartsUptoCardSaid : Prop := Claim7.holds Tryd.pinned (.plain (OpenSpec.upto nodePartsSpec)) nodePartsUptoCard

/-- THE SECOND FORM's CARD OF 'latchkeylaw10.NodeBetween'. -/
def nodeBetweenUptoCard : Claim7 := { stood := { row := nodeBetweenUptoRow, standIns := [], harness := (true, "8bc7dae25d5853a48f2896da5e83ca9cea73e539f280a8eba911ec34a4d4da27"), looks := true }, kinds := [], alts := [], laidByText := true, laidKinds := [.handle], laidTests := true, laidLooks := .later }
def NodeBetweenUptoCardSaid : Prop := Claim7.holds Tryd.pinned (.plain (OpenSpec.upto nodeBetweenSpec)) nodeBetweenUptoCard
end Rows
end Go.Proofs.YtbclmmneiphcaaaDoor
