/-
  NARROWER THAN 'FOR EVERY INPUT', by the rows' own cells (each row's printed sentence says how): NodeFinds: laid · NodeJoins: laid · NodeBack: laid · NodeParts: laid · NodeBetween: laid.
  DERIVED. THE GIVEN ROWS OF THIS SEAT. 5 by the template 'for every input the law returns true; each argument reads behind the call as it read before'; 0 by the template 'total and deterministic' (their statements: YtbclmmneiphcaaaDoorTotals.lean).
  GIVEN WITH THE SEED: the statements are not yours to turn. If you find one false, say at which input.
  Laid BY PROGRAM, IN A SANDBOX (cutbox-rows.mjs): the forced cells as the released guide's own fill.sh prints them over the translation 787f110a2ddb2362… (all of the seat's roots in one cut). By AI agents, Wed Nov 11 2026. No macro, syntax, notation, axiom, sorry.
-/
import Derived.Test.YtbclmmneiphcaaaDoorChecked
import GoSem.Claim
import GoSem.ClaimJoined
import GoSem.ClaimMapViews
import Derived.JoinedTies
import Derived.KernelRfl
namespace Go.Proofs.YtbclmmneiphcaaaDoor
/- THE CELL 'sum', in the pinned program and in every row, IS THE sha256 OF THE DUMP (.gsa) THAT YtbclmmneiphcaaaDoorProg.lean LOADS. Nothing in Lean hashes anything: it is a label: what it is worth is what the hold of that sum in a sandbox is worth. -/
noncomputable def Tryd.pinned : Pinned := { name := "ytbclmmneiphcaaadoor", sum := "787f110a2ddb23627f722f1d7a26424f7cfc13fb1fad738e2a4dbebb1e2ef818", checked := Tryd.checked }
namespace Rows
def none {H : Type} : Left H := { results := [], args := [] }

/- WHAT THE LISTED PACKAGE-LEVEL VARIABLES READ AS WHEN THE CALL BEGINS. Each datum BY PROGRAM (the guide's laid-datum.mjs) off the statement by which the dump's own 'gosem.cut.vars' lays the variable. In a bare row this is a premise. The card (YtbclmmneiphcaaaDoorCards.lean) ties it to the program's text. -/
def laid_errors_errorType {H : Type} : DataW H := .iface "internal/reflectlite.rtype" (.agg [.ptr (.lit (.string [101, 114, 114, 111, 114]))])

/-- 'latchkeylaw10.NodeFinds': WHATEVER THE INPUT: true; the input reads as it did. -/
def nodeFindsSpec : ChangeSpec := { name := "nodeFinds", fn := fun _ => fun
  | [d1, d2, d3, d4] => { results := [.lit (.bool true)], args := [d1, d2, d3, d4] }
  | _ => none }
def nodeFindsRow : OpenClaim := { program := "ytbclmmneiphcaaadoor", sum := "787f110a2ddb23627f722f1d7a26424f7cfc13fb1fad738e2a4dbebb1e2ef818", func := "latchkey/latchkeylaw10.NodeFinds", spec := "nodeFinds", inPlace := ["internal/reflectlite.ValueOf", "(internal/reflectlite.Value).Type", "(internal/reflectlite.Value).IsNil", "internal/reflectlite.TypeOf", "(internal/reflectlite.Value).Elem", "(internal/reflectlite.Value).Set"], unfollowed := true, recurses := true, named := ["errors.errorType"], apart := false, laid := [("errors.errorType", laid_errors_errorType)] }
def NodeFindsSaid : Prop := nodeFindsRow.holds Tryd.pinned (OpenSpec.ofChange nodeFindsSpec)

/-- ITS FALSE NEIGHBOUR: 'it returns false'. Refute it at one input. -/
def nodeFindsWrong : ChangeSpec := { name := "nodeFinds", fn := fun _ => fun
  | [d1, d2, d3, d4] => { results := [.lit (.bool false)], args := [d1, d2, d3, d4] }
  | _ => none }
def NodeFindsWrongFalsely : Prop := nodeFindsRow.holds Tryd.pinned (OpenSpec.ofChange nodeFindsWrong)

/-- 'latchkeylaw10.NodeJoins': WHATEVER THE INPUT: true; the input reads as it did. -/
def nodeJoinsSpec : ChangeSpec := { name := "nodeJoins", fn := fun _ => fun
  | [d1, d2, d3, d4] => { results := [.lit (.bool true)], args := [d1, d2, d3, d4] }
  | _ => none }
def nodeJoinsRow : OpenClaim := { program := "ytbclmmneiphcaaadoor", sum := "787f110a2ddb23627f722f1d7a26424f7cfc13fb1fad738e2a4dbebb1e2ef818", func := "latchkey/latchkeylaw10.NodeJoins", spec := "nodeJoins", inPlace := ["internal/reflectlite.ValueOf", "(internal/reflectlite.Value).Type", "(internal/reflectlite.Value).IsNil", "internal/reflectlite.TypeOf", "(internal/reflectlite.Value).Elem", "(internal/reflectlite.Value).Set"], unfollowed := true, recurses := true, named := ["errors.errorType"], apart := false, laid := [("errors.errorType", laid_errors_errorType)] }
def NodeJoinsSaid : Prop := nodeJoinsRow.holds Tryd.pinned (OpenSpec.ofChange nodeJoinsSpec)

/-- ITS FALSE NEIGHBOUR: 'it returns false'. Refute it at one input. -/
def nodeJoinsWrong : ChangeSpec := { name := "nodeJoins", fn := fun _ => fun
  | [d1, d2, d3, d4] => { results := [.lit (.bool false)], args := [d1, d2, d3, d4] }
  | _ => none }
def NodeJoinsWrongFalsely : Prop := nodeJoinsRow.holds Tryd.pinned (OpenSpec.ofChange nodeJoinsWrong)

/-- 'latchkeylaw10.NodeBack': WHATEVER THE INPUT: true; the input reads as it did. -/
def nodeBackSpec : ChangeSpec := { name := "nodeBack", fn := fun _ => fun
  | [d1, d2, d3] => { results := [.lit (.bool true)], args := [d1, d2, d3] }
  | _ => none }
def nodeBackRow : OpenClaim := { program := "ytbclmmneiphcaaadoor", sum := "787f110a2ddb23627f722f1d7a26424f7cfc13fb1fad738e2a4dbebb1e2ef818", func := "latchkey/latchkeylaw10.NodeBack", spec := "nodeBack", inPlace := ["internal/reflectlite.ValueOf", "(internal/reflectlite.Value).Type", "(internal/reflectlite.Value).IsNil", "internal/reflectlite.TypeOf", "(internal/reflectlite.Value).Elem", "(internal/reflectlite.Value).Set"], unfollowed := true, recurses := true, named := ["errors.errorType"], apart := false, laid := [("errors.errorType", laid_errors_errorType)] }
def NodeBackSaid : Prop := nodeBackRow.holds Tryd.pinned (OpenSpec.ofChange nodeBackSpec)

/-- ITS FALSE NEIGHBOUR: 'it returns false'. Refute it at one input. -/
def nodeBackWrong : ChangeSpec := { name := "nodeBack", fn := fun _ => fun
  | [d1, d2, d3] => { results := [.lit (.bool false)], args := [d1, d2, d3] }
  | _ => none }
def NodeBackWrongFalsely : Prop := nodeBackRow.holds Tryd.pinned (OpenSpec.ofChange nodeBackWrong)

/-- 'latchkeylaw10.NodeParts': WHATEVER THE INPUT: true; the input reads as it did. -/
def nodePartsSpec : ChangeSpec := { name := "nodeParts", fn := fun _ => fun
  | [d1, d2, d3] => { results := [.lit (.bool true)], args := [d1, d2, d3] }
  | _ => none }
def nodePartsRow : OpenClaim := { program := "ytbclmmneiphcaaadoor", sum := "787f110a2ddb23627f722f1d7a26424f7cfc13fb1fad738e2a4dbebb1e2ef818", func := "latchkey/latchkeylaw10.NodeParts", spec := "nodeParts", inPlace := ["internal/reflectlite.ValueOf", "(internal/reflectlite.Value).Type", "(internal/reflectlite.Value).IsNil", "internal/reflectlite.TypeOf", "(internal/reflectlite.Value).Elem", "(internal/reflectlite.Value).Set"], unfollowed := true, recurses := true, named := ["errors.errorType"], apart := false, laid := [("errors.errorType", laid_errors_errorType)] }
def NodePartsSaid : Prop := nodePartsRow.holds Tryd.pinned (OpenSpec.ofChange nodePartsSpec)

/-- ITS FALSE NEIGHBOUR: 'it returns false'. Refute it at one input. -/
def nodePartsWrong : ChangeSpec := { name := "nodeParts", fn := fun _ => fun
  | [d1, d2, d3] => { results := [.lit (.bool false)], args := [d1, d2, d3] }
  | _ => none }
def NodePartsWrongFalsely : Prop := nodePartsRow.holds Tryd.pinned (OpenSpec.ofChange nodePartsWrong)

/-- 'latchkeylaw10.NodeBetween': WHATEVER THE INPUT: true; the input reads as it did. -/
def nodeBetweenSpec : ChangeSpec := { name := "nodeBetween", fn := fun _ => fun
  | [d1, d2] => { results := [.lit (.bool true)], args := [d1, d2] }
  | _ => none }
def nodeBetweenRow : OpenClaim := { program := "ytbclmmneiphcaaadoor", sum := "787f110a2ddb23627f722f1d7a26424f7cfc13fb1fad738e2a4dbebb1e2ef818", func := "latchkey/latchkeylaw10.NodeBetween", spec := "nodeBetween", inPlace := ["internal/reflectlite.ValueOf", "(internal/reflectlite.Value).Type", "(internal/reflectlite.Value).IsNil", "internal/reflectlite.TypeOf", "(internal/reflectlite.Value).Elem", "(internal/reflectlite.Value).Set"], unfollowed := true, recurses := true, named := ["errors.errorType"], apart := false, laid := [("errors.errorType", laid_errors_errorType)] }
def NodeBetweenSaid : Prop := nodeBetweenRow.holds Tryd.pinned (OpenSpec.ofChange nodeBetweenSpec)

/-- ITS FALSE NEIGHBOUR: 'it returns false'. Refute it at one input. -/
def nodeBetweenWrong : ChangeSpec := { name := "nodeBetween", fn := fun _ => fun
  | [d1, d2] => { results := [.lit (.bool false)], args := [d1, d2] }
  | _ => none }
def NodeBetweenWrongFalsely : Prop := nodeBetweenRow.holds Tryd.pinned (OpenSpec.ofChange nodeBetweenWrong)

/- THE SECOND FORM. 'bulk': how many values and letters a reading holds, each counted each time it is reached (what is shared counts as often as it is met; a slice's spare places count too). A statement '..UptoSaid' is the law's where the arguments, and the package variables that the reading takes, are together of bulk at most 1048576: NARROWER than '..Said'. Prove '..Said' where nothing that the law and all that it calls make is longer than what came in: it says more and counts as full. Else prove '..UptoSaid'. A law counts once. -/
mutual
def uptoBulk {H : Type} : DataW H → Nat
  | .lit (.string bytes) => bytes.length + 1
  | .lit _ => 1
  | .nil => 1
  | .ptr d => uptoBulk d + 1
  | .slice elems spare => uptoBulkAll elems + uptoBulkAll spare + 1
  | .agg parts => uptoBulkAll parts + 1
  | .iface _ d => uptoBulk d + 1
  | .map entries => uptoBulkEntries entries + 1
  | .held _ => 1
def uptoBulkAll {H : Type} : List (DataW H) → Nat
  | [] => 0
  | d :: r => uptoBulk d + uptoBulkAll r
def uptoBulkEntries {H : Type} : List (Lit × DataW H) → Nat
  | [] => 0
  | x :: r => uptoBulkEntry x + uptoBulkEntries r
def uptoBulkEntry {H : Type} : Lit × DataW H → Nat
  | (.string bytes, d) => bytes.length + uptoBulk d + 1
  | (_, d) => uptoBulk d + 1
 end
def uptoSmall : (H : Type) → List (DataW H) → Bool := fun _ ds => decide (uptoBulkAll ds ≤ 1048576)
def OpenSpec.upto (s : _root_.Go.ChangeSpec) : _root_.Go.OpenSpec := { _root_.Go.OpenSpec.ofChange s with cond := some uptoSmall }

/-- 'latchkeylaw10.NodeFinds', WHERE WHAT IT READS IS OF BULK AT MOST 1048576: true; the input reads as it did. -/
def nodeFindsUptoRow : OpenClaim := { program := "ytbclmmneiphcaaadoor", sum := "787f110a2ddb23627f722f1d7a26424f7cfc13fb1fad738e2a4dbebb1e2ef818", func := "latchkey/latchkeylaw10.NodeFinds", spec := "nodeFinds", inPlace := ["internal/reflectlite.ValueOf", "(internal/reflectlite.Value).Type", "(internal/reflectlite.Value).IsNil", "internal/reflectlite.TypeOf", "(internal/reflectlite.Value).Elem", "(internal/reflectlite.Value).Set"], unfollowed := true, recurses := true, named := ["errors.errorType"], apart := false, laid := [("errors.errorType", laid_errors_errorType)], narrowed := true }
def NodeFindsUptoSaid : Prop := nodeFindsUptoRow.holds Tryd.pinned (OpenSpec.upto nodeFindsSpec)

/-- 'latchkeylaw10.NodeJoins', WHERE WHAT IT READS IS OF BULK AT MOST 1048576: true; the input reads as it did. -/
def nodeJoinsUptoRow : OpenClaim := { program := "ytbclmmneiphcaaadoor", sum := "787f110a2ddb23627f722f1d7a26424f7cfc13fb1fad738e2a4dbebb1e2ef818", func := "latchkey/latchkeylaw10.NodeJoins", spec := "nodeJoins", inPlace := ["internal/reflectlite.ValueOf", "(internal/reflectlite.Value).Type", "(internal/reflectlite.Value).IsNil", "internal/reflectlite.TypeOf", "(internal/reflectlite.Value).Elem", "(internal/reflectlite.Value).Set"], unfollowed := true, recurses := true, named := ["errors.errorType"], apart := false, laid := [("errors.errorType", laid_errors_errorType)], narrowed := true }
def NodeJoinsUptoSaid : Prop := nodeJoinsUptoRow.holds Tryd.pinned (OpenSpec.upto nodeJoinsSpec)

/-- 'latchkeylaw10.NodeBack', WHERE WHAT IT READS IS OF BULK AT MOST 1048576: true; the input reads as it did. -/
def nodeBackUptoRow : OpenClaim := { program := "ytbclmmneiphcaaadoor", sum := "787f110a2ddb23627f722f1d7a26424f7cfc13fb1fad738e2a4dbebb1e2ef818", func := "latchkey/latchkeylaw10.NodeBack", spec := "nodeBack", inPlace := ["internal/reflectlite.ValueOf", "(internal/reflectlite.Value).Type", "(internal/reflectlite.Value).IsNil", "internal/reflectlite.TypeOf", "(internal/reflectlite.Value).Elem", "(internal/reflectlite.Value).Set"], unfollowed := true, recurses := true, named := ["errors.errorType"], apart := false, laid := [("errors.errorType", laid_errors_errorType)], narrowed := true }
def NodeBackUptoSaid : Prop := nodeBackUptoRow.holds Tryd.pinned (OpenSpec.upto nodeBackSpec)

/-- 'latchkeylaw10.NodeParts', WHERE WHAT IT READS IS OF BULK AT MOST 1048576: true; the input reads as it did. -/
def nodePartsUptoRow : OpenClaim := { program := "ytbclmmneiphcaaadoor", sum := "787f110a2ddb23627f722f1d7a26424f7cfc13fb1fad738e2a4dbebb1e2ef818", func := "latchkey/latchkeylaw10.NodeParts", spec := "nodeParts", inPlace := ["internal/reflectlite.ValueOf", "(internal/reflectlite.Value).Type", "(internal/reflectlite.Value).IsNil", "internal/reflectlite.TypeOf", "(internal/reflectlite.Value).Elem", "(internal/reflectlite.Value).Set"], unfollowed := true, recurses := true, named := ["errors.errorType"], apart := false, laid := [("errors.errorType", laid_errors_errorType)], narrowed := true }
def NodePartsUptoSaid : Prop := nodePartsUptoRow.holds Tryd.pinned (OpenSpec.upto nodePartsSpec)

/-- 'latchkeylaw10.NodeBetween', WHERE WHAT IT READS IS OF BULK AT MOST 1048576: true; the input reads as it did. -/
def nodeBetweenUptoRow : OpenClaim := { program := "ytbclmmneiphcaaadoor", sum := "787f110a2ddb23627f722f1d7a26424f7cfc13fb1fad738e2a4dbebb1e2ef818", func := "latchkey/latchkeylaw10.NodeBetween", spec := "nodeBetween", inPlace := ["internal/reflectlite.ValueOf", "(internal/reflectlite.Value).Type", "(internal/reflectlite.Value).IsNil", "internal/reflectlite.TypeOf", "(internal/reflectlite.Value).Elem", "(internal/reflectlite.Value).Set"], unfollowed := true, recurses := true, named := ["errors.errorType"], apart := false, laid := [("errors.errorType", laid_errors_errorType)], narrowed := true }
def NodeBetweenUptoSaid : Prop := nodeBetweenUptoRow.holds Tryd.pinned (OpenSpec.upto nodeBetweenSpec)

end Rows
end Go.Proofs.YtbclmmneiphcaaaDoor
