/-
  No cell of these rows narrows 'for every input' (looked for: loops, veiled, ifaces, maps, wideKeys, modest, calm, conditions, laid).
  DERIVED. THE GIVEN ROWS OF THIS SEAT. 3 by the template 'for every input the law returns true; each argument reads behind the call as it read before'; 0 by the template 'total and deterministic' (their statements: YtnbpbonpcbemdaaTotals.lean).
  GIVEN WITH THE SEED: the statements are not yours to turn. If you find one false, say at which input.
  Laid BY PROGRAM, IN A SANDBOX (cutbox-rows.mjs): the forced cells as the released guide's own fill.sh prints them over the translation a41ee34035e2cf44… (all of the seat's roots in one cut). By AI agents, Wed Nov 11 2026. No macro, syntax, notation, axiom, sorry.
-/
import Derived.Test.YtnbpbonpcbemdaaChecked
import GoSem.Claim
import GoSem.ClaimJoined
import GoSem.ClaimMapViews
import Derived.JoinedTies
import Derived.KernelRfl
namespace Go.Proofs.Ytnbpbonpcbemdaa
/- THE CELL 'sum', in the pinned program and in every row, IS THE sha256 OF THE DUMP (.gsa) THAT YtnbpbonpcbemdaaProg.lean LOADS. Nothing in Lean hashes anything: it is a label: what it is worth is what the hold of that sum in a sandbox is worth. -/
noncomputable def Try.pinned : Pinned := { name := "ytnbpbonpcbemdaa", sum := "a41ee34035e2cf4469276a051fafe5028bf101f94c951a547c68ace7ac1dc618", checked := Try.checked }
namespace Rows
def none {H : Type} : Left H := { results := [], args := [] }

/-- 'latchkeylaw24.LimitWaits': WHATEVER THE INPUT: true; the input reads as it did. -/
def limitWaitsSpec : ChangeSpec := { name := "limitWaits", fn := fun _ => fun
  | [d1, d2, d3, d4, d5] => { results := [.lit (.bool true)], args := [d1, d2, d3, d4, d5] }
  | _ => none }
def limitWaitsRow : OpenClaim := { program := "ytnbpbonpcbemdaa", sum := "a41ee34035e2cf4469276a051fafe5028bf101f94c951a547c68ace7ac1dc618", func := "latchkey/latchkeylaw24.LimitWaits", spec := "limitWaits", inPlace := ["slices.overlaps[latchkey/limit.bucket]"], unfollowed := true, recurses := true, apart := false }
def LimitWaitsSaid : Prop := limitWaitsRow.holds Try.pinned (OpenSpec.ofChange limitWaitsSpec)

/-- ITS FALSE NEIGHBOUR: 'it returns false'. Refute it at one input. -/
def limitWaitsWrong : ChangeSpec := { name := "limitWaits", fn := fun _ => fun
  | [d1, d2, d3, d4, d5] => { results := [.lit (.bool false)], args := [d1, d2, d3, d4, d5] }
  | _ => none }
def LimitWaitsWrongFalsely : Prop := limitWaitsRow.holds Try.pinned (OpenSpec.ofChange limitWaitsWrong)

/-- 'latchkeylaw24.LimitPlays': WHATEVER THE INPUT: true; the input reads as it did. -/
def limitPlaysSpec : ChangeSpec := { name := "limitPlays", fn := fun _ => fun
  | [d1, d2, d3] => { results := [.lit (.bool true)], args := [d1, d2, d3] }
  | _ => none }
def limitPlaysRow : OpenClaim := { program := "ytnbpbonpcbemdaa", sum := "a41ee34035e2cf4469276a051fafe5028bf101f94c951a547c68ace7ac1dc618", func := "latchkey/latchkeylaw24.LimitPlays", spec := "limitPlays", inPlace := ["slices.overlaps[latchkey/limit.bucket]"], unfollowed := true, recurses := true, apart := false }
def LimitPlaysSaid : Prop := limitPlaysRow.holds Try.pinned (OpenSpec.ofChange limitPlaysSpec)

/-- ITS FALSE NEIGHBOUR: 'it returns false'. Refute it at one input. -/
def limitPlaysWrong : ChangeSpec := { name := "limitPlays", fn := fun _ => fun
  | [d1, d2, d3] => { results := [.lit (.bool false)], args := [d1, d2, d3] }
  | _ => none }
def LimitPlaysWrongFalsely : Prop := limitPlaysRow.holds Try.pinned (OpenSpec.ofChange limitPlaysWrong)

/-- 'latchkeylaw24.LimitAlone': WHATEVER THE INPUT: true; the input reads as it did. -/
def limitAloneSpec : ChangeSpec := { name := "limitAlone", fn := fun _ => fun
  | [d1, d2, d3, d4, d5] => { results := [.lit (.bool true)], args := [d1, d2, d3, d4, d5] }
  | _ => none }
def limitAloneRow : OpenClaim := { program := "ytnbpbonpcbemdaa", sum := "a41ee34035e2cf4469276a051fafe5028bf101f94c951a547c68ace7ac1dc618", func := "latchkey/latchkeylaw24.LimitAlone", spec := "limitAlone", inPlace := ["slices.overlaps[latchkey/limit.bucket]"], unfollowed := true, recurses := true, apart := false }
def LimitAloneSaid : Prop := limitAloneRow.holds Try.pinned (OpenSpec.ofChange limitAloneSpec)

/-- ITS FALSE NEIGHBOUR: 'it returns false'. Refute it at one input. -/
def limitAloneWrong : ChangeSpec := { name := "limitAlone", fn := fun _ => fun
  | [d1, d2, d3, d4, d5] => { results := [.lit (.bool false)], args := [d1, d2, d3, d4, d5] }
  | _ => none }
def LimitAloneWrongFalsely : Prop := limitAloneRow.holds Try.pinned (OpenSpec.ofChange limitAloneWrong)

/- THE SECOND FORM. 'bulk': how many values and letters a reading holds, each counted each time it is reached (what is shared counts as often as it is met; a slice's spare places count too). A statement '..UptoSaid' is the law's where the arguments, and the package variables that the reading takes, are together of bulk at most 1048576: NARROWER than '..Said'. Prove '..Said' where nothing that the law and all that it calls make is longer than what came in: it says more and counts as full. Else prove '..UptoSaid'. A law counts once. -/
mutual
def uptoBulk {H : Type} : DataW H → Nat
  | .lit (.string bytes) => bytes.length + 1
  | .lit _ => 1
  | .nil => 1
  | .ptr d => uptoBulk d + 1
  | .slice elems spare => uptoBulkAll elems + uptoBulkAll spare + 1
  | .agg parts => uptoBulkAll parts + 1
  | .iface _ d => uptoBulk d + 1
  | .map entries => uptoBulkEntries entries + 1
  | .held _ => 1
def uptoBulkAll {H : Type} : List (DataW H) → Nat
  | [] => 0
  | d :: r => uptoBulk d + uptoBulkAll r
def uptoBulkEntries {H : Type} : List (Lit × DataW H) → Nat
  | [] => 0
  | x :: r => uptoBulkEntry x + uptoBulkEntries r
def uptoBulkEntry {H : Type} : Lit × DataW H → Nat
  | (.string bytes, d) => bytes.length + uptoBulk d + 1
  | (_, d) => uptoBulk d + 1
 end
def uptoSmall : (H : Type) → List (DataW H) → Bool := fun _ ds => decide (uptoBulkAll ds ≤ 1048576)
def OpenSpec.upto (s : _root_.Go.ChangeSpec) : _root_.Go.OpenSpec := { _root_.Go.OpenSpec.ofChange s with cond := some uptoSmall }

/-- 'latchkeylaw24.LimitWaits', WHERE WHAT IT READS IS OF BULK AT MOST 1048576: true; the input reads as it did. -/
def limitWaitsUptoRow : OpenClaim := { program := "ytnbpbonpcbemdaa", sum := "a41ee34035e2cf4469276a051fafe5028bf101f94c951a547c68ace7ac1dc618", func := "latchkey/latchkeylaw24.LimitWaits", spec := "limitWaits", inPlace := ["slices.overlaps[latchkey/limit.bucket]"], unfollowed := true, recurses := true, apart := false, narrowed := true }
def LimitWaitsUptoSaid : Prop := limitWaitsUptoRow.holds Try.pinned (OpenSpec.upto limitWaitsSpec)

/-- 'latchkeylaw24.LimitPlays', WHERE WHAT IT READS IS OF BULK AT MOST 1048576: true; the input reads as it did. -/
def limitPlaysUptoRow : OpenClaim := { program := "ytnbpbonpcbemdaa", sum := "a41ee34035e2cf4469276a051fafe5028bf101f94c951a547c68ace7ac1dc618", func := "latchkey/latchkeylaw24.LimitPlays", spec := "limitPlays", inPlace := ["slices.overlaps[latchkey/limit.bucket]"], unfollowed := true, recurses := true, apart := false, narrowed := true }
def LimitPlaysUptoSaid : Prop := limitPlaysUptoRow.holds Try.pinned (OpenSpec.upto limitPlaysSpec)

/-- 'latchkeylaw24.LimitAlone', WHERE WHAT IT READS IS OF BULK AT MOST 1048576: true; the input reads as it did. -/
def limitAloneUptoRow : OpenClaim := { program := "ytnbpbonpcbemdaa", sum := "a41ee34035e2cf4469276a051fafe5028bf101f94c951a547c68ace7ac1dc618", func := "latchkey/latchkeylaw24.LimitAlone", spec := "limitAlone", inPlace := ["slices.overlaps[latchkey/limit.bucket]"], unfollowed := true, recurses := true, apart := false, narrowed := true }
def LimitAloneUptoSaid : Prop := limitAloneUptoRow.holds Try.pinned (OpenSpec.upto limitAloneSpec)

end Rows
end Go.Proofs.Ytnbpbonpcbemdaa
