/-
  No cell of these rows narrows 'for every input' (looked for: loops, veiled, ifaces, maps, wideKeys, modest, calm, conditions, laid).
  DERIVED. THE GIVEN ROWS OF THIS SEAT. 8 by the template 'for every input the law returns true; each argument reads behind the call as it read before'; 0 by the template 'total and deterministic' (their statements: YtldloociaoflkaaTotals.lean).
  GIVEN WITH THE SEED: the statements are not yours to turn. If you find one false, say at which input.
  Laid BY PROGRAM, IN A SANDBOX (cutbox-rows.mjs): the forced cells as the released guide's own fill.sh prints them over the translation 367bcebbcf7c02e8… (all of the seat's roots in one cut). By AI agents, Wed Nov 11 2026. No macro, syntax, notation, axiom, sorry.
-/
import Derived.Test.YtldloociaoflkaaChecked
import GoSem.Claim
import GoSem.ClaimJoined
import GoSem.ClaimMapViews
import Derived.JoinedTies
import Derived.KernelRfl
namespace Go.Proofs.Ytldloociaoflkaa
/- THE CELL 'sum', in the pinned program and in every row, IS THE sha256 OF THE DUMP (.gsa) THAT YtldloociaoflkaaProg.lean LOADS. Nothing in Lean hashes anything: it is a label: what it is worth is what the hold of that sum in a sandbox is worth. -/
noncomputable def Try.pinned : Pinned := { name := "ytldloociaoflkaa", sum := "367bcebbcf7c02e8d5acb16670c97470f36a5b1bb1a4e617673cae039bbe6138", checked := Try.checked }
namespace Rows
def none {H : Type} : Left H := { results := [], args := [] }

/-- 'latchkeylaw01.HashSums': WHATEVER THE INPUT: true; the input reads as it did. -/
def hashSumsSpec : ChangeSpec := { name := "hashSums", fn := fun _ => fun
  | [d] => { results := [.lit (.bool true)], args := [d] }
  | _ => none }
def hashSumsRow : OpenClaim := { program := "ytldloociaoflkaa", sum := "367bcebbcf7c02e8d5acb16670c97470f36a5b1bb1a4e617673cae039bbe6138", func := "latchkey/latchkeylaw01.HashSums", spec := "hashSums", apart := false }
def HashSumsSaid : Prop := hashSumsRow.holds Try.pinned (OpenSpec.ofChange hashSumsSpec)

/-- ITS FALSE NEIGHBOUR: 'it returns false'. Refute it at one input. -/
def hashSumsWrong : ChangeSpec := { name := "hashSums", fn := fun _ => fun
  | [d] => { results := [.lit (.bool false)], args := [d] }
  | _ => none }
def HashSumsWrongFalsely : Prop := hashSumsRow.holds Try.pinned (OpenSpec.ofChange hashSumsWrong)

/-- 'latchkeylaw01.HashMACs': WHATEVER THE INPUT: true; the input reads as it did. -/
def hashMACsSpec : ChangeSpec := { name := "hashMACs", fn := fun _ => fun
  | [d1, d2] => { results := [.lit (.bool true)], args := [d1, d2] }
  | _ => none }
def hashMACsRow : OpenClaim := { program := "ytldloociaoflkaa", sum := "367bcebbcf7c02e8d5acb16670c97470f36a5b1bb1a4e617673cae039bbe6138", func := "latchkey/latchkeylaw01.HashMACs", spec := "hashMACs", apart := false }
def HashMACsSaid : Prop := hashMACsRow.holds Try.pinned (OpenSpec.ofChange hashMACsSpec)

/-- ITS FALSE NEIGHBOUR: 'it returns false'. Refute it at one input. -/
def hashMACsWrong : ChangeSpec := { name := "hashMACs", fn := fun _ => fun
  | [d1, d2] => { results := [.lit (.bool false)], args := [d1, d2] }
  | _ => none }
def HashMACsWrongFalsely : Prop := hashMACsRow.holds Try.pinned (OpenSpec.ofChange hashMACsWrong)

/-- 'latchkeylaw01.HashChecks': WHATEVER THE INPUT: true; the input reads as it did. -/
def hashChecksSpec : ChangeSpec := { name := "hashChecks", fn := fun _ => fun
  | [d1, d2] => { results := [.lit (.bool true)], args := [d1, d2] }
  | _ => none }
def hashChecksRow : OpenClaim := { program := "ytldloociaoflkaa", sum := "367bcebbcf7c02e8d5acb16670c97470f36a5b1bb1a4e617673cae039bbe6138", func := "latchkey/latchkeylaw01.HashChecks", spec := "hashChecks", apart := false }
def HashChecksSaid : Prop := hashChecksRow.holds Try.pinned (OpenSpec.ofChange hashChecksSpec)

/-- ITS FALSE NEIGHBOUR: 'it returns false'. Refute it at one input. -/
def hashChecksWrong : ChangeSpec := { name := "hashChecks", fn := fun _ => fun
  | [d1, d2] => { results := [.lit (.bool false)], args := [d1, d2] }
  | _ => none }
def HashChecksWrongFalsely : Prop := hashChecksRow.holds Try.pinned (OpenSpec.ofChange hashChecksWrong)

/-- 'latchkeylaw01.HashPlays': WHATEVER THE INPUT: true; the input reads as it did. -/
def hashPlaysSpec : ChangeSpec := { name := "hashPlays", fn := fun _ => fun
  | [d] => { results := [.lit (.bool true)], args := [d] }
  | _ => none }
def hashPlaysRow : OpenClaim := { program := "ytldloociaoflkaa", sum := "367bcebbcf7c02e8d5acb16670c97470f36a5b1bb1a4e617673cae039bbe6138", func := "latchkey/latchkeylaw01.HashPlays", spec := "hashPlays", apart := false }
def HashPlaysSaid : Prop := hashPlaysRow.holds Try.pinned (OpenSpec.ofChange hashPlaysSpec)

/-- ITS FALSE NEIGHBOUR: 'it returns false'. Refute it at one input. -/
def hashPlaysWrong : ChangeSpec := { name := "hashPlays", fn := fun _ => fun
  | [d] => { results := [.lit (.bool false)], args := [d] }
  | _ => none }
def HashPlaysWrongFalsely : Prop := hashPlaysRow.holds Try.pinned (OpenSpec.ofChange hashPlaysWrong)

/-- 'latchkeylaw01.HashCuts': WHATEVER THE INPUT: true; the input reads as it did. -/
def hashCutsSpec : ChangeSpec := { name := "hashCuts", fn := fun _ => fun
  | [d1, d2, d3] => { results := [.lit (.bool true)], args := [d1, d2, d3] }
  | _ => none }
def hashCutsRow : OpenClaim := { program := "ytldloociaoflkaa", sum := "367bcebbcf7c02e8d5acb16670c97470f36a5b1bb1a4e617673cae039bbe6138", func := "latchkey/latchkeylaw01.HashCuts", spec := "hashCuts", apart := false }
def HashCutsSaid : Prop := hashCutsRow.holds Try.pinned (OpenSpec.ofChange hashCutsSpec)

/-- ITS FALSE NEIGHBOUR: 'it returns false'. Refute it at one input. -/
def hashCutsWrong : ChangeSpec := { name := "hashCuts", fn := fun _ => fun
  | [d1, d2, d3] => { results := [.lit (.bool false)], args := [d1, d2, d3] }
  | _ => none }
def HashCutsWrongFalsely : Prop := hashCutsRow.holds Try.pinned (OpenSpec.ofChange hashCutsWrong)

/-- 'latchkeylaw01.HashKeys': WHATEVER THE INPUT: true; the input reads as it did. -/
def hashKeysSpec : ChangeSpec := { name := "hashKeys", fn := fun _ => fun
  | [d1, d2, d3] => { results := [.lit (.bool true)], args := [d1, d2, d3] }
  | _ => none }
def hashKeysRow : OpenClaim := { program := "ytldloociaoflkaa", sum := "367bcebbcf7c02e8d5acb16670c97470f36a5b1bb1a4e617673cae039bbe6138", func := "latchkey/latchkeylaw01.HashKeys", spec := "hashKeys", apart := false }
def HashKeysSaid : Prop := hashKeysRow.holds Try.pinned (OpenSpec.ofChange hashKeysSpec)

/-- ITS FALSE NEIGHBOUR: 'it returns false'. Refute it at one input. -/
def hashKeysWrong : ChangeSpec := { name := "hashKeys", fn := fun _ => fun
  | [d1, d2, d3] => { results := [.lit (.bool false)], args := [d1, d2, d3] }
  | _ => none }
def HashKeysWrongFalsely : Prop := hashKeysRow.holds Try.pinned (OpenSpec.ofChange hashKeysWrong)

/-- 'latchkeylaw01.HashBursts': WHATEVER THE INPUT: true; the input reads as it did. -/
def hashBurstsSpec : ChangeSpec := { name := "hashBursts", fn := fun _ => fun
  | [d1, d2, d3] => { results := [.lit (.bool true)], args := [d1, d2, d3] }
  | _ => none }
def hashBurstsRow : OpenClaim := { program := "ytldloociaoflkaa", sum := "367bcebbcf7c02e8d5acb16670c97470f36a5b1bb1a4e617673cae039bbe6138", func := "latchkey/latchkeylaw01.HashBursts", spec := "hashBursts", apart := false }
def HashBurstsSaid : Prop := hashBurstsRow.holds Try.pinned (OpenSpec.ofChange hashBurstsSpec)

/-- ITS FALSE NEIGHBOUR: 'it returns false'. Refute it at one input. -/
def hashBurstsWrong : ChangeSpec := { name := "hashBursts", fn := fun _ => fun
  | [d1, d2, d3] => { results := [.lit (.bool false)], args := [d1, d2, d3] }
  | _ => none }
def HashBurstsWrongFalsely : Prop := hashBurstsRow.holds Try.pinned (OpenSpec.ofChange hashBurstsWrong)

/-- 'latchkeylaw01.HashAffine': WHATEVER THE INPUT: true; the input reads as it did. -/
def hashAffineSpec : ChangeSpec := { name := "hashAffine", fn := fun _ => fun
  | [d1, d2, d3] => { results := [.lit (.bool true)], args := [d1, d2, d3] }
  | _ => none }
def hashAffineRow : OpenClaim := { program := "ytldloociaoflkaa", sum := "367bcebbcf7c02e8d5acb16670c97470f36a5b1bb1a4e617673cae039bbe6138", func := "latchkey/latchkeylaw01.HashAffine", spec := "hashAffine", apart := false }
def HashAffineSaid : Prop := hashAffineRow.holds Try.pinned (OpenSpec.ofChange hashAffineSpec)

/-- ITS FALSE NEIGHBOUR: 'it returns false'. Refute it at one input. -/
def hashAffineWrong : ChangeSpec := { name := "hashAffine", fn := fun _ => fun
  | [d1, d2, d3] => { results := [.lit (.bool false)], args := [d1, d2, d3] }
  | _ => none }
def HashAffineWrongFalsely : Prop := hashAffineRow.holds Try.pinned (OpenSpec.ofChange hashAffineWrong)

/- THE SECOND FORM. 'bulk': how many values and letters a reading holds, each counted each time it is reached (what is shared counts as often as it is met; a slice's spare places count too). A statement '..UptoSaid' is the law's where the arguments, and the package variables that the reading takes, are together of bulk at most 1048576: NARROWER than '..Said'. Prove '..Said' where nothing that the law and all that it calls make is longer than what came in: it says more and counts as full. Else prove '..UptoSaid'. A law counts once. -/
mutual
def uptoBulk {H : Type} : DataW H → Nat
  | .lit (.string bytes) => bytes.length + 1
  | .lit _ => 1
  | .nil => 1
  | .ptr d => uptoBulk d + 1
  | .slice elems spare => uptoBulkAll elems + uptoBulkAll spare + 1
  | .agg parts => uptoBulkAll parts + 1
  | .iface _ d => uptoBulk d + 1
  | .map entries => uptoBulkEntries entries + 1
  | .held _ => 1
def uptoBulkAll {H : Type} : List (DataW H) → Nat
  | [] => 0
  | d :: r => uptoBulk d + uptoBulkAll r
def uptoBulkEntries {H : Type} : List (Lit × DataW H) → Nat
  | [] => 0
  | x :: r => uptoBulkEntry x + uptoBulkEntries r
def uptoBulkEntry {H : Type} : Lit × DataW H → Nat
  | (.string bytes, d) => bytes.length + uptoBulk d + 1
  | (_, d) => uptoBulk d + 1
 end
def uptoSmall : (H : Type) → List (DataW H) → Bool := fun _ ds => decide (uptoBulkAll ds ≤ 1048576)
def OpenSpec.upto (s : _root_.Go.ChangeSpec) : _root_.Go.OpenSpec := { _root_.Go.OpenSpec.ofChange s with cond := some uptoSmall }

/-- 'latchkeylaw01.HashSums', WHERE WHAT IT READS IS OF BULK AT MOST 1048576: true; the input reads as it did. -/
def hashSumsUptoRow : OpenClaim := { program := "ytldloociaoflkaa", sum := "367bcebbcf7c02e8d5acb16670c97470f36a5b1bb1a4e617673cae039bbe6138", func := "latchkey/latchkeylaw01.HashSums", spec := "hashSums", apart := false, narrowed := true }
def HashSumsUptoSaid : Prop := hashSumsUptoRow.holds Try.pinned (OpenSpec.upto hashSumsSpec)

/-- 'latchkeylaw01.HashMACs', WHERE WHAT IT READS IS OF BULK AT MOST 1048576: true; the input reads as it did. -/
def hashMACsUptoRow : OpenClaim := { program := "ytldloociaoflkaa", sum := "367bcebbcf7c02e8d5acb16670c97470f36a5b1bb1a4e617673cae039bbe6138", func := "latchkey/latchkeylaw01.HashMACs", spec := "hashMACs", apart := false, narrowed := true }
def HashMACsUptoSaid : Prop := hashMACsUptoRow.holds Try.pinned (OpenSpec.upto hashMACsSpec)

/-- 'latchkeylaw01.HashChecks', WHERE WHAT IT READS IS OF BULK AT MOST 1048576: true; the input reads as it did. -/
def hashChecksUptoRow : OpenClaim := { program := "ytldloociaoflkaa", sum := "367bcebbcf7c02e8d5acb16670c97470f36a5b1bb1a4e617673cae039bbe6138", func := "latchkey/latchkeylaw01.HashChecks", spec := "hashChecks", apart := false, narrowed := true }
def HashChecksUptoSaid : Prop := hashChecksUptoRow.holds Try.pinned (OpenSpec.upto hashChecksSpec)

/-- 'latchkeylaw01.HashPlays', WHERE WHAT IT READS IS OF BULK AT MOST 1048576: true; the input reads as it did. -/
def hashPlaysUptoRow : OpenClaim := { program := "ytldloociaoflkaa", sum := "367bcebbcf7c02e8d5acb16670c97470f36a5b1bb1a4e617673cae039bbe6138", func := "latchkey/latchkeylaw01.HashPlays", spec := "hashPlays", apart := false, narrowed := true }
def HashPlaysUptoSaid : Prop := hashPlaysUptoRow.holds Try.pinned (OpenSpec.upto hashPlaysSpec)

/-- 'latchkeylaw01.HashCuts', WHERE WHAT IT READS IS OF BULK AT MOST 1048576: true; the input reads as it did. -/
def hashCutsUptoRow : OpenClaim := { program := "ytldloociaoflkaa", sum := "367bcebbcf7c02e8d5acb16670c97470f36a5b1bb1a4e617673cae039bbe6138", func := "latchkey/latchkeylaw01.HashCuts", spec := "hashCuts", apart := false, narrowed := true }
def HashCutsUptoSaid : Prop := hashCutsUptoRow.holds Try.pinned (OpenSpec.upto hashCutsSpec)

/-- 'latchkeylaw01.HashKeys', WHERE WHAT IT READS IS OF BULK AT MOST 1048576: true; the input reads as it did. -/
def hashKeysUptoRow : OpenClaim := { program := "ytldloociaoflkaa", sum := "367bcebbcf7c02e8d5acb16670c97470f36a5b1bb1a4e617673cae039bbe6138", func := "latchkey/latchkeylaw01.HashKeys", spec := "hashKeys", apart := false, narrowed := true }
def HashKeysUptoSaid : Prop := hashKeysUptoRow.holds Try.pinned (OpenSpec.upto hashKeysSpec)

/-- 'latchkeylaw01.HashBursts', WHERE WHAT IT READS IS OF BULK AT MOST 1048576: true; the input reads as it did. -/
def hashBurstsUptoRow : OpenClaim := { program := "ytldloociaoflkaa", sum := "367bcebbcf7c02e8d5acb16670c97470f36a5b1bb1a4e617673cae039bbe6138", func := "latchkey/latchkeylaw01.HashBursts", spec := "hashBursts", apart := false, narrowed := true }
def HashBurstsUptoSaid : Prop := hashBurstsUptoRow.holds Try.pinned (OpenSpec.upto hashBurstsSpec)

/-- 'latchkeylaw01.HashAffine', WHERE WHAT IT READS IS OF BULK AT MOST 1048576: true; the input reads as it did. -/
def hashAffineUptoRow : OpenClaim := { program := "ytldloociaoflkaa", sum := "367bcebbcf7c02e8d5acb16670c97470f36a5b1bb1a4e617673cae039bbe6138", func := "latchkey/latchkeylaw01.HashAffine", spec := "hashAffine", apart := false, narrowed := true }
def HashAffineUptoSaid : Prop := hashAffineUptoRow.holds Try.pinned (OpenSpec.upto hashAffineSpec)

end Rows
end Go.Proofs.Ytldloociaoflkaa
