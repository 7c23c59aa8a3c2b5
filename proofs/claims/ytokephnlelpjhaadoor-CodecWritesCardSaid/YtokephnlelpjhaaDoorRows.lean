/-
  NARROWER THAN 'FOR EVERY INPUT', by the rows' own cells (each row's printed sentence says how): CodecWrites: laid · CodecReads: laid · CodecThrough: laid · CodecLetters: laid · CodecBack: laid.
  DERIVED. THE GIVEN ROWS OF THIS SEAT. 5 by the template 'for every input the law returns true; each argument reads behind the call as it read before'; 0 by the template 'total and deterministic' (their statements: YtokephnlelpjhaaDoorTotals.lean).
  GIVEN WITH THE SEED: the statements are not yours to turn. If you find one false, say at which input.
  Laid BY PROGRAM, IN A SANDBOX (cutbox-rows.mjs): the forced cells as the released guide's own fill.sh prints them over the translation 09f763e75ee545cc… (all of the seat's roots in one cut). By AI agents, Wed Nov 11 2026. No macro, syntax, notation, axiom, sorry.
-/
import Derived.Test.YtokephnlelpjhaaDoorChecked
import GoSem.Claim
import GoSem.ClaimJoined
import GoSem.ClaimMapViews
import Derived.JoinedTies
import Derived.KernelRfl
namespace Go.Proofs.YtokephnlelpjhaaDoor
/- THE CELL 'sum', in the pinned program and in every row, IS THE sha256 OF THE DUMP (.gsa) THAT YtokephnlelpjhaaDoorProg.lean LOADS. Nothing in Lean hashes anything: it is a label: what it is worth is what the hold of that sum in a sandbox is worth. -/
noncomputable def Tryd.pinned : Pinned := { name := "ytokephnlelpjhaadoor", sum := "09f763e75ee545cc448ed5723923479e2bbf471b06dbd9426927bc669886d30f", checked := Tryd.checked }
namespace Rows
def none {H : Type} : Left H := { results := [], args := [] }

/- WHAT THE LISTED PACKAGE-LEVEL VARIABLES READ AS WHEN THE CALL BEGINS. Each datum BY PROGRAM (the guide's laid-datum.mjs) off the statement by which the dump's own 'gosem.cut.vars' lays the variable. In a bare row this is a premise. The card (YtokephnlelpjhaaDoorCards.lean) ties it to the program's text. -/
def laid_errors_errorType {H : Type} : DataW H := .iface "internal/reflectlite.rtype" (.agg [.ptr (.lit (.string [101, 114, 114, 111, 114]))])

/-- 'latchkeylaw02.CodecWrites': WHATEVER THE INPUT: true; the input reads as it did. -/
def codecWritesSpec : ChangeSpec := { name := "codecWrites", fn := fun _ => fun
  | [d] => { results := [.lit (.bool true)], args := [d] }
  | _ => none }
def codecWritesRow : OpenClaim := { program := "ytokephnlelpjhaadoor", sum := "09f763e75ee545cc448ed5723923479e2bbf471b06dbd9426927bc669886d30f", func := "latchkey/latchkeylaw02.CodecWrites", spec := "codecWrites", inPlace := ["internal/reflectlite.ValueOf", "(internal/reflectlite.Value).Type", "(internal/reflectlite.Value).IsNil", "internal/reflectlite.TypeOf", "(internal/reflectlite.Value).Elem", "(internal/reflectlite.Value).Set"], unfollowed := true, recurses := true, named := ["errors.errorType"], apart := false, laid := [("errors.errorType", laid_errors_errorType)] }
def CodecWritesSaid : Prop := codecWritesRow.holds Tryd.pinned (OpenSpec.ofChange codecWritesSpec)

/-- ITS FALSE NEIGHBOUR: 'it returns false'. Refute it at one input. -/
def codecWritesWrong : ChangeSpec := { name := "codecWrites", fn := fun _ => fun
  | [d] => { results := [.lit (.bool false)], args := [d] }
  | _ => none }
def CodecWritesWrongFalsely : Prop := codecWritesRow.holds Tryd.pinned (OpenSpec.ofChange codecWritesWrong)

/-- 'latchkeylaw02.CodecReads': WHATEVER THE INPUT: true; the input reads as it did. -/
def codecReadsSpec : ChangeSpec := { name := "codecReads", fn := fun _ => fun
  | [d1, d2, d3] => { results := [.lit (.bool true)], args := [d1, d2, d3] }
  | _ => none }
def codecReadsRow : OpenClaim := { program := "ytokephnlelpjhaadoor", sum := "09f763e75ee545cc448ed5723923479e2bbf471b06dbd9426927bc669886d30f", func := "latchkey/latchkeylaw02.CodecReads", spec := "codecReads", inPlace := ["internal/reflectlite.ValueOf", "(internal/reflectlite.Value).Type", "(internal/reflectlite.Value).IsNil", "internal/reflectlite.TypeOf", "(internal/reflectlite.Value).Elem", "(internal/reflectlite.Value).Set"], unfollowed := true, recurses := true, named := ["errors.errorType"], apart := false, laid := [("errors.errorType", laid_errors_errorType)] }
def CodecReadsSaid : Prop := codecReadsRow.holds Tryd.pinned (OpenSpec.ofChange codecReadsSpec)

/-- ITS FALSE NEIGHBOUR: 'it returns false'. Refute it at one input. -/
def codecReadsWrong : ChangeSpec := { name := "codecReads", fn := fun _ => fun
  | [d1, d2, d3] => { results := [.lit (.bool false)], args := [d1, d2, d3] }
  | _ => none }
def CodecReadsWrongFalsely : Prop := codecReadsRow.holds Tryd.pinned (OpenSpec.ofChange codecReadsWrong)

/-- 'latchkeylaw02.CodecThrough': WHATEVER THE INPUT: true; the input reads as it did. -/
def codecThroughSpec : ChangeSpec := { name := "codecThrough", fn := fun _ => fun
  | [d1, d2, d3] => { results := [.lit (.bool true)], args := [d1, d2, d3] }
  | _ => none }
def codecThroughRow : OpenClaim := { program := "ytokephnlelpjhaadoor", sum := "09f763e75ee545cc448ed5723923479e2bbf471b06dbd9426927bc669886d30f", func := "latchkey/latchkeylaw02.CodecThrough", spec := "codecThrough", inPlace := ["internal/reflectlite.ValueOf", "(internal/reflectlite.Value).Type", "(internal/reflectlite.Value).IsNil", "internal/reflectlite.TypeOf", "(internal/reflectlite.Value).Elem", "(internal/reflectlite.Value).Set"], unfollowed := true, recurses := true, named := ["errors.errorType"], apart := false, laid := [("errors.errorType", laid_errors_errorType)] }
def CodecThroughSaid : Prop := codecThroughRow.holds Tryd.pinned (OpenSpec.ofChange codecThroughSpec)

/-- ITS FALSE NEIGHBOUR: 'it returns false'. Refute it at one input. -/
def codecThroughWrong : ChangeSpec := { name := "codecThrough", fn := fun _ => fun
  | [d1, d2, d3] => { results := [.lit (.bool false)], args := [d1, d2, d3] }
  | _ => none }
def CodecThroughWrongFalsely : Prop := codecThroughRow.holds Tryd.pinned (OpenSpec.ofChange codecThroughWrong)

/-- 'latchkeylaw02.CodecLetters': WHATEVER THE INPUT: true; the input reads as it did. -/
def codecLettersSpec : ChangeSpec := { name := "codecLetters", fn := fun _ => fun
  | [d1, d2] => { results := [.lit (.bool true)], args := [d1, d2] }
  | _ => none }
def codecLettersRow : OpenClaim := { program := "ytokephnlelpjhaadoor", sum := "09f763e75ee545cc448ed5723923479e2bbf471b06dbd9426927bc669886d30f", func := "latchkey/latchkeylaw02.CodecLetters", spec := "codecLetters", inPlace := ["internal/reflectlite.ValueOf", "(internal/reflectlite.Value).Type", "(internal/reflectlite.Value).IsNil", "internal/reflectlite.TypeOf", "(internal/reflectlite.Value).Elem", "(internal/reflectlite.Value).Set"], unfollowed := true, recurses := true, named := ["errors.errorType"], apart := false, laid := [("errors.errorType", laid_errors_errorType)] }
def CodecLettersSaid : Prop := codecLettersRow.holds Tryd.pinned (OpenSpec.ofChange codecLettersSpec)

/-- ITS FALSE NEIGHBOUR: 'it returns false'. Refute it at one input. -/
def codecLettersWrong : ChangeSpec := { name := "codecLetters", fn := fun _ => fun
  | [d1, d2] => { results := [.lit (.bool false)], args := [d1, d2] }
  | _ => none }
def CodecLettersWrongFalsely : Prop := codecLettersRow.holds Tryd.pinned (OpenSpec.ofChange codecLettersWrong)

/-- 'latchkeylaw02.CodecBack': WHATEVER THE INPUT: true; the input reads as it did. -/
def codecBackSpec : ChangeSpec := { name := "codecBack", fn := fun _ => fun
  | [d1, d2, d3, d4] => { results := [.lit (.bool true)], args := [d1, d2, d3, d4] }
  | _ => none }
def codecBackRow : OpenClaim := { program := "ytokephnlelpjhaadoor", sum := "09f763e75ee545cc448ed5723923479e2bbf471b06dbd9426927bc669886d30f", func := "latchkey/latchkeylaw02.CodecBack", spec := "codecBack", inPlace := ["internal/reflectlite.ValueOf", "(internal/reflectlite.Value).Type", "(internal/reflectlite.Value).IsNil", "internal/reflectlite.TypeOf", "(internal/reflectlite.Value).Elem", "(internal/reflectlite.Value).Set"], unfollowed := true, recurses := true, named := ["errors.errorType"], apart := false, laid := [("errors.errorType", laid_errors_errorType)] }
def CodecBackSaid : Prop := codecBackRow.holds Tryd.pinned (OpenSpec.ofChange codecBackSpec)

/-- ITS FALSE NEIGHBOUR: 'it returns false'. Refute it at one input. -/
def codecBackWrong : ChangeSpec := { name := "codecBack", fn := fun _ => fun
  | [d1, d2, d3, d4] => { results := [.lit (.bool false)], args := [d1, d2, d3, d4] }
  | _ => none }
def CodecBackWrongFalsely : Prop := codecBackRow.holds Tryd.pinned (OpenSpec.ofChange codecBackWrong)

/- THE SECOND FORM. 'bulk': how many values and letters a reading holds, each counted each time it is reached (what is shared counts as often as it is met; a slice's spare places count too). A statement '..UptoSaid' is the law's where the arguments, and the package variables that the reading takes, are together of bulk at most 1048576: NARROWER than '..Said'. Prove '..Said' where nothing that the law and all that it calls make is longer than what came in: it says more and counts as full. Else prove '..UptoSaid'. A law counts once. -/
mutual
def uptoBulk {H : Type} : DataW H → Nat
  | .lit (.string bytes) => bytes.length + 1
  | .lit _ => 1
  | .nil => 1
  | .ptr d => uptoBulk d + 1
  | .slice elems spare => uptoBulkAll elems + uptoBulkAll spare + 1
  | .agg parts => uptoBulkAll parts + 1
  | .iface _ d => uptoBulk d + 1
  | .map entries => uptoBulkEntries entries + 1
  | .held _ => 1
def uptoBulkAll {H : Type} : List (DataW H) → Nat
  | [] => 0
  | d :: r => uptoBulk d + uptoBulkAll r
def uptoBulkEntries {H : Type} : List (Lit × DataW H) → Nat
  | [] => 0
  | x :: r => uptoBulkEntry x + uptoBulkEntries r
def uptoBulkEntry {H : Type} : Lit × DataW H → Nat
  | (.string bytes, d) => bytes.length + uptoBulk d + 1
  | (_, d) => uptoBulk d + 1
 end
def uptoSmall : (H : Type) → List (DataW H) → Bool := fun _ ds => decide (uptoBulkAll ds ≤ 1048576)
def OpenSpec.upto (s : _root_.Go.ChangeSpec) : _root_.Go.OpenSpec := { _root_.Go.OpenSpec.ofChange s with cond := some uptoSmall }

/-- 'latchkeylaw02.CodecWrites', WHERE WHAT IT READS IS OF BULK AT MOST 1048576: true; the input reads as it did. -/
def codecWritesUptoRow : OpenClaim := { program := "ytokephnlelpjhaadoor", sum := "09f763e75ee545cc448ed5723923479e2bbf471b06dbd9426927bc669886d30f", func := "latchkey/latchkeylaw02.CodecWrites", spec := "codecWrites", inPlace := ["internal/reflectlite.ValueOf", "(internal/reflectlite.Value).Type", "(internal/reflectlite.Value).IsNil", "internal/reflectlite.TypeOf", "(internal/reflectlite.Value).Elem", "(internal/reflectlite.Value).Set"], unfollowed := true, recurses := true, named := ["errors.errorType"], apart := false, laid := [("errors.errorType", laid_errors_errorType)], narrowed := true }
def CodecWritesUptoSaid : Prop := codecWritesUptoRow.holds Tryd.pinned (OpenSpec.upto codecWritesSpec)

/-- 'latchkeylaw02.CodecReads', WHERE WHAT IT READS IS OF BULK AT MOST 1048576: true; the input reads as it did. -/
def codecReadsUptoRow : OpenClaim := { program := "ytokephnlelpjhaadoor", sum := "09f763e75ee545cc448ed5723923479e2bbf471b06dbd9426927bc669886d30f", func := "latchkey/latchkeylaw02.CodecReads", spec := "codecReads", inPlace := ["internal/reflectlite.ValueOf", "(internal/reflectlite.Value).Type", "(internal/reflectlite.Value).IsNil", "internal/reflectlite.TypeOf", "(internal/reflectlite.Value).Elem", "(internal/reflectlite.Value).Set"], unfollowed := true, recurses := true, named := ["errors.errorType"], apart := false, laid := [("errors.errorType", laid_errors_errorType)], narrowed := true }
def CodecReadsUptoSaid : Prop := codecReadsUptoRow.holds Tryd.pinned (OpenSpec.upto codecReadsSpec)

/-- 'latchkeylaw02.CodecThrough', WHERE WHAT IT READS IS OF BULK AT MOST 1048576: true; the input reads as it did. -/
def codecThroughUptoRow : OpenClaim := { program := "ytokephnlelpjhaadoor", sum := "09f763e75ee545cc448ed5723923479e2bbf471b06dbd9426927bc669886d30f", func := "latchkey/latchkeylaw02.CodecThrough", spec := "codecThrough", inPlace := ["internal/reflectlite.ValueOf", "(internal/reflectlite.Value).Type", "(internal/reflectlite.Value).IsNil", "internal/reflectlite.TypeOf", "(internal/reflectlite.Value).Elem", "(internal/reflectlite.Value).Set"], unfollowed := true, recurses := true, named := ["errors.errorType"], apart := false, laid := [("errors.errorType", laid_errors_errorType)], narrowed := true }
def CodecThroughUptoSaid : Prop := codecThroughUptoRow.holds Tryd.pinned (OpenSpec.upto codecThroughSpec)

/-- 'latchkeylaw02.CodecLetters', WHERE WHAT IT READS IS OF BULK AT MOST 1048576: true; the input reads as it did. -/
def codecLettersUptoRow : OpenClaim := { program := "ytokephnlelpjhaadoor", sum := "09f763e75ee545cc448ed5723923479e2bbf471b06dbd9426927bc669886d30f", func := "latchkey/latchkeylaw02.CodecLetters", spec := "codecLetters", inPlace := ["internal/reflectlite.ValueOf", "(internal/reflectlite.Value).Type", "(internal/reflectlite.Value).IsNil", "internal/reflectlite.TypeOf", "(internal/reflectlite.Value).Elem", "(internal/reflectlite.Value).Set"], unfollowed := true, recurses := true, named := ["errors.errorType"], apart := false, laid := [("errors.errorType", laid_errors_errorType)], narrowed := true }
def CodecLettersUptoSaid : Prop := codecLettersUptoRow.holds Tryd.pinned (OpenSpec.upto codecLettersSpec)

/-- 'latchkeylaw02.CodecBack', WHERE WHAT IT READS IS OF BULK AT MOST 1048576: true; the input reads as it did. -/
def codecBackUptoRow : OpenClaim := { program := "ytokephnlelpjhaadoor", sum := "09f763e75ee545cc448ed5723923479e2bbf471b06dbd9426927bc669886d30f", func := "latchkey/latchkeylaw02.CodecBack", spec := "codecBack", inPlace := ["internal/reflectlite.ValueOf", "(internal/reflectlite.Value).Type", "(internal/reflectlite.Value).IsNil", "internal/reflectlite.TypeOf", "(internal/reflectlite.Value).Elem", "(internal/reflectlite.Value).Set"], unfollowed := true, recurses := true, named := ["errors.errorType"], apart := false, laid := [("errors.errorType", laid_errors_errorType)], narrowed := true }
def CodecBackUptoSaid : Prop := codecBackUptoRow.holds Tryd.pinned (OpenSpec.upto codecBackSpec)

end Rows
end Go.Proofs.YtokephnlelpjhaaDoor
