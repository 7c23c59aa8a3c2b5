/-
  NARROWER THAN 'FOR EVERY INPUT', by the rows' own cells (each row's printed sentence says how): RecordSmall: laid · RecordOrder: laid · RecordCodes: laid · RecordClients: laid · RecordFamilies: laid · RecordOneWay: laid · RecordReads: laid.
  DERIVED. THE GIVEN ROWS OF THIS SEAT. 7 by the template 'for every input the law returns true; each argument reads behind the call as it read before'; 0 by the template 'total and deterministic' (their statements: YtabibfabieghpaaGreatDoorTotals.lean).
  GIVEN WITH THE SEED: the statements are not yours to turn. If you find one false, say at which input.
  Laid BY PROGRAM, IN A SANDBOX (cutbox-rows.mjs): the forced cells as the released guide's own fill.sh prints them over the translation 216ad2fcdc8503e4… (all of the seat's roots in one cut). By AI agents, Wed Nov 11 2026. No macro, syntax, notation, axiom, sorry.
-/
import Derived.Test.YtabibfabieghpaaGreatDoorChecked
import GoSem.PinnedTables
import GoSem.Claim
import GoSem.ClaimJoined
import GoSem.ClaimMapViews
import Derived.JoinedTies
import Derived.KernelRfl
namespace Go.Proofs.YtabibfabieghpaaGreatDoor
/- THE CELL 'sum', in the pinned program and in every row, IS THE sha256 OF THE DUMP (.gsa) THAT YtabibfabieghpaaGreatDoorProg.lean LOADS. Nothing in Lean hashes anything: it is a label: what it is worth is what the hold of that sum in a sandbox is worth. -/
noncomputable def Tryz.pinned : Pinned := { name := "ytabibfabieghpaagreatdoor", sum := "216ad2fcdc8503e43d377144971baf05997d33f42b07cdab1bc37c4b390a6add", checked := Tryz.checked }
namespace Rows
def none {H : Type} : Left H := { results := [], args := [] }

/- WHAT THE LISTED PACKAGE-LEVEL VARIABLES READ AS WHEN THE CALL BEGINS. Each datum BY PROGRAM (the guide's laid-datum.mjs) off the statement by which the dump's own 'gosem.cut.vars' lays the variable. In a bare row this is a premise. The card (YtabibfabieghpaaGreatDoorCards.lean) ties it to the program's text. -/
def laid_errors_errorType {H : Type} : DataW H := .iface "internal/reflectlite.rtype" (.agg [.ptr (.lit (.string [101, 114, 114, 111, 114]))])
def laid_unicode_utf8_acceptRanges {H : Type} : DataW H := .agg [.agg [.lit (.int .u8 128), .lit (.int .u8 191)], .agg [.lit (.int .u8 160), .lit (.int .u8 191)], .agg [.lit (.int .u8 128), .lit (.int .u8 159)], .agg [.lit (.int .u8 144), .lit (.int .u8 191)], .agg [.lit (.int .u8 128), .lit (.int .u8 143)], .agg [.lit (.int .u8 0), .lit (.int .u8 0)], .agg [.lit (.int .u8 0), .lit (.int .u8 0)], .agg [.lit (.int .u8 0), .lit (.int .u8 0)], .agg [.lit (.int .u8 0), .lit (.int .u8 0)], .agg [.lit (.int .u8 0), .lit (.int .u8 0)], .agg [.lit (.int .u8 0), .lit (.int .u8 0)], .agg [.lit (.int .u8 0), .lit (.int .u8 0)], .agg [.lit (.int .u8 0), .lit (.int .u8 0)], .agg [.lit (.int .u8 0), .lit (.int .u8 0)], .agg [.lit (.int .u8 0), .lit (.int .u8 0)], .agg [.lit (.int .u8 0), .lit (.int .u8 0)]]
/-- One of Go's own tables, pinned by name: the form's constant. -/
def laid_unicode_utf8_first : DataW Unit := Go.Pinned.utf8First

/-- 'latchkeylaw14.RecordSmall': WHATEVER THE INPUT: true; the input reads as it did. -/
def recordSmallSpec : ChangeSpec := { name := "recordSmall", fn := fun _ => fun
  | [d] => { results := [.lit (.bool true)], args := [d] }
  | _ => none }
def recordSmallRow : OpenClaim := { program := "ytabibfabieghpaagreatdoor", sum := "216ad2fcdc8503e43d377144971baf05997d33f42b07cdab1bc37c4b390a6add", func := "latchkey/latchkeylaw14.RecordSmall", spec := "recordSmall", inPlace := ["internal/reflectlite.ValueOf", "(internal/reflectlite.Value).Type", "(internal/reflectlite.Value).IsNil", "internal/reflectlite.TypeOf", "(internal/reflectlite.Value).Elem", "(internal/reflectlite.Value).Set", "internal/bytealg.IndexByteString", "internal/bytealg.IndexString", "internal/abi.NoEscape", "internal/bytealg.MakeNoZero"], unfollowed := true, recurses := true, named := ["errors.errorType", "internal/bytealg.MaxLen"], apart := false, laid := [("errors.errorType", laid_errors_errorType)] }
def RecordSmallSaid : Prop := recordSmallRow.holds Tryz.pinned (OpenSpec.ofChange recordSmallSpec)

/-- ITS FALSE NEIGHBOUR: 'it returns false'. Refute it at one input. -/
def recordSmallWrong : ChangeSpec := { name := "recordSmall", fn := fun _ => fun
  | [d] => { results := [.lit (.bool false)], args := [d] }
  | _ => none }
def RecordSmallWrongFalsely : Prop := recordSmallRow.holds Tryz.pinned (OpenSpec.ofChange recordSmallWrong)

/-- 'latchkeylaw14.RecordOrder': WHATEVER THE INPUT: true; the input reads as it did. -/
def recordOrderSpec : ChangeSpec := { name := "recordOrder", fn := fun _ => fun
  | [d1, d2, d3, d4] => { results := [.lit (.bool true)], args := [d1, d2, d3, d4] }
  | _ => none }
def recordOrderRow : OpenClaim := { program := "ytabibfabieghpaagreatdoor", sum := "216ad2fcdc8503e43d377144971baf05997d33f42b07cdab1bc37c4b390a6add", func := "latchkey/latchkeylaw14.RecordOrder", spec := "recordOrder", inPlace := ["internal/reflectlite.ValueOf", "(internal/reflectlite.Value).Type", "(internal/reflectlite.Value).IsNil", "internal/reflectlite.TypeOf", "(internal/reflectlite.Value).Elem", "(internal/reflectlite.Value).Set", "internal/bytealg.IndexByteString", "internal/bytealg.IndexString", "internal/abi.NoEscape", "internal/bytealg.MakeNoZero"], unfollowed := true, recurses := true, named := ["errors.errorType", "internal/bytealg.MaxLen"], apart := false, laid := [("errors.errorType", laid_errors_errorType)] }
def RecordOrderSaid : Prop := recordOrderRow.holds Tryz.pinned (OpenSpec.ofChange recordOrderSpec)

/-- ITS FALSE NEIGHBOUR: 'it returns false'. Refute it at one input. -/
def recordOrderWrong : ChangeSpec := { name := "recordOrder", fn := fun _ => fun
  | [d1, d2, d3, d4] => { results := [.lit (.bool false)], args := [d1, d2, d3, d4] }
  | _ => none }
def RecordOrderWrongFalsely : Prop := recordOrderRow.holds Tryz.pinned (OpenSpec.ofChange recordOrderWrong)

/-- 'latchkeylaw14.RecordCodes': WHATEVER THE INPUT: true; the input reads as it did. -/
def recordCodesSpec : ChangeSpec := { name := "recordCodes", fn := fun _ => fun
  | [d1, d2] => { results := [.lit (.bool true)], args := [d1, d2] }
  | _ => none }
def recordCodesRow : OpenClaim := { program := "ytabibfabieghpaagreatdoor", sum := "216ad2fcdc8503e43d377144971baf05997d33f42b07cdab1bc37c4b390a6add", func := "latchkey/latchkeylaw14.RecordCodes", spec := "recordCodes", inPlace := ["internal/reflectlite.ValueOf", "(internal/reflectlite.Value).Type", "(internal/reflectlite.Value).IsNil", "internal/reflectlite.TypeOf", "(internal/reflectlite.Value).Elem", "(internal/reflectlite.Value).Set", "internal/bytealg.IndexByteString", "internal/bytealg.IndexString", "internal/abi.NoEscape", "internal/bytealg.MakeNoZero", "internal/bytealg.CountString"], unfollowed := true, recurses := true, named := ["errors.errorType", "unicode/utf8.first", "unicode/utf8.acceptRanges", "internal/bytealg.MaxLen"], apart := false, laid := [("unicode/utf8.acceptRanges", laid_unicode_utf8_acceptRanges), ("errors.errorType", laid_errors_errorType), ("unicode/utf8.first", laid_unicode_utf8_first)] }
def RecordCodesSaid : Prop := recordCodesRow.holds Tryz.pinned (OpenSpec.ofChange recordCodesSpec)

/-- ITS FALSE NEIGHBOUR: 'it returns false'. Refute it at one input. -/
def recordCodesWrong : ChangeSpec := { name := "recordCodes", fn := fun _ => fun
  | [d1, d2] => { results := [.lit (.bool false)], args := [d1, d2] }
  | _ => none }
def RecordCodesWrongFalsely : Prop := recordCodesRow.holds Tryz.pinned (OpenSpec.ofChange recordCodesWrong)

/-- 'latchkeylaw14.RecordClients': WHATEVER THE INPUT: true; the input reads as it did. -/
def recordClientsSpec : ChangeSpec := { name := "recordClients", fn := fun _ => fun
  | [d1, d2] => { results := [.lit (.bool true)], args := [d1, d2] }
  | _ => none }
def recordClientsRow : OpenClaim := { program := "ytabibfabieghpaagreatdoor", sum := "216ad2fcdc8503e43d377144971baf05997d33f42b07cdab1bc37c4b390a6add", func := "latchkey/latchkeylaw14.RecordClients", spec := "recordClients", inPlace := ["internal/reflectlite.ValueOf", "(internal/reflectlite.Value).Type", "(internal/reflectlite.Value).IsNil", "internal/reflectlite.TypeOf", "(internal/reflectlite.Value).Elem", "(internal/reflectlite.Value).Set", "internal/bytealg.IndexByteString", "internal/bytealg.IndexString", "internal/abi.NoEscape", "internal/bytealg.MakeNoZero", "internal/bytealg.CountString"], unfollowed := true, recurses := true, named := ["errors.errorType", "unicode/utf8.first", "unicode/utf8.acceptRanges", "internal/bytealg.MaxLen"], apart := false, laid := [("unicode/utf8.acceptRanges", laid_unicode_utf8_acceptRanges), ("errors.errorType", laid_errors_errorType), ("unicode/utf8.first", laid_unicode_utf8_first)] }
def RecordClientsSaid : Prop := recordClientsRow.holds Tryz.pinned (OpenSpec.ofChange recordClientsSpec)

/-- ITS FALSE NEIGHBOUR: 'it returns false'. Refute it at one input. -/
def recordClientsWrong : ChangeSpec := { name := "recordClients", fn := fun _ => fun
  | [d1, d2] => { results := [.lit (.bool false)], args := [d1, d2] }
  | _ => none }
def RecordClientsWrongFalsely : Prop := recordClientsRow.holds Tryz.pinned (OpenSpec.ofChange recordClientsWrong)

/-- 'latchkeylaw14.RecordFamilies': WHATEVER THE INPUT: true; the input reads as it did. -/
def recordFamiliesSpec : ChangeSpec := { name := "recordFamilies", fn := fun _ => fun
  | [d1, d2] => { results := [.lit (.bool true)], args := [d1, d2] }
  | _ => none }
def recordFamiliesRow : OpenClaim := { program := "ytabibfabieghpaagreatdoor", sum := "216ad2fcdc8503e43d377144971baf05997d33f42b07cdab1bc37c4b390a6add", func := "latchkey/latchkeylaw14.RecordFamilies", spec := "recordFamilies", inPlace := ["internal/reflectlite.ValueOf", "(internal/reflectlite.Value).Type", "(internal/reflectlite.Value).IsNil", "internal/reflectlite.TypeOf", "(internal/reflectlite.Value).Elem", "(internal/reflectlite.Value).Set", "internal/bytealg.IndexByteString", "internal/bytealg.IndexString", "internal/abi.NoEscape", "internal/bytealg.MakeNoZero", "internal/bytealg.CountString"], unfollowed := true, recurses := true, named := ["errors.errorType", "unicode/utf8.first", "unicode/utf8.acceptRanges", "internal/bytealg.MaxLen"], apart := false, laid := [("unicode/utf8.acceptRanges", laid_unicode_utf8_acceptRanges), ("errors.errorType", laid_errors_errorType), ("unicode/utf8.first", laid_unicode_utf8_first)] }
def RecordFamiliesSaid : Prop := recordFamiliesRow.holds Tryz.pinned (OpenSpec.ofChange recordFamiliesSpec)

/-- ITS FALSE NEIGHBOUR: 'it returns false'. Refute it at one input. -/
def recordFamiliesWrong : ChangeSpec := { name := "recordFamilies", fn := fun _ => fun
  | [d1, d2] => { results := [.lit (.bool false)], args := [d1, d2] }
  | _ => none }
def RecordFamiliesWrongFalsely : Prop := recordFamiliesRow.holds Tryz.pinned (OpenSpec.ofChange recordFamiliesWrong)

/-- 'latchkeylaw14.RecordOneWay': WHATEVER THE INPUT: true; the input reads as it did. -/
def recordOneWaySpec : ChangeSpec := { name := "recordOneWay", fn := fun _ => fun
  | [d] => { results := [.lit (.bool true)], args := [d] }
  | _ => none }
def recordOneWayRow : OpenClaim := { program := "ytabibfabieghpaagreatdoor", sum := "216ad2fcdc8503e43d377144971baf05997d33f42b07cdab1bc37c4b390a6add", func := "latchkey/latchkeylaw14.RecordOneWay", spec := "recordOneWay", inPlace := ["internal/reflectlite.ValueOf", "(internal/reflectlite.Value).Type", "(internal/reflectlite.Value).IsNil", "internal/reflectlite.TypeOf", "(internal/reflectlite.Value).Elem", "(internal/reflectlite.Value).Set", "internal/bytealg.CountString", "internal/bytealg.IndexByteString", "internal/bytealg.IndexString", "internal/abi.NoEscape", "internal/bytealg.MakeNoZero"], unfollowed := true, recurses := true, named := ["errors.errorType", "unicode/utf8.first", "unicode/utf8.acceptRanges", "internal/bytealg.MaxLen"], apart := false, laid := [("unicode/utf8.acceptRanges", laid_unicode_utf8_acceptRanges), ("errors.errorType", laid_errors_errorType), ("unicode/utf8.first", laid_unicode_utf8_first)] }
def RecordOneWaySaid : Prop := recordOneWayRow.holds Tryz.pinned (OpenSpec.ofChange recordOneWaySpec)

/-- ITS FALSE NEIGHBOUR: 'it returns false'. Refute it at one input. -/
def recordOneWayWrong : ChangeSpec := { name := "recordOneWay", fn := fun _ => fun
  | [d] => { results := [.lit (.bool false)], args := [d] }
  | _ => none }
def RecordOneWayWrongFalsely : Prop := recordOneWayRow.holds Tryz.pinned (OpenSpec.ofChange recordOneWayWrong)

/-- 'latchkeylaw14.RecordReads': WHATEVER THE INPUT: true; the input reads as it did. -/
def recordReadsSpec : ChangeSpec := { name := "recordReads", fn := fun _ => fun
  | [d1, d2] => { results := [.lit (.bool true)], args := [d1, d2] }
  | _ => none }
def recordReadsRow : OpenClaim := { program := "ytabibfabieghpaagreatdoor", sum := "216ad2fcdc8503e43d377144971baf05997d33f42b07cdab1bc37c4b390a6add", func := "latchkey/latchkeylaw14.RecordReads", spec := "recordReads", inPlace := ["internal/reflectlite.ValueOf", "(internal/reflectlite.Value).Type", "(internal/reflectlite.Value).IsNil", "internal/reflectlite.TypeOf", "(internal/reflectlite.Value).Elem", "(internal/reflectlite.Value).Set", "internal/bytealg.CountString", "internal/bytealg.IndexByteString", "internal/bytealg.IndexString", "internal/abi.NoEscape", "internal/bytealg.MakeNoZero"], unfollowed := true, recurses := true, named := ["errors.errorType", "unicode/utf8.first", "unicode/utf8.acceptRanges", "internal/bytealg.MaxLen"], apart := false, laid := [("unicode/utf8.acceptRanges", laid_unicode_utf8_acceptRanges), ("errors.errorType", laid_errors_errorType), ("unicode/utf8.first", laid_unicode_utf8_first)] }
def RecordReadsSaid : Prop := recordReadsRow.holds Tryz.pinned (OpenSpec.ofChange recordReadsSpec)

/-- ITS FALSE NEIGHBOUR: 'it returns false'. Refute it at one input. -/
def recordReadsWrong : ChangeSpec := { name := "recordReads", fn := fun _ => fun
  | [d1, d2] => { results := [.lit (.bool false)], args := [d1, d2] }
  | _ => none }
def RecordReadsWrongFalsely : Prop := recordReadsRow.holds Tryz.pinned (OpenSpec.ofChange recordReadsWrong)

/- THE SECOND FORM. 'bulk': how many values and letters a reading holds, each counted each time it is reached (what is shared counts as often as it is met; a slice's spare places count too). A statement '..UptoSaid' is the law's where the arguments, and the package variables that the reading takes, are together of bulk at most 1048576: NARROWER than '..Said'. Prove '..Said' where nothing that the law and all that it calls make is longer than what came in: it says more and counts as full. Else prove '..UptoSaid'. A law counts once. -/
mutual
def uptoBulk {H : Type} : DataW H → Nat
  | .lit (.string bytes) => bytes.length + 1
  | .lit _ => 1
  | .nil => 1
  | .ptr d => uptoBulk d + 1
  | .slice elems spare => uptoBulkAll elems + uptoBulkAll spare + 1
  | .agg parts => uptoBulkAll parts + 1
  | .iface _ d => uptoBulk d + 1
  | .map entries => uptoBulkEntries entries + 1
  | .held _ => 1
def uptoBulkAll {H : Type} : List (DataW H) → Nat
  | [] => 0
  | d :: r => uptoBulk d + uptoBulkAll r
def uptoBulkEntries {H : Type} : List (Lit × DataW H) → Nat
  | [] => 0
  | x :: r => uptoBulkEntry x + uptoBulkEntries r
def uptoBulkEntry {H : Type} : Lit × DataW H → Nat
  | (.string bytes, d) => bytes.length + uptoBulk d + 1
  | (_, d) => uptoBulk d + 1
 end
def uptoSmall : (H : Type) → List (DataW H) → Bool := fun _ ds => decide (uptoBulkAll ds ≤ 1048576)
def OpenSpec.upto (s : _root_.Go.ChangeSpec) : _root_.Go.OpenSpec := { _root_.Go.OpenSpec.ofChange s with cond := some uptoSmall }

/-- 'latchkeylaw14.RecordSmall', WHERE WHAT IT READS IS OF BULK AT MOST 1048576: true; the input reads as it did. -/
def recordSmallUptoRow : OpenClaim := { program := "ytabibfabieghpaagreatdoor", sum := "216ad2fcdc8503e43d377144971baf05997d33f42b07cdab1bc37c4b390a6add", func := "latchkey/latchkeylaw14.RecordSmall", spec := "recordSmall", inPlace := ["internal/reflectlite.ValueOf", "(internal/reflectlite.Value).Type", "(internal/reflectlite.Value).IsNil", "internal/reflectlite.TypeOf", "(internal/reflectlite.Value).Elem", "(internal/reflectlite.Value).Set", "internal/bytealg.IndexByteString", "internal/bytealg.IndexString", "internal/abi.NoEscape", "internal/bytealg.MakeNoZero"], unfollowed := true, recurses := true, named := ["errors.errorType", "internal/bytealg.MaxLen"], apart := false, laid := [("errors.errorType", laid_errors_errorType)], narrowed := true }
def RecordSmallUptoSaid : Prop := recordSmallUptoRow.holds Tryz.pinned (OpenSpec.upto recordSmallSpec)

/-- 'latchkeylaw14.RecordOrder', WHERE WHAT IT READS IS OF BULK AT MOST 1048576: true; the input reads as it did. -/
def recordOrderUptoRow : OpenClaim := { program := "ytabibfabieghpaagreatdoor", sum := "216ad2fcdc8503e43d377144971baf05997d33f42b07cdab1bc37c4b390a6add", func := "latchkey/latchkeylaw14.RecordOrder", spec := "recordOrder", inPlace := ["internal/reflectlite.ValueOf", "(internal/reflectlite.Value).Type", "(internal/reflectlite.Value).IsNil", "internal/reflectlite.TypeOf", "(internal/reflectlite.Value).Elem", "(internal/reflectlite.Value).Set", "internal/bytealg.IndexByteString", "internal/bytealg.IndexString", "internal/abi.NoEscape", "internal/bytealg.MakeNoZero"], unfollowed := true, recurses := true, named := ["errors.errorType", "internal/bytealg.MaxLen"], apart := false, laid := [("errors.errorType", laid_errors_errorType)], narrowed := true }
def RecordOrderUptoSaid : Prop := recordOrderUptoRow.holds Tryz.pinned (OpenSpec.upto recordOrderSpec)

/-- 'latchkeylaw14.RecordCodes', WHERE WHAT IT READS IS OF BULK AT MOST 1048576: true; the input reads as it did. -/
def recordCodesUptoRow : OpenClaim := { program := "ytabibfabieghpaagreatdoor", sum := "216ad2fcdc8503e43d377144971baf05997d33f42b07cdab1bc37c4b390a6add", func := "latchkey/latchkeylaw14.RecordCodes", spec := "recordCodes", inPlace := ["internal/reflectlite.ValueOf", "(internal/reflectlite.Value).Type", "(internal/reflectlite.Value).IsNil", "internal/reflectlite.TypeOf", "(internal/reflectlite.Value).Elem", "(internal/reflectlite.Value).Set", "internal/bytealg.IndexByteString", "internal/bytealg.IndexString", "internal/abi.NoEscape", "internal/bytealg.MakeNoZero", "internal/bytealg.CountString"], unfollowed := true, recurses := true, named := ["errors.errorType", "unicode/utf8.first", "unicode/utf8.acceptRanges", "internal/bytealg.MaxLen"], apart := false, laid := [("unicode/utf8.acceptRanges", laid_unicode_utf8_acceptRanges), ("errors.errorType", laid_errors_errorType), ("unicode/utf8.first", laid_unicode_utf8_first)], narrowed := true }
def RecordCodesUptoSaid : Prop := recordCodesUptoRow.holds Tryz.pinned (OpenSpec.upto recordCodesSpec)

/-- 'latchkeylaw14.RecordClients', WHERE WHAT IT READS IS OF BULK AT MOST 1048576: true; the input reads as it did. -/
def recordClientsUptoRow : OpenClaim := { program := "ytabibfabieghpaagreatdoor", sum := "216ad2fcdc8503e43d377144971baf05997d33f42b07cdab1bc37c4b390a6add", func := "latchkey/latchkeylaw14.RecordClients", spec := "recordClients", inPlace := ["internal/reflectlite.ValueOf", "(internal/reflectlite.Value).Type", "(internal/reflectlite.Value).IsNil", "internal/reflectlite.TypeOf", "(internal/reflectlite.Value).Elem", "(internal/reflectlite.Value).Set", "internal/bytealg.IndexByteString", "internal/bytealg.IndexString", "internal/abi.NoEscape", "internal/bytealg.MakeNoZero", "internal/bytealg.CountString"], unfollowed := true, recurses := true, named := ["errors.errorType", "unicode/utf8.first", "unicode/utf8.acceptRanges", "internal/bytealg.MaxLen"], apart := false, laid := [("unicode/utf8.acceptRanges", laid_unicode_utf8_acceptRanges), ("errors.errorType", laid_errors_errorType), ("unicode/utf8.first", laid_unicode_utf8_first)], narrowed := true }
def RecordClientsUptoSaid : Prop := recordClientsUptoRow.holds Tryz.pinned (OpenSpec.upto recordClientsSpec)

/-- 'latchkeylaw14.RecordFamilies', WHERE WHAT IT READS IS OF BULK AT MOST 1048576: true; the input reads as it did. -/
def recordFamiliesUptoRow : OpenClaim := { program := "ytabibfabieghpaagreatdoor", sum := "216ad2fcdc8503e43d377144971baf05997d33f42b07cdab1bc37c4b390a6add", func := "latchkey/latchkeylaw14.RecordFamilies", spec := "recordFamilies", inPlace := ["internal/reflectlite.ValueOf", "(internal/reflectlite.Value).Type", "(internal/reflectlite.Value).IsNil", "internal/reflectlite.TypeOf", "(internal/reflectlite.Value).Elem", "(internal/reflectlite.Value).Set", "internal/bytealg.IndexByteString", "internal/bytealg.IndexString", "internal/abi.NoEscape", "internal/bytealg.MakeNoZero", "internal/bytealg.CountString"], unfollowed := true, recurses := true, named := ["errors.errorType", "unicode/utf8.first", "unicode/utf8.acceptRanges", "internal/bytealg.MaxLen"], apart := false, laid := [("unicode/utf8.acceptRanges", laid_unicode_utf8_acceptRanges), ("errors.errorType", laid_errors_errorType), ("unicode/utf8.first", laid_unicode_utf8_first)], narrowed := true }
def RecordFamiliesUptoSaid : Prop := recordFamiliesUptoRow.holds Tryz.pinned (OpenSpec.upto recordFamiliesSpec)

/-- 'latchkeylaw14.RecordOneWay', WHERE WHAT IT READS IS OF BULK AT MOST 1048576: true; the input reads as it did. -/
def recordOneWayUptoRow : OpenClaim := { program := "ytabibfabieghpaagreatdoor", sum := "216ad2fcdc8503e43d377144971baf05997d33f42b07cdab1bc37c4b390a6add", func := "latchkey/latchkeylaw14.RecordOneWay", spec := "recordOneWay", inPlace := ["internal/reflectlite.ValueOf", "(internal/reflectlite.Value).Type", "(internal/reflectlite.Value).IsNil", "internal/reflectlite.TypeOf", "(internal/reflectlite.Value).Elem", "(internal/reflectlite.Value).Set", "internal/bytealg.CountString", "internal/bytealg.IndexByteString", "internal/bytealg.IndexString", "internal/abi.NoEscape", "internal/bytealg.MakeNoZero"], unfollowed := true, recurses := true, named := ["errors.errorType", "unicode/utf8.first", "unicode/utf8.acceptRanges", "internal/bytealg.MaxLen"], apart := false, laid := [("unicode/utf8.acceptRanges", laid_unicode_utf8_acceptRanges), ("errors.errorType", laid_errors_errorType), ("unicode/utf8.first", laid_unicode_utf8_first)], narrowed := true }
def RecordOneWayUptoSaid : Prop := recordOneWayUptoRow.holds Tryz.pinned (OpenSpec.upto recordOneWaySpec)

/-- 'latchkeylaw14.RecordReads', WHERE WHAT IT READS IS OF BULK AT MOST 1048576: true; the input reads as it did. -/
def recordReadsUptoRow : OpenClaim := { program := "ytabibfabieghpaagreatdoor", sum := "216ad2fcdc8503e43d377144971baf05997d33f42b07cdab1bc37c4b390a6add", func := "latchkey/latchkeylaw14.RecordReads", spec := "recordReads", inPlace := ["internal/reflectlite.ValueOf", "(internal/reflectlite.Value).Type", "(internal/reflectlite.Value).IsNil", "internal/reflectlite.TypeOf", "(internal/reflectlite.Value).Elem", "(internal/reflectlite.Value).Set", "internal/bytealg.CountString", "internal/bytealg.IndexByteString", "internal/bytealg.IndexString", "internal/abi.NoEscape", "internal/bytealg.MakeNoZero"], unfollowed := true, recurses := true, named := ["errors.errorType", "unicode/utf8.first", "unicode/utf8.acceptRanges", "internal/bytealg.MaxLen"], apart := false, laid := [("unicode/utf8.acceptRanges", laid_unicode_utf8_acceptRanges), ("errors.errorType", laid_errors_errorType), ("unicode/utf8.first", laid_unicode_utf8_first)], narrowed := true }
def RecordReadsUptoSaid : Prop := recordReadsUptoRow.holds Tryz.pinned (OpenSpec.upto recordReadsSpec)

end Rows
end Go.Proofs.YtabibfabieghpaaGreatDoor
