/-
  NARROWER THAN 'FOR EVERY INPUT', by the rows' own cells (each row's printed sentence says how): TokenParses: laid · TokenTyped: laid · TokenMints: laid · TokenBack: laid.
  DERIVED. THE GIVEN ROWS OF THIS SEAT. 4 by the template 'for every input the law returns true; each argument reads behind the call as it read before'; 0 by the template 'total and deterministic' (their statements: YtilcilbmbhbakaaDoorTotals.lean).
  GIVEN WITH THE SEED: the statements are not yours to turn. If you find one false, say at which input.
  Laid BY PROGRAM, IN A SANDBOX (cutbox-rows.mjs): the forced cells as the released guide's own fill.sh prints them over the translation 414167ac168112c5… (all of the seat's roots in one cut). By AI agents, Wed Nov 11 2026. No macro, syntax, notation, axiom, sorry.
-/
import Derived.Test.YtilcilbmbhbakaaDoorChecked
import GoSem.Claim
import GoSem.ClaimJoined
import GoSem.ClaimMapViews
import Derived.JoinedTies
import Derived.KernelRfl
namespace Go.Proofs.YtilcilbmbhbakaaDoor
/- THE CELL 'sum', in the pinned program and in every row, IS THE sha256 OF THE DUMP (.gsa) THAT YtilcilbmbhbakaaDoorProg.lean LOADS. Nothing in Lean hashes anything: it is a label: what it is worth is what the hold of that sum in a sandbox is worth. -/
noncomputable def Tryd.pinned : Pinned := { name := "ytilcilbmbhbakaadoor", sum := "414167ac168112c51735af4c9f027d4018a036240c0771c73a129ed2c0e46b7c", checked := Tryd.checked }
namespace Rows
def none {H : Type} : Left H := { results := [], args := [] }

/- WHAT THE LISTED PACKAGE-LEVEL VARIABLES READ AS WHEN THE CALL BEGINS. Each datum BY PROGRAM (the guide's laid-datum.mjs) off the statement by which the dump's own 'gosem.cut.vars' lays the variable. In a bare row this is a premise. The card (YtilcilbmbhbakaaDoorCards.lean) ties it to the program's text. -/
def laid_errors_errorType {H : Type} : DataW H := .iface "internal/reflectlite.rtype" (.agg [.ptr (.lit (.string [101, 114, 114, 111, 114]))])
def laid_latchkey_token_errKind {H : Type} : DataW H := .iface "*errors.errorString" (.ptr (.agg [.lit (.string [111, 102, 32, 116, 104, 101, 32, 111, 116, 104, 101, 114, 32, 107, 105, 110, 100])]))
def laid_latchkey_token_errForm {H : Type} : DataW H := .iface "*errors.errorString" (.ptr (.agg [.lit (.string [110, 111, 32, 116, 111, 107, 101, 110])]))
def laid_latchkey_token_errCheck {H : Type} : DataW H := .iface "*errors.errorString" (.ptr (.agg [.lit (.string [109, 105, 115, 116, 121, 112, 101, 100])]))

/-- 'latchkeylaw17.TokenParses': WHATEVER THE INPUT: true; the input reads as it did. -/
def tokenParsesSpec : ChangeSpec := { name := "tokenParses", fn := fun _ => fun
  | [d1, d2] => { results := [.lit (.bool true)], args := [d1, d2] }
  | _ => none }
def tokenParsesRow : OpenClaim := { program := "ytilcilbmbhbakaadoor", sum := "414167ac168112c51735af4c9f027d4018a036240c0771c73a129ed2c0e46b7c", func := "latchkey/latchkeylaw17.TokenParses", spec := "tokenParses", inPlace := ["internal/reflectlite.ValueOf", "(internal/reflectlite.Value).Type", "(internal/reflectlite.Value).IsNil", "internal/reflectlite.TypeOf", "(internal/reflectlite.Value).Elem", "(internal/reflectlite.Value).Set"], unfollowed := true, recurses := true, named := ["errors.errorType", "latchkey/token.errKind", "latchkey/token.errForm", "latchkey/token.errCheck"], apart := false, laid := [("errors.errorType", laid_errors_errorType), ("latchkey/token.errKind", laid_latchkey_token_errKind), ("latchkey/token.errForm", laid_latchkey_token_errForm), ("latchkey/token.errCheck", laid_latchkey_token_errCheck)] }
def TokenParsesSaid : Prop := tokenParsesRow.holds Tryd.pinned (OpenSpec.ofChange tokenParsesSpec)

/-- ITS FALSE NEIGHBOUR: 'it returns false'. Refute it at one input. -/
def tokenParsesWrong : ChangeSpec := { name := "tokenParses", fn := fun _ => fun
  | [d1, d2] => { results := [.lit (.bool false)], args := [d1, d2] }
  | _ => none }
def TokenParsesWrongFalsely : Prop := tokenParsesRow.holds Tryd.pinned (OpenSpec.ofChange tokenParsesWrong)

/-- 'latchkeylaw17.TokenTyped': WHATEVER THE INPUT: true; the input reads as it did. -/
def tokenTypedSpec : ChangeSpec := { name := "tokenTyped", fn := fun _ => fun
  | [d1, d2, d3, d4, d5] => { results := [.lit (.bool true)], args := [d1, d2, d3, d4, d5] }
  | _ => none }
def tokenTypedRow : OpenClaim := { program := "ytilcilbmbhbakaadoor", sum := "414167ac168112c51735af4c9f027d4018a036240c0771c73a129ed2c0e46b7c", func := "latchkey/latchkeylaw17.TokenTyped", spec := "tokenTyped", inPlace := ["internal/reflectlite.ValueOf", "(internal/reflectlite.Value).Type", "(internal/reflectlite.Value).IsNil", "internal/reflectlite.TypeOf", "(internal/reflectlite.Value).Elem", "(internal/reflectlite.Value).Set"], unfollowed := true, recurses := true, named := ["errors.errorType", "latchkey/token.errKind", "latchkey/token.errForm", "latchkey/token.errCheck"], apart := false, laid := [("errors.errorType", laid_errors_errorType), ("latchkey/token.errKind", laid_latchkey_token_errKind), ("latchkey/token.errForm", laid_latchkey_token_errForm), ("latchkey/token.errCheck", laid_latchkey_token_errCheck)] }
def TokenTypedSaid : Prop := tokenTypedRow.holds Tryd.pinned (OpenSpec.ofChange tokenTypedSpec)

/-- ITS FALSE NEIGHBOUR: 'it returns false'. Refute it at one input. -/
def tokenTypedWrong : ChangeSpec := { name := "tokenTyped", fn := fun _ => fun
  | [d1, d2, d3, d4, d5] => { results := [.lit (.bool false)], args := [d1, d2, d3, d4, d5] }
  | _ => none }
def TokenTypedWrongFalsely : Prop := tokenTypedRow.holds Tryd.pinned (OpenSpec.ofChange tokenTypedWrong)

/-- 'latchkeylaw17.TokenMints': WHATEVER THE INPUT: true; the input reads as it did. -/
def tokenMintsSpec : ChangeSpec := { name := "tokenMints", fn := fun _ => fun
  | [d1, d2, d3] => { results := [.lit (.bool true)], args := [d1, d2, d3] }
  | _ => none }
def tokenMintsRow : OpenClaim := { program := "ytilcilbmbhbakaadoor", sum := "414167ac168112c51735af4c9f027d4018a036240c0771c73a129ed2c0e46b7c", func := "latchkey/latchkeylaw17.TokenMints", spec := "tokenMints", inPlace := ["internal/reflectlite.ValueOf", "(internal/reflectlite.Value).Type", "(internal/reflectlite.Value).IsNil", "internal/reflectlite.TypeOf", "(internal/reflectlite.Value).Elem", "(internal/reflectlite.Value).Set"], unfollowed := true, recurses := true, named := ["errors.errorType", "latchkey/token.errKind", "latchkey/token.errForm", "latchkey/token.errCheck"], apart := false, laid := [("errors.errorType", laid_errors_errorType), ("latchkey/token.errKind", laid_latchkey_token_errKind), ("latchkey/token.errForm", laid_latchkey_token_errForm), ("latchkey/token.errCheck", laid_latchkey_token_errCheck)] }
def TokenMintsSaid : Prop := tokenMintsRow.holds Tryd.pinned (OpenSpec.ofChange tokenMintsSpec)

/-- ITS FALSE NEIGHBOUR: 'it returns false'. Refute it at one input. -/
def tokenMintsWrong : ChangeSpec := { name := "tokenMints", fn := fun _ => fun
  | [d1, d2, d3] => { results := [.lit (.bool false)], args := [d1, d2, d3] }
  | _ => none }
def TokenMintsWrongFalsely : Prop := tokenMintsRow.holds Tryd.pinned (OpenSpec.ofChange tokenMintsWrong)

/-- 'latchkeylaw17.TokenBack': WHATEVER THE INPUT: true; the input reads as it did. -/
def tokenBackSpec : ChangeSpec := { name := "tokenBack", fn := fun _ => fun
  | [d1, d2, d3, d4, d5, d6] => { results := [.lit (.bool true)], args := [d1, d2, d3, d4, d5, d6] }
  | _ => none }
def tokenBackRow : OpenClaim := { program := "ytilcilbmbhbakaadoor", sum := "414167ac168112c51735af4c9f027d4018a036240c0771c73a129ed2c0e46b7c", func := "latchkey/latchkeylaw17.TokenBack", spec := "tokenBack", inPlace := ["internal/reflectlite.ValueOf", "(internal/reflectlite.Value).Type", "(internal/reflectlite.Value).IsNil", "internal/reflectlite.TypeOf", "(internal/reflectlite.Value).Elem", "(internal/reflectlite.Value).Set"], unfollowed := true, recurses := true, named := ["errors.errorType", "latchkey/token.errKind", "latchkey/token.errForm", "latchkey/token.errCheck"], apart := false, laid := [("errors.errorType", laid_errors_errorType), ("latchkey/token.errKind", laid_latchkey_token_errKind), ("latchkey/token.errForm", laid_latchkey_token_errForm), ("latchkey/token.errCheck", laid_latchkey_token_errCheck)] }
def TokenBackSaid : Prop := tokenBackRow.holds Tryd.pinned (OpenSpec.ofChange tokenBackSpec)

/-- ITS FALSE NEIGHBOUR: 'it returns false'. Refute it at one input. -/
def tokenBackWrong : ChangeSpec := { name := "tokenBack", fn := fun _ => fun
  | [d1, d2, d3, d4, d5, d6] => { results := [.lit (.bool false)], args := [d1, d2, d3, d4, d5, d6] }
  | _ => none }
def TokenBackWrongFalsely : Prop := tokenBackRow.holds Tryd.pinned (OpenSpec.ofChange tokenBackWrong)

/- THE SECOND FORM. 'bulk': how many values and letters a reading holds, each counted each time it is reached (what is shared counts as often as it is met; a slice's spare places count too). A statement '..UptoSaid' is the law's where the arguments, and the package variables that the reading takes, are together of bulk at most 1048576: NARROWER than '..Said'. Prove '..Said' where nothing that the law and all that it calls make is longer than what came in: it says more and counts as full. Else prove '..UptoSaid'. A law counts once. -/
mutual
def uptoBulk {H : Type} : DataW H → Nat
  | .lit (.string bytes) => bytes.length + 1
  | .lit _ => 1
  | .nil => 1
  | .ptr d => uptoBulk d + 1
  | .slice elems spare => uptoBulkAll elems + uptoBulkAll spare + 1
  | .agg parts => uptoBulkAll parts + 1
  | .iface _ d => uptoBulk d + 1
  | .map entries => uptoBulkEntries entries + 1
  | .held _ => 1
def uptoBulkAll {H : Type} : List (DataW H) → Nat
  | [] => 0
  | d :: r => uptoBulk d + uptoBulkAll r
def uptoBulkEntries {H : Type} : List (Lit × DataW H) → Nat
  | [] => 0
  | x :: r => uptoBulkEntry x + uptoBulkEntries r
def uptoBulkEntry {H : Type} : Lit × DataW H → Nat
  | (.string bytes, d) => bytes.length + uptoBulk d + 1
  | (_, d) => uptoBulk d + 1
 end
def uptoSmall : (H : Type) → List (DataW H) → Bool := fun _ ds => decide (uptoBulkAll ds ≤ 1048576)
def OpenSpec.upto (s : _root_.Go.ChangeSpec) : _root_.Go.OpenSpec := { _root_.Go.OpenSpec.ofChange s with cond := some uptoSmall }

/-- 'latchkeylaw17.TokenParses', WHERE WHAT IT READS IS OF BULK AT MOST 1048576: true; the input reads as it did. -/
def tokenParsesUptoRow : OpenClaim := { program := "ytilcilbmbhbakaadoor", sum := "414167ac168112c51735af4c9f027d4018a036240c0771c73a129ed2c0e46b7c", func := "latchkey/latchkeylaw17.TokenParses", spec := "tokenParses", inPlace := ["internal/reflectlite.ValueOf", "(internal/reflectlite.Value).Type", "(internal/reflectlite.Value).IsNil", "internal/reflectlite.TypeOf", "(internal/reflectlite.Value).Elem", "(internal/reflectlite.Value).Set"], unfollowed := true, recurses := true, named := ["errors.errorType", "latchkey/token.errKind", "latchkey/token.errForm", "latchkey/token.errCheck"], apart := false, laid := [("errors.errorType", laid_errors_errorType), ("latchkey/token.errKind", laid_latchkey_token_errKind), ("latchkey/token.errForm", laid_latchkey_token_errForm), ("latchkey/token.errCheck", laid_latchkey_token_errCheck)], narrowed := true }
def TokenParsesUptoSaid : Prop := tokenParsesUptoRow.holds Tryd.pinned (OpenSpec.upto tokenParsesSpec)

/-- 'latchkeylaw17.TokenTyped', WHERE WHAT IT READS IS OF BULK AT MOST 1048576: true; the input reads as it did. -/
def tokenTypedUptoRow : OpenClaim := { program := "ytilcilbmbhbakaadoor", sum := "414167ac168112c51735af4c9f027d4018a036240c0771c73a129ed2c0e46b7c", func := "latchkey/latchkeylaw17.TokenTyped", spec := "tokenTyped", inPlace := ["internal/reflectlite.ValueOf", "(internal/reflectlite.Value).Type", "(internal/reflectlite.Value).IsNil", "internal/reflectlite.TypeOf", "(internal/reflectlite.Value).Elem", "(internal/reflectlite.Value).Set"], unfollowed := true, recurses := true, named := ["errors.errorType", "latchkey/token.errKind", "latchkey/token.errForm", "latchkey/token.errCheck"], apart := false, laid := [("errors.errorType", laid_errors_errorType), ("latchkey/token.errKind", laid_latchkey_token_errKind), ("latchkey/token.errForm", laid_latchkey_token_errForm), ("latchkey/token.errCheck", laid_latchkey_token_errCheck)], narrowed := true }
def TokenTypedUptoSaid : Prop := tokenTypedUptoRow.holds Tryd.pinned (OpenSpec.upto tokenTypedSpec)

/-- 'latchkeylaw17.TokenMints', WHERE WHAT IT READS IS OF BULK AT MOST 1048576: true; the input reads as it did. -/
def tokenMintsUptoRow : OpenClaim := { program := "ytilcilbmbhbakaadoor", sum := "414167ac168112c51735af4c9f027d4018a036240c0771c73a129ed2c0e46b7c", func := "latchkey/latchkeylaw17.TokenMints", spec := "tokenMints", inPlace := ["internal/reflectlite.ValueOf", "(internal/reflectlite.Value).Type", "(internal/reflectlite.Value).IsNil", "internal/reflectlite.TypeOf", "(internal/reflectlite.Value).Elem", "(internal/reflectlite.Value).Set"], unfollowed := true, recurses := true, named := ["errors.errorType", "latchkey/token.errKind", "latchkey/token.errForm", "latchkey/token.errCheck"], apart := false, laid := [("errors.errorType", laid_errors_errorType), ("latchkey/token.errKind", laid_latchkey_token_errKind), ("latchkey/token.errForm", laid_latchkey_token_errForm), ("latchkey/token.errCheck", laid_latchkey_token_errCheck)], narrowed := true }
def TokenMintsUptoSaid : Prop := tokenMintsUptoRow.holds Tryd.pinned (OpenSpec.upto tokenMintsSpec)

/-- 'latchkeylaw17.TokenBack', WHERE WHAT IT READS IS OF BULK AT MOST 1048576: true; the input reads as it did. -/
def tokenBackUptoRow : OpenClaim := { program := "ytilcilbmbhbakaadoor", sum := "414167ac168112c51735af4c9f027d4018a036240c0771c73a129ed2c0e46b7c", func := "latchkey/latchkeylaw17.TokenBack", spec := "tokenBack", inPlace := ["internal/reflectlite.ValueOf", "(internal/reflectlite.Value).Type", "(internal/reflectlite.Value).IsNil", "internal/reflectlite.TypeOf", "(internal/reflectlite.Value).Elem", "(internal/reflectlite.Value).Set"], unfollowed := true, recurses := true, named := ["errors.errorType", "latchkey/token.errKind", "latchkey/token.errForm", "latchkey/token.errCheck"], apart := false, laid := [("errors.errorType", laid_errors_errorType), ("latchkey/token.errKind", laid_latchkey_token_errKind), ("latchkey/token.errForm", laid_latchkey_token_errForm), ("latchkey/token.errCheck", laid_latchkey_token_errCheck)], narrowed := true }
def TokenBackUptoSaid : Prop := tokenBackUptoRow.holds Tryd.pinned (OpenSpec.upto tokenBackSpec)

end Rows
end Go.Proofs.YtilcilbmbhbakaaDoor
