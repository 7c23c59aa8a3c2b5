/-
  DERIVED. GIVEN WITH THE SEED: THE CARDS: each row of YtgedjkcpgagnbaaDoorRows.lean that lists a variable, with what it lists TIED to the program's text (the seventh form; the later family's looks); each row that meets fmt, with fmt's text TOLD by the authors' own Lean function (tested against real Go, not proved from fmt's source: count such statements apart). THE CARD IS WHAT COUNTS. Prove the row's statement (the work); the ties are given (YtgedjkcpgagnbaaDoorTie.lean); close each card by the builder's one call (the guide's Derived/Test/ToyasCard.lean, 'card_holds'). Laid BY PROGRAM, IN A SANDBOX (cutbox-door.mjs). By AI agents, Wed Nov 11 2026. No macro, syntax, notation, axiom, sorry.
-/
import Derived.Test.YtgedjkcpgagnbaaDoorRows
import GoSem.ClaimSeven
namespace Go.Proofs.YtgedjkcpgagnbaaDoor
namespace Rows

/-- THE TIED CARD OF 'latchkeylaw06.ScopeReads'. -/
def scopeReadsCard : Claim7 := { stood := { row := scopeReadsRow, standIns := [], harness := (true, "21054225f783fd13be45925b0cab80309dc01bb8a3ec1927b3bf42f2aa99aa48"), looks := false }, kinds := [], alts := [], laidByText := true, laidKinds := [.data, .pinned], laidTests := true, laidLooks := .later }
def ScopeReadsCardSaid : Prop := Claim7.holds Tryd.pinned (.plain (OpenSpec.ofChange scopeReadsSpec)) scopeReadsCard

/-- THE TIED CARD OF 'latchkeylaw06.ScopeTells'. -/
def scopeTellsCard : Claim7 := { stood := { row := scopeTellsRow, standIns := [], harness := (true, "21054225f783fd13be45925b0cab80309dc01bb8a3ec1927b3bf42f2aa99aa48"), looks := false }, kinds := [], alts := [], laidByText := true, laidKinds := [.data, .pinned], laidTests := true, laidLooks := .later }
def ScopeTellsCardSaid : Prop := Claim7.holds Tryd.pinned (.plain (OpenSpec.ofChange scopeTellsSpec)) scopeTellsCard

/-- THE TIED CARD OF 'latchkeylaw06.ScopeHolds'. -/
def scopeHoldsCard : Claim7 := { stood := { row := scopeHoldsRow, standIns := [], harness := (true, "21054225f783fd13be45925b0cab80309dc01bb8a3ec1927b3bf42f2aa99aa48"), looks := false }, kinds := [], alts := [], laidByText := true, laidKinds := [.data, .pinned], laidTests := true, laidLooks := .later }
def ScopeHoldsCardSaid : Prop := Claim7.holds Tryd.pinned (.plain (OpenSpec.ofChange scopeHoldsSpec)) scopeHoldsCard

/-- THE TIED CARD OF 'latchkeylaw06.ScopeBack'. -/
def scopeBackCard : Claim7 := { stood := { row := scopeBackRow, standIns := [], harness := (true, "21054225f783fd13be45925b0cab80309dc01bb8a3ec1927b3bf42f2aa99aa48"), looks := false }, kinds := [], alts := [], laidByText := true, laidKinds := [.data, .pinned], laidTests := true, laidLooks := .later }
def ScopeBackCardSaid : Prop := Claim7.holds Tryd.pinned (.plain (OpenSpec.ofChange scopeBackSpec)) scopeBackCard

/-- THE TIED CARD OF 'latchkeylaw06.ScopeAlgebra'. -/
def scopeAlgebraCard : Claim7 := { stood := { row := scopeAlgebraRow, standIns := [], harness := (true, "21054225f783fd13be45925b0cab80309dc01bb8a3ec1927b3bf42f2aa99aa48"), looks := false }, kinds := [], alts := [], laidByText := true, laidKinds := [.data, .pinned], laidTests := true, laidLooks := .later }
def ScopeAlgebraCardSaid : Prop := Claim7.holds Tryd.pinned (.plain (OpenSpec.ofChange scopeAlgebraSpec)) scopeAlgebraCard

/-- THE SECOND FORM's CARD OF 'latchkeylaw06.ScopeReads'. -/
def scopeReadsUptoCard : Claim7 := { stood := { row := scopeReadsUptoRow, standIns := [], harness := (true, "21054225f783fd13be45925b0cab80309dc01bb8a3ec1927b3bf42f2aa99aa48"), looks := false }, kinds := [], alts := [], laidByText := true, laidKinds := [.data, .pinned], laidTests := true, laidLooks := .later }
def ScopeReadsUptoCardSaid : Prop := Claim7.holds Tryd.pinned (.plain (OpenSpec.upto scopeReadsSpec)) scopeReadsUptoCard

/-- THE SECOND FORM's CARD OF 'latchkeylaw06.ScopeTells'. -/
def scopeTellsUptoCard : Claim7 := { stood := { row := scopeTellsUptoRow, standIns := [], harness := (true, "21054225f783fd13be45925b0cab80309dc01bb8a3ec1927b3bf42f2aa99aa48"), looks := false }, kinds := [], alts := [], laidByText := true, laidKinds := [.data, .pinned], laidTests := true, laidLooks := .later }
def ScopeTellsUptoCardSaid : Prop := Claim7.holds Tryd.pinned (.plain (OpenSpec.upto scopeTellsSpec)) scopeTellsUptoCard

/-- THE SECOND FORM's CARD OF 'latchkeylaw06.ScopeHolds'. -/
def scopeHoldsUptoCard : Claim7 := { stood := { row := scopeHoldsUptoRow, standIns := [], harness := (true, "21054225f783fd13be45925b0cab80309dc01bb8a3ec1927b3bf42f2aa99aa48"), looks := false }, kinds := [], alts := [], laidByText := true, laidKinds := [.data, .pinned], laidTests := true, laidLooks := .later }
def ScopeHoldsUptoCardSaid : Prop := Claim7.holds Tryd.pinned (.plain (OpenSpec.upto scopeHoldsSpec)) scopeHoldsUptoCard

/-- THE SECOND FORM's CARD OF 'latchkeylaw06.ScopeBack'. -/
def scopeBackUptoCard : Claim7 := { stood := { row := scopeBackUptoRow, standIns := [], harness := (true, "21054225f783fd13be45925b0cab80309dc01bb8a3ec1927b3bf42f2aa99aa48"), looks := false }, kinds := [], alts := [], laidByText := true, laidKinds := [.data, .pinned], laidTests := true, laidLooks := .later }
def ScopeBackUptoCardSaid : Prop := Claim7.holds Tryd.pinned (.plain (OpenSpec.upto scopeBackSpec)) scopeBackUptoCard

/-- THE SECOND FORM's CARD OF 'latchkeylaw06.ScopeAlgebra'. -/
def scopeAlgebraUptoCard : Claim7 := { stood := { row := scopeAlgebraUptoRow, standIns := [], harness := (true, "21054225f783fd13be45925b0cab80309dc01bb8a3ec1927b3bf42f2aa99aa48"), looks := false }, kinds := [], alts := [], laidByText := true, laidKinds := [.data, .pinned], laidTests := true, laidLooks := .later }
def ScopeAlgebraUptoCardSaid : Prop := Claim7.holds Tryd.pinned (.plain (OpenSpec.upto scopeAlgebraSpec)) scopeAlgebraUptoCard
end Rows
end Go.Proofs.YtgedjkcpgagnbaaDoor
