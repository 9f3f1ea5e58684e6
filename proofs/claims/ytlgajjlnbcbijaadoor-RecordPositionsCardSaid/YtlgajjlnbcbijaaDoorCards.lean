/-
  DERIVED. GIVEN WITH THE SEED: THE CARDS: each row of YtlgajjlnbcbijaaDoorRows.lean that lists a variable, with what it lists TIED to the program's text (the seventh form; the later family's looks); each row that meets fmt, with fmt's text TOLD by the authors' own Lean function (tested against real Go, not proved from fmt's source: count such statements apart). THE CARD IS WHAT COUNTS. Prove the row's statement (the work); the ties are given (YtlgajjlnbcbijaaDoorTie.lean); close each card by the builder's one call (the guide's Derived/Test/ToyasCard.lean, 'card_holds'). Laid BY PROGRAM, IN A SANDBOX (cutbox-door.mjs). By AI agents, Wed Nov 11 2026. No macro, syntax, notation, axiom, sorry.
-/
import Derived.Test.YtlgajjlnbcbijaaDoorRows
import GoSem.ClaimSeven
namespace Go.Proofs.YtlgajjlnbcbijaaDoor
namespace Rows

/-- THE TIED CARD OF 'flightdecklaw08.RecordPositions'. -/
def recordPositionsCard : Claim7 := { stood := { row := recordPositionsRow, standIns := [], harness := (true, "f084812b8afc5b7b6950355f060c94f27dd940cbbde77c5b585d3b5b2dd6a07a"), looks := true }, kinds := [], alts := [], laidByText := true, laidKinds := [.data, .data, .data, .data, .sentinel, .sentinel, .pinned], laidTests := true, laidLooks := .later }
def RecordPositionsCardSaid : Prop := Claim7.holds Tryd.pinned (.plain (OpenSpec.ofChange recordPositionsSpec)) recordPositionsCard

/-- THE SECOND FORM's CARD OF 'flightdecklaw08.RecordPositions'. -/
def recordPositionsUptoCard : Claim7 := { stood := { row := recordPositionsUptoRow, standIns := [], harness := (true, "f084812b8afc5b7b6950355f060c94f27dd940cbbde77c5b585d3b5b2dd6a07a"), looks := true }, kinds := [], alts := [], laidByText := true, laidKinds := [.data, .data, .data, .data, .sentinel, .sentinel, .pinned], laidTests := true, laidLooks := .later }
def RecordPositionsUptoCardSaid : Prop := Claim7.holds Tryd.pinned (.plain (OpenSpec.upto recordPositionsSpec)) recordPositionsUptoCard
end Rows
end Go.Proofs.YtlgajjlnbcbijaaDoor
