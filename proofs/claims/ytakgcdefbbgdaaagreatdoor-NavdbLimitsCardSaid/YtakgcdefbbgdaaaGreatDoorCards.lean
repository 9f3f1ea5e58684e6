/-
  DERIVED. GIVEN WITH THE SEED: THE CARDS: each row of YtakgcdefbbgdaaaGreatDoorRows.lean that lists a variable, with what it lists TIED to the program's text (the seventh form; the later family's looks); each row that meets fmt, with fmt's text TOLD by the authors' own Lean function (tested against real Go, not proved from fmt's source: count such statements apart). THE CARD IS WHAT COUNTS. Prove the row's statement (the work); the ties are given (YtakgcdefbbgdaaaGreatDoorTie.lean); close each card by the builder's one call (the guide's Derived/Test/ToyasCard.lean, 'card_holds'). Laid BY PROGRAM, IN A SANDBOX (cutbox-door.mjs). By AI agents, Wed Nov 11 2026. No macro, syntax, notation, axiom, sorry.
-/
import Derived.Test.YtakgcdefbbgdaaaGreatDoorRows
import GoSem.ClaimSeven
namespace Go.Proofs.YtakgcdefbbgdaaaGreatDoor
namespace Rows

/-- THE TIED CARD OF 'flightdecklaw18.NavdbDiags'. -/
def navdbDiagsCard : Claim7 := { stood := { row := navdbDiagsRow, standIns := [], harness := (true, "97e0bad655072e840c2cd423b22d56e8f78414223d3cb7b6635d859856c9c18c"), looks := true }, kinds := [], alts := [], laidByText := true, laidKinds := [.data, .data, .data, .data, .sentinel, .sentinel, .data, .data, .pinned], laidTests := true, laidLooks := .later }
def NavdbDiagsCardSaid : Prop := Claim7.holds Tryz.pinned (.plain (OpenSpec.ofChange navdbDiagsSpec)) navdbDiagsCard

/-- THE TIED CARD OF 'flightdecklaw18.NavdbLimits'. -/
def navdbLimitsCard : Claim7 := { stood := { row := navdbLimitsRow, standIns := [], harness := (true, "97e0bad655072e840c2cd423b22d56e8f78414223d3cb7b6635d859856c9c18c"), looks := true }, kinds := [], alts := [], laidByText := true, laidKinds := [.data, .data, .data, .data, .sentinel, .sentinel, .data, .data, .pinned], laidTests := true, laidLooks := .later }
def NavdbLimitsCardSaid : Prop := Claim7.holds Tryz.pinned (.plain (OpenSpec.ofChange navdbLimitsSpec)) navdbLimitsCard

/-- THE SECOND FORM's CARD OF 'flightdecklaw18.NavdbDiags'. -/
def navdbDiagsUptoCard : Claim7 := { stood := { row := navdbDiagsUptoRow, standIns := [], harness := (true, "97e0bad655072e840c2cd423b22d56e8f78414223d3cb7b6635d859856c9c18c"), looks := true }, kinds := [], alts := [], laidByText := true, laidKinds := [.data, .data, .data, .data, .sentinel, .sentinel, .data, .data, .pinned], laidTests := true, laidLooks := .later }
def NavdbDiagsUptoCardSaid : Prop := Claim7.holds Tryz.pinned (.plain (OpenSpec.upto navdbDiagsSpec)) navdbDiagsUptoCard

/-- THE SECOND FORM's CARD OF 'flightdecklaw18.NavdbLimits'. -/
def navdbLimitsUptoCard : Claim7 := { stood := { row := navdbLimitsUptoRow, standIns := [], harness := (true, "97e0bad655072e840c2cd423b22d56e8f78414223d3cb7b6635d859856c9c18c"), looks := true }, kinds := [], alts := [], laidByText := true, laidKinds := [.data, .data, .data, .data, .sentinel, .sentinel, .data, .data, .pinned], laidTests := true, laidLooks := .later }
def NavdbLimitsUptoCardSaid : Prop := Claim7.holds Tryz.pinned (.plain (OpenSpec.upto navdbLimitsSpec)) navdbLimitsUptoCard
end Rows
end Go.Proofs.YtakgcdefbbgdaaaGreatDoor
