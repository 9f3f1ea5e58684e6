/-
  DERIVED. GIVEN WITH THE SEED: THE CARDS: each row of YtfdhinbojbohcaaGreatDoorRows.lean that lists a variable, with what it lists TIED to the program's text (the seventh form; the later family's looks); each row that meets fmt, with fmt's text TOLD by the authors' own Lean function (tested against real Go, not proved from fmt's source: count such statements apart). THE CARD IS WHAT COUNTS. Prove the row's statement (the work); the ties are given (YtfdhinbojbohcaaGreatDoorTie.lean); close each card by the builder's one call (the guide's Derived/Test/ToyasCard.lean, 'card_holds'). Laid BY PROGRAM, IN A SANDBOX (cutbox-door.mjs). By AI agents, Wed Nov 11 2026. No macro, syntax, notation, axiom, sorry.
-/
import Derived.Test.YtfdhinbojbohcaaGreatDoorRows
import GoSem.ClaimSeven
namespace Go.Proofs.YtfdhinbojbohcaaGreatDoor
namespace Rows

/-- THE TIED CARD OF 'flightdecklaw19.ImageInvalid'. -/
def imageInvalidCard : Claim7 := { stood := { row := imageInvalidRow, standIns := [], harness := (true, "4082b634fd00f35759181dc2ea1cb464029c3a1b121133a8a7d7c6361fc70221"), looks := true }, kinds := [], alts := [], laidByText := true, laidKinds := [.data, .data, .data, .data, .sentinel, .sentinel, .data, .data, .pinned], laidTests := true, laidLooks := .later }
def ImageInvalidCardSaid : Prop := Claim7.holds Tryz.pinned (.plain (OpenSpec.ofChange imageInvalidSpec)) imageInvalidCard

/-- THE TIED CARD OF 'flightdecklaw19.ImageDecodes'. -/
def imageDecodesCard : Claim7 := { stood := { row := imageDecodesRow, standIns := [], harness := (true, "4082b634fd00f35759181dc2ea1cb464029c3a1b121133a8a7d7c6361fc70221"), looks := true }, kinds := [], alts := [], laidByText := true, laidKinds := [.data, .data, .data, .data, .sentinel, .sentinel, .data, .data, .pinned], laidTests := true, laidLooks := .later }
def ImageDecodesCardSaid : Prop := Claim7.holds Tryz.pinned (.plain (OpenSpec.ofChange imageDecodesSpec)) imageDecodesCard

/-- THE SECOND FORM's CARD OF 'flightdecklaw19.ImageInvalid'. -/
def imageInvalidUptoCard : Claim7 := { stood := { row := imageInvalidUptoRow, standIns := [], harness := (true, "4082b634fd00f35759181dc2ea1cb464029c3a1b121133a8a7d7c6361fc70221"), looks := true }, kinds := [], alts := [], laidByText := true, laidKinds := [.data, .data, .data, .data, .sentinel, .sentinel, .data, .data, .pinned], laidTests := true, laidLooks := .later }
def ImageInvalidUptoCardSaid : Prop := Claim7.holds Tryz.pinned (.plain (OpenSpec.upto imageInvalidSpec)) imageInvalidUptoCard

/-- THE SECOND FORM's CARD OF 'flightdecklaw19.ImageDecodes'. -/
def imageDecodesUptoCard : Claim7 := { stood := { row := imageDecodesUptoRow, standIns := [], harness := (true, "4082b634fd00f35759181dc2ea1cb464029c3a1b121133a8a7d7c6361fc70221"), looks := true }, kinds := [], alts := [], laidByText := true, laidKinds := [.data, .data, .data, .data, .sentinel, .sentinel, .data, .data, .pinned], laidTests := true, laidLooks := .later }
def ImageDecodesUptoCardSaid : Prop := Claim7.holds Tryz.pinned (.plain (OpenSpec.upto imageDecodesSpec)) imageDecodesUptoCard
end Rows
end Go.Proofs.YtfdhinbojbohcaaGreatDoor
