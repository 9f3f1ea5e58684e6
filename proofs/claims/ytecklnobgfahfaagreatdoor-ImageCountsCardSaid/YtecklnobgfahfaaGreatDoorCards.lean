/-
  DERIVED. GIVEN WITH THE SEED: THE CARDS: each row of YtecklnobgfahfaaGreatDoorRows.lean that lists a variable, with what it lists TIED to the program's text (the seventh form; the later family's looks); each row that meets fmt, with fmt's text TOLD by the authors' own Lean function (tested against real Go, not proved from fmt's source: count such statements apart). THE CARD IS WHAT COUNTS. Prove the row's statement (the work); the ties are given (YtecklnobgfahfaaGreatDoorTie.lean); close each card by the builder's one call (the guide's Derived/Test/ToyasCard.lean, 'card_holds'). Laid BY PROGRAM, IN A SANDBOX (cutbox-door.mjs). By AI agents, Wed Nov 11 2026. No macro, syntax, notation, axiom, sorry.
-/
import Derived.Test.YtecklnobgfahfaaGreatDoorRows
import GoSem.ClaimSeven
namespace Go.Proofs.YtecklnobgfahfaaGreatDoor
namespace Rows

/-- THE TIED CARD OF 'flightdecklaw19.ImageCut'. -/
def imageCutCard : Claim7 := { stood := { row := imageCutRow, standIns := [], harness := (true, "d31752ca83b532d815866f27895c3cab3ef9cca22092511715abd79aa556d56b"), looks := true }, kinds := [], alts := [], laidByText := true, laidKinds := [.data, .data, .data, .data, .sentinel, .sentinel, .data, .data, .pinned], laidTests := true, laidLooks := .later }
def ImageCutCardSaid : Prop := Claim7.holds Tryz.pinned (.plain (OpenSpec.ofChange imageCutSpec)) imageCutCard

/-- THE TIED CARD OF 'flightdecklaw19.ImageCounts'. -/
def imageCountsCard : Claim7 := { stood := { row := imageCountsRow, standIns := [], harness := (true, "d31752ca83b532d815866f27895c3cab3ef9cca22092511715abd79aa556d56b"), looks := true }, kinds := [], alts := [], laidByText := true, laidKinds := [.data, .data, .data, .data, .sentinel, .sentinel, .data, .data, .pinned], laidTests := true, laidLooks := .later }
def ImageCountsCardSaid : Prop := Claim7.holds Tryz.pinned (.plain (OpenSpec.ofChange imageCountsSpec)) imageCountsCard

/-- THE TIED CARD OF 'flightdecklaw19.ImageDamage'. -/
def imageDamageCard : Claim7 := { stood := { row := imageDamageRow, standIns := [], harness := (true, "d31752ca83b532d815866f27895c3cab3ef9cca22092511715abd79aa556d56b"), looks := true }, kinds := [], alts := [], laidByText := true, laidKinds := [.data, .data, .data, .data, .sentinel, .sentinel, .data, .data, .pinned], laidTests := true, laidLooks := .later }
def ImageDamageCardSaid : Prop := Claim7.holds Tryz.pinned (.plain (OpenSpec.ofChange imageDamageSpec)) imageDamageCard

/-- THE SECOND FORM's CARD OF 'flightdecklaw19.ImageCut'. -/
def imageCutUptoCard : Claim7 := { stood := { row := imageCutUptoRow, standIns := [], harness := (true, "d31752ca83b532d815866f27895c3cab3ef9cca22092511715abd79aa556d56b"), looks := true }, kinds := [], alts := [], laidByText := true, laidKinds := [.data, .data, .data, .data, .sentinel, .sentinel, .data, .data, .pinned], laidTests := true, laidLooks := .later }
def ImageCutUptoCardSaid : Prop := Claim7.holds Tryz.pinned (.plain (OpenSpec.upto imageCutSpec)) imageCutUptoCard

/-- THE SECOND FORM's CARD OF 'flightdecklaw19.ImageCounts'. -/
def imageCountsUptoCard : Claim7 := { stood := { row := imageCountsUptoRow, standIns := [], harness := (true, "d31752ca83b532d815866f27895c3cab3ef9cca22092511715abd79aa556d56b"), looks := true }, kinds := [], alts := [], laidByText := true, laidKinds := [.data, .data, .data, .data, .sentinel, .sentinel, .data, .data, .pinned], laidTests := true, laidLooks := .later }
def ImageCountsUptoCardSaid : Prop := Claim7.holds Tryz.pinned (.plain (OpenSpec.upto imageCountsSpec)) imageCountsUptoCard

/-- THE SECOND FORM's CARD OF 'flightdecklaw19.ImageDamage'. -/
def imageDamageUptoCard : Claim7 := { stood := { row := imageDamageUptoRow, standIns := [], harness := (true, "d31752ca83b532d815866f27895c3cab3ef9cca22092511715abd79aa556d56b"), looks := true }, kinds := [], alts := [], laidByText := true, laidKinds := [.data, .data, .data, .data, .sentinel, .sentinel, .data, .data, .pinned], laidTests := true, laidLooks := .later }
def ImageDamageUptoCardSaid : Prop := Claim7.holds Tryz.pinned (.plain (OpenSpec.upto imageDamageSpec)) imageDamageUptoCard
end Rows
end Go.Proofs.YtecklnobgfahfaaGreatDoor
