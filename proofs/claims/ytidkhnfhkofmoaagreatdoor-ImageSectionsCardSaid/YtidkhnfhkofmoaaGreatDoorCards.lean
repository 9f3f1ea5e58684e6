/-
  DERIVED. GIVEN WITH THE SEED: THE CARDS: each row of YtidkhnfhkofmoaaGreatDoorRows.lean that lists a variable, with what it lists TIED to the program's text (the seventh form; the later family's looks); each row that meets fmt, with fmt's text TOLD by the authors' own Lean function (tested against real Go, not proved from fmt's source: count such statements apart). THE CARD IS WHAT COUNTS. Prove the row's statement (the work); the ties are given (YtidkhnfhkofmoaaGreatDoorTie.lean); close each card by the builder's one call (the guide's Derived/Test/ToyasCard.lean, 'card_holds'). Laid BY PROGRAM, IN A SANDBOX (cutbox-door.mjs). By AI agents, Wed Nov 11 2026. No macro, syntax, notation, axiom, sorry.
-/
import Derived.Test.YtidkhnfhkofmoaaGreatDoorRows
import GoSem.ClaimSeven
namespace Go.Proofs.YtidkhnfhkofmoaaGreatDoor
namespace Rows

/-- THE TIED CARD OF 'flightdecklaw19.ImageCut'. -/
def imageCutCard : Claim7 := { stood := { row := imageCutRow, standIns := [], harness := (true, "61fe8781448c95444a30ecd3d078c29f7e2d93d2c744577ed295b24cce43a9c7"), looks := true }, kinds := [], alts := [], laidByText := true, laidKinds := [.data, .data, .data, .data, .sentinel, .sentinel, .data, .data, .pinned], laidTests := true, laidLooks := .later }
def ImageCutCardSaid : Prop := Claim7.holds Tryz.pinned (.plain (OpenSpec.ofChange imageCutSpec)) imageCutCard

/-- THE TIED CARD OF 'flightdecklaw19.ImageSections'. -/
def imageSectionsCard : Claim7 := { stood := { row := imageSectionsRow, standIns := [], harness := (true, "61fe8781448c95444a30ecd3d078c29f7e2d93d2c744577ed295b24cce43a9c7"), looks := true }, kinds := [], alts := [], laidByText := true, laidKinds := [.data, .data, .data, .data, .sentinel, .sentinel, .data, .data, .pinned], laidTests := true, laidLooks := .later }
def ImageSectionsCardSaid : Prop := Claim7.holds Tryz.pinned (.plain (OpenSpec.ofChange imageSectionsSpec)) imageSectionsCard

/-- THE TIED CARD OF 'flightdecklaw19.ImageCounts'. -/
def imageCountsCard : Claim7 := { stood := { row := imageCountsRow, standIns := [], harness := (true, "61fe8781448c95444a30ecd3d078c29f7e2d93d2c744577ed295b24cce43a9c7"), looks := true }, kinds := [], alts := [], laidByText := true, laidKinds := [.data, .data, .data, .data, .sentinel, .sentinel, .data, .data, .pinned], laidTests := true, laidLooks := .later }
def ImageCountsCardSaid : Prop := Claim7.holds Tryz.pinned (.plain (OpenSpec.ofChange imageCountsSpec)) imageCountsCard

/-- THE TIED CARD OF 'flightdecklaw19.ImageDamage'. -/
def imageDamageCard : Claim7 := { stood := { row := imageDamageRow, standIns := [], harness := (true, "61fe8781448c95444a30ecd3d078c29f7e2d93d2c744577ed295b24cce43a9c7"), looks := true }, kinds := [], alts := [], laidByText := true, laidKinds := [.data, .data, .data, .data, .sentinel, .sentinel, .data, .data, .pinned], laidTests := true, laidLooks := .later }
def ImageDamageCardSaid : Prop := Claim7.holds Tryz.pinned (.plain (OpenSpec.ofChange imageDamageSpec)) imageDamageCard

/-- THE SECOND FORM's CARD OF 'flightdecklaw19.ImageCut'. -/
def imageCutUptoCard : Claim7 := { stood := { row := imageCutUptoRow, standIns := [], harness := (true, "61fe8781448c95444a30ecd3d078c29f7e2d93d2c744577ed295b24cce43a9c7"), looks := true }, kinds := [], alts := [], laidByText := true, laidKinds := [.data, .data, .data, .data, .sentinel, .sentinel, .data, .data, .pinned], laidTests := true, laidLooks := .later }
def ImageCutUptoCardSaid : Prop := Claim7.holds Tryz.pinned (.plain (OpenSpec.upto imageCutSpec)) imageCutUptoCard

/-- THE SECOND FORM's CARD OF 'flightdecklaw19.ImageSections'. -/
def imageSectionsUptoCard : Claim7 := { stood := { row := imageSectionsUptoRow, standIns := [], harness := (true, "61fe8781448c95444a30ecd3d078c29f7e2d93d2c744577ed295b24cce43a9c7"), looks := true }, kinds := [], alts := [], laidByText := true, laidKinds := [.data, .data, .data, .data, .sentinel, .sentinel, .data, .data, .pinned], laidTests := true, laidLooks := .later }
def ImageSectionsUptoCardSaid : Prop := Claim7.holds Tryz.pinned (.plain (OpenSpec.upto imageSectionsSpec)) imageSectionsUptoCard

/-- THE SECOND FORM's CARD OF 'flightdecklaw19.ImageCounts'. -/
def imageCountsUptoCard : Claim7 := { stood := { row := imageCountsUptoRow, standIns := [], harness := (true, "61fe8781448c95444a30ecd3d078c29f7e2d93d2c744577ed295b24cce43a9c7"), looks := true }, kinds := [], alts := [], laidByText := true, laidKinds := [.data, .data, .data, .data, .sentinel, .sentinel, .data, .data, .pinned], laidTests := true, laidLooks := .later }
def ImageCountsUptoCardSaid : Prop := Claim7.holds Tryz.pinned (.plain (OpenSpec.upto imageCountsSpec)) imageCountsUptoCard

/-- THE SECOND FORM's CARD OF 'flightdecklaw19.ImageDamage'. -/
def imageDamageUptoCard : Claim7 := { stood := { row := imageDamageUptoRow, standIns := [], harness := (true, "61fe8781448c95444a30ecd3d078c29f7e2d93d2c744577ed295b24cce43a9c7"), looks := true }, kinds := [], alts := [], laidByText := true, laidKinds := [.data, .data, .data, .data, .sentinel, .sentinel, .data, .data, .pinned], laidTests := true, laidLooks := .later }
def ImageDamageUptoCardSaid : Prop := Claim7.holds Tryz.pinned (.plain (OpenSpec.upto imageDamageSpec)) imageDamageUptoCard
end Rows
end Go.Proofs.YtidkhnfhkofmoaaGreatDoor
