/-
  DERIVED. GIVEN WITH THE SEED: THE CARDS: each row of YtlhniiakacbbeaaGreatDoorRows.lean that lists a variable, with what it lists TIED to the program's text (the seventh form; the later family's looks); each row that meets fmt, with fmt's text TOLD by the authors' own Lean function (tested against real Go, not proved from fmt's source: count such statements apart). THE CARD IS WHAT COUNTS. Prove the row's statement (the work); the ties are given (YtlhniiakacbbeaaGreatDoorTie.lean); close each card by the builder's one call (the guide's Derived/Test/ToyasCard.lean, 'card_holds'). Laid BY PROGRAM, IN A SANDBOX (cutbox-door.mjs). By AI agents, Wed Nov 11 2026. No macro, syntax, notation, axiom, sorry.
-/
import Derived.Test.YtlhniiakacbbeaaGreatDoorRows
import GoSem.ClaimSeven
namespace Go.Proofs.YtlhniiakacbbeaaGreatDoor
namespace Rows

/-- THE TIED CARD OF 'flightdecklaw18.NavdbChecks'. -/
def navdbChecksCard : Claim7 := { stood := { row := navdbChecksRow, standIns := [], harness := (true, "a98712fa52d9f6d11822ca683622f1a83191f76eecdbf661a11adad1e0bd1a62"), looks := true }, kinds := [], alts := [], laidByText := true, laidKinds := [.data, .data, .data, .data, .sentinel, .sentinel, .data, .data, .pinned], laidTests := true, laidLooks := .later }
def NavdbChecksCardSaid : Prop := Claim7.holds Tryz.pinned (.plain (OpenSpec.ofChange navdbChecksSpec)) navdbChecksCard

/-- THE TIED CARD OF 'flightdecklaw18.NavdbParts'. -/
def navdbPartsCard : Claim7 := { stood := { row := navdbPartsRow, standIns := [], harness := (true, "a98712fa52d9f6d11822ca683622f1a83191f76eecdbf661a11adad1e0bd1a62"), looks := true }, kinds := [], alts := [], laidByText := true, laidKinds := [.data, .data, .data, .data, .sentinel, .sentinel, .data, .data, .pinned], laidTests := true, laidLooks := .later }
def NavdbPartsCardSaid : Prop := Claim7.holds Tryz.pinned (.plain (OpenSpec.ofChange navdbPartsSpec)) navdbPartsCard

/-- THE TIED CARD OF 'flightdecklaw19.ImageEncodes'. -/
def imageEncodesCard : Claim7 := { stood := { row := imageEncodesRow, standIns := [], harness := (true, "a98712fa52d9f6d11822ca683622f1a83191f76eecdbf661a11adad1e0bd1a62"), looks := true }, kinds := [], alts := [], laidByText := true, laidKinds := [.data, .data, .data, .data, .sentinel, .sentinel, .data, .data, .pinned], laidTests := true, laidLooks := .later }
def ImageEncodesCardSaid : Prop := Claim7.holds Tryz.pinned (.plain (OpenSpec.ofChange imageEncodesSpec)) imageEncodesCard

/-- THE TIED CARD OF 'flightdecklaw19.ImageInvalid'. -/
def imageInvalidCard : Claim7 := { stood := { row := imageInvalidRow, standIns := [], harness := (true, "a98712fa52d9f6d11822ca683622f1a83191f76eecdbf661a11adad1e0bd1a62"), looks := true }, kinds := [], alts := [], laidByText := true, laidKinds := [.data, .data, .data, .data, .sentinel, .sentinel, .data, .data, .pinned], laidTests := true, laidLooks := .later }
def ImageInvalidCardSaid : Prop := Claim7.holds Tryz.pinned (.plain (OpenSpec.ofChange imageInvalidSpec)) imageInvalidCard

/-- THE TIED CARD OF 'flightdecklaw19.ImageReads'. -/
def imageReadsCard : Claim7 := { stood := { row := imageReadsRow, standIns := [], harness := (true, "a98712fa52d9f6d11822ca683622f1a83191f76eecdbf661a11adad1e0bd1a62"), looks := true }, kinds := [], alts := [], laidByText := true, laidKinds := [.data, .data, .data, .data, .sentinel, .sentinel, .data, .data, .pinned], laidTests := true, laidLooks := .later }
def ImageReadsCardSaid : Prop := Claim7.holds Tryz.pinned (.plain (OpenSpec.ofChange imageReadsSpec)) imageReadsCard

/-- THE SECOND FORM's CARD OF 'flightdecklaw18.NavdbChecks'. -/
def navdbChecksUptoCard : Claim7 := { stood := { row := navdbChecksUptoRow, standIns := [], harness := (true, "a98712fa52d9f6d11822ca683622f1a83191f76eecdbf661a11adad1e0bd1a62"), looks := true }, kinds := [], alts := [], laidByText := true, laidKinds := [.data, .data, .data, .data, .sentinel, .sentinel, .data, .data, .pinned], laidTests := true, laidLooks := .later }
def NavdbChecksUptoCardSaid : Prop := Claim7.holds Tryz.pinned (.plain (OpenSpec.upto navdbChecksSpec)) navdbChecksUptoCard

/-- THE SECOND FORM's CARD OF 'flightdecklaw18.NavdbParts'. -/
def navdbPartsUptoCard : Claim7 := { stood := { row := navdbPartsUptoRow, standIns := [], harness := (true, "a98712fa52d9f6d11822ca683622f1a83191f76eecdbf661a11adad1e0bd1a62"), looks := true }, kinds := [], alts := [], laidByText := true, laidKinds := [.data, .data, .data, .data, .sentinel, .sentinel, .data, .data, .pinned], laidTests := true, laidLooks := .later }
def NavdbPartsUptoCardSaid : Prop := Claim7.holds Tryz.pinned (.plain (OpenSpec.upto navdbPartsSpec)) navdbPartsUptoCard

/-- THE SECOND FORM's CARD OF 'flightdecklaw19.ImageEncodes'. -/
def imageEncodesUptoCard : Claim7 := { stood := { row := imageEncodesUptoRow, standIns := [], harness := (true, "a98712fa52d9f6d11822ca683622f1a83191f76eecdbf661a11adad1e0bd1a62"), looks := true }, kinds := [], alts := [], laidByText := true, laidKinds := [.data, .data, .data, .data, .sentinel, .sentinel, .data, .data, .pinned], laidTests := true, laidLooks := .later }
def ImageEncodesUptoCardSaid : Prop := Claim7.holds Tryz.pinned (.plain (OpenSpec.upto imageEncodesSpec)) imageEncodesUptoCard

/-- THE SECOND FORM's CARD OF 'flightdecklaw19.ImageInvalid'. -/
def imageInvalidUptoCard : Claim7 := { stood := { row := imageInvalidUptoRow, standIns := [], harness := (true, "a98712fa52d9f6d11822ca683622f1a83191f76eecdbf661a11adad1e0bd1a62"), looks := true }, kinds := [], alts := [], laidByText := true, laidKinds := [.data, .data, .data, .data, .sentinel, .sentinel, .data, .data, .pinned], laidTests := true, laidLooks := .later }
def ImageInvalidUptoCardSaid : Prop := Claim7.holds Tryz.pinned (.plain (OpenSpec.upto imageInvalidSpec)) imageInvalidUptoCard

/-- THE SECOND FORM's CARD OF 'flightdecklaw19.ImageReads'. -/
def imageReadsUptoCard : Claim7 := { stood := { row := imageReadsUptoRow, standIns := [], harness := (true, "a98712fa52d9f6d11822ca683622f1a83191f76eecdbf661a11adad1e0bd1a62"), looks := true }, kinds := [], alts := [], laidByText := true, laidKinds := [.data, .data, .data, .data, .sentinel, .sentinel, .data, .data, .pinned], laidTests := true, laidLooks := .later }
def ImageReadsUptoCardSaid : Prop := Claim7.holds Tryz.pinned (.plain (OpenSpec.upto imageReadsSpec)) imageReadsUptoCard
end Rows
end Go.Proofs.YtlhniiakacbbeaaGreatDoor
