/-
  DERIVED. GIVEN WITH THE SEED: THE CARDS: each row of YtgmehlgfilpleaaGreatDoorRows.lean that lists a variable, with what it lists TIED to the program's text (the seventh form; the later family's looks); each row that meets fmt, with fmt's text TOLD by the authors' own Lean function (tested against real Go, not proved from fmt's source: count such statements apart). THE CARD IS WHAT COUNTS. Prove the row's statement (the work); the ties are given (YtgmehlgfilpleaaGreatDoorTie.lean); close each card by the builder's one call (the guide's Derived/Test/ToyasCard.lean, 'card_holds'). Laid BY PROGRAM, IN A SANDBOX (cutbox-door.mjs). By AI agents, Wed Nov 11 2026. No macro, syntax, notation, axiom, sorry.
-/
import Derived.Test.YtgmehlgfilpleaaGreatDoorRows
import GoSem.ClaimSeven
namespace Go.Proofs.YtgmehlgfilpleaaGreatDoor
namespace Rows

/-- THE TIED CARD OF 'flightdecklaw18.NavdbChecks'. -/
def navdbChecksCard : Claim7 := { stood := { row := navdbChecksRow, standIns := [], harness := (true, "554ae120b42cc101a6dcb0c47ae2e46c8846a7850fed62df1ff545c0fee2142c"), looks := true }, kinds := [], alts := [], laidByText := true, laidKinds := [.data, .data, .data, .data, .sentinel, .sentinel, .data, .data, .pinned], laidTests := true, laidLooks := .later }
def NavdbChecksCardSaid : Prop := Claim7.holds Tryz.pinned (.plain (OpenSpec.ofChange navdbChecksSpec)) navdbChecksCard

/-- THE TIED CARD OF 'flightdecklaw18.NavdbParts'. -/
def navdbPartsCard : Claim7 := { stood := { row := navdbPartsRow, standIns := [], harness := (true, "554ae120b42cc101a6dcb0c47ae2e46c8846a7850fed62df1ff545c0fee2142c"), looks := true }, kinds := [], alts := [], laidByText := true, laidKinds := [.data, .data, .data, .data, .sentinel, .sentinel, .data, .data, .pinned], laidTests := true, laidLooks := .later }
def NavdbPartsCardSaid : Prop := Claim7.holds Tryz.pinned (.plain (OpenSpec.ofChange navdbPartsSpec)) navdbPartsCard

/-- THE TIED CARD OF 'flightdecklaw19.ImageEncodes'. -/
def imageEncodesCard : Claim7 := { stood := { row := imageEncodesRow, standIns := [], harness := (true, "554ae120b42cc101a6dcb0c47ae2e46c8846a7850fed62df1ff545c0fee2142c"), looks := true }, kinds := [], alts := [], laidByText := true, laidKinds := [.data, .data, .data, .data, .sentinel, .sentinel, .data, .data, .pinned], laidTests := true, laidLooks := .later }
def ImageEncodesCardSaid : Prop := Claim7.holds Tryz.pinned (.plain (OpenSpec.ofChange imageEncodesSpec)) imageEncodesCard

/-- THE TIED CARD OF 'flightdecklaw18.NavdbFinds'. -/
def navdbFindsCard : Claim7 := { stood := { row := navdbFindsRow, standIns := [], harness := (true, "554ae120b42cc101a6dcb0c47ae2e46c8846a7850fed62df1ff545c0fee2142c"), looks := true }, kinds := [], alts := [], laidByText := true, laidKinds := [.data, .data, .data, .data, .sentinel, .sentinel, .data, .data, .pinned], laidTests := true, laidLooks := .later }
def NavdbFindsCardSaid : Prop := Claim7.holds Tryz.pinned (.plain (OpenSpec.ofChange navdbFindsSpec)) navdbFindsCard

/-- THE TIED CARD OF 'flightdecklaw18.NavdbKeeps'. -/
def navdbKeepsCard : Claim7 := { stood := { row := navdbKeepsRow, standIns := [], harness := (true, "554ae120b42cc101a6dcb0c47ae2e46c8846a7850fed62df1ff545c0fee2142c"), looks := true }, kinds := [], alts := [], laidByText := true, laidKinds := [.data, .data, .data, .data, .sentinel, .sentinel, .data, .data, .pinned], laidTests := true, laidLooks := .later }
def NavdbKeepsCardSaid : Prop := Claim7.holds Tryz.pinned (.plain (OpenSpec.ofChange navdbKeepsSpec)) navdbKeepsCard

/-- THE SECOND FORM's CARD OF 'flightdecklaw18.NavdbChecks'. -/
def navdbChecksUptoCard : Claim7 := { stood := { row := navdbChecksUptoRow, standIns := [], harness := (true, "554ae120b42cc101a6dcb0c47ae2e46c8846a7850fed62df1ff545c0fee2142c"), looks := true }, kinds := [], alts := [], laidByText := true, laidKinds := [.data, .data, .data, .data, .sentinel, .sentinel, .data, .data, .pinned], laidTests := true, laidLooks := .later }
def NavdbChecksUptoCardSaid : Prop := Claim7.holds Tryz.pinned (.plain (OpenSpec.upto navdbChecksSpec)) navdbChecksUptoCard

/-- THE SECOND FORM's CARD OF 'flightdecklaw18.NavdbParts'. -/
def navdbPartsUptoCard : Claim7 := { stood := { row := navdbPartsUptoRow, standIns := [], harness := (true, "554ae120b42cc101a6dcb0c47ae2e46c8846a7850fed62df1ff545c0fee2142c"), looks := true }, kinds := [], alts := [], laidByText := true, laidKinds := [.data, .data, .data, .data, .sentinel, .sentinel, .data, .data, .pinned], laidTests := true, laidLooks := .later }
def NavdbPartsUptoCardSaid : Prop := Claim7.holds Tryz.pinned (.plain (OpenSpec.upto navdbPartsSpec)) navdbPartsUptoCard

/-- THE SECOND FORM's CARD OF 'flightdecklaw19.ImageEncodes'. -/
def imageEncodesUptoCard : Claim7 := { stood := { row := imageEncodesUptoRow, standIns := [], harness := (true, "554ae120b42cc101a6dcb0c47ae2e46c8846a7850fed62df1ff545c0fee2142c"), looks := true }, kinds := [], alts := [], laidByText := true, laidKinds := [.data, .data, .data, .data, .sentinel, .sentinel, .data, .data, .pinned], laidTests := true, laidLooks := .later }
def ImageEncodesUptoCardSaid : Prop := Claim7.holds Tryz.pinned (.plain (OpenSpec.upto imageEncodesSpec)) imageEncodesUptoCard

/-- THE SECOND FORM's CARD OF 'flightdecklaw18.NavdbFinds'. -/
def navdbFindsUptoCard : Claim7 := { stood := { row := navdbFindsUptoRow, standIns := [], harness := (true, "554ae120b42cc101a6dcb0c47ae2e46c8846a7850fed62df1ff545c0fee2142c"), looks := true }, kinds := [], alts := [], laidByText := true, laidKinds := [.data, .data, .data, .data, .sentinel, .sentinel, .data, .data, .pinned], laidTests := true, laidLooks := .later }
def NavdbFindsUptoCardSaid : Prop := Claim7.holds Tryz.pinned (.plain (OpenSpec.upto navdbFindsSpec)) navdbFindsUptoCard

/-- THE SECOND FORM's CARD OF 'flightdecklaw18.NavdbKeeps'. -/
def navdbKeepsUptoCard : Claim7 := { stood := { row := navdbKeepsUptoRow, standIns := [], harness := (true, "554ae120b42cc101a6dcb0c47ae2e46c8846a7850fed62df1ff545c0fee2142c"), looks := true }, kinds := [], alts := [], laidByText := true, laidKinds := [.data, .data, .data, .data, .sentinel, .sentinel, .data, .data, .pinned], laidTests := true, laidLooks := .later }
def NavdbKeepsUptoCardSaid : Prop := Claim7.holds Tryz.pinned (.plain (OpenSpec.upto navdbKeepsSpec)) navdbKeepsUptoCard
end Rows
end Go.Proofs.YtgmehlgfilpleaaGreatDoor
