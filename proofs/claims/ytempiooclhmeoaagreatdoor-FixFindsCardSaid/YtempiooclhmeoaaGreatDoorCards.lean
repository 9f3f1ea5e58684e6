/-
  DERIVED. GIVEN WITH THE SEED: THE CARDS: each row of YtempiooclhmeoaaGreatDoorRows.lean that lists a variable, with what it lists TIED to the program's text (the seventh form; the later family's looks); each row that meets fmt, with fmt's text TOLD by the authors' own Lean function (tested against real Go, not proved from fmt's source: count such statements apart). THE CARD IS WHAT COUNTS. Prove the row's statement (the work); the ties are given (YtempiooclhmeoaaGreatDoorTie.lean); close each card by the builder's one call (the guide's Derived/Test/ToyasCard.lean, 'card_holds'). Laid BY PROGRAM, IN A SANDBOX (cutbox-door.mjs). By AI agents, Wed Nov 11 2026. No macro, syntax, notation, axiom, sorry.
-/
import Derived.Test.YtempiooclhmeoaaGreatDoorRows
import GoSem.ClaimSeven
namespace Go.Proofs.YtempiooclhmeoaaGreatDoor
namespace Rows

/-- THE TIED CARD OF 'flightdecklaw14.FixChecks'. -/
def fixChecksCard : Claim7 := { stood := { row := fixChecksRow, standIns := [], harness := (true, "7c96d68684faa0271a49fd47e0542d33a4217848e6aabda372eab1aafc7bf60d"), looks := true }, kinds := [], alts := [], laidByText := true, laidKinds := [.data, .data, .data, .sentinel, .sentinel], laidTests := true, laidLooks := .later }
def FixChecksCardSaid : Prop := Claim7.holds Tryz.pinned (.plain (OpenSpec.ofChange fixChecksSpec)) fixChecksCard

/-- THE TIED CARD OF 'flightdecklaw14.FixRefs'. -/
def fixRefsCard : Claim7 := { stood := { row := fixRefsRow, standIns := [], harness := (true, "7c96d68684faa0271a49fd47e0542d33a4217848e6aabda372eab1aafc7bf60d"), looks := true }, kinds := [], alts := [], laidByText := true, laidKinds := [.data, .data, .data, .sentinel, .sentinel], laidTests := true, laidLooks := .later }
def FixRefsCardSaid : Prop := Claim7.holds Tryz.pinned (.plain (OpenSpec.ofChange fixRefsSpec)) fixRefsCard

/-- THE TIED CARD OF 'flightdecklaw14.FixTexts'. -/
def fixTextsCard : Claim7 := { stood := { row := fixTextsRow, standIns := [], harness := (true, "7c96d68684faa0271a49fd47e0542d33a4217848e6aabda372eab1aafc7bf60d"), looks := true }, kinds := [], alts := [], laidByText := true, laidKinds := [.data, .data, .data, .sentinel, .sentinel], laidTests := true, laidLooks := .later }
def FixTextsCardSaid : Prop := Claim7.holds Tryz.pinned (.plain (OpenSpec.ofChange fixTextsSpec)) fixTextsCard

/-- THE TIED CARD OF 'flightdecklaw14.FixParses'. -/
def fixParsesCard : Claim7 := { stood := { row := fixParsesRow, standIns := [], harness := (true, "7c96d68684faa0271a49fd47e0542d33a4217848e6aabda372eab1aafc7bf60d"), looks := true }, kinds := [], alts := [], laidByText := true, laidKinds := [.data, .data, .data, .sentinel, .sentinel], laidTests := true, laidLooks := .later }
def FixParsesCardSaid : Prop := Claim7.holds Tryz.pinned (.plain (OpenSpec.ofChange fixParsesSpec)) fixParsesCard

/-- THE TIED CARD OF 'flightdecklaw14.FixTakes'. -/
def fixTakesCard : Claim7 := { stood := { row := fixTakesRow, standIns := [], harness := (true, "7c96d68684faa0271a49fd47e0542d33a4217848e6aabda372eab1aafc7bf60d"), looks := true }, kinds := [], alts := [], laidByText := true, laidKinds := [.data, .data, .data, .sentinel, .sentinel], laidTests := true, laidLooks := .later }
def FixTakesCardSaid : Prop := Claim7.holds Tryz.pinned (.plain (OpenSpec.ofChange fixTakesSpec)) fixTakesCard

/-- THE TIED CARD OF 'flightdecklaw14.FixFinds'. -/
def fixFindsCard : Claim7 := { stood := { row := fixFindsRow, standIns := [], harness := (true, "7c96d68684faa0271a49fd47e0542d33a4217848e6aabda372eab1aafc7bf60d"), looks := true }, kinds := [], alts := [], laidByText := true, laidKinds := [.data, .data, .data, .sentinel, .sentinel], laidTests := true, laidLooks := .later }
def FixFindsCardSaid : Prop := Claim7.holds Tryz.pinned (.plain (OpenSpec.ofChange fixFindsSpec)) fixFindsCard

/-- THE TIED CARD OF 'flightdecklaw14.FixSorts'. -/
def fixSortsCard : Claim7 := { stood := { row := fixSortsRow, standIns := [], harness := (true, "7c96d68684faa0271a49fd47e0542d33a4217848e6aabda372eab1aafc7bf60d"), looks := true }, kinds := [], alts := [], laidByText := true, laidKinds := [.data, .data, .data, .sentinel, .sentinel], laidTests := true, laidLooks := .later }
def FixSortsCardSaid : Prop := Claim7.holds Tryz.pinned (.plain (OpenSpec.ofChange fixSortsSpec)) fixSortsCard

/-- THE TIED CARD OF 'flightdecklaw14.FixNear'. -/
def fixNearCard : Claim7 := { stood := { row := fixNearRow, standIns := [], harness := (true, "7c96d68684faa0271a49fd47e0542d33a4217848e6aabda372eab1aafc7bf60d"), looks := true }, kinds := [], alts := [], laidByText := true, laidKinds := [.data, .data, .data, .sentinel, .sentinel], laidTests := true, laidLooks := .later }
def FixNearCardSaid : Prop := Claim7.holds Tryz.pinned (.plain (OpenSpec.ofChange fixNearSpec)) fixNearCard

/-- THE TIED CARD OF 'flightdecklaw14.FixNearest'. -/
def fixNearestCard : Claim7 := { stood := { row := fixNearestRow, standIns := [], harness := (true, "7c96d68684faa0271a49fd47e0542d33a4217848e6aabda372eab1aafc7bf60d"), looks := true }, kinds := [], alts := [], laidByText := true, laidKinds := [.data, .data, .data, .sentinel, .sentinel], laidTests := true, laidLooks := .later }
def FixNearestCardSaid : Prop := Claim7.holds Tryz.pinned (.plain (OpenSpec.ofChange fixNearestSpec)) fixNearestCard

/-- THE SECOND FORM's CARD OF 'flightdecklaw14.FixChecks'. -/
def fixChecksUptoCard : Claim7 := { stood := { row := fixChecksUptoRow, standIns := [], harness := (true, "7c96d68684faa0271a49fd47e0542d33a4217848e6aabda372eab1aafc7bf60d"), looks := true }, kinds := [], alts := [], laidByText := true, laidKinds := [.data, .data, .data, .sentinel, .sentinel], laidTests := true, laidLooks := .later }
def FixChecksUptoCardSaid : Prop := Claim7.holds Tryz.pinned (.plain (OpenSpec.upto fixChecksSpec)) fixChecksUptoCard

/-- THE SECOND FORM's CARD OF 'flightdecklaw14.FixRefs'. -/
def fixRefsUptoCard : Claim7 := { stood := { row := fixRefsUptoRow, standIns := [], harness := (true, "7c96d68684faa0271a49fd47e0542d33a4217848e6aabda372eab1aafc7bf60d"), looks := true }, kinds := [], alts := [], laidByText := true, laidKinds := [.data, .data, .data, .sentinel, .sentinel], laidTests := true, laidLooks := .later }
def FixRefsUptoCardSaid : Prop := Claim7.holds Tryz.pinned (.plain (OpenSpec.upto fixRefsSpec)) fixRefsUptoCard

/-- THE SECOND FORM's CARD OF 'flightdecklaw14.FixTexts'. -/
def fixTextsUptoCard : Claim7 := { stood := { row := fixTextsUptoRow, standIns := [], harness := (true, "7c96d68684faa0271a49fd47e0542d33a4217848e6aabda372eab1aafc7bf60d"), looks := true }, kinds := [], alts := [], laidByText := true, laidKinds := [.data, .data, .data, .sentinel, .sentinel], laidTests := true, laidLooks := .later }
def FixTextsUptoCardSaid : Prop := Claim7.holds Tryz.pinned (.plain (OpenSpec.upto fixTextsSpec)) fixTextsUptoCard

/-- THE SECOND FORM's CARD OF 'flightdecklaw14.FixParses'. -/
def fixParsesUptoCard : Claim7 := { stood := { row := fixParsesUptoRow, standIns := [], harness := (true, "7c96d68684faa0271a49fd47e0542d33a4217848e6aabda372eab1aafc7bf60d"), looks := true }, kinds := [], alts := [], laidByText := true, laidKinds := [.data, .data, .data, .sentinel, .sentinel], laidTests := true, laidLooks := .later }
def FixParsesUptoCardSaid : Prop := Claim7.holds Tryz.pinned (.plain (OpenSpec.upto fixParsesSpec)) fixParsesUptoCard

/-- THE SECOND FORM's CARD OF 'flightdecklaw14.FixTakes'. -/
def fixTakesUptoCard : Claim7 := { stood := { row := fixTakesUptoRow, standIns := [], harness := (true, "7c96d68684faa0271a49fd47e0542d33a4217848e6aabda372eab1aafc7bf60d"), looks := true }, kinds := [], alts := [], laidByText := true, laidKinds := [.data, .data, .data, .sentinel, .sentinel], laidTests := true, laidLooks := .later }
def FixTakesUptoCardSaid : Prop := Claim7.holds Tryz.pinned (.plain (OpenSpec.upto fixTakesSpec)) fixTakesUptoCard

/-- THE SECOND FORM's CARD OF 'flightdecklaw14.FixFinds'. -/
def fixFindsUptoCard : Claim7 := { stood := { row := fixFindsUptoRow, standIns := [], harness := (true, "7c96d68684faa0271a49fd47e0542d33a4217848e6aabda372eab1aafc7bf60d"), looks := true }, kinds := [], alts := [], laidByText := true, laidKinds := [.data, .data, .data, .sentinel, .sentinel], laidTests := true, laidLooks := .later }
def FixFindsUptoCardSaid : Prop := Claim7.holds Tryz.pinned (.plain (OpenSpec.upto fixFindsSpec)) fixFindsUptoCard

/-- THE SECOND FORM's CARD OF 'flightdecklaw14.FixSorts'. -/
def fixSortsUptoCard : Claim7 := { stood := { row := fixSortsUptoRow, standIns := [], harness := (true, "7c96d68684faa0271a49fd47e0542d33a4217848e6aabda372eab1aafc7bf60d"), looks := true }, kinds := [], alts := [], laidByText := true, laidKinds := [.data, .data, .data, .sentinel, .sentinel], laidTests := true, laidLooks := .later }
def FixSortsUptoCardSaid : Prop := Claim7.holds Tryz.pinned (.plain (OpenSpec.upto fixSortsSpec)) fixSortsUptoCard

/-- THE SECOND FORM's CARD OF 'flightdecklaw14.FixNear'. -/
def fixNearUptoCard : Claim7 := { stood := { row := fixNearUptoRow, standIns := [], harness := (true, "7c96d68684faa0271a49fd47e0542d33a4217848e6aabda372eab1aafc7bf60d"), looks := true }, kinds := [], alts := [], laidByText := true, laidKinds := [.data, .data, .data, .sentinel, .sentinel], laidTests := true, laidLooks := .later }
def FixNearUptoCardSaid : Prop := Claim7.holds Tryz.pinned (.plain (OpenSpec.upto fixNearSpec)) fixNearUptoCard

/-- THE SECOND FORM's CARD OF 'flightdecklaw14.FixNearest'. -/
def fixNearestUptoCard : Claim7 := { stood := { row := fixNearestUptoRow, standIns := [], harness := (true, "7c96d68684faa0271a49fd47e0542d33a4217848e6aabda372eab1aafc7bf60d"), looks := true }, kinds := [], alts := [], laidByText := true, laidKinds := [.data, .data, .data, .sentinel, .sentinel], laidTests := true, laidLooks := .later }
def FixNearestUptoCardSaid : Prop := Claim7.holds Tryz.pinned (.plain (OpenSpec.upto fixNearestSpec)) fixNearestUptoCard
end Rows
end Go.Proofs.YtempiooclhmeoaaGreatDoor
