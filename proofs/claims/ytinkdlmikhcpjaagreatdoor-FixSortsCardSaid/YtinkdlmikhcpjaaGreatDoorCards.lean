/-
  DERIVED. GIVEN WITH THE SEED: THE CARDS: each row of YtinkdlmikhcpjaaGreatDoorRows.lean that lists a variable, with what it lists TIED to the program's text (the seventh form; the later family's looks); each row that meets fmt, with fmt's text TOLD by the authors' own Lean function (tested against real Go, not proved from fmt's source: count such statements apart). THE CARD IS WHAT COUNTS. Prove the row's statement (the work); the ties are given (YtinkdlmikhcpjaaGreatDoorTie.lean); close each card by the builder's one call (the guide's Derived/Test/ToyasCard.lean, 'card_holds'). Laid BY PROGRAM, IN A SANDBOX (cutbox-door.mjs). By AI agents, Wed Nov 11 2026. No macro, syntax, notation, axiom, sorry.
-/
import Derived.Test.YtinkdlmikhcpjaaGreatDoorRows
import GoSem.ClaimSeven
namespace Go.Proofs.YtinkdlmikhcpjaaGreatDoor
namespace Rows

/-- THE TIED CARD OF 'flightdecklaw14.FixSorts'. -/
def fixSortsCard : Claim7 := { stood := { row := fixSortsRow, standIns := [], harness := (true, "62aa3f185b70454fb1618fc0358027868bf447a1dbd01da98fce71a6b0264b9a"), looks := true }, kinds := [], alts := [], laidByText := true, laidKinds := [.data, .data, .data, .sentinel, .sentinel], laidTests := true, laidLooks := .later }
def FixSortsCardSaid : Prop := Claim7.holds Tryz.pinned (.plain (OpenSpec.ofChange fixSortsSpec)) fixSortsCard

/-- THE TIED CARD OF 'flightdecklaw15.AirwayTakes'. -/
def airwayTakesCard : Claim7 := { stood := { row := airwayTakesRow, standIns := [], harness := (true, "62aa3f185b70454fb1618fc0358027868bf447a1dbd01da98fce71a6b0264b9a"), looks := true }, kinds := [], alts := [], laidByText := true, laidKinds := [.data, .data, .data, .sentinel, .sentinel], laidTests := true, laidLooks := .later }
def AirwayTakesCardSaid : Prop := Claim7.holds Tryz.pinned (.plain (OpenSpec.ofChange airwayTakesSpec)) airwayTakesCard

/-- THE TIED CARD OF 'flightdecklaw14.FixNear'. -/
def fixNearCard : Claim7 := { stood := { row := fixNearRow, standIns := [], harness := (true, "62aa3f185b70454fb1618fc0358027868bf447a1dbd01da98fce71a6b0264b9a"), looks := true }, kinds := [], alts := [], laidByText := true, laidKinds := [.data, .data, .data, .sentinel, .sentinel], laidTests := true, laidLooks := .later }
def FixNearCardSaid : Prop := Claim7.holds Tryz.pinned (.plain (OpenSpec.ofChange fixNearSpec)) fixNearCard

/-- THE TIED CARD OF 'flightdecklaw14.FixNearest'. -/
def fixNearestCard : Claim7 := { stood := { row := fixNearestRow, standIns := [], harness := (true, "62aa3f185b70454fb1618fc0358027868bf447a1dbd01da98fce71a6b0264b9a"), looks := true }, kinds := [], alts := [], laidByText := true, laidKinds := [.data, .data, .data, .sentinel, .sentinel], laidTests := true, laidLooks := .later }
def FixNearestCardSaid : Prop := Claim7.holds Tryz.pinned (.plain (OpenSpec.ofChange fixNearestSpec)) fixNearestCard

/-- THE TIED CARD OF 'flightdecklaw15.AirwayTexts'. -/
def airwayTextsCard : Claim7 := { stood := { row := airwayTextsRow, standIns := [], harness := (true, "62aa3f185b70454fb1618fc0358027868bf447a1dbd01da98fce71a6b0264b9a"), looks := true }, kinds := [], alts := [], laidByText := true, laidKinds := [.data, .data, .data, .data, .sentinel, .sentinel, .pinned], laidTests := true, laidLooks := .later }
def AirwayTextsCardSaid : Prop := Claim7.holds Tryz.pinned (.plain (OpenSpec.ofChange airwayTextsSpec)) airwayTextsCard

/-- THE SECOND FORM's CARD OF 'flightdecklaw14.FixSorts'. -/
def fixSortsUptoCard : Claim7 := { stood := { row := fixSortsUptoRow, standIns := [], harness := (true, "62aa3f185b70454fb1618fc0358027868bf447a1dbd01da98fce71a6b0264b9a"), looks := true }, kinds := [], alts := [], laidByText := true, laidKinds := [.data, .data, .data, .sentinel, .sentinel], laidTests := true, laidLooks := .later }
def FixSortsUptoCardSaid : Prop := Claim7.holds Tryz.pinned (.plain (OpenSpec.upto fixSortsSpec)) fixSortsUptoCard

/-- THE SECOND FORM's CARD OF 'flightdecklaw15.AirwayTakes'. -/
def airwayTakesUptoCard : Claim7 := { stood := { row := airwayTakesUptoRow, standIns := [], harness := (true, "62aa3f185b70454fb1618fc0358027868bf447a1dbd01da98fce71a6b0264b9a"), looks := true }, kinds := [], alts := [], laidByText := true, laidKinds := [.data, .data, .data, .sentinel, .sentinel], laidTests := true, laidLooks := .later }
def AirwayTakesUptoCardSaid : Prop := Claim7.holds Tryz.pinned (.plain (OpenSpec.upto airwayTakesSpec)) airwayTakesUptoCard

/-- THE SECOND FORM's CARD OF 'flightdecklaw14.FixNear'. -/
def fixNearUptoCard : Claim7 := { stood := { row := fixNearUptoRow, standIns := [], harness := (true, "62aa3f185b70454fb1618fc0358027868bf447a1dbd01da98fce71a6b0264b9a"), looks := true }, kinds := [], alts := [], laidByText := true, laidKinds := [.data, .data, .data, .sentinel, .sentinel], laidTests := true, laidLooks := .later }
def FixNearUptoCardSaid : Prop := Claim7.holds Tryz.pinned (.plain (OpenSpec.upto fixNearSpec)) fixNearUptoCard

/-- THE SECOND FORM's CARD OF 'flightdecklaw14.FixNearest'. -/
def fixNearestUptoCard : Claim7 := { stood := { row := fixNearestUptoRow, standIns := [], harness := (true, "62aa3f185b70454fb1618fc0358027868bf447a1dbd01da98fce71a6b0264b9a"), looks := true }, kinds := [], alts := [], laidByText := true, laidKinds := [.data, .data, .data, .sentinel, .sentinel], laidTests := true, laidLooks := .later }
def FixNearestUptoCardSaid : Prop := Claim7.holds Tryz.pinned (.plain (OpenSpec.upto fixNearestSpec)) fixNearestUptoCard

/-- THE SECOND FORM's CARD OF 'flightdecklaw15.AirwayTexts'. -/
def airwayTextsUptoCard : Claim7 := { stood := { row := airwayTextsUptoRow, standIns := [], harness := (true, "62aa3f185b70454fb1618fc0358027868bf447a1dbd01da98fce71a6b0264b9a"), looks := true }, kinds := [], alts := [], laidByText := true, laidKinds := [.data, .data, .data, .data, .sentinel, .sentinel, .pinned], laidTests := true, laidLooks := .later }
def AirwayTextsUptoCardSaid : Prop := Claim7.holds Tryz.pinned (.plain (OpenSpec.upto airwayTextsSpec)) airwayTextsUptoCard
end Rows
end Go.Proofs.YtinkdlmikhcpjaaGreatDoor
