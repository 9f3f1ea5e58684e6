/-
  DERIVED. GIVEN WITH THE SEED: THE CARDS: each row of YtlgajjlnbcbijaaGreatDoorRows.lean that lists a variable, with what it lists TIED to the program's text (the seventh form; the later family's looks); each row that meets fmt, with fmt's text TOLD by the authors' own Lean function (tested against real Go, not proved from fmt's source: count such statements apart). THE CARD IS WHAT COUNTS. Prove the row's statement (the work); the ties are given (YtlgajjlnbcbijaaGreatDoorTie.lean); close each card by the builder's one call (the guide's Derived/Test/ToyasCard.lean, 'card_holds'). Laid BY PROGRAM, IN A SANDBOX (cutbox-door.mjs). By AI agents, Wed Nov 11 2026. No macro, syntax, notation, axiom, sorry.
-/
import Derived.Test.YtlgajjlnbcbijaaGreatDoorRows
import GoSem.ClaimSeven
namespace Go.Proofs.YtlgajjlnbcbijaaGreatDoor
namespace Rows

/-- THE TIED CARD OF 'flightdecklaw15.AirwayCertifies'. -/
def airwayCertifiesCard : Claim7 := { stood := { row := airwayCertifiesRow, standIns := [], harness := (true, "ee2b5c281b03b7a31ba4cfb2f18486e4325815fb2ba1088dd0058862f8cf3663"), looks := true }, kinds := [], alts := [], laidByText := true, laidKinds := [.data, .data, .data], laidTests := true, laidLooks := .later }
def AirwayCertifiesCardSaid : Prop := Claim7.holds Tryz.pinned (.plain (OpenSpec.ofChange airwayCertifiesSpec)) airwayCertifiesCard

/-- THE TIED CARD OF 'flightdecklaw15.AirwayShortest'. -/
def airwayShortestCard : Claim7 := { stood := { row := airwayShortestRow, standIns := [], harness := (true, "ee2b5c281b03b7a31ba4cfb2f18486e4325815fb2ba1088dd0058862f8cf3663"), looks := true }, kinds := [], alts := [], laidByText := true, laidKinds := [.data, .data, .data], laidTests := true, laidLooks := .later }
def AirwayShortestCardSaid : Prop := Claim7.holds Tryz.pinned (.plain (OpenSpec.ofChange airwayShortestSpec)) airwayShortestCard

/-- THE TIED CARD OF 'flightdecklaw15.AirwayLeast'. -/
def airwayLeastCard : Claim7 := { stood := { row := airwayLeastRow, standIns := [], harness := (true, "ee2b5c281b03b7a31ba4cfb2f18486e4325815fb2ba1088dd0058862f8cf3663"), looks := true }, kinds := [], alts := [], laidByText := true, laidKinds := [.data, .data, .data], laidTests := true, laidLooks := .later }
def AirwayLeastCardSaid : Prop := Claim7.holds Tryz.pinned (.plain (OpenSpec.ofChange airwayLeastSpec)) airwayLeastCard

/-- THE TIED CARD OF 'flightdecklaw08.RecordScans'. -/
def recordScansCard : Claim7 := { stood := { row := recordScansRow, standIns := [], harness := (true, "ee2b5c281b03b7a31ba4cfb2f18486e4325815fb2ba1088dd0058862f8cf3663"), looks := true }, kinds := [], alts := [], laidByText := true, laidKinds := [.data, .data, .data, .data, .sentinel, .sentinel, .pinned], laidTests := true, laidLooks := .later }
def RecordScansCardSaid : Prop := Claim7.holds Tryz.pinned (.plain (OpenSpec.ofChange recordScansSpec)) recordScansCard

/-- THE TIED CARD OF 'flightdecklaw08.RecordNil'. -/
def recordNilCard : Claim7 := { stood := { row := recordNilRow, standIns := [], harness := (true, "ee2b5c281b03b7a31ba4cfb2f18486e4325815fb2ba1088dd0058862f8cf3663"), looks := true }, kinds := [], alts := [], laidByText := true, laidKinds := [.data, .data, .data, .data, .sentinel, .sentinel, .pinned], laidTests := true, laidLooks := .later }
def RecordNilCardSaid : Prop := Claim7.holds Tryz.pinned (.plain (OpenSpec.ofChange recordNilSpec)) recordNilCard

/-- THE TIED CARD OF 'flightdecklaw15.AirwayProves'. -/
def airwayProvesCard : Claim7 := { stood := { row := airwayProvesRow, standIns := [], harness := (true, "ee2b5c281b03b7a31ba4cfb2f18486e4325815fb2ba1088dd0058862f8cf3663"), looks := true }, kinds := [], alts := [], laidByText := true, laidKinds := [.data, .data, .data], laidTests := true, laidLooks := .later }
def AirwayProvesCardSaid : Prop := Claim7.holds Tryz.pinned (.plain (OpenSpec.ofChange airwayProvesSpec)) airwayProvesCard

/-- THE TIED CARD OF 'flightdecklaw14.FixSorts'. -/
def fixSortsCard : Claim7 := { stood := { row := fixSortsRow, standIns := [], harness := (true, "ee2b5c281b03b7a31ba4cfb2f18486e4325815fb2ba1088dd0058862f8cf3663"), looks := true }, kinds := [], alts := [], laidByText := true, laidKinds := [.data, .data, .data, .sentinel, .sentinel], laidTests := true, laidLooks := .later }
def FixSortsCardSaid : Prop := Claim7.holds Tryz.pinned (.plain (OpenSpec.ofChange fixSortsSpec)) fixSortsCard

/-- THE TIED CARD OF 'flightdecklaw15.AirwayTakes'. -/
def airwayTakesCard : Claim7 := { stood := { row := airwayTakesRow, standIns := [], harness := (true, "ee2b5c281b03b7a31ba4cfb2f18486e4325815fb2ba1088dd0058862f8cf3663"), looks := true }, kinds := [], alts := [], laidByText := true, laidKinds := [.data, .data, .data, .sentinel, .sentinel], laidTests := true, laidLooks := .later }
def AirwayTakesCardSaid : Prop := Claim7.holds Tryz.pinned (.plain (OpenSpec.ofChange airwayTakesSpec)) airwayTakesCard

/-- THE TIED CARD OF 'flightdecklaw14.FixNear'. -/
def fixNearCard : Claim7 := { stood := { row := fixNearRow, standIns := [], harness := (true, "ee2b5c281b03b7a31ba4cfb2f18486e4325815fb2ba1088dd0058862f8cf3663"), looks := true }, kinds := [], alts := [], laidByText := true, laidKinds := [.data, .data, .data, .sentinel, .sentinel], laidTests := true, laidLooks := .later }
def FixNearCardSaid : Prop := Claim7.holds Tryz.pinned (.plain (OpenSpec.ofChange fixNearSpec)) fixNearCard

/-- THE TIED CARD OF 'flightdecklaw14.FixNearest'. -/
def fixNearestCard : Claim7 := { stood := { row := fixNearestRow, standIns := [], harness := (true, "ee2b5c281b03b7a31ba4cfb2f18486e4325815fb2ba1088dd0058862f8cf3663"), looks := true }, kinds := [], alts := [], laidByText := true, laidKinds := [.data, .data, .data, .sentinel, .sentinel], laidTests := true, laidLooks := .later }
def FixNearestCardSaid : Prop := Claim7.holds Tryz.pinned (.plain (OpenSpec.ofChange fixNearestSpec)) fixNearestCard

/-- THE TIED CARD OF 'flightdecklaw15.AirwayTexts'. -/
def airwayTextsCard : Claim7 := { stood := { row := airwayTextsRow, standIns := [], harness := (true, "ee2b5c281b03b7a31ba4cfb2f18486e4325815fb2ba1088dd0058862f8cf3663"), looks := true }, kinds := [], alts := [], laidByText := true, laidKinds := [.data, .data, .data, .data, .sentinel, .sentinel, .pinned], laidTests := true, laidLooks := .later }
def AirwayTextsCardSaid : Prop := Claim7.holds Tryz.pinned (.plain (OpenSpec.ofChange airwayTextsSpec)) airwayTextsCard

/-- THE SECOND FORM's CARD OF 'flightdecklaw15.AirwayCertifies'. -/
def airwayCertifiesUptoCard : Claim7 := { stood := { row := airwayCertifiesUptoRow, standIns := [], harness := (true, "ee2b5c281b03b7a31ba4cfb2f18486e4325815fb2ba1088dd0058862f8cf3663"), looks := true }, kinds := [], alts := [], laidByText := true, laidKinds := [.data, .data, .data], laidTests := true, laidLooks := .later }
def AirwayCertifiesUptoCardSaid : Prop := Claim7.holds Tryz.pinned (.plain (OpenSpec.upto airwayCertifiesSpec)) airwayCertifiesUptoCard

/-- THE SECOND FORM's CARD OF 'flightdecklaw15.AirwayShortest'. -/
def airwayShortestUptoCard : Claim7 := { stood := { row := airwayShortestUptoRow, standIns := [], harness := (true, "ee2b5c281b03b7a31ba4cfb2f18486e4325815fb2ba1088dd0058862f8cf3663"), looks := true }, kinds := [], alts := [], laidByText := true, laidKinds := [.data, .data, .data], laidTests := true, laidLooks := .later }
def AirwayShortestUptoCardSaid : Prop := Claim7.holds Tryz.pinned (.plain (OpenSpec.upto airwayShortestSpec)) airwayShortestUptoCard

/-- THE SECOND FORM's CARD OF 'flightdecklaw15.AirwayLeast'. -/
def airwayLeastUptoCard : Claim7 := { stood := { row := airwayLeastUptoRow, standIns := [], harness := (true, "ee2b5c281b03b7a31ba4cfb2f18486e4325815fb2ba1088dd0058862f8cf3663"), looks := true }, kinds := [], alts := [], laidByText := true, laidKinds := [.data, .data, .data], laidTests := true, laidLooks := .later }
def AirwayLeastUptoCardSaid : Prop := Claim7.holds Tryz.pinned (.plain (OpenSpec.upto airwayLeastSpec)) airwayLeastUptoCard

/-- THE SECOND FORM's CARD OF 'flightdecklaw08.RecordScans'. -/
def recordScansUptoCard : Claim7 := { stood := { row := recordScansUptoRow, standIns := [], harness := (true, "ee2b5c281b03b7a31ba4cfb2f18486e4325815fb2ba1088dd0058862f8cf3663"), looks := true }, kinds := [], alts := [], laidByText := true, laidKinds := [.data, .data, .data, .data, .sentinel, .sentinel, .pinned], laidTests := true, laidLooks := .later }
def RecordScansUptoCardSaid : Prop := Claim7.holds Tryz.pinned (.plain (OpenSpec.upto recordScansSpec)) recordScansUptoCard

/-- THE SECOND FORM's CARD OF 'flightdecklaw08.RecordNil'. -/
def recordNilUptoCard : Claim7 := { stood := { row := recordNilUptoRow, standIns := [], harness := (true, "ee2b5c281b03b7a31ba4cfb2f18486e4325815fb2ba1088dd0058862f8cf3663"), looks := true }, kinds := [], alts := [], laidByText := true, laidKinds := [.data, .data, .data, .data, .sentinel, .sentinel, .pinned], laidTests := true, laidLooks := .later }
def RecordNilUptoCardSaid : Prop := Claim7.holds Tryz.pinned (.plain (OpenSpec.upto recordNilSpec)) recordNilUptoCard

/-- THE SECOND FORM's CARD OF 'flightdecklaw15.AirwayProves'. -/
def airwayProvesUptoCard : Claim7 := { stood := { row := airwayProvesUptoRow, standIns := [], harness := (true, "ee2b5c281b03b7a31ba4cfb2f18486e4325815fb2ba1088dd0058862f8cf3663"), looks := true }, kinds := [], alts := [], laidByText := true, laidKinds := [.data, .data, .data], laidTests := true, laidLooks := .later }
def AirwayProvesUptoCardSaid : Prop := Claim7.holds Tryz.pinned (.plain (OpenSpec.upto airwayProvesSpec)) airwayProvesUptoCard

/-- THE SECOND FORM's CARD OF 'flightdecklaw14.FixSorts'. -/
def fixSortsUptoCard : Claim7 := { stood := { row := fixSortsUptoRow, standIns := [], harness := (true, "ee2b5c281b03b7a31ba4cfb2f18486e4325815fb2ba1088dd0058862f8cf3663"), looks := true }, kinds := [], alts := [], laidByText := true, laidKinds := [.data, .data, .data, .sentinel, .sentinel], laidTests := true, laidLooks := .later }
def FixSortsUptoCardSaid : Prop := Claim7.holds Tryz.pinned (.plain (OpenSpec.upto fixSortsSpec)) fixSortsUptoCard

/-- THE SECOND FORM's CARD OF 'flightdecklaw15.AirwayTakes'. -/
def airwayTakesUptoCard : Claim7 := { stood := { row := airwayTakesUptoRow, standIns := [], harness := (true, "ee2b5c281b03b7a31ba4cfb2f18486e4325815fb2ba1088dd0058862f8cf3663"), looks := true }, kinds := [], alts := [], laidByText := true, laidKinds := [.data, .data, .data, .sentinel, .sentinel], laidTests := true, laidLooks := .later }
def AirwayTakesUptoCardSaid : Prop := Claim7.holds Tryz.pinned (.plain (OpenSpec.upto airwayTakesSpec)) airwayTakesUptoCard

/-- THE SECOND FORM's CARD OF 'flightdecklaw14.FixNear'. -/
def fixNearUptoCard : Claim7 := { stood := { row := fixNearUptoRow, standIns := [], harness := (true, "ee2b5c281b03b7a31ba4cfb2f18486e4325815fb2ba1088dd0058862f8cf3663"), looks := true }, kinds := [], alts := [], laidByText := true, laidKinds := [.data, .data, .data, .sentinel, .sentinel], laidTests := true, laidLooks := .later }
def FixNearUptoCardSaid : Prop := Claim7.holds Tryz.pinned (.plain (OpenSpec.upto fixNearSpec)) fixNearUptoCard

/-- THE SECOND FORM's CARD OF 'flightdecklaw14.FixNearest'. -/
def fixNearestUptoCard : Claim7 := { stood := { row := fixNearestUptoRow, standIns := [], harness := (true, "ee2b5c281b03b7a31ba4cfb2f18486e4325815fb2ba1088dd0058862f8cf3663"), looks := true }, kinds := [], alts := [], laidByText := true, laidKinds := [.data, .data, .data, .sentinel, .sentinel], laidTests := true, laidLooks := .later }
def FixNearestUptoCardSaid : Prop := Claim7.holds Tryz.pinned (.plain (OpenSpec.upto fixNearestSpec)) fixNearestUptoCard

/-- THE SECOND FORM's CARD OF 'flightdecklaw15.AirwayTexts'. -/
def airwayTextsUptoCard : Claim7 := { stood := { row := airwayTextsUptoRow, standIns := [], harness := (true, "ee2b5c281b03b7a31ba4cfb2f18486e4325815fb2ba1088dd0058862f8cf3663"), looks := true }, kinds := [], alts := [], laidByText := true, laidKinds := [.data, .data, .data, .data, .sentinel, .sentinel, .pinned], laidTests := true, laidLooks := .later }
def AirwayTextsUptoCardSaid : Prop := Claim7.holds Tryz.pinned (.plain (OpenSpec.upto airwayTextsSpec)) airwayTextsUptoCard
end Rows
end Go.Proofs.YtlgajjlnbcbijaaGreatDoor
