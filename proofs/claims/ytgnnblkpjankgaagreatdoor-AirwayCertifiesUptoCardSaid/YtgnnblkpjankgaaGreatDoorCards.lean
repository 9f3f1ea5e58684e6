/-
  DERIVED. GIVEN WITH THE SEED: THE CARDS: each row of YtgnnblkpjankgaaGreatDoorRows.lean that lists a variable, with what it lists TIED to the program's text (the seventh form; the later family's looks); each row that meets fmt, with fmt's text TOLD by the authors' own Lean function (tested against real Go, not proved from fmt's source: count such statements apart). THE CARD IS WHAT COUNTS. Prove the row's statement (the work); the ties are given (YtgnnblkpjankgaaGreatDoorTie.lean); close each card by the builder's one call (the guide's Derived/Test/ToyasCard.lean, 'card_holds'). Laid BY PROGRAM, IN A SANDBOX (cutbox-door.mjs). By AI agents, Wed Nov 11 2026. No macro, syntax, notation, axiom, sorry.
-/
import Derived.Test.YtgnnblkpjankgaaGreatDoorRows
import GoSem.ClaimSeven
namespace Go.Proofs.YtgnnblkpjankgaaGreatDoor
namespace Rows

/-- THE TIED CARD OF 'flightdecklaw15.AirwayCertifies'. -/
def airwayCertifiesCard : Claim7 := { stood := { row := airwayCertifiesRow, standIns := [], harness := (true, "bc8934299e1451ab88b49b97e542c109a0ff071a846597c2b011990a3d2eb54c"), looks := false }, kinds := [], alts := [], laidByText := true, laidKinds := [.data, .data, .data], laidTests := true, laidLooks := .later }
def AirwayCertifiesCardSaid : Prop := Claim7.holds Tryz.pinned (.plain (OpenSpec.ofChange airwayCertifiesSpec)) airwayCertifiesCard

/-- THE TIED CARD OF 'flightdecklaw15.AirwayShortest'. -/
def airwayShortestCard : Claim7 := { stood := { row := airwayShortestRow, standIns := [], harness := (true, "bc8934299e1451ab88b49b97e542c109a0ff071a846597c2b011990a3d2eb54c"), looks := false }, kinds := [], alts := [], laidByText := true, laidKinds := [.data, .data, .data], laidTests := true, laidLooks := .later }
def AirwayShortestCardSaid : Prop := Claim7.holds Tryz.pinned (.plain (OpenSpec.ofChange airwayShortestSpec)) airwayShortestCard

/-- THE TIED CARD OF 'flightdecklaw15.AirwayLeast'. -/
def airwayLeastCard : Claim7 := { stood := { row := airwayLeastRow, standIns := [], harness := (true, "bc8934299e1451ab88b49b97e542c109a0ff071a846597c2b011990a3d2eb54c"), looks := false }, kinds := [], alts := [], laidByText := true, laidKinds := [.data, .data, .data], laidTests := true, laidLooks := .later }
def AirwayLeastCardSaid : Prop := Claim7.holds Tryz.pinned (.plain (OpenSpec.ofChange airwayLeastSpec)) airwayLeastCard

/-- THE TIED CARD OF 'flightdecklaw15.AirwayProves'. -/
def airwayProvesCard : Claim7 := { stood := { row := airwayProvesRow, standIns := [], harness := (true, "bc8934299e1451ab88b49b97e542c109a0ff071a846597c2b011990a3d2eb54c"), looks := false }, kinds := [], alts := [], laidByText := true, laidKinds := [.data, .data, .data], laidTests := true, laidLooks := .later }
def AirwayProvesCardSaid : Prop := Claim7.holds Tryz.pinned (.plain (OpenSpec.ofChange airwayProvesSpec)) airwayProvesCard

/-- THE SECOND FORM's CARD OF 'flightdecklaw15.AirwayCertifies'. -/
def airwayCertifiesUptoCard : Claim7 := { stood := { row := airwayCertifiesUptoRow, standIns := [], harness := (true, "bc8934299e1451ab88b49b97e542c109a0ff071a846597c2b011990a3d2eb54c"), looks := false }, kinds := [], alts := [], laidByText := true, laidKinds := [.data, .data, .data], laidTests := true, laidLooks := .later }
def AirwayCertifiesUptoCardSaid : Prop := Claim7.holds Tryz.pinned (.plain (OpenSpec.upto airwayCertifiesSpec)) airwayCertifiesUptoCard

/-- THE SECOND FORM's CARD OF 'flightdecklaw15.AirwayShortest'. -/
def airwayShortestUptoCard : Claim7 := { stood := { row := airwayShortestUptoRow, standIns := [], harness := (true, "bc8934299e1451ab88b49b97e542c109a0ff071a846597c2b011990a3d2eb54c"), looks := false }, kinds := [], alts := [], laidByText := true, laidKinds := [.data, .data, .data], laidTests := true, laidLooks := .later }
def AirwayShortestUptoCardSaid : Prop := Claim7.holds Tryz.pinned (.plain (OpenSpec.upto airwayShortestSpec)) airwayShortestUptoCard

/-- THE SECOND FORM's CARD OF 'flightdecklaw15.AirwayLeast'. -/
def airwayLeastUptoCard : Claim7 := { stood := { row := airwayLeastUptoRow, standIns := [], harness := (true, "bc8934299e1451ab88b49b97e542c109a0ff071a846597c2b011990a3d2eb54c"), looks := false }, kinds := [], alts := [], laidByText := true, laidKinds := [.data, .data, .data], laidTests := true, laidLooks := .later }
def AirwayLeastUptoCardSaid : Prop := Claim7.holds Tryz.pinned (.plain (OpenSpec.upto airwayLeastSpec)) airwayLeastUptoCard

/-- THE SECOND FORM's CARD OF 'flightdecklaw15.AirwayProves'. -/
def airwayProvesUptoCard : Claim7 := { stood := { row := airwayProvesUptoRow, standIns := [], harness := (true, "bc8934299e1451ab88b49b97e542c109a0ff071a846597c2b011990a3d2eb54c"), looks := false }, kinds := [], alts := [], laidByText := true, laidKinds := [.data, .data, .data], laidTests := true, laidLooks := .later }
def AirwayProvesUptoCardSaid : Prop := Claim7.holds Tryz.pinned (.plain (OpenSpec.upto airwayProvesSpec)) airwayProvesUptoCard
end Rows
end Go.Proofs.YtgnnblkpjankgaaGreatDoor
