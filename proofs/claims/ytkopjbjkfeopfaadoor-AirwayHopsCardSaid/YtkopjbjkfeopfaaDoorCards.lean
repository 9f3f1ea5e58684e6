/-
  DERIVED. GIVEN WITH THE SEED: THE CARDS: each row of YtkopjbjkfeopfaaDoorRows.lean that lists a variable, with what it lists TIED to the program's text (the seventh form; the later family's looks); each row that meets fmt, with fmt's text TOLD by the authors' own Lean function (tested against real Go, not proved from fmt's source: count such statements apart). THE CARD IS WHAT COUNTS. Prove the row's statement (the work); the ties are given (YtkopjbjkfeopfaaDoorTie.lean); close each card by the builder's one call (the guide's Derived/Test/ToyasCard.lean, 'card_holds'). Laid BY PROGRAM, IN A SANDBOX (cutbox-door.mjs). By AI agents, Wed Nov 11 2026. No macro, syntax, notation, axiom, sorry.
-/
import Derived.Test.YtkopjbjkfeopfaaDoorRows
import GoSem.ClaimSeven
namespace Go.Proofs.YtkopjbjkfeopfaaDoor
namespace Rows

/-- THE TIED CARD OF 'flightdecklaw15.AirwayExpands'. -/
def airwayExpandsCard : Claim7 := { stood := { row := airwayExpandsRow, standIns := [], harness := (true, "4d597d0b85e15f685eff9304771c2782dd2148aed2db27bb19333eb3e7f6c2f7"), looks := false }, kinds := [], alts := [], laidByText := true, laidKinds := [.data, .data, .data], laidTests := true, laidLooks := .later }
def AirwayExpandsCardSaid : Prop := Claim7.holds Tryd.pinned (.plain (OpenSpec.ofChange airwayExpandsSpec)) airwayExpandsCard

/-- THE TIED CARD OF 'flightdecklaw15.AirwayReturns'. -/
def airwayReturnsCard : Claim7 := { stood := { row := airwayReturnsRow, standIns := [], harness := (true, "4d597d0b85e15f685eff9304771c2782dd2148aed2db27bb19333eb3e7f6c2f7"), looks := false }, kinds := [], alts := [], laidByText := true, laidKinds := [.data, .data, .data], laidTests := true, laidLooks := .later }
def AirwayReturnsCardSaid : Prop := Claim7.holds Tryd.pinned (.plain (OpenSpec.ofChange airwayReturnsSpec)) airwayReturnsCard

/-- THE TIED CARD OF 'flightdecklaw15.AirwayHops'. -/
def airwayHopsCard : Claim7 := { stood := { row := airwayHopsRow, standIns := [], harness := (true, "4d597d0b85e15f685eff9304771c2782dd2148aed2db27bb19333eb3e7f6c2f7"), looks := false }, kinds := [], alts := [], laidByText := true, laidKinds := [.data, .data, .data], laidTests := true, laidLooks := .later }
def AirwayHopsCardSaid : Prop := Claim7.holds Tryd.pinned (.plain (OpenSpec.ofChange airwayHopsSpec)) airwayHopsCard

/-- THE TIED CARD OF 'flightdecklaw15.AirwayReaches'. -/
def airwayReachesCard : Claim7 := { stood := { row := airwayReachesRow, standIns := [], harness := (true, "4d597d0b85e15f685eff9304771c2782dd2148aed2db27bb19333eb3e7f6c2f7"), looks := false }, kinds := [], alts := [], laidByText := true, laidKinds := [.data, .data, .data], laidTests := true, laidLooks := .later }
def AirwayReachesCardSaid : Prop := Claim7.holds Tryd.pinned (.plain (OpenSpec.ofChange airwayReachesSpec)) airwayReachesCard

/-- THE TIED CARD OF 'flightdecklaw15.AirwayChecks'. -/
def airwayChecksCard : Claim7 := { stood := { row := airwayChecksRow, standIns := [], harness := (true, "4d597d0b85e15f685eff9304771c2782dd2148aed2db27bb19333eb3e7f6c2f7"), looks := false }, kinds := [], alts := [], laidByText := true, laidKinds := [.data, .data, .data], laidTests := true, laidLooks := .later }
def AirwayChecksCardSaid : Prop := Claim7.holds Tryd.pinned (.plain (OpenSpec.ofChange airwayChecksSpec)) airwayChecksCard

/-- THE SECOND FORM's CARD OF 'flightdecklaw15.AirwayExpands'. -/
def airwayExpandsUptoCard : Claim7 := { stood := { row := airwayExpandsUptoRow, standIns := [], harness := (true, "4d597d0b85e15f685eff9304771c2782dd2148aed2db27bb19333eb3e7f6c2f7"), looks := false }, kinds := [], alts := [], laidByText := true, laidKinds := [.data, .data, .data], laidTests := true, laidLooks := .later }
def AirwayExpandsUptoCardSaid : Prop := Claim7.holds Tryd.pinned (.plain (OpenSpec.upto airwayExpandsSpec)) airwayExpandsUptoCard

/-- THE SECOND FORM's CARD OF 'flightdecklaw15.AirwayReturns'. -/
def airwayReturnsUptoCard : Claim7 := { stood := { row := airwayReturnsUptoRow, standIns := [], harness := (true, "4d597d0b85e15f685eff9304771c2782dd2148aed2db27bb19333eb3e7f6c2f7"), looks := false }, kinds := [], alts := [], laidByText := true, laidKinds := [.data, .data, .data], laidTests := true, laidLooks := .later }
def AirwayReturnsUptoCardSaid : Prop := Claim7.holds Tryd.pinned (.plain (OpenSpec.upto airwayReturnsSpec)) airwayReturnsUptoCard

/-- THE SECOND FORM's CARD OF 'flightdecklaw15.AirwayHops'. -/
def airwayHopsUptoCard : Claim7 := { stood := { row := airwayHopsUptoRow, standIns := [], harness := (true, "4d597d0b85e15f685eff9304771c2782dd2148aed2db27bb19333eb3e7f6c2f7"), looks := false }, kinds := [], alts := [], laidByText := true, laidKinds := [.data, .data, .data], laidTests := true, laidLooks := .later }
def AirwayHopsUptoCardSaid : Prop := Claim7.holds Tryd.pinned (.plain (OpenSpec.upto airwayHopsSpec)) airwayHopsUptoCard

/-- THE SECOND FORM's CARD OF 'flightdecklaw15.AirwayReaches'. -/
def airwayReachesUptoCard : Claim7 := { stood := { row := airwayReachesUptoRow, standIns := [], harness := (true, "4d597d0b85e15f685eff9304771c2782dd2148aed2db27bb19333eb3e7f6c2f7"), looks := false }, kinds := [], alts := [], laidByText := true, laidKinds := [.data, .data, .data], laidTests := true, laidLooks := .later }
def AirwayReachesUptoCardSaid : Prop := Claim7.holds Tryd.pinned (.plain (OpenSpec.upto airwayReachesSpec)) airwayReachesUptoCard

/-- THE SECOND FORM's CARD OF 'flightdecklaw15.AirwayChecks'. -/
def airwayChecksUptoCard : Claim7 := { stood := { row := airwayChecksUptoRow, standIns := [], harness := (true, "4d597d0b85e15f685eff9304771c2782dd2148aed2db27bb19333eb3e7f6c2f7"), looks := false }, kinds := [], alts := [], laidByText := true, laidKinds := [.data, .data, .data], laidTests := true, laidLooks := .later }
def AirwayChecksUptoCardSaid : Prop := Claim7.holds Tryd.pinned (.plain (OpenSpec.upto airwayChecksSpec)) airwayChecksUptoCard
end Rows
end Go.Proofs.YtkopjbjkfeopfaaDoor
