/-
  DERIVED. GIVEN WITH THE SEED: THE CARDS: each row of YteojggbmkppjoaaGreatDoorRows.lean that lists a variable, with what it lists TIED to the program's text (the seventh form; the later family's looks); each row that meets fmt, with fmt's text TOLD by the authors' own Lean function (tested against real Go, not proved from fmt's source: count such statements apart). THE CARD IS WHAT COUNTS. Prove the row's statement (the work); the ties are given (YteojggbmkppjoaaGreatDoorTie.lean); close each card by the builder's one call (the guide's Derived/Test/ToyasCard.lean, 'card_holds'). Laid BY PROGRAM, IN A SANDBOX (cutbox-door.mjs). By AI agents, Wed Nov 11 2026. No macro, syntax, notation, axiom, sorry.
-/
import Derived.Test.YteojggbmkppjoaaGreatDoorRows
import GoSem.ClaimSeven
namespace Go.Proofs.YteojggbmkppjoaaGreatDoor
namespace Rows

/-- THE TIED CARD OF 'flightdecklaw14.FixNear'. -/
def fixNearCard : Claim7 := { stood := { row := fixNearRow, standIns := [], harness := (true, "f72771cfd3ddf17efbef5b95b4313b560ba439765a68db2ba51363773bb45f4e"), looks := true }, kinds := [], alts := [], laidByText := true, laidKinds := [.data, .data, .data, .sentinel, .sentinel], laidTests := true, laidLooks := .later }
def FixNearCardSaid : Prop := Claim7.holds Tryz.pinned (.plain (OpenSpec.ofChange fixNearSpec)) fixNearCard

/-- THE TIED CARD OF 'flightdecklaw14.FixNearest'. -/
def fixNearestCard : Claim7 := { stood := { row := fixNearestRow, standIns := [], harness := (true, "f72771cfd3ddf17efbef5b95b4313b560ba439765a68db2ba51363773bb45f4e"), looks := true }, kinds := [], alts := [], laidByText := true, laidKinds := [.data, .data, .data, .sentinel, .sentinel], laidTests := true, laidLooks := .later }
def FixNearestCardSaid : Prop := Claim7.holds Tryz.pinned (.plain (OpenSpec.ofChange fixNearestSpec)) fixNearestCard

/-- THE SECOND FORM's CARD OF 'flightdecklaw14.FixNear'. -/
def fixNearUptoCard : Claim7 := { stood := { row := fixNearUptoRow, standIns := [], harness := (true, "f72771cfd3ddf17efbef5b95b4313b560ba439765a68db2ba51363773bb45f4e"), looks := true }, kinds := [], alts := [], laidByText := true, laidKinds := [.data, .data, .data, .sentinel, .sentinel], laidTests := true, laidLooks := .later }
def FixNearUptoCardSaid : Prop := Claim7.holds Tryz.pinned (.plain (OpenSpec.upto fixNearSpec)) fixNearUptoCard

/-- THE SECOND FORM's CARD OF 'flightdecklaw14.FixNearest'. -/
def fixNearestUptoCard : Claim7 := { stood := { row := fixNearestUptoRow, standIns := [], harness := (true, "f72771cfd3ddf17efbef5b95b4313b560ba439765a68db2ba51363773bb45f4e"), looks := true }, kinds := [], alts := [], laidByText := true, laidKinds := [.data, .data, .data, .sentinel, .sentinel], laidTests := true, laidLooks := .later }
def FixNearestUptoCardSaid : Prop := Claim7.holds Tryz.pinned (.plain (OpenSpec.upto fixNearestSpec)) fixNearestUptoCard
end Rows
end Go.Proofs.YteojggbmkppjoaaGreatDoor
