/-
  DERIVED. GIVEN WITH THE SEED: THE CARDS: each row of YtfmijelndlllaaaDoorRows.lean that lists a variable, with what it lists TIED to the program's text (the seventh form; the later family's looks); each row that meets fmt, with fmt's text TOLD by the authors' own Lean function (tested against real Go, not proved from fmt's source: count such statements apart). THE CARD IS WHAT COUNTS. Prove the row's statement (the work); the ties are given (YtfmijelndlllaaaDoorTie.lean); close each card by the builder's one call (the guide's Derived/Test/ToyasCard.lean, 'card_holds'). Laid BY PROGRAM, IN A SANDBOX (cutbox-door.mjs). By AI agents, Wed Nov 11 2026. No macro, syntax, notation, axiom, sorry.
-/
import Derived.Test.YtfmijelndlllaaaDoorRows
import GoSem.ClaimSeven
namespace Go.Proofs.YtfmijelndlllaaaDoor
namespace Rows

/-- THE TIED CARD OF 'flightdecklaw08.RecordSplits'. -/
def recordSplitsCard : Claim7 := { stood := { row := recordSplitsRow, standIns := [], harness := (true, "3d68d99a42c668c44374c01f2bf8ebf445c75a20faaf7f88b5a473dd2c9b0ac8"), looks := true }, kinds := [], alts := [], laidByText := true, laidKinds := [.data, .data, .data, .data, .sentinel, .sentinel, .pinned], laidTests := true, laidLooks := .later }
def RecordSplitsCardSaid : Prop := Claim7.holds Tryd.pinned (.plain (OpenSpec.ofChange recordSplitsSpec)) recordSplitsCard

/-- THE TIED CARD OF 'flightdecklaw08.RecordReads'. -/
def recordReadsCard : Claim7 := { stood := { row := recordReadsRow, standIns := [], harness := (true, "3d68d99a42c668c44374c01f2bf8ebf445c75a20faaf7f88b5a473dd2c9b0ac8"), looks := true }, kinds := [], alts := [], laidByText := true, laidKinds := [.data, .data, .data, .data, .sentinel, .sentinel, .pinned], laidTests := true, laidLooks := .later }
def RecordReadsCardSaid : Prop := Claim7.holds Tryd.pinned (.plain (OpenSpec.ofChange recordReadsSpec)) recordReadsCard

/-- THE TIED CARD OF 'flightdecklaw08.RecordLong'. -/
def recordLongCard : Claim7 := { stood := { row := recordLongRow, standIns := [], harness := (true, "3d68d99a42c668c44374c01f2bf8ebf445c75a20faaf7f88b5a473dd2c9b0ac8"), looks := true }, kinds := [], alts := [], laidByText := true, laidKinds := [.data, .data, .data, .data, .sentinel, .sentinel, .pinned], laidTests := true, laidLooks := .later }
def RecordLongCardSaid : Prop := Claim7.holds Tryd.pinned (.plain (OpenSpec.ofChange recordLongSpec)) recordLongCard

/-- THE TIED CARD OF 'flightdecklaw08.RecordWindows'. -/
def recordWindowsCard : Claim7 := { stood := { row := recordWindowsRow, standIns := [], harness := (true, "3d68d99a42c668c44374c01f2bf8ebf445c75a20faaf7f88b5a473dd2c9b0ac8"), looks := true }, kinds := [], alts := [], laidByText := true, laidKinds := [.data, .data, .data, .data, .sentinel, .sentinel, .pinned], laidTests := true, laidLooks := .later }
def RecordWindowsCardSaid : Prop := Claim7.holds Tryd.pinned (.plain (OpenSpec.ofChange recordWindowsSpec)) recordWindowsCard

/-- THE TIED CARD OF 'flightdecklaw08.RecordAltitudes'. -/
def recordAltitudesCard : Claim7 := { stood := { row := recordAltitudesRow, standIns := [], harness := (true, "3d68d99a42c668c44374c01f2bf8ebf445c75a20faaf7f88b5a473dd2c9b0ac8"), looks := true }, kinds := [], alts := [], laidByText := true, laidKinds := [.data, .data, .data, .data, .sentinel, .sentinel, .pinned], laidTests := true, laidLooks := .later }
def RecordAltitudesCardSaid : Prop := Claim7.holds Tryd.pinned (.plain (OpenSpec.ofChange recordAltitudesSpec)) recordAltitudesCard

/-- THE TIED CARD OF 'flightdecklaw08.RecordNames'. -/
def recordNamesCard : Claim7 := { stood := { row := recordNamesRow, standIns := [], harness := (true, "3d68d99a42c668c44374c01f2bf8ebf445c75a20faaf7f88b5a473dd2c9b0ac8"), looks := true }, kinds := [], alts := [], laidByText := true, laidKinds := [.data, .data, .data, .data, .sentinel, .sentinel, .pinned], laidTests := true, laidLooks := .later }
def RecordNamesCardSaid : Prop := Claim7.holds Tryd.pinned (.plain (OpenSpec.ofChange recordNamesSpec)) recordNamesCard

/-- THE TIED CARD OF 'flightdecklaw08.RecordDistances'. -/
def recordDistancesCard : Claim7 := { stood := { row := recordDistancesRow, standIns := [], harness := (true, "3d68d99a42c668c44374c01f2bf8ebf445c75a20faaf7f88b5a473dd2c9b0ac8"), looks := true }, kinds := [], alts := [], laidByText := true, laidKinds := [.data, .data, .data, .data, .sentinel, .sentinel, .pinned], laidTests := true, laidLooks := .later }
def RecordDistancesCardSaid : Prop := Claim7.holds Tryd.pinned (.plain (OpenSpec.ofChange recordDistancesSpec)) recordDistancesCard

/-- THE TIED CARD OF 'flightdecklaw08.RecordWrites'. -/
def recordWritesCard : Claim7 := { stood := { row := recordWritesRow, standIns := [], harness := (true, "3d68d99a42c668c44374c01f2bf8ebf445c75a20faaf7f88b5a473dd2c9b0ac8"), looks := true }, kinds := [], alts := [], laidByText := true, laidKinds := [.data, .data, .data, .data, .sentinel, .sentinel, .pinned], laidTests := true, laidLooks := .later }
def RecordWritesCardSaid : Prop := Claim7.holds Tryd.pinned (.plain (OpenSpec.ofChange recordWritesSpec)) recordWritesCard

/-- THE TIED CARD OF 'flightdecklaw08.RecordPositions'. -/
def recordPositionsCard : Claim7 := { stood := { row := recordPositionsRow, standIns := [], harness := (true, "3d68d99a42c668c44374c01f2bf8ebf445c75a20faaf7f88b5a473dd2c9b0ac8"), looks := true }, kinds := [], alts := [], laidByText := true, laidKinds := [.data, .data, .data, .data, .sentinel, .sentinel, .pinned], laidTests := true, laidLooks := .later }
def RecordPositionsCardSaid : Prop := Claim7.holds Tryd.pinned (.plain (OpenSpec.ofChange recordPositionsSpec)) recordPositionsCard

/-- THE SECOND FORM's CARD OF 'flightdecklaw08.RecordSplits'. -/
def recordSplitsUptoCard : Claim7 := { stood := { row := recordSplitsUptoRow, standIns := [], harness := (true, "3d68d99a42c668c44374c01f2bf8ebf445c75a20faaf7f88b5a473dd2c9b0ac8"), looks := true }, kinds := [], alts := [], laidByText := true, laidKinds := [.data, .data, .data, .data, .sentinel, .sentinel, .pinned], laidTests := true, laidLooks := .later }
def RecordSplitsUptoCardSaid : Prop := Claim7.holds Tryd.pinned (.plain (OpenSpec.upto recordSplitsSpec)) recordSplitsUptoCard

/-- THE SECOND FORM's CARD OF 'flightdecklaw08.RecordReads'. -/
def recordReadsUptoCard : Claim7 := { stood := { row := recordReadsUptoRow, standIns := [], harness := (true, "3d68d99a42c668c44374c01f2bf8ebf445c75a20faaf7f88b5a473dd2c9b0ac8"), looks := true }, kinds := [], alts := [], laidByText := true, laidKinds := [.data, .data, .data, .data, .sentinel, .sentinel, .pinned], laidTests := true, laidLooks := .later }
def RecordReadsUptoCardSaid : Prop := Claim7.holds Tryd.pinned (.plain (OpenSpec.upto recordReadsSpec)) recordReadsUptoCard

/-- THE SECOND FORM's CARD OF 'flightdecklaw08.RecordLong'. -/
def recordLongUptoCard : Claim7 := { stood := { row := recordLongUptoRow, standIns := [], harness := (true, "3d68d99a42c668c44374c01f2bf8ebf445c75a20faaf7f88b5a473dd2c9b0ac8"), looks := true }, kinds := [], alts := [], laidByText := true, laidKinds := [.data, .data, .data, .data, .sentinel, .sentinel, .pinned], laidTests := true, laidLooks := .later }
def RecordLongUptoCardSaid : Prop := Claim7.holds Tryd.pinned (.plain (OpenSpec.upto recordLongSpec)) recordLongUptoCard

/-- THE SECOND FORM's CARD OF 'flightdecklaw08.RecordWindows'. -/
def recordWindowsUptoCard : Claim7 := { stood := { row := recordWindowsUptoRow, standIns := [], harness := (true, "3d68d99a42c668c44374c01f2bf8ebf445c75a20faaf7f88b5a473dd2c9b0ac8"), looks := true }, kinds := [], alts := [], laidByText := true, laidKinds := [.data, .data, .data, .data, .sentinel, .sentinel, .pinned], laidTests := true, laidLooks := .later }
def RecordWindowsUptoCardSaid : Prop := Claim7.holds Tryd.pinned (.plain (OpenSpec.upto recordWindowsSpec)) recordWindowsUptoCard

/-- THE SECOND FORM's CARD OF 'flightdecklaw08.RecordAltitudes'. -/
def recordAltitudesUptoCard : Claim7 := { stood := { row := recordAltitudesUptoRow, standIns := [], harness := (true, "3d68d99a42c668c44374c01f2bf8ebf445c75a20faaf7f88b5a473dd2c9b0ac8"), looks := true }, kinds := [], alts := [], laidByText := true, laidKinds := [.data, .data, .data, .data, .sentinel, .sentinel, .pinned], laidTests := true, laidLooks := .later }
def RecordAltitudesUptoCardSaid : Prop := Claim7.holds Tryd.pinned (.plain (OpenSpec.upto recordAltitudesSpec)) recordAltitudesUptoCard

/-- THE SECOND FORM's CARD OF 'flightdecklaw08.RecordNames'. -/
def recordNamesUptoCard : Claim7 := { stood := { row := recordNamesUptoRow, standIns := [], harness := (true, "3d68d99a42c668c44374c01f2bf8ebf445c75a20faaf7f88b5a473dd2c9b0ac8"), looks := true }, kinds := [], alts := [], laidByText := true, laidKinds := [.data, .data, .data, .data, .sentinel, .sentinel, .pinned], laidTests := true, laidLooks := .later }
def RecordNamesUptoCardSaid : Prop := Claim7.holds Tryd.pinned (.plain (OpenSpec.upto recordNamesSpec)) recordNamesUptoCard

/-- THE SECOND FORM's CARD OF 'flightdecklaw08.RecordDistances'. -/
def recordDistancesUptoCard : Claim7 := { stood := { row := recordDistancesUptoRow, standIns := [], harness := (true, "3d68d99a42c668c44374c01f2bf8ebf445c75a20faaf7f88b5a473dd2c9b0ac8"), looks := true }, kinds := [], alts := [], laidByText := true, laidKinds := [.data, .data, .data, .data, .sentinel, .sentinel, .pinned], laidTests := true, laidLooks := .later }
def RecordDistancesUptoCardSaid : Prop := Claim7.holds Tryd.pinned (.plain (OpenSpec.upto recordDistancesSpec)) recordDistancesUptoCard

/-- THE SECOND FORM's CARD OF 'flightdecklaw08.RecordWrites'. -/
def recordWritesUptoCard : Claim7 := { stood := { row := recordWritesUptoRow, standIns := [], harness := (true, "3d68d99a42c668c44374c01f2bf8ebf445c75a20faaf7f88b5a473dd2c9b0ac8"), looks := true }, kinds := [], alts := [], laidByText := true, laidKinds := [.data, .data, .data, .data, .sentinel, .sentinel, .pinned], laidTests := true, laidLooks := .later }
def RecordWritesUptoCardSaid : Prop := Claim7.holds Tryd.pinned (.plain (OpenSpec.upto recordWritesSpec)) recordWritesUptoCard

/-- THE SECOND FORM's CARD OF 'flightdecklaw08.RecordPositions'. -/
def recordPositionsUptoCard : Claim7 := { stood := { row := recordPositionsUptoRow, standIns := [], harness := (true, "3d68d99a42c668c44374c01f2bf8ebf445c75a20faaf7f88b5a473dd2c9b0ac8"), looks := true }, kinds := [], alts := [], laidByText := true, laidKinds := [.data, .data, .data, .data, .sentinel, .sentinel, .pinned], laidTests := true, laidLooks := .later }
def RecordPositionsUptoCardSaid : Prop := Claim7.holds Tryd.pinned (.plain (OpenSpec.upto recordPositionsSpec)) recordPositionsUptoCard
end Rows
end Go.Proofs.YtfmijelndlllaaaDoor
