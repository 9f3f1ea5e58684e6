/-
  Contract: the points between two points of an airway, the reference's side.
-/
import Derived.Test.YtgnnblkpjankgaaGreatDoorAwExp
import Derived.IntWalk
namespace Go.Proofs.YtgnnblkpjankgaaGreatDoor
open Go.RowKit
set_option linter.unusedVariables false
set_option linter.unusedSimpArgs false

end Go.Proofs.YtgnnblkpjankgaaGreatDoor
