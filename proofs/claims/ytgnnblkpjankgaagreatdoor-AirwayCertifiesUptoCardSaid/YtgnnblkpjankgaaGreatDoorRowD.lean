/-
  What the rows of this seat share: the world that the rows' list gives (Env), and a world for the witnesses.
-/
import Derived.Test.YtgnnblkpjankgaaGreatDoorBase
import Derived.Test.YtgnnblkpjankgaaGreatDoorCards
import Derived.Test.YtgnnblkpjankgaaGreatDoorTie
import Derived.ProofKit
import Derived.OpenShut
import Derived.ShutString
import Derived.Deep.DeepHandedRow
import Derived.Deep.DeepLaidRun
import Derived.Lib.LaidTab
import Derived.Stop.LaidErr
namespace Go.Proofs.YtgnnblkpjankgaaGreatDoor
open Go.ChangeShapes Go.WideShapes Go.ChangeAt Go.RowKit
set_option linter.unusedVariables false
set_option linter.unusedSimpArgs false

theorem own : ownKnob Tryz.prog.godebug = none := by kernel_rfl
theorem laidOut : laidOutB Tryz.prog = true := by kernel_rfl
/-- the list that every row of this seat bears -/
def laidList : List (String × DataW Unit) := Rows.airwayShortestRow.laid
theorem gPow10Type : (Tryz.prog.globals[0]?).map (·.type) = some 181 := by kernel_rfl
theorem cellsPow10 : Tryz.prog.cellsOf 181 = 20 := by kernel_rfl
theorem cellsU64 : Tryz.prog.cellsOf 125 = 1 := by kernel_rfl
theorem env_of_laid {W : World} (hL0 : laidMetH Tryz.prog laidList W) (hsh : W.ShapedOpen Tryz.prog) : Env W := by
  have hL : laidMet Tryz.prog laidList W := hL0
  have h3 := hL.tail.tail
  obtain ⟨m, hm⟩ := Go.Proofs.cell_of_shapedOpen_int (g := 1) (zero := #[.int .i64 0]) (t := 3) hsh (of_decide_eq_true (by kernel_rfl)) (by kernel_rfl) rfl (by kernel_rfl) (by kernel_rfl) Tryz.underlying3
  refine ⟨⟨m, hm⟩, Lib.tabIs_of_head gPow10 gPow10Type Tryz.underlying181 Tryz.underlying125 cellsU64 cellsPow10 h3, ?_⟩
  obtain ⟨cs, h7, _⟩ := hsh.1 (4 - 1) (((begin Tryz.prog (fun _ _ => 0) default).world.heap[4 - 1]?).bind Obj.row?).get!.1 (((begin Tryz.prog (fun _ _ => 0) default).world.heap[4 - 1]?).bind Obj.row?).get!.2 (of_decide_eq_true (by kernel_rfl)) (by kernel_rfl)
  have := (Array.getElem?_eq_some_iff.1 h7).1
  omega

/-! ### a world for the witnesses -/
def oneOf : DataW Unit → Value
  | .lit (.int k n) => .int k n
  | _ => .nilIface
def cells1 : DataW Unit → List Value
  | .agg l => l.map oneOf
  | d => [oneOf d]
def cells2 : DataW Unit → Array Value
  | .agg l => (l.flatMap cells1).toArray
  | _ => #[]
def put (cs : Array Value) : Obj → Obj
  | .cells _ t frozen => .cells cs t frozen
  | o => o
noncomputable def laidWorld (os : Os) : World :=
  { World.holding Tryz.prog os ⟨#[], #[], []⟩ with
    heap := (((World.holding Tryz.prog os ⟨#[], #[], []⟩).heap.modify
      0 (put (cells2 Rows.laid_internal_strconv_uint64pow10))).modify
      2 (put (cells2 Rows.laid_math_bits_deBruijn32tab))).modify
      3 (put (cells2 Rows.laid_math_bits_deBruijn64tab)) }
theorem laid_met (os : Os) (args : Array Value) : laidMet Tryz.prog laidList ((laidWorld os).forCall (fun _ _ => 0) ⟨#[], args, []⟩).memory :=
  laidMet_of_run3 8 (by kernel_rfl) (by kernel_rfl) (by kernel_rfl)
end Go.Proofs.YtgnnblkpjankgaaGreatDoor
