/-
  What the rows of this seat share: the world that the rows' list gives (Env), and a world for the witnesses.
-/
import Derived.Test.YtkopjbjkfeopfaaDoorBase
import Derived.Test.YtkopjbjkfeopfaaDoorCards
import Derived.Test.YtkopjbjkfeopfaaDoorTie
import Derived.ProofKit
import Derived.OpenShut
import Derived.ShutString
import Derived.Deep.DeepHandedRow
import Derived.Deep.DeepLaidRun
import Derived.Lib.LaidTab
import Derived.Stop.LaidErr
namespace Go.Proofs.YtkopjbjkfeopfaaDoor
open Go.ChangeShapes Go.WideShapes Go.ChangeAt Go.RowKit
set_option linter.unusedVariables false
set_option linter.unusedSimpArgs false

theorem own : ownKnob Tryd.prog.godebug = none := by kernel_rfl
theorem laidOut : laidOutB Tryd.prog = true := by kernel_rfl
/-- the list that every row of this seat bears -/
def laidList : List (String × DataW Unit) := Rows.airwayExpandsRow.laid
theorem gPow10Type : (Tryd.prog.globals[1]?).map (·.type) = some 121 := by kernel_rfl
theorem cellsPow10 : Tryd.prog.cellsOf 121 = 20 := by kernel_rfl
theorem cellsU64 : Tryd.prog.cellsOf 102 = 1 := by kernel_rfl
theorem env_of_laid {W : World} (hL0 : laidMetH Tryd.prog laidList W) (hsh : W.ShapedOpen Tryd.prog) : Env W := by
  have hL : laidMet Tryd.prog laidList W := hL0
  have h3 := hL.tail.tail
  refine ⟨Go.Proofs.cell_of_shapedOpen_int (zero := #[.int .i64 0]) (t := 3) hsh (of_decide_eq_true (by kernel_rfl)) (by kernel_rfl) rfl (by kernel_rfl) (by kernel_rfl) Tryd.underlying3, Lib.tabIs_of_head gPow10 gPow10Type Tryd.underlying121 Tryd.underlying102 cellsU64 cellsPow10 h3, ?_⟩
  obtain ⟨cs, h7, _⟩ := hsh.1 3 (((begin Tryd.prog (fun _ _ => 0) default).world.heap[3]?).bind Obj.row?).get!.1 (((begin Tryd.prog (fun _ _ => 0) default).world.heap[3]?).bind Obj.row?).get!.2 (of_decide_eq_true (by kernel_rfl)) (by kernel_rfl)
  have := (Array.getElem?_eq_some_iff.1 h7).1
  omega

/-! ### a world for the witnesses -/
def oneOf : DataW Unit → Value
  | .lit (.int k n) => .int k n
  | _ => .nilIface
def cells1 : DataW Unit → List Value
  | .agg l => l.map oneOf
  | d => [oneOf d]
def cells2 : DataW Unit → Array Value
  | .agg l => (l.flatMap cells1).toArray
  | _ => #[]
def put (cs : Array Value) : Obj → Obj
  | .cells _ t frozen => .cells cs t frozen
  | o => o
noncomputable def laidWorld (os : Os) : World :=
  { World.holding Tryd.prog os ⟨#[], #[], []⟩ with
    heap := (((World.holding Tryd.prog os ⟨#[], #[], []⟩).heap.modify
      1 (put (cells2 Rows.laid_internal_strconv_uint64pow10))).modify
      2 (put (cells2 Rows.laid_math_bits_deBruijn32tab))).modify
      3 (put (cells2 Rows.laid_math_bits_deBruijn64tab)) }
theorem laid_met (os : Os) (args : Array Value) : laidMet Tryd.prog laidList ((laidWorld os).forCall (fun _ _ => 0) ⟨#[], args, []⟩).memory :=
  laidMet_of_run3 8 (by kernel_rfl) (by kernel_rfl) (by kernel_rfl)
end Go.Proofs.YtkopjbjkfeopfaaDoor
