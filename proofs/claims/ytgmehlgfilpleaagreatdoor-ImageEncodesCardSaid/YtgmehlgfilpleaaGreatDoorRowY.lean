/-
  What the rows of this seat share: the world that the rows' list gives (Env), and a world for the witnesses.
-/
import Derived.Test.YtgmehlgfilpleaaGreatDoorBase
import Derived.Test.YtgmehlgfilpleaaGreatDoorCards
import Derived.Test.YtgmehlgfilpleaaGreatDoorTie
import Derived.ProofKit
import Derived.OpenShut
import Derived.ShutString
import Derived.Deep.DeepHandedRow
import Derived.Deep.DeepLaidRun
import Derived.Lib.LaidTab
import Derived.Stop.LaidErr
import Derived.Test.YtgmehlgfilpleaaGreatDoorLegC
namespace Go.Proofs.YtgmehlgfilpleaaGreatDoor
open Go.ChangeShapes Go.WideShapes Go.ChangeAt Go.RowKit
set_option linter.unusedVariables false
set_option linter.unusedSimpArgs false

theorem own : ownKnob Tryz.prog.godebug = none := by kernel_rfl
theorem laidOut : laidOutB Tryz.prog = true := by kernel_rfl
/-- the list that every row of this seat bears -/
def laidList : List (String × DataW Unit) := Rows.navdbPartsRow.laid
theorem gPow10Type : (Tryz.prog.globals[5]?).map (·.type) = some 398 := by kernel_rfl
theorem cellsPow10 : Tryz.prog.cellsOf 398 = 20 := by kernel_rfl
theorem cellsU64 : Tryz.prog.cellsOf 276 = 1 := by kernel_rfl
theorem gErrR : Tryz.prog.globalNamed "strconv.ErrRange" = some 11 := by kernel_rfl
theorem gErrS : Tryz.prog.globalNamed "strconv.ErrSyntax" = some 10 := by kernel_rfl
theorem gErrRType : (Tryz.prog.globals[11]?).map (·.type) = some 162 := by kernel_rfl
theorem gErrSType : (Tryz.prog.globals[10]?).map (·.type) = some 162 := by kernel_rfl
theorem star : "*" ++ "errors.errorString" = "*errors.errorString" := by decide
theorem rowErr (u : TypeId) (h : Tryz.prog.typeName? 3 u = some "*errors.errorString") : u = 430 :=
  typeName_ptr_named (nm := "errors.errorString") (by rw [star]; kernel_rfl) (by kernel_rfl) (by decide) u (by rw [star]; exact h)
theorem cellsErrS : Tryz.prog.cellsOf 432 = 1 := by kernel_rfl
theorem cellsStr : Tryz.prog.cellsOf 9 = 1 := by kernel_rfl
theorem env_of_laid {W : World} (hL0 : laidMetH Tryz.prog laidList W) (hsh : W.ShapedOpen Tryz.prog) : Env W := by
  have hL : laidMet Tryz.prog laidList W := hL0
  have h3 := hL.tail.tail
  have h5 := h3.tail.tail
  have h6 := h5.tail
  obtain ⟨a1, s1, v1, _⟩ := laid_sentinel h5 gErrR gErrRType Tryz.underlying162 rowErr Tryz.underlying430 Tryz.underlying432 rfl rfl Tryz.underlying9 cellsErrS cellsStr
  obtain ⟨a2, s2, v2, _⟩ := laid_sentinel h6 gErrS gErrSType Tryz.underlying162 rowErr Tryz.underlying430 Tryz.underlying432 rfl rfl Tryz.underlying9 cellsErrS cellsStr
  obtain ⟨m, hm⟩ := Go.Proofs.cell_of_shapedOpen_int (g := 2) (zero := #[.int .i64 0]) (t := 3) hsh (of_decide_eq_true (by kernel_rfl)) (by kernel_rfl) rfl (by kernel_rfl) (by kernel_rfl) Tryz.underlying3
  refine ⟨⟨m, hm⟩, Lib.tabIs_of_head gPow10 gPow10Type Tryz.underlying398 Tryz.underlying276 cellsU64 cellsPow10 h3, ⟨_, _, World.var?_cell gErrR v1 0⟩, ⟨_, _, World.var?_cell gErrS v2 0⟩, ?_⟩
  obtain ⟨cs, h7, _⟩ := hsh.1 (12 - 1) (((begin Tryz.prog (fun _ _ => 0) default).world.heap[12 - 1]?).bind Obj.row?).get!.1 (((begin Tryz.prog (fun _ _ => 0) default).world.heap[12 - 1]?).bind Obj.row?).get!.2 (of_decide_eq_true (by kernel_rfl)) (by kernel_rfl)
  have := (Array.getElem?_eq_some_iff.1 h7).1
  omega

theorem gUses : Tryz.prog.globalNamed "flightdeck/leg.uses" = some 0 := by kernel_rfl
theorem gUsesType : (Tryz.prog.globals[0]?).map (·.type) = some 234 := by kernel_rfl
theorem cellsUses : Tryz.prog.cellsOf 234 = 18 := by kernel_rfl
theorem cellsU16 : Tryz.prog.cellsOf 233 = 1 := by kernel_rfl
def usesL : List Int := [0, 1, 9, 25, 9, 71, 71, 16, 50, 16, 146, 17, 49, 17, 53, 53, 53, 53]
theorem usesL_at : ∀ t, t < 18 → usesL.getD t 0 = ((legU t : Nat) : Int) := by decide
theorem legT_of_laid {W : World} (hL0 : laidMetH Tryz.prog laidList W) : LegT W := by
  have hL : laidMet Tryz.prog laidList W := hL0
  have h8 := hL.tail.tail.tail.tail.tail.tail.tail
  have ht := Lib.tabIs_of_head (k := .u16) (zs := usesL) gUses gUsesType Tryz.underlying234 Tryz.underlying233 cellsU16 cellsUses h8
  intro t ht2
  rw [ht.cell gUses t ht2, usesL_at t ht2]

/-! ### a world for the witnesses -/
def oneOf : DataW Unit → Value
  | .lit (.int k n) => .int k n
  | .lit (.string l) => .string ⟨l.toArray⟩
  | _ => .nilIface
def cells1 : DataW Unit → List Value
  | .agg l => l.map oneOf
  | d => [oneOf d]
def cells2 : DataW Unit → Array Value
  | .agg l => (l.flatMap cells1).toArray
  | _ => #[]
noncomputable def low : Nat := (World.holding Tryz.prog default ⟨#[], #[], []⟩).heap.size
def put (cs : Array Value) : Obj → Obj
  | .cells _ t frozen => .cells cs t frozen
  | o => o
noncomputable def laidWorld (os : Os) : World :=
  { World.holding Tryz.prog os ⟨#[.cells #[.string ⟨#[118, 97, 108, 117, 101, 32, 111, 117, 116, 32, 111, 102, 32, 114, 97, 110, 103, 101]⟩] 432, .cells #[.string ⟨#[105, 110, 118, 97, 108, 105, 100, 32, 115, 121, 110, 116, 97, 120]⟩] 432], #[], []⟩ with
    heap := (((((((((World.holding Tryz.prog os ⟨#[.cells #[.string ⟨#[118, 97, 108, 117, 101, 32, 111, 117, 116, 32, 111, 102, 32, 114, 97, 110, 103, 101]⟩] 432, .cells #[.string ⟨#[105, 110, 118, 97, 108, 105, 100, 32, 115, 121, 110, 116, 97, 120]⟩] 432], #[], []⟩).heap.modify
      5 (put (cells2 Rows.laid_internal_strconv_uint64pow10))).modify
      8 (put (cells2 Rows.laid_math_bits_deBruijn32tab))).modify
      9 (put (cells2 Rows.laid_math_bits_deBruijn64tab))).modify
      7 (put (cells2 Rows.laid_unicode_utf8_acceptRanges))).modify
      6 (put (cells2 Rows.laid_unicode_utf8_first))).modify
      1 (put (cells2 Rows.laid_flightdeck_leg_names))).modify
      0 (put (cells2 Rows.laid_flightdeck_leg_uses))).modify
      11 (put #[.iface 430 (.pointer (some ⟨low, 0, none⟩))])).modify
      10 (put #[.iface 430 (.pointer (some ⟨low + 1, 0, none⟩))]) }
theorem laid_met (os : Os) (args : Array Value) : laidMet Tryz.prog laidList ((laidWorld os).forCall (fun _ _ => 0) ⟨#[], args, []⟩).memory :=
  laidMet_of_run3 8 (by kernel_rfl) (by kernel_rfl) (by kernel_rfl)
end Go.Proofs.YtgmehlgfilpleaaGreatDoor
