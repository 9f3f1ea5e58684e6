/-
  Contracts: the texts of altitude windows on both sides.
-/
import Derived.Test.YtempiooclhmeoaaGreatDoorAlt
namespace Go.Proofs.YtempiooclhmeoaaGreatDoor
open Go.RowKit
set_option linter.unusedVariables false
set_option linter.unusedSimpArgs false

/-- a block of two cells that the call laid, read in a later world -/
theorem boxed2 {w w1 : World} {a b : Value} {t : TypeId} (h : Below (w.alloc (.cells #[a, b] t)).heap.size (w.alloc (.cells #[a, b] t)) w1) :
    w1.cell? ⟨w.heap.size, 0, none⟩ = some a ∧ w1.cell? ⟨w.heap.size, 1, none⟩ = some b :=
  ⟨(h.cell (p := ⟨w.heap.size, 0, none⟩) (by simp)).trans (by simp [go_sem]), (h.cell (p := ⟨w.heap.size, 1, none⟩) (by simp)).trans (by simp [go_sem])⟩
theorem below_box {w w1 : World} {o : Obj} (h : Below (w.alloc o).heap.size (w.alloc o) w1) : Below w.heap.size w w1 :=
  ((Below.refl _ _).alloc (Nat.le_refl _) o).trans (h.mono (by simp))

def winBad (lo hi : Int) : Prop := lo < -200000 ∨ hi < lo ∨ 6000000 < hi
instance (lo hi : Int) : Decidable (winBad lo hi) := by unfold winBad; infer_instance
def winText (lo hi : Int) : List UInt8 :=
  if lo = -200000 ∧ hi = 6000000 then [45] else if lo = hi then altOut lo else if hi = 6000000 then altOut lo ++ [43] else if lo = -200000 then altOut hi ++ [45] else altOut lo ++ 58 :: altOut hi
def winOut (lo hi : Int) : List UInt8 := if winBad lo hi then [] else winText lo hi
def winErr (lo hi : Int) : Int := if winBad lo hi then 1 else 0



end Go.Proofs.YtempiooclhmeoaaGreatDoor
