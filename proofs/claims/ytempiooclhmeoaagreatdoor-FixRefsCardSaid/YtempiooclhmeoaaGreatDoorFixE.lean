/-
  Plain facts: the example of the chapter.
-/
import Derived.Test.YtempiooclhmeoaaGreatDoorFixW
namespace Go.Proofs.YtempiooclhmeoaaGreatDoor
open Go.RowKit
set_option linter.unusedVariables false
set_option linter.unusedSimpArgs false

def sumF : Fx := ⟨[83, 85, 77, 77, 65], [75, 49], 1, 16760000, -43921500, 0, 0⟩
def sumL : List UInt8 := [87, 65, 89, 80, 79, 73, 78, 84, 32, 83, 85, 77, 77, 65, 32, 75, 49, 32, 78, 52, 54, 51, 51, 50, 48, 48, 48, 87, 49, 50, 50, 48, 48, 49, 53, 48, 48]
def sumR : List UInt8 := [83, 85, 77, 77, 65, 47, 75, 49]
theorem sum_ok : fixE sumF = 0 := by decide
theorem sum_out : fxOut sumF = sumL := by decide
theorem sum_pF : paF sumL = sumF := by rfl
theorem sum_pE : paE sumL = 0 := by decide
theorem sum_ref : fxRef sumF = sumR := by decide
theorem sum_rE : refErr sumR = 0 ∧ refFst sumR = [83, 85, 77, 77, 65] ∧ refSnd sumR = [75, 49] := by decide
end Go.Proofs.YtempiooclhmeoaaGreatDoor
