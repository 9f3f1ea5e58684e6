/-
  Arguments that are trips, opened to cells.
-/
import Derived.Test.YtgnnblkpjankgaaGreatDoorAwOpen
import Derived.ChangeSlices
import Derived.ProofKit
namespace Go.Proofs.YtgnnblkpjankgaaGreatDoor
open Go.ChangeShapes Go.WideShapes Go.ChangeAt Go.Deep Go.RowKit
set_option linter.unusedVariables false
set_option linter.unusedSimpArgs false

section
variable {H : Type} {enc : TypeId × Value → H} {w : World} {base : Nat} {held : Bool}
theorem cTrip : Tryz.prog.cellsOf 35 = 2 := by kernel_rfl
set_option maxRecDepth 100000 in
theorem open_trip {fuel : Nat} {cs : List Value} {x : DataW H × List MemPlace} (h : DataW.trod enc Tryz.prog w base (fun _ => true) held fuel 35 cs = some x) : ∃ (a b : ByteArray), cs = [.string a, .string b] ∧ a.size ≤ maxLen ∧ b.size ≤ maxLen := by
  obtain ⟨ys, n, _, _, hl, hyl, hf⟩ := DataW.trod_struct Tryz.underlying35 h
  rw [cTrip] at hl
  match cs, hl with
  | [c0, c1], _ =>
    have h0 : DataW.trod enc Tryz.prog w base (fun _ => true) held n 9 (([c0, c1].drop 0).take (Tryz.prog.cellsOf 9)) = ys[0]? := hf 0 _ rfl
    have h1 : DataW.trod enc Tryz.prog w base (fun _ => true) held n 9 (([c0, c1].drop 1).take (Tryz.prog.cellsOf 9)) = ys[1]? := hf 1 _ rfl
    rw [cString] at h0 h1
    match ys, hyl with
    | [z0, z1], _ =>
      obtain ⟨s, e0, _, hs⟩ := DataW.trod_string Tryz.underlying9 (show DataW.trod enc Tryz.prog w base (fun _ => true) held n 9 [c0] = some z0 from h0)
      obtain ⟨t, e1, _, ht⟩ := DataW.trod_string Tryz.underlying9 (show DataW.trod enc Tryz.prog w base (fun _ => true) held n 9 [c1] = some z1 from h1)
      obtain rfl : c0 = .string s := by simpa using e0
      obtain rfl : c1 = .string t := by simpa using e1
      exact ⟨s, t, rfl, hs, ht⟩
end
end Go.Proofs.YtgnnblkpjankgaaGreatDoor
