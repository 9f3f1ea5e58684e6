/-
  Contracts: the points that two airways share, on both sides; the law's comparisons.
-/
import Derived.Test.YtgnnblkpjankgaaGreatDoorAwCheck
import Derived.Maps.AppendAt
namespace Go.Proofs.YtgnnblkpjankgaaGreatDoor
open Go.RowKit
set_option linter.unusedVariables false
set_option linter.unusedSimpArgs false

def rfcells (l : List (List UInt8)) : List Value := l.map fun x => .string (sb x)
theorem rfcells_snoc (l : List (List UInt8)) (x : List UInt8) : rfcells (l ++ [x]) = rfcells l ++ [.string (sb x)] := by
  unfold rfcells; rw [List.map_append]; rfl
def comL (l m : List Pt) : List (List UInt8) := (l.filter fun p => decide (0 ≤ idxOf m p.ref)).map (·.ref)
theorem com_step {l m : List Pt} {k : Nat} (h : k < l.length) : comL (l.take (k + 1)) m = comL (l.take k) m ++ if 0 ≤ idxOf m l[k].ref then [l[k].ref] else [] := by
  unfold comL
  rw [List.take_succ_eq_append_getElem h, List.filter_append, List.map_append]
  by_cases hc : 0 ≤ idxOf m l[k].ref
  · rw [if_pos hc, List.filter_cons_of_pos (by simpa using hc)]; rfl
  · rw [if_neg hc, List.filter_cons_of_neg (by simpa using hc)]; rfl
theorem com_len (l m : List Pt) (k : Nat) : (comL (l.take k) m).length ≤ k := by
  unfold comL
  rw [List.length_map]
  exact Nat.le_trans (List.length_filter_le _ _) (List.length_take_le _ _)
/-- texts in memory -/
def StrR (w : World) (v : Value) (l : List (List UInt8)) : Prop := Rd w 1 v l.length (rfcells l)
def ComPost (l m : List Pt) (w : World) (e : Ending) (w' : World) : Prop := ∃ v, e = .returned v ∧ StrR w' v (comL l m) ∧ Below w.heap.size w w'
end Go.Proofs.YtgnnblkpjankgaaGreatDoor
