/-
  Fixes: their data, their boxes in memory.
-/
import Derived.Test.YtgnnblkpjankgaaGreatDoorText
namespace Go.Proofs.YtgnnblkpjankgaaGreatDoor
open Go.RowKit
set_option linter.unusedVariables false
set_option linter.unusedSimpArgs false

/-- a fix: identifier, region, kind, position, elevation, range -/
structure Fx where
  id : List UInt8
  rg : List UInt8
  kd : Nat
  lat : Int
  lon : Int
  el : Int
  ra : Int
def fxc (f : Fx) : List Value := [.string (sb f.id), .string (sb f.rg), .int .u8 (f.kd : Int), .int .i64 f.lat, .int .i64 f.lon, .int .i64 f.el, .int .i64 f.ra]
def fxcells (l : List Fx) : List Value := l.flatMap fxc
def fx0 : Fx := ⟨[], [], 0, 0, 0, 0, 0⟩
def fxRef (f : Fx) : List UInt8 := f.id ++ 47 :: f.rg
theorem blkCell' {w : World} {g : Nat} {cs : Array Value} {T : TypeId} (h : w.heap[g]? = some (.cells cs T (0, 0))) (j : Nat) {u : Value} (hu : cs[j]? = some u) : w.cell? ⟨g, j, none⟩ = some u := by rw [Lib.cell_of_heap h]; exact hu
theorem lt_heap {w : World} {b : Nat} {o : Obj} (h : w.heap[b]? = some o) : b < w.heap.size := (Array.getElem?_eq_some_iff.1 h).1
/-- a fix in a box of the call's own -/
def FxBox (w : World) (b : Nat) (f : Fx) : Prop := w.heap[b]? = some (.cells #[.string (sb f.id), .string (sb f.rg), .int .u8 (f.kd : Int), .int .i64 f.lat, .int .i64 f.lon, .int .i64 f.el, .int .i64 f.ra] 53 (0, 0))
structure FxCells (w : World) (b : Nat) (a c : ByteArray) (k : Nat) (lat lon el ra : Int) : Prop where
  c0 : w.cell? ⟨b, 0, none⟩ = some (.string a)
  c1 : w.cell? ⟨b, 1, none⟩ = some (.string c)
  c2 : w.cell? ⟨b, 2, none⟩ = some (.int .u8 (k : Int))
  c3 : w.cell? ⟨b, 3, none⟩ = some (.int .i64 lat)
  c4 : w.cell? ⟨b, 4, none⟩ = some (.int .i64 lon)
  c5 : w.cell? ⟨b, 5, none⟩ = some (.int .i64 el)
  c6 : w.cell? ⟨b, 6, none⟩ = some (.int .i64 ra)
theorem FxBox.cells {w : World} {b : Nat} {f : Fx} (h : FxBox w b f) : FxCells w b (sb f.id) (sb f.rg) f.kd f.lat f.lon f.el f.ra :=
  ⟨blkCell' h 0 rfl, blkCell' h 1 rfl, blkCell' h 2 rfl, blkCell' h 3 rfl, blkCell' h 4 rfl, blkCell' h 5 rfl, blkCell' h 6 rfl⟩
theorem FxBox.below {w w' : World} {b : Nat} {f : Fx} (h : FxBox w b f) (hb : Below w.heap.size w w') : FxBox w' b f := (hb.block b (Array.getElem?_eq_some_iff.1 h).1).trans h
theorem fxBox_new (w : World) (f : Fx) : FxBox (w.alloc (.cells #[.string (sb f.id), .string (sb f.rg), .int .u8 (f.kd : Int), .int .i64 f.lat, .int .i64 f.lon, .int .i64 f.el, .int .i64 f.ra] 53)) w.heap.size f := heap_alloc_new w _
end Go.Proofs.YtgnnblkpjankgaaGreatDoor
