/-
  Several texts as one.
  Fixes: their data, their boxes in memory.
  Blocks of a call's own, and frames: which blocks a call leaves as they stand.
  Contracts: references of fixes on both sides.
  Contracts: scaling (fixed.scale, to the nearest), and the point of a position in the plane around an origin: parts.
  Lists of fixes in memory; contracts: the fixes with an identifier, the first fix with a reference; on both sides.
-/
import Derived.Test.YtidkhnfhkofmoaaGreatDoorMG02
import Derived.Test.YtidkhnfhkofmoaaGreatDoorMG16
namespace Go.Proofs.YtidkhnfhkofmoaaGreatDoor
open Go.RowKit
set_option linter.unusedVariables false
set_option linter.unusedSimpArgs false

structure Fx where
 id : List UInt8
 rg : List UInt8
 kd : Nat
 lat : Int
 lon : Int
 el : Int
 ra : Int
def fxc (f : Fx) : List Value := [.string (sb f.id), .string (sb f.rg), .int .u8 (f.kd : Int), .int .i64 f.lat, .int .i64 f.lon, .int .i64 f.el, .int .i64 f.ra]
def fxcells (l : List Fx) : List Value := l.flatMap fxc
def fx0 : Fx := ⟨[], [], 0, 0, 0, 0, 0⟩
def fxRef (f : Fx) : List UInt8 := f.id ++ 47 :: f.rg
theorem blkCell' {w : World} {g : Nat} {cs : Array Value} {T : TypeId} (h : w.heap[g]? = some (.cells cs T (0, 0))) (j : Nat) {u : Value} (hu : cs[j]? = some u) : w.cell? ⟨g, j, none⟩ = some u := by rw [Lib.cell_of_heap h]; exact hu
theorem lt_heap {w : World} {b : Nat} {o : Obj} (h : w.heap[b]? = some o) : b < w.heap.size := (Array.getElem?_eq_some_iff.1 h).1
def FxBox (w : World) (b : Nat) (f : Fx) : Prop := w.heap[b]? = some (.cells #[.string (sb f.id), .string (sb f.rg), .int .u8 (f.kd : Int), .int .i64 f.lat, .int .i64 f.lon, .int .i64 f.el, .int .i64 f.ra] 73 (0, 0))
structure FxCells (w : World) (b : Nat) (a c : ByteArray) (k : Nat) (lat lon el ra : Int) : Prop where
 c0 : w.cell? ⟨b, 0, none⟩ = some (.string a)
 c1 : w.cell? ⟨b, 1, none⟩ = some (.string c)
 c2 : w.cell? ⟨b, 2, none⟩ = some (.int .u8 (k : Int))
 c3 : w.cell? ⟨b, 3, none⟩ = some (.int .i64 lat)
 c4 : w.cell? ⟨b, 4, none⟩ = some (.int .i64 lon)
 c5 : w.cell? ⟨b, 5, none⟩ = some (.int .i64 el)
 c6 : w.cell? ⟨b, 6, none⟩ = some (.int .i64 ra)
theorem FxBox.cells {w : World} {b : Nat} {f : Fx} (h : FxBox w b f) : FxCells w b (sb f.id) (sb f.rg) f.kd f.lat f.lon f.el f.ra :=
 ⟨blkCell' h 0 rfl, blkCell' h 1 rfl, blkCell' h 2 rfl, blkCell' h 3 rfl, blkCell' h 4 rfl, blkCell' h 5 rfl, blkCell' h 6 rfl⟩
theorem FxBox.below {w w' : World} {b : Nat} {f : Fx} (h : FxBox w b f) (hb : Below w.heap.size w w') : FxBox w' b f := (hb.block b (Array.getElem?_eq_some_iff.1 h).1).trans h
theorem fxBox_new (w : World) (f : Fx) : FxBox (w.alloc (.cells #[.string (sb f.id), .string (sb f.rg), .int .u8 (f.kd : Int), .int .i64 f.lat, .int .i64 f.lon, .int .i64 f.el, .int .i64 f.ra] 73)) w.heap.size f := heap_alloc_new w _
end Go.Proofs.YtidkhnfhkofmoaaGreatDoor
namespace Go.Proofs.YtidkhnfhkofmoaaGreatDoor
open Go.RowKit
set_option linter.unusedVariables false
set_option linter.unusedSimpArgs false
def Bx (b : Nat) (cs : Array Value) (t : TypeId) (w : World) : Prop := w.heap[b]? = some (.cells cs t (0, 0))
theorem Bx.lt {b : Nat} {cs : Array Value} {t : TypeId} {w : World} (h : Bx b cs t w) : b < w.heap.size := lt_heap h
theorem Bx.via {b : Nat} {cs : Array Value} {t : TypeId} {T wa : World} (hb : Below T.heap.size T wa) (h : Bx b cs t T) : Bx b cs t wa := (hb.block b h.lt).trans h
theorem Bx.last (T : World) (cs : Array Value) (t : TypeId) : Bx T.heap.size cs t (T.alloc (.cells cs t)) := heap_alloc_new T _
theorem Bx.set {b : Nat} {cs : Array Value} {t : TypeId} {w : World} (h : Bx b cs t w) (j : Nat) (u : Value) : Bx b (cs.setIfInBounds j u) t (w.setCell ⟨b, j, none⟩ u) := heap_setCell_same w b j cs t u h
theorem Bx.cell {b : Nat} {cs : Array Value} {t : TypeId} {w : World} (h : Bx b cs t w) (j : Nat) {u : Value} (hu : cs[j]? = some u) : w.cell? ⟨b, j, none⟩ = some u := blkCell' h j hu
theorem Bx.free {b : Nat} {cs : Array Value} {t : TypeId} {w : World} (h : Bx b cs t w) (j : Nat) : w.frozen? ⟨b, j, none⟩ = false := frozen_of_row w b j cs t h
theorem Bx.set9 {b : Nat} {x0 x1 x2 x3 x4 x5 x6 x7 x8 : Value} {t : TypeId} {w : World} (h : Bx b #[x0, x1, x2, x3, x4, x5, x6, x7, x8] t w) (y0 y1 y2 y3 y4 y5 y6 y7 y8 : Value) :
  Bx b #[y0, y1, y2, y3, y4, y5, y6, y7, y8] t (((((((((w.setCell ⟨b, 0, none⟩ y0).setCell ⟨b, 1, none⟩ y1).setCell ⟨b, 2, none⟩ y2).setCell ⟨b, 3, none⟩ y3).setCell ⟨b, 4, none⟩ y4).setCell ⟨b, 5, none⟩ y5).setCell ⟨b, 6, none⟩ y6).setCell ⟨b, 7, none⟩ y7).setCell ⟨b, 8, none⟩ y8) := by
 have h0 : Bx b #[y0, x1, x2, x3, x4, x5, x6, x7, x8] t _ := h.set 0 y0
 have h1 : Bx b #[y0, y1, x2, x3, x4, x5, x6, x7, x8] t _ := h0.set 1 y1
 have h2 : Bx b #[y0, y1, y2, x3, x4, x5, x6, x7, x8] t _ := h1.set 2 y2
 have h3 : Bx b #[y0, y1, y2, y3, x4, x5, x6, x7, x8] t _ := h2.set 3 y3
 have h4 : Bx b #[y0, y1, y2, y3, y4, x5, x6, x7, x8] t _ := h3.set 4 y4
 have h5 : Bx b #[y0, y1, y2, y3, y4, y5, x6, x7, x8] t _ := h4.set 5 y5
 have h6 : Bx b #[y0, y1, y2, y3, y4, y5, y6, x7, x8] t _ := h5.set 6 y6
 have h7 : Bx b #[y0, y1, y2, y3, y4, y5, y6, y7, x8] t _ := h6.set 7 y7
 have h8 : Bx b #[y0, y1, y2, y3, y4, y5, y6, y7, y8] t _ := h7.set 8 y8
 exact h8
theorem Bx.cells9 {b : Nat} {x0 x1 x2 x3 x4 x5 x6 x7 x8 : Value} {t : TypeId} {w : World} (h : Bx b #[x0, x1, x2, x3, x4, x5, x6, x7, x8] t w) :
  (w.cell? ⟨b, 0, none⟩ = some x0 ∧ w.cell? ⟨b, 1, none⟩ = some x1 ∧ w.cell? ⟨b, 2, none⟩ = some x2 ∧ w.cell? ⟨b, 3, none⟩ = some x3 ∧ w.cell? ⟨b, 4, none⟩ = some x4 ∧ w.cell? ⟨b, 5, none⟩ = some x5 ∧ w.cell? ⟨b, 6, none⟩ = some x6 ∧ w.cell? ⟨b, 7, none⟩ = some x7 ∧ w.cell? ⟨b, 8, none⟩ = some x8) ∧
  (w.frozen? ⟨b, 0, none⟩ = false ∧ w.frozen? ⟨b, 1, none⟩ = false ∧ w.frozen? ⟨b, 2, none⟩ = false ∧ w.frozen? ⟨b, 3, none⟩ = false ∧ w.frozen? ⟨b, 4, none⟩ = false ∧ w.frozen? ⟨b, 5, none⟩ = false ∧ w.frozen? ⟨b, 6, none⟩ = false ∧ w.frozen? ⟨b, 7, none⟩ = false ∧ w.frozen? ⟨b, 8, none⟩ = false) :=
 ⟨⟨h.cell 0 rfl, h.cell 1 rfl, h.cell 2 rfl, h.cell 3 rfl, h.cell 4 rfl, h.cell 5 rfl, h.cell 6 rfl, h.cell 7 rfl, h.cell 8 rfl⟩, h.free 0, h.free 1, h.free 2, h.free 3, h.free 4, h.free 5, h.free 6, h.free 7, h.free 8⟩
theorem Bx.set3 {b : Nat} {x0 x1 x2 : Value} {t : TypeId} {w : World} (h : Bx b #[x0, x1, x2] t w) (y0 y1 y2 : Value) :
  Bx b #[y0, y1, y2] t (((w.setCell ⟨b, 0, none⟩ y0).setCell ⟨b, 1, none⟩ y1).setCell ⟨b, 2, none⟩ y2) := ((h.set 0 y0).set 1 y1).set 2 y2
theorem Bx.cells3 {b : Nat} {x0 x1 x2 : Value} {t : TypeId} {w : World} (h : Bx b #[x0, x1, x2] t w) :
  (w.cell? ⟨b, 0, none⟩ = some x0 ∧ w.cell? ⟨b, 1, none⟩ = some x1 ∧ w.cell? ⟨b, 2, none⟩ = some x2) ∧ (w.frozen? ⟨b, 0, none⟩ = false ∧ w.frozen? ⟨b, 1, none⟩ = false ∧ w.frozen? ⟨b, 2, none⟩ = false) :=
 ⟨⟨h.cell 0 rfl, h.cell 1 rfl, h.cell 2 rfl⟩, h.free 0, h.free 1, h.free 2⟩
theorem bel_set9 {B b : Nat} {w0 w : World} (h : Below B w0 w) (hb : B ≤ b) (y0 y1 y2 y3 y4 y5 y6 y7 y8 : Value) : Below B w0 (((((((((w.setCell ⟨b, 0, none⟩ y0).setCell ⟨b, 1, none⟩ y1).setCell ⟨b, 2, none⟩ y2).setCell ⟨b, 3, none⟩ y3).setCell ⟨b, 4, none⟩ y4).setCell ⟨b, 5, none⟩ y5).setCell ⟨b, 6, none⟩ y6).setCell ⟨b, 7, none⟩ y7).setCell ⟨b, 8, none⟩ y8) :=
 ((((((((h.setCell hb y0).setCell hb y1).setCell hb y2).setCell hb y3).setCell hb y4).setCell hb y5).setCell hb y6).setCell hb y7).setCell hb y8
theorem bel_set3 {B b : Nat} {w0 w : World} (h : Below B w0 w) (hb : B ≤ b) (y0 y1 y2 : Value) : Below B w0 (((w.setCell ⟨b, 0, none⟩ y0).setCell ⟨b, 1, none⟩ y1).setCell ⟨b, 2, none⟩ y2) :=
 ((h.setCell hb y0).setCell hb y1).setCell hb y2
structure Frm (S : Nat → Prop) (w w' : World) : Prop where
 os : w'.os = w.os
 tape : w'.tape = w.tape
 output : w'.output = w.output
 size : w.heap.size ≤ w'.heap.size
 block : ∀ k, k < w.heap.size → ¬ S k → w'.heap[k]? = w.heap[k]?
theorem Frm.refl (S : Nat → Prop) (w : World) : Frm S w w := ⟨rfl, rfl, rfl, Nat.le_refl _, fun _ _ _ => rfl⟩
theorem Frm.trans {S : Nat → Prop} {a b c : World} (h : Frm S a b) (k : Frm S b c) : Frm S a c :=
 ⟨k.os.trans h.os, k.tape.trans h.tape, k.output.trans h.output, Nat.le_trans h.size k.size, fun i hi hn => (k.block i (Nat.lt_of_lt_of_le hi h.size) hn).trans (h.block i hi hn)⟩
theorem Frm.of_below {S : Nat → Prop} {w w' : World} (h : Below w.heap.size w w') : Frm S w w' := ⟨h.os, h.tape, h.output, h.size, fun k hk _ => h.block k hk⟩
theorem Frm.grown {S : Nat → Prop} {w w' : World} {b : Nat} (h : w.grownBy w' (some b)) (hb : S b) : Frm S w w' :=
 ⟨h.os, h.tape, h.output, h.size, fun k hk hn => h.block k hk (fun e => by injection e with e; exact hn (e ▸ hb))⟩
theorem Frm.mono {S T : Nat → Prop} {w w' : World} (h : Frm S w w') (hT : ∀ k, S k → T k) : Frm T w w' := ⟨h.os, h.tape, h.output, h.size, fun k hk hn => h.block k hk (fun hs => hn (hT k hs))⟩
theorem Frm.below {S : Nat → Prop} {w w' : World} (h : Frm S w w') {B : Nat} (hB : B ≤ w.heap.size) (hS : ∀ k, S k → B ≤ k) : Below B w w' :=
 ⟨h.os, h.tape, h.output, h.size, fun k hk => h.block k (by omega) (fun hs => by have := hS k hs; omega)⟩
theorem Frm.cell {S : Nat → Prop} {w w' : World} (h : Frm S w w') {a : Addr} (h1 : a.block < w.heap.size) (h2 : ¬ S a.block) : w'.cell? a = w.cell? a := World.cell?_of_block (h.block _ h1 h2)
end Go.Proofs.YtidkhnfhkofmoaaGreatDoor
namespace Go.Proofs.YtidkhnfhkofmoaaGreatDoor
open Go.RowKit
set_option linter.unusedVariables false
set_option linter.unusedSimpArgs false

def FRefPost (f : Fx) (w : World) (e : Ending) (w' : World) : Prop := e = .returned (.string (sb (fxRef f))) ∧ Below w.heap.size w w'
theorem fixRef_any (f : Fx) (w : World) (hi : f.id.length ≤ 1000000000000000) (hr : f.rg.length ≤ 1000000000000000) :
  Calls Tryz.prog 45 #[.agg #[.string (sb f.id), .string (sb f.rg), .int .u8 (f.kd : Int), .int .i64 f.lat, .int .i64 f.lon, .int .i64 f.el, .int .i64 f.ra]] w (FRefPost f w) := by
 have h1 : (sb f.id).size ≤ 1000000000000000 := hi
 have h2 : (sb f.rg).size ≤ 1000000000000000 := hr
 have HE : Hid (∀ s : ByteArray, bl s = fxRef f → sb (fxRef f) = s) := fun s h => by rw [← h, sb_bl]
 clear hi hr
 go_enter Tryz.func45, Tryz.ntmps45
 go_wp2
 go_ret
 refine ⟨?_, (Below.refl _ _).alloc (Nat.le_refl _) _⟩
 rw [HE.out (sb f.id ++ ⟨#[47]⟩ ++ sb f.rg) (by rw [bl_append, bl_append, bl_sb, bl_sb]; unfold fxRef; simp [bl_mk])]
 first | rfl | (simp [ByteArray.append_assoc])
end Go.Proofs.YtidkhnfhkofmoaaGreatDoor
namespace Go.Proofs.YtidkhnfhkofmoaaGreatDoor
open Go.RowKit
set_option linter.unusedVariables false
set_option linter.unusedSimpArgs false
set_option maxRecDepth 100000 in
theorem size_any (a : Int) (w : World) (h : -9223372036854775807 ≤ a ∧ a ≤ 9223372036854775807) : Calls Tryz.prog 240 #[.int .i64 a] w fun e w' => e = .returned (.int .u64 (a.natAbs : Int)) ∧ w = w' := by
 have HA : Hid ((0 ≤ a → (a.natAbs : Int) = a) ∧ (a < 0 → (a.natAbs : Int) = -a)) := by unfold Hid; omega
 by_cases h0 : a < 0
 ·have e1 : IntKind.u64.wrap a = a + 18446744073709551616 := by rw [IntKind.wrap_u64]; omega
  have e2 : IntKind.u64.wrap (-(a + 18446744073709551616)) = -a := by rw [IntKind.wrap_u64]; omega
  rw [HA.out.2 h0]
  go_enter Tryz.func240, Tryz.ntmps240
  go_wp2
  go_ret
  exact ⟨by simp [e1, e2], rfl⟩
 ·have e1 : IntKind.u64.wrap a = a := by rw [IntKind.wrap_u64]; omega
  rw [HA.out.1 (by omega)]
  go_enter Tryz.func240, Tryz.ntmps240
  go_wp2
  go_ret
  exact ⟨by simp [e1], rfl⟩
theorem fsigned_0 (w : World) : Calls Tryz.prog 243 #[.int .u64 0, .bool false] w fun e w' => e = .returned (.tuple #[.int .i64 0, .int .i64 0]) ∧ w = w' := by
 go_enter Tryz.func243, Tryz.ntmps243
 go_wp2
 go_ret2
 exact ⟨rfl, rfl⟩
def eastV (lo : Int) : V3 := ⟨-sinZ lo, cosZ lo, 0⟩
def northV (la lo : Int) : V3 := ⟨-rnd (sinZ la * cosZ lo), -rnd (sinZ la * sinZ lo), cosZ la⟩
theorem neg_sq (x : Int) : -x * -x = x * x := Int.neg_mul_neg x x
set_option maxRecDepth 100000 in
theorem east_ok (lo : Int) : (eastV lo).Ok := by
 have hs := sinZ_bd lo
 have hc := cosZ_bd lo
 have cb := circ_bd lo
 have e : (eastV lo).sq = sinZ lo * sinZ lo + cosZ lo * cosZ lo := by unfold V3.sq eastV; simp only; rw [neg_sq]; omega
 refine ⟨?_, ?_, ?_, by rw [e]; omega, by rw [e]; omega⟩
 ·simp only [eastV]; omega
 ·simp only [eastV]; omega
 ·simp only [eastV]; omega
set_option maxRecDepth 100000 in
theorem north_ok (la lo : Int) : (northV la lo).Ok := by
 have hx := prod_bd _ _ (sinZ_bd la) (cosZ_bd lo)
 have hy := prod_bd _ _ (sinZ_bd la) (sinZ_bd lo)
 have r1 := rnd_sq (X := sinZ la * cosZ lo) (by omega) (by omega)
 have r2 := rnd_sq (X := sinZ la * sinZ lo) (by omega) (by omega)
 have cb := circ_bd lo
 have ca := circ_bd la
 have hc := sq_nonneg (cosZ la)
 have hs := sq_nonneg (sinZ la)
 have hp : sinZ la * cosZ lo * (sinZ la * cosZ lo) + sinZ la * sinZ lo * (sinZ la * sinZ lo) = sinZ la * sinZ la * (sinZ lo * sinZ lo + cosZ lo * cosZ lo) := by grind
 have hu : sinZ la * sinZ la * (sinZ lo * sinZ lo + cosZ lo * cosZ lo) ≤ sinZ la * sinZ la * 1450000000000000000 := Int.mul_le_mul_of_nonneg_left cb.2 hs
 have hl : sinZ la * sinZ la * 853000000000000000 ≤ sinZ la * sinZ la * (sinZ lo * sinZ lo + cosZ lo * cosZ lo) := Int.mul_le_mul_of_nonneg_left cb.1 hs
 have u1 := rnd_unit hx.1 hx.2
 have u2 := rnd_unit hy.1 hy.2
 have hv := vec_lin r1 r2 hp hu hl (S := cosZ la * cosZ la) (by omega) hs hc
 have e : (northV la lo).sq = rnd (sinZ la * cosZ lo) * rnd (sinZ la * cosZ lo) + rnd (sinZ la * sinZ lo) * rnd (sinZ la * sinZ lo) + cosZ la * cosZ la := by
  unfold V3.sq northV; simp only; rw [neg_sq, neg_sq]
 have hcb := cosZ_bd la
 refine ⟨?_, ?_, ?_, by rw [e]; exact hv.1, by rw [e]; exact hv.2⟩
 ·simp only [northV]; omega
 ·simp only [northV]; omega
 ·simp only [northV]; omega
def locV (la lo ma mo : Int) : V3 := ⟨rnd ((eastV lo).dot (vecOf ma mo)), rnd ((northV la lo).dot (vecOf ma mo)), rnd ((vecOf la lo).dot (vecOf ma mo))⟩
theorem loc_ex : (locV 16560000 (-43200000) 16560000 (-43200000)).x = 0 ∧ (locV 16560000 (-43200000) 16560000 (-43200000)).y = 0 ∧ (locV 16560000 (-43200000) 16560000 (-43200000)).z = 1073741825 := by decide +kernel
def frV (la lo : Int) : Value := .agg #[.int .i64 (eastV lo).x, .int .i64 (eastV lo).y, .int .i64 (eastV lo).z, .int .i64 (northV la lo).x, .int .i64 (northV la lo).y, .int .i64 (northV la lo).z, .int .i64 (vecOf la lo).x, .int .i64 (vecOf la lo).y, .int .i64 (vecOf la lo).z]
set_option maxRecDepth 100000 in
set_option maxHeartbeats 8000000 in
theorem at_any (la lo : Int) (w : World) (h : vldB la lo = true) :
  Calls Tryz.prog 237 #[.agg #[.int .i64 la, .int .i64 lo]] w fun e w' => e = .returned (frV la lo) ∧ Below w.heap.size w w' := by
 have hb := vld_bd h
 have p1 := prod_bd _ _ (sinZ_bd la) (cosZ_bd lo)
 have p2 := prod_bd _ _ (sinZ_bd la) (sinZ_bd lo)
 have b1 := sinZ_bd lo
 have u1 := rnd_unit p1.1 p1.2
 have u2 := rnd_unit p2.1 p2.2
 have HV : Hid (frV la lo = .agg #[.int .i64 (-sinZ lo), .int .i64 (cosZ lo), .int .i64 0, .int .i64 (-rnd (sinZ la * cosZ lo)), .int .i64 (-rnd (sinZ la * sinZ lo)), .int .i64 (cosZ la), .int .i64 (vecOf la lo).x, .int .i64 (vecOf la lo).y, .int .i64 (vecOf la lo).z]) := by
  unfold Hid frV; simp only [eastV, northV]
 have t1 := fun w => tSin_any la w (by omega) (by omega)
 have t2 := fun w => tCos_any la w (by omega) (by omega)
 have t3 := fun w => tSin_any lo w (by omega) (by omega)
 have t4 := fun w => tCos_any lo w (by omega) (by omega)
 have r1 := fun w => sround_any (sinZ la * cosZ lo) w (by omega) (by omega)
 have r2 := fun w => sround_any (sinZ la * sinZ lo) w (by omega) (by omega)
 have o1 := fun w => of_any la lo w h
 have hw1 : IntKind.i64.wrap (sinZ la * cosZ lo) = sinZ la * cosZ lo := by rw [IntKind.wrap_i64]; omega
 have hw2 : IntKind.i64.wrap (sinZ la * sinZ lo) = sinZ la * sinZ lo := by rw [IntKind.wrap_i64]; omega
 have hw3 : IntKind.i64.wrap (-sinZ lo) = -sinZ lo := by rw [IntKind.wrap_i64]; omega
 have hw4 : IntKind.i64.wrap (-rnd (sinZ la * cosZ lo)) = -rnd (sinZ la * cosZ lo) := by rw [IntKind.wrap_i64]; omega
 have hw5 : IntKind.i64.wrap (-rnd (sinZ la * sinZ lo)) = -rnd (sinZ la * sinZ lo) := by rw [IntKind.wrap_i64]; omega
 rw [HV.out]
 obtain ⟨v, hv⟩ : ∃ v, vecOf la lo = v := ⟨_, rfl⟩
 rw [hv] at o1 ⊢
 obtain ⟨vx, vy, vz⟩ := v
 unfold vcV at o1
 simp only at o1 ⊢
 obtain ⟨n1, hn1⟩ : ∃ c, rnd (sinZ la * cosZ lo) = c := ⟨_, rfl⟩
 obtain ⟨n2, hn2⟩ : ∃ c, rnd (sinZ la * sinZ lo) = c := ⟨_, rfl⟩
 rw [hn1] at r1 hw4 u1
 rw [hn2] at r2 hw5 u2
 rw [hn1, hn2]
 obtain ⟨cl, hcl⟩ : ∃ c, cosZ la = c := ⟨_, rfl⟩
 obtain ⟨co, hco⟩ : ∃ c, cosZ lo = c := ⟨_, rfl⟩
 obtain ⟨sl, hsl⟩ : ∃ c, sinZ la = c := ⟨_, rfl⟩
 obtain ⟨so, hso⟩ : ∃ c, sinZ lo = c := ⟨_, rfl⟩
 rw [hsl, hco] at p1 r1 hw1
 rw [hsl, hso] at p2 r2 hw2
 rw [hso] at b1 hw3
 rw [hsl] at t1
 rw [hcl] at t2
 rw [hso] at t3
 rw [hco] at t4
 rw [hcl, hco, hso]
 clear hcl hco hsl hso HV h hb hv hn1 hn2
 obtain ⟨w0, hw0⟩ : ∃ W, (w.alloc (.cells #[.int .i64 la, .int .i64 lo] 23)).alloc (.cells #[.int .i64 0, .int .i64 0, .int .i64 0, .int .i64 0, .int .i64 0, .int .i64 0, .int .i64 0, .int .i64 0, .int .i64 0] 319) = W := ⟨_, rfl⟩
 have B0 : Hid (Below w.heap.size w w0) := by rw [← hw0]; exact ((Below.refl _ _).alloc (Nat.le_refl _) _).alloc (by simp) _
 have X0 : Hid (Bx (w.heap.size + 1) #[.int .i64 0, .int .i64 0, .int .i64 0, .int .i64 0, .int .i64 0, .int .i64 0, .int .i64 0, .int .i64 0, .int .i64 0] 319 w0) := by
  have h1 := Bx.last (w.alloc (.cells #[.int .i64 la, .int .i64 lo] 23)) #[.int .i64 0, .int .i64 0, .int .i64 0, .int .i64 0, .int .i64 0, .int .i64 0, .int .i64 0, .int .i64 0, .int .i64 0] 319
  rw [World.size_alloc, hw0] at h1
  exact h1
 have c0 : w0.cell? ⟨w.heap.size, 0, none⟩ = some (.int .i64 la) := by rw [← hw0]; simp [go_sem]
 have c1 : w0.cell? ⟨w.heap.size, 1, none⟩ = some (.int .i64 lo) := by rw [← hw0]; simp [go_sem]
 go_enter Tryz.func237, Tryz.ntmps237
 go_wp2_with fail
 try rw [hw0]
 clear hw0
 go_quiet (first | (go_at_call 266; exact Calls.quiet_of_same ((t1 _).mono fun e w' ⟨h1, h2⟩ => ⟨h1, h2.symm⟩)) | (go_at_call 267; exact Calls.quiet_of_same ((t2 _).mono fun e w' ⟨h1, h2⟩ => ⟨h1, h2.symm⟩)))
 have B1 : Hid (Below w.heap.size w (w0.drewN nq)) := below_drewN' B0.out nq
 have X1 : Hid (Bx (w.heap.size + 1) #[.int .i64 0, .int .i64 0, .int .i64 0, .int .i64 0, .int .i64 0, .int .i64 0, .int .i64 0, .int .i64 0, .int .i64 0] 319 (w0.drewN nq)) := X0.out
 have d0 : (w0.drewN nq).cell? ⟨w.heap.size, 0, none⟩ = some (.int .i64 la) := c0
 have d1 : (w0.drewN nq).cell? ⟨w.heap.size, 1, none⟩ = some (.int .i64 lo) := c1
 clear B0 X0 c0 c1
 obtain ⟨w1, hw1⟩ : ∃ W, w0.drewN nq = W := ⟨_, rfl⟩
 rw [hw1] at B1 X1 d0 d1 ⊢
 clear hw1
 go_wp2_with fail
 go_quiet (first | (go_at_call 266; exact Calls.quiet_of_same ((t3 _).mono fun e w' ⟨h1, h2⟩ => ⟨h1, h2.symm⟩)) | (go_at_call 267; exact Calls.quiet_of_same ((t4 _).mono fun e w' ⟨h1, h2⟩ => ⟨h1, h2.symm⟩)))

 have B2 : Hid (Below w.heap.size w (w1.drewN nq)) := below_drewN' B1.out nq
 have X2 : Hid (Bx (w.heap.size + 1) #[.int .i64 0, .int .i64 0, .int .i64 0, .int .i64 0, .int .i64 0, .int .i64 0, .int .i64 0, .int .i64 0, .int .i64 0] 319 (w1.drewN nq)) := X1.out
 have c0 : (w1.drewN nq).cell? ⟨w.heap.size, 0, none⟩ = some (.int .i64 la) := d0
 have c1 : (w1.drewN nq).cell? ⟨w.heap.size, 1, none⟩ = some (.int .i64 lo) := d1
 clear B1 X1 d0 d1
 obtain ⟨w2, hw2⟩ : ∃ W, w1.drewN nq = W := ⟨_, rfl⟩
 rw [hw2] at B2 X2 c0 c1 ⊢
 clear hw2
 have HFA : Hid (∀ wa, Below w2.heap.size w2 wa → Hid (Bx (w.heap.size + 1) #[.int .i64 0, .int .i64 0, .int .i64 0, .int .i64 0, .int .i64 0, .int .i64 0, .int .i64 0, .int .i64 0, .int .i64 0] 319 wa) ∧ Hid (Below w.heap.size w wa)) := fun wa hb => ⟨X2.out.via hb, Below.then_ B2.out hb⟩
 go_wp2_with fail
 clear t1 t2 t3 t4
 go_region_with (first
  | (go_at_call 268; (first | refine (r1 _).mono ?_ | refine (r2 _).mono ?_); rintro e wa ⟨rfl, rfl⟩)
  | (go_at_call 238; refine (o1 _).mono ?_; rintro e wa ⟨rfl, hba⟩; have HXA := HFA.out wa (Below.then_ (by repeat (first | exact Below.refl _ _ | with_reducible refine Below.drew ?_ | with_reducible refine below_drewN' ?_ _)) hba); clear hba; obtain ⟨⟨x0, x1, x2, x3, x4, x5, x6, x7, x8⟩, y0, y1, y2, y3, y4, y5, y6, y7, y8⟩ := HXA.1.out.cells9))
 all_goals
  have hx9 := Bx.set9 HXA.1.out (.int .i64 (-so)) (.int .i64 co) (.int .i64 0) (.int .i64 (-n1)) (.int .i64 (-n2)) (.int .i64 cl) (.int .i64 vx) (.int .i64 vy) (.int .i64 vz)
  have HB9 := Lib.hid (bel_set9 HXA.2.out (show w.heap.size ≤ w.heap.size + 1 by omega) (.int .i64 (-so)) (.int .i64 co) (.int .i64 0) (.int .i64 (-n1)) (.int .i64 (-n2)) (.int .i64 cl) (.int .i64 vx) (.int .i64 vy) (.int .i64 vz))
  generalize (((((((((wa.setCell ⟨w.heap.size + 1, 0, none⟩ (.int .i64 (-so))).setCell ⟨w.heap.size + 1, 1, none⟩ (.int .i64 co)).setCell ⟨w.heap.size + 1, 2, none⟩ (.int .i64 0)).setCell ⟨w.heap.size + 1, 3, none⟩ (.int .i64 (-n1))).setCell ⟨w.heap.size + 1, 4, none⟩ (.int .i64 (-n2))).setCell ⟨w.heap.size + 1, 5, none⟩ (.int .i64 cl)).setCell ⟨w.heap.size + 1, 6, none⟩ (.int .i64 vx)).setCell ⟨w.heap.size + 1, 7, none⟩ (.int .i64 vy)).setCell ⟨w.heap.size + 1, 8, none⟩ (.int .i64 vz)) = W9 at hx9 HB9 ⊢
  obtain ⟨⟨z0, z1, z2, z3, z4, z5, z6, z7, z8⟩, _⟩ := hx9.cells9
  go_wp2
  refine bodyPost_ret (by simp [results, Tryz.results237, go_sem, z0, z1, z2, z3, z4, z5, z6, z7, z8]; try rfl) rfl ?_
  exact ⟨rfl, HB9.out⟩
theorem mul64_ex (w : World) : Calls Tryz.prog 241 #[.int .u64 20626481, .int .u64 0] w fun e w' => e = .returned (.tuple #[.int .u64 0, .int .u64 0]) ∧ w = w' := by
 go_enter Tryz.func241, Tryz.ntmps241
 go_wp2
 go_ret2
 exact ⟨rfl, rfl⟩
set_option maxRecDepth 100000 in
theorem div64_ex (w : World) : Calls Tryz.prog 242 #[.int .u64 0, .int .u64 0, .int .u64 1073741825] w fun e w' => e = .returned (.tuple #[.int .u64 0, .int .u64 0]) ∧ Below w.heap.size w w' := by
 go_enter Tryz.func242, Tryz.ntmps242
 go_wp2_with fail
 go_quiet (fail)
 go_wp2
 go_ret2
 exact ⟨rfl, by first | exact Below.refl _ _ | exact below_drewN' (Below.refl _ _) _⟩
set_option maxRecDepth 100000 in
theorem scale_ex (w : World) : Calls Tryz.prog 200 #[.int .i64 20626481, .int .i64 0, .int .i64 1073741825, .int .u8 2] w fun e w' => e = .returned (.tuple #[.int .i64 0, .int .i64 0]) ∧ Below w.heap.size w w' := by
 have z1 := fun w => size_any 1073741825 w (by omega)
 have z2 := fun w => size_any 20626481 w (by omega)
 have z3 := fun w => size_any 0 w (by omega)
 go_enter Tryz.func200, Tryz.ntmps200
 go_wp2_with fail
 refine (z1 _).mono ?_
 rintro e w' ⟨rfl, rfl⟩
 go_wp2_with fail
 refine (z2 _).mono ?_
 rintro e w' ⟨rfl, rfl⟩
 go_wp2_with fail
 refine (z3 _).mono ?_
 rintro e w' ⟨rfl, rfl⟩
 go_wp2_with fail
 refine (mul64_ex _).mono ?_
 rintro e w' ⟨rfl, rfl⟩
 go_wp2_with fail
 refine (div64_ex _).mono ?_
 rintro e w1 ⟨rfl, hb1⟩
 go_wp2_with fail
 refine (fsigned_0 _).mono ?_
 rintro e w' ⟨rfl, rfl⟩
 go_wp2
 go_ret2
 exact ⟨rfl, hb1⟩
theorem mulDivRound_ex (w : World) : Calls Tryz.prog 141 #[.int .i64 20626481, .int .i64 0, .int .i64 1073741825] w fun e w' => e = .returned (.tuple #[.int .i64 0, .int .i64 0]) ∧ Below w.heap.size w w' := by
 go_enter Tryz.func141, Tryz.ntmps141
 go_wp2_with fail
 refine (scale_ex _).mono ?_
 rintro e w1 ⟨rfl, hb1⟩
 go_wp2
 go_ret2
 exact ⟨rfl, hb1⟩
theorem ex_vld : vldB 16560000 (-43200000) = true := by decide +kernel
theorem isOrigin_ex (w : World) : Calls Tryz.prog 139 #[.agg #[.int .i64 16560000, .int .i64 (-43200000)]] w fun e w' => e = .returned (.bool true) ∧ Below w.heap.size w w' := by
 have hv := fun w => sValid_any 16560000 (-43200000) w
 rw [ex_vld] at hv
 obtain ⟨w0, hw0⟩ : ∃ W, w.alloc (.cells #[.int .i64 16560000, .int .i64 (-43200000)] 23) = W := ⟨_, rfl⟩
 have B0 : Hid (Below w.heap.size w w0) := by rw [← hw0]; exact (Below.refl _ _).alloc (Nat.le_refl _) _
 have c0 : w0.cell? ⟨w.heap.size, 0, none⟩ = some (.int .i64 16560000) := by rw [← hw0]; simp [go_sem]
 have c1 : w0.cell? ⟨w.heap.size, 1, none⟩ = some (.int .i64 (-43200000)) := by rw [← hw0]; simp [go_sem]
 have lt : w.heap.size < w0.heap.size := by rw [← hw0]; simp
 go_enter Tryz.func139, Tryz.ntmps139
 go_wp2_with fail
 try rw [hw0]
 clear hw0
 refine (hv _).mono ?_
 rintro e w1 ⟨rfl, hb1⟩
 have B1 := Lib.hid (Below.then_ B0.out hb1)
 have d0 := (hb1.cell (p := ⟨w.heap.size, 0, none⟩) lt).trans c0
 have d1 := (hb1.cell (p := ⟨w.heap.size, 1, none⟩) lt).trans c1
 clear hb1 c0 c1 B0
 go_wp2
 go_ret
 exact ⟨rfl, B1.out⟩
theorem planeValid_ex (w : World) : Calls Tryz.prog 142 #[.agg #[.int .i64 0, .int .i64 0]] w fun e w' => e = .returned (.bool true) ∧ Below w.heap.size w w' := by
 go_enter Tryz.func142, Tryz.ntmps142
 go_wp2
 go_ret
 exact ⟨rfl, (Below.refl _ _).alloc (Nat.le_refl _) _⟩
end Go.Proofs.YtidkhnfhkofmoaaGreatDoor
namespace Go.Proofs.YtidkhnfhkofmoaaGreatDoor
open Go.RowKit
set_option linter.unusedVariables false
set_option linter.unusedSimpArgs false

theorem infoFix : (Tryz.prog.info? 73).map (fun i => (i.zero, i.size, i.bytes)) = some (some (.agg #[.string ⟨#[]⟩, .string ⟨#[]⟩, .int .u8 0, .int .i64 0, .int .i64 0, .int .i64 0, .int .i64 0]), 7, 72) := by kernel_rfl
theorem fxcells_len (l : List Fx) : (fxcells l).length = l.length * 7 := by
 induction l with
 | nil => rfl
 | cons p l ih =>
  show (fxc p ++ fxcells l).length = _
  rw [List.length_append, ih, List.length_cons]
  show 7 + _ = _
  omega
theorem fxcells_snoc (l : List Fx) (p : Fx) : fxcells (l ++ [p]) = fxcells l ++ fxc p := by
 unfold fxcells; rw [List.flatMap_append]; simp
theorem fxcells_at (l : List Fx) : ∀ (k : Nat) (h : k < l.length) (j : Nat), j < 7 → (fxcells l)[k * 7 + j]? = (fxc l[k])[j]? := by
 induction l with
 | nil => intro k h; simp at h
 | cons p l ih =>
  intro k h j hj
  show (fxc p ++ fxcells l)[k * 7 + j]? = _
  have hl : (fxc p).length = 7 := rfl
  cases k with
  | zero => rw [Nat.zero_mul, Nat.zero_add, List.getElem?_append_left (by omega)]; rfl
  | succ k =>
   rw [List.getElem?_append_right (by omega), hl, show (k + 1) * 7 + j - 7 = k * 7 + j by omega]
   exact ih k (by simpa using h) j hj
def FxsR (w : World) (v : Value) (l : List Fx) : Prop := Rd w 7 v l.length (fxcells l)
theorem FxsR.below {w w' : World} {v : Value} {l : List Fx} (h : FxsR w v l) (hb : Below w.heap.size w w') : FxsR w' v l := Rd.below h hb
theorem FxsR.form {w : World} {v : Value} {l : List Fx} (h : FxsR w v l) : ∃ A c, v = .slice A l.length c ∧ l.length ≤ c ∧ c ≤ 9223372036854775807 := by
 obtain ⟨A, c, hv, hc, hm⟩ := Rd.form h
 unfold maxLen at hm
 exact ⟨A, c, hv, hc, by omega⟩
structure FxAt (w : World) (g o : Nat) (f : Fx) : Prop where
 c0 : w.cell? ⟨g, o, none⟩ = some (.string (sb f.id))
 c1 : w.cell? ⟨g, o + 1, none⟩ = some (.string (sb f.rg))
 c2 : w.cell? ⟨g, o + 2, none⟩ = some (.int .u8 (f.kd : Int))
 c3 : w.cell? ⟨g, o + 3, none⟩ = some (.int .i64 f.lat)
 c4 : w.cell? ⟨g, o + 4, none⟩ = some (.int .i64 f.lon)
 c5 : w.cell? ⟨g, o + 5, none⟩ = some (.int .i64 f.el)
 c6 : w.cell? ⟨g, o + 6, none⟩ = some (.int .i64 f.ra)
theorem FxsR.at_ {w : World} {v : Value} {l : List Fx} (h : FxsR w v l) {k : Nat} (hk : k < l.length) : ∃ g o c, v = .slice (some ⟨g, o, none⟩) l.length c ∧ g < w.heap.size ∧ FxAt w g (o + k * 7) l[k] := by
 obtain ⟨hl, A, c, hv, hc, hm, hr⟩ := h
 obtain ⟨g, o, rfl, hg, hx⟩ := hr (by omega)
 have key : ∀ j u, j < 7 → (fxc l[k])[j]? = some u → w.cell? ⟨g, o + k * 7 + j, none⟩ = some u := fun j u hj hu => by
  have := hx (k * 7 + j) u (by rw [fxcells_at l k hk j hj]; exact hu)
  rwa [← Nat.add_assoc] at this
 exact ⟨g, o, c, hv, hg, key 0 _ (by omega) rfl, key 1 _ (by omega) rfl, key 2 _ (by omega) rfl, key 3 _ (by omega) rfl, key 4 _ (by omega) rfl, key 5 _ (by omega) rfl, key 6 _ (by omega) rfl⟩
theorem FxAt.below {w w' : World} {g o : Nat} {f : Fx} (h : FxAt w g o f) (hg : g < w.heap.size) {B : Nat} (hb : Below B w w') (hB : g < B) : FxAt w' g o f := by
 have k : ∀ j, w'.cell? ⟨g, j, none⟩ = w.cell? ⟨g, j, none⟩ := fun j => hb.cell (p := ⟨g, j, none⟩) hB
 exact ⟨(k _).trans h.c0, (k _).trans h.c1, (k _).trans h.c2, (k _).trans h.c3, (k _).trans h.c4, (k _).trans h.c5, (k _).trans h.c6⟩
def FewPost (l : List Fx) (w : World) (e : Ending) (w' : World) : Prop := ∃ v, e = .returned v ∧ w'.ownsRow w.heap.size 73 7 v l.length (fxcells l) ∧ Below w.heap.size w w'
def SzL (l : List Fx) : Prop := ∀ f ∈ l, f.id.length ≤ 1000000000000000 ∧ f.rg.length ≤ 1000000000000000
theorem SzL.take {l : List Fx} (h : SzL l) (n : Nat) : SzL (l.take n) := fun f hf => h f (List.mem_of_mem_take hf)
theorem SzL.get {l : List Fx} (h : SzL l) {k : Nat} (hk : k < l.length) : l[k].id.length ≤ 1000000000000000 ∧ l[k].rg.length ≤ 1000000000000000 := h _ (List.getElem_mem hk)
def FindPost (o : Option Fx) (w : World) (e : Ending) (w' : World) : Prop :=
 e = .returned (.tuple #[.agg #[.string (sb (o.getD fx0).id), .string (sb (o.getD fx0).rg), .int .u8 ((o.getD fx0).kd : Int), .int .i64 (o.getD fx0).lat, .int .i64 (o.getD fx0).lon, .int .i64 (o.getD fx0).el, .int .i64 (o.getD fx0).ra], .bool o.isSome]) ∧ Below w.heap.size w w'
theorem FindPost.some {o : Option Fx} {w w' : World} {p : Fx} (h : o = some p) (hb : Below w.heap.size w w') :
  FindPost o w (.returned (.tuple #[.agg #[.string (sb p.id), .string (sb p.rg), .int .u8 (p.kd : Int), .int .i64 p.lat, .int .i64 p.lon, .int .i64 p.el, .int .i64 p.ra], .bool true])) w' := by subst h; exact ⟨rfl, hb⟩
theorem FindPost.none {o : Option Fx} {w w' : World} (h : o = none) (hb : Below w.heap.size w w') :
  FindPost o w (.returned (.tuple #[.agg #[.string ⟨#[]⟩, .string ⟨#[]⟩, .int .u8 0, .int .i64 0, .int .i64 0, .int .i64 0, .int .i64 0], .bool false])) w' := by subst h; exact ⟨rfl, hb⟩
end Go.Proofs.YtidkhnfhkofmoaaGreatDoor
