/-
  Several texts as one.
-/
import Derived.Test.YtlhniiakacbbeaaGreatDoorMG12
import Derived.Test.YtlhniiakacbbeaaGreatDoorMG17
import Derived.Test.YtlhniiakacbbeaaGreatDoorMG02
import Derived.Lib.SliceRun
import Derived.Deep.LoopGhost
namespace Go.Proofs.YtlhniiakacbbeaaGreatDoor
open Go.RowKit
set_option linter.unusedVariables false
set_option linter.unusedSimpArgs false
def Bx (b : Nat) (cs : Array Value) (t : TypeId) (w : World) : Prop := w.heap[b]? = some (.cells cs t (0, 0))
theorem Bx.lt {b : Nat} {cs : Array Value} {t : TypeId} {w : World} (h : Bx b cs t w) : b < w.heap.size := lt_heap h
theorem Bx.via {b : Nat} {cs : Array Value} {t : TypeId} {T wa : World} (hb : Below T.heap.size T wa) (h : Bx b cs t T) : Bx b cs t wa := (hb.block b h.lt).trans h
theorem Bx.last (T : World) (cs : Array Value) (t : TypeId) : Bx T.heap.size cs t (T.alloc (.cells cs t)) := heap_alloc_new T _
theorem Bx.set {b : Nat} {cs : Array Value} {t : TypeId} {w : World} (h : Bx b cs t w) (j : Nat) (u : Value) : Bx b (cs.setIfInBounds j u) t (w.setCell ⟨b, j, none⟩ u) := heap_setCell_same w b j cs t u h
theorem Bx.cell {b : Nat} {cs : Array Value} {t : TypeId} {w : World} (h : Bx b cs t w) (j : Nat) {u : Value} (hu : cs[j]? = some u) : w.cell? ⟨b, j, none⟩ = some u := blkCell' h j hu
theorem Bx.free {b : Nat} {cs : Array Value} {t : TypeId} {w : World} (h : Bx b cs t w) (j : Nat) : w.frozen? ⟨b, j, none⟩ = false := frozen_of_row w b j cs t h
theorem Bx.grow {b : Nat} {cs : Array Value} {t : TypeId} {T : World} (h : Bx b cs t T) (o : Obj) : Bx b cs t (T.alloc o) := h.via ((Below.refl _ T).alloc (Nat.le_refl _) o)
theorem Bx.drew {b : Nat} {cs : Array Value} {t : TypeId} {T : World} (h : Bx b cs t T) : Bx b cs t T.drew := h
theorem Bx.last2 (T : World) (o : Obj) (cs : Array Value) (t : TypeId) : Bx (T.heap.size + 1) cs t ((T.alloc o).alloc (.cells cs t)) := by
 have := Bx.last (T.alloc o) cs t
 rw [World.size_alloc] at this
 exact this
theorem Bx.set9 {b : Nat} {x0 x1 x2 x3 x4 x5 x6 x7 x8 : Value} {t : TypeId} {w : World} (h : Bx b #[x0, x1, x2, x3, x4, x5, x6, x7, x8] t w) (y0 y1 y2 y3 y4 y5 y6 y7 y8 : Value) :
  Bx b #[y0, y1, y2, y3, y4, y5, y6, y7, y8] t (((((((((w.setCell ⟨b, 0, none⟩ y0).setCell ⟨b, 1, none⟩ y1).setCell ⟨b, 2, none⟩ y2).setCell ⟨b, 3, none⟩ y3).setCell ⟨b, 4, none⟩ y4).setCell ⟨b, 5, none⟩ y5).setCell ⟨b, 6, none⟩ y6).setCell ⟨b, 7, none⟩ y7).setCell ⟨b, 8, none⟩ y8) := by
 have h0 : Bx b #[y0, x1, x2, x3, x4, x5, x6, x7, x8] t _ := h.set 0 y0
 have h1 : Bx b #[y0, y1, x2, x3, x4, x5, x6, x7, x8] t _ := h0.set 1 y1
 have h2 : Bx b #[y0, y1, y2, x3, x4, x5, x6, x7, x8] t _ := h1.set 2 y2
 have h3 : Bx b #[y0, y1, y2, y3, x4, x5, x6, x7, x8] t _ := h2.set 3 y3
 have h4 : Bx b #[y0, y1, y2, y3, y4, x5, x6, x7, x8] t _ := h3.set 4 y4
 have h5 : Bx b #[y0, y1, y2, y3, y4, y5, x6, x7, x8] t _ := h4.set 5 y5
 have h6 : Bx b #[y0, y1, y2, y3, y4, y5, y6, x7, x8] t _ := h5.set 6 y6
 have h7 : Bx b #[y0, y1, y2, y3, y4, y5, y6, y7, x8] t _ := h6.set 7 y7
 have h8 : Bx b #[y0, y1, y2, y3, y4, y5, y6, y7, y8] t _ := h7.set 8 y8
 exact h8
theorem Bx.cells9 {b : Nat} {x0 x1 x2 x3 x4 x5 x6 x7 x8 : Value} {t : TypeId} {w : World} (h : Bx b #[x0, x1, x2, x3, x4, x5, x6, x7, x8] t w) :
  (w.cell? ⟨b, 0, none⟩ = some x0 ∧ w.cell? ⟨b, 1, none⟩ = some x1 ∧ w.cell? ⟨b, 2, none⟩ = some x2 ∧ w.cell? ⟨b, 3, none⟩ = some x3 ∧ w.cell? ⟨b, 4, none⟩ = some x4 ∧ w.cell? ⟨b, 5, none⟩ = some x5 ∧ w.cell? ⟨b, 6, none⟩ = some x6 ∧ w.cell? ⟨b, 7, none⟩ = some x7 ∧ w.cell? ⟨b, 8, none⟩ = some x8) ∧
  (w.frozen? ⟨b, 0, none⟩ = false ∧ w.frozen? ⟨b, 1, none⟩ = false ∧ w.frozen? ⟨b, 2, none⟩ = false ∧ w.frozen? ⟨b, 3, none⟩ = false ∧ w.frozen? ⟨b, 4, none⟩ = false ∧ w.frozen? ⟨b, 5, none⟩ = false ∧ w.frozen? ⟨b, 6, none⟩ = false ∧ w.frozen? ⟨b, 7, none⟩ = false ∧ w.frozen? ⟨b, 8, none⟩ = false) :=
 ⟨⟨h.cell 0 rfl, h.cell 1 rfl, h.cell 2 rfl, h.cell 3 rfl, h.cell 4 rfl, h.cell 5 rfl, h.cell 6 rfl, h.cell 7 rfl, h.cell 8 rfl⟩, h.free 0, h.free 1, h.free 2, h.free 3, h.free 4, h.free 5, h.free 6, h.free 7, h.free 8⟩
theorem Bx.set3 {b : Nat} {x0 x1 x2 : Value} {t : TypeId} {w : World} (h : Bx b #[x0, x1, x2] t w) (y0 y1 y2 : Value) :
  Bx b #[y0, y1, y2] t (((w.setCell ⟨b, 0, none⟩ y0).setCell ⟨b, 1, none⟩ y1).setCell ⟨b, 2, none⟩ y2) := ((h.set 0 y0).set 1 y1).set 2 y2
theorem Bx.cells3 {b : Nat} {x0 x1 x2 : Value} {t : TypeId} {w : World} (h : Bx b #[x0, x1, x2] t w) :
  (w.cell? ⟨b, 0, none⟩ = some x0 ∧ w.cell? ⟨b, 1, none⟩ = some x1 ∧ w.cell? ⟨b, 2, none⟩ = some x2) ∧ (w.frozen? ⟨b, 0, none⟩ = false ∧ w.frozen? ⟨b, 1, none⟩ = false ∧ w.frozen? ⟨b, 2, none⟩ = false) :=
 ⟨⟨h.cell 0 rfl, h.cell 1 rfl, h.cell 2 rfl⟩, h.free 0, h.free 1, h.free 2⟩
theorem bel_set9 {B b : Nat} {w0 w : World} (h : Below B w0 w) (hb : B ≤ b) (y0 y1 y2 y3 y4 y5 y6 y7 y8 : Value) : Below B w0 (((((((((w.setCell ⟨b, 0, none⟩ y0).setCell ⟨b, 1, none⟩ y1).setCell ⟨b, 2, none⟩ y2).setCell ⟨b, 3, none⟩ y3).setCell ⟨b, 4, none⟩ y4).setCell ⟨b, 5, none⟩ y5).setCell ⟨b, 6, none⟩ y6).setCell ⟨b, 7, none⟩ y7).setCell ⟨b, 8, none⟩ y8) :=
 ((((((((h.setCell hb y0).setCell hb y1).setCell hb y2).setCell hb y3).setCell hb y4).setCell hb y5).setCell hb y6).setCell hb y7).setCell hb y8
theorem bel_set3 {B b : Nat} {w0 w : World} (h : Below B w0 w) (hb : B ≤ b) (y0 y1 y2 : Value) : Below B w0 (((w.setCell ⟨b, 0, none⟩ y0).setCell ⟨b, 1, none⟩ y1).setCell ⟨b, 2, none⟩ y2) :=
 ((h.setCell hb y0).setCell hb y1).setCell hb y2
structure Frm (S : Nat → Prop) (w w' : World) : Prop where
 os : w'.os = w.os
 tape : w'.tape = w.tape
 output : w'.output = w.output
 size : w.heap.size ≤ w'.heap.size
 block : ∀ k, k < w.heap.size → ¬ S k → w'.heap[k]? = w.heap[k]?
theorem Frm.refl (S : Nat → Prop) (w : World) : Frm S w w := ⟨rfl, rfl, rfl, Nat.le_refl _, fun _ _ _ => rfl⟩
theorem Frm.trans {S : Nat → Prop} {a b c : World} (h : Frm S a b) (k : Frm S b c) : Frm S a c :=
 ⟨k.os.trans h.os, k.tape.trans h.tape, k.output.trans h.output, Nat.le_trans h.size k.size, fun i hi hn => (k.block i (Nat.lt_of_lt_of_le hi h.size) hn).trans (h.block i hi hn)⟩
theorem Frm.of_below {S : Nat → Prop} {w w' : World} (h : Below w.heap.size w w') : Frm S w w' := ⟨h.os, h.tape, h.output, h.size, fun k hk _ => h.block k hk⟩
theorem Frm.grown {S : Nat → Prop} {w w' : World} {b : Nat} (h : w.grownBy w' (some b)) (hb : S b) : Frm S w w' :=
 ⟨h.os, h.tape, h.output, h.size, fun k hk hn => h.block k hk (fun e => by injection e with e; exact hn (e ▸ hb))⟩
theorem Frm.mono {S T : Nat → Prop} {w w' : World} (h : Frm S w w') (hT : ∀ k, S k → T k) : Frm T w w' := ⟨h.os, h.tape, h.output, h.size, fun k hk hn => h.block k hk (fun hs => hn (hT k hs))⟩
theorem Frm.below {S : Nat → Prop} {w w' : World} (h : Frm S w w') {B : Nat} (hB : B ≤ w.heap.size) (hS : ∀ k, S k → B ≤ k) : Below B w w' :=
 ⟨h.os, h.tape, h.output, h.size, fun k hk => h.block k (by omega) (fun hs => by have := hS k hs; omega)⟩
theorem Frm.cell {S : Nat → Prop} {w w' : World} (h : Frm S w w') {a : Addr} (h1 : a.block < w.heap.size) (h2 : ¬ S a.block) : w'.cell? a = w.cell? a := World.cell?_of_block (h.block _ h1 h2)
theorem Frm.mapF {S : Nat → Prop} {β : Type} {e : Elm β} {b n : Nat} {m : List UInt8 → Option β} {w w' : World} (h : Frm S w w') (hm : MapF e w b n m) (h2 : ¬ S b) : MapF e w' b n m := by
 have hl := hm.lt
 obtain ⟨D, ⟨es, clock, hbk, r⟩, k⟩ := hm
 exact ⟨D, ⟨es, clock, (h.block b hl h2).trans hbk, r⟩, k⟩
def ixV (b1 b2 b3 : Nat) : Value := .agg #[.map (some b1), .map (some b2), .map (some b3)]
structure IxR (b1 b2 b3 n : Nat) (mr ma mu : List UInt8 → Option Bool) (w : World) : Prop where
 r : MapF elmB w b1 n mr
 a : MapF elmB w b2 n ma
 u : MapF elmB w b3 n mu
 d1 : b1 ≠ b2
 d2 : b1 ≠ b3
 d3 : b2 ≠ b3
theorem IxR.frm {b1 b2 b3 n : Nat} {mr ma mu : List UInt8 → Option Bool} {S : Nat → Prop} {w w' : World} (h : IxR b1 b2 b3 n mr ma mu w) (hf : Frm S w w') (h1 : ¬ S b1) (h2 : ¬ S b2) (h3 : ¬ S b3) : IxR b1 b2 b3 n mr ma mu w' :=
 ⟨hf.mapF h.r h1, hf.mapF h.a h2, hf.mapF h.u h3, h.d1, h.d2, h.d3⟩
theorem IxR.below {b1 b2 b3 n : Nat} {mr ma mu : List UInt8 → Option Bool} {w w' : World} (h : IxR b1 b2 b3 n mr ma mu w) (hb : Below w.heap.size w w') : IxR b1 b2 b3 n mr ma mu w' :=
 ⟨h.r.below' hb, h.a.below' hb, h.u.below' hb, h.d1, h.d2, h.d3⟩
def aptB (l : List Fx) (s : List UInt8) : Bool := l.any fun f => f.kd == 5 && decide (f.id = s)
def rwsB (l : List Fx) (r : List UInt8) : Bool := l.any fun f => f.kd == 6 && decide (fxRef f = r)
def rfsB (l : List Fx) (r : List UInt8) : Bool := l.any fun f => decide (fxRef f = r)
def hasB (l : List Fx) (r : List UInt8) : Bool := decide (r = []) || rfsB l r
def bM (p : List UInt8 → Bool) : List UInt8 → Option Bool := fun s => if p s = true then some true else none
theorem bM_getD (p : List UInt8 → Bool) (s : List UInt8) : (bM p s).getD false = p s := by unfold bM; cases h : p s <;> simp
theorem bM_more {p q : List UInt8 → Bool} {r : List UInt8} (h : ∀ s, p s = (q s || decide (r = s))) : bM p = setK (bM q) r (some true) := by
 funext s
 unfold bM setK
 rw [h s]
 by_cases h1 : s = r
 ·rw [if_pos h1, if_pos (by rw [h1]; simp)]
 ·rw [if_neg h1]
  have h2 : decide (r = s) = false := decide_eq_false fun e => h1 e.symm
  rw [h2, Bool.or_false]
theorem rfs_snoc (l : List Fx) (f : Fx) : bM (rfsB (l ++ [f])) = setK (bM (rfsB l)) (fxRef f) (some true) := bM_more fun s => by unfold rfsB; rw [List.any_append]; simp
theorem apt_snoc5 (l : List Fx) (f : Fx) (h : f.kd = 5) : bM (aptB (l ++ [f])) = setK (bM (aptB l)) f.id (some true) := bM_more fun s => by unfold aptB; rw [List.any_append]; simp [h]
theorem apt_snoc (l : List Fx) (f : Fx) (h : f.kd ≠ 5) : bM (aptB (l ++ [f])) = bM (aptB l) := by
 have : aptB (l ++ [f]) = aptB l := by funext s; unfold aptB; rw [List.any_append]; simp [h]
 rw [this]
theorem rws_snoc6 (l : List Fx) (f : Fx) (h : f.kd = 6) : bM (rwsB (l ++ [f])) = setK (bM (rwsB l)) (fxRef f) (some true) := bM_more fun s => by unfold rwsB; rw [List.any_append]; simp [h]
theorem rws_snoc (l : List Fx) (f : Fx) (h : f.kd ≠ 6) : bM (rwsB (l ++ [f])) = bM (rwsB l) := by
 have : rwsB (l ++ [f]) = rwsB l := by funext s; unfold rwsB; rw [List.any_append]; simp [h]
 rw [this]
theorem MapF.lookB {w : World} {b n : Nat} {p : List UInt8 → Bool} {r : List UInt8} {v : Bool} (h : MapF elmB w b n (bM p)) (hr : r.length ≤ maxLen) (hv : p r = v) :
  (Instr.lookup 85 (.map (some b)) (.string (sb r)) false).run Tryz.prog w = .ok (.bool v) w := by
 have h1 := h.get Tryz.underlying85 false (zeroB w) (s := sb r) hr
 rw [bl_sb, bM_getD, hv] at h1
 exact h1
def IxL (b1 b2 b3 : Nat) (l : List Fx) (w : World) : Prop := IxR b1 b2 b3 l.length (bM (rfsB l)) (bM (aptB l)) (bM (rwsB l)) w
theorem IxL.below {b1 b2 b3 : Nat} {l : List Fx} {w w' : World} (h : IxL b1 b2 b3 l w) (hb : Below w.heap.size w w') : IxL b1 b2 b3 l w' := IxR.below h hb
theorem IxL.frm {b1 b2 b3 : Nat} {l : List Fx} {S : Nat → Prop} {w w' : World} (h : IxL b1 b2 b3 l w) (hf : Frm S w w') (h1 : ¬ S b1) (h2 : ¬ S b2) (h3 : ¬ S b3) : IxL b1 b2 b3 l w' := IxR.frm h hf h1 h2 h3
theorem IxL.lt {b1 b2 b3 : Nat} {l : List Fx} {w : World} (h : IxL b1 b2 b3 l w) : b1 < w.heap.size ∧ b2 < w.heap.size ∧ b3 < w.heap.size := ⟨h.r.lt, h.a.lt, h.u.lt⟩
end Go.Proofs.YtlhniiakacbbeaaGreatDoor
namespace Go.Proofs.YtlhniiakacbbeaaGreatDoor
open Go.RowKit Go.Lib Go.Sort
set_option linter.unusedVariables false
set_option linter.unusedSimpArgs false
theorem stableZ_fix (A : Option Addr) (cap : Nat) (fv : Value) (w : World) : Calls Tryz.prog 171 #[.slice A 0 cap, fv] w fun e w' => e = .returned (.tuple #[]) ∧ w' = w := by
 have h1 : ∀ w, Calls Tryz.prog 319 #[.slice A 0 cap, .int .i64 0, .int .i64 0, fv] w fun e w' => e = .returned (.tuple #[]) ∧ w' = w := by
  intro w
  go_enter Tryz.func319, Tryz.ntmps319
  go_wp2
  go_loopg [8] 0 (fun g i wr => i = .int .i64 1 ∧ wr = w)
  case atStart => exact ⟨rfl, rfl⟩
  case round =>
   obtain ⟨rfl, hw⟩ := hrel
   have HW := Lib.hid hw
   clear hw
   go_wp2
   go_end0
   exact ⟨rfl, HW.out⟩
 have h2 : ∀ w, Calls Tryz.prog 245 #[.slice A 0 cap, .int .i64 0, fv] w fun e w' => e = .returned (.tuple #[]) ∧ w' = w := by
  intro w
  go_enter Tryz.func245, Tryz.ntmps245
  go_wp2
  go_loopg [7, 8] 0 (fun g a b wr => a = .int .i64 0 ∧ b = .int .i64 20 ∧ wr = w)
  case atStart => exact ⟨rfl, rfl, rfl⟩
  case round =>
   obtain ⟨rfl, rfl, hw⟩ := hrel
   have HW := Lib.hid hw
   clear hw
   go_wp2_with fail
   refine (h1 _).mono ?_
   rintro e w2 ⟨rfl, hw2⟩
   have HW2 : Hid (w2 = w) := hw2.trans HW.out
   clear hw2
   go_wp2
   go_loopg [6] 0 (fun g a wr => a = .int .i64 20 ∧ wr = w)
   case atStart => exact ⟨rfl, HW2.out⟩
   case round =>
    obtain ⟨rfl, hw⟩ := hrel
    have HW := Lib.hid hw
    clear hw
    go_wp2
    go_end0
    exact ⟨rfl, HW.out⟩
 go_enter Tryz.func171, Tryz.ntmps171
 go_wp2_with fail
 refine (h2 _).mono ?_
 rintro e w2 ⟨rfl, rfl⟩
 go_wp2
 go_end0
 exact ⟨rfl, rfl⟩
theorem stableZ_air (A : Option Addr) (cap : Nat) (fv : Value) (w : World) : Calls Tryz.prog 82 #[.slice A 0 cap, fv] w fun e w' => e = .returned (.tuple #[]) ∧ w' = w := by
 have h1 : ∀ w, Calls Tryz.prog 246 #[.slice A 0 cap, .int .i64 0, .int .i64 0, fv] w fun e w' => e = .returned (.tuple #[]) ∧ w' = w := by
  intro w
  go_enter Tryz.func246, Tryz.ntmps246
  go_wp2
  go_loopg [8] 0 (fun g i wr => i = .int .i64 1 ∧ wr = w)
  case atStart => exact ⟨rfl, rfl⟩
  case round =>
   obtain ⟨rfl, hw⟩ := hrel
   have HW := Lib.hid hw
   clear hw
   go_wp2
   go_end0
   exact ⟨rfl, HW.out⟩
 have h2 : ∀ w, Calls Tryz.prog 173 #[.slice A 0 cap, .int .i64 0, fv] w fun e w' => e = .returned (.tuple #[]) ∧ w' = w := by
  intro w
  go_enter Tryz.func173, Tryz.ntmps173
  go_wp2
  go_loopg [7, 8] 0 (fun g a b wr => a = .int .i64 0 ∧ b = .int .i64 20 ∧ wr = w)
  case atStart => exact ⟨rfl, rfl, rfl⟩
  case round =>
   obtain ⟨rfl, rfl, hw⟩ := hrel
   have HW := Lib.hid hw
   clear hw
   go_wp2_with fail
   refine (h1 _).mono ?_
   rintro e w2 ⟨rfl, hw2⟩
   have HW2 : Hid (w2 = w) := hw2.trans HW.out
   clear hw2
   go_wp2
   go_loopg [6] 0 (fun g a wr => a = .int .i64 20 ∧ wr = w)
   case atStart => exact ⟨rfl, HW2.out⟩
   case round =>
    obtain ⟨rfl, hw⟩ := hrel
    have HW := Lib.hid hw
    clear hw
    go_wp2
    go_end0
    exact ⟨rfl, HW.out⟩
 go_enter Tryz.func82, Tryz.ntmps82
 go_wp2_with fail
 refine (h2 _).mono ?_
 rintro e w2 ⟨rfl, rfl⟩
 go_wp2
 go_end0
 exact ⟨rfl, rfl⟩
theorem stableZ_proc (A : Option Addr) (cap : Nat) (fv : Value) (w : World) : Calls Tryz.prog 84 #[.slice A 0 cap, fv] w fun e w' => e = .returned (.tuple #[]) ∧ w' = w := by
 have h1 : ∀ w, Calls Tryz.prog 248 #[.slice A 0 cap, .int .i64 0, .int .i64 0, fv] w fun e w' => e = .returned (.tuple #[]) ∧ w' = w := by
  intro w
  go_enter Tryz.func248, Tryz.ntmps248
  go_wp2
  go_loopg [8] 0 (fun g i wr => i = .int .i64 1 ∧ wr = w)
  case atStart => exact ⟨rfl, rfl⟩
  case round =>
   obtain ⟨rfl, hw⟩ := hrel
   have HW := Lib.hid hw
   clear hw
   go_wp2
   go_end0
   exact ⟨rfl, HW.out⟩
 have h2 : ∀ w, Calls Tryz.prog 174 #[.slice A 0 cap, .int .i64 0, fv] w fun e w' => e = .returned (.tuple #[]) ∧ w' = w := by
  intro w
  go_enter Tryz.func174, Tryz.ntmps174
  go_wp2
  go_loopg [7, 8] 0 (fun g a b wr => a = .int .i64 0 ∧ b = .int .i64 20 ∧ wr = w)
  case atStart => exact ⟨rfl, rfl, rfl⟩
  case round =>
   obtain ⟨rfl, rfl, hw⟩ := hrel
   have HW := Lib.hid hw
   clear hw
   go_wp2_with fail
   refine (h1 _).mono ?_
   rintro e w2 ⟨rfl, hw2⟩
   have HW2 : Hid (w2 = w) := hw2.trans HW.out
   clear hw2
   go_wp2
   go_loopg [6] 0 (fun g a wr => a = .int .i64 20 ∧ wr = w)
   case atStart => exact ⟨rfl, HW2.out⟩
   case round =>
    obtain ⟨rfl, hw⟩ := hrel
    have HW := Lib.hid hw
    clear hw
    go_wp2
    go_end0
    exact ⟨rfl, HW.out⟩
 go_enter Tryz.func84, Tryz.ntmps84
 go_wp2_with fail
 refine (h2 _).mono ?_
 rintro e w2 ⟨rfl, rfl⟩
 go_wp2
 go_end0
 exact ⟨rfl, rfl⟩
theorem cloneZ_fix (w : World) : Calls Tryz.prog 170 #[.slice none 0 0] w fun e w' => e = .returned (.slice none 0 0) ∧ w' = w := by
 have hnil : ∀ W, (binOp .eql 26 (.slice none 0 0) (.slice none 0 0)).run Tryz.prog W = .ok (.bool true) W := fun W => Lib.run_eql_slice_nil W _ _ _ _ _ _ _ Tryz.underlying26
 go_enter Tryz.func170, Tryz.ntmps170
 go_wp2
 go_ret
 exact ⟨rfl, rfl⟩
theorem sortZ_fix (w : World) : Calls Tryz.prog 81 #[.slice none 0 0] w fun e w' => e = .returned (.slice none 0 0) ∧ w' = w := by
 go_enter Tryz.func81, Tryz.ntmps81
 go_wp2_with fail
 refine (cloneZ_fix _).mono ?_
 rintro e w1 ⟨rfl, rfl⟩
 go_wp2_with fail
 refine (stableZ_fix none 0 _ _).mono ?_
 rintro e w1 ⟨rfl, rfl⟩
 go_wp2
 go_ret
 exact ⟨rfl, rfl⟩
end Go.Proofs.YtlhniiakacbbeaaGreatDoor
