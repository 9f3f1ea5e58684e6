/-
  Several texts as one.
-/
import Derived.Test.YtgmehlgfilpleaaGreatDoorMG03
import Derived.Test.YtgmehlgfilpleaaGreatDoorMG19
import Derived.Test.YtgmehlgfilpleaaGreatDoorFixF
import Derived.Test.YtgmehlgfilpleaaGreatDoorCalG
import Derived.Lib.SliceRun
import Derived.Deep.LoopGhost
import Derived.Laws.BytesString
import Derived.Laws.Cells
namespace Go.Proofs.YtgmehlgfilpleaaGreatDoor
open Go.RowKit
set_option linter.unusedVariables false
set_option linter.unusedSimpArgs false
/-- a block of the call's own, whole -/
def Bx (b : Nat) (cs : Array Value) (t : TypeId) (w : World) : Prop := w.heap[b]? = some (.cells cs t (0, 0))
theorem Bx.lt {b : Nat} {cs : Array Value} {t : TypeId} {w : World} (h : Bx b cs t w) : b < w.heap.size := lt_heap h
theorem Bx.via {b : Nat} {cs : Array Value} {t : TypeId} {T wa : World} (hb : Below T.heap.size T wa) (h : Bx b cs t T) : Bx b cs t wa := (hb.block b h.lt).trans h
theorem Bx.last (T : World) (cs : Array Value) (t : TypeId) : Bx T.heap.size cs t (T.alloc (.cells cs t)) := heap_alloc_new T _
theorem Bx.set {b : Nat} {cs : Array Value} {t : TypeId} {w : World} (h : Bx b cs t w) (j : Nat) (u : Value) : Bx b (cs.setIfInBounds j u) t (w.setCell ⟨b, j, none⟩ u) := heap_setCell_same w b j cs t u h
theorem Bx.cell {b : Nat} {cs : Array Value} {t : TypeId} {w : World} (h : Bx b cs t w) (j : Nat) {u : Value} (hu : cs[j]? = some u) : w.cell? ⟨b, j, none⟩ = some u := blkCell' h j hu
theorem Bx.free {b : Nat} {cs : Array Value} {t : TypeId} {w : World} (h : Bx b cs t w) (j : Nat) : w.frozen? ⟨b, j, none⟩ = false := frozen_of_row w b j cs t h
theorem Bx.grow {b : Nat} {cs : Array Value} {t : TypeId} {T : World} (h : Bx b cs t T) (o : Obj) : Bx b cs t (T.alloc o) := h.via ((Below.refl _ T).alloc (Nat.le_refl _) o)
theorem Bx.drew {b : Nat} {cs : Array Value} {t : TypeId} {T : World} (h : Bx b cs t T) : Bx b cs t T.drew := h
theorem Bx.last2 (T : World) (o : Obj) (cs : Array Value) (t : TypeId) : Bx (T.heap.size + 1) cs t ((T.alloc o).alloc (.cells cs t)) := by
  have := Bx.last (T.alloc o) cs t
  rw [World.size_alloc] at this
  exact this
theorem Bx.set9 {b : Nat} {x0 x1 x2 x3 x4 x5 x6 x7 x8 : Value} {t : TypeId} {w : World} (h : Bx b #[x0, x1, x2, x3, x4, x5, x6, x7, x8] t w) (y0 y1 y2 y3 y4 y5 y6 y7 y8 : Value) :
    Bx b #[y0, y1, y2, y3, y4, y5, y6, y7, y8] t (((((((((w.setCell ⟨b, 0, none⟩ y0).setCell ⟨b, 1, none⟩ y1).setCell ⟨b, 2, none⟩ y2).setCell ⟨b, 3, none⟩ y3).setCell ⟨b, 4, none⟩ y4).setCell ⟨b, 5, none⟩ y5).setCell ⟨b, 6, none⟩ y6).setCell ⟨b, 7, none⟩ y7).setCell ⟨b, 8, none⟩ y8) := by
  have h0 : Bx b #[y0, x1, x2, x3, x4, x5, x6, x7, x8] t _ := h.set 0 y0
  have h1 : Bx b #[y0, y1, x2, x3, x4, x5, x6, x7, x8] t _ := h0.set 1 y1
  have h2 : Bx b #[y0, y1, y2, x3, x4, x5, x6, x7, x8] t _ := h1.set 2 y2
  have h3 : Bx b #[y0, y1, y2, y3, x4, x5, x6, x7, x8] t _ := h2.set 3 y3
  have h4 : Bx b #[y0, y1, y2, y3, y4, x5, x6, x7, x8] t _ := h3.set 4 y4
  have h5 : Bx b #[y0, y1, y2, y3, y4, y5, x6, x7, x8] t _ := h4.set 5 y5
  have h6 : Bx b #[y0, y1, y2, y3, y4, y5, y6, x7, x8] t _ := h5.set 6 y6
  have h7 : Bx b #[y0, y1, y2, y3, y4, y5, y6, y7, x8] t _ := h6.set 7 y7
  have h8 : Bx b #[y0, y1, y2, y3, y4, y5, y6, y7, y8] t _ := h7.set 8 y8
  exact h8
theorem Bx.cells9 {b : Nat} {x0 x1 x2 x3 x4 x5 x6 x7 x8 : Value} {t : TypeId} {w : World} (h : Bx b #[x0, x1, x2, x3, x4, x5, x6, x7, x8] t w) :
    (w.cell? ⟨b, 0, none⟩ = some x0 ∧ w.cell? ⟨b, 1, none⟩ = some x1 ∧ w.cell? ⟨b, 2, none⟩ = some x2 ∧ w.cell? ⟨b, 3, none⟩ = some x3 ∧ w.cell? ⟨b, 4, none⟩ = some x4 ∧ w.cell? ⟨b, 5, none⟩ = some x5 ∧ w.cell? ⟨b, 6, none⟩ = some x6 ∧ w.cell? ⟨b, 7, none⟩ = some x7 ∧ w.cell? ⟨b, 8, none⟩ = some x8) ∧
    (w.frozen? ⟨b, 0, none⟩ = false ∧ w.frozen? ⟨b, 1, none⟩ = false ∧ w.frozen? ⟨b, 2, none⟩ = false ∧ w.frozen? ⟨b, 3, none⟩ = false ∧ w.frozen? ⟨b, 4, none⟩ = false ∧ w.frozen? ⟨b, 5, none⟩ = false ∧ w.frozen? ⟨b, 6, none⟩ = false ∧ w.frozen? ⟨b, 7, none⟩ = false ∧ w.frozen? ⟨b, 8, none⟩ = false) :=
  ⟨⟨h.cell 0 rfl, h.cell 1 rfl, h.cell 2 rfl, h.cell 3 rfl, h.cell 4 rfl, h.cell 5 rfl, h.cell 6 rfl, h.cell 7 rfl, h.cell 8 rfl⟩, h.free 0, h.free 1, h.free 2, h.free 3, h.free 4, h.free 5, h.free 6, h.free 7, h.free 8⟩
theorem Bx.set3 {b : Nat} {x0 x1 x2 : Value} {t : TypeId} {w : World} (h : Bx b #[x0, x1, x2] t w) (y0 y1 y2 : Value) :
    Bx b #[y0, y1, y2] t (((w.setCell ⟨b, 0, none⟩ y0).setCell ⟨b, 1, none⟩ y1).setCell ⟨b, 2, none⟩ y2) := ((h.set 0 y0).set 1 y1).set 2 y2
theorem Bx.cells3 {b : Nat} {x0 x1 x2 : Value} {t : TypeId} {w : World} (h : Bx b #[x0, x1, x2] t w) :
    (w.cell? ⟨b, 0, none⟩ = some x0 ∧ w.cell? ⟨b, 1, none⟩ = some x1 ∧ w.cell? ⟨b, 2, none⟩ = some x2) ∧ (w.frozen? ⟨b, 0, none⟩ = false ∧ w.frozen? ⟨b, 1, none⟩ = false ∧ w.frozen? ⟨b, 2, none⟩ = false) :=
  ⟨⟨h.cell 0 rfl, h.cell 1 rfl, h.cell 2 rfl⟩, h.free 0, h.free 1, h.free 2⟩
theorem bel_set9 {B b : Nat} {w0 w : World} (h : Below B w0 w) (hb : B ≤ b) (y0 y1 y2 y3 y4 y5 y6 y7 y8 : Value) : Below B w0 (((((((((w.setCell ⟨b, 0, none⟩ y0).setCell ⟨b, 1, none⟩ y1).setCell ⟨b, 2, none⟩ y2).setCell ⟨b, 3, none⟩ y3).setCell ⟨b, 4, none⟩ y4).setCell ⟨b, 5, none⟩ y5).setCell ⟨b, 6, none⟩ y6).setCell ⟨b, 7, none⟩ y7).setCell ⟨b, 8, none⟩ y8) :=
  ((((((((h.setCell hb y0).setCell hb y1).setCell hb y2).setCell hb y3).setCell hb y4).setCell hb y5).setCell hb y6).setCell hb y7).setCell hb y8
theorem bel_set3 {B b : Nat} {w0 w : World} (h : Below B w0 w) (hb : B ≤ b) (y0 y1 y2 : Value) : Below B w0 (((w.setCell ⟨b, 0, none⟩ y0).setCell ⟨b, 1, none⟩ y1).setCell ⟨b, 2, none⟩ y2) :=
  ((h.setCell hb y0).setCell hb y1).setCell hb y2
structure Frm (S : Nat → Prop) (w w' : World) : Prop where
  os : w'.os = w.os
  tape : w'.tape = w.tape
  output : w'.output = w.output
  size : w.heap.size ≤ w'.heap.size
  block : ∀ k, k < w.heap.size → ¬ S k → w'.heap[k]? = w.heap[k]?
theorem Frm.refl (S : Nat → Prop) (w : World) : Frm S w w := ⟨rfl, rfl, rfl, Nat.le_refl _, fun _ _ _ => rfl⟩
theorem Frm.trans {S : Nat → Prop} {a b c : World} (h : Frm S a b) (k : Frm S b c) : Frm S a c :=
  ⟨k.os.trans h.os, k.tape.trans h.tape, k.output.trans h.output, Nat.le_trans h.size k.size, fun i hi hn => (k.block i (Nat.lt_of_lt_of_le hi h.size) hn).trans (h.block i hi hn)⟩
theorem Frm.of_below {S : Nat → Prop} {w w' : World} (h : Below w.heap.size w w') : Frm S w w' := ⟨h.os, h.tape, h.output, h.size, fun k hk _ => h.block k hk⟩
theorem Frm.grown {S : Nat → Prop} {w w' : World} {b : Nat} (h : w.grownBy w' (some b)) (hb : S b) : Frm S w w' :=
  ⟨h.os, h.tape, h.output, h.size, fun k hk hn => h.block k hk (fun e => by injection e with e; exact hn (e ▸ hb))⟩
theorem Frm.mono {S T : Nat → Prop} {w w' : World} (h : Frm S w w') (hT : ∀ k, S k → T k) : Frm T w w' := ⟨h.os, h.tape, h.output, h.size, fun k hk hn => h.block k hk (fun hs => hn (hT k hs))⟩
theorem Frm.below {S : Nat → Prop} {w w' : World} (h : Frm S w w') {B : Nat} (hB : B ≤ w.heap.size) (hS : ∀ k, S k → B ≤ k) : Below B w w' :=
  ⟨h.os, h.tape, h.output, h.size, fun k hk => h.block k (by omega) (fun hs => by have := hS k hs; omega)⟩
theorem Frm.cell {S : Nat → Prop} {w w' : World} (h : Frm S w w') {a : Addr} (h1 : a.block < w.heap.size) (h2 : ¬ S a.block) : w'.cell? a = w.cell? a := World.cell?_of_block (h.block _ h1 h2)
/-! ### all but some blocks stand -/
theorem Frm.mapF {S : Nat → Prop} {β : Type} {e : Elm β} {b n : Nat} {m : List UInt8 → Option β} {w w' : World} (h : Frm S w w') (hm : MapF e w b n m) (h2 : ¬ S b) : MapF e w' b n m := by
  have hl := hm.lt
  obtain ⟨D, ⟨es, clock, hbk, r⟩, k⟩ := hm
  exact ⟨D, ⟨es, clock, (h.block b hl h2).trans hbk, r⟩, k⟩
/-! ### an index -/
def ixV (b1 b2 b3 : Nat) : Value := .agg #[.map (some b1), .map (some b2), .map (some b3)]
structure IxR (b1 b2 b3 n : Nat) (mr ma mu : List UInt8 → Option Bool) (w : World) : Prop where
  r : MapF elmB w b1 n mr
  a : MapF elmB w b2 n ma
  u : MapF elmB w b3 n mu
  d1 : b1 ≠ b2
  d2 : b1 ≠ b3
  d3 : b2 ≠ b3
theorem IxR.frm {b1 b2 b3 n : Nat} {mr ma mu : List UInt8 → Option Bool} {S : Nat → Prop} {w w' : World} (h : IxR b1 b2 b3 n mr ma mu w) (hf : Frm S w w') (h1 : ¬ S b1) (h2 : ¬ S b2) (h3 : ¬ S b3) : IxR b1 b2 b3 n mr ma mu w' :=
  ⟨hf.mapF h.r h1, hf.mapF h.a h2, hf.mapF h.u h3, h.d1, h.d2, h.d3⟩
theorem IxR.below {b1 b2 b3 n : Nat} {mr ma mu : List UInt8 → Option Bool} {w w' : World} (h : IxR b1 b2 b3 n mr ma mu w) (hb : Below w.heap.size w w') : IxR b1 b2 b3 n mr ma mu w' :=
  ⟨h.r.below' hb, h.a.below' hb, h.u.below' hb, h.d1, h.d2, h.d3⟩
/-- the references of fixes, as a map -/
def rfM (l : List Fx) : List UInt8 → Option Bool := fun r => if r ∈ l.map fxRef then some true else none
theorem rfM_nil : rfM [] = fun _ => none := by funext r; simp [rfM]
theorem rfM_snoc (l : List Fx) (f : Fx) : rfM (l ++ [f]) = setK (rfM l) (fxRef f) (some true) := by
  funext r
  unfold setK rfM
  by_cases h : r = fxRef f
  · rw [if_pos h, if_pos (by rw [h]; simp)]
  · rw [if_neg h]
    by_cases h2 : r ∈ l.map fxRef
    · rw [if_pos h2, if_pos (by rw [List.map_append, List.mem_append]; exact .inl h2)]
    · rw [if_neg h2, if_neg (by rw [List.map_append, List.mem_append]; rintro (h3 | h3); exact h2 h3; exact h (by simpa using h3))]
theorem rfM_getD (l : List Fx) (r : List UInt8) : (rfM l r).getD false = decide (r ∈ l.map fxRef) := by
  unfold rfM; split
  · rename_i h; rw [decide_eq_true h]; rfl
  · rename_i h; rw [decide_eq_false h]; rfl
/-! ### an index of a list of fixes -/
def aptB (l : List Fx) (s : List UInt8) : Bool := l.any fun f => f.kd == 5 && decide (f.id = s)
def rwsB (l : List Fx) (r : List UInt8) : Bool := l.any fun f => f.kd == 6 && decide (fxRef f = r)
def rfsB (l : List Fx) (r : List UInt8) : Bool := l.any fun f => decide (fxRef f = r)
def hasB (l : List Fx) (r : List UInt8) : Bool := decide (r = []) || rfsB l r
def bM (p : List UInt8 → Bool) : List UInt8 → Option Bool := fun s => if p s = true then some true else none
theorem bM_getD (p : List UInt8 → Bool) (s : List UInt8) : (bM p s).getD false = p s := by unfold bM; cases h : p s <;> simp
theorem bM_more {p q : List UInt8 → Bool} {r : List UInt8} (h : ∀ s, p s = (q s || decide (r = s))) : bM p = setK (bM q) r (some true) := by
  funext s
  unfold bM setK
  rw [h s]
  by_cases h1 : s = r
  · rw [if_pos h1, if_pos (by rw [h1]; simp)]
  · rw [if_neg h1]
    have h2 : decide (r = s) = false := decide_eq_false fun e => h1 e.symm
    rw [h2, Bool.or_false]
theorem rfs_snoc (l : List Fx) (f : Fx) : bM (rfsB (l ++ [f])) = setK (bM (rfsB l)) (fxRef f) (some true) := bM_more fun s => by unfold rfsB; rw [List.any_append]; simp
theorem apt_snoc5 (l : List Fx) (f : Fx) (h : f.kd = 5) : bM (aptB (l ++ [f])) = setK (bM (aptB l)) f.id (some true) := bM_more fun s => by unfold aptB; rw [List.any_append]; simp [h]
theorem apt_snoc (l : List Fx) (f : Fx) (h : f.kd ≠ 5) : bM (aptB (l ++ [f])) = bM (aptB l) := by
  have : aptB (l ++ [f]) = aptB l := by funext s; unfold aptB; rw [List.any_append]; simp [h]
  rw [this]
theorem rws_snoc6 (l : List Fx) (f : Fx) (h : f.kd = 6) : bM (rwsB (l ++ [f])) = setK (bM (rwsB l)) (fxRef f) (some true) := bM_more fun s => by unfold rwsB; rw [List.any_append]; simp [h]
theorem rws_snoc (l : List Fx) (f : Fx) (h : f.kd ≠ 6) : bM (rwsB (l ++ [f])) = bM (rwsB l) := by
  have : rwsB (l ++ [f]) = rwsB l := by funext s; unfold rwsB; rw [List.any_append]; simp [h]
  rw [this]
theorem MapF.lookB {w : World} {b n : Nat} {p : List UInt8 → Bool} {r : List UInt8} {v : Bool} (h : MapF elmB w b n (bM p)) (hr : r.length ≤ maxLen) (hv : p r = v) :
    (Instr.lookup 91 (.map (some b)) (.string (sb r)) false).run Tryz.prog w = .ok (.bool v) w := by
  have h1 := h.get Tryz.underlying91 false (zeroB w) (s := sb r) hr
  rw [bl_sb, bM_getD, hv] at h1
  exact h1
def IxL (b1 b2 b3 : Nat) (l : List Fx) (w : World) : Prop := IxR b1 b2 b3 l.length (bM (rfsB l)) (bM (aptB l)) (bM (rwsB l)) w
theorem IxL.below {b1 b2 b3 : Nat} {l : List Fx} {w w' : World} (h : IxL b1 b2 b3 l w) (hb : Below w.heap.size w w') : IxL b1 b2 b3 l w' := IxR.below h hb
theorem IxL.frm {b1 b2 b3 : Nat} {l : List Fx} {S : Nat → Prop} {w w' : World} (h : IxL b1 b2 b3 l w) (hf : Frm S w w') (h1 : ¬ S b1) (h2 : ¬ S b2) (h3 : ¬ S b3) : IxL b1 b2 b3 l w' := IxR.frm h hf h1 h2 h3
theorem IxL.lt {b1 b2 b3 : Nat} {l : List Fx} {w : World} (h : IxL b1 b2 b3 l w) : b1 < w.heap.size ∧ b2 < w.heap.size ∧ b3 < w.heap.size := ⟨h.r.lt, h.a.lt, h.u.lt⟩
end Go.Proofs.YtgmehlgfilpleaaGreatDoor
namespace Go.Proofs.YtgmehlgfilpleaaGreatDoor
open Go.RowKit Go.Lib
set_option linter.unusedVariables false
set_option linter.unusedSimpArgs false
def cyc26 : List UInt8 := [50, 54, 49, 50]
theorem cd26 : cdE 2612 = 0 ∧ cdF 2612 = 9826 ∧ cdT 2612 = 9854 := by decide +kernel
theorem cycleDays_26 (w : World) : Calls Tryz.prog 119 #[.int .i64 2612] w fun e w' => e = .returned (.tuple #[.int .i64 9826, .int .i64 9854, .int .i64 0]) ∧ w = w' := by
  have h := cycleDays_any 2612 w
  rw [cd26.1, cd26.2.1, cd26.2.2] at h
  exact h
theorem parseCycle_26 (w : World) : Calls Tryz.prog 258 #[.string (sb cyc26)] w fun e w' => e = .returned (.tuple #[.int .i64 2612, .int .i64 0]) ∧ w = w' := by
  go_enter Tryz.func258, Tryz.ntmps258
  go_wp2_with fail
  refine (cnumber_any (sb cyc26) _ (by decide)).mono ?_
  rintro e w1 ⟨rfl, rfl⟩
  rw [bl_sb, show cyc26.all digC = true by decide, show numV cyc26 = 2612 by decide]
  have hsz : (sb cyc26).size = 4 := rfl
  go_wp2_with fail
  refine (cycleDays_26 _).mono ?_
  rintro e w1 ⟨rfl, rfl⟩
  go_wp2
  go_ret2
  exact ⟨rfl, rfl⟩
end Go.Proofs.YtgmehlgfilpleaaGreatDoor
namespace Go.Proofs.YtgmehlgfilpleaaGreatDoor
open Go.RowKit Go.Lib Go.Sort
set_option linter.unusedVariables false
set_option linter.unusedSimpArgs false
theorem stableZ_fix (A : Option Addr) (cap : Nat) (fv : Value) (w : World) : Calls Tryz.prog 193 #[.slice A 0 cap, fv] w fun e w' => e = .returned (.tuple #[]) ∧ w' = w := by
  have h1 : ∀ w, Calls Tryz.prog 338 #[.slice A 0 cap, .int .i64 0, .int .i64 0, fv] w fun e w' => e = .returned (.tuple #[]) ∧ w' = w := by
    intro w
    go_enter Tryz.func338, Tryz.ntmps338
    go_wp2
    go_loopg [8] 0 (fun g i wr => i = .int .i64 1 ∧ wr = w)
    case atStart => exact ⟨rfl, rfl⟩
    case round =>
      obtain ⟨rfl, hw⟩ := hrel
      have HW := Lib.hid hw
      clear hw
      go_wp2
      go_end0
      exact ⟨rfl, HW.out⟩
  have h2 : ∀ w, Calls Tryz.prog 270 #[.slice A 0 cap, .int .i64 0, fv] w fun e w' => e = .returned (.tuple #[]) ∧ w' = w := by
    intro w
    go_enter Tryz.func270, Tryz.ntmps270
    go_wp2
    go_loopg [7, 8] 0 (fun g a b wr => a = .int .i64 0 ∧ b = .int .i64 20 ∧ wr = w)
    case atStart => exact ⟨rfl, rfl, rfl⟩
    case round =>
      obtain ⟨rfl, rfl, hw⟩ := hrel
      have HW := Lib.hid hw
      clear hw
      go_wp2_with fail
      refine (h1 _).mono ?_
      rintro e w2 ⟨rfl, hw2⟩
      have HW2 : Hid (w2 = w) := hw2.trans HW.out
      clear hw2
      go_wp2
      go_loopg [6] 0 (fun g a wr => a = .int .i64 20 ∧ wr = w)
      case atStart => exact ⟨rfl, HW2.out⟩
      case round =>
        obtain ⟨rfl, hw⟩ := hrel
        have HW := Lib.hid hw
        clear hw
        go_wp2
        go_end0
        exact ⟨rfl, HW.out⟩
  go_enter Tryz.func193, Tryz.ntmps193
  go_wp2_with fail
  refine (h2 _).mono ?_
  rintro e w2 ⟨rfl, rfl⟩
  go_wp2
  go_end0
  exact ⟨rfl, rfl⟩
theorem stableZ_air (A : Option Addr) (cap : Nat) (fv : Value) (w : World) : Calls Tryz.prog 116 #[.slice A 0 cap, fv] w fun e w' => e = .returned (.tuple #[]) ∧ w' = w := by
  have h1 : ∀ w, Calls Tryz.prog 271 #[.slice A 0 cap, .int .i64 0, .int .i64 0, fv] w fun e w' => e = .returned (.tuple #[]) ∧ w' = w := by
    intro w
    go_enter Tryz.func271, Tryz.ntmps271
    go_wp2
    go_loopg [8] 0 (fun g i wr => i = .int .i64 1 ∧ wr = w)
    case atStart => exact ⟨rfl, rfl⟩
    case round =>
      obtain ⟨rfl, hw⟩ := hrel
      have HW := Lib.hid hw
      clear hw
      go_wp2
      go_end0
      exact ⟨rfl, HW.out⟩
  have h2 : ∀ w, Calls Tryz.prog 195 #[.slice A 0 cap, .int .i64 0, fv] w fun e w' => e = .returned (.tuple #[]) ∧ w' = w := by
    intro w
    go_enter Tryz.func195, Tryz.ntmps195
    go_wp2
    go_loopg [7, 8] 0 (fun g a b wr => a = .int .i64 0 ∧ b = .int .i64 20 ∧ wr = w)
    case atStart => exact ⟨rfl, rfl, rfl⟩
    case round =>
      obtain ⟨rfl, rfl, hw⟩ := hrel
      have HW := Lib.hid hw
      clear hw
      go_wp2_with fail
      refine (h1 _).mono ?_
      rintro e w2 ⟨rfl, hw2⟩
      have HW2 : Hid (w2 = w) := hw2.trans HW.out
      clear hw2
      go_wp2
      go_loopg [6] 0 (fun g a wr => a = .int .i64 20 ∧ wr = w)
      case atStart => exact ⟨rfl, HW2.out⟩
      case round =>
        obtain ⟨rfl, hw⟩ := hrel
        have HW := Lib.hid hw
        clear hw
        go_wp2
        go_end0
        exact ⟨rfl, HW.out⟩
  go_enter Tryz.func116, Tryz.ntmps116
  go_wp2_with fail
  refine (h2 _).mono ?_
  rintro e w2 ⟨rfl, rfl⟩
  go_wp2
  go_end0
  exact ⟨rfl, rfl⟩
theorem stableZ_proc (A : Option Addr) (cap : Nat) (fv : Value) (w : World) : Calls Tryz.prog 118 #[.slice A 0 cap, fv] w fun e w' => e = .returned (.tuple #[]) ∧ w' = w := by
  have h1 : ∀ w, Calls Tryz.prog 273 #[.slice A 0 cap, .int .i64 0, .int .i64 0, fv] w fun e w' => e = .returned (.tuple #[]) ∧ w' = w := by
    intro w
    go_enter Tryz.func273, Tryz.ntmps273
    go_wp2
    go_loopg [8] 0 (fun g i wr => i = .int .i64 1 ∧ wr = w)
    case atStart => exact ⟨rfl, rfl⟩
    case round =>
      obtain ⟨rfl, hw⟩ := hrel
      have HW := Lib.hid hw
      clear hw
      go_wp2
      go_end0
      exact ⟨rfl, HW.out⟩
  have h2 : ∀ w, Calls Tryz.prog 196 #[.slice A 0 cap, .int .i64 0, fv] w fun e w' => e = .returned (.tuple #[]) ∧ w' = w := by
    intro w
    go_enter Tryz.func196, Tryz.ntmps196
    go_wp2
    go_loopg [7, 8] 0 (fun g a b wr => a = .int .i64 0 ∧ b = .int .i64 20 ∧ wr = w)
    case atStart => exact ⟨rfl, rfl, rfl⟩
    case round =>
      obtain ⟨rfl, rfl, hw⟩ := hrel
      have HW := Lib.hid hw
      clear hw
      go_wp2_with fail
      refine (h1 _).mono ?_
      rintro e w2 ⟨rfl, hw2⟩
      have HW2 : Hid (w2 = w) := hw2.trans HW.out
      clear hw2
      go_wp2
      go_loopg [6] 0 (fun g a wr => a = .int .i64 20 ∧ wr = w)
      case atStart => exact ⟨rfl, HW2.out⟩
      case round =>
        obtain ⟨rfl, hw⟩ := hrel
        have HW := Lib.hid hw
        clear hw
        go_wp2
        go_end0
        exact ⟨rfl, HW.out⟩
  go_enter Tryz.func118, Tryz.ntmps118
  go_wp2_with fail
  refine (h2 _).mono ?_
  rintro e w2 ⟨rfl, rfl⟩
  go_wp2
  go_end0
  exact ⟨rfl, rfl⟩
theorem cloneZ_fix (w : World) : Calls Tryz.prog 192 #[.slice none 0 0] w fun e w' => e = .returned (.slice none 0 0) ∧ w' = w := by
  have hnil : ∀ W, (binOp .eql 26 (.slice none 0 0) (.slice none 0 0)).run Tryz.prog W = .ok (.bool true) W := fun W => Lib.run_eql_slice_nil W _ _ _ _ _ _ _ Tryz.underlying26
  go_enter Tryz.func192, Tryz.ntmps192
  go_wp2
  go_ret
  exact ⟨rfl, rfl⟩
theorem sortZ_fix (w : World) : Calls Tryz.prog 115 #[.slice none 0 0] w fun e w' => e = .returned (.slice none 0 0) ∧ w' = w := by
  go_enter Tryz.func115, Tryz.ntmps115
  go_wp2_with fail
  refine (cloneZ_fix _).mono ?_
  rintro e w1 ⟨rfl, rfl⟩
  go_wp2_with fail
  refine (stableZ_fix none 0 _ _).mono ?_
  rintro e w1 ⟨rfl, rfl⟩
  go_wp2
  go_ret
  exact ⟨rfl, rfl⟩
end Go.Proofs.YtgmehlgfilpleaaGreatDoor
namespace Go.Proofs.YtgmehlgfilpleaaGreatDoor
open Go.RowKit
set_option maxRecDepth 4000
set_option linter.unusedVariables false
set_option linter.unusedSimpArgs false
theorem mk4 : ∀ w : World, (Instr.makeSlice 68 (.int .i64 4) (.int .i64 4)).run Tryz.prog w = .ok (.slice (some ⟨w.heap.size, 0, none⟩) 4 4) (w.alloc (.cells #[.int .u8 0, .int .u8 0, .int .u8 0, .int .u8 0] 5)) := fun w => by
  have h := run_make_row' (P := Tryz.prog) 68 5 (.int .u8 0) 1 Tryz.underlying68 (by kernel_rfl) rfl .i64 .i64 4 (by omega) (by omega) w
  have e : madeCells #[Value.int .u8 0] 4 = #[.int .u8 0, .int .u8 0, .int .u8 0, .int .u8 0] := by kernel_rfl
  rw [e] at h
  exact h
set_option maxHeartbeats 4000000 in
theorem digits_26 (w : World) : Calls Tryz.prog 169 #[.int .i64 2612, .int .i64 4] w fun e w' => e = .returned (.string (sb cyc26)) ∧ Below w.heap.size w w' := by
  have hmk := mk4
  obtain ⟨w1, hw1⟩ : ∃ W, w.alloc (.cells #[.int .u8 0, .int .u8 0, .int .u8 0, .int .u8 0] 5) = W := ⟨_, rfl⟩
  have B1 : Hid (Below w.heap.size w w1) := by rw [← hw1]; exact (Below.refl _ _).alloc (Nat.le_refl _) _
  have X1 : Hid (Bx w.heap.size #[.int .u8 0, .int .u8 0, .int .u8 0, .int .u8 0] 5 w1) := by rw [← hw1]; exact Bx.last w _ _
  have HW1 := Lib.hid hw1
  clear hw1
  go_enter Tryz.func169, Tryz.ntmps169
  go_wp2_with fail
  rw [HW1.out]
  clear HW1 hmk
  go_loopw [0, 6] (fun nv iv wr => Hid (Below w.heap.size w wr) ∧ ((iv = .int .i64 3 ∧ nv = .int .i64 2612 ∧ Hid (Bx w.heap.size #[.int .u8 0, .int .u8 0, .int .u8 0, .int .u8 0] 5 wr)) ∨
    (iv = .int .i64 2 ∧ nv = .int .i64 261 ∧ Hid (Bx w.heap.size #[.int .u8 0, .int .u8 0, .int .u8 0, .int .u8 50] 5 wr)) ∨
    (iv = .int .i64 1 ∧ nv = .int .i64 26 ∧ Hid (Bx w.heap.size #[.int .u8 0, .int .u8 0, .int .u8 49, .int .u8 50] 5 wr)) ∨
    (iv = .int .i64 0 ∧ nv = .int .i64 2 ∧ Hid (Bx w.heap.size #[.int .u8 0, .int .u8 54, .int .u8 49, .int .u8 50] 5 wr)) ∨
    (iv = .int .i64 (-1) ∧ nv = .int .i64 0 ∧ Hid (Bx w.heap.size #[.int .u8 50, .int .u8 54, .int .u8 49, .int .u8 50] 5 wr)))) (fun _ iv _ => (intOf iv + 1).toNat)
  case atStart => exact ⟨B1, .inl ⟨rfl, rfl, X1⟩⟩
  case round =>
    obtain ⟨hb, ⟨rfl, rfl, hx⟩ | ⟨rfl, rfl, hx⟩ | ⟨rfl, rfl, hx⟩ | ⟨rfl, rfl, hx⟩ | ⟨rfl, rfl, hx⟩⟩ := hrel
    · have k := hx.out.cell 3 (u := .int .u8 0) rfl
      have f := hx.out.free 3
      have kl := hx.out.lt
      have hx2 : Hid (Bx w.heap.size #[.int .u8 0, .int .u8 0, .int .u8 0, .int .u8 50] 5 (wr.setCell ⟨w.heap.size, 3, none⟩ (.int .u8 50))) := hx.out.set 3 _
      have hb2 := Lib.hid (hb.out.setCell (p := ⟨w.heap.size, 3, none⟩) (Nat.le_refl _) (.int .u8 50))
      go_wp2
      go_roundw
      case rel => exact ⟨hb2, .inr (.inl ⟨rfl, rfl, hx2⟩)⟩
      case measure => simp [intOf]
    · have k := hx.out.cell 2 (u := .int .u8 0) rfl
      have f := hx.out.free 2
      have kl := hx.out.lt
      have hx2 : Hid (Bx w.heap.size #[.int .u8 0, .int .u8 0, .int .u8 49, .int .u8 50] 5 (wr.setCell ⟨w.heap.size, 2, none⟩ (.int .u8 49))) := hx.out.set 2 _
      have hb2 := Lib.hid (hb.out.setCell (p := ⟨w.heap.size, 2, none⟩) (Nat.le_refl _) (.int .u8 49))
      go_wp2
      go_roundw
      case rel => exact ⟨hb2, .inr (.inr (.inl ⟨rfl, rfl, hx2⟩))⟩
      case measure => simp [intOf]
    · have k := hx.out.cell 1 (u := .int .u8 0) rfl
      have f := hx.out.free 1
      have kl := hx.out.lt
      have hx2 : Hid (Bx w.heap.size #[.int .u8 0, .int .u8 54, .int .u8 49, .int .u8 50] 5 (wr.setCell ⟨w.heap.size, 1, none⟩ (.int .u8 54))) := hx.out.set 1 _
      have hb2 := Lib.hid (hb.out.setCell (p := ⟨w.heap.size, 1, none⟩) (Nat.le_refl _) (.int .u8 54))
      go_wp2
      go_roundw
      case rel => exact ⟨hb2, .inr (.inr (.inr (.inl ⟨rfl, rfl, hx2⟩)))⟩
      case measure => simp [intOf]
    · have k := hx.out.cell 0 (u := .int .u8 0) rfl
      have f := hx.out.free 0
      have kl := hx.out.lt
      have hx2 : Hid (Bx w.heap.size #[.int .u8 50, .int .u8 54, .int .u8 49, .int .u8 50] 5 (wr.setCell ⟨w.heap.size, 0, none⟩ (.int .u8 50))) := hx.out.set 0 _
      have hb2 := Lib.hid (hb.out.setCell (p := ⟨w.heap.size, 0, none⟩) (Nat.le_refl _) (.int .u8 50))
      go_wp2
      go_roundw
      case rel => exact ⟨hb2, .inr (.inr (.inr (.inr ⟨rfl, rfl, hx2⟩)))⟩
      case measure => simp [intOf]
    · have k0 := hx.out.cell 0 (u := .int .u8 50) rfl
      have k1 := hx.out.cell 1 (u := .int .u8 54) rfl
      have k2 := hx.out.cell 2 (u := .int .u8 49) rfl
      have k3 := hx.out.cell 3 (u := .int .u8 50) rfl
      have hcv : (convert 68 9 (.slice (some ⟨w.heap.size, 0, none⟩) 4 4)).run Tryz.prog wr = .ok (.string (sb cyc26)) wr := by
        refine (run_convert_bytes_string wr _ _ _ _ _ _ Tryz.underlying68 Tryz.underlying5 Tryz.underlying9).trans ?_
        have hl := run_loadCells_list (P := Tryz.prog) (w := wr) ⟨w.heap.size, 0, none⟩ [.int .u8 50, .int .u8 54, .int .u8 49, .int .u8 50] (fun j v hv => by
          have hadd : (⟨w.heap.size, 0, none⟩ : Addr).add j = ⟨w.heap.size, j, none⟩ := by unfold Addr.add; split <;> simp_all
          rw [hadd]; exact hx.out.cell j (by simpa using hv))
        rw [run_bytesToString wr _ 4 4 [50, 54, 49, 50] hl]; rfl
      go_wp2
      go_ret
      exact ⟨rfl, hb.out⟩
theorem cycleText_26 (w : World) : Calls Tryz.prog 105 #[.int .i64 2612] w fun e w' => e = .returned (.tuple #[.string (sb cyc26), .int .i64 0]) ∧ Below w.heap.size w w' := by
  go_enter Tryz.func105, Tryz.ntmps105
  go_wp2_with fail
  refine (cycleDays_26 _).mono ?_
  rintro e w1 ⟨rfl, rfl⟩
  go_wp2_with fail
  refine (digits_26 _).mono ?_
  rintro e w1 ⟨rfl, hb⟩
  have HB := Lib.hid hb
  clear hb
  go_wp2
  go_ret2
  exact ⟨rfl, HB.out⟩
end Go.Proofs.YtgmehlgfilpleaaGreatDoor
