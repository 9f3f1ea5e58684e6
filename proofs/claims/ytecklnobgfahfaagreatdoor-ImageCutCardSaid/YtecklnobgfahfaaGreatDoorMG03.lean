/-
  Several texts as one.
  Plain: the place and the flag of a reader of images, byte by byte, and what it reads (the program and the reference alike).
  Blocks of a call's own, and frames: which blocks a call leaves as they stand.
  A reader of images in memory: the program's and the reference's.
  Contracts: the checksum of bytes, bit by bit (the program's and the reference's).
  Contracts: a stable sort of no fixes, airways or procedures; fix.Sort of no fixes.
-/
import Derived.Laws.BitsAllLaws
import Derived.Test.YtecklnobgfahfaaGreatDoorMG09
import Derived.Lib.SliceRun
import Derived.Deep.LoopGhost
namespace Go.Proofs.YtecklnobgfahfaaGreatDoor
set_option linter.unusedVariables false
set_option linter.unusedSimpArgs false
/-- the place and the flag of a reader -/
abbrev RS := Nat × Bool
def tkS (st n : Nat) (s : RS) : RS := if s.2 = true ∨ st - s.1 < n then (s.1, true) else (s.1 + n, false)
def tkV (bs : List UInt8) (st n : Nat) (s : RS) : List UInt8 := if s.2 = true ∨ st - s.1 < n then [] else (bs.drop s.1).take n
def byV (bs : List UInt8) (st : Nat) (s : RS) : UInt8 := (tkV bs st 1 s).headD 0
def loN : List UInt8 → Nat
  | [] => 0
  | b :: t => b.toNat + 256 * loN t
def n8V (bs : List UInt8) (st : Nat) (s : RS) : Int := IntKind.i64.wrap (loN (tkV bs st 8 s))
def txS (bs : List UInt8) (st : Nat) (s : RS) : RS := tkS st (byV bs st s).toNat (tkS st 1 s)
def txV (bs : List UInt8) (st : Nat) (s : RS) : List UInt8 := tkV bs st (byV bs st s).toNat (tkS st 1 s)
def n8S (st : Nat) (s : RS) : RS := tkS st 8 s
def fiS (bs : List UInt8) (st : Nat) (s : RS) : RS := n8S st (n8S st (n8S st (n8S st (tkS st 1 (txS bs st (txS bs st s))))))
def ptS (bs : List UInt8) (st : Nat) (s : RS) : RS := tkS st 1 (n8S st (n8S st (txS bs st s)))
def ovS (bs : List UInt8) (st : Nat) (s : RS) : RS := if 1 < (byV bs st s).toNat then ((tkS st 1 s).1, true) else tkS st 1 s
def n8x (st : Nat) : Nat → RS → RS
  | 0, s => s
  | k + 1, s => n8x st k (n8S st s)
def leS (bs : List UInt8) (st : Nat) (s : RS) : RS := n8x st 8 (ovS bs st (tkS st 1 (txS bs st (txS bs st (tkS st 1 s)))))
def itS (one : RS → RS) : Nat → RS → RS
  | 0, s => s
  | n + 1, s => if s.2 = true then s else itS one n (one s)
def lsN (bs : List UInt8) (st : Nat) (s : RS) : Nat := loN (tkV bs st 2 s)
def lsS (bs : List UInt8) (st : Nat) (one : RS → RS) (s : RS) : RS := itS one (lsN bs st s) (tkS st 2 s)
def awS (bs : List UInt8) (st : Nat) (s : RS) : RS := lsS bs st (ptS bs st) (txS bs st s)
def imPaS (bs : List UInt8) (st : Nat) (s : RS) : RS := lsS bs st (leS bs st) (txS bs st (tkS st 1 s))
def prS (bs : List UInt8) (st : Nat) (s : RS) : RS := lsS bs st (imPaS bs st) (tkS st 1 (txS bs st (txS bs st s)))
def hdS (bs : List UInt8) (st : Nat) (s : RS) : RS := n8x st 5 (txS bs st s)
structure ImHd where
  nm : List UInt8
  cy : Int
  fr : Int
  tu : Int
  la : Int
  lo : Int
def hd0 : ImHd := ⟨[], 0, 0, 0, 0, 0⟩
def hdV (bs : List UInt8) (st : Nat) (s : RS) : ImHd := ⟨txV bs st s, n8V bs st (txS bs st s), n8V bs st (n8x st 1 (txS bs st s)), n8V bs st (n8x st 2 (txS bs st s)), n8V bs st (n8x st 3 (txS bs st s)), n8V bs st (n8x st 4 (txS bs st s))⟩
def secS (bs : List UInt8) (st tag : Nat) (s : RS) : RS :=
  if tag = 1 then hdS bs st s else if tag = 2 then lsS bs st (fiS bs st) s else if tag = 3 then lsS bs st (awS bs st) s else lsS bs st (prS bs st) s
def secN (bs : List UInt8) (st tag : Nat) (s : RS) : Nat := if tag = 1 then 1 else lsN bs st s
/-- a section: tag, offset, length, count -/
abbrev Sec := Nat × Nat × Nat × Nat
def rdG (bs : List UInt8) : Nat → Nat → Nat → Option (List Sec)
  | 0, _, a => if a = bs.length then some [] else none
  | k + 1, tag, a =>
    if (tkS bs.length 4 (tkS bs.length 1 (a, false))).2 = true ∨ (byV bs bs.length (a, false)).toNat ≠ tag ∨ bs.length - (a + 5) < loN (tkV bs bs.length 4 (a + 1, false)) then none
    else if (secS bs (a + 5 + loN (tkV bs bs.length 4 (a + 1, false))) tag (a + 5, false)).2 = true ∨ (secS bs (a + 5 + loN (tkV bs bs.length 4 (a + 1, false))) tag (a + 5, false)).1 ≠ a + 5 + loN (tkV bs bs.length 4 (a + 1, false)) then none
    else (rdG bs k (tag + 1) (a + 5 + loN (tkV bs bs.length 4 (a + 1, false)))).map ((tag, a + 5, loN (tkV bs bs.length 4 (a + 1, false)), secN bs (a + 5 + loN (tkV bs bs.length 4 (a + 1, false))) tag (a + 5, false)) :: ·)
def magicL : List UInt8 := [70, 68, 66, 49]
def imHdF (bs : List UInt8) : ImHd := hdV bs (9 + loN (tkV bs bs.length 4 (5, false))) (9, false)
/-- the header and the sections of the bytes ahead of the checksum -/
def rdF (bs : List UInt8) : Option (ImHd × List Sec) := if bs.take 4 = magicL then (rdG bs 4 1 4).map fun l => (imHdF bs, l) else none
theorem tkS_bad {st n : Nat} {s : RS} (h : s.2 = true) : tkS st n s = s := by
  unfold tkS; rw [if_pos (.inl h)]; obtain ⟨a, b⟩ := s; cases h; rfl
theorem tkS_no {st n a : Nat} {b : Bool} (h : b = true ∨ st - a < n) : tkS st n (a, b) = (a, true) := by unfold tkS; rw [if_pos h]
theorem tkS_yes {st n a : Nat} (h : ¬ st - a < n) : tkS st n (a, false) = (a + n, false) := by unfold tkS; rw [if_neg (by simpa using h)]
theorem tkV_no {bs : List UInt8} {st n a : Nat} {b : Bool} (h : b = true ∨ st - a < n) : tkV bs st n (a, b) = [] := by unfold tkV; rw [if_pos h]
theorem tkV_yes {bs : List UInt8} {st n a : Nat} (h : ¬ st - a < n) : tkV bs st n (a, false) = (bs.drop a).take n := by unfold tkV; rw [if_neg (by simpa using h)]
theorem tkV_len {bs : List UInt8} {st n : Nat} {s : RS} : (tkV bs st n s).length ≤ n := by
  unfold tkV; split
  · simp
  · rw [List.length_take]; omega
theorem itS_bad {one : RS → RS} {n : Nat} {s : RS} (h : s.2 = true) : itS one n s = s := by
  cases n with
  | zero => rfl
  | succ n => unfold itS; rw [if_pos h]
theorem itS_more {one : RS → RS} {n : Nat} {a : Nat} : itS one (n + 1) (a, false) = itS one n (one (a, false)) := by
  conv => lhs; unfold itS
  rw [if_neg (by simp)]
theorem loN_lt : ∀ (l : List UInt8), loN l < 256 ^ l.length
  | [] => by simp [loN]
  | b :: t => by
    have h1 := b.toNat_lt
    have h2 := loN_lt t
    show b.toNat + 256 * loN t < 256 ^ (t.length + 1)
    rw [Nat.pow_succ]; omega
theorem loN_snoc (l : List UInt8) (b : UInt8) : loN (l ++ [b]) = loN l + b.toNat * 256 ^ l.length := by
  induction l with
  | nil => simp [loN]
  | cons c l ih =>
    show c.toNat + 256 * loN (l ++ [b]) = c.toNat + 256 * loN l + b.toNat * 256 ^ (l.length + 1)
    rw [ih, Nat.pow_succ, Nat.mul_add]
    rw [show 256 * (b.toNat * 256 ^ l.length) = b.toNat * (256 ^ l.length * 256) by rw [Nat.mul_left_comm, Nat.mul_comm 256]]
    omega
theorem lsN_lt {bs : List UInt8} {st : Nat} {s : RS} : lsN bs st s < 65536 := by
  have h1 := loN_lt (tkV bs st 2 s)
  have h2 : (tkV bs st 2 s).length ≤ 2 := tkV_len
  unfold lsN
  have : 256 ^ (tkV bs st 2 s).length ≤ 256 ^ 2 := Nat.pow_le_pow_right (by omega) h2
  omega
theorem rdG_more {bs : List UInt8} {k tag a n : Nat} (h0 : ¬ (tkS bs.length 4 (tkS bs.length 1 (a, false))).2 = true) (h1 : (byV bs bs.length (a, false)).toNat = tag) (hn : loN (tkV bs bs.length 4 (a + 1, false)) = n) (h2 : ¬ bs.length - (a + 5) < n)
    (h3 : ¬ (secS bs (a + 5 + n) tag (a + 5, false)).2 = true) (h4 : (secS bs (a + 5 + n) tag (a + 5, false)).1 = a + 5 + n) :
    rdG bs (k + 1) tag a = (rdG bs k (tag + 1) (a + 5 + n)).map ((tag, a + 5, n, secN bs (a + 5 + n) tag (a + 5, false)) :: ·) := by
  subst hn
  conv => lhs; unfold rdG
  rw [if_neg (by simp only [not_or]; exact ⟨h0, by simpa using h1, h2⟩), if_neg (by simp only [not_or]; exact ⟨h3, by simpa using h4⟩)]
theorem rdG_form {bs : List UInt8} {k tag a : Nat} (h : (tkS bs.length 4 (tkS bs.length 1 (a, false))).2 = true ∨ (byV bs bs.length (a, false)).toNat ≠ tag ∨ bs.length - (a + 5) < loN (tkV bs bs.length 4 (a + 1, false))) : rdG bs (k + 1) tag a = none := by
  conv => lhs; unfold rdG
  rw [if_pos h]
theorem rdG_sec {bs : List UInt8} {k tag a n : Nat} (hn : loN (tkV bs bs.length 4 (a + 1, false)) = n) (h : (secS bs (a + 5 + n) tag (a + 5, false)).2 = true ∨ (secS bs (a + 5 + n) tag (a + 5, false)).1 ≠ a + 5 + n) : rdG bs (k + 1) tag a = none := by
  subst hn
  conv => lhs; unfold rdG
  split
  · rfl
  · first | rfl | (rw [if_pos h])
end Go.Proofs.YtecklnobgfahfaaGreatDoor
namespace Go.Proofs.YtecklnobgfahfaaGreatDoor
open Go.RowKit
set_option linter.unusedVariables false
set_option linter.unusedSimpArgs false
/-- a block of the call's own, whole -/
def Bx (b : Nat) (cs : Array Value) (t : TypeId) (w : World) : Prop := w.heap[b]? = some (.cells cs t (0, 0))
theorem Bx.lt {b : Nat} {cs : Array Value} {t : TypeId} {w : World} (h : Bx b cs t w) : b < w.heap.size := lt_heap h
theorem Bx.via {b : Nat} {cs : Array Value} {t : TypeId} {T wa : World} (hb : Below T.heap.size T wa) (h : Bx b cs t T) : Bx b cs t wa := (hb.block b h.lt).trans h
theorem Bx.last (T : World) (cs : Array Value) (t : TypeId) : Bx T.heap.size cs t (T.alloc (.cells cs t)) := heap_alloc_new T _
theorem Bx.set {b : Nat} {cs : Array Value} {t : TypeId} {w : World} (h : Bx b cs t w) (j : Nat) (u : Value) : Bx b (cs.setIfInBounds j u) t (w.setCell ⟨b, j, none⟩ u) := heap_setCell_same w b j cs t u h
theorem Bx.cell {b : Nat} {cs : Array Value} {t : TypeId} {w : World} (h : Bx b cs t w) (j : Nat) {u : Value} (hu : cs[j]? = some u) : w.cell? ⟨b, j, none⟩ = some u := blkCell' h j hu
theorem Bx.free {b : Nat} {cs : Array Value} {t : TypeId} {w : World} (h : Bx b cs t w) (j : Nat) : w.frozen? ⟨b, j, none⟩ = false := frozen_of_row w b j cs t h
theorem Bx.grow {b : Nat} {cs : Array Value} {t : TypeId} {T : World} (h : Bx b cs t T) (o : Obj) : Bx b cs t (T.alloc o) := h.via ((Below.refl _ T).alloc (Nat.le_refl _) o)
theorem Bx.drew {b : Nat} {cs : Array Value} {t : TypeId} {T : World} (h : Bx b cs t T) : Bx b cs t T.drew := h
theorem Bx.last2 (T : World) (o : Obj) (cs : Array Value) (t : TypeId) : Bx (T.heap.size + 1) cs t ((T.alloc o).alloc (.cells cs t)) := by
  have := Bx.last (T.alloc o) cs t
  rw [World.size_alloc] at this
  exact this
theorem Bx.set9 {b : Nat} {x0 x1 x2 x3 x4 x5 x6 x7 x8 : Value} {t : TypeId} {w : World} (h : Bx b #[x0, x1, x2, x3, x4, x5, x6, x7, x8] t w) (y0 y1 y2 y3 y4 y5 y6 y7 y8 : Value) :
    Bx b #[y0, y1, y2, y3, y4, y5, y6, y7, y8] t (((((((((w.setCell ⟨b, 0, none⟩ y0).setCell ⟨b, 1, none⟩ y1).setCell ⟨b, 2, none⟩ y2).setCell ⟨b, 3, none⟩ y3).setCell ⟨b, 4, none⟩ y4).setCell ⟨b, 5, none⟩ y5).setCell ⟨b, 6, none⟩ y6).setCell ⟨b, 7, none⟩ y7).setCell ⟨b, 8, none⟩ y8) := by
  have h0 : Bx b #[y0, x1, x2, x3, x4, x5, x6, x7, x8] t _ := h.set 0 y0
  have h1 : Bx b #[y0, y1, x2, x3, x4, x5, x6, x7, x8] t _ := h0.set 1 y1
  have h2 : Bx b #[y0, y1, y2, x3, x4, x5, x6, x7, x8] t _ := h1.set 2 y2
  have h3 : Bx b #[y0, y1, y2, y3, x4, x5, x6, x7, x8] t _ := h2.set 3 y3
  have h4 : Bx b #[y0, y1, y2, y3, y4, x5, x6, x7, x8] t _ := h3.set 4 y4
  have h5 : Bx b #[y0, y1, y2, y3, y4, y5, x6, x7, x8] t _ := h4.set 5 y5
  have h6 : Bx b #[y0, y1, y2, y3, y4, y5, y6, x7, x8] t _ := h5.set 6 y6
  have h7 : Bx b #[y0, y1, y2, y3, y4, y5, y6, y7, x8] t _ := h6.set 7 y7
  have h8 : Bx b #[y0, y1, y2, y3, y4, y5, y6, y7, y8] t _ := h7.set 8 y8
  exact h8
theorem Bx.cells9 {b : Nat} {x0 x1 x2 x3 x4 x5 x6 x7 x8 : Value} {t : TypeId} {w : World} (h : Bx b #[x0, x1, x2, x3, x4, x5, x6, x7, x8] t w) :
    (w.cell? ⟨b, 0, none⟩ = some x0 ∧ w.cell? ⟨b, 1, none⟩ = some x1 ∧ w.cell? ⟨b, 2, none⟩ = some x2 ∧ w.cell? ⟨b, 3, none⟩ = some x3 ∧ w.cell? ⟨b, 4, none⟩ = some x4 ∧ w.cell? ⟨b, 5, none⟩ = some x5 ∧ w.cell? ⟨b, 6, none⟩ = some x6 ∧ w.cell? ⟨b, 7, none⟩ = some x7 ∧ w.cell? ⟨b, 8, none⟩ = some x8) ∧
    (w.frozen? ⟨b, 0, none⟩ = false ∧ w.frozen? ⟨b, 1, none⟩ = false ∧ w.frozen? ⟨b, 2, none⟩ = false ∧ w.frozen? ⟨b, 3, none⟩ = false ∧ w.frozen? ⟨b, 4, none⟩ = false ∧ w.frozen? ⟨b, 5, none⟩ = false ∧ w.frozen? ⟨b, 6, none⟩ = false ∧ w.frozen? ⟨b, 7, none⟩ = false ∧ w.frozen? ⟨b, 8, none⟩ = false) :=
  ⟨⟨h.cell 0 rfl, h.cell 1 rfl, h.cell 2 rfl, h.cell 3 rfl, h.cell 4 rfl, h.cell 5 rfl, h.cell 6 rfl, h.cell 7 rfl, h.cell 8 rfl⟩, h.free 0, h.free 1, h.free 2, h.free 3, h.free 4, h.free 5, h.free 6, h.free 7, h.free 8⟩
theorem Bx.set3 {b : Nat} {x0 x1 x2 : Value} {t : TypeId} {w : World} (h : Bx b #[x0, x1, x2] t w) (y0 y1 y2 : Value) :
    Bx b #[y0, y1, y2] t (((w.setCell ⟨b, 0, none⟩ y0).setCell ⟨b, 1, none⟩ y1).setCell ⟨b, 2, none⟩ y2) := ((h.set 0 y0).set 1 y1).set 2 y2
theorem Bx.cells3 {b : Nat} {x0 x1 x2 : Value} {t : TypeId} {w : World} (h : Bx b #[x0, x1, x2] t w) :
    (w.cell? ⟨b, 0, none⟩ = some x0 ∧ w.cell? ⟨b, 1, none⟩ = some x1 ∧ w.cell? ⟨b, 2, none⟩ = some x2) ∧ (w.frozen? ⟨b, 0, none⟩ = false ∧ w.frozen? ⟨b, 1, none⟩ = false ∧ w.frozen? ⟨b, 2, none⟩ = false) :=
  ⟨⟨h.cell 0 rfl, h.cell 1 rfl, h.cell 2 rfl⟩, h.free 0, h.free 1, h.free 2⟩
theorem bel_set9 {B b : Nat} {w0 w : World} (h : Below B w0 w) (hb : B ≤ b) (y0 y1 y2 y3 y4 y5 y6 y7 y8 : Value) : Below B w0 (((((((((w.setCell ⟨b, 0, none⟩ y0).setCell ⟨b, 1, none⟩ y1).setCell ⟨b, 2, none⟩ y2).setCell ⟨b, 3, none⟩ y3).setCell ⟨b, 4, none⟩ y4).setCell ⟨b, 5, none⟩ y5).setCell ⟨b, 6, none⟩ y6).setCell ⟨b, 7, none⟩ y7).setCell ⟨b, 8, none⟩ y8) :=
  ((((((((h.setCell hb y0).setCell hb y1).setCell hb y2).setCell hb y3).setCell hb y4).setCell hb y5).setCell hb y6).setCell hb y7).setCell hb y8
theorem bel_set3 {B b : Nat} {w0 w : World} (h : Below B w0 w) (hb : B ≤ b) (y0 y1 y2 : Value) : Below B w0 (((w.setCell ⟨b, 0, none⟩ y0).setCell ⟨b, 1, none⟩ y1).setCell ⟨b, 2, none⟩ y2) :=
  ((h.setCell hb y0).setCell hb y1).setCell hb y2
structure Frm (S : Nat → Prop) (w w' : World) : Prop where
  os : w'.os = w.os
  tape : w'.tape = w.tape
  output : w'.output = w.output
  size : w.heap.size ≤ w'.heap.size
  block : ∀ k, k < w.heap.size → ¬ S k → w'.heap[k]? = w.heap[k]?
theorem Frm.refl (S : Nat → Prop) (w : World) : Frm S w w := ⟨rfl, rfl, rfl, Nat.le_refl _, fun _ _ _ => rfl⟩
theorem Frm.trans {S : Nat → Prop} {a b c : World} (h : Frm S a b) (k : Frm S b c) : Frm S a c :=
  ⟨k.os.trans h.os, k.tape.trans h.tape, k.output.trans h.output, Nat.le_trans h.size k.size, fun i hi hn => (k.block i (Nat.lt_of_lt_of_le hi h.size) hn).trans (h.block i hi hn)⟩
theorem Frm.of_below {S : Nat → Prop} {w w' : World} (h : Below w.heap.size w w') : Frm S w w' := ⟨h.os, h.tape, h.output, h.size, fun k hk _ => h.block k hk⟩
theorem Frm.grown {S : Nat → Prop} {w w' : World} {b : Nat} (h : w.grownBy w' (some b)) (hb : S b) : Frm S w w' :=
  ⟨h.os, h.tape, h.output, h.size, fun k hk hn => h.block k hk (fun e => by injection e with e; exact hn (e ▸ hb))⟩
theorem Frm.mono {S T : Nat → Prop} {w w' : World} (h : Frm S w w') (hT : ∀ k, S k → T k) : Frm T w w' := ⟨h.os, h.tape, h.output, h.size, fun k hk hn => h.block k hk (fun hs => hn (hT k hs))⟩
theorem Frm.below {S : Nat → Prop} {w w' : World} (h : Frm S w w') {B : Nat} (hB : B ≤ w.heap.size) (hS : ∀ k, S k → B ≤ k) : Below B w w' :=
  ⟨h.os, h.tape, h.output, h.size, fun k hk => h.block k (by omega) (fun hs => by have := hS k hs; omega)⟩
theorem Frm.cell {S : Nat → Prop} {w w' : World} (h : Frm S w w') {a : Addr} (h1 : a.block < w.heap.size) (h2 : ¬ S a.block) : w'.cell? a = w.cell? a := World.cell?_of_block (h.block _ h1 h2)
end Go.Proofs.YtecklnobgfahfaaGreatDoor
namespace Go.Proofs.YtecklnobgfahfaaGreatDoor
open Go.RowKit
set_option linter.unusedVariables false
set_option linter.unusedSimpArgs false
/-- a byte's cell -/
def u8c (b : UInt8) : Value := .int .u8 (b.toNat : Int)
/-- bytes in memory, from an address on -/
def BsA (w : World) (g o : Nat) (bs : List UInt8) : Prop := g < w.heap.size ∧ ∀ j b, bs[j]? = some b → w.cell? ⟨g, o + j, none⟩ = some (u8c b)
theorem BsA.frm {S : Nat → Prop} {w w' : World} {g o : Nat} {bs : List UInt8} (h : BsA w g o bs) (hf : Frm S w w') (hs : ¬ S g) : BsA w' g o bs :=
  ⟨Nat.lt_of_lt_of_le h.1 hf.size, fun j b hb => (World.cell?_of_block (w := w) (a := ⟨g, o + j, none⟩) (hf.block g h.1 hs)).trans (h.2 j b hb)⟩
theorem BsA.below {w w' : World} {g o : Nat} {bs : List UInt8} (h : BsA w g o bs) (hb : Below w.heap.size w w') : BsA w' g o bs := h.frm (S := fun _ => False) (Frm.of_below hb) id
theorem BsA.cell {w : World} {g o : Nat} {bs : List UInt8} (h : BsA w g o bs) {j : Nat} (hj : j < bs.length) : w.cell? ⟨g, o + j, none⟩ = some (.int .u8 (bs[j].toNat : Int)) := h.2 j _ (List.getElem?_eq_getElem hj)
theorem BsA.drop {w : World} {g o : Nat} {bs : List UInt8} (h : BsA w g o bs) (i : Nat) : BsA w g (o + i) (bs.drop i) :=
  ⟨h.1, fun j b hb => by rw [List.getElem?_drop] at hb; rw [Nat.add_assoc]; exact h.2 _ b hb⟩
theorem BsA.take {w : World} {g o : Nat} {bs : List UInt8} (h : BsA w g o bs) (i : Nat) : BsA w g o (bs.take i) :=
  ⟨h.1, fun j b hb => by
    rw [List.getElem?_take] at hb
    split at hb
    · exact h.2 _ b hb
    · cases hb⟩
theorem BsA.nil {w : World} {g o : Nat} (h : g < w.heap.size) : BsA w g o [] := ⟨h, fun j b hb => by simp at hb⟩
/-- the part of a slice from i on, k bytes -/
def subV (g o c i k : Nat) : Value := .slice (some ⟨g, if c = i then o else o + i, none⟩) k (c - i)
/-- a slice of bytes -/
def BsV (w : World) (v : Value) (bs : List UInt8) : Prop := ∃ A c, v = .slice A bs.length c ∧ bs.length ≤ c ∧ c ≤ maxLen ∧ (0 < bs.length → ∃ g o, A = some ⟨g, o, none⟩ ∧ BsA w g o bs)
theorem BsV.nil (w : World) : BsV w (.slice none 0 0) [] := ⟨none, 0, rfl, Nat.le_refl _, by unfold maxLen; omega, fun h => absurd h (by simp)⟩
theorem BsV.sub {w : World} {g o c i k : Nat} {bs : List UInt8} (h : BsA w g o bs) (hc : bs.length ≤ c) (hm : c ≤ maxLen) (hk : i + k ≤ bs.length) : BsV w (subV g o c i k) ((bs.drop i).take k) := by
  have hl : ((bs.drop i).take k).length = k := by rw [List.length_take, List.length_drop]; omega
  unfold subV
  refine ⟨some ⟨g, if c = i then o else o + i, none⟩, c - i, by rw [hl], by rw [hl]; omega, by omega, fun h0 => ?_⟩
  rw [hl] at h0
  rw [if_neg (by omega)]
  exact ⟨g, o + i, rfl, (h.drop i).take k⟩
theorem BsV.frm {S : Nat → Prop} {w w' : World} {v : Value} {bs : List UInt8} (h : BsV w v bs) (hf : Frm S w w') (hs : ∀ g o n c, v = .slice (some ⟨g, o, none⟩) n c → ¬ S g) : BsV w' v bs := by
  obtain ⟨A, c, rfl, hc, hm, hx⟩ := h
  refine ⟨A, c, rfl, hc, hm, fun h0 => ?_⟩
  obtain ⟨g, o, rfl, hb⟩ := hx h0
  exact ⟨g, o, rfl, hb.frm hf (hs g o _ _ rfl)⟩
theorem BsV.below {w w' : World} {v : Value} {bs : List UInt8} (h : BsV w v bs) (hb : Below w.heap.size w w') : BsV w' v bs := h.frm (S := fun _ => False) (Frm.of_below hb) (fun _ _ _ _ _ => id)
/-- the program's reader and the reference's, cell by cell -/
def rdPc (gb ob n c st : Nat) (s : RS) : Array Value := #[.slice (some ⟨gb, ob, none⟩) n c, .int .i64 (s.1 : Int), .int .i64 (st : Int), .bool s.2]
structure RdP (g gb ob c st : Nat) (bs : List UInt8) (s : RS) (w : World) : Prop where
  bx : Bx g (rdPc gb ob bs.length c st s) 136 w
  by_ : BsA w gb ob bs
  ne : gb ≠ g
  at_ : s.1 ≤ st
  st_ : st ≤ bs.length
  cap : bs.length ≤ c
  mx : c ≤ maxLen
theorem RdP.keep {S : Nat → Prop} {g gb ob c st : Nat} {bs : List UInt8} {s : RS} {w w' : World} (h : RdP g gb ob c st bs s w) (hf : Frm S w w') (h1 : ¬ S g) (h2 : ¬ S gb) : RdP g gb ob c st bs s w' :=
  ⟨(hf.block g h.bx.lt h1).trans h.bx, h.by_.frm hf h2, h.ne, h.at_, h.st_, h.cap, h.mx⟩
theorem RdP.below {g gb ob c st : Nat} {bs : List UInt8} {s : RS} {w w' : World} (h : RdP g gb ob c st bs s w) (hb : Below w.heap.size w w') : RdP g gb ob c st bs s w' := h.keep (S := fun _ => False) (Frm.of_below hb) id id
theorem RdP.to {g gb ob c st : Nat} {bs : List UInt8} {s s' : RS} {w w' : World} (h : RdP g gb ob c st bs s w) (hf : Frm (· = g) w w') (hb : Bx g (rdPc gb ob bs.length c st s') 136 w') (ha : s'.1 ≤ st) : RdP g gb ob c st bs s' w' :=
  ⟨hb, h.by_.frm hf h.ne, h.ne, ha, h.st_, h.cap, h.mx⟩
theorem RdP.lt {g gb ob c st : Nat} {bs : List UInt8} {s : RS} {w : World} (h : RdP g gb ob c st bs s w) : g < w.heap.size := h.bx.lt
/-- what a call of the reader leaves -/
structure RdPTo (g gb ob c st : Nat) (bs : List UInt8) (s' : RS) (w w' : World) : Prop where
  r : RdP g gb ob c st bs s' w'
  f : Frm (· = g) w w'
theorem RdPTo.then_ {g gb ob c st : Nat} {bs : List UInt8} {s s' : RS} {w w1 w2 : World} (h : RdPTo g gb ob c st bs s w w1) (k : RdPTo g gb ob c st bs s' w1 w2) : RdPTo g gb ob c st bs s' w w2 := ⟨k.r, h.f.trans k.f⟩
theorem frm_set (w : World) (g j : Nat) (u : Value) : Frm (· = g) w (w.setCell ⟨g, j, none⟩ u) :=
  ⟨rfl, rfl, rfl, by simp, fun k hk hn => heap_setCell_other w ⟨g, j, none⟩ k u (fun e => hn (by simpa using e))⟩
end Go.Proofs.YtecklnobgfahfaaGreatDoor
namespace Go.Proofs.YtecklnobgfahfaaGreatDoor
open Go.RowKit
set_option linter.unusedVariables false
set_option linter.unusedSimpArgs false
def stB (r : Int) : Int := if (bits .and .u32 r 1 == 1) = true then bits .xor .u32 (r / 2) 3988292384 else r / 2
def stN : Nat → Int → Int
  | 0, r => r
  | k + 1, r => stB (stN k r)
def stF (r : Int) (b : UInt8) : Int := stN 8 (bits .xor .u32 r (b.toNat : Int))
def crG (r : Int) (bs : List UInt8) : Int := bs.foldl stF r
/-- the checksum -/
def crcF (bs : List UInt8) : Int := bits .xor .u32 IntKind.u32.max (crG 4294967295 bs)
theorem xor32_bd (a b : Int) (h1 : 0 ≤ a) (h2 : a < 4294967296) (h3 : 0 ≤ b) (h4 : b < 4294967296) : 0 ≤ bits .xor .u32 a b ∧ bits .xor .u32 a b < 4294967296 := by
  rw [u32_xor a b h1 h2 h3 h4]
  have : a.toNat ^^^ b.toNat < 2 ^ 32 := Nat.xor_lt_two_pow (by omega) (by omega)
  omega
theorem stB_bd {r : Int} (h : 0 ≤ r ∧ r < 4294967296) : 0 ≤ stB r ∧ stB r < 4294967296 := by
  unfold stB; split
  · exact xor32_bd _ _ (by omega) (by omega) (by omega) (by omega)
  · omega
theorem stN_bd : ∀ (k : Nat) {r : Int}, 0 ≤ r ∧ r < 4294967296 → 0 ≤ stN k r ∧ stN k r < 4294967296
  | 0, _, h => h
  | k + 1, _, h => stB_bd (stN_bd k h)
theorem stF_bd {r : Int} (b : UInt8) (h : 0 ≤ r ∧ r < 4294967296) : 0 ≤ stF r b ∧ stF r b < 4294967296 := stN_bd 8 (xor32_bd _ _ h.1 h.2 (by omega) (by have := b.toNat_lt; omega))
theorem crG_bd : ∀ (bs : List UInt8) {r : Int}, 0 ≤ r ∧ r < 4294967296 → 0 ≤ crG r bs ∧ crG r bs < 4294967296
  | [], _, h => h
  | b :: bs, _, h => crG_bd bs (stF_bd b h)
theorem crG_snoc (r : Int) (bs : List UInt8) (k : Nat) (hk : k < bs.length) : crG r (bs.take (k + 1)) = stF (crG r (bs.take k)) bs[k] := by
  unfold crG; rw [List.take_succ_eq_append_getElem hk, List.foldl_append]; rfl
theorem crcF_bd (bs : List UInt8) : 0 ≤ crcF bs ∧ crcF bs < 4294967296 := by
  have := crG_bd bs (r := 4294967295) (by omega)
  unfold crcF
  exact xor32_bd _ _ (by decide) (by decide) this.1 this.2
set_option maxRecDepth 100000 in
set_option maxHeartbeats 4000000 in
theorem cstep_any (r : Int) (b : UInt8) (w : World) (h0 : 0 ≤ r) (h1 : r < 4294967296) :
    Calls Tryz.prog 100 #[.int .u32 r, .int .u8 (b.toNat : Int)] w fun e w' => e = .returned (.int .u32 (stF r b)) ∧ w = w' := by
  obtain ⟨B, hB⟩ : ∃ B : Int, (b.toNat : Int) = B := ⟨_, rfl⟩
  have hb0 : 0 ≤ B := by omega
  have hb1 : B < 256 := by have := b.toNat_lt; omega
  have HR : Hid (stF r b = stN 8 (bits .xor .u32 r B)) := by unfold Hid stF; rw [hB]
  rw [HR.out, hB]
  clear HR hB b
  obtain ⟨x, hx⟩ : ∃ x, bits .xor .u32 r B = x := ⟨_, rfl⟩
  have hxb := xor32_bd r B h0 h1 hb0 (by omega)
  rw [hx] at hxb
  have HX := Lib.hid hx
  rw [hx]
  clear hx
  go_enter Tryz.func100, Tryz.ntmps100
  go_wp2
  rw [HX.out]
  go_loopw [0, 9] (fun rv iv wr => ∃ k : Nat, k ≤ 8 ∧ iv = .int .i64 (k : Int) ∧ rv = .int .u32 (stN k x) ∧ wr = w) (fun _ iv _ => 8 - (intOf iv).toNat)
  case atStart => exact ⟨0, by omega, by first | rfl | go_num, rfl, by trivial⟩
  case round =>
    obtain ⟨k, hk, rfl, rfl, rfl⟩ := hrel
    obtain ⟨y, hy⟩ : ∃ y, stN k x = y := ⟨_, rfl⟩
    have hyb := stN_bd k hxb
    have hn : Hid (stN (k + 1) x = stB y) := by unfold Hid; rw [← hy]; rfl
    rw [hy] at hyb ⊢
    obtain ⟨hy0, hy1⟩ := hyb
    have HY := Lib.hid hy
    clear hy
    rcases Nat.lt_or_ge k 8 with hk8 | hk8
    · cases ht : (bits .and .u32 y 1 == 1) with
      | true =>
        have HN : Hid (stN (k + 1) x = bits .xor .u32 (y / 2) 3988292384) := by unfold Hid; rw [hn.out]; unfold stB; rw [if_pos ht]
        go_wp2
        go_roundw
        case rel => exact ⟨k + 1, by omega, by go_num, by rw [HN.out], by trivial⟩
        case measure => simp [intOf]; omega
      | false =>
        have HN : Hid (stN (k + 1) x = y / 2) := by unfold Hid; rw [hn.out]; unfold stB; rw [if_neg (by rw [ht]; exact Bool.false_ne_true)]
        go_wp2
        go_roundw
        case rel => exact ⟨k + 1, by omega, by go_num, by rw [HN.out], by trivial⟩
        case measure => simp [intOf]; omega
    · have hk9 : k = 8 := by omega
      subst hk9
      go_wp2
      go_ret
      rw [HY.out]
      exact ⟨rfl, rfl⟩
end Go.Proofs.YtecklnobgfahfaaGreatDoor
namespace Go.Proofs.YtecklnobgfahfaaGreatDoor
open Go.RowKit Go.Lib Go.Sort
set_option linter.unusedVariables false
set_option linter.unusedSimpArgs false
theorem stableZ_fix (A : Option Addr) (cap : Nat) (fv : Value) (w : World) : Calls Tryz.prog 75 #[.slice A 0 cap, fv] w fun e w' => e = .returned (.tuple #[]) ∧ w' = w := by
  have h1 : ∀ w, Calls Tryz.prog 178 #[.slice A 0 cap, .int .i64 0, .int .i64 0, fv] w fun e w' => e = .returned (.tuple #[]) ∧ w' = w := by
    intro w
    go_enter Tryz.func178, Tryz.ntmps178
    go_wp2
    go_loopg [8] 0 (fun g i wr => i = .int .i64 1 ∧ wr = w)
    case atStart => exact ⟨rfl, rfl⟩
    case round =>
      obtain ⟨rfl, hw⟩ := hrel
      have HW := Lib.hid hw
      clear hw
      go_wp2
      go_end0
      exact ⟨rfl, HW.out⟩
  have h2 : ∀ w, Calls Tryz.prog 120 #[.slice A 0 cap, .int .i64 0, fv] w fun e w' => e = .returned (.tuple #[]) ∧ w' = w := by
    intro w
    go_enter Tryz.func120, Tryz.ntmps120
    go_wp2
    go_loopg [7, 8] 0 (fun g a b wr => a = .int .i64 0 ∧ b = .int .i64 20 ∧ wr = w)
    case atStart => exact ⟨rfl, rfl, rfl⟩
    case round =>
      obtain ⟨rfl, rfl, hw⟩ := hrel
      have HW := Lib.hid hw
      clear hw
      go_wp2_with fail
      refine (h1 _).mono ?_
      rintro e w2 ⟨rfl, hw2⟩
      have HW2 : Hid (w2 = w) := hw2.trans HW.out
      clear hw2
      go_wp2
      go_loopg [6] 0 (fun g a wr => a = .int .i64 20 ∧ wr = w)
      case atStart => exact ⟨rfl, HW2.out⟩
      case round =>
        obtain ⟨rfl, hw⟩ := hrel
        have HW := Lib.hid hw
        clear hw
        go_wp2
        go_end0
        exact ⟨rfl, HW.out⟩
  go_enter Tryz.func75, Tryz.ntmps75
  go_wp2_with fail
  refine (h2 _).mono ?_
  rintro e w2 ⟨rfl, rfl⟩
  go_wp2
  go_end0
  exact ⟨rfl, rfl⟩
theorem stableZ_air (A : Option Addr) (cap : Nat) (fv : Value) (w : World) : Calls Tryz.prog 32 #[.slice A 0 cap, fv] w fun e w' => e = .returned (.tuple #[]) ∧ w' = w := by
  have h1 : ∀ w, Calls Tryz.prog 121 #[.slice A 0 cap, .int .i64 0, .int .i64 0, fv] w fun e w' => e = .returned (.tuple #[]) ∧ w' = w := by
    intro w
    go_enter Tryz.func121, Tryz.ntmps121
    go_wp2
    go_loopg [8] 0 (fun g i wr => i = .int .i64 1 ∧ wr = w)
    case atStart => exact ⟨rfl, rfl⟩
    case round =>
      obtain ⟨rfl, hw⟩ := hrel
      have HW := Lib.hid hw
      clear hw
      go_wp2
      go_end0
      exact ⟨rfl, HW.out⟩
  have h2 : ∀ w, Calls Tryz.prog 77 #[.slice A 0 cap, .int .i64 0, fv] w fun e w' => e = .returned (.tuple #[]) ∧ w' = w := by
    intro w
    go_enter Tryz.func77, Tryz.ntmps77
    go_wp2
    go_loopg [7, 8] 0 (fun g a b wr => a = .int .i64 0 ∧ b = .int .i64 20 ∧ wr = w)
    case atStart => exact ⟨rfl, rfl, rfl⟩
    case round =>
      obtain ⟨rfl, rfl, hw⟩ := hrel
      have HW := Lib.hid hw
      clear hw
      go_wp2_with fail
      refine (h1 _).mono ?_
      rintro e w2 ⟨rfl, hw2⟩
      have HW2 : Hid (w2 = w) := hw2.trans HW.out
      clear hw2
      go_wp2
      go_loopg [6] 0 (fun g a wr => a = .int .i64 20 ∧ wr = w)
      case atStart => exact ⟨rfl, HW2.out⟩
      case round =>
        obtain ⟨rfl, hw⟩ := hrel
        have HW := Lib.hid hw
        clear hw
        go_wp2
        go_end0
        exact ⟨rfl, HW.out⟩
  go_enter Tryz.func32, Tryz.ntmps32
  go_wp2_with fail
  refine (h2 _).mono ?_
  rintro e w2 ⟨rfl, rfl⟩
  go_wp2
  go_end0
  exact ⟨rfl, rfl⟩
theorem stableZ_proc (A : Option Addr) (cap : Nat) (fv : Value) (w : World) : Calls Tryz.prog 35 #[.slice A 0 cap, fv] w fun e w' => e = .returned (.tuple #[]) ∧ w' = w := by
  have h1 : ∀ w, Calls Tryz.prog 123 #[.slice A 0 cap, .int .i64 0, .int .i64 0, fv] w fun e w' => e = .returned (.tuple #[]) ∧ w' = w := by
    intro w
    go_enter Tryz.func123, Tryz.ntmps123
    go_wp2
    go_loopg [8] 0 (fun g i wr => i = .int .i64 1 ∧ wr = w)
    case atStart => exact ⟨rfl, rfl⟩
    case round =>
      obtain ⟨rfl, hw⟩ := hrel
      have HW := Lib.hid hw
      clear hw
      go_wp2
      go_end0
      exact ⟨rfl, HW.out⟩
  have h2 : ∀ w, Calls Tryz.prog 79 #[.slice A 0 cap, .int .i64 0, fv] w fun e w' => e = .returned (.tuple #[]) ∧ w' = w := by
    intro w
    go_enter Tryz.func79, Tryz.ntmps79
    go_wp2
    go_loopg [7, 8] 0 (fun g a b wr => a = .int .i64 0 ∧ b = .int .i64 20 ∧ wr = w)
    case atStart => exact ⟨rfl, rfl, rfl⟩
    case round =>
      obtain ⟨rfl, rfl, hw⟩ := hrel
      have HW := Lib.hid hw
      clear hw
      go_wp2_with fail
      refine (h1 _).mono ?_
      rintro e w2 ⟨rfl, hw2⟩
      have HW2 : Hid (w2 = w) := hw2.trans HW.out
      clear hw2
      go_wp2
      go_loopg [6] 0 (fun g a wr => a = .int .i64 20 ∧ wr = w)
      case atStart => exact ⟨rfl, HW2.out⟩
      case round =>
        obtain ⟨rfl, hw⟩ := hrel
        have HW := Lib.hid hw
        clear hw
        go_wp2
        go_end0
        exact ⟨rfl, HW.out⟩
  go_enter Tryz.func35, Tryz.ntmps35
  go_wp2_with fail
  refine (h2 _).mono ?_
  rintro e w2 ⟨rfl, rfl⟩
  go_wp2
  go_end0
  exact ⟨rfl, rfl⟩
theorem cloneZ_fix (w : World) : Calls Tryz.prog 74 #[.slice none 0 0] w fun e w' => e = .returned (.slice none 0 0) ∧ w' = w := by
  have hnil : ∀ W, (binOp .eql 26 (.slice none 0 0) (.slice none 0 0)).run Tryz.prog W = .ok (.bool true) W := fun W => Lib.run_eql_slice_nil W _ _ _ _ _ _ _ Tryz.underlying26
  go_enter Tryz.func74, Tryz.ntmps74
  go_wp2
  go_ret
  exact ⟨rfl, rfl⟩
theorem sortZ_fix (w : World) : Calls Tryz.prog 31 #[.slice none 0 0] w fun e w' => e = .returned (.slice none 0 0) ∧ w' = w := by
  go_enter Tryz.func31, Tryz.ntmps31
  go_wp2_with fail
  refine (cloneZ_fix _).mono ?_
  rintro e w1 ⟨rfl, rfl⟩
  go_wp2_with fail
  refine (stableZ_fix none 0 _ _).mono ?_
  rintro e w1 ⟨rfl, rfl⟩
  go_wp2
  go_ret
  exact ⟨rfl, rfl⟩
end Go.Proofs.YtecklnobgfahfaaGreatDoor
