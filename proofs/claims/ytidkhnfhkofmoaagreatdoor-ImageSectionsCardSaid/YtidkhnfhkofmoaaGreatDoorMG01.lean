/-
  Several texts as one.
  Plain: the place and the flag of a reader of images, byte by byte, and what it reads (the program and the reference alike).
  A reader of images in memory: the program's and the reference's.
  An argument of bytes, opened to its cells.
-/
import Derived.Laws.BitsAllLaws
import Derived.Test.YtidkhnfhkofmoaaGreatDoorMG03
import Derived.ChangeSlices
import Derived.ProofKit
namespace Go.Proofs.YtidkhnfhkofmoaaGreatDoor
set_option linter.unusedVariables false
set_option linter.unusedSimpArgs false
abbrev RS := Nat × Bool
def tkS (st n : Nat) (s : RS) : RS := if s.2 = true ∨ st - s.1 < n then (s.1, true) else (s.1 + n, false)
def tkV (bs : List UInt8) (st n : Nat) (s : RS) : List UInt8 := if s.2 = true ∨ st - s.1 < n then [] else (bs.drop s.1).take n
def byV (bs : List UInt8) (st : Nat) (s : RS) : UInt8 := (tkV bs st 1 s).headD 0
def loN : List UInt8 → Nat
 | [] => 0
 | b :: t => b.toNat + 256 * loN t
def n8V (bs : List UInt8) (st : Nat) (s : RS) : Int := IntKind.i64.wrap (loN (tkV bs st 8 s))
def txS (bs : List UInt8) (st : Nat) (s : RS) : RS := tkS st (byV bs st s).toNat (tkS st 1 s)
def txV (bs : List UInt8) (st : Nat) (s : RS) : List UInt8 := tkV bs st (byV bs st s).toNat (tkS st 1 s)
def n8S (st : Nat) (s : RS) : RS := tkS st 8 s
def fiS (bs : List UInt8) (st : Nat) (s : RS) : RS := n8S st (n8S st (n8S st (n8S st (tkS st 1 (txS bs st (txS bs st s))))))
def ptS (bs : List UInt8) (st : Nat) (s : RS) : RS := tkS st 1 (n8S st (n8S st (txS bs st s)))
def ovS (bs : List UInt8) (st : Nat) (s : RS) : RS := if 1 < (byV bs st s).toNat then ((tkS st 1 s).1, true) else tkS st 1 s
def n8x (st : Nat) : Nat → RS → RS
 | 0, s => s
 | k + 1, s => n8x st k (n8S st s)
def leS (bs : List UInt8) (st : Nat) (s : RS) : RS := n8x st 8 (ovS bs st (tkS st 1 (txS bs st (txS bs st (tkS st 1 s)))))
def itS (one : RS → RS) : Nat → RS → RS
 | 0, s => s
 | n + 1, s => if s.2 = true then s else itS one n (one s)
def lsN (bs : List UInt8) (st : Nat) (s : RS) : Nat := loN (tkV bs st 2 s)
def lsS (bs : List UInt8) (st : Nat) (one : RS → RS) (s : RS) : RS := itS one (lsN bs st s) (tkS st 2 s)
def awS (bs : List UInt8) (st : Nat) (s : RS) : RS := lsS bs st (ptS bs st) (txS bs st s)
def imPaS (bs : List UInt8) (st : Nat) (s : RS) : RS := lsS bs st (leS bs st) (txS bs st (tkS st 1 s))
def prS (bs : List UInt8) (st : Nat) (s : RS) : RS := lsS bs st (imPaS bs st) (tkS st 1 (txS bs st (txS bs st s)))
def hdS (bs : List UInt8) (st : Nat) (s : RS) : RS := n8x st 5 (txS bs st s)
structure ImHd where
 nm : List UInt8
 cy : Int
 fr : Int
 tu : Int
 la : Int
 lo : Int
def hd0 : ImHd := ⟨[], 0, 0, 0, 0, 0⟩
def hdV (bs : List UInt8) (st : Nat) (s : RS) : ImHd := ⟨txV bs st s, n8V bs st (txS bs st s), n8V bs st (n8x st 1 (txS bs st s)), n8V bs st (n8x st 2 (txS bs st s)), n8V bs st (n8x st 3 (txS bs st s)), n8V bs st (n8x st 4 (txS bs st s))⟩
def secS (bs : List UInt8) (st tag : Nat) (s : RS) : RS :=
 if tag = 1 then hdS bs st s else if tag = 2 then lsS bs st (fiS bs st) s else if tag = 3 then lsS bs st (awS bs st) s else lsS bs st (prS bs st) s
def secN (bs : List UInt8) (st tag : Nat) (s : RS) : Nat := if tag = 1 then 1 else lsN bs st s
abbrev Sec := Nat × Nat × Nat × Nat
def rdG (bs : List UInt8) : Nat → Nat → Nat → Option (List Sec)
 | 0, _, a => if a = bs.length then some [] else none
 | k + 1, tag, a =>
  if (tkS bs.length 4 (tkS bs.length 1 (a, false))).2 = true ∨ (byV bs bs.length (a, false)).toNat ≠ tag ∨ bs.length - (a + 5) < loN (tkV bs bs.length 4 (a + 1, false)) then none
  else if (secS bs (a + 5 + loN (tkV bs bs.length 4 (a + 1, false))) tag (a + 5, false)).2 = true ∨ (secS bs (a + 5 + loN (tkV bs bs.length 4 (a + 1, false))) tag (a + 5, false)).1 ≠ a + 5 + loN (tkV bs bs.length 4 (a + 1, false)) then none
  else (rdG bs k (tag + 1) (a + 5 + loN (tkV bs bs.length 4 (a + 1, false)))).map ((tag, a + 5, loN (tkV bs bs.length 4 (a + 1, false)), secN bs (a + 5 + loN (tkV bs bs.length 4 (a + 1, false))) tag (a + 5, false)) :: ·)
def magicL : List UInt8 := [70, 68, 66, 49]
def imHdF (bs : List UInt8) : ImHd := hdV bs (9 + loN (tkV bs bs.length 4 (5, false))) (9, false)
def rdF (bs : List UInt8) : Option (ImHd × List Sec) := if bs.take 4 = magicL then (rdG bs 4 1 4).map fun l => (imHdF bs, l) else none
theorem tkS_bad {st n : Nat} {s : RS} (h : s.2 = true) : tkS st n s = s := by
 unfold tkS; rw [if_pos (.inl h)]; obtain ⟨a, b⟩ := s; cases h; rfl
theorem tkS_no {st n a : Nat} {b : Bool} (h : b = true ∨ st - a < n) : tkS st n (a, b) = (a, true) := by unfold tkS; rw [if_pos h]
theorem tkS_yes {st n a : Nat} (h : ¬ st - a < n) : tkS st n (a, false) = (a + n, false) := by unfold tkS; rw [if_neg (by simpa using h)]
theorem tkV_no {bs : List UInt8} {st n a : Nat} {b : Bool} (h : b = true ∨ st - a < n) : tkV bs st n (a, b) = [] := by unfold tkV; rw [if_pos h]
theorem tkV_yes {bs : List UInt8} {st n a : Nat} (h : ¬ st - a < n) : tkV bs st n (a, false) = (bs.drop a).take n := by unfold tkV; rw [if_neg (by simpa using h)]
theorem tkV_len {bs : List UInt8} {st n : Nat} {s : RS} : (tkV bs st n s).length ≤ n := by
 unfold tkV; split
 ·simp
 ·rw [List.length_take]; omega
theorem itS_bad {one : RS → RS} {n : Nat} {s : RS} (h : s.2 = true) : itS one n s = s := by
 cases n with
 | zero => rfl
 | succ n => unfold itS; rw [if_pos h]
theorem itS_more {one : RS → RS} {n : Nat} {a : Nat} : itS one (n + 1) (a, false) = itS one n (one (a, false)) := by
 conv => lhs; unfold itS
 rw [if_neg (by simp)]
theorem loN_lt : ∀ (l : List UInt8), loN l < 256 ^ l.length
 | [] => by simp [loN]
 | b :: t => by
  have h1 := b.toNat_lt
  have h2 := loN_lt t
  show b.toNat + 256 * loN t < 256 ^ (t.length + 1)
  rw [Nat.pow_succ]; omega
theorem loN_snoc (l : List UInt8) (b : UInt8) : loN (l ++ [b]) = loN l + b.toNat * 256 ^ l.length := by
 induction l with
 | nil => simp [loN]
 | cons c l ih =>
  show c.toNat + 256 * loN (l ++ [b]) = c.toNat + 256 * loN l + b.toNat * 256 ^ (l.length + 1)
  rw [ih, Nat.pow_succ, Nat.mul_add]
  rw [show 256 * (b.toNat * 256 ^ l.length) = b.toNat * (256 ^ l.length * 256) by rw [Nat.mul_left_comm, Nat.mul_comm 256]]
  omega
theorem lsN_lt {bs : List UInt8} {st : Nat} {s : RS} : lsN bs st s < 65536 := by
 have h1 := loN_lt (tkV bs st 2 s)
 have h2 : (tkV bs st 2 s).length ≤ 2 := tkV_len
 unfold lsN
 have : 256 ^ (tkV bs st 2 s).length ≤ 256 ^ 2 := Nat.pow_le_pow_right (by omega) h2
 omega
theorem rdG_more {bs : List UInt8} {k tag a n : Nat} (h0 : ¬ (tkS bs.length 4 (tkS bs.length 1 (a, false))).2 = true) (h1 : (byV bs bs.length (a, false)).toNat = tag) (hn : loN (tkV bs bs.length 4 (a + 1, false)) = n) (h2 : ¬ bs.length - (a + 5) < n)
  (h3 : ¬ (secS bs (a + 5 + n) tag (a + 5, false)).2 = true) (h4 : (secS bs (a + 5 + n) tag (a + 5, false)).1 = a + 5 + n) :
  rdG bs (k + 1) tag a = (rdG bs k (tag + 1) (a + 5 + n)).map ((tag, a + 5, n, secN bs (a + 5 + n) tag (a + 5, false)) :: ·) := by
 subst hn
 conv => lhs; unfold rdG
 rw [if_neg (by simp only [not_or]; exact ⟨h0, by simpa using h1, h2⟩), if_neg (by simp only [not_or]; exact ⟨h3, by simpa using h4⟩)]
theorem rdG_form {bs : List UInt8} {k tag a : Nat} (h : (tkS bs.length 4 (tkS bs.length 1 (a, false))).2 = true ∨ (byV bs bs.length (a, false)).toNat ≠ tag ∨ bs.length - (a + 5) < loN (tkV bs bs.length 4 (a + 1, false))) : rdG bs (k + 1) tag a = none := by
 conv => lhs; unfold rdG
 rw [if_pos h]
theorem rdG_sec {bs : List UInt8} {k tag a n : Nat} (hn : loN (tkV bs bs.length 4 (a + 1, false)) = n) (h : (secS bs (a + 5 + n) tag (a + 5, false)).2 = true ∨ (secS bs (a + 5 + n) tag (a + 5, false)).1 ≠ a + 5 + n) : rdG bs (k + 1) tag a = none := by
 subst hn
 conv => lhs; unfold rdG
 split
 ·rfl
 ·first | rfl | (rw [if_pos h])
end Go.Proofs.YtidkhnfhkofmoaaGreatDoor
namespace Go.Proofs.YtidkhnfhkofmoaaGreatDoor
open Go.RowKit
set_option linter.unusedVariables false
set_option linter.unusedSimpArgs false
def u8c (b : UInt8) : Value := .int .u8 (b.toNat : Int)
def BsA (w : World) (g o : Nat) (bs : List UInt8) : Prop := g < w.heap.size ∧ ∀ j b, bs[j]? = some b → w.cell? ⟨g, o + j, none⟩ = some (u8c b)
theorem BsA.frm {S : Nat → Prop} {w w' : World} {g o : Nat} {bs : List UInt8} (h : BsA w g o bs) (hf : Frm S w w') (hs : ¬ S g) : BsA w' g o bs :=
 ⟨Nat.lt_of_lt_of_le h.1 hf.size, fun j b hb => (World.cell?_of_block (w := w) (a := ⟨g, o + j, none⟩) (hf.block g h.1 hs)).trans (h.2 j b hb)⟩
theorem BsA.below {w w' : World} {g o : Nat} {bs : List UInt8} (h : BsA w g o bs) (hb : Below w.heap.size w w') : BsA w' g o bs := h.frm (S := fun _ => False) (Frm.of_below hb) id
theorem BsA.cell {w : World} {g o : Nat} {bs : List UInt8} (h : BsA w g o bs) {j : Nat} (hj : j < bs.length) : w.cell? ⟨g, o + j, none⟩ = some (.int .u8 (bs[j].toNat : Int)) := h.2 j _ (List.getElem?_eq_getElem hj)
theorem BsA.drop {w : World} {g o : Nat} {bs : List UInt8} (h : BsA w g o bs) (i : Nat) : BsA w g (o + i) (bs.drop i) :=
 ⟨h.1, fun j b hb => by rw [List.getElem?_drop] at hb; rw [Nat.add_assoc]; exact h.2 _ b hb⟩
theorem BsA.take {w : World} {g o : Nat} {bs : List UInt8} (h : BsA w g o bs) (i : Nat) : BsA w g o (bs.take i) :=
 ⟨h.1, fun j b hb => by
  rw [List.getElem?_take] at hb
  split at hb
  ·exact h.2 _ b hb
  ·cases hb⟩
theorem BsA.nil {w : World} {g o : Nat} (h : g < w.heap.size) : BsA w g o [] := ⟨h, fun j b hb => by simp at hb⟩
def subV (g o c i k : Nat) : Value := .slice (some ⟨g, if c = i then o else o + i, none⟩) k (c - i)
def BsV (w : World) (v : Value) (bs : List UInt8) : Prop := ∃ A c, v = .slice A bs.length c ∧ bs.length ≤ c ∧ c ≤ maxLen ∧ (0 < bs.length → ∃ g o, A = some ⟨g, o, none⟩ ∧ BsA w g o bs)
theorem BsV.nil (w : World) : BsV w (.slice none 0 0) [] := ⟨none, 0, rfl, Nat.le_refl _, by unfold maxLen; omega, fun h => absurd h (by simp)⟩
theorem BsV.sub {w : World} {g o c i k : Nat} {bs : List UInt8} (h : BsA w g o bs) (hc : bs.length ≤ c) (hm : c ≤ maxLen) (hk : i + k ≤ bs.length) : BsV w (subV g o c i k) ((bs.drop i).take k) := by
 have hl : ((bs.drop i).take k).length = k := by rw [List.length_take, List.length_drop]; omega
 unfold subV
 refine ⟨some ⟨g, if c = i then o else o + i, none⟩, c - i, by rw [hl], by rw [hl]; omega, by omega, fun h0 => ?_⟩
 rw [hl] at h0
 rw [if_neg (by omega)]
 exact ⟨g, o + i, rfl, (h.drop i).take k⟩
theorem BsV.frm {S : Nat → Prop} {w w' : World} {v : Value} {bs : List UInt8} (h : BsV w v bs) (hf : Frm S w w') (hs : ∀ g o n c, v = .slice (some ⟨g, o, none⟩) n c → ¬ S g) : BsV w' v bs := by
 obtain ⟨A, c, rfl, hc, hm, hx⟩ := h
 refine ⟨A, c, rfl, hc, hm, fun h0 => ?_⟩
 obtain ⟨g, o, rfl, hb⟩ := hx h0
 exact ⟨g, o, rfl, hb.frm hf (hs g o _ _ rfl)⟩
theorem BsV.below {w w' : World} {v : Value} {bs : List UInt8} (h : BsV w v bs) (hb : Below w.heap.size w w') : BsV w' v bs := h.frm (S := fun _ => False) (Frm.of_below hb) (fun _ _ _ _ _ => id)
def rdPc (gb ob n c st : Nat) (s : RS) : Array Value := #[.slice (some ⟨gb, ob, none⟩) n c, .int .i64 (s.1 : Int), .int .i64 (st : Int), .bool s.2]
def rdQc (gb ob n c st : Nat) (s : RS) : Array Value := #[.slice (some ⟨gb, ob, none⟩) st c, .int .i64 (s.1 : Int), .bool (!s.2)]
structure RdP (g gb ob c st : Nat) (bs : List UInt8) (s : RS) (w : World) : Prop where
 bx : Bx g (rdPc gb ob bs.length c st s) 143 w
 by_ : BsA w gb ob bs
 ne : gb ≠ g
 at_ : s.1 ≤ st
 st_ : st ≤ bs.length
 cap : bs.length ≤ c
 mx : c ≤ maxLen
theorem RdP.keep {S : Nat → Prop} {g gb ob c st : Nat} {bs : List UInt8} {s : RS} {w w' : World} (h : RdP g gb ob c st bs s w) (hf : Frm S w w') (h1 : ¬ S g) (h2 : ¬ S gb) : RdP g gb ob c st bs s w' :=
 ⟨(hf.block g h.bx.lt h1).trans h.bx, h.by_.frm hf h2, h.ne, h.at_, h.st_, h.cap, h.mx⟩
theorem RdP.below {g gb ob c st : Nat} {bs : List UInt8} {s : RS} {w w' : World} (h : RdP g gb ob c st bs s w) (hb : Below w.heap.size w w') : RdP g gb ob c st bs s w' := h.keep (S := fun _ => False) (Frm.of_below hb) id id
theorem RdP.to {g gb ob c st : Nat} {bs : List UInt8} {s s' : RS} {w w' : World} (h : RdP g gb ob c st bs s w) (hf : Frm (· = g) w w') (hb : Bx g (rdPc gb ob bs.length c st s') 143 w') (ha : s'.1 ≤ st) : RdP g gb ob c st bs s' w' :=
 ⟨hb, h.by_.frm hf h.ne, h.ne, ha, h.st_, h.cap, h.mx⟩
theorem RdP.lt {g gb ob c st : Nat} {bs : List UInt8} {s : RS} {w : World} (h : RdP g gb ob c st bs s w) : g < w.heap.size := h.bx.lt
structure RdPTo (g gb ob c st : Nat) (bs : List UInt8) (s' : RS) (w w' : World) : Prop where
 r : RdP g gb ob c st bs s' w'
 f : Frm (· = g) w w'
theorem RdPTo.then_ {g gb ob c st : Nat} {bs : List UInt8} {s s' : RS} {w w1 w2 : World} (h : RdPTo g gb ob c st bs s w w1) (k : RdPTo g gb ob c st bs s' w1 w2) : RdPTo g gb ob c st bs s' w w2 := ⟨k.r, h.f.trans k.f⟩
structure RdQ (g gb ob c st : Nat) (bs : List UInt8) (s : RS) (w : World) : Prop where
 bx : Bx g (rdQc gb ob bs.length c st s) 210 w
 by_ : BsA w gb ob bs
 ne : gb ≠ g
 at_ : s.1 ≤ st
 st_ : st ≤ bs.length
 cap : bs.length ≤ c
 mx : c ≤ maxLen
theorem RdQ.keep {S : Nat → Prop} {g gb ob c st : Nat} {bs : List UInt8} {s : RS} {w w' : World} (h : RdQ g gb ob c st bs s w) (hf : Frm S w w') (h1 : ¬ S g) (h2 : ¬ S gb) : RdQ g gb ob c st bs s w' :=
 ⟨(hf.block g h.bx.lt h1).trans h.bx, h.by_.frm hf h2, h.ne, h.at_, h.st_, h.cap, h.mx⟩
theorem RdQ.below {g gb ob c st : Nat} {bs : List UInt8} {s : RS} {w w' : World} (h : RdQ g gb ob c st bs s w) (hb : Below w.heap.size w w') : RdQ g gb ob c st bs s w' := h.keep (S := fun _ => False) (Frm.of_below hb) id id
theorem RdQ.to {g gb ob c st : Nat} {bs : List UInt8} {s s' : RS} {w w' : World} (h : RdQ g gb ob c st bs s w) (hf : Frm (· = g) w w') (hb : Bx g (rdQc gb ob bs.length c st s') 210 w') (ha : s'.1 ≤ st) : RdQ g gb ob c st bs s' w' :=
 ⟨hb, h.by_.frm hf h.ne, h.ne, ha, h.st_, h.cap, h.mx⟩
theorem RdQ.lt {g gb ob c st : Nat} {bs : List UInt8} {s : RS} {w : World} (h : RdQ g gb ob c st bs s w) : g < w.heap.size := h.bx.lt
structure RdQTo (g gb ob c st : Nat) (bs : List UInt8) (s' : RS) (w w' : World) : Prop where
 r : RdQ g gb ob c st bs s' w'
 f : Frm (· = g) w w'
theorem RdQTo.then_ {g gb ob c st : Nat} {bs : List UInt8} {s s' : RS} {w w1 w2 : World} (h : RdQTo g gb ob c st bs s w w1) (k : RdQTo g gb ob c st bs s' w1 w2) : RdQTo g gb ob c st bs s' w w2 := ⟨k.r, h.f.trans k.f⟩
theorem frm_set (w : World) (g j : Nat) (u : Value) : Frm (· = g) w (w.setCell ⟨g, j, none⟩ u) :=
 ⟨rfl, rfl, rfl, by simp, fun k hk hn => heap_setCell_other w ⟨g, j, none⟩ k u (fun e => hn (by simpa using e))⟩
end Go.Proofs.YtidkhnfhkofmoaaGreatDoor
namespace Go.Proofs.YtidkhnfhkofmoaaGreatDoor
open Go.ChangeShapes Go.WideShapes Go.ChangeAt Go.Deep Go.RowKit
set_option linter.unusedVariables false
set_option linter.unusedSimpArgs false
section
variable {H : Type} {enc : TypeId × Value → H} {w : World} {base : Nat} {held : Bool}
theorem cU8B : Tryz.prog.cellsOf 5 = 1 := by kernel_rfl
theorem open_bsv {fuel : Nat} {v : Value} {x : DataW H × List MemPlace} (h : DataW.trod enc Tryz.prog w base (fun _ => true) held fuel 33 [v] = some x) : ∃ bs : List UInt8, BsV w v bs := by
 rcases open_ints Tryz.underlying33 Tryz.underlying5 cU8B h with ⟨hcs, _⟩ | ⟨a, len, cap, zs, hcs, hb, hl, hm, hz, hx, hc, hw⟩
 ·obtain rfl : v = .slice none 0 0 := by simpa using hcs
  exact ⟨[], BsV.nil w⟩
 ·obtain rfl : v = .slice (some a) len cap := by simpa using hcs
  simp only [if_true] at hz
  have hlen : ((zs.take len).map fun z : Int => UInt8.ofNat z.toNat).length = len := by rw [List.length_map, List.length_take]; omega
  refine ⟨(zs.take len).map fun z : Int => UInt8.ofNat z.toNat, some a, cap, by rw [hlen], by rw [hlen]; exact hl, hm, fun h0 => ?_⟩
  rw [hlen] at h0
  obtain ⟨g, o, sp⟩ := a
  have h00 := hc 0 (by omega)
  have hsp : sp = none := by have := World.cell?_spot h00; simpa [Addr.add] using this
  subst hsp
  have h1 : ∀ i, i < zs.length → w.cell? ⟨g, o + i, none⟩ = some (.int .u8 (zs.getD i 0)) := by
   intro i hi
   have := hc i hi
   rwa [Go.WideShapes.add_plain] at this
  refine ⟨g, o, rfl, cell_lt (h1 0 (by omega)), fun j b hj => ?_⟩
  rw [List.getElem?_map] at hj
  cases hz2 : (zs.take len)[j]? with
  | none => rw [hz2] at hj; cases hj
  | some z =>
   rw [hz2] at hj
   injection hj with hj
   have hmem := List.mem_of_mem_take (List.mem_of_getElem? hz2)
   have hwf := hw z hmem
   unfold Lit.wf at hwf
   rw [Bool.and_eq_true, decide_eq_true_iff, decide_eq_true_iff] at hwf
   have z0 : 0 ≤ z := hwf.1
   have z1 : z ≤ 255 := hwf.2
   obtain ⟨hj1, hj2⟩ := List.getElem?_eq_some_iff.1 hz2
   have hjz : j < zs.length := by rw [List.length_take] at hj1; omega
   rw [h1 j hjz, ← hj]
   have e : zs.getD j 0 = z := by
    rw [← hj2, List.getElem_take, List.getD_eq_getElem?_getD, List.getElem?_eq_getElem hjz]; rfl
   rw [e]
   unfold u8c
   congr 2
   rw [UInt8.toNat_ofNat']
   omega
end
end Go.Proofs.YtidkhnfhkofmoaaGreatDoor
