/-
  Several texts as one.
-/
import Derived.Test.YtlhniiakacbbeaaGreatDoorMG02
import Derived.Test.YtlhniiakacbbeaaGreatDoorMG03
import Derived.Laws.BytesString
import Derived.Laws.Cells
import Derived.Laws.BitsAllLaws
namespace Go.Proofs.YtlhniiakacbbeaaGreatDoor
open Go.RowKit
set_option linter.unusedVariables false
set_option linter.unusedSimpArgs false
def u8c (b : UInt8) : Value := .int .u8 (b.toNat : Int)
def BsA (w : World) (g o : Nat) (bs : List UInt8) : Prop := g < w.heap.size ∧ ∀ j b, bs[j]? = some b → w.cell? ⟨g, o + j, none⟩ = some (u8c b)
theorem BsA.frm {S : Nat → Prop} {w w' : World} {g o : Nat} {bs : List UInt8} (h : BsA w g o bs) (hf : Frm S w w') (hs : ¬ S g) : BsA w' g o bs :=
 ⟨Nat.lt_of_lt_of_le h.1 hf.size, fun j b hb => (World.cell?_of_block (w := w) (a := ⟨g, o + j, none⟩) (hf.block g h.1 hs)).trans (h.2 j b hb)⟩
theorem BsA.below {w w' : World} {g o : Nat} {bs : List UInt8} (h : BsA w g o bs) (hb : Below w.heap.size w w') : BsA w' g o bs := h.frm (S := fun _ => False) (Frm.of_below hb) id
theorem BsA.cell {w : World} {g o : Nat} {bs : List UInt8} (h : BsA w g o bs) {j : Nat} (hj : j < bs.length) : w.cell? ⟨g, o + j, none⟩ = some (.int .u8 (bs[j].toNat : Int)) := h.2 j _ (List.getElem?_eq_getElem hj)
theorem BsA.drop {w : World} {g o : Nat} {bs : List UInt8} (h : BsA w g o bs) (i : Nat) : BsA w g (o + i) (bs.drop i) :=
 ⟨h.1, fun j b hb => by rw [List.getElem?_drop] at hb; rw [Nat.add_assoc]; exact h.2 _ b hb⟩
theorem BsA.take {w : World} {g o : Nat} {bs : List UInt8} (h : BsA w g o bs) (i : Nat) : BsA w g o (bs.take i) :=
 ⟨h.1, fun j b hb => by
  rw [List.getElem?_take] at hb
  split at hb
  ·exact h.2 _ b hb
  ·cases hb⟩
theorem BsA.nil {w : World} {g o : Nat} (h : g < w.heap.size) : BsA w g o [] := ⟨h, fun j b hb => by simp at hb⟩
def subV (g o c i k : Nat) : Value := .slice (some ⟨g, if c = i then o else o + i, none⟩) k (c - i)
def BsV (w : World) (v : Value) (bs : List UInt8) : Prop := ∃ A c, v = .slice A bs.length c ∧ bs.length ≤ c ∧ c ≤ maxLen ∧ (0 < bs.length → ∃ g o, A = some ⟨g, o, none⟩ ∧ BsA w g o bs)
theorem BsV.nil (w : World) : BsV w (.slice none 0 0) [] := ⟨none, 0, rfl, Nat.le_refl _, by unfold maxLen; omega, fun h => absurd h (by simp)⟩
theorem BsV.sub {w : World} {g o c i k : Nat} {bs : List UInt8} (h : BsA w g o bs) (hc : bs.length ≤ c) (hm : c ≤ maxLen) (hk : i + k ≤ bs.length) : BsV w (subV g o c i k) ((bs.drop i).take k) := by
 have hl : ((bs.drop i).take k).length = k := by rw [List.length_take, List.length_drop]; omega
 unfold subV
 refine ⟨some ⟨g, if c = i then o else o + i, none⟩, c - i, by rw [hl], by rw [hl]; omega, by omega, fun h0 => ?_⟩
 rw [hl] at h0
 rw [if_neg (by omega)]
 exact ⟨g, o + i, rfl, (h.drop i).take k⟩
theorem BsV.frm {S : Nat → Prop} {w w' : World} {v : Value} {bs : List UInt8} (h : BsV w v bs) (hf : Frm S w w') (hs : ∀ g o n c, v = .slice (some ⟨g, o, none⟩) n c → ¬ S g) : BsV w' v bs := by
 obtain ⟨A, c, rfl, hc, hm, hx⟩ := h
 refine ⟨A, c, rfl, hc, hm, fun h0 => ?_⟩
 obtain ⟨g, o, rfl, hb⟩ := hx h0
 exact ⟨g, o, rfl, hb.frm hf (hs g o _ _ rfl)⟩
theorem BsV.below {w w' : World} {v : Value} {bs : List UInt8} (h : BsV w v bs) (hb : Below w.heap.size w w') : BsV w' v bs := h.frm (S := fun _ => False) (Frm.of_below hb) (fun _ _ _ _ _ => id)
def rdPc (gb ob n c st : Nat) (s : RS) : Array Value := #[.slice (some ⟨gb, ob, none⟩) n c, .int .i64 (s.1 : Int), .int .i64 (st : Int), .bool s.2]
def rdQc (gb ob n c st : Nat) (s : RS) : Array Value := #[.slice (some ⟨gb, ob, none⟩) st c, .int .i64 (s.1 : Int), .bool (!s.2)]
structure RdP (g gb ob c st : Nat) (bs : List UInt8) (s : RS) (w : World) : Prop where
 bx : Bx g (rdPc gb ob bs.length c st s) 210 w
 by_ : BsA w gb ob bs
 ne : gb ≠ g
 at_ : s.1 ≤ st
 st_ : st ≤ bs.length
 cap : bs.length ≤ c
 mx : c ≤ maxLen
theorem RdP.keep {S : Nat → Prop} {g gb ob c st : Nat} {bs : List UInt8} {s : RS} {w w' : World} (h : RdP g gb ob c st bs s w) (hf : Frm S w w') (h1 : ¬ S g) (h2 : ¬ S gb) : RdP g gb ob c st bs s w' :=
 ⟨(hf.block g h.bx.lt h1).trans h.bx, h.by_.frm hf h2, h.ne, h.at_, h.st_, h.cap, h.mx⟩
theorem RdP.below {g gb ob c st : Nat} {bs : List UInt8} {s : RS} {w w' : World} (h : RdP g gb ob c st bs s w) (hb : Below w.heap.size w w') : RdP g gb ob c st bs s w' := h.keep (S := fun _ => False) (Frm.of_below hb) id id
theorem RdP.to {g gb ob c st : Nat} {bs : List UInt8} {s s' : RS} {w w' : World} (h : RdP g gb ob c st bs s w) (hf : Frm (· = g) w w') (hb : Bx g (rdPc gb ob bs.length c st s') 210 w') (ha : s'.1 ≤ st) : RdP g gb ob c st bs s' w' :=
 ⟨hb, h.by_.frm hf h.ne, h.ne, ha, h.st_, h.cap, h.mx⟩
theorem RdP.lt {g gb ob c st : Nat} {bs : List UInt8} {s : RS} {w : World} (h : RdP g gb ob c st bs s w) : g < w.heap.size := h.bx.lt
structure RdPTo (g gb ob c st : Nat) (bs : List UInt8) (s' : RS) (w w' : World) : Prop where
 r : RdP g gb ob c st bs s' w'
 f : Frm (· = g) w w'
theorem RdPTo.then_ {g gb ob c st : Nat} {bs : List UInt8} {s s' : RS} {w w1 w2 : World} (h : RdPTo g gb ob c st bs s w w1) (k : RdPTo g gb ob c st bs s' w1 w2) : RdPTo g gb ob c st bs s' w w2 := ⟨k.r, h.f.trans k.f⟩
structure RdQ (g gb ob c st : Nat) (bs : List UInt8) (s : RS) (w : World) : Prop where
 bx : Bx g (rdQc gb ob bs.length c st s) 298 w
 by_ : BsA w gb ob bs
 ne : gb ≠ g
 at_ : s.1 ≤ st
 st_ : st ≤ bs.length
 cap : bs.length ≤ c
 mx : c ≤ maxLen
theorem RdQ.keep {S : Nat → Prop} {g gb ob c st : Nat} {bs : List UInt8} {s : RS} {w w' : World} (h : RdQ g gb ob c st bs s w) (hf : Frm S w w') (h1 : ¬ S g) (h2 : ¬ S gb) : RdQ g gb ob c st bs s w' :=
 ⟨(hf.block g h.bx.lt h1).trans h.bx, h.by_.frm hf h2, h.ne, h.at_, h.st_, h.cap, h.mx⟩
theorem RdQ.below {g gb ob c st : Nat} {bs : List UInt8} {s : RS} {w w' : World} (h : RdQ g gb ob c st bs s w) (hb : Below w.heap.size w w') : RdQ g gb ob c st bs s w' := h.keep (S := fun _ => False) (Frm.of_below hb) id id
theorem RdQ.to {g gb ob c st : Nat} {bs : List UInt8} {s s' : RS} {w w' : World} (h : RdQ g gb ob c st bs s w) (hf : Frm (· = g) w w') (hb : Bx g (rdQc gb ob bs.length c st s') 298 w') (ha : s'.1 ≤ st) : RdQ g gb ob c st bs s' w' :=
 ⟨hb, h.by_.frm hf h.ne, h.ne, ha, h.st_, h.cap, h.mx⟩
theorem RdQ.lt {g gb ob c st : Nat} {bs : List UInt8} {s : RS} {w : World} (h : RdQ g gb ob c st bs s w) : g < w.heap.size := h.bx.lt
structure RdQTo (g gb ob c st : Nat) (bs : List UInt8) (s' : RS) (w w' : World) : Prop where
 r : RdQ g gb ob c st bs s' w'
 f : Frm (· = g) w w'
theorem RdQTo.then_ {g gb ob c st : Nat} {bs : List UInt8} {s s' : RS} {w w1 w2 : World} (h : RdQTo g gb ob c st bs s w w1) (k : RdQTo g gb ob c st bs s' w1 w2) : RdQTo g gb ob c st bs s' w w2 := ⟨k.r, h.f.trans k.f⟩
theorem frm_set (w : World) (g j : Nat) (u : Value) : Frm (· = g) w (w.setCell ⟨g, j, none⟩ u) :=
 ⟨rfl, rfl, rfl, by simp, fun k hk hn => heap_setCell_other w ⟨g, j, none⟩ k u (fun e => hn (by simpa using e))⟩
theorem RdP.fail {g gb ob c st : Nat} {bs : List UInt8} {a : Nat} {b : Bool} {w : World} (h : RdP g gb ob c st bs (a, b) w) : RdPTo g gb ob c st bs (a, true) w (w.setCell ⟨g, 3, none⟩ (.bool true)) :=
 ⟨h.to (frm_set w g 3 _) (h.bx.set 3 _) h.at_, frm_set w g 3 _⟩
theorem RdP.on {g gb ob c st : Nat} {bs : List UInt8} {a n : Nat} {w : World} (h : RdP g gb ob c st bs (a, false) w) (hn : a + n ≤ st) : RdPTo g gb ob c st bs (a + n, false) w (w.setCell ⟨g, 1, none⟩ (.int .i64 ((a + n : Nat) : Int))) :=
 ⟨h.to (frm_set w g 1 _) (h.bx.set 1 _) hn, frm_set w g 1 _⟩
def ImTakePost (g gb ob c st : Nat) (bs : List UInt8) (n : Nat) (s : RS) (w : World) (e : Ending) (w' : World) : Prop :=
 (∃ v, e = .returned v ∧ BsV w' v (tkV bs st n s)) ∧ RdPTo g gb ob c st bs (tkS st n s) w w'
set_option maxRecDepth 100000 in
set_option maxHeartbeats 8000000 in
theorem imTake_any {g gb ob c st : Nat} {bs : List UInt8} (s : RS) (n : Nat) (w : World) (h : RdP g gb ob c st bs s w) (hn : n ≤ 4294967296) :
  Calls Tryz.prog 140 #[.pointer (some ⟨g, 0, none⟩), .int .i64 (n : Int)] w (ImTakePost g gb ob c st bs n s w) := by
 obtain ⟨a, b⟩ := s
 have k0 := h.bx.cell 0 (u := .slice (some ⟨gb, ob, none⟩) bs.length c) rfl
 have k1 := h.bx.cell 1 (u := .int .i64 (a : Int)) rfl
 have k2 := h.bx.cell 2 (u := .int .i64 (st : Int)) rfl
 have k3 := h.bx.cell 3 (u := .bool b) rfl
 have f1 := h.bx.free 1
 have f3 := h.bx.free 3
 have ha : a ≤ st := h.at_
 have hst := h.st_
 have hcp := h.cap
 have hmx := h.mx
 have hdn : decide ((n : Int) < 0) = false := decide_eq_false (by omega)
 have HNO : Hid ((b = true ∨ st - a < n) → ∀ W, Below w.heap.size w W → ImTakePost g gb ob c st bs n (a, b) w (.returned (.slice none 0 0)) (W.setCell ⟨g, 3, none⟩ (.bool true))) := by
  intro hb W hW
  unfold ImTakePost
  rw [tkV_no hb, tkS_no hb]
  have hr := (h.below hW).fail
  exact ⟨⟨_, rfl, BsV.nil _⟩, hr.r, (Frm.of_below hW).trans hr.f⟩
 have HYES : Hid (b = false → ¬ st - a < n → ∀ W, Below w.heap.size w W → ImTakePost g gb ob c st bs n (a, b) w (.returned (subV gb ob c a n)) (W.setCell ⟨g, 1, none⟩ (.int .i64 ((a : Int) + (n : Int))))) := by
  rintro rfl hb W hW
  unfold ImTakePost
  rw [tkV_yes hb, tkS_yes hb]
  have hr := (h.below hW).on (n := n) (by omega)
  rw [show ((a + n : Nat) : Int) = (a : Int) + (n : Int) by omega] at hr
  exact ⟨⟨_, rfl, BsV.sub hr.r.by_ hcp hmx (by omega)⟩, hr.r, (Frm.of_below hW).trans hr.f⟩
 unfold maxLen at hmx
 obtain ⟨N, hN⟩ : ∃ N, bs.length = N := ⟨_, rfl⟩
 rw [hN] at k0 hst hcp
 clear h hN
 have hw1 : IntKind.i64.wrap ((st : Int) - (a : Int)) = (st : Int) - (a : Int) := by rw [IntKind.wrap_i64]; omega
 cases b with
 | true =>
  go_enter Tryz.func140, Tryz.ntmps140
  go_wp2
  go_quiet (fail)
  go_wp2
  go_ret
  exact HNO.out (.inl (by first | rfl | trivial)) _ (by repeat (first | exact Below.refl _ _ | with_reducible refine below_drewN' ?_ _ | with_reducible refine Below.drew ?_))
 | false =>
  by_cases hlt : st - a < n
  ·have hd : decide ((st : Int) - (a : Int) < (n : Int)) = true := decide_eq_true (by omega)
   go_enter Tryz.func140, Tryz.ntmps140
   go_wp2
   go_quiet (fail)
   go_wp2
   go_ret
   exact HNO.out (.inr hlt) _ (by repeat (first | exact Below.refl _ _ | with_reducible refine below_drewN' ?_ _ | with_reducible refine Below.drew ?_))
  ·have hd : decide ((st : Int) - (a : Int) < (n : Int)) = false := decide_eq_false (by omega)
   have hw2 : IntKind.i64.wrap ((a : Int) + (n : Int)) = (a : Int) + (n : Int) := by rw [IntKind.wrap_i64]; omega
   by_cases hca : c = a
   ·have HV : Hid (subV gb ob c a n = .slice (some ⟨gb, ob, none⟩) (a + n - a) 0) := by
     unfold Hid subV; rw [if_pos hca, Nat.add_sub_cancel_left, hca, Nat.sub_self]
    go_enter Tryz.func140, Tryz.ntmps140
    go_wp2
    go_quiet (fail)
    go_wp2
    go_quiet (fail)
    go_wp2
    go_ret
    have hz := HYES.out (by first | rfl | trivial) hlt
    rw [HV.out] at hz
    exact hz _ (below_drewN' (Below.refl _ _) _)
   ·have HV : Hid (subV gb ob c a n = .slice (some ⟨gb, ob + a, none⟩) (a + n - a) (c - a)) := by
     unfold Hid subV; rw [if_neg hca, Nat.add_sub_cancel_left]
    go_enter Tryz.func140, Tryz.ntmps140
    go_wp2
    go_quiet (fail)
    go_wp2
    go_quiet (fail)
    go_wp2
    go_ret
    have hz := HYES.out (by first | rfl | trivial) hlt
    rw [HV.out] at hz
    exact hz _ (below_drewN' (Below.refl _ _) _)
theorem byV_no {bs : List UInt8} {st a : Nat} {b : Bool} (h : b = true ∨ st - a < 1) : byV bs st (a, b) = 0 := by unfold byV; rw [tkV_no h]; rfl
theorem byV_yes {bs : List UInt8} {st a : Nat} (h : ¬ st - a < 1) (hl : a < bs.length) : byV bs st (a, false) = bs[a] := by
 unfold byV
 rw [tkV_yes h, List.headD_eq_head?_getD, List.head?_take, List.head?_drop, List.getElem?_eq_getElem hl]; rfl
theorem tkS_good {st n a : Nat} {b : Bool} (h : (tkS st n (a, b)).2 = false) : b = false ∧ ¬ st - a < n := by
 unfold tkS at h
 split at h
 ·cases h
 ·rename_i hn
  simp only [not_or] at hn
  exact ⟨by simpa using hn.1, hn.2⟩
theorem tkV_bad {bs : List UInt8} {st n a : Nat} {b : Bool} (h : (tkS st n (a, b)).2 = true) : tkV bs st n (a, b) = [] := by
 unfold tkS at h
 split at h
 ·rename_i hn; exact tkV_no hn
 ·cases h
set_option maxRecDepth 100000 in
set_option maxHeartbeats 8000000 in
theorem imByte_any {g gb ob c st : Nat} {bs : List UInt8} (s : RS) (w : World) (h : RdP g gb ob c st bs s w) :
  Calls Tryz.prog 141 #[.pointer (some ⟨g, 0, none⟩)] w fun e w' => e = .returned (.int .u8 ((byV bs st s).toNat : Int)) ∧ RdPTo g gb ob c st bs (tkS st 1 s) w w' := by
 obtain ⟨a, b⟩ := s
 have ht := imTake_any (a, b) 1 w h (by omega)
 go_enter Tryz.func141, Tryz.ntmps141
 go_wp2_with fail
 refine ht.mono ?_
 rintro e w1 ⟨⟨v, rfl, hv⟩, hr⟩
 have HR := Lib.hid hr
 have k3 := hr.r.bx.cell 3 (u := .bool (tkS st 1 (a, b)).2) rfl
 clear ht h
 cases h2 : (tkS st 1 (a, b)).2 with
 | true =>
  rw [h2] at k3
  have HV : Hid (byV bs st (a, b) = 0) := by unfold Hid byV; rw [tkV_bad h2]; rfl
  rw [tkV_bad h2] at hv
  obtain ⟨A, c', rfl, -, -, -⟩ := hv
  clear h2 hr
  go_wp2
  go_ret
  rw [HV.out]
  exact ⟨rfl, HR.out⟩
 | false =>
  rw [h2] at k3
  obtain ⟨rfl, hn⟩ := tkS_good h2
  have hst := hr.r.st_
  have hal : a < bs.length := by omega
  have HV : Hid (byV bs st (a, false) = bs[a]) := byV_yes hn hal
  rw [tkV_yes hn] at hv
  have hl1 : ((bs.drop a).take 1).length = 1 := by rw [List.length_take, List.length_drop]; omega
  obtain ⟨A, c', rfl, hc', hm', hx⟩ := hv
  rw [hl1] at hx hc' ⊢
  obtain ⟨g', o', rfl, hb⟩ := hx (by omega)
  have k := hb.cell (j := 0) (by omega)
  rw [Nat.add_zero, List.getElem_take, List.getElem_drop] at k
  simp only [Nat.add_zero] at k
  obtain ⟨x, hx'⟩ : ∃ x : UInt8, bs[a] = x := ⟨_, rfl⟩
  rw [hx'] at k HV
  clear h2 hr hx hb hl1 hx'
  go_wp2
  go_ret
  rw [HV.out]
  exact ⟨rfl, HR.out⟩
theorem or_low (A B k : Nat) (hA : A < 256 ^ k) (hk : k ≤ 7) (hB : B < 256) : bits .or .u64 (A : Int) ((B * 256 ^ k : Nat) : Int) = ((A + B * 256 ^ k : Nat) : Int) := by
 have e : 256 ^ k = 2 ^ (8 * k) := by rw [Nat.pow_mul]
 have h8 : 256 ^ k ≤ 256 ^ 7 := Nat.pow_le_pow_right (by omega) hk
 have hb2 : B * 256 ^ k ≤ 255 * 256 ^ k := Nat.mul_le_mul_right _ (by omega)
 rw [u64_or_nat A (B * 256 ^ k) (by omega) (by omega)]
 congr 1
 rw [e] at hA ⊢
 rw [Nat.or_comm, ← Nat.shiftLeft_eq, ← Nat.shiftLeft_add_eq_or_of_lt hA, Nat.add_comm]
theorem shl_low (B k : Nat) (hk : k ≤ 7) (hB : B < 256) : IntKind.u64.wrap ((B : Int) * 2 ^ (8 * k)) = ((B * 256 ^ k : Nat) : Int) := by
 have h8 : 256 ^ k ≤ 256 ^ 7 := Nat.pow_le_pow_right (by omega) hk
 have hb2 : B * 256 ^ k ≤ 255 * 256 ^ k := Nat.mul_le_mul_right _ (by omega)
 have e : (B : Int) * 2 ^ (8 * k) = ((B * 256 ^ k : Nat) : Int) := by
  rw [Int.natCast_mul, Int.natCast_pow, show ((256 : Nat) : Int) = 2 ^ 8 from rfl, ← Int.pow_mul]
 rw [e, IntKind.wrap_u64]; omega
theorem foldl_push (l : List UInt8) : ∀ (s : ByteArray), bl ((l.map fun b => ((b.toNat : Nat) : Int)).foldl (fun r n => r.push (UInt8.ofNat n.toNat)) s) = bl s ++ l := by
 induction l with
 | nil => intro s; simp
 | cons b l ih =>
  intro s
  rw [List.map_cons, List.foldl_cons, ih]
  have e : UInt8.ofNat (((b.toNat : Nat) : Int).toNat) = b := by simp
  rw [e]
  have : bl (s.push b) = bl s ++ [b] := by unfold bl; rw [ByteArray.data_push, Array.toList_push]
  rw [this, List.append_assoc]; rfl
theorem bsv_string' {w : World} {v : Value} {l : List UInt8} (h : BsV w v l) : ∃ t : ByteArray, (convert 68 9 v).run Tryz.prog w = .ok (.string t) w ∧ bl t = l := by
 obtain ⟨A, c, rfl, hc, hm, hx⟩ := h
 rw [run_convert_bytes_string w _ _ _ _ _ _ Tryz.underlying68 Tryz.underlying5 Tryz.underlying9]
 cases A with
 | none =>
  have h0 : l = [] := by
   cases l with
   | nil => rfl
   | cons b l => obtain ⟨g, o, h, _⟩ := hx (by simp); cases h
  subst h0
  exact ⟨_, rfl, rfl⟩
 | some a =>
  refine ⟨_, run_bytesToString w a l.length c (l.map fun b => ((b.toNat : Nat) : Int)) ?_, ?_⟩
  ·have e : l.length = ((l.map fun b => ((b.toNat : Nat) : Int)).map (Value.int .u8)).length := by simp
   rw [e]
   apply run_loadCells_list
   intro j v hv
   rcases Nat.eq_zero_or_pos l.length with h0 | h0
   ·rw [List.eq_nil_of_length_eq_zero h0] at hv; simp at hv
   ·obtain ⟨g, o, ha, hb⟩ := hx h0
    injection ha with ha
    subst ha
    rw [List.getElem?_map, List.getElem?_map] at hv
    cases hj : l[j]? with
    | none => rw [hj] at hv; cases hv
    | some b =>
     rw [hj] at hv
     injection hv with hv
     rw [Addr.add_lit, ← hv]
     exact hb.2 j b hj
  ·rw [foldl_push]; rfl
theorem bsv_string {w : World} {v : Value} {l : List UInt8} (h : BsV w v l) : (convert 68 9 v).run Tryz.prog w = .ok (.string (sb l)) w := by
 obtain ⟨t, h1, h2⟩ := bsv_string' h
 rw [h1, ← h2, sb_bl]
theorem loN_next {l : List UInt8} {k : Nat} (hk : k < l.length) : loN (l.take (k + 1)) = loN (l.take k) + l[k].toNat * 256 ^ k := by
 rw [List.take_succ_eq_append_getElem hk, loN_snoc, List.length_take, Nat.min_eq_left (by omega)]
theorem loN_take_lt (l : List UInt8) (k : Nat) : loN (l.take k) < 256 ^ k := by
 have h1 := loN_lt (l.take k)
 have h2 : (l.take k).length ≤ k := by rw [List.length_take]; omega
 exact Nat.lt_of_lt_of_le h1 (Nat.pow_le_pow_right (by omega) h2)
set_option maxRecDepth 100000 in
set_option maxHeartbeats 8000000 in
theorem imLow_any {g gb ob c st : Nat} {bs : List UInt8} (s : RS) (n : Nat) (w : World) (h : RdP g gb ob c st bs s w) (hn : n ≤ 8) :
  Calls Tryz.prog 142 #[.pointer (some ⟨g, 0, none⟩), .int .i64 (n : Int)] w fun e w' => e = .returned (.int .i64 (IntKind.i64.wrap (loN (tkV bs st n s)))) ∧ RdPTo g gb ob c st bs (tkS st n s) w w' := by
 have ht := imTake_any s n w h (by omega)
 unfold ImTakePost at ht
 have hlen : (tkV bs st n s).length ≤ n := tkV_len
 obtain ⟨l, hl⟩ : ∃ l, tkV bs st n s = l := ⟨_, rfl⟩
 rw [hl] at ht hlen ⊢
 go_enter Tryz.func142, Tryz.ntmps142
 go_wp2_with fail
 refine ht.mono ?_
 rintro e w1 ⟨⟨v, rfl, hv⟩, hr⟩
 have HR := Lib.hid hr
 clear ht h
 obtain ⟨A, c', rfl, hc', hm', hx⟩ := hv
 obtain ⟨m, hm⟩ : ∃ m, l.length = m := ⟨_, rfl⟩
 rw [hm] at hc' hx hlen ⊢
 have HX := Lib.hid hx
 have HM := Lib.hid hm
 unfold maxLen at hm'
 clear hx hm hr hl
 go_wp2
 go_loopw [5, 12] (fun nv iv wr => ∃ k : Nat, k ≤ m ∧ iv = .int .i64 (k : Int) ∧ nv = .int .u64 ((loN (l.take k) : Nat) : Int) ∧ wr = w1) (fun _ iv _ => m - (intOf iv).toNat)
 case atStart => exact ⟨0, Nat.zero_le _, rfl, rfl, rfl⟩
 case round =>
  obtain ⟨k, hk, rfl, rfl, rfl⟩ := hrel
  by_cases hlt : k < m
  ·have hkl : k < l.length := by rw [HM.out]; exact hlt
   obtain ⟨g', o', rfl, hb⟩ := HX.out (by omega)
   have k0 := hb.cell hkl
   have hnx := loN_next hkl
   have htl := loN_take_lt l k
   have hx8 := l[k].toNat_lt
   obtain ⟨B, hB⟩ : ∃ B : Nat, l[k].toNat = B := ⟨_, rfl⟩
   obtain ⟨Ac, hAc⟩ : ∃ Ac : Nat, loN (l.take k) = Ac := ⟨_, rfl⟩
   rw [hB] at k0 hnx hx8
   rw [hAc] at hnx htl ⊢
   have hk7 : k ≤ 7 := by omega
   have hsh := shl_low B k hk7 (by omega)
   have hor := or_low Ac B k htl hk7 (by omega)
   obtain ⟨P, hP⟩ : ∃ P : Nat, B * 256 ^ k = P := ⟨_, rfl⟩
   rw [hP] at hsh hor hnx
   have HNX := Lib.hid hnx
   have hm8 : IntKind.i64.wrap (8 * (k : Int)) = ((8 * k : Nat) : Int) := by rw [IntKind.wrap_i64]; omega
   have htn : (((8 * k : Nat) : Int)).toNat = 8 * k := by omega
   have hw8 : IntKind.u64.wrap (B : Int) = (B : Int) := by rw [IntKind.wrap_u64]; omega
   clear hb hB hAc hP hnx htl
   go_wp2
   go_roundw
   case rel => exact ⟨k + 1, hlt, by go_num, by rw [HNX.out, Int.natCast_add], by trivial⟩
   case measure => simp [intOf]; omega
  ·have hkn : l.take k = l := List.take_of_length_le (by rw [HM.out]; omega)
   rw [hkn]
   clear hkn
   obtain ⟨N, hN⟩ : ∃ N : Int, ((loN l : Nat) : Int) = N := ⟨_, rfl⟩
   rw [hN]
   have HN := Lib.hid hN
   clear hN
   go_wp2
   go_ret
   rw [HN.out]
   rw [show IntKind.i64.wrap N = wrap64 N by simp only [IntKind.wrap_i64, wrap64]]
   exact ⟨rfl, HR.out⟩
theorem imNum_any {g gb ob c st : Nat} {bs : List UInt8} (s : RS) (w : World) (h : RdP g gb ob c st bs s w) :
  Calls Tryz.prog 144 #[.pointer (some ⟨g, 0, none⟩)] w fun e w' => e = .returned (.int .i64 (n8V bs st s)) ∧ RdPTo g gb ob c st bs (n8S st s) w w' := by
 have ht := imLow_any s 8 w h (by omega)
 go_enter Tryz.func144, Tryz.ntmps144
 go_wp2_with fail
 refine ht.mono ?_
 rintro e w1 ⟨rfl, hr⟩
 have HR := Lib.hid hr
 clear ht h hr
 go_wp2
 go_ret
 exact ⟨rfl, HR.out⟩
theorem imText_any {g gb ob c st : Nat} {bs : List UInt8} (s : RS) (w : World) (h : RdP g gb ob c st bs s w) :
  Calls Tryz.prog 143 #[.pointer (some ⟨g, 0, none⟩)] w fun e w' => e = .returned (.string (sb (txV bs st s))) ∧ RdPTo g gb ob c st bs (txS bs st s) w w' := by
 have h1 := imByte_any s w h
 have h2 := fun W (hW : RdP g gb ob c st bs (tkS st 1 s) W) => imTake_any (tkS st 1 s) (byV bs st s).toNat W hW (by have := (byV bs st s).toNat_lt; omega)
 have hx8 := (byV bs st s).toNat_lt
 obtain ⟨B, hB⟩ : ∃ B : Nat, (byV bs st s).toNat = B := ⟨_, rfl⟩
 have HS : Hid (txS bs st s = tkS st B (tkS st 1 s)) := by unfold Hid txS; rw [hB]
 have HV : Hid (txV bs st s = tkV bs st B (tkS st 1 s)) := by unfold Hid txV; rw [hB]
 rw [hB] at h1 h2 hx8
 have H2 := Lib.hid h2
 clear hB h2
 go_enter Tryz.func143, Tryz.ntmps143
 go_wp2_with fail
 refine h1.mono ?_
 rintro e w1 ⟨rfl, hr⟩
 have HR1 := Lib.hid hr
 have h3 := H2.out w1 hr.r
 clear h1 hr h H2
 go_wp2_with fail
 refine h3.mono ?_
 rintro e w2 ⟨⟨v, rfl, hv⟩, hr2⟩
 have HR2 := Lib.hid (HR1.out.then_ hr2)
 have hcv := bsv_string hv
 obtain ⟨l, hl⟩ : ∃ l, tkV bs st B (tkS st 1 s) = l := ⟨_, rfl⟩
 rw [hl] at hcv
 have HL := Lib.hid hl
 clear h3 hr2 hv HR1 hl
 go_wp2
 go_ret
 rw [HS.out, HV.out, HL.out]
 exact ⟨rfl, HR2.out⟩
def stB (r : Int) : Int := if (bits .and .u32 r 1 == 1) = true then bits .xor .u32 (r / 2) 3988292384 else r / 2
def stN : Nat → Int → Int
 | 0, r => r
 | k + 1, r => stB (stN k r)
def stF (r : Int) (b : UInt8) : Int := stN 8 (bits .xor .u32 r (b.toNat : Int))
def crG (r : Int) (bs : List UInt8) : Int := bs.foldl stF r
def crcF (bs : List UInt8) : Int := bits .xor .u32 IntKind.u32.max (crG 4294967295 bs)
theorem xor32_bd (a b : Int) (h1 : 0 ≤ a) (h2 : a < 4294967296) (h3 : 0 ≤ b) (h4 : b < 4294967296) : 0 ≤ bits .xor .u32 a b ∧ bits .xor .u32 a b < 4294967296 := by
 rw [u32_xor a b h1 h2 h3 h4]
 have : a.toNat ^^^ b.toNat < 2 ^ 32 := Nat.xor_lt_two_pow (by omega) (by omega)
 omega
theorem stB_bd {r : Int} (h : 0 ≤ r ∧ r < 4294967296) : 0 ≤ stB r ∧ stB r < 4294967296 := by
 unfold stB; split
 ·exact xor32_bd _ _ (by omega) (by omega) (by omega) (by omega)
 ·omega
theorem stN_bd : ∀ (k : Nat) {r : Int}, 0 ≤ r ∧ r < 4294967296 → 0 ≤ stN k r ∧ stN k r < 4294967296
 | 0, _, h => h
 | k + 1, _, h => stB_bd (stN_bd k h)
theorem stF_bd {r : Int} (b : UInt8) (h : 0 ≤ r ∧ r < 4294967296) : 0 ≤ stF r b ∧ stF r b < 4294967296 := stN_bd 8 (xor32_bd _ _ h.1 h.2 (by omega) (by have := b.toNat_lt; omega))
theorem crG_bd : ∀ (bs : List UInt8) {r : Int}, 0 ≤ r ∧ r < 4294967296 → 0 ≤ crG r bs ∧ crG r bs < 4294967296
 | [], _, h => h
 | b :: bs, _, h => crG_bd bs (stF_bd b h)
theorem crG_snoc (r : Int) (bs : List UInt8) (k : Nat) (hk : k < bs.length) : crG r (bs.take (k + 1)) = stF (crG r (bs.take k)) bs[k] := by
 unfold crG; rw [List.take_succ_eq_append_getElem hk, List.foldl_append]; rfl
theorem crcF_bd (bs : List UInt8) : 0 ≤ crcF bs ∧ crcF bs < 4294967296 := by
 have := crG_bd bs (r := 4294967295) (by omega)
 unfold crcF
 exact xor32_bd _ _ (by decide) (by decide) this.1 this.2
set_option maxRecDepth 100000 in
set_option maxHeartbeats 4000000 in
theorem cstep_any (r : Int) (b : UInt8) (w : World) (h0 : 0 ≤ r) (h1 : r < 4294967296) :
  Calls Tryz.prog 280 #[.int .u32 r, .int .u8 (b.toNat : Int)] w fun e w' => e = .returned (.int .u32 (stF r b)) ∧ w = w' := by
 obtain ⟨B, hB⟩ : ∃ B : Int, (b.toNat : Int) = B := ⟨_, rfl⟩
 have hb0 : 0 ≤ B := by omega
 have hb1 : B < 256 := by have := b.toNat_lt; omega
 have HR : Hid (stF r b = stN 8 (bits .xor .u32 r B)) := by unfold Hid stF; rw [hB]
 rw [HR.out, hB]
 clear HR hB b
 obtain ⟨x, hx⟩ : ∃ x, bits .xor .u32 r B = x := ⟨_, rfl⟩
 have hxb := xor32_bd r B h0 h1 hb0 (by omega)
 rw [hx] at hxb
 have HX := Lib.hid hx
 rw [hx]
 clear hx
 go_enter Tryz.func280, Tryz.ntmps280
 go_wp2
 rw [HX.out]
 go_loopw [0, 9] (fun rv iv wr => ∃ k : Nat, k ≤ 8 ∧ iv = .int .i64 (k : Int) ∧ rv = .int .u32 (stN k x) ∧ wr = w) (fun _ iv _ => 8 - (intOf iv).toNat)
 case atStart => exact ⟨0, by omega, by first | rfl | go_num, rfl, by trivial⟩
 case round =>
  obtain ⟨k, hk, rfl, rfl, rfl⟩ := hrel
  obtain ⟨y, hy⟩ : ∃ y, stN k x = y := ⟨_, rfl⟩
  have hyb := stN_bd k hxb
  have hn : Hid (stN (k + 1) x = stB y) := by unfold Hid; rw [← hy]; rfl
  rw [hy] at hyb ⊢
  obtain ⟨hy0, hy1⟩ := hyb
  have HY := Lib.hid hy
  clear hy
  rcases Nat.lt_or_ge k 8 with hk8 | hk8
  ·cases ht : (bits .and .u32 y 1 == 1) with
   | true =>
    have HN : Hid (stN (k + 1) x = bits .xor .u32 (y / 2) 3988292384) := by unfold Hid; rw [hn.out]; unfold stB; rw [if_pos ht]
    go_wp2
    go_roundw
    case rel => exact ⟨k + 1, by omega, by go_num, by rw [HN.out], by trivial⟩
    case measure => simp [intOf]; omega
   | false =>
    have HN : Hid (stN (k + 1) x = y / 2) := by unfold Hid; rw [hn.out]; unfold stB; rw [if_neg (by rw [ht]; exact Bool.false_ne_true)]
    go_wp2
    go_roundw
    case rel => exact ⟨k + 1, by omega, by go_num, by rw [HN.out], by trivial⟩
    case measure => simp [intOf]; omega
  ·have hk9 : k = 8 := by omega
   subst hk9
   go_wp2
   go_ret
   rw [HY.out]
   exact ⟨rfl, rfl⟩
set_option maxRecDepth 100000 in
set_option maxHeartbeats 4000000 in
theorem rcstep_any (r : Int) (b : UInt8) (w : World) (h0 : 0 ≤ r) (h1 : r < 4294967296) :
  Calls Tryz.prog 283 #[.int .u32 r, .int .u8 (b.toNat : Int)] w fun e w' => e = .returned (.int .u32 (stF r b)) ∧ w = w' := by
 obtain ⟨B, hB⟩ : ∃ B : Int, (b.toNat : Int) = B := ⟨_, rfl⟩
 have hb0 : 0 ≤ B := by omega
 have hb1 : B < 256 := by have := b.toNat_lt; omega
 have HR : Hid (stF r b = stN 8 (bits .xor .u32 r B)) := by unfold Hid stF; rw [hB]
 rw [HR.out, hB]
 clear HR hB b
 obtain ⟨x, hx⟩ : ∃ x, bits .xor .u32 r B = x := ⟨_, rfl⟩
 have hxb := xor32_bd r B h0 h1 hb0 (by omega)
 rw [hx] at hxb
 have HX := Lib.hid hx
 rw [hx]
 clear hx
 go_enter Tryz.func283, Tryz.ntmps283
 go_wp2
 rw [HX.out]
 go_loopw [0, 5] (fun rv iv wr => ∃ k : Nat, k ≤ 8 ∧ iv = .int .i64 (k : Int) ∧ rv = .int .u32 (stN k x) ∧ wr = w) (fun _ iv _ => 8 - (intOf iv).toNat)
 case atStart => exact ⟨0, by omega, by first | rfl | go_num, rfl, by trivial⟩
 case round =>
  obtain ⟨k, hk, rfl, rfl, rfl⟩ := hrel
  obtain ⟨y, hy⟩ : ∃ y, stN k x = y := ⟨_, rfl⟩
  have hyb := stN_bd k hxb
  have hn : Hid (stN (k + 1) x = stB y) := by unfold Hid; rw [← hy]; rfl
  rw [hy] at hyb ⊢
  obtain ⟨hy0, hy1⟩ := hyb
  have HY := Lib.hid hy
  clear hy
  rcases Nat.lt_or_ge k 8 with hk8 | hk8
  ·cases ht : (bits .and .u32 y 1 == 1) with
   | true =>
    have HN : Hid (stN (k + 1) x = bits .xor .u32 (y / 2) 3988292384) := by unfold Hid; rw [hn.out]; unfold stB; rw [if_pos ht]
    go_wp2
    go_roundw
    case rel => exact ⟨k + 1, by omega, by go_num, by rw [HN.out], by trivial⟩
    case measure => simp [intOf]; omega
   | false =>
    have HN : Hid (stN (k + 1) x = y / 2) := by unfold Hid; rw [hn.out]; unfold stB; rw [if_neg (by rw [ht]; exact Bool.false_ne_true)]
    go_wp2
    go_roundw
    case rel => exact ⟨k + 1, by omega, by go_num, by rw [HN.out], by trivial⟩
    case measure => simp [intOf]; omega
  ·have hk9 : k = 8 := by omega
   subst hk9
   go_wp2
   go_ret
   rw [HY.out]
   exact ⟨rfl, rfl⟩
end Go.Proofs.YtlhniiakacbbeaaGreatDoor
