/-
  Several texts as one.
-/
import Derived.Test.YtlhniiakacbbeaaGreatDoorMG01
import Derived.Test.YtlhniiakacbbeaaGreatDoorBase
import Derived.Test.YtlhniiakacbbeaaGreatDoorMG05
import Derived.IntWalk
namespace Go.Proofs.YtlhniiakacbbeaaGreatDoor
open Go.RowKit
set_option linter.unusedVariables false
set_option linter.unusedSimpArgs false

structure Fx where
 id : List UInt8
 rg : List UInt8
 kd : Nat
 lat : Int
 lon : Int
 el : Int
 ra : Int
def fxc (f : Fx) : List Value := [.string (sb f.id), .string (sb f.rg), .int .u8 (f.kd : Int), .int .i64 f.lat, .int .i64 f.lon, .int .i64 f.el, .int .i64 f.ra]
def fxcells (l : List Fx) : List Value := l.flatMap fxc
def fx0 : Fx := ⟨[], [], 0, 0, 0, 0, 0⟩
def fxRef (f : Fx) : List UInt8 := f.id ++ 47 :: f.rg
theorem blkCell' {w : World} {g : Nat} {cs : Array Value} {T : TypeId} (h : w.heap[g]? = some (.cells cs T (0, 0))) (j : Nat) {u : Value} (hu : cs[j]? = some u) : w.cell? ⟨g, j, none⟩ = some u := by rw [Lib.cell_of_heap h]; exact hu
theorem lt_heap {w : World} {b : Nat} {o : Obj} (h : w.heap[b]? = some o) : b < w.heap.size := (Array.getElem?_eq_some_iff.1 h).1
def FxBox (w : World) (b : Nat) (f : Fx) : Prop := w.heap[b]? = some (.cells #[.string (sb f.id), .string (sb f.rg), .int .u8 (f.kd : Int), .int .i64 f.lat, .int .i64 f.lon, .int .i64 f.el, .int .i64 f.ra] 38 (0, 0))
structure FxCells (w : World) (b : Nat) (a c : ByteArray) (k : Nat) (lat lon el ra : Int) : Prop where
 c0 : w.cell? ⟨b, 0, none⟩ = some (.string a)
 c1 : w.cell? ⟨b, 1, none⟩ = some (.string c)
 c2 : w.cell? ⟨b, 2, none⟩ = some (.int .u8 (k : Int))
 c3 : w.cell? ⟨b, 3, none⟩ = some (.int .i64 lat)
 c4 : w.cell? ⟨b, 4, none⟩ = some (.int .i64 lon)
 c5 : w.cell? ⟨b, 5, none⟩ = some (.int .i64 el)
 c6 : w.cell? ⟨b, 6, none⟩ = some (.int .i64 ra)
theorem FxBox.cells {w : World} {b : Nat} {f : Fx} (h : FxBox w b f) : FxCells w b (sb f.id) (sb f.rg) f.kd f.lat f.lon f.el f.ra :=
 ⟨blkCell' h 0 rfl, blkCell' h 1 rfl, blkCell' h 2 rfl, blkCell' h 3 rfl, blkCell' h 4 rfl, blkCell' h 5 rfl, blkCell' h 6 rfl⟩
theorem FxBox.below {w w' : World} {b : Nat} {f : Fx} (h : FxBox w b f) (hb : Below w.heap.size w w') : FxBox w' b f := (hb.block b (Array.getElem?_eq_some_iff.1 h).1).trans h
theorem fxBox_new (w : World) (f : Fx) : FxBox (w.alloc (.cells #[.string (sb f.id), .string (sb f.rg), .int .u8 (f.kd : Int), .int .i64 f.lat, .int .i64 f.lon, .int .i64 f.el, .int .i64 f.ra] 38)) w.heap.size f := heap_alloc_new w _

def digC (c : UInt8) : Bool := decide (48 ≤ c.toNat) && decide (c.toNat ≤ 57)
def numV (l : List UInt8) : Nat := l.foldl (fun n c => 10 * n + (c.toNat - 48)) 0
theorem numV_snoc (l : List UInt8) (c : UInt8) : numV (l ++ [c]) = 10 * numV l + (c.toNat - 48) := by unfold numV; rw [List.foldl_append]; rfl
theorem fold_lt : ∀ (l : List UInt8) (acc : Nat), l.all digC = true → l.foldl (fun n c => 10 * n + (c.toNat - 48)) acc + 1 ≤ (acc + 1) * 10 ^ l.length
 | [], acc, _ => by simp
 | c :: l, acc, h => by
  rw [List.all_cons, Bool.and_eq_true] at h
  have h2 := h.1
  unfold digC at h2
  rw [Bool.and_eq_true, decide_eq_true_iff, decide_eq_true_iff] at h2
  rw [List.foldl_cons, List.length_cons]
  refine Nat.le_trans (fold_lt l _ h.2) ?_
  rw [Nat.pow_succ, Nat.mul_comm (10 ^ l.length) 10, ← Nat.mul_assoc]
  exact Nat.mul_le_mul_right _ (by omega)
theorem numV_lt (l : List UInt8) (h : l.all digC = true) : numV l < 10 ^ l.length := by
 have := fold_lt l 0 h
 unfold numV
 omega
def latB (a : Int) : Bool := decide (-32400000 ≤ a) && decide (a ≤ 32400000)
def lonB (a : Int) : Bool := decide (-64800000 < a) && decide (a ≤ 64800000)
def posB (a b : Int) : Bool := latB a && lonB b
def joinV (l : List UInt8) (c : Nat) : Nat := numV (l.take c) * 360000 + numV ((l.drop c).take 2) * 6000 + numV ((l.drop (c + 2)).take 2) * 100 + numV (l.drop (c + 4))
def joinB (l : List UInt8) (c : Nat) : Bool := decide (l.length = c + 6) && l.all digC && decide (numV ((l.drop c).take 2) < 60) && decide (numV ((l.drop (c + 2)).take 2) < 60)
def sgnB (l : List UInt8) (p m : UInt8) (c : Nat) : Bool := decide (l.length = c + 7) && (l.headD 0 == p || l.headD 0 == m) && joinB l.tail c && !(l.headD 0 == m && decide (joinV l.tail c = 0))
def sgnV (l : List UInt8) (m : UInt8) (c : Nat) : Int := if l.headD 0 == m then -(joinV l.tail c : Int) else (joinV l.tail c : Int)
def latPErr (l : List UInt8) : Int := if sgnB l 78 83 2 then (if latB (sgnV l 83 2) then 0 else 2) else 4
def lonPErr (l : List UInt8) : Int := if sgnB l 69 87 3 then (if lonB (sgnV l 87 3) then 0 else 2) else 4
def latPV (l : List UInt8) : Int := if latPErr l = 0 then sgnV l 83 2 else 0
def lonPV (l : List UInt8) : Int := if lonPErr l = 0 then sgnV l 87 3 else 0
def posPErr (l : List UInt8) : Int := if l.length = 19 then (if latPErr (l.take 9) = 0 then lonPErr (l.drop 9) else latPErr (l.take 9)) else 4
def posPLat (l : List UInt8) : Int := if posPErr l = 0 then latPV (l.take 9) else 0
def posPLon (l : List UInt8) : Int := if posPErr l = 0 then lonPV (l.drop 9) else 0

end Go.Proofs.YtlhniiakacbbeaaGreatDoor
namespace Go.Proofs.YtlhniiakacbbeaaGreatDoor
set_option linter.unusedVariables false
set_option linter.unusedSimpArgs false

end Go.Proofs.YtlhniiakacbbeaaGreatDoor
namespace Go.Proofs.YtlhniiakacbbeaaGreatDoor
open Go.RowKit
set_option linter.unusedVariables false
set_option linter.unusedSimpArgs false


def rwyB (l : List UInt8) : Bool :=
 decide (4 ≤ l.length) && decide (l.length ≤ 5) && (l.take 2 == [82, 87]) && digC (l.getD 2 0) && decide ((l.getD 2 0).toNat ≤ 51) && digC (l.getD 3 0)
 && decide (1 ≤ 10 * ((l.getD 2 0).toNat - 48) + ((l.getD 3 0).toNat - 48)) && decide (10 * ((l.getD 2 0).toNat - 48) + ((l.getD 3 0).toNat - 48) ≤ 36)
 && (decide (l.length = 4) || l.getD 4 0 == 76 || l.getD 4 0 == 67 || l.getD 4 0 == 82)
def identE (l : List UInt8) (k : Nat) : Int := if nameB l 6 && (k != 6 || rwyB l) then 0 else 5
def locE (l : List UInt8) (k : Nat) : Int := if (k == 6 && nameB l 6) || (k != 6 && shortB l) then 0 else 5
def elevB (k : Nat) : Bool := decide (k = 5) || decide (k = 6)
def navB (k : Nat) : Bool := decide (k = 2) || decide (k = 3) || decide (k = 4)
def elE (k : Nat) (el : Int) : Int := if elevB k then (if el < -200000 ∨ 6000000 < el then 2 else 0) else (if el = 0 then 0 else 1)
def raE (k : Nat) (ra : Int) : Int := if navB k then (if ra < 1 ∨ 8000000 < ra then 2 else 0) else (if ra = 0 then 0 else 1)
def fixE (f : Fx) : Int :=
 if f.kd < 1 ∨ 6 < f.kd then 17 else if identE f.id f.kd ≠ 0 then 5 else if locE f.rg f.kd ≠ 0 then 5 else if posB f.lat f.lon = false then 2
 else if elE f.kd f.el ≠ 0 then elE f.kd f.el else raE f.kd f.ra

theorem take_snoc' (s : ByteArray) (k : Nat) (h : k < s.size) : (bl s).take (k + 1) = (bl s).take k ++ [s[k]] := by
 rw [List.take_succ_eq_append_getElem (by rw [bl_len]; exact h)]; rfl
theorem digC_of {c : UInt8} (h1 : (48 : Int) ≤ (c.toNat : Int)) (h2 : (c.toNat : Int) ≤ 57) : digC c = true := by
 unfold digC; rw [decide_eq_true (by omega), decide_eq_true (by omega)]; rfl
theorem digC_not {c : UInt8} (h : (c.toNat : Int) < 48 ∨ 57 < (c.toNat : Int)) : digC c = false := by
 unfold digC
 rcases h with h | h
 ·rw [decide_eq_false (p := 48 ≤ c.toNat) (by omega)]; rfl
 ·rw [decide_eq_false (p := c.toNat ≤ 57) (by omega), Bool.and_false]
theorem all_take_snoc {s : ByteArray} {k : Nat} (hk : k < s.size) (h : ((bl s).take k).all digC = true) (hc : digC s[k] = true) : ((bl s).take (k + 1)).all digC = true := by
 rw [take_snoc' s k hk, List.all_append, h, List.all_cons, hc]; rfl
theorem all_no {s : ByteArray} {k : Nat} (hk : k < s.size) (hc : digC s[k] = false) : (bl s).all digC = false :=
 all_false_at (l := bl s) (k := k) (by rw [bl_len]; exact hk) hc
def DigPost (s : ByteArray) (w : World) (e : Ending) (w' : World) : Prop := e = .returned (.tuple #[.int .i64 (if (bl s).all digC then (numV (bl s) : Int) else 0), .bool ((bl s).all digC)]) ∧ w = w'
set_option maxRecDepth 100000 in
set_option maxHeartbeats 1000000 in
theorem number_any (s : ByteArray) (w : World) (hs : s.size ≤ 9) : Calls Tryz.prog 394 #[.string s] w (DigPost s w) := by
 have HNO : Hid ((bl s).all digC = false → DigPost s w (.returned (.tuple #[.int .i64 0, .bool false])) w) := by
  intro h; unfold DigPost; rw [h]; exact ⟨rfl, rfl⟩
 have HYES : Hid ((bl s).all digC = true → ∀ n : Nat, numV (bl s) = n → DigPost s w (.returned (.tuple #[.int .i64 (n : Int), .bool true])) w) := by
  intro h n hn; unfold DigPost; rw [h, hn]; exact ⟨rfl, rfl⟩
 go_enter Tryz.func394, Tryz.ntmps394
 go_wp2
 go_loop [4, 8] (fun nv iv => ∃ k n : Nat, k ≤ s.size ∧ iv = .int .i64 k ∧ nv = .int .i64 n ∧ Hid (numV ((bl s).take k) = n ∧ ((bl s).take k).all digC = true)) (fun _ iv => s.size - (intOf iv).toNat)
 case atStart => exact ⟨0, 0, Nat.zero_le _, rfl, rfl, rfl, rfl⟩
 case round =>
  obtain ⟨k, n, hk, rfl, rfl, hn⟩ := hrel
  by_cases hlt : k < s.size
  ·have hb : (n : Int) ≤ 100000000 := by
    have h1 := numV_lt _ hn.out.2
    rw [hn.out.1, List.length_take, bl_len, Nat.min_eq_left hk] at h1
    have h2 : 10 ^ k ≤ 10 ^ 8 := Nat.pow_le_pow_right (by decide) (by omega)
    omega
   have hb0 : (0 : Int) ≤ (n : Int) := by omega
   have HST : Hid (numV ((bl s).take (k + 1)) = 10 * n + (s[k].toNat - 48)) := by
    unfold Hid; rw [take_snoc' s k hlt, numV_snoc, hn.out.1]
   have hki : (k : Int) < (s.size : Int) := by omega
   rcases Int.lt_or_le (s[k].toNat : Int) 48 with h1 | h1
   ·have HF := Lib.hid (all_no hlt (digC_not (.inl h1)))
    go_wp2
    go_ret2
    exact HNO.out HF.out
   ·rcases Int.lt_or_le 57 (s[k].toNat : Int) with h2 | h2
    ·have HF := Lib.hid (all_no hlt (digC_not (.inr h2)))
     go_wp2
     go_ret2
     exact HNO.out HF.out
    ·have HT := Lib.hid (all_take_snoc hlt hn.out.2 (digC_of h1 h2))
     have HC : Hid (10 * (n : Int) + ((s[k].toNat : Int) - 48) = ((10 * n + (s[k].toNat - 48) : Nat) : Int)) := by
      unfold Hid; omega
     go_wp2
     go_round
     case rel => exact ⟨k + 1, _, hlt, by go_num, congrArg (Value.int .i64) HC.out, HST.out, HT.out⟩
     case measure => simp [intOf]; omega
  ·have HE : Hid ((bl s).take k = bl s) := List.take_of_length_le (by rw [bl_len]; omega)
   go_wp2
   go_ret2
   exact HYES.out (by rw [← HE.out]; exact hn.out.2) n (by rw [← HE.out]; exact hn.out.1)


theorem number_yes (s : ByteArray) (n : Nat) (w : World) (hs : s.size ≤ 9) (hd : (bl s).all digC = true) (hn : numV (bl s) = n) : Calls Tryz.prog 394 #[.string s] w fun e w' => e = .returned (.tuple #[.int .i64 (n : Int), .bool true]) ∧ w = w' :=
 (number_any s w hs).mono fun e w' h => by unfold DigPost at h; rw [hd, hn] at h; exact h
theorem number_no (s : ByteArray) (w : World) (hs : s.size ≤ 9) (hd : (bl s).all digC = false) : Calls Tryz.prog 394 #[.string s] w fun e w' => e = .returned (.tuple #[.int .i64 0, .bool false]) ∧ w = w' :=
 (number_any s w hs).mono fun e w' h => by unfold DigPost at h; rw [hd] at h; exact h
theorem all_of_take {l : List UInt8} (k : Nat) (h : l.all digC = true) : (l.take k).all digC = true := by
 rw [List.all_eq_true] at *; exact fun x hx => h x (List.mem_of_mem_take hx)
theorem all_of_drop {l : List UInt8} (k : Nat) (h : l.all digC = true) : (l.drop k).all digC = true := by
 rw [List.all_eq_true] at *; exact fun x hx => h x (List.mem_of_mem_drop hx)
theorem numV_small {l : List UInt8} {k : Nat} (h : l.all digC = true) (hl : l.length ≤ k) : numV l < 10 ^ k :=
 Nat.lt_of_lt_of_le (numV_lt l h) (Nat.pow_le_pow_right (by decide) hl)
def JoinPost (s : ByteArray) (c : Nat) (w : World) (e : Ending) (w' : World) : Prop := e = .returned (.tuple #[.int .i64 (if joinB (bl s) c then (joinV (bl s) c : Int) else 0), .bool (joinB (bl s) c)]) ∧ w = w'
set_option maxRecDepth 100000 in
set_option maxHeartbeats 2000000 in
theorem join_any (s : ByteArray) (c : Nat) (w : World) (hc : c ≤ 3) (hs : s.size ≤ maxLen) : Calls Tryz.prog 377 #[.string s, .int .i64 (c : Int)] w (JoinPost s c w) := by
 unfold maxLen at hs
 have HNO : Hid (joinB (bl s) c = false → JoinPost s c w (.returned (.tuple #[.int .i64 0, .bool false])) w) := by
  intro h; unfold JoinPost; rw [h]; exact ⟨rfl, rfl⟩
 have HYES : Hid (joinB (bl s) c = true → ∀ n : Int, (joinV (bl s) c : Int) = n → JoinPost s c w (.returned (.tuple #[.int .i64 n, .bool true])) w) := by
  intro h n hn; unfold JoinPost; rw [h, ← hn]; exact ⟨rfl, rfl⟩
 by_cases hl : s.size = c + 6
 ·have HLE : Hid ((bl s).length = c + 6) := hl
  have hl1 : (s.size : Int) = (c : Int) + 6 := by omega
  have hz1 : s.size ≤ 9 := by omega
  have hz2 : c + 6 ≤ s.size := by omega
  have hne : ((s.size : Int) != (c : Int) + 6) = false := bne_eq_false_iff_eq.2 hl1
  have hc0 : (0 : Int) ≤ (c : Int) := by omega
  have hc3 : (c : Int) ≤ 3 := by omega
  have hz3 : (c : Int) + 6 ≤ (s.size : Int) := by omega
  clear hl hl1
  cases hd : (bl s).all digC with
  | false =>
   have HD := Lib.hid hd
   have HJ : Hid (joinB (bl s) c = false) := by unfold Hid joinB; rw [hd]; simp
   clear hd
   go_enter Tryz.func377, Tryz.ntmps377
   go_wp2_with fail
   refine (number_no s _ hz1 HD.out).mono ?_
   rintro e w' ⟨rfl, rfl⟩
   go_wp2
   go_ret2
   exact HNO.out HJ.out
  | true =>
   have HD := Lib.hid hd
   clear hd
   obtain ⟨n1, h1⟩ : ∃ n, numV ((bl s).take c) = n := ⟨_, rfl⟩
   obtain ⟨n2, h2⟩ : ∃ n, numV (((bl s).drop c).take 2) = n := ⟨_, rfl⟩
   obtain ⟨n3, h3⟩ : ∃ n, numV (((bl s).drop (c + 2)).take 2) = n := ⟨_, rfl⟩
   obtain ⟨n4, h4⟩ : ∃ n, numV ((bl s).drop (c + 4)) = n := ⟨_, rfl⟩
   have b1 : n1 < 1000 := by
    rw [← h1]; exact numV_small (k := 3) (all_of_take _ HD.out) (by rw [List.length_take]; omega)
   have b2 : n2 < 100 := by
    rw [← h2]; exact numV_small (k := 2) (all_of_take _ (all_of_drop _ HD.out)) (by rw [List.length_take]; omega)
   have b3 : n3 < 100 := by
    rw [← h3]; exact numV_small (k := 2) (all_of_take _ (all_of_drop _ HD.out)) (by rw [List.length_take]; omega)
   have b4 : n4 < 100 := by
    rw [← h4]; exact numV_small (k := 2) (all_of_drop _ HD.out) (by rw [List.length_drop, HLE.out]; omega)
   have HV : Hid ((joinV (bl s) c : Int) = (n1 : Int) * 360000 + (n2 : Int) * 6000 + (n3 : Int) * 100 + (n4 : Int)) := by
    unfold Hid joinV; rw [h1, h2, h3, h4]; omega
   have HB : Hid (joinB (bl s) c = (decide (n2 < 60) && decide (n3 < 60))) := by
    unfold Hid joinB; rw [HD.out, HLE.out, h2, h3]; simp
   have i1 : (n1 : Int) < 1000 := by omega
   have i2 : (n2 : Int) < 100 := by omega
   have i3 : (n3 : Int) < 100 := by omega
   have i4 : (n4 : Int) < 100 := by omega
   have H1 := Lib.hid h1
   have H2 := Lib.hid h2
   have H3 := Lib.hid h3
   have H4 := Lib.hid h4
   clear h1 h2 h3 h4
   go_enter Tryz.func377, Tryz.ntmps377
   go_wp2_with fail
   refine (number_yes s _ _ hz1 HD.out rfl).mono ?_
   rintro e w' ⟨rfl, rfl⟩
   go_wp2_with fail
   refine (number_yes _ n1 _ (by rw [ByteArray.size_extract]; omega) (by rw [bl_extract]; exact all_of_take _ (all_of_drop _ HD.out)) (by rw [bl_extract]; first | exact H1.out | (rw [List.drop_zero]; exact H1.out))).mono ?_
   rintro e w' ⟨rfl, rfl⟩
   go_wp2_with fail
   refine (number_yes _ n2 _ (by rw [ByteArray.size_extract]; omega) (by rw [bl_extract]; exact all_of_take _ (all_of_drop _ HD.out)) (by rw [bl_extract, show c + 2 - c = 2 by omega]; exact H2.out)).mono ?_
   rintro e w' ⟨rfl, rfl⟩
   go_wp2_with fail
   refine (number_yes _ n3 _ (by rw [ByteArray.size_extract]; omega) (by rw [bl_extract]; exact all_of_take _ (all_of_drop _ HD.out)) (by rw [bl_extract, show c + 4 - (c + 2) = 2 by omega]; exact H3.out)).mono ?_
   rintro e w' ⟨rfl, rfl⟩
   go_wp2_with fail
   refine (number_yes _ n4 _ (by rw [ByteArray.size_extract]; omega) (by rw [bl_extract]; exact all_of_take _ (all_of_drop _ HD.out)) (by rw [bl_extract, List.take_of_length_le (by rw [List.length_drop, bl_len]; omega)]; exact H4.out)).mono ?_
   rintro e w' ⟨rfl, rfl⟩
   rcases Nat.lt_or_ge n2 60 with k2 | k2
   ·have k2' : (n2 : Int) < 60 := by omega
    rcases Nat.lt_or_ge n3 60 with k3 | k3
    ·have k3' : (n3 : Int) < 60 := by omega
     have HJ : Hid (joinB (bl s) c = true) := by unfold Hid; rw [HB.out, decide_eq_true k2, decide_eq_true k3]; rfl
     go_wp2
     go_ret2
     exact HYES.out HJ.out _ HV.out
    ·have k3' : (60 : Int) ≤ (n3 : Int) := by omega
     have HJ : Hid (joinB (bl s) c = false) := by unfold Hid; rw [HB.out, decide_eq_false (p := n3 < 60) (by omega), Bool.and_false]
     go_wp2
     go_ret2
     exact HNO.out HJ.out
   ·have k2' : (60 : Int) ≤ (n2 : Int) := by omega
    have HJ : Hid (joinB (bl s) c = false) := by unfold Hid; rw [HB.out, decide_eq_false (p := n2 < 60) (by omega), Bool.false_and]
    go_wp2
    go_ret2
    exact HNO.out HJ.out
 ·have HJ : Hid (joinB (bl s) c = false) := by
   unfold Hid joinB; rw [decide_eq_false (p := (bl s).length = c + 6) (by rw [bl_len]; exact hl)]; rfl
  have hne : ((s.size : Int) != (c : Int) + 6) = true := bne_iff_ne.2 (by omega)
  have hc0 : (0 : Int) ≤ (c : Int) := by omega
  have hc3 : (c : Int) ≤ 3 := by omega
  clear hl
  go_enter Tryz.func377, Tryz.ntmps377
  go_wp2
  go_ret2
  exact HNO.out HJ.out
end Go.Proofs.YtlhniiakacbbeaaGreatDoor
namespace Go.Proofs.YtlhniiakacbbeaaGreatDoor
set_option linter.unusedVariables false
set_option linter.unusedSimpArgs false

end Go.Proofs.YtlhniiakacbbeaaGreatDoor
