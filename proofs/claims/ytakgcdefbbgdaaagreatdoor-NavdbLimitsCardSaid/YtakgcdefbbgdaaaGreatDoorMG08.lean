/-
  Several texts as one.
  Fixes: their data, their boxes in memory.
  Contracts: references of fixes on both sides.
  Contracts: distances as texts (DistText of both sides), and the plain law that the text of a distance is read as it.
  Plain words: fixes, their errors, references and lines.
  Contracts: distances read from texts: ParseDist of both sides.
-/
import Derived.Test.YtakgcdefbbgdaaaGreatDoorMG02
import Derived.Test.YtakgcdefbbgdaaaGreatDoorMG06
import Derived.Test.YtakgcdefbbgdaaaGreatDoorMG07
import Derived.Test.YtakgcdefbbgdaaaGreatDoorMG04
import Derived.Test.YtakgcdefbbgdaaaGreatDoorMG05
namespace Go.Proofs.YtakgcdefbbgdaaaGreatDoor
open Go.RowKit
set_option linter.unusedVariables false
set_option linter.unusedSimpArgs false

/-- a fix: identifier, region, kind, position, elevation, range -/
structure Fx where
  id : List UInt8
  rg : List UInt8
  kd : Nat
  lat : Int
  lon : Int
  el : Int
  ra : Int
def fxc (f : Fx) : List Value := [.string (sb f.id), .string (sb f.rg), .int .u8 (f.kd : Int), .int .i64 f.lat, .int .i64 f.lon, .int .i64 f.el, .int .i64 f.ra]
def fxcells (l : List Fx) : List Value := l.flatMap fxc
def fx0 : Fx := ⟨[], [], 0, 0, 0, 0, 0⟩
def fxRef (f : Fx) : List UInt8 := f.id ++ 47 :: f.rg
theorem blkCell' {w : World} {g : Nat} {cs : Array Value} {T : TypeId} (h : w.heap[g]? = some (.cells cs T (0, 0))) (j : Nat) {u : Value} (hu : cs[j]? = some u) : w.cell? ⟨g, j, none⟩ = some u := by rw [Lib.cell_of_heap h]; exact hu
theorem lt_heap {w : World} {b : Nat} {o : Obj} (h : w.heap[b]? = some o) : b < w.heap.size := (Array.getElem?_eq_some_iff.1 h).1
/-- a fix in a box of the call's own -/
def FxBox (w : World) (b : Nat) (f : Fx) : Prop := w.heap[b]? = some (.cells #[.string (sb f.id), .string (sb f.rg), .int .u8 (f.kd : Int), .int .i64 f.lat, .int .i64 f.lon, .int .i64 f.el, .int .i64 f.ra] 67 (0, 0))
structure FxCells (w : World) (b : Nat) (a c : ByteArray) (k : Nat) (lat lon el ra : Int) : Prop where
  c0 : w.cell? ⟨b, 0, none⟩ = some (.string a)
  c1 : w.cell? ⟨b, 1, none⟩ = some (.string c)
  c2 : w.cell? ⟨b, 2, none⟩ = some (.int .u8 (k : Int))
  c3 : w.cell? ⟨b, 3, none⟩ = some (.int .i64 lat)
  c4 : w.cell? ⟨b, 4, none⟩ = some (.int .i64 lon)
  c5 : w.cell? ⟨b, 5, none⟩ = some (.int .i64 el)
  c6 : w.cell? ⟨b, 6, none⟩ = some (.int .i64 ra)
theorem FxBox.cells {w : World} {b : Nat} {f : Fx} (h : FxBox w b f) : FxCells w b (sb f.id) (sb f.rg) f.kd f.lat f.lon f.el f.ra :=
  ⟨blkCell' h 0 rfl, blkCell' h 1 rfl, blkCell' h 2 rfl, blkCell' h 3 rfl, blkCell' h 4 rfl, blkCell' h 5 rfl, blkCell' h 6 rfl⟩
theorem FxBox.below {w w' : World} {b : Nat} {f : Fx} (h : FxBox w b f) (hb : Below w.heap.size w w') : FxBox w' b f := (hb.block b (Array.getElem?_eq_some_iff.1 h).1).trans h
theorem fxBox_new (w : World) (f : Fx) : FxBox (w.alloc (.cells #[.string (sb f.id), .string (sb f.rg), .int .u8 (f.kd : Int), .int .i64 f.lat, .int .i64 f.lon, .int .i64 f.el, .int .i64 f.ra] 67)) w.heap.size f := heap_alloc_new w _
end Go.Proofs.YtakgcdefbbgdaaaGreatDoor
namespace Go.Proofs.YtakgcdefbbgdaaaGreatDoor
open Go.RowKit
set_option linter.unusedVariables false
set_option linter.unusedSimpArgs false

def FRefPost (f : Fx) (w : World) (e : Ending) (w' : World) : Prop := e = .returned (.string (sb (fxRef f))) ∧ Below w.heap.size w w'
theorem fixRef_any (f : Fx) (w : World) (hi : f.id.length ≤ 1000000000000000) (hr : f.rg.length ≤ 1000000000000000) :
    Calls Tryz.prog 27 #[.agg #[.string (sb f.id), .string (sb f.rg), .int .u8 (f.kd : Int), .int .i64 f.lat, .int .i64 f.lon, .int .i64 f.el, .int .i64 f.ra]] w (FRefPost f w) := by
  have h1 : (sb f.id).size ≤ 1000000000000000 := hi
  have h2 : (sb f.rg).size ≤ 1000000000000000 := hr
  have HE : Hid (∀ s : ByteArray, bl s = fxRef f → sb (fxRef f) = s) := fun s h => by rw [← h, sb_bl]
  clear hi hr
  go_enter Tryz.func27, Tryz.ntmps27
  go_wp2
  go_ret
  refine ⟨?_, (Below.refl _ _).alloc (Nat.le_refl _) _⟩
  rw [HE.out (sb f.id ++ ⟨#[47]⟩ ++ sb f.rg) (by rw [bl_append, bl_append, bl_sb, bl_sb]; unfold fxRef; simp [bl_mk])]
  first | rfl | (simp [ByteArray.append_assoc])
end Go.Proofs.YtakgcdefbbgdaaaGreatDoor
namespace Go.Proofs.YtakgcdefbbgdaaaGreatDoor
open Go.RowKit
set_option linter.unusedVariables false
set_option linter.unusedSimpArgs false

def distAbs (b : Nat) : List UInt8 := Lib.decDigits (b / 6000) ++ (if b % 6000 = 0 then [] else 43 :: Lib.decDigits (b % 6000))
theorem distAbs_whole {b : Nat} (h : b % 6000 = 0) : distAbs b = Lib.decDigits (b / 6000) := by unfold distAbs; rw [if_pos h, List.append_nil]
theorem distAbs_part {b : Nat} (h : ¬ b % 6000 = 0) : distAbs b = Lib.decDigits (b / 6000) ++ (43 :: Lib.decDigits (b % 6000)) := by unfold distAbs; rw [if_neg h]
theorem distAbs_len {b : Nat} (h : b ≤ 8000000) : (distAbs b).length ≤ 20000 := by
  have h1 := decDigits_len (b / 6000)
  have h2 := decDigits_len (b % 6000)
  by_cases h0 : b % 6000 = 0
  · rw [distAbs_whole h0]; omega
  · rw [distAbs_part h0, List.length_append, List.length_cons]; omega
def distGood (d : Int) : Bool := decide (0 ≤ d) && decide (d ≤ 8000000)
def distOut (d : Int) : List UInt8 := if distGood d then distAbs d.toNat else []
def distErr (d : Int) : Int := if distGood d then 0 else 2
theorem distGood_iff {d : Int} : distGood d = true ↔ 0 ≤ d ∧ d ≤ 8000000 := by unfold distGood; simp
theorem dist_bad {d : Int} (h : d < 0 ∨ 8000000 < d) : distGood d = false := by
  rw [← Bool.not_eq_true, distGood_iff]; omega
/-- the distance of a text -/
def distOf (a b : List UInt8) (f : Bool) : Option Int :=
  if plainB a && (!f || (plainB b && !(b == [48]) && decide (b.length ≤ 4) && decide (digVal b < 6000))) then some ((digVal a * 6000 + (if f then digVal b else 0) : Nat) : Int) else none
def distSpec (l : List UInt8) : Option Int := distOf (cutAt 43 l).1 (cutAt 43 l).2.1 (cutAt 43 l).2.2
theorem distSpec_eq {l a b : List UInt8} {f : Bool} (h : cutAt 43 l = (a, b, f)) : distSpec l = distOf a b f := by unfold distSpec; rw [h]
def distN (o : Option Int) : Int := match o with | some v => if v ≤ 8000000 then v else 0 | none => 0
def distE (o : Option Int) : Int := match o with | some v => if v ≤ 8000000 then 0 else 2 | none => 4
/-- the text of a distance is read as it -/
theorem distSpec_out {d : Int} (h : distGood d = true) : distSpec (distOut d) = some d := by
  have hr := distGood_iff.1 h
  obtain ⟨b, rfl⟩ := Int.eq_ofNat_of_zero_le (a := d) hr.1
  unfold distOut
  rw [if_pos h, Int.toNat_natCast]
  have hn : (43 : UInt8) ∉ Lib.decDigits (b / 6000) := notin_digits (dec_all _) (by decide)
  by_cases h0 : b % 6000 = 0
  · rw [distAbs_whole h0, distSpec_eq (cutAt_none hn)]
    unfold distOf
    rw [dec_plain, dec_val, show b / 6000 * 6000 + (if false = true then digVal [] else 0) = b by simp; omega]
    rfl
  · rw [distAbs_part h0, distSpec_eq (cutAt_mid hn)]
    unfold distOf
    have e1 : (Lib.decDigits (b % 6000) == [48]) = false := by
      rw [beq_eq_false_iff_ne]
      intro e
      have := dec_val (b % 6000)
      rw [e] at this
      exact h0 this.symm
    have hl4 : ∀ n : Nat, n < 10000 → (Lib.decDigits n).length ≤ 4 := by
      intro n hn
      by_cases h1 : n < 10
      · rw [decDigits_small h1]; simp
      · rw [decDigits_big h1, List.length_append, List.length_singleton]
        by_cases h2 : n / 10 < 10
        · rw [decDigits_small h2]; simp
        · rw [decDigits_big h2, List.length_append, List.length_singleton]
          by_cases h3 : n / 10 / 10 < 10
          · rw [decDigits_small h3]; simp
          · rw [decDigits_big h3, List.length_append, List.length_singleton, decDigits_small (by omega)]; simp
    rw [dec_plain, dec_plain, dec_val, dec_val, e1, decide_eq_true (hl4 _ (by omega)), decide_eq_true (by omega), show b / 6000 * 6000 + (if true = true then b % 6000 else 0) = b by simp; omega]
    rfl
theorem dist_back {d : Int} (h : distGood d = true) : distN (distSpec (distOut d)) = d ∧ distE (distSpec (distOut d)) = 0 := by
  rw [distSpec_out h]
  have hr := distGood_iff.1 h
  exact ⟨if_pos hr.2, if_pos hr.2⟩

set_option maxHeartbeats 400000 in
theorem distText_bad (a : Int) (w : World) (h : a < 0 ∨ 8000000 < a) :
    Calls Tryz.prog 87 #[.int .i64 a] w fun e w' => ∃ t, e = .returned (.tuple #[.string t, .int .i64 2]) ∧ Hid (bl t = []) ∧ w = w' := by
  have h' : a < 0 ∨ 0 ≤ a ∧ 8000000 < a := by omega
  clear h
  rcases h' with h | ⟨h, h2⟩
  all_goals
    go_enter Tryz.func87, Tryz.ntmps87
    go_wp2
    go_ret2
    exact ⟨_, rfl, rfl, rfl⟩
set_option maxHeartbeats 400000 in
theorem distText_good (b : Nat) (w : World) (h2 : b ≤ 8000000) (E : Env w) :
    Calls Tryz.prog 87 #[.int .i64 (b : Int)] w fun e w' => ∃ t, e = .returned (.tuple #[.string t, .int .i64 0]) ∧ Hid (bl t = distAbs b) ∧ Below w.heap.size w w' := by
  have q1 := Lib.hid (show (b : Int) / 6000 = ((b / 6000 : Nat) : Int) by omega)
  have q2 := Lib.hid (show (b : Int) % 6000 = ((b % 6000 : Nat) : Int) by omega)
  by_cases hk : b % 6000 = 0
  · have hk' : ((b : Int) % 6000 != 0) = false := by simp only [bne_eq_false_iff_eq]; omega
    have HK := Lib.hid hk; clear hk
    go_enter Tryz.func87, Tryz.ntmps87
    go_wp2_with fail
    rw [q1.out]
    refine (fmt10 (b / 6000) (by omega) _ E).mono ?_
    rintro e w1 ⟨t1, rfl, ht1, hs1, hb1⟩
    go_wp2_with fail
    go_ret2
    refine ⟨_, rfl, ?_, hb1⟩
    show bl t1 = _
    rw [ht1.out, distAbs_whole HK.out]
  · have hk' : ((b : Int) % 6000 != 0) = true := by rw [bne_iff_ne]; omega
    have HK := Lib.hid hk; clear hk
    go_enter Tryz.func87, Tryz.ntmps87
    go_wp2_with fail
    rw [q1.out]
    refine (fmt10 (b / 6000) (by omega) _ E).mono ?_
    rintro e w1 ⟨t1, rfl, ht1, hs1, hb1⟩
    go_wp2_with fail
    rw [q2.out]
    refine (fmt10 (b % 6000) (by omega) _ (E.below hb1)).mono ?_
    rintro e w2 ⟨t2, rfl, ht2, hs2, hb2⟩
    go_wp2_with fail
    go_ret2
    refine ⟨_, rfl, ?_, (Below.then_ hb1 hb2)⟩
    first | show bl (t1 ++ (⟨#[43]⟩ ++ t2)) = _ | show bl (t1 ++ ⟨#[43]⟩ ++ t2) = _
    simp only [bl_append, ht1.out, ht2.out, distAbs_part HK.out, bl_mk, List.cons_append, List.nil_append, List.append_assoc]
/-- DistText at every distance -/
theorem distText_any (a : Int) (w : World) (E : Env w) :
    Calls Tryz.prog 87 #[.int .i64 a] w fun e w' => ∃ t, e = .returned (.tuple #[.string t, .int .i64 (distErr a)]) ∧ Hid (bl t = distOut a) ∧ t.size ≤ 20000 ∧ Below w.heap.size w w' := by
  by_cases h : a < 0 ∨ 8000000 < a
  · have hg := dist_bad h
    rw [show distErr a = 2 by unfold distErr; rw [hg]; rfl]
    refine (distText_bad a w h).mono ?_
    rintro e w' ⟨t, he, ht, hw⟩
    exact ⟨t, he, by unfold distOut; rw [hg]; exact ht, by rw [str_size ht]; simp, (by subst hw; exact Below.refl _ _)⟩
  · have hg : distGood a = true := distGood_iff.2 (by omega)
    rw [show distErr a = 0 by unfold distErr; rw [hg]; rfl]
    obtain ⟨b, rfl⟩ := Int.eq_ofNat_of_zero_le (a := a) (by omega)
    refine (distText_good b w (by omega) E).mono ?_
    rintro e w' ⟨t, he, ht, hw⟩
    exact ⟨t, he, by unfold distOut; rw [hg]; exact ht, by rw [str_size ht]; exact distAbs_len (by omega), hw⟩
end Go.Proofs.YtakgcdefbbgdaaaGreatDoor
namespace Go.Proofs.YtakgcdefbbgdaaaGreatDoor
open Go.RowKit
set_option linter.unusedVariables false
set_option linter.unusedSimpArgs false

/-- RW, two digits from 01 to 36, perhaps L, C or R -/
def rwyB (l : List UInt8) : Bool :=
  decide (4 ≤ l.length) && decide (l.length ≤ 5) && (l.take 2 == [82, 87]) && digC (l.getD 2 0) && decide ((l.getD 2 0).toNat ≤ 51) && digC (l.getD 3 0)
  && decide (1 ≤ 10 * ((l.getD 2 0).toNat - 48) + ((l.getD 3 0).toNat - 48)) && decide (10 * ((l.getD 2 0).toNat - 48) + ((l.getD 3 0).toNat - 48) ≤ 36)
  && (decide (l.length = 4) || l.getD 4 0 == 76 || l.getD 4 0 == 67 || l.getD 4 0 == 82)
def identE (l : List UInt8) (k : Nat) : Int := if nameB l 6 && (k != 6 || rwyB l) then 0 else 5
def locE (l : List UInt8) (k : Nat) : Int := if (k == 6 && nameB l 6) || (k != 6 && shortB l) then 0 else 5
def elevB (k : Nat) : Bool := decide (k = 5) || decide (k = 6)
def navB (k : Nat) : Bool := decide (k = 2) || decide (k = 3) || decide (k = 4)
def elE (k : Nat) (el : Int) : Int := if elevB k then (if el < -200000 ∨ 6000000 < el then 2 else 0) else (if el = 0 then 0 else 1)
def raE (k : Nat) (ra : Int) : Int := if navB k then (if ra < 1 ∨ 8000000 < ra then 2 else 0) else (if ra = 0 then 0 else 1)
/-- the first error of a fix -/
def fixE (f : Fx) : Int :=
  if f.kd < 1 ∨ 6 < f.kd then 17 else if identE f.id f.kd ≠ 0 then 5 else if locE f.rg f.kd ≠ 0 then 5 else if posB f.lat f.lon = false then 2
  else if elE f.kd f.el ≠ 0 then elE f.kd f.el else raE f.kd f.ra
def kindWords : List (List UInt8) := [[87, 65, 89, 80, 79, 73, 78, 84], [86, 79, 82], [68, 77, 69], [78, 68, 66], [65, 73, 82, 80, 79, 82, 84], [82, 85, 78, 87, 65, 89]]
def kindWord (k : Nat) : List UInt8 := kindWords.getD (k - 1) []
/-- the line of a fix -/
def fxLine (f : Fx) : List UInt8 :=
  kindWord f.kd ++ 32 :: (f.id ++ 32 :: (f.rg ++ 32 :: (posOut f.lat f.lon ++ ((if elevB f.kd then 32 :: altOut f.el else []) ++ (if navB f.kd then 32 :: distOut f.ra else [])))))
def fxOut (f : Fx) : List UInt8 := if fixE f = 0 then fxLine f else []
end Go.Proofs.YtakgcdefbbgdaaaGreatDoor
namespace Go.Proofs.YtakgcdefbbgdaaaGreatDoor
open Go.RowKit
set_option linter.unusedVariables false
set_option linter.unusedSimpArgs false

theorem distOf_plain {a b : List UInt8} {f : Bool} (h : plainB a = false) : distOf a b f = none := by unfold distOf; rw [h]; rfl
theorem distOf_part {a b : List UInt8} (h : plainB b = false ∨ b = [48] ∨ 4 < b.length ∨ 6000 ≤ digVal b) : distOf a b true = none := by
  unfold distOf
  rw [if_neg]
  simp only [Bool.and_eq_true, Bool.or_eq_true, Bool.not_eq_true', beq_eq_false_iff_ne, decide_eq_true_eq]
  rintro ⟨_, h2 | ⟨⟨⟨h2, h3⟩, h4⟩, h5⟩⟩
  · cases h2
  · rcases h with h | h | h | h
    · rw [h] at h2; cases h2
    · exact h3 h
    · omega
    · omega
theorem distOf_one {a b : List UInt8} (h : plainB a = true) : distOf a b false = some ((digVal a * 6000 : Nat) : Int) := by
  unfold distOf; rw [h]; simp
theorem distOf_two {a b : List UInt8} (h : plainB a = true) (h2 : plainB b = true) (h3 : b ≠ [48]) (h4 : b.length ≤ 4) (h5 : digVal b < 6000) : distOf a b true = some ((digVal a * 6000 + digVal b : Nat) : Int) := by
  unfold distOf
  have e : (b == [48]) = false := beq_eq_false_iff_ne.2 h3
  rw [h, h2, e, decide_eq_true h4, decide_eq_true h5]; rfl
def DistPost (s : ByteArray) (w : World) (e : Ending) (w' : World) : Prop :=
  e = .returned (.tuple #[.int .i64 (distN (distSpec (bl s))), .int .i64 (distE (distSpec (bl s)))]) ∧ Below w.heap.size w w'
theorem distPost {s : ByteArray} {n k : Int} {o : Option Int} {w w' : World} (ho : distSpec (bl s) = o) (h1 : distN o = n) (h2 : distE o = k) (hb : Below w.heap.size w w') :
    DistPost s w (.returned (.tuple #[.int .i64 n, .int .i64 k])) w' := by
  subst ho h1 h2; exact ⟨rfl, hb⟩
theorem dist_out {v : Int} (h : 8000000 < v) : distN (some v) = 0 ∧ distE (some v) = 2 := ⟨if_neg (by omega), if_neg (by omega)⟩
theorem dist_in {v : Int} (h : v ≤ 8000000) : distN (some v) = v ∧ distE (some v) = 0 := ⟨if_pos (by omega), if_pos (by omega)⟩
/-- what is left when the part behind the sign is known: k units -/
theorem dist_far {a : List UInt8} (hp : plainB a = true) (hl : 9 < a.length) (k : Nat) : distN (some ((digVal a * 6000 + k : Nat) : Int)) = 0 ∧ distE (some ((digVal a * 6000 + k : Nat) : Int)) = 2 := by
  have := digVal_big hp (by omega)
  exact dist_out (by omega)

theorem dist_far0 {a : List UInt8} (hp : plainB a = true) (hl : 9 < a.length) : distN (some ((digVal a * 6000 : Nat) : Int)) = 0 ∧ distE (some ((digVal a * 6000 : Nat) : Int)) = 2 := by
  have := digVal_big hp (by omega)
  exact dist_out (by omega)

set_option maxRecDepth 100000 in
set_option maxHeartbeats 1000000 in
theorem parseDist_any (s : ByteArray) (w : World) (E : Env w) (hs : s.size ≤ 140737488351232) :
    Calls Tryz.prog 156 #[.string s] w (DistPost s w) := by
  go_enter Tryz.func156, Tryz.ntmps156
  go_wp2_with fail
  refine (cut1 s 43 _ E (by omega)).mono ?_
  rintro e w1 ⟨a, b, f, rfl, hcut, has, hbs, hb1⟩
  have hspec := Lib.hid (distSpec_eq hcut.out)
  have E1 := E.below hb1
  go_wp2_with fail
  refine (plain_any a _ (by unfold maxLen; omega)).mono ?_
  rintro e w' ⟨rfl, rfl⟩
  rcases hp : plainB (bl a) with _ | _
  · have HP := Lib.hid hp; clear hp
    go_wp2
    go_ret2
    exact distPost (hspec.out.trans (distOf_plain HP.out)) rfl rfl hb1
  have HP := Lib.hid hp; clear hp
  have hlen : a.size ≤ 9 ∨ 9 < a.size := by omega
  cases f
  · have hv := Lib.hid (hspec.out.trans (distOf_one HP.out))
    rcases hlen with hlen | hlen
    · go_wp2_with fail
      refine (parseInt_ok a _ (plainB_parts HP.out).1 (plainB_parts HP.out).2.2 (by omega)).mono ?_
      rintro e w2 ⟨n, rfl, hn, hn18, hb2⟩
      have hn9 := short_val hn.out (plainB_parts HP.out).2.2 (by omega)
      have hb := Below.then_ hb1 hb2
      by_cases hbig : 8000000 < (n : Int) * 6000
      · go_wp2
        go_ret2
        have hq := dist_out (v := ((digVal (bl a) * 6000 : Nat) : Int)) (by have := hn.out; omega)
        exact distPost hv.out hq.1 hq.2 hb
      · have hbig : (n : Int) * 6000 ≤ 8000000 := by omega
        go_wp2
        go_ret2
        have hq := dist_in (v := ((digVal (bl a) * 6000 : Nat) : Int)) (by have := hn.out; omega)
        exact distPost hv.out (hq.1.trans (by have := hn.out; omega)) hq.2 hb
    · go_wp2
      go_ret2
      have hq := dist_far0 HP.out (show 9 < (bl a).length from hlen)
      exact distPost hv.out hq.1 hq.2 hb1
  · go_wp2_with fail
    refine (plain_any b _ (by unfold maxLen; omega)).mono ?_
    rintro e w' ⟨rfl, rfl⟩
    rcases hp2 : plainB (bl b) with _ | _
    · have HP2 := Lib.hid hp2; clear hp2
      go_wp2
      go_ret2
      exact distPost (hspec.out.trans (distOf_part (.inl HP2.out))) rfl rfl hb1
    have HP2 := Lib.hid hp2; clear hp2
    by_cases hz : bl b = [48]
    · have e1 : (b.toList == [48]) = true := by rw [bl_toList, hz]; rfl
      have HZ := Lib.hid hz; clear hz
      go_wp2
      go_ret2
      exact distPost (hspec.out.trans (distOf_part (.inr (.inl HZ.out)))) rfl rfl hb1
    have e1 : (b.toList == [48]) = false := by rw [bl_toList, beq_eq_false_iff_ne]; exact hz
    have HZ := Lib.hid hz; clear hz
    by_cases h4 : 4 < b.size
    · have h4' : (4 : Int) < (b.size : Int) := by omega
      go_wp2
      go_ret2
      exact distPost (hspec.out.trans (distOf_part (.inr (.inr (.inl h4))))) rfl rfl hb1
    have h4' : (b.size : Int) ≤ 4 := by omega
    go_wp2_with fail
    refine (parseInt_ok b _ (plainB_parts HP2.out).1 (plainB_parts HP2.out).2.2 (by omega)).mono ?_
    rintro e w2 ⟨k, rfl, hk, hk18, hb2⟩
    have E2 := E1.below hb2
    have hbb := Below.then_ hb1 hb2
    have hk9 := short_val hk.out (plainB_parts HP2.out).2.2 (by omega)
    by_cases h6 : (6000 : Int) ≤ (k : Int)
    · go_wp2
      go_ret2
      exact distPost (hspec.out.trans (distOf_part (.inr (.inr (.inr (by have := hk.out; omega)))))) rfl rfl hbb
    have h6' : (k : Int) < 6000 := by omega
    have hv := Lib.hid (hspec.out.trans (distOf_two HP.out HP2.out HZ.out (show (bl b).length ≤ 4 by rw [bl_len]; omega) (by have := hk.out; omega)))
    clear h6
    rcases hlen with hlen | hlen
    · go_wp2_with fail
      refine (parseInt_ok a _ (plainB_parts HP.out).1 (plainB_parts HP.out).2.2 (by omega)).mono ?_
      rintro e w3 ⟨n, rfl, hn, hn18, hb3⟩
      have hn9 := short_val hn.out (plainB_parts HP.out).2.2 (by omega)
      have hb := Below.then_ hbb hb3
      by_cases hbig : 8000000 < (n : Int) * 6000 + (k : Int)
      · go_wp2
        go_ret2
        have hq := dist_out (v := ((digVal (bl a) * 6000 + digVal (bl b) : Nat) : Int)) (by have := hn.out; have := hk.out; omega)
        exact distPost hv.out hq.1 hq.2 hb
      · have hbig : (n : Int) * 6000 + (k : Int) ≤ 8000000 := by omega
        go_wp2
        go_ret2
        have hq := dist_in (v := ((digVal (bl a) * 6000 + digVal (bl b) : Nat) : Int)) (by have := hn.out; have := hk.out; omega)
        exact distPost hv.out (hq.1.trans (by have := hn.out; have := hk.out; omega)) hq.2 hb
    · go_wp2
      go_ret2
      have hq := dist_far HP.out (show 9 < (bl a).length from hlen) (digVal (bl b))
      exact distPost hv.out hq.1 hq.2 hbb

/-! ### the reference -/
theorem cut_now {s : ByteArray} {j : Nat} (c : UInt8) (hj : j < s.size) (h : s[j] = c) (hn : c ∉ (bl s).take j) : cutAt c (bl s) = (bl (s.extract 0 j), bl (s.extract (j + 1) s.size), true) := by
  have hj' : j < (bl s).length := hj
  have h5 := List.drop_eq_getElem_cons hj'
  rw [show (bl s)[j]'hj' = c from h] at h5
  have e : bl s = (bl s).take j ++ c :: (bl s).drop (j + 1) := by rw [← h5, List.take_append_drop]
  rw [bl_extract, bl_extract, List.drop_zero, Nat.sub_zero, List.take_of_length_le (l := (bl s).drop (j + 1)) (by rw [List.length_drop, bl_len]; omega)]
  conv => lhs; rw [e]
  rw [cutAt_mid hn]
theorem notin_more {s : ByteArray} {j : Nat} {c : UInt8} (hj : j < s.size) (h : s[j] ≠ c) (hn : c ∉ (bl s).take j) : c ∉ (bl s).take (j + 1) := by
  rw [List.take_succ_eq_append_getElem (show j < (bl s).length from hj), List.mem_append, List.mem_singleton]
  rintro (e | e)
  · exact hn e
  · exact h e.symm
theorem pd_ways {s : ByteArray} {j : Nat} {mv av bv : Value} (hst : (mv = .bool false ∧ av = .string s ∧ bv = .string ⟨#[]⟩ ∧ Hid ((43 : UInt8) ∉ (bl s).take j)) ∨ (∃ a b : ByteArray, mv = .bool true ∧ av = .string a ∧ bv = .string b ∧ a.size ≤ s.size ∧ b.size ≤ s.size ∧ Hid (cutAt 43 (bl s) = (bl a, bl b, true)))) (hj : s.size ≤ j) :
    ∃ (f : Bool) (a b : ByteArray), mv = .bool f ∧ av = .string a ∧ bv = .string b ∧ a.size ≤ s.size ∧ b.size ≤ s.size ∧ Hid (cutAt 43 (bl s) = (bl a, bl b, f)) := by
  rcases hst with ⟨e1, e2, e3, hno⟩ | ⟨a, b, e1, e2, e3, ha, hb, hcut⟩
  · have hn := hno.out
    rw [List.take_of_length_le (by rw [bl_len]; omega)] at hn
    exact ⟨false, s, ⟨#[]⟩, e1, e2, e3, Nat.le_refl _, Nat.zero_le _, cutAt_none hn⟩
  · exact ⟨true, a, b, e1, e2, e3, ha, hb, hcut⟩
end Go.Proofs.YtakgcdefbbgdaaaGreatDoor
