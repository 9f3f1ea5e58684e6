/-
  Several texts as one.
-/
import Derived.Test.YtgmehlgfilpleaaGreatDoorMG02
import Derived.Test.YtgmehlgfilpleaaGreatDoorMG01
import Derived.Test.YtgmehlgfilpleaaGreatDoorMG05
import Derived.Test.YtgmehlgfilpleaaGreatDoorMG06
import Derived.Test.YtgmehlgfilpleaaGreatDoorMG04
import Derived.IntWalk
namespace Go.Proofs.YtgmehlgfilpleaaGreatDoor
open Go.RowKit
set_option linter.unusedVariables false
set_option linter.unusedSimpArgs false

/-! ### regions of two letters or digits -/
def shortB (l : List UInt8) : Bool := l.length == 2 && l.all nameC
theorem shortB_len {s : ByteArray} (h : ¬ s.size = 2) : shortB (bl s) = false := by
  unfold shortB
  have : ((bl s).length == 2) = false := by rw [beq_eq_false_iff_ne]; exact h
  rw [this]; rfl
theorem shortB_of {s : ByteArray} (h : s.size = 2) : shortB (bl s) = (bl s).all nameC := by
  unfold shortB
  have : ((bl s).length == 2) = true := by rw [beq_iff_eq]; exact h
  rw [this]; rfl
theorem nameC_ways (c : UInt8) : (Hid (nameC c = true) ∧ ((65 ≤ (c.toNat : Int) ∧ (c.toNat : Int) ≤ 90) ∨ ((c.toNat : Int) < 65 ∧ 48 ≤ (c.toNat : Int) ∧ (c.toNat : Int) ≤ 57))) ∨
    (Hid (nameC c = false) ∧ (((c.toNat : Int) < 65 ∧ (c.toNat : Int) < 48) ∨ ((c.toNat : Int) < 65 ∧ 48 ≤ (c.toNat : Int) ∧ 57 < (c.toNat : Int)) ∨ (65 ≤ (c.toNat : Int) ∧ 90 < (c.toNat : Int) ∧ 48 ≤ (c.toNat : Int) ∧ 57 < (c.toNat : Int)))) := by
  by_cases h : (65 ≤ (c.toNat : Int) ∧ (c.toNat : Int) ≤ 90) ∨ (48 ≤ (c.toNat : Int) ∧ (c.toNat : Int) ≤ 57)
  · exact .inl ⟨nameC_yes h, by omega⟩
  · exact .inr ⟨nameC_no (by omega) (by omega), by omega⟩
set_option maxHeartbeats 1000000 in
theorem short_any (s : ByteArray) (w : World) (hs : s.size ≤ maxLen) :
    Calls Tryz.prog 146 #[.string s] w fun e w' => e = .returned (.bool (shortB (bl s))) ∧ w = w' := by
  unfold maxLen at hs
  by_cases h2 : s.size = 2
  · have H2 := Lib.hid h2
    have e2 : ((s.size : Int) != 2) = false := by rw [bne_eq_false_iff_eq]; omega
    have b1 : 2 ≤ s.size := by omega
    have b2 : s.size ≤ 2 := by omega
    clear h2
    go_enter Tryz.func146, Tryz.ntmps146
    go_wp2
    go_loop [9] (fun i => ∃ k : Nat, k ≤ s.size ∧ i = .int .i64 k ∧ Hid (((bl s).take k).all nameC = true)) (fun i => s.size - (intOf i).toNat)
    case atStart => exact ⟨0, Nat.zero_le _, rfl, rfl⟩
    case round =>
      obtain ⟨k, hk, rfl, hall⟩ := hrel
      by_cases h : k < s.size
      · have hk2 : (k : Int) < 2 := by omega
        rcases nameC_ways s[k] with ⟨hn, hc⟩ | ⟨hn, hc⟩
        · have HA := Lib.hid (all_take_succ hall.out h hn.out)
          clear hn
          rcases hc with ⟨c1, c2⟩ | ⟨c1, c2, c3⟩
          all_goals
            go_wp2
            go_round
            case rel => exact ⟨k + 1, h, by go_num, HA.out⟩
            case measure => simp [intOf]; omega
        · have HF : Hid (shortB (bl s) = false) := by unfold Hid; rw [shortB_of H2.out, all_false_at (l := bl s) (k := k) h hn.out]
          clear hn
          rcases hc with ⟨c1, c2⟩ | ⟨c1, c2, c3⟩ | ⟨c1, c2, c3, c4⟩
          all_goals
            go_wp2
            go_ret
            exact ⟨ret_bool HF.out.symm, rfl⟩
      · have hk2 : (2 : Int) ≤ (k : Int) := by omega
        go_wp2
        go_ret
        exact ⟨ret_bool (by rw [shortB_of H2.out, all_take_all hall.out (by rw [bl_len]; omega)]), rfl⟩
  · have e2 : ((s.size : Int) != 2) = true := by rw [bne_iff_ne]; omega
    have HF := Lib.hid (shortB_len h2)
    clear h2
    go_enter Tryz.func146, Tryz.ntmps146
    go_wp2
    go_ret
    exact ⟨ret_bool HF.out.symm, rfl⟩
/-! ### references -/
def refB (a b : List UInt8) : Bool := nameB a 6 && (nameB b 6 || shortB b)
def refErr (l : List UInt8) : Int := if (cutAt 47 l).2.2 then (if refB (cutAt 47 l).1 (cutAt 47 l).2.1 then 0 else 5) else 4
def refFst (l : List UInt8) : List UInt8 := if refErr l = 0 then (cutAt 47 l).1 else []
def refSnd (l : List UInt8) : List UInt8 := if refErr l = 0 then (cutAt 47 l).2.1 else []
def RefTPost (s : ByteArray) (w : World) (e : Ending) (w' : World) : Prop :=
  ∃ a b, e = .returned (.tuple #[.string a, .string b, .int .i64 (refErr (bl s))]) ∧ Hid (bl a = refFst (bl s)) ∧ Hid (bl b = refSnd (bl s)) ∧ a.size ≤ s.size ∧ b.size ≤ s.size ∧ Drawn w w'
theorem refErr_no {s : ByteArray} {x y : List UInt8} (h : cutAt 47 (bl s) = (x, y, false)) : refErr (bl s) = 4 := by unfold refErr; rw [h]; rfl
theorem refErr_yes {s : ByteArray} {x y : List UInt8} (h : cutAt 47 (bl s) = (x, y, true)) : refErr (bl s) = if refB x y then 0 else 5 := by unfold refErr; rw [h]; rfl
theorem refTPost_bad {s : ByteArray} {w w' : World} {n : Int} (h : refErr (bl s) = n) (h0 : n ≠ 0) (hd : Drawn w w') : RefTPost s w (.returned (.tuple #[.string ⟨#[]⟩, .string ⟨#[]⟩, .int .i64 n])) w' := by
  subst h
  refine ⟨_, _, rfl, ?_, ?_, Nat.zero_le _, Nat.zero_le _, hd⟩
  · unfold Hid refFst; rw [if_neg h0]; rfl
  · unfold Hid refSnd; rw [if_neg h0]; rfl
theorem refTPost_ok {s a b : ByteArray} {w w' : World} (h : cutAt 47 (bl s) = (bl a, bl b, true)) (hr : refB (bl a) (bl b) = true) (ha : a.size ≤ s.size) (hb : b.size ≤ s.size) (hd : Drawn w w') : RefTPost s w (.returned (.tuple #[.string a, .string b, .int .i64 0])) w' := by
  have h0 : refErr (bl s) = 0 := by rw [refErr_yes h, if_pos hr]
  refine ⟨a, b, by rw [h0], ?_, ?_, ha, hb, hd⟩
  · unfold Hid refFst; rw [if_pos h0, h]
  · unfold Hid refSnd; rw [if_pos h0, h]
theorem refB_ways (a b : List UInt8) : (nameB a 6 = false ∧ Hid (refB a b = false)) ∨ (nameB a 6 = true ∧ ((nameB b 6 = true ∧ Hid (refB a b = true)) ∨ (nameB b 6 = false ∧ ((shortB b = true ∧ Hid (refB a b = true)) ∨ (shortB b = false ∧ Hid (refB a b = false)))))) := by
  unfold refB Hid
  cases nameB a 6 <;> cases nameB b 6 <;> cases shortB b <;> simp
set_option maxHeartbeats 1000000 in
theorem splitRef_any (s : ByteArray) (w : World) (hs : s.size ≤ maxLen) :
    Calls Tryz.prog 147 #[.string s] w (RefTPost s w) := by
  go_enter Tryz.func147, Tryz.ntmps147
  go_wp2_with fail
  refine (cutAny s 47 _ hs).mono ?_
  rintro e w1 ⟨a, b, f, rfl, hcut, has, hbs, hd⟩
  cases f
  · go_wp2
    go_ret3
    exact refTPost_bad (refErr_no hcut.out) (by decide) hd
  · go_wp2_with fail
    refine (name_any a 6 _ (Nat.le_trans has hs)).mono ?_
    rintro e w' ⟨rfl, rfl⟩
    rcases refB_ways (bl a) (bl b) with ⟨h1, hr⟩ | ⟨h1, ⟨h2, hr⟩ | ⟨h2, ⟨h3, hr⟩ | ⟨h3, hr⟩⟩⟩
    · rw [h1]
      clear h1
      go_wp2
      go_ret3
      exact refTPost_bad (n := 5) (by rw [refErr_yes hcut.out, hr.out]; rfl) (by decide) hd
    all_goals
      rw [h1]
      have H2 := Lib.hid h2
      clear h1 h2
      go_wp2_with fail
      refine (name_any b 6 _ (Nat.le_trans hbs hs)).mono ?_
      rintro e w' ⟨rfl, rfl⟩
      rw [H2.out]
    · go_wp2
      go_ret3
      exact refTPost_ok hcut.out hr.out has hbs hd
    all_goals
      have H3 := Lib.hid h3
      clear h3
      go_wp2_with fail
      refine (short_any b _ (Nat.le_trans hbs hs)).mono ?_
      rintro e w' ⟨rfl, rfl⟩
      rw [H3.out]
    · go_wp2
      go_ret3
      exact refTPost_ok hcut.out hr.out has hbs hd
    · go_wp2
      go_ret3
      exact refTPost_bad (n := 5) (by rw [refErr_yes hcut.out, hr.out]; rfl) (by decide) hd

/-- a fix: identifier, region, kind, position, elevation, range -/
structure Fx where
  id : List UInt8
  rg : List UInt8
  kd : Nat
  lat : Int
  lon : Int
  el : Int
  ra : Int
def fxc (f : Fx) : List Value := [.string (sb f.id), .string (sb f.rg), .int .u8 (f.kd : Int), .int .i64 f.lat, .int .i64 f.lon, .int .i64 f.el, .int .i64 f.ra]
def fxcells (l : List Fx) : List Value := l.flatMap fxc
def fx0 : Fx := ⟨[], [], 0, 0, 0, 0, 0⟩
def fxRef (f : Fx) : List UInt8 := f.id ++ 47 :: f.rg
theorem blkCell' {w : World} {g : Nat} {cs : Array Value} {T : TypeId} (h : w.heap[g]? = some (.cells cs T (0, 0))) (j : Nat) {u : Value} (hu : cs[j]? = some u) : w.cell? ⟨g, j, none⟩ = some u := by rw [Lib.cell_of_heap h]; exact hu
theorem lt_heap {w : World} {b : Nat} {o : Obj} (h : w.heap[b]? = some o) : b < w.heap.size := (Array.getElem?_eq_some_iff.1 h).1
/-- a fix in a box of the call's own -/
def FxBox (w : World) (b : Nat) (f : Fx) : Prop := w.heap[b]? = some (.cells #[.string (sb f.id), .string (sb f.rg), .int .u8 (f.kd : Int), .int .i64 f.lat, .int .i64 f.lon, .int .i64 f.el, .int .i64 f.ra] 38 (0, 0))
structure FxCells (w : World) (b : Nat) (a c : ByteArray) (k : Nat) (lat lon el ra : Int) : Prop where
  c0 : w.cell? ⟨b, 0, none⟩ = some (.string a)
  c1 : w.cell? ⟨b, 1, none⟩ = some (.string c)
  c2 : w.cell? ⟨b, 2, none⟩ = some (.int .u8 (k : Int))
  c3 : w.cell? ⟨b, 3, none⟩ = some (.int .i64 lat)
  c4 : w.cell? ⟨b, 4, none⟩ = some (.int .i64 lon)
  c5 : w.cell? ⟨b, 5, none⟩ = some (.int .i64 el)
  c6 : w.cell? ⟨b, 6, none⟩ = some (.int .i64 ra)
theorem FxBox.cells {w : World} {b : Nat} {f : Fx} (h : FxBox w b f) : FxCells w b (sb f.id) (sb f.rg) f.kd f.lat f.lon f.el f.ra :=
  ⟨blkCell' h 0 rfl, blkCell' h 1 rfl, blkCell' h 2 rfl, blkCell' h 3 rfl, blkCell' h 4 rfl, blkCell' h 5 rfl, blkCell' h 6 rfl⟩
theorem FxBox.below {w w' : World} {b : Nat} {f : Fx} (h : FxBox w b f) (hb : Below w.heap.size w w') : FxBox w' b f := (hb.block b (Array.getElem?_eq_some_iff.1 h).1).trans h
theorem fxBox_new (w : World) (f : Fx) : FxBox (w.alloc (.cells #[.string (sb f.id), .string (sb f.rg), .int .u8 (f.kd : Int), .int .i64 f.lat, .int .i64 f.lon, .int .i64 f.el, .int .i64 f.ra] 38)) w.heap.size f := heap_alloc_new w _

def FRefPost (f : Fx) (w : World) (e : Ending) (w' : World) : Prop := e = .returned (.string (sb (fxRef f))) ∧ Below w.heap.size w w'
theorem fixRef_any (f : Fx) (w : World) (hi : f.id.length ≤ 1000000000000000) (hr : f.rg.length ≤ 1000000000000000) :
    Calls Tryz.prog 14 #[.agg #[.string (sb f.id), .string (sb f.rg), .int .u8 (f.kd : Int), .int .i64 f.lat, .int .i64 f.lon, .int .i64 f.el, .int .i64 f.ra]] w (FRefPost f w) := by
  have h1 : (sb f.id).size ≤ 1000000000000000 := hi
  have h2 : (sb f.rg).size ≤ 1000000000000000 := hr
  have HE : Hid (∀ s : ByteArray, bl s = fxRef f → sb (fxRef f) = s) := fun s h => by rw [← h, sb_bl]
  clear hi hr
  go_enter Tryz.func14, Tryz.ntmps14
  go_wp2
  go_ret
  refine ⟨?_, (Below.refl _ _).alloc (Nat.le_refl _) _⟩
  rw [HE.out (sb f.id ++ ⟨#[47]⟩ ++ sb f.rg) (by rw [bl_append, bl_append, bl_sb, bl_sb]; unfold fxRef; simp [bl_mk])]
  first | rfl | (simp [ByteArray.append_assoc])

end Go.Proofs.YtgmehlgfilpleaaGreatDoor
namespace Go.Proofs.YtgmehlgfilpleaaGreatDoor
set_option linter.unusedVariables false
set_option linter.unusedSimpArgs false

end Go.Proofs.YtgmehlgfilpleaaGreatDoor
namespace Go.Proofs.YtgmehlgfilpleaaGreatDoor
open Go.RowKit
set_option linter.unusedVariables false
set_option linter.unusedSimpArgs false


/-- RW, two digits from 01 to 36, perhaps L, C or R -/
def rwyB (l : List UInt8) : Bool :=
  decide (4 ≤ l.length) && decide (l.length ≤ 5) && (l.take 2 == [82, 87]) && digC (l.getD 2 0) && decide ((l.getD 2 0).toNat ≤ 51) && digC (l.getD 3 0)
  && decide (1 ≤ 10 * ((l.getD 2 0).toNat - 48) + ((l.getD 3 0).toNat - 48)) && decide (10 * ((l.getD 2 0).toNat - 48) + ((l.getD 3 0).toNat - 48) ≤ 36)
  && (decide (l.length = 4) || l.getD 4 0 == 76 || l.getD 4 0 == 67 || l.getD 4 0 == 82)
def identE (l : List UInt8) (k : Nat) : Int := if nameB l 6 && (k != 6 || rwyB l) then 0 else 5
def locE (l : List UInt8) (k : Nat) : Int := if (k == 6 && nameB l 6) || (k != 6 && shortB l) then 0 else 5
def elevB (k : Nat) : Bool := decide (k = 5) || decide (k = 6)
def navB (k : Nat) : Bool := decide (k = 2) || decide (k = 3) || decide (k = 4)
def elE (k : Nat) (el : Int) : Int := if elevB k then (if el < -200000 ∨ 6000000 < el then 2 else 0) else (if el = 0 then 0 else 1)
def raE (k : Nat) (ra : Int) : Int := if navB k then (if ra < 1 ∨ 8000000 < ra then 2 else 0) else (if ra = 0 then 0 else 1)
/-- the first error of a fix -/
def fixE (f : Fx) : Int :=
  if f.kd < 1 ∨ 6 < f.kd then 17 else if identE f.id f.kd ≠ 0 then 5 else if locE f.rg f.kd ≠ 0 then 5 else if posB f.lat f.lon = false then 2
  else if elE f.kd f.el ≠ 0 then elE f.kd f.el else raE f.kd f.ra

theorem getD_at {s : ByteArray} {k : Nat} (h : k < s.size) : (bl s).getD k 0 = s[k] := by
  rw [List.getD_eq_getElem?_getD, bl_get? s k h]; rfl
theorem rwy_short {s : ByteArray} (h : s.size < 4 ∨ 5 < s.size) : rwyB (bl s) = false := by
  unfold rwyB
  rcases h with h | h
  · rw [decide_eq_false (p := 4 ≤ (bl s).length) (by rw [bl_len]; omega)]; rfl
  · rw [decide_eq_false (p := (bl s).length ≤ 5) (by rw [bl_len]; omega)]; simp
theorem rwy_word {s : ByteArray} (h : ((s.extract 0 2).toList == [82, 87]) = false) : rwyB (bl s) = false := by
  unfold rwyB
  have : ((bl s).take 2 == [82, 87]) = false := by
    rw [bl_toList, bl_extract] at h
    exact h
  rw [this]; simp
/-- the ways of a text of four or five bytes that begins with RW -/
structure RwF (s : ByteArray) (x y : Nat) : Prop where
  a : 4 ≤ s.size
  b : s.size ≤ 5
  w : ((s.extract 0 2).toList == [82, 87]) = true
  x2 : (bl s).getD 2 0 = UInt8.ofNat x
  y3 : (bl s).getD 3 0 = UInt8.ofNat y
  xb : x < 256
  yb : y < 256
theorem rwy_dig {s : ByteArray} {x y : Nat} (h : RwF s x y) (hd : x < 48 ∨ 51 < x ∨ y < 48 ∨ 57 < y) : rwyB (bl s) = false := by
  unfold rwyB digC
  rw [h.x2, h.y3]
  have e1 : (UInt8.ofNat x).toNat = x := by have := h.xb; simp; omega
  have e2 : (UInt8.ofNat y).toNat = y := by have := h.yb; simp; omega
  rw [e1, e2]
  rw [← Bool.not_eq_true]
  simp only [Bool.and_eq_true, decide_eq_true_eq]
  omega
theorem rwy_num {s : ByteArray} {x y : Nat} (h : RwF s x y) (h1 : 48 ≤ x) (h2 : x ≤ 51) (h3 : 48 ≤ y) (h4 : y ≤ 57) (hn : 10 * (x - 48) + (y - 48) < 1 ∨ 36 < 10 * (x - 48) + (y - 48)) : rwyB (bl s) = false := by
  unfold rwyB digC
  rw [h.x2, h.y3]
  have e1 : (UInt8.ofNat x).toNat = x := by have := h.xb; simp; omega
  have e2 : (UInt8.ofNat y).toNat = y := by have := h.yb; simp; omega
  rw [e1, e2]
  rw [← Bool.not_eq_true]
  simp only [Bool.and_eq_true, decide_eq_true_eq]
  omega
theorem rwy_ok {s : ByteArray} {x y : Nat} (h : RwF s x y) (h1 : 48 ≤ x) (h2 : x ≤ 51) (h3 : 48 ≤ y) (h4 : y ≤ 57) (hn : 1 ≤ 10 * (x - 48) + (y - 48)) (hn2 : 10 * (x - 48) + (y - 48) ≤ 36) :
    rwyB (bl s) = (decide ((bl s).length = 4) || (bl s).getD 4 0 == 76 || (bl s).getD 4 0 == 67 || (bl s).getD 4 0 == 82) := by
  unfold rwyB digC
  rw [h.x2, h.y3]
  have e1 : (UInt8.ofNat x).toNat = x := by have := h.xb; simp; omega
  have e2 : (UInt8.ofNat y).toNat = y := by have := h.yb; simp; omega
  have e3 : ((bl s).take 2 == [82, 87]) = true := by
    have hw := h.w
    rw [bl_toList, bl_extract] at hw
    exact hw
  rw [e1, e2, e3, decide_eq_true (p := 4 ≤ (bl s).length) (by rw [bl_len]; exact h.a), decide_eq_true (p := (bl s).length ≤ 5) (by rw [bl_len]; exact h.b), decide_eq_true h1, decide_eq_true (p := x ≤ 57) (by omega), decide_eq_true h2, decide_eq_true h3, decide_eq_true h4, decide_eq_true hn, decide_eq_true hn2]
  rfl
theorem rwF_mk {s : ByteArray} (h4 : 4 ≤ s.size) (h5 : s.size ≤ 5) (hw : ((s.extract 0 2).toList == [82, 87]) = true) : RwF s (s[2]'(by omega)).toNat (s[3]'(by omega)).toNat :=
  ⟨h4, h5, hw, by rw [getD_at (show 2 < s.size by omega), UInt8.ofNat_toNat], by rw [getD_at (show 3 < s.size by omega), UInt8.ofNat_toNat], u8_lt _, u8_lt _⟩
/-- the last letter -/
inductive RwT (s : ByteArray) : Prop
  | four (h : s.size = 4)
  | l (h : 4 < s.size) (e1 : ((s[4].toNat : Int) != 76) = false) (e2 : ((s[4].toNat : Int) == 76) = true)
  | c (h : 4 < s.size) (e0 : ((s[4].toNat : Int) != 76) = true) (e1 : ((s[4].toNat : Int) != 67) = false) (e2 : ((s[4].toNat : Int) == 67) = true) (e3 : ((s[4].toNat : Int) == 76) = false)
  | r (h : 4 < s.size) (e0 : ((s[4].toNat : Int) != 76) = true) (e1 : ((s[4].toNat : Int) != 67) = true) (e2 : ((s[4].toNat : Int) != 82) = false) (e3 : ((s[4].toNat : Int) == 82) = true) (e4 : ((s[4].toNat : Int) == 76) = false) (e5 : ((s[4].toNat : Int) == 67) = false)
  | no (h : 4 < s.size) (e0 : ((s[4].toNat : Int) != 76) = true) (e1 : ((s[4].toNat : Int) != 67) = true) (e2 : ((s[4].toNat : Int) != 82) = true) (e3 : ((s[4].toNat : Int) == 82) = false) (e4 : ((s[4].toNat : Int) == 76) = false) (e5 : ((s[4].toNat : Int) == 67) = false)
def tailB (l : List UInt8) : Bool := decide (l.length = 4) || l.getD 4 0 == 76 || l.getD 4 0 == 67 || l.getD 4 0 == 82
theorem rwT_mk (s : ByteArray) (h4 : 4 ≤ s.size) (h5 : s.size ≤ 5) : RwT s := by
  by_cases h : s.size = 4
  · exact .four h
  · have h' : 4 < s.size := by omega
    by_cases e1 : (s[4].toNat : Int) = 76
    · exact .l h' (bne_eq_false_iff_eq.2 e1) (beq_iff_eq.2 e1)
    · have n1 : ((s[4].toNat : Int) != 76) = true := bne_iff_ne.2 e1
      have m1 : ((s[4].toNat : Int) == 76) = false := beq_eq_false_iff_ne.2 e1
      by_cases e2 : (s[4].toNat : Int) = 67
      · exact .c h' n1 (bne_eq_false_iff_eq.2 e2) (beq_iff_eq.2 e2) m1
      · have n2 : ((s[4].toNat : Int) != 67) = true := bne_iff_ne.2 e2
        have m2 : ((s[4].toNat : Int) == 67) = false := beq_eq_false_iff_ne.2 e2
        by_cases e3 : (s[4].toNat : Int) = 82
        · exact .r h' n1 n2 (bne_eq_false_iff_eq.2 e3) (beq_iff_eq.2 e3) m1 m2
        · exact .no h' n1 n2 (bne_iff_ne.2 e3) (beq_eq_false_iff_ne.2 e3) m1 m2
theorem tail_yes {s : ByteArray} (h : s.size = 4 ∨ ∃ h : 4 < s.size, ((s[4].toNat : Int) == 76) = true ∨ ((s[4].toNat : Int) == 67) = true ∨ ((s[4].toNat : Int) == 82) = true) : tailB (bl s) = true := by
  unfold tailB
  rcases h with h | ⟨h, h2⟩
  · rw [decide_eq_true (p := (bl s).length = 4) (by rw [bl_len]; exact h)]; rfl
  · rw [getD_at h]
    rcases h2 with h2 | h2 | h2
    all_goals
      rw [beq_iff_eq] at h2
      have : s[4] = UInt8.ofNat s[4].toNat := (UInt8.ofNat_toNat ..).symm
      rw [this]
    · rw [show s[4].toNat = 76 by omega]; simp
    · rw [show s[4].toNat = 67 by omega]; simp
    · rw [show s[4].toNat = 82 by omega]; simp
theorem tail_no {s : ByteArray} (h : 4 < s.size) (e0 : ((s[4].toNat : Int) != 76) = true) (e1 : ((s[4].toNat : Int) != 67) = true) (e2 : ((s[4].toNat : Int) != 82) = true) : tailB (bl s) = false := by
  rw [bne_iff_ne] at e0 e1 e2
  unfold tailB
  rw [getD_at h, decide_eq_false (p := (bl s).length = 4) (by rw [bl_len]; omega)]
  have k : ∀ n : Nat, n < 256 → (s[4].toNat : Int) ≠ n → (s[4] == UInt8.ofNat n) = false := by
    intro n hn hne
    rw [beq_eq_false_iff_ne]
    intro e
    have := congrArg UInt8.toNat e
    simp at this
    omega
  have k1 := k 76 (by omega) (by omega)
  have k2 := k 67 (by omega) (by omega)
  have k3 := k 82 (by omega) (by omega)
  show (((false || s[4] == UInt8.ofNat 76) || s[4] == UInt8.ofNat 67) || s[4] == UInt8.ofNat 82) = false
  rw [k1, k2, k3]; rfl
theorem rwy_notail {s : ByteArray} (h : tailB (bl s) = false) : rwyB (bl s) = false := by
  unfold tailB at h
  unfold rwyB
  rw [h, Bool.and_false]
def RwyPost (s : ByteArray) (w : World) (e : Ending) (w' : World) : Prop := e = .returned (.bool (rwyB (bl s))) ∧ Drawn w w'
theorem RwyPost.mk {s : ByteArray} {w w' : World} {b : Bool} (h : rwyB (bl s) = b) (hd : Drawn w w') : RwyPost s w (.returned (.bool b)) w' := by subst h; exact ⟨rfl, hd⟩
set_option maxRecDepth 100000 in
set_option maxHeartbeats 4000000 in
theorem runway_any (s : ByteArray) (w : World) (hs : s.size ≤ maxLen) : Calls Tryz.prog 145 #[.string s] w (RwyPost s w) := by
  unfold maxLen at hs
  have hw : s.size < 4 ∨ (4 ≤ s.size ∧ 5 < s.size) ∨ (4 ≤ s.size ∧ s.size ≤ 5) := by omega
  rcases hw with h | ⟨h, h'⟩ | ⟨h4, h5⟩
  · have HF := Lib.hid (rwy_short (s := s) (.inl h))
    go_enter Tryz.func145, Tryz.ntmps145
    go_wp2
    go_ret
    exact .mk HF.out (Drawn.refl _)
  · have HF := Lib.hid (rwy_short (s := s) (.inr h'))
    go_enter Tryz.func145, Tryz.ntmps145
    go_wp2
    go_ret
    exact .mk HF.out (Drawn.refl _)
  · cases hwd : ((s.extract 0 2).toList == [82, 87])
    · have HF := Lib.hid (rwy_word hwd)
      go_enter Tryz.func145, Tryz.ntmps145
      go_wp2
      go_ret
      exact .mk HF.out (Drawn.refl _)
    · have HR := Lib.hid (rwF_mk h4 h5 hwd)
      have hT := rwT_mk s h4 h5
      have h2 : 2 < s.size := by omega
      have h3 : 3 < s.size := by omega
      have hdig : (s[2].toNat : Int) < 48 ∨ (48 ≤ (s[2].toNat : Int) ∧ 51 < (s[2].toNat : Int)) ∨ (48 ≤ (s[2].toNat : Int) ∧ (s[2].toNat : Int) ≤ 51 ∧ (s[3].toNat : Int) < 48) ∨ (48 ≤ (s[2].toNat : Int) ∧ (s[2].toNat : Int) ≤ 51 ∧ 48 ≤ (s[3].toNat : Int) ∧ 57 < (s[3].toNat : Int)) ∨ (48 ≤ (s[2].toNat : Int) ∧ (s[2].toNat : Int) ≤ 51 ∧ 48 ≤ (s[3].toNat : Int) ∧ (s[3].toNat : Int) ≤ 57) := by omega
      have HBAD : Hid (∀ b : Bool, b = false → ((s[2].toNat : Int) < 48 ∨ 51 < (s[2].toNat : Int) ∨ (s[3].toNat : Int) < 48 ∨ 57 < (s[3].toNat : Int)) → rwyB (bl s) = b) := by
        intro b hb h; rw [rwy_dig HR.out (by omega), hb]
      have HNUM : Hid (48 ≤ (s[2].toNat : Int) → (s[2].toNat : Int) ≤ 51 → 48 ≤ (s[3].toNat : Int) → (s[3].toNat : Int) ≤ 57 → (((s[2].toNat : Int) - 48) * 10 + ((s[3].toNat : Int) - 48) < 1 ∨ 36 < ((s[2].toNat : Int) - 48) * 10 + ((s[3].toNat : Int) - 48)) → rwyB (bl s) = false) := by
        intro h1 h2 h3 h4 h; exact rwy_num HR.out (by omega) (by omega) (by omega) (by omega) (by omega)
      have HOKN : Hid (48 ≤ (s[2].toNat : Int) → (s[2].toNat : Int) ≤ 51 → 48 ≤ (s[3].toNat : Int) → (s[3].toNat : Int) ≤ 57 → 1 ≤ ((s[2].toNat : Int) - 48) * 10 + ((s[3].toNat : Int) - 48) → ((s[2].toNat : Int) - 48) * 10 + ((s[3].toNat : Int) - 48) ≤ 36 → rwyB (bl s) = tailB (bl s)) := by
        intro h1 h2 h3 h4 h5 h6; exact rwy_ok HR.out (by omega) (by omega) (by omega) (by omega) (by omega) (by omega)
      rcases hT with h | ⟨h, e1, e2⟩ | ⟨h, e0, e1, e2, e3⟩ | ⟨h, e0, e1, e2, e3, e4, e5⟩ | ⟨h, e0, e1, e2, e3, e4, e5⟩
      case no =>
        have HF := Lib.hid (rwy_notail (tail_no h e0 e1 e2))
        have e5' : ((s.size : Int) == 5) = true := beq_iff_eq.2 (by omega)
        clear hdig
        go_enter Tryz.func145, Tryz.ntmps145
        go_wp2
        go_ret
        exact .mk HF.out (Drawn.refl _)
      all_goals
        first
          | (have e5' : ((s.size : Int) == 5) = false := beq_eq_false_iff_ne.2 (by omega)
             have HTY := Lib.hid (tail_yes (s := s) (.inl h))
             have HS4 := Lib.hid h
             clear h)
          | (have e5' : ((s.size : Int) == 5) = true := beq_iff_eq.2 (by omega)
             have HTY := Lib.hid (tail_yes (s := s) (.inr ⟨h, by first | exact .inl e2 | exact .inr (.inl e2) | exact .inr (.inr e3)⟩)))
        rcases hdig with d1 | ⟨d1, d2⟩ | ⟨d1, d2, d3⟩ | ⟨d1, d2, d3, d4⟩ | ⟨d1, d2, d3, d4⟩
        case inr.inr.inr.inr =>
          have q1 : IntKind.u8.wrap ((s[2].toNat : Int) - 48) = (s[2].toNat : Int) - 48 := IntWalk.u8_in _ (by omega)
          have q2 : IntKind.u8.wrap ((s[3].toNat : Int) - 48) = (s[3].toNat : Int) - 48 := IntWalk.u8_in _ (by omega)
          have q3 : IntKind.i64.wrap (((s[2].toNat : Int) - 48) * 10) = ((s[2].toNat : Int) - 48) * 10 := IntWalk.i64_in _ (by omega)
          have q4 : IntKind.i64.wrap (((s[2].toNat : Int) - 48) * 10 + ((s[3].toNat : Int) - 48)) = ((s[2].toNat : Int) - 48) * 10 + ((s[3].toNat : Int) - 48) := IntWalk.i64_in _ (by omega)
          have hn : ((s[2].toNat : Int) - 48) * 10 + ((s[3].toNat : Int) - 48) < 1 ∨ (1 ≤ ((s[2].toNat : Int) - 48) * 10 + ((s[3].toNat : Int) - 48) ∧ ((s[2].toNat : Int) - 48) * 10 + ((s[3].toNat : Int) - 48) ≤ 36) ∨ (1 ≤ ((s[2].toNat : Int) - 48) * 10 + ((s[3].toNat : Int) - 48) ∧ 36 < ((s[2].toNat : Int) - 48) * 10 + ((s[3].toNat : Int) - 48)) := by omega
          rcases hn with n1 | ⟨n1, n2⟩ | ⟨n1, n2⟩
          case inr.inl =>
            have HF := Lib.hid ((HOKN.out d1 d2 d3 d4 n1 n2).trans HTY.out)
            have hb1 := decide_eq_true n1
            have hb2 := decide_eq_true n2
            go_enter Tryz.func145, Tryz.ntmps145
            go_wp2
            go_quiet (fail)
            clear q1 q2 q3 q4
            go_wp2
            go_ret
            exact .mk (HF.out.trans hb2.symm) ⟨_, rfl⟩
          all_goals
            have HF := Lib.hid (HNUM.out d1 d2 d3 d4 (by omega))
            try have hb1 : decide (((s[2].toNat : Int) - 48) * 10 + ((s[3].toNat : Int) - 48) ≤ 36) = false := decide_eq_false (by omega)
            go_enter Tryz.func145, Tryz.ntmps145
            go_wp2
            go_quiet (fail)
            clear q1 q2 q3 q4
            go_wp2
            go_ret
            first | exact .mk HF.out ⟨_, rfl⟩ | exact .mk (HF.out.trans hb1.symm) ⟨_, rfl⟩
        all_goals
          have HF := Lib.hid (HBAD.out false rfl (by omega))
          go_enter Tryz.func145, Tryz.ntmps145
          go_wp2
          go_ret
          exact .mk HF.out (Drawn.refl _)

/-! ### the reference -/
end Go.Proofs.YtgmehlgfilpleaaGreatDoor
namespace Go.Proofs.YtgmehlgfilpleaaGreatDoor
set_option linter.unusedVariables false
set_option linter.unusedSimpArgs false

end Go.Proofs.YtgmehlgfilpleaaGreatDoor
