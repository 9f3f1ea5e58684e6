/-
  Contracts: a scanner notes an error, and takes a field; both sides.
-/
import Derived.Test.YtlgajjlnbcbijaaGreatDoorScanR
import Derived.BigRegion
import Derived.StillTailTactics
namespace Go.Proofs.YtlgajjlnbcbijaaGreatDoor
open Go.RowKit
set_option linter.unusedVariables false
set_option linter.unusedSimpArgs false

theorem blkCell {w : World} {g : Nat} {cs : Array Value} {T : TypeId} (h : w.heap[g]? = some (.cells cs T (0, 0))) (j : Nat) {u : Value} (hu : cs[j]? = some u) : w.cell? ⟨g, j, none⟩ = some u := by
  rw [Lib.cell_of_heap h]; exact hu
theorem blkFree {w : World} {g : Nat} {cs : Array Value} {T : TypeId} (h : w.heap[g]? = some (.cells cs T (0, 0))) (j : Nat) : w.frozen? ⟨g, j, none⟩ = false := frozen_of_row w g j cs T h
theorem blkSet {w : World} {g : Nat} {cs : Array Value} {T : TypeId} (h : w.heap[g]? = some (.cells cs T (0, 0))) (j : Nat) (u : Value) : (w.setCell ⟨g, j, none⟩ u).heap[g]? = some (.cells (cs.setIfInBounds j u) T (0, 0)) := heap_setCell_same w g j cs T u h
theorem failed_any (s : Sc) (g : Nat) (w : World) (h : ScP w g s) :
    Calls Tryz.prog 102 #[.pointer (some ⟨g, 0, none⟩)] w fun e w' => e = .returned (.bool s.bad) ∧ w = w' := by
  obtain ⟨hn, v, hb, hf⟩ := h
  have c6 : w.cell? ⟨g, 6, none⟩ = some (.int .i64 s.de) := blkCell hb 6 rfl
  clear hb hf hn
  go_enter Tryz.func102, Tryz.ntmps102
  go_wp2
  go_ret
  exact ⟨rfl, rfl⟩
/-- what a call leaves of a scanner: s' -/
def ScPost (s' : Sc) (g : Nat) (w w' : World) : Prop := ScP w' g s' ∧ Off g w w'
def ScQPost (s' : Sc) (g : Nat) (w w' : World) : Prop := ScQ w' g s' ∧ Off g w w'
theorem ScPost.same {s : Sc} {g : Nat} {w : World} (h : ScP w g s) : ScPost s g w w := ⟨h, Off.refl _ _⟩
theorem ScPost.trans {s s' : Sc} {g : Nat} {a b c : World} (h : ScPost s g a b) (k : ScPost s' g b c) : ScPost s' g a c := ⟨k.1, h.2.trans k.2⟩
theorem ScPost.then_ {s : Sc} {g : Nat} {a b c : World} (h : ScPost s g a b) (k : Below b.heap.size b c) : ScPost s g a c := ⟨h.1.below k, h.2.trans (Off.of_below k)⟩
theorem ScQPost.same {s : Sc} {g : Nat} {w : World} (h : ScQ w g s) : ScQPost s g w w := ⟨h, Off.refl _ _⟩
theorem ScQPost.trans {s s' : Sc} {g : Nat} {a b c : World} (h : ScQPost s g a b) (k : ScQPost s' g b c) : ScQPost s' g a c := ⟨k.1, h.2.trans k.2⟩
theorem ScQPost.then_ {s : Sc} {g : Nat} {a b c : World} (h : ScQPost s g a b) (k : Below b.heap.size b c) : ScQPost s g a c := ⟨h.1.below k, h.2.trans (Off.of_below k)⟩
set_option maxHeartbeats 1000000 in
theorem note_any (s : Sc) (c e : Int) (g : Nat) (w : World) (h : ScP w g s) :
    Calls Tryz.prog 103 #[.pointer (some ⟨g, 0, none⟩), .int .i64 c, .int .i64 e] w fun en w' => en = .returned (.tuple #[]) ∧ ScPost (s.note c e) g w w' := by
  have H := Lib.hid h
  obtain ⟨hn, v, hb, hf⟩ := h
  have HB := Lib.hid hb
  have HF := Lib.hid hf
  clear hf
  cases hbad : s.bad
  · by_cases he : e = 0
    · have e1 : (e != 0) = false := bne_eq_false_iff_eq.2 he
      have HN : Hid (s.note c e = s) := by unfold Hid; rw [he, Sc.note_zero]
      clear he hb hn
      have HBD := Lib.hid hbad
      clear hbad
      go_enter Tryz.func103, Tryz.ntmps103
      go_wp2_with fail
      refine (failed_any s g _ H.out).mono ?_
      rintro en w1 ⟨rfl, rfl⟩
      rw [HBD.out]
      go_wp2
      go_end0
      exact ⟨rfl, by rw [HN.out]; exact ScPost.same H.out⟩
    · have e1 : (e != 0) = true := bne_iff_ne.2 he
      have HN := Lib.hid (Sc.note_set hbad c he)
      have f4 := blkFree hb 4
      have f5 := blkFree hb 5
      have f6 := blkFree hb 6
      have c0 : w.cell? ⟨g, 0, none⟩ = some (.int .i64 s.num) := blkCell hb 0 rfl
      have c4 : w.cell? ⟨g, 4, none⟩ = some (.int .i64 s.dl) := blkCell hb 4 rfl
      have c5 : w.cell? ⟨g, 5, none⟩ = some (.int .i64 s.dc) := blkCell hb 5 rfl
      have c6 : w.cell? ⟨g, 6, none⟩ = some (.int .i64 s.de) := blkCell hb 6 rfl
      have HFIN : Hid (ScPost (s.note c e) g w (((w.setCell ⟨g, 4, none⟩ (.int .i64 s.num)).setCell ⟨g, 5, none⟩ (.int .i64 c)).setCell ⟨g, 6, none⟩ (.int .i64 e))) := by
        have ho : Off g w (((w.setCell ⟨g, 4, none⟩ (.int .i64 s.num)).setCell ⟨g, 5, none⟩ (.int .i64 c)).setCell ⟨g, 6, none⟩ (.int .i64 e)) := (((Off.refl g w).set 4 _).set 5 _).set 6 _
        refine ⟨?_, ho⟩
        rw [HN.out]
        exact ⟨hn, v, blkSet (blkSet (blkSet HB.out 4 _) 5 _) 6 _, HF.out.off H.out.lt ho⟩
      have HBD := Lib.hid hbad
      clear hbad he hb hn
      go_enter Tryz.func103, Tryz.ntmps103
      go_wp2_with fail
      refine (failed_any s g _ H.out).mono ?_
      rintro en w1 ⟨rfl, rfl⟩
      rw [HBD.out]
      go_wp2
      go_end0
      exact ⟨rfl, HFIN.out⟩
  · have HN := Lib.hid (Sc.note_bad hbad c e)
    have HBD := Lib.hid hbad
    clear hbad hb hn
    go_enter Tryz.func103, Tryz.ntmps103
    go_wp2_with fail
    refine (failed_any s g _ H.out).mono ?_
    rintro en w1 ⟨rfl, rfl⟩
    rw [HBD.out]
    go_wp2
    go_end0
    exact ⟨rfl, by rw [HN.out]; exact ScPost.same H.out⟩
end Go.Proofs.YtlgajjlnbcbijaaGreatDoor
