/-
  The walk of the law AirwayExpands.
-/
import Derived.Test.YtkopjbjkfeopfaaDoorAwAwake
namespace Go.Proofs.YtkopjbjkfeopfaaDoor
open Go.RowKit
set_option linter.unusedVariables false
set_option linter.unusedSimpArgs false

set_option maxRecDepth 100000 in
set_option maxHeartbeats 1000000 in
theorem airwayExpands_walk (nm f t : ByteArray) (v : Value) (l : List Pt) (w : World) (E : Env w) (h : PtsR w v l) (hnm : nm.size ≤ maxLen) :
    Calls Tryd.prog 3 #[.agg #[.string nm, v], .string f, .string t] w fun e w' => e = .returned (.bool true) ∧ Below w.heap.size w w' := by
  have H := Lib.hid h
  clear h
  have Q0 : Hid (BoxQ w nm v (w.alloc (.cells #[.string nm, v] 24))) := Below.refl _ _
  go_enter Tryd.func3, Tryd.ntmps3
  go_wp2_with fail
  refine (awake_any _ (E.alloc _)).mono ?_
  rintro e w1 ⟨rfl, hb1⟩
  have Q1 := Lib.hid (Q0.out.then_ hb1)
  have b0 := Q1.out.c0
  have b1 := Q1.out.c1
  have bs := Q1.out.size
  clear hb1
  go_wp2_with fail
  refine (expand_any nm f t _ l _ (Q1.out.pts H) hnm).mono ?_
  rintro e w2 ⟨v2, rfl, hv2, hb2⟩
  have Q2 := Lib.hid (Q1.out.then_ hb2)
  clear b0 b1 bs
  have b0 := Q2.out.c0
  have b1 := Q2.out.c1
  have bs := Q2.out.size
  obtain ⟨A2, c2, rfl, _⟩ := hv2.form
  have V2 := Lib.hid hv2
  clear hv2 hb2
  obtain ⟨r, hr⟩ : ∃ r, expOut (bl nm) l (bl f) (bl t) = r := ⟨_, rfl⟩
  rw [hr] at V2 ⊢
  have HR := Lib.hid hr
  clear hr
  go_wp2_with fail
  refine (rexpand_any nm f t _ l _ (Q2.out.pts H) hnm).mono ?_
  rintro e w3 ⟨v3, rfl, hv3, hb3⟩
  rw [HR.out] at hv3 ⊢
  have Q3 := Lib.hid (Q2.out.then_ hb3)
  have V2 := Lib.hid (V2.out.below hb3)
  obtain ⟨A3, c3, rfl, _⟩ := hv3.form
  have V3 := Lib.hid hv3
  clear hv3 hb3 b0 b1 bs
  have he : (r.2 == r.2) = true := by simp
  go_wp2_with fail
  refine (points_same _ _ r.1 _ V2.out V3.out).mono ?_
  rintro e w4 ⟨rfl, hd⟩
  have HB := Lib.hid (Q3.out.below.trans (hd.below))
  clear hd
  go_wp2
  go_ret
  exact ⟨rfl, HB.out⟩
end Go.Proofs.YtkopjbjkfeopfaaDoor
