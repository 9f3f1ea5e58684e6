/-
  The walk of the law AirwayHops.
-/
import Derived.Test.YtkopjbjkfeopfaaDoorRReach
import Derived.Test.YtkopjbjkfeopfaaDoorAwAwake
namespace Go.Proofs.YtkopjbjkfeopfaaDoor
open Go.RowKit
set_option linter.unusedVariables false
set_option linter.unusedSimpArgs false

set_option maxHeartbeats 1000000 in
theorem rreachT_any (v : Value) (L : List Aw) (r : ByteArray) (w : World) (h : AwsR w v L) :
    Calls Tryd.prog 16 #[v, .string r] w (ReachTPost L (bl r) w) := by
  have H := Lib.hid h
  clear h
  obtain ⟨x, hx⟩ : ∃ x, chkL L = x := ⟨_, rfl⟩
  have HX := Lib.hid hx
  have HP : Hid (∀ (v' : Value) (w' : World), StrR w' v' (rcL L (bl r)) → Below w.heap.size w w' → ReachTPost L (bl r) w (.returned (.tuple #[v', .int .i64 x])) w') := fun v' w' h1 h2 => ⟨v', by rw [HX.out], h1, h2⟩
  clear hx
  go_enter Tryd.func16, Tryd.ntmps16
  go_wp2_with fail
  refine (rcheckL_any v L _ H.out).mono ?_
  rintro e w1 ⟨rfl, hb1⟩
  rw [HX.out]
  by_cases h0 : x = 0
  · have e1 : (x != 0) = false := by rw [h0]; rfl
    have H0 := Lib.hid h0
    have HC := Lib.hid (HX.out.trans h0)
    rw [h0] at HP
    clear h0
    go_wp2_with fail
    refine (rreach_any v L r _ (H.out.below hb1) (chkL_small HC.out) (chkL_refs HC.out)).mono ?_
    rintro e w2 ⟨v2, rfl, hv2, hb2⟩
    have HV := Lib.hid hv2
    clear hv2
    go_wp2
    go_ret2
    exact HP.out _ _ (by unfold rcL; rw [if_pos HC.out]; exact HV.out) (Below.then_ hb1 hb2)
  · have e1 : (x != 0) = true := bne_iff_ne.2 h0
    have H0 := Lib.hid h0
    clear h0
    go_wp2
    go_ret2
    exact HP.out _ _ (by unfold rcL; rw [if_neg (by rw [HX.out]; exact H0.out)]; exact strR_nil _) hb1
set_option maxRecDepth 100000 in
set_option maxHeartbeats 1000000 in
theorem airwayHops_walk (v : Value) (L : List Aw) (s : ByteArray) (w : World) (E : Env w) (h : AwsR w v L) (hs : s.size ≤ maxLen) :
    Calls Tryd.prog 5 #[v, .string s] w fun e w' => e = .returned (.bool true) ∧ Below w.heap.size w w' := by
  have H := Lib.hid h
  have HS := Lib.hid hs
  clear h hs
  go_enter Tryd.func5, Tryd.ntmps5
  go_wp2_with fail
  refine (awake_any _ E).mono ?_
  rintro e w1 ⟨rfl, hb1⟩
  have HB1 := Lib.hid hb1
  clear hb1
  obtain ⟨x, hx⟩ : ∃ x, chkL L = x := ⟨_, rfl⟩
  have HX := Lib.hid hx
  have e0 : (x == x) = true := by simp
  have e00 : (x != x) = false := by simp
  clear hx
  go_wp2_with fail
  refine (next_any v L s _ (H.out.below HB1.out)).mono ?_
  rintro e w2 ⟨v2, rfl, hv2, hb2⟩
  have HB2 := Lib.hid (Below.then_ HB1.out hb2)
  obtain ⟨A2, c2, rfl, _⟩ := hv2.form
  have V2 := Lib.hid hv2
  rw [HX.out]
  clear hv2 hb2
  go_wp2_with fail
  refine (rnext_any v L s _ (H.out.below HB2.out)).mono ?_
  rintro e w3 ⟨v3, rfl, hv3, hb3⟩
  have HB3 := Lib.hid (Below.then_ HB2.out hb3)
  have V2 := Lib.hid (V2.out.below hb3)
  obtain ⟨A3, c3, rfl, _⟩ := hv3.form
  have V3 := Lib.hid hv3
  rw [HX.out]
  clear hv3 hb3
  go_wp2_with fail
  refine (hops_same _ _ (nextL L (bl s)) _ V2.out V3.out).mono ?_
  rintro e w4 ⟨rfl, hd4⟩
  have HB4 := Lib.hid (Below.then_ HB3.out hd4.below)
  clear hd4
  go_wp2_with fail
  refine (reachT_any v L s _ (H.out.below HB4.out) HS.out).mono ?_
  rintro e w5 ⟨v5, rfl, hv5, hb5⟩
  have HB5 := Lib.hid (Below.then_ HB4.out hb5)
  obtain ⟨A5, c5, rfl, _⟩ := hv5.form
  have V5 := Lib.hid hv5
  rw [HX.out]
  clear hv5 hb5
  go_wp2_with fail
  refine (rreachT_any v L s _ (H.out.below HB5.out)).mono ?_
  rintro e w6 ⟨v6, rfl, hv6, hb6⟩
  have HB6 := Lib.hid (Below.then_ HB5.out hb6)
  have V5 := Lib.hid (V5.out.below hb6)
  obtain ⟨A6, c6, rfl, _⟩ := hv6.form
  have V6 := Lib.hid hv6
  rw [HX.out]
  clear hv6 hb6
  go_wp2_with fail
  refine (refs_same _ _ (rcL L (bl s)) _ V5.out V6.out).mono ?_
  rintro e w7 ⟨rfl, hd7⟩
  have HB7 := Lib.hid (Below.then_ HB6.out hd7.below)
  clear hd7
  go_wp2
  go_ret
  exact ⟨rfl, HB7.out⟩
end Go.Proofs.YtkopjbjkfeopfaaDoor
