/-
  The walk of the law RecordSplits.
-/
import Derived.Test.YtfmijelndlllaaaDoorAwake
import Derived.Test.YtfmijelndlllaaaDoorRSplit
import Derived.Test.YtfmijelndlllaaaDoorSame
namespace Go.Proofs.YtfmijelndlllaaaDoor
open Go.RowKit
set_option linter.unusedVariables false
set_option linter.unusedSimpArgs false

set_option maxRecDepth 100000 in
set_option maxHeartbeats 1000000 in
theorem recordSplits_walk (s : ByteArray) (w : World) (E : Env w) (hs : s.size ≤ maxLen) :
    Calls Tryd.prog 3 #[.string s] w fun e w' => e = .returned (.bool true) ∧ Below w.heap.size w w' := by
  go_enter Tryd.func3, Tryd.ntmps3
  go_wp2_with fail
  refine (awake_any _ E).mono ?_
  rintro e w1 ⟨rfl, hb1⟩
  have E1 := E.below hb1
  go_wp2_with fail
  refine (cut_any s 300 (by omega) (by omega) _ hs).mono ?_
  rintro e w' ⟨t, rfl, _, ht, _, rfl⟩
  go_wp2_with fail
  refine (split_any t _ E1 (by unfold maxLen; omega)).mono ?_
  rintro e w2 ⟨v, rfl, hv, hb2⟩
  obtain ⟨A1, c1, rfl, _⟩ := hv.1.form
  go_wp2_with fail
  refine (rsplit_any t _ (by unfold maxLen; omega)).mono ?_
  rintro e w3 ⟨v2, rfl, hv2, hb3⟩
  obtain ⟨A2, c2, rfl, _⟩ := hv2.1.form
  go_wp2_with fail
  refine (sameFields_same _ _ (splitF (bl t)) _ (hv.below hb3).1 hv2.1).mono ?_
  rintro e w4 ⟨rfl, hb4⟩
  go_wp2
  go_ret
  exact ⟨rfl, Below.then_ (Below.then_ (Below.then_ hb1 hb2) hb3) hb4⟩
end Go.Proofs.YtfmijelndlllaaaDoor
