/-
  The walk of the law RecordReads.
-/
import Derived.Test.YtfmijelndlllaaaDoorAwake
import Derived.Test.YtfmijelndlllaaaDoorSame
namespace Go.Proofs.YtfmijelndlllaaaDoor
open Go.RowKit
set_option linter.unusedVariables false
set_option linter.unusedSimpArgs false

set_option maxRecDepth 100000 in
set_option maxHeartbeats 1000000 in
theorem recordReads_walk (s : ByteArray) (w : World) (E : Env w) (hs : s.size ≤ maxLen) :
    Calls Tryd.prog 4 #[.string s] w fun e w' => e = .returned (.bool true) ∧ Below w.heap.size w w' := by
  go_enter Tryd.func4, Tryd.ntmps4
  go_wp2_with fail
  refine (awake_any _ E).mono ?_
  rintro e w1 ⟨rfl, hb1⟩
  have E1 := E.below hb1
  go_wp2_with fail
  refine (cut_any s 3000 (by omega) (by omega) _ hs).mono ?_
  rintro e w' ⟨t, rfl, _, ht, _, rfl⟩
  go_wp2_with fail
  refine (read_any t _ E1 (by unfold maxLen; omega)).mono ?_
  rintro e w2 ⟨v, d, rfl, hv, hd, hb2⟩
  go_wp2_with fail
  refine (rread_any t _ (by unfold maxLen; omega)).mono ?_
  rintro e w3 ⟨v2, d2, rfl, hv2, hd2, hb3⟩
  go_wp2_with fail
  refine (sameLines_same _ _ _ _ (hv.below hb3) hv2).mono ?_
  rintro e w4 ⟨rfl, hb4⟩
  go_wp2_with fail
  refine (sameDiags_same _ _ _ _ ((hd.below hb3).below hb4.below) (hd2.below hb4.below)).mono ?_
  rintro e w5 ⟨rfl, hb5⟩
  go_wp2
  go_ret
  exact ⟨rfl, Below.then_ (Below.then_ (Below.then_ (Below.then_ hb1 hb2) hb3) hb4.below) hb5.below⟩
end Go.Proofs.YtfmijelndlllaaaDoor
