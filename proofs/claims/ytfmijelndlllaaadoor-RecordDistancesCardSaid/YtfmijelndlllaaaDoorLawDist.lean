/-
  The walk of the law RecordDistances.
-/
import Derived.Test.YtfmijelndlllaaaDoorAwake
import Derived.Test.YtfmijelndlllaaaDoorSame
import Derived.Test.YtfmijelndlllaaaDoorDistP
namespace Go.Proofs.YtfmijelndlllaaaDoor
open Go.RowKit
set_option linter.unusedVariables false
set_option linter.unusedSimpArgs false

set_option maxRecDepth 100000 in
set_option maxHeartbeats 1000000 in
theorem recordDistances_walk (a : Int) (s : ByteArray) (w : World) (E : Env w) (hs : s.size ≤ maxLen) :
    Calls Tryd.prog 9 #[.int .i64 a, .string s] w fun e w' => e = .returned (.bool true) ∧ Below w.heap.size w w' := by
  go_enter Tryd.func9, Tryd.ntmps9
  go_wp2_with fail
  refine (awake_any _ E).mono ?_
  rintro e w1 ⟨rfl, hb1⟩
  have E1 := E.below hb1
  go_wp2_with fail
  refine (distText_any a _ E1).mono ?_
  rintro e w2 ⟨t, rfl, ht, hts, hb2⟩
  have E2 := E1.below hb2
  go_wp2_with fail
  refine (rdistText_any a _).mono ?_
  rintro e w' ⟨t2, rfl, ht2, _, rfl⟩
  obtain rfl : t = t2 := bl_inj (ht.out.trans ht2.out.symm)
  have hb12 := Below.then_ hb1 hb2
  cases hr : distGood a
  · have he : distErr a = 2 := by unfold distErr; rw [hr]; rfl
    rw [he]
    clear he hr
    go_wp2_with fail
    refine (cut_any s 40 (by omega) (by omega) _ hs).mono ?_
    rintro e w' ⟨u, rfl, _, hu, _, rfl⟩
    go_wp2_with fail
    refine (parseDist_any u _ E2 (by omega)).mono ?_
    rintro e w4 ⟨rfl, hb4⟩
    go_wp2_with fail
    refine (rparseDist_any u _ (by omega)).mono ?_
    rintro e w5 ⟨rfl, hb5⟩
    generalize distN (distSpec (bl u)) = n
    generalize distE (distSpec (bl u)) = g
    go_wp2
    go_ret
    exact ⟨rfl, Below.then_ (Below.then_ hb12 hb4) hb5⟩
  · have he : distErr a = 0 := by unfold distErr; rw [hr]; rfl
    rw [he]
    clear he
    go_wp2_with fail
    refine (parseDist_any t _ E2 (by omega)).mono ?_
    rintro e w3 ⟨rfl, hb3⟩
    rw [ht.out, (dist_back hr).1, (dist_back hr).2]
    have E3 := E2.below hb3
    have hb13 := Below.then_ hb12 hb3
    clear hr
    go_wp2_with fail
    refine (cut_any s 40 (by omega) (by omega) _ hs).mono ?_
    rintro e w' ⟨u, rfl, _, hu, _, rfl⟩
    go_wp2_with fail
    refine (parseDist_any u _ E3 (by omega)).mono ?_
    rintro e w4 ⟨rfl, hb4⟩
    go_wp2_with fail
    refine (rparseDist_any u _ (by omega)).mono ?_
    rintro e w5 ⟨rfl, hb5⟩
    generalize distN (distSpec (bl u)) = n
    generalize distE (distSpec (bl u)) = g
    go_wp2
    go_ret
    exact ⟨rfl, Below.then_ (Below.then_ hb13 hb4) hb5⟩
end Go.Proofs.YtfmijelndlllaaaDoor
