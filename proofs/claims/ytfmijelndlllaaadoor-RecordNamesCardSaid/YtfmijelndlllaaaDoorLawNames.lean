/-
  The walk of the law RecordNames.
-/
import Derived.Test.YtfmijelndlllaaaDoorAwake
import Derived.Test.YtfmijelndlllaaaDoorSame
import Derived.Test.YtfmijelndlllaaaDoorNum
namespace Go.Proofs.YtfmijelndlllaaaDoor
open Go.RowKit
set_option linter.unusedVariables false
set_option linter.unusedSimpArgs false

theorem num_fits (low high : Int) (o : Option Int) : (numE low high o = 0 ∧ low ≤ numN low high o ∧ numN low high o ≤ high) ∨ ((numE low high o == 0) = false) := by
  cases o with
  | none => exact .inr rfl
  | some v =>
    cases h : numIn low high v
    · right; rw [(num_out h).2]; rfl
    · left
      rw [(num_in h).1, (num_in h).2]
      unfold numIn at h
      simp only [Bool.and_eq_true, decide_eq_true_eq] at h
      exact ⟨rfl, h.1.2, h.2⟩
set_option maxRecDepth 100000 in
set_option maxHeartbeats 1000000 in
theorem recordNames_walk (s : ByteArray) (low high : Int) (w : World) (E : Env w) (hs : s.size ≤ maxLen) (hl1 : -9223372036854775808 ≤ low) (hl2 : low ≤ 9223372036854775807) :
    Calls Tryd.prog 8 #[.string s, .int .i64 low, .int .i64 high] w fun e w' => e = .returned (.bool true) ∧ Below w.heap.size w w' := by
  go_enter Tryd.func8, Tryd.ntmps8
  go_wp2_with fail
  refine (awake_any _ E).mono ?_
  rintro e w1 ⟨rfl, hb1⟩
  have E1 := E.below hb1
  go_wp2_with fail
  refine (cut_any s 40 (by omega) (by omega) _ hs).mono ?_
  rintro e w' ⟨u, rfl, _, hu, _, rfl⟩
  go_wp2_with fail
  refine (parseNumber_any u low high _ E1 (by omega)).mono ?_
  rintro e w2 ⟨rfl, hb2⟩
  have E2 := E1.below hb2
  have hb12 := Below.then_ hb1 hb2
  go_wp2_with fail
  refine (rparseNumber_any u low high _ (by omega)).mono ?_
  rintro e w3 ⟨rfl, hb3⟩
  have hb13 := Below.then_ hb12 hb3
  have hq := num_fits low high (numSpec (bl u))
  generalize numN low high (numSpec (bl u)) = n at hq
  generalize numE low high (numSpec (bl u)) = g at hq
  obtain ⟨m, hm⟩ : ∃ m : Int, low.tmod 50 = m := ⟨_, rfl⟩
  rcases hq with ⟨rfl, h1, h2⟩ | hq
  all_goals
    go_wp2_with fail
    refine (name_any u _ _ (by unfold maxLen; omega)).mono ?_
    rintro e w' ⟨rfl, rfl⟩
    go_wp2_with fail
    refine (rname_any u _ _ (by unfold maxLen; omega)).mono ?_
    rintro e w' ⟨rfl, rfl⟩
    generalize nameB (bl u) _ = b1
    go_wp2_with fail
    refine (name_any u _ _ (by unfold maxLen; omega)).mono ?_
    rintro e w' ⟨rfl, rfl⟩
    go_wp2_with fail
    refine (rname_any u _ _ (by unfold maxLen; omega)).mono ?_
    rintro e w' ⟨rfl, rfl⟩
    generalize nameB (bl u) _ = b2
    go_wp2
    go_ret
    exact ⟨rfl, hb13⟩
end Go.Proofs.YtfmijelndlllaaaDoor
