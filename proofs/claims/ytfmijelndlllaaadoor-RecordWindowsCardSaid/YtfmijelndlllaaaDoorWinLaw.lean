/-
  Plain laws: the text of a window is read as that window; a text that is read is the text of what was read.
-/
import Derived.Test.YtfmijelndlllaaaDoorAltLaw
namespace Go.Proofs.YtfmijelndlllaaaDoor
set_option linter.unusedVariables false
set_option linter.unusedSimpArgs false

theorem altAbs_mem {b : Nat} {c : UInt8} (h : c ∈ altAbs b) : digitB c = true ∨ c = 46 := by
  unfold altAbs at h
  have hd : ∀ n, ∀ x ∈ Lib.decDigits n, digitB x = true := fun n => List.all_eq_true.1 (dec_all n)
  rw [List.mem_append] at h
  rcases h with h | h
  · exact .inl (hd _ _ h)
  · split at h
    · cases h
    · simp only [List.cons_append, List.mem_cons, List.mem_append] at h
      rcases h with h | h | h
      · exact .inr h
      · exact .inl (hd _ _ h)
      · exact .inl (hd _ _ h)
theorem altOut_mem {a : Int} {c : UInt8} (h : c ∈ altOut a) : digitB c = true ∨ c = 46 ∨ c = 45 := by
  unfold altOut altTextL at h
  split at h
  · split at h
    · rcases List.mem_cons.1 h with h | h
      · exact .inr (.inr h)
      · rcases altAbs_mem h with h | h
        · exact .inl h
        · exact .inr (.inl h)
    · rcases altAbs_mem h with h | h
      · exact .inl h
      · exact .inr (.inl h)
  · cases h
theorem altOut_no {a : Int} {c : UInt8} (h1 : digitB c = false) (h2 : c ≠ 46) (h3 : c ≠ 45) : c ∉ altOut a := by
  intro h
  rcases altOut_mem h with h | h | h
  · rw [h1] at h; cases h
  · exact h2 h
  · exact h3 h
theorem lastIs_append {c : UInt8} {l r : List UInt8} (h : r ≠ []) : lastIs c (l ++ r) = lastIs c r := by
  unfold lastIs
  rw [List.getLast?_append]
  cases hr : r.getLast? with
  | none => exact absurd (List.getLast?_eq_none_iff.1 hr) h
  | some x => rfl
theorem dec_last (n : Nat) {c : UInt8} (hc : digitB c = false) : lastIs c (Lib.decDigits n) = false := by
  unfold lastIs
  rw [beq_eq_false_iff_ne]
  intro h
  exact notin_digits (dec_all n) hc (List.mem_of_getLast? h)
theorem altAbs_last (b : Nat) {c : UInt8} (hc : digitB c = false) : lastIs c (altAbs b) = false := by
  by_cases h : b % 100 = 0
  · rw [altAbs_whole h]; exact dec_last _ hc
  · rw [altAbs_part h, ← List.append_assoc, lastIs_append (dec_ne _)]
    exact dec_last _ hc
theorem altAbs_ne (b : Nat) : altAbs b ≠ [] := by
  unfold altAbs
  intro h
  exact dec_ne _ (List.append_eq_nil_iff.1 h).1
theorem altOut_last {a : Int} (h : rangedB a = true) {c : UInt8} (hc : digitB c = false) : lastIs c (altOut a) = false := by
  unfold altOut altTextL
  rw [if_pos h]
  split
  · rw [show (45 :: altAbs (-a).toNat) = [45] ++ altAbs (-a).toNat from rfl, lastIs_append (altAbs_ne _)]
    exact altAbs_last _ hc
  · exact altAbs_last _ hc
theorem altOut_ne {a : Int} (h : rangedB a = true) : altOut a ≠ [] := by
  unfold altOut altTextL
  rw [if_pos h]
  split
  · simp
  · exact altAbs_ne _
theorem lastIs_45 : lastIs 45 [45] = true := rfl
theorem altOut_dash {a : Int} (h : rangedB a = true) : altOut a ≠ [45] := by
  intro e
  have := altOut_last (c := 45) h (by decide)
  rw [e] at this; cases this
theorem ranged_of_ok {lo hi : Int} (h : ¬ winBad lo hi) : rangedB lo = true ∧ rangedB hi = true ∧ lo ≤ hi := by
  unfold winBad at h
  exact ⟨rangedB_yes (by omega) (by omega), rangedB_yes (by omega) (by omega), by omega⟩
theorem winSpec_winText {lo hi : Int} (h : ¬ winBad lo hi) : winSpec (winText lo hi) = some (lo, hi) := by
  obtain ⟨h1, h2, h3⟩ := ranged_of_ok h
  have n58 : ∀ a, (58 : UInt8) ∉ altOut a := fun a => altOut_no (by decide) (by decide) (by decide)
  unfold winText
  split
  · rename_i e; rw [e.1, e.2]; rfl
  · split
    · rename_i e
      subst e
      rw [winSpec_eq (altOut_dash h1) (cutAt_none (n58 lo))]
      unfold winOf
      rw [if_neg (by decide), altOut_last h1 (by decide), altOut_last h1 (by decide), altSpec_altOut h1]; rfl
    · split
      · rename_i e
        subst e
        have hne : altOut lo ++ [43] ≠ [45] := by
          intro e
          have := lastIs_append (c := 43) (l := altOut lo) (r := [43]) (by simp)
          rw [e] at this; cases this
        have h58 : (58 : UInt8) ∉ altOut lo ++ [43] := by
          rw [List.mem_append]; rintro (e | e)
          · exact n58 _ e
          · revert e; decide
        rw [winSpec_eq hne (cutAt_none h58)]
        unfold winOf
        rw [if_neg (by decide), lastIs_append (by simp), if_pos (show lastIs 43 [43] = true from rfl), List.dropLast_concat, altSpec_altOut h1]; rfl
      · split
        · rename_i e
          subst e
          have hne : altOut hi ++ [45] ≠ [45] := by
            intro e
            apply altOut_ne h2
            have := congrArg List.length e
            rw [List.length_append] at this
            exact List.eq_nil_of_length_eq_zero (by simpa using this)
          have h58 : (58 : UInt8) ∉ altOut hi ++ [45] := by
            rw [List.mem_append]; rintro (e | e)
            · exact n58 _ e
            · revert e; decide
          rw [winSpec_eq hne (cutAt_none h58)]
          unfold winOf
          rw [if_neg (by decide), lastIs_append (by simp), lastIs_append (by simp), if_neg (by decide), if_pos lastIs_45, List.dropLast_concat, altSpec_altOut h2]; rfl
        · have hne : altOut lo ++ 58 :: altOut hi ≠ [45] := by
            intro e
            have : (58 : UInt8) ∈ ([45] : List UInt8) := by rw [← e]; simp
            revert this; decide
          rw [winSpec_eq hne (cutAt_mid (n58 lo))]
          unfold winOf
          rw [if_pos rfl, altSpec_altOut h1, altSpec_altOut h2]
/-- a window is written and read back -/
theorem pw_winOut {lo hi : Int} (h : ¬ winBad lo hi) : pwLo (winOut lo hi) (winSpec (winOut lo hi)) = lo ∧ pwHi (winOut lo hi) (winSpec (winOut lo hi)) = hi ∧ pwErr (winOut lo hi) (winSpec (winOut lo hi)) = 0 := by
  obtain ⟨h1, h2, h3⟩ := ranged_of_ok h
  have e : winOut lo hi = winText lo hi := if_neg h
  have hs : winSpec (winOut lo hi) = some (lo, hi) := by rw [e]; exact winSpec_winText h
  rw [hs]
  have := pw_ok (l := winOut lo hi) h1 h2 h3 rfl
  exact ⟨this.1.symm, this.2.1.symm, this.2.2.symm⟩
/-- what is read is written as it was -/
theorem winOut_pw {l : List UInt8} (h : pwErr l (winSpec l) = 0) : winOut (pwLo l (winSpec l)) (pwHi l (winSpec l)) = l ∧ winErr (pwLo l (winSpec l)) (pwHi l (winSpec l)) = 0 := by
  cases ho : winSpec l with
  | none => rw [ho] at h; exact absurd (show (4 : Int) = 0 from h) (by decide)
  | some v =>
    obtain ⟨a, b⟩ := v
    rw [ho] at h
    cases h1 : rangedB a with
    | false => rw [← (pw_range (l := l) (a := a) (b := b) (by rw [h1]; rfl)).2.2] at h; exact absurd h (by decide)
    | true =>
      cases h2 : rangedB b with
      | false => rw [← (pw_range (l := l) (a := a) (b := b) (by rw [h1, h2]; rfl)).2.2] at h; exact absurd h (by decide)
      | true =>
        by_cases h3 : a ≤ b
        · by_cases h4 : winOut a b = l
          · have k := pw_ok h1 h2 h3 h4
            rw [← k.1, ← k.2.1]
            refine ⟨h4, if_neg ?_⟩
            unfold rangedB at h1 h2
            unfold winBad
            simp only [Bool.and_eq_true, decide_eq_true_eq] at h1 h2
            omega
          · rw [← (pw_form h1 h2 h3 h4).2.2] at h; exact absurd h (by decide)
        · rw [← (pw_order (l := l) h1 h2 (by omega)).2.2] at h; exact absurd h (by decide)
end Go.Proofs.YtfmijelndlllaaaDoor
