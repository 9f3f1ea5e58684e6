/-
  Contract: the signed angle of a letter and digits, by the reference.
-/
import Derived.Test.YtlgajjlnbcbijaaGreatDoorAngSgn
namespace Go.Proofs.YtlgajjlnbcbijaaGreatDoor
open Go.RowKit
set_option linter.unusedVariables false
set_option linter.unusedSimpArgs false

set_option maxRecDepth 100000 in
set_option maxHeartbeats 2000000 in
theorem rparse_any (s t : ByteArray) (ht3 : 0 < t.size) (ht4 : 1 < t.size) (c : Nat) (w : World) (hc : c ≤ 3) (hs : s.size ≤ maxLen) : Calls Tryz.prog 261 #[.string s, .string t, .int .i64 (c : Int)] w (SgnPost (bl s) t[0] t[1] c w) := by
  have ht1 : (0 : Int) < (t.size : Int) := by omega
  have ht2 : (1 : Int) < (t.size : Int) := by omega

  unfold maxLen at hs
  have HNO : Hid (sgnB (bl s) t[0] t[1] c = false → ∀ w', Drawn w w' → SgnPost (bl s) t[0] t[1] c w (.returned (.tuple #[.int .i64 0, .bool false])) w') := by
    intro h w' hd; unfold SgnPost; rw [h]; exact ⟨rfl, hd⟩
  have HYES : Hid (sgnB (bl s) t[0] t[1] c = true → ∀ (n : Int) w', Drawn w w' → sgnV (bl s) t[1] c = n → SgnPost (bl s) t[0] t[1] c w (.returned (.tuple #[.int .i64 n, .bool true])) w') := by
    intro h n w' hd hn; unfold SgnPost; rw [h, ← hn]; exact ⟨rfl, hd⟩
  have hc0 : (0 : Int) ≤ (c : Int) := by omega
  have hc3 : (c : Int) ≤ 3 := by omega
  by_cases hl : s.size = c + 7
  · have hne : ((s.size : Int) != (c : Int) + 7) = false := bne_eq_false_iff_eq.2 (by omega)
    have hz : 0 < s.size := by omega
    have hz1 : (0 : Int) < (s.size : Int) := by omega
    have hz2 : (1 : Int) ≤ (s.size : Int) := by omega
    have hz3 : 1 ≤ s.size := by omega
    have HB : Hid (sgnB (bl s) t[0] t[1] c = ((s[0] == t[0] || s[0] == t[1]) && joinB ((bl s).drop 1) c && !(s[0] == t[1] && decide (joinV ((bl s).drop 1) c = 0)))) := by
      unfold Hid sgnB
      rw [bl_len, hl, decide_eq_true rfl]
      rw [bl_cons hz]
      simp
    have HV : Hid (sgnV (bl s) t[1] c = if s[0] == t[1] then -(joinV ((bl s).drop 1) c : Int) else (joinV ((bl s).drop 1) c : Int)) := by
      unfold Hid sgnV
      rw [bl_cons hz]
      simp
    have HJ : Hid (bl (s.extract 1 s.size) = (bl s).drop 1) := by
      unfold Hid; rw [bl_extract, List.take_of_length_le (by rw [List.length_drop, bl_len]; omega)]
    have hle : s.size ≤ 10 := by omega
    clear hl
    by_cases h1 : s[0] = t[0] ∨ s[0] = t[1]
    · have HOK : Hid ((s[0] == t[0] || s[0] == t[1]) = true) := by unfold Hid; rcases h1 with h | h <;> rw [h] <;> simp
      have h2 : ((s[0].toNat : Int) != (t[0].toNat : Int)) = false ∨ (((s[0].toNat : Int) != (t[0].toNat : Int)) = true ∧ ((s[0].toNat : Int) != (t[1].toNat : Int)) = false) := by
        by_cases h3 : s[0] = t[0]
        · exact .inl (u8_same h3).1
        · exact .inr ⟨(u8_ne h3).1, (u8_same (h1.resolve_left h3)).1⟩
      have h4 : (Hid (s[0] = t[1]) ∧ ((s[0].toNat : Int) == (t[1].toNat : Int)) = true) ∨ (Hid (s[0] ≠ t[1]) ∧ ((s[0].toNat : Int) == (t[1].toNat : Int)) = false) := by
        by_cases h3 : s[0] = t[1]
        · exact .inl ⟨h3, (u8_same h3).2⟩
        · exact .inr ⟨h3, (u8_ne h3).2⟩
      clear h1
      rcases h2 with t1 | ⟨t1, t2⟩
      all_goals
        go_enter Tryz.func261, Tryz.ntmps261
        go_wp2
        go_quiet (fail)
        go_wp2_with fail
        refine (rjoin_any _ c _ hc (by rw [ByteArray.size_extract]; unfold maxLen; omega)).mono ?_
        rintro e w' ⟨rfl, rfl⟩
        rw [HJ.out]
        cases hj : joinB ((bl s).drop 1) c with
        | false =>
          have HZ : Hid (sgnB (bl s) t[0] t[1] c = false) := by unfold Hid; rw [HB.out, hj]; simp
          clear hj
          simp only [Bool.false_eq_true, if_false]
          go_wp2
          go_quiet (fail)
          go_wp2
          go_ret2
          exact HNO.out HZ.out _ (by first | exact Drawn.more (Drawn.more (Drawn.more (Drawn.refl _) _) _) _ | exact Drawn.more (Drawn.more (Drawn.refl _) _) _ | exact Drawn.more (Drawn.refl _) _)
        | true =>
          have hjv := joinV_lt hc hj
          have HJT := Lib.hid hj
          clear hj
          obtain ⟨jv, hjve⟩ : ∃ jv, joinV ((bl s).drop 1) c = jv := ⟨_, rfl⟩
          rw [hjve] at hjv HB HV ⊢
          clear hjve
          simp only [if_true]
          have g0 : (0 : Int) ≤ (jv : Int) := by omega
          have g1 : (jv : Int) ≤ 400000000 := by omega
          rcases h4 with ⟨h5, h6⟩ | ⟨h5, h6⟩
          · have HV2 : Hid (sgnV (bl s) t[1] c = -(jv : Int)) := by unfold Hid; rw [HV.out, h5.out]; simp
            by_cases hj0 : jv = 0
            · have HZ : Hid (sgnB (bl s) t[0] t[1] c = false) := by unfold Hid; rw [HB.out, h5.out, hj0]; simp
              have e0 : ((jv : Int) == 0) = true := beq_iff_eq.2 (by omega)
              clear hj0
              go_wp2
              go_quiet (fail)
              go_wp2
              go_ret2
              exact HNO.out HZ.out _ (by first | exact Drawn.more (Drawn.more (Drawn.more (Drawn.refl _) _) _) _ | exact Drawn.more (Drawn.more (Drawn.refl _) _) _ | exact Drawn.more (Drawn.refl _) _)
            · have HZ : Hid (sgnB (bl s) t[0] t[1] c = true) := by unfold Hid; rw [HB.out, HOK.out, HJT.out, decide_eq_false hj0]; simp
              have e0 : ((jv : Int) == 0) = false := beq_eq_false_iff_ne.2 (by omega)
              clear hj0
              go_wp2
              go_quiet (fail)
              go_wp2
              go_quiet (fail)
              go_wp2
              go_ret2
              exact HYES.out HZ.out _ _ (by first | exact Drawn.more (Drawn.more (Drawn.more (Drawn.refl _) _) _) _ | exact Drawn.more (Drawn.more (Drawn.refl _) _) _ | exact Drawn.more (Drawn.refl _) _) HV2.out
          · have HV2 : Hid (sgnV (bl s) t[1] c = (jv : Int)) := by unfold Hid; rw [HV.out, if_neg (by simpa using h5.out)]
            have HZ : Hid (sgnB (bl s) t[0] t[1] c = true) := by unfold Hid; rw [HB.out, HOK.out, HJT.out, beq_eq_false_iff_ne.2 h5.out]; simp
            go_wp2
            go_quiet (fail)
            go_wp2
            go_quiet (fail)
            go_wp2
            go_ret2
            exact HYES.out HZ.out _ _ (by first | exact Drawn.more (Drawn.more (Drawn.more (Drawn.refl _) _) _) _ | exact Drawn.more (Drawn.more (Drawn.refl _) _) _ | exact Drawn.more (Drawn.refl _) _) HV2.out
    · have HZ : Hid (sgnB (bl s) t[0] t[1] c = false) := by
        unfold Hid
        rw [HB.out, beq_eq_false_iff_ne.2 (fun h => h1 (.inl h)), beq_eq_false_iff_ne.2 (fun h => h1 (.inr h))]; simp
      have t1 : ((s[0].toNat : Int) != (t[0].toNat : Int)) = true := (u8_ne (fun h => h1 (.inl h))).1
      have t2 : ((s[0].toNat : Int) != (t[1].toNat : Int)) = true := (u8_ne (fun h => h1 (.inr h))).1
      clear h1
      go_enter Tryz.func261, Tryz.ntmps261
      go_wp2
      go_quiet (fail)
      go_wp2
      go_ret2
      exact HNO.out HZ.out _ (by first | exact Drawn.more (Drawn.more (Drawn.more (Drawn.refl _) _) _) _ | exact Drawn.more (Drawn.more (Drawn.refl _) _) _ | exact Drawn.more (Drawn.refl _) _)
  · have HJ : Hid (sgnB (bl s) t[0] t[1] c = false) := by
      unfold Hid sgnB; rw [decide_eq_false (p := (bl s).length = c + 7) (by rw [bl_len]; exact hl)]; rfl
    have hne : ((s.size : Int) != (c : Int) + 7) = true := bne_iff_ne.2 (by omega)
    clear hl
    go_enter Tryz.func261, Tryz.ntmps261
    go_wp2
    go_quiet (fail)
    go_wp2
    go_ret2
    exact HNO.out HJ.out _ (by first | exact Drawn.more (Drawn.more (Drawn.more (Drawn.refl _) _) _) _ | exact Drawn.more (Drawn.more (Drawn.refl _) _) _ | exact Drawn.more (Drawn.refl _) _)
end Go.Proofs.YtlgajjlnbcbijaaGreatDoor
