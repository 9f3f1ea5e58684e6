/-
  Contracts: the signed angle of a letter and digits, on both sides.
-/
import Derived.Test.YtlgajjlnbcbijaaGreatDoorAngJoin
import Derived.Test.YtlgajjlnbcbijaaGreatDoorRefT
import Derived.Deep.QuietTactic
import Derived.BigQuiet
namespace Go.Proofs.YtlgajjlnbcbijaaGreatDoor
open Go.RowKit
set_option linter.unusedVariables false
set_option linter.unusedSimpArgs false

theorem joinV_lt {l : List UInt8} {c : Nat} (hc : c ≤ 3) (h : joinB l c = true) : joinV l c ≤ 400000000 := by
  unfold joinB at h
  simp only [Bool.and_eq_true, decide_eq_true_iff] at h
  obtain ⟨⟨⟨h1, h2⟩, h3⟩, h4⟩ := h
  have b1 : numV (l.take c) < 10 ^ 3 := numV_small (all_of_take _ h2) (by rw [List.length_take]; omega)
  have b4 : numV (l.drop (c + 4)) < 10 ^ 2 := numV_small (all_of_drop _ h2) (by rw [List.length_drop]; omega)
  unfold joinV
  omega
def SgnPost (l : List UInt8) (p m : UInt8) (c : Nat) (w : World) (e : Ending) (w' : World) : Prop := e = .returned (.tuple #[.int .i64 (if sgnB l p m c then sgnV l m c else 0), .bool (sgnB l p m c)]) ∧ Drawn w w'
theorem u8_ne {a b : UInt8} (h : a ≠ b) : ((a.toNat : Int) != (b.toNat : Int)) = true ∧ ((a.toNat : Int) == (b.toNat : Int)) = false := by
  have h2 : ¬ (a.toNat : Int) = (b.toNat : Int) := fun e => h (UInt8.toNat_inj.1 (by omega))
  exact ⟨bne_iff_ne.2 h2, beq_eq_false_iff_ne.2 h2⟩
theorem u8_same {a b : UInt8} (h : a = b) : ((a.toNat : Int) != (b.toNat : Int)) = false ∧ ((a.toNat : Int) == (b.toNat : Int)) = true := by
  subst h; exact ⟨by simp, by simp⟩
theorem bl_cons {s : ByteArray} (h : 0 < s.size) : bl s = s[0] :: (bl s).drop 1 := by
  have := List.drop_eq_getElem_cons (l := bl s) (i := 0) (by rw [bl_len]; exact h)
  rw [List.drop_zero] at this
  exact this
set_option maxRecDepth 100000 in
set_option maxHeartbeats 2000000 in
theorem parse_any (s : ByteArray) (p m : UInt8) (c : Nat) (w : World) (hc : c ≤ 3) (hs : s.size ≤ maxLen) : Calls Tryz.prog 220 #[.string s, .int .u8 (p.toNat : Int), .int .u8 (m.toNat : Int), .int .i64 (c : Int)] w (SgnPost (bl s) p m c w) := by
  unfold maxLen at hs
  have HNO : Hid (sgnB (bl s) p m c = false → SgnPost (bl s) p m c w (.returned (.tuple #[.int .i64 0, .bool false])) w) := by
    intro h; unfold SgnPost; rw [h]; exact ⟨rfl, Drawn.refl _⟩
  have HYES : Hid (sgnB (bl s) p m c = true → ∀ n : Int, sgnV (bl s) m c = n → SgnPost (bl s) p m c w (.returned (.tuple #[.int .i64 n, .bool true])) w) := by
    intro h n hn; unfold SgnPost; rw [h, ← hn]; exact ⟨rfl, Drawn.refl _⟩
  have hc0 : (0 : Int) ≤ (c : Int) := by omega
  have hc3 : (c : Int) ≤ 3 := by omega
  by_cases hl : s.size = c + 7
  · have hne : ((s.size : Int) != (c : Int) + 7) = false := bne_eq_false_iff_eq.2 (by omega)
    have hz : 0 < s.size := by omega
    have hz1 : (0 : Int) < (s.size : Int) := by omega
    have hz2 : (1 : Int) ≤ (s.size : Int) := by omega
    have hz3 : 1 ≤ s.size := by omega
    have HB : Hid (sgnB (bl s) p m c = ((s[0] == p || s[0] == m) && joinB ((bl s).drop 1) c && !(s[0] == m && decide (joinV ((bl s).drop 1) c = 0)))) := by
      unfold Hid sgnB
      rw [bl_len, hl, decide_eq_true rfl]
      rw [bl_cons hz]
      simp
    have HV : Hid (sgnV (bl s) m c = if s[0] == m then -(joinV ((bl s).drop 1) c : Int) else (joinV ((bl s).drop 1) c : Int)) := by
      unfold Hid sgnV
      rw [bl_cons hz]
      simp
    have HJ : Hid (bl (s.extract 1 s.size) = (bl s).drop 1) := by
      unfold Hid; rw [bl_extract, List.take_of_length_le (by rw [List.length_drop, bl_len]; omega)]
    have hle : s.size ≤ 10 := by omega
    clear hl
    by_cases h1 : s[0] = p ∨ s[0] = m
    · have HOK : Hid ((s[0] == p || s[0] == m) = true) := by unfold Hid; rcases h1 with h | h <;> rw [h] <;> simp
      have h2 : ((s[0].toNat : Int) != (p.toNat : Int)) = false ∨ (((s[0].toNat : Int) != (p.toNat : Int)) = true ∧ ((s[0].toNat : Int) != (m.toNat : Int)) = false) := by
        by_cases h3 : s[0] = p
        · exact .inl (u8_same h3).1
        · exact .inr ⟨(u8_ne h3).1, (u8_same (h1.resolve_left h3)).1⟩
      have h4 : (Hid (s[0] = m) ∧ ((s[0].toNat : Int) == (m.toNat : Int)) = true) ∨ (Hid (s[0] ≠ m) ∧ ((s[0].toNat : Int) == (m.toNat : Int)) = false) := by
        by_cases h3 : s[0] = m
        · exact .inl ⟨h3, (u8_same h3).2⟩
        · exact .inr ⟨h3, (u8_ne h3).2⟩
      clear h1
      rcases h2 with t1 | ⟨t1, t2⟩
      all_goals
        go_enter Tryz.func220, Tryz.ntmps220
        go_wp2_with fail
        refine (join_any _ c _ hc (by rw [ByteArray.size_extract]; unfold maxLen; omega)).mono ?_
        rintro e w' ⟨rfl, rfl⟩
        rw [HJ.out]
        cases hj : joinB ((bl s).drop 1) c with
        | false =>
          have HZ : Hid (sgnB (bl s) p m c = false) := by unfold Hid; rw [HB.out, hj]; simp
          clear hj
          simp only [Bool.false_eq_true, if_false]
          go_wp2
          go_ret2
          exact HNO.out HZ.out
        | true =>
          have hjv := joinV_lt hc hj
          have HJT := Lib.hid hj
          clear hj
          obtain ⟨jv, hjve⟩ : ∃ jv, joinV ((bl s).drop 1) c = jv := ⟨_, rfl⟩
          rw [hjve] at hjv HB HV ⊢
          clear hjve
          simp only [if_true]
          have g0 : (0 : Int) ≤ (jv : Int) := by omega
          have g1 : (jv : Int) ≤ 400000000 := by omega
          rcases h4 with ⟨h5, h6⟩ | ⟨h5, h6⟩
          · have HV2 : Hid (sgnV (bl s) m c = -(jv : Int)) := by unfold Hid; rw [HV.out, h5.out]; simp
            by_cases hj0 : jv = 0
            · have HZ : Hid (sgnB (bl s) p m c = false) := by unfold Hid; rw [HB.out, h5.out, hj0]; simp
              have e0 : ((jv : Int) == 0) = true := beq_iff_eq.2 (by omega)
              clear hj0
              go_wp2
              go_ret2
              exact HNO.out HZ.out
            · have HZ : Hid (sgnB (bl s) p m c = true) := by unfold Hid; rw [HB.out, HOK.out, HJT.out, decide_eq_false hj0]; simp
              have e0 : ((jv : Int) == 0) = false := beq_eq_false_iff_ne.2 (by omega)
              clear hj0
              go_wp2
              go_ret2
              exact HYES.out HZ.out _ HV2.out
          · have HV2 : Hid (sgnV (bl s) m c = (jv : Int)) := by unfold Hid; rw [HV.out, if_neg (by simpa using h5.out)]
            have HZ : Hid (sgnB (bl s) p m c = true) := by unfold Hid; rw [HB.out, HOK.out, HJT.out, beq_eq_false_iff_ne.2 h5.out]; simp
            go_wp2
            go_ret2
            exact HYES.out HZ.out _ HV2.out
    · have HZ : Hid (sgnB (bl s) p m c = false) := by
        unfold Hid
        rw [HB.out, beq_eq_false_iff_ne.2 (fun h => h1 (.inl h)), beq_eq_false_iff_ne.2 (fun h => h1 (.inr h))]; simp
      have t1 : ((s[0].toNat : Int) != (p.toNat : Int)) = true := (u8_ne (fun h => h1 (.inl h))).1
      have t2 : ((s[0].toNat : Int) != (m.toNat : Int)) = true := (u8_ne (fun h => h1 (.inr h))).1
      clear h1
      go_enter Tryz.func220, Tryz.ntmps220
      go_wp2
      go_ret2
      exact HNO.out HZ.out
  · have HJ : Hid (sgnB (bl s) p m c = false) := by
      unfold Hid sgnB; rw [decide_eq_false (p := (bl s).length = c + 7) (by rw [bl_len]; exact hl)]; rfl
    have hne : ((s.size : Int) != (c : Int) + 7) = true := bne_iff_ne.2 (by omega)
    clear hl
    go_enter Tryz.func220, Tryz.ntmps220
    go_wp2
    go_ret2
    exact HNO.out HJ.out
end Go.Proofs.YtlgajjlnbcbijaaGreatDoor
