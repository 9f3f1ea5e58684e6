/-
  Contracts: the errors of identifiers, regions and fixes, on both sides.
-/
import Derived.Test.YtempiooclhmeoaaGreatDoorFixR
namespace Go.Proofs.YtempiooclhmeoaaGreatDoor
open Go.RowKit
set_option linter.unusedVariables false
set_option linter.unusedSimpArgs false

theorem navaid_any (k : Nat) (w : World) : Calls Tryz.prog 40 #[.int .u8 (k : Int)] w fun e w' => e = .returned (.bool (navB k)) ∧ w = w' := by
  have hk : k = 2 ∨ k = 3 ∨ k = 4 ∨ (k ≠ 2 ∧ k ≠ 3 ∧ k ≠ 4) := by omega
  rcases hk with rfl | rfl | rfl | ⟨h2, h3, h4⟩
  case inr.inr.inr =>
    have e2 : ((k : Int) == 2) = false := beq_eq_false_iff_ne.2 (by omega)
    have e3 : ((k : Int) == 3) = false := beq_eq_false_iff_ne.2 (by omega)
    have e4 : ((k : Int) == 4) = false := beq_eq_false_iff_ne.2 (by omega)
    have HN : Hid (navB k = false) := by unfold Hid navB; rw [decide_eq_false h2, decide_eq_false h3, decide_eq_false h4]; rfl
    clear h2 h3 h4
    go_enter Tryz.func40, Tryz.ntmps40
    go_wp2
    go_ret
    exact ⟨ret_bool HN.out.symm, rfl⟩
  all_goals
    go_enter Tryz.func40, Tryz.ntmps40
    go_wp2
    go_ret
    exact ⟨rfl, rfl⟩
theorem elevated_any (k : Nat) (w : World) : Calls Tryz.prog 39 #[.int .u8 (k : Int)] w fun e w' => e = .returned (.bool (elevB k)) ∧ w = w' := by
  have hk : k = 5 ∨ k = 6 ∨ (k ≠ 5 ∧ k ≠ 6) := by omega
  rcases hk with rfl | rfl | ⟨h2, h3⟩
  case inr.inr =>
    have e2 : ((k : Int) == 5) = false := beq_eq_false_iff_ne.2 (by omega)
    have e3 : ((k : Int) == 6) = false := beq_eq_false_iff_ne.2 (by omega)
    have HN : Hid (elevB k = false) := by unfold Hid elevB; rw [decide_eq_false h2, decide_eq_false h3]; rfl
    clear h2 h3
    go_enter Tryz.func39, Tryz.ntmps39
    go_wp2
    go_ret
    exact ⟨ret_bool HN.out.symm, rfl⟩
  all_goals
    go_enter Tryz.func39, Tryz.ntmps39
    go_wp2
    go_ret
    exact ⟨rfl, rfl⟩
def EPost (er : Int) (w : World) (e : Ending) (w' : World) : Prop := e = .returned (.int .i64 er) ∧ Drawn w w'
theorem EPost.mk {er x : Int} {w w' : World} (h : er = x) (hd : Drawn w w') : EPost er w (.returned (.int .i64 x)) w' := by subst h; exact ⟨rfl, hd⟩
theorem identE_ways (l : List UInt8) (k : Nat) : (nameB l 6 = false ∧ Hid (identE l k = 5)) ∨ (nameB l 6 = true ∧ ((k ≠ 6 ∧ Hid (identE l k = 0)) ∨ (k = 6 ∧ ((rwyB l = true ∧ Hid (identE l k = 0)) ∨ (rwyB l = false ∧ Hid (identE l k = 5)))))) := by
  unfold identE Hid
  by_cases h6 : k = 6
  · subst h6; cases nameB l 6 <;> cases rwyB l <;> simp
  · have : (k != 6) = true := bne_iff_ne.2 h6
    rw [this]; cases nameB l 6 <;> simp [h6]
theorem locE_ways (l : List UInt8) (k : Nat) : (k = 6 ∧ ((nameB l 6 = true ∧ Hid (locE l k = 0)) ∨ (nameB l 6 = false ∧ Hid (locE l k = 5)))) ∨ (k ≠ 6 ∧ ((shortB l = true ∧ Hid (locE l k = 0)) ∨ (shortB l = false ∧ Hid (locE l k = 5)))) := by
  unfold locE Hid
  by_cases h6 : k = 6
  · subst h6; cases nameB l 6 <;> simp
  · have h1 : (k != 6) = true := bne_iff_ne.2 h6
    have h2 : (k == 6) = false := beq_eq_false_iff_ne.2 h6
    rw [h1, h2]; cases shortB l <;> simp [h6]
set_option maxHeartbeats 1000000 in
theorem identified_any (s : ByteArray) (k : Nat) (w : World) (hs : s.size ≤ maxLen) : Calls Tryz.prog 36 #[.string s, .int .u8 (k : Int)] w (EPost (identE (bl s) k) w) := by
  rcases identE_ways (bl s) k with ⟨h1, hr⟩ | ⟨h1, ⟨h6, hr⟩ | ⟨rfl, ⟨h2, hr⟩ | ⟨h2, hr⟩⟩⟩
  · have H1 := Lib.hid h1
    clear h1
    go_enter Tryz.func36, Tryz.ntmps36
    go_wp2_with fail
    refine (name_any s 6 _ hs).mono ?_
    rintro e w' ⟨rfl, rfl⟩
    rw [H1.out]
    go_wp2
    go_ret
    exact .mk hr.out (Drawn.refl _)
  · have H1 := Lib.hid h1
    have e6 : ((k : Int) == 6) = false := beq_eq_false_iff_ne.2 (by omega)
    clear h1 h6
    go_enter Tryz.func36, Tryz.ntmps36
    go_wp2_with fail
    refine (name_any s 6 _ hs).mono ?_
    rintro e w' ⟨rfl, rfl⟩
    rw [H1.out]
    go_wp2
    go_ret
    exact .mk hr.out (Drawn.refl _)
  all_goals
    have H1 := Lib.hid h1
    have H2 := Lib.hid h2
    clear h1 h2
    go_enter Tryz.func36, Tryz.ntmps36
    go_wp2_with fail
    refine (name_any s 6 _ hs).mono ?_
    rintro e w' ⟨rfl, rfl⟩
    rw [H1.out]
    go_wp2_with fail
    refine (runway_any s _ hs).mono ?_
    rintro e w' ⟨rfl, hd⟩
    rw [H2.out]
    go_wp2
    go_ret
    exact .mk hr.out hd
set_option maxHeartbeats 1000000 in
theorem rident_any (s : ByteArray) (k : Nat) (w : World) (hs : s.size ≤ maxLen) : Calls Tryz.prog 41 #[.int .u8 (k : Int), .string s] w (EPost (identE (bl s) k) w) := by
  rcases identE_ways (bl s) k with ⟨h1, hr⟩ | ⟨h1, ⟨h6, hr⟩ | ⟨rfl, ⟨h2, hr⟩ | ⟨h2, hr⟩⟩⟩
  · have H1 := Lib.hid h1
    clear h1
    go_enter Tryz.func41, Tryz.ntmps41
    go_wp2_with fail
    refine (rname_any s 6 _ hs).mono ?_
    rintro e w' ⟨rfl, rfl⟩
    rw [H1.out]
    go_wp2
    go_ret
    exact .mk hr.out (Drawn.refl _)
  · have H1 := Lib.hid h1
    have e6 : ((k : Int) == 6) = false := beq_eq_false_iff_ne.2 (by omega)
    clear h1 h6
    go_enter Tryz.func41, Tryz.ntmps41
    go_wp2_with fail
    refine (rname_any s 6 _ hs).mono ?_
    rintro e w' ⟨rfl, rfl⟩
    rw [H1.out]
    go_wp2
    go_ret
    exact .mk hr.out (Drawn.refl _)
  all_goals
    have H1 := Lib.hid h1
    have H2 := Lib.hid h2
    clear h1 h2
    go_enter Tryz.func41, Tryz.ntmps41
    go_wp2_with fail
    refine (rname_any s 6 _ hs).mono ?_
    rintro e w' ⟨rfl, rfl⟩
    rw [H1.out]
    go_wp2_with fail
    refine (rrunway_any s _ hs).mono ?_
    rintro e w' ⟨rfl, hd⟩
    rw [H2.out]
    go_wp2
    go_ret
    exact .mk hr.out hd
set_option maxHeartbeats 1000000 in
theorem located_any (s : ByteArray) (k : Nat) (w : World) (hs : s.size ≤ maxLen) : Calls Tryz.prog 37 #[.string s, .int .u8 (k : Int)] w (EPost (locE (bl s) k) w) := by
  rcases locE_ways (bl s) k with ⟨rfl, ⟨h1, hr⟩ | ⟨h1, hr⟩⟩ | ⟨h6, ⟨h1, hr⟩ | ⟨h1, hr⟩⟩
  case inr.inl =>
    have H1 := Lib.hid h1
    have e6 : ((k : Int) == 6) = false := beq_eq_false_iff_ne.2 (by omega)
    have e7 : ((k : Int) != 6) = true := bne_iff_ne.2 (by omega)
    clear h1 h6
    go_enter Tryz.func37, Tryz.ntmps37
    go_wp2_with fail
    refine (short_any s _ hs).mono ?_
    rintro e w' ⟨rfl, rfl⟩
    rw [H1.out]
    go_wp2
    go_ret
    exact .mk hr.out (Drawn.refl _)
  case inr.inr =>
    have H1 := Lib.hid h1
    have e6 : ((k : Int) == 6) = false := beq_eq_false_iff_ne.2 (by omega)
    have e7 : ((k : Int) != 6) = true := bne_iff_ne.2 (by omega)
    clear h1 h6
    go_enter Tryz.func37, Tryz.ntmps37
    go_wp2_with fail
    refine (short_any s _ hs).mono ?_
    rintro e w' ⟨rfl, rfl⟩
    rw [H1.out]
    go_wp2
    go_ret
    exact .mk hr.out (Drawn.refl _)
  all_goals
    have H1 := Lib.hid h1
    clear h1
    go_enter Tryz.func37, Tryz.ntmps37
    go_wp2_with fail
    refine (name_any s 6 _ hs).mono ?_
    rintro e w' ⟨rfl, rfl⟩
    rw [H1.out]
    go_wp2
    go_ret
    exact .mk hr.out (Drawn.refl _)
set_option maxHeartbeats 1000000 in
theorem rlocated_any (s : ByteArray) (k : Nat) (w : World) (hs : s.size ≤ maxLen) : Calls Tryz.prog 42 #[.int .u8 (k : Int), .string s] w (EPost (locE (bl s) k) w) := by
  rcases locE_ways (bl s) k with ⟨rfl, ⟨h1, hr⟩ | ⟨h1, hr⟩⟩ | ⟨h6, ⟨h1, hr⟩ | ⟨h1, hr⟩⟩
  case inr.inl =>
    have H1 := Lib.hid h1
    have e6 : ((k : Int) == 6) = false := beq_eq_false_iff_ne.2 (by omega)
    have e7 : ((k : Int) != 6) = true := bne_iff_ne.2 (by omega)
    clear h1 h6
    go_enter Tryz.func42, Tryz.ntmps42
    go_wp2_with fail
    refine (region_any s _ hs).mono ?_
    rintro e w' ⟨rfl, rfl⟩
    rw [H1.out]
    go_wp2
    go_ret
    exact .mk hr.out (Drawn.refl _)
  case inr.inr =>
    have H1 := Lib.hid h1
    have e6 : ((k : Int) == 6) = false := beq_eq_false_iff_ne.2 (by omega)
    have e7 : ((k : Int) != 6) = true := bne_iff_ne.2 (by omega)
    clear h1 h6
    go_enter Tryz.func42, Tryz.ntmps42
    go_wp2_with fail
    refine (region_any s _ hs).mono ?_
    rintro e w' ⟨rfl, rfl⟩
    rw [H1.out]
    go_wp2
    go_ret
    exact .mk hr.out (Drawn.refl _)
  all_goals
    have H1 := Lib.hid h1
    clear h1
    go_enter Tryz.func42, Tryz.ntmps42
    go_wp2_with fail
    refine (rname_any s 6 _ hs).mono ?_
    rintro e w' ⟨rfl, rfl⟩
    rw [H1.out]
    go_wp2
    go_ret
    exact .mk hr.out (Drawn.refl _)
theorem posB_iff {a b : Int} : posB a b = true ↔ -32400000 ≤ a ∧ a ≤ 32400000 ∧ -64800000 < b ∧ b ≤ 64800000 := by
  unfold posB latB lonB; simp only [Bool.and_eq_true, decide_eq_true_eq]; omega
theorem posB_ways (a b : Int) : (a < -32400000 ∧ Hid (posB a b = false)) ∨ (-32400000 ≤ a ∧ 32400000 < a ∧ Hid (posB a b = false)) ∨ (-32400000 ≤ a ∧ a ≤ 32400000 ∧ b ≤ -64800000 ∧ Hid (posB a b = false)) ∨ (-32400000 ≤ a ∧ a ≤ 32400000 ∧ -64800000 < b ∧ decide (b ≤ 64800000) = false ∧ Hid (posB a b = false)) ∨ (-32400000 ≤ a ∧ a ≤ 32400000 ∧ -64800000 < b ∧ decide (b ≤ 64800000) = true ∧ Hid (posB a b = true)) := by
  by_cases h : posB a b = true
  · have h2 := posB_iff.1 h
    exact .inr (.inr (.inr (.inr ⟨h2.1, h2.2.1, h2.2.2.1, decide_eq_true h2.2.2.2, h⟩)))
  · have hf : Hid (posB a b = false) := by unfold Hid; simpa using h
    have h2 : ¬ (-32400000 ≤ a ∧ a ≤ 32400000 ∧ -64800000 < b ∧ b ≤ 64800000) := fun x => h (posB_iff.2 x)
    by_cases h3 : a < -32400000
    · exact .inl ⟨h3, hf⟩
    · by_cases h4 : 32400000 < a
      · exact .inr (.inl ⟨by omega, h4, hf⟩)
      · by_cases h5 : b ≤ -64800000
        · exact .inr (.inr (.inl ⟨by omega, by omega, h5, hf⟩))
        · exact .inr (.inr (.inr (.inl ⟨by omega, by omega, by omega, decide_eq_false (by omega), hf⟩)))
theorem valid_any (a b : Int) (w : World) : Calls Tryz.prog 38 #[.agg #[.int .i64 a, .int .i64 b]] w fun e w' => e = .returned (.bool (posB a b)) ∧ Below w.heap.size w w' := by
  rcases posB_ways a b with ⟨h1, hf⟩ | ⟨h1, h2, hf⟩ | ⟨h1, h2, h3, hf⟩ | ⟨h1, h2, h3, h4, hf⟩ | ⟨h1, h2, h3, h4, hf⟩
  all_goals
    go_enter Tryz.func38, Tryz.ntmps38
    go_wp2
    go_ret
    exact ⟨ret_bool hf.out.symm, (Below.refl _ _).alloc (Nat.le_refl _) _⟩
theorem rvalid_any (a b : Int) (w : World) : Calls Tryz.prog 43 #[.agg #[.int .i64 a, .int .i64 b]] w fun e w' => e = .returned (.bool (posB a b)) ∧ Below w.heap.size w w' := by
  rcases posB_ways a b with ⟨h1, hf⟩ | ⟨h1, h2, hf⟩ | ⟨h1, h2, h3, hf⟩ | ⟨h1, h2, h3, h4, hf⟩ | ⟨h1, h2, h3, h4, hf⟩
  all_goals
    go_enter Tryz.func43, Tryz.ntmps43
    go_wp2
    go_ret
    exact ⟨ret_bool hf.out.symm, (Below.refl _ _).alloc (Nat.le_refl _) _⟩
theorem r9valid_any (a b : Int) (w : World) : Calls Tryz.prog 157 #[.agg #[.int .i64 a, .int .i64 b]] w fun e w' => e = .returned (.bool (posB a b)) ∧ Below w.heap.size w w' := by
  rcases posB_ways a b with ⟨h1, hf⟩ | ⟨h1, h2, hf⟩ | ⟨h1, h2, h3, hf⟩ | ⟨h1, h2, h3, h4, hf⟩ | ⟨h1, h2, h3, h4, hf⟩
  all_goals
    go_enter Tryz.func157, Tryz.ntmps157
    go_wp2
    go_ret
    exact ⟨ret_bool hf.out.symm, (Below.refl _ _).alloc (Nat.le_refl _) _⟩
end Go.Proofs.YtempiooclhmeoaaGreatDoor
