/-
  Contracts: latitudes and longitudes read from their texts, on both sides.
-/
import Derived.Test.YtlgajjlnbcbijaaGreatDoorAngRSgn
namespace Go.Proofs.YtlgajjlnbcbijaaGreatDoor
open Go.RowKit
set_option linter.unusedVariables false
set_option linter.unusedSimpArgs false

theorem latB_ways (a : Int) : (Hid (latB a = true) ∧ -32400000 ≤ a ∧ a ≤ 32400000) ∨ (Hid (latB a = false) ∧ (a < -32400000 ∨ (-32400000 ≤ a ∧ 32400000 < a))) := by
  unfold latB Hid
  rcases Int.lt_or_le a (-32400000) with h | h
  · exact .inr ⟨by rw [decide_eq_false (p := -32400000 ≤ a) (by omega)]; rfl, .inl h⟩
  · rcases Int.lt_or_le 32400000 a with h2 | h2
    · exact .inr ⟨by rw [decide_eq_false (p := a ≤ 32400000) (by omega), Bool.and_false], .inr ⟨h, h2⟩⟩
    · exact .inl ⟨by rw [decide_eq_true h, decide_eq_true h2]; rfl, h, h2⟩
theorem lonB_ways (a : Int) : (Hid (lonB a = true) ∧ -64800000 < a ∧ a ≤ 64800000) ∨ (Hid (lonB a = false) ∧ (a ≤ -64800000 ∨ (-64800000 < a ∧ 64800000 < a))) := by
  unfold lonB Hid
  rcases Int.lt_or_le (-64800000) a with h | h
  · rcases Int.lt_or_le 64800000 a with h2 | h2
    · exact .inr ⟨by rw [decide_eq_false (p := a ≤ 64800000) (by omega), Bool.and_false], .inr ⟨h, h2⟩⟩
    · exact .inl ⟨by rw [decide_eq_true h, decide_eq_true h2]; rfl, h, h2⟩
  · exact .inr ⟨by rw [decide_eq_false (p := -64800000 < a) (by omega)]; rfl, .inl h⟩
set_option maxHeartbeats 400000 in
theorem isLat_any (a : Int) (w : World) : Calls Tryz.prog 221 #[.int .i64 a] w fun e w' => e = .returned (.bool (latB a)) ∧ w = w' := by
  rcases latB_ways a with ⟨hb, h1, h2⟩ | ⟨hb, h1 | ⟨h1, h2⟩⟩
  all_goals
    go_enter Tryz.func221, Tryz.ntmps221
    go_wp2
    go_ret
    exact ⟨ret_bool (by first | (rw [hb.out]; done) | (rw [hb.out]; exact decide_eq_false (by omega)) | (rw [hb.out]; exact decide_eq_true (by omega)) | exact hb.out.symm), rfl⟩
set_option maxHeartbeats 400000 in
theorem isLon_any (a : Int) (w : World) : Calls Tryz.prog 222 #[.int .i64 a] w fun e w' => e = .returned (.bool (lonB a)) ∧ w = w' := by
  rcases lonB_ways a with ⟨hb, h1, h2⟩ | ⟨hb, h1 | ⟨h1, h2⟩⟩
  all_goals
    go_enter Tryz.func222, Tryz.ntmps222
    go_wp2
    go_ret
    exact ⟨ret_bool (by first | (rw [hb.out]; done) | (rw [hb.out]; exact decide_eq_false (by omega)) | (rw [hb.out]; exact decide_eq_true (by omega)) | exact hb.out.symm), rfl⟩
theorem rparse_lit (s : ByteArray) (p m : UInt8) (c : Nat) (w : World) (hc : c ≤ 3) (hs : s.size ≤ maxLen) : Calls Tryz.prog 261 #[.string s, .string ⟨#[p, m]⟩, .int .i64 (c : Int)] w (SgnPost (bl s) p m c w) :=
  rparse_any s ⟨#[p, m]⟩ (by show 0 < 2; decide) (by show 1 < 2; decide) c w hc hs
def CoordPost (v er : Int) (w : World) (e : Ending) (w' : World) : Prop := e = .returned (.tuple #[.int .i64 v, .int .i64 er]) ∧ Drawn w w'
set_option maxHeartbeats 1000000 in
theorem parseLat_any (s : ByteArray) (w : World) (hs : s.size ≤ maxLen) : Calls Tryz.prog 174 #[.string s] w (CoordPost (latPV (bl s)) (latPErr (bl s)) w) := by
  have HP : Hid (∀ (v er : Int) w', latPErr (bl s) = er → latPV (bl s) = v → Drawn w w' → CoordPost (latPV (bl s)) (latPErr (bl s)) w (.returned (.tuple #[.int .i64 v, .int .i64 er])) w') := by
    intro v er w' h1 h2 h3; unfold CoordPost; rw [h1, h2]; exact ⟨rfl, h3⟩
  have HC := parse_any s 78 83 2 w (by decide) hs
  have HCC : Hid (∀ K : Ending → World → Prop, (∀ e w', SgnPost (bl s) 78 83 2 w e w' → K e w') → True) := fun _ _ => trivial
  clear HCC
  go_enter Tryz.func174, Tryz.ntmps174
  go_wp2_with fail
  refine HC.mono ?_
  rintro e w' ⟨rfl, k, rfl⟩
  clear HC
  show _
  have HS : Hid (latPErr (bl s) = if sgnB (bl s) 78 83 2 then (if latB (sgnV (bl s) 83 2) then 0 else 2) else 4) := rfl
  cases hb : sgnB (bl s) 78 83 2 with
  | false =>
    have HB := Lib.hid hb
    try rw [hb]
    clear hb
    simp only [Bool.false_eq_true, if_false]
    have h4 : Hid (latPErr (bl s) = 4) := by unfold Hid; rw [HS.out, HB.out]; rfl
    have hv : Hid (latPV (bl s) = 0) := by unfold Hid latPV; rw [h4.out]; rfl
    go_wp2
    go_ret2
    exact HP.out _ _ _ h4.out hv.out ⟨_, rfl⟩
  | true =>
    have HB := Lib.hid hb
    try rw [hb]
    clear hb
    simp only [if_true]
    obtain ⟨a, ha⟩ : ∃ a, sgnV (bl s) 83 2 = a := ⟨_, rfl⟩
    have HA := Lib.hid ha
    try rw [ha]
    clear ha
    rcases latB_ways a with ⟨hx, h1, h2⟩ | ⟨hx, h1 | ⟨h1, h2⟩⟩
    · have h4 : Hid (latPErr (bl s) = 0) := by unfold Hid; rw [HS.out, HB.out, HA.out, hx.out]; rfl
      have hv : Hid (latPV (bl s) = a) := by unfold Hid latPV; rw [h4.out]; exact HA.out
      go_wp2_with fail
      first
        | (refine (isLat_any a _).mono ?_; rintro e w' ⟨rfl, rfl⟩; rw [hx.out]; go_wp2; go_ret2)
        | go_ret2
      exact HP.out _ _ _ h4.out hv.out ⟨_, rfl⟩
    all_goals
      have h4 : Hid (latPErr (bl s) = 2) := by unfold Hid; rw [HS.out, HB.out, HA.out, hx.out]; rfl
      have hv : Hid (latPV (bl s) = 0) := by unfold Hid latPV; rw [h4.out]; rfl
      go_wp2_with fail
      first
        | (refine (isLat_any a _).mono ?_; rintro e w' ⟨rfl, rfl⟩; rw [hx.out]; go_wp2; go_ret2)
        | go_ret2
      exact HP.out _ _ _ h4.out hv.out ⟨_, rfl⟩
set_option maxHeartbeats 1000000 in
theorem parseLon_any (s : ByteArray) (w : World) (hs : s.size ≤ maxLen) : Calls Tryz.prog 175 #[.string s] w (CoordPost (lonPV (bl s)) (lonPErr (bl s)) w) := by
  have HP : Hid (∀ (v er : Int) w', lonPErr (bl s) = er → lonPV (bl s) = v → Drawn w w' → CoordPost (lonPV (bl s)) (lonPErr (bl s)) w (.returned (.tuple #[.int .i64 v, .int .i64 er])) w') := by
    intro v er w' h1 h2 h3; unfold CoordPost; rw [h1, h2]; exact ⟨rfl, h3⟩
  have HC := parse_any s 69 87 3 w (by decide) hs
  have HCC : Hid (∀ K : Ending → World → Prop, (∀ e w', SgnPost (bl s) 69 87 3 w e w' → K e w') → True) := fun _ _ => trivial
  clear HCC
  go_enter Tryz.func175, Tryz.ntmps175
  go_wp2_with fail
  refine HC.mono ?_
  rintro e w' ⟨rfl, k, rfl⟩
  clear HC
  show _
  have HS : Hid (lonPErr (bl s) = if sgnB (bl s) 69 87 3 then (if lonB (sgnV (bl s) 87 3) then 0 else 2) else 4) := rfl
  cases hb : sgnB (bl s) 69 87 3 with
  | false =>
    have HB := Lib.hid hb
    try rw [hb]
    clear hb
    simp only [Bool.false_eq_true, if_false]
    have h4 : Hid (lonPErr (bl s) = 4) := by unfold Hid; rw [HS.out, HB.out]; rfl
    have hv : Hid (lonPV (bl s) = 0) := by unfold Hid lonPV; rw [h4.out]; rfl
    go_wp2
    go_ret2
    exact HP.out _ _ _ h4.out hv.out ⟨_, rfl⟩
  | true =>
    have HB := Lib.hid hb
    try rw [hb]
    clear hb
    simp only [if_true]
    obtain ⟨a, ha⟩ : ∃ a, sgnV (bl s) 87 3 = a := ⟨_, rfl⟩
    have HA := Lib.hid ha
    try rw [ha]
    clear ha
    rcases lonB_ways a with ⟨hx, h1, h2⟩ | ⟨hx, h1 | ⟨h1, h2⟩⟩
    · have h4 : Hid (lonPErr (bl s) = 0) := by unfold Hid; rw [HS.out, HB.out, HA.out, hx.out]; rfl
      have hv : Hid (lonPV (bl s) = a) := by unfold Hid lonPV; rw [h4.out]; exact HA.out
      go_wp2_with fail
      first
        | (refine (isLon_any a _).mono ?_; rintro e w' ⟨rfl, rfl⟩; rw [hx.out]; go_wp2; go_ret2)
        | go_ret2
      exact HP.out _ _ _ h4.out hv.out ⟨_, rfl⟩
    all_goals
      have h4 : Hid (lonPErr (bl s) = 2) := by unfold Hid; rw [HS.out, HB.out, HA.out, hx.out]; rfl
      have hv : Hid (lonPV (bl s) = 0) := by unfold Hid lonPV; rw [h4.out]; rfl
      go_wp2_with fail
      first
        | (refine (isLon_any a _).mono ?_; rintro e w' ⟨rfl, rfl⟩; rw [hx.out]; go_wp2; go_ret2)
        | go_ret2
      exact HP.out _ _ _ h4.out hv.out ⟨_, rfl⟩
set_option maxHeartbeats 1000000 in
theorem rparseLat_any (s : ByteArray) (w : World) (hs : s.size ≤ maxLen) : Calls Tryz.prog 213 #[.string s] w (CoordPost (latPV (bl s)) (latPErr (bl s)) w) := by
  have HP : Hid (∀ (v er : Int) w', latPErr (bl s) = er → latPV (bl s) = v → Drawn w w' → CoordPost (latPV (bl s)) (latPErr (bl s)) w (.returned (.tuple #[.int .i64 v, .int .i64 er])) w') := by
    intro v er w' h1 h2 h3; unfold CoordPost; rw [h1, h2]; exact ⟨rfl, h3⟩
  have HC := rparse_lit s 78 83 2 w (by decide) hs
  have HCC : Hid (∀ K : Ending → World → Prop, (∀ e w', SgnPost (bl s) 78 83 2 w e w' → K e w') → True) := fun _ _ => trivial
  clear HCC
  go_enter Tryz.func213, Tryz.ntmps213
  go_wp2_with fail
  refine HC.mono ?_
  rintro e w' ⟨rfl, k, rfl⟩
  clear HC
  show _
  have HS : Hid (latPErr (bl s) = if sgnB (bl s) 78 83 2 then (if latB (sgnV (bl s) 83 2) then 0 else 2) else 4) := rfl
  cases hb : sgnB (bl s) 78 83 2 with
  | false =>
    have HB := Lib.hid hb
    try rw [hb]
    clear hb
    simp only [Bool.false_eq_true, if_false]
    have h4 : Hid (latPErr (bl s) = 4) := by unfold Hid; rw [HS.out, HB.out]; rfl
    have hv : Hid (latPV (bl s) = 0) := by unfold Hid latPV; rw [h4.out]; rfl
    go_wp2
    go_ret2
    exact HP.out _ _ _ h4.out hv.out ⟨_, rfl⟩
  | true =>
    have HB := Lib.hid hb
    try rw [hb]
    clear hb
    simp only [if_true]
    obtain ⟨a, ha⟩ : ∃ a, sgnV (bl s) 83 2 = a := ⟨_, rfl⟩
    have HA := Lib.hid ha
    try rw [ha]
    clear ha
    rcases latB_ways a with ⟨hx, h1, h2⟩ | ⟨hx, h1 | ⟨h1, h2⟩⟩
    · have h4 : Hid (latPErr (bl s) = 0) := by unfold Hid; rw [HS.out, HB.out, HA.out, hx.out]; rfl
      have hv : Hid (latPV (bl s) = a) := by unfold Hid latPV; rw [h4.out]; exact HA.out
      go_wp2_with fail
      first
        | (refine (isLat_any a _).mono ?_; rintro e w' ⟨rfl, rfl⟩; rw [hx.out]; go_wp2; go_ret2)
        | go_ret2
      exact HP.out _ _ _ h4.out hv.out ⟨_, rfl⟩
    all_goals
      have h4 : Hid (latPErr (bl s) = 2) := by unfold Hid; rw [HS.out, HB.out, HA.out, hx.out]; rfl
      have hv : Hid (latPV (bl s) = 0) := by unfold Hid latPV; rw [h4.out]; rfl
      go_wp2_with fail
      first
        | (refine (isLat_any a _).mono ?_; rintro e w' ⟨rfl, rfl⟩; rw [hx.out]; go_wp2; go_ret2)
        | go_ret2
      exact HP.out _ _ _ h4.out hv.out ⟨_, rfl⟩
set_option maxHeartbeats 1000000 in
theorem rparseLon_any (s : ByteArray) (w : World) (hs : s.size ≤ maxLen) : Calls Tryz.prog 214 #[.string s] w (CoordPost (lonPV (bl s)) (lonPErr (bl s)) w) := by
  have HP : Hid (∀ (v er : Int) w', lonPErr (bl s) = er → lonPV (bl s) = v → Drawn w w' → CoordPost (lonPV (bl s)) (lonPErr (bl s)) w (.returned (.tuple #[.int .i64 v, .int .i64 er])) w') := by
    intro v er w' h1 h2 h3; unfold CoordPost; rw [h1, h2]; exact ⟨rfl, h3⟩
  have HC := rparse_lit s 69 87 3 w (by decide) hs
  have HCC : Hid (∀ K : Ending → World → Prop, (∀ e w', SgnPost (bl s) 69 87 3 w e w' → K e w') → True) := fun _ _ => trivial
  clear HCC
  go_enter Tryz.func214, Tryz.ntmps214
  go_wp2_with fail
  refine HC.mono ?_
  rintro e w' ⟨rfl, k, rfl⟩
  clear HC
  show _
  have HS : Hid (lonPErr (bl s) = if sgnB (bl s) 69 87 3 then (if lonB (sgnV (bl s) 87 3) then 0 else 2) else 4) := rfl
  cases hb : sgnB (bl s) 69 87 3 with
  | false =>
    have HB := Lib.hid hb
    try rw [hb]
    clear hb
    simp only [Bool.false_eq_true, if_false]
    have h4 : Hid (lonPErr (bl s) = 4) := by unfold Hid; rw [HS.out, HB.out]; rfl
    have hv : Hid (lonPV (bl s) = 0) := by unfold Hid lonPV; rw [h4.out]; rfl
    go_wp2
    go_ret2
    exact HP.out _ _ _ h4.out hv.out ⟨_, rfl⟩
  | true =>
    have HB := Lib.hid hb
    try rw [hb]
    clear hb
    simp only [if_true]
    obtain ⟨a, ha⟩ : ∃ a, sgnV (bl s) 87 3 = a := ⟨_, rfl⟩
    have HA := Lib.hid ha
    try rw [ha]
    clear ha
    rcases lonB_ways a with ⟨hx, h1, h2⟩ | ⟨hx, h1 | ⟨h1, h2⟩⟩
    · have h4 : Hid (lonPErr (bl s) = 0) := by unfold Hid; rw [HS.out, HB.out, HA.out, hx.out]; rfl
      have hv : Hid (lonPV (bl s) = a) := by unfold Hid lonPV; rw [h4.out]; exact HA.out
      go_wp2_with fail
      first
        | (refine (isLon_any a _).mono ?_; rintro e w' ⟨rfl, rfl⟩; rw [hx.out]; go_wp2; go_ret2)
        | go_ret2
      exact HP.out _ _ _ h4.out hv.out ⟨_, rfl⟩
    all_goals
      have h4 : Hid (lonPErr (bl s) = 2) := by unfold Hid; rw [HS.out, HB.out, HA.out, hx.out]; rfl
      have hv : Hid (lonPV (bl s) = 0) := by unfold Hid lonPV; rw [h4.out]; rfl
      go_wp2_with fail
      first
        | (refine (isLon_any a _).mono ?_; rintro e w' ⟨rfl, rfl⟩; rw [hx.out]; go_wp2; go_ret2)
        | go_ret2
      exact HP.out _ _ _ h4.out hv.out ⟨_, rfl⟩
end Go.Proofs.YtlgajjlnbcbijaaGreatDoor
