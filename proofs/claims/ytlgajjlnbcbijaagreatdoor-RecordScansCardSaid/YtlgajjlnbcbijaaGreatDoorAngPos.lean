/-
  Contracts: positions read from their texts, on both sides.
-/
import Derived.Test.YtlgajjlnbcbijaaGreatDoorAngPP
namespace Go.Proofs.YtlgajjlnbcbijaaGreatDoor
open Go.RowKit
set_option linter.unusedVariables false
set_option linter.unusedSimpArgs false

def PosPPost (l : List UInt8) (w : World) (e : Ending) (w' : World) : Prop := e = .returned (.tuple #[.agg #[.int .i64 (posPLat l), .int .i64 (posPLon l)], .int .i64 (posPErr l)]) ∧ Below w.heap.size w w'
set_option maxHeartbeats 2000000 in
theorem parsePos_any (s : ByteArray) (w : World) (hs : s.size ≤ maxLen) : Calls Tryz.prog 112 #[.string s] w (PosPPost (bl s) w) := by
  unfold maxLen at hs
  have HP : Hid (∀ (a b er : Int) w', posPErr (bl s) = er → posPLat (bl s) = a → posPLon (bl s) = b → Below w.heap.size w w' → PosPPost (bl s) w (.returned (.tuple #[.agg #[.int .i64 a, .int .i64 b], .int .i64 er])) w') := by
    intro a b er w' h1 h2 h3 h4; unfold PosPPost; rw [h1, h2, h3]; exact ⟨rfl, h4⟩
  have HZ : Hid (posPErr (bl s) ≠ 0 → posPLat (bl s) = 0 ∧ posPLon (bl s) = 0) := by
    intro h; unfold posPLat posPLon; rw [if_neg h, if_neg h]; exact ⟨rfl, rfl⟩
  by_cases hl : s.size = 19
  · have h19 : ((s.size : Int) != 19) = false := bne_eq_false_iff_eq.2 (by omega)
    have h9 : 9 ≤ s.size := by omega
    have h9' : (9 : Int) ≤ (s.size : Int) := by omega
    have HE : Hid (posPErr (bl s) = if latPErr ((bl s).take 9) = 0 then lonPErr ((bl s).drop 9) else latPErr ((bl s).take 9)) := by
      unfold Hid posPErr; rw [if_pos (show (bl s).length = 19 from hl)]
    have e1 : Hid (bl (s.extract 0 9) = (bl s).take 9) := by unfold Hid; rw [bl_extract]; rfl
    have e2 : Hid (bl (s.extract 9 s.size) = (bl s).drop 9) := by unfold Hid; rw [bl_extract, List.take_of_length_le (by rw [List.length_drop, bl_len]; omega)]
    have HLa : Hid (posPErr (bl s) = 0 → posPLat (bl s) = latPV ((bl s).take 9) ∧ posPLon (bl s) = lonPV ((bl s).drop 9)) := by
      intro h; unfold posPLat posPLon; rw [if_pos h, if_pos h]; exact ⟨rfl, rfl⟩
    clear hl
    go_enter Tryz.func112, Tryz.ntmps112
    go_wp2_with fail
    refine (parseLat_any _ _ (by rw [ByteArray.size_extract]; unfold maxLen; omega)).mono ?_
    rintro e w' ⟨rfl, k, rfl⟩
    rw [e1.out]
    obtain ⟨ea, hea⟩ : ∃ e, latPErr ((bl s).take 9) = e := ⟨_, rfl⟩
    obtain ⟨va, hva⟩ : ∃ v, latPV ((bl s).take 9) = v := ⟨_, rfl⟩
    rw [hea] at HE
    rw [hva] at HLa
    rw [hea, hva]
    clear hea hva
    by_cases h0 : ea = 0
    · have e3 : (ea != 0) = false := bne_eq_false_iff_eq.2 h0
      rw [if_pos h0] at HE
      have H0 := Lib.hid h0
      clear h0
      go_wp2_with fail
      refine (parseLon_any _ _ (by rw [ByteArray.size_extract]; unfold maxLen; omega)).mono ?_
      rintro e w' ⟨rfl, k2, rfl⟩
      rw [e2.out]
      obtain ⟨eb, heb⟩ : ∃ e, lonPErr ((bl s).drop 9) = e := ⟨_, rfl⟩
      obtain ⟨vb, hvb⟩ : ∃ v, lonPV ((bl s).drop 9) = v := ⟨_, rfl⟩
      rw [heb] at HE
      rw [hvb] at HLa
      rw [heb, hvb]
      clear heb hvb
      by_cases h0 : eb = 0
      · have e4 : (eb != 0) = false := bne_eq_false_iff_eq.2 h0
        have H1 := Lib.hid h0
        clear h0
        have HR := Lib.hid (HLa.out (HE.out.trans H1.out))
        have HE0 := Lib.hid (HE.out.trans H1.out)
        go_wp2
        exact bodyPost_ret (v := .tuple #[.agg #[.int .i64 va, .int .i64 vb], .int .i64 0]) (by simp [results, Tryz.results112, go_sem]) rfl (HP.out _ _ _ _ HE0.out HR.out.1 HR.out.2 (by repeat (first | exact Below.refl _ _ | refine Below.setCell ?_ (by simp) _ | refine below_drewN' ?_ _ | refine Below.alloc ?_ (by simp) _)))
      · have e4 : (eb != 0) = true := bne_iff_ne.2 h0
        have H1 := Lib.hid h0
        have HR := Lib.hid (HZ.out (by rw [HE.out]; exact h0))
        clear h0
        go_wp2
        exact bodyPost_ret (v := .tuple #[.agg #[.int .i64 0, .int .i64 0], .int .i64 eb]) (by simp [results, Tryz.results112, go_sem]) rfl (HP.out _ _ _ _ HE.out HR.out.1 HR.out.2 (by repeat (first | exact Below.refl _ _ | refine Below.setCell ?_ (by simp) _ | refine below_drewN' ?_ _ | refine Below.alloc ?_ (by simp) _)))
    · have e3 : (ea != 0) = true := bne_iff_ne.2 h0
      rw [if_neg h0] at HE
      have H0 := Lib.hid h0
      have HR := Lib.hid (HZ.out (by rw [HE.out]; exact h0))
      clear h0
      go_wp2
      exact bodyPost_ret (v := .tuple #[.agg #[.int .i64 0, .int .i64 0], .int .i64 ea]) (by simp [results, Tryz.results112, go_sem]) rfl (HP.out _ _ _ _ HE.out HR.out.1 HR.out.2 (by repeat (first | exact Below.refl _ _ | refine Below.setCell ?_ (by simp) _ | refine below_drewN' ?_ _ | refine Below.alloc ?_ (by simp) _)))
  · have h19 : ((s.size : Int) != 19) = true := bne_iff_ne.2 (by omega)
    have HE : Hid (posPErr (bl s) = 4) := by unfold Hid posPErr; rw [if_neg (show ¬ (bl s).length = 19 from hl)]
    clear hl
    go_enter Tryz.func112, Tryz.ntmps112
    have HR := Lib.hid (HZ.out (by rw [HE.out]; decide))
    go_wp2
    exact bodyPost_ret (v := .tuple #[.agg #[.int .i64 0, .int .i64 0], .int .i64 4]) (by simp [results, Tryz.results112, go_sem]) rfl (HP.out _ _ _ _ HE.out HR.out.1 HR.out.2 (by repeat (first | exact Below.refl _ _ | refine Below.setCell ?_ (by simp) _ | refine below_drewN' ?_ _ | refine Below.alloc ?_ (by simp) _)))
set_option maxHeartbeats 2000000 in
theorem rparsePos_any (s : ByteArray) (w : World) (hs : s.size ≤ maxLen) : Calls Tryz.prog 166 #[.string s] w (PosPPost (bl s) w) := by
  unfold maxLen at hs
  have HP : Hid (∀ (a b er : Int) w', posPErr (bl s) = er → posPLat (bl s) = a → posPLon (bl s) = b → Below w.heap.size w w' → PosPPost (bl s) w (.returned (.tuple #[.agg #[.int .i64 a, .int .i64 b], .int .i64 er])) w') := by
    intro a b er w' h1 h2 h3 h4; unfold PosPPost; rw [h1, h2, h3]; exact ⟨rfl, h4⟩
  have HZ : Hid (posPErr (bl s) ≠ 0 → posPLat (bl s) = 0 ∧ posPLon (bl s) = 0) := by
    intro h; unfold posPLat posPLon; rw [if_neg h, if_neg h]; exact ⟨rfl, rfl⟩
  by_cases hl : s.size = 19
  · have h19 : ((s.size : Int) != 19) = false := bne_eq_false_iff_eq.2 (by omega)
    have h9 : 9 ≤ s.size := by omega
    have h9' : (9 : Int) ≤ (s.size : Int) := by omega
    have HE : Hid (posPErr (bl s) = if latPErr ((bl s).take 9) = 0 then lonPErr ((bl s).drop 9) else latPErr ((bl s).take 9)) := by
      unfold Hid posPErr; rw [if_pos (show (bl s).length = 19 from hl)]
    have e1 : Hid (bl (s.extract 0 9) = (bl s).take 9) := by unfold Hid; rw [bl_extract]; rfl
    have e2 : Hid (bl (s.extract 9 s.size) = (bl s).drop 9) := by unfold Hid; rw [bl_extract, List.take_of_length_le (by rw [List.length_drop, bl_len]; omega)]
    have HLa : Hid (posPErr (bl s) = 0 → posPLat (bl s) = latPV ((bl s).take 9) ∧ posPLon (bl s) = lonPV ((bl s).drop 9)) := by
      intro h; unfold posPLat posPLon; rw [if_pos h, if_pos h]; exact ⟨rfl, rfl⟩
    clear hl
    go_enter Tryz.func166, Tryz.ntmps166
    go_wp2_with fail
    refine (rparseLat_any _ _ (by rw [ByteArray.size_extract]; unfold maxLen; omega)).mono ?_
    rintro e w' ⟨rfl, k, rfl⟩
    rw [e1.out]
    obtain ⟨ea, hea⟩ : ∃ e, latPErr ((bl s).take 9) = e := ⟨_, rfl⟩
    obtain ⟨va, hva⟩ : ∃ v, latPV ((bl s).take 9) = v := ⟨_, rfl⟩
    rw [hea] at HE
    rw [hva] at HLa
    rw [hea, hva]
    clear hea hva
    by_cases h0 : ea = 0
    · have e3 : (ea != 0) = false := bne_eq_false_iff_eq.2 h0
      rw [if_pos h0] at HE
      have H0 := Lib.hid h0
      clear h0
      go_wp2_with fail
      refine (rparseLon_any _ _ (by rw [ByteArray.size_extract]; unfold maxLen; omega)).mono ?_
      rintro e w' ⟨rfl, k2, rfl⟩
      rw [e2.out]
      obtain ⟨eb, heb⟩ : ∃ e, lonPErr ((bl s).drop 9) = e := ⟨_, rfl⟩
      obtain ⟨vb, hvb⟩ : ∃ v, lonPV ((bl s).drop 9) = v := ⟨_, rfl⟩
      rw [heb] at HE
      rw [hvb] at HLa
      rw [heb, hvb]
      clear heb hvb
      by_cases h0 : eb = 0
      · have e4 : (eb != 0) = false := bne_eq_false_iff_eq.2 h0
        have H1 := Lib.hid h0
        clear h0
        have HR := Lib.hid (HLa.out (HE.out.trans H1.out))
        have HE0 := Lib.hid (HE.out.trans H1.out)
        go_wp2
        exact bodyPost_ret (v := .tuple #[.agg #[.int .i64 va, .int .i64 vb], .int .i64 0]) (by simp [results, Tryz.results166, go_sem]) rfl (HP.out _ _ _ _ HE0.out HR.out.1 HR.out.2 (by repeat (first | exact Below.refl _ _ | refine Below.setCell ?_ (by simp) _ | refine below_drewN' ?_ _ | refine Below.alloc ?_ (by simp) _)))
      · have e4 : (eb != 0) = true := bne_iff_ne.2 h0
        have H1 := Lib.hid h0
        have HR := Lib.hid (HZ.out (by rw [HE.out]; exact h0))
        clear h0
        go_wp2
        exact bodyPost_ret (v := .tuple #[.agg #[.int .i64 0, .int .i64 0], .int .i64 eb]) (by simp [results, Tryz.results166, go_sem]) rfl (HP.out _ _ _ _ HE.out HR.out.1 HR.out.2 (by repeat (first | exact Below.refl _ _ | refine Below.setCell ?_ (by simp) _ | refine below_drewN' ?_ _ | refine Below.alloc ?_ (by simp) _)))
    · have e3 : (ea != 0) = true := bne_iff_ne.2 h0
      rw [if_neg h0] at HE
      have H0 := Lib.hid h0
      have HR := Lib.hid (HZ.out (by rw [HE.out]; exact h0))
      clear h0
      go_wp2
      exact bodyPost_ret (v := .tuple #[.agg #[.int .i64 0, .int .i64 0], .int .i64 ea]) (by simp [results, Tryz.results166, go_sem]) rfl (HP.out _ _ _ _ HE.out HR.out.1 HR.out.2 (by repeat (first | exact Below.refl _ _ | refine Below.setCell ?_ (by simp) _ | refine below_drewN' ?_ _ | refine Below.alloc ?_ (by simp) _)))
  · have h19 : ((s.size : Int) != 19) = true := bne_iff_ne.2 (by omega)
    have HE : Hid (posPErr (bl s) = 4) := by unfold Hid posPErr; rw [if_neg (show ¬ (bl s).length = 19 from hl)]
    clear hl
    go_enter Tryz.func166, Tryz.ntmps166
    have HR := Lib.hid (HZ.out (by rw [HE.out]; decide))
    go_wp2
    exact bodyPost_ret (v := .tuple #[.agg #[.int .i64 0, .int .i64 0], .int .i64 4]) (by simp [results, Tryz.results166, go_sem]) rfl (HP.out _ _ _ _ HE.out HR.out.1 HR.out.2 (by repeat (first | exact Below.refl _ _ | refine Below.setCell ?_ (by simp) _ | refine below_drewN' ?_ _ | refine Below.alloc ?_ (by simp) _)))
end Go.Proofs.YtlgajjlnbcbijaaGreatDoor
