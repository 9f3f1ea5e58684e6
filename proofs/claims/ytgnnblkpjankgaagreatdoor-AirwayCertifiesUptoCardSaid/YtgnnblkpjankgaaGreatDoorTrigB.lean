/-
  Contract: Atan2 of the reference.
-/
import Derived.Test.YtgnnblkpjankgaaGreatDoorTrigA
namespace Go.Proofs.YtgnnblkpjankgaaGreatDoor
open Go.RowKit
set_option linter.unusedVariables false
set_option linter.unusedSimpArgs false

def SideRel (g : Nat) (i j : Value) : Prop := ∃ c d : Nat, c ≤ g ∧ g < d ∧ d ≤ 16200001 ∧ i = .int .i64 (c : Int) ∧ j = .int .i64 (d : Int)
set_option maxRecDepth 100000 in
set_option maxHeartbeats 4000000 in
theorem ratan_any (y x : Int) (w : World) (hy0 : 0 ≤ y) (hy : y ≤ 2147483647) (hx1 : -2147483647 ≤ x) (hx2 : x ≤ 2147483647) (hnz : ¬ (x = 0 ∧ y = 0)) :
    Calls Tryz.prog 79 #[.int .i64 y, .int .i64 x] w (AtPost (atZ y x) w) := by
  obtain ⟨a, M, N, g, ha, hg, hN0, hNM, hw⟩ := atZ_ways y x hy0 hnz
  have HG := Lib.hid hg
  have hgb : (g : Int) ≤ 16200000 := by have := hg.1; omega
  have ha0 : 0 ≤ a := by omega
  have ham : a ≤ 2147483647 := by omega
  have HB := Lib.hid (show -2147483647 ≤ x ∧ x ≤ 2147483647 from ⟨hx1, hx2⟩)
  have HA := Lib.hid ha
  clear ha hg hnz
  rcases hw with ⟨h1, rfl, rfl, ⟨h2, h3, hr⟩ | ⟨h2, h3, hr⟩ | ⟨rfl, h3, hr⟩⟩ | ⟨h1, rfl, rfl, h3, ⟨h2, hr⟩ | ⟨h2, hr⟩⟩
  case inl.inl =>
    have HAX : Hid (-x = N) := by unfold Hid; have := HA.out; omega
    have hn1 : -x < M := by have := HAX.out; omega
    have hy1 : (M == 0) = false := beq_eq_false_iff_ne.2 (by omega)
    go_enter Tryz.func79, Tryz.ntmps79
    go_wp2_with fail
    refine (rtout_any _ _ (by omega) (by omega)).mono ?_
    rintro e w' ⟨rfl, rfl⟩
    go_wp2_with fail
    refine (rtout_any _ _ HB.out.1 HB.out.2).mono ?_
    rintro e w' ⟨rfl, rfl⟩
    have hm1 : max M (-x) = M := by omega
    have hm3 : min M (-x) = -x := by omega
    go_wp2_with fail
    clear hm1 hm3
    try rw [HAX.out]
    go_loop [10, 11] (fun i j => SideRel g i j) (fun i j => (intOf j).toNat - (intOf i).toNat)
    case atStart => exact ⟨0, 16200001, by omega, by have := HG.out.1; omega, by omega, rfl, rfl⟩
    case round =>
      obtain ⟨c, d, hc, hd, hd2, rfl, rfl⟩ := hrel
      have hci : (c : Int) ≤ 16200000 := by omega
      have hdi : (d : Int) ≤ 16200001 := by omega
      by_cases hlt : c + 1 < d
      · obtain ⟨k, hk⟩ : ∃ k, (c + d) / 2 = k := ⟨_, rfl⟩
        have HK : Hid (((c : Int) + (d : Int)) / 2 = (k : Int)) := by unfold Hid; omega
        have hk1 : c < k := by omega
        have hk2 : k < d := by omega
        have hli : (1 : Int) < (d : Int) - (c : Int) := by omega
        have HD2 := Lib.hid hd2
        have hkb : (k : Int) ≤ 16200000 := by omega
        have HT := Lib.hid (HG.out.2 k (by omega) (by omega))
        have P1 := Lib.hid (sin_prod k M (by omega) (by omega)).1
        have P2 := Lib.hid (sin_prod k N (by omega) (by omega)).2
        clear hk hlt hd2
        go_wp2_with fail
        rw [HK.out]
        refine (rtSin_any _ _ (by omega) (by omega)).mono ?_
        rintro e w' ⟨rfl, rfl⟩
        have p1 := P1.out
        go_wp2_with fail
        refine (rtCos_any _ _ (by omega) (by omega)).mono ?_
        rintro e w' ⟨rfl, rfl⟩
        have p2 := P2.out
        by_cases hkg : k ≤ g
        · have ht : sinZ (k : Int) * M ≤ cosZ (k : Int) * N := HT.out.2 hkg
          have HKG := Lib.hid hkg
          clear hkg
          go_wp2
          go_round
          case rel => exact ⟨k, d, HKG.out, hd, HD2.out, rfl, rfl⟩
          case measure => simp [intOf]; omega
        · have ht : decide (sinZ (k : Int) * M ≤ cosZ (k : Int) * N) = false := by
            have := mt HT.out.1 hkg
            rw [decide_eq_false_iff_not]; exact this
          have HKG := Lib.hid hkg
          clear hkg
          go_wp2
          go_round
          case rel => exact ⟨c, k, hc, by have := HKG.out; omega, by have := HD2.out; omega, rfl, rfl⟩
          case measure => simp [intOf]; omega
      · have hli : (d : Int) - (c : Int) ≤ 1 := by omega
        have hcg : c = g := by omega
        subst hcg
        clear hlt HG hd2
        go_wp2
        go_ret2
        exact AtPost.mk hr.out (Below.refl _ _)
  case inl.inr.inl =>
    have HAX : Hid (x = N) := by unfold Hid; have := HA.out; omega
    obtain rfl : x = N := HAX.out
    have hy1 : (M == 0) = false := beq_eq_false_iff_ne.2 (by omega)
    go_enter Tryz.func79, Tryz.ntmps79
    go_wp2_with fail
    refine (rtout_any _ _ (by omega) (by omega)).mono ?_
    rintro e w' ⟨rfl, rfl⟩
    go_wp2_with fail
    refine (rtout_any _ _ HB.out.1 HB.out.2).mono ?_
    rintro e w' ⟨rfl, rfl⟩
    have hm1 : max M x = M := by omega
    have hm3 : min M x = x := by omega
    go_wp2_with fail
    clear hm1 hm3
    skip
    go_loop [10, 11] (fun i j => SideRel g i j) (fun i j => (intOf j).toNat - (intOf i).toNat)
    case atStart => exact ⟨0, 16200001, by omega, by have := HG.out.1; omega, by omega, rfl, rfl⟩
    case round =>
      obtain ⟨c, d, hc, hd, hd2, rfl, rfl⟩ := hrel
      have hci : (c : Int) ≤ 16200000 := by omega
      have hdi : (d : Int) ≤ 16200001 := by omega
      by_cases hlt : c + 1 < d
      · obtain ⟨k, hk⟩ : ∃ k, (c + d) / 2 = k := ⟨_, rfl⟩
        have HK : Hid (((c : Int) + (d : Int)) / 2 = (k : Int)) := by unfold Hid; omega
        have hk1 : c < k := by omega
        have hk2 : k < d := by omega
        have hli : (1 : Int) < (d : Int) - (c : Int) := by omega
        have HD2 := Lib.hid hd2
        have hkb : (k : Int) ≤ 16200000 := by omega
        have HT := Lib.hid (HG.out.2 k (by omega) (by omega))
        have P1 := Lib.hid (sin_prod k M (by omega) (by omega)).1
        have P2 := Lib.hid (sin_prod k x (by omega) (by omega)).2
        clear hk hlt hd2
        go_wp2_with fail
        rw [HK.out]
        refine (rtSin_any _ _ (by omega) (by omega)).mono ?_
        rintro e w' ⟨rfl, rfl⟩
        have p1 := P1.out
        go_wp2_with fail
        refine (rtCos_any _ _ (by omega) (by omega)).mono ?_
        rintro e w' ⟨rfl, rfl⟩
        have p2 := P2.out
        by_cases hkg : k ≤ g
        · have ht : sinZ (k : Int) * M ≤ cosZ (k : Int) * x := HT.out.2 hkg
          have HKG := Lib.hid hkg
          clear hkg
          go_wp2
          go_round
          case rel => exact ⟨k, d, HKG.out, hd, HD2.out, rfl, rfl⟩
          case measure => simp [intOf]; omega
        · have ht : decide (sinZ (k : Int) * M ≤ cosZ (k : Int) * x) = false := by
            have := mt HT.out.1 hkg
            rw [decide_eq_false_iff_not]; exact this
          have HKG := Lib.hid hkg
          clear hkg
          go_wp2
          go_round
          case rel => exact ⟨c, k, hc, by have := HKG.out; omega, by have := HD2.out; omega, rfl, rfl⟩
          case measure => simp [intOf]; omega
      · have hli : (d : Int) - (c : Int) ≤ 1 := by omega
        have hcg : c = g := by omega
        subst hcg
        clear hlt HG hd2
        go_wp2
        go_ret2
        exact AtPost.mk hr.out (Below.refl _ _)
  case inl.inr.inr =>
    obtain rfl : N = 0 := by have := HA.out; omega
    have hy1 : (M == 0) = false := beq_eq_false_iff_ne.2 (by omega)
    go_enter Tryz.func79, Tryz.ntmps79
    go_wp2_with fail
    refine (rtout_any _ _ (by omega) (by omega)).mono ?_
    rintro e w' ⟨rfl, rfl⟩
    go_wp2_with fail
    refine (rtout_any _ _ HB.out.1 HB.out.2).mono ?_
    rintro e w' ⟨rfl, rfl⟩
    have hm1 : max M 0 = M := by omega
    have hm3 : min M 0 = 0 := by omega
    go_wp2_with fail
    clear hm1 hm3
    skip
    go_loop [10, 11] (fun i j => SideRel g i j) (fun i j => (intOf j).toNat - (intOf i).toNat)
    case atStart => exact ⟨0, 16200001, by omega, by have := HG.out.1; omega, by omega, rfl, rfl⟩
    case round =>
      obtain ⟨c, d, hc, hd, hd2, rfl, rfl⟩ := hrel
      have hci : (c : Int) ≤ 16200000 := by omega
      have hdi : (d : Int) ≤ 16200001 := by omega
      by_cases hlt : c + 1 < d
      · obtain ⟨k, hk⟩ : ∃ k, (c + d) / 2 = k := ⟨_, rfl⟩
        have HK : Hid (((c : Int) + (d : Int)) / 2 = (k : Int)) := by unfold Hid; omega
        have hk1 : c < k := by omega
        have hk2 : k < d := by omega
        have hli : (1 : Int) < (d : Int) - (c : Int) := by omega
        have HD2 := Lib.hid hd2
        have hkb : (k : Int) ≤ 16200000 := by omega
        have HT := Lib.hid (HG.out.2 k (by omega) (by omega))
        have P1 := Lib.hid (sin_prod k M (by omega) (by omega)).1
        have P2 := Lib.hid (sin_prod k 0 (by omega) (by omega)).2
        clear hk hlt hd2
        go_wp2_with fail
        rw [HK.out]
        refine (rtSin_any _ _ (by omega) (by omega)).mono ?_
        rintro e w' ⟨rfl, rfl⟩
        have p1 := P1.out
        go_wp2_with fail
        refine (rtCos_any _ _ (by omega) (by omega)).mono ?_
        rintro e w' ⟨rfl, rfl⟩
        have p2 := P2.out
        by_cases hkg : k ≤ g
        · have ht : sinZ (k : Int) * M ≤ cosZ (k : Int) * 0 := HT.out.2 hkg
          have ht0 : sinZ (k : Int) * M ≤ 0 := by omega
          clear ht
          have HKG := Lib.hid hkg
          clear hkg
          go_wp2
          go_round
          case rel => exact ⟨k, d, HKG.out, hd, HD2.out, rfl, rfl⟩
          case measure => simp [intOf]; omega
        · have ht : 0 < sinZ (k : Int) * M := by
            have := mt HT.out.1 hkg
            omega
          have HKG := Lib.hid hkg
          clear hkg
          go_wp2
          go_round
          case rel => exact ⟨c, k, hc, by have := HKG.out; omega, by have := HD2.out; omega, rfl, rfl⟩
          case measure => simp [intOf]; omega
      · have hli : (d : Int) - (c : Int) ≤ 1 := by omega
        have hcg : c = g := by omega
        subst hcg
        clear hlt HG hd2
        go_wp2
        go_ret2
        exact AtPost.mk hr.out (Below.refl _ _)
  case inr.inl =>
    have HAX : Hid (-x = M) := by unfold Hid; have := HA.out; omega
    have hn1 : N ≤ -x := by have := HAX.out; omega
    rcases (show (N == 0) = true ∨ (N == 0) = false by cases (N == 0) <;> simp) with hy1 | hy1
    all_goals
      go_enter Tryz.func79, Tryz.ntmps79
      go_wp2_with fail
      refine (rtout_any _ _ (by omega) (by omega)).mono ?_
      rintro e w' ⟨rfl, rfl⟩
      go_wp2_with fail
      refine (rtout_any _ _ HB.out.1 HB.out.2).mono ?_
      rintro e w' ⟨rfl, rfl⟩
      have hm1 : max N (-x) = -x := by omega
      have hm3 : min N (-x) = N := by omega
      go_wp2_with fail
      clear hm1 hm3
      try rw [HAX.out]
      go_loop [10, 11] (fun i j => SideRel g i j) (fun i j => (intOf j).toNat - (intOf i).toNat)
      case atStart => exact ⟨0, 16200001, by omega, by have := HG.out.1; omega, by omega, rfl, rfl⟩
      case round =>
        obtain ⟨c, d, hc, hd, hd2, rfl, rfl⟩ := hrel
        have hci : (c : Int) ≤ 16200000 := by omega
        have hdi : (d : Int) ≤ 16200001 := by omega
        by_cases hlt : c + 1 < d
        · obtain ⟨k, hk⟩ : ∃ k, (c + d) / 2 = k := ⟨_, rfl⟩
          have HK : Hid (((c : Int) + (d : Int)) / 2 = (k : Int)) := by unfold Hid; omega
          have hk1 : c < k := by omega
          have hk2 : k < d := by omega
          have hli : (1 : Int) < (d : Int) - (c : Int) := by omega
          have HD2 := Lib.hid hd2
          have hkb : (k : Int) ≤ 16200000 := by omega
          have HT := Lib.hid (HG.out.2 k (by omega) (by omega))
          have P1 := Lib.hid (sin_prod k M (by omega) (by omega)).1
          have P2 := Lib.hid (sin_prod k N (by omega) (by omega)).2
          clear hk hlt hd2
          go_wp2_with fail
          rw [HK.out]
          refine (rtSin_any _ _ (by omega) (by omega)).mono ?_
          rintro e w' ⟨rfl, rfl⟩
          have p1 := P1.out
          go_wp2_with fail
          refine (rtCos_any _ _ (by omega) (by omega)).mono ?_
          rintro e w' ⟨rfl, rfl⟩
          have p2 := P2.out
          by_cases hkg : k ≤ g
          · have ht : sinZ (k : Int) * M ≤ cosZ (k : Int) * N := HT.out.2 hkg
            have HKG := Lib.hid hkg
            clear hkg
            go_wp2
            go_round
            case rel => exact ⟨k, d, HKG.out, hd, HD2.out, rfl, rfl⟩
            case measure => simp [intOf]; omega
          · have ht : decide (sinZ (k : Int) * M ≤ cosZ (k : Int) * N) = false := by
              have := mt HT.out.1 hkg
              rw [decide_eq_false_iff_not]; exact this
            have HKG := Lib.hid hkg
            clear hkg
            go_wp2
            go_round
            case rel => exact ⟨c, k, hc, by have := HKG.out; omega, by have := HD2.out; omega, rfl, rfl⟩
            case measure => simp [intOf]; omega
        · have hli : (d : Int) - (c : Int) ≤ 1 := by omega
          have hcg : c = g := by omega
          subst hcg
          clear hlt HG hd2
          go_wp2
          go_ret2
          exact AtPost.mk hr.out (Below.refl _ _)
  case inr.inr =>
    obtain rfl : x = M := by have := HA.out; omega
    rcases (show (N == 0) = true ∨ (N == 0) = false by cases (N == 0) <;> simp) with hy1 | hy1
    all_goals
      go_enter Tryz.func79, Tryz.ntmps79
      go_wp2_with fail
      refine (rtout_any _ _ (by omega) (by omega)).mono ?_
      rintro e w' ⟨rfl, rfl⟩
      go_wp2_with fail
      refine (rtout_any _ _ HB.out.1 HB.out.2).mono ?_
      rintro e w' ⟨rfl, rfl⟩
      have hm1 : max N x = x := by omega
      have hm3 : min N x = N := by omega
      go_wp2_with fail
      clear hm1 hm3
      go_loop [10, 11] (fun i j => SideRel g i j) (fun i j => (intOf j).toNat - (intOf i).toNat)
      case atStart => exact ⟨0, 16200001, by omega, by have := HG.out.1; omega, by omega, rfl, rfl⟩
      case round =>
        obtain ⟨c, d, hc, hd, hd2, rfl, rfl⟩ := hrel
        have hci : (c : Int) ≤ 16200000 := by omega
        have hdi : (d : Int) ≤ 16200001 := by omega
        by_cases hlt : c + 1 < d
        · obtain ⟨k, hk⟩ : ∃ k, (c + d) / 2 = k := ⟨_, rfl⟩
          have HK : Hid (((c : Int) + (d : Int)) / 2 = (k : Int)) := by unfold Hid; omega
          have hk1 : c < k := by omega
          have hk2 : k < d := by omega
          have hli : (1 : Int) < (d : Int) - (c : Int) := by omega
          have HD2 := Lib.hid hd2
          have hkb : (k : Int) ≤ 16200000 := by omega
          have HT := Lib.hid (HG.out.2 k (by omega) (by omega))
          have P1 := Lib.hid (sin_prod k x (by omega) (by omega)).1
          have P2 := Lib.hid (sin_prod k N (by omega) (by omega)).2
          clear hk hlt hd2
          go_wp2_with fail
          rw [HK.out]
          refine (rtSin_any _ _ (by omega) (by omega)).mono ?_
          rintro e w' ⟨rfl, rfl⟩
          have p1 := P1.out
          go_wp2_with fail
          refine (rtCos_any _ _ (by omega) (by omega)).mono ?_
          rintro e w' ⟨rfl, rfl⟩
          have p2 := P2.out
          by_cases hkg : k ≤ g
          · have ht : sinZ (k : Int) * x ≤ cosZ (k : Int) * N := HT.out.2 hkg
            have HKG := Lib.hid hkg
            clear hkg
            go_wp2
            go_round
            case rel => exact ⟨k, d, HKG.out, hd, HD2.out, rfl, rfl⟩
            case measure => simp [intOf]; omega
          · have ht : decide (sinZ (k : Int) * x ≤ cosZ (k : Int) * N) = false := by
              have := mt HT.out.1 hkg
              rw [decide_eq_false_iff_not]; exact this
            have HKG := Lib.hid hkg
            clear hkg
            go_wp2
            go_round
            case rel => exact ⟨c, k, hc, by have := HKG.out; omega, by have := HD2.out; omega, rfl, rfl⟩
            case measure => simp [intOf]; omega
        · have hli : (d : Int) - (c : Int) ≤ 1 := by omega
          have hcg : c = g := by omega
          subst hcg
          clear hlt HG hd2
          go_wp2
          go_ret2
          exact AtPost.mk hr.out (Below.refl _ _)
end Go.Proofs.YtgnnblkpjankgaaGreatDoor
