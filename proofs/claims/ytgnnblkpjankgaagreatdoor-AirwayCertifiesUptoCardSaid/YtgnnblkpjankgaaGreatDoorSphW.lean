/-
  Contracts: rounding, scalar products, unit vectors of positions; both sides.
-/
import Derived.Test.YtgnnblkpjankgaaGreatDoorTrigB
import Derived.StillTailTactics
namespace Go.Proofs.YtgnnblkpjankgaaGreatDoor
open Go.RowKit
set_option linter.unusedVariables false
set_option linter.unusedSimpArgs false

theorem sround_any (x : Int) (w : World) (h1 : -4611686018427387904 ≤ x) (h2 : x ≤ 4611686018427387904) :
    Calls Tryz.prog 42 #[.int .i64 x] w fun e w' => e = .returned (.int .i64 (rnd x)) ∧ w = w' := by
  have HR : Hid (rnd x = (x + 536870912) / 1073741824) := rfl
  go_enter Tryz.func42, Tryz.ntmps42
  go_wp2
  go_ret
  exact ⟨ret_int HR.out.symm, rfl⟩
theorem rround_any (x : Int) (w : World) (h1 : -4611686018427387904 ≤ x) (h2 : x ≤ 4611686018427387904) :
    Calls Tryz.prog 97 #[.int .i64 x] w fun e w' => e = .returned (.int .i64 (rnd x)) ∧ w = w' := by
  have HR : Hid (rnd x = (x + 536870912) / 1073741824) := rfl
  go_enter Tryz.func97, Tryz.ntmps97
  go_wp2
  go_ret
  exact ⟨ret_int HR.out.symm, rfl⟩
theorem rpart_any (x : Int) (w : World) (h1 : -4611686018427387904 ≤ x) (h2 : x ≤ 4611686018427387904) :
    Calls Tryz.prog 78 #[.int .i64 x] w fun e w' => e = .returned (.int .i64 (rnd (x.natAbs : Int))) ∧ w = w' := by
  by_cases h0 : x < 0
  · have HX : Hid (rnd (x.natAbs : Int) = (-x + 536870912) / 1073741824) := by unfold Hid rnd; rw [show (x.natAbs : Int) = -x by omega]
    go_enter Tryz.func78, Tryz.ntmps78
    go_wp2
    go_ret
    exact ⟨ret_int HX.out.symm, rfl⟩
  · have HX : Hid (rnd (x.natAbs : Int) = (x + 536870912) / 1073741824) := by unfold Hid rnd; rw [show (x.natAbs : Int) = x by omega]
    have h3 : 0 ≤ x := by omega
    go_enter Tryz.func78, Tryz.ntmps78
    go_wp2
    go_ret
    exact ⟨ret_int HX.out.symm, rfl⟩
/-- a direction as a value -/
def vcV (u : V3) : Value := .agg #[.int .i64 u.x, .int .i64 u.y, .int .i64 u.z]
set_option maxHeartbeats 1000000 in
theorem sdot_any (u v : V3) (w : World) (hu : u.Ok) (hv : v.Ok) :
    Calls Tryz.prog 46 #[vcV u, vcV v] w fun e w' => e = .returned (.int .i64 (rnd (u.dot v))) ∧ Below w.heap.size w w' := by
  have p1 := prod_bd _ _ hu.x hv.x
  have p2 := prod_bd _ _ hu.y hv.y
  have p3 := prod_bd _ _ hu.z hv.z
  have HD : Hid (u.dot v = u.x * v.x + u.y * v.y + u.z * v.z) := rfl
  rw [HD.out]
  unfold vcV
  obtain ⟨ux, uy, uz⟩ := u
  obtain ⟨vx, vy, vz⟩ := v
  simp only at p1 p2 p3 ⊢
  obtain ⟨a, ha⟩ : ∃ a, ux * vx = a := ⟨_, rfl⟩
  obtain ⟨b, hb⟩ : ∃ a, uy * vy = a := ⟨_, rfl⟩
  obtain ⟨c, hc⟩ : ∃ a, uz * vz = a := ⟨_, rfl⟩
  rw [ha] at p1
  rw [hb] at p2
  rw [hc] at p3
  rw [ha, hb, hc]
  clear HD hu hv
  go_enter Tryz.func46, Tryz.ntmps46
  go_wp2_with fail
  refine (sround_any _ _ (by omega) (by omega)).mono ?_
  rintro e w' ⟨rfl, rfl⟩
  go_wp2
  go_ret
  exact ⟨rfl, ((Below.refl _ _).alloc (Nat.le_refl _) _).alloc (by simp) _⟩
set_option maxHeartbeats 1000000 in
theorem rdot_any (u v : V3) (w : World) (hu : u.Ok) (hv : v.Ok) :
    Calls Tryz.prog 81 #[vcV u, vcV v] w fun e w' => e = .returned (.int .i64 (rnd (u.dot v))) ∧ Below w.heap.size w w' := by
  have p1 := prod_bd _ _ hu.x hv.x
  have p2 := prod_bd _ _ hu.y hv.y
  have p3 := prod_bd _ _ hu.z hv.z
  have HD : Hid (u.dot v = u.x * v.x + u.y * v.y + u.z * v.z) := rfl
  rw [HD.out]
  unfold vcV
  obtain ⟨ux, uy, uz⟩ := u
  obtain ⟨vx, vy, vz⟩ := v
  simp only at p1 p2 p3 ⊢
  obtain ⟨a, ha⟩ : ∃ a, ux * vx = a := ⟨_, rfl⟩
  obtain ⟨b, hb⟩ : ∃ a, uy * vy = a := ⟨_, rfl⟩
  obtain ⟨c, hc⟩ : ∃ a, uz * vz = a := ⟨_, rfl⟩
  rw [ha] at p1
  rw [hb] at p2
  rw [hc] at p3
  rw [ha, hb, hc]
  clear HD hu hv
  go_enter Tryz.func81, Tryz.ntmps81
  go_wp2_with fail
  refine (rround_any _ _ (by omega) (by omega)).mono ?_
  rintro e w' ⟨rfl, rfl⟩
  go_wp2
  go_ret
  exact ⟨rfl, ((Below.refl _ _).alloc (Nat.le_refl _) _).alloc (by simp) _⟩
/-- a valid position -/
def vldB (la lo : Int) : Bool := decide (-32400000 ≤ la) && decide (la ≤ 32400000) && decide (-64800000 < lo) && decide (lo ≤ 64800000)
theorem sValid_any (la lo : Int) (w : World) :
    Calls Tryz.prog 40 #[.agg #[.int .i64 la, .int .i64 lo]] w fun e w' => e = .returned (.bool (vldB la lo)) ∧ Below w.heap.size w w' := by
  by_cases h1 : -32400000 ≤ la
  · by_cases h2 : la ≤ 32400000
    · by_cases h3 : -64800000 < lo
      · by_cases h4 : lo ≤ 64800000
        · have HV : Hid (vldB la lo = true) := by unfold Hid vldB; simp [h1, h2, h3, h4]
          go_enter Tryz.func40, Tryz.ntmps40
          go_wp2
          go_ret
          exact ⟨ret_bool (by rw [HV.out]), (Below.refl _ _).alloc (Nat.le_refl _) _⟩
        · have HV : Hid (vldB la lo = false) := by unfold Hid vldB; simp [h4]
          go_enter Tryz.func40, Tryz.ntmps40
          go_wp2
          go_ret
          exact ⟨ret_bool (by rw [HV.out]), (Below.refl _ _).alloc (Nat.le_refl _) _⟩
      · have HV : Hid (vldB la lo = false) := by unfold Hid vldB; simp [h3]
        go_enter Tryz.func40, Tryz.ntmps40
        go_wp2
        go_ret
        exact ⟨ret_bool (by rw [HV.out]), (Below.refl _ _).alloc (Nat.le_refl _) _⟩
    · have HV : Hid (vldB la lo = false) := by unfold Hid vldB; simp [h2]
      go_enter Tryz.func40, Tryz.ntmps40
      go_wp2
      go_ret
      exact ⟨ret_bool (by rw [HV.out]), (Below.refl _ _).alloc (Nat.le_refl _) _⟩
  · have HV : Hid (vldB la lo = false) := by unfold Hid vldB; simp [h1]
    go_enter Tryz.func40, Tryz.ntmps40
    go_wp2
    go_ret
    exact ⟨ret_bool (by rw [HV.out]), (Below.refl _ _).alloc (Nat.le_refl _) _⟩
theorem rsValid_any (la lo : Int) (w : World) :
    Calls Tryz.prog 95 #[.agg #[.int .i64 la, .int .i64 lo]] w fun e w' => e = .returned (.bool (vldB la lo)) ∧ Below w.heap.size w w' := by
  by_cases h1 : -32400000 ≤ la
  · by_cases h2 : la ≤ 32400000
    · by_cases h3 : -64800000 < lo
      · by_cases h4 : lo ≤ 64800000
        · have HV : Hid (vldB la lo = true) := by unfold Hid vldB; simp [h1, h2, h3, h4]
          go_enter Tryz.func95, Tryz.ntmps95
          go_wp2
          go_ret
          exact ⟨ret_bool (by rw [HV.out]), (Below.refl _ _).alloc (Nat.le_refl _) _⟩
        · have HV : Hid (vldB la lo = false) := by unfold Hid vldB; simp [h4]
          go_enter Tryz.func95, Tryz.ntmps95
          go_wp2
          go_ret
          exact ⟨ret_bool (by rw [HV.out]), (Below.refl _ _).alloc (Nat.le_refl _) _⟩
      · have HV : Hid (vldB la lo = false) := by unfold Hid vldB; simp [h3]
        go_enter Tryz.func95, Tryz.ntmps95
        go_wp2
        go_ret
        exact ⟨ret_bool (by rw [HV.out]), (Below.refl _ _).alloc (Nat.le_refl _) _⟩
    · have HV : Hid (vldB la lo = false) := by unfold Hid vldB; simp [h2]
      go_enter Tryz.func95, Tryz.ntmps95
      go_wp2
      go_ret
      exact ⟨ret_bool (by rw [HV.out]), (Below.refl _ _).alloc (Nat.le_refl _) _⟩
  · have HV : Hid (vldB la lo = false) := by unfold Hid vldB; simp [h1]
    go_enter Tryz.func95, Tryz.ntmps95
    go_wp2
    go_ret
    exact ⟨ret_bool (by rw [HV.out]), (Below.refl _ _).alloc (Nat.le_refl _) _⟩
end Go.Proofs.YtgnnblkpjankgaaGreatDoor
