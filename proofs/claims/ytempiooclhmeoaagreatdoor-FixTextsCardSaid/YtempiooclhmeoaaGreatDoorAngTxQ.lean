/-
  Contracts: texts of positions, on both sides.
-/
import Derived.Test.YtempiooclhmeoaaGreatDoorAngTxP
namespace Go.Proofs.YtempiooclhmeoaaGreatDoor
open Go.RowKit
set_option linter.unusedVariables false
set_option linter.unusedSimpArgs false

set_option maxHeartbeats 1000000 in
theorem posText_any (a b : Int) (w : World) : Calls Tryz.prog 49 #[.agg #[.int .i64 a, .int .i64 b]] w (AngTPost (posOut a b) (posErr a b) w) := by
  have HOK : Hid (posB a b = true → posOut a b = latOut a ++ lonOut b ∧ posErr a b = 0) := by
    intro h; unfold posOut posErr; rw [if_pos h, if_pos h]; exact ⟨rfl, rfl⟩
  have HNO : Hid (posB a b = false → posOut a b = [] ∧ posErr a b = 2) := by
    intro h; unfold posOut posErr; rw [h]; exact ⟨rfl, rfl⟩
  have HFOK : Hid (posB a b = true → ∀ (t u : ByteArray) w', bl t = latOut a → bl u = lonOut b → Below w.heap.size w w' → AngTPost (posOut a b) (posErr a b) w (.returned (.tuple #[.string (t ++ u), .int .i64 0])) w') := by
    intro h t u w' ht hu hb; refine ⟨_, by rw [(HOK.out h).2], ?_, hb⟩; unfold Hid; rw [(HOK.out h).1, bl_append, ht, hu]
  have HFNO : Hid (posB a b = false → ∀ w', Below w.heap.size w w' → AngTPost (posOut a b) (posErr a b) w (.returned (.tuple #[.string ⟨#[]⟩, .int .i64 2])) w') := by
    intro h w' hb; refine ⟨_, by rw [(HNO.out h).2], ?_, hb⟩; unfold Hid; rw [(HNO.out h).1]; rfl
  have l1 : (latOut a).length ≤ 9 := by unfold latOut; split <;> first | (rw [sgnText_len]; omega) | simp
  have l2 : (lonOut b).length ≤ 10 := by unfold lonOut; split <;> first | (rw [sgnText_len]; omega) | simp
  cases h1 : latB a <;> cases h2 : lonB b
  all_goals
    have H1 := Lib.hid h1
    have H2 := Lib.hid h2
    clear h1 h2
    go_enter Tryz.func49, Tryz.ntmps49
    go_wp2_with fail
    refine (latText_any a _).mono ?_
    rintro e w1 ⟨t, rfl, ht, hb1⟩
    rw [H1.out]
    have c1 : w1.cell? ⟨w.heap.size, 1, none⟩ = some (.int .i64 b) := (hb1.cell (p := ⟨w.heap.size, 1, none⟩) (by simp)).trans (by simp [go_sem])
    have z1 : w.heap.size < w1.heap.size := by have := hb1.size; simp at this; omega
    have hts : t.size ≤ 9 := by rw [StrPost.size ht.out]; exact l1
    go_wp2_with fail
    refine (lonText_any b _).mono ?_
    rintro e w2 ⟨u, rfl, hu, hb2⟩
    rw [H2.out]
    have hus : u.size ≤ 10 := by rw [StrPost.size hu.out]; exact l2
    have HB := Lib.hid ((((Below.refl w.heap.size w).alloc (Nat.le_refl _) (.cells #[.int .i64 a, .int .i64 b] 24)).trans (hb1.mono (by simp))).trans (hb2.mono (by omega)))
    clear hb1 hb2 c1 z1
    go_wp2
    go_ret2
    first
      | exact HFOK.out (by unfold posB; rw [H1.out, H2.out]; rfl) _ _ _ ht.out hu.out HB.out
      | exact HFNO.out (by unfold posB; rw [H1.out, H2.out]; rfl) _ HB.out
set_option maxHeartbeats 1000000 in
theorem rposText_any (a b : Int) (w : World) : Calls Tryz.prog 54 #[.agg #[.int .i64 a, .int .i64 b]] w (AngTPost (posOut a b) (posErr a b) w) := by
  have HOK : Hid (posB a b = true → posOut a b = latOut a ++ lonOut b ∧ posErr a b = 0) := by
    intro h; unfold posOut posErr; rw [if_pos h, if_pos h]; exact ⟨rfl, rfl⟩
  have HNO : Hid (posB a b = false → posOut a b = [] ∧ posErr a b = 2) := by
    intro h; unfold posOut posErr; rw [h]; exact ⟨rfl, rfl⟩
  have HFOK : Hid (posB a b = true → ∀ (t u : ByteArray) w', bl t = latOut a → bl u = lonOut b → Below w.heap.size w w' → AngTPost (posOut a b) (posErr a b) w (.returned (.tuple #[.string (t ++ u), .int .i64 0])) w') := by
    intro h t u w' ht hu hb; refine ⟨_, by rw [(HOK.out h).2], ?_, hb⟩; unfold Hid; rw [(HOK.out h).1, bl_append, ht, hu]
  have HFNO : Hid (posB a b = false → ∀ w', Below w.heap.size w w' → AngTPost (posOut a b) (posErr a b) w (.returned (.tuple #[.string ⟨#[]⟩, .int .i64 2])) w') := by
    intro h w' hb; refine ⟨_, by rw [(HNO.out h).2], ?_, hb⟩; unfold Hid; rw [(HNO.out h).1]; rfl
  have l1 : (latOut a).length ≤ 9 := by unfold latOut; split <;> first | (rw [sgnText_len]; omega) | simp
  have l2 : (lonOut b).length ≤ 10 := by unfold lonOut; split <;> first | (rw [sgnText_len]; omega) | simp
  cases h1 : latB a <;> cases h2 : lonB b
  all_goals
    have H1 := Lib.hid h1
    have H2 := Lib.hid h2
    clear h1 h2
    go_enter Tryz.func54, Tryz.ntmps54
    go_wp2_with fail
    refine (rlatText_any a _).mono ?_
    rintro e w1 ⟨t, rfl, ht, hb1⟩
    rw [H1.out]
    have c1 : w1.cell? ⟨w.heap.size, 1, none⟩ = some (.int .i64 b) := (hb1.cell (p := ⟨w.heap.size, 1, none⟩) (by simp)).trans (by simp [go_sem])
    have z1 : w.heap.size < w1.heap.size := by have := hb1.size; simp at this; omega
    have hts : t.size ≤ 9 := by rw [StrPost.size ht.out]; exact l1
    go_wp2_with fail
    refine (rlonText_any b _).mono ?_
    rintro e w2 ⟨u, rfl, hu, hb2⟩
    rw [H2.out]
    have hus : u.size ≤ 10 := by rw [StrPost.size hu.out]; exact l2
    have HB := Lib.hid ((((Below.refl w.heap.size w).alloc (Nat.le_refl _) (.cells #[.int .i64 a, .int .i64 b] 24)).trans (hb1.mono (by simp))).trans (hb2.mono (by omega)))
    clear hb1 hb2 c1 z1
    go_wp2
    go_ret2
    first
      | exact HFOK.out (by unfold posB; rw [H1.out, H2.out]; rfl) _ _ _ ht.out hu.out HB.out
      | exact HFNO.out (by unfold posB; rw [H1.out, H2.out]; rfl) _ HB.out
end Go.Proofs.YtempiooclhmeoaaGreatDoor
