/-
  Contracts: texts of latitudes, longitudes and positions, on both sides.
-/
import Derived.Test.YtlgajjlnbcbijaaDoorAngTx
import Derived.Test.YtlgajjlnbcbijaaDoorAngPP
namespace Go.Proofs.YtlgajjlnbcbijaaDoor
open Go.RowKit
set_option linter.unusedVariables false
set_option linter.unusedSimpArgs false

theorem replicate_cells (c : UInt8) (w : World) (C : Nat) : (convert 77 9 (.slice (some ⟨w.heap.size, 0, none⟩) 1 1)).run Tryd.prog (w.alloc (.cells #[.int .u8 (c.toNat : Int)] 5)) = .ok (.string (sb [c])) (w.alloc (.cells #[.int .u8 (c.toNat : Int)] 5)) :=
  string_own (base := w.heap.size) (l := [c]) (n := 1) (World.ownsRow_lit w #[.int .u8 (c.toNat : Int)] 1 (Nat.le_refl _) (by unfold maxLen; omega) rfl) (by decide)
theorem StrPost.size {l : List UInt8} {t : ByteArray} (h : bl t = l) : t.size = l.length := by rw [← bl_len, h]
/-- LatText, LonText -/
def AngTPost (l : List UInt8) (er : Int) (w : World) (e : Ending) (w' : World) : Prop := ∃ t : ByteArray, e = .returned (.tuple #[.string t, .int .i64 er]) ∧ Hid (bl t = l) ∧ Below w.heap.size w w'
set_option maxHeartbeats 1000000 in
theorem latText_any (a : Int) (w : World) : Calls Tryd.prog 13 #[.int .i64 a] w (AngTPost (latOut a) (if latB a then 0 else 2) w) := by
  cases h : latB a
  · have HO : Hid (latOut a = []) := by unfold Hid latOut; rw [h]; rfl
    have H := Lib.hid h
    clear h
    go_enter Tryd.func13, Tryd.ntmps13
    go_wp2_with fail
    refine (isLat_any a _).mono ?_
    rintro e w1 ⟨rfl, rfl⟩
    rw [H.out]
    go_wp2
    go_ret2
    exact ⟨_, rfl, HO.out.symm ▸ rfl, Below.refl _ _⟩
  · have hb := h
    unfold latB at hb
    rw [Bool.and_eq_true, decide_eq_true_iff, decide_eq_true_iff] at hb
    have hnb : a.natAbs < 1000000000 := by omega
    have HO : Hid (latOut a = sgnText a 78 83 2) := by unfold Hid latOut; rw [h]; rfl
    have H := Lib.hid h
    clear h hb
    go_enter Tryd.func13, Tryd.ntmps13
    go_wp2_with fail
    refine (isLat_any a _).mono ?_
    rintro e w1 ⟨rfl, rfl⟩
    rw [H.out]
    go_wp2_with fail
    refine (signed_any a 78 83 2 _ (by omega) (by omega) hnb).mono ?_
    rintro e w1 ⟨t, rfl, ht, hb⟩
    go_wp2
    go_ret2
    exact ⟨t, rfl, by unfold Hid; rw [HO.out]; exact ht.out, hb⟩
set_option maxHeartbeats 1000000 in
theorem lonText_any (a : Int) (w : World) : Calls Tryd.prog 14 #[.int .i64 a] w (AngTPost (lonOut a) (if lonB a then 0 else 2) w) := by
  cases h : lonB a
  · have HO : Hid (lonOut a = []) := by unfold Hid lonOut; rw [h]; rfl
    have H := Lib.hid h
    clear h
    go_enter Tryd.func14, Tryd.ntmps14
    go_wp2_with fail
    refine (isLon_any a _).mono ?_
    rintro e w1 ⟨rfl, rfl⟩
    rw [H.out]
    go_wp2
    go_ret2
    exact ⟨_, rfl, HO.out.symm ▸ rfl, Below.refl _ _⟩
  · have hb := h
    unfold lonB at hb
    rw [Bool.and_eq_true, decide_eq_true_iff, decide_eq_true_iff] at hb
    have hnb : a.natAbs < 1000000000 := by omega
    have HO : Hid (lonOut a = sgnText a 69 87 3) := by unfold Hid lonOut; rw [h]; rfl
    have H := Lib.hid h
    clear h hb
    go_enter Tryd.func14, Tryd.ntmps14
    go_wp2_with fail
    refine (isLon_any a _).mono ?_
    rintro e w1 ⟨rfl, rfl⟩
    rw [H.out]
    go_wp2_with fail
    refine (signed_any a 69 87 3 _ (by omega) (by omega) hnb).mono ?_
    rintro e w1 ⟨t, rfl, ht, hb⟩
    go_wp2
    go_ret2
    exact ⟨t, rfl, by unfold Hid; rw [HO.out]; exact ht.out, hb⟩

set_option maxHeartbeats 1000000 in
theorem posText_any (a b : Int) (w : World) : Calls Tryd.prog 5 #[.agg #[.int .i64 a, .int .i64 b]] w (AngTPost (posOut a b) (posErr a b) w) := by
  have HOK : Hid (posB a b = true → posOut a b = latOut a ++ lonOut b ∧ posErr a b = 0) := by
    intro h; unfold posOut posErr; rw [if_pos h, if_pos h]; exact ⟨rfl, rfl⟩
  have HNO : Hid (posB a b = false → posOut a b = [] ∧ posErr a b = 2) := by
    intro h; unfold posOut posErr; rw [h]; exact ⟨rfl, rfl⟩
  have HFOK : Hid (posB a b = true → ∀ (t u : ByteArray) w', bl t = latOut a → bl u = lonOut b → Below w.heap.size w w' → AngTPost (posOut a b) (posErr a b) w (.returned (.tuple #[.string (t ++ u), .int .i64 0])) w') := by
    intro h t u w' ht hu hb; refine ⟨_, by rw [(HOK.out h).2], ?_, hb⟩; unfold Hid; rw [(HOK.out h).1, bl_append, ht, hu]
  have HFNO : Hid (posB a b = false → ∀ w', Below w.heap.size w w' → AngTPost (posOut a b) (posErr a b) w (.returned (.tuple #[.string ⟨#[]⟩, .int .i64 2])) w') := by
    intro h w' hb; refine ⟨_, by rw [(HNO.out h).2], ?_, hb⟩; unfold Hid; rw [(HNO.out h).1]; rfl
  have l1 : (latOut a).length ≤ 9 := by unfold latOut; split <;> first | (rw [sgnText_len]; omega) | simp
  have l2 : (lonOut b).length ≤ 10 := by unfold lonOut; split <;> first | (rw [sgnText_len]; omega) | simp
  cases h1 : latB a <;> cases h2 : lonB b
  all_goals
    have H1 := Lib.hid h1
    have H2 := Lib.hid h2
    clear h1 h2
    go_enter Tryd.func5, Tryd.ntmps5
    go_wp2_with fail
    refine (latText_any a _).mono ?_
    rintro e w1 ⟨t, rfl, ht, hb1⟩
    rw [H1.out]
    have c1 : w1.cell? ⟨w.heap.size, 1, none⟩ = some (.int .i64 b) := (hb1.cell (p := ⟨w.heap.size, 1, none⟩) (by simp)).trans (by simp [go_sem])
    have z1 : w.heap.size < w1.heap.size := by have := hb1.size; simp at this; omega
    have hts : t.size ≤ 9 := by rw [StrPost.size ht.out]; exact l1
    go_wp2_with fail
    refine (lonText_any b _).mono ?_
    rintro e w2 ⟨u, rfl, hu, hb2⟩
    rw [H2.out]
    have hus : u.size ≤ 10 := by rw [StrPost.size hu.out]; exact l2
    have HB := Lib.hid ((((Below.refl w.heap.size w).alloc (Nat.le_refl _) (.cells #[.int .i64 a, .int .i64 b] 23)).trans (hb1.mono (by simp))).trans (hb2.mono (by omega)))
    clear hb1 hb2 c1 z1
    go_wp2
    go_ret2
    first
      | exact HFOK.out (by unfold posB; rw [H1.out, H2.out]; rfl) _ _ _ ht.out hu.out HB.out
      | exact HFNO.out (by unfold posB; rw [H1.out, H2.out]; rfl) _ HB.out
end Go.Proofs.YtlgajjlnbcbijaaDoor
