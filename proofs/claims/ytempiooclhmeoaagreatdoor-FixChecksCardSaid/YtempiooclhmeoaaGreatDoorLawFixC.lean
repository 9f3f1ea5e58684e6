/-
  The walk of the law FixChecks.
-/
import Derived.Test.YtempiooclhmeoaaGreatDoorFixB
namespace Go.Proofs.YtempiooclhmeoaaGreatDoor
open Go.RowKit
set_option linter.unusedVariables false
set_option linter.unusedSimpArgs false

set_option maxRecDepth 100000 in
set_option maxHeartbeats 1000000 in
theorem fixChecks_walk (f : Fx) (w : World) (E : Env w) (hi : f.id.length ≤ maxLen) (hr : f.rg.length ≤ maxLen) :
    Calls Tryz.prog 3 #[.agg #[.string (sb f.id), .string (sb f.rg), .int .u8 (f.kd : Int), .int .i64 f.lat, .int .i64 f.lon, .int .i64 f.el, .int .i64 f.ra]] w fun e w' => e = .returned (.bool true) ∧ Below w.heap.size w w' := by
  have B0 := Lib.hid (fxBox_new w f)
  have HB0 : Hid (Below w.heap.size w (w.alloc (.cells #[.string (sb f.id), .string (sb f.rg), .int .u8 (f.kd : Int), .int .i64 f.lat, .int .i64 f.lon, .int .i64 f.el, .int .i64 f.ra] 26))) := (Below.refl _ _).alloc (Nat.le_refl _) _
  have HI := Lib.hid hi
  have HR := Lib.hid hr
  clear hi hr
  have he : (fixE f == fixE f) = true := by simp
  go_enter Tryz.func3, Tryz.ntmps3
  go_wp2_with fail
  refine (awakeF_any _ (E.alloc _)).mono ?_
  rintro e w1 ⟨rfl, hb1⟩
  have B1 := Lib.hid (B0.out.below hb1)
  have HB1 := Lib.hid (Below.then_ HB0.out hb1)
  obtain ⟨c0, c1, c2, c3, c4, c5, c6⟩ := B1.out.cells
  have hl1 := lt_heap B1.out
  clear hb1
  go_wp2_with fail
  go_region_held3 (fun wx => wx.cell? ⟨w.heap.size, 0, none⟩ = some (.string (sb f.id)) ∧ wx.cell? ⟨w.heap.size, 1, none⟩ = some (.string (sb f.rg)) ∧ wx.cell? ⟨w.heap.size, 2, none⟩ = some (.int .u8 (f.kd : Int)) ∧ wx.cell? ⟨w.heap.size, 3, none⟩ = some (.int .i64 f.lat) ∧ wx.cell? ⟨w.heap.size, 4, none⟩ = some (.int .i64 f.lon) ∧ wx.cell? ⟨w.heap.size, 5, none⟩ = some (.int .i64 f.el) ∧ wx.cell? ⟨w.heap.size, 6, none⟩ = some (.int .i64 f.ra))
    (first | go_keep | exact ⟨by assumption, by assumption, by assumption, by assumption, by assumption, by assumption, by assumption⟩)
    (first
      | (go_at_call 13; refine (check_any f _ HI.out HR.out).mono ?_; rintro e w2 ⟨rfl, hb⟩; have B2 := Lib.hid (FxBox.below (by first | exact B1.out.below (Below.refl _ _).drew | exact B2.out) hb); have HB2 := Lib.hid (Below.then_ (by first | exact HB2.out | exact HB1.out.drew) hb); clear c0 c1 c2 c3 c4 c5 c6 hb; obtain ⟨c0, c1, c2, c3, c4, c5, c6⟩ := B2.out.cells)
      | (go_at_call 14; refine (rcheck_any f _ HI.out HR.out).mono ?_; rintro e w2 ⟨rfl, hb⟩; have B2 := Lib.hid (FxBox.below (by first | exact B1.out.below (Below.refl _ _).drew | exact B2.out) hb); have HB2 := Lib.hid (Below.then_ (by first | exact HB2.out | exact HB1.out.drew) hb); clear c0 c1 c2 c3 c4 c5 c6 hb; obtain ⟨c0, c1, c2, c3, c4, c5, c6⟩ := B2.out.cells))
  all_goals
    go_wp2
    go_ret
    exact ⟨rfl, HB2.out⟩
end Go.Proofs.YtempiooclhmeoaaGreatDoor
