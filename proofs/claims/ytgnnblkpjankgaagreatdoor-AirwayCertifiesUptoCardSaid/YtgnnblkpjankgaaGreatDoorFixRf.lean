/-
  Contracts: references of fixes on both sides.
-/
import Derived.Test.YtgnnblkpjankgaaGreatDoorFxD
namespace Go.Proofs.YtgnnblkpjankgaaGreatDoor
open Go.RowKit
set_option linter.unusedVariables false
set_option linter.unusedSimpArgs false

def FRefPost (f : Fx) (w : World) (e : Ending) (w' : World) : Prop := e = .returned (.string (sb (fxRef f))) ∧ Below w.heap.size w w'
theorem fixRef_any (f : Fx) (w : World) (hi : f.id.length ≤ 1000000000000000) (hr : f.rg.length ≤ 1000000000000000) :
    Calls Tryz.prog 39 #[.agg #[.string (sb f.id), .string (sb f.rg), .int .u8 (f.kd : Int), .int .i64 f.lat, .int .i64 f.lon, .int .i64 f.el, .int .i64 f.ra]] w (FRefPost f w) := by
  have h1 : (sb f.id).size ≤ 1000000000000000 := hi
  have h2 : (sb f.rg).size ≤ 1000000000000000 := hr
  have HE : Hid (∀ s : ByteArray, bl s = fxRef f → sb (fxRef f) = s) := fun s h => by rw [← h, sb_bl]
  clear hi hr
  go_enter Tryz.func39, Tryz.ntmps39
  go_wp2
  go_ret
  refine ⟨?_, (Below.refl _ _).alloc (Nat.le_refl _) _⟩
  rw [HE.out (sb f.id ++ ⟨#[47]⟩ ++ sb f.rg) (by rw [bl_append, bl_append, bl_sb, bl_sb]; unfold fxRef; simp [bl_mk])]
  first | rfl | (simp [ByteArray.append_assoc])
theorem rfixRef_any (f : Fx) (w : World) (hi : f.id.length ≤ 1000000000000000) (hr : f.rg.length ≤ 1000000000000000) :
    Calls Tryz.prog 76 #[.agg #[.string (sb f.id), .string (sb f.rg), .int .u8 (f.kd : Int), .int .i64 f.lat, .int .i64 f.lon, .int .i64 f.el, .int .i64 f.ra]] w (FRefPost f w) := by
  have h1 : (sb f.id).size ≤ 1000000000000000 := hi
  have h2 : (sb f.rg).size ≤ 1000000000000000 := hr
  have HE : Hid (∀ s : ByteArray, bl s = fxRef f → sb (fxRef f) = s) := fun s h => by rw [← h, sb_bl]
  clear hi hr
  go_enter Tryz.func76, Tryz.ntmps76
  go_wp2
  go_ret
  refine ⟨?_, (Below.refl _ _).alloc (Nat.le_refl _) _⟩
  rw [HE.out (sb f.id ++ ⟨#[47]⟩ ++ sb f.rg) (by rw [bl_append, bl_append, bl_sb, bl_sb]; unfold fxRef; simp [bl_mk])]
  first | rfl | (simp [ByteArray.append_assoc])
end Go.Proofs.YtgnnblkpjankgaaGreatDoor
