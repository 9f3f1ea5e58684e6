/-
  Contracts: the law's awake answers true; references of fixes on both sides.
-/
import Derived.Test.YtempiooclhmeoaaGreatDoorFixX
namespace Go.Proofs.YtempiooclhmeoaaGreatDoor
open Go.RowKit
set_option linter.unusedVariables false
set_option linter.unusedSimpArgs false

/-! ### the example of the chapter -/
def sumF : Fx := ⟨[83, 85, 77, 77, 65], [75, 49], 1, 16760000, -43921500, 0, 0⟩
def sumL : List UInt8 := [87, 65, 89, 80, 79, 73, 78, 84, 32, 83, 85, 77, 77, 65, 32, 75, 49, 32, 78, 52, 54, 51, 51, 50, 48, 48, 48, 87, 49, 50, 50, 48, 48, 49, 53, 48, 48]
def sumR : List UInt8 := [83, 85, 77, 77, 65, 47, 75, 49]
theorem sum_ok : fixE sumF = 0 := by decide
theorem sum_out : fxOut sumF = sumL := by decide
theorem sum_pF : paF sumL = sumF := by rfl
theorem sum_pE : paE sumL = 0 := by decide
theorem sum_ref : fxRef sumF = sumR := by decide
theorem sum_rE : refErr sumR = 0 ∧ refFst sumR = [83, 85, 77, 77, 65] ∧ refSnd sumR = [75, 49] := by decide
def FRefPost (f : Fx) (w : World) (e : Ending) (w' : World) : Prop := e = .returned (.string (sb (fxRef f))) ∧ Below w.heap.size w w'
theorem fixRef_any (f : Fx) (w : World) (hi : f.id.length ≤ 1000000000000000) (hr : f.rg.length ≤ 1000000000000000) :
    Calls Tryz.prog 15 #[.agg #[.string (sb f.id), .string (sb f.rg), .int .u8 (f.kd : Int), .int .i64 f.lat, .int .i64 f.lon, .int .i64 f.el, .int .i64 f.ra]] w (FRefPost f w) := by
  have h1 : (sb f.id).size ≤ 1000000000000000 := hi
  have h2 : (sb f.rg).size ≤ 1000000000000000 := hr
  have HE : Hid (∀ s : ByteArray, bl s = fxRef f → sb (fxRef f) = s) := fun s h => by rw [← h, sb_bl]
  clear hi hr
  go_enter Tryz.func15, Tryz.ntmps15
  go_wp2
  go_ret
  refine ⟨?_, (Below.refl _ _).alloc (Nat.le_refl _) _⟩
  rw [HE.out (sb f.id ++ ⟨#[47]⟩ ++ sb f.rg) (by rw [bl_append, bl_append, bl_sb, bl_sb]; unfold fxRef; simp [bl_mk])]
  first | rfl | (simp [ByteArray.append_assoc])
theorem rfixRef_any (f : Fx) (w : World) (hi : f.id.length ≤ 1000000000000000) (hr : f.rg.length ≤ 1000000000000000) :
    Calls Tryz.prog 77 #[.agg #[.string (sb f.id), .string (sb f.rg), .int .u8 (f.kd : Int), .int .i64 f.lat, .int .i64 f.lon, .int .i64 f.el, .int .i64 f.ra]] w (FRefPost f w) := by
  have h1 : (sb f.id).size ≤ 1000000000000000 := hi
  have h2 : (sb f.rg).size ≤ 1000000000000000 := hr
  have HE : Hid (∀ s : ByteArray, bl s = fxRef f → sb (fxRef f) = s) := fun s h => by rw [← h, sb_bl]
  clear hi hr
  go_enter Tryz.func77, Tryz.ntmps77
  go_wp2
  go_ret
  refine ⟨?_, (Below.refl _ _).alloc (Nat.le_refl _) _⟩
  rw [HE.out (sb f.id ++ ⟨#[47]⟩ ++ sb f.rg) (by rw [bl_append, bl_append, bl_sb, bl_sb]; unfold fxRef; simp [bl_mk])]
  first | rfl | (simp [ByteArray.append_assoc])
theorem text_sum (w : World) (E : Env w) : Calls Tryz.prog 18 #[.agg #[.string ⟨#[83, 85, 77, 77, 65]⟩, .string ⟨#[75, 49]⟩, .int .u8 1, .int .i64 16760000, .int .i64 (-43921500), .int .i64 0, .int .i64 0]] w fun e w' => e = .returned (.tuple #[.string (sb sumL), .int .i64 0]) ∧ Below w.heap.size w w' := by
  refine (textF_any sumF w E (by decide) (by decide)).mono ?_
  rintro e w' ⟨t, rfl, ht, hb⟩
  refine ⟨?_, hb⟩
  rw [sum_ok, ← sb_bl t, ht.out, sum_out]
theorem parse_sum (w : World) (E : Env w) : Calls Tryz.prog 20 #[.string (sb sumL)] w fun e w' => e = .returned (.tuple #[.agg #[.string ⟨#[83, 85, 77, 77, 65]⟩, .string ⟨#[75, 49]⟩, .int .u8 1, .int .i64 16760000, .int .i64 (-43921500), .int .i64 0, .int .i64 0], .int .i64 0]) ∧ Below w.heap.size w w' := by
  refine (parseF_any (sb sumL) w E (by decide)).mono ?_
  rintro e w' ⟨rfl, hb⟩
  refine ⟨?_, hb⟩
  rw [bl_sb, sum_pF, sum_pE]; rfl
theorem split_sum (w : World) : Calls Tryz.prog 16 #[.string ⟨#[83, 85, 77, 77, 65, 47, 75, 49]⟩] w fun e w' => e = .returned (.tuple #[.string ⟨#[83, 85, 77, 77, 65]⟩, .string ⟨#[75, 49]⟩, .int .i64 0]) ∧ Drawn w w' := by
  refine (splitRef_any (sb sumR) w (by decide)).mono ?_
  rintro e w' ⟨a, b, rfl, ha, hb, _, _, hd⟩
  refine ⟨?_, hd⟩
  rw [bl_sb, sum_rE.2.1] at ha
  rw [bl_sb, sum_rE.2.2] at hb
  rw [bl_sb, sum_rE.1, ← sb_bl a, ha.out, ← sb_bl b, hb.out]; rfl
theorem ref_sum (w : World) : Calls Tryz.prog 15 #[.agg #[.string ⟨#[83, 85, 77, 77, 65]⟩, .string ⟨#[75, 49]⟩, .int .u8 1, .int .i64 16760000, .int .i64 (-43921500), .int .i64 0, .int .i64 0]] w fun e w' => e = .returned (.string ⟨#[83, 85, 77, 77, 65, 47, 75, 49]⟩) ∧ Below w.heap.size w w' := by
  refine (fixRef_any sumF w (by decide) (by decide)).mono ?_
  rintro e w' ⟨rfl, hb⟩
  refine ⟨?_, hb⟩
  rw [sum_ref]; rfl
theorem sumL_eq : ((sb sumL).toList == [87, 65, 89, 80, 79, 73, 78, 84, 32, 83, 85, 77, 77, 65, 32, 75, 49, 32, 78, 52, 54, 51, 51, 50, 48, 48, 48, 87, 49, 50, 50, 48, 48, 49, 53, 48, 48]) = true := by rw [bl_toList, bl_sb]; rfl
set_option maxRecDepth 100000 in
set_option maxHeartbeats 1000000 in
theorem awakeF_any (w : World) (E : Env w) : Calls Tryz.prog 12 #[] w fun e w' => e = .returned (.bool true) ∧ Below w.heap.size w w' := by
  have hL := sumL_eq
  have E0 := E.alloc (.cells #[.string ⟨#[83, 85, 77, 77, 65]⟩, .string ⟨#[75, 49]⟩, .int .u8 1, .int .i64 16760000, .int .i64 (-43921500), .int .i64 0, .int .i64 0] 26)
  have B0 : Hid (FxBox (w.alloc (.cells #[.string ⟨#[83, 85, 77, 77, 65]⟩, .string ⟨#[75, 49]⟩, .int .u8 1, .int .i64 16760000, .int .i64 (-43921500), .int .i64 0, .int .i64 0] 26)) w.heap.size sumF) := heap_alloc_new w _
  have HB0 : Hid (Below w.heap.size w (w.alloc (.cells #[.string ⟨#[83, 85, 77, 77, 65]⟩, .string ⟨#[75, 49]⟩, .int .u8 1, .int .i64 16760000, .int .i64 (-43921500), .int .i64 0, .int .i64 0] 26))) := (Below.refl _ _).alloc (Nat.le_refl _) _
  go_enter Tryz.func12, Tryz.ntmps12
  go_wp2_with fail
  refine (text_sum _ E0).mono ?_
  rintro e w1 ⟨rfl, hb1⟩
  have B1 := Lib.hid (B0.out.below hb1)
  have HB1 := Lib.hid (Below.then_ HB0.out hb1)
  have E1 := E.below HB1.out
  obtain ⟨c0, c1, c2, c3, c4, c5, c6⟩ : FxCells w1 w.heap.size ⟨#[83, 85, 77, 77, 65]⟩ ⟨#[75, 49]⟩ 1 16760000 (-43921500) 0 0 := B1.out.cells
  have hl1 := lt_heap B1.out
  clear hb1
  go_wp2_with fail
  refine (parse_sum _ E1).mono ?_
  rintro e w2 ⟨rfl, hb2⟩
  have B2 := Lib.hid (B1.out.below hb2)
  have HB2 := Lib.hid (Below.then_ HB1.out hb2)
  have HB2' : Hid (Below w2.heap.size w2 (w2.alloc (.cells #[.string ⟨#[83, 85, 77, 77, 65]⟩, .string ⟨#[75, 49]⟩, .int .u8 1, .int .i64 16760000, .int .i64 (-43921500), .int .i64 0, .int .i64 0] 26))) := (Below.refl _ _).alloc (Nat.le_refl _) _
  clear c0 c1 c2 c3 c4 c5 c6 hl1 hb2
  go_wp2_with fail
  refine (split_sum _).mono ?_
  rintro e w3 ⟨rfl, hd3⟩
  have hb3 := hd3.below (b := (w2.alloc (.cells #[.string ⟨#[83, 85, 77, 77, 65]⟩, .string ⟨#[75, 49]⟩, .int .u8 1, .int .i64 16760000, .int .i64 (-43921500), .int .i64 0, .int .i64 0] 26)).heap.size)
  have B3 := Lib.hid ((B2.out.below HB2'.out).below hb3)
  have G3 : Hid (FxBox w3 w2.heap.size sumF) := FxBox.below (w := w2.alloc (.cells #[.string ⟨#[83, 85, 77, 77, 65]⟩, .string ⟨#[75, 49]⟩, .int .u8 1, .int .i64 16760000, .int .i64 (-43921500), .int .i64 0, .int .i64 0] 26)) (heap_alloc_new w2 _) hb3
  have HB3 := Lib.hid (Below.then_ (Below.then_ HB2.out HB2'.out) hb3)
  clear hb3 hd3
  obtain ⟨c0, c1, c2, c3, c4, c5, c6⟩ : FxCells w3 w.heap.size ⟨#[83, 85, 77, 77, 65]⟩ ⟨#[75, 49]⟩ 1 16760000 (-43921500) 0 0 := B3.out.cells
  obtain ⟨d0, d1, d2, d3, d4, d5, d6⟩ : FxCells w3 w2.heap.size ⟨#[83, 85, 77, 77, 65]⟩ ⟨#[75, 49]⟩ 1 16760000 (-43921500) 0 0 := G3.out.cells
  go_wp2_with fail
  refine (ref_sum _).mono ?_
  rintro e w4 ⟨rfl, hb4⟩
  have HB4 := Lib.hid (Below.then_ HB3.out hb4)
  clear hb4
  go_wp2
  go_ret
  exact ⟨rfl, HB4.out⟩
end Go.Proofs.YtempiooclhmeoaaGreatDoor
