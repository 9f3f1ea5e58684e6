/-
  Several texts as one.
  Contracts: scaling (fixed.scale, to the nearest), and the point of a position in the plane around an origin: parts.
  Contracts: the calendar at the cycle 2612 (the law's example), and the number of digits.
  Contracts: the digits of the cycle of the examples; its text.
-/
import Derived.Test.YtakgcdefbbgdaaaGreatDoorMG15
import Derived.Test.YtakgcdefbbgdaaaGreatDoorMG08
import Derived.Test.YtakgcdefbbgdaaaGreatDoorMG05
import Derived.Laws.BytesString
import Derived.Laws.Cells
namespace Go.Proofs.YtakgcdefbbgdaaaGreatDoor
open Go.RowKit
set_option linter.unusedVariables false
set_option linter.unusedSimpArgs false
/-! ### scaling -/
set_option maxRecDepth 100000 in
theorem size_any (a : Int) (w : World) (h : -9223372036854775807 ≤ a ∧ a ≤ 9223372036854775807) : Calls Tryz.prog 223 #[.int .i64 a] w fun e w' => e = .returned (.int .u64 (a.natAbs : Int)) ∧ w = w' := by
  have HA : Hid ((0 ≤ a → (a.natAbs : Int) = a) ∧ (a < 0 → (a.natAbs : Int) = -a)) := by unfold Hid; omega
  by_cases h0 : a < 0
  · have e1 : IntKind.u64.wrap a = a + 18446744073709551616 := by rw [IntKind.wrap_u64]; omega
    have e2 : IntKind.u64.wrap (-(a + 18446744073709551616)) = -a := by rw [IntKind.wrap_u64]; omega
    rw [HA.out.2 h0]
    go_enter Tryz.func223, Tryz.ntmps223
    go_wp2
    go_ret
    exact ⟨by simp [e1, e2], rfl⟩
  · have e1 : IntKind.u64.wrap a = a := by rw [IntKind.wrap_u64]; omega
    rw [HA.out.1 (by omega)]
    go_enter Tryz.func223, Tryz.ntmps223
    go_wp2
    go_ret
    exact ⟨by simp [e1], rfl⟩
theorem fsigned_0 (w : World) : Calls Tryz.prog 226 #[.int .u64 0, .bool false] w fun e w' => e = .returned (.tuple #[.int .i64 0, .int .i64 0]) ∧ w = w' := by
  go_enter Tryz.func226, Tryz.ntmps226
  go_wp2
  go_ret2
  exact ⟨rfl, rfl⟩
/-! ### the frame of a position -/
def eastV (lo : Int) : V3 := ⟨-sinZ lo, cosZ lo, 0⟩
def northV (la lo : Int) : V3 := ⟨-rnd (sinZ la * cosZ lo), -rnd (sinZ la * sinZ lo), cosZ la⟩
theorem neg_sq (x : Int) : -x * -x = x * x := Int.neg_mul_neg x x
set_option maxRecDepth 100000 in
theorem east_ok (lo : Int) : (eastV lo).Ok := by
  have hs := sinZ_bd lo
  have hc := cosZ_bd lo
  have cb := circ_bd lo
  have e : (eastV lo).sq = sinZ lo * sinZ lo + cosZ lo * cosZ lo := by unfold V3.sq eastV; simp only; rw [neg_sq]; omega
  refine ⟨?_, ?_, ?_, by rw [e]; omega, by rw [e]; omega⟩
  · simp only [eastV]; omega
  · simp only [eastV]; omega
  · simp only [eastV]; omega
set_option maxRecDepth 100000 in
theorem north_ok (la lo : Int) : (northV la lo).Ok := by
  have hx := prod_bd _ _ (sinZ_bd la) (cosZ_bd lo)
  have hy := prod_bd _ _ (sinZ_bd la) (sinZ_bd lo)
  have r1 := rnd_sq (X := sinZ la * cosZ lo) (by omega) (by omega)
  have r2 := rnd_sq (X := sinZ la * sinZ lo) (by omega) (by omega)
  have cb := circ_bd lo
  have ca := circ_bd la
  have hc := sq_nonneg (cosZ la)
  have hs := sq_nonneg (sinZ la)
  have hp : sinZ la * cosZ lo * (sinZ la * cosZ lo) + sinZ la * sinZ lo * (sinZ la * sinZ lo) = sinZ la * sinZ la * (sinZ lo * sinZ lo + cosZ lo * cosZ lo) := by grind
  have hu : sinZ la * sinZ la * (sinZ lo * sinZ lo + cosZ lo * cosZ lo) ≤ sinZ la * sinZ la * 1450000000000000000 := Int.mul_le_mul_of_nonneg_left cb.2 hs
  have hl : sinZ la * sinZ la * 853000000000000000 ≤ sinZ la * sinZ la * (sinZ lo * sinZ lo + cosZ lo * cosZ lo) := Int.mul_le_mul_of_nonneg_left cb.1 hs
  have u1 := rnd_unit hx.1 hx.2
  have u2 := rnd_unit hy.1 hy.2
  have hv := vec_lin r1 r2 hp hu hl (S := cosZ la * cosZ la) (by omega) hs hc
  have e : (northV la lo).sq = rnd (sinZ la * cosZ lo) * rnd (sinZ la * cosZ lo) + rnd (sinZ la * sinZ lo) * rnd (sinZ la * sinZ lo) + cosZ la * cosZ la := by
    unfold V3.sq northV; simp only; rw [neg_sq, neg_sq]
  have hcb := cosZ_bd la
  refine ⟨?_, ?_, ?_, by rw [e]; exact hv.1, by rw [e]; exact hv.2⟩
  · simp only [northV]; omega
  · simp only [northV]; omega
  · simp only [northV]; omega
/-- a position as it is seen from another one -/
def locV (la lo ma mo : Int) : V3 := ⟨rnd ((eastV lo).dot (vecOf ma mo)), rnd ((northV la lo).dot (vecOf ma mo)), rnd ((vecOf la lo).dot (vecOf ma mo))⟩
set_option maxRecDepth 100000 in
theorem loc_bd (la lo ma mo : Int) : (-1700000000 ≤ (locV la lo ma mo).x ∧ (locV la lo ma mo).x ≤ 1700000000) ∧ (-1700000000 ≤ (locV la lo ma mo).y ∧ (locV la lo ma mo).y ≤ 1700000000) ∧ (-1700000000 ≤ (locV la lo ma mo).z ∧ (locV la lo ma mo).z ≤ 1700000000) := by
  have h1 := pair_ok (east_ok lo) (vec_ok ma mo)
  have h2 := pair_ok (north_ok la lo) (vec_ok ma mo)
  have h3 := pair_ok (vec_ok la lo) (vec_ok ma mo)
  have a1 := h1.d1; have b1 := h1.d2; have a2 := h2.d1; have b2 := h2.d2; have a3 := h3.d1; have b3 := h3.d2
  unfold locV rnd
  simp only
  omega
/-- the example's origin, seen from itself -/
theorem loc_ex : (locV 16560000 (-43200000) 16560000 (-43200000)).x = 0 ∧ (locV 16560000 (-43200000) 16560000 (-43200000)).y = 0 ∧ (locV 16560000 (-43200000) 16560000 (-43200000)).z = 1073741825 := by decide +kernel
def frV (la lo : Int) : Value := .agg #[.int .i64 (eastV lo).x, .int .i64 (eastV lo).y, .int .i64 (eastV lo).z, .int .i64 (northV la lo).x, .int .i64 (northV la lo).y, .int .i64 (northV la lo).z, .int .i64 (vecOf la lo).x, .int .i64 (vecOf la lo).y, .int .i64 (vecOf la lo).z]
/-- a block of the call's own, whole -/
def Bx (b : Nat) (cs : Array Value) (t : TypeId) (w : World) : Prop := w.heap[b]? = some (.cells cs t (0, 0))
theorem Bx.lt {b : Nat} {cs : Array Value} {t : TypeId} {w : World} (h : Bx b cs t w) : b < w.heap.size := lt_heap h
theorem Bx.via {b : Nat} {cs : Array Value} {t : TypeId} {T wa : World} (hb : Below T.heap.size T wa) (h : Bx b cs t T) : Bx b cs t wa := (hb.block b h.lt).trans h
theorem Bx.last (T : World) (cs : Array Value) (t : TypeId) : Bx T.heap.size cs t (T.alloc (.cells cs t)) := heap_alloc_new T _
theorem Bx.set {b : Nat} {cs : Array Value} {t : TypeId} {w : World} (h : Bx b cs t w) (j : Nat) (u : Value) : Bx b (cs.setIfInBounds j u) t (w.setCell ⟨b, j, none⟩ u) := heap_setCell_same w b j cs t u h
theorem Bx.cell {b : Nat} {cs : Array Value} {t : TypeId} {w : World} (h : Bx b cs t w) (j : Nat) {u : Value} (hu : cs[j]? = some u) : w.cell? ⟨b, j, none⟩ = some u := blkCell' h j hu
theorem Bx.free {b : Nat} {cs : Array Value} {t : TypeId} {w : World} (h : Bx b cs t w) (j : Nat) : w.frozen? ⟨b, j, none⟩ = false := frozen_of_row w b j cs t h
theorem Bx.set9 {b : Nat} {x0 x1 x2 x3 x4 x5 x6 x7 x8 : Value} {t : TypeId} {w : World} (h : Bx b #[x0, x1, x2, x3, x4, x5, x6, x7, x8] t w) (y0 y1 y2 y3 y4 y5 y6 y7 y8 : Value) :
    Bx b #[y0, y1, y2, y3, y4, y5, y6, y7, y8] t (((((((((w.setCell ⟨b, 0, none⟩ y0).setCell ⟨b, 1, none⟩ y1).setCell ⟨b, 2, none⟩ y2).setCell ⟨b, 3, none⟩ y3).setCell ⟨b, 4, none⟩ y4).setCell ⟨b, 5, none⟩ y5).setCell ⟨b, 6, none⟩ y6).setCell ⟨b, 7, none⟩ y7).setCell ⟨b, 8, none⟩ y8) := by
  have h0 : Bx b #[y0, x1, x2, x3, x4, x5, x6, x7, x8] t _ := h.set 0 y0
  have h1 : Bx b #[y0, y1, x2, x3, x4, x5, x6, x7, x8] t _ := h0.set 1 y1
  have h2 : Bx b #[y0, y1, y2, x3, x4, x5, x6, x7, x8] t _ := h1.set 2 y2
  have h3 : Bx b #[y0, y1, y2, y3, x4, x5, x6, x7, x8] t _ := h2.set 3 y3
  have h4 : Bx b #[y0, y1, y2, y3, y4, x5, x6, x7, x8] t _ := h3.set 4 y4
  have h5 : Bx b #[y0, y1, y2, y3, y4, y5, x6, x7, x8] t _ := h4.set 5 y5
  have h6 : Bx b #[y0, y1, y2, y3, y4, y5, y6, x7, x8] t _ := h5.set 6 y6
  have h7 : Bx b #[y0, y1, y2, y3, y4, y5, y6, y7, x8] t _ := h6.set 7 y7
  have h8 : Bx b #[y0, y1, y2, y3, y4, y5, y6, y7, y8] t _ := h7.set 8 y8
  exact h8
theorem Bx.cells9 {b : Nat} {x0 x1 x2 x3 x4 x5 x6 x7 x8 : Value} {t : TypeId} {w : World} (h : Bx b #[x0, x1, x2, x3, x4, x5, x6, x7, x8] t w) :
    (w.cell? ⟨b, 0, none⟩ = some x0 ∧ w.cell? ⟨b, 1, none⟩ = some x1 ∧ w.cell? ⟨b, 2, none⟩ = some x2 ∧ w.cell? ⟨b, 3, none⟩ = some x3 ∧ w.cell? ⟨b, 4, none⟩ = some x4 ∧ w.cell? ⟨b, 5, none⟩ = some x5 ∧ w.cell? ⟨b, 6, none⟩ = some x6 ∧ w.cell? ⟨b, 7, none⟩ = some x7 ∧ w.cell? ⟨b, 8, none⟩ = some x8) ∧
    (w.frozen? ⟨b, 0, none⟩ = false ∧ w.frozen? ⟨b, 1, none⟩ = false ∧ w.frozen? ⟨b, 2, none⟩ = false ∧ w.frozen? ⟨b, 3, none⟩ = false ∧ w.frozen? ⟨b, 4, none⟩ = false ∧ w.frozen? ⟨b, 5, none⟩ = false ∧ w.frozen? ⟨b, 6, none⟩ = false ∧ w.frozen? ⟨b, 7, none⟩ = false ∧ w.frozen? ⟨b, 8, none⟩ = false) :=
  ⟨⟨h.cell 0 rfl, h.cell 1 rfl, h.cell 2 rfl, h.cell 3 rfl, h.cell 4 rfl, h.cell 5 rfl, h.cell 6 rfl, h.cell 7 rfl, h.cell 8 rfl⟩, h.free 0, h.free 1, h.free 2, h.free 3, h.free 4, h.free 5, h.free 6, h.free 7, h.free 8⟩
theorem Bx.set3 {b : Nat} {x0 x1 x2 : Value} {t : TypeId} {w : World} (h : Bx b #[x0, x1, x2] t w) (y0 y1 y2 : Value) :
    Bx b #[y0, y1, y2] t (((w.setCell ⟨b, 0, none⟩ y0).setCell ⟨b, 1, none⟩ y1).setCell ⟨b, 2, none⟩ y2) := ((h.set 0 y0).set 1 y1).set 2 y2
theorem Bx.cells3 {b : Nat} {x0 x1 x2 : Value} {t : TypeId} {w : World} (h : Bx b #[x0, x1, x2] t w) :
    (w.cell? ⟨b, 0, none⟩ = some x0 ∧ w.cell? ⟨b, 1, none⟩ = some x1 ∧ w.cell? ⟨b, 2, none⟩ = some x2) ∧ (w.frozen? ⟨b, 0, none⟩ = false ∧ w.frozen? ⟨b, 1, none⟩ = false ∧ w.frozen? ⟨b, 2, none⟩ = false) :=
  ⟨⟨h.cell 0 rfl, h.cell 1 rfl, h.cell 2 rfl⟩, h.free 0, h.free 1, h.free 2⟩
theorem bel_set9 {B b : Nat} {w0 w : World} (h : Below B w0 w) (hb : B ≤ b) (y0 y1 y2 y3 y4 y5 y6 y7 y8 : Value) : Below B w0 (((((((((w.setCell ⟨b, 0, none⟩ y0).setCell ⟨b, 1, none⟩ y1).setCell ⟨b, 2, none⟩ y2).setCell ⟨b, 3, none⟩ y3).setCell ⟨b, 4, none⟩ y4).setCell ⟨b, 5, none⟩ y5).setCell ⟨b, 6, none⟩ y6).setCell ⟨b, 7, none⟩ y7).setCell ⟨b, 8, none⟩ y8) :=
  ((((((((h.setCell hb y0).setCell hb y1).setCell hb y2).setCell hb y3).setCell hb y4).setCell hb y5).setCell hb y6).setCell hb y7).setCell hb y8
theorem bel_set3 {B b : Nat} {w0 w : World} (h : Below B w0 w) (hb : B ≤ b) (y0 y1 y2 : Value) : Below B w0 (((w.setCell ⟨b, 0, none⟩ y0).setCell ⟨b, 1, none⟩ y1).setCell ⟨b, 2, none⟩ y2) :=
  ((h.setCell hb y0).setCell hb y1).setCell hb y2
set_option maxRecDepth 100000 in
set_option maxHeartbeats 8000000 in
theorem at_any (la lo : Int) (w : World) (h : vldB la lo = true) :
    Calls Tryz.prog 220 #[.agg #[.int .i64 la, .int .i64 lo]] w fun e w' => e = .returned (frV la lo) ∧ Below w.heap.size w w' := by
  have hb := vld_bd h
  have p1 := prod_bd _ _ (sinZ_bd la) (cosZ_bd lo)
  have p2 := prod_bd _ _ (sinZ_bd la) (sinZ_bd lo)
  have b1 := sinZ_bd lo
  have u1 := rnd_unit p1.1 p1.2
  have u2 := rnd_unit p2.1 p2.2
  have HV : Hid (frV la lo = .agg #[.int .i64 (-sinZ lo), .int .i64 (cosZ lo), .int .i64 0, .int .i64 (-rnd (sinZ la * cosZ lo)), .int .i64 (-rnd (sinZ la * sinZ lo)), .int .i64 (cosZ la), .int .i64 (vecOf la lo).x, .int .i64 (vecOf la lo).y, .int .i64 (vecOf la lo).z]) := by
    unfold Hid frV; simp only [eastV, northV]
  have t1 := fun w => tSin_any la w (by omega) (by omega)
  have t2 := fun w => tCos_any la w (by omega) (by omega)
  have t3 := fun w => tSin_any lo w (by omega) (by omega)
  have t4 := fun w => tCos_any lo w (by omega) (by omega)
  have r1 := fun w => sround_any (sinZ la * cosZ lo) w (by omega) (by omega)
  have r2 := fun w => sround_any (sinZ la * sinZ lo) w (by omega) (by omega)
  have o1 := fun w => of_any la lo w h
  have hw1 : IntKind.i64.wrap (sinZ la * cosZ lo) = sinZ la * cosZ lo := by rw [IntKind.wrap_i64]; omega
  have hw2 : IntKind.i64.wrap (sinZ la * sinZ lo) = sinZ la * sinZ lo := by rw [IntKind.wrap_i64]; omega
  have hw3 : IntKind.i64.wrap (-sinZ lo) = -sinZ lo := by rw [IntKind.wrap_i64]; omega
  have hw4 : IntKind.i64.wrap (-rnd (sinZ la * cosZ lo)) = -rnd (sinZ la * cosZ lo) := by rw [IntKind.wrap_i64]; omega
  have hw5 : IntKind.i64.wrap (-rnd (sinZ la * sinZ lo)) = -rnd (sinZ la * sinZ lo) := by rw [IntKind.wrap_i64]; omega
  rw [HV.out]
  obtain ⟨v, hv⟩ : ∃ v, vecOf la lo = v := ⟨_, rfl⟩
  rw [hv] at o1 ⊢
  obtain ⟨vx, vy, vz⟩ := v
  unfold vcV at o1
  simp only at o1 ⊢
  obtain ⟨n1, hn1⟩ : ∃ c, rnd (sinZ la * cosZ lo) = c := ⟨_, rfl⟩
  obtain ⟨n2, hn2⟩ : ∃ c, rnd (sinZ la * sinZ lo) = c := ⟨_, rfl⟩
  rw [hn1] at r1 hw4 u1
  rw [hn2] at r2 hw5 u2
  rw [hn1, hn2]
  obtain ⟨cl, hcl⟩ : ∃ c, cosZ la = c := ⟨_, rfl⟩
  obtain ⟨co, hco⟩ : ∃ c, cosZ lo = c := ⟨_, rfl⟩
  obtain ⟨sl, hsl⟩ : ∃ c, sinZ la = c := ⟨_, rfl⟩
  obtain ⟨so, hso⟩ : ∃ c, sinZ lo = c := ⟨_, rfl⟩
  rw [hsl, hco] at p1 r1 hw1
  rw [hsl, hso] at p2 r2 hw2
  rw [hso] at b1 hw3
  rw [hsl] at t1
  rw [hcl] at t2
  rw [hso] at t3
  rw [hco] at t4
  rw [hcl, hco, hso]
  clear hcl hco hsl hso HV h hb hv hn1 hn2
  obtain ⟨w0, hw0⟩ : ∃ W, (w.alloc (.cells #[.int .i64 la, .int .i64 lo] 24)).alloc (.cells #[.int .i64 0, .int .i64 0, .int .i64 0, .int .i64 0, .int .i64 0, .int .i64 0, .int .i64 0, .int .i64 0, .int .i64 0] 273) = W := ⟨_, rfl⟩
  have B0 : Hid (Below w.heap.size w w0) := by rw [← hw0]; exact ((Below.refl _ _).alloc (Nat.le_refl _) _).alloc (by simp) _
  have X0 : Hid (Bx (w.heap.size + 1) #[.int .i64 0, .int .i64 0, .int .i64 0, .int .i64 0, .int .i64 0, .int .i64 0, .int .i64 0, .int .i64 0, .int .i64 0] 273 w0) := by
    have h1 := Bx.last (w.alloc (.cells #[.int .i64 la, .int .i64 lo] 24)) #[.int .i64 0, .int .i64 0, .int .i64 0, .int .i64 0, .int .i64 0, .int .i64 0, .int .i64 0, .int .i64 0, .int .i64 0] 273
    rw [World.size_alloc, hw0] at h1
    exact h1
  have c0 : w0.cell? ⟨w.heap.size, 0, none⟩ = some (.int .i64 la) := by rw [← hw0]; simp [go_sem]
  have c1 : w0.cell? ⟨w.heap.size, 1, none⟩ = some (.int .i64 lo) := by rw [← hw0]; simp [go_sem]
  go_enter Tryz.func220, Tryz.ntmps220
  go_wp2_with fail
  try rw [hw0]
  clear hw0
  go_quiet (first | (go_at_call 241; exact Calls.quiet_of_same ((t1 _).mono fun e w' ⟨h1, h2⟩ => ⟨h1, h2.symm⟩)) | (go_at_call 242; exact Calls.quiet_of_same ((t2 _).mono fun e w' ⟨h1, h2⟩ => ⟨h1, h2.symm⟩)))
  have B1 : Hid (Below w.heap.size w (w0.drewN nq)) := below_drewN' B0.out nq
  have X1 : Hid (Bx (w.heap.size + 1) #[.int .i64 0, .int .i64 0, .int .i64 0, .int .i64 0, .int .i64 0, .int .i64 0, .int .i64 0, .int .i64 0, .int .i64 0] 273 (w0.drewN nq)) := X0.out
  have d0 : (w0.drewN nq).cell? ⟨w.heap.size, 0, none⟩ = some (.int .i64 la) := c0
  have d1 : (w0.drewN nq).cell? ⟨w.heap.size, 1, none⟩ = some (.int .i64 lo) := c1
  clear B0 X0 c0 c1
  obtain ⟨w1, hw1⟩ : ∃ W, w0.drewN nq = W := ⟨_, rfl⟩
  rw [hw1] at B1 X1 d0 d1 ⊢
  clear hw1
  go_wp2_with fail
  go_quiet (first | (go_at_call 241; exact Calls.quiet_of_same ((t3 _).mono fun e w' ⟨h1, h2⟩ => ⟨h1, h2.symm⟩)) | (go_at_call 242; exact Calls.quiet_of_same ((t4 _).mono fun e w' ⟨h1, h2⟩ => ⟨h1, h2.symm⟩)))

  have B2 : Hid (Below w.heap.size w (w1.drewN nq)) := below_drewN' B1.out nq
  have X2 : Hid (Bx (w.heap.size + 1) #[.int .i64 0, .int .i64 0, .int .i64 0, .int .i64 0, .int .i64 0, .int .i64 0, .int .i64 0, .int .i64 0, .int .i64 0] 273 (w1.drewN nq)) := X1.out
  have c0 : (w1.drewN nq).cell? ⟨w.heap.size, 0, none⟩ = some (.int .i64 la) := d0
  have c1 : (w1.drewN nq).cell? ⟨w.heap.size, 1, none⟩ = some (.int .i64 lo) := d1
  clear B1 X1 d0 d1
  obtain ⟨w2, hw2⟩ : ∃ W, w1.drewN nq = W := ⟨_, rfl⟩
  rw [hw2] at B2 X2 c0 c1 ⊢
  clear hw2
  have HFA : Hid (∀ wa, Below w2.heap.size w2 wa → Hid (Bx (w.heap.size + 1) #[.int .i64 0, .int .i64 0, .int .i64 0, .int .i64 0, .int .i64 0, .int .i64 0, .int .i64 0, .int .i64 0, .int .i64 0] 273 wa) ∧ Hid (Below w.heap.size w wa)) := fun wa hb => ⟨X2.out.via hb, Below.then_ B2.out hb⟩
  go_wp2_with fail
  clear t1 t2 t3 t4
  go_region_with (first
    | (go_at_call 243; (first | refine (r1 _).mono ?_ | refine (r2 _).mono ?_); rintro e wa ⟨rfl, rfl⟩)
    | (go_at_call 221; refine (o1 _).mono ?_; rintro e wa ⟨rfl, hba⟩; have HXA := HFA.out wa (Below.then_ (by repeat (first | exact Below.refl _ _ | with_reducible refine Below.drew ?_ | with_reducible refine below_drewN' ?_ _)) hba); clear hba; obtain ⟨⟨x0, x1, x2, x3, x4, x5, x6, x7, x8⟩, y0, y1, y2, y3, y4, y5, y6, y7, y8⟩ := HXA.1.out.cells9))
  all_goals
    have hx9 := Bx.set9 HXA.1.out (.int .i64 (-so)) (.int .i64 co) (.int .i64 0) (.int .i64 (-n1)) (.int .i64 (-n2)) (.int .i64 cl) (.int .i64 vx) (.int .i64 vy) (.int .i64 vz)
    have HB9 := Lib.hid (bel_set9 HXA.2.out (show w.heap.size ≤ w.heap.size + 1 by omega) (.int .i64 (-so)) (.int .i64 co) (.int .i64 0) (.int .i64 (-n1)) (.int .i64 (-n2)) (.int .i64 cl) (.int .i64 vx) (.int .i64 vy) (.int .i64 vz))
    generalize (((((((((wa.setCell ⟨w.heap.size + 1, 0, none⟩ (.int .i64 (-so))).setCell ⟨w.heap.size + 1, 1, none⟩ (.int .i64 co)).setCell ⟨w.heap.size + 1, 2, none⟩ (.int .i64 0)).setCell ⟨w.heap.size + 1, 3, none⟩ (.int .i64 (-n1))).setCell ⟨w.heap.size + 1, 4, none⟩ (.int .i64 (-n2))).setCell ⟨w.heap.size + 1, 5, none⟩ (.int .i64 cl)).setCell ⟨w.heap.size + 1, 6, none⟩ (.int .i64 vx)).setCell ⟨w.heap.size + 1, 7, none⟩ (.int .i64 vy)).setCell ⟨w.heap.size + 1, 8, none⟩ (.int .i64 vz)) = W9 at hx9 HB9 ⊢
    obtain ⟨⟨z0, z1, z2, z3, z4, z5, z6, z7, z8⟩, _⟩ := hx9.cells9
    go_wp2
    refine bodyPost_ret (by simp [results, Tryz.results220, go_sem, z0, z1, z2, z3, z4, z5, z6, z7, z8]; try rfl) rfl ?_
    exact ⟨rfl, HB9.out⟩
theorem mul64_ex (w : World) : Calls Tryz.prog 224 #[.int .u64 20626481, .int .u64 0] w fun e w' => e = .returned (.tuple #[.int .u64 0, .int .u64 0]) ∧ w = w' := by
  go_enter Tryz.func224, Tryz.ntmps224
  go_wp2
  go_ret2
  exact ⟨rfl, rfl⟩
set_option maxRecDepth 100000 in
theorem div64_ex (w : World) : Calls Tryz.prog 225 #[.int .u64 0, .int .u64 0, .int .u64 1073741825] w fun e w' => e = .returned (.tuple #[.int .u64 0, .int .u64 0]) ∧ Below w.heap.size w w' := by
  go_enter Tryz.func225, Tryz.ntmps225
  go_wp2_with fail
  go_quiet (fail)
  go_wp2
  go_ret2
  exact ⟨rfl, by first | exact Below.refl _ _ | exact below_drewN' (Below.refl _ _) _⟩
set_option maxRecDepth 100000 in
theorem scale_ex (w : World) : Calls Tryz.prog 189 #[.int .i64 20626481, .int .i64 0, .int .i64 1073741825, .int .u8 2] w fun e w' => e = .returned (.tuple #[.int .i64 0, .int .i64 0]) ∧ Below w.heap.size w w' := by
  have z1 := fun w => size_any 1073741825 w (by omega)
  have z2 := fun w => size_any 20626481 w (by omega)
  have z3 := fun w => size_any 0 w (by omega)
  go_enter Tryz.func189, Tryz.ntmps189
  go_wp2_with fail
  refine (z1 _).mono ?_
  rintro e w' ⟨rfl, rfl⟩
  go_wp2_with fail
  refine (z2 _).mono ?_
  rintro e w' ⟨rfl, rfl⟩
  go_wp2_with fail
  refine (z3 _).mono ?_
  rintro e w' ⟨rfl, rfl⟩
  go_wp2_with fail
  refine (mul64_ex _).mono ?_
  rintro e w' ⟨rfl, rfl⟩
  go_wp2_with fail
  refine (div64_ex _).mono ?_
  rintro e w1 ⟨rfl, hb1⟩
  go_wp2_with fail
  refine (fsigned_0 _).mono ?_
  rintro e w' ⟨rfl, rfl⟩
  go_wp2
  go_ret2
  exact ⟨rfl, hb1⟩
theorem mulDivRound_ex (w : World) : Calls Tryz.prog 125 #[.int .i64 20626481, .int .i64 0, .int .i64 1073741825] w fun e w' => e = .returned (.tuple #[.int .i64 0, .int .i64 0]) ∧ Below w.heap.size w w' := by
  go_enter Tryz.func125, Tryz.ntmps125
  go_wp2_with fail
  refine (scale_ex _).mono ?_
  rintro e w1 ⟨rfl, hb1⟩
  go_wp2
  go_ret2
  exact ⟨rfl, hb1⟩
/-! ### the example's origin -/
def exLa : Int := 16560000
def exLo : Int := -43200000
theorem ex_vld : vldB 16560000 (-43200000) = true := by decide +kernel
theorem isOrigin_ex (w : World) : Calls Tryz.prog 123 #[.agg #[.int .i64 16560000, .int .i64 (-43200000)]] w fun e w' => e = .returned (.bool true) ∧ Below w.heap.size w w' := by
  have hv := fun w => sValid_any 16560000 (-43200000) w
  rw [ex_vld] at hv
  obtain ⟨w0, hw0⟩ : ∃ W, w.alloc (.cells #[.int .i64 16560000, .int .i64 (-43200000)] 24) = W := ⟨_, rfl⟩
  have B0 : Hid (Below w.heap.size w w0) := by rw [← hw0]; exact (Below.refl _ _).alloc (Nat.le_refl _) _
  have c0 : w0.cell? ⟨w.heap.size, 0, none⟩ = some (.int .i64 16560000) := by rw [← hw0]; simp [go_sem]
  have c1 : w0.cell? ⟨w.heap.size, 1, none⟩ = some (.int .i64 (-43200000)) := by rw [← hw0]; simp [go_sem]
  have lt : w.heap.size < w0.heap.size := by rw [← hw0]; simp
  go_enter Tryz.func123, Tryz.ntmps123
  go_wp2_with fail
  try rw [hw0]
  clear hw0
  refine (hv _).mono ?_
  rintro e w1 ⟨rfl, hb1⟩
  have B1 := Lib.hid (Below.then_ B0.out hb1)
  have d0 := (hb1.cell (p := ⟨w.heap.size, 0, none⟩) lt).trans c0
  have d1 := (hb1.cell (p := ⟨w.heap.size, 1, none⟩) lt).trans c1
  clear hb1 c0 c1 B0
  go_wp2
  go_ret
  exact ⟨rfl, B1.out⟩
theorem planeValid_ex (w : World) : Calls Tryz.prog 126 #[.agg #[.int .i64 0, .int .i64 0]] w fun e w' => e = .returned (.bool true) ∧ Below w.heap.size w w' := by
  go_enter Tryz.func126, Tryz.ntmps126
  go_wp2
  go_ret
  exact ⟨rfl, (Below.refl _ _).alloc (Nat.le_refl _) _⟩
end Go.Proofs.YtakgcdefbbgdaaaGreatDoor
namespace Go.Proofs.YtakgcdefbbgdaaaGreatDoor
open Go.RowKit
set_option linter.unusedVariables false
set_option linter.unusedSimpArgs false
theorem leap_26 (w : World) : Calls Tryz.prog 240 #[.int .i64 2026] w fun e w' => e = .returned (.bool false) ∧ w = w' := by
  go_enter Tryz.func240, Tryz.ntmps240
  go_wp2
  go_ret
  exact ⟨rfl, rfl⟩
theorem january_26 (w : World) : Calls Tryz.prog 186 #[.int .i64 2026] w fun e w' => e = .returned (.int .i64 9497) ∧ w = w' := by
  go_enter Tryz.func186, Tryz.ntmps186
  go_wp2
  go_ret
  exact ⟨rfl, rfl⟩
theorem january_27 (w : World) : Calls Tryz.prog 186 #[.int .i64 2027] w fun e w' => e = .returned (.int .i64 9862) ∧ w = w' := by
  go_enter Tryz.func186, Tryz.ntmps186
  go_wp2
  go_ret
  exact ⟨rfl, rfl⟩
theorem firstOf_26 (w : World) : Calls Tryz.prog 121 #[.int .i64 2026] w fun e w' => e = .returned (.int .i64 9518) ∧ w = w' := by
  go_enter Tryz.func121, Tryz.ntmps121
  go_wp2_with fail
  refine (january_26 _).mono ?_
  rintro e w1 ⟨rfl, rfl⟩
  go_wp2
  go_ret
  exact ⟨rfl, rfl⟩
/-- the months of a common year -/
def dmN (k : Nat) : Int := [0, 31, 28, 31, 30, 31, 30, 31, 31, 30, 31, 30, 31].getD k 0
/-- the rest of the days behind so many months -/
def remN (k : Nat) : Int := [0, 329, 298, 270, 239, 209, 178, 148, 117, 86, 56, 25].getD k 0
theorem cal_key : ∀ k : Nat, k < 11 → 1 ≤ k → dmN k ≤ remN k ∧ remN k - dmN k = remN (k + 1) := by decide
theorem cal_bd : ∀ k : Nat, k < 13 → 0 ≤ remN k ∧ remN k ≤ 400 ∧ 0 ≤ dmN k ∧ dmN k ≤ 31 := by decide
theorem mix0 (w : World) : (Instr.index 297 (.agg #[.int .i64 31, .int .i64 28, .int .i64 31, .int .i64 30, .int .i64 31, .int .i64 30, .int .i64 31, .int .i64 31, .int .i64 30, .int .i64 31, .int .i64 30, .int .i64 31]) (.int .i64 0)).run Tryz.prog w = .ok (.int .i64 31) w := by kernel_rfl
theorem mix1 (w : World) : (Instr.index 297 (.agg #[.int .i64 31, .int .i64 28, .int .i64 31, .int .i64 30, .int .i64 31, .int .i64 30, .int .i64 31, .int .i64 31, .int .i64 30, .int .i64 31, .int .i64 30, .int .i64 31]) (.int .i64 1)).run Tryz.prog w = .ok (.int .i64 28) w := by kernel_rfl
theorem mix2 (w : World) : (Instr.index 297 (.agg #[.int .i64 31, .int .i64 28, .int .i64 31, .int .i64 30, .int .i64 31, .int .i64 30, .int .i64 31, .int .i64 31, .int .i64 30, .int .i64 31, .int .i64 30, .int .i64 31]) (.int .i64 2)).run Tryz.prog w = .ok (.int .i64 31) w := by kernel_rfl
theorem mix3 (w : World) : (Instr.index 297 (.agg #[.int .i64 31, .int .i64 28, .int .i64 31, .int .i64 30, .int .i64 31, .int .i64 30, .int .i64 31, .int .i64 31, .int .i64 30, .int .i64 31, .int .i64 30, .int .i64 31]) (.int .i64 3)).run Tryz.prog w = .ok (.int .i64 30) w := by kernel_rfl
theorem mix4 (w : World) : (Instr.index 297 (.agg #[.int .i64 31, .int .i64 28, .int .i64 31, .int .i64 30, .int .i64 31, .int .i64 30, .int .i64 31, .int .i64 31, .int .i64 30, .int .i64 31, .int .i64 30, .int .i64 31]) (.int .i64 4)).run Tryz.prog w = .ok (.int .i64 31) w := by kernel_rfl
theorem mix5 (w : World) : (Instr.index 297 (.agg #[.int .i64 31, .int .i64 28, .int .i64 31, .int .i64 30, .int .i64 31, .int .i64 30, .int .i64 31, .int .i64 31, .int .i64 30, .int .i64 31, .int .i64 30, .int .i64 31]) (.int .i64 5)).run Tryz.prog w = .ok (.int .i64 30) w := by kernel_rfl
theorem mix6 (w : World) : (Instr.index 297 (.agg #[.int .i64 31, .int .i64 28, .int .i64 31, .int .i64 30, .int .i64 31, .int .i64 30, .int .i64 31, .int .i64 31, .int .i64 30, .int .i64 31, .int .i64 30, .int .i64 31]) (.int .i64 6)).run Tryz.prog w = .ok (.int .i64 31) w := by kernel_rfl
theorem mix7 (w : World) : (Instr.index 297 (.agg #[.int .i64 31, .int .i64 28, .int .i64 31, .int .i64 30, .int .i64 31, .int .i64 30, .int .i64 31, .int .i64 31, .int .i64 30, .int .i64 31, .int .i64 30, .int .i64 31]) (.int .i64 7)).run Tryz.prog w = .ok (.int .i64 31) w := by kernel_rfl
theorem mix8 (w : World) : (Instr.index 297 (.agg #[.int .i64 31, .int .i64 28, .int .i64 31, .int .i64 30, .int .i64 31, .int .i64 30, .int .i64 31, .int .i64 31, .int .i64 30, .int .i64 31, .int .i64 30, .int .i64 31]) (.int .i64 8)).run Tryz.prog w = .ok (.int .i64 30) w := by kernel_rfl
theorem mix9 (w : World) : (Instr.index 297 (.agg #[.int .i64 31, .int .i64 28, .int .i64 31, .int .i64 30, .int .i64 31, .int .i64 30, .int .i64 31, .int .i64 31, .int .i64 30, .int .i64 31, .int .i64 30, .int .i64 31]) (.int .i64 9)).run Tryz.prog w = .ok (.int .i64 31) w := by kernel_rfl
theorem mix10 (w : World) : (Instr.index 297 (.agg #[.int .i64 31, .int .i64 28, .int .i64 31, .int .i64 30, .int .i64 31, .int .i64 30, .int .i64 31, .int .i64 31, .int .i64 30, .int .i64 31, .int .i64 30, .int .i64 31]) (.int .i64 10)).run Tryz.prog w = .ok (.int .i64 30) w := by kernel_rfl
theorem mix11 (w : World) : (Instr.index 297 (.agg #[.int .i64 31, .int .i64 28, .int .i64 31, .int .i64 30, .int .i64 31, .int .i64 30, .int .i64 31, .int .i64 31, .int .i64 30, .int .i64 31, .int .i64 30, .int .i64 31]) (.int .i64 11)).run Tryz.prog w = .ok (.int .i64 31) w := by kernel_rfl
set_option maxRecDepth 100000 in
set_option maxHeartbeats 2000000 in
theorem monthDays_26 (k : Nat) (h1 : 1 ≤ k) (h2 : k ≤ 12) (w : World) : Calls Tryz.prog 219 #[.int .i64 2026, .int .i64 (k : Int)] w fun e w' => e = .returned (.int .i64 (dmN k)) ∧ w = w' := by
  have h : k = 1 ∨ k = 2 ∨ k = 3 ∨ k = 4 ∨ k = 5 ∨ k = 6 ∨ k = 7 ∨ k = 8 ∨ k = 9 ∨ k = 10 ∨ k = 11 ∨ k = 12 := by omega
  clear h1 h2
  have x0 := mix0
  have x1 := mix1
  have x2 := mix2
  have x3 := mix3
  have x4 := mix4
  have x5 := mix5
  have x6 := mix6
  have x7 := mix7
  have x8 := mix8
  have x9 := mix9
  have x10 := mix10
  have x11 := mix11
  rcases h with rfl | rfl | rfl | rfl | rfl | rfl | rfl | rfl | rfl | rfl | rfl | rfl
  all_goals
    go_enter Tryz.func219, Tryz.ntmps219
    first
      | (go_wp2; go_ret; exact ⟨rfl, rfl⟩)
      | (go_wp2_with fail
         refine (leap_26 _).mono ?_
         rintro e w1 ⟨rfl, rfl⟩
         go_wp2
         go_ret
         exact ⟨rfl, rfl⟩)
set_option maxRecDepth 100000 in
set_option maxHeartbeats 4000000 in
theorem date_26 (w : World) : Calls Tryz.prog 187 #[.int .i64 9826] w fun e w' => e = .returned (.tuple #[.int .i64 2026, .int .i64 11, .int .i64 26, .int .i64 0]) ∧ w = w' := by
  go_enter Tryz.func187, Tryz.ntmps187
  go_wp2_with fail
  go_loopw [2] (fun yv wr => yv = .int .i64 2026 ∧ w = wr) (fun _ _ => 0)
  case atStart => exact ⟨by first | rfl | go_num, rfl⟩
  case round =>
    obtain ⟨rfl, rfl⟩ := hrel
    go_wp2_with fail
    refine (january_27 _).mono ?_
    rintro e w1 ⟨rfl, rfl⟩
    go_wp2_with fail
    refine (january_26 _).mono ?_
    rintro e w1 ⟨rfl, rfl⟩
    go_wp2_with fail
    go_loopw [3, 6] (fun mv rv wr => ∃ k : Nat, 1 ≤ k ∧ k ≤ 11 ∧ mv = .int .i64 (k : Int) ∧ rv = .int .i64 (remN k) ∧ w = wr) (fun mv _ _ => 12 - (RowKit.intOf mv).toNat)
    case atStart => exact ⟨1, by omega, by omega, by first | rfl | go_num, by first | rfl | go_num, rfl⟩
    case round =>
      obtain ⟨k, hk1, hk2, rfl, rfl, rfl⟩ := hrel
      go_wp2_with fail
      refine (monthDays_26 k hk1 (by omega) _).mono ?_
      rintro e w1 ⟨rfl, rfl⟩
      have hb := cal_bd k (by omega)
      by_cases hlt : k < 11
      · have hy := cal_key k hlt hk1
        have HY := Lib.hid hy.2
        have h1 : dmN k ≤ remN k := hy.1
        clear hy
        go_wp2_with fail
        refine (monthDays_26 k hk1 (by omega) _).mono ?_
        rintro e w1 ⟨rfl, rfl⟩
        go_wp2
        go_roundw
        case rel => exact ⟨k + 1, by omega, by omega, by go_num, by first | rfl | (rw [← HY.out]) | go_num, by first | rfl | trivial⟩
        case measure => simp [RowKit.intOf]; omega
      · have h11 : k = 11 := by omega
        subst h11
        rw [show remN 11 = 25 from rfl, show ((11 : Nat) : Int) = 11 from rfl]
        rw [show remN 11 = 25 from rfl, show dmN 11 = 30 from rfl] at hb
        go_wp2
        exact bodyPost_ret (v := .tuple #[.int .i64 2026, .int .i64 11, .int .i64 26, .int .i64 0]) (by simp [results, Tryz.results187, go_sem]) rfl ⟨rfl, rfl⟩
theorem numberOf_26 (w : World) : Calls Tryz.prog 122 #[.int .i64 9826] w fun e w' => e = .returned (.int .i64 2612) ∧ w = w' := by
  go_enter Tryz.func122, Tryz.ntmps122
  go_wp2_with fail
  refine (date_26 _).mono ?_
  rintro e w1 ⟨rfl, rfl⟩
  go_wp2_with fail
  refine (firstOf_26 _).mono ?_
  rintro e w1 ⟨rfl, rfl⟩
  go_wp2
  go_ret
  exact ⟨rfl, rfl⟩
/-- the cycle of the examples -/
theorem cycleDays_26 (w : World) : Calls Tryz.prog 69 #[.int .i64 2612] w fun e w' => e = .returned (.tuple #[.int .i64 9826, .int .i64 9854, .int .i64 0]) ∧ w = w' := by
  go_enter Tryz.func69, Tryz.ntmps69
  go_wp2_with fail
  refine (firstOf_26 _).mono ?_
  rintro e w1 ⟨rfl, rfl⟩
  go_wp2_with fail
  refine (numberOf_26 _).mono ?_
  rintro e w1 ⟨rfl, rfl⟩
  go_wp2
  go_ret3
  exact ⟨rfl, rfl⟩
set_option maxRecDepth 100000 in
set_option maxHeartbeats 1000000 in
theorem cnumber_any (s : ByteArray) (w : World) (hs : s.size ≤ 9) : Calls Tryz.prog 150 #[.string s] w (DigPost s w) := by
  have HNO : Hid ((bl s).all digC = false → DigPost s w (.returned (.tuple #[.int .i64 0, .bool false])) w) := by
    intro h; unfold DigPost; rw [h]; exact ⟨rfl, rfl⟩
  have HYES : Hid ((bl s).all digC = true → ∀ n : Nat, numV (bl s) = n → DigPost s w (.returned (.tuple #[.int .i64 (n : Int), .bool true])) w) := by
    intro h n hn; unfold DigPost; rw [h, hn]; exact ⟨rfl, rfl⟩
  go_enter Tryz.func150, Tryz.ntmps150
  go_wp2
  go_loop [4, 8] (fun nv iv => ∃ k n : Nat, k ≤ s.size ∧ iv = .int .i64 k ∧ nv = .int .i64 n ∧ Hid (numV ((bl s).take k) = n ∧ ((bl s).take k).all digC = true)) (fun _ iv => s.size - (intOf iv).toNat)
  case atStart => exact ⟨0, 0, Nat.zero_le _, rfl, rfl, rfl, rfl⟩
  case round =>
    obtain ⟨k, n, hk, rfl, rfl, hn⟩ := hrel
    by_cases hlt : k < s.size
    · have hb : (n : Int) ≤ 100000000 := by
        have h1 := numV_lt _ hn.out.2
        rw [hn.out.1, List.length_take, bl_len, Nat.min_eq_left hk] at h1
        have h2 : 10 ^ k ≤ 10 ^ 8 := Nat.pow_le_pow_right (by decide) (by omega)
        omega
      have hb0 : (0 : Int) ≤ (n : Int) := by omega
      have HST : Hid (numV ((bl s).take (k + 1)) = 10 * n + (s[k].toNat - 48)) := by
        unfold Hid; rw [take_snoc' s k hlt, numV_snoc, hn.out.1]
      have hki : (k : Int) < (s.size : Int) := by omega
      rcases Int.lt_or_le (s[k].toNat : Int) 48 with h1 | h1
      · have HF := Lib.hid (all_no hlt (digC_not (.inl h1)))
        go_wp2
        go_ret2
        exact HNO.out HF.out
      · rcases Int.lt_or_le 57 (s[k].toNat : Int) with h2 | h2
        · have HF := Lib.hid (all_no hlt (digC_not (.inr h2)))
          go_wp2
          go_ret2
          exact HNO.out HF.out
        · have HT := Lib.hid (all_take_snoc hlt hn.out.2 (digC_of h1 h2))
          have HC : Hid (10 * (n : Int) + ((s[k].toNat : Int) - 48) = ((10 * n + (s[k].toNat - 48) : Nat) : Int)) := by
            unfold Hid; omega
          go_wp2
          go_round
          case rel => exact ⟨k + 1, _, hlt, by go_num, congrArg (Value.int .i64) HC.out, HST.out, HT.out⟩
          case measure => simp [intOf]; omega
    · have HE : Hid ((bl s).take k = bl s) := List.take_of_length_le (by rw [bl_len]; omega)
      go_wp2
      go_ret2
      exact HYES.out (by rw [← HE.out]; exact hn.out.2) n (by rw [← HE.out]; exact hn.out.1)
/-- the text of the cycle of the examples -/
def cyc26 : List UInt8 := [50, 54, 49, 50]
theorem parseCycle_26 (w : World) : Calls Tryz.prog 98 #[.string (sb cyc26)] w fun e w' => e = .returned (.tuple #[.int .i64 2612, .int .i64 0]) ∧ w = w' := by
  go_enter Tryz.func98, Tryz.ntmps98
  go_wp2_with fail
  refine (cnumber_any (sb cyc26) _ (by decide)).mono ?_
  rintro e w1 ⟨rfl, rfl⟩
  rw [bl_sb, show cyc26.all digC = true by decide, show numV cyc26 = 2612 by decide]
  have hsz : (sb cyc26).size = 4 := rfl
  go_wp2_with fail
  refine (cycleDays_26 _).mono ?_
  rintro e w1 ⟨rfl, rfl⟩
  go_wp2
  go_ret2
  exact ⟨rfl, rfl⟩
end Go.Proofs.YtakgcdefbbgdaaaGreatDoor
namespace Go.Proofs.YtakgcdefbbgdaaaGreatDoor
open Go.RowKit
set_option maxRecDepth 4000
set_option linter.unusedVariables false
set_option linter.unusedSimpArgs false
theorem mk4 : ∀ w : World, (Instr.makeSlice 42 (.int .i64 4) (.int .i64 4)).run Tryz.prog w = .ok (.slice (some ⟨w.heap.size, 0, none⟩) 4 4) (w.alloc (.cells #[.int .u8 0, .int .u8 0, .int .u8 0, .int .u8 0] 5)) := fun w => by
  have h := run_make_row' (P := Tryz.prog) 42 5 (.int .u8 0) 1 Tryz.underlying42 (by kernel_rfl) rfl .i64 .i64 4 (by omega) (by omega) w
  have e : madeCells #[Value.int .u8 0] 4 = #[.int .u8 0, .int .u8 0, .int .u8 0, .int .u8 0] := by kernel_rfl
  rw [e] at h
  exact h
set_option maxHeartbeats 4000000 in
theorem digits_26 (w : World) : Calls Tryz.prog 82 #[.int .i64 2612, .int .i64 4] w fun e w' => e = .returned (.string (sb cyc26)) ∧ Below w.heap.size w w' := by
  have hmk := mk4
  obtain ⟨w1, hw1⟩ : ∃ W, w.alloc (.cells #[.int .u8 0, .int .u8 0, .int .u8 0, .int .u8 0] 5) = W := ⟨_, rfl⟩
  have B1 : Hid (Below w.heap.size w w1) := by rw [← hw1]; exact (Below.refl _ _).alloc (Nat.le_refl _) _
  have X1 : Hid (Bx w.heap.size #[.int .u8 0, .int .u8 0, .int .u8 0, .int .u8 0] 5 w1) := by rw [← hw1]; exact Bx.last w _ _
  have HW1 := Lib.hid hw1
  clear hw1
  go_enter Tryz.func82, Tryz.ntmps82
  go_wp2_with fail
  rw [HW1.out]
  clear HW1 hmk
  go_loopw [0, 6] (fun nv iv wr => Hid (Below w.heap.size w wr) ∧ ((iv = .int .i64 3 ∧ nv = .int .i64 2612 ∧ Hid (Bx w.heap.size #[.int .u8 0, .int .u8 0, .int .u8 0, .int .u8 0] 5 wr)) ∨
    (iv = .int .i64 2 ∧ nv = .int .i64 261 ∧ Hid (Bx w.heap.size #[.int .u8 0, .int .u8 0, .int .u8 0, .int .u8 50] 5 wr)) ∨
    (iv = .int .i64 1 ∧ nv = .int .i64 26 ∧ Hid (Bx w.heap.size #[.int .u8 0, .int .u8 0, .int .u8 49, .int .u8 50] 5 wr)) ∨
    (iv = .int .i64 0 ∧ nv = .int .i64 2 ∧ Hid (Bx w.heap.size #[.int .u8 0, .int .u8 54, .int .u8 49, .int .u8 50] 5 wr)) ∨
    (iv = .int .i64 (-1) ∧ nv = .int .i64 0 ∧ Hid (Bx w.heap.size #[.int .u8 50, .int .u8 54, .int .u8 49, .int .u8 50] 5 wr)))) (fun _ iv _ => (intOf iv + 1).toNat)
  case atStart => exact ⟨B1, .inl ⟨rfl, rfl, X1⟩⟩
  case round =>
    obtain ⟨hb, ⟨rfl, rfl, hx⟩ | ⟨rfl, rfl, hx⟩ | ⟨rfl, rfl, hx⟩ | ⟨rfl, rfl, hx⟩ | ⟨rfl, rfl, hx⟩⟩ := hrel
    · have k := hx.out.cell 3 (u := .int .u8 0) rfl
      have f := hx.out.free 3
      have kl := hx.out.lt
      have hx2 : Hid (Bx w.heap.size #[.int .u8 0, .int .u8 0, .int .u8 0, .int .u8 50] 5 (wr.setCell ⟨w.heap.size, 3, none⟩ (.int .u8 50))) := hx.out.set 3 _
      have hb2 := Lib.hid (hb.out.setCell (p := ⟨w.heap.size, 3, none⟩) (Nat.le_refl _) (.int .u8 50))
      go_wp2
      go_roundw
      case rel => exact ⟨hb2, .inr (.inl ⟨rfl, rfl, hx2⟩)⟩
      case measure => simp [intOf]
    · have k := hx.out.cell 2 (u := .int .u8 0) rfl
      have f := hx.out.free 2
      have kl := hx.out.lt
      have hx2 : Hid (Bx w.heap.size #[.int .u8 0, .int .u8 0, .int .u8 49, .int .u8 50] 5 (wr.setCell ⟨w.heap.size, 2, none⟩ (.int .u8 49))) := hx.out.set 2 _
      have hb2 := Lib.hid (hb.out.setCell (p := ⟨w.heap.size, 2, none⟩) (Nat.le_refl _) (.int .u8 49))
      go_wp2
      go_roundw
      case rel => exact ⟨hb2, .inr (.inr (.inl ⟨rfl, rfl, hx2⟩))⟩
      case measure => simp [intOf]
    · have k := hx.out.cell 1 (u := .int .u8 0) rfl
      have f := hx.out.free 1
      have kl := hx.out.lt
      have hx2 : Hid (Bx w.heap.size #[.int .u8 0, .int .u8 54, .int .u8 49, .int .u8 50] 5 (wr.setCell ⟨w.heap.size, 1, none⟩ (.int .u8 54))) := hx.out.set 1 _
      have hb2 := Lib.hid (hb.out.setCell (p := ⟨w.heap.size, 1, none⟩) (Nat.le_refl _) (.int .u8 54))
      go_wp2
      go_roundw
      case rel => exact ⟨hb2, .inr (.inr (.inr (.inl ⟨rfl, rfl, hx2⟩)))⟩
      case measure => simp [intOf]
    · have k := hx.out.cell 0 (u := .int .u8 0) rfl
      have f := hx.out.free 0
      have kl := hx.out.lt
      have hx2 : Hid (Bx w.heap.size #[.int .u8 50, .int .u8 54, .int .u8 49, .int .u8 50] 5 (wr.setCell ⟨w.heap.size, 0, none⟩ (.int .u8 50))) := hx.out.set 0 _
      have hb2 := Lib.hid (hb.out.setCell (p := ⟨w.heap.size, 0, none⟩) (Nat.le_refl _) (.int .u8 50))
      go_wp2
      go_roundw
      case rel => exact ⟨hb2, .inr (.inr (.inr (.inr ⟨rfl, rfl, hx2⟩)))⟩
      case measure => simp [intOf]
    · have k0 := hx.out.cell 0 (u := .int .u8 50) rfl
      have k1 := hx.out.cell 1 (u := .int .u8 54) rfl
      have k2 := hx.out.cell 2 (u := .int .u8 49) rfl
      have k3 := hx.out.cell 3 (u := .int .u8 50) rfl
      have hcv : (convert 42 9 (.slice (some ⟨w.heap.size, 0, none⟩) 4 4)).run Tryz.prog wr = .ok (.string (sb cyc26)) wr := by
        refine (run_convert_bytes_string wr _ _ _ _ _ _ Tryz.underlying42 Tryz.underlying5 Tryz.underlying9).trans ?_
        have hl := run_loadCells_list (P := Tryz.prog) (w := wr) ⟨w.heap.size, 0, none⟩ [.int .u8 50, .int .u8 54, .int .u8 49, .int .u8 50] (fun j v hv => by
          have hadd : (⟨w.heap.size, 0, none⟩ : Addr).add j = ⟨w.heap.size, j, none⟩ := by unfold Addr.add; split <;> simp_all
          rw [hadd]; exact hx.out.cell j (by simpa using hv))
        rw [run_bytesToString wr _ 4 4 [50, 54, 49, 50] hl]; rfl
      go_wp2
      go_ret
      exact ⟨rfl, hb.out⟩
theorem cycleText_26 (w : World) : Calls Tryz.prog 37 #[.int .i64 2612] w fun e w' => e = .returned (.tuple #[.string (sb cyc26), .int .i64 0]) ∧ Below w.heap.size w w' := by
  go_enter Tryz.func37, Tryz.ntmps37
  go_wp2_with fail
  refine (cycleDays_26 _).mono ?_
  rintro e w1 ⟨rfl, rfl⟩
  go_wp2_with fail
  refine (digits_26 _).mono ?_
  rintro e w1 ⟨rfl, hb⟩
  have HB := Lib.hid hb
  clear hb
  go_wp2
  go_ret2
  exact ⟨rfl, HB.out⟩
end Go.Proofs.YtakgcdefbbgdaaaGreatDoor
