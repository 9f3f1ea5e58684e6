/-
  Contracts: the unit vector of a valid position; both sides.
-/
import Derived.Test.YtgnnblkpjankgaaGreatDoorSphW
namespace Go.Proofs.YtgnnblkpjankgaaGreatDoor
open Go.RowKit
set_option linter.unusedVariables false
set_option linter.unusedSimpArgs false

theorem vld_bd {la lo : Int} (h : vldB la lo = true) : (-32400000 ≤ la ∧ la ≤ 32400000) ∧ -64800000 < lo ∧ lo ≤ 64800000 := by
  unfold vldB at h
  simp only [Bool.and_eq_true, decide_eq_true_eq] at h
  exact ⟨⟨h.1.1.1, h.1.1.2⟩, h.1.2, h.2⟩
theorem quiet0 {P : Program} {f : FuncId} {args : Array Value} {w : World} {v : Value} (h : Calls P f args w fun e w' => e = .returned v ∧ w = w') : Calls P f args w fun e w' => e = .returned v ∧ ∃ m, w' = w.drewN m :=
  h.mono fun _ _ ⟨h1, h2⟩ => ⟨h1, 0, by rw [← h2]; rfl⟩
theorem still0 {P : Program} {f : FuncId} {args : Array Value} {w : World} {v : Value} (h : Calls P f args w fun e w' => e = .returned v ∧ w = w') : Calls P f args w fun e w' => e = .returned v ∧ w' = w := h.mono fun _ _ ⟨h1, h2⟩ => ⟨h1, h2.symm⟩
theorem set3_cells {W : World} {b : Nat} {x y z X Y Z : Value} (h0 : W.cell? ⟨b, 0, none⟩ = some x) (h1 : W.cell? ⟨b, 1, none⟩ = some y) (h2 : W.cell? ⟨b, 2, none⟩ = some z) :
    let W' := ((W.setCell ⟨b, 0, none⟩ X).setCell ⟨b, 1, none⟩ Y).setCell ⟨b, 2, none⟩ Z
    W'.cell? ⟨b, 0, none⟩ = some X ∧ W'.cell? ⟨b, 1, none⟩ = some Y ∧ W'.cell? ⟨b, 2, none⟩ = some Z := by
  refine ⟨?_, ?_, ?_⟩
  · rw [World.cell?_setCell_other _ _ _ _ (by simp), World.cell?_setCell_other _ _ _ _ (by simp)]
    exact World.cell?_setCell_same _ _ _ h0
  · rw [World.cell?_setCell_other _ _ _ _ (by simp)]
    exact World.cell?_setCell_same _ _ _ ((World.cell?_setCell_other _ _ _ _ (by simp)).trans h1)
  · exact World.cell?_setCell_same _ _ _ ((World.cell?_setCell_other _ _ _ _ (by simp)).trans ((World.cell?_setCell_other _ _ _ _ (by simp)).trans h2))
set_option maxRecDepth 100000 in
set_option maxHeartbeats 4000000 in
theorem of_any (la lo : Int) (w : World) (h : vldB la lo = true) :
    Calls Tryz.prog 41 #[.agg #[.int .i64 la, .int .i64 lo]] w fun e w' => e = .returned (vcV (vecOf la lo)) ∧ Below w.heap.size w w' := by
  have hb := vld_bd h
  have p1 := prod_bd _ _ (cosZ_bd la) (cosZ_bd lo)
  have p2 := prod_bd _ _ (cosZ_bd la) (sinZ_bd lo)
  have HV : Hid (vcV (vecOf la lo) = .agg #[.int .i64 (rnd (cosZ la * cosZ lo)), .int .i64 (rnd (cosZ la * sinZ lo)), .int .i64 (sinZ la)]) := rfl
  have t1 := fun w => tCos_any la w (by omega) (by omega)
  have t2 := fun w => tCos_any lo w (by omega) (by omega)
  have t3 := fun w => tSin_any la w (by omega) (by omega)
  have t4 := fun w => tSin_any lo w (by omega) (by omega)
  have r1 := fun w => sround_any (cosZ la * cosZ lo) w (by omega) (by omega)
  have r2 := fun w => sround_any (cosZ la * sinZ lo) w (by omega) (by omega)
  have hw1 : IntKind.i64.wrap (cosZ la * cosZ lo) = cosZ la * cosZ lo := by rw [IntKind.wrap_i64]; omega
  have hw2 : IntKind.i64.wrap (cosZ la * sinZ lo) = cosZ la * sinZ lo := by rw [IntKind.wrap_i64]; omega
  rw [HV.out]
  obtain ⟨cl, hcl⟩ : ∃ c, cosZ la = c := ⟨_, rfl⟩
  obtain ⟨co, hco⟩ : ∃ c, cosZ lo = c := ⟨_, rfl⟩
  obtain ⟨sl, hsl⟩ : ∃ c, sinZ la = c := ⟨_, rfl⟩
  obtain ⟨so, hso⟩ : ∃ c, sinZ lo = c := ⟨_, rfl⟩
  rw [hcl, hco] at p1 r1 hw1
  rw [hcl, hso] at p2 r2 hw2
  rw [hcl] at t1
  rw [hco] at t2
  rw [hsl] at t3
  rw [hso] at t4
  rw [hcl, hco, hsl, hso]
  clear hcl hco hsl hso HV h hb
  obtain ⟨W2, hW2⟩ : ∃ W2, (w.alloc (.cells #[.int .i64 la, .int .i64 lo] 51)).alloc (.cells #[.int .i64 0, .int .i64 0, .int .i64 0] 104) = W2 := ⟨_, rfl⟩
  have HB : Hid (Below w.heap.size w W2) := by rw [← hW2]; exact ((Below.refl _ _).alloc (Nat.le_refl _) _).alloc (by simp) _
  have c0 : W2.cell? ⟨w.heap.size, 0, none⟩ = some (.int .i64 la) := by rw [← hW2]; simp [go_sem]
  have c1 : W2.cell? ⟨w.heap.size, 1, none⟩ = some (.int .i64 lo) := by rw [← hW2]; simp [go_sem]
  have d0 : W2.cell? ⟨w.heap.size + 1, 0, none⟩ = some (.int .i64 0) := by rw [← hW2]; simp [go_sem]
  have d1 : W2.cell? ⟨w.heap.size + 1, 1, none⟩ = some (.int .i64 0) := by rw [← hW2]; simp [go_sem]
  have d2 : W2.cell? ⟨w.heap.size + 1, 2, none⟩ = some (.int .i64 0) := by rw [← hW2]; simp [go_sem]
  have f0 : W2.frozen? ⟨w.heap.size + 1, 0, none⟩ = false := by rw [← hW2]; simp [go_sem]
  have f1 : W2.frozen? ⟨w.heap.size + 1, 1, none⟩ = false := by rw [← hW2]; simp [go_sem]
  have f2 : W2.frozen? ⟨w.heap.size + 1, 2, none⟩ = false := by rw [← hW2]; simp [go_sem]
  have s2 := fun W => still0 (t2 W)
  have s3 := fun W => still0 (t3 W)
  have s4 := fun W => still0 (t4 W)
  have q1 := fun W => still0 (r1 W)
  have q2 := fun W => still0 (r2 W)
  go_enter Tryz.func41, Tryz.ntmps41
  go_wp2_with fail
  refine (t1 _).mono ?_
  rintro e w1 ⟨rfl, rfl⟩
  go_wp2_with fail
  try rw [hW2]
  have e0 : W2.drew.cell? ⟨w.heap.size, 0, none⟩ = some (.int .i64 la) := c0
  have e1 : W2.drew.cell? ⟨w.heap.size, 1, none⟩ = some (.int .i64 lo) := c1
  obtain ⟨W3, hW3⟩ : ∃ W3, W2.drew = W3 := ⟨_, rfl⟩
  rw [hW3] at e0 e1
  refine wp_region_still_tail 16 (by kernel_rfl) (by kernel_rfl) ?_
  simp only [List.take_succ_cons, List.take_zero, List.drop_succ_cons, List.drop_zero]
  change wpStill _ _ W2.drew _ _ _
  rw [hW3]
  repeat still_step
  still_call (s2 _)
  repeat still_step
  still_call (q1 _)
  repeat still_step
  still_call (s4 _)
  repeat still_step
  still_call (q2 _)
  repeat still_step
  still_call (s3 _)
  repeat still_step
  refine wpStill_nil ?_
  change wpList _ _ _ _ _ W2.drew
  have g0 : W2.drew.cell? ⟨w.heap.size + 1, 0, none⟩ = some (.int .i64 0) := d0
  have g1 : W2.drew.cell? ⟨w.heap.size + 1, 1, none⟩ = some (.int .i64 0) := d1
  have g2 : W2.drew.cell? ⟨w.heap.size + 1, 2, none⟩ = some (.int .i64 0) := d2
  have k0 : W2.drew.frozen? ⟨w.heap.size + 1, 0, none⟩ = false := f0
  have k1 : W2.drew.frozen? ⟨w.heap.size + 1, 1, none⟩ = false := f1
  have k2 : W2.drew.frozen? ⟨w.heap.size + 1, 2, none⟩ = false := f2
  have HBd : Hid (Below w.heap.size w W2.drew) := HB.out.drew
  clear hW2 c0 c1 d0 d1 d2 f0 f1 f2 hW3 HB
  generalize W2.drew = W4 at *
  go_wp2
  have HB5 : Hid (Below w.heap.size w (((W4.setCell ⟨w.heap.size + 1, 0, none⟩ (.int .i64 (rnd (cl * co)))).setCell ⟨w.heap.size + 1, 1, none⟩ (.int .i64 (rnd (cl * so)))).setCell ⟨w.heap.size + 1, 2, none⟩ (.int .i64 sl))) :=
    ((HBd.out.setCell (by simp) _).setCell (by simp) _).setCell (by simp) _
  obtain ⟨x0, x1, x2⟩ := set3_cells (X := .int .i64 (rnd (cl * co))) (Y := .int .i64 (rnd (cl * so))) (Z := .int .i64 sl) g0 g1 g2
  generalize ((W4.setCell ⟨w.heap.size + 1, 0, none⟩ (.int .i64 (rnd (cl * co)))).setCell ⟨w.heap.size + 1, 1, none⟩ (.int .i64 (rnd (cl * so)))).setCell ⟨w.heap.size + 1, 2, none⟩ (.int .i64 sl) = W5 at HB5 x0 x1 x2 ⊢
  refine bodyPost_ret (by simp [results, Tryz.results41, go_sem, x0, x1, x2]; try rfl) rfl ?_
  exact ⟨rfl, HB5.out⟩
set_option maxRecDepth 100000 in
set_option maxHeartbeats 4000000 in
theorem rOf_ok (la lo : Int) (w : World) (h : vldB la lo = true) :
    Calls Tryz.prog 77 #[.agg #[.int .i64 la, .int .i64 lo]] w fun e w' => e = .returned (.tuple #[vcV (vecOf la lo), .int .i64 0]) ∧ Below w.heap.size w w' := by
  have hb := vld_bd h
  have p1 := prod_bd _ _ (cosZ_bd la) (cosZ_bd lo)
  have p2 := prod_bd _ _ (cosZ_bd la) (sinZ_bd lo)
  have HV : Hid (vcV (vecOf la lo) = .agg #[.int .i64 (rnd (cosZ la * cosZ lo)), .int .i64 (rnd (cosZ la * sinZ lo)), .int .i64 (sinZ la)]) := rfl
  have t1 := fun w => rtCos_any la w (by omega) (by omega)
  have t2 := fun w => rtCos_any lo w (by omega) (by omega)
  have t3 := fun w => rtSin_any la w (by omega) (by omega)
  have t4 := fun w => rtSin_any lo w (by omega) (by omega)
  have r1 := fun w => rround_any (cosZ la * cosZ lo) w (by omega) (by omega)
  have r2 := fun w => rround_any (cosZ la * sinZ lo) w (by omega) (by omega)
  have hw1 : IntKind.i64.wrap (cosZ la * cosZ lo) = cosZ la * cosZ lo := by rw [IntKind.wrap_i64]; omega
  have hw2 : IntKind.i64.wrap (cosZ la * sinZ lo) = cosZ la * sinZ lo := by rw [IntKind.wrap_i64]; omega
  have hv := fun w => rsValid_any la lo w
  rw [HV.out]
  rw [h] at hv
  obtain ⟨cl, hcl⟩ : ∃ c, cosZ la = c := ⟨_, rfl⟩
  obtain ⟨co, hco⟩ : ∃ c, cosZ lo = c := ⟨_, rfl⟩
  obtain ⟨sl, hsl⟩ : ∃ c, sinZ la = c := ⟨_, rfl⟩
  obtain ⟨so, hso⟩ : ∃ c, sinZ lo = c := ⟨_, rfl⟩
  rw [hcl, hco] at p1 r1 hw1
  rw [hcl, hso] at p2 r2 hw2
  rw [hcl] at t1
  rw [hco] at t2
  rw [hsl] at t3
  rw [hso] at t4
  rw [hcl, hco, hsl, hso]
  clear hcl hco hsl hso HV h hb
  obtain ⟨W2, hW2⟩ : ∃ W2, (w.alloc (.cells #[.int .i64 la, .int .i64 lo] 51)).alloc (.cells #[.int .i64 0, .int .i64 0, .int .i64 0] 104) = W2 := ⟨_, rfl⟩
  have HB : Hid (Below w.heap.size w W2) := by rw [← hW2]; exact ((Below.refl _ _).alloc (Nat.le_refl _) _).alloc (by simp) _
  have HC : Hid (W2.cell? ⟨w.heap.size, 0, none⟩ = some (.int .i64 la) ∧ W2.cell? ⟨w.heap.size, 1, none⟩ = some (.int .i64 lo) ∧
      W2.cell? ⟨w.heap.size + 1, 0, none⟩ = some (.int .i64 0) ∧ W2.cell? ⟨w.heap.size + 1, 1, none⟩ = some (.int .i64 0) ∧ W2.cell? ⟨w.heap.size + 1, 2, none⟩ = some (.int .i64 0) ∧
      W2.frozen? ⟨w.heap.size + 1, 0, none⟩ = false ∧ W2.frozen? ⟨w.heap.size + 1, 1, none⟩ = false ∧ W2.frozen? ⟨w.heap.size + 1, 2, none⟩ = false ∧ w.heap.size + 1 < W2.heap.size) := by rw [← hW2]; unfold Hid; simp [go_sem]
  have c0 := HC.out.1
  have c1 := HC.out.2.1
  have s2 := fun W => still0 (t2 W)
  have s3 := fun W => still0 (t3 W)
  have s4 := fun W => still0 (t4 W)
  have q1 := fun W => still0 (r1 W)
  have q2 := fun W => still0 (r2 W)
  go_enter Tryz.func77, Tryz.ntmps77
  go_wp2_with fail
  try rw [hW2]
  refine (hv _).mono ?_
  rintro e w1 ⟨rfl, hbv⟩
  have HBV : Hid (Below w.heap.size w w1) := HB.out.trans (hbv.mono HB.out.size)
  have HC1 : Hid (w1.cell? ⟨w.heap.size, 0, none⟩ = some (.int .i64 la) ∧ w1.cell? ⟨w.heap.size, 1, none⟩ = some (.int .i64 lo) ∧
      w1.cell? ⟨w.heap.size + 1, 0, none⟩ = some (.int .i64 0) ∧ w1.cell? ⟨w.heap.size + 1, 1, none⟩ = some (.int .i64 0) ∧ w1.cell? ⟨w.heap.size + 1, 2, none⟩ = some (.int .i64 0) ∧
      w1.frozen? ⟨w.heap.size + 1, 0, none⟩ = false ∧ w1.frozen? ⟨w.heap.size + 1, 1, none⟩ = false ∧ w1.frozen? ⟨w.heap.size + 1, 2, none⟩ = false) := by
    obtain ⟨x0, x1, x2, x3, x4, x5, x6, x7, x8⟩ := HC.out
    have k0 : ∀ j, w1.cell? ⟨w.heap.size, j, none⟩ = W2.cell? ⟨w.heap.size, j, none⟩ := fun j => hbv.cell (p := ⟨w.heap.size, j, none⟩) (by show w.heap.size < _; omega)
    have k1 : ∀ j, w1.cell? ⟨w.heap.size + 1, j, none⟩ = W2.cell? ⟨w.heap.size + 1, j, none⟩ := fun j => hbv.cell (p := ⟨w.heap.size + 1, j, none⟩) x8
    have k2 : ∀ j, w1.frozen? ⟨w.heap.size + 1, j, none⟩ = W2.frozen? ⟨w.heap.size + 1, j, none⟩ := fun j => hbv.frozen (p := ⟨w.heap.size + 1, j, none⟩) x8
    exact ⟨(k0 _).trans x0, (k0 _).trans x1, (k1 _).trans x2, (k1 _).trans x3, (k1 _).trans x4, (k2 _).trans x5, (k2 _).trans x6, (k2 _).trans x7⟩
  clear hbv HC HB c0 c1 hW2
  have c0 := HC1.out.1
  have c1 := HC1.out.2.1
  go_wp2_with fail
  refine (t1 _).mono ?_
  rintro e w1 ⟨rfl, rfl⟩
  go_wp2_with fail
  have e0 : w1.drew.cell? ⟨w.heap.size, 0, none⟩ = some (.int .i64 la) := c0
  have e1 : w1.drew.cell? ⟨w.heap.size, 1, none⟩ = some (.int .i64 lo) := c1
  obtain ⟨W3, hW3⟩ : ∃ W3, w1.drew = W3 := ⟨_, rfl⟩
  rw [hW3] at e0 e1
  refine wp_region_still_tail 16 (by kernel_rfl) (by kernel_rfl) ?_
  simp only [List.take_succ_cons, List.take_zero, List.drop_succ_cons, List.drop_zero]
  change wpStill _ _ w1.drew _ _ _
  rw [hW3]
  repeat still_step
  still_call (s2 _)
  repeat still_step
  still_call (q1 _)
  repeat still_step
  still_call (s4 _)
  repeat still_step
  still_call (q2 _)
  repeat still_step
  still_call (s3 _)
  repeat still_step
  refine wpStill_nil ?_
  change wpList _ _ _ _ _ w1.drew
  have g0 : w1.drew.cell? ⟨w.heap.size + 1, 0, none⟩ = some (.int .i64 0) := HC1.out.2.2.1
  have g1 : w1.drew.cell? ⟨w.heap.size + 1, 1, none⟩ = some (.int .i64 0) := HC1.out.2.2.2.1
  have g2 : w1.drew.cell? ⟨w.heap.size + 1, 2, none⟩ = some (.int .i64 0) := HC1.out.2.2.2.2.1
  have k0 : w1.drew.frozen? ⟨w.heap.size + 1, 0, none⟩ = false := HC1.out.2.2.2.2.2.1
  have k1 : w1.drew.frozen? ⟨w.heap.size + 1, 1, none⟩ = false := HC1.out.2.2.2.2.2.2.1
  have k2 : w1.drew.frozen? ⟨w.heap.size + 1, 2, none⟩ = false := HC1.out.2.2.2.2.2.2.2
  have HBd : Hid (Below w.heap.size w w1.drew) := HBV.out.drew
  clear c0 c1 hW3 HBV HC1
  generalize w1.drew = W4 at *
  go_wp2
  have HB5 : Hid (Below w.heap.size w (((W4.setCell ⟨w.heap.size + 1, 0, none⟩ (.int .i64 (rnd (cl * co)))).setCell ⟨w.heap.size + 1, 1, none⟩ (.int .i64 (rnd (cl * so)))).setCell ⟨w.heap.size + 1, 2, none⟩ (.int .i64 sl))) :=
    ((HBd.out.setCell (by simp) _).setCell (by simp) _).setCell (by simp) _
  obtain ⟨x0, x1, x2⟩ := set3_cells (X := .int .i64 (rnd (cl * co))) (Y := .int .i64 (rnd (cl * so))) (Z := .int .i64 sl) g0 g1 g2
  generalize ((W4.setCell ⟨w.heap.size + 1, 0, none⟩ (.int .i64 (rnd (cl * co)))).setCell ⟨w.heap.size + 1, 1, none⟩ (.int .i64 (rnd (cl * so)))).setCell ⟨w.heap.size + 1, 2, none⟩ (.int .i64 sl) = W5 at HB5 x0 x1 x2 ⊢
  refine bodyPost_ret (by simp [results, Tryz.results77, go_sem, x0, x1, x2]; try rfl) rfl ?_
  exact ⟨rfl, HB5.out⟩
set_option maxRecDepth 100000 in
set_option maxHeartbeats 4000000 in
theorem rOf_bad (la lo : Int) (w : World) (h : vldB la lo = false) :
    Calls Tryz.prog 77 #[.agg #[.int .i64 la, .int .i64 lo]] w fun e w' => e = .returned (.tuple #[vcV ⟨0, 0, 0⟩, .int .i64 1]) ∧ Below w.heap.size w w' := by
  have hv := fun w => rsValid_any la lo w
  rw [h] at hv
  show Calls _ _ _ _ fun e w' => e = .returned (.tuple #[.agg #[.int .i64 0, .int .i64 0, .int .i64 0], .int .i64 1]) ∧ Below w.heap.size w w'
  obtain ⟨W2, hW2⟩ : ∃ W2, (w.alloc (.cells #[.int .i64 la, .int .i64 lo] 51)).alloc (.cells #[.int .i64 0, .int .i64 0, .int .i64 0] 104) = W2 := ⟨_, rfl⟩
  have HB : Hid (Below w.heap.size w W2) := by rw [← hW2]; exact ((Below.refl _ _).alloc (Nat.le_refl _) _).alloc (by simp) _
  have HC : Hid (W2.cell? ⟨w.heap.size, 0, none⟩ = some (.int .i64 la) ∧ W2.cell? ⟨w.heap.size, 1, none⟩ = some (.int .i64 lo) ∧
      W2.cell? ⟨w.heap.size + 1, 0, none⟩ = some (.int .i64 0) ∧ W2.cell? ⟨w.heap.size + 1, 1, none⟩ = some (.int .i64 0) ∧ W2.cell? ⟨w.heap.size + 1, 2, none⟩ = some (.int .i64 0) ∧
      W2.frozen? ⟨w.heap.size + 1, 0, none⟩ = false ∧ W2.frozen? ⟨w.heap.size + 1, 1, none⟩ = false ∧ W2.frozen? ⟨w.heap.size + 1, 2, none⟩ = false ∧ w.heap.size + 1 < W2.heap.size) := by rw [← hW2]; unfold Hid; simp [go_sem]
  have c0 := HC.out.1
  have c1 := HC.out.2.1
  clear h
  go_enter Tryz.func77, Tryz.ntmps77
  go_wp2_with fail
  try rw [hW2]
  refine (hv _).mono ?_
  rintro e w1 ⟨rfl, hbv⟩
  have HBV : Hid (Below w.heap.size w w1) := HB.out.trans (hbv.mono HB.out.size)
  have HC1 : Hid (w1.cell? ⟨w.heap.size + 1, 0, none⟩ = some (.int .i64 0) ∧ w1.cell? ⟨w.heap.size + 1, 1, none⟩ = some (.int .i64 0) ∧ w1.cell? ⟨w.heap.size + 1, 2, none⟩ = some (.int .i64 0) ∧
      w1.frozen? ⟨w.heap.size + 1, 0, none⟩ = false ∧ w1.frozen? ⟨w.heap.size + 1, 1, none⟩ = false ∧ w1.frozen? ⟨w.heap.size + 1, 2, none⟩ = false) := by
    obtain ⟨x0, x1, x2, x3, x4, x5, x6, x7, x8⟩ := HC.out
    have k1 : ∀ j, w1.cell? ⟨w.heap.size + 1, j, none⟩ = W2.cell? ⟨w.heap.size + 1, j, none⟩ := fun j => hbv.cell (p := ⟨w.heap.size + 1, j, none⟩) x8
    have k2 : ∀ j, w1.frozen? ⟨w.heap.size + 1, j, none⟩ = W2.frozen? ⟨w.heap.size + 1, j, none⟩ := fun j => hbv.frozen (p := ⟨w.heap.size + 1, j, none⟩) x8
    exact ⟨(k1 _).trans x2, (k1 _).trans x3, (k1 _).trans x4, (k2 _).trans x5, (k2 _).trans x6, (k2 _).trans x7⟩
  clear hbv HC HB c0 c1 hW2
  obtain ⟨g0, g1, g2, k0, k1, k2⟩ := HC1.out
  clear HC1
  go_wp2
  have HB5 : Hid (Below w.heap.size w (((w1.setCell ⟨w.heap.size + 1, 0, none⟩ (.int .i64 0)).setCell ⟨w.heap.size + 1, 1, none⟩ (.int .i64 0)).setCell ⟨w.heap.size + 1, 2, none⟩ (.int .i64 0))) :=
    ((HBV.out.setCell (by simp) _).setCell (by simp) _).setCell (by simp) _
  obtain ⟨x0, x1, x2⟩ := set3_cells (X := .int .i64 0) (Y := .int .i64 0) (Z := .int .i64 0) g0 g1 g2
  generalize ((w1.setCell ⟨w.heap.size + 1, 0, none⟩ (.int .i64 0)).setCell ⟨w.heap.size + 1, 1, none⟩ (.int .i64 0)).setCell ⟨w.heap.size + 1, 2, none⟩ (.int .i64 0) = W5 at HB5 x0 x1 x2 ⊢
  refine bodyPost_ret (by simp [results, Tryz.results77, go_sem, x0, x1, x2]; try rfl) rfl ?_
  exact ⟨rfl, HB5.out⟩
end Go.Proofs.YtgnnblkpjankgaaGreatDoor
