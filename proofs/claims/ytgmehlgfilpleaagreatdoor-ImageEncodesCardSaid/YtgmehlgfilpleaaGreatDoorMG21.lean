/-
  Several texts as one.
-/
import Derived.Test.YtgmehlgfilpleaaGreatDoorPlnG
import Derived.Test.YtgmehlgfilpleaaGreatDoorMG18
import Derived.Test.YtgmehlgfilpleaaGreatDoorMG19
namespace Go.Proofs.YtgmehlgfilpleaaGreatDoor
open Go.RowKit
set_option linter.unusedVariables false
set_option linter.unusedSimpArgs false
/-- a world in which two boxes and a result of the call's own lie -/
def D3 (w T : World) : Prop := Below w.heap.size w T ∧ w.heap.size + 1 + 1 < T.heap.size ∧ Bx (w.heap.size + 1 + 1) #[.int .i64 0, .int .i64 0, .int .i64 0] 106 T
theorem D3.alloc {w T : World} (o : Obj) (h : D3 w T) : D3 w (T.alloc o) := ⟨h.1.alloc h.1.size o, by rw [World.size_alloc]; have := h.2.1; omega, h.2.2.via ((Below.refl _ _).alloc (Nat.le_refl _) o)⟩
theorem D3.setCell {w T : World} (q : Addr) (v : Value) (hq : w.heap.size + 1 + 1 < q.block) (h : D3 w T) : D3 w (T.setCell q v) :=
  ⟨h.1.setCell (by omega) v, by rw [World.size_setCell]; exact h.2.1, (heap_setCell_other T q _ v (by omega)).trans h.2.2⟩
theorem D3.via {w T wa : World} (hb : Below T.heap.size T wa) (h : D3 w T) : D3 w wa := ⟨Below.then_ h.1 hb, Nat.lt_of_lt_of_le h.2.1 hb.size, h.2.2.via hb⟩
theorem D3.drew {w T : World} (h : D3 w T) : D3 w T.drew := ⟨h.1.drew, h.2⟩
theorem s3_below {w : World} {x0 x1 y0 y1 : Option Value} {T wa : World} (hb : Below T.heap.size T wa) (d : D3 w T) (h : T.cell? ⟨w.heap.size, 0, none⟩ = x0 ∧ T.cell? ⟨w.heap.size, 1, none⟩ = x1 ∧ T.cell? ⟨w.heap.size + 1, 0, none⟩ = y0 ∧ T.cell? ⟨w.heap.size + 1, 1, none⟩ = y1) :
    wa.cell? ⟨w.heap.size, 0, none⟩ = x0 ∧ wa.cell? ⟨w.heap.size, 1, none⟩ = x1 ∧ wa.cell? ⟨w.heap.size + 1, 0, none⟩ = y0 ∧ wa.cell? ⟨w.heap.size + 1, 1, none⟩ = y1 :=
  have hs := d.2.1
  ⟨(hb.cell (p := ⟨w.heap.size, 0, none⟩) (by show w.heap.size < _; omega)).trans h.1, (hb.cell (p := ⟨w.heap.size, 1, none⟩) (by show w.heap.size < _; omega)).trans h.2.1, (hb.cell (p := ⟨w.heap.size + 1, 0, none⟩) (by show w.heap.size + 1 < _; omega)).trans h.2.2.1, (hb.cell (p := ⟨w.heap.size + 1, 1, none⟩) (by show w.heap.size + 1 < _; omega)).trans h.2.2.2⟩
theorem s3_alloc {w : World} {x0 x1 y0 y1 : Option Value} {T : World} (o : Obj) (d : D3 w T) (h : T.cell? ⟨w.heap.size, 0, none⟩ = x0 ∧ T.cell? ⟨w.heap.size, 1, none⟩ = x1 ∧ T.cell? ⟨w.heap.size + 1, 0, none⟩ = y0 ∧ T.cell? ⟨w.heap.size + 1, 1, none⟩ = y1) :
    (T.alloc o).cell? ⟨w.heap.size, 0, none⟩ = x0 ∧ (T.alloc o).cell? ⟨w.heap.size, 1, none⟩ = x1 ∧ (T.alloc o).cell? ⟨w.heap.size + 1, 0, none⟩ = y0 ∧ (T.alloc o).cell? ⟨w.heap.size + 1, 1, none⟩ = y1 := s3_below ((Below.refl _ T).alloc (Nat.le_refl _) o) d h
theorem new3_gt {w T : World} (d : D3 w T) : w.heap.size + 1 + 1 < T.heap.size := d.2.1
theorem new3_gt1 {w T : World} (d : D3 w T) : w.heap.size + 1 + 1 < T.heap.size + 1 := by have := d.2.1; omega
theorem s3_set {w : World} {x0 x1 y0 y1 : Option Value} {T : World} (q : Addr) (v : Value) (hs : w.heap.size + 1 + 1 < q.block) (h : T.cell? ⟨w.heap.size, 0, none⟩ = x0 ∧ T.cell? ⟨w.heap.size, 1, none⟩ = x1 ∧ T.cell? ⟨w.heap.size + 1, 0, none⟩ = y0 ∧ T.cell? ⟨w.heap.size + 1, 1, none⟩ = y1) :
    (T.setCell q v).cell? ⟨w.heap.size, 0, none⟩ = x0 ∧ (T.setCell q v).cell? ⟨w.heap.size, 1, none⟩ = x1 ∧ (T.setCell q v).cell? ⟨w.heap.size + 1, 0, none⟩ = y0 ∧ (T.setCell q v).cell? ⟨w.heap.size + 1, 1, none⟩ = y1 := ds_set q v (by omega) h
theorem s3_arm {w T wa : World} {x0 x1 y0 y1 : Option Value} (hb : Below T.heap.size T wa) (h : T.cell? ⟨w.heap.size, 0, none⟩ = x0 ∧ T.cell? ⟨w.heap.size, 1, none⟩ = x1 ∧ T.cell? ⟨w.heap.size + 1, 0, none⟩ = y0 ∧ T.cell? ⟨w.heap.size + 1, 1, none⟩ = y1) (d : D3 w T) :
    (wa.cell? ⟨w.heap.size, 0, none⟩ = x0 ∧ wa.cell? ⟨w.heap.size, 1, none⟩ = x1 ∧ wa.cell? ⟨w.heap.size + 1, 0, none⟩ = y0 ∧ wa.cell? ⟨w.heap.size + 1, 1, none⟩ = y1) ∧ D3 w wa :=
  ⟨s3_below hb d h, d.via hb⟩
set_option maxRecDepth 100000 in
set_option maxHeartbeats 8000000 in
theorem local_any (la lo ma mo : Int) (w : World) (h1 : vldB la lo = true) (h2 : vldB ma mo = true) : Calls Tryz.prog 143 #[.agg #[.int .i64 la, .int .i64 lo], .agg #[.int .i64 ma, .int .i64 mo]] w fun e w' =>
    e = .returned (vcV (locV la lo ma mo)) ∧ Below w.heap.size w w' := by
  have o1 := fun w => at_any la lo w h1
  have o2 := fun w => of_any ma mo w h2
  have K1 := east_ok lo
  have K2 := north_ok la lo
  have K3 := vec_ok la lo
  have K4 := vec_ok ma mo
  have P1 := fun W => sdot_any _ _ W K1 K4
  have P2 := fun W => sdot_any _ _ W K2 K4
  have P3 := fun W => sdot_any _ _ W K3 K4
  unfold frV at o1
  clear K1 K2 K3 K4
  unfold locV
  obtain ⟨E, hE⟩ : ∃ E, eastV lo = E := ⟨_, rfl⟩
  obtain ⟨N, hN⟩ : ∃ E, northV la lo = E := ⟨_, rfl⟩
  obtain ⟨U, hU⟩ : ∃ E, vecOf la lo = E := ⟨_, rfl⟩
  obtain ⟨T, hT⟩ : ∃ E, vecOf ma mo = E := ⟨_, rfl⟩
  rw [hE, hN, hU] at o1
  rw [hT] at o2
  rw [hE, hT] at P1
  rw [hN, hT] at P2
  rw [hU, hT] at P3
  rw [hE, hN, hU, hT]
  clear hE hN hU hT h1 h2
  obtain ⟨X, hX⟩ : ∃ x, rnd (E.dot T) = x := ⟨_, rfl⟩
  obtain ⟨Y, hY⟩ : ∃ x, rnd (N.dot T) = x := ⟨_, rfl⟩
  obtain ⟨Z, hZ⟩ : ∃ x, rnd (U.dot T) = x := ⟨_, rfl⟩
  rw [hX] at P1
  rw [hY] at P2
  rw [hZ] at P3
  rw [hX, hY, hZ]
  clear hX hY hZ
  obtain ⟨ex, ey, ez⟩ := E
  obtain ⟨nx, ny, nz⟩ := N
  obtain ⟨ux, uy, uz⟩ := U
  obtain ⟨tx, ty, tz⟩ := T
  unfold vcV at o2 P1 P2 P3
  unfold vcV
  simp only at o1 o2 P1 P2 P3 ⊢
  obtain ⟨w0, hw0⟩ : ∃ W, ((w.alloc (.cells #[.int .i64 la, .int .i64 lo] 23)).alloc (.cells #[.int .i64 ma, .int .i64 mo] 23)).alloc (.cells #[.int .i64 0, .int .i64 0, .int .i64 0] 106) = W := ⟨_, rfl⟩
  have D0 : D3 w w0 := by
    rw [← hw0]
    refine ⟨(((Below.refl _ _).alloc (Nat.le_refl _) _).alloc (by simp) _).alloc (by simp; omega) _, by simp, ?_⟩
    have h1 := Bx.last ((w.alloc (.cells #[.int .i64 la, .int .i64 lo] 23)).alloc (.cells #[.int .i64 ma, .int .i64 mo] 23)) #[.int .i64 0, .int .i64 0, .int .i64 0] 106
    rw [World.size_alloc, World.size_alloc] at h1
    exact h1
  have HS0 : w0.cell? ⟨w.heap.size, 0, none⟩ = some (.int .i64 la) ∧ w0.cell? ⟨w.heap.size, 1, none⟩ = some (.int .i64 lo) ∧ w0.cell? ⟨w.heap.size + 1, 0, none⟩ = some (.int .i64 ma) ∧ w0.cell? ⟨w.heap.size + 1, 1, none⟩ = some (.int .i64 mo) := by rw [← hw0]; simp [go_sem]
  have HS1 : w0.drew.cell? ⟨w.heap.size, 0, none⟩ = some (.int .i64 la) ∧ w0.drew.cell? ⟨w.heap.size, 1, none⟩ = some (.int .i64 lo) ∧ w0.drew.cell? ⟨w.heap.size + 1, 0, none⟩ = some (.int .i64 ma) ∧ w0.drew.cell? ⟨w.heap.size + 1, 1, none⟩ = some (.int .i64 mo) := HS0
  have D1 := D0.drew
  go_enter Tryz.func143, Tryz.ntmps143
  go_wp2_with fail
  try rw [hw0]
  clear hw0
  go_cut [5, 6] from 7 to 10 (fun a b wx => ∃ p q, a = .pointer (some ⟨p, 0, none⟩) ∧ b = .pointer (some ⟨q, 0, none⟩) ∧ Hid (D3 w wx) ∧ Hid ((wx.cell? ⟨p, 0, none⟩ = some (.int .i64 ex) ∧ wx.cell? ⟨p, 1, none⟩ = some (.int .i64 ey) ∧ wx.cell? ⟨p, 2, none⟩ = some (.int .i64 ez) ∧ wx.cell? ⟨p, 3, none⟩ = some (.int .i64 nx) ∧ wx.cell? ⟨p, 4, none⟩ = some (.int .i64 ny) ∧ wx.cell? ⟨p, 5, none⟩ = some (.int .i64 nz) ∧ wx.cell? ⟨p, 6, none⟩ = some (.int .i64 ux) ∧ wx.cell? ⟨p, 7, none⟩ = some (.int .i64 uy) ∧ wx.cell? ⟨p, 8, none⟩ = some (.int .i64 uz)) ∧ p < wx.heap.size) ∧ Hid ((wx.cell? ⟨q, 0, none⟩ = some (.int .i64 tx) ∧ wx.cell? ⟨q, 1, none⟩ = some (.int .i64 ty) ∧ wx.cell? ⟨q, 2, none⟩ = some (.int .i64 tz)) ∧ q < wx.heap.size))
  · clear P1 P2 P3
    go_region_held3 (fun wx => wx.cell? ⟨w.heap.size, 0, none⟩ = some (.int .i64 la) ∧ wx.cell? ⟨w.heap.size, 1, none⟩ = some (.int .i64 lo) ∧ wx.cell? ⟨w.heap.size + 1, 0, none⟩ = some (.int .i64 ma) ∧ wx.cell? ⟨w.heap.size + 1, 1, none⟩ = some (.int .i64 mo))
      (repeat (first
      | with_reducible assumption
      | with_reducible refine ds_drew ?_
      | with_reducible refine s3_set _ _ (by with_reducible first | exact new3_gt (by assumption) | exact new3_gt1 (by assumption)) ?_
      | with_reducible refine s3_alloc _ (by repeat (first | with_reducible assumption | with_reducible (first | refine D3.alloc _ ?_ | refine D3.drew ?_) | with_reducible refine D3.setCell _ _ (by with_reducible first | exact new3_gt (by assumption) | exact new3_gt1 (by assumption)) ?_)) ?_))
      (first
      | (go_at_call 215; with_reducible refine (o1 _).mono ?_; rintro e wa ⟨rfl, hb⟩; have hA := s3_arm hb (by with_reducible assumption) (by repeat (first | with_reducible assumption | with_reducible (first | refine D3.alloc _ ?_ | refine D3.drew ?_))); obtain ⟨hS, D0⟩ := hA;
         (first | (with_reducible have hz1 := Bx.via hb (Bx.grow (Bx.last _ _ _) _)) | (with_reducible have hz1 := Bx.via hb (Bx.drew (Bx.grow (Bx.last _ _ _) _))) | skip);
         (try (with_reducible have hz1 := Bx.via hb (Bx.grow hz2 _)));
         (try (with_reducible have hz1 := Bx.via hb hz1));
         (try (with_reducible have hz2 := Bx.via hb hz2));
         (first | (with_reducible have hz2 := Bx.via hb (Bx.last2 _ _ _ _)) | (with_reducible have hz2 := Bx.via hb (Bx.last _ _ _)) | (with_reducible have hz2 := Bx.via hb (Bx.drew (Bx.last2 _ _ _ _))) | (with_reducible have hz2 := Bx.via hb (Bx.drew (Bx.last _ _ _))) | skip);
         (try (first | (have hy := Bx.cells9 hz1; obtain ⟨⟨y0, y1, y2, y3, y4, y5, y6, y7, y8⟩, y9, ya, yb, yc, yd, ye, yf, yg, yh⟩ := hy) | (have hy := Bx.cells3 hz1; obtain ⟨⟨y0, y1, y2⟩, y3, y4, y5⟩ := hy)));
         (try (first | (have hy := Bx.cells9 hz2; obtain ⟨⟨x0, x1, x2, x3, x4, x5, x6, x7, x8⟩, x9, xa, xb, xc, xd, xe, xf, xg, xh⟩ := hy) | (have hy := Bx.cells3 hz2; obtain ⟨⟨x0, x1, x2⟩, x3, x4, x5⟩ := hy))); (try (have hl1 := Bx.lt hz1)); (try (have hl2 := Bx.lt hz2)); clear hb)
      | (go_at_call 216; with_reducible refine (o2 _).mono ?_; rintro e wa ⟨rfl, hb⟩; have hA := s3_arm hb (by with_reducible assumption) (by repeat (first | with_reducible assumption | with_reducible (first | refine D3.alloc _ ?_ | refine D3.drew ?_))); obtain ⟨hS, D0⟩ := hA;
         (first | (with_reducible have hz1 := Bx.via hb (Bx.grow (Bx.last _ _ _) _)) | (with_reducible have hz1 := Bx.via hb (Bx.drew (Bx.grow (Bx.last _ _ _) _))) | skip);
         (try (with_reducible have hz1 := Bx.via hb (Bx.grow hz2 _)));
         (try (with_reducible have hz1 := Bx.via hb hz1));
         (try (with_reducible have hz2 := Bx.via hb hz2));
         (first | (with_reducible have hz2 := Bx.via hb (Bx.last2 _ _ _ _)) | (with_reducible have hz2 := Bx.via hb (Bx.last _ _ _)) | (with_reducible have hz2 := Bx.via hb (Bx.drew (Bx.last2 _ _ _ _))) | (with_reducible have hz2 := Bx.via hb (Bx.drew (Bx.last _ _ _))) | skip);
         (try (first | (have hy := Bx.cells9 hz1; obtain ⟨⟨y0, y1, y2, y3, y4, y5, y6, y7, y8⟩, y9, ya, yb, yc, yd, ye, yf, yg, yh⟩ := hy) | (have hy := Bx.cells3 hz1; obtain ⟨⟨y0, y1, y2⟩, y3, y4, y5⟩ := hy)));
         (try (first | (have hy := Bx.cells9 hz2; obtain ⟨⟨x0, x1, x2, x3, x4, x5, x6, x7, x8⟩, x9, xa, xb, xc, xd, xe, xf, xg, xh⟩ := hy) | (have hy := Bx.cells3 hz2; obtain ⟨⟨x0, x1, x2⟩, x3, x4, x5⟩ := hy))); (try (have hl1 := Bx.lt hz1)); (try (have hl2 := Bx.lt hz2)); clear hb)
      | fail)
    all_goals go_wp2
    all_goals go_meet
    all_goals refine ⟨_, _, rfl, rfl, ?_, ?_, ?_⟩
    all_goals first
      | (show D3 w _; (repeat (first | with_reducible assumption | with_reducible (first | refine D3.alloc _ ?_ | refine D3.drew ?_) | with_reducible refine D3.setCell _ _ (by with_reducible first | exact new3_gt (by assumption) | exact new3_gt1 (by assumption)) ?_)); done)
      | (unfold Hid; refine ⟨⟨?_, ?_, ?_, ?_, ?_, ?_, ?_, ?_, ?_⟩, ?_⟩ <;> simp [go_sem, *] <;> omega)
      | (unfold Hid; refine ⟨⟨?_, ?_, ?_⟩, ?_⟩ <;> simp [go_sem, *] <;> omega)
  · obtain ⟨p, q, rfl, rfl, HD, HP, HQ⟩ := hcut
    clear o1 o2 HS0 HS1 D0 D1
    obtain ⟨⟨p0, p1, p2, p3, p4, p5, p6, p7, p8⟩, pl⟩ := HP.out
    obtain ⟨⟨q0, q1, q2⟩, ql⟩ := HQ.out
    obtain ⟨d0, d1, d2⟩ := HD.out
    have HB := Lib.hid d0
    have HR := Lib.hid d2
    have HT : Hid (∀ wb, Below wc.heap.size wc wb → (wb.cell? ⟨w.heap.size + 1 + 1, 0, none⟩ = some (.int .i64 0) ∧ wb.cell? ⟨w.heap.size + 1 + 1, 1, none⟩ = some (.int .i64 0) ∧ wb.cell? ⟨w.heap.size + 1 + 1, 2, none⟩ = some (.int .i64 0)) ∧ (wb.frozen? ⟨w.heap.size + 1 + 1, 0, none⟩ = false ∧ wb.frozen? ⟨w.heap.size + 1 + 1, 1, none⟩ = false ∧ wb.frozen? ⟨w.heap.size + 1 + 1, 2, none⟩ = false)) := fun wb hb => (d2.via hb).cells3
    have HU : Hid (∀ wb, Below wc.heap.size wc wb → (wb.cell? ⟨p, 0, none⟩ = some (.int .i64 ex) ∧ wb.cell? ⟨p, 1, none⟩ = some (.int .i64 ey) ∧ wb.cell? ⟨p, 2, none⟩ = some (.int .i64 ez) ∧ wb.cell? ⟨p, 3, none⟩ = some (.int .i64 nx) ∧ wb.cell? ⟨p, 4, none⟩ = some (.int .i64 ny) ∧ wb.cell? ⟨p, 5, none⟩ = some (.int .i64 nz) ∧ wb.cell? ⟨p, 6, none⟩ = some (.int .i64 ux) ∧ wb.cell? ⟨p, 7, none⟩ = some (.int .i64 uy) ∧ wb.cell? ⟨p, 8, none⟩ = some (.int .i64 uz)) ∧ (wb.cell? ⟨q, 0, none⟩ = some (.int .i64 tx) ∧ wb.cell? ⟨q, 1, none⟩ = some (.int .i64 ty) ∧ wb.cell? ⟨q, 2, none⟩ = some (.int .i64 tz))) := fun wb hb =>
      ⟨⟨(hb.cell (p := ⟨p, 0, none⟩) pl).trans p0, (hb.cell (p := ⟨p, 1, none⟩) pl).trans p1, (hb.cell (p := ⟨p, 2, none⟩) pl).trans p2, (hb.cell (p := ⟨p, 3, none⟩) pl).trans p3, (hb.cell (p := ⟨p, 4, none⟩) pl).trans p4, (hb.cell (p := ⟨p, 5, none⟩) pl).trans p5, (hb.cell (p := ⟨p, 6, none⟩) pl).trans p6, (hb.cell (p := ⟨p, 7, none⟩) pl).trans p7, (hb.cell (p := ⟨p, 8, none⟩) pl).trans p8⟩,
        (hb.cell (p := ⟨q, 0, none⟩) ql).trans q0, (hb.cell (p := ⟨q, 1, none⟩) ql).trans q1, (hb.cell (p := ⟨q, 2, none⟩) ql).trans q2⟩
    have HW : Hid (∀ wb, Below wc.heap.size wc wb → Bx (w.heap.size + 1 + 1) #[.int .i64 0, .int .i64 0, .int .i64 0] 106 wb ∧ Below w.heap.size w wb) := fun wb hb => ⟨d2.via hb, Below.then_ d0 hb⟩
    clear HD HP HQ pl ql d0 d1 d2
    go_wp2_with fail
    have u0 := fun pb : BelBy wc => (HU.out pb.x pb.h).1.1
    have u1 := fun pb : BelBy wc => (HU.out pb.x pb.h).1.2.1
    have u2 := fun pb : BelBy wc => (HU.out pb.x pb.h).1.2.2.1
    have u3 := fun pb : BelBy wc => (HU.out pb.x pb.h).1.2.2.2.1
    have u4 := fun pb : BelBy wc => (HU.out pb.x pb.h).1.2.2.2.2.1
    have u5 := fun pb : BelBy wc => (HU.out pb.x pb.h).1.2.2.2.2.2.1
    have u6 := fun pb : BelBy wc => (HU.out pb.x pb.h).1.2.2.2.2.2.2.1
    have u7 := fun pb : BelBy wc => (HU.out pb.x pb.h).1.2.2.2.2.2.2.2.1
    have u8 := fun pb : BelBy wc => (HU.out pb.x pb.h).1.2.2.2.2.2.2.2.2
    have v0 := fun pb : BelBy wc => (HU.out pb.x pb.h).2.1
    have v1 := fun pb : BelBy wc => (HU.out pb.x pb.h).2.2.1
    have v2 := fun pb : BelBy wc => (HU.out pb.x pb.h).2.2.2
    clear p0 p1 p2 p3 p4 p5 p6 p7 p8 q0 q1 q2
    refine wp_region_bel_tail 13 (by kernel_rfl) (by kernel_rfl) ?_
    simp only [List.take_succ_cons, List.take_zero, List.drop_succ_cons, List.drop_zero]
    repeat (quiet_step ((go_at_call 217; (first | with_reducible exact Calls.bel_of (P1 _) | with_reducible exact Calls.bel_of (P2 _) | with_reducible exact Calls.bel_of (P3 _)))))
    try refine wpQuiet_nil ?_
    rintro wz ⟨pb, rfl⟩
    obtain ⟨wa, hba⟩ := pb
    show wpList _ _ _ _ _ wa
    clear u0 u1 u2 u3 u4 u5 u6 u7 u8 v0 v1 v2
    obtain ⟨⟨r0, r1, r2⟩, r3, r4, r5⟩ := HT.out wa hba
    have HZ := Lib.hid (HW.out wa hba)
    clear hba
    have hx := Bx.set3 HZ.out.1 (.int .i64 X) (.int .i64 Y) (.int .i64 Z)
    have hbx := Lib.hid (bel_set3 HZ.out.2 (show w.heap.size ≤ w.heap.size + 1 + 1 by omega) (.int .i64 X) (.int .i64 Y) (.int .i64 Z))
    go_wp2
    obtain ⟨⟨z0, z1, z2⟩, _⟩ := hx.cells3
    refine bodyPost_ret (by simp [results, Tryz.results143, go_sem, z0, z1, z2]; try rfl) rfl ?_
    exact ⟨rfl, hbx.out⟩
set_option maxRecDepth 100000 in
set_option maxHeartbeats 4000000 in
theorem Local_any (la lo ma mo : Int) (w : World) (h1 : vldB la lo = true) (h2 : vldB ma mo = true) : Calls Tryz.prog 61 #[.agg #[.int .i64 la, .int .i64 lo], .agg #[.int .i64 ma, .int .i64 mo]] w fun e w' =>
    e = .returned (.tuple #[vcV (locV la lo ma mo), .int .i64 0]) ∧ Below w.heap.size w w' := by
  have hv := fun w => sValid_any la lo w
  rw [h1] at hv
  have hv2 := fun w => sValid_any ma mo w
  rw [h2] at hv2
  have lc := fun w => local_any la lo ma mo w h1 h2
  obtain ⟨V, hV⟩ : ∃ V, locV la lo ma mo = V := ⟨_, rfl⟩
  rw [hV] at lc ⊢
  obtain ⟨X, Y, Z⟩ := V
  unfold vcV at lc ⊢
  simp only at lc ⊢
  clear hV h1 h2
  obtain ⟨w0, hw0⟩ : ∃ W, ((w.alloc (.cells #[.int .i64 la, .int .i64 lo] 23)).alloc (.cells #[.int .i64 ma, .int .i64 mo] 23)).alloc (.cells #[.int .i64 0, .int .i64 0, .int .i64 0] 106) = W := ⟨_, rfl⟩
  have HF : Hid (∀ wa, Below w0.heap.size w0 wa → (wa.cell? ⟨w.heap.size, 0, none⟩ = some (.int .i64 la) ∧ wa.cell? ⟨w.heap.size, 1, none⟩ = some (.int .i64 lo) ∧ wa.cell? ⟨w.heap.size + 1, 0, none⟩ = some (.int .i64 ma) ∧ wa.cell? ⟨w.heap.size + 1, 1, none⟩ = some (.int .i64 mo)) ∧ D3 w wa) := by
    have D0 : D3 w w0 := by
      rw [← hw0]
      refine ⟨(((Below.refl _ _).alloc (Nat.le_refl _) _).alloc (by simp) _).alloc (by simp; omega) _, by simp, ?_⟩
      have h1 := Bx.last ((w.alloc (.cells #[.int .i64 la, .int .i64 lo] 23)).alloc (.cells #[.int .i64 ma, .int .i64 mo] 23)) #[.int .i64 0, .int .i64 0, .int .i64 0] 106
      rw [World.size_alloc, World.size_alloc] at h1
      exact h1
    have HS0 : w0.cell? ⟨w.heap.size, 0, none⟩ = some (.int .i64 la) ∧ w0.cell? ⟨w.heap.size, 1, none⟩ = some (.int .i64 lo) ∧ w0.cell? ⟨w.heap.size + 1, 0, none⟩ = some (.int .i64 ma) ∧ w0.cell? ⟨w.heap.size + 1, 1, none⟩ = some (.int .i64 mo) := by rw [← hw0]; simp [go_sem]
    exact fun wa hb => s3_arm hb HS0 D0
  obtain ⟨⟨c0, c1, c2, c3⟩, _⟩ := HF.out w0 (Below.refl _ _)
  go_enter Tryz.func61, Tryz.ntmps61
  go_wp2_with fail
  try rw [hw0]
  clear hw0
  refine (hv _).mono ?_
  rintro e w1 ⟨rfl, hb1⟩
  have HB1 := Lib.hid hb1
  obtain ⟨⟨c0, c1, c2, c3⟩, _⟩ := HF.out w1 hb1
  clear hb1
  go_wp2_with fail
  refine (hv2 _).mono ?_
  rintro e w2 ⟨rfl, hb2⟩
  have HB2 := Lib.hid (Below.then_ HB1.out hb2)
  obtain ⟨⟨c0, c1, c2, c3⟩, _⟩ := HF.out w2 HB2.out
  clear hb2 HB1
  go_wp2_with fail
  refine (lc _).mono ?_
  rintro e w3 ⟨rfl, hb3⟩
  have HB3 := Lib.hid (HF.out w3 (Below.then_ HB2.out hb3)).2
  clear hb3 HB2 c0 c1 c2 c3
  obtain ⟨d0, d1, d2⟩ := HB3.out
  have hx := Bx.set3 d2 (.int .i64 X) (.int .i64 Y) (.int .i64 Z)
  have hbx := Lib.hid (bel_set3 d0 (show w.heap.size ≤ w.heap.size + 1 + 1 by omega) (.int .i64 X) (.int .i64 Y) (.int .i64 Z))
  obtain ⟨⟨r0, r1, r2⟩, r3, r4, r5⟩ := d2.cells3
  clear d0 d1 d2
  go_wp2
  obtain ⟨⟨z0, z1, z2⟩, _⟩ := hx.cells3
  refine bodyPost_ret (v := .tuple #[.agg #[.int .i64 X, .int .i64 Y, .int .i64 Z], .int .i64 0]) (by simp [results, Tryz.results61, go_sem, z0, z1, z2]; try rfl) rfl ?_
  exact ⟨rfl, hbx.out⟩
theorem toE_org {la lo ma mo:Int} (h:orgB la lo=false):toE la lo ma mo=1:=by unfold toE;rw[if_pos (by simp[h])]
theorem toE_vld {la lo ma mo:Int} (h:orgB la lo=true) (h2:vldB ma mo=false):toE la lo ma mo=1:=by unfold toE;rw[if_pos (by simp[h2])]
theorem toE_low {la lo ma mo:Int} (h:orgB la lo=true) (h2:vldB ma mo=true) (h3:(locV la lo ma mo).z≤0):toE la lo ma mo=2:=by unfold toE;rw[if_neg (by simp[h,h2]),if_pos h3]
theorem toE_in {la lo ma mo:Int} (h:orgB la lo=true) (h2:vldB ma mo=true) (h3:¬(locV la lo ma mo).z≤0):toE la lo ma mo=if pntB (toX la lo ma mo) (toY la lo ma mo)=true then 0 else 2:=by unfold toE;rw[if_neg (by simp[h,h2]),if_neg h3]
theorem toP_ok {la lo ma mo:Int} (h:toE la lo ma mo=0):toP la lo ma mo=(toX la lo ma mo,toY la lo ma mo):=if_pos h
theorem toP_no {la lo ma mo:Int} (h:toE la lo ma mo≠0):toP la lo ma mo=(0,0):=if_neg h
theorem org_vld {la lo:Int} (h:orgB la lo=true):vldB la lo=true:=by unfold orgB at h;rw[Bool.and_eq_true] at h;exact h.1
def ToPost (la lo ma mo:Int) (w:World) (e:Ending) (w':World):Prop :=
 e=.returned (.tuple #[.agg #[.int .i64 (toP la lo ma mo).1,.int .i64 (toP la lo ma mo).2],.int .i64 (toE la lo ma mo)])∧Below w.heap.size w w'
theorem ToPost.no {la lo ma mo er:Int} {w w':World} (h:toE la lo ma mo=er) (h0:er≠0) (hb:Below w.heap.size w w'):ToPost la lo ma mo w (.returned (.tuple #[.agg #[.int .i64 0,.int .i64 0],.int .i64 er])) w':=by
 unfold ToPost;rw[toP_no (by rw[h];exact h0),h];exact⟨rfl,hb⟩
theorem ToPost.ok {la lo ma mo x y:Int} {w w':World} (h:toE la lo ma mo=0) (hx:toX la lo ma mo=x) (hy:toY la lo ma mo=y) (hb:Below w.heap.size w w'):ToPost la lo ma mo w (.returned (.tuple #[.agg #[.int .i64 x,.int .i64 y],.int .i64 0])) w':=by
 unfold ToPost;rw[toP_ok h,h,hx,hy];exact⟨rfl,hb⟩
set_option maxRecDepth 100000 in
set_option maxHeartbeats 8000000 in
theorem To_post (la lo ma mo:Int) (w:World):Calls Tryz.prog 12 #[.agg #[.int .i64 la,.int .i64 lo],.agg #[.int .i64 ma,.int .i64 mo]] w (ToPost la lo ma mo w):=by
 have hv:=fun w=>sValid_any ma mo w
 have io:=fun w=>isOrigin_any la lo w
 obtain⟨w0,hw0⟩:∃W,((w.alloc (.cells #[.int .i64 la,.int .i64 lo] 23)).alloc (.cells #[.int .i64 ma,.int .i64 mo] 23)).alloc (.cells #[.int .i64 0,.int .i64 0] 40)=W:=⟨_,rfl⟩
 have BX:Hid (∀wa,Below w0.heap.size w0 wa→(wa.cell? ⟨w.heap.size,0,none⟩=some (.int .i64 la)∧wa.cell? ⟨w.heap.size,1,none⟩=some (.int .i64 lo)∧wa.cell? ⟨w.heap.size+1,0,none⟩=some (.int .i64 ma)∧wa.cell? ⟨w.heap.size+1,1,none⟩=some (.int .i64 mo)) ∧
   (wa.cell? ⟨w.heap.size+1+1,0,none⟩=some (.int .i64 0)∧wa.cell? ⟨w.heap.size+1+1,1,none⟩=some (.int .i64 0)∧wa.frozen? ⟨w.heap.size+1+1,0,none⟩=false∧wa.frozen? ⟨w.heap.size+1+1,1,none⟩=false)∧Below w.heap.size w wa∧w.heap.size+1+1<wa.heap.size):=by
  have hb0:Below w.heap.size w w0:=by rw[←hw0];exact(((Below.refl _ _).alloc (Nat.le_refl _) _).alloc (by simp) _).alloc (by simp;omega) _
  have hc:(w0.cell? ⟨w.heap.size,0,none⟩=some (.int .i64 la)∧w0.cell? ⟨w.heap.size,1,none⟩=some (.int .i64 lo)∧w0.cell? ⟨w.heap.size+1,0,none⟩=some (.int .i64 ma)∧w0.cell? ⟨w.heap.size+1,1,none⟩=some (.int .i64 mo)) ∧
   (w0.cell? ⟨w.heap.size+1+1,0,none⟩=some (.int .i64 0)∧w0.cell? ⟨w.heap.size+1+1,1,none⟩=some (.int .i64 0)∧w0.frozen? ⟨w.heap.size+1+1,0,none⟩=false∧w0.frozen? ⟨w.heap.size+1+1,1,none⟩=false)∧w.heap.size+1+1<w0.heap.size:=by rw[←hw0];simp[go_sem]
  obtain⟨⟨a0,a1,a2,a3⟩,⟨b0,b1,b2,b3⟩,hl⟩:=hc
  intro wa hb
  have l0:w.heap.size<w0.heap.size:=by omega
  have l1:w.heap.size+1<w0.heap.size:=by omega
  exact⟨⟨(hb.cell (p:=⟨w.heap.size,0,none⟩) l0).trans a0,(hb.cell (p:=⟨w.heap.size,1,none⟩) l0).trans a1,(hb.cell (p:=⟨w.heap.size+1,0,none⟩) l1).trans a2,(hb.cell (p:=⟨w.heap.size+1,1,none⟩) l1).trans a3⟩,
   ⟨(hb.cell (p:=⟨w.heap.size+1+1,0,none⟩) hl).trans b0,(hb.cell (p:=⟨w.heap.size+1+1,1,none⟩) hl).trans b1,(hb.frozen (p:=⟨w.heap.size+1+1,0,none⟩) hl).trans b2,(hb.frozen (p:=⟨w.heap.size+1+1,1,none⟩) hl).trans b3⟩,Below.then_ hb0 hb,Nat.lt_of_lt_of_le hl hb.size⟩
 obtain⟨⟨c0,c1,c2,c3⟩,_,_,_⟩:=BX.out w0 (Below.refl _ _)
 have HN:=Lib.hid (fun(er:Int) (W:World) (h:toE la lo ma mo=er) (h0:er≠0) (hb:Below w.heap.size w W)=>ToPost.no (w:=w) (w':=W) h h0 hb)
 have HK:=Lib.hid (fun(x y:Int) (W:World) (h:toE la lo ma mo=0) (hx:toX la lo ma mo=x) (hy:toY la lo ma mo=y) (hb:Below w.heap.size w W)=>ToPost.ok (w:=w) (w':=W) h hx hy hb)
 have HO1:=Lib.hid (@toE_org la lo ma mo)
 have HO2:=Lib.hid (@toE_vld la lo ma mo)
 have HO3:=Lib.hid (@toE_low la lo ma mo)
 have HO4:=Lib.hid (@toE_in la lo ma mo)
 have HLC:=Lib.hid (fun w=>Local_any la lo ma mo w)
 have HOV:=Lib.hid (@org_vld la lo)
 have HBD:=Lib.hid (loc_bd la lo ma mo)
 have HTX:Hid (toX la lo ma mo=mdrZ 20626481 (locV la lo ma mo).x (locV la lo ma mo).z):=rfl
 have HTY:Hid (toY la lo ma mo=mdrZ 20626481 (locV la lo ma mo).y (locV la lo ma mo).z):=rfl
 obtain⟨X,hX⟩:∃x,toX la lo ma mo=x:=⟨_,rfl⟩
 obtain⟨Y,hY⟩:∃x,toY la lo ma mo=x:=⟨_,rfl⟩
 rw[hX] at HTX
 rw[hY] at HTY
 rw[hX,hY] at HO4
 have HX:=Lib.hid hX
 have HY:=Lib.hid hY
 obtain⟨ob,hob⟩:∃x,orgB la lo=x:=⟨_,rfl⟩
 obtain⟨vb,hvb⟩:∃x,vldB ma mo=x:=⟨_,rfl⟩
 obtain⟨V,hV⟩:∃x,locV la lo ma mo=x:=⟨_,rfl⟩
 rw[hob] at io HO1 HO2 HO3 HO4 HOV
 rw[hvb] at hv HO2 HO3 HO4 HLC
 rw[hV] at HO3 HO4 HLC HBD HTX HTY
 obtain⟨vx,vy,vz⟩:=V
 unfold vcV at HLC
 simp only at HO3 HO4 HLC HBD HTX HTY
 clear hob hvb hV hX hY
 go_enter Tryz.func12,Tryz.ntmps12
 go_wp2_with fail
 try rw[hw0]
 clear hw0
 refine(io _).mono ?_
 rintro e w1 ⟨rfl,hb1⟩
 have HB1:=Lib.hid hb1
 clear hb1 c0 c1 c2 c3
 cases ob with
 | false =>
  obtain⟨_,⟨r0,r1,r2,r3⟩,hbb,hll⟩:=BX.out w1 HB1.out
  have HE:Hid (Below w.heap.size w ((w1.setCell ⟨w.heap.size+1+1,0,none⟩ (.int .i64 0)).setCell ⟨w.heap.size+1+1,1,none⟩ (.int .i64 0))):=(hbb.setCell (by simp;omega) _).setCell (by simp;omega) _
  clear hbb
  go_wp2
  refine bodyPost_ret (v:=.tuple #[.agg #[.int .i64 0,.int .i64 0],.int .i64 1]) (by simp[results,Tryz.results12,go_sem,r0,r1];try rfl) rfl ?_
  exact HN.out 1 _ (HO1.out (by trivial)) (by decide) HE.out
 | true =>
  obtain⟨⟨c0,c1,c2,c3⟩,_,_,_⟩:=BX.out w1 HB1.out
  go_wp2_with fail
  refine(hv _).mono ?_
  rintro e w2 ⟨rfl,hb2⟩
  have HB2:=Lib.hid (Below.then_ HB1.out hb2)
  clear hb2 HB1 c0 c1 c2 c3
  cases vb with
  | false =>
   obtain⟨_,⟨r0,r1,r2,r3⟩,hbb,hll⟩:=BX.out w2 HB2.out
   have HE:Hid (Below w.heap.size w ((w2.setCell ⟨w.heap.size+1+1,0,none⟩ (.int .i64 0)).setCell ⟨w.heap.size+1+1,1,none⟩ (.int .i64 0))):=(hbb.setCell (by simp;omega) _).setCell (by simp;omega) _
   clear hbb
   go_wp2
   refine bodyPost_ret (v:=.tuple #[.agg #[.int .i64 0,.int .i64 0],.int .i64 1]) (by simp[results,Tryz.results12,go_sem,r0,r1];try rfl) rfl ?_
   exact HN.out 1 _ (HO2.out (by trivial) (by trivial)) (by decide) HE.out
  | true =>
   obtain⟨⟨c0,c1,c2,c3⟩,_,_,_⟩:=BX.out w2 HB2.out
   go_wp2_with fail
   refine(HLC.out _ (HOV.out (by trivial)) (by trivial)).mono ?_
   rintro e w3 ⟨rfl,hb3⟩
   have HB3:=Lib.hid (Below.then_ HB2.out hb3)
   clear hb3 HB2 c0 c1 c2 c3
   obtain⟨w4,hw4⟩:∃W,w3.alloc (.cells #[.int .i64 vx,.int .i64 vy,.int .i64 vz] 106)=W:=⟨_,rfl⟩
   have X4:Hid (Bx w3.heap.size #[.int .i64 vx,.int .i64 vy,.int .i64 vz] 106 w4):=by rw[←hw4];exact Bx.last w3 _ _
   have HB4:Hid (Below w0.heap.size w0 w4):=by rw[←hw4];exact HB3.out.alloc HB3.out.size _
   have HW4:=Lib.hid hw4
   clear hw4
   go_upto_region 4 with fail
   rw[HW4.out]
   clear HW4
   obtain⟨⟨x0,x1,x2⟩,_⟩:=X4.out.cells3
   have xl:=X4.out.lt
   by_cases hz:vz≤0
   ·obtain⟨_,⟨r0,r1,r2,r3⟩,hbb,hll⟩:=BX.out w4 HB4.out
    have HE:Hid (Below w.heap.size w ((w4.setCell ⟨w.heap.size+1+1,0,none⟩ (.int .i64 0)).setCell ⟨w.heap.size+1+1,1,none⟩ (.int .i64 0))):=(hbb.setCell (by simp;omega) _).setCell (by simp;omega) _
    have HZ:=Lib.hid hz
    clear hbb
    go_wp2
    refine bodyPost_ret (v:=.tuple #[.agg #[.int .i64 0,.int .i64 0],.int .i64 2]) (by simp[results,Tryz.results12,go_sem,r0,r1];try rfl) rfl ?_
    exact HN.out 2 _ (HO3.out (by trivial) (by trivial) HZ.out) (by decide) HE.out
   ·obtain⟨Z,hZ⟩:∃Z:Nat,vz=(Z:Int):=⟨vz.toNat,by omega⟩
    obtain⟨bd1,bd2,bd3⟩:=HBD.out
    have md1:=fun w=>mulDivRound_any vx Z w bd1.1 bd1.2 (by omega) (by omega)
    have md2:=fun w=>mulDivRound_any vy Z w bd2.1 bd2.2 (by omega) (by omega)
    have HZ:=Lib.hid (HO4.out (by trivial) (by trivial) (by first|exact hz|omega))
    rw[←hZ,←HTX.out] at md1
    rw[←hZ,←HTY.out] at md2
    clear hZ bd1 bd2 bd3
    go_wp2_with fail
    refine(md1 _).mono ?_
    rintro e w5 ⟨rfl,hb5⟩
    have HB5:=Lib.hid (Below.then_ HB4.out hb5)
    have X5:=Lib.hid (X4.out.via hb5)
    clear hb5 HB4 X4 x0 x1 x2 xl
    obtain⟨⟨x0,x1,x2⟩,_⟩:=X5.out.cells3
    have xl:=X5.out.lt
    go_wp2_with fail
    refine(md2 _).mono ?_
    rintro e w6 ⟨rfl,hb6⟩
    have HB6:=Lib.hid (Below.then_ HB5.out hb6)
    clear hb6 HB5 X5 x0 x1 x2 xl md1 md2
    obtain⟨w7,hw7⟩:∃W,w6.alloc (.cells #[.int .i64 X,.int .i64 Y] 40)=W:=⟨_,rfl⟩
    have X7:Hid (Bx w6.heap.size #[.int .i64 X,.int .i64 Y] 40 w7):=by rw[←hw7];exact Bx.last w6 _ _
    have HB7:Hid (Below w0.heap.size w0 w7):=by rw[←hw7];exact HB6.out.alloc HB6.out.size _
    have HW7:=Lib.hid hw7
    have pv:=fun w=>planeValid_any X Y w
    obtain⟨pb,hpb⟩:∃x,pntB X Y=x:=⟨_,rfl⟩
    rw[hpb] at pv HZ
    clear hw7 hpb
    go_wp2_with fail
    rw[HW7.out]
    clear HW7
    refine(pv _).mono ?_
    rintro e w8 ⟨rfl,hb8⟩
    have HB8:=Lib.hid (Below.then_ HB7.out hb8)
    have X8:=Lib.hid (X7.out.via hb8)
    clear hb8 HB7 X7
    obtain⟨_,⟨r0,r1,r2,r3⟩,hbb,hll⟩:=BX.out w8 HB8.out
    cases pb with
    | false =>
     have HE:Hid (Below w.heap.size w ((w8.setCell ⟨w.heap.size+1+1,0,none⟩ (.int .i64 0)).setCell ⟨w.heap.size+1+1,1,none⟩ (.int .i64 0))):=(hbb.setCell (by simp;omega) _).setCell (by simp;omega) _
     clear hbb
     go_wp2
     refine bodyPost_ret (v:=.tuple #[.agg #[.int .i64 0,.int .i64 0],.int .i64 2]) (by simp[results,Tryz.results12,go_sem,r0,r1];try rfl) rfl ?_
     exact HN.out 2 _ (by rw[HZ.out];rfl) (by decide) HE.out
    | true =>
     have x0:=X8.out.cell 0 (u:=.int .i64 X) rfl
     have x1:=X8.out.cell 1 (u:=.int .i64 Y) rfl
     have xl:=X8.out.lt
     have HE:Hid (Below w.heap.size w ((w8.setCell ⟨w.heap.size+1+1,0,none⟩ (.int .i64 X)).setCell ⟨w.heap.size+1+1,1,none⟩ (.int .i64 Y))):=(hbb.setCell (by simp;omega) _).setCell (by simp;omega) _
     clear hbb
     go_wp2
     refine bodyPost_ret (v:=.tuple #[.agg #[.int .i64 X,.int .i64 Y],.int .i64 0]) (by simp[results,Tryz.results12,go_sem,r0,r1];try rfl) rfl ?_
     exact HK.out X Y _ (by rw[HZ.out];rfl) HX.out HY.out HE.out
theorem To_any (la lo ma mo:Int) (w:World):Calls Tryz.prog 12 #[.agg #[.int .i64 la,.int .i64 lo],.agg #[.int .i64 ma,.int .i64 mo]] w fun e w' =>
  e=.returned (.tuple #[.agg #[.int .i64 (toP la lo ma mo).1,.int .i64 (toP la lo ma mo).2],.int .i64 (toE la lo ma mo)])∧Below w.heap.size w w':=To_post la lo ma mo w
end Go.Proofs.YtgmehlgfilpleaaGreatDoor
