/-
  navdb.Fix and navdb.Point at a database in memory.
-/
import Derived.Test.YtgmehlgfilpleaaGreatDoorCkP
namespace Go.Proofs.YtgmehlgfilpleaaGreatDoor
open Go.RowKit Go.Lib Go.Sort
set_option linter.unusedVariables false
set_option linter.unusedSimpArgs false
def fxA (f : Fx) : Array Value := #[.string (sb f.id), .string (sb f.rg), .int .u8 (f.kd : Int), .int .i64 f.lat, .int .i64 f.lon, .int .i64 f.el, .int .i64 f.ra]
/-- what navdb.Fix hands back -/
def NfPost (o : Option Fx) (w : World) (e : Ending) (w' : World) : Prop :=
  e = .returned (.tuple #[.agg (fxA (o.getD fx0)), .int .i64 (if o.isSome then 0 else 6)]) ∧ Below w.heap.size w w'
theorem NfPost.some {o : Option Fx} {w w' : World} {p : Fx} (h : o = some p) (hb : Below w.heap.size w w') :
    NfPost o w (.returned (.tuple #[.agg #[.string (sb p.id), .string (sb p.rg), .int .u8 (p.kd : Int), .int .i64 p.lat, .int .i64 p.lon, .int .i64 p.el, .int .i64 p.ra], .int .i64 0])) w' := by subst h; exact ⟨rfl, hb⟩
theorem NfPost.none {o : Option Fx} {w w' : World} (h : o = none) (hb : Below w.heap.size w w') :
    NfPost o w (.returned (.tuple #[.agg #[.string ⟨#[]⟩, .string ⟨#[]⟩, .int .u8 0, .int .i64 0, .int .i64 0, .int .i64 0, .int .i64 0], .int .i64 6])) w' := by subst h; exact ⟨rfl, hb⟩
set_option maxRecDepth 100000 in
set_option maxHeartbeats 4000000 in
theorem nfix_any (h : ImHd) (f a p : Value) (l : List Fx) (t : ByteArray) (w : World) (hf : FxsR w f l) (hz : SzL l) (hN : l.length ≤ 1000000000000) :
    Calls Tryz.prog 18 #[.agg (dbA h f a p), .string t] w (NfPost (findL l (bl t)) w) := by
  unfold dbA
  obtain ⟨w1, hw1⟩ : ∃ W, (w.alloc (.cells (dbA h f a p) 30)) = W := ⟨_, rfl⟩
  have s1 : w1.heap.size = w.heap.size + 1 := by rw [← hw1]; simp
  have K1 : Hid (Below w.heap.size w (w1.alloc (.cells #[.string ⟨#[]⟩, .string ⟨#[]⟩, .int .u8 0, .int .i64 0, .int .i64 0, .int .i64 0, .int .i64 0] 38))) := by
    rw [← hw1]; exact ((Below.refl _ _).alloc (Nat.le_refl _) _).alloc (by simp) _
  have H1 := Lib.hid (hf.below K1.out)
  have X1 : Hid (Bx w.heap.size (dbA h f a p) 30 (w1.alloc (.cells #[.string ⟨#[]⟩, .string ⟨#[]⟩, .int .u8 0, .int .i64 0, .int .i64 0, .int .i64 0, .int .i64 0] 38))) := by
    have hx := Bx.last w (dbA h f a p) 30
    rw [hw1] at hx
    exact hx.via ((Below.refl _ w1).alloc (Nat.le_refl _) _)
  have B1 : Hid (FxBox (w1.alloc (.cells #[.string ⟨#[]⟩, .string ⟨#[]⟩, .int .u8 0, .int .i64 0, .int .i64 0, .int .i64 0, .int .i64 0] 38)) (w.heap.size + 1) fx0) := by rw [← s1]; exact heap_alloc_new w1 _
  have HW1 := Lib.hid hw1
  have hfi := Lib.hid (find_any f l t _ H1.out hz hN)
  have x6 := X1.out.cell 6 (u := f) rfl
  have xl := X1.out.lt
  have HS1 := Lib.hid s1
  unfold dbA at hw1
  have HW2 := Lib.hid hw1
  clear hw1 s1 hf X1 HW1
  go_enter Tryz.func18, Tryz.ntmps18
  go_upto_region 1 with fail
  rw [HW2.out]
  clear HW2
  go_wp2_with fail
  refine hfi.out.mono ?_
  rintro e w2 ⟨rfl, hb2⟩
  have B2 := B1.out.below hb2
  have HB2 := Lib.hid (K1.out.trans (hb2.mono (by simp; have := HS1.out; omega)))
  obtain ⟨c0, c1, c2, c3, c4, c5, c6⟩ := B2.cells
  have f0 := frozen_of_row w2 (w.heap.size + 1) 0 _ _ B2
  have f1 := frozen_of_row w2 (w.heap.size + 1) 1 _ _ B2
  have f2 := frozen_of_row w2 (w.heap.size + 1) 2 _ _ B2
  have f3 := frozen_of_row w2 (w.heap.size + 1) 3 _ _ B2
  have f4 := frozen_of_row w2 (w.heap.size + 1) 4 _ _ B2
  have f5 := frozen_of_row w2 (w.heap.size + 1) 5 _ _ B2
  have f6 := frozen_of_row w2 (w.heap.size + 1) 6 _ _ B2
  have hsz := lt_heap B2
  obtain ⟨o, ho⟩ : ∃ o, findL l (bl t) = o := ⟨_, rfl⟩
  rw [ho]
  have HO := Lib.hid ho
  clear ho hfi x6 xl hb2 B2 K1 H1 B1
  rcases o with _ | g
  · dsimp only [Option.getD, Option.isSome]
    go_wp2
    exact bodyPost_ret (v := .tuple #[.agg #[.string ⟨#[]⟩, .string ⟨#[]⟩, .int .u8 0, .int .i64 0, .int .i64 0, .int .i64 0, .int .i64 0], .int .i64 6]) (by simp [results, Tryz.results18, go_sem, c0, c1, c2, c3, c4, c5, c6, hsz]) rfl (NfPost.none HO.out (by repeat (first | with_reducible exact HB2.out | with_reducible refine Below.setCell ?_ (by simp) _ | with_reducible refine Below.drew ?_ | with_reducible refine Below.alloc ?_ (by simp; omega) _)))
  · dsimp only [Option.getD, Option.isSome]
    go_wp2
    exact bodyPost_ret (v := .tuple #[.agg #[.string (sb g.id), .string (sb g.rg), .int .u8 (g.kd : Int), .int .i64 g.lat, .int .i64 g.lon, .int .i64 g.el, .int .i64 g.ra], .int .i64 0]) (by simp [results, Tryz.results18, go_sem, c0, c1, c2, c3, c4, c5, c6, hsz]) rfl (NfPost.some HO.out (by repeat (first | with_reducible exact HB2.out | with_reducible refine Below.setCell ?_ (by simp) _ | with_reducible refine Below.drew ?_ | with_reducible refine Below.alloc ?_ (by simp; omega) _)))
set_option maxRecDepth 100000 in
set_option maxHeartbeats 4000000 in
/-- the point of a fix that is found -/
theorem npoint_any (h : ImHd) (f a p : Value) (l : List Fx) (t : ByteArray) (g : Fx) (w : World) (hf : FxsR w f l) (hz : SzL l) (hN : l.length ≤ 1000000000000) (hg : findL l (bl t) = some g) :
    Calls Tryz.prog 13 #[.agg (dbA h f a p), .string t] w fun e w' => e = .returned (.tuple #[.agg #[.int .i64 (toP h.la h.lo g.lat g.lon).1, .int .i64 (toP h.la h.lo g.lat g.lon).2], .int .i64 (toE h.la h.lo g.lat g.lon)]) ∧ Below w.heap.size w w' := by
  obtain ⟨w1, hw1⟩ : ∃ W, (w.alloc (.cells (dbA h f a p) 30)) = W := ⟨_, rfl⟩
  have s1 : w1.heap.size = w.heap.size + 1 := by rw [← hw1]; simp
  obtain ⟨w2, hw2⟩ : ∃ W, (w1.alloc (.cells #[.int .i64 0, .int .i64 0] 40)) = W := ⟨_, rfl⟩
  have s2 : w2.heap.size = w.heap.size + 2 := by rw [← hw2]; simp [s1]
  have K1 : Hid (Below w.heap.size w w2) := by
    rw [← hw2, ← hw1]; exact ((Below.refl _ _).alloc (Nat.le_refl _) _).alloc (by simp) _
  have X1 : Hid (Bx w.heap.size (dbA h f a p) 30 w2) := by
    have hx := Bx.last w (dbA h f a p) 30
    rw [hw1] at hx
    rw [← hw2]
    exact hx.via ((Below.refl _ w1).alloc (Nat.le_refl _) _)
  have Y1 : Hid (Bx (w.heap.size + 1) #[.int .i64 0, .int .i64 0] 40 w2) := by
    have hx := Bx.last w1 #[.int .i64 0, .int .i64 0] 40
    rw [hw2, s1] at hx
    exact hx
  have hfi := nfix_any h f a p l t w2 (hf.below K1.out) hz hN
  rw [hg] at hfi
  have hfi2 : Calls Tryz.prog 18 #[.agg (dbA h f a p), .string t] w2 fun e w' => e = .returned (.tuple #[.agg #[.string (sb g.id), .string (sb g.rg), .int .u8 (g.kd : Int), .int .i64 g.lat, .int .i64 g.lon, .int .i64 g.el, .int .i64 g.ra], .int .i64 0]) ∧ Below w2.heap.size w2 w' := hfi
  have HS1 := Lib.hid s1
  have HS2 := Lib.hid s2
  have hto := Lib.hid (To_any h.la h.lo g.lat g.lon)
  obtain ⟨px, hpx⟩ : ∃ x, (toP h.la h.lo g.lat g.lon).1 = x := ⟨_, rfl⟩
  obtain ⟨py, hpy⟩ : ∃ x, (toP h.la h.lo g.lat g.lon).2 = x := ⟨_, rfl⟩
  obtain ⟨er, her⟩ : ∃ x, toE h.la h.lo g.lat g.lon = x := ⟨_, rfl⟩
  have hto1 := hto.out
  rw [hpx, hpy, her] at hto1 ⊢
  have HTO := Lib.hid hto1
  have x := Bx.cells9 X1.out
  obtain ⟨⟨x0, x1, x2, x3, x4, x5, x6, x7, x8⟩, _⟩ := x
  have xl := X1.out.lt
  unfold dbA at hw1 hfi2 ⊢
  have HFI := Lib.hid hfi2
  have HW1 := Lib.hid hw1
  have HW2 := Lib.hid hw2
  clear hw1 hw2 s1 s2 hf hfi hfi2 hto1 hto hpx hpy her hg
  go_enter Tryz.func13, Tryz.ntmps13
  go_upto_region 1 with fail
  rw [HW1.out, HW2.out]
  clear HW1 HW2
  go_wp2_with fail
  refine HFI.out.mono ?_
  rintro e w3 ⟨rfl, hb3⟩
  have B3 := Lib.hid (Below.then_ K1.out hb3)
  have X3 := Lib.hid (X1.out.via hb3)
  have Y3 := Lib.hid (Y1.out.via hb3)
  clear HFI x0 x1 x2 x3 x4 x5 x6 x7 x8 xl hb3 K1 X1 Y1
  have x4 := X3.out.cell 4 (u := .int .i64 h.la) rfl
  have x5 := X3.out.cell 5 (u := .int .i64 h.lo) rfl
  have xl := X3.out.lt
  have y0 := Y3.out.cell 0 (u := .int .i64 0) rfl
  have y1 := Y3.out.cell 1 (u := .int .i64 0) rfl
  have v0 := Y3.out.free 0
  have v1 := Y3.out.free 1
  have yl := Y3.out.lt
  go_wp2_with fail
  refine (HTO.out _).mono ?_
  rintro e w4 ⟨rfl, hb4⟩
  have B4 := Lib.hid (Below.then_ (B3.out.alloc B3.out.size _) hb4)
  have Y4 := Lib.hid ((Y3.out.grow _).via hb4)
  clear HTO x4 x5 xl y0 y1 v0 v1 yl hb4 X3 Y3 B3
  have y0 := Y4.out.cell 0 (u := .int .i64 0) rfl
  have y1 := Y4.out.cell 1 (u := .int .i64 0) rfl
  have v0 := Y4.out.free 0
  have v1 := Y4.out.free 1
  have yl := Y4.out.lt
  go_wp2
  exact bodyPost_ret (v := .tuple #[.agg #[.int .i64 px, .int .i64 py], .int .i64 er]) (by simp [results, Tryz.results13, go_sem, y0, y1, yl]) rfl ⟨rfl, by repeat (first | with_reducible exact B4.out | with_reducible refine Below.setCell ?_ (by simp) _ | with_reducible refine Below.drew ?_ | with_reducible refine Below.alloc ?_ (by simp; omega) _)⟩
end Go.Proofs.YtgmehlgfilpleaaGreatDoor
