/-
  Contracts: bytes without an image's form or sum are not decoded; two empty databases are the same.
-/
import Derived.Test.YtecklnobgfahfaaGreatDoorImP
namespace Go.Proofs.YtecklnobgfahfaaGreatDoor
open Go.RowKit
set_option linter.unusedVariables false
set_option linter.unusedSimpArgs false
set_option maxRecDepth 100000 in
set_option maxHeartbeats 8000000 in
theorem decode_bad (v : Value) (bs : List UInt8) (x : Int) (w : World) (h : BsV w v bs) (hL : bs.length ≤ 1000000) (hr : rdRes bs = (x, hd0, [])) (hx : (x == 0) = false) :
    Calls Tryz.prog 9 #[v] w fun e w' => e = .returned (.tuple #[.agg dbZ9, .int .i64 x]) ∧ Below w.heap.size w w' := by
  obtain ⟨w0, hw0⟩ : ∃ W, w.alloc (.cells #[.string ⟨#[]⟩, .int .i64 0, .int .i64 0, .int .i64 0, .int .i64 0, .int .i64 0, .slice none 0 0, .slice none 0 0, .slice none 0 0] 30) = W := ⟨_, rfl⟩
  have hb0 : Below w.heap.size w w0 := by rw [← hw0]; exact (Below.refl _ _).alloc (Nat.le_refl _) _
  have B0 := Lib.hid hb0
  have X0 : Hid (Bx w.heap.size #[.string ⟨#[]⟩, .int .i64 0, .int .i64 0, .int .i64 0, .int .i64 0, .int .i64 0, .slice none 0 0, .slice none 0 0, .slice none 0 0] 30 w0) := by rw [← hw0]; exact Bx.last _ _ _
  have hrd := imRead_any v bs w0 (h.below hb0) hL
  have hrd2 : Calls Tryz.prog 23 #[v] w0 fun e w' => (∃ Af nf cf Aa na ca Ap np cp A n c, e = .returned (.tuple #[.agg (dbI hd0 (.slice Af nf cf) (.slice Aa na ca) (.slice Ap np cp)), .slice A n c, .int .i64 x])) ∧ Below w0.heap.size w0 w' := hrd.mono (fun e w' hp => by
    obtain ⟨f, a, p, sv, nf, na, np, he, hs, ⟨_, _, hf, _⟩, ⟨_, _, ha, _⟩, ⟨_, _, hp, _⟩, hm, hb⟩ := hp
    rw [hr] at he hs
    obtain ⟨As, cs, hs, _, _⟩ := hs.form
    rw [hf, ha, hp, hs] at he
    exact ⟨⟨_, _, _, _, _, _, _, _, _, _, _, _, he⟩, hb⟩)
  obtain ⟨q, hq⟩ : ∃ q, w.heap.size = q := ⟨_, rfl⟩
  rw [hq] at X0
  have HQ := Lib.hid hq
  have HW0 := Lib.hid hw0
  obtain ⟨A, c, rfl, -, -, -⟩ := h
  clear hb0 hw0 hq hrd hL hr
  go_enter Tryz.func9, Tryz.ntmps9
  go_wp2_with fail
  rw [HW0.out, HQ.out]
  clear HW0
  refine hrd2.mono ?_
  rintro e w1 ⟨⟨Af, nf, cf, Aa, na, ca, Ap, np, cp, As, ns, cs, rfl⟩, hb⟩
  have B1 := Lib.hid (Below.then_ B0.out hb)
  have X1 := Lib.hid (Bx.via hb X0.out)
  clear hrd2 hb B0 X0
  obtain ⟨w2, hw2⟩ : ∃ W, w1.alloc (.cells (dbI hd0 (.slice Af nf cf) (.slice Aa na ca) (.slice Ap np cp)) 30) = W := ⟨_, rfl⟩
  have hb2 : Below w1.heap.size w1 w2 := by rw [← hw2]; exact (Below.refl _ _).alloc (Nat.le_refl _) _
  have B2 := Lib.hid (Below.then_ B1.out hb2)
  have XO := Lib.hid (Bx.via hb2 X1.out)
  unfold dbI hd0 at hw2 ⊢
  dsimp only at hw2 ⊢
  have HW2 := Lib.hid hw2
  have FX : Bx q dbZ9 30 (w2.setRow q dbZ9) := setRow_heap _ q _ dbZ9 30 (0, 0) XO.out
  have HPF : Below w.heap.size w (w2.setRow q dbZ9) := row_below B2.out HQ.out
  obtain ⟨W9, hW9⟩ : ∃ W, w2.setRow q dbZ9 = W := ⟨_, rfl⟩
  rw [hW9] at FX HPF
  have HW9 := Lib.hid hW9
  have HPG := Lib.hid HPF
  have FXH := Lib.hid FX
  clear FX HPF hW9 hw2 hb2 B1 X1
  go_upto_region 2 with fail
  rw [HW2.out]
  clear HW2
  go_wp2_with (refine wpList_plain rfl fun _ hK => wp_store_row 30 (.tmp 2) (.tmp 16) rfl q dbZ9 rfl rfl 30 _ XO.out infoDB9 rfl dbZ9_one (hK _ _ ?_))
  rw [HW9.out]
  obtain ⟨⟨x0, x1, x2, x3, x4, x5, x6, x7, x8⟩, _⟩ := Bx.cells9 FXH.out
  refine bodyPost_ret (v := .tuple #[.agg dbZ9, .int .i64 x]) (by simp [results, Tryz.results9, go_sem, dbZ9, x0, x1, x2, x3, x4, x5, x6, x7, x8]; try rfl) rfl ?_
  exact ⟨rfl, HPG.out⟩
set_option maxRecDepth 100000 in
set_option maxHeartbeats 8000000 in
theorem same_zero (w : World) :
    Calls Tryz.prog 14 #[.agg dbZ9, .agg dbZ9] w fun e w' => e = .returned (.bool true) ∧ Below w.heap.size w w' := by
  obtain ⟨w1, hw1⟩ : ∃ W, (w.alloc (.cells dbZ9 30)).alloc (.cells dbZ9 30) = W := ⟨_, rfl⟩
  have hb1 : Below w.heap.size w w1 := by rw [← hw1]; exact ((Below.refl _ _).alloc (Nat.le_refl _) _).alloc (by simp) _
  obtain ⟨q, hq⟩ : ∃ q, w.heap.size = q := ⟨_, rfl⟩
  have Y1 : Bx (q + 1) dbZ9 30 w1 := by
    have h1 := Bx.last (w.alloc (.cells dbZ9 30)) dbZ9 30
    rw [hw1, World.size_alloc, hq] at h1
    exact h1
  have X1 : Bx q dbZ9 30 w1 := by
    have h1 := Bx.via ((Below.refl _ _).alloc (Nat.le_refl _) (.cells dbZ9 30)) (Bx.last w dbZ9 30)
    rw [hw1, hq] at h1
    exact h1
  have HB1 := Lib.hid hb1
  unfold dbZ9 at hw1 ⊢
  have HW1 := Lib.hid hw1
  have HQ := Lib.hid hq
  have xl := X1.lt
  have yl := Y1.lt
  obtain ⟨⟨x0, x1, x2, x3, x4, x5, x6, x7, x8⟩, _⟩ := Bx.cells9 X1
  obtain ⟨⟨y0, y1, y2, y3, y4, y5, y6, y7, y8⟩, _⟩ := Bx.cells9 Y1
  clear hb1 hw1 hq X1 Y1
  go_enter Tryz.func14, Tryz.ntmps14
  go_upto_region 1 with fail
  rw [HW1.out, HQ.out]
  clear HW1 HQ
  go_wp2
  go_loopw [43] (fun iv wr => iv = .int .i64 0 ∧ wr = w1) (fun _ _ => 0)
  case atStart => exact ⟨rfl, rfl⟩
  case round =>
  obtain ⟨rfl, rfl⟩ := hrel
  go_wp2
  go_loopw [61] (fun iv wx => iv = .int .i64 0 ∧ wx = wr) (fun _ _ => 0)
  case atStart => exact ⟨rfl, rfl⟩
  case round =>
  obtain ⟨rfl, rfl⟩ := hrel
  go_wp2
  go_loopw [80] (fun iv wx => iv = .int .i64 0 ∧ wx = wr) (fun _ _ => 0)
  case atStart => exact ⟨rfl, rfl⟩
  case round =>
  obtain ⟨rfl, rfl⟩ := hrel
  go_wp2
  go_ret
  exact ⟨rfl, HB1.out⟩
end Go.Proofs.YtecklnobgfahfaaGreatDoor
