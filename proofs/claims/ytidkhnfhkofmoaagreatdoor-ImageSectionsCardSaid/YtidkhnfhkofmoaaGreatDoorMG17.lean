/-
  Several texts as one.
  Contract: plane.To at the example's origin.
  Contracts: the index of fixes (add, indexed), the error of a fix's place and of a header, at the example's origin; fixes that are neither airports nor runways.
-/
import Derived.Test.YtidkhnfhkofmoaaGreatDoorPlL
import Derived.Test.YtidkhnfhkofmoaaGreatDoorMG10
import Derived.Test.YtidkhnfhkofmoaaGreatDoorMG07
import Derived.Test.YtidkhnfhkofmoaaGreatDoorMG03
namespace Go.Proofs.YtidkhnfhkofmoaaGreatDoor
open Go.RowKit
set_option linter.unusedVariables false
set_option linter.unusedSimpArgs false
set_option maxRecDepth 100000 in
set_option maxHeartbeats 4000000 in
theorem To_ex (w : World) : Calls Tryz.prog 91 #[.agg #[.int .i64 16560000, .int .i64 (-43200000)], .agg #[.int .i64 16560000, .int .i64 (-43200000)]] w fun e w' =>
  e = .returned (.tuple #[.agg #[.int .i64 0, .int .i64 0], .int .i64 0]) ∧ Below w.heap.size w w' := by
 have hv := fun w => sValid_any 16560000 (-43200000) w
 rw [ex_vld] at hv
 have io := isOrigin_ex
 have lo := Local_ex
 have md := mulDivRound_ex
 have pv := planeValid_ex
 obtain ⟨w0, hw0⟩ : ∃ W, ((w.alloc (.cells #[.int .i64 16560000, .int .i64 (-43200000)] 23)).alloc (.cells #[.int .i64 16560000, .int .i64 (-43200000)] 23)).alloc (.cells #[.int .i64 0, .int .i64 0] 188) = W := ⟨_, rfl⟩
 have BX : Hid (∀ wa, Below w0.heap.size w0 wa → (wa.cell? ⟨w.heap.size, 0, none⟩ = some (.int .i64 16560000) ∧ wa.cell? ⟨w.heap.size, 1, none⟩ = some (.int .i64 (-43200000)) ∧ wa.cell? ⟨w.heap.size + 1, 0, none⟩ = some (.int .i64 16560000) ∧ wa.cell? ⟨w.heap.size + 1, 1, none⟩ = some (.int .i64 (-43200000))) ∧
   (wa.cell? ⟨w.heap.size + 1 + 1, 0, none⟩ = some (.int .i64 0) ∧ wa.cell? ⟨w.heap.size + 1 + 1, 1, none⟩ = some (.int .i64 0) ∧ wa.frozen? ⟨w.heap.size + 1 + 1, 0, none⟩ = false ∧ wa.frozen? ⟨w.heap.size + 1 + 1, 1, none⟩ = false) ∧ Below w.heap.size w wa ∧ w.heap.size + 1 + 1 < wa.heap.size) := by
  have hb0 : Below w.heap.size w w0 := by rw [← hw0]; exact (((Below.refl _ _).alloc (Nat.le_refl _) _).alloc (by simp) _).alloc (by simp; omega) _
  have hc : (w0.cell? ⟨w.heap.size, 0, none⟩ = some (.int .i64 16560000) ∧ w0.cell? ⟨w.heap.size, 1, none⟩ = some (.int .i64 (-43200000)) ∧ w0.cell? ⟨w.heap.size + 1, 0, none⟩ = some (.int .i64 16560000) ∧ w0.cell? ⟨w.heap.size + 1, 1, none⟩ = some (.int .i64 (-43200000))) ∧
   (w0.cell? ⟨w.heap.size + 1 + 1, 0, none⟩ = some (.int .i64 0) ∧ w0.cell? ⟨w.heap.size + 1 + 1, 1, none⟩ = some (.int .i64 0) ∧ w0.frozen? ⟨w.heap.size + 1 + 1, 0, none⟩ = false ∧ w0.frozen? ⟨w.heap.size + 1 + 1, 1, none⟩ = false) ∧ w.heap.size + 1 + 1 < w0.heap.size := by rw [← hw0]; simp [go_sem]
  obtain ⟨⟨a0, a1, a2, a3⟩, ⟨b0, b1, b2, b3⟩, hl⟩ := hc
  intro wa hb
  have l0 : w.heap.size < w0.heap.size := by omega
  have l1 : w.heap.size + 1 < w0.heap.size := by omega
  exact ⟨⟨(hb.cell (p := ⟨w.heap.size, 0, none⟩) l0).trans a0, (hb.cell (p := ⟨w.heap.size, 1, none⟩) l0).trans a1, (hb.cell (p := ⟨w.heap.size + 1, 0, none⟩) l1).trans a2, (hb.cell (p := ⟨w.heap.size + 1, 1, none⟩) l1).trans a3⟩,
   ⟨(hb.cell (p := ⟨w.heap.size + 1 + 1, 0, none⟩) hl).trans b0, (hb.cell (p := ⟨w.heap.size + 1 + 1, 1, none⟩) hl).trans b1, (hb.frozen (p := ⟨w.heap.size + 1 + 1, 0, none⟩) hl).trans b2, (hb.frozen (p := ⟨w.heap.size + 1 + 1, 1, none⟩) hl).trans b3⟩, Below.then_ hb0 hb, Nat.lt_of_lt_of_le hl hb.size⟩
 obtain ⟨⟨c0, c1, c2, c3⟩, _, _, _⟩ := BX.out w0 (Below.refl _ _)
 go_enter Tryz.func91, Tryz.ntmps91
 go_wp2_with fail
 try rw [hw0]
 clear hw0
 refine (io _).mono ?_
 rintro e w1 ⟨rfl, hb1⟩
 have HB1 := Lib.hid hb1
 obtain ⟨⟨c0, c1, c2, c3⟩, _, _, _⟩ := BX.out w1 hb1
 clear hb1
 go_wp2_with fail
 refine (hv _).mono ?_
 rintro e w2 ⟨rfl, hb2⟩
 have HB2 := Lib.hid (Below.then_ HB1.out hb2)
 obtain ⟨⟨c0, c1, c2, c3⟩, _, _, _⟩ := BX.out w2 HB2.out
 clear hb2 HB1
 go_wp2_with fail
 refine (lo _).mono ?_
 rintro e w3 ⟨rfl, hb3⟩
 have HB3 := Lib.hid (Below.then_ HB2.out hb3)
 clear hb3 HB2 c0 c1 c2 c3
 obtain ⟨w4, hw4⟩ : ∃ W, w3.alloc (.cells #[.int .i64 0, .int .i64 0, .int .i64 1073741825] 244) = W := ⟨_, rfl⟩
 have X4 : Hid (Bx w3.heap.size #[.int .i64 0, .int .i64 0, .int .i64 1073741825] 244 w4) := by rw [← hw4]; exact Bx.last w3 _ _
 have HB4 : Hid (Below w0.heap.size w0 w4) := by rw [← hw4]; exact HB3.out.alloc HB3.out.size _
 obtain ⟨⟨x0, x1, x2⟩, _⟩ := X4.out.cells3
 go_wp2_with fail
 try rw [hw4]
 clear hw4
 refine (md _).mono ?_
 rintro e w5 ⟨rfl, hb5⟩
 have HB5 := Lib.hid (Below.then_ HB4.out hb5)
 have X5 := Lib.hid (X4.out.via hb5)
 obtain ⟨⟨x0, x1, x2⟩, _⟩ := X5.out.cells3
 clear hb5 HB4 X4
 go_wp2_with fail
 refine (md _).mono ?_
 rintro e w6 ⟨rfl, hb6⟩
 have HB6 := Lib.hid (Below.then_ HB5.out hb6)
 clear hb6 HB5 X5 x0 x1 x2
 obtain ⟨w7, hw7⟩ : ∃ W, w6.alloc (.cells #[.int .i64 0, .int .i64 0] 188) = W := ⟨_, rfl⟩
 have X7 : Hid (Bx w6.heap.size #[.int .i64 0, .int .i64 0] 188 w7) := by rw [← hw7]; exact Bx.last w6 _ _
 have HB7 : Hid (Below w0.heap.size w0 w7) := by rw [← hw7]; exact HB6.out.alloc HB6.out.size _
 have HW7 := Lib.hid hw7
 clear hw7
 go_wp2_with fail
 rw [HW7.out]
 clear HW7
 refine (pv _).mono ?_
 rintro e w8 ⟨rfl, hb8⟩
 have HB8 := Lib.hid (Below.then_ HB7.out hb8)
 have X8 := Lib.hid (X7.out.via hb8)
 have x0 := X8.out.cell 0 (u := .int .i64 0) rfl
 have x1 := X8.out.cell 1 (u := .int .i64 0) rfl
 clear hb8 HB7 X7
 obtain ⟨_, ⟨r0, r1, r2, r3⟩, hbb, _⟩ := BX.out w8 HB8.out
 have HE : Hid (Below w.heap.size w ((w8.setCell ⟨w.heap.size + 1 + 1, 0, none⟩ (.int .i64 0)).setCell ⟨w.heap.size + 1 + 1, 1, none⟩ (.int .i64 0))) := (hbb.setCell (by simp; omega) _).setCell (by simp; omega) _
 clear hbb
 go_wp2
 refine bodyPost_ret (v := .tuple #[.agg #[.int .i64 0, .int .i64 0], .int .i64 0]) (by simp [results, Tryz.results91, go_sem, r0, r1]; try rfl) rfl ?_
 exact ⟨rfl, HE.out⟩
end Go.Proofs.YtidkhnfhkofmoaaGreatDoor
namespace Go.Proofs.YtidkhnfhkofmoaaGreatDoor
open Go.RowKit
set_option linter.unusedVariables false
set_option linter.unusedSimpArgs false
theorem Frm.mapF {S : Nat → Prop} {β : Type} {e : Elm β} {b n : Nat} {m : List UInt8 → Option β} {w w' : World} (h : Frm S w w') (hm : MapF e w b n m) (h2 : ¬ S b) : MapF e w' b n m := by
 have hl := hm.lt
 obtain ⟨D, ⟨es, clock, hbk, r⟩, k⟩ := hm
 exact ⟨D, ⟨es, clock, (h.block b hl h2).trans hbk, r⟩, k⟩
def ixV (b1 b2 b3 : Nat) : Value := .agg #[.map (some b1), .map (some b2), .map (some b3)]
structure IxR (b1 b2 b3 n : Nat) (mr ma mu : List UInt8 → Option Bool) (w : World) : Prop where
 r : MapF elmB w b1 n mr
 a : MapF elmB w b2 n ma
 u : MapF elmB w b3 n mu
 d1 : b1 ≠ b2
 d2 : b1 ≠ b3
 d3 : b2 ≠ b3
theorem IxR.frm {b1 b2 b3 n : Nat} {mr ma mu : List UInt8 → Option Bool} {S : Nat → Prop} {w w' : World} (h : IxR b1 b2 b3 n mr ma mu w) (hf : Frm S w w') (h1 : ¬ S b1) (h2 : ¬ S b2) (h3 : ¬ S b3) : IxR b1 b2 b3 n mr ma mu w' :=
 ⟨hf.mapF h.r h1, hf.mapF h.a h2, hf.mapF h.u h3, h.d1, h.d2, h.d3⟩
theorem IxR.below {b1 b2 b3 n : Nat} {mr ma mu : List UInt8 → Option Bool} {w w' : World} (h : IxR b1 b2 b3 n mr ma mu w) (hb : Below w.heap.size w w') : IxR b1 b2 b3 n mr ma mu w' :=
 ⟨h.r.below' hb, h.a.below' hb, h.u.below' hb, h.d1, h.d2, h.d3⟩
def rfM (l : List Fx) : List UInt8 → Option Bool := fun r => if r ∈ l.map fxRef then some true else none
theorem rfM_nil : rfM [] = fun _ => none := by funext r; simp [rfM]
theorem rfM_snoc (l : List Fx) (f : Fx) : rfM (l ++ [f]) = setK (rfM l) (fxRef f) (some true) := by
 funext r
 unfold setK rfM
 by_cases h : r = fxRef f
 ·rw [if_pos h, if_pos (by rw [h]; simp)]
 ·rw [if_neg h]
  by_cases h2 : r ∈ l.map fxRef
  ·rw [if_pos h2, if_pos (by rw [List.map_append, List.mem_append]; exact .inl h2)]
  ·rw [if_neg h2, if_neg (by rw [List.map_append, List.mem_append]; rintro (h3 | h3); exact h2 h3; exact h (by simpa using h3))]
theorem rfM_getD (l : List Fx) (r : List UInt8) : (rfM l r).getD false = decide (r ∈ l.map fxRef) := by
 unfold rfM; split
 ·rename_i h; rw [decide_eq_true h]; rfl
 ·rename_i h; rw [decide_eq_false h]; rfl
set_option maxRecDepth 100000 in
set_option maxHeartbeats 4000000 in
theorem add_any (b1 b2 b3 n : Nat) (mr ma mu : List UInt8 → Option Bool) (f : Fx) (w : World) (h : IxR b1 b2 b3 n mr ma mu w) (hn : n < 1000000000) (hi : f.id.length ≤ 1000000000000000) (hr : f.rg.length ≤ 1000000000000000) (h5 : f.kd ≠ 5) (h6 : f.kd ≠ 6) (hk : f.kd < 256) :
  Calls Tryz.prog 47 #[ixV b1 b2 b3, .agg #[.string (sb f.id), .string (sb f.rg), .int .u8 (f.kd : Int), .int .i64 f.lat, .int .i64 f.lon, .int .i64 f.el, .int .i64 f.ra]] w
   fun e w' => e = .returned (.tuple #[]) ∧ IxR b1 b2 b3 (n + 1) (setK mr (fxRef f) (some true)) ma mu w' ∧ Frm (· = b1) w w' := by
 have hrf := fun w => fixRef_any f w hi hr
 unfold FRefPost at hrf
 have HL : Hid ((fxRef f).length ≤ maxLen) := by unfold Hid fxRef maxLen; rw [List.length_append, List.length_cons]; omega
 have lt1 := h.r.lt
 have H := Lib.hid h
 have e5 : ((f.kd : Int) == 5) = false := beq_eq_false_iff_ne.2 (by omega)
 have e6 : ((f.kd : Int) == 6) = false := beq_eq_false_iff_ne.2 (by omega)
 obtain ⟨rf, hrfe⟩ : ∃ r, fxRef f = r := ⟨_, rfl⟩
 rw [hrfe] at hrf HL ⊢
 obtain ⟨id, rg, kd, la, lo, el, ra⟩ := f
 simp only at hrf e5 e6 hk hi hr ⊢
 clear h hrfe h5 h6
 obtain ⟨w0, hw0⟩ : ∃ W, (w.alloc (.cells #[.map (some b1), .map (some b2), .map (some b3)] 127)).alloc (.cells #[.string (sb id), .string (sb rg), .int .u8 (kd : Int), .int .i64 la, .int .i64 lo, .int .i64 el, .int .i64 ra] 73) = W := ⟨_, rfl⟩
 have B0 : Hid (Below w.heap.size w w0) := by rw [← hw0]; exact ((Below.refl _ _).alloc (Nat.le_refl _) _).alloc (by simp) _
 have X0 : Hid (Bx w.heap.size #[.map (some b1), .map (some b2), .map (some b3)] 127 w0) := by rw [← hw0]; exact (Bx.last w _ _).grow _
 have Y0 : Hid (FxBox w0 (w.heap.size + 1) ⟨id, rg, kd, la, lo, el, ra⟩) := by
  have h1 := Bx.last2 w (.cells #[.map (some b1), .map (some b2), .map (some b3)] 127) #[.string (sb id), .string (sb rg), .int .u8 (kd : Int), .int .i64 la, .int .i64 lo, .int .i64 el, .int .i64 ra] 73
  rw [hw0] at h1
  exact h1
 have u0 := fun pb : BelBy w0 => (X0.out.via pb.h).cell 0 (u := .map (some b1)) rfl
 have v0 := fun pb : BelBy w0 => (Y0.out.below pb.h).cells.c0
 have v1 := fun pb : BelBy w0 => (Y0.out.below pb.h).cells.c1
 have v2 := fun pb : BelBy w0 => (Y0.out.below pb.h).cells.c2
 have v3 := fun pb : BelBy w0 => (Y0.out.below pb.h).cells.c3
 have v4 := fun pb : BelBy w0 => (Y0.out.below pb.h).cells.c4
 have v5 := fun pb : BelBy w0 => (Y0.out.below pb.h).cells.c5
 have v6 := fun pb : BelBy w0 => (Y0.out.below pb.h).cells.c6
 simp only at v0 v1 v2 v3 v4 v5 v6
 have HW0 := Lib.hid hw0
 clear hw0
 unfold ixV
 go_enter Tryz.func47, Tryz.ntmps47
 go_wp2_with fail
 rw [HW0.out]
 clear HW0
 refine wp_region_bel_tail 4 (by kernel_rfl) (by kernel_rfl) ?_
 simp only [List.take_succ_cons, List.take_zero, List.drop_succ_cons, List.drop_zero]
 repeat (quiet_step ((go_at_call 45; with_reducible exact Calls.bel_of (hrf _))))
 try refine wpQuiet_nil ?_
 rintro wz ⟨pb, rfl⟩
 obtain ⟨wa, hba⟩ := pb
 show wpList _ _ _ _ _ wa
 have BA := Lib.hid (Below.then_ B0.out hba)
 have YA := Lib.hid (Y0.out.below hba)
 have IA := Lib.hid (H.out.below BA.out)
 clear u0 v0 v1 v2 v3 v4 v5 v6 hba hrf X0 Y0 H
 refine wpList_putB rfl _ _ _ rfl b1 n mr rfl IA.out.r (by unfold maxLen; omega) rf true rfl rfl HL.out ?_
 intro wb hm hg
 have hlt := lt_heap YA.out
 have ne1 : w.heap.size + 1 ≠ b1 := by omega
 have YB : Hid (FxBox wb (w.heap.size + 1) ⟨id, rg, kd, la, lo, el, ra⟩) := (hg.out.block _ hlt (fun e => by injection e with e; omega)).trans YA.out
 have FB : Hid (Frm (· = b1) w wb) := (Frm.of_below BA.out).trans (Frm.grown hg.out rfl)
 have IB : Hid (IxR b1 b2 b3 (n + 1) (setK mr rf (some true)) ma mu wb) :=
  ⟨hm.out, (IA.out.a.mono (Nat.le_succ n)).kept hg.out (fun e => by injection e with e; exact IA.out.d1 e.symm), (IA.out.u.mono (Nat.le_succ n)).kept hg.out (fun e => by injection e with e; exact IA.out.d2 e.symm), IA.out.d1, IA.out.d2, IA.out.d3⟩
 have k2 := YB.out.cells.c2
 simp only at k2
 clear hm hg BA YA IA hlt
 go_wp2
 go_end0
 exact ⟨rfl, IB.out, FB.out⟩
def AtO (f : Fx) : Prop := f.lat = 16560000 ∧ f.lon = -43200000 ∧ f.kd ≠ 5 ∧ f.kd ≠ 6 ∧ f.kd < 256
set_option maxRecDepth 100000 in
set_option maxHeartbeats 4000000 in
theorem placed_ex (b1 b2 b3 c1 c2 c3 : Nat) (f : Fx) (w : World) (h : AtO f) :
  Calls Tryz.prog 46 #[.agg #[.string (sb f.id), .string (sb f.rg), .int .u8 (f.kd : Int), .int .i64 f.lat, .int .i64 f.lon, .int .i64 f.el, .int .i64 f.ra], .agg #[.int .i64 16560000, .int .i64 (-43200000)], ixV b1 b2 b3, ixV c1 c2 c3] w
   fun e w' => e = .returned (.int .i64 0) ∧ Below w.heap.size w w' := by
 obtain ⟨h1, h2, h5, h6, hk⟩ := h
 have e5 : ((f.kd : Int) == 5) = false := beq_eq_false_iff_ne.2 (by omega)
 have e6 : ((f.kd : Int) == 6) = false := beq_eq_false_iff_ne.2 (by omega)
 obtain ⟨id, rg, kd, la, lo, el, ra⟩ := f
 simp only at h1 h2 e5 e6 ⊢
 subst h1 h2
 clear h5 h6 hk
 have tto := To_ex
 obtain ⟨w0, hw0⟩ : ∃ W, (((w.alloc (.cells #[.string (sb id), .string (sb rg), .int .u8 (kd : Int), .int .i64 16560000, .int .i64 (-43200000), .int .i64 el, .int .i64 ra] 73)).alloc (.cells #[.int .i64 16560000, .int .i64 (-43200000)] 23)).alloc (.cells #[.map (some b1), .map (some b2), .map (some b3)] 127)).alloc (.cells #[.map (some c1), .map (some c2), .map (some c3)] 127) = W := ⟨_, rfl⟩
 have B0 : Hid (Below w.heap.size w w0) := by rw [← hw0]; exact ((((Below.refl _ _).alloc (Nat.le_refl _) _).alloc (by simp) _).alloc (by simp; omega) _).alloc (by simp; omega) _
 have Y0 : Hid (FxBox w0 w.heap.size ⟨id, rg, kd, 16560000, -43200000, el, ra⟩) := by
  rw [← hw0]; exact (((Bx.last w #[.string (sb id), .string (sb rg), .int .u8 (kd : Int), .int .i64 16560000, .int .i64 (-43200000), .int .i64 el, .int .i64 ra] 73).grow _).grow _).grow _
 have Z0 : Hid (Bx (w.heap.size + 1) #[.int .i64 16560000, .int .i64 (-43200000)] 23 w0) := by
  rw [← hw0]; exact ((Bx.last2 w (.cells #[.string (sb id), .string (sb rg), .int .u8 (kd : Int), .int .i64 16560000, .int .i64 (-43200000), .int .i64 el, .int .i64 ra] 73) #[.int .i64 16560000, .int .i64 (-43200000)] 23).grow _).grow _
 have k3 := Y0.out.cells.c3
 have k4 := Y0.out.cells.c4
 simp only at k3 k4
 have z0 := Z0.out.cell 0 (u := .int .i64 16560000) rfl
 have z1 := Z0.out.cell 1 (u := .int .i64 (-43200000)) rfl
 have HW0 := Lib.hid hw0
 clear hw0
 unfold ixV
 go_enter Tryz.func46, Tryz.ntmps46
 go_wp2_with fail
 rw [HW0.out]
 clear HW0
 refine (tto _).mono ?_
 rintro e w1 ⟨rfl, hb1⟩
 have B1 := Lib.hid (Below.then_ B0.out hb1)
 have Y1 := Lib.hid (Y0.out.below hb1)
 clear hb1 B0 Y0 Z0 k3 k4 z0 z1
 have k2 := Y1.out.cells.c2
 have l2 := lt_heap Y1.out
 simp only at k2
 have B2 : Hid (Below w.heap.size w (w1.alloc (.cells #[.int .i64 0, .int .i64 0] 188))) := B1.out.alloc B1.out.size _
 clear Y1 B1
 go_wp2
 go_ret
 exact ⟨rfl, B2.out⟩
def hdr26 : Value := .agg #[.string ⟨#[87, 69, 83, 84]⟩, .int .i64 2612, .int .i64 9826, .int .i64 9854, .int .i64 16560000, .int .i64 (-43200000)]
set_option maxRecDepth 100000 in
set_option maxHeartbeats 4000000 in
theorem header_ex (w : World) : Calls Tryz.prog 41 #[hdr26] w fun e w' => e = .returned (.int .i64 0) ∧ Below w.heap.size w w' := by
 have tto := To_ex
 have nm := fun w => name_any ⟨#[87, 69, 83, 84]⟩ 8 w (by decide)
 rw [show nameB (bl ⟨#[87, 69, 83, 84]⟩) 8 = true by decide] at nm
 have cd := cycleDays_26
 obtain ⟨w0, hw0⟩ : ∃ W, w.alloc (.cells #[.string ⟨#[87, 69, 83, 84]⟩, .int .i64 2612, .int .i64 9826, .int .i64 9854, .int .i64 16560000, .int .i64 (-43200000)] 25) = W := ⟨_, rfl⟩
 have B0 : Hid (Below w.heap.size w w0) := by rw [← hw0]; exact (Below.refl _ _).alloc (Nat.le_refl _) _
 have X0 : Hid (Bx w.heap.size #[.string ⟨#[87, 69, 83, 84]⟩, .int .i64 2612, .int .i64 9826, .int .i64 9854, .int .i64 16560000, .int .i64 (-43200000)] 25 w0) := by rw [← hw0]; exact Bx.last w _ _
 have x0 := X0.out.cell 0 (u := .string ⟨#[87, 69, 83, 84]⟩) rfl
 have x1 := X0.out.cell 1 (u := .int .i64 2612) rfl
 have x2 := X0.out.cell 2 (u := .int .i64 9826) rfl
 have x3 := X0.out.cell 3 (u := .int .i64 9854) rfl
 have x4 := X0.out.cell 4 (u := .int .i64 16560000) rfl
 have x5 := X0.out.cell 5 (u := .int .i64 (-43200000)) rfl
 have HW0 := Lib.hid hw0
 clear hw0
 unfold hdr26
 go_enter Tryz.func41, Tryz.ntmps41
 go_wp2_with fail
 rw [HW0.out]
 clear HW0
 refine (nm _).mono ?_
 rintro e w1 ⟨rfl, rfl⟩
 go_wp2_with fail
 refine (cd _).mono ?_
 rintro e w1 ⟨rfl, rfl⟩
 go_wp2_with fail
 refine (tto _).mono ?_
 rintro e w1 ⟨rfl, hb1⟩
 have B1 := Lib.hid (Below.then_ B0.out hb1)
 clear hb1 B0 X0 x0 x1 x2 x3 x4 x5
 go_wp2
 go_ret
 exact ⟨rfl, B1.out⟩
set_option maxRecDepth 100000 in
set_option maxHeartbeats 4000000 in
theorem indexed_any (v : Value) (l : List Fx) (w : World) (h : FxsR w v l) (hz : SzL l) (hk : ∀ f ∈ l, f.kd ≠ 5 ∧ f.kd ≠ 6 ∧ f.kd < 256) (hN : l.length ≤ 1000000) :
  Calls Tryz.prog 42 #[v] w fun e w' => ∃ b1 b2 b3, e = .returned (ixV b1 b2 b3) ∧ IxR b1 b2 b3 l.length (rfM l) (fun _ => none) (fun _ => none) w' ∧ Below w.heap.size w w' ∧ w.heap.size ≤ b1 ∧ w.heap.size ≤ b2 ∧ w.heap.size ≤ b3 := by
 have hmm := @run_makeMap Tryz.prog
 obtain ⟨A, c, rfl, hc, hm⟩ := h.form
 obtain ⟨n, hn⟩ : ∃ n, l.length = n := ⟨_, rfl⟩
 have HN2 := Lib.hid hn
 have H := Lib.hid h
 have HZ := Lib.hid hz
 have HK := Lib.hid hk
 rw [hn] at hc hN H ⊢
 clear h hz hk hn
 go_enter Tryz.func42, Tryz.ntmps42
 go_wp2_with fail
 obtain ⟨w0, hw0⟩ : ∃ W, (((((w.alloc (.cells #[.map none, .map none, .map none] 127)).alloc (.map #[] 0)).alloc (.map #[] 0)).alloc (.map #[] 0)).alloc (.cells #[.map (some (w.heap.size + 1)), .map (some (w.heap.size + 1 + 1)), .map (some (w.heap.size + 1 + 1 + 1))] 127)) = W := ⟨_, rfl⟩
 rw [hw0]
 have HI : Hid (IxR (w.heap.size + 1) (w.heap.size + 1 + 1) (w.heap.size + 1 + 1 + 1) 0 (fun _ => none) (fun _ => none) (fun _ => none) w0 ∧ Below w.heap.size w w0 ∧ Bx w.heap.size #[.map none, .map none, .map none] 127 w0 ∧ Bx (w.heap.size + 1 + 1 + 1 + 1) #[.map (some (w.heap.size + 1)), .map (some (w.heap.size + 1 + 1)), .map (some (w.heap.size + 1 + 1 + 1))] 127 w0) := by
  obtain ⟨v1, hv1⟩ : ∃ W, w.alloc (.cells #[.map none, .map none, .map none] 127) = W := ⟨_, rfl⟩
  obtain ⟨v2, hv2⟩ : ∃ W, v1.alloc (.map #[] 0) = W := ⟨_, rfl⟩
  obtain ⟨v3, hv3⟩ : ∃ W, v2.alloc (.map #[] 0) = W := ⟨_, rfl⟩
  obtain ⟨v4, hv4⟩ : ∃ W, v3.alloc (.map #[] 0) = W := ⟨_, rfl⟩
  have s1 : v1.heap.size = w.heap.size + 1 := by rw [← hv1]; simp
  have s2 : v2.heap.size = w.heap.size + 1 + 1 := by rw [← hv2, World.size_alloc, s1]
  have s3 : v3.heap.size = w.heap.size + 1 + 1 + 1 := by rw [← hv3, World.size_alloc, s2]
  have s4 : v4.heap.size = w.heap.size + 1 + 1 + 1 + 1 := by rw [← hv4, World.size_alloc, s3]
  rw [hv1, hv2, hv3, hv4] at hw0
  have m1 : MapF elmB v2 (w.heap.size + 1) 0 (fun _ => none) := by have h := MapF.made elmB v1; rw [hv2, s1] at h; exact h
  have m2 : MapF elmB v3 (w.heap.size + 1 + 1) 0 (fun _ => none) := by have h := MapF.made elmB v2; rw [hv3, s2] at h; exact h
  have m3 : MapF elmB v4 (w.heap.size + 1 + 1 + 1) 0 (fun _ => none) := by have h := MapF.made elmB v3; rw [hv4, s3] at h; exact h
  have t3 : Below v2.heap.size v2 v3 := by rw [← hv3]; exact (Below.refl _ _).alloc (Nat.le_refl _) _
  have t4 : Below v3.heap.size v3 v4 := by rw [← hv4]; exact (Below.refl _ _).alloc (Nat.le_refl _) _
  have t0 : Below v4.heap.size v4 w0 := by rw [← hw0]; exact (Below.refl _ _).alloc (Nat.le_refl _) _
  have t1 : Below w.heap.size w v1 := by rw [← hv1]; exact (Below.refl _ _).alloc (Nat.le_refl _) _
  have t2 : Below v1.heap.size v1 v2 := by rw [← hv2]; exact (Below.refl _ _).alloc (Nat.le_refl _) _
  have x1 : Bx w.heap.size #[.map none, .map none, .map none] 127 v1 := by rw [← hv1]; exact Bx.last w _ _
  have x4 : Bx v4.heap.size #[.map (some (w.heap.size + 1)), .map (some (w.heap.size + 1 + 1)), .map (some (w.heap.size + 1 + 1 + 1))] 127 w0 := by rw [← hw0]; exact Bx.last v4 _ _
  rw [s4] at x4
  exact ⟨⟨((m1.below' t3).below' t4).below' t0, (m2.below' t4).below' t0, m3.below' t0, by omega, by omega, by omega⟩, Below.then_ (Below.then_ (Below.then_ (Below.then_ t1 t2) t3) t4) t0, (((x1.via t2).via t3).via t4).via t0, x4⟩
 clear hw0 hmm
 obtain ⟨b1, hb1⟩ : ∃ b, w.heap.size + 1 = b := ⟨_, rfl⟩
 obtain ⟨b2, hb2⟩ : ∃ b, w.heap.size + 1 + 1 = b := ⟨_, rfl⟩
 obtain ⟨b3, hb3⟩ : ∃ b, w.heap.size + 1 + 1 + 1 = b := ⟨_, rfl⟩
 obtain ⟨b4, hb4⟩ : ∃ b, w.heap.size + 1 + 1 + 1 + 1 = b := ⟨_, rfl⟩
 rw [hb4, hb3, hb2, hb1] at HI
 rw [hb4, hb3, hb2, hb1]
 have HBS : Hid (w.heap.size < b1 ∧ w.heap.size < b2 ∧ w.heap.size < b3 ∧ w.heap.size < b4 ∧ b4 ≠ b1) := by unfold Hid; omega
 clear hb1 hb2 hb3 hb4
 go_loopw [12] (fun iv wr => ∃ k : Nat, k ≤ n ∧ iv = .int .i64 k ∧ Hid (IxR b1 b2 b3 k (rfM (l.take k)) (fun _ => none) (fun _ => none) wr) ∧ Hid (Frm (· = b1) w0 wr)) (fun iv _ => n - (RowKit.intOf iv).toNat)
 case atStart => exact ⟨0, Nat.zero_le _, by first | rfl | go_num, by unfold Hid; rw [List.take_zero, rfM_nil]; exact HI.out.1, Frm.refl _ _⟩
 case round =>
  obtain ⟨k, hk, rfl, hix, hfr⟩ := hrel
  have X4 : Hid (Bx b4 #[.map (some b1), .map (some b2), .map (some b3)] 127 wr) := (hfr.out.block b4 HI.out.2.2.2.lt HBS.out.2.2.2.2).trans HI.out.2.2.2
  have X0 : Hid (Bx w.heap.size #[.map none, .map none, .map none] 127 wr) := (hfr.out.block w.heap.size HI.out.2.2.1.lt (by have := HBS.out.1; omega)).trans HI.out.2.2.1
  have BW : Hid (Below w.heap.size w wr) := HI.out.2.1.trans (hfr.out.below HI.out.2.1.size (fun k hk => by have := HBS.out.1; omega))
  have hl4 := X4.out.lt
  by_cases hlt : k < n
  ·have hkl : k < l.length := by rw [HN2.out]; exact hlt
   obtain ⟨g, o, c', hA, hg, hx⟩ := (H.out.below BW.out).at_ (k := k) (by exact hkl)
   rw [HN2.out] at hA
   simp only [Value.slice.injEq, true_and] at hA
   obtain ⟨rfl, rfl⟩ := hA
   have hf := HZ.out.get hkl
   have hkk := HK.out _ (List.getElem_mem hkl)
   have HTK : Hid (rfM (l.take (k + 1)) = setK (rfM (l.take k)) (fxRef l[k]) (some true)) := by unfold Hid; rw [List.take_succ_eq_append_getElem hkl, rfM_snoc]
   obtain ⟨f, hfe⟩ : ∃ f, l[k] = f := ⟨_, rfl⟩
   rw [hfe] at hx hf hkk HTK
   obtain ⟨y0, y1, y2, y3, y4, y5, y6⟩ := hx
   obtain ⟨⟨x0, x1, x2⟩, _⟩ := X4.out.cells3
   obtain ⟨wa, hwa⟩ : ∃ W, wr.alloc (.cells #[.string (sb f.id), .string (sb f.rg), .int .u8 (f.kd : Int), .int .i64 f.lat, .int .i64 f.lon, .int .i64 f.el, .int .i64 f.ra] 73) = W := ⟨_, rfl⟩
   have BA : Hid (Below wr.heap.size wr wa) := by rw [← hwa]; exact (Below.refl _ _).alloc (Nat.le_refl _) _
   have HWA := Lib.hid hwa
   have IA := Lib.hid (hix.out.below BA.out)
   have FA : Hid (Frm (· = b1) w0 wa) := hfr.out.trans (Frm.of_below BA.out)
   have had := add_any b1 b2 b3 k _ _ _ f wa IA.out (by omega) hf.1 hf.2 hkk.1 hkk.2.1 hkk.2.2
   unfold ixV at had
   rw [← HTK.out] at had
   have HAD := Lib.hid had
   clear hwa hfe hix hfr had hf hkk HTK X0
   go_wp2_with fail
   rw [HWA.out]
   refine HAD.out.mono ?_
   rintro e w2 ⟨rfl, hix2, hfr2⟩
   have HX2 := Lib.hid hix2
   have HF2 := Lib.hid (FA.out.trans hfr2)
   clear hix2 hfr2 HAD x0 x1 x2 y0 y1 y2 y3 y4 y5 y6
   go_wp2
   go_roundw
   case rel => exact ⟨k + 1, hlt, by go_num, HX2, HF2⟩
   case measure => simp [RowKit.intOf]; omega
  ·have hkn : k = n := by omega
   subst hkn
   have HIX : Hid (IxR b1 b2 b3 k (rfM l) (fun _ => none) (fun _ => none) wr) := by
    have h1 := hix.out
    rw [List.take_of_length_le (by rw [HN2.out]; exact Nat.le_refl _)] at h1
    exact h1
   obtain ⟨⟨x0, x1, x2⟩, _⟩ := X4.out.cells3
   obtain ⟨⟨y0, y1, y2⟩, y3, y4, y5⟩ := X0.out.cells3
   have hx := Bx.set3 X0.out (.map (some b1)) (.map (some b2)) (.map (some b3))
   have HF : Hid (Frm (· = w.heap.size) wr (((wr.setCell ⟨w.heap.size, 0, none⟩ (.map (some b1))).setCell ⟨w.heap.size, 1, none⟩ (.map (some b2))).setCell ⟨w.heap.size, 2, none⟩ (.map (some b3)))) :=
    ⟨rfl, rfl, rfl, by simp, fun i hi hn => by rw [heap_setCell_other _ ⟨w.heap.size, 2, none⟩ i _ hn, heap_setCell_other _ ⟨w.heap.size, 1, none⟩ i _ hn, heap_setCell_other _ ⟨w.heap.size, 0, none⟩ i _ hn]⟩
   have HB : Hid (Below w.heap.size w (((wr.setCell ⟨w.heap.size, 0, none⟩ (.map (some b1))).setCell ⟨w.heap.size, 1, none⟩ (.map (some b2))).setCell ⟨w.heap.size, 2, none⟩ (.map (some b3)))) := bel_set3 BW.out (Nat.le_refl _) _ _ _
   clear hix hfr
   go_wp2
   obtain ⟨⟨z0, z1, z2⟩, _⟩ := hx.cells3
   refine bodyPost_ret (v := ixV b1 b2 b3) (by unfold ixV; simp [results, Tryz.results42, go_sem, z0, z1, z2]) rfl ?_
   obtain ⟨q1, q2, q3, _, _⟩ := HBS.out
   exact ⟨b1, b2, b3, rfl, HIX.out.frm HF.out (by omega) (by omega) (by omega), HB.out, by omega, by omega, by omega⟩
end Go.Proofs.YtidkhnfhkofmoaaGreatDoor
