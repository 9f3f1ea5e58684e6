/-
  The law ImageSections: true at any bytes.
-/
import Derived.Test.YtidkhnfhkofmoaaGreatDoorMG29
namespace Go.Proofs.YtidkhnfhkofmoaaGreatDoor
open Go.RowKit Go.Lib Go.Sort
set_option linter.unusedVariables false
set_option linter.unusedSimpArgs false
theorem rheader_ok (v : Value) (bs : List UInt8) (w : World) (h : BsV w v bs) (hL : bs.length ≤ 1000000) :
  Calls Tryz.prog 15 #[v] w fun e w' => e = .returned (.tuple #[.agg (hdI (rdRes bs).2.1), .int .i64 (rdRes bs).1]) ∧ Below w.heap.size w w' := rimHeader_any v bs w (fun W hW => qmForm_any v bs W (h.below hW) hL)
theorem header_ok (v : Value) (bs : List UInt8) (w : World) (h : BsV w v bs) (hL : bs.length ≤ 1000000) :
  Calls Tryz.prog 14 #[v] w fun e w' => e = .returned (.tuple #[.agg (hdI (rdRes bs).2.1), .int .i64 (rdRes bs).1]) ∧ Below w.heap.size w w' := imHeader_any v bs w (fun W hW => (imRead_any v bs W (h.below hW) hL).mono fun e w' h => h.form)
theorem seccells_at (L : List Sec) : ∀ (k : Nat) (h : k < L.length) (j : Nat), j < 4 → (seccells L)[k * 4 + j]? = (secC L[k])[j]? := by
 induction L with
 | nil => intro k h; simp at h
 | cons p l ih =>
  intro k h j hj
  show (secC p ++ seccells l)[k * 4 + j]? = _
  have hl : (secC p).length = 4 := rfl
  cases k with
  | zero => rw [Nat.zero_mul, Nat.zero_add, List.getElem?_append_left (by omega)]; rfl
  | succ k =>
   rw [List.getElem?_append_right (by omega), hl, show (k + 1) * 4 + j - 4 = k * 4 + j by omega]
   exact ih k (by simpa using h) j hj
theorem imSec_at {w : World} {sv : Value} {L : List Sec} (h : Rd w 4 sv L.length (seccells L)) {k : Nat} (hk : k < L.length) : ∃ g o c, sv = .slice (some ⟨g, o, none⟩) L.length c ∧ g < w.heap.size ∧ w.cell? ⟨g, o + k * 4, none⟩ = some (.int .u8 (L[k].1 : Int)) ∧ w.cell? ⟨g, o + k * 4 + 1, none⟩ = some (.int .i64 (L[k].2.1 : Int)) ∧ w.cell? ⟨g, o + k * 4 + 2, none⟩ = some (.int .i64 (L[k].2.2.1 : Int)) ∧ w.cell? ⟨g, o + k * 4 + 3, none⟩ = some (.int .i64 (L[k].2.2.2 : Int)) := by
 obtain ⟨-, A, c, rfl, -, -, hx⟩ := h
 obtain ⟨g, o, rfl, hg, hc⟩ := hx (by omega)
 refine ⟨g, o, c, rfl, hg, ?_, ?_, ?_, ?_⟩
 ·exact hc (k * 4 + 0) _ (seccells_at L k hk 0 (by omega))
 ·have := hc (k * 4 + 1) _ (seccells_at L k hk 1 (by omega)); rwa [← Nat.add_assoc] at this
 ·have := hc (k * 4 + 2) _ (seccells_at L k hk 2 (by omega)); rwa [← Nat.add_assoc] at this
 ·have := hc (k * 4 + 3) _ (seccells_at L k hk 3 (by omega)); rwa [← Nat.add_assoc] at this
set_option maxRecDepth 100000 in
set_option maxHeartbeats 16000000 in
theorem imageSections_walk (v : Value) (bs : List UInt8) (w : World) (E : Env w) (h : BsV w v bs) :
  Calls Tryz.prog 4 #[v] w fun e w' => e = .returned (.bool true) ∧ Below w.heap.size w w' := by
 have haw := awake19_any w E
 obtain ⟨A, c, rfl, hc, hm, hx⟩ := h
 have HX := Lib.hid hx
 have HM := Lib.hid hm
 unfold maxLen at hm
 have hlt : (bs.take 3000).length = min bs.length 3000 := by rw [List.length_take]; omega
 have HLT := Lib.hid hlt
 obtain ⟨n, hn⟩ : ∃ n, bs.length = n := ⟨_, rfl⟩
 obtain ⟨k, hk⟩ : ∃ k, min n 3000 = k := ⟨_, rfl⟩
 have hkn : k ≤ n := by omega
 have hk3 : k ≤ 3000 := by omega
 have hmi : min (n : Int) 3000 = (k : Int) := by omega
 have hkc : (k : Int) ≤ (c : Int) := by omega
 have HN := Lib.hid hn
 have HK : Hid ((bs.take 3000).length = k) := by unfold Hid; rw [hlt, hn]; exact hk
 rw [hn] at hc hx ⊢
 clear hx hlt hn hk HLT
 go_enter Tryz.func4, Tryz.ntmps4
 go_wp2_with fail
 refine haw.mono ?_
 rintro e w1 ⟨rfl, hb1⟩
 have B1 := Lib.hid hb1
 have V1 : BsV w1 (.slice A k c) (bs.take 3000) := by
  refine ⟨A, c, by rw [HK.out], by rw [HK.out]; omega, HM.out, fun h0 => ?_⟩
  rw [HK.out] at h0
  obtain ⟨g, o, hA, hb⟩ := HX.out (by have := HN.out; omega)
  exact ⟨g, o, hA, (hb.below hb1).take 3000⟩
 have hL3 : (bs.take 3000).length ≤ 1000000 := by rw [HK.out]; omega
 have hse := imSections_any _ (bs.take 3000) w1 ((imRead_any _ (bs.take 3000) w1 V1 hL3).mono fun e w' h => h.form)
 have HSE := Lib.hid hse
 have HV1 := Lib.hid V1
 have HL3 := Lib.hid hL3
 clear haw hb1 V1 hL3 hse
 go_wp2_with fail
 refine HSE.out.mono ?_
 rintro e w2 ⟨sv, rfl, hrd2, hb2⟩
 have B2 := Lib.hid (Below.then_ B1.out hb2)
 have V2 := HV1.out.below hb2
 have HV2 := Lib.hid V2
 have R2 := Lib.hid hrd2
 have hse := Lib.hid (rsections_ok _ (bs.take 3000) w2 V2 HL3.out)
 obtain ⟨As, cs, hsv, -, -⟩ := hrd2.form
 clear HSE hrd2 hb2 V2 HV1 B1
 subst hsv
 go_wp2_with fail
 refine hse.out.mono ?_
 rintro e w3 ⟨sv3, rfl, hrd3, hb3⟩
 have B3 := Lib.hid (Below.then_ B2.out hb3)
 have V3 := HV2.out.below hb3
 have HV3 := Lib.hid V3
 have R3 := Lib.hid (R2.out.below hb3)
 have S3 := Lib.hid hrd3
 have hhe := Lib.hid (header_ok _ (bs.take 3000) w3 V3 HL3.out)
 obtain ⟨At, ct, hsv, -, -⟩ := hrd3.form
 clear hse hrd3 hb3 V3 HV2 B2 R2
 subst hsv
 obtain ⟨L, hLL⟩ : ∃ L, (rdRes (bs.take 3000)).2.2 = L := ⟨_, rfl⟩
 obtain ⟨er, her⟩ : ∃ x, (rdRes (bs.take 3000)).1 = x := ⟨_, rfl⟩
 obtain ⟨hd, hhd⟩ : ∃ x, (rdRes (bs.take 3000)).2.1 = x := ⟨_, rfl⟩
 rw [hLL] at R3 S3 ⊢
 rw [her] at hhe ⊢
 rw [hhd] at hhe
 have HER := Lib.hid her
 have HHD := Lib.hid hhd
 clear hLL her hhd
 go_wp2_with fail
 refine hhe.out.mono ?_
 rintro e w4 ⟨rfl, hb4⟩
 unfold hdI
 obtain ⟨w5, hw5⟩ : ∃ W, w4.alloc (.cells #[.string (sb hd.nm), .int .i64 hd.cy, .int .i64 hd.fr, .int .i64 hd.tu, .int .i64 hd.la, .int .i64 hd.lo] 25) = W := ⟨_, rfl⟩
 obtain ⟨q5, hq5⟩ : ∃ x, w4.heap.size = x := ⟨_, rfl⟩
 have hb5 : Below w4.heap.size w4 w5 := by rw [← hw5]; exact (Below.refl _ _).alloc (Nat.le_refl _) _
 have X5 : Hid (Bx q5 #[.string (sb hd.nm), .int .i64 hd.cy, .int .i64 hd.fr, .int .i64 hd.tu, .int .i64 hd.la, .int .i64 hd.lo] 25 w5) := by rw [← hw5, ← hq5]; exact Bx.last w4 _ _
 have hbx := Below.then_ hb4 hb5
 have B5 := Lib.hid (Below.then_ B3.out hbx)
 have V5 := HV3.out.below hbx
 have R5 := Lib.hid (R3.out.below hbx)
 have S5 := Lib.hid (S3.out.below hbx)
 have hhe2 := rheader_ok _ (bs.take 3000) w5 V5 HL3.out
 rw [HER.out, HHD.out] at hhe2
 have HHE := Lib.hid hhe2
 have HW5 := Lib.hid hw5
 have HQ5 := Lib.hid hq5
 clear hhe hhe2 hb4 hb5 hbx V5 HV3 B3 R3 S3 hw5 hq5
 go_upto_region 7 with fail
 rw [HW5.out, HQ5.out]
 clear HW5 HQ5
 go_wp2_with fail
 refine HHE.out.mono ?_
 rintro e w6 ⟨rfl, hb6⟩
 unfold hdI
 obtain ⟨w7, hw7⟩ : ∃ W, w6.alloc (.cells #[.string (sb hd.nm), .int .i64 hd.cy, .int .i64 hd.fr, .int .i64 hd.tu, .int .i64 hd.la, .int .i64 hd.lo] 25) = W := ⟨_, rfl⟩
 obtain ⟨q7, hq7⟩ : ∃ x, w6.heap.size = x := ⟨_, rfl⟩
 have hb7 : Below w6.heap.size w6 w7 := by rw [← hw7]; exact (Below.refl _ _).alloc (Nat.le_refl _) _
 have Y7 : Hid (Bx q7 #[.string (sb hd.nm), .int .i64 hd.cy, .int .i64 hd.fr, .int .i64 hd.tu, .int .i64 hd.la, .int .i64 hd.lo] 25 w7) := by rw [← hw7, ← hq7]; exact Bx.last w6 _ _
 have hbx := Below.then_ hb6 hb7
 have B7 := Lib.hid (Below.then_ B5.out hbx)
 have X7 := Lib.hid (X5.out.via hbx)
 have R7 := Lib.hid (R5.out.below hbx)
 have S7 := Lib.hid (S5.out.below hbx)
 have HW7 := Lib.hid hw7
 have HQ7 := Lib.hid hq7
 clear HHE hb6 hb7 hbx B5 X5 R5 S5 hw7 hq7 HER HHD
 go_upto_region 8 with fail
 rw [HW7.out, HQ7.out]
 clear HW7 HQ7
 have x0 := X7.out.cell 0 (u := .string (sb hd.nm)) rfl
 have x1 := X7.out.cell 1 (u := .int .i64 hd.cy) rfl
 have x2 := X7.out.cell 2 (u := .int .i64 hd.fr) rfl
 have x3 := X7.out.cell 3 (u := .int .i64 hd.tu) rfl
 have x4 := X7.out.cell 4 (u := .int .i64 hd.la) rfl
 have x5 := X7.out.cell 5 (u := .int .i64 hd.lo) rfl
 have xl := X7.out.lt
 have y0 := Y7.out.cell 0 (u := .string (sb hd.nm)) rfl
 have y1 := Y7.out.cell 1 (u := .int .i64 hd.cy) rfl
 have y2 := Y7.out.cell 2 (u := .int .i64 hd.fr) rfl
 have y3 := Y7.out.cell 3 (u := .int .i64 hd.tu) rfl
 have y4 := Y7.out.cell 4 (u := .int .i64 hd.la) rfl
 have y5 := Y7.out.cell 5 (u := .int .i64 hd.lo) rfl
 have yl := Y7.out.lt
 obtain ⟨N, hN⟩ : ∃ N, L.length = N := ⟨_, rfl⟩
 have hN0 : N ≤ 9223372036854775807 := by
  rw [← hN]
  obtain ⟨-, A1, c1, h1, h2, h3, -⟩ := R7.out
  unfold maxLen at h3
  omega
 rw [hN]
 have HNL := Lib.hid hN
 clear hN
 go_wp2_with fail
 clear x0 x1 x2 x3 x4 x5 xl y0 y1 y2 y3 y4 y5 yl
 go_loopw [61] (fun iv wr => ∃ j : Nat, j ≤ N ∧ iv = .int .i64 (j : Int) ∧ Hid (Below w7.heap.size w7 wr)) (fun iv _ => N - (intOf iv).toNat)
 case atStart => exact ⟨0, Nat.zero_le _, rfl, Below.refl _ _⟩
 case round =>
  obtain ⟨j, hj, rfl, hbr⟩ := hrel
  by_cases hlt : j < N
  ·have hjl : j < L.length := by rw [HNL.out]; exact hlt
   obtain ⟨g1, o1, c1, e1, l1, k0, k1, k2, k3⟩ := imSec_at (R7.out.below hbr.out) hjl
   obtain ⟨g2, o2, c2, e2, l2, m0, m1, m2, m3⟩ := imSec_at (S7.out.below hbr.out) hjl
   simp only [Value.slice.injEq] at e1 e2
   obtain ⟨rfl, -, rfl⟩ := e1
   obtain ⟨rfl, -, rfl⟩ := e2
   obtain ⟨p0, p1, p2, p3⟩ := L[j]
   have hji : (j : Int) < (N : Int) := by omega
   go_wp2_with fail
   go_quiet (fail)
   go_wp2
   go_roundw
   case rel => exact ⟨j + 1, hlt, by first | rfl | go_num, below_drewN' hbr.out _⟩
   case measure => simp [intOf]; omega
  ·go_wp2
   go_ret
   exact ⟨rfl, Below.then_ B7.out hbr.out⟩
end Go.Proofs.YtidkhnfhkofmoaaGreatDoor
