/-
  The law ImageDecodes: true at any database.
-/
import Derived.Test.YtfdhinbojbohcaaGreatDoorMG11
import Derived.Test.YtfdhinbojbohcaaGreatDoorFew
import Derived.Test.YtfdhinbojbohcaaGreatDoorMG21
import Derived.Test.YtfdhinbojbohcaaGreatDoorMG28
import Derived.Test.YtfdhinbojbohcaaGreatDoorMG10
namespace Go.Proofs.YtfdhinbojbohcaaGreatDoor
open Go.RowKit Go.Lib Go.Sort
set_option linter.unusedVariables false
set_option linter.unusedSimpArgs false
set_option maxRecDepth 100000 in
set_option maxHeartbeats 4000000 in
theorem verify_ok (v : Value) (bs : List UInt8) (D : DbD) (L : List Sec) (w : World) (hT : LegT w) (h : BsV w v bs) (hL : bs.length ≤ 1000000) (hr : rdRes bs = (0, D.hd, L)) (hD : dbOfL (bs.take (bs.length - 4)) L = D) (hz : SzD D) (h0 : dbE D = 0) :
    Calls Tryz.prog 12 #[v] w fun e w' => e = .returned (.int .i64 0) ∧ RowKit.Below w.heap.size w w' := by
  have hd := decode_ok v bs D L w hT h hL hr hD hz
  obtain ⟨A, c, rfl, -, -, -⟩ := h
  have HD := Lib.hid hd
  have H0 := Lib.hid h0
  clear hd hT hL hr hD hz h0
  go_enter Tryz.func12, Tryz.ntmps12
  go_wp2_with fail
  refine HD.out.mono ?_
  rintro e w1 ⟨hb, ⟨hne, -⟩ | ⟨-, f, a, p, rfl, hv⟩⟩
  · exact absurd H0.out hne
  · obtain ⟨Cf, kf, hcf, -, -⟩ := hv.fx.1.form
    obtain ⟨Ca, ka, hca, -, -⟩ := hv.aw.form
    obtain ⟨Cp, kp, hcp, -, -⟩ := hv.pr.form
    subst hcf hca hcp
    rw [dbI_dbA]
    obtain ⟨nf, hnf⟩ : ∃ n, D.fx.length = n := ⟨_, rfl⟩
    obtain ⟨na, hna⟩ : ∃ n, D.aw.length = n := ⟨_, rfl⟩
    obtain ⟨np, hnp⟩ : ∃ n, D.pr.length = n := ⟨_, rfl⟩
    rw [hnf, hna, hnp]
    obtain ⟨w2, hw2⟩ : ∃ W, w1.alloc (.cells (dbA D.hd (.slice Cf nf kf) (.slice Ca na ka) (.slice Cp np kp)) 30) = W := ⟨_, rfl⟩
    have hb2 : RowKit.Below w1.heap.size w1 w2 := by rw [← hw2]; exact (RowKit.Below.refl _ _).alloc (Nat.le_refl _) _
    have HB := Lib.hid (Below.then_ hb hb2)
    unfold dbA at hw2 ⊢
    have HW2 := Lib.hid hw2
    clear HD hb hb2 hw2 hv hnf hna hnp H0
    go_upto_region 2 with fail
    rw [HW2.out]
    clear HW2
    go_wp2
    go_ret
    exact ⟨rfl, HB.out⟩
set_option maxRecDepth 100000 in
set_option maxHeartbeats 16000000 in
theorem imageDecodes_walk (D : DbD) (f a p : Value) (w : World) (E : Env w) (hT : LegT w) (h : DbV w f a p D) (hz : SzL D.fx) :
    Calls Tryz.prog 4 #[.agg (dbC D.hd f a p).toArray] w fun e w' => e = .returned (.bool true) ∧ Below w.heap.size w w' := by
  obtain ⟨Af, cf, rfl, hcf, hmf⟩ := h.fx.1.form
  obtain ⟨Aa, ca, rfl, hca, hma⟩ := h.aw.form
  obtain ⟨Ap, cp, rfl, hcp, hmp⟩ := h.pr.form
  obtain ⟨n, hn⟩ : ∃ n, D.fx.length = n := ⟨_, rfl⟩
  obtain ⟨na, hna⟩ : ∃ n, D.aw.length = n := ⟨_, rfl⟩
  obtain ⟨np, hnp⟩ : ∃ n, D.pr.length = n := ⟨_, rfl⟩
  rw [hn, hna, hnp] at h ⊢
  have HH := Lib.hid h
  rw [dbA_eq]
  unfold dbA
  obtain ⟨w1, hw1⟩ : ∃ W, w.alloc (.cells (dbA D.hd (.slice Af n cf) (.slice Aa na ca) (.slice Ap np cp)) 30) = W := ⟨_, rfl⟩
  obtain ⟨q, hq⟩ : ∃ q, w.heap.size = q := ⟨_, rfl⟩
  have B1 : Hid (Below w.heap.size w w1) := by rw [← hw1]; exact (Below.refl _ _).alloc (Nat.le_refl _) _
  have X1 : Hid (Bx q (dbA D.hd (.slice Af n cf) (.slice Aa na ca) (.slice Ap np cp)) 30 w1) := by rw [← hw1, ← hq]; exact Bx.last w _ _
  have haw := Lib.hid (awake19_any w1 (E.below B1.out) (hT.below B1.out))
  have HT := Lib.hid hT
  have HZ := Lib.hid hz
  unfold dbA at hw1
  have HW1 := Lib.hid hw1
  have HQ := Lib.hid hq
  clear h hw1 hn hna hnp hq hcf hmf hca hma hcp hmp hT E hz
  go_enter Tryz.func4, Tryz.ntmps4
  go_upto_region 1 with fail
  rw [HW1.out, HQ.out]
  clear HW1
  go_wp2_with fail
  refine haw.out.mono ?_
  rintro e w2 ⟨rfl, hb2⟩
  have B2 := Lib.hid (Below.then_ B1.out hb2)
  have X2 := Lib.hid (X1.out.via hb2)
  obtain ⟨⟨x0, x1, x2, x3, x4, x5, x6, x7, x8⟩, _⟩ := Bx.cells9 X2.out
  have xl := X2.out.lt
  have hfew := fewDb_any D (.slice Af n cf) (.slice Aa na ca) (.slice Ap np cp) w2 (HH.out.below B2.out)
  rw [dbA_eq] at hfew
  unfold dbA at hfew
  have HFEW := Lib.hid hfew
  clear hb2 haw hfew X1 B1
  go_wp2_with fail
  refine HFEW.out.mono ?_
  rintro e w3 ⟨⟨f3, a3, p3, rfl, hv3⟩, hb3⟩
  have B3 := Lib.hid (Below.then_ B2.out hb3)
  obtain ⟨Bf, df, rfl, hcf, hmf⟩ := hv3.fx.1.form
  obtain ⟨Ba, da, rfl, hca, hma⟩ := hv3.aw.form
  obtain ⟨Bp, dp, rfl, hcp, hmp⟩ := hv3.pr.form
  obtain ⟨D3, hD3⟩ : ∃ X, fewD D = X := ⟨_, rfl⟩
  have hh3 : D3.hd = D.hd := by rw [← hD3]; rfl
  have hsz := fewD_sz HZ.out
  have hbd0 : dbE D3 = 0 → (dbB D3).length ≤ 900000 := fun h0 => by rw [← hD3] at h0 ⊢; exact fewD_len (dbE_b h0)
  rw [hD3] at hv3 hcf hca hcp hsz ⊢
  obtain ⟨n3, hn3⟩ : ∃ n, D3.fx.length = n := ⟨_, rfl⟩
  obtain ⟨na3, hna3⟩ : ∃ n, D3.aw.length = n := ⟨_, rfl⟩
  obtain ⟨np3, hnp3⟩ : ∃ n, D3.pr.length = n := ⟨_, rfl⟩
  rw [hn3, hna3, hnp3] at hv3 ⊢
  have X3 := Lib.hid (X2.out.via hb3)
  have W3 : Hid (Bx q (dbA D.hd (.slice Bf n3 df) (.slice Ba na3 da) (.slice Bp np3 dp)) 30 (w3.setRow q (dbA D.hd (.slice Bf n3 df) (.slice Ba na3 da) (.slice Bp np3 dp)))) := setRow_heap _ q _ _ 30 (0, 0) X3.out
  have B9 : Hid (Below w.heap.size w (w3.setRow q (dbA D.hd (.slice Bf n3 df) (.slice Ba na3 da) (.slice Bp np3 dp)))) := row_below B3.out HQ.out
  have hv9 := hv3.but (But.setRow w3 q (dbA D.hd (.slice Bf n3 df) (.slice Ba na3 da) (.slice Bp np3 dp))) (box9_of X3.out)
  have hone : (dbA D.hd (.slice Bf n3 df) (.slice Ba na3 da) (.slice Bp np3 dp)).all (·.oneCell') = true := by simp [dbA, Value.oneCell']
  obtain ⟨W9, hW9⟩ : ∃ W, w3.setRow q (dbA D.hd (.slice Bf n3 df) (.slice Ba na3 da) (.slice Bp np3 dp)) = W := ⟨_, rfl⟩
  rw [hW9] at W3 B9 hv9
  have hen := imEncode_any D3 _ _ _ W9 (HT.out.below B9.out) hv9 hsz hbd0
  rw [hh3, dbA_eq] at hen
  have HV9 := Lib.hid hv9
  have HSZ := Lib.hid hsz
  rw [dbA_eq]
  have HEN := Lib.hid hen
  have HW9 := Lib.hid hW9
  have HBD := Lib.hid hbd0
  have HH3 := Lib.hid hh3
  have H3 : Hid (D3.fx.length = n3 ∧ D3.aw.length = na3 ∧ D3.pr.length = np3) := ⟨hn3, hna3, hnp3⟩
  have hnl : (n3 : Int) ≤ 9223372036854775807 ∧ (na3 : Int) ≤ 9223372036854775807 ∧ (np3 : Int) ≤ 9223372036854775807 := by unfold maxLen at hmf hma hmp; omega
  have HNL := Lib.hid hnl
  clear hb3 hen B2 X2 HFEW hv3 x0 x1 x2 x3 x4 x5 x6 x7 x8 xl hcf hmf hca hma hcp hmp hD3 hh3 hsz hbd0 hn3 hna3 hnp3 hv9 hW9 hnl HZ
  go_upto_region 4 with (refine wpList_plain rfl fun _ hK => wp_store_row 30 (.tmp 1) (.tmp 10) rfl q (dbA D.hd (.slice Bf n3 df) (.slice Ba na3 da) (.slice Bp np3 dp)) rfl rfl 30 _ X3.out infoDB9 rfl hone (hK _ _ ?_))
  rw [HW9.out]
  clear HW9 hone X3
  obtain ⟨⟨x0, x1, x2, x3, x4, x5, x6, x7, x8⟩, _⟩ := Bx.cells9 W3.out
  have xl := W3.out.lt
  have hen := HEN.out
  unfold dbA at hen
  have HEN2 := Lib.hid hen
  clear hen HEN
  go_wp2_with fail
  refine HEN2.out.mono ?_
  rintro e w4 (⟨hne, rfl, hb4⟩ | ⟨hz0, vp, rfl, hnew⟩)
  · have B4 := Lib.hid (Below.then_ B9.out hb4)
    have X4 := Lib.hid (W3.out.via hb4)
    have hx0 : (dbE D3 == 0) = false := beq_eq_false_iff_ne.2 hne
    have hck := dbCheck_any D3 _ _ _ w4 (HT.out.below B4.out) (HV9.out.below hb4) HSZ.out
    rw [HH3.out, dbA_eq] at hck
    obtain ⟨x, hx⟩ : ∃ x, dbE D3 = x := ⟨_, rfl⟩
    rw [hx] at hx0 hck ⊢
    unfold dbA at hck
    have HCK := Lib.hid hck
    clear hne hx hb4 HEN2 x0 x1 x2 x3 x4 x5 x6 x7 x8 xl hck
    obtain ⟨⟨x0, x1, x2, x3, x4, x5, x6, x7, x8⟩, _⟩ := Bx.cells9 X4.out
    have xl := X4.out.lt
    go_wp2_with fail
    refine HCK.out.mono ?_
    rintro e w5 ⟨rfl, hb5⟩
    have B5 := Lib.hid (Below.then_ B4.out hb5)
    clear HCK hb5 x0 x1 x2 x3 x4 x5 x6 x7 x8 xl X4
    go_wp2
    go_ret
    exact ⟨rfl, B5.out⟩
  · obtain ⟨gb, cc, rfl, hcc, hcm, -, hba, hb4⟩ := hnew
    have B4 := Lib.hid (Below.then_ B9.out hb4)
    have hbd := HBD.out hz0
    have hok := dbE_b hz0
    have hso := seal_ok (dbB D3)
    have hls : (sealL (dbB D3)).length = (dbB D3).length + 4 := by unfold sealL; rw [List.length_append]; rfl
    have hres : rdRes (sealL (dbB D3)) = (0, D3.hd, dbSecs D3) := rdRes_some (by omega) hso.1 (by rw [hso.2]; exact rdF_db hok hbd)
    have hdb : dbOfL ((sealL (dbB D3)).take ((sealL (dbB D3)).length - 4)) (dbSecs D3) = D3 := by rw [hso.2]; exact dbOfL_db hok hbd
    have hL1 : (sealL (dbB D3)).length ≤ 1000000 := by omega
    have HVV : Hid (∀ W, RowKit.Below w4.heap.size w4 W → BsV W (.slice (some ⟨gb, 0, none⟩) (sealL (dbB D3)).length cc) (sealL (dbB D3))) := fun W hW => BsV.below ⟨_, cc, rfl, hcc, hcm, fun _ => ⟨gb, 0, rfl, hba⟩⟩ hW
    have HDE : Hid (∀ W, RowKit.Below w4.heap.size w4 W → Calls Tryz.prog 7 #[.slice (some ⟨gb, 0, none⟩) (sealL (dbB D3)).length cc] W (DecPost D3 W)) := fun W hW => decode_ok _ _ D3 _ W (HT.out.below (Below.then_ B4.out hW)) (HVV.out W hW) hL1 hres hdb HSZ.out
    have HVE : Hid (∀ W, RowKit.Below w4.heap.size w4 W → Calls Tryz.prog 12 #[.slice (some ⟨gb, 0, none⟩) (sealL (dbB D3)).length cc] W fun e w' => e = .returned (.int .i64 0) ∧ RowKit.Below W.heap.size W w') := fun W hW => verify_ok _ _ D3 _ W (HT.out.below (Below.then_ B4.out hW)) (HVV.out W hW) hL1 hres hdb HSZ.out hz0
    obtain ⟨M, hM⟩ : ∃ M, (sealL (dbB D3)).length = M := ⟨_, rfl⟩
    rw [hM] at HDE HVE ⊢
    have HZ0 := Lib.hid hz0
    have X4 := Lib.hid (W3.out.via hb4)
    have V4 := Lib.hid (HV9.out.below hb4)
    have hde := Lib.hid (HDE.out w4 (RowKit.Below.refl _ _))
    clear hcc hcm hba hb4 hso hls hres hL1 hM hz0 hbd hok hdb HEN2 x0 x1 x2 x3 x4 x5 x6 x7 x8 xl W3 HBD HVV HDE HV9
    go_wp2_with fail
    refine hde.out.mono ?_
    rintro e w5 ⟨hb5, ⟨hne, -⟩ | ⟨-, f5, a5, p5, rfl, hv5⟩⟩
    · exact absurd HZ0.out hne
    · obtain ⟨Cf, kf, hcf5, -, -⟩ := hv5.fx.1.form
      obtain ⟨Ca, ka, hca5, -, -⟩ := hv5.aw.form
      obtain ⟨Cp, kp, hcp5, -, -⟩ := hv5.pr.form
      subst hcf5 hca5 hcp5
      rw [dbI_dbA, HH3.out, H3.out.1, H3.out.2.1, H3.out.2.2]
      rw [H3.out.1, H3.out.2.1, H3.out.2.2] at hv5
      obtain ⟨w6, hw6⟩ : ∃ W, w5.alloc (.cells (dbA D.hd (.slice Cf n3 kf) (.slice Ca na3 ka) (.slice Cp np3 kp)) 30) = W := ⟨_, rfl⟩
      obtain ⟨q6, hq6⟩ : ∃ q, w5.heap.size = q := ⟨_, rfl⟩
      have hb6 : RowKit.Below w5.heap.size w5 w6 := by rw [← hw6]; exact (RowKit.Below.refl _ _).alloc (Nat.le_refl _) _
      have Y6 : Hid (Bx q6 (dbA D.hd (.slice Cf n3 kf) (.slice Ca na3 ka) (.slice Cp np3 kp)) 30 w6) := by rw [← hw6, ← hq6]; exact Bx.last w5 _ _
      have hb46 := Below.then_ hb5 hb6
      have B6 := Lib.hid (Below.then_ B4.out hb46)
      have X6 := Lib.hid (X4.out.via hb46)
      have hsm := sameDb_eq D3 _ _ _ _ _ _ w6 (hv5.below hb6) (V4.out.below hb46)
      rw [HH3.out] at hsm
      have HVE6 := Lib.hid (fun W (hW : RowKit.Below w6.heap.size w6 W) => HVE.out W (Below.then_ hb46 hW))
      unfold dbA at hw6 hsm ⊢
      have HSM := Lib.hid hsm
      have HW6 := Lib.hid hw6
      have HQ6 := Lib.hid hq6
      clear hde hb5 hb6 hb46 hw6 hq6 hsm hv5 X4 V4 HVE B4
      go_upto_region 8 with fail
      rw [HW6.out, HQ6.out]
      clear HW6 HQ6
      obtain ⟨⟨x0, x1, x2, x3, x4, x5, x6, x7, x8⟩, _⟩ := Bx.cells9 X6.out
      have xl := X6.out.lt
      obtain ⟨⟨y0, y1, y2, y3, y4, y5, y6, y7, y8⟩, _⟩ := Bx.cells9 Y6.out
      have yl := Y6.out.lt
      go_wp2_with fail
      refine HSM.out.mono ?_
      rintro e w7 ⟨rfl, hb7⟩
      have B7 := Lib.hid (Below.then_ B6.out hb7)
      have hve := Lib.hid (HVE6.out w7 hb7)
      clear HSM hb7 x0 x1 x2 x3 x4 x5 x6 x7 x8 xl y0 y1 y2 y3 y4 y5 y6 y7 y8 yl X6 Y6 HVE6 B6
      go_wp2_with fail
      refine hve.out.mono ?_
      rintro e w8 ⟨rfl, hb8⟩
      have B8 := Lib.hid (Below.then_ B7.out hb8)
      clear hve hb8 B7
      go_wp2
      go_ret
      exact ⟨rfl, B8.out⟩
end Go.Proofs.YtfdhinbojbohcaaGreatDoor
