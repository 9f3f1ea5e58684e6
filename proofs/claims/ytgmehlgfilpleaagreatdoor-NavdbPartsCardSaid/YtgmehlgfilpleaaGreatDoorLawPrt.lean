/-
  The law NavdbParts: true at any database.
-/
import Derived.Test.YtgmehlgfilpleaaGreatDoorMG25
import Derived.Test.YtgmehlgfilpleaaGreatDoorFew
import Derived.Test.YtgmehlgfilpleaaGreatDoorMG24
import Derived.Test.YtgmehlgfilpleaaGreatDoorDbW
import Derived.Test.YtgmehlgfilpleaaGreatDoorPrtP
namespace Go.Proofs.YtgmehlgfilpleaaGreatDoor
open Go.RowKit
set_option linter.unusedVariables false
set_option linter.unusedSimpArgs false
/-- the state of the walk -/
structure PrS (w : World) (q : Nat) (h : ImHd) (D : DbD) (f a p : Value) (wr : World) : Prop where
  x1 : Bx q (dbA h f a p) 30 wr
  hv : DbV wr f a p D
  be : Below w.heap.size w wr
theorem PrS.below {w : World} {q : Nat} {h : ImHd} {D : DbD} {f a p : Value} {wr w' : World} (s : PrS w q h D f a p wr) (hb : Below wr.heap.size wr w') : PrS w q h D f a p w' := ⟨s.x1.via hb, s.hv.below hb, Below.then_ s.be hb⟩
set_option maxRecDepth 100000 in
set_option maxHeartbeats 80000000 in
theorem navdbParts_walk (D : DbD) (f a p : Value) (w : World) (E : Env w) (hT : LegT w) (h : DbV w f a p D) (hz : SzL D.fx) :
    Calls Tryz.prog 4 #[.agg (dbC D.hd f a p).toArray] w fun e w' => e = .returned (.bool true) ∧ Below w.heap.size w w' := by
  obtain ⟨Af, cf, rfl, hcf, hmf⟩ := h.fx.1.form
  obtain ⟨Aa, ca, rfl, hca, hma⟩ := h.aw.form
  obtain ⟨Ap, cp, rfl, hcp, hmp⟩ := h.pr.form
  obtain ⟨n, hn⟩ : ∃ n, D.fx.length = n := ⟨_, rfl⟩
  obtain ⟨na, hna⟩ : ∃ n, D.aw.length = n := ⟨_, rfl⟩
  obtain ⟨np, hnp⟩ : ∃ n, D.pr.length = n := ⟨_, rfl⟩
  rw [hn, hna, hnp] at h ⊢
  have HH := Lib.hid h
  rw [dbA_eq]
  unfold dbA
  obtain ⟨w1, hw1⟩ : ∃ W, w.alloc (.cells (dbA D.hd (.slice Af n cf) (.slice Aa na ca) (.slice Ap np cp)) 30) = W := ⟨_, rfl⟩
  obtain ⟨q, hq⟩ : ∃ q, w.heap.size = q := ⟨_, rfl⟩
  have B1 : Hid (Below w.heap.size w w1) := by rw [← hw1]; exact (Below.refl _ _).alloc (Nat.le_refl _) _
  have X1 : Hid (Bx q (dbA D.hd (.slice Af n cf) (.slice Aa na ca) (.slice Ap np cp)) 30 w1) := by rw [← hw1, ← hq]; exact Bx.last w _ _
  have haw := Lib.hid (awake18_any w1 (E.below B1.out) (hT.below B1.out))
  have HT := Lib.hid hT
  have HZ := Lib.hid hz
  unfold dbA at hw1
  have HW1 := Lib.hid hw1
  have HQ := Lib.hid hq
  clear h hw1 hn hna hnp hq hcf hmf hca hma hcp hmp hT E hz
  go_enter Tryz.func4, Tryz.ntmps4
  go_upto_region 1 with fail
  rw [HW1.out, HQ.out]
  clear HW1
  go_wp2_with fail
  refine haw.out.mono ?_
  rintro e w2 ⟨rfl, hb2⟩
  have B2 := Lib.hid (Below.then_ B1.out hb2)
  have X2 := Lib.hid (X1.out.via hb2)
  obtain ⟨⟨x0, x1, x2, x3, x4, x5, x6, x7, x8⟩, _⟩ := Bx.cells9 X2.out
  have xl := X2.out.lt
  have hfew := fewDb_any D (.slice Af n cf) (.slice Aa na ca) (.slice Ap np cp) w2 (HH.out.below B2.out)
  rw [dbA_eq] at hfew
  unfold dbA at hfew
  have HFEW := Lib.hid hfew
  clear hb2 haw hfew X1 B1
  go_wp2_with fail
  refine HFEW.out.mono ?_
  rintro e w3 ⟨⟨f3, a3, p3, rfl, hv3⟩, hb3⟩
  have B3 := Lib.hid (Below.then_ B2.out hb3)
  obtain ⟨Bf, df, rfl, hcf, hmf⟩ := hv3.fx.1.form
  obtain ⟨Ba, da, rfl, hca, hma⟩ := hv3.aw.form
  obtain ⟨Bp, dp, rfl, hcp, hmp⟩ := hv3.pr.form
  obtain ⟨D3, hD3⟩ : ∃ X, fewD D = X := ⟨_, rfl⟩
  have hh3 : D3.hd = D.hd := by rw [← hD3]; rfl
  have hsz := fewD_sz HZ.out
  rw [hD3] at hv3 hcf hca hcp hsz ⊢
  obtain ⟨n3, hn3⟩ : ∃ n, D3.fx.length = n := ⟨_, rfl⟩
  obtain ⟨na3, hna3⟩ : ∃ n, D3.aw.length = n := ⟨_, rfl⟩
  obtain ⟨np3, hnp3⟩ : ∃ n, D3.pr.length = n := ⟨_, rfl⟩
  rw [hn3, hna3, hnp3] at hv3 ⊢
  have X3 := Lib.hid (X2.out.via hb3)
  have W3 : Hid (Bx q (dbA D.hd (.slice Bf n3 df) (.slice Ba na3 da) (.slice Bp np3 dp)) 30 (w3.setRow q (dbA D.hd (.slice Bf n3 df) (.slice Ba na3 da) (.slice Bp np3 dp)))) := setRow_heap _ q _ _ 30 (0, 0) X3.out
  have B9 : Hid (Below w.heap.size w (w3.setRow q (dbA D.hd (.slice Bf n3 df) (.slice Ba na3 da) (.slice Bp np3 dp)))) := row_below B3.out HQ.out
  have hv9 := hv3.but (But.setRow w3 q (dbA D.hd (.slice Bf n3 df) (.slice Ba na3 da) (.slice Bp np3 dp))) (box9_of X3.out)
  have hone : (dbA D.hd (.slice Bf n3 df) (.slice Ba na3 da) (.slice Bp np3 dp)).all (·.oneCell') = true := by simp [dbA, Value.oneCell']
  obtain ⟨W9, hW9⟩ : ∃ W, w3.setRow q (dbA D.hd (.slice Bf n3 df) (.slice Ba na3 da) (.slice Bp np3 dp)) = W := ⟨_, rfl⟩
  rw [hW9] at W3 B9 hv9
  have hck1 : ∀ W, RowKit.Below W9.heap.size W9 W → Calls Tryz.prog 10 #[.agg (dbC D3.hd (.slice Bf n3 df) (.slice Ba na3 da) (.slice Bp np3 dp)).toArray] W fun e w' => e = .returned (.int .i64 (dbE D3)) ∧ RowKit.Below W.heap.size W w' := fun W hW => dbCheck_any D3 _ _ _ W (HT.out.below (Below.then_ B9.out hW)) (hv9.below hW) hsz
  obtain ⟨er, her⟩ : ∃ e, dbE D3 = e := ⟨_, rfl⟩
  have HER := Lib.hid her
  rw [hh3, dbA_eq, her] at hck1
  unfold dbA at hck1
  have HC1 := Lib.hid hck1
  have HH3 := Lib.hid hh3
  have HSZ := Lib.hid hsz
  have HN := Lib.hid hn3
  have HNA := Lib.hid hna3
  have HNP := Lib.hid hnp3
  have HV9 := Lib.hid hv9
  have hl24 : D3.fx.length ≤ 1000000000000 := by rw [← hD3]; show (D.fx.take 24).length ≤ _; rw [List.length_take]; omega
  have HL24 := Lib.hid hl24
  rw [dbA_eq]
  have HW9 := Lib.hid hW9
  have hnl : (n3 : Int) ≤ 9223372036854775807 ∧ (na3 : Int) ≤ 9223372036854775807 ∧ (np3 : Int) ≤ 9223372036854775807 := by unfold maxLen at hmf hma hmp; omega
  have HNL := Lib.hid hnl
  have HCF := Lib.hid (show n3 ≤ df ∧ na3 ≤ da ∧ np3 ≤ dp ∧ (df : Int) ≤ 9223372036854775807 ∧ (da : Int) ≤ 9223372036854775807 ∧ (dp : Int) ≤ 9223372036854775807 by unfold maxLen at hmf hma hmp; omega)
  clear hb3 hck1 her B2 X2 HFEW hv3 x0 x1 x2 x3 x4 x5 x6 x7 x8 xl hcf hmf hca hma hcp hmp hD3 hh3 hsz hn3 hna3 hnp3 hv9 hW9 hnl HZ hl24
  go_upto_region 4 with (refine wpList_plain rfl fun _ hK => wp_store_row 30 (.tmp 1) (.tmp 26) rfl q (dbA D.hd (.slice Bf n3 df) (.slice Ba na3 da) (.slice Bp np3 dp)) rfl rfl 30 _ X3.out infoDB9 rfl hone (hK _ _ ?_))
  rw [HW9.out]
  clear HW9 hone X3
  obtain ⟨⟨x0, x1, x2, x3, x4, x5, x6, x7, x8⟩, _⟩ := Bx.cells9 W3.out
  have xl := W3.out.lt
  go_wp2_with fail
  refine (HC1.out _ (Below.refl _ _)).mono ?_
  rintro e w4 ⟨rfl, hb4⟩
  have S4 : Hid (PrS w q D.hd D3 (.slice Bf n3 df) (.slice Ba na3 da) (.slice Bp np3 dp) w4) := ⟨W3.out.via hb4, HV9.out.below hb4, Below.then_ B9.out hb4⟩
  clear hb4 HC1 x0 x1 x2 x3 x4 x5 x6 x7 x8 xl W3 HV9
  by_cases he0 : er = 0
  case neg =>
    have e0 : (er != 0) = true := bne_iff_ne.2 he0
    have BE := Lib.hid S4.out.be
    clear he0
    go_wp2
    go_ret
    exact ⟨by first | rfl | simp, BE.out⟩
  case pos =>
  subst he0
  have PFX := Lib.hid (fun k (hk : k < D3.fx.length) => And.intro (parts_fx HER.out hk) (parts_find HER.out hk))
  have PAW := Lib.hid (fun k (hk : k < D3.aw.length) => parts_aw HER.out hk)
  have PPR := Lib.hid (fun k (hk : k < D3.pr.length) => parts_pr HER.out hk)
  have PTO : Hid (∀ f, f ∈ D3.fx → toE D.hd.la D.hd.lo f.lat f.lon = 0) := fun f hf => by rw [← HH3.out]; exact parts_to HER.out hf
  have NPT : Hid (∀ (t : ByteArray) (f : Fx) W, DbV W (.slice Bf n3 df) (.slice Ba na3 da) (.slice Bp np3 dp) D3 → findL D3.fx (bl t) = some f → f ∈ D3.fx → Calls Tryz.prog 13 #[.agg #[.string (sb D.hd.nm), .int .i64 D.hd.cy, .int .i64 D.hd.fr, .int .i64 D.hd.tu, .int .i64 D.hd.la, .int .i64 D.hd.lo, .slice Bf n3 df, .slice Ba na3 da, .slice Bp np3 dp], .string t] W fun e w' => e = .returned (.tuple #[.agg #[.int .i64 (toP D.hd.la D.hd.lo f.lat f.lon).1, .int .i64 (toP D.hd.la D.hd.lo f.lat f.lon).2], .int .i64 0]) ∧ Below W.heap.size W w') := fun t f W h hf hm => by
    have := npoint_any D.hd (.slice Bf n3 df) (.slice Ba na3 da) (.slice Bp np3 dp) D3.fx t f W h.fx.1 HSZ.out.fx HL24.out hf
    rw [PTO.out f hm] at this
    exact this
  have NFX : Hid (∀ (t : ByteArray) W, DbV W (.slice Bf n3 df) (.slice Ba na3 da) (.slice Bp np3 dp) D3 → Calls Tryz.prog 18 #[.agg #[.string (sb D.hd.nm), .int .i64 D.hd.cy, .int .i64 D.hd.fr, .int .i64 D.hd.tu, .int .i64 D.hd.la, .int .i64 D.hd.lo, .slice Bf n3 df, .slice Ba na3 da, .slice Bp np3 dp], .string t] W (NfPost (findL D3.fx (bl t)) W)) := fun t W h => nfix_any D.hd (.slice Bf n3 df) (.slice Ba na3 da) (.slice Bp np3 dp) D3.fx t W h.fx.1 HSZ.out.fx HL24.out
  clear HER
  obtain ⟨⟨x0, x1, x2, x3, x4, x5, x6, x7, x8⟩, _⟩ := Bx.cells9 S4.out.x1
  have xl := S4.out.x1.lt
  go_wp2_with fail
  go_loopw [33] (fun iv wr => ∃ k : Nat, k ≤ n3 ∧ iv = .int .i64 (k : Int) ∧ Hid (PrS w q D.hd D3 (.slice Bf n3 df) (.slice Ba na3 da) (.slice Bp np3 dp) wr)) (fun iv _ => n3 - (intOf iv).toNat)
  case atStart => exact ⟨0, Nat.zero_le _, rfl, S4.out⟩
  case round =>
    obtain ⟨k, hk, rfl, hs⟩ := hrel
    clear x0 x1 x2 x3 x4 x5 x6 x7 x8 xl S4
    by_cases hlt : k < n3
    · have hkl : k < D3.fx.length := by rw [HN.out]; exact hlt
      obtain ⟨⟨hfe, hte⟩, hfd⟩ := PFX.out k hkl
      obtain ⟨g, o, c', hA, hg0, hat⟩ := FxsR.at_ (by have := hs.out.hv.fx.1; rw [← HN.out] at this; exact this : FxsR wr (.slice Bf D3.fx.length df) D3.fx) hkl
      rw [HN.out] at hA
      simp only [Value.slice.injEq, true_and] at hA
      obtain ⟨rfl, rfl⟩ := hA
      have hok := hs.out.hv.fx.2 _ (List.getElem_mem hkl)
      have hsz := HSZ.out.fx.get hkl
      have hme := List.getElem_mem hkl
      obtain ⟨f, hf⟩ : ∃ f, D3.fx[k] = f := ⟨_, rfl⟩
      rw [hf] at hat hfe hfd hok hsz hme
      have HTE := Lib.hid (PTO.out f hme)
      have hto := To_any D.hd.la D.hd.lo f.lat f.lon
      have hnp := fun W h => NPT.out (sb (fxRef f)) f W h (by rw [bl_sb]; exact hfd) hme
      obtain ⟨px, hpx⟩ : ∃ x, (toP D.hd.la D.hd.lo f.lat f.lon).1 = x := ⟨_, rfl⟩
      obtain ⟨py, hpy⟩ : ∃ x, (toP D.hd.la D.hd.lo f.lat f.lon).2 = x := ⟨_, rfl⟩
      rw [hpx, hpy, HTE.out] at hto
      rw [hpx, hpy] at hnp
      have hrf := fun W => fixRef_any f W hsz.1 hsz.2
      unfold FRefPost at hrf
      have hck := fun W => checkF_any f W hok.1 hok.2.1
      rw [hfe] at hck
      have HTO := Lib.hid hto
      have HPN := Lib.hid hnp
      have HRF := Lib.hid hrf
      have HCK := Lib.hid hck
      obtain ⟨y0, y1, y2, y3, y4, y5, y6⟩ := hat
      have hki : (k : Int) < (n3 : Int) := by omega
      obtain ⟨wA, hwA⟩ : ∃ W, wr.alloc (.cells #[.string (sb f.id), .string (sb f.rg), .int .u8 (f.kd : Int), .int .i64 f.lat, .int .i64 f.lon, .int .i64 f.el, .int .i64 f.ra] 38) = W := ⟨_, rfl⟩
      have BA : Hid (Below wr.heap.size wr wA) := by rw [← hwA]; exact (Below.refl _ _).alloc (Nat.le_refl _) _
      obtain ⟨q7, hq7⟩ : ∃ q, wr.heap.size = q := ⟨_, rfl⟩
      have FA : Hid (FxBox wA q7 f) := by rw [← hwA, ← hq7]; exact heap_alloc_new wr _
      have SA := Lib.hid (hs.out.below BA.out)
      have HWA := Lib.hid hwA
      have HQ7 := Lib.hid hq7
      clear hq7 hf hwA hs hok hsz hfe hfd hte hpx hpy hme hto hnp hrf hck HTE
      go_upto_region 9 with fail
      rw [HWA.out, HQ7.out]
      clear HWA y0 y1 y2 y3 y4 y5 y6 hg0 BA
      obtain ⟨y0, y1, y2, y3, y4, y5, y6⟩ := FA.out.cells
      have yl := lt_heap FA.out
      obtain ⟨⟨x0, x1, x2, x3, x4, x5, x6, x7, x8⟩, _⟩ := Bx.cells9 SA.out.x1
      have xl := SA.out.x1.lt
      go_wp2_with fail
      refine (HTO.out _).mono ?_
      rintro e w5 ⟨rfl, hb5⟩
      have S5 := Lib.hid (SA.out.below hb5)
      have F5 := Lib.hid (FxBox.below FA.out hb5)
      clear hb5 SA FA HTO x0 x1 x2 x3 x4 x5 x6 x7 x8 xl y0 y1 y2 y3 y4 y5 y6 yl
      obtain ⟨w6, hw6⟩ : ∃ W, w5.alloc (.cells #[.int .i64 px, .int .i64 py] 40) = W := ⟨_, rfl⟩
      obtain ⟨q5, hq5⟩ : ∃ q, w5.heap.size = q := ⟨_, rfl⟩
      have B6 : Hid (Below w5.heap.size w5 w6) := by rw [← hw6]; exact (Below.refl _ _).alloc (Nat.le_refl _) _
      have X6 : Hid (Bx q5 #[.int .i64 px, .int .i64 py] 40 w6) := by rw [← hw6, ← hq5]; exact Bx.last w5 _ _
      have S6 := Lib.hid (S5.out.below B6.out)
      have F6 := Lib.hid (FxBox.below F5.out B6.out)
      have HW6 := Lib.hid hw6
      have HQ5 := Lib.hid hq5
      clear hw6 hq5 S5 F5 B6
      go_upto_region 10 with fail
      rw [HW6.out, HQ5.out]
      clear HW6
      go_cut [7, 8] (fun a b wx => ∃ q8, a = .pointer (some ⟨q8, 0, none⟩) ∧ b = .int .i64 0 ∧ Hid (Bx q8 #[.int .i64 px, .int .i64 py] 40 wx) ∧ Hid (Below w6.heap.size w6 wx))
      case first =>
        obtain ⟨y0, y1, y2, y3, y4, y5, y6⟩ := F6.out.cells
        have yl := lt_heap F6.out
        obtain ⟨⟨x0, x1, x2, x3, x4, x5, x6, x7, x8⟩, _⟩ := Bx.cells9 S6.out.x1
        have xl := S6.out.x1.lt
        go_region_law (first | (go_simp; go_at_call 14; refine (HRF.out _).mono ?_; rintro e wa ⟨rfl, hba⟩; have HBA : Hid (Below w6.heap.size w6 wa) := Below.then_ (by repeat (first | exact Below.refl _ _ | with_reducible refine Below.drew ?_ | with_reducible refine Below.alloc ?_ (by simp) _)) hba; (try (have XE : Hid (Bx w6.heap.size #[.int .i64 0, .int .i64 0] 40 wa) := Bx.via hba (Bx.last w6.drew #[.int .i64 0, .int .i64 0] 40); have e0 := XE.out.cell 0 (u := .int .i64 0) rfl; have e1 := XE.out.cell 1 (u := .int .i64 0) rfl; have e2 := XE.out.free 0; have e3 := XE.out.free 1; have e4 := XE.out.lt)); clear hba; have SAA := Lib.hid (S6.out.below HBA.out); have a0 := SAA.out.x1.cell 0 (u := .string (sb D.hd.nm)) rfl; have a1 := SAA.out.x1.cell 1 (u := .int .i64 D.hd.cy) rfl; have a2 := SAA.out.x1.cell 2 (u := .int .i64 D.hd.fr) rfl; have a3 := SAA.out.x1.cell 3 (u := .int .i64 D.hd.tu) rfl; have a4 := SAA.out.x1.cell 4 (u := .int .i64 D.hd.la) rfl; have a5 := SAA.out.x1.cell 5 (u := .int .i64 D.hd.lo) rfl; have a6 := SAA.out.x1.cell 6 (u := .slice (some ⟨g, o, none⟩) n3 df) rfl; have a7 := SAA.out.x1.cell 7 (u := .slice Ba na3 da) rfl; have a8 := SAA.out.x1.cell 8 (u := .slice Bp np3 dp) rfl; have al := SAA.out.x1.lt; dsimp only) | (go_simp; go_at_call 13; refine (HPN.out _ (S6.out.hv.below (by repeat (first | exact Below.refl _ _ | exact HBA.out | with_reducible refine Below.drew ?_ | with_reducible refine Below.alloc ?_ (by first | (simp; done) | (have := HBA.out.size; simp; omega)) _)))).mono ?_; rintro e wb ⟨rfl, hbb⟩; have HBB : Hid (Below w6.heap.size w6 wb) := Below.then_ (by repeat (first | exact Below.refl _ _ | exact HBA.out | with_reducible refine Below.drew ?_ | with_reducible refine Below.alloc ?_ (by first | (simp; done) | (have := HBA.out.size; simp; omega)) _)) hbb; (first | (have XF : Hid (Bx w6.heap.size #[.int .i64 0, .int .i64 0] 40 wb) := Bx.via hbb XE.out; have f0 := XF.out.cell 0 (u := .int .i64 0) rfl; have f1 := XF.out.cell 1 (u := .int .i64 0) rfl; have f2 := XF.out.free 0; have f3 := XF.out.free 1; have f4 := XF.out.lt) | (have XF : Hid (Bx wa.heap.size #[.int .i64 0, .int .i64 0] 40 wb) := Bx.via hbb (Bx.last wa #[.int .i64 0, .int .i64 0] 40); have f0 := XF.out.cell 0 (u := .int .i64 0) rfl; have f1 := XF.out.cell 1 (u := .int .i64 0) rfl; have f2 := XF.out.free 0; have f3 := XF.out.free 1; have f4 := XF.out.lt) | skip); clear hbb; dsimp only))
        all_goals
          clear HRF HPN HCK HT NPT NFX PTO PPR PAW PFX SAA a0 a1 a2 a3 a4 a5 a6 a7 a8 al x0 x1 x2 x3 x4 x5 x6 x7 x8 xl y0 y1 y2 y3 y4 y5 y6 yl
          go_wp2
          go_meet
          refine ⟨_, rfl, rfl, ?_, ?_⟩
          · first | exact Bx.last _ _ _ | exact (XF.out.set 0 (.int .i64 px)).set 1 (.int .i64 py)
          · unfold Hid
            repeat (first | exact HBB.out | with_reducible refine Below.setCell ?_ (by first | (simp; done) | (have := HBA.out.size; simp; omega)) _ | with_reducible refine Below.alloc ?_ HBB.out.size _)
      case rest =>
        obtain ⟨q8, rfl, rfl, X7, B7⟩ := hcut
        obtain ⟨w7, rfl⟩ : ∃ w7, w7 = wc := ⟨_, rfl⟩
        have S7 := Lib.hid (S6.out.below B7.out)
        have F7 := Lib.hid (FxBox.below F6.out B7.out)
        have Y7 := Lib.hid (X6.out.via B7.out)
        clear S6 F6 X6 B7 HPN HRF HQ5
        obtain ⟨y0, y1, y2, y3, y4, y5, y6⟩ := F7.out.cells
        have yl := lt_heap F7.out
        go_wp2_with fail
        refine (HCK.out _).mono ?_
        rintro e w8 ⟨rfl, hb8⟩
        have S8 := Lib.hid (S7.out.below hb8)
        have X8 := Lib.hid (X7.out.via hb8)
        have Y8 := Lib.hid (Y7.out.via hb8)
        obtain ⟨hn1, hn2, hn4⟩ := HNL.out
        clear hb8 HCK y0 y1 y2 y3 y4 y5 y6 yl S7 F7 X7 Y7
        have p0 := X8.out.cell 0 (u := .int .i64 px) rfl
        have p1 := X8.out.cell 1 (u := .int .i64 py) rfl
        have pl := X8.out.lt
        have t0 := Y8.out.cell 0 (u := .int .i64 px) rfl
        have t1 := Y8.out.cell 1 (u := .int .i64 py) rfl
        have tl := Y8.out.lt
        go_wp2
        go_roundw
        case rel => exact ⟨k + 1, hlt, by go_num, S8⟩
        case measure => simp [intOf]; omega
    · have hki : ¬ (k : Int) < (n3 : Int) := by omega
      have S5 := Lib.hid hs.out
      clear hs hlt hk
      obtain ⟨⟨x0, x1, x2, x3, x4, x5, x6, x7, x8⟩, _⟩ := Bx.cells9 S5.out.x1
      have xl := S5.out.x1.lt
      go_wp2_with fail
      go_loopw [73] (fun iv wr => ∃ k : Nat, k ≤ na3 ∧ iv = .int .i64 (k : Int) ∧ Hid (PrS w q D.hd D3 (.slice Bf n3 df) (.slice Ba na3 da) (.slice Bp np3 dp) wr)) (fun iv _ => na3 - (intOf iv).toNat)
      case atStart => exact ⟨0, Nat.zero_le _, rfl, S5.out⟩
      case round =>
        clear hki
        obtain ⟨k, hk, rfl, hs⟩ := hrel
        clear x0 x1 x2 x3 x4 x5 x6 x7 x8 xl S5
        by_cases hlt : k < na3
        · have hkl : k < D3.aw.length := by rw [HNA.out]; exact hlt
          obtain ⟨hce, hrf⟩ := PAW.out k hkl
          have HR := Lib.hid hs.out.hv.aw
          obtain ⟨g, o, c', av, hA, hgl, hat, hnl, hps⟩ := AwsD.at_ (by have := HR.out; rw [← HNA.out] at this; exact this : AwsD wr (.slice Ba D3.aw.length da) D3.aw) hkl
          rw [HNA.out] at hA
          simp only [Value.slice.injEq, true_and] at hA
          obtain ⟨rfl, rfl⟩ := hA
          obtain ⟨x, hx⟩ : ∃ x, D3.aw[k] = x := ⟨_, rfl⟩
          rw [hx] at hat hnl hps hce hrf
          obtain ⟨nm, ps⟩ := x
          simp only at hnl hps hce hrf
          obtain ⟨y0, y1⟩ := hat
          simp only at y0
          obtain ⟨Av, cv, rfl, hcv, hmv⟩ := hps.form
          unfold maxLen at hmv
          obtain ⟨m, hm⟩ : ∃ m, ps.length = m := ⟨_, rfl⟩
          have HPS := Lib.hid hps
          rw [hm] at hcv y1 HPS
          have HM := Lib.hid hm
          have HRF := Lib.hid hrf
          have HCA : Hid (∀ W, PtsR W (.slice Av m cv) ps → Calls Tryz.prog 16 #[.agg #[.string (sb nm), .slice Av m cv]] W fun e w' => e = .returned (.int .i64 0) ∧ Below W.heap.size W w') := fun W h => by
            have := check_any (sb nm) _ ps W h hnl
            rw [bl_sb, hce] at this; exact this
          have hki : (k : Int) < (na3 : Int) := by omega
          obtain ⟨wA, hwA⟩ : ∃ W, wr.alloc (.cells #[.string (sb nm), .slice Av m cv] 48) = W := ⟨_, rfl⟩
          have BA : Hid (Below wr.heap.size wr wA) := by rw [← hwA]; exact (Below.refl _ _).alloc (Nat.le_refl _) _
          obtain ⟨q7, hq7⟩ : ∃ q, wr.heap.size = q := ⟨_, rfl⟩
          have XA : Hid (Bx q7 #[.string (sb nm), .slice Av m cv] 48 wA) := by rw [← hwA, ← hq7]; exact Bx.last wr _ _
          have SA := Lib.hid (hs.out.below BA.out)
          have PA := Lib.hid (HPS.out.below BA.out)
          have HWA := Lib.hid hwA
          have HQ7 := Lib.hid hq7
          clear hq7 hx hwA hs hnl hps HR hm HPS hce hrf BA
          go_upto_region 17 with fail
          rw [HWA.out, HQ7.out]
          clear HWA y0 y1 hgl
          have y0 := XA.out.cell 0 (u := .string (sb nm)) rfl
          have y1 := XA.out.cell 1 (u := .slice Av m cv) rfl
          have yl := XA.out.lt
          go_wp2_with fail
          refine (HCA.out _ PA.out).mono ?_
          rintro e w5 ⟨rfl, hb5⟩
          have S5 := Lib.hid (SA.out.below hb5)
          have X5 := Lib.hid (XA.out.via hb5)
          have P5 := Lib.hid (PA.out.below hb5)
          clear hb5 SA XA PA HCA y0 y1 yl
          have y1 := X5.out.cell 1 (u := .slice Av m cv) rfl
          have yl := X5.out.lt
          obtain ⟨hn1, hn2, hn4⟩ := HNL.out
          go_wp2_with fail
          go_loopw [83] (fun iv wx => ∃ i : Nat, i ≤ m ∧ iv = .int .i64 (i : Int) ∧ Hid (PrS w q D.hd D3 (.slice Bf n3 df) (.slice (some ⟨g, o, none⟩) na3 da) (.slice Bp np3 dp) wx) ∧ Hid (PtsR wx (.slice Av m cv) ps)) (fun iv _ => m - (intOf iv).toNat)
          case atStart => exact ⟨0, Nat.zero_le _, rfl, S5.out, P5.out⟩
          case round =>
            obtain ⟨i, hi, rfl, hs, hpx⟩ := hrel
            clear y1 yl S5 X5 P5
            by_cases hlm : i < m
            · have hil : i < ps.length := by rw [HM.out]; exact hlm
              obtain ⟨g2, o2, c2', hA2, hgl2, u0, u1, u2, u3⟩ := PtsR.at_ (by have := hpx.out; rw [← HM.out] at this; exact this : PtsR wr (.slice Av ps.length cv) ps) hil
              rw [HM.out] at hA2
              simp only [Value.slice.injEq, true_and] at hA2
              obtain ⟨rfl, rfl⟩ := hA2
              obtain ⟨f, hfm, hff⟩ := HRF.out _ (List.getElem_mem hil)
              obtain ⟨p, hp⟩ : ∃ p, ps[i] = p := ⟨_, rfl⟩
              rw [hp] at u0 u1 u2 u3 hff
              obtain ⟨pr, pl, ph, pd⟩ := p
              simp only at u0 u1 u2 u3 hff
              have HPN := Lib.hid (fun W h => NPT.out (sb pr) f W h (by rw [bl_sb]; exact hff) hfm)
              have him : (i : Int) < (m : Int) := by omega
              obtain ⟨wB, hwB⟩ : ∃ W, wr.alloc (.cells #[.string (sb pr), .int .i64 pl, .int .i64 ph, .int .u8 (pd : Int)] 53) = W := ⟨_, rfl⟩
              have BB : Hid (Below wr.heap.size wr wB) := by rw [← hwB]; exact (Below.refl _ _).alloc (Nat.le_refl _) _
              obtain ⟨q8, hq8⟩ : ∃ q, wr.heap.size = q := ⟨_, rfl⟩
              have XB : Hid (Bx q8 #[.string (sb pr), .int .i64 pl, .int .i64 ph, .int .u8 (pd : Int)] 53 wB) := by rw [← hwB, ← hq8]; exact Bx.last wr _ _
              have SB := Lib.hid (hs.out.below BB.out)
              have PB := Lib.hid (hpx.out.below BB.out)
              have HWB := Lib.hid hwB
              have HQ8 := Lib.hid hq8
              clear hwB hq8 hs hpx hp hff hfm BB
              go_upto_region 22 with fail
              rw [HWB.out, HQ8.out]
              clear HWB u0 u1 u2 u3 hgl2
              have u0 := XB.out.cell 0 (u := .string (sb pr)) rfl
              have ul := XB.out.lt
              obtain ⟨⟨x0, x1, x2, x3, x4, x5, x6, x7, x8⟩, _⟩ := Bx.cells9 SB.out.x1
              have xl := SB.out.x1.lt
              go_wp2_with fail
              refine (HPN.out _ SB.out.hv).mono ?_
              rintro e w6 ⟨rfl, hb6⟩
              have S6 := Lib.hid (SB.out.below hb6)
              have P6 := Lib.hid (PB.out.below hb6)
              clear hb6 HPN x0 x1 x2 x3 x4 x5 x6 x7 x8 xl u0 ul SB PB XB
              go_wp2
              go_roundw
              case rel => exact ⟨i + 1, hlm, by go_num, S6.out.below ((Below.refl _ _).alloc (Nat.le_refl _) _), P6.out.below ((Below.refl _ _).alloc (Nat.le_refl _) _)⟩
              case measure => simp [intOf]; omega
            · have him : ¬ (i : Int) < (m : Int) := by omega
              have S6 := Lib.hid hs.out
              clear hs hpx
              go_wp2
              go_roundw
              case rel => exact ⟨k + 1, hlt, by go_num, S6⟩
              case measure => simp [intOf]; omega
        · have hki : ¬ (k : Int) < (na3 : Int) := by omega
          have S5 := Lib.hid hs.out
          clear hs hlt hk
          obtain ⟨⟨x0, x1, x2, x3, x4, x5, x6, x7, x8⟩, _⟩ := Bx.cells9 S5.out.x1
          have xl := S5.out.x1.lt
          go_wp2_with fail
          go_loopw [101] (fun iv wr => ∃ k : Nat, k ≤ np3 ∧ iv = .int .i64 (k : Int) ∧ Hid (PrS w q D.hd D3 (.slice Bf n3 df) (.slice Ba na3 da) (.slice Bp np3 dp) wr)) (fun iv _ => np3 - (intOf iv).toNat)
          case atStart => exact ⟨0, Nat.zero_le _, rfl, S5.out⟩
          case round =>
            clear hki
            obtain ⟨k, hk, rfl, hs⟩ := hrel
            clear x0 x1 x2 x3 x4 x5 x6 x7 x8 xl S5
            by_cases hlt : k < np3
            · have hkl : k < D3.pr.length := by rw [HNP.out]; exact hlt
              obtain ⟨hce, hrf⟩ := PPR.out k hkl
              have HR := Lib.hid hs.out.hv.pr
              obtain ⟨g, o, c', pv, hA, hgl, hat, hap, hnm, hkd, hpa⟩ := PrcsR.at_ (by have := HR.out; rw [← HNP.out] at this; exact this : PrcsR wr (.slice Bp D3.pr.length dp) D3.pr) hkl
              rw [HNP.out] at hA
              simp only [Value.slice.injEq, true_and] at hA
              obtain ⟨rfl, rfl⟩ := hA
              have hsz := HSZ.out.pr _ (List.getElem_mem hkl)
              obtain ⟨x, hx⟩ : ∃ x, D3.pr[k] = x := ⟨_, rfl⟩
              rw [hx] at hat hap hnm hkd hpa hce hrf hsz
              obtain ⟨ap, nm, kd, pa⟩ := x
              simp only at hap hnm hkd hpa hsz hrf
              obtain ⟨y0, y1, y2, y3⟩ := hat
              simp only at y0 y1 y2
              obtain ⟨Av, cv, rfl, hcv, hmv⟩ := hpa.form
              unfold maxLen at hmv
              obtain ⟨m, hm⟩ : ∃ m, pa.length = m := ⟨_, rfl⟩
              have HPS := Lib.hid hpa
              rw [hm] at hcv y3 HPS
              have HM := Lib.hid hm
              have HRF := Lib.hid hrf
              have HCA : Hid (∀ W, LegT W → PasR W (.slice Av m cv) pa → Calls Tryz.prog 17 #[.agg #[.string (sb ap), .string (sb nm), .int .u8 (kd : Int), .slice Av m cv]] W fun e w' => e = .returned (.int .i64 0) ∧ Below W.heap.size W w') := fun W hT h => by
                have := prcCheck_any (.slice Av m cv) ⟨ap, nm, kd, pa⟩ W hT h hkd hap hnm hsz.2 hsz.1
                rw [hce] at this; exact this
              have hki : (k : Int) < (np3 : Int) := by omega
              obtain ⟨wA, hwA⟩ : ∃ W, wr.alloc (.cells #[.string (sb ap), .string (sb nm), .int .u8 (kd : Int), .slice Av m cv] 57) = W := ⟨_, rfl⟩
              have BA : Hid (Below wr.heap.size wr wA) := by rw [← hwA]; exact (Below.refl _ _).alloc (Nat.le_refl _) _
              obtain ⟨q7, hq7⟩ : ∃ q, wr.heap.size = q := ⟨_, rfl⟩
              have XA : Hid (Bx q7 #[.string (sb ap), .string (sb nm), .int .u8 (kd : Int), .slice Av m cv] 57 wA) := by rw [← hwA, ← hq7]; exact Bx.last wr _ _
              have SA := Lib.hid (hs.out.below BA.out)
              have PA := Lib.hid (HPS.out.below BA.out)
              have HWA := Lib.hid hwA
              have HQ7 := Lib.hid hq7
              clear hq7 hx hwA hs hap hnm hpa hsz HR hm HPS hce hrf BA
              go_upto_region 30 with fail
              rw [HWA.out, HQ7.out]
              clear HWA y0 y1 y2 y3 hgl
              obtain ⟨y0, y1, y2, y3⟩ := XA.out.cells4
              have yl := XA.out.lt
              go_wp2_with fail
              refine (HCA.out _ (HT.out.below SA.out.be) PA.out).mono ?_
              rintro e w5 ⟨rfl, hb5⟩
              have S5 := Lib.hid (SA.out.below hb5)
              have X5 := Lib.hid (XA.out.via hb5)
              have P5 := Lib.hid (PA.out.below hb5)
              clear hb5 SA XA PA HCA y0 y1 y2 y3 yl
              obtain ⟨y0, y1, y2, y3⟩ := X5.out.cells4
              have yl := X5.out.lt
              obtain ⟨hn1, hn2, hn4⟩ := HNL.out
              go_wp2_with fail
              go_loopw [111] (fun iv wx => ∃ i : Nat, i ≤ m ∧ iv = .int .i64 (i : Int) ∧ Hid (PrS w q D.hd D3 (.slice Bf n3 df) (.slice Ba na3 da) (.slice (some ⟨g, o, none⟩) np3 dp) wx) ∧ Hid (PasR wx (.slice Av m cv) pa)) (fun iv _ => m - (intOf iv).toNat)
              case atStart => exact ⟨0, Nat.zero_le _, rfl, S5.out, P5.out⟩
              case round =>
                obtain ⟨i, hi, rfl, hs, hpx⟩ := hrel
                clear y0 y1 y2 y3 yl S5 X5 P5
                by_cases hlm : i < m
                · have hil : i < pa.length := by rw [HM.out]; exact hlm
                  obtain ⟨g2, o2, c2', lv, hA2, hgl2, hpt, hxn, hxk, hlg⟩ := PasR.at_ (by have := hpx.out; rw [← HM.out] at this; exact this : PasR wr (.slice Av pa.length cv) pa) hil
                  rw [HM.out] at hA2
                  simp only [Value.slice.injEq, true_and] at hA2
                  obtain ⟨rfl, rfl⟩ := hA2
                  have hrf := HRF.out _ (List.getElem_mem hil)
                  obtain ⟨x, hx⟩ : ∃ x, pa[i] = x := ⟨_, rfl⟩
                  rw [hx] at hpt hlg hrf
                  obtain ⟨xk, xn, lg⟩ := x
                  obtain ⟨u0, u1, u2⟩ := hpt
                  simp only at u0 u1 hlg hrf
                  obtain ⟨Al, cl, rfl, hcl, hml⟩ := hlg.form
                  unfold maxLen at hml
                  obtain ⟨M, hM⟩ : ∃ M, lg.length = M := ⟨_, rfl⟩
                  have HLG := Lib.hid hlg
                  rw [hM] at u2 HLG hcl
                  have HMM := Lib.hid hM
                  have HLF := Lib.hid hrf
                  have him : (i : Int) < (m : Int) := by omega
                  obtain ⟨wB, hwB⟩ : ∃ W, wr.alloc (.cells #[.int .u8 (xk : Int), .string (sb xn), .slice Al M cl] 62) = W := ⟨_, rfl⟩
                  have BB : Hid (Below wr.heap.size wr wB) := by rw [← hwB]; exact (Below.refl _ _).alloc (Nat.le_refl _) _
                  obtain ⟨q8, hq8⟩ : ∃ q, wr.heap.size = q := ⟨_, rfl⟩
                  have XB : Hid (Bx q8 #[.int .u8 (xk : Int), .string (sb xn), .slice Al M cl] 62 wB) := by rw [← hwB, ← hq8]; exact Bx.last wr _ _
                  have SB := Lib.hid (hs.out.below BB.out)
                  have PB := Lib.hid (hpx.out.below BB.out)
                  have LB := Lib.hid (HLG.out.below BB.out)
                  have HWB := Lib.hid hwB
                  have HQ8 := Lib.hid hq8
                  clear hwB hq8 hs hpx hx hlg hxn hxk hM HLG hrf BB
                  go_upto_region 35 with fail
                  rw [HWB.out, HQ8.out]
                  clear HWB u0 u1 u2 hgl2
                  have hu2 := XB.out.cell 2 (u := .slice Al M cl) rfl
                  have hul := XB.out.lt
                  go_wp2_with fail
                  go_loopw [118] (fun iv wx => ∃ j : Nat, j ≤ M ∧ iv = .int .i64 (j : Int) ∧ Hid (PrS w q D.hd D3 (.slice Bf n3 df) (.slice Ba na3 da) (.slice (some ⟨g, o, none⟩) np3 dp) wx) ∧ Hid (PasR wx (.slice (some ⟨g2, o2, none⟩) m cv) pa) ∧ Hid (LgsR wx (.slice Al M cl) lg)) (fun iv _ => M - (intOf iv).toNat)
                  case atStart => exact ⟨0, Nat.zero_le _, rfl, SB.out, PB.out, LB.out⟩
                  case round =>
                    obtain ⟨j, hj, rfl, hs, hpx, hlx⟩ := hrel
                    clear SB PB LB hu2 hul XB
                    by_cases hlj : j < M
                    · have hjl : j < lg.length := by rw [HMM.out]; exact hlj
                      obtain ⟨g3, o3, c3', hA3, hgl3, hat3, hok3⟩ := LgsR.at_ (by have := hlx.out; rw [← HMM.out] at this; exact this : LgsR wr (.slice Al lg.length cl) lg) hjl
                      rw [HMM.out] at hA3
                      simp only [Value.slice.injEq, true_and] at hA3
                      obtain ⟨rfl, rfl⟩ := hA3
                      have hlf := HLF.out _ (List.getElem_mem hjl)
                      obtain ⟨l, hl⟩ : ∃ l, lg[j] = l := ⟨_, rfl⟩
                      rw [hl] at hat3 hlf
                      have HAT : Hid (∀ t u, (lgc l)[t]? = some u → wr.cell? ⟨g3, o3 + j * 13 + t, none⟩ = some u) := hat3
                      have HONE := Lib.hid (lgc_one l)
                      have hjM : (j : Int) < (M : Int) := by omega
                      obtain ⟨q9, hq9⟩ : ∃ q, wr.heap.size = q := ⟨_, rfl⟩
                      obtain ⟨wD, hwD⟩ : ∃ W, wr.alloc (.cells (lgc l).toArray 65) = W := ⟨_, rfl⟩
                      have BD : Hid (Below wr.heap.size wr wD) := by rw [← hwD]; exact (Below.refl _ _).alloc (Nat.le_refl _) _
                      have SD := Lib.hid (hs.out.below BD.out)
                      have PD := Lib.hid (hpx.out.below BD.out)
                      have LD := Lib.hid (hlx.out.below BD.out)
                      have XD : Hid (Bx q9 (lgc l).toArray 65 wD) := by rw [← hwD, ← hq9]; exact Bx.last wr _ _
                      have HWD := Lib.hid hwD
                      have HQ := Lib.hid hq9
                      have hgw : g3 < wr.heap.size := hgl3
                      have HLF2 := Lib.hid hlf
                      clear hat3 hok3 hl hwD hq9 hs hpx hlx hgl3 hlf BD
                      go_upto_region 38 with (first | (with_reducible refine wpList_load_wide rfl 65 (.tmp 120) rfl g3 (o3 + j * 13) rfl (lgc l) 13 rfl (aggLegD _) (sizeLegD _) HAT.out ?_) | (refine wpList_store_last wr _ rfl 65 (.tmp 20) (.tmp 121) rfl rfl (lgc l) rfl infoLegSD rfl HONE.out ?_))
                      rw [HWD.out, HQ.out]
                      clear HWD hgw HAT HONE
                      have v1 := XD.out.cell 1 (u := .string (sb l.fi)) rfl
                      have vl := XD.out.lt
                      obtain ⟨⟨x0, x1, x2, x3, x4, x5, x6, x7, x8⟩, _⟩ := Bx.cells9 SD.out.x1
                      have xl := SD.out.x1.lt
                      go_wp2_with fail
                      refine (NFX.out _ _ SD.out.hv).mono ?_
                      rintro e wE ⟨rfl, hbE⟩
                      obtain ⟨wF, hwF⟩ : ∃ W, wE = W := ⟨_, rfl⟩
                      have SE := Lib.hid (SD.out.below hbE)
                      have PE := Lib.hid (PD.out.below hbE)
                      have LE := Lib.hid (LD.out.below hbE)
                      have XE := Lib.hid (XD.out.via hbE)
                      clear hbE hwF x0 x1 x2 x3 x4 x5 x6 x7 x8 xl v1 vl SD PD LD XD
                      have v1 := XE.out.cell 1 (u := .string (sb l.fi)) rfl
                      have vl := XE.out.lt
                      obtain ⟨fo, hfo⟩ : ∃ x, findL D3.fx (bl (sb l.fi)) = x := ⟨_, rfl⟩
                      rw [hfo]
                      obtain ⟨rv, hrv⟩ : ∃ x, fo.getD fx0 = x := ⟨_, rfl⟩
                      rw [hrv]
                      unfold fxA
                      rcases (show l.fi = [] ∨ (l.fi ≠ [] ∧ ∃ f, f ∈ D3.fx ∧ findL D3.fx l.fi = some f) from (Classical.em (l.fi = [])).imp id (fun h => ⟨h, HLF2.out.resolve_left h⟩)) with hnil | ⟨hne, f, hfm, hff⟩
                      · obtain ⟨er, her⟩ : ∃ x : Int, (if fo.isSome = true then (0 : Int) else 6) = x := ⟨_, rfl⟩
                        rw [her]
                        rw [hnil] at v1
                        have tl : (sb []).toList = [] := by rw [bl_toList, bl_sb]
                        clear hfo hrv her hnil HLF2
                        go_wp2
                        go_roundw
                        case rel => exact ⟨j + 1, hlj, by go_num, SE.out.below ((Below.refl _ _).alloc (Nat.le_refl _) _), PE.out.below ((Below.refl _ _).alloc (Nat.le_refl _) _), LE.out.below ((Below.refl _ _).alloc (Nat.le_refl _) _)⟩
                        case measure => simp [intOf]; omega
                      · have h0 : (if fo.isSome = true then (0 : Int) else 6) = 0 := by rw [← hfo, bl_sb, hff]; rfl
                        rw [h0]
                        have tl : ¬ (sb l.fi).toList = [] := by rw [bl_toList, bl_sb]; exact hne
                        have te : (sb l.fi).toList.isEmpty = false := by rw [bl_toList, bl_sb]; exact List.isEmpty_eq_false_iff.2 hne
                        clear hfo hrv h0 HLF2 hff hfm hne
                        go_wp2
                        go_roundw
                        case rel => exact ⟨j + 1, hlj, by go_num, SE.out.below ((Below.refl _ _).alloc (Nat.le_refl _) _), PE.out.below ((Below.refl _ _).alloc (Nat.le_refl _) _), LE.out.below ((Below.refl _ _).alloc (Nat.le_refl _) _)⟩
                        case measure => simp [intOf]; omega
                    · have hjM : ¬ (j : Int) < (M : Int) := by omega
                      have SE := Lib.hid hs.out
                      have PE := Lib.hid hpx.out
                      clear hs hpx hlx
                      go_wp2
                      go_roundw
                      case rel => exact ⟨i + 1, hlm, by go_num, SE, PE⟩
                      case measure => simp [intOf]; omega
                · have him : ¬ (i : Int) < (m : Int) := by omega
                  have SE := Lib.hid hs.out
                  clear hs hpx
                  go_wp2
                  go_roundw
                  case rel => exact ⟨k + 1, hlt, by go_num, SE⟩
                  case measure => simp [intOf]; omega
            · have hki : ¬ (k : Int) < (np3 : Int) := by omega
              have BE := Lib.hid hs.out.be
              clear hs
              go_wp2
              go_ret
              exact ⟨by first | rfl | simp, BE.out⟩
end Go.Proofs.YtgmehlgfilpleaaGreatDoor
