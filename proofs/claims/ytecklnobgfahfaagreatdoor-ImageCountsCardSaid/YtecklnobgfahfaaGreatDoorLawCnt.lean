/-
  The law ImageCounts: true at any argument.
-/
import Derived.Test.YtecklnobgfahfaaGreatDoorMG23
import Derived.Test.YtecklnobgfahfaaGreatDoorFew
import Derived.Test.YtecklnobgfahfaaGreatDoorDbZ
import Derived.Test.YtecklnobgfahfaaGreatDoorDecB
import Derived.Test.YtecklnobgfahfaaGreatDoorMG25
import Derived.Test.YtecklnobgfahfaaGreatDoorDbW
namespace Go.Proofs.YtecklnobgfahfaaGreatDoor
open Go.RowKit Go.Lib Go.Sort
set_option linter.unusedVariables false
set_option linter.unusedSimpArgs false
/-- where a section ends, and how many elements it has -/
def atD (D : DbD) : Nat → Nat
  | 0 => 4
  | 1 => 9 + (hdB D.hd).length
  | 2 => 9 + (hdB D.hd).length + 5 + (2 + (D.fx.flatMap fxB).length)
  | 3 => 9 + (hdB D.hd).length + 5 + (2 + (D.fx.flatMap fxB).length) + 5 + (2 + (D.aw.flatMap awB).length)
  | _ => 9 + (hdB D.hd).length + 5 + (2 + (D.fx.flatMap fxB).length) + 5 + (2 + (D.aw.flatMap awB).length) + 5 + (2 + (D.pr.flatMap prB).length)
def cntD (n na np : Nat) : Nat → Nat
  | 0 => 1
  | 1 => n
  | 2 => na
  | _ => np
theorem dbSecs_at (D : DbD) {j : Nat} (hj : j < 4) (hl : j < (dbSecs D).length) : ∃ l, (dbSecs D)[j] = (j + 1, atD D j + 5, l, cntD D.fx.length D.aw.length D.pr.length j) ∧ atD D (j + 1) = atD D j + 5 + l := by
  match j, hj with
  | 0, _ => exact ⟨_, rfl, rfl⟩
  | 1, _ => exact ⟨_, rfl, rfl⟩
  | 2, _ => exact ⟨_, rfl, rfl⟩
  | 3, _ => exact ⟨_, rfl, rfl⟩
theorem atD_end (D : DbD) : atD D 4 = (dbB D).length := by rw [dbB_lenE]; show 9 + _ + 5 + _ + 5 + _ + 5 + _ = _; omega
theorem atD_le (D : DbD) : ∀ j, atD D j ≤ (dbB D).length
  | 0 => by rw [dbB_lenE]; show 4 ≤ _; omega
  | 1 => by rw [dbB_lenE]; show 9 + _ ≤ _; omega
  | 2 => by rw [dbB_lenE]; show 9 + _ + 5 + _ ≤ _; omega
  | 3 => by rw [dbB_lenE]; show 9 + _ + 5 + _ + 5 + _ ≤ _; omega
  | n + 4 => by rw [dbB_lenE]; show 9 + _ + 5 + _ + 5 + _ + 5 + _ ≤ _; omega
theorem imHeaderOk_any (v : Value) (bs : List UInt8) (w : World) (h : BsV w v bs) (hL : bs.length ≤ 1000000) :
    Calls Tryz.prog 12 #[v] w fun e w' => e = .returned (.tuple #[.agg (hdI (rdRes bs).2.1), .int .i64 (rdRes bs).1]) ∧ Below w.heap.size w w' := imHeader_any v bs w (fun W hW => (imRead_any v bs W (h.below hW) hL).mono fun e w' h => h.form)
theorem seccells_get (L : List Sec) : ∀ (k : Nat) (h : k < L.length) (j : Nat), j < 4 → (seccells L)[k * 4 + j]? = (secC L[k])[j]? := by
  induction L with
  | nil => intro k h; simp at h
  | cons p l ih =>
    intro k h j hj
    show (secC p ++ seccells l)[k * 4 + j]? = _
    have hl : (secC p).length = 4 := rfl
    cases k with
    | zero => rw [Nat.zero_mul, Nat.zero_add, List.getElem?_append_left (by omega)]; rfl
    | succ k =>
      rw [List.getElem?_append_right (by omega), hl, show (k + 1) * 4 + j - 4 = k * 4 + j by omega]
      exact ih k (by simpa using h) j hj
/-- a section in memory -/
theorem imSec_get {w : World} {sv : Value} {L : List Sec} (h : Rd w 4 sv L.length (seccells L)) {k : Nat} (hk : k < L.length) : ∃ g o c, sv = .slice (some ⟨g, o, none⟩) L.length c ∧ g < w.heap.size ∧ w.cell? ⟨g, o + k * 4, none⟩ = some (.int .u8 (L[k].1 : Int)) ∧ w.cell? ⟨g, o + k * 4 + 1, none⟩ = some (.int .i64 (L[k].2.1 : Int)) ∧ w.cell? ⟨g, o + k * 4 + 2, none⟩ = some (.int .i64 (L[k].2.2.1 : Int)) ∧ w.cell? ⟨g, o + k * 4 + 3, none⟩ = some (.int .i64 (L[k].2.2.2 : Int)) := by
  obtain ⟨-, A, c, rfl, -, -, hx⟩ := h
  obtain ⟨g, o, rfl, hg, hc⟩ := hx (by omega)
  refine ⟨g, o, c, rfl, hg, ?_, ?_, ?_, ?_⟩
  · exact hc (k * 4 + 0) _ (seccells_get L k hk 0 (by omega))
  · have := hc (k * 4 + 1) _ (seccells_get L k hk 1 (by omega)); rwa [← Nat.add_assoc] at this
  · have := hc (k * 4 + 2) _ (seccells_get L k hk 2 (by omega)); rwa [← Nat.add_assoc] at this
  · have := hc (k * 4 + 3) _ (seccells_get L k hk 3 (by omega)); rwa [← Nat.add_assoc] at this
set_option maxRecDepth 100000 in
set_option maxHeartbeats 16000000 in
theorem imageCounts_walk (D : DbD) (f a p : Value) (w : World) (E : Env w) (hT : LegT w) (h : DbV w f a p D) (hz : SzL D.fx) :
    Calls Tryz.prog 4 #[.agg (dbC D.hd f a p).toArray] w fun e w' => e = .returned (.bool true) ∧ Below w.heap.size w w' := by
  obtain ⟨Af, cf, rfl, hcf, hmf⟩ := h.fx.1.form
  obtain ⟨Aa, ca, rfl, hca, hma⟩ := h.aw.form
  obtain ⟨Ap, cp, rfl, hcp, hmp⟩ := h.pr.form
  obtain ⟨n, hn⟩ : ∃ n, D.fx.length = n := ⟨_, rfl⟩
  obtain ⟨na, hna⟩ : ∃ n, D.aw.length = n := ⟨_, rfl⟩
  obtain ⟨np, hnp⟩ : ∃ n, D.pr.length = n := ⟨_, rfl⟩
  rw [hn, hna, hnp] at h ⊢
  have HH := Lib.hid h
  rw [dbA_eq]
  unfold dbA
  obtain ⟨w1, hw1⟩ : ∃ W, w.alloc (.cells (dbA D.hd (.slice Af n cf) (.slice Aa na ca) (.slice Ap np cp)) 30) = W := ⟨_, rfl⟩
  obtain ⟨q, hq⟩ : ∃ q, w.heap.size = q := ⟨_, rfl⟩
  have B1 : Hid (Below w.heap.size w w1) := by rw [← hw1]; exact (Below.refl _ _).alloc (Nat.le_refl _) _
  have X1 : Hid (Bx q (dbA D.hd (.slice Af n cf) (.slice Aa na ca) (.slice Ap np cp)) 30 w1) := by rw [← hw1, ← hq]; exact Bx.last w _ _
  have haw := Lib.hid (awake19_any w1 (E.below B1.out) (hT.below B1.out))
  have HT := Lib.hid hT
  have HZ := Lib.hid hz
  unfold dbA at hw1
  have HW1 := Lib.hid hw1
  have HQ := Lib.hid hq
  clear h hw1 hn hna hnp hq hcf hmf hca hma hcp hmp hT E hz
  go_enter Tryz.func4, Tryz.ntmps4
  go_upto_region 1 with fail
  rw [HW1.out, HQ.out]
  clear HW1
  go_wp2_with fail
  refine haw.out.mono ?_
  rintro e w2 ⟨rfl, hb2⟩
  have B2 := Lib.hid (Below.then_ B1.out hb2)
  have X2 := Lib.hid (X1.out.via hb2)
  obtain ⟨⟨x0, x1, x2, x3, x4, x5, x6, x7, x8⟩, _⟩ := Bx.cells9 X2.out
  have xl := X2.out.lt
  have hfew := fewDb_any D (.slice Af n cf) (.slice Aa na ca) (.slice Ap np cp) w2 (HH.out.below B2.out)
  rw [dbA_eq] at hfew
  unfold dbA at hfew
  have HFEW := Lib.hid hfew
  clear hb2 haw hfew X1 B1
  go_wp2_with fail
  refine HFEW.out.mono ?_
  rintro e w3 ⟨⟨f3, a3, p3, rfl, hv3⟩, hb3⟩
  have B3 := Lib.hid (Below.then_ B2.out hb3)
  obtain ⟨Bf, df, rfl, hcf, hmf⟩ := hv3.fx.1.form
  obtain ⟨Ba, da, rfl, hca, hma⟩ := hv3.aw.form
  obtain ⟨Bp, dp, rfl, hcp, hmp⟩ := hv3.pr.form
  obtain ⟨D3, hD3⟩ : ∃ X, fewD D = X := ⟨_, rfl⟩
  have hh3 : D3.hd = D.hd := by rw [← hD3]; rfl
  have hsz := fewD_sz HZ.out
  have hbd0 : dbE D3 = 0 → (dbB D3).length ≤ 900000 := fun h0 => by rw [← hD3] at h0 ⊢; exact fewD_len (dbE_b h0)
  rw [hD3] at hv3 hcf hca hcp hsz ⊢
  obtain ⟨n3, hn3⟩ : ∃ n, D3.fx.length = n := ⟨_, rfl⟩
  obtain ⟨na3, hna3⟩ : ∃ n, D3.aw.length = n := ⟨_, rfl⟩
  obtain ⟨np3, hnp3⟩ : ∃ n, D3.pr.length = n := ⟨_, rfl⟩
  rw [hn3, hna3, hnp3] at hv3 ⊢
  have X3 := Lib.hid (X2.out.via hb3)
  have W3 : Hid (Bx q (dbA D.hd (.slice Bf n3 df) (.slice Ba na3 da) (.slice Bp np3 dp)) 30 (w3.setRow q (dbA D.hd (.slice Bf n3 df) (.slice Ba na3 da) (.slice Bp np3 dp)))) := setRow_heap _ q _ _ 30 (0, 0) X3.out
  have B9 : Hid (Below w.heap.size w (w3.setRow q (dbA D.hd (.slice Bf n3 df) (.slice Ba na3 da) (.slice Bp np3 dp)))) := row_below B3.out HQ.out
  have hv9 := hv3.but (But.setRow w3 q (dbA D.hd (.slice Bf n3 df) (.slice Ba na3 da) (.slice Bp np3 dp))) (box9_of X3.out)
  have hone : (dbA D.hd (.slice Bf n3 df) (.slice Ba na3 da) (.slice Bp np3 dp)).all (·.oneCell') = true := by simp [dbA, Value.oneCell']
  obtain ⟨W9, hW9⟩ : ∃ W, w3.setRow q (dbA D.hd (.slice Bf n3 df) (.slice Ba na3 da) (.slice Bp np3 dp)) = W := ⟨_, rfl⟩
  rw [hW9] at W3 B9 hv9
  have hen := imEncode_any D3 _ _ _ W9 (HT.out.below B9.out) hv9 hsz hbd0
  rw [hh3, dbA_eq] at hen
  rw [dbA_eq]
  have HEN := Lib.hid hen
  have HW9 := Lib.hid hW9
  have HBD := Lib.hid hbd0
  have HH3 := Lib.hid hh3
  have H3 : Hid (D3.fx.length = n3 ∧ D3.aw.length = na3 ∧ D3.pr.length = np3) := ⟨hn3, hna3, hnp3⟩
  have hnl : (n3 : Int) ≤ 9223372036854775807 ∧ (na3 : Int) ≤ 9223372036854775807 ∧ (np3 : Int) ≤ 9223372036854775807 := by unfold maxLen at hmf hma hmp; omega
  have HNL := Lib.hid hnl
  clear hb3 hen B2 X2 HFEW hv3 x0 x1 x2 x3 x4 x5 x6 x7 x8 xl hcf hmf hca hma hcp hmp hD3 hh3 hsz hbd0 hn3 hna3 hnp3 hv9 hW9 hnl HZ
  go_upto_region 4 with (refine wpList_plain rfl fun _ hK => wp_store_row 30 (.tmp 1) (.tmp 16) rfl q (dbA D.hd (.slice Bf n3 df) (.slice Ba na3 da) (.slice Bp np3 dp)) rfl rfl 30 _ X3.out infoDB9 rfl hone (hK _ _ ?_))
  rw [HW9.out]
  clear HW9 hone X3
  obtain ⟨⟨x0, x1, x2, x3, x4, x5, x6, x7, x8⟩, _⟩ := Bx.cells9 W3.out
  have xl := W3.out.lt
  have hen := HEN.out
  unfold dbA at hen
  have HEN2 := Lib.hid hen
  clear hen HEN
  go_wp2_with fail
  refine HEN2.out.mono ?_
  rintro e w4 (⟨hne, rfl, hb4⟩ | ⟨hz0, vp, rfl, hnew⟩)
  · have B4 := Lib.hid (Below.then_ B9.out hb4)
    have hx0 : (dbE D3 == 0) = false := beq_eq_false_iff_ne.2 hne
    obtain ⟨x, hx⟩ : ∃ x, dbE D3 = x := ⟨_, rfl⟩
    rw [hx] at hx0 ⊢
    clear hne hx hb4 HEN2 x0 x1 x2 x3 x4 x5 x6 x7 x8 xl
    go_wp2
    go_ret
    exact ⟨rfl, B4.out⟩
  · obtain ⟨gb, cc, rfl, hcc, hcm, -, hba, hb4⟩ := hnew
    have B4 := Lib.hid (Below.then_ B9.out hb4)
    have hbd := HBD.out hz0
    have hso := seal_ok (dbB D3)
    have hls : (sealL (dbB D3)).length = (dbB D3).length + 4 := by unfold sealL; rw [List.length_append]; rfl
    have hres : rdRes (sealL (dbB D3)) = (0, D3.hd, dbSecs D3) := rdRes_some (by omega) hso.1 (by rw [hso.2]; exact rdF_db (dbE_b hz0) hbd)
    have V4 := Lib.hid (show BsV w4 (.slice (some ⟨gb, 0, none⟩) (sealL (dbB D3)).length cc) (sealL (dbB D3)) from ⟨_, cc, rfl, hcc, hcm, fun _ => ⟨gb, 0, rfl, hba⟩⟩)
    have X4 := Lib.hid (W3.out.via hb4)
    have hL1 : (sealL (dbB D3)).length ≤ 1000000 := by omega
    have hse := imSections_any _ (sealL (dbB D3)) w4 ((imRead_any _ (sealL (dbB D3)) w4 V4.out hL1).mono fun e w' h => h.form)
    rw [hres] at hse
    dsimp only at hse
    have HHE : Hid (∀ W, BsV W (.slice (some ⟨gb, 0, none⟩) (sealL (dbB D3)).length cc) (sealL (dbB D3)) → Calls Tryz.prog 12 #[.slice (some ⟨gb, 0, none⟩) (sealL (dbB D3)).length cc] W fun e w' => e = .returned (.tuple #[.agg (hdI D3.hd), .int .i64 0]) ∧ Below W.heap.size W w') := fun W hV => by
      have := imHeaderOk_any _ (sealL (dbB D3)) W hV hL1
      rw [hres] at this
      exact this
    have HAE := Lib.hid (atD_end D3)
    have HAL := Lib.hid (atD_le D3)
    obtain ⟨M, hM⟩ : ∃ M, (dbB D3).length = M := ⟨_, rfl⟩
    rw [hM] at HAE HAL hbd
    have hN : (sealL (dbB D3)).length = M + 4 := by rw [hls, hM]
    rw [hN] at V4 hse HHE ⊢
    have HSE := Lib.hid hse
    clear hcc hcm hba hb4 hso hls hres hL1 hM hN hse HEN2 hz0 x0 x1 x2 x3 x4 x5 x6 x7 x8 xl W3 HBD
    go_wp2_with fail
    refine HSE.out.mono ?_
    rintro e w5 ⟨sv, rfl, hrd5, hb5⟩
    have B5 := Lib.hid (Below.then_ B4.out hb5)
    have V5 := Lib.hid (V4.out.below hb5)
    have X5 := Lib.hid (X4.out.via hb5)
    have R5 := Lib.hid hrd5
    obtain ⟨As, cs, hsv, hcs, hcsm⟩ := hrd5.form
    have hl4 : (dbSecs D3).length = 4 := rfl
    subst hsv
    clear HSE hrd5 hb5 V4 X4 B4 hcs hcsm
    have hhe := Lib.hid (HHE.out w5 V5.out)
    go_wp2_with fail
    refine hhe.out.mono ?_
    rintro e w6 ⟨rfl, hb6⟩
    unfold hdI
    obtain ⟨w7, hw7⟩ : ∃ W, w6.alloc (.cells #[.string (sb D3.hd.nm), .int .i64 D3.hd.cy, .int .i64 D3.hd.fr, .int .i64 D3.hd.tu, .int .i64 D3.hd.la, .int .i64 D3.hd.lo] 25) = W := ⟨_, rfl⟩
    obtain ⟨q7, hq7⟩ : ∃ x, w6.heap.size = x := ⟨_, rfl⟩
    have hb7 : Below w6.heap.size w6 w7 := by rw [← hw7]; exact (Below.refl _ _).alloc (Nat.le_refl _) _
    have Y7 : Hid (Bx q7 #[.string (sb D3.hd.nm), .int .i64 D3.hd.cy, .int .i64 D3.hd.fr, .int .i64 D3.hd.tu, .int .i64 D3.hd.la, .int .i64 D3.hd.lo] 25 w7) := by rw [← hw7, ← hq7]; exact Bx.last w6 _ _
    have hbx := Below.then_ hb6 hb7
    have B7 := Lib.hid (Below.then_ B5.out hbx)
    have X7 := Lib.hid (X5.out.via hbx)
    have R7 := Lib.hid (R5.out.below hbx)
    have HW7 := Lib.hid hw7
    have HQ7 := Lib.hid hq7
    clear hhe HHE hb6 hb7 hbx B5 X5 R5 V5 hw7 hq7
    rw [HH3.out] at HW7 Y7 ⊢
    go_upto_region 9 with fail
    rw [HW7.out, HQ7.out]
    clear HW7 HQ7
    obtain ⟨⟨x0, x1, x2, x3, x4, x5, x6, x7, x8⟩, _⟩ := Bx.cells9 X7.out
    have xl := X7.out.lt
    have y0 := Y7.out.cell 0 (u := .string (sb D.hd.nm)) rfl
    have y1 := Y7.out.cell 1 (u := .int .i64 D.hd.cy) rfl
    have y2 := Y7.out.cell 2 (u := .int .i64 D.hd.fr) rfl
    have y3 := Y7.out.cell 3 (u := .int .i64 D.hd.tu) rfl
    have y4 := Y7.out.cell 4 (u := .int .i64 D.hd.la) rfl
    have y5 := Y7.out.cell 5 (u := .int .i64 D.hd.lo) rfl
    have yl := Y7.out.lt
    clear hl4
    go_upto_region 11 with fail
    clear y0 y1 y2 y3 y4 y5 yl Y7
    obtain ⟨w8, hw8⟩ : ∃ W, (w7.alloc (.cells #[.int .i64 1, .int .i64 (n3 : Int), .int .i64 (na3 : Int), .int .i64 (np3 : Int)] 47)).drew = W := ⟨_, rfl⟩
    obtain ⟨q8, hq8⟩ : ∃ x, w7.heap.size = x := ⟨_, rfl⟩
    have hb8 : Below w7.heap.size w7 w8 := by rw [← hw8]; exact ((Below.refl _ _).alloc (Nat.le_refl _) _).drew
    have C8 : Hid (Bx q8 #[.int .i64 1, .int .i64 (n3 : Int), .int .i64 (na3 : Int), .int .i64 (np3 : Int)] 47 w8) := by rw [← hw8, ← hq8]; exact (Bx.last w7 _ _).drew
    have B8 := Lib.hid (Below.then_ B7.out hb8)
    have R8 := Lib.hid (R7.out.below hb8)
    have HW8 := Lib.hid hw8
    have HQ8 := Lib.hid hq8
    have HCN : Hid (∀ j, j < 4 → ∀ W, Below w8.heap.size w8 W → W.cell? ⟨q8, j, none⟩ = some (.int .i64 ((cntD D3.fx.length D3.aw.length D3.pr.length j : Nat) : Int))) := by
      intro j hj W hW
      obtain ⟨h1, h2, h3⟩ := H3.out
      rw [h1, h2, h3]
      have hc := C8.out.via hW
      match j, hj with
      | 0, _ => exact hc.cell 0 rfl
      | 1, _ => exact hc.cell 1 rfl
      | 2, _ => exact hc.cell 2 rfl
      | 3, _ => exact hc.cell 3 rfl
    have hq8l : Hid (q8 < w8.heap.size) := C8.out.lt
    clear hb8 hw8 hq8
    go_region
    rw [HW8.out, HQ8.out]
    clear HW8 HQ8 x0 x1 x2 x3 x4 x5 x6 x7 x8 xl X7 B7 R7
    go_wp2
    go_loopw [9, 63] (fun av iv wr => ∃ j : Nat, j ≤ 4 ∧ iv = .int .i64 (j : Int) ∧ av = .int .i64 ((atD D3 j : Nat) : Int) ∧ Hid (Below w8.heap.size w8 wr)) (fun _ iv _ => 4 - (RowKit.intOf iv).toNat)
    case atStart => exact ⟨0, Nat.zero_le _, rfl, rfl, Lib.hid (RowKit.Below.refl _ _)⟩
    case round =>
      obtain ⟨j, hj, rfl, rfl, hbr⟩ := hrel
      by_cases hlt : j < 4
      · have hjl : j < (dbSecs D3).length := hlt
        obtain ⟨g1, o1, c1, e1, l1, k0, k1, k2, k3⟩ := imSec_get (R8.out.below hbr.out) hjl
        simp only [Value.slice.injEq] at e1
        obtain ⟨rfl, -, rfl⟩ := e1
        obtain ⟨l, hsec, hnext⟩ := dbSecs_at D3 hlt hjl
        rw [hsec] at k0 k1 k2 k3
        dsimp only at k0 k1 k2 k3
        have c8 := HCN.out j hlt wr hbr.out
        have hle := HAL.out (j + 1)
        have hq8w := Nat.lt_of_lt_of_le hq8l.out hbr.out.size
        have HNX := Lib.hid hnext
        obtain ⟨x, hx⟩ : ∃ x, atD D3 j = x := ⟨_, rfl⟩
        obtain ⟨y, hy⟩ : ∃ y, cntD D3.fx.length D3.aw.length D3.pr.length j = y := ⟨_, rfl⟩
        rw [hx] at k1 HNX ⊢
        rw [hy] at k3 c8
        have hxb : x + 5 + l ≤ 900000 := by have := HNX.out; omega
        have hji : (j : Int) < 4 := by omega
        clear hx hy hsec hnext hle hjl
        obtain ⟨w9, hw9⟩ : ∃ W, wr.alloc (.cells #[.int .u8 ((j : Int) + 1), .int .i64 ((x : Int) + 5), .int .i64 (l : Int), .int .i64 (y : Int)] 49) = W := ⟨_, rfl⟩
        obtain ⟨q9, hq9⟩ : ∃ x, wr.heap.size = x := ⟨_, rfl⟩
        have hb9 : Below wr.heap.size wr w9 := by rw [← hw9]; exact (RowKit.Below.refl _ _).alloc (Nat.le_refl _) _
        have S9 : Bx q9 #[.int .u8 ((j : Int) + 1), .int .i64 ((x : Int) + 5), .int .i64 (l : Int), .int .i64 (y : Int)] 49 w9 := by rw [← hw9, ← hq9]; exact Bx.last wr _ _
        have c9 := (hb9.cell (p := ⟨q8, j, none⟩) hq8w).trans c8
        have hq89 := Nat.lt_of_lt_of_le hq8w hb9.size
        have s0 := S9.cell 0 (u := .int .u8 ((j : Int) + 1)) rfl
        have s1 := S9.cell 1 (u := .int .i64 ((x : Int) + 5)) rfl
        have s2 := S9.cell 2 (u := .int .i64 (l : Int)) rfl
        have s3 := S9.cell 3 (u := .int .i64 (y : Int)) rfl
        have sl := S9.lt
        have HBR := Lib.hid (Below.then_ hbr.out hb9)
        have HW9 := Lib.hid hw9
        have HQ9 := Lib.hid hq9
        clear hw9 hq9 hb9 S9
        go_upto_region 15 with fail
        rw [HW9.out, HQ9.out]
        clear HW9 HQ9 k0 k1 k2 k3 c8 hq8w
        go_quiet (fail)
        have s1n : (w9.drewN nq).cell? ⟨q9, 1, none⟩ = some (.int .i64 ((x : Int) + 5)) := s1
        have s2n : (w9.drewN nq).cell? ⟨q9, 2, none⟩ = some (.int .i64 (l : Int)) := s2
        go_wp2
        go_roundw
        case rel => exact ⟨j + 1, hlt, by first | rfl | go_num, by rw [HNX.out]; first | rfl | go_num, Lib.hid (below_drewN' HBR.out _)⟩
        case measure => simp [RowKit.intOf]; omega
      · have hj4 : j = 4 := by omega
        subst hj4
        have hae := HAE.out
        rw [hae]
        clear hae
        have hMb : (M : Int) ≤ 900000 := by omega
        go_wp2
        go_ret
        exact ⟨rfl, Below.then_ B8.out hbr.out⟩
end Go.Proofs.YtecklnobgfahfaaGreatDoor
