/-
  The law ImageCut: true at any argument.
-/
import Derived.Test.YtecklnobgfahfaaGreatDoorMG23
import Derived.Test.YtecklnobgfahfaaGreatDoorFew
import Derived.Test.YtecklnobgfahfaaGreatDoorDbZ
import Derived.Test.YtecklnobgfahfaaGreatDoorDecB
import Derived.Test.YtecklnobgfahfaaGreatDoorMG25
namespace Go.Proofs.YtecklnobgfahfaaGreatDoor
open Go.RowKit Go.Lib Go.Sort
set_option linter.unusedVariables false
set_option linter.unusedSimpArgs false
theorem conB_short {D : DbD} (h : (dbB D).length ≤ 900000) : ∀ c ∈ conB D, c.length < 4294967296 := by
  have hL := dbB_lenE D
  intro c hc
  unfold conB at hc
  simp only [List.mem_cons, List.not_mem_nil, or_false] at hc
  rcases hc with rfl | rfl | rfl | rfl
  · omega
  · rw [List.length_append, lowB_len]; omega
  · rw [List.length_append, lowB_len]; omega
  · rw [List.length_append, lowB_len]; omega
theorem cut_rd {D : DbD} (h : (dbB D).length ≤ 900000) {r : Nat} (hr : r < (dbB D).length) : rdRes (sealL ((dbB D).take r)) = (4, hd0, []) := by
  have hs := seal_ok ((dbB D).take r)
  refine rdRes_none ?_ hs.1 ?_
  · unfold sealL; rw [List.length_append]; show 4 ≤ _ + 4; omega
  · rw [hs.2]; exact rdF_cut rfl (conB_short h) hr
theorem more_rd {D : DbD} (h : (dbB D).length ≤ 900000) : rdRes (sealL (dbB D ++ [0])) = (4, hd0, []) := by
  have hs := seal_ok (dbB D ++ [0])
  refine rdRes_none ?_ hs.1 ?_
  · unfold sealL; rw [List.length_append]; show 4 ≤ _ + 4; omega
  · rw [hs.2]; exact rdF_more rfl (conB_short h) 0
set_option maxRecDepth 100000 in
set_option maxHeartbeats 16000000 in
theorem imageCut_walk (D : DbD) (f a p : Value) (k : Int) (w : World) (E : Env w) (hT : LegT w) (h : DbV w f a p D) (hz : SzL D.fx) (hk : (Lit.int .u16 k).wf = true) :
    Calls Tryz.prog 3 #[.agg (dbC D.hd f a p).toArray, .int .u16 k] w fun e w' => e = .returned (.bool true) ∧ Below w.heap.size w w' := by
  have hkb : 0 ≤ k ∧ k < 65536 := by
    have e1 : IntKind.u16.min = 0 := by decide
    have e2 : IntKind.u16.max = 65535 := by decide
    simp [Lit.wf] at hk
    omega
  obtain ⟨i0, hi, hz0', hz1, hz2⟩ := info_parts infoU8b
  have HKB := Lib.hid hkb
  clear hk hkb
  obtain ⟨Af, cf, rfl, hcf, hmf⟩ := h.fx.1.form
  obtain ⟨Aa, ca, rfl, hca, hma⟩ := h.aw.form
  obtain ⟨Ap, cp, rfl, hcp, hmp⟩ := h.pr.form
  obtain ⟨n, hn⟩ : ∃ n, D.fx.length = n := ⟨_, rfl⟩
  obtain ⟨na, hna⟩ : ∃ n, D.aw.length = n := ⟨_, rfl⟩
  obtain ⟨np, hnp⟩ : ∃ n, D.pr.length = n := ⟨_, rfl⟩
  rw [hn, hna, hnp] at h ⊢
  have HH := Lib.hid h
  rw [dbA_eq]
  unfold dbA
  obtain ⟨w1, hw1⟩ : ∃ W, w.alloc (.cells (dbA D.hd (.slice Af n cf) (.slice Aa na ca) (.slice Ap np cp)) 30) = W := ⟨_, rfl⟩
  obtain ⟨q, hq⟩ : ∃ q, w.heap.size = q := ⟨_, rfl⟩
  have B1 : Hid (Below w.heap.size w w1) := by rw [← hw1]; exact (Below.refl _ _).alloc (Nat.le_refl _) _
  have X1 : Hid (Bx q (dbA D.hd (.slice Af n cf) (.slice Aa na ca) (.slice Ap np cp)) 30 w1) := by rw [← hw1, ← hq]; exact Bx.last w _ _
  have haw := Lib.hid (awake19_any w1 (E.below B1.out) (hT.below B1.out))
  have HT := Lib.hid hT
  have HZ := Lib.hid hz
  unfold dbA at hw1
  have HW1 := Lib.hid hw1
  have HQ := Lib.hid hq
  clear h hw1 hn hna hnp hq hcf hmf hca hma hcp hmp hT E hz
  go_enter Tryz.func3, Tryz.ntmps3
  go_upto_region 1 with fail
  rw [HW1.out, HQ.out]
  clear HW1
  go_wp2_with fail
  refine haw.out.mono ?_
  rintro e w2 ⟨rfl, hb2⟩
  have B2 := Lib.hid (Below.then_ B1.out hb2)
  have X2 := Lib.hid (X1.out.via hb2)
  obtain ⟨⟨x0, x1, x2, x3, x4, x5, x6, x7, x8⟩, _⟩ := Bx.cells9 X2.out
  have xl := X2.out.lt
  have hfew := fewDb_any D (.slice Af n cf) (.slice Aa na ca) (.slice Ap np cp) w2 (HH.out.below B2.out)
  rw [dbA_eq] at hfew
  unfold dbA at hfew
  have HFEW := Lib.hid hfew
  clear hb2 haw hfew X1 B1
  go_wp2_with fail
  refine HFEW.out.mono ?_
  rintro e w3 ⟨⟨f3, a3, p3, rfl, hv3⟩, hb3⟩
  have B3 := Lib.hid (Below.then_ B2.out hb3)
  have hen := imEncode_any (fewD D) f3 a3 p3 w3 (HT.out.below B3.out) hv3 (fewD_sz HZ.out) (fun h0 => fewD_len (dbE_b h0))
  have HEN := Lib.hid hen
  clear hb3 hen B2 X2 HFEW hv3 x0 x1 x2 x3 x4 x5 x6 x7 x8 xl
  go_wp2_with fail
  refine HEN.out.mono ?_
  rintro e w4 (⟨hne, rfl, hb4⟩ | ⟨hz0, vp, rfl, hnew⟩)
  · have B4 := Lib.hid (Below.then_ B3.out hb4)
    have hx0 : (dbE (fewD D) == 0) = false := beq_eq_false_iff_ne.2 hne
    obtain ⟨x, hx⟩ : ∃ x, dbE (fewD D) = x := ⟨_, rfl⟩
    rw [hx] at hx0 ⊢
    clear hne hx hb4 HEN
    go_wp2
    go_ret
    exact ⟨rfl, B4.out⟩
  · obtain ⟨gb, cc, rfl, hcc, hcm, -, hba, hb4⟩ := hnew
    have B4 := Lib.hid (Below.then_ B3.out hb4)
    have hbd := fewD_len (dbE_b hz0)
    have hLE := dbB_lenE (fewD D)
    have HCUT : Hid (∀ r, r < (dbB (fewD D)).length → rdRes (sealL ((dbB (fewD D)).take r)) = (4, hd0, [])) := fun r hr => cut_rd hbd hr
    have HMORE : Hid (rdRes (sealL (dbB (fewD D) ++ [0])) = (4, hd0, [])) := more_rd hbd
    obtain ⟨B, hB⟩ : ∃ B, dbB (fewD D) = B := ⟨_, rfl⟩
    rw [hB] at hbd hLE hba hcc HCUT HMORE ⊢
    obtain ⟨M, hM⟩ : ∃ M, B.length = M := ⟨_, rfl⟩
    have hLl : (sealL B).length = M + 4 := by unfold sealL; rw [List.length_append, hM]; rfl
    have hM24 : 24 ≤ M := by omega
    have hMb : M ≤ 900000 := by omega
    have hcc2 : M + 4 ≤ cc := by rw [hLl] at hcc; exact hcc
    have HBA : Hid (BsA w4 gb 0 B) := by
      have h1 := hba.take M
      have h2 : (sealL B).take M = B := by unfold sealL; rw [← hM]; exact List.take_left
      rw [h2] at h1
      exact h1
    rw [hLl]
    have HM := Lib.hid hM
    have HCM := Lib.hid hcm
    clear hB hbd hLE hba hcc hLl hb4 HEN hz0 hM HZ
    unfold maxLen at hcm
    have hkb := HKB.out
    have hwk : wrap64 k = k := by unfold wrap64; omega
    obtain ⟨r, hr⟩ : ∃ r : Nat, (wrap64 k).tmod (M : Int) = (r : Int) := ⟨(k.tmod (M : Int)).toNat, by rw [hwk]; have := Int.tmod_nonneg (M : Int) hkb.1; omega⟩
    have hrM : r < M := by
      have h1 := Int.tmod_lt_of_pos k (show (0 : Int) < (M : Int) by omega)
      rw [hwk] at hr
      omega
    clear hkb hwk
    have hNM : ((M + 4 : Nat) : Int) - 4 = (M : Int) := by omega
    have hM0 : ((M : Int) == 0) = false := beq_eq_false_iff_ne.2 (by omega)
    have hlr : (B.take r).length = r := by rw [List.length_take, HM.out]; omega
    have hsl := cseal_any gb 0 cc (B.take r) w4 (HBA.out.take r) (by rw [hlr]; omega) HCM.out (by rw [hlr]; omega)
    rw [hlr] at hsl
    have HSL := Lib.hid hsl
    have hrc : (r : Int) ≤ (cc : Int) := by omega
    have hMc : (M : Int) ≤ (cc : Int) := by omega
    have hS5 : (sealL (B.take r)).length = r + 4 := by unfold sealL; rw [List.length_append, hlr]; rfl
    have HS5 := Lib.hid hS5
    have HR := Lib.hid hrM
    clear hsl hlr hS5
    go_wp2_with fail
    refine HSL.out.mono ?_
    rintro e w5 ⟨v5, rfl, gs, cs, rfl, hcs, hcsm, -, hbs, hb5⟩
    have B5 := Lib.hid (Below.then_ B4.out hb5)
    have BA5 := Lib.hid (HBA.out.below hb5)
    have hdec := decode_bad (.slice (some ⟨gs, 0, none⟩) (sealL (B.take r)).length cs) (sealL (B.take r)) 4 w5 ⟨_, cs, rfl, hcs, hcsm, fun _ => ⟨gs, 0, rfl, hbs⟩⟩ (by rw [HS5.out]; omega) (HCUT.out r (by rw [HM.out]; exact HR.out)) (by decide)
    rw [HS5.out] at hdec ⊢
    have HDEC := Lib.hid hdec
    clear HSL hcs hcsm hbs hb5 hdec HBA hr hrM HCUT hrc
    go_wp2_with fail
    refine HDEC.out.mono ?_
    rintro e w6 ⟨rfl, hb6⟩
    obtain ⟨w7, hw7⟩ : ∃ W, w6.alloc (.cells dbZ9 30) = W := ⟨_, rfl⟩
    have hb7 : Below w6.heap.size w6 w7 := by rw [← hw7]; exact (Below.refl _ _).alloc (Nat.le_refl _) _
    have hb67 := Below.then_ hb6 hb7
    have B7 := Lib.hid (Below.then_ B5.out hb67)
    have BA7 := Lib.hid (BA5.out.below hb67)
    unfold dbZ9 at hw7 ⊢
    have HW7 := Lib.hid hw7
    clear hw7 hb6 hb7 hb67 HDEC B5 BA5 B4
    go_upto_region 8 with fail
    rw [HW7.out]
    clear HW7
    have HEMP := Lib.hid (World.ownsRow_lit (base := w7.heap.size) (e := 5) (size := 1) w7 #[] 0 (Nat.le_refl _) (by unfold maxLen; omega) rfl)
    have hba8 : Below w7.heap.size w7 (w7.alloc (.cells #[] 5)) := (Below.refl _ _).alloc (Nat.le_refl _) _
    have HX := Lib.hid (BA7.out.news hba8)
    have HBA8 := Lib.hid hba8
    have HONE := Lib.hid (u8cells_one B)
    have HL2 : Hid ((B.map u8c).length = M * 1) := by unfold Hid; rw [List.length_map, HM.out, Nat.mul_one]
    have hM1 : 0 < M := by omega
    clear hba8
    go_wp2_with (at_builtin; (refine wpList_append_lies _ rfl _ _ 33 rfl w7.heap.size 5 i0 (.int .u8 0) 1 1 Tryz.underlying33 hi hz0' hz1 hz2 rfl (by decide) _ _ _ rfl HEMP.out ⟨gb, 0, none⟩ M cc (B.map u8c) rfl HL2.out HX.out HONE.out hM1 ?c3 ?c4 ?c5 _ rfl ?_))
    case c3 => unfold maxLen; omega
    case c4 => omega
    intro gg cap w8 hown8 hgrow hor hgg
    have B8 : Hid (Below w7.heap.size w7 w8) := HBA8.out.grown hgrow (by simp) (fun k hk => by cases hk; exact Nat.le_refl _)
    have O8 : Hid (w8.ownsRow w7.heap.size 5 1 (.slice (some ⟨gg, 0, none⟩) M cap) M (B.map u8c)) := by unfold Hid; simpa using hown8
    have hlo := O8.out.lt
    clear hown8 hgrow hor hgg
    try rw [Nat.zero_add]
    go_wp2_with (at_builtin; (refine wpList_append_lies _ rfl _ _ 33 rfl w7.heap.size 5 i0 (.int .u8 0) 1 1 Tryz.underlying33 hi hz0' hz1 hz2 rfl (by decide) _ _ _ rfl (O8.out.alloc _) ⟨w8.heap.size, 0, none⟩ 1 1 [.int .u8 0] rfl rfl (World.news_of_block (heap_alloc_new w8 _)) ?d2 (by decide) ?d3 ?d4 ?d5 _ rfl ?_))
    case d2 => intro u hu; simp only [List.mem_cons, List.not_mem_nil, or_false] at hu; rcases hu with rfl; rfl
    case d3 => unfold maxLen; omega
    case d4 => omega
    case d5 => have := B8.out.size; simp; omega
    intro gg2 cap2 w9 hown9 hgrow hor hgg
    have hb9 : Below w7.heap.size w7 w9 := (B8.out.alloc B8.out.size _).grown hgrow (by have := B8.out.size; simp; omega) (fun k hk => (hlo k hk).1)
    have hBl : (B ++ [0]).length = M + 1 := by rw [List.length_append, HM.out]; rfl
    have hown9' : w9.ownsRow w7.heap.size 5 1 (.slice (some ⟨gg2, 0, none⟩) (B ++ [0]).length cap2) (B ++ [0]).length ((B ++ [0]).map u8c) := by rw [hBl, List.map_append]; exact hown9
    obtain ⟨g3, c3, hv3, hc3, hm3, -, hba9, -⟩ := BsNew.of_own hown9' hb9
    simp only [Value.slice.injEq, Option.some.injEq, Addr.mk.injEq, and_true, true_and] at hv3
    obtain ⟨rfl, rfl⟩ := hv3
    have B9 := Lib.hid (Below.then_ B7.out hb9)
    have hsl := cseal_any gg2 0 cap2 (B ++ [0]) w9 hba9 hc3 hm3 (by rw [hBl]; omega)
    have hS9 : (sealL (B ++ [0])).length = M + 5 := by unfold sealL; rw [List.length_append, hBl]; rfl
    rw [hBl] at hsl
    have HSL := Lib.hid hsl
    have HS9 := Lib.hid hS9
    clear hown9 hown9' hgrow hor hgg hlo hb9 hba9 hc3 hm3 hsl hBl hS9 B8 O8 HEMP HX HBA8 HONE HL2
    go_wp2_with fail
    refine HSL.out.mono ?_
    rintro e w10 ⟨v10, rfl, gs2, cs2, rfl, hcs, hcsm, -, hbs, hb10⟩
    have B10 := Lib.hid (Below.then_ B9.out hb10)
    have hdec := decode_bad (.slice (some ⟨gs2, 0, none⟩) (sealL (B ++ [0])).length cs2) (sealL (B ++ [0])) 4 w10 ⟨_, cs2, rfl, hcs, hcsm, fun _ => ⟨gs2, 0, rfl, hbs⟩⟩ (by rw [HS9.out]; omega) HMORE.out (by decide)
    rw [HS9.out] at hdec ⊢
    have HDEC := Lib.hid hdec
    clear HSL hcs hcsm hbs hb10 hdec B9 BA7
    go_wp2_with fail
    refine HDEC.out.mono ?_
    rintro e w11 ⟨rfl, hb11⟩
    have hbb : Below w11.heap.size w11 (w11.alloc (.cells dbZ9 30)) := (Below.refl _ _).alloc (Nat.le_refl _) _
    obtain ⟨w12, hw12⟩ : ∃ W, w11.alloc (.cells dbZ9 30) = W := ⟨_, rfl⟩
    rw [hw12] at hbb
    have B12 := Lib.hid (Below.then_ (Below.then_ B10.out hb11) hbb)
    unfold dbZ9 at hw12 ⊢
    have HW12 := Lib.hid hw12
    clear hw12 hbb hb11 HDEC B10
    go_upto_region 9 with fail
    rw [HW12.out]
    clear HW12
    go_wp2
    go_ret
    exact ⟨rfl, B12.out⟩
end Go.Proofs.YtecklnobgfahfaaGreatDoor
