/-
  The law ImageDamage: true at any argument.
-/
import Derived.Test.YtecklnobgfahfaaGreatDoorMG23
import Derived.Test.YtecklnobgfahfaaGreatDoorFew
import Derived.Test.YtecklnobgfahfaaGreatDoorDbZ
import Derived.Test.YtecklnobgfahfaaGreatDoorDecB
import Derived.Test.YtecklnobgfahfaaGreatDoorMG24
import Derived.Test.YtecklnobgfahfaaGreatDoorMG25
namespace Go.Proofs.YtecklnobgfahfaaGreatDoor
open Go.RowKit Go.Lib Go.Sort
set_option linter.unusedVariables false
set_option linter.unusedSimpArgs false
set_option maxRecDepth 100000 in
set_option maxHeartbeats 16000000 in
theorem imageDamage_walk (D : DbD) (f a p : Value) (bit pat : Int) (w : World) (E : Env w) (hT : LegT w) (h : DbV w f a p D) (hz : SzL D.fx) (hbit : (Lit.int .i64 bit).wf = true) (hpat : (Lit.int .u32 pat).wf = true) :
    Calls Tryz.prog 5 #[.agg (dbC D.hd f a p).toArray, .int .i64 bit, .int .u32 pat] w fun e w' => e = .returned (.bool true) ∧ Below w.heap.size w w' := by
  have hbb : -9223372036854775808 ≤ bit ∧ bit ≤ 9223372036854775807 := by
    have e1 : IntKind.i64.min = -9223372036854775808 := by decide
    have e2 : IntKind.i64.max = 9223372036854775807 := by decide
    simp [Lit.wf] at hbit
    omega
  have hpb : 0 ≤ pat ∧ pat < 4294967296 := by
    have e1 : IntKind.u32.min = 0 := by decide
    have e2 : IntKind.u32.max = 4294967295 := by decide
    simp [Lit.wf] at hpat
    omega
  obtain ⟨pn, rfl⟩ : ∃ pn : Nat, pat = (pn : Int) := ⟨pat.toNat, by omega⟩
  have HPB : Hid (pn < 4294967296) := by unfold Hid; omega
  have HBB := Lib.hid hbb
  clear hbit hpat hbb hpb
  obtain ⟨Af, cf, rfl, hcf, hmf⟩ := h.fx.1.form
  obtain ⟨Aa, ca, rfl, hca, hma⟩ := h.aw.form
  obtain ⟨Ap, cp, rfl, hcp, hmp⟩ := h.pr.form
  obtain ⟨n, hn⟩ : ∃ n, D.fx.length = n := ⟨_, rfl⟩
  obtain ⟨na, hna⟩ : ∃ n, D.aw.length = n := ⟨_, rfl⟩
  obtain ⟨np, hnp⟩ : ∃ n, D.pr.length = n := ⟨_, rfl⟩
  rw [hn, hna, hnp] at h ⊢
  have HH := Lib.hid h
  rw [dbA_eq]
  unfold dbA
  obtain ⟨w1, hw1⟩ : ∃ W, w.alloc (.cells (dbA D.hd (.slice Af n cf) (.slice Aa na ca) (.slice Ap np cp)) 30) = W := ⟨_, rfl⟩
  obtain ⟨q, hq⟩ : ∃ q, w.heap.size = q := ⟨_, rfl⟩
  have B1 : Hid (Below w.heap.size w w1) := by rw [← hw1]; exact (Below.refl _ _).alloc (Nat.le_refl _) _
  have X1 : Hid (Bx q (dbA D.hd (.slice Af n cf) (.slice Aa na ca) (.slice Ap np cp)) 30 w1) := by rw [← hw1, ← hq]; exact Bx.last w _ _
  have haw := Lib.hid (awake19_any w1 (E.below B1.out) (hT.below B1.out))
  have HT := Lib.hid hT
  have HZ := Lib.hid hz
  unfold dbA at hw1
  have HW1 := Lib.hid hw1
  have HQ := Lib.hid hq
  clear h hw1 hn hna hnp hq hcf hmf hca hma hcp hmp hT E hz
  go_enter Tryz.func5, Tryz.ntmps5
  go_upto_region 1 with fail
  rw [HW1.out, HQ.out]
  clear HW1
  go_wp2_with fail
  refine haw.out.mono ?_
  rintro e w2 ⟨rfl, hb2⟩
  have B2 := Lib.hid (Below.then_ B1.out hb2)
  have X2 := Lib.hid (X1.out.via hb2)
  obtain ⟨⟨x0, x1, x2, x3, x4, x5, x6, x7, x8⟩, _⟩ := Bx.cells9 X2.out
  have xl := X2.out.lt
  have hfew := fewDb_any D (.slice Af n cf) (.slice Aa na ca) (.slice Ap np cp) w2 (HH.out.below B2.out)
  rw [dbA_eq] at hfew
  unfold dbA at hfew
  have HFEW := Lib.hid hfew
  clear hb2 haw hfew X1 B1
  go_wp2_with fail
  refine HFEW.out.mono ?_
  rintro e w3 ⟨⟨f3, a3, p3, rfl, hv3⟩, hb3⟩
  have B3 := Lib.hid (Below.then_ B2.out hb3)
  have hen := imEncode_any (fewD D) f3 a3 p3 w3 (HT.out.below B3.out) hv3 (fewD_sz HZ.out) (fun h0 => fewD_len (dbE_b h0))
  have HEN := Lib.hid hen
  clear hb3 hen B2 X2 HFEW hv3 x0 x1 x2 x3 x4 x5 x6 x7 x8 xl
  go_wp2_with fail
  refine HEN.out.mono ?_
  rintro e w4 (⟨hne, rfl, hb4⟩ | ⟨hz0, vp, rfl, hnew⟩)
  · have B4 := Lib.hid (Below.then_ B3.out hb4)
    have hx0 : (dbE (fewD D) == 0) = false := beq_eq_false_iff_ne.2 hne
    obtain ⟨x, hx⟩ : ∃ x, dbE (fewD D) = x := ⟨_, rfl⟩
    rw [hx] at hx0 ⊢
    clear hne hx hb4 HEN
    go_wp2
    go_ret
    exact ⟨rfl, B4.out⟩
  · obtain ⟨gb, cc, rfl, hcc, hcm, -, hba, hb4⟩ := hnew
    have B4 := Lib.hid (Below.then_ B3.out hb4)
    have hbd := fewD_len (dbE_b hz0)
    have hso := seal_ok (dbB (fewD D))
    obtain ⟨L, hL⟩ : ∃ L, sealL (dbB (fewD D)) = L := ⟨_, rfl⟩
    have hLl : L.length = (dbB (fewD D)).length + 4 := by rw [← hL]; unfold sealL; rw [List.length_append]; rfl
    have hLb : L.length ≤ 900004 := by omega
    have hL4 : 4 ≤ L.length := by omega
    rw [hL] at hcc hba hso ⊢
    have HSO := Lib.hid hso.1
    have HL4 := Lib.hid hL4
    have HLB := Lib.hid hLb
    by_cases hp0 : pn = 0
    · subst hp0
      obtain ⟨N, hN⟩ : ∃ N, L.length = N := ⟨_, rfl⟩
      rw [hN]
      clear hN hLl hLb hL4 hL hso hbd hcc hcm hba hb4 HEN hz0
      go_wp2
      go_ret
      exact ⟨rfl, B4.out⟩
    · have hpn : ((pn : Int) == 0) = false := beq_eq_false_iff_ne.2 (by omega)
      have hfl := flip_any gb 0 cc L bit pn w4 hba hcc hcm (by omega) hp0 HPB.out HBB.out
      obtain ⟨N, hN⟩ : ∃ N, L.length = N := ⟨_, rfl⟩
      rw [hN] at hfl ⊢
      have HFL := Lib.hid hfl
      have HN := Lib.hid hN
      clear hN hLl hLb hL4 hL hso hbd hcc hcm hba hb4 HEN hz0 hfl
      have HP0 := Lib.hid hp0
      clear hp0
      go_wp2_with fail
      refine HFL.out.mono ?_
      rintro e w5 ⟨hb5, rfl | ⟨v, M, rfl, hnew, hflp, hlo, hhi⟩⟩
      · have B5 := Lib.hid (Below.then_ B4.out hb5)
        clear HFL hb5
        go_wp2
        go_ret
        exact ⟨rfl, B5.out⟩
      · have B5 := Lib.hid (Below.then_ B4.out hb5)
        obtain ⟨gq, cq, rfl, hcq, hcqm, -, hbq, -⟩ := hnew
        have hML : M.length = L.length := hflp.1
        have hop := Flp.bad hflp HPB.out HP0.out HL4.out HSO.out (by have := HN.out; omega)
        have hrd := rdRes_sum (bs := M) (by have := HL4.out; omega) hop
        have hdec := decode_bad (.slice (some ⟨gq, 0, none⟩) M.length cq) M 12 w5 ⟨_, cq, rfl, hcq, hcqm, fun _ => ⟨gq, 0, rfl, hbq⟩⟩ (by have := HLB.out; omega) hrd (by decide)
        have HDEC := Lib.hid hdec
        obtain ⟨m, hm⟩ : ∃ m, M.length = m := ⟨_, rfl⟩
        rw [hm] at HDEC ⊢
        clear HFL hb5 hcq hcqm hbq hML hop hrd hdec hm hflp hlo hhi
        go_wp2_with fail
        refine HDEC.out.mono ?_
        rintro e w6 ⟨rfl, hb6⟩
        have B6 := Lib.hid (Below.then_ B5.out hb6)
        obtain ⟨w7, hw7⟩ : ∃ W, w6.alloc (.cells dbZ9 30) = W := ⟨_, rfl⟩
        obtain ⟨q7, hq7⟩ : ∃ q, w6.heap.size = q := ⟨_, rfl⟩
        have X7 : Hid (Bx q7 dbZ9 30 w7) := by rw [← hw7, ← hq7]; exact Bx.last w6 _ _
        have B7 : Hid (Below w.heap.size w w7) := Below.then_ B6.out (by rw [← hw7]; exact (Below.refl _ _).alloc (Nat.le_refl _) _)
        have hsm := Lib.hid (same_zero w7)
        unfold dbZ9 at hw7 hsm ⊢
        have HW7 := Lib.hid hw7
        have HQ7 := Lib.hid hq7
        clear hw7 hq7 hb6 HDEC B6 B5 B4
        go_upto_region 10 with fail
        rw [HW7.out, HQ7.out]
        clear HW7 HQ7
        obtain ⟨⟨x0, x1, x2, x3, x4, x5, x6, x7, x8⟩, _⟩ := Bx.cells9 X7.out
        have xl := X7.out.lt
        go_wp2_with fail
        refine hsm.out.mono ?_
        rintro e w8 ⟨rfl, hb8⟩
        have B8 := Lib.hid (Below.then_ B7.out hb8)
        clear hsm hb8 X7
        go_wp2
        go_ret
        exact ⟨rfl, B8.out⟩
end Go.Proofs.YtecklnobgfahfaaGreatDoor
