/-
  Contract: the line of a fix: the program.
-/
import Derived.Test.YtempiooclhmeoaaGreatDoorFixW
namespace Go.Proofs.YtempiooclhmeoaaGreatDoor
open Go.RowKit
set_option linter.unusedVariables false
set_option linter.unusedSimpArgs false

set_option maxRecDepth 100000 in
set_option maxHeartbeats 4000000 in
theorem textF_any (f : Fx) (w : World) (E : Env w) (hi : f.id.length ≤ maxLen) (hr : f.rg.length ≤ maxLen) :
    Calls Tryz.prog 18 #[.agg #[.string (sb f.id), .string (sb f.rg), .int .u8 (f.kd : Int), .int .i64 f.lat, .int .i64 f.lon, .int .i64 f.el, .int .i64 f.ra]] w (TextFPost f w) := by
  have B0 := Lib.hid (fxBox_new w f)
  have HB0 : Hid (Below w.heap.size w (w.alloc (.cells #[.string (sb f.id), .string (sb f.rg), .int .u8 (f.kd : Int), .int .i64 f.lat, .int .i64 f.lon, .int .i64 f.el, .int .i64 f.ra] 26))) := (Below.refl _ _).alloc (Nat.le_refl _) _
  have HI := Lib.hid hi
  have HR := Lib.hid hr
  clear hi hr
  go_enter Tryz.func18, Tryz.ntmps18
  go_wp2_with fail
  refine (check_any f _ HI.out HR.out).mono ?_
  rintro e w1 ⟨rfl, hb1⟩
  have B1 := Lib.hid (B0.out.below hb1)
  have HB1 := Lib.hid (Below.then_ HB0.out hb1)
  obtain ⟨c0, c1, c2, c3, c4, c5, c6⟩ := B1.out.cells
  have hl1 := lt_heap B1.out
  clear hb1
  by_cases h0 : fixE f = 0
  · have HE := Lib.hid h0
    obtain ⟨⟨hk1, hk2⟩, hid, hrg, hpos, hel, hra⟩ := fixE_ok h0
    have LI := identE_len hid
    have LR := locE_len hrg
    have HO := Lib.hid (fxOut_ok h0)
    have HHL := Lib.hid (fxHead_len LI LR)
    have LID : (sb f.id).size ≤ 6 := LI
    have LRG : (sb f.rg).size ≤ 6 := LR
    have HKK : Hid (1 ≤ f.kd ∧ f.kd ≤ 6) := ⟨hk1, hk2⟩
    rw [h0]
    clear h0 hid hrg hpos hel hra LI LR
    have i1 : (1 : Int) ≤ (f.kd : Int) := by omega
    have i2 : (f.kd : Int) ≤ 6 := by omega
    have i3 : (0 : Int) ≤ (f.kd : Int) - 1 := by omega
    have i4 : (f.kd : Int) - 1 < 6 := by omega
    have i5 : ((f.kd : Int) - 1).toNat = f.kd - 1 := by omega
    have i6 : IntKind.u8.wrap ((f.kd : Int) - 1) = (f.kd : Int) - 1 := IntWalk.u8_in _ (by omega)
    clear hk1 hk2
    go_wp2_with fail
    refine (posText_any f.lat f.lon _).mono ?_
    rintro e w2 ⟨p, rfl, hp, hb2⟩
    have B2 := Lib.hid (B1.out.below hb2)
    have HB2 := Lib.hid (Below.then_ HB1.out hb2)
    have hps : p.size ≤ 19 := by rw [StrPost.size hp.out]; exact posOut_len _ _
    clear c0 c1 c2 c3 c4 c5 c6 hl1 hb2
    obtain ⟨c0, c1, c2, c3, c4, c5, c6⟩ := B2.out.cells
    have hl1 := lt_heap B2.out
    have hkw := fun wx => kw_lit wx f.kd HKK.out
    have HCL : Hid (∀ (wx : World) (ob : Obj), ∀ (j : Nat) x, [sb (kindWord f.kd), sb f.id, sb f.rg, p][j]? = some x → ((wx.alloc ob).alloc (.cells #[.string (sb (kindWord f.kd)), .string (sb f.id), .string (sb f.rg), .string p] 9)).drew.cell? ⟨wx.heap.size + 1, 0 + j, none⟩ = some (.string x)) := by
      intro wx ob j x hj
      have hh := heap_alloc_new (wx.alloc ob) (.cells #[.string (sb (kindWord f.kd)), .string (sb f.id), .string (sb f.rg), .string p] 9)
      rw [World.size_alloc] at hh
      have hh2 : ((wx.alloc ob).alloc (.cells #[.string (sb (kindWord f.kd)), .string (sb f.id), .string (sb f.rg), .string p] 9)).drew.heap[wx.heap.size + 1]? = some (.cells #[.string (sb (kindWord f.kd)), .string (sb f.id), .string (sb f.rg), .string p] 9 (0, 0)) := hh
      rw [Nat.zero_add, Lib.cell_of_heap hh2]
      match j, hj with
      | 0, hj => simp at hj; subst hj; rfl
      | 1, hj => simp at hj; subst hj; rfl
      | 2, hj => simp at hj; subst hj; rfl
      | 3, hj => simp at hj; subst hj; rfl
      | j + 4, hj => simp at hj
    have HJ : Hid (Lib.join ([sb (kindWord f.kd), sb f.id, sb f.rg, p].map (·.data.toList)) (⟨#[32]⟩ : ByteArray).data.toList = fxHead f) := by
      unfold Hid
      show Lib.join [kindWord f.kd, f.id, f.rg, bl p] [32] = _
      rw [join4, hp.out]; rfl
    have HJL : Hid ((Lib.join ([sb (kindWord f.kd), sb f.id, sb f.rg, p].map (·.data.toList)) (⟨#[32]⟩ : ByteArray).data.toList).length ≤ 140737488355328) := by
      unfold Hid; rw [HJ.out]; have := HHL.out; omega
    go_upto_region 5 with (fail)
    go_cut [7] (fun x wx => Hid (∃ t : ByteArray, x = .string t ∧ bl t = fxHead f) ∧ Hid (FxBox wx w.heap.size f) ∧ Hid (Below w.heap.size w wx))
    case first =>
      go_region_with (first
        | (go_at_call 51; refine (kwl_any _).mono ?_; rintro e w3 ⟨rfl, rfl⟩)
        | (go_at_call 50; refine (Tryz.strings_Join _ 0 4 [sb (kindWord f.kd), sb f.id, sb f.rg, p] ⟨#[32]⟩ _ (HCL.out _ _) (by simp) (by simp) (by simp) HJL.out).mono ?_; rintro e w4 ⟨rfl, hb4⟩; have B4 := Lib.hid ((B2.out.below (by repeat (first | exact Below.refl _ _ | refine Below.drew ?_ | refine Below.alloc ?_ (by simp) _ | refine below_drewN' ?_ _))).below hb4); have HB4 := Lib.hid (Below.then_ (Below.then_ HB2.out (by repeat (first | exact Below.refl _ _ | refine Below.drew ?_ | refine Below.alloc ?_ (by simp) _ | refine below_drewN' ?_ _))) hb4); clear c0 c1 c2 c3 c4 c5 c6 hb4; obtain ⟨c0, c1, c2, c3, c4, c5, c6⟩ := B4.out.cells; have hl4 := lt_heap B4.out))
      all_goals
        have HT7 : Hid (∃ t : ByteArray, Value.string (⟨(Lib.join [(sb (kindWord f.kd)).data.toList, (sb f.id).data.toList, (sb f.rg).data.toList, p.data.toList] [32]).toArray⟩ : ByteArray) = .string t ∧ bl t = fxHead f) := ⟨_, rfl, HJ.out⟩
        go_wp2
        go_meet
        exact ⟨HT7, B4, HB4⟩
    case rest =>
      obtain ⟨hT7, B4, HB4⟩ := hcut
      obtain ⟨t7, rfl, ht7⟩ := hT7.out
      have HT7 := Lib.hid ht7
      have s7 : t7.size ≤ 60 := by rw [StrPost.size HT7.out]; exact HHL.out
      clear ht7 hT7 c0 c1 c2 c3 c4 c5 c6 hl1
      obtain ⟨c0, c1, c2, c3, c4, c5, c6⟩ := B4.out.cells
      have hl4 := lt_heap B4.out
      have E4 := E.below HB4.out
      cases hev : elevB f.kd
      · have HO1 : Hid (fxOut f = fxHead f ++ (if navB f.kd then 32 :: distOut f.ra else [])) := by unfold Hid; rw [HO.out, hev]; simp
        have HV := Lib.hid hev
        clear hev
        go_wp2_with fail
        refine (elevated_any f.kd _).mono ?_
        rintro en w5 ⟨rfl, rfl⟩
        rw [HV.out]
        cases hnv : navB f.kd
        · have HO2 : Hid (fxOut f = fxHead f) := by unfold Hid; rw [HO1.out, hnv]; simp
          have HW := Lib.hid hnv
          clear hnv
          go_wp2_with fail
          refine (navaid_any f.kd _).mono ?_
          rintro en w5 ⟨rfl, rfl⟩
          rw [HW.out]
          go_wp2
          go_ret2
          exact .mk HE.out (HT7.out.trans HO2.out.symm) HB4.out
        · have HO2 : Hid (fxOut f = fxHead f ++ 32 :: distOut f.ra) := by unfold Hid; rw [HO1.out, hnv]; simp
          have HW := Lib.hid hnv
          clear hnv
          go_wp2_with fail
          refine (navaid_any f.kd _).mono ?_
          rintro en w5 ⟨rfl, rfl⟩
          rw [HW.out]
          go_wp2_with fail
          refine (distText_any f.ra _ E4).mono ?_
          rintro en w5 ⟨t, rfl, ht, hts, hb5⟩
          have HB5 := Lib.hid (Below.then_ HB4.out hb5)
          clear hb5
          go_wp2
          go_ret2
          exact .mk HE.out (by rw [HO2.out]; first | (rw [bl_append, bl_append, HT7.out, ht.out]; rfl) | (simp only [bl_append, HT7.out, ht.out]; rfl)) HB5.out
      · have HNN : Hid (navB f.kd = false) := by
          unfold Hid
          cases hnv : navB f.kd
          · rfl
          · exfalso
            have := elev_yes hev
            rcases nav_ways hnv with ⟨_, _, _⟩ | ⟨h, _⟩ | ⟨h, _⟩
            · omega
            · cases h
            · cases h
        have HO1 : Hid (fxOut f = fxHead f ++ 32 :: altOut f.el) := by unfold Hid; rw [HO.out, hev, HNN.out]; simp
        have HV := Lib.hid hev
        clear hev
        go_wp2_with fail
        refine (elevated_any f.kd _).mono ?_
        rintro en w5 ⟨rfl, rfl⟩
        rw [HV.out]
        go_wp2_with fail
        refine (altText_any f.el _ E4).mono ?_
        rintro en w5 ⟨t, rfl, ht, hts, hb5⟩
        have HB5 := Lib.hid (Below.then_ HB4.out hb5)
        have B5 := Lib.hid (B4.out.below hb5)
        clear c0 c1 c2 c3 c4 c5 c6 hl4 hb5
        obtain ⟨c0, c1, c2, c3, c4, c5, c6⟩ := B5.out.cells
        go_wp2_with fail
        refine (navaid_any f.kd _).mono ?_
        rintro en w6 ⟨rfl, rfl⟩
        rw [HNN.out]
        go_wp2
        go_ret2
        exact .mk HE.out (by rw [HO1.out]; first | (rw [bl_append, bl_append, HT7.out, ht.out]; rfl) | (simp only [bl_append, HT7.out, ht.out]; rfl)) HB5.out
  · have HE := Lib.hid h0
    have HO := Lib.hid (fxOut_bad h0)
    obtain ⟨er, her⟩ : ∃ x, fixE f = x := ⟨_, rfl⟩
    rw [her] at h0 ⊢
    have HER := Lib.hid her
    have e1 : (er != 0) = true := bne_iff_ne.2 h0
    clear h0 her
    go_wp2
    go_ret2
    exact .mk HER.out (by rw [HO.out]; rfl) HB1.out
end Go.Proofs.YtempiooclhmeoaaGreatDoor
