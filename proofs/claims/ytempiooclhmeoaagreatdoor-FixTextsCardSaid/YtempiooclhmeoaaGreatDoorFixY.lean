/-
  Contract: the line of a fix: the reference.
-/
import Derived.Test.YtempiooclhmeoaaGreatDoorFixW
namespace Go.Proofs.YtempiooclhmeoaaGreatDoor
open Go.RowKit
set_option linter.unusedVariables false
set_option linter.unusedSimpArgs false

set_option maxRecDepth 100000 in
set_option maxHeartbeats 40000000 in
theorem rtextF_any (f : Fx) (w : World) (E : Env w) (hi : f.id.length ≤ maxLen) (hr : f.rg.length ≤ maxLen) :
    Calls Tryz.prog 19 #[.agg #[.string (sb f.id), .string (sb f.rg), .int .u8 (f.kd : Int), .int .i64 f.lat, .int .i64 f.lon, .int .i64 f.el, .int .i64 f.ra]] w (TextFPost f w) := by
  have B0 := Lib.hid (fxBox_new w f)
  have HB0 : Hid (Below w.heap.size w (w.alloc (.cells #[.string (sb f.id), .string (sb f.rg), .int .u8 (f.kd : Int), .int .i64 f.lat, .int .i64 f.lon, .int .i64 f.el, .int .i64 f.ra] 26))) := (Below.refl _ _).alloc (Nat.le_refl _) _
  have HI := Lib.hid hi
  have HR := Lib.hid hr
  clear hi hr
  go_enter Tryz.func19, Tryz.ntmps19
  go_wp2_with fail
  refine (rcheck_any f _ HI.out HR.out).mono ?_
  rintro e w1 ⟨rfl, hb1⟩
  have B1 := Lib.hid (B0.out.below hb1)
  have HB1 := Lib.hid (Below.then_ HB0.out hb1)
  obtain ⟨c0, c1, c2, c3, c4, c5, c6⟩ := B1.out.cells
  have hl1 := lt_heap B1.out
  clear hb1
  by_cases h0 : fixE f = 0
  · have HE := Lib.hid h0
    obtain ⟨⟨hk1, hk2⟩, hid, hrg, hpos, hel, hra⟩ := fixE_ok h0
    have LI := identE_len hid
    have LR := locE_len hrg
    have HO := Lib.hid (fxOut_ok h0)
    have HHL := Lib.hid (fxHead_len LI LR)
    have LID : (sb f.id).size ≤ 6 := LI
    have LRG : (sb f.rg).size ≤ 6 := LR
    have HKK : Hid (1 ≤ f.kd ∧ f.kd ≤ 6) := ⟨hk1, hk2⟩
    rw [h0]
    clear h0 hid hrg hpos hel hra LI LR
    have i1 : (1 : Int) ≤ (f.kd : Int) := by omega
    have i2 : (f.kd : Int) ≤ 6 := by omega
    have i3 : (0 : Int) ≤ (f.kd : Int) - 1 := by omega
    have i4 : (f.kd : Int) - 1 < 6 := by omega
    have i5 : ((f.kd : Int) - 1).toNat = f.kd - 1 := by omega
    have LKW : (sb (kindWord f.kd)).size ≤ 8 := kindWord_len f.kd
    have i7 : (f.kd : Int) < 7 := by omega
    have i18 : (0 : Int) ≤ (f.kd : Int) := by omega
    have i9 : f.kd - 1 < 6 := by omega
    have i10 : f.kd < 7 := by omega
    have i11 : decide ((f.kd : Int) - 1 < 6) = true := decide_eq_true (by omega)
    have i12 : decide ((f.kd : Int) < 7) = true := decide_eq_true (by omega)
    have i13 : decide ((0 : Int) ≤ (f.kd : Int) - 1) = true := decide_eq_true (by omega)
    have i14 : decide ((1 : Int) ≤ (f.kd : Int)) = true := decide_eq_true (by omega)
    have P6 : Hid (IntKind.i64.wrap ((f.kd : Int) - 1) = (f.kd : Int) - 1) := IntWalk.i64_in _ (by omega)
    have P16 : Hid (IntKind.i64.wrap (f.kd : Int) = (f.kd : Int)) := IntWalk.i64_in _ (by omega)
    clear hk1 hk2
    go_wp2_with fail
    refine (rposText_any f.lat f.lon _).mono ?_
    rintro e w2 ⟨p, rfl, hp, hb2⟩
    have B2 := Lib.hid (B1.out.below hb2)
    have HB2 := Lib.hid (Below.then_ HB1.out hb2)
    have hps : p.size ≤ 19 := by rw [StrPost.size hp.out]; exact posOut_len _ _
    clear c0 c1 c2 c3 c4 c5 c6 hl1 hb2
    obtain ⟨c0, c1, c2, c3, c4, c5, c6⟩ := B2.out.cells
    have hl1 := lt_heap B2.out
    have hkw := fun wx => kw_lit wx f.kd HKK.out
    go_upto_region 5 with (fail)
    go_cut [7] (fun x wx => Hid (∃ t : ByteArray, x = .string t ∧ bl t = fxHead f) ∧ Hid (FxBox wx w.heap.size f) ∧ Hid (Below w.heap.size w wx))
    case first =>
      have i6 := P6.out
      have i16 := P16.out
      clear i11 i12 i13 i14
      go_region_with (go_at_call 55; refine (rkwl_any _).mono ?_; rintro e w3 ⟨rfl, rfl⟩)
      all_goals
        have B4 : Hid (FxBox ((w2.alloc (.cells #[.string ⟨#[87, 65, 89, 80, 79, 73, 78, 84]⟩, .string ⟨#[86, 79, 82]⟩, .string ⟨#[68, 77, 69]⟩, .string ⟨#[78, 68, 66]⟩, .string ⟨#[65, 73, 82, 80, 79, 82, 84]⟩, .string ⟨#[82, 85, 78, 87, 65, 89]⟩] 9)).drew) w.heap.size f) := B2.out.below (((Below.refl _ _).alloc (Nat.le_refl _) _).drew)
        have HB4 : Hid (Below w.heap.size w ((w2.alloc (.cells #[.string ⟨#[87, 65, 89, 80, 79, 73, 78, 84]⟩, .string ⟨#[86, 79, 82]⟩, .string ⟨#[68, 77, 69]⟩, .string ⟨#[78, 68, 66]⟩, .string ⟨#[65, 73, 82, 80, 79, 82, 84]⟩, .string ⟨#[82, 85, 78, 87, 65, 89]⟩] 9)).drew)) := Below.then_ HB2.out (((Below.refl _ _).alloc (Nat.le_refl _) _).drew)
        go_wp2
        go_meet
        exact ⟨by unfold Hid; exact ⟨_, rfl, by simp only [bl_append, bl_sb, bl_mk, hp.out, List.append_assoc, List.cons_append, List.nil_append, fxHead]⟩, B4, HB4⟩
    case rest =>
      obtain ⟨hT7, B4, HB4⟩ := hcut
      obtain ⟨t7, rfl, ht7⟩ := hT7.out
      have HT7 := Lib.hid ht7
      have s7 : t7.size ≤ 60 := by rw [StrPost.size HT7.out]; exact HHL.out
      clear ht7 hT7 c0 c1 c2 c3 c4 c5 c6 hl1
      obtain ⟨c0, c1, c2, c3, c4, c5, c6⟩ := B4.out.cells
      have hl4 := lt_heap B4.out
      have E4 := E.below HB4.out
      cases hev : elevB f.kd
      · have HO1 : Hid (fxOut f = fxHead f ++ (if navB f.kd then 32 :: distOut f.ra else [])) := by unfold Hid; rw [HO.out, hev]; simp
        have HV := Lib.hid hev
        have hk5 := elev_no hev i2
        clear hev
        cases hnv : navB f.kd
        · have HO2 : Hid (fxOut f = fxHead f) := by unfold Hid; rw [HO1.out, hnv]; simp
          have HW := Lib.hid hnv
          have hk2 : (f.kd : Int) < 2 := by
            rcases nav_ways hnv with ⟨h, _⟩ | ⟨_, h⟩ | ⟨_, _, h⟩
            · cases h
            · exact h
            · omega
          clear hnv
          go_wp2
          go_ret2
          exact .mk HE.out (HT7.out.trans HO2.out.symm) HB4.out
        · have HO2 : Hid (fxOut f = fxHead f ++ 32 :: distOut f.ra) := by unfold Hid; rw [HO1.out, hnv]; simp
          have HW := Lib.hid hnv
          have hk24 : (2 : Int) ≤ (f.kd : Int) ∧ (f.kd : Int) ≤ 4 := by
            rcases nav_ways hnv with ⟨_, h⟩ | ⟨h, _⟩ | ⟨h, _⟩
            · exact h
            · cases h
            · cases h
          obtain ⟨hk2, hk4⟩ := hk24
          clear hnv
          go_wp2_with fail
          refine (rdistText_any f.ra _).mono ?_
          rintro en w5 ⟨t, rfl, ht, hts, rfl⟩
          have HB5 := HB4
          go_wp2
          go_ret2
          exact .mk HE.out (by rw [HO2.out]; simp only [bl_append, HT7.out, ht.out, bl_mk, List.append_assoc, List.cons_append, List.nil_append]) HB5.out
      · have HNN : Hid (navB f.kd = false) := by
          unfold Hid
          cases hnv : navB f.kd
          · rfl
          · exfalso
            have := elev_yes hev
            rcases nav_ways hnv with ⟨_, _, _⟩ | ⟨h, _⟩ | ⟨h, _⟩
            · omega
            · cases h
            · cases h
        have HO1 : Hid (fxOut f = fxHead f ++ 32 :: altOut f.el) := by unfold Hid; rw [HO.out, hev, HNN.out]; simp
        have HV := Lib.hid hev
        have hk5 := elev_yes hev
        have hk4 : (4 : Int) < (f.kd : Int) := by omega
        have hk2 : (2 : Int) ≤ (f.kd : Int) := by omega
        clear hev
        go_wp2_with fail
        refine (raltText_any f.el _).mono ?_
        rintro en w5 ⟨t, rfl, ht, hts, rfl⟩
        have HB5 := HB4
        go_wp2
        go_ret2
        exact .mk HE.out (by rw [HO1.out]; simp only [bl_append, HT7.out, ht.out, bl_mk, List.append_assoc, List.cons_append, List.nil_append]) HB5.out
  · have HE := Lib.hid h0
    have HO := Lib.hid (fxOut_bad h0)
    obtain ⟨er, her⟩ : ∃ x, fixE f = x := ⟨_, rfl⟩
    rw [her] at h0 ⊢
    have HER := Lib.hid her
    have e1 : (er != 0) = true := bne_iff_ne.2 h0
    clear h0 her
    go_wp2
    go_ret2
    exact .mk HER.out (by rw [HO.out]; rfl) HB1.out
end Go.Proofs.YtempiooclhmeoaaGreatDoor
