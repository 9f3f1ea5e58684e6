/-
  Several texts as one.
  Contract: the line of a fix: the program.
  Contracts: the law's awake answers true; references of fixes on both sides.
  Lists of fixes in memory; contracts: the fixes with an identifier, the first fix with a reference; on both sides.
  Contract: cmp.Compare at strings; orders by a text.
  Contracts: fix.Sort and flightdeckref14.Sort: fixes in the order of their references, equal ones in their order.
-/
import Derived.Test.YteojggbmkppjoaaGreatDoorMFixB
import Derived.Test.YteojggbmkppjoaaGreatDoorMSort
import Derived.Test.YteojggbmkppjoaaGreatDoorMWords
import Derived.Shelf.SlSortCmp.KitK
import Derived.Test.YteojggbmkppjoaaGreatDoorMSorV
namespace Go.Proofs.YteojggbmkppjoaaGreatDoor
open Go.RowKit
set_option linter.unusedVariables false
set_option linter.unusedSimpArgs false

set_option maxRecDepth 100000 in
set_option maxHeartbeats 4000000 in
theorem textF_any (f : Fx) (w : World) (E : Env w) (hi : f.id.length ≤ maxLen) (hr : f.rg.length ≤ maxLen) :
    Calls Tryz.prog 11 #[.agg #[.string (sb f.id), .string (sb f.rg), .int .u8 (f.kd : Int), .int .i64 f.lat, .int .i64 f.lon, .int .i64 f.el, .int .i64 f.ra]] w (TextFPost f w) := by
  have B0 := Lib.hid (fxBox_new w f)
  have HB0 : Hid (Below w.heap.size w (w.alloc (.cells #[.string (sb f.id), .string (sb f.rg), .int .u8 (f.kd : Int), .int .i64 f.lat, .int .i64 f.lon, .int .i64 f.el, .int .i64 f.ra] 34))) := (Below.refl _ _).alloc (Nat.le_refl _) _
  have HI := Lib.hid hi
  have HR := Lib.hid hr
  clear hi hr
  go_enter Tryz.func11, Tryz.ntmps11
  go_wp2_with fail
  refine (checkF_any f _ HI.out HR.out).mono ?_
  rintro e w1 ⟨rfl, hb1⟩
  have B1 := Lib.hid (B0.out.below hb1)
  have HB1 := Lib.hid (Below.then_ HB0.out hb1)
  obtain ⟨c0, c1, c2, c3, c4, c5, c6⟩ := B1.out.cells
  have hl1 := lt_heap B1.out
  clear hb1
  by_cases h0 : fixE f = 0
  · have HE := Lib.hid h0
    obtain ⟨⟨hk1, hk2⟩, hid, hrg, hpos, hel, hra⟩ := fixE_ok h0
    have LI := identE_len hid
    have LR := locE_len hrg
    have HO := Lib.hid (fxOut_ok h0)
    have HHL := Lib.hid (fxHead_len LI LR)
    have LID : (sb f.id).size ≤ 6 := LI
    have LRG : (sb f.rg).size ≤ 6 := LR
    have HKK : Hid (1 ≤ f.kd ∧ f.kd ≤ 6) := ⟨hk1, hk2⟩
    rw [h0]
    clear h0 hid hrg hpos hel hra LI LR
    have i1 : (1 : Int) ≤ (f.kd : Int) := by omega
    have i2 : (f.kd : Int) ≤ 6 := by omega
    have i3 : (0 : Int) ≤ (f.kd : Int) - 1 := by omega
    have i4 : (f.kd : Int) - 1 < 6 := by omega
    have i5 : ((f.kd : Int) - 1).toNat = f.kd - 1 := by omega
    have i6 : IntKind.u8.wrap ((f.kd : Int) - 1) = (f.kd : Int) - 1 := IntWalk.u8_in _ (by omega)
    clear hk1 hk2
    go_wp2_with fail
    refine (posText_any f.lat f.lon _).mono ?_
    rintro e w2 ⟨p, rfl, hp, hb2⟩
    have B2 := Lib.hid (B1.out.below hb2)
    have HB2 := Lib.hid (Below.then_ HB1.out hb2)
    have hps : p.size ≤ 19 := by rw [StrPost.size hp.out]; exact posOut_len _ _
    clear c0 c1 c2 c3 c4 c5 c6 hl1 hb2
    obtain ⟨c0, c1, c2, c3, c4, c5, c6⟩ := B2.out.cells
    have hl1 := lt_heap B2.out
    have hkw := fun wx => kw_lit wx f.kd HKK.out
    have HCL : Hid (∀ (wx : World) (ob : Obj), ∀ (j : Nat) x, [sb (kindWord f.kd), sb f.id, sb f.rg, p][j]? = some x → ((wx.alloc ob).alloc (.cells #[.string (sb (kindWord f.kd)), .string (sb f.id), .string (sb f.rg), .string p] 9)).drew.cell? ⟨wx.heap.size + 1, 0 + j, none⟩ = some (.string x)) := by
      intro wx ob j x hj
      have hh := heap_alloc_new (wx.alloc ob) (.cells #[.string (sb (kindWord f.kd)), .string (sb f.id), .string (sb f.rg), .string p] 9)
      rw [World.size_alloc] at hh
      have hh2 : ((wx.alloc ob).alloc (.cells #[.string (sb (kindWord f.kd)), .string (sb f.id), .string (sb f.rg), .string p] 9)).drew.heap[wx.heap.size + 1]? = some (.cells #[.string (sb (kindWord f.kd)), .string (sb f.id), .string (sb f.rg), .string p] 9 (0, 0)) := hh
      rw [Nat.zero_add, Lib.cell_of_heap hh2]
      match j, hj with
      | 0, hj => simp at hj; subst hj; rfl
      | 1, hj => simp at hj; subst hj; rfl
      | 2, hj => simp at hj; subst hj; rfl
      | 3, hj => simp at hj; subst hj; rfl
      | j + 4, hj => simp at hj
    have HJ : Hid (Lib.join ([sb (kindWord f.kd), sb f.id, sb f.rg, p].map (·.data.toList)) (⟨#[32]⟩ : ByteArray).data.toList = fxHead f) := by
      unfold Hid
      show Lib.join [kindWord f.kd, f.id, f.rg, bl p] [32] = _
      rw [join4, hp.out]; rfl
    have HJL : Hid ((Lib.join ([sb (kindWord f.kd), sb f.id, sb f.rg, p].map (·.data.toList)) (⟨#[32]⟩ : ByteArray).data.toList).length ≤ 140737488355328) := by
      unfold Hid; rw [HJ.out]; have := HHL.out; omega
    go_upto_region 5 with (fail)
    go_cut [7] (fun x wx => Hid (∃ t : ByteArray, x = .string t ∧ bl t = fxHead f) ∧ Hid (FxBox wx w.heap.size f) ∧ Hid (Below w.heap.size w wx))
    case first =>
      go_region_with (first
        | (go_at_call 31; refine (kwl_any _).mono ?_; rintro e w3 ⟨rfl, rfl⟩)
        | (go_at_call 30; refine (Tryz.strings_Join _ 0 4 [sb (kindWord f.kd), sb f.id, sb f.rg, p] ⟨#[32]⟩ _ (HCL.out _ _) (by simp) (by simp) (by simp) HJL.out).mono ?_; rintro e w4 ⟨rfl, hb4⟩; have B4 := Lib.hid ((B2.out.below (by repeat (first | exact Below.refl _ _ | refine Below.drew ?_ | refine Below.alloc ?_ (by simp) _ | refine below_drewN' ?_ _))).below hb4); have HB4 := Lib.hid (Below.then_ (Below.then_ HB2.out (by repeat (first | exact Below.refl _ _ | refine Below.drew ?_ | refine Below.alloc ?_ (by simp) _ | refine below_drewN' ?_ _))) hb4); clear c0 c1 c2 c3 c4 c5 c6 hb4; obtain ⟨c0, c1, c2, c3, c4, c5, c6⟩ := B4.out.cells; have hl4 := lt_heap B4.out))
      all_goals
        have HT7 : Hid (∃ t : ByteArray, Value.string (⟨(Lib.join [(sb (kindWord f.kd)).data.toList, (sb f.id).data.toList, (sb f.rg).data.toList, p.data.toList] [32]).toArray⟩ : ByteArray) = .string t ∧ bl t = fxHead f) := ⟨_, rfl, HJ.out⟩
        go_wp2
        go_meet
        exact ⟨HT7, B4, HB4⟩
    case rest =>
      obtain ⟨hT7, B4, HB4⟩ := hcut
      obtain ⟨t7, rfl, ht7⟩ := hT7.out
      have HT7 := Lib.hid ht7
      have s7 : t7.size ≤ 60 := by rw [StrPost.size HT7.out]; exact HHL.out
      clear ht7 hT7 c0 c1 c2 c3 c4 c5 c6 hl1
      obtain ⟨c0, c1, c2, c3, c4, c5, c6⟩ := B4.out.cells
      have hl4 := lt_heap B4.out
      have E4 := E.below HB4.out
      cases hev : elevB f.kd
      · have HO1 : Hid (fxOut f = fxHead f ++ (if navB f.kd then 32 :: distOut f.ra else [])) := by unfold Hid; rw [HO.out, hev]; simp
        have HV := Lib.hid hev
        clear hev
        go_wp2_with fail
        refine (elevated_any f.kd _).mono ?_
        rintro en w5 ⟨rfl, rfl⟩
        rw [HV.out]
        cases hnv : navB f.kd
        · have HO2 : Hid (fxOut f = fxHead f) := by unfold Hid; rw [HO1.out, hnv]; simp
          have HW := Lib.hid hnv
          clear hnv
          go_wp2_with fail
          refine (navaid_any f.kd _).mono ?_
          rintro en w5 ⟨rfl, rfl⟩
          rw [HW.out]
          go_wp2
          go_ret2
          exact .mk HE.out (HT7.out.trans HO2.out.symm) HB4.out
        · have HO2 : Hid (fxOut f = fxHead f ++ 32 :: distOut f.ra) := by unfold Hid; rw [HO1.out, hnv]; simp
          have HW := Lib.hid hnv
          clear hnv
          go_wp2_with fail
          refine (navaid_any f.kd _).mono ?_
          rintro en w5 ⟨rfl, rfl⟩
          rw [HW.out]
          go_wp2_with fail
          refine (distText_any f.ra _ E4).mono ?_
          rintro en w5 ⟨t, rfl, ht, hts, hb5⟩
          have HB5 := Lib.hid (Below.then_ HB4.out hb5)
          clear hb5
          go_wp2
          go_ret2
          exact .mk HE.out (by rw [HO2.out]; first | (rw [bl_append, bl_append, HT7.out, ht.out]; rfl) | (simp only [bl_append, HT7.out, ht.out]; rfl)) HB5.out
      · have HNN : Hid (navB f.kd = false) := by
          unfold Hid
          cases hnv : navB f.kd
          · rfl
          · exfalso
            have := elev_yes hev
            rcases nav_ways hnv with ⟨_, _, _⟩ | ⟨h, _⟩ | ⟨h, _⟩
            · omega
            · cases h
            · cases h
        have HO1 : Hid (fxOut f = fxHead f ++ 32 :: altOut f.el) := by unfold Hid; rw [HO.out, hev, HNN.out]; simp
        have HV := Lib.hid hev
        clear hev
        go_wp2_with fail
        refine (elevated_any f.kd _).mono ?_
        rintro en w5 ⟨rfl, rfl⟩
        rw [HV.out]
        go_wp2_with fail
        refine (altText_any f.el _ E4).mono ?_
        rintro en w5 ⟨t, rfl, ht, hts, hb5⟩
        have HB5 := Lib.hid (Below.then_ HB4.out hb5)
        have B5 := Lib.hid (B4.out.below hb5)
        clear c0 c1 c2 c3 c4 c5 c6 hl4 hb5
        obtain ⟨c0, c1, c2, c3, c4, c5, c6⟩ := B5.out.cells
        go_wp2_with fail
        refine (navaid_any f.kd _).mono ?_
        rintro en w6 ⟨rfl, rfl⟩
        rw [HNN.out]
        go_wp2
        go_ret2
        exact .mk HE.out (by rw [HO1.out]; first | (rw [bl_append, bl_append, HT7.out, ht.out]; rfl) | (simp only [bl_append, HT7.out, ht.out]; rfl)) HB5.out
  · have HE := Lib.hid h0
    have HO := Lib.hid (fxOut_bad h0)
    obtain ⟨er, her⟩ : ∃ x, fixE f = x := ⟨_, rfl⟩
    rw [her] at h0 ⊢
    have HER := Lib.hid her
    have e1 : (er != 0) = true := bne_iff_ne.2 h0
    clear h0 her
    go_wp2
    go_ret2
    exact .mk HER.out (by rw [HO.out]; rfl) HB1.out
end Go.Proofs.YteojggbmkppjoaaGreatDoor
namespace Go.Proofs.YteojggbmkppjoaaGreatDoor
open Go.RowKit
set_option linter.unusedVariables false
set_option linter.unusedSimpArgs false

/-! ### the example of the chapter -/
def sumF : Fx := ⟨[83, 85, 77, 77, 65], [75, 49], 1, 16760000, -43921500, 0, 0⟩
def sumL : List UInt8 := [87, 65, 89, 80, 79, 73, 78, 84, 32, 83, 85, 77, 77, 65, 32, 75, 49, 32, 78, 52, 54, 51, 51, 50, 48, 48, 48, 87, 49, 50, 50, 48, 48, 49, 53, 48, 48]
def sumR : List UInt8 := [83, 85, 77, 77, 65, 47, 75, 49]
theorem sum_ok : fixE sumF = 0 := by decide
theorem sum_out : fxOut sumF = sumL := by decide
theorem sum_pF : paF sumL = sumF := by rfl
theorem sum_pE : paE sumL = 0 := by decide
theorem sum_ref : fxRef sumF = sumR := by decide
theorem sum_rE : refErr sumR = 0 ∧ refFst sumR = [83, 85, 77, 77, 65] ∧ refSnd sumR = [75, 49] := by decide
def FRefPost (f : Fx) (w : World) (e : Ending) (w' : World) : Prop := e = .returned (.string (sb (fxRef f))) ∧ Below w.heap.size w w'
theorem fixRef_any (f : Fx) (w : World) (hi : f.id.length ≤ 1000000000000000) (hr : f.rg.length ≤ 1000000000000000) :
    Calls Tryz.prog 9 #[.agg #[.string (sb f.id), .string (sb f.rg), .int .u8 (f.kd : Int), .int .i64 f.lat, .int .i64 f.lon, .int .i64 f.el, .int .i64 f.ra]] w (FRefPost f w) := by
  have h1 : (sb f.id).size ≤ 1000000000000000 := hi
  have h2 : (sb f.rg).size ≤ 1000000000000000 := hr
  have HE : Hid (∀ s : ByteArray, bl s = fxRef f → sb (fxRef f) = s) := fun s h => by rw [← h, sb_bl]
  clear hi hr
  go_enter Tryz.func9, Tryz.ntmps9
  go_wp2
  go_ret
  refine ⟨?_, (Below.refl _ _).alloc (Nat.le_refl _) _⟩
  rw [HE.out (sb f.id ++ ⟨#[47]⟩ ++ sb f.rg) (by rw [bl_append, bl_append, bl_sb, bl_sb]; unfold fxRef; simp [bl_mk])]
  first | rfl | (simp [ByteArray.append_assoc])
theorem rfixRef_any (f : Fx) (w : World) (hi : f.id.length ≤ 1000000000000000) (hr : f.rg.length ≤ 1000000000000000) :
    Calls Tryz.prog 20 #[.agg #[.string (sb f.id), .string (sb f.rg), .int .u8 (f.kd : Int), .int .i64 f.lat, .int .i64 f.lon, .int .i64 f.el, .int .i64 f.ra]] w (FRefPost f w) := by
  have h1 : (sb f.id).size ≤ 1000000000000000 := hi
  have h2 : (sb f.rg).size ≤ 1000000000000000 := hr
  have HE : Hid (∀ s : ByteArray, bl s = fxRef f → sb (fxRef f) = s) := fun s h => by rw [← h, sb_bl]
  clear hi hr
  go_enter Tryz.func20, Tryz.ntmps20
  go_wp2
  go_ret
  refine ⟨?_, (Below.refl _ _).alloc (Nat.le_refl _) _⟩
  rw [HE.out (sb f.id ++ ⟨#[47]⟩ ++ sb f.rg) (by rw [bl_append, bl_append, bl_sb, bl_sb]; unfold fxRef; simp [bl_mk])]
  first | rfl | (simp [ByteArray.append_assoc])
theorem text_sum (w : World) (E : Env w) : Calls Tryz.prog 11 #[.agg #[.string ⟨#[83, 85, 77, 77, 65]⟩, .string ⟨#[75, 49]⟩, .int .u8 1, .int .i64 16760000, .int .i64 (-43921500), .int .i64 0, .int .i64 0]] w fun e w' => e = .returned (.tuple #[.string (sb sumL), .int .i64 0]) ∧ Below w.heap.size w w' := by
  refine (textF_any sumF w E (by decide) (by decide)).mono ?_
  rintro e w' ⟨t, rfl, ht, hb⟩
  refine ⟨?_, hb⟩
  rw [sum_ok, ← sb_bl t, ht.out, sum_out]
theorem parse_sum (w : World) (E : Env w) : Calls Tryz.prog 12 #[.string (sb sumL)] w fun e w' => e = .returned (.tuple #[.agg #[.string ⟨#[83, 85, 77, 77, 65]⟩, .string ⟨#[75, 49]⟩, .int .u8 1, .int .i64 16760000, .int .i64 (-43921500), .int .i64 0, .int .i64 0], .int .i64 0]) ∧ Below w.heap.size w w' := by
  refine (parseF_any (sb sumL) w E (by decide)).mono ?_
  rintro e w' ⟨rfl, hb⟩
  refine ⟨?_, hb⟩
  rw [bl_sb, sum_pF, sum_pE]; rfl
theorem split_sum (w : World) : Calls Tryz.prog 13 #[.string ⟨#[83, 85, 77, 77, 65, 47, 75, 49]⟩] w fun e w' => e = .returned (.tuple #[.string ⟨#[83, 85, 77, 77, 65]⟩, .string ⟨#[75, 49]⟩, .int .i64 0]) ∧ Drawn w w' := by
  refine (splitRef_any (sb sumR) w (by decide)).mono ?_
  rintro e w' ⟨a, b, rfl, ha, hb, _, _, hd⟩
  refine ⟨?_, hd⟩
  rw [bl_sb, sum_rE.2.1] at ha
  rw [bl_sb, sum_rE.2.2] at hb
  rw [bl_sb, sum_rE.1, ← sb_bl a, ha.out, ← sb_bl b, hb.out]; rfl
theorem ref_sum (w : World) : Calls Tryz.prog 9 #[.agg #[.string ⟨#[83, 85, 77, 77, 65]⟩, .string ⟨#[75, 49]⟩, .int .u8 1, .int .i64 16760000, .int .i64 (-43921500), .int .i64 0, .int .i64 0]] w fun e w' => e = .returned (.string ⟨#[83, 85, 77, 77, 65, 47, 75, 49]⟩) ∧ Below w.heap.size w w' := by
  refine (fixRef_any sumF w (by decide) (by decide)).mono ?_
  rintro e w' ⟨rfl, hb⟩
  refine ⟨?_, hb⟩
  rw [sum_ref]; rfl
theorem sumL_eq : ((sb sumL).toList == [87, 65, 89, 80, 79, 73, 78, 84, 32, 83, 85, 77, 77, 65, 32, 75, 49, 32, 78, 52, 54, 51, 51, 50, 48, 48, 48, 87, 49, 50, 50, 48, 48, 49, 53, 48, 48]) = true := by rw [bl_toList, bl_sb]; rfl
set_option maxRecDepth 100000 in
set_option maxHeartbeats 1000000 in
theorem awakeF_any (w : World) (E : Env w) : Calls Tryz.prog 5 #[] w fun e w' => e = .returned (.bool true) ∧ Below w.heap.size w w' := by
  have hL := sumL_eq
  have E0 := E.alloc (.cells #[.string ⟨#[83, 85, 77, 77, 65]⟩, .string ⟨#[75, 49]⟩, .int .u8 1, .int .i64 16760000, .int .i64 (-43921500), .int .i64 0, .int .i64 0] 34)
  have B0 : Hid (FxBox (w.alloc (.cells #[.string ⟨#[83, 85, 77, 77, 65]⟩, .string ⟨#[75, 49]⟩, .int .u8 1, .int .i64 16760000, .int .i64 (-43921500), .int .i64 0, .int .i64 0] 34)) w.heap.size sumF) := heap_alloc_new w _
  have HB0 : Hid (Below w.heap.size w (w.alloc (.cells #[.string ⟨#[83, 85, 77, 77, 65]⟩, .string ⟨#[75, 49]⟩, .int .u8 1, .int .i64 16760000, .int .i64 (-43921500), .int .i64 0, .int .i64 0] 34))) := (Below.refl _ _).alloc (Nat.le_refl _) _
  go_enter Tryz.func5, Tryz.ntmps5
  go_wp2_with fail
  refine (text_sum _ E0).mono ?_
  rintro e w1 ⟨rfl, hb1⟩
  have B1 := Lib.hid (B0.out.below hb1)
  have HB1 := Lib.hid (Below.then_ HB0.out hb1)
  have E1 := E.below HB1.out
  obtain ⟨c0, c1, c2, c3, c4, c5, c6⟩ : FxCells w1 w.heap.size ⟨#[83, 85, 77, 77, 65]⟩ ⟨#[75, 49]⟩ 1 16760000 (-43921500) 0 0 := B1.out.cells
  have hl1 := lt_heap B1.out
  clear hb1
  go_wp2_with fail
  refine (parse_sum _ E1).mono ?_
  rintro e w2 ⟨rfl, hb2⟩
  have B2 := Lib.hid (B1.out.below hb2)
  have HB2 := Lib.hid (Below.then_ HB1.out hb2)
  have HB2' : Hid (Below w2.heap.size w2 (w2.alloc (.cells #[.string ⟨#[83, 85, 77, 77, 65]⟩, .string ⟨#[75, 49]⟩, .int .u8 1, .int .i64 16760000, .int .i64 (-43921500), .int .i64 0, .int .i64 0] 34))) := (Below.refl _ _).alloc (Nat.le_refl _) _
  clear c0 c1 c2 c3 c4 c5 c6 hl1 hb2
  go_wp2_with fail
  refine (split_sum _).mono ?_
  rintro e w3 ⟨rfl, hd3⟩
  have hb3 := hd3.below (b := (w2.alloc (.cells #[.string ⟨#[83, 85, 77, 77, 65]⟩, .string ⟨#[75, 49]⟩, .int .u8 1, .int .i64 16760000, .int .i64 (-43921500), .int .i64 0, .int .i64 0] 34)).heap.size)
  have B3 := Lib.hid ((B2.out.below HB2'.out).below hb3)
  have G3 : Hid (FxBox w3 w2.heap.size sumF) := FxBox.below (w := w2.alloc (.cells #[.string ⟨#[83, 85, 77, 77, 65]⟩, .string ⟨#[75, 49]⟩, .int .u8 1, .int .i64 16760000, .int .i64 (-43921500), .int .i64 0, .int .i64 0] 34)) (heap_alloc_new w2 _) hb3
  have HB3 := Lib.hid (Below.then_ (Below.then_ HB2.out HB2'.out) hb3)
  clear hb3 hd3
  obtain ⟨c0, c1, c2, c3, c4, c5, c6⟩ : FxCells w3 w.heap.size ⟨#[83, 85, 77, 77, 65]⟩ ⟨#[75, 49]⟩ 1 16760000 (-43921500) 0 0 := B3.out.cells
  obtain ⟨d0, d1, d2, d3, d4, d5, d6⟩ : FxCells w3 w2.heap.size ⟨#[83, 85, 77, 77, 65]⟩ ⟨#[75, 49]⟩ 1 16760000 (-43921500) 0 0 := G3.out.cells
  go_wp2_with fail
  refine (ref_sum _).mono ?_
  rintro e w4 ⟨rfl, hb4⟩
  have HB4 := Lib.hid (Below.then_ HB3.out hb4)
  clear hb4
  go_wp2
  go_ret
  exact ⟨rfl, HB4.out⟩
end Go.Proofs.YteojggbmkppjoaaGreatDoor
namespace Go.Proofs.YteojggbmkppjoaaGreatDoor
open Go.RowKit
set_option linter.unusedVariables false
set_option linter.unusedSimpArgs false

theorem infoFix : (Tryz.prog.info? 34).map (fun i => (i.zero, i.size, i.bytes)) = some (some (.agg #[.string ⟨#[]⟩, .string ⟨#[]⟩, .int .u8 0, .int .i64 0, .int .i64 0, .int .i64 0, .int .i64 0]), 7, 72) := by kernel_rfl
theorem fxcells_len (l : List Fx) : (fxcells l).length = l.length * 7 := by
  induction l with
  | nil => rfl
  | cons p l ih =>
    show (fxc p ++ fxcells l).length = _
    rw [List.length_append, ih, List.length_cons]
    show 7 + _ = _
    omega
theorem fxcells_snoc (l : List Fx) (p : Fx) : fxcells (l ++ [p]) = fxcells l ++ fxc p := by
  unfold fxcells; rw [List.flatMap_append]; simp
theorem fxcells_at (l : List Fx) : ∀ (k : Nat) (h : k < l.length) (j : Nat), j < 7 → (fxcells l)[k * 7 + j]? = (fxc l[k])[j]? := by
  induction l with
  | nil => intro k h; simp at h
  | cons p l ih =>
    intro k h j hj
    show (fxc p ++ fxcells l)[k * 7 + j]? = _
    have hl : (fxc p).length = 7 := rfl
    cases k with
    | zero => rw [Nat.zero_mul, Nat.zero_add, List.getElem?_append_left (by omega)]; rfl
    | succ k =>
      rw [List.getElem?_append_right (by omega), hl, show (k + 1) * 7 + j - 7 = k * 7 + j by omega]
      exact ih k (by simpa using h) j hj
/-- fixes in memory; their strings fit -/
def FxsR (w : World) (v : Value) (l : List Fx) : Prop := Rd w 7 v l.length (fxcells l)
theorem FxsR.below {w w' : World} {v : Value} {l : List Fx} (h : FxsR w v l) (hb : Below w.heap.size w w') : FxsR w' v l := Rd.below h hb
theorem FxsR.form {w : World} {v : Value} {l : List Fx} (h : FxsR w v l) : ∃ A c, v = .slice A l.length c ∧ l.length ≤ c ∧ c ≤ 9223372036854775807 := by
  obtain ⟨A, c, hv, hc, hm⟩ := Rd.form h
  unfold maxLen at hm
  exact ⟨A, c, hv, hc, by omega⟩
structure FxAt (w : World) (g o : Nat) (f : Fx) : Prop where
  c0 : w.cell? ⟨g, o, none⟩ = some (.string (sb f.id))
  c1 : w.cell? ⟨g, o + 1, none⟩ = some (.string (sb f.rg))
  c2 : w.cell? ⟨g, o + 2, none⟩ = some (.int .u8 (f.kd : Int))
  c3 : w.cell? ⟨g, o + 3, none⟩ = some (.int .i64 f.lat)
  c4 : w.cell? ⟨g, o + 4, none⟩ = some (.int .i64 f.lon)
  c5 : w.cell? ⟨g, o + 5, none⟩ = some (.int .i64 f.el)
  c6 : w.cell? ⟨g, o + 6, none⟩ = some (.int .i64 f.ra)
theorem FxsR.at_ {w : World} {v : Value} {l : List Fx} (h : FxsR w v l) {k : Nat} (hk : k < l.length) : ∃ g o c, v = .slice (some ⟨g, o, none⟩) l.length c ∧ g < w.heap.size ∧ FxAt w g (o + k * 7) l[k] := by
  obtain ⟨hl, A, c, hv, hc, hm, hr⟩ := h
  obtain ⟨g, o, rfl, hg, hx⟩ := hr (by omega)
  have key : ∀ j u, j < 7 → (fxc l[k])[j]? = some u → w.cell? ⟨g, o + k * 7 + j, none⟩ = some u := fun j u hj hu => by
    have := hx (k * 7 + j) u (by rw [fxcells_at l k hk j hj]; exact hu)
    rwa [← Nat.add_assoc] at this
  exact ⟨g, o, c, hv, hg, key 0 _ (by omega) rfl, key 1 _ (by omega) rfl, key 2 _ (by omega) rfl, key 3 _ (by omega) rfl, key 4 _ (by omega) rfl, key 5 _ (by omega) rfl, key 6 _ (by omega) rfl⟩
theorem FxAt.below {w w' : World} {g o : Nat} {f : Fx} (h : FxAt w g o f) (hg : g < w.heap.size) {B : Nat} (hb : Below B w w') (hB : g < B) : FxAt w' g o f := by
  have k : ∀ j, w'.cell? ⟨g, j, none⟩ = w.cell? ⟨g, j, none⟩ := fun j => hb.cell (p := ⟨g, j, none⟩) hB
  exact ⟨(k _).trans h.c0, (k _).trans h.c1, (k _).trans h.c2, (k _).trans h.c3, (k _).trans h.c4, (k _).trans h.c5, (k _).trans h.c6⟩
theorem str_eq' {l : List UInt8} {t : ByteArray} : ((sb l).toList == t.toList) = decide (l = bl t) := by rw [bl_toList, bl_toList, bl_sb, Bool.eq_iff_iff, beq_iff_eq, decide_eq_true_iff]
/-- the fixes with an identifier -/
def matchL (l : List Fx) (t : List UInt8) : List Fx := l.filter fun f => decide (f.id = t)
theorem match_step {l : List Fx} {k : Nat} (t : List UInt8) (h : k < l.length) : matchL (l.take (k + 1)) t = if l[k].id = t then matchL (l.take k) t ++ [l[k]] else matchL (l.take k) t := by
  unfold matchL
  rw [List.take_succ_eq_append_getElem h, List.filter_append]
  by_cases he : l[k].id = t
  · simp [he]
  · simp [he]
theorem match_len (l : List Fx) (t : List UInt8) (k : Nat) : (matchL (l.take k) t).length ≤ k := by
  unfold matchL
  exact Nat.le_trans (List.length_filter_le _ _) (List.length_take_le _ _)
/-- what an append of a fix does to what is owned -/
theorem fix_step {base : Nat} {w0 wr w' : World} {v v' : Value} {done : List Fx} {f : Fx} {o1 o2 : Obj} {n : Nat} (hn : n = done.length)
    (hlt : ∀ k, v.ownBlock = some k → base ≤ k ∧ k < wr.heap.size) (hb : Below base w0 wr) (hown' : w'.ownsRow base 34 7 v' (n + 1) (fxcells done ++ fxc f)) (hg : ((wr.alloc o1).alloc o2).grownBy w' v.ownBlock) (hB : base ≤ wr.heap.size) :
    w'.ownsRow base 34 7 v' (done ++ [f]).length (fxcells (done ++ [f])) ∧ Below base w0 w' := by
  subst hn
  refine ⟨?_, ((hb.alloc hB o1).alloc (by simp; omega) o2).grown hg (by simp; omega) (fun k hk => (hlt k hk).1)⟩
  rw [fxcells_snoc, List.length_append]
  exact hown'
def MatchPost (l : List Fx) (t : List UInt8) (w : World) (e : Ending) (w' : World) : Prop := ∃ v, e = .returned v ∧ FxsR w' v (matchL l t) ∧ Below w.heap.size w w'
def FewPost (l : List Fx) (w : World) (e : Ending) (w' : World) : Prop := ∃ v, e = .returned v ∧ w'.ownsRow w.heap.size 34 7 v l.length (fxcells l) ∧ Below w.heap.size w w'
set_option maxRecDepth 100000 in
set_option maxHeartbeats 1000000 in
theorem few_any (v : Value) (l : List Fx) (N : Nat) (w : World) (h : FxsR w v l) (hN : N ≤ 1000) :
    Calls Tryz.prog 6 #[v, .int .i64 (N : Int)] w (FewPost (l.take N) w) := by
  obtain ⟨i0, hi, hz0, hz1, hz2⟩ := info_parts infoFix
  have H := Lib.hid h
  obtain ⟨hlen, A, c, rfl, hc, hm, hr⟩ := h
  unfold maxLen at hm
  have HL := Lib.hid hlen
  have HR := Lib.hid hr
  obtain ⟨n, hn⟩ : ∃ n, l.length = n := ⟨_, rfl⟩
  have HN := Lib.hid hn
  rw [hn] at hc ⊢
  have HT : Hid ((l.take N).length = min N n) := by unfold Hid; rw [List.length_take, hn]
  have hmin : min (n : Int) (N : Int) = ((min N n : Nat) : Int) := by omega
  have HEMP := Lib.hid (World.ownsRow_lit (base := w.heap.size) (e := 34) (size := 7) w #[] 0 (Nat.le_refl _) (by unfold maxLen; omega) rfl)
  clear hlen hr hn
  rcases Nat.eq_zero_or_pos (min N n) with h0 | h0
  · have HT0 : Hid (l.take N = []) := List.eq_nil_of_length_eq_zero (HT.out.trans h0)
    rw [h0] at hmin
    clear h0
    cases A
    all_goals
      go_enter Tryz.func6, Tryz.ntmps6
      go_wp2
      go_ret
      refine ⟨_, rfl, ?_, (Below.refl _ _).alloc (Nat.le_refl _) _⟩
      rw [HT0.out]
      exact HEMP.out
  · obtain ⟨g, o, rfl, hg, hx⟩ := HR.out (by rw [HN.out]; omega)
    have HX : Hid (∀ j u, (fxcells (l.take N))[j]? = some u → (w.alloc (.cells #[] 34)).cell? ((⟨g, o, none⟩ : Addr).add j) = some u) := by
      intro j u hu
      have h1 : (fxcells l)[j]? = some u := by
        obtain ⟨r, hr⟩ : ∃ r, fxcells l = fxcells (l.take N) ++ r := ⟨fxcells (l.drop N), by unfold fxcells; rw [← List.flatMap_append, List.take_append_drop]⟩
        obtain ⟨hj, _⟩ := List.getElem?_eq_some_iff.mp hu
        rw [hr, List.getElem?_append_left hj]
        exact hu
      have h2 := (((Below.refl _ w).alloc (Nat.le_refl _) (.cells #[] 34)).cell (p := ⟨g, o + j, none⟩) hg).trans (hx j u h1)
      simp only [Addr.add]
      split
      · rename_i hj0
        rw [hj0] at h2
        exact h2
      · exact h2
    have HC5 : Hid (∀ u ∈ fxcells (l.take N), u.oneCell' = true) := by
      intro u hu
      unfold fxcells at hu
      obtain ⟨p, _, hp⟩ := List.mem_flatMap.mp hu
      unfold fxc at hp
      simp at hp
      rcases hp with rfl | rfl | rfl | rfl | rfl | rfl | rfl <;> rfl
    have HL2 : Hid ((fxcells (l.take N)).length = min N n * 7) := by unfold Hid; rw [fxcells_len, HT.out]
    clear hx
    go_enter Tryz.func6, Tryz.ntmps6
    go_wp2_with (at_builtin; (refine wpList_append_own _ rfl _ _ 22 rfl w.heap.size 34 i0 (.agg #[.string ⟨#[]⟩, .string ⟨#[]⟩, .int .u8 0, .int .i64 0, .int .i64 0, .int .i64 0, .int .i64 0]) 7 72 Tryz.underlying22 hi hz0 hz1 hz2 rfl (by decide) _ _ _ rfl HEMP.out ⟨g, o, none⟩ (min N n) c (fxcells (l.take N)) rfl HL2.out HX.out HC5.out ?c3 ?c4 ?c5 ?_))
    case c3 => unfold maxLen; omega
    case c4 => omega
    intro v' w' hown' hgrow _
    have HB : Hid (Below w.heap.size w w') := (((Below.refl _ _).alloc (Nat.le_refl _) _).grown hgrow (by simp) (fun k hk => by cases hk; exact Nat.le_refl _))
    have HO : Hid (w'.ownsRow w.heap.size 34 7 v' (l.take N).length (fxcells (l.take N))) := by
      have := hown'
      unfold Hid
      rw [HT.out]
      simpa using this
    clear hown' hgrow
    go_wp2
    go_ret
    exact ⟨_, rfl, HO.out, HB.out⟩
/-! ### the first fix with a reference -/
/-- the strings of fixes are no longer than a machine holds -/
def SzL (l : List Fx) : Prop := ∀ f ∈ l, f.id.length ≤ 1000000000000000 ∧ f.rg.length ≤ 1000000000000000
theorem SzL.take {l : List Fx} (h : SzL l) (n : Nat) : SzL (l.take n) := fun f hf => h f (List.mem_of_mem_take hf)
theorem SzL.get {l : List Fx} (h : SzL l) {k : Nat} (hk : k < l.length) : l[k].id.length ≤ 1000000000000000 ∧ l[k].rg.length ≤ 1000000000000000 := h _ (List.getElem_mem hk)
def findL (l : List Fx) (t : List UInt8) : Option Fx := l.find? fun f => decide (fxRef f = t)
theorem find_miss {l : List Fx} {t : List UInt8} {k : Nat} (hk : k < l.length) (h : findL (l.take k) t = none) (he : fxRef l[k] ≠ t) : findL (l.take (k + 1)) t = none := by
  unfold findL at h ⊢
  rw [List.take_succ_eq_append_getElem hk, List.find?_append, h]
  simp [he]
theorem find_hit {l : List Fx} {t : List UInt8} {k : Nat} (hk : k < l.length) (h : findL (l.take k) t = none) (he : fxRef l[k] = t) : findL l t = some l[k] := by
  unfold findL at h ⊢
  have hl : l = l.take k ++ l[k] :: l.drop (k + 1) := by rw [List.getElem_cons_drop, List.take_append_drop]
  generalize l[k] = p at hl he ⊢
  rw [hl, List.find?_append, h]
  simp [he]
theorem find_self {l : List Fx} {x : Fx} (h : x ∈ l) : ∃ y, findL l (fxRef x) = some y ∧ fxRef y = fxRef x := by
  cases hf : findL l (fxRef x) with
  | none =>
    unfold findL at hf
    rw [List.find?_eq_none] at hf
    exact absurd (decide_eq_true rfl) (hf x h)
  | some y =>
    refine ⟨y, rfl, ?_⟩
    unfold findL at hf
    have := List.find?_some hf
    exact of_decide_eq_true this
theorem find_mem {l : List Fx} {t : List UInt8} {y : Fx} (h : findL l t = some y) : y ∈ l := List.mem_of_find?_eq_some h
def FindPost (o : Option Fx) (w : World) (e : Ending) (w' : World) : Prop :=
  e = .returned (.tuple #[.agg #[.string (sb (o.getD fx0).id), .string (sb (o.getD fx0).rg), .int .u8 ((o.getD fx0).kd : Int), .int .i64 (o.getD fx0).lat, .int .i64 (o.getD fx0).lon, .int .i64 (o.getD fx0).el, .int .i64 (o.getD fx0).ra], .bool o.isSome]) ∧ Below w.heap.size w w'
theorem FindPost.some {o : Option Fx} {w w' : World} {p : Fx} (h : o = some p) (hb : Below w.heap.size w w') :
    FindPost o w (.returned (.tuple #[.agg #[.string (sb p.id), .string (sb p.rg), .int .u8 (p.kd : Int), .int .i64 p.lat, .int .i64 p.lon, .int .i64 p.el, .int .i64 p.ra], .bool true])) w' := by subst h; exact ⟨rfl, hb⟩
theorem FindPost.none {o : Option Fx} {w w' : World} (h : o = none) (hb : Below w.heap.size w w') :
    FindPost o w (.returned (.tuple #[.agg #[.string ⟨#[]⟩, .string ⟨#[]⟩, .int .u8 0, .int .i64 0, .int .i64 0, .int .i64 0, .int .i64 0], .bool false])) w' := by subst h; exact ⟨rfl, hb⟩
def IdxPost (l : List Fx) (t : List UInt8) (w : World) (e : Ending) (w' : World) : Prop :=
  ∃ i : Int, e = .returned (.int .i64 i) ∧ ((i = -1 ∧ findL l t = none) ∨ ∃ (k : Nat) (h : k < l.length), i = k ∧ findL l t = some l[k]) ∧ Below w.heap.size w w'
end Go.Proofs.YteojggbmkppjoaaGreatDoor
namespace Go.Proofs.YteojggbmkppjoaaGreatDoor
open Go.RowKit Go.Sort
set_option linter.unusedVariables false
set_option linter.unusedSimpArgs false

/-- how two texts compare -/
def cmpS (a b : List UInt8) : Int := if a < b then -1 else if b < a then 1 else 0
theorem cmpS_neg {a b : List UInt8} : cmpS a b < 0 ↔ a < b := by
  unfold cmpS
  split
  · rename_i h; simp [h]
  · rename_i h; split <;> simp [h]
theorem blt_asymm {a b : List UInt8} (h : a < b) : ¬ b < a := List.lt_asymm h
theorem blt_trans {a b c : List UInt8} (h : ¬ b < a) (k : ¬ c < b) : ¬ c < a := by
  rw [List.not_lt] at *
  exact List.le_trans h k
theorem blt_eq {a b : List UInt8} (h : ¬ a < b) (k : ¬ b < a) : a = b := by
  rw [List.not_lt] at *
  exact List.le_antisymm k h
/-- an order by a text -/
theorem swo_text {α : Type} (f : α → List UInt8) : Swo (ltOf fun x y : α => cmpS (f x) (f y)) where
  asymm a b h := by
    have h1 : f a < f b := cmpS_neg.1 (of_decide_eq_true h)
    exact decide_eq_false fun h2 => blt_asymm h1 (cmpS_neg.1 h2)
  trans a b c h k := by
    have h1 : ¬ f b < f a := fun h1 => of_decide_eq_false h (cmpS_neg.2 h1)
    have h2 : ¬ f c < f b := fun h1 => of_decide_eq_false k (cmpS_neg.2 h1)
    exact decide_eq_false fun h3 => blt_trans h1 h2 (cmpS_neg.1 h3)
theorem ltOf_text {α : Type} (f : α → List UInt8) (x y : α) : ltOf (fun x y : α => cmpS (f x) (f y)) x y = decide (f x < f y) := by
  unfold ltOf; rw [Bool.eq_iff_iff, decide_eq_true_iff, decide_eq_true_iff]; exact cmpS_neg
theorem str_eqB {t r : ByteArray} : (t.toList == r.toList) = decide (bl t = bl r) := by
  rw [bl_toList, bl_toList, Bool.eq_iff_iff, beq_iff_eq, decide_eq_true_iff]
theorem bytesLess_bl (x y : ByteArray) : Op.bytesLess x.toList y.toList = decide (bl x < bl y) := by rw [bl_toList, bl_toList, bytesLess_eq]
set_option maxHeartbeats 400000 in
theorem isNaNs_any (x : ByteArray) (w : World) : Calls Tryz.prog 43 #[.string x] w fun e w' => e = .returned (.bool false) ∧ w' = w := by
  go_enter Tryz.func43, Tryz.ntmps43
  go_wp2
  go_ret
  exact ⟨by simp, rfl⟩
set_option maxHeartbeats 1000000 in
theorem cmpStr_any (x y : ByteArray) (w : World) : Calls Tryz.prog 18 #[.string x, .string y] w fun e w' => e = .returned (.int .i64 (cmpS (bl x) (bl y))) ∧ w' = w := by
  have b1 := bytesLess_bl x y
  have b2 := bytesLess_bl y x
  obtain ⟨r, hr⟩ : ∃ r, cmpS (bl x) (bl y) = r := ⟨_, rfl⟩
  have HR := Lib.hid hr
  rw [hr]
  clear hr
  by_cases h1 : bl x < bl y
  · have H : Hid ((-1 : Int) = r) := by unfold Hid; rw [← HR.out]; unfold cmpS; rw [if_pos h1]
    rw [decide_eq_true h1] at b1
    rw [decide_eq_false (blt_asymm h1)] at b2
    clear h1
    go_enter Tryz.func18, Tryz.ntmps18
    go_wp2_with fail
    refine (isNaNs_any x _).mono ?_
    rintro e w1 ⟨rfl, rfl⟩
    go_wp2_with fail
    refine (isNaNs_any y _).mono ?_
    rintro e w1 ⟨rfl, rfl⟩
    go_wp2
    go_ret
    exact ⟨by rw [← H.out]; rfl, rfl⟩
  · rw [decide_eq_false h1] at b1
    by_cases h2 : bl y < bl x
    · have e3 : (x.toList == y.toList) = false := by rw [str_eqB]; exact decide_eq_false fun e => blt_asymm h2 (by rw [e] at h2 ⊢; exact h2)
      have H : Hid ((1 : Int) = r) := by unfold Hid; rw [← HR.out]; unfold cmpS; rw [if_neg h1, if_pos h2]
      rw [decide_eq_true h2] at b2
      clear h1 h2
      go_enter Tryz.func18, Tryz.ntmps18
      go_wp2_with fail
      refine (isNaNs_any x _).mono ?_
      rintro e w1 ⟨rfl, rfl⟩
      go_wp2_with fail
      refine (isNaNs_any y _).mono ?_
      rintro e w1 ⟨rfl, rfl⟩
      go_wp2
      go_ret
      exact ⟨by rw [← H.out]; rfl, rfl⟩
    · have e3 : (x.toList == y.toList) = true := by rw [str_eqB]; exact decide_eq_true (blt_eq h1 h2)
      have H : Hid ((0 : Int) = r) := by unfold Hid; rw [← HR.out]; unfold cmpS; rw [if_neg h1, if_neg h2]
      rw [decide_eq_false h2] at b2
      clear h1 h2
      go_enter Tryz.func18, Tryz.ntmps18
      go_wp2_with fail
      refine (isNaNs_any x _).mono ?_
      rintro e w1 ⟨rfl, rfl⟩
      go_wp2_with fail
      refine (isNaNs_any y _).mono ?_
      rintro e w1 ⟨rfl, rfl⟩
      go_wp2
      go_ret
      exact ⟨by rw [← H.out]; rfl, rfl⟩
end Go.Proofs.YteojggbmkppjoaaGreatDoor
namespace Go.Proofs.YteojggbmkppjoaaGreatDoor
open Go.RowKit Go.Lib Go.Sort
set_option linter.unusedVariables false
set_option linter.unusedSimpArgs false

/-! ### rows of the call's own, as the sort wants them -/
section
variable {α : Type} [Inhabited α] {enc : α → List Value} {k : Nat}
theorem flatMap_at (hk : ∀ x, (enc x).length = k) (D : List α) {t : Nat} (h : t < D.length * k) : (D.flatMap enc)[t]? = some (flatK enc k D.toArray)[t]! := by
  have h0 : 0 < k := by rcases Nat.eq_zero_or_pos k with h1 | h1
                        · subst h1; simp at h
                        · exact h1
  have hi : t / k < D.length := Nat.div_lt_of_lt_mul (by rw [Nat.mul_comm]; exact h)
  have hj : t % k < k := Nat.mod_lt _ h0
  have e : t / k * k + t % k = t := by rw [Nat.mul_comm]; exact Nat.div_add_mod t k
  have h2 := flat_at (D.map enc) (by intro c hc; rw [List.mem_map] at hc; obtain ⟨x, _, rfl⟩ := hc; exact hk x) (t / k) (t % k) (by rw [List.length_map]; exact hi) hj
  rw [e, List.getElem_map, ← List.flatMap_def] at h2
  rw [h2, get_flatK enc k D.toArray t (by rw [List.size_toArray]; exact h), getElem!_pos D.toArray _ (by rw [List.size_toArray]; exact hi)]
  rw [List.getElem?_eq_getElem (by rw [hk]; exact hj), List.getElem_toArray, getElem!_pos (enc D[t / k]) _ (by rw [hk]; exact hj)]
theorem holdsK_own (hk : ∀ x, (enc x).length = k) {w : World} {base : Nat} {e : TypeId} {v : Value} {D : List α} (h : w.ownsRow base e k v D.length (D.flatMap enc)) (h0 : 0 < D.length) :
    ∃ g c, v = .slice (some ⟨g, 0, none⟩) D.length c ∧ D.length ≤ c ∧ c ≤ maxLen ∧ base ≤ g ∧ g < w.heap.size ∧ HoldsK enc k w g 0 D.toArray := by
  have hlt := h.lt
  have hcs := @World.ownsRow.cells _ _ _ _ _ _ _ h
  obtain ⟨hl, ⟨rfl, h1⟩ | ⟨g, cap, cur, rfl, hb, hh, hn, hm, _, _⟩⟩ := h
  · omega
  · refine ⟨g, cap, rfl, hn, hm, hb, heap_lt hh, fun t ht => ?_⟩
    rw [size_flatK, List.size_toArray] at ht
    have := hcs (g := g) rfl t _ (flatMap_at hk D ht)
    refine ⟨by simpa [Addr.add_lit] using this, ?_⟩
    unfold World.frozen?
    rw [hh]; simp
theorem rd_holdsK (hk : ∀ x, (enc x).length = k) {w : World} {g c : Nat} {D : List α} (h : HoldsK enc k w g 0 D.toArray) (hg : g < w.heap.size) (hc : D.length ≤ c) (hm : c ≤ maxLen) : Rd w k (.slice (some ⟨g, 0, none⟩) D.length c) D.length (D.flatMap enc) := by
  have hl : (D.flatMap enc).length = D.length * k := by rw [List.flatMap_def]; exact (flat_len (D.map enc) (by intro c hc; rw [List.mem_map] at hc; obtain ⟨x, _, rfl⟩ := hc; exact hk x)).trans (by rw [List.length_map])
  refine ⟨hl, _, c, rfl, hc, hm, fun _ => ⟨g, 0, rfl, hg, fun j u hu => ?_⟩⟩
  have hj : j < D.length * k := by
    rw [← hl]; exact (List.getElem?_eq_some_iff.1 hu).1
  have h1 := (h j (by rw [size_flatK, List.size_toArray]; exact hj)).1
  rw [flatMap_at hk D hj, Option.some.injEq] at hu
  rw [h1, ← hu]; rfl
theorem swk_below {w0 W : World} {blk off : Nat} {dk : Array α} (h : SWK enc k w0 blk off dk W) {B : Nat} (hB : B ≤ blk) (hB2 : B ≤ w0.heap.size) : Below B w0 W := by
  obtain ⟨n, os, rfl⟩ := h
  refine ⟨rfl, rfl, rfl, ?_, fun i hi => ?_⟩
  · unfold sortWorldK; rw [size_grow, size_putRowK]; show w0.heap.size ≤ w0.heap.size + _; omega
  · unfold sortWorldK
    rw [heap_grow_old _ _ (by rw [size_putRowK]; show i < w0.heap.size; omega)]
    show ((w0.heap.modify blk _)[i]? : Option Obj) = _
    rw [Array.getElem?_modify, if_neg (by omega)]
end
/-! ### fixes in the order of their references -/
/-- a fix whose strings fit -/
abbrev FxS := { f : Fx // f.id.length ≤ 1000000000000000 ∧ f.rg.length ≤ 1000000000000000 }
instance : Inhabited FxS := ⟨⟨fx0, by decide, by decide⟩⟩
def encF (f : FxS) : List Value := fxc f.1
theorem encF_len (f : FxS) : (encF f).length = 7 := rfl
theorem encF_one (f : FxS) : ∀ v ∈ encF f, v.oneCell' = true := by
  intro v hv
  unfold encF fxc at hv
  simp at hv
  rcases hv with rfl | rfl | rfl | rfl | rfl | rfl | rfl <;> rfl
def rfS (f : FxS) : List UInt8 := fxRef f.1
def cfF (x y : FxS) : Int := cmpS (rfS x) (rfS y)
theorem swoF : Swo (ltOf cfF) := swo_text rfS
theorem ltOfF (x y : FxS) : ltOf cfF x y = decide (rfS x < rfS y) := ltOf_text rfS x y
/-- fixes whose strings fit, as such -/
theorem fxS_of : ∀ {l : List Fx}, SzL l → ∃ L : List FxS, L.map (·.1) = l
  | [], _ => ⟨[], rfl⟩
  | f :: l, h => by
    obtain ⟨L, hL⟩ := fxS_of (l := l) fun x hx => h x (List.mem_cons_of_mem _ hx)
    exact ⟨⟨f, h f (by simp)⟩ :: L, by rw [List.map_cons, hL]⟩
theorem fxcells_map (L : List FxS) : fxcells (L.map (·.1)) = L.flatMap encF := by
  unfold fxcells encF; rw [List.flatMap_map]
set_option maxHeartbeats 1000000 in
theorem fixRefG_any (f : FxS) (w : World) : Calls Tryz.prog 9 #[.agg (encF f).toArray] w fun e w' => e = .returned (.string (sb (rfS f))) ∧ ∃ q os', w' = grow (w.drewN q) os' := by
  obtain ⟨f, hi, hr⟩ := f
  have h1 : (sb f.id).size ≤ 1000000000000000 := hi
  have h2 : (sb f.rg).size ≤ 1000000000000000 := hr
  have HE : Hid (∀ s : ByteArray, bl s = fxRef f → sb (fxRef f) = s) := fun s h => by rw [← h, sb_bl]
  show Calls Tryz.prog 9 #[.agg #[.string (sb f.id), .string (sb f.rg), .int .u8 (f.kd : Int), .int .i64 f.lat, .int .i64 f.lon, .int .i64 f.el, .int .i64 f.ra]] w fun e w' => e = .returned (.string (sb (fxRef f))) ∧ ∃ q os', w' = grow (w.drewN q) os'
  go_enter Tryz.func9, Tryz.ntmps9
  go_wp2
  go_ret
  refine ⟨?_, 0, _, by rw [alloc_eq_grow]; rfl⟩
  rw [HE.out (sb f.id ++ ⟨#[47]⟩ ++ sb f.rg) (by rw [bl_append, bl_append, bl_sb, bl_sb]; unfold fxRef; simp [bl_mk])]
  first | rfl | (simp [ByteArray.append_assoc])
set_option maxHeartbeats 1000000 in
theorem rfixRefG_any (f : FxS) (w : World) : Calls Tryz.prog 20 #[.agg (encF f).toArray] w fun e w' => e = .returned (.string (sb (rfS f))) ∧ ∃ q os', w' = grow (w.drewN q) os' := by
  obtain ⟨f, hi, hr⟩ := f
  have h1 : (sb f.id).size ≤ 1000000000000000 := hi
  have h2 : (sb f.rg).size ≤ 1000000000000000 := hr
  have HE : Hid (∀ s : ByteArray, bl s = fxRef f → sb (fxRef f) = s) := fun s h => by rw [← h, sb_bl]
  show Calls Tryz.prog 20 #[.agg #[.string (sb f.id), .string (sb f.rg), .int .u8 (f.kd : Int), .int .i64 f.lat, .int .i64 f.lon, .int .i64 f.el, .int .i64 f.ra]] w fun e w' => e = .returned (.string (sb (fxRef f))) ∧ ∃ q os', w' = grow (w.drewN q) os'
  go_enter Tryz.func20, Tryz.ntmps20
  go_wp2
  go_ret
  refine ⟨?_, 0, _, by rw [alloc_eq_grow]; rfl⟩
  rw [HE.out (sb f.id ++ ⟨#[47]⟩ ++ sb f.rg) (by rw [bl_append, bl_append, bl_sb, bl_sb]; unfold fxRef; simp [bl_mk])]
  first | rfl | (simp [ByteArray.append_assoc])
theorem fxBox_cells {w : World} {b : Nat} {f : Fx} (h : FxBox w b f) (hb : b < w.heap.size) (n : Nat) (os : Array Obj) : FxBox (grow (w.drewN n) os) b f := (heap_grow_old _ _ (by exact hb)).trans h
/-- what a sort of fixes leaves -/
structure SortP (v' : Value) (D : List FxS) (w w' : World) : Prop where
  rd : FxsR w' v' (D.map (·.1))
  bl : Below w.heap.size w w'
  own : 0 < D.length → ∃ g c, v' = .slice (some ⟨g, 0, none⟩) D.length c ∧ w.heap.size ≤ g ∧ g < w'.heap.size ∧ HoldsK encF 7 w' g 0 D.toArray
theorem aggFix : ∀ w, (isAgg 34).run Tryz.prog w = .ok true w := fun w => by kernel_rfl
theorem sizeFix : ∀ w, (Go.sizeOf 34).run Tryz.prog w = .ok 7 w := fun w => by kernel_rfl
theorem SortP.of {v' : Value} {L D : List FxS} {w w1 w' : World} {g c : Nat} (hv : v' = .slice (some ⟨g, 0, none⟩) L.length c) (hb : Below w.heap.size w w1) (hg : w.heap.size ≤ g) (hg2 : g < w1.heap.size) (hc : L.length ≤ c) (hm : c ≤ maxLen)
    (hH : HoldsK encF 7 w1 g 0 L.toArray) (hst : Stb (ltOf cfF) L D) (S : SWK encF 7 w1 g 0 D.toArray w') : SortP v' D w w' := by
  have hl := hst.len
  have h2 := S.holds hg2 hH (by rw [List.size_toArray, List.size_toArray]; exact hl)
  refine ⟨?_, hb.trans (swk_below S hg hb.size), fun _ => ⟨g, c, by rw [hv, hl], hg, S.lt hg2, h2⟩⟩
  unfold FxsR
  rw [fxcells_map, List.length_map, hv, ← hl]
  exact rd_holdsK encF_len h2 (S.lt hg2) (by omega) hm
theorem swk_self {w : World} {g : Nat} {L : List FxS} (hH : HoldsK encF 7 w g 0 L.toArray) : SWK encF 7 w g 0 L.toArray w := SWK.start hH
end Go.Proofs.YteojggbmkppjoaaGreatDoor
