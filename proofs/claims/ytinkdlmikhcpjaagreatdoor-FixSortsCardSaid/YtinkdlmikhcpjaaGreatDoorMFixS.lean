/-
  Several texts as one.
  Contract: the line of a fix: the program.
  Contracts: the law's awake answers true; references of fixes on both sides.
  Lists of fixes in memory; contracts: the fixes with an identifier, the first fix with a reference; on both sides.
  Contract: cmp.Compare at strings; orders by a text.
  Contracts: fix.Sort and flightdeckref14.Sort: fixes in the order of their references, equal ones in their order.
  Contract: flightdeckref14.Sort: the stable order of fixes by their references, by exchanges of neighbours.
-/
import Derived.Test.YtinkdlmikhcpjaaGreatDoorMFixB
import Derived.Test.YtinkdlmikhcpjaaGreatDoorMSort
import Derived.Test.YtinkdlmikhcpjaaGreatDoorMWords
import Derived.Shelf.SlSortCmp.KitK
import Derived.Test.YtinkdlmikhcpjaaGreatDoorMSorV
namespace Go.Proofs.YtinkdlmikhcpjaaGreatDoor
open Go.RowKit
set_option linter.unusedVariables false
set_option linter.unusedSimpArgs false

set_option maxRecDepth 100000 in
set_option maxHeartbeats 4000000 in
theorem textF_any (f : Fx) (w : World) (E : Env w) (hi : f.id.length ≤ maxLen) (hr : f.rg.length ≤ maxLen) :
    Calls Tryz.prog 27 #[.agg #[.string (sb f.id), .string (sb f.rg), .int .u8 (f.kd : Int), .int .i64 f.lat, .int .i64 f.lon, .int .i64 f.el, .int .i64 f.ra]] w (TextFPost f w) := by
  have B0 := Lib.hid (fxBox_new w f)
  have HB0 : Hid (Below w.heap.size w (w.alloc (.cells #[.string (sb f.id), .string (sb f.rg), .int .u8 (f.kd : Int), .int .i64 f.lat, .int .i64 f.lon, .int .i64 f.el, .int .i64 f.ra] 31))) := (Below.refl _ _).alloc (Nat.le_refl _) _
  have HI := Lib.hid hi
  have HR := Lib.hid hr
  clear hi hr
  go_enter Tryz.func27, Tryz.ntmps27
  go_wp2_with fail
  refine (checkF_any f _ HI.out HR.out).mono ?_
  rintro e w1 ⟨rfl, hb1⟩
  have B1 := Lib.hid (B0.out.below hb1)
  have HB1 := Lib.hid (Below.then_ HB0.out hb1)
  obtain ⟨c0, c1, c2, c3, c4, c5, c6⟩ := B1.out.cells
  have hl1 := lt_heap B1.out
  clear hb1
  by_cases h0 : fixE f = 0
  · have HE := Lib.hid h0
    obtain ⟨⟨hk1, hk2⟩, hid, hrg, hpos, hel, hra⟩ := fixE_ok h0
    have LI := identE_len hid
    have LR := locE_len hrg
    have HO := Lib.hid (fxOut_ok h0)
    have HHL := Lib.hid (fxHead_len LI LR)
    have LID : (sb f.id).size ≤ 6 := LI
    have LRG : (sb f.rg).size ≤ 6 := LR
    have HKK : Hid (1 ≤ f.kd ∧ f.kd ≤ 6) := ⟨hk1, hk2⟩
    rw [h0]
    clear h0 hid hrg hpos hel hra LI LR
    have i1 : (1 : Int) ≤ (f.kd : Int) := by omega
    have i2 : (f.kd : Int) ≤ 6 := by omega
    have i3 : (0 : Int) ≤ (f.kd : Int) - 1 := by omega
    have i4 : (f.kd : Int) - 1 < 6 := by omega
    have i5 : ((f.kd : Int) - 1).toNat = f.kd - 1 := by omega
    have i6 : IntKind.u8.wrap ((f.kd : Int) - 1) = (f.kd : Int) - 1 := IntWalk.u8_in _ (by omega)
    clear hk1 hk2
    go_wp2_with fail
    refine (posText_any f.lat f.lon _).mono ?_
    rintro e w2 ⟨p, rfl, hp, hb2⟩
    have B2 := Lib.hid (B1.out.below hb2)
    have HB2 := Lib.hid (Below.then_ HB1.out hb2)
    have hps : p.size ≤ 19 := by rw [StrPost.size hp.out]; exact posOut_len _ _
    clear c0 c1 c2 c3 c4 c5 c6 hl1 hb2
    obtain ⟨c0, c1, c2, c3, c4, c5, c6⟩ := B2.out.cells
    have hl1 := lt_heap B2.out
    have hkw := fun wx => kw_lit wx f.kd HKK.out
    have HCL : Hid (∀ (wx : World) (ob : Obj), ∀ (j : Nat) x, [sb (kindWord f.kd), sb f.id, sb f.rg, p][j]? = some x → ((wx.alloc ob).alloc (.cells #[.string (sb (kindWord f.kd)), .string (sb f.id), .string (sb f.rg), .string p] 9)).drew.cell? ⟨wx.heap.size + 1, 0 + j, none⟩ = some (.string x)) := by
      intro wx ob j x hj
      have hh := heap_alloc_new (wx.alloc ob) (.cells #[.string (sb (kindWord f.kd)), .string (sb f.id), .string (sb f.rg), .string p] 9)
      rw [World.size_alloc] at hh
      have hh2 : ((wx.alloc ob).alloc (.cells #[.string (sb (kindWord f.kd)), .string (sb f.id), .string (sb f.rg), .string p] 9)).drew.heap[wx.heap.size + 1]? = some (.cells #[.string (sb (kindWord f.kd)), .string (sb f.id), .string (sb f.rg), .string p] 9 (0, 0)) := hh
      rw [Nat.zero_add, Lib.cell_of_heap hh2]
      match j, hj with
      | 0, hj => simp at hj; subst hj; rfl
      | 1, hj => simp at hj; subst hj; rfl
      | 2, hj => simp at hj; subst hj; rfl
      | 3, hj => simp at hj; subst hj; rfl
      | j + 4, hj => simp at hj
    have HJ : Hid (Lib.join ([sb (kindWord f.kd), sb f.id, sb f.rg, p].map (·.data.toList)) (⟨#[32]⟩ : ByteArray).data.toList = fxHead f) := by
      unfold Hid
      show Lib.join [kindWord f.kd, f.id, f.rg, bl p] [32] = _
      rw [join4, hp.out]; rfl
    have HJL : Hid ((Lib.join ([sb (kindWord f.kd), sb f.id, sb f.rg, p].map (·.data.toList)) (⟨#[32]⟩ : ByteArray).data.toList).length ≤ 140737488355328) := by
      unfold Hid; rw [HJ.out]; have := HHL.out; omega
    go_upto_region 5 with (fail)
    go_cut [7] (fun x wx => Hid (∃ t : ByteArray, x = .string t ∧ bl t = fxHead f) ∧ Hid (FxBox wx w.heap.size f) ∧ Hid (Below w.heap.size w wx))
    case first =>
      go_region_with (first
        | (go_at_call 78; refine (kwl_any _).mono ?_; rintro e w3 ⟨rfl, rfl⟩)
        | (go_at_call 77; refine (Tryz.strings_Join _ 0 4 [sb (kindWord f.kd), sb f.id, sb f.rg, p] ⟨#[32]⟩ _ (HCL.out _ _) (by simp) (by simp) (by simp) HJL.out).mono ?_; rintro e w4 ⟨rfl, hb4⟩; have B4 := Lib.hid ((B2.out.below (by repeat (first | exact Below.refl _ _ | refine Below.drew ?_ | refine Below.alloc ?_ (by simp) _ | refine below_drewN' ?_ _))).below hb4); have HB4 := Lib.hid (Below.then_ (Below.then_ HB2.out (by repeat (first | exact Below.refl _ _ | refine Below.drew ?_ | refine Below.alloc ?_ (by simp) _ | refine below_drewN' ?_ _))) hb4); clear c0 c1 c2 c3 c4 c5 c6 hb4; obtain ⟨c0, c1, c2, c3, c4, c5, c6⟩ := B4.out.cells; have hl4 := lt_heap B4.out))
      all_goals
        have HT7 : Hid (∃ t : ByteArray, Value.string (⟨(Lib.join [(sb (kindWord f.kd)).data.toList, (sb f.id).data.toList, (sb f.rg).data.toList, p.data.toList] [32]).toArray⟩ : ByteArray) = .string t ∧ bl t = fxHead f) := ⟨_, rfl, HJ.out⟩
        go_wp2
        go_meet
        exact ⟨HT7, B4, HB4⟩
    case rest =>
      obtain ⟨hT7, B4, HB4⟩ := hcut
      obtain ⟨t7, rfl, ht7⟩ := hT7.out
      have HT7 := Lib.hid ht7
      have s7 : t7.size ≤ 60 := by rw [StrPost.size HT7.out]; exact HHL.out
      clear ht7 hT7 c0 c1 c2 c3 c4 c5 c6 hl1
      obtain ⟨c0, c1, c2, c3, c4, c5, c6⟩ := B4.out.cells
      have hl4 := lt_heap B4.out
      have E4 := E.below HB4.out
      cases hev : elevB f.kd
      · have HO1 : Hid (fxOut f = fxHead f ++ (if navB f.kd then 32 :: distOut f.ra else [])) := by unfold Hid; rw [HO.out, hev]; simp
        have HV := Lib.hid hev
        clear hev
        go_wp2_with fail
        refine (elevated_any f.kd _).mono ?_
        rintro en w5 ⟨rfl, rfl⟩
        rw [HV.out]
        cases hnv : navB f.kd
        · have HO2 : Hid (fxOut f = fxHead f) := by unfold Hid; rw [HO1.out, hnv]; simp
          have HW := Lib.hid hnv
          clear hnv
          go_wp2_with fail
          refine (navaid_any f.kd _).mono ?_
          rintro en w5 ⟨rfl, rfl⟩
          rw [HW.out]
          go_wp2
          go_ret2
          exact .mk HE.out (HT7.out.trans HO2.out.symm) HB4.out
        · have HO2 : Hid (fxOut f = fxHead f ++ 32 :: distOut f.ra) := by unfold Hid; rw [HO1.out, hnv]; simp
          have HW := Lib.hid hnv
          clear hnv
          go_wp2_with fail
          refine (navaid_any f.kd _).mono ?_
          rintro en w5 ⟨rfl, rfl⟩
          rw [HW.out]
          go_wp2_with fail
          refine (distText_any f.ra _ E4).mono ?_
          rintro en w5 ⟨t, rfl, ht, hts, hb5⟩
          have HB5 := Lib.hid (Below.then_ HB4.out hb5)
          clear hb5
          go_wp2
          go_ret2
          exact .mk HE.out (by rw [HO2.out]; first | (rw [bl_append, bl_append, HT7.out, ht.out]; rfl) | (simp only [bl_append, HT7.out, ht.out]; rfl)) HB5.out
      · have HNN : Hid (navB f.kd = false) := by
          unfold Hid
          cases hnv : navB f.kd
          · rfl
          · exfalso
            have := elev_yes hev
            rcases nav_ways hnv with ⟨_, _, _⟩ | ⟨h, _⟩ | ⟨h, _⟩
            · omega
            · cases h
            · cases h
        have HO1 : Hid (fxOut f = fxHead f ++ 32 :: altOut f.el) := by unfold Hid; rw [HO.out, hev, HNN.out]; simp
        have HV := Lib.hid hev
        clear hev
        go_wp2_with fail
        refine (elevated_any f.kd _).mono ?_
        rintro en w5 ⟨rfl, rfl⟩
        rw [HV.out]
        go_wp2_with fail
        refine (altText_any f.el _ E4).mono ?_
        rintro en w5 ⟨t, rfl, ht, hts, hb5⟩
        have HB5 := Lib.hid (Below.then_ HB4.out hb5)
        have B5 := Lib.hid (B4.out.below hb5)
        clear c0 c1 c2 c3 c4 c5 c6 hl4 hb5
        obtain ⟨c0, c1, c2, c3, c4, c5, c6⟩ := B5.out.cells
        go_wp2_with fail
        refine (navaid_any f.kd _).mono ?_
        rintro en w6 ⟨rfl, rfl⟩
        rw [HNN.out]
        go_wp2
        go_ret2
        exact .mk HE.out (by rw [HO1.out]; first | (rw [bl_append, bl_append, HT7.out, ht.out]; rfl) | (simp only [bl_append, HT7.out, ht.out]; rfl)) HB5.out
  · have HE := Lib.hid h0
    have HO := Lib.hid (fxOut_bad h0)
    obtain ⟨er, her⟩ : ∃ x, fixE f = x := ⟨_, rfl⟩
    rw [her] at h0 ⊢
    have HER := Lib.hid her
    have e1 : (er != 0) = true := bne_iff_ne.2 h0
    clear h0 her
    go_wp2
    go_ret2
    exact .mk HER.out (by rw [HO.out]; rfl) HB1.out
end Go.Proofs.YtinkdlmikhcpjaaGreatDoor
namespace Go.Proofs.YtinkdlmikhcpjaaGreatDoor
open Go.RowKit
set_option linter.unusedVariables false
set_option linter.unusedSimpArgs false

/-! ### the example of the chapter -/
def sumF : Fx := ⟨[83, 85, 77, 77, 65], [75, 49], 1, 16760000, -43921500, 0, 0⟩
def sumL : List UInt8 := [87, 65, 89, 80, 79, 73, 78, 84, 32, 83, 85, 77, 77, 65, 32, 75, 49, 32, 78, 52, 54, 51, 51, 50, 48, 48, 48, 87, 49, 50, 50, 48, 48, 49, 53, 48, 48]
def sumR : List UInt8 := [83, 85, 77, 77, 65, 47, 75, 49]
theorem sum_ok : fixE sumF = 0 := by decide
theorem sum_out : fxOut sumF = sumL := by decide
theorem sum_pF : paF sumL = sumF := by rfl
theorem sum_pE : paE sumL = 0 := by decide
theorem sum_ref : fxRef sumF = sumR := by decide
theorem sum_rE : refErr sumR = 0 ∧ refFst sumR = [83, 85, 77, 77, 65] ∧ refSnd sumR = [75, 49] := by decide
def FRefPost (f : Fx) (w : World) (e : Ending) (w' : World) : Prop := e = .returned (.string (sb (fxRef f))) ∧ Below w.heap.size w w'
theorem fixRef_any (f : Fx) (w : World) (hi : f.id.length ≤ 1000000000000000) (hr : f.rg.length ≤ 1000000000000000) :
    Calls Tryz.prog 20 #[.agg #[.string (sb f.id), .string (sb f.rg), .int .u8 (f.kd : Int), .int .i64 f.lat, .int .i64 f.lon, .int .i64 f.el, .int .i64 f.ra]] w (FRefPost f w) := by
  have h1 : (sb f.id).size ≤ 1000000000000000 := hi
  have h2 : (sb f.rg).size ≤ 1000000000000000 := hr
  have HE : Hid (∀ s : ByteArray, bl s = fxRef f → sb (fxRef f) = s) := fun s h => by rw [← h, sb_bl]
  clear hi hr
  go_enter Tryz.func20, Tryz.ntmps20
  go_wp2
  go_ret
  refine ⟨?_, (Below.refl _ _).alloc (Nat.le_refl _) _⟩
  rw [HE.out (sb f.id ++ ⟨#[47]⟩ ++ sb f.rg) (by rw [bl_append, bl_append, bl_sb, bl_sb]; unfold fxRef; simp [bl_mk])]
  first | rfl | (simp [ByteArray.append_assoc])
theorem rfixRef_any (f : Fx) (w : World) (hi : f.id.length ≤ 1000000000000000) (hr : f.rg.length ≤ 1000000000000000) :
    Calls Tryz.prog 34 #[.agg #[.string (sb f.id), .string (sb f.rg), .int .u8 (f.kd : Int), .int .i64 f.lat, .int .i64 f.lon, .int .i64 f.el, .int .i64 f.ra]] w (FRefPost f w) := by
  have h1 : (sb f.id).size ≤ 1000000000000000 := hi
  have h2 : (sb f.rg).size ≤ 1000000000000000 := hr
  have HE : Hid (∀ s : ByteArray, bl s = fxRef f → sb (fxRef f) = s) := fun s h => by rw [← h, sb_bl]
  clear hi hr
  go_enter Tryz.func34, Tryz.ntmps34
  go_wp2
  go_ret
  refine ⟨?_, (Below.refl _ _).alloc (Nat.le_refl _) _⟩
  rw [HE.out (sb f.id ++ ⟨#[47]⟩ ++ sb f.rg) (by rw [bl_append, bl_append, bl_sb, bl_sb]; unfold fxRef; simp [bl_mk])]
  first | rfl | (simp [ByteArray.append_assoc])
theorem text_sum (w : World) (E : Env w) : Calls Tryz.prog 27 #[.agg #[.string ⟨#[83, 85, 77, 77, 65]⟩, .string ⟨#[75, 49]⟩, .int .u8 1, .int .i64 16760000, .int .i64 (-43921500), .int .i64 0, .int .i64 0]] w fun e w' => e = .returned (.tuple #[.string (sb sumL), .int .i64 0]) ∧ Below w.heap.size w w' := by
  refine (textF_any sumF w E (by decide) (by decide)).mono ?_
  rintro e w' ⟨t, rfl, ht, hb⟩
  refine ⟨?_, hb⟩
  rw [sum_ok, ← sb_bl t, ht.out, sum_out]
theorem parse_sum (w : World) (E : Env w) : Calls Tryz.prog 28 #[.string (sb sumL)] w fun e w' => e = .returned (.tuple #[.agg #[.string ⟨#[83, 85, 77, 77, 65]⟩, .string ⟨#[75, 49]⟩, .int .u8 1, .int .i64 16760000, .int .i64 (-43921500), .int .i64 0, .int .i64 0], .int .i64 0]) ∧ Below w.heap.size w w' := by
  refine (parseF_any (sb sumL) w E (by decide)).mono ?_
  rintro e w' ⟨rfl, hb⟩
  refine ⟨?_, hb⟩
  rw [bl_sb, sum_pF, sum_pE]; rfl
theorem split_sum (w : World) : Calls Tryz.prog 29 #[.string ⟨#[83, 85, 77, 77, 65, 47, 75, 49]⟩] w fun e w' => e = .returned (.tuple #[.string ⟨#[83, 85, 77, 77, 65]⟩, .string ⟨#[75, 49]⟩, .int .i64 0]) ∧ Drawn w w' := by
  refine (splitRef_any (sb sumR) w (by decide)).mono ?_
  rintro e w' ⟨a, b, rfl, ha, hb, _, _, hd⟩
  refine ⟨?_, hd⟩
  rw [bl_sb, sum_rE.2.1] at ha
  rw [bl_sb, sum_rE.2.2] at hb
  rw [bl_sb, sum_rE.1, ← sb_bl a, ha.out, ← sb_bl b, hb.out]; rfl
theorem ref_sum (w : World) : Calls Tryz.prog 20 #[.agg #[.string ⟨#[83, 85, 77, 77, 65]⟩, .string ⟨#[75, 49]⟩, .int .u8 1, .int .i64 16760000, .int .i64 (-43921500), .int .i64 0, .int .i64 0]] w fun e w' => e = .returned (.string ⟨#[83, 85, 77, 77, 65, 47, 75, 49]⟩) ∧ Below w.heap.size w w' := by
  refine (fixRef_any sumF w (by decide) (by decide)).mono ?_
  rintro e w' ⟨rfl, hb⟩
  refine ⟨?_, hb⟩
  rw [sum_ref]; rfl
theorem sumL_eq : ((sb sumL).toList == [87, 65, 89, 80, 79, 73, 78, 84, 32, 83, 85, 77, 77, 65, 32, 75, 49, 32, 78, 52, 54, 51, 51, 50, 48, 48, 48, 87, 49, 50, 50, 48, 48, 49, 53, 48, 48]) = true := by rw [bl_toList, bl_sb]; rfl
set_option maxRecDepth 100000 in
set_option maxHeartbeats 1000000 in
theorem awakeF_any (w : World) (E : Env w) : Calls Tryz.prog 8 #[] w fun e w' => e = .returned (.bool true) ∧ Below w.heap.size w w' := by
  have hL := sumL_eq
  have E0 := E.alloc (.cells #[.string ⟨#[83, 85, 77, 77, 65]⟩, .string ⟨#[75, 49]⟩, .int .u8 1, .int .i64 16760000, .int .i64 (-43921500), .int .i64 0, .int .i64 0] 31)
  have B0 : Hid (FxBox (w.alloc (.cells #[.string ⟨#[83, 85, 77, 77, 65]⟩, .string ⟨#[75, 49]⟩, .int .u8 1, .int .i64 16760000, .int .i64 (-43921500), .int .i64 0, .int .i64 0] 31)) w.heap.size sumF) := heap_alloc_new w _
  have HB0 : Hid (Below w.heap.size w (w.alloc (.cells #[.string ⟨#[83, 85, 77, 77, 65]⟩, .string ⟨#[75, 49]⟩, .int .u8 1, .int .i64 16760000, .int .i64 (-43921500), .int .i64 0, .int .i64 0] 31))) := (Below.refl _ _).alloc (Nat.le_refl _) _
  go_enter Tryz.func8, Tryz.ntmps8
  go_wp2_with fail
  refine (text_sum _ E0).mono ?_
  rintro e w1 ⟨rfl, hb1⟩
  have B1 := Lib.hid (B0.out.below hb1)
  have HB1 := Lib.hid (Below.then_ HB0.out hb1)
  have E1 := E.below HB1.out
  obtain ⟨c0, c1, c2, c3, c4, c5, c6⟩ : FxCells w1 w.heap.size ⟨#[83, 85, 77, 77, 65]⟩ ⟨#[75, 49]⟩ 1 16760000 (-43921500) 0 0 := B1.out.cells
  have hl1 := lt_heap B1.out
  clear hb1
  go_wp2_with fail
  refine (parse_sum _ E1).mono ?_
  rintro e w2 ⟨rfl, hb2⟩
  have B2 := Lib.hid (B1.out.below hb2)
  have HB2 := Lib.hid (Below.then_ HB1.out hb2)
  have HB2' : Hid (Below w2.heap.size w2 (w2.alloc (.cells #[.string ⟨#[83, 85, 77, 77, 65]⟩, .string ⟨#[75, 49]⟩, .int .u8 1, .int .i64 16760000, .int .i64 (-43921500), .int .i64 0, .int .i64 0] 31))) := (Below.refl _ _).alloc (Nat.le_refl _) _
  clear c0 c1 c2 c3 c4 c5 c6 hl1 hb2
  go_wp2_with fail
  refine (split_sum _).mono ?_
  rintro e w3 ⟨rfl, hd3⟩
  have hb3 := hd3.below (b := (w2.alloc (.cells #[.string ⟨#[83, 85, 77, 77, 65]⟩, .string ⟨#[75, 49]⟩, .int .u8 1, .int .i64 16760000, .int .i64 (-43921500), .int .i64 0, .int .i64 0] 31)).heap.size)
  have B3 := Lib.hid ((B2.out.below HB2'.out).below hb3)
  have G3 : Hid (FxBox w3 w2.heap.size sumF) := FxBox.below (w := w2.alloc (.cells #[.string ⟨#[83, 85, 77, 77, 65]⟩, .string ⟨#[75, 49]⟩, .int .u8 1, .int .i64 16760000, .int .i64 (-43921500), .int .i64 0, .int .i64 0] 31)) (heap_alloc_new w2 _) hb3
  have HB3 := Lib.hid (Below.then_ (Below.then_ HB2.out HB2'.out) hb3)
  clear hb3 hd3
  obtain ⟨c0, c1, c2, c3, c4, c5, c6⟩ : FxCells w3 w.heap.size ⟨#[83, 85, 77, 77, 65]⟩ ⟨#[75, 49]⟩ 1 16760000 (-43921500) 0 0 := B3.out.cells
  obtain ⟨d0, d1, d2, d3, d4, d5, d6⟩ : FxCells w3 w2.heap.size ⟨#[83, 85, 77, 77, 65]⟩ ⟨#[75, 49]⟩ 1 16760000 (-43921500) 0 0 := G3.out.cells
  go_wp2_with fail
  refine (ref_sum _).mono ?_
  rintro e w4 ⟨rfl, hb4⟩
  have HB4 := Lib.hid (Below.then_ HB3.out hb4)
  clear hb4
  go_wp2
  go_ret
  exact ⟨rfl, HB4.out⟩
end Go.Proofs.YtinkdlmikhcpjaaGreatDoor
namespace Go.Proofs.YtinkdlmikhcpjaaGreatDoor
open Go.RowKit
set_option linter.unusedVariables false
set_option linter.unusedSimpArgs false

theorem infoFix : (Tryz.prog.info? 31).map (fun i => (i.zero, i.size, i.bytes)) = some (some (.agg #[.string ⟨#[]⟩, .string ⟨#[]⟩, .int .u8 0, .int .i64 0, .int .i64 0, .int .i64 0, .int .i64 0]), 7, 72) := by kernel_rfl
theorem fxcells_len (l : List Fx) : (fxcells l).length = l.length * 7 := by
  induction l with
  | nil => rfl
  | cons p l ih =>
    show (fxc p ++ fxcells l).length = _
    rw [List.length_append, ih, List.length_cons]
    show 7 + _ = _
    omega
theorem fxcells_snoc (l : List Fx) (p : Fx) : fxcells (l ++ [p]) = fxcells l ++ fxc p := by
  unfold fxcells; rw [List.flatMap_append]; simp
theorem fxcells_at (l : List Fx) : ∀ (k : Nat) (h : k < l.length) (j : Nat), j < 7 → (fxcells l)[k * 7 + j]? = (fxc l[k])[j]? := by
  induction l with
  | nil => intro k h; simp at h
  | cons p l ih =>
    intro k h j hj
    show (fxc p ++ fxcells l)[k * 7 + j]? = _
    have hl : (fxc p).length = 7 := rfl
    cases k with
    | zero => rw [Nat.zero_mul, Nat.zero_add, List.getElem?_append_left (by omega)]; rfl
    | succ k =>
      rw [List.getElem?_append_right (by omega), hl, show (k + 1) * 7 + j - 7 = k * 7 + j by omega]
      exact ih k (by simpa using h) j hj
/-- fixes in memory; their strings fit -/
def FxsR (w : World) (v : Value) (l : List Fx) : Prop := Rd w 7 v l.length (fxcells l)
theorem FxsR.below {w w' : World} {v : Value} {l : List Fx} (h : FxsR w v l) (hb : Below w.heap.size w w') : FxsR w' v l := Rd.below h hb
theorem FxsR.form {w : World} {v : Value} {l : List Fx} (h : FxsR w v l) : ∃ A c, v = .slice A l.length c ∧ l.length ≤ c ∧ c ≤ 9223372036854775807 := by
  obtain ⟨A, c, hv, hc, hm⟩ := Rd.form h
  unfold maxLen at hm
  exact ⟨A, c, hv, hc, by omega⟩
structure FxAt (w : World) (g o : Nat) (f : Fx) : Prop where
  c0 : w.cell? ⟨g, o, none⟩ = some (.string (sb f.id))
  c1 : w.cell? ⟨g, o + 1, none⟩ = some (.string (sb f.rg))
  c2 : w.cell? ⟨g, o + 2, none⟩ = some (.int .u8 (f.kd : Int))
  c3 : w.cell? ⟨g, o + 3, none⟩ = some (.int .i64 f.lat)
  c4 : w.cell? ⟨g, o + 4, none⟩ = some (.int .i64 f.lon)
  c5 : w.cell? ⟨g, o + 5, none⟩ = some (.int .i64 f.el)
  c6 : w.cell? ⟨g, o + 6, none⟩ = some (.int .i64 f.ra)
theorem FxsR.at_ {w : World} {v : Value} {l : List Fx} (h : FxsR w v l) {k : Nat} (hk : k < l.length) : ∃ g o c, v = .slice (some ⟨g, o, none⟩) l.length c ∧ g < w.heap.size ∧ FxAt w g (o + k * 7) l[k] := by
  obtain ⟨hl, A, c, hv, hc, hm, hr⟩ := h
  obtain ⟨g, o, rfl, hg, hx⟩ := hr (by omega)
  have key : ∀ j u, j < 7 → (fxc l[k])[j]? = some u → w.cell? ⟨g, o + k * 7 + j, none⟩ = some u := fun j u hj hu => by
    have := hx (k * 7 + j) u (by rw [fxcells_at l k hk j hj]; exact hu)
    rwa [← Nat.add_assoc] at this
  exact ⟨g, o, c, hv, hg, key 0 _ (by omega) rfl, key 1 _ (by omega) rfl, key 2 _ (by omega) rfl, key 3 _ (by omega) rfl, key 4 _ (by omega) rfl, key 5 _ (by omega) rfl, key 6 _ (by omega) rfl⟩
theorem FxAt.below {w w' : World} {g o : Nat} {f : Fx} (h : FxAt w g o f) (hg : g < w.heap.size) {B : Nat} (hb : Below B w w') (hB : g < B) : FxAt w' g o f := by
  have k : ∀ j, w'.cell? ⟨g, j, none⟩ = w.cell? ⟨g, j, none⟩ := fun j => hb.cell (p := ⟨g, j, none⟩) hB
  exact ⟨(k _).trans h.c0, (k _).trans h.c1, (k _).trans h.c2, (k _).trans h.c3, (k _).trans h.c4, (k _).trans h.c5, (k _).trans h.c6⟩
theorem str_eq' {l : List UInt8} {t : ByteArray} : ((sb l).toList == t.toList) = decide (l = bl t) := by rw [bl_toList, bl_toList, bl_sb, Bool.eq_iff_iff, beq_iff_eq, decide_eq_true_iff]
/-- the fixes with an identifier -/
def matchL (l : List Fx) (t : List UInt8) : List Fx := l.filter fun f => decide (f.id = t)
theorem match_step {l : List Fx} {k : Nat} (t : List UInt8) (h : k < l.length) : matchL (l.take (k + 1)) t = if l[k].id = t then matchL (l.take k) t ++ [l[k]] else matchL (l.take k) t := by
  unfold matchL
  rw [List.take_succ_eq_append_getElem h, List.filter_append]
  by_cases he : l[k].id = t
  · simp [he]
  · simp [he]
theorem match_len (l : List Fx) (t : List UInt8) (k : Nat) : (matchL (l.take k) t).length ≤ k := by
  unfold matchL
  exact Nat.le_trans (List.length_filter_le _ _) (List.length_take_le _ _)
/-- what an append of a fix does to what is owned -/
theorem fix_step {base : Nat} {w0 wr w' : World} {v v' : Value} {done : List Fx} {f : Fx} {o1 o2 : Obj} {n : Nat} (hn : n = done.length)
    (hlt : ∀ k, v.ownBlock = some k → base ≤ k ∧ k < wr.heap.size) (hb : Below base w0 wr) (hown' : w'.ownsRow base 31 7 v' (n + 1) (fxcells done ++ fxc f)) (hg : ((wr.alloc o1).alloc o2).grownBy w' v.ownBlock) (hB : base ≤ wr.heap.size) :
    w'.ownsRow base 31 7 v' (done ++ [f]).length (fxcells (done ++ [f])) ∧ Below base w0 w' := by
  subst hn
  refine ⟨?_, ((hb.alloc hB o1).alloc (by simp; omega) o2).grown hg (by simp; omega) (fun k hk => (hlt k hk).1)⟩
  rw [fxcells_snoc, List.length_append]
  exact hown'
def MatchPost (l : List Fx) (t : List UInt8) (w : World) (e : Ending) (w' : World) : Prop := ∃ v, e = .returned v ∧ FxsR w' v (matchL l t) ∧ Below w.heap.size w w'
set_option maxRecDepth 100000 in
set_option maxHeartbeats 1000000 in
theorem sameF_same (va vb : Value) (l : List Fx) (w : World) (ha : FxsR w va l) (hb : FxsR w vb l) :
    Calls Tryz.prog 11 #[va, vb] w fun e w' => e = .returned (.bool true) ∧ Drawn w w' := by
  obtain ⟨A, c, rfl, hc, hm⟩ := ha.form
  obtain ⟨A', c', rfl, hc', hm'⟩ := hb.form
  obtain ⟨n, hn⟩ : ∃ n, l.length = n := ⟨_, rfl⟩
  have HN := Lib.hid hn
  have HA := Lib.hid ha
  have HB := Lib.hid hb
  rw [hn] at HA HB hc hc' ⊢
  clear ha hb hn
  go_enter Tryz.func11, Tryz.ntmps11
  go_wp2
  go_loopw [13] (fun i wr => ∃ k : Nat, k ≤ n ∧ i = .int .i64 k ∧ Drawn w wr) (fun i _ => n - (intOf i).toNat)
  case atStart => exact ⟨0, Nat.zero_le _, rfl, Drawn.refl _⟩
  case round =>
    obtain ⟨k, hk, rfl, m, rfl⟩ := hrel
    by_cases hlt : k < n
    · have hkl : k < l.length := by rw [HN.out]; exact hlt
      obtain ⟨g, o, c1, hv, _, hat⟩ := HA.out.at_ hkl
      obtain ⟨g', o', c1', hv', _, hat'⟩ := HB.out.at_ hkl
      rw [HN.out] at hv hv'
      simp only [Value.slice.injEq, true_and] at hv hv'
      obtain ⟨rfl, rfl⟩ := hv
      obtain ⟨rfl, rfl⟩ := hv'
      obtain ⟨p, hp⟩ : ∃ p, l[k] = p := ⟨_, rfl⟩
      rw [hp] at hat hat'
      obtain ⟨y0, y1, y2, y3, y4, y5, y6⟩ := hat
      obtain ⟨z0, z1, z2, z3, z4, z5, z6⟩ := hat'
      clear hp hkl
      have hki : (k : Int) < (n : Int) := by omega
      go_wp2
      go_quiet (fail)
      go_wp2
      go_roundw
      case rel => exact ⟨k + 1, hlt, by go_num, _, rfl⟩
      case measure => simp [intOf]; omega
    · go_wp2
      go_ret
      exact ⟨rfl, _, rfl⟩
def FewPost (l : List Fx) (w : World) (e : Ending) (w' : World) : Prop := ∃ v, e = .returned v ∧ w'.ownsRow w.heap.size 31 7 v l.length (fxcells l) ∧ Below w.heap.size w w'
set_option maxRecDepth 100000 in
set_option maxHeartbeats 1000000 in
theorem few_any (v : Value) (l : List Fx) (N : Nat) (w : World) (h : FxsR w v l) (hN : N ≤ 1000) :
    Calls Tryz.prog 9 #[v, .int .i64 (N : Int)] w (FewPost (l.take N) w) := by
  obtain ⟨i0, hi, hz0, hz1, hz2⟩ := info_parts infoFix
  have H := Lib.hid h
  obtain ⟨hlen, A, c, rfl, hc, hm, hr⟩ := h
  unfold maxLen at hm
  have HL := Lib.hid hlen
  have HR := Lib.hid hr
  obtain ⟨n, hn⟩ : ∃ n, l.length = n := ⟨_, rfl⟩
  have HN := Lib.hid hn
  rw [hn] at hc ⊢
  have HT : Hid ((l.take N).length = min N n) := by unfold Hid; rw [List.length_take, hn]
  have hmin : min (n : Int) (N : Int) = ((min N n : Nat) : Int) := by omega
  have HEMP := Lib.hid (World.ownsRow_lit (base := w.heap.size) (e := 31) (size := 7) w #[] 0 (Nat.le_refl _) (by unfold maxLen; omega) rfl)
  clear hlen hr hn
  rcases Nat.eq_zero_or_pos (min N n) with h0 | h0
  · have HT0 : Hid (l.take N = []) := List.eq_nil_of_length_eq_zero (HT.out.trans h0)
    rw [h0] at hmin
    clear h0
    cases A
    all_goals
      go_enter Tryz.func9, Tryz.ntmps9
      go_wp2
      go_ret
      refine ⟨_, rfl, ?_, (Below.refl _ _).alloc (Nat.le_refl _) _⟩
      rw [HT0.out]
      exact HEMP.out
  · obtain ⟨g, o, rfl, hg, hx⟩ := HR.out (by rw [HN.out]; omega)
    have HX : Hid (∀ j u, (fxcells (l.take N))[j]? = some u → (w.alloc (.cells #[] 31)).cell? ((⟨g, o, none⟩ : Addr).add j) = some u) := by
      intro j u hu
      have h1 : (fxcells l)[j]? = some u := by
        obtain ⟨r, hr⟩ : ∃ r, fxcells l = fxcells (l.take N) ++ r := ⟨fxcells (l.drop N), by unfold fxcells; rw [← List.flatMap_append, List.take_append_drop]⟩
        obtain ⟨hj, _⟩ := List.getElem?_eq_some_iff.mp hu
        rw [hr, List.getElem?_append_left hj]
        exact hu
      have h2 := (((Below.refl _ w).alloc (Nat.le_refl _) (.cells #[] 31)).cell (p := ⟨g, o + j, none⟩) hg).trans (hx j u h1)
      simp only [Addr.add]
      split
      · rename_i hj0
        rw [hj0] at h2
        exact h2
      · exact h2
    have HC5 : Hid (∀ u ∈ fxcells (l.take N), u.oneCell' = true) := by
      intro u hu
      unfold fxcells at hu
      obtain ⟨p, _, hp⟩ := List.mem_flatMap.mp hu
      unfold fxc at hp
      simp at hp
      rcases hp with rfl | rfl | rfl | rfl | rfl | rfl | rfl <;> rfl
    have HL2 : Hid ((fxcells (l.take N)).length = min N n * 7) := by unfold Hid; rw [fxcells_len, HT.out]
    clear hx
    go_enter Tryz.func9, Tryz.ntmps9
    go_wp2_with (at_builtin; (refine wpList_append_own _ rfl _ _ 22 rfl w.heap.size 31 i0 (.agg #[.string ⟨#[]⟩, .string ⟨#[]⟩, .int .u8 0, .int .i64 0, .int .i64 0, .int .i64 0, .int .i64 0]) 7 72 Tryz.underlying22 hi hz0 hz1 hz2 rfl (by decide) _ _ _ rfl HEMP.out ⟨g, o, none⟩ (min N n) c (fxcells (l.take N)) rfl HL2.out HX.out HC5.out ?c3 ?c4 ?c5 ?_))
    case c3 => unfold maxLen; omega
    case c4 => omega
    intro v' w' hown' hgrow _
    have HB : Hid (Below w.heap.size w w') := (((Below.refl _ _).alloc (Nat.le_refl _) _).grown hgrow (by simp) (fun k hk => by cases hk; exact Nat.le_refl _))
    have HO : Hid (w'.ownsRow w.heap.size 31 7 v' (l.take N).length (fxcells (l.take N))) := by
      have := hown'
      unfold Hid
      rw [HT.out]
      simpa using this
    clear hown' hgrow
    go_wp2
    go_ret
    exact ⟨_, rfl, HO.out, HB.out⟩
/-! ### the first fix with a reference -/
/-- the strings of fixes are no longer than a machine holds -/
def SzL (l : List Fx) : Prop := ∀ f ∈ l, f.id.length ≤ 1000000000000000 ∧ f.rg.length ≤ 1000000000000000
theorem SzL.take {l : List Fx} (h : SzL l) (n : Nat) : SzL (l.take n) := fun f hf => h f (List.mem_of_mem_take hf)
theorem SzL.get {l : List Fx} (h : SzL l) {k : Nat} (hk : k < l.length) : l[k].id.length ≤ 1000000000000000 ∧ l[k].rg.length ≤ 1000000000000000 := h _ (List.getElem_mem hk)
def findL (l : List Fx) (t : List UInt8) : Option Fx := l.find? fun f => decide (fxRef f = t)
theorem find_miss {l : List Fx} {t : List UInt8} {k : Nat} (hk : k < l.length) (h : findL (l.take k) t = none) (he : fxRef l[k] ≠ t) : findL (l.take (k + 1)) t = none := by
  unfold findL at h ⊢
  rw [List.take_succ_eq_append_getElem hk, List.find?_append, h]
  simp [he]
theorem find_hit {l : List Fx} {t : List UInt8} {k : Nat} (hk : k < l.length) (h : findL (l.take k) t = none) (he : fxRef l[k] = t) : findL l t = some l[k] := by
  unfold findL at h ⊢
  have hl : l = l.take k ++ l[k] :: l.drop (k + 1) := by rw [List.getElem_cons_drop, List.take_append_drop]
  generalize l[k] = p at hl he ⊢
  rw [hl, List.find?_append, h]
  simp [he]
theorem find_self {l : List Fx} {x : Fx} (h : x ∈ l) : ∃ y, findL l (fxRef x) = some y ∧ fxRef y = fxRef x := by
  cases hf : findL l (fxRef x) with
  | none =>
    unfold findL at hf
    rw [List.find?_eq_none] at hf
    exact absurd (decide_eq_true rfl) (hf x h)
  | some y =>
    refine ⟨y, rfl, ?_⟩
    unfold findL at hf
    have := List.find?_some hf
    exact of_decide_eq_true this
theorem find_mem {l : List Fx} {t : List UInt8} {y : Fx} (h : findL l t = some y) : y ∈ l := List.mem_of_find?_eq_some h
def FindPost (o : Option Fx) (w : World) (e : Ending) (w' : World) : Prop :=
  e = .returned (.tuple #[.agg #[.string (sb (o.getD fx0).id), .string (sb (o.getD fx0).rg), .int .u8 ((o.getD fx0).kd : Int), .int .i64 (o.getD fx0).lat, .int .i64 (o.getD fx0).lon, .int .i64 (o.getD fx0).el, .int .i64 (o.getD fx0).ra], .bool o.isSome]) ∧ Below w.heap.size w w'
theorem FindPost.some {o : Option Fx} {w w' : World} {p : Fx} (h : o = some p) (hb : Below w.heap.size w w') :
    FindPost o w (.returned (.tuple #[.agg #[.string (sb p.id), .string (sb p.rg), .int .u8 (p.kd : Int), .int .i64 p.lat, .int .i64 p.lon, .int .i64 p.el, .int .i64 p.ra], .bool true])) w' := by subst h; exact ⟨rfl, hb⟩
theorem FindPost.none {o : Option Fx} {w w' : World} (h : o = none) (hb : Below w.heap.size w w') :
    FindPost o w (.returned (.tuple #[.agg #[.string ⟨#[]⟩, .string ⟨#[]⟩, .int .u8 0, .int .i64 0, .int .i64 0, .int .i64 0, .int .i64 0], .bool false])) w' := by subst h; exact ⟨rfl, hb⟩
def IdxPost (l : List Fx) (t : List UInt8) (w : World) (e : Ending) (w' : World) : Prop :=
  ∃ i : Int, e = .returned (.int .i64 i) ∧ ((i = -1 ∧ findL l t = none) ∨ ∃ (k : Nat) (h : k < l.length), i = k ∧ findL l t = some l[k]) ∧ Below w.heap.size w w'
end Go.Proofs.YtinkdlmikhcpjaaGreatDoor
namespace Go.Proofs.YtinkdlmikhcpjaaGreatDoor
open Go.RowKit Go.Sort
set_option linter.unusedVariables false
set_option linter.unusedSimpArgs false

/-- how two texts compare -/
def cmpS (a b : List UInt8) : Int := if a < b then -1 else if b < a then 1 else 0
theorem cmpS_neg {a b : List UInt8} : cmpS a b < 0 ↔ a < b := by
  unfold cmpS
  split
  · rename_i h; simp [h]
  · rename_i h; split <;> simp [h]
theorem blt_asymm {a b : List UInt8} (h : a < b) : ¬ b < a := List.lt_asymm h
theorem blt_trans {a b c : List UInt8} (h : ¬ b < a) (k : ¬ c < b) : ¬ c < a := by
  rw [List.not_lt] at *
  exact List.le_trans h k
theorem blt_eq {a b : List UInt8} (h : ¬ a < b) (k : ¬ b < a) : a = b := by
  rw [List.not_lt] at *
  exact List.le_antisymm k h
/-- an order by a text -/
theorem swo_text {α : Type} (f : α → List UInt8) : Swo (ltOf fun x y : α => cmpS (f x) (f y)) where
  asymm a b h := by
    have h1 : f a < f b := cmpS_neg.1 (of_decide_eq_true h)
    exact decide_eq_false fun h2 => blt_asymm h1 (cmpS_neg.1 h2)
  trans a b c h k := by
    have h1 : ¬ f b < f a := fun h1 => of_decide_eq_false h (cmpS_neg.2 h1)
    have h2 : ¬ f c < f b := fun h1 => of_decide_eq_false k (cmpS_neg.2 h1)
    exact decide_eq_false fun h3 => blt_trans h1 h2 (cmpS_neg.1 h3)
theorem ltOf_text {α : Type} (f : α → List UInt8) (x y : α) : ltOf (fun x y : α => cmpS (f x) (f y)) x y = decide (f x < f y) := by
  unfold ltOf; rw [Bool.eq_iff_iff, decide_eq_true_iff, decide_eq_true_iff]; exact cmpS_neg
theorem str_eqB {t r : ByteArray} : (t.toList == r.toList) = decide (bl t = bl r) := by
  rw [bl_toList, bl_toList, Bool.eq_iff_iff, beq_iff_eq, decide_eq_true_iff]
theorem bytesLess_bl (x y : ByteArray) : Op.bytesLess x.toList y.toList = decide (bl x < bl y) := by rw [bl_toList, bl_toList, bytesLess_eq]
set_option maxHeartbeats 400000 in
theorem isNaNs_any (x : ByteArray) (w : World) : Calls Tryz.prog 88 #[.string x] w fun e w' => e = .returned (.bool false) ∧ w' = w := by
  go_enter Tryz.func88, Tryz.ntmps88
  go_wp2
  go_ret
  exact ⟨by simp, rfl⟩
set_option maxHeartbeats 1000000 in
theorem cmpStr_any (x y : ByteArray) (w : World) : Calls Tryz.prog 33 #[.string x, .string y] w fun e w' => e = .returned (.int .i64 (cmpS (bl x) (bl y))) ∧ w' = w := by
  have b1 := bytesLess_bl x y
  have b2 := bytesLess_bl y x
  obtain ⟨r, hr⟩ : ∃ r, cmpS (bl x) (bl y) = r := ⟨_, rfl⟩
  have HR := Lib.hid hr
  rw [hr]
  clear hr
  by_cases h1 : bl x < bl y
  · have H : Hid ((-1 : Int) = r) := by unfold Hid; rw [← HR.out]; unfold cmpS; rw [if_pos h1]
    rw [decide_eq_true h1] at b1
    rw [decide_eq_false (blt_asymm h1)] at b2
    clear h1
    go_enter Tryz.func33, Tryz.ntmps33
    go_wp2_with fail
    refine (isNaNs_any x _).mono ?_
    rintro e w1 ⟨rfl, rfl⟩
    go_wp2_with fail
    refine (isNaNs_any y _).mono ?_
    rintro e w1 ⟨rfl, rfl⟩
    go_wp2
    go_ret
    exact ⟨by rw [← H.out]; rfl, rfl⟩
  · rw [decide_eq_false h1] at b1
    by_cases h2 : bl y < bl x
    · have e3 : (x.toList == y.toList) = false := by rw [str_eqB]; exact decide_eq_false fun e => blt_asymm h2 (by rw [e] at h2 ⊢; exact h2)
      have H : Hid ((1 : Int) = r) := by unfold Hid; rw [← HR.out]; unfold cmpS; rw [if_neg h1, if_pos h2]
      rw [decide_eq_true h2] at b2
      clear h1 h2
      go_enter Tryz.func33, Tryz.ntmps33
      go_wp2_with fail
      refine (isNaNs_any x _).mono ?_
      rintro e w1 ⟨rfl, rfl⟩
      go_wp2_with fail
      refine (isNaNs_any y _).mono ?_
      rintro e w1 ⟨rfl, rfl⟩
      go_wp2
      go_ret
      exact ⟨by rw [← H.out]; rfl, rfl⟩
    · have e3 : (x.toList == y.toList) = true := by rw [str_eqB]; exact decide_eq_true (blt_eq h1 h2)
      have H : Hid ((0 : Int) = r) := by unfold Hid; rw [← HR.out]; unfold cmpS; rw [if_neg h1, if_neg h2]
      rw [decide_eq_false h2] at b2
      clear h1 h2
      go_enter Tryz.func33, Tryz.ntmps33
      go_wp2_with fail
      refine (isNaNs_any x _).mono ?_
      rintro e w1 ⟨rfl, rfl⟩
      go_wp2_with fail
      refine (isNaNs_any y _).mono ?_
      rintro e w1 ⟨rfl, rfl⟩
      go_wp2
      go_ret
      exact ⟨by rw [← H.out]; rfl, rfl⟩
end Go.Proofs.YtinkdlmikhcpjaaGreatDoor
namespace Go.Proofs.YtinkdlmikhcpjaaGreatDoor
open Go.RowKit Go.Lib Go.Sort
set_option linter.unusedVariables false
set_option linter.unusedSimpArgs false

/-! ### rows of the call's own, as the sort wants them -/
section
variable {α : Type} [Inhabited α] {enc : α → List Value} {k : Nat}
theorem flatMap_at (hk : ∀ x, (enc x).length = k) (D : List α) {t : Nat} (h : t < D.length * k) : (D.flatMap enc)[t]? = some (flatK enc k D.toArray)[t]! := by
  have h0 : 0 < k := by rcases Nat.eq_zero_or_pos k with h1 | h1
                        · subst h1; simp at h
                        · exact h1
  have hi : t / k < D.length := Nat.div_lt_of_lt_mul (by rw [Nat.mul_comm]; exact h)
  have hj : t % k < k := Nat.mod_lt _ h0
  have e : t / k * k + t % k = t := by rw [Nat.mul_comm]; exact Nat.div_add_mod t k
  have h2 := flat_at (D.map enc) (by intro c hc; rw [List.mem_map] at hc; obtain ⟨x, _, rfl⟩ := hc; exact hk x) (t / k) (t % k) (by rw [List.length_map]; exact hi) hj
  rw [e, List.getElem_map, ← List.flatMap_def] at h2
  rw [h2, get_flatK enc k D.toArray t (by rw [List.size_toArray]; exact h), getElem!_pos D.toArray _ (by rw [List.size_toArray]; exact hi)]
  rw [List.getElem?_eq_getElem (by rw [hk]; exact hj), List.getElem_toArray, getElem!_pos (enc D[t / k]) _ (by rw [hk]; exact hj)]
theorem holdsK_own (hk : ∀ x, (enc x).length = k) {w : World} {base : Nat} {e : TypeId} {v : Value} {D : List α} (h : w.ownsRow base e k v D.length (D.flatMap enc)) (h0 : 0 < D.length) :
    ∃ g c, v = .slice (some ⟨g, 0, none⟩) D.length c ∧ D.length ≤ c ∧ c ≤ maxLen ∧ base ≤ g ∧ g < w.heap.size ∧ HoldsK enc k w g 0 D.toArray := by
  have hlt := h.lt
  have hcs := @World.ownsRow.cells _ _ _ _ _ _ _ h
  obtain ⟨hl, ⟨rfl, h1⟩ | ⟨g, cap, cur, rfl, hb, hh, hn, hm, _, _⟩⟩ := h
  · omega
  · refine ⟨g, cap, rfl, hn, hm, hb, heap_lt hh, fun t ht => ?_⟩
    rw [size_flatK, List.size_toArray] at ht
    have := hcs (g := g) rfl t _ (flatMap_at hk D ht)
    refine ⟨by simpa [Addr.add_lit] using this, ?_⟩
    unfold World.frozen?
    rw [hh]; simp
theorem rd_holdsK (hk : ∀ x, (enc x).length = k) {w : World} {g c : Nat} {D : List α} (h : HoldsK enc k w g 0 D.toArray) (hg : g < w.heap.size) (hc : D.length ≤ c) (hm : c ≤ maxLen) : Rd w k (.slice (some ⟨g, 0, none⟩) D.length c) D.length (D.flatMap enc) := by
  have hl : (D.flatMap enc).length = D.length * k := by rw [List.flatMap_def]; exact (flat_len (D.map enc) (by intro c hc; rw [List.mem_map] at hc; obtain ⟨x, _, rfl⟩ := hc; exact hk x)).trans (by rw [List.length_map])
  refine ⟨hl, _, c, rfl, hc, hm, fun _ => ⟨g, 0, rfl, hg, fun j u hu => ?_⟩⟩
  have hj : j < D.length * k := by
    rw [← hl]; exact (List.getElem?_eq_some_iff.1 hu).1
  have h1 := (h j (by rw [size_flatK, List.size_toArray]; exact hj)).1
  rw [flatMap_at hk D hj, Option.some.injEq] at hu
  rw [h1, ← hu]; rfl
theorem swk_below {w0 W : World} {blk off : Nat} {dk : Array α} (h : SWK enc k w0 blk off dk W) {B : Nat} (hB : B ≤ blk) (hB2 : B ≤ w0.heap.size) : Below B w0 W := by
  obtain ⟨n, os, rfl⟩ := h
  refine ⟨rfl, rfl, rfl, ?_, fun i hi => ?_⟩
  · unfold sortWorldK; rw [size_grow, size_putRowK]; show w0.heap.size ≤ w0.heap.size + _; omega
  · unfold sortWorldK
    rw [heap_grow_old _ _ (by rw [size_putRowK]; show i < w0.heap.size; omega)]
    show ((w0.heap.modify blk _)[i]? : Option Obj) = _
    rw [Array.getElem?_modify, if_neg (by omega)]
end
/-! ### fixes in the order of their references -/
/-- a fix whose strings fit -/
abbrev FxS := { f : Fx // f.id.length ≤ 1000000000000000 ∧ f.rg.length ≤ 1000000000000000 }
instance : Inhabited FxS := ⟨⟨fx0, by decide, by decide⟩⟩
def encF (f : FxS) : List Value := fxc f.1
theorem encF_len (f : FxS) : (encF f).length = 7 := rfl
theorem encF_one (f : FxS) : ∀ v ∈ encF f, v.oneCell' = true := by
  intro v hv
  unfold encF fxc at hv
  simp at hv
  rcases hv with rfl | rfl | rfl | rfl | rfl | rfl | rfl <;> rfl
def rfS (f : FxS) : List UInt8 := fxRef f.1
def cfF (x y : FxS) : Int := cmpS (rfS x) (rfS y)
theorem swoF : Swo (ltOf cfF) := swo_text rfS
theorem ltOfF (x y : FxS) : ltOf cfF x y = decide (rfS x < rfS y) := ltOf_text rfS x y
/-- fixes whose strings fit, as such -/
theorem fxS_of : ∀ {l : List Fx}, SzL l → ∃ L : List FxS, L.map (·.1) = l
  | [], _ => ⟨[], rfl⟩
  | f :: l, h => by
    obtain ⟨L, hL⟩ := fxS_of (l := l) fun x hx => h x (List.mem_cons_of_mem _ hx)
    exact ⟨⟨f, h f (by simp)⟩ :: L, by rw [List.map_cons, hL]⟩
theorem fxcells_map (L : List FxS) : fxcells (L.map (·.1)) = L.flatMap encF := by
  unfold fxcells encF; rw [List.flatMap_map]
set_option maxHeartbeats 1000000 in
theorem fixRefG_any (f : FxS) (w : World) : Calls Tryz.prog 20 #[.agg (encF f).toArray] w fun e w' => e = .returned (.string (sb (rfS f))) ∧ ∃ q os', w' = grow (w.drewN q) os' := by
  obtain ⟨f, hi, hr⟩ := f
  have h1 : (sb f.id).size ≤ 1000000000000000 := hi
  have h2 : (sb f.rg).size ≤ 1000000000000000 := hr
  have HE : Hid (∀ s : ByteArray, bl s = fxRef f → sb (fxRef f) = s) := fun s h => by rw [← h, sb_bl]
  show Calls Tryz.prog 20 #[.agg #[.string (sb f.id), .string (sb f.rg), .int .u8 (f.kd : Int), .int .i64 f.lat, .int .i64 f.lon, .int .i64 f.el, .int .i64 f.ra]] w fun e w' => e = .returned (.string (sb (fxRef f))) ∧ ∃ q os', w' = grow (w.drewN q) os'
  go_enter Tryz.func20, Tryz.ntmps20
  go_wp2
  go_ret
  refine ⟨?_, 0, _, by rw [alloc_eq_grow]; rfl⟩
  rw [HE.out (sb f.id ++ ⟨#[47]⟩ ++ sb f.rg) (by rw [bl_append, bl_append, bl_sb, bl_sb]; unfold fxRef; simp [bl_mk])]
  first | rfl | (simp [ByteArray.append_assoc])
set_option maxHeartbeats 1000000 in
theorem rfixRefG_any (f : FxS) (w : World) : Calls Tryz.prog 34 #[.agg (encF f).toArray] w fun e w' => e = .returned (.string (sb (rfS f))) ∧ ∃ q os', w' = grow (w.drewN q) os' := by
  obtain ⟨f, hi, hr⟩ := f
  have h1 : (sb f.id).size ≤ 1000000000000000 := hi
  have h2 : (sb f.rg).size ≤ 1000000000000000 := hr
  have HE : Hid (∀ s : ByteArray, bl s = fxRef f → sb (fxRef f) = s) := fun s h => by rw [← h, sb_bl]
  show Calls Tryz.prog 34 #[.agg #[.string (sb f.id), .string (sb f.rg), .int .u8 (f.kd : Int), .int .i64 f.lat, .int .i64 f.lon, .int .i64 f.el, .int .i64 f.ra]] w fun e w' => e = .returned (.string (sb (fxRef f))) ∧ ∃ q os', w' = grow (w.drewN q) os'
  go_enter Tryz.func34, Tryz.ntmps34
  go_wp2
  go_ret
  refine ⟨?_, 0, _, by rw [alloc_eq_grow]; rfl⟩
  rw [HE.out (sb f.id ++ ⟨#[47]⟩ ++ sb f.rg) (by rw [bl_append, bl_append, bl_sb, bl_sb]; unfold fxRef; simp [bl_mk])]
  first | rfl | (simp [ByteArray.append_assoc])
theorem fxBox_cells {w : World} {b : Nat} {f : Fx} (h : FxBox w b f) (hb : b < w.heap.size) (n : Nat) (os : Array Obj) : FxBox (grow (w.drewN n) os) b f := (heap_grow_old _ _ (by exact hb)).trans h
set_option maxRecDepth 100000 in
set_option maxHeartbeats 4000000 in
theorem cmpF_any (x y : FxS) (w : World) : Calls Tryz.prog 32 #[.agg (encF x).toArray, .agg (encF y).toArray] w fun e w' => e = .returned (.int .i64 (cfF x y)) ∧ ∃ q os', w' = grow (w.drewN q) os' := by
  have r1 := fun W => fixRefG_any x W
  have r2 := fun W => fixRefG_any y W
  have hc : ∀ W, Calls Tryz.prog 33 #[.string (sb (rfS x)), .string (sb (rfS y))] W fun e w' => e = .returned (.int .i64 (cfF x y)) ∧ ∃ q os', w' = grow (W.drewN q) os' := fun W =>
    (cmpStr_any (sb (rfS x)) (sb (rfS y)) W).mono fun e w' ⟨h1, h2⟩ => ⟨h1, 0, #[], by rw [h2, grow_empty]; rfl⟩
  obtain ⟨f, hf⟩ := x
  obtain ⟨g, hg⟩ := y
  obtain ⟨c, hcc⟩ : ∃ c, cfF ⟨f, hf⟩ ⟨g, hg⟩ = c := ⟨_, rfl⟩
  obtain ⟨rx, hrx⟩ : ∃ c, rfS ⟨f, hf⟩ = c := ⟨_, rfl⟩
  obtain ⟨ry, hry⟩ : ∃ c, rfS ⟨g, hg⟩ = c := ⟨_, rfl⟩
  rw [hrx] at r1 hc
  rw [hry] at r2 hc
  rw [hcc] at hc ⊢
  clear hcc hrx hry
  change ∀ W, Calls Tryz.prog 20 #[.agg #[.string (sb f.id), .string (sb f.rg), .int .u8 (f.kd : Int), .int .i64 f.lat, .int .i64 f.lon, .int .i64 f.el, .int .i64 f.ra]] W _ at r1
  change ∀ W, Calls Tryz.prog 20 #[.agg #[.string (sb g.id), .string (sb g.rg), .int .u8 (g.kd : Int), .int .i64 g.lat, .int .i64 g.lon, .int .i64 g.el, .int .i64 g.ra]] W _ at r2
  show Calls Tryz.prog 32 #[.agg #[.string (sb f.id), .string (sb f.rg), .int .u8 (f.kd : Int), .int .i64 f.lat, .int .i64 f.lon, .int .i64 f.el, .int .i64 f.ra], .agg #[.string (sb g.id), .string (sb g.rg), .int .u8 (g.kd : Int), .int .i64 g.lat, .int .i64 g.lon, .int .i64 g.el, .int .i64 g.ra]] w fun e w' => e = .returned (.int .i64 c) ∧ ∃ q os', w' = grow (w.drewN q) os'
  obtain ⟨W2, hW2⟩ : ∃ W2, (w.alloc (.cells #[.string (sb f.id), .string (sb f.rg), .int .u8 (f.kd : Int), .int .i64 f.lat, .int .i64 f.lon, .int .i64 f.el, .int .i64 f.ra] 31)).alloc (.cells #[.string (sb g.id), .string (sb g.rg), .int .u8 (g.kd : Int), .int .i64 g.lat, .int .i64 g.lon, .int .i64 g.el, .int .i64 g.ra] 31) = W2 := ⟨_, rfl⟩
  have X1 : FxBox W2 w.heap.size f := by
    rw [← hW2]; exact (((Below.refl _ _).alloc (Nat.le_refl _) _).block w.heap.size (by simp)).trans (heap_alloc_new w _)
  have X2 : FxBox W2 (w.heap.size + 1) g := by
    have := heap_alloc_new (w.alloc (.cells #[.string (sb f.id), .string (sb f.rg), .int .u8 (f.kd : Int), .int .i64 f.lat, .int .i64 f.lon, .int .i64 f.el, .int .i64 f.ra] 31)) (.cells #[.string (sb g.id), .string (sb g.rg), .int .u8 (g.kd : Int), .int .i64 g.lat, .int .i64 g.lon, .int .i64 g.el, .int .i64 g.ra] 31)
    rw [World.size_alloc, hW2] at this
    exact this
  have HW : Hid (∀ n os, ∃ q os', grow (W2.drewN n) os = grow (w.drewN q) os') := fun n os => ⟨n, _, by rw [← hW2, alloc_eq_grow, alloc_eq_grow, grow_grow]; show grow (grow (w.drewN n) _) os = _; rw [grow_grow]⟩
  have c0 := fun n os => (fxBox_cells X1 (lt_heap X1) n os).cells.c0
  have c1 := fun n os => (fxBox_cells X1 (lt_heap X1) n os).cells.c1
  have c2 := fun n os => (fxBox_cells X1 (lt_heap X1) n os).cells.c2
  have c3 := fun n os => (fxBox_cells X1 (lt_heap X1) n os).cells.c3
  have c4 := fun n os => (fxBox_cells X1 (lt_heap X1) n os).cells.c4
  have c5 := fun n os => (fxBox_cells X1 (lt_heap X1) n os).cells.c5
  have c6 := fun n os => (fxBox_cells X1 (lt_heap X1) n os).cells.c6
  have d0 := fun n os => (fxBox_cells X2 (lt_heap X2) n os).cells.c0
  have d1 := fun n os => (fxBox_cells X2 (lt_heap X2) n os).cells.c1
  have d2 := fun n os => (fxBox_cells X2 (lt_heap X2) n os).cells.c2
  have d3 := fun n os => (fxBox_cells X2 (lt_heap X2) n os).cells.c3
  have d4 := fun n os => (fxBox_cells X2 (lt_heap X2) n os).cells.c4
  have d5 := fun n os => (fxBox_cells X2 (lt_heap X2) n os).cells.c5
  have d6 := fun n os => (fxBox_cells X2 (lt_heap X2) n os).cells.c6
  have mixed := mixedS
  go_enter Tryz.func32, Tryz.ntmps32
  go_wp2_with fail
  try rw [hW2]
  clear X1 X2 hW2
  go_quiet_grown (first | (go_at_call 20; first | refine Calls.grown_of (r1 _) | refine Calls.grown_of (r2 _)) | (go_at_call 33; refine Calls.grown_of (hc _)))
  go_wp2
  go_ret
  exact ⟨rfl, HW.out nq osq⟩

/-! ### a copy of a list of fixes -/
set_option maxRecDepth 100000 in
set_option maxHeartbeats 1000000 in
theorem cloneF_any (v : Value) (l : List Fx) (w : World) (h : FxsR w v l) (hN : l.length ≤ 1000) :
    Calls Tryz.prog 30 #[v] w (FewPost l w) := by
  obtain ⟨i0, hi, hz0, hz1, hz2⟩ := info_parts infoFix
  obtain ⟨hlen, A, c, rfl, hc, hm, hr⟩ := h
  unfold maxLen at hm
  have HL := Lib.hid hlen
  have HR := Lib.hid hr
  have hnil : ∀ W, (binOp .eql 22 (.slice A l.length c) (.slice none 0 0)).run Tryz.prog W = .ok (.bool A.isNone) W := fun W => Lib.run_eql_slice_nil W _ _ _ _ _ _ _ Tryz.underlying22
  obtain ⟨n, hn⟩ : ∃ n, l.length = n := ⟨_, rfl⟩
  have HN := Lib.hid hn
  rw [hn] at hc hN hnil ⊢
  have HEMP := Lib.hid (World.ownsRow_lit (base := w.heap.size) (e := 31) (size := 7) w #[] 0 (Nat.le_refl _) (by unfold maxLen; omega) rfl)
  clear hlen hr hn
  rcases Nat.eq_zero_or_pos n with h0 | h0
  · have HT0 : Hid (l = []) := List.eq_nil_of_length_eq_zero (HN.out.trans h0)
    subst h0
    cases A
    · go_enter Tryz.func30, Tryz.ntmps30
      go_wp2
      go_ret
      refine ⟨_, rfl, ?_, Below.refl _ _⟩
      rw [HT0.out]
      exact World.ownsRow_nil _ _ _ _
    · go_enter Tryz.func30, Tryz.ntmps30
      go_wp2
      go_ret
      refine ⟨_, rfl, ?_, (Below.refl _ _).alloc (Nat.le_refl _) _⟩
      rw [HT0.out]
      exact HEMP.out
  · obtain ⟨g, o, rfl, hg, hx⟩ := HR.out (by rw [HN.out]; omega)
    have HX : Hid (∀ j u, (fxcells l)[j]? = some u → (w.alloc (.cells #[] 31)).cell? ((⟨g, o, none⟩ : Addr).add j) = some u) := by
      intro j u hu
      have h2 := (((Below.refl _ w).alloc (Nat.le_refl _) (.cells #[] 31)).cell (p := ⟨g, o + j, none⟩) hg).trans (hx j u hu)
      simp only [Addr.add]
      split
      · rename_i hj0
        rw [hj0] at h2
        exact h2
      · exact h2
    have HC5 : Hid (∀ u ∈ fxcells l, u.oneCell' = true) := by
      intro u hu
      unfold fxcells at hu
      obtain ⟨p, _, hp⟩ := List.mem_flatMap.mp hu
      unfold fxc at hp
      simp at hp
      rcases hp with rfl | rfl | rfl | rfl | rfl | rfl | rfl <;> rfl
    have HL2 : Hid ((fxcells l).length = n * 7) := by unfold Hid; rw [fxcells_len, HN.out]
    clear hx
    go_enter Tryz.func30, Tryz.ntmps30
    go_wp2_with (at_builtin; (refine wpList_append_own _ rfl _ _ 22 rfl w.heap.size 31 i0 (.agg #[.string ⟨#[]⟩, .string ⟨#[]⟩, .int .u8 0, .int .i64 0, .int .i64 0, .int .i64 0, .int .i64 0]) 7 72 Tryz.underlying22 hi hz0 hz1 hz2 rfl (by decide) _ _ _ rfl HEMP.out ⟨g, o, none⟩ n c (fxcells l) rfl HL2.out HX.out HC5.out ?c3 ?c4 ?c5 ?_))
    case c3 => unfold maxLen; omega
    case c4 => omega
    intro v' w' hown' hgrow _
    have HB : Hid (Below w.heap.size w w') := (((Below.refl _ _).alloc (Nat.le_refl _) _).grown hgrow (by simp) (fun k hk => by cases hk; exact Nat.le_refl _))
    have HO : Hid (w'.ownsRow w.heap.size 31 7 v' l.length (fxcells l)) := by
      have := hown'
      unfold Hid
      rw [HN.out]
      simpa using this
    clear hown' hgrow
    go_wp2
    go_ret
    exact ⟨_, rfl, HO.out, HB.out⟩
/-- what a sort of fixes leaves -/
structure SortP (v' : Value) (D : List FxS) (w w' : World) : Prop where
  rd : FxsR w' v' (D.map (·.1))
  bl : Below w.heap.size w w'
  own : 0 < D.length → ∃ g c, v' = .slice (some ⟨g, 0, none⟩) D.length c ∧ w.heap.size ≤ g ∧ g < w'.heap.size ∧ HoldsK encF 7 w' g 0 D.toArray
theorem aggFix : ∀ w, (isAgg 31).run Tryz.prog w = .ok true w := fun w => by kernel_rfl
theorem sizeFix : ∀ w, (Go.sizeOf 31).run Tryz.prog w = .ok 7 w := fun w => by kernel_rfl
theorem SortP.of {v' : Value} {L D : List FxS} {w w1 w' : World} {g c : Nat} (hv : v' = .slice (some ⟨g, 0, none⟩) L.length c) (hb : Below w.heap.size w w1) (hg : w.heap.size ≤ g) (hg2 : g < w1.heap.size) (hc : L.length ≤ c) (hm : c ≤ maxLen)
    (hH : HoldsK encF 7 w1 g 0 L.toArray) (hst : Stb (ltOf cfF) L D) (S : SWK encF 7 w1 g 0 D.toArray w') : SortP v' D w w' := by
  have hl := hst.len
  have h2 := S.holds hg2 hH (by rw [List.size_toArray, List.size_toArray]; exact hl)
  refine ⟨?_, hb.trans (swk_below S hg hb.size), fun _ => ⟨g, c, by rw [hv, hl], hg, S.lt hg2, h2⟩⟩
  unfold FxsR
  rw [fxcells_map, List.length_map, hv, ← hl]
  exact rd_holdsK encF_len h2 (S.lt hg2) (by omega) hm
theorem swk_self {w : World} {g : Nat} {L : List FxS} (hH : HoldsK encF 7 w g 0 L.toArray) : SWK encF 7 w g 0 L.toArray w := SWK.start hH
set_option maxRecDepth 100000 in
set_option maxHeartbeats 1000000 in
theorem sortF_any (v : Value) (L : List FxS) (w : World) (h : FxsR w v (L.map (·.1))) (hN : L.length ≤ 1000) :
    Calls Tryz.prog 10 #[v] w fun e w' => ∃ v' D, e = .returned v' ∧ Stb (ltOf cfF) L D ∧ SortP v' D w w' := by
  have hc1 := cloneF_any v _ w h (by rw [List.length_map]; exact hN)
  have HLM : Hid ((L.map (·.1)).length = L.length) := List.length_map _
  clear h
  go_enter Tryz.func10, Tryz.ntmps10
  go_wp2_with fail
  refine hc1.mono ?_
  rintro e w1 ⟨v1, rfl, hown, hb1⟩
  have HB1 := Lib.hid hb1
  rw [fxcells_map, HLM.out] at hown
  have HO := Lib.hid hown
  clear hc1 hb1
  rcases Nat.eq_zero_or_pos L.length with h0 | h0
  · have HL0 : Hid (L = []) := List.eq_nil_of_length_eq_zero h0
    obtain ⟨A, c, rfl, _, _⟩ := (Rd.of_own hown : Rd w1 7 v1 L.length _).form
    rw [h0]
    clear hown h0
    go_wp2_with fail
    refine (stable0_fx A c _ _).mono ?_
    rintro e w2 ⟨rfl, rfl⟩
    go_wp2
    go_ret
    refine ⟨_, [], rfl, by rw [HL0.out]; exact Stb.nil _, ?_, HB1.out, fun h => absurd h (by simp)⟩
    have := Rd.of_own HO.out
    rw [HL0.out] at this
    exact this
  · obtain ⟨g, c, rfl, hc, hm, hg, hg2, hH⟩ := holdsK_own encF_len hown h0
    have HH := Lib.hid hH
    have HC := Lib.hid hc
    have HM := Lib.hid hm
    have HG := Lib.hid hg
    have HG2 := Lib.hid hg2
    clear hown h0 hc hm hg hg2 hH
    go_wp2_with fail
    refine (sortStable_fx 7 aggFix sizeFix encF cfF swoF 32 #[] (fun _ _ => rfl) g 0 c L.length L _ ⟨encF_len, encF_one, HH.out, HG2.out⟩ rfl (fun _ _ _ _ x y => cmpF_any x y _) (by omega)).mono ?_
    rintro e w2 ⟨rfl, D, hst, hsw⟩
    have HP : Hid (SortP (.slice (some ⟨g, 0, none⟩) L.length c) D w w2) := SortP.of rfl HB1.out HG.out HG2.out HC.out HM.out HH.out hst hsw
    have HST := Lib.hid hst
    clear hst hsw
    go_wp2
    go_ret
    exact ⟨_, D, rfl, HST.out, HP.out⟩
end Go.Proofs.YtinkdlmikhcpjaaGreatDoor
namespace Go.Proofs.YtinkdlmikhcpjaaGreatDoor
open Go.RowKit Go.Lib Go.Sort
set_option linter.unusedVariables false
set_option linter.unusedSimpArgs false
/-- a box's own store of a whole element -/
theorem box_store (x : FxS) (W : World) : Sem.run Tryz.prog (storeCells ⟨W.heap.size, 0, none⟩ (encF x) 0) (W.alloc (.cells #[.string ⟨#[]⟩, .string ⟨#[]⟩, .int .u8 0, .int .i64 0, .int .i64 0, .int .i64 0, .int .i64 0] 31)) = .ok () (W.alloc (.cells (encF x).toArray 31)) := by
  have e : encF x = [.string (sb x.1.id), .string (sb x.1.rg), .int .u8 (x.1.kd : Int), .int .i64 x.1.lat, .int .i64 x.1.lon, .int .i64 x.1.el, .int .i64 x.1.ra] := rfl
  rw [e]
  simp [storeCells, go_sem]
theorem box_cells (x : FxS) (W : World) (j : Nat) (u : Value) (hu : (encF x)[j]? = some u) : (W.alloc (.cells (encF x).toArray 31)).cell? ⟨W.heap.size, j, none⟩ = some u := by
  have h := heap_alloc_new W (.cells (encF x).toArray 31)
  have h1 : (encF x).toArray[j]? = some u := by simpa using hu
  simp only [World.cell?, h, Option.bind_some, Bind.bind]
  exact h1
theorem box_load (x : FxS) {W : World} {b : Nat} (h : ∀ j u, (encF x)[j]? = some u → W.cell? ⟨b, j, none⟩ = some u) : Sem.run Tryz.prog (loadCellsFrom ⟨b, 0, none⟩ 0 7 #[]) W = .ok (encF x).toArray W := by
  refine run_loadCellsFrom_list Tryz.prog _ _ _ 7 rfl ?_
  intro j u hu
  rw [Addr.add_lit, Nat.zero_add]
  exact h j u hu
set_option maxRecDepth 100000 in
set_option maxHeartbeats 4000000 in
theorem rsortF_any (v : Value) (L : List FxS) (w : World) (h : FxsR w v (L.map (·.1))) (hN : L.length ≤ 1000) :
    Calls Tryz.prog 12 #[v] w fun e w' => ∃ v' D, e = .returned v' ∧ Stb (ltOf cfF) L D ∧ SortP v' D w w' := by
  have mixed := mixedS
  obtain ⟨i0, hi, hz0, hz1, hz2⟩ := info_parts infoFix
  obtain ⟨hlen, A, c, rfl, hc, hm, hr⟩ := h
  unfold maxLen at hm
  have HL := Lib.hid hlen
  have HR := Lib.hid hr
  have HLM : Hid ((L.map (·.1)).length = L.length) := List.length_map _
  obtain ⟨n, hn⟩ : ∃ n, L.length = n := ⟨_, rfl⟩
  have HN := Lib.hid hn
  rw [List.length_map, hn] at hc ⊢
  rw [hn] at hN
  have HEMP := Lib.hid (World.ownsRow_lit (base := w.heap.size) (e := 31) (size := 7) w #[] 0 (Nat.le_refl _) (by unfold maxLen; omega) rfl)
  clear hlen hr hn
  rcases Nat.eq_zero_or_pos n with h0 | h0
  · have HT0 : Hid (L = []) := List.eq_nil_of_length_eq_zero (HN.out.trans h0)
    have HP : Hid (SortP (.slice (some ⟨w.heap.size, 0, none⟩) 0 0) [] w (w.alloc (.cells #[] 31))) := ⟨Rd.of_own HEMP.out, (Below.refl _ _).alloc (Nat.le_refl _) _, fun h => absurd h (by simp)⟩
    subst h0
    cases A
    all_goals
      go_enter Tryz.func12, Tryz.ntmps12
      go_wp2
      go_loopg [4] 0 (fun g i wr => i = .int .i64 1 ∧ Hid (w.alloc (.cells #[] 31) = wr))
      case atStart => exact ⟨rfl, Lib.hid rfl⟩
      case round =>
        obtain ⟨rfl, hw⟩ := hrel
        go_wp2
        go_ret
        exact ⟨_, [], rfl, by rw [HT0.out]; exact Stb.nil _, by rw [← hw.out]; exact HP.out⟩
  · obtain ⟨g, o, rfl, hg, hx⟩ := HR.out (by rw [HLM.out, HN.out]; omega)
    have HX : Hid (∀ j u, (L.flatMap encF)[j]? = some u → (w.alloc (.cells #[] 31)).cell? ((⟨g, o, none⟩ : Addr).add j) = some u) := by
      intro j u hu
      rw [← fxcells_map] at hu
      have h2 := (((Below.refl _ w).alloc (Nat.le_refl _) (.cells #[] 31)).cell (p := ⟨g, o + j, none⟩) hg).trans (hx j u hu)
      simp only [Addr.add]
      split
      · rename_i hj0
        rw [hj0] at h2
        exact h2
      · exact h2
    have HC5 : Hid (∀ u ∈ L.flatMap encF, u.oneCell' = true) := by
      intro u hu
      obtain ⟨p, _, hp⟩ := List.mem_flatMap.mp hu
      exact encF_one p u hp
    have HL2 : Hid ((L.flatMap encF).length = n * 7) := by unfold Hid; rw [← fxcells_map, fxcells_len, List.length_map, HN.out]
    clear hx
    go_enter Tryz.func12, Tryz.ntmps12
    go_wp2_with (at_builtin; (refine wpList_append_own _ rfl _ _ 22 rfl w.heap.size 31 i0 (.agg #[.string ⟨#[]⟩, .string ⟨#[]⟩, .int .u8 0, .int .i64 0, .int .i64 0, .int .i64 0, .int .i64 0]) 7 72 Tryz.underlying22 hi hz0 hz1 hz2 rfl (by decide) _ _ _ rfl HEMP.out ⟨g, o, none⟩ n c (L.flatMap encF) rfl HL2.out HX.out HC5.out ?c3 ?c4 ?c5 ?_))
    case c3 => unfold maxLen; omega
    case c4 => omega
    intro v' w1 hown' hgrow _
    have HB1 : Hid (Below w.heap.size w w1) := (((Below.refl _ _).alloc (Nat.le_refl _) _).grown hgrow (by simp) (fun k hk => by cases hk; exact Nat.le_refl _))
    have hown : w1.ownsRow w.heap.size 31 7 v' L.length (L.flatMap encF) := by
      have := hown'
      rw [HN.out]
      simpa using this
    obtain ⟨blk, cap, rfl, hcap, hmax, hge, hlt, hH⟩ := holdsK_own encF_len hown (by rw [HN.out]; exact h0)
    rw [HN.out] at hcap ⊢
    clear hown hown' hgrow HX HC5 HL2 HEMP HR HL hg hi hz0 hz1 hz2 i0
    obtain ⟨k, HK, aE, zE⟩ : ∃ k, Hid (k = 7) ∧ (∀ w, (isAgg 31).run Tryz.prog w = .ok true w) ∧ ∀ w, (Go.sizeOf 31).run Tryz.prog w = .ok k w := ⟨7, rfl, aggFix, sizeFix⟩
    obtain ⟨off, HOFF⟩ : ∃ off, Hid (0 = off) := ⟨0, rfl⟩
    have bst := box_store
    have HBL : Hid (∀ (x : FxS) {W : World} {b : Nat} (h : ∀ j u, (encF x)[j]? = some u → W.cell? ⟨b, j, none⟩ = some u), Sem.run Tryz.prog (loadCellsFrom ⟨b, 0, none⟩ 0 k #[]) W = .ok (encF x).toArray W) := by
      unfold Hid; rw [HK.out]; exact box_load
    have R : RowK encF k w1 blk off L.toArray := by rw [HK.out, ← HOFF.out]; exact ⟨encF_len, encF_one, hH, hlt⟩
    have S0 : Aside (SWK encF k w1 blk off L.toArray w1) := by rw [HK.out, ← HOFF.out]; exact SWK.start hH
    have HEND : Hid (∀ D w2, Stb (ltOf cfF) L D → SWK encF k w1 blk off D.toArray w2 → SortP (.slice (some ⟨blk, off, none⟩) n cap) D w w2) := by
      intro D w2 h1 h2
      rw [HK.out, ← HOFF.out] at h2
      rw [← HOFF.out, ← HN.out]
      exact SortP.of rfl HB1.out hge hlt (by rw [HN.out]; exact hcap) hmax hH h1 h2
    have HV : Hid ((.slice (some ⟨blk, 0, none⟩) n cap : Value) = .slice (some ⟨blk, off, none⟩) n cap) := congrArg (fun o => Value.slice (some ⟨blk, o, none⟩) n cap) HOFF.out
    rw [HV.out]
    have HSW : Hid (Swo (ltOf cfF)) := swoF
    have hLN : L.toArray.size = n := by rw [List.size_toArray]; exact HN.out
    have RA : Aside (RowK encF k w1 blk off L.toArray) := R
    have hcm : n ≤ cap := hcap
    clear HV hH hge hlt hcap hmax R
    go_wp2
    go_loopg [4] (n + 1) (fun g1 vi wr => ∃ (i : Nat) (dk : Array FxS), vi = .int .i64 i ∧ 0 < i ∧ i ≤ n + 1 ∧ n + 1 - i ≤ g1 + 1 ∧ dk.size = n ∧ Aside (SWK encF k w1 blk off dk wr) ∧
      Hid (∃ P1 P2 Pd, L = P1 ++ P2 ∧ Stb (ltOf cfF) P1 Pd ∧ P1.length = min i L.length ∧ dk = (Pd ++ P2).toArray))
    case atStart =>
      obtain ⟨P1, P2, Pd, h1, h2, h3, h4⟩ := ins_start (lt := ltOf cfF) (A := []) (P := L) (B := [])
      exact ⟨1, _, by go_num, by omega, by omega, by omega, hLN, S0, ⟨P1, P2, Pd, h1, h2, h3, by simpa using h4⟩⟩
    case round =>
      clear S0
      obtain ⟨i, dk, rfl, hai, hib, hg1, hdk, S1, HI⟩ := hrel
      by_cases hlt : i < n
      · have hltz : (i : Int) < (n : Int) := by omega
        obtain ⟨P1, P2, Pd, hP, hst, hl1, hdk2⟩ := HI.out
        obtain ⟨x, P3, hP2⟩ : ∃ x P3, P2 = x :: P3 := by
          cases P2 with
          | nil => exfalso; have := HN.out; rw [hP, List.append_nil] at this hl1; omega
          | cons x r => exact ⟨x, r, rfl⟩
        subst hP2
        have hPdl : P1.length = i := by have := HN.out; omega
        have HP : Hid (L = P1 ++ x :: P3 ∧ Stb (ltOf cfF) P1 Pd ∧ P1.length = i ∧ dk = (Pd ++ x :: P3).toArray) := ⟨hP, hst, hPdl, hdk2⟩
        clear hP hst hl1 hdk2 HI hPdl
        go_wp2
        go_loopg [5] i (fun g2 vj wr2 => ∃ (j : Nat) (dj : Array FxS) (Q1 Q2 : List FxS), vj = .int .i64 j ∧ j ≤ i ∧ j ≤ g2 ∧ dj.size = n ∧ Aside (SWK encF k w1 blk off dj wr2) ∧
          Hid (Pd = Q1 ++ Q2 ∧ Q1.length = j ∧ dj = (Q1 ++ x :: (Q2 ++ P3)).toArray ∧ ∀ q ∈ Q2, ltOf cfF x q = true))
        case atStart =>
          refine ⟨i, dk, Pd, [], rfl, Nat.le_refl _, Nat.le_refl _, hdk, S1, ⟨by simp, ?_, ?_, by simp⟩⟩
          · rw [HP.out.2.1.len]; exact HP.out.2.2.1
          · rw [HP.out.2.2.2]; simp
        case round =>
          clear S1
          obtain ⟨j, dj, Q1, Q2, rfl, hji, hg2, hdj, S2, HJ⟩ := hrel
          have hout : Hid ((Q1 = [] ∨ ∃ Q z, Q1 = Q ++ [z] ∧ ltOf cfF x z = false) → ∃ P1 P2 Pd, L = P1 ++ P2 ∧ Stb (ltOf cfF) P1 Pd ∧ P1.length = min (i + 1) L.length ∧ dj = (Pd ++ P2).toArray) := by
            intro h
            obtain ⟨e1, e2, e3, e4⟩ := HJ.out
            obtain ⟨f1, f2, f3, f4⟩ := HP.out
            obtain ⟨k1, k2⟩ := ins_out HSW.out f1 f2 e1 e4 h
            refine ⟨_, _, _, k1, k2, ?_, by rw [e3]; simp⟩
            have := HN.out
            rw [List.length_append, f3, List.length_singleton]
            omega
          by_cases hja : 0 < j
          · have hjaz : (0 : Int) < (j : Int) := by omega
            obtain ⟨jp, rfl⟩ : ∃ jp, j = jp + 1 := ⟨j - 1, by omega⟩
            obtain ⟨Q, z, hQz⟩ : ∃ Q z, Q1 = Q ++ [z] := by
              have h1 : Q1 ≠ [] := by intro e; have := HJ.out.2.1; rw [e] at this; simp at this
              exact ⟨Q1.dropLast, Q1.getLast h1, (List.dropLast_concat_getLast h1).symm⟩
            subst hQz
            have hQl : Q.length = jp := by have h1 := HJ.out.2.1; rw [List.length_append, List.length_singleton] at h1; omega
            have hx : dj[jp + 1]! = x := by
              rw [HJ.out.2.2.1]; exact get_mid (by rw [List.length_append, hQl]; rfl)
            have hz : dj[jp]! = z := by
              have := get_mid (A := Q) (x := z) (B := x :: (Q2 ++ P3)) (i := jp) hQl.symm
              have e : (Q ++ [z]) ++ x :: (Q2 ++ P3) = Q ++ z :: (x :: (Q2 ++ P3)) := by simp
              rw [HJ.out.2.2.1, e]; exact this
            have hsp : Hid (swp dj (jp + 1) jp = (Q ++ x :: (z :: Q2 ++ P3)).toArray) := by
              have := swp_mid' (A := Q) (M := []) (x := z) (y := x) (B := Q2 ++ P3) (i := jp + 1) (j := jp) (by rw [hQl]; simp) (by omega)
              unfold Hid
              rw [HJ.out.2.2.1]
              simpa using this
            clear hQl
            have hwp : IntKind.i64.wrap (jp : Int) = (jp : Int) := by rw [IntKind.wrap_i64]; omega
            have jz : (jp : Int) + 1 < (n : Int) := by omega
            have jz1 : (jp : Int) < (n : Int) := by omega
            have hjaz' : (0 : Int) < (jp : Int) + 1 := by omega
            have p0 : (0 : Int) ≤ (jp : Int) + 1 := by omega
            have e0 : ((jp : Int) + 1).toNat = jp + 1 := by omega
            have hjN : jp + 1 < dj.size := by omega
            have R := RA.out
            have lj := S2.out.ld R (by omega) Tryz.prog (jp + 1) (by omega)
            have lp := S2.out.ld R (by omega) Tryz.prog jp (by omega)
            rw [hx] at lj
            rw [hz] at lp
            have HX : Hid (dj[jp + 1]! = x ∧ dj[jp]! = z) := ⟨hx, hz⟩
            have r1 := fun W => rfixRefG_any x W
            have r2 := fun W => rfixRefG_any z W
            obtain ⟨rx, hrx⟩ : ∃ r, rfS x = r := ⟨_, rfl⟩
            obtain ⟨rz, hrz⟩ : ∃ r, rfS z = r := ⟨_, rfl⟩
            have HLT : Hid (ltOf cfF x z = decide (rx < rz)) := by unfold Hid; rw [ltOfF, hrx, hrz]
            have hbl := bytesLess_bl (sb rz) (sb rx)
            have hbq := str_eqB (t := sb rz) (r := sb rx)
            rw [bl_sb, bl_sb] at hbl hbq
            rw [hrx] at r1
            rw [hrz] at r2
            clear hx hz hrx hrz R
            by_cases hlv : rx < rz
            · have hd : decide (rz < rx) = false := decide_eq_false (blt_asymm hlv)
              have hd2 : decide (rz = rx) = false := decide_eq_false (fun e => by rw [e] at hlv; exact blt_asymm hlv hlv)
              rw [hd] at hbl
              rw [hd2] at hbq
              go_wp2_with fail
              go_quiet_grown (first | (go_at_call 34; first | refine Calls.grown_of (r1 _) | refine Calls.grown_of (r2 _)))
              have S3 : Aside (SWK encF k w1 blk off dj (grow (wr.drewN nq) osq)) := S2.out.grown nq osq
              clear lj lp S2
              generalize grow (wr.drewN nq) osq = wq at S3 ⊢
              have l1 := S3.out.load RA.out (by omega) Tryz.prog (jp + 1) (by omega)
              rw [HX.out.1] at l1
              have S4 : Aside (SWK encF k w1 blk off dj (wq.alloc (.cells (encF x).toArray 31))) := S3.out.alloc _
              have bs := bst x wq
              have nx : (encF x).length = k := RA.out.hk _
              have nz : (encF z).length = k := RA.out.hk _
              have hbk : blk < wq.heap.size := S3.out.lt RA.out.hblk
              have l2 := S4.out.load RA.out (by omega) Tryz.prog jp (by omega)
              rw [HX.out.2] at l2
              have h4 := S4.out.holds RA.out.hblk RA.out.hH (by omega)
              have s1 : Sem.run Tryz.prog (storeCells ⟨blk, off + (jp + 1) * k, none⟩ (encF z) 0) (wq.alloc (.cells (encF x).toArray 31)) = .ok () ((wq.alloc (.cells (encF x).toArray 31)).setCells blk (off + (jp + 1) * k) (encF z)) :=
                stores_of_holds _ h4 _ _ (by rw [nz, size_flatK]; exact rowK_bnd dj k (jp + 1) (by omega)) (RA.out.h1 _)
              have s2 : Sem.run Tryz.prog (storeCells ⟨blk, off + jp * k, none⟩ (encF x) 0) ((wq.alloc (.cells (encF x).toArray 31)).setCells blk (off + (jp + 1) * k) (encF z)) = .ok () (((wq.alloc (.cells (encF x).toArray 31)).setCells blk (off + (jp + 1) * k) (encF z)).setCells blk (off + jp * k) (encF x)) :=
                stores_of_holds _ (holds_setCells_c h4 _ _ (by rw [nz, size_flatK]; exact rowK_bnd dj k (jp + 1) (by omega))) _ _ (by rw [nx, size_setMany, size_flatK]; exact rowK_bnd dj k jp (by omega)) (RA.out.h1 _)
              have lb := HBL.out x (W := (wq.alloc (.cells (encF x).toArray 31)).setCells blk (off + (jp + 1) * k) (encF z)) (b := wq.heap.size) (fun j u hu => (World.cell?_setCells_out blk _ _ _ _ (fun e _ => by simp only at e; omega)).trans (box_cells x wq j u hu))
              have S5 : Aside (SWK encF k w1 blk off (swp dj (jp + 1) jp) (((wq.alloc (.cells (encF x).toArray 31)).setCells blk (off + (jp + 1) * k) (encF z)).setCells blk (off + jp * k) (encF x))) := by
                have := S4.out.swap RA.out.hk RA.out.hblk (jp + 1) jp (by omega) (by omega)
                rw [HX.out.1, HX.out.2] at this
                exact this
              clear S3 S4 h4
              go_wp2_with (first | fail)
              clear l1 bs l2 s1 s2 lb
              generalize ((wq.alloc (.cells (encF x).toArray 31)).setCells blk (off + (jp + 1) * k) (encF z)).setCells blk (off + jp * k) (encF x) = w2 at S5 ⊢
              go_roundg jp
              case measure => omega
              case rel =>
                obtain ⟨e1, e2, e3, e4⟩ := HJ.out
                refine ⟨jp, _, Q, z :: Q2, by first | rfl | go_num, by omega, Nat.le_refl _, by rw [size_swp]; exact hdj, S5, ⟨by rw [e1]; simp, ?_, hsp.out, ?_⟩⟩
                · rw [List.length_append, List.length_singleton] at e2; omega
                · intro q hq
                  rcases List.mem_cons.1 hq with rfl | hq
                  · rw [HLT.out]; exact decide_eq_true hlv
                  · exact e4 q hq
            · have HE : Hid (∃ P1 P2 Pd, L = P1 ++ P2 ∧ Stb (ltOf cfF) P1 Pd ∧ P1.length = min (i + 1) L.length ∧ dj = (Pd ++ P2).toArray) := hout.out (.inr ⟨Q, z, rfl, by rw [HLT.out]; exact decide_eq_false hlv⟩)
              clear hout HJ HLT
              by_cases hlw : rz < rx
              · have hd : decide (rz < rx) = true := decide_eq_true hlw
                rw [hd] at hbl
                go_wp2_with fail
                go_quiet_grown (first | (go_at_call 34; first | refine Calls.grown_of (r1 _) | refine Calls.grown_of (r2 _)))
                have S3 : Aside (SWK encF k w1 blk off dj (grow (wr.drewN nq) osq)) := S2.out.grown nq osq
                clear lj lp S2
                generalize grow (wr.drewN nq) osq = wq at S3 ⊢
                go_wp2
                go_roundg (n - (i + 1))
                case measure => omega
                case rel => exact ⟨i + 1, dj, by go_num, by omega, by omega, by omega, hdj, S3, HE⟩
              · have hd : decide (rz = rx) = true := decide_eq_true (blt_eq hlw hlv)
                rw [hd] at hbq
                go_wp2_with fail
                go_quiet_grown (first | (go_at_call 34; first | refine Calls.grown_of (r1 _) | refine Calls.grown_of (r2 _)))
                have S3 : Aside (SWK encF k w1 blk off dj (grow (wr.drewN nq) osq)) := S2.out.grown nq osq
                clear lj lp S2
                generalize grow (wr.drewN nq) osq = wq at S3 ⊢
                go_wp2
                go_roundg (n - (i + 1))
                case measure => omega
                case rel => exact ⟨i + 1, dj, by go_num, by omega, by omega, by omega, hdj, S3, HE⟩
          · have hj0 : j = 0 := by omega
            subst hj0
            have S3 : Aside (SWK encF k w1 blk off dj wr.drew) := S2.out.drew
            have HE : Hid (∃ P1 P2 Pd, L = P1 ++ P2 ∧ Stb (ltOf cfF) P1 Pd ∧ P1.length = min (i + 1) L.length ∧ dj = (Pd ++ P2).toArray) := hout.out (.inl (List.eq_nil_of_length_eq_zero HJ.out.2.1))
            clear S2 hout HJ
            go_wp2_with fail
            go_big_region_o
            all_goals generalize wr.drew = wq at S3 ⊢
            all_goals go_wp2
            go_roundg (n - (i + 1))
            case measure => omega
            case rel => exact ⟨i + 1, dj, by go_num, by omega, by omega, by omega, hdj, S3, HE⟩
      · have hltz : ¬ (i : Int) < (n : Int) := by omega
        have HF : Hid (∃ D, Stb (ltOf cfF) L D ∧ dk = D.toArray) := by
          obtain ⟨P1, P2, Pd, hP, hst, hl1, hdk2⟩ := HI.out
          have h0 : P2 = [] := List.eq_nil_of_length_eq_zero (by have h1 := HN.out; rw [hP, List.length_append] at h1 hl1; omega)
          subst h0
          rw [List.append_nil] at hP hdk2
          exact ⟨Pd, by rw [hP]; exact hst, hdk2⟩
        clear HI
        go_wp2
        go_ret
        obtain ⟨D, hst, hdk2⟩ := HF.out
        have hs : SWK encF k w1 blk off D.toArray wr := by rw [← hdk2]; exact S1.out
        first
          | exact ⟨_, D, rfl, hst, HEND.out D _ hst hs⟩
          | exact ⟨_, rfl, D, hst, HEND.out D _ hst hs⟩
end Go.Proofs.YtinkdlmikhcpjaaGreatDoor
