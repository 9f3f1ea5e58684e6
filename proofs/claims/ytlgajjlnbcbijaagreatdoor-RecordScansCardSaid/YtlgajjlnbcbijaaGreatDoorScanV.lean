/-
  Contracts: what a scanner takes as a value: an altitude, a distance, a number, a position, a window; and its end. Both sides.
-/
import Derived.Test.YtlgajjlnbcbijaaGreatDoorScanM
namespace Go.Proofs.YtlgajjlnbcbijaaGreatDoor
open Go.RowKit
set_option linter.unusedVariables false
set_option linter.unusedSimpArgs false

def IntPost (V E : List UInt8 → Int) (s : Sc) (g : Nat) (w : World) (e : Ending) (w' : World) : Prop := e = .returned (.int .i64 (s.tv 0 V)) ∧ ScPost (s.tk E) g w w'
def RIntPost (V E : List UInt8 → Int) (s : Sc) (g : Nat) (w : World) (e : Ending) (w' : World) : Prop := e = .returned (.int .i64 (s.tv 0 V)) ∧ ScQPost (s.tk E) g w w'
theorem text_size {s : Sc} (h : s.text.length ≤ 140737488351232) : (sb s.text).size ≤ 140737488351232 := h
set_option maxRecDepth 100000 in
set_option maxHeartbeats 1000000 in
theorem takenAlt_any (s : Sc) (g : Nat) (w : World) (E : Env w) (hts : s.text.length ≤ 140737488351232) (hg0 : 8 ≤ g) (h : ScP w g s) :
    Calls Tryz.prog 108 #[.pointer (some ⟨g, 0, none⟩), .func (.func 113) #[] #[]] w (IntPost (fun t => pAltN (altSpec t)) (fun t => pAltE (altSpec t)) s g w) := by
  have H := Lib.hid h
  have HFIN : Hid (∀ (x : Int) w', s.tv 0 (fun t => pAltN (altSpec t)) = x → ScPost (s.tk (fun t => pAltE (altSpec t))) g w w' → IntPost (fun t => pAltN (altSpec t)) (fun t => pAltE (altSpec t)) s g w (.returned (.int .i64 x)) w') := by
    intro x w' h1 h2; unfold IntPost; rw [h1]; exact ⟨rfl, h2⟩
  clear h
  cases hg : s.got
  · have HG := Lib.hid hg
    have HF1 := Lib.hid (Sc.tv_no hg (0 : Int) (fun t => pAltN (altSpec t)))
    have HF2 := Lib.hid (Sc.tk_no hg (fun t => pAltE (altSpec t)))
    clear hg
    go_enter Tryz.func108, Tryz.ntmps108
    go_wp2_with fail
    refine (take_any s g _ H.out).mono ?_
    rintro e w1 ⟨rfl, hp⟩
    rw [HG.out]
    have HP := Lib.hid hp
    clear hp
    go_wp2
    go_ret
    exact HFIN.out _ _ HF1.out (by rw [HF2.out]; exact HP.out)
  · have HG := Lib.hid hg
    have HF1 := Lib.hid (Sc.tv_got hg (0 : Int) (fun t => pAltN (altSpec t)))
    have HF2 := Lib.hid (Sc.tk_got hg (fun t => pAltE (altSpec t)))
    obtain ⟨t, ht⟩ : ∃ t, s.text = t := ⟨_, rfl⟩
    have hsz := text_size hts
    rw [ht] at HF1 HF2 hsz
    have HT := Lib.hid ht
    have HSZ := Lib.hid hsz
    clear hg ht hts hsz
    go_enter Tryz.func108, Tryz.ntmps108
    go_wp2_with fail
    refine (take_any s g _ H.out).mono ?_
    rintro e w1 ⟨rfl, hp⟩
    rw [HG.out, HT.out]
    have HP := Lib.hid hp
    have E1 : Env w1 := E.of_below (hp.2.below (Below.refl 8 w) hg0 E.size) (Nat.le_refl _)
    clear hp
    go_wp2_with fail
    refine (parseAlt_any (sb t) _ E1 HSZ.out).mono ?_
    rintro e w2 ⟨rfl, hb2⟩
    rw [bl_sb]
    have HP2 := Lib.hid (HP.out.then_ hb2)
    have c3 := HP2.out.1.c3
    clear hb2
    obtain ⟨x, hx⟩ : ∃ x, (fun t => pAltN (altSpec t)) t = x := ⟨_, rfl⟩
    obtain ⟨er, her⟩ : ∃ x, (fun t => pAltE (altSpec t)) t = x := ⟨_, rfl⟩
    have hz : er ≠ 0 → x = 0 := by rw [← her, ← hx]; exact pAlt_zero
    simp only [] at hx her
    rw [hx] at HF1
    rw [her] at HF2
    rw [hx, her]
    clear hx her
    by_cases h0 : er = 0
    · have e1 : (er != 0) = false := bne_eq_false_iff_eq.2 h0
      have HE : Hid (s.tk (fun t => pAltE (altSpec t)) = s.take) := by unfold Hid; rw [HF2.out, h0, Sc.note_zero]
      clear h0 hz
      go_wp2
      go_ret
      exact HFIN.out _ _ HF1.out (by rw [HE.out]; exact HP2.out)
    · have e1 : (er != 0) = true := bne_iff_ne.2 h0
      have HX := Lib.hid (hz h0)
      clear h0 hz
      go_wp2_with fail
      refine (note_any s.take s.take.la er g _ HP2.out.1).mono ?_
      rintro e w3 ⟨rfl, hp⟩
      have HP3 := Lib.hid (HP2.out.trans hp)
      clear hp
      go_wp2
      go_ret
      exact HFIN.out _ _ (by rw [HF1.out, HX.out]) (by rw [HF2.out]; exact HP3.out)
set_option maxRecDepth 100000 in
set_option maxHeartbeats 1000000 in
theorem takenDist_any (s : Sc) (g : Nat) (w : World) (E : Env w) (hts : s.text.length ≤ 140737488351232) (hg0 : 8 ≤ g) (h : ScP w g s) :
    Calls Tryz.prog 108 #[.pointer (some ⟨g, 0, none⟩), .func (.func 115) #[] #[]] w (IntPost (fun t => distN (distSpec t)) (fun t => distE (distSpec t)) s g w) := by
  have H := Lib.hid h
  have HFIN : Hid (∀ (x : Int) w', s.tv 0 (fun t => distN (distSpec t)) = x → ScPost (s.tk (fun t => distE (distSpec t))) g w w' → IntPost (fun t => distN (distSpec t)) (fun t => distE (distSpec t)) s g w (.returned (.int .i64 x)) w') := by
    intro x w' h1 h2; unfold IntPost; rw [h1]; exact ⟨rfl, h2⟩
  clear h
  cases hg : s.got
  · have HG := Lib.hid hg
    have HF1 := Lib.hid (Sc.tv_no hg (0 : Int) (fun t => distN (distSpec t)))
    have HF2 := Lib.hid (Sc.tk_no hg (fun t => distE (distSpec t)))
    clear hg
    go_enter Tryz.func108, Tryz.ntmps108
    go_wp2_with fail
    refine (take_any s g _ H.out).mono ?_
    rintro e w1 ⟨rfl, hp⟩
    rw [HG.out]
    have HP := Lib.hid hp
    clear hp
    go_wp2
    go_ret
    exact HFIN.out _ _ HF1.out (by rw [HF2.out]; exact HP.out)
  · have HG := Lib.hid hg
    have HF1 := Lib.hid (Sc.tv_got hg (0 : Int) (fun t => distN (distSpec t)))
    have HF2 := Lib.hid (Sc.tk_got hg (fun t => distE (distSpec t)))
    obtain ⟨t, ht⟩ : ∃ t, s.text = t := ⟨_, rfl⟩
    have hsz := text_size hts
    rw [ht] at HF1 HF2 hsz
    have HT := Lib.hid ht
    have HSZ := Lib.hid hsz
    clear hg ht hts hsz
    go_enter Tryz.func108, Tryz.ntmps108
    go_wp2_with fail
    refine (take_any s g _ H.out).mono ?_
    rintro e w1 ⟨rfl, hp⟩
    rw [HG.out, HT.out]
    have HP := Lib.hid hp
    have E1 : Env w1 := E.of_below (hp.2.below (Below.refl 8 w) hg0 E.size) (Nat.le_refl _)
    clear hp
    go_wp2_with fail
    refine (parseDist_any (sb t) _ E1 HSZ.out).mono ?_
    rintro e w2 ⟨rfl, hb2⟩
    rw [bl_sb]
    have HP2 := Lib.hid (HP.out.then_ hb2)
    have c3 := HP2.out.1.c3
    clear hb2
    obtain ⟨x, hx⟩ : ∃ x, (fun t => distN (distSpec t)) t = x := ⟨_, rfl⟩
    obtain ⟨er, her⟩ : ∃ x, (fun t => distE (distSpec t)) t = x := ⟨_, rfl⟩
    have hz : er ≠ 0 → x = 0 := by rw [← her, ← hx]; exact distN_zero
    simp only [] at hx her
    rw [hx] at HF1
    rw [her] at HF2
    rw [hx, her]
    clear hx her
    by_cases h0 : er = 0
    · have e1 : (er != 0) = false := bne_eq_false_iff_eq.2 h0
      have HE : Hid (s.tk (fun t => distE (distSpec t)) = s.take) := by unfold Hid; rw [HF2.out, h0, Sc.note_zero]
      clear h0 hz
      go_wp2
      go_ret
      exact HFIN.out _ _ HF1.out (by rw [HE.out]; exact HP2.out)
    · have e1 : (er != 0) = true := bne_iff_ne.2 h0
      have HX := Lib.hid (hz h0)
      clear h0 hz
      go_wp2_with fail
      refine (note_any s.take s.take.la er g _ HP2.out.1).mono ?_
      rintro e w3 ⟨rfl, hp⟩
      have HP3 := Lib.hid (HP2.out.trans hp)
      clear hp
      go_wp2
      go_ret
      exact HFIN.out _ _ (by rw [HF1.out, HX.out]) (by rw [HF2.out]; exact HP3.out)
theorem altS_any (s : Sc) (g : Nat) (w : World) (E : Env w) (hts : s.text.length ≤ 140737488351232) (hg0 : 8 ≤ g) (h : ScP w g s) :
    Calls Tryz.prog 39 #[.pointer (some ⟨g, 0, none⟩)] w (IntPost (fun t => pAltN (altSpec t)) (fun t => pAltE (altSpec t)) s g w) := by
  have H := Lib.hid h
  clear h
  go_enter Tryz.func39, Tryz.ntmps39
  go_wp2_with fail
  refine (takenAlt_any s g _ E hts hg0 H.out).mono ?_
  rintro e w1 ⟨rfl, hp⟩
  have HP := Lib.hid hp
  clear hp
  go_wp2
  go_ret
  exact ⟨rfl, HP.out⟩
theorem distS_any (s : Sc) (g : Nat) (w : World) (E : Env w) (hts : s.text.length ≤ 140737488351232) (hg0 : 8 ≤ g) (h : ScP w g s) :
    Calls Tryz.prog 41 #[.pointer (some ⟨g, 0, none⟩)] w (IntPost (fun t => distN (distSpec t)) (fun t => distE (distSpec t)) s g w) := by
  have H := Lib.hid h
  clear h
  go_enter Tryz.func41, Tryz.ntmps41
  go_wp2_with fail
  refine (takenDist_any s g _ E hts hg0 H.out).mono ?_
  rintro e w1 ⟨rfl, hp⟩
  have HP := Lib.hid hp
  clear hp
  go_wp2
  go_ret
  exact ⟨rfl, HP.out⟩
set_option maxRecDepth 100000 in
set_option maxHeartbeats 1000000 in
theorem raltS_any (s : Sc) (g : Nat) (w : World) (hts : s.text.length ≤ 140737488351232) (h : ScQ w g s) :
    Calls Tryz.prog 97 #[.pointer (some ⟨g, 0, none⟩)] w (RIntPost (fun t => pAltN (altSpec t)) (fun t => pAltE (altSpec t)) s g w) := by
  have H := Lib.hid h
  have HFIN : Hid (∀ (x : Int) w', s.tv 0 (fun t => pAltN (altSpec t)) = x → ScQPost (s.tk (fun t => pAltE (altSpec t))) g w w' → RIntPost (fun t => pAltN (altSpec t)) (fun t => pAltE (altSpec t)) s g w (.returned (.int .i64 x)) w') := by
    intro x w' h1 h2; unfold RIntPost; rw [h1]; exact ⟨rfl, h2⟩
  clear h
  cases hg : s.got
  · have HG := Lib.hid hg
    have HF1 := Lib.hid (Sc.tv_no hg (0 : Int) (fun t => pAltN (altSpec t)))
    have HF2 := Lib.hid (Sc.tk_no hg (fun t => pAltE (altSpec t)))
    clear hg
    go_enter Tryz.func97, Tryz.ntmps97
    go_wp2_with fail
    refine (rtake_any s g _ H.out).mono ?_
    rintro e w1 ⟨rfl, hp⟩
    rw [HG.out]
    have HP := Lib.hid hp
    clear hp
    go_wp2
    go_ret
    exact HFIN.out _ _ HF1.out (by rw [HF2.out]; exact HP.out)
  · have HG := Lib.hid hg
    have HF1 := Lib.hid (Sc.tv_got hg (0 : Int) (fun t => pAltN (altSpec t)))
    have HF2 := Lib.hid (Sc.tk_got hg (fun t => pAltE (altSpec t)))
    obtain ⟨t, ht⟩ : ∃ t, s.text = t := ⟨_, rfl⟩
    have hsz := text_size hts
    rw [ht] at HF1 HF2 hsz
    have HT := Lib.hid ht
    have HSZ := Lib.hid hsz
    clear hg ht hts hsz
    go_enter Tryz.func97, Tryz.ntmps97
    go_wp2_with fail
    refine (rtake_any s g _ H.out).mono ?_
    rintro e w1 ⟨rfl, hp⟩
    rw [HG.out, HT.out]
    have HP := Lib.hid hp
    clear hp
    go_wp2_with fail
    refine (rparseAlt_any (sb t) _ HSZ.out).mono ?_
    rintro e w2 ⟨rfl, hb2⟩
    rw [bl_sb]
    have HP2 := Lib.hid (HP.out.then_ hb2)
    have c3 := HP2.out.1.c3
    clear hb2
    obtain ⟨x, hx⟩ : ∃ x, (fun t => pAltN (altSpec t)) t = x := ⟨_, rfl⟩
    obtain ⟨er, her⟩ : ∃ x, (fun t => pAltE (altSpec t)) t = x := ⟨_, rfl⟩
    simp only [] at hx her
    rw [hx] at HF1
    rw [her] at HF2
    rw [hx, her]
    clear hx her
    go_wp2_with fail
    refine (rnote_any s.take s.take.la er g _ HP2.out.1).mono ?_
    rintro e w3 ⟨rfl, hp⟩
    have HP3 := Lib.hid (HP2.out.trans hp)
    clear hp
    go_wp2
    go_ret
    exact HFIN.out _ _ HF1.out (by rw [HF2.out]; exact HP3.out)
set_option maxRecDepth 100000 in
set_option maxHeartbeats 1000000 in
theorem rdistS_any (s : Sc) (g : Nat) (w : World) (hts : s.text.length ≤ 140737488351232) (h : ScQ w g s) :
    Calls Tryz.prog 99 #[.pointer (some ⟨g, 0, none⟩)] w (RIntPost (fun t => distN (distSpec t)) (fun t => distE (distSpec t)) s g w) := by
  have H := Lib.hid h
  have HFIN : Hid (∀ (x : Int) w', s.tv 0 (fun t => distN (distSpec t)) = x → ScQPost (s.tk (fun t => distE (distSpec t))) g w w' → RIntPost (fun t => distN (distSpec t)) (fun t => distE (distSpec t)) s g w (.returned (.int .i64 x)) w') := by
    intro x w' h1 h2; unfold RIntPost; rw [h1]; exact ⟨rfl, h2⟩
  clear h
  cases hg : s.got
  · have HG := Lib.hid hg
    have HF1 := Lib.hid (Sc.tv_no hg (0 : Int) (fun t => distN (distSpec t)))
    have HF2 := Lib.hid (Sc.tk_no hg (fun t => distE (distSpec t)))
    clear hg
    go_enter Tryz.func99, Tryz.ntmps99
    go_wp2_with fail
    refine (rtake_any s g _ H.out).mono ?_
    rintro e w1 ⟨rfl, hp⟩
    rw [HG.out]
    have HP := Lib.hid hp
    clear hp
    go_wp2
    go_ret
    exact HFIN.out _ _ HF1.out (by rw [HF2.out]; exact HP.out)
  · have HG := Lib.hid hg
    have HF1 := Lib.hid (Sc.tv_got hg (0 : Int) (fun t => distN (distSpec t)))
    have HF2 := Lib.hid (Sc.tk_got hg (fun t => distE (distSpec t)))
    obtain ⟨t, ht⟩ : ∃ t, s.text = t := ⟨_, rfl⟩
    have hsz := text_size hts
    rw [ht] at HF1 HF2 hsz
    have HT := Lib.hid ht
    have HSZ := Lib.hid hsz
    clear hg ht hts hsz
    go_enter Tryz.func99, Tryz.ntmps99
    go_wp2_with fail
    refine (rtake_any s g _ H.out).mono ?_
    rintro e w1 ⟨rfl, hp⟩
    rw [HG.out, HT.out]
    have HP := Lib.hid hp
    clear hp
    go_wp2_with fail
    refine (rparseDist_any (sb t) _ HSZ.out).mono ?_
    rintro e w2 ⟨rfl, hb2⟩
    rw [bl_sb]
    have HP2 := Lib.hid (HP.out.then_ hb2)
    have c3 := HP2.out.1.c3
    clear hb2
    obtain ⟨x, hx⟩ : ∃ x, (fun t => distN (distSpec t)) t = x := ⟨_, rfl⟩
    obtain ⟨er, her⟩ : ∃ x, (fun t => distE (distSpec t)) t = x := ⟨_, rfl⟩
    simp only [] at hx her
    rw [hx] at HF1
    rw [her] at HF2
    rw [hx, her]
    clear hx her
    go_wp2_with fail
    refine (rnote_any s.take s.take.la er g _ HP2.out.1).mono ?_
    rintro e w3 ⟨rfl, hp⟩
    have HP3 := Lib.hid (HP2.out.trans hp)
    clear hp
    go_wp2
    go_ret
    exact HFIN.out _ _ HF1.out (by rw [HF2.out]; exact HP3.out)
end Go.Proofs.YtlgajjlnbcbijaaGreatDoor
