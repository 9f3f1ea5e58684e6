/-
  Contracts: a window that a scanner takes; both sides.
-/
import Derived.Test.YtlgajjlnbcbijaaGreatDoorScanE
import Derived.Test.YtlgajjlnbcbijaaGreatDoorRPW
namespace Go.Proofs.YtlgajjlnbcbijaaGreatDoor
open Go.RowKit
set_option linter.unusedVariables false
set_option linter.unusedSimpArgs false

def winSLo (l : List UInt8) : Int := pwLo l (winSpec l)
def winSHi (l : List UInt8) : Int := pwHi l (winSpec l)
def winSEr (l : List UInt8) : Int := pwErr l (winSpec l)
theorem winS_zero {l : List UInt8} (h : winSEr l ≠ 0) : winSLo l = 0 ∧ winSHi l = 0 := by
  unfold winSEr at h
  unfold winSLo winSHi
  revert h
  unfold pwErr pwLo pwHi
  cases winSpec l with
  | none => intro _; exact ⟨rfl, rfl⟩
  | some v =>
    obtain ⟨a, b⟩ := v
    simp only []
    intro h
    by_cases h1 : (rangedB a && rangedB b) = true
    · rw [if_pos h1] at h
      by_cases h2 : a ≤ b
      · rw [if_pos h2] at h
        by_cases h3 : (winOut a b == l) = true
        · rw [if_pos h3] at h; exact absurd rfl h
        · have h3' := Bool.not_eq_true _ ▸ h3
          rw [Bool.not_eq_true] at h3
          rw [h3, Bool.and_false]; exact ⟨rfl, rfl⟩
      · rw [decide_eq_false h2, Bool.and_false, Bool.false_and]; exact ⟨rfl, rfl⟩
    · rw [Bool.not_eq_true] at h1
      rw [h1, Bool.false_and, Bool.false_and]; exact ⟨rfl, rfl⟩
def WinSPost (s : Sc) (g : Nat) (w : World) (e : Ending) (w' : World) : Prop :=
  e = .returned (.agg #[.int .i64 (s.tv 0 winSLo), .int .i64 (s.tv 0 winSHi)]) ∧ ScPost (s.tk winSEr) g w w'
theorem WinSPost.mk {s : Sc} {g : Nat} {w w' : World} {a b : Int} (h1 : s.tv 0 winSLo = a) (h2 : s.tv 0 winSHi = b) (h : ScPost (s.tk winSEr) g w w') : WinSPost s g w (.returned (.agg #[.int .i64 a, .int .i64 b])) w' := by
  unfold WinSPost; rw [h1, h2]; exact ⟨rfl, h⟩
def RWinSPost (s : Sc) (g : Nat) (w : World) (e : Ending) (w' : World) : Prop :=
  e = .returned (.agg #[.int .i64 (s.tv 0 winSLo), .int .i64 (s.tv 0 winSHi)]) ∧ ScQPost (s.tk winSEr) g w w'
theorem RWinSPost.mk {s : Sc} {g : Nat} {w w' : World} {a b : Int} (h1 : s.tv 0 winSLo = a) (h2 : s.tv 0 winSHi = b) (h : ScQPost (s.tk winSEr) g w w') : RWinSPost s g w (.returned (.agg #[.int .i64 a, .int .i64 b])) w' := by
  unfold RWinSPost; rw [h1, h2]; exact ⟨rfl, h⟩
set_option maxRecDepth 100000 in
set_option maxHeartbeats 1000000 in
theorem takenWin_any (s : Sc) (g : Nat) (w : World) (E : Env w) (hg0 : 8 ≤ g) (hts : s.text.length ≤ 140737488351232) (h : ScP w g s) :
    Calls Tryz.prog 114 #[.pointer (some ⟨g, 0, none⟩), .func (.func 91) #[] #[]] w (WinSPost s g w) := by
  have hgs := h.lt
  have H : Hid (ScP ((w.alloc (.cells #[.int .i64 0, .int .i64 0] 46)).alloc (.cells #[.int .i64 0, .int .i64 0] 46)) g s) := (h.alloc _).alloc _
  have O1 : OwnB ((w.alloc (.cells #[.int .i64 0, .int .i64 0] 46)).alloc (.cells #[.int .i64 0, .int .i64 0] 46)) w.heap.size 0 0 46 :=
    (((Below.refl _ _).alloc (Nat.le_refl _) _).block w.heap.size (by simp)).trans (heap_alloc_new w _)
  have O2 : OwnB ((w.alloc (.cells #[.int .i64 0, .int .i64 0] 46)).alloc (.cells #[.int .i64 0, .int .i64 0] 46)) (w.heap.size + 1) 0 0 46 := by
    have := heap_alloc_new (w.alloc (.cells #[.int .i64 0, .int .i64 0] 46)) (.cells #[.int .i64 0, .int .i64 0] 46)
    rw [show (w.alloc (.cells #[.int .i64 0, .int .i64 0] 46)).heap.size = w.heap.size + 1 by simp] at this
    exact this
  have HOFF : Hid (Off g w ((w.alloc (.cells #[.int .i64 0, .int .i64 0] 46)).alloc (.cells #[.int .i64 0, .int .i64 0] 46))) := ((Off.refl g w).alloc _).alloc _
  have HO1 := Lib.hid O1
  have HO2 := Lib.hid O2
  clear h O1 O2
  cases hg : s.got
  · have HG := Lib.hid hg
    have HF1 := Lib.hid (Sc.tv_no hg (0 : Int) winSLo)
    have HF2 := Lib.hid (Sc.tv_no hg (0 : Int) winSHi)
    have HF3 := Lib.hid (Sc.tk_no hg winSEr)
    clear hg
    go_enter Tryz.func114, Tryz.ntmps114
    go_wp2_with fail
    refine (take_any s g _ H.out).mono ?_
    rintro e w1 ⟨rfl, hp⟩
    rw [HG.out]
    have HP := Lib.hid hp
    obtain ⟨k0, k1, k2, k3, k4⟩ := (HO1.out.off hp.2 (by omega)).facts
    obtain ⟨l0, l1, l2, l3, l4⟩ := (HO2.out.off hp.2 (by omega)).facts
    have HFIN : Hid (ScPost s.take g w ((w1.setCell ⟨w.heap.size, 0, none⟩ (.int .i64 0)).setCell ⟨w.heap.size, 1, none⟩ (.int .i64 0))) :=
      ⟨(hp.1.setNew hgs _).setNew hgs _, ((HOFF.out.trans hp.2).setNew (Nat.le_refl _) _ _).setNew (Nat.le_refl _) _ _⟩
    clear hp
    go_wp2
    exact bodyPost_ret (v := .agg #[.int .i64 0, .int .i64 0]) (by simp [results, Tryz.results114, go_sem, k0, k1, k4]) rfl (WinSPost.mk HF1.out HF2.out (by rw [HF3.out]; exact HFIN.out))
  · have HG := Lib.hid hg
    have HF1 := Lib.hid (Sc.tv_got hg (0 : Int) winSLo)
    have HF2 := Lib.hid (Sc.tv_got hg (0 : Int) winSHi)
    have HF3 := Lib.hid (Sc.tk_got hg winSEr)
    obtain ⟨t, ht⟩ : ∃ t, s.text = t := ⟨_, rfl⟩
    have hsz := text_size hts
    rw [ht] at HF1 HF2 HF3 hsz
    have HT := Lib.hid ht
    have HSZ := Lib.hid hsz
    clear hg ht hts hsz
    go_enter Tryz.func114, Tryz.ntmps114
    go_wp2_with fail
    refine (take_any s g _ H.out).mono ?_
    rintro e w1 ⟨rfl, hp⟩
    rw [HG.out, HT.out]
    have HP := Lib.hid hp
    have E1 : Env w1 := ((E.alloc _).alloc _).of_below (hp.2.below (Below.refl 8 _) hg0 ((E.alloc _).alloc _).size) (Nat.le_refl _)
    clear hp
    go_wp2_with fail
    refine (parseWindow_any (sb t) _ E1 HSZ.out).mono ?_
    rintro e w2 ⟨rfl, hb2⟩
    rw [bl_sb]
    have HP2 := Lib.hid (HP.out.then_ hb2)
    have z2 : w.heap.size + 2 ≤ w2.heap.size := by have := HP2.out.2.size; simp at this; omega
    obtain ⟨x, hx⟩ : ∃ x, winSLo t = x := ⟨_, rfl⟩
    obtain ⟨y, hy⟩ : ∃ x, winSHi t = x := ⟨_, rfl⟩
    obtain ⟨er, her⟩ : ∃ x, winSEr t = x := ⟨_, rfl⟩
    have hz : er ≠ 0 → x = 0 ∧ y = 0 := by rw [← her, ← hx, ← hy]; exact winS_zero
    rw [hx] at HF1
    rw [hy] at HF2
    rw [her] at HF3
    unfold winSLo at hx
    unfold winSHi at hy
    unfold winSEr at her
    rw [hx, hy, her]
    clear hx hy her
    have Q1 := Lib.hid (HO1.out.off HP2.out.2 (by omega))
    have Q2 := Lib.hid (HO2.out.off HP2.out.2 (by omega))
    obtain ⟨k0, k1, k2, k3, k4⟩ := Q1.out.facts
    obtain ⟨l0, l1, l2, l3, l4⟩ := Q2.out.facts
    have c3 := HP2.out.1.c3
    have hg2 := HP2.out.1.lt
    by_cases h0 : er = 0
    · have e1 : (er != 0) = false := bne_eq_false_iff_eq.2 h0
      have HE : Hid (s.tk winSEr = s.take) := by unfold Hid; rw [HF3.out, h0, Sc.note_zero]
      have HFIN : Hid (ScPost s.take g w (((w2.setCell ⟨w.heap.size, 0, none⟩ (.int .i64 x)).setCell ⟨w.heap.size, 1, none⟩ (.int .i64 y)).alloc (.cells #[.int .i64 x, .int .i64 y] 46))) :=
        ⟨((HP2.out.1.setNew hgs _).setNew hgs _).alloc _, (((HOFF.out.trans HP2.out.2).setNew (Nat.le_refl _) _ _).setNew (Nat.le_refl _) _ _).alloc _⟩
      clear h0 hz hb2
      go_wp2
      exact bodyPost_ret (v := .agg #[.int .i64 x, .int .i64 y]) (by simp [results, Tryz.results114, go_sem, k0, k1, k4]) rfl (WinSPost.mk HF1.out HF2.out (by rw [HE.out]; exact HFIN.out))
    · have e1 : (er != 0) = true := bne_iff_ne.2 h0
      obtain ⟨rfl, rfl⟩ := hz h0
      clear h0 hz hb2
      go_wp2_with fail
      refine (note_any s.take s.take.la er g _ (HP2.out.1.alloc _)).mono ?_
      rintro e w3 ⟨rfl, hp⟩
      have HP3 := Lib.hid hp
      have HO3 : Hid (Off g w2 w3) := ((Off.refl g w2).alloc _).trans hp.2
      clear k0 k1 k2 k3 k4 l0 l1 l2 l3 l4 hp
      obtain ⟨k0, k1, k2, k3, k4⟩ := (Q1.out.off HO3.out (by omega)).facts
      obtain ⟨l0, l1, l2, l3, l4⟩ := (Q2.out.off HO3.out (by omega)).facts
      have HFIN : Hid (ScPost (s.tk winSEr) g w ((w3.setCell ⟨w.heap.size, 0, none⟩ (.int .i64 0)).setCell ⟨w.heap.size, 1, none⟩ (.int .i64 0))) := by
        unfold Hid
        rw [HF3.out]
        exact ⟨(HP3.out.1.setNew hgs _).setNew hgs _, (((HOFF.out.trans HP2.out.2).trans HO3.out).setNew (Nat.le_refl _) _ _).setNew (Nat.le_refl _) _ _⟩
      go_wp2
      exact bodyPost_ret (v := .agg #[.int .i64 0, .int .i64 0]) (by simp [results, Tryz.results114, go_sem, k0, k1, k4]) rfl (WinSPost.mk HF1.out HF2.out HFIN.out)
set_option maxHeartbeats 1000000 in
theorem winS_any (s : Sc) (g : Nat) (w : World) (E : Env w) (hg0 : 8 ≤ g) (hts : s.text.length ≤ 140737488351232) (h : ScP w g s) :
    Calls Tryz.prog 40 #[.pointer (some ⟨g, 0, none⟩)] w (WinSPost s g w) := by
  have H : Hid (ScP (w.alloc (.cells #[.int .i64 0, .int .i64 0] 46)) g s) := h.alloc _
  have O1 : Hid (OwnB (w.alloc (.cells #[.int .i64 0, .int .i64 0] 46)) w.heap.size 0 0 46) := heap_alloc_new w _
  have HOFF : Hid (Off g w (w.alloc (.cells #[.int .i64 0, .int .i64 0] 46))) := (Off.refl g w).alloc _
  have hgs := h.lt
  obtain ⟨x, hx⟩ : ∃ x, s.tv 0 winSLo = x := ⟨_, rfl⟩
  obtain ⟨y, hy⟩ : ∃ x, s.tv 0 winSHi = x := ⟨_, rfl⟩
  have HX := Lib.hid hx
  have HY := Lib.hid hy
  clear h hx hy
  go_enter Tryz.func40, Tryz.ntmps40
  go_wp2_with fail
  refine (takenWin_any s g _ (E.alloc _) hg0 hts H.out).mono ?_
  rintro e w1 ⟨rfl, hp⟩
  rw [HX.out, HY.out]
  obtain ⟨k0, k1, k2, k3, k4⟩ := (O1.out.off hp.2 (by omega)).facts
  have HFIN : Hid (ScPost (s.tk winSEr) g w ((w1.setCell ⟨w.heap.size, 0, none⟩ (.int .i64 x)).setCell ⟨w.heap.size, 1, none⟩ (.int .i64 y))) :=
    ⟨(hp.1.setNew hgs _).setNew hgs _, ((HOFF.out.trans hp.2).setNew (Nat.le_refl _) _ _).setNew (Nat.le_refl _) _ _⟩
  clear hp
  go_wp2
  exact bodyPost_ret (v := .agg #[.int .i64 x, .int .i64 y]) (by simp [results, Tryz.results40, go_sem, k0, k1, k4]) rfl (WinSPost.mk HX.out HY.out HFIN.out)
set_option maxRecDepth 100000 in
set_option maxHeartbeats 1000000 in
theorem rwinS_any (s : Sc) (g : Nat) (w : World) (hts : s.text.length ≤ 140737488351232) (h : ScQ w g s) :
    Calls Tryz.prog 98 #[.pointer (some ⟨g, 0, none⟩)] w (RWinSPost s g w) := by
  have H : Hid (ScQ (w.alloc (.cells #[.int .i64 0, .int .i64 0] 46)) g s) := h.alloc _
  have O1 : Hid (OwnB (w.alloc (.cells #[.int .i64 0, .int .i64 0] 46)) w.heap.size 0 0 46) := heap_alloc_new w _
  have HOFF : Hid (Off g w (w.alloc (.cells #[.int .i64 0, .int .i64 0] 46))) := (Off.refl g w).alloc _
  have hgs := h.lt
  clear h
  cases hg : s.got
  · have HG := Lib.hid hg
    have HF1 := Lib.hid (Sc.tv_no hg (0 : Int) winSLo)
    have HF2 := Lib.hid (Sc.tv_no hg (0 : Int) winSHi)
    have HF3 := Lib.hid (Sc.tk_no hg winSEr)
    clear hg
    go_enter Tryz.func98, Tryz.ntmps98
    go_wp2_with fail
    refine (rtake_any s g _ H.out).mono ?_
    rintro e w1 ⟨rfl, hp⟩
    rw [HG.out]
    obtain ⟨k0, k1, k2, k3, k4⟩ := (O1.out.off hp.2 (by omega)).facts
    have HFIN : Hid (ScQPost s.take g w ((w1.setCell ⟨w.heap.size, 0, none⟩ (.int .i64 0)).setCell ⟨w.heap.size, 1, none⟩ (.int .i64 0))) :=
      ⟨(hp.1.setNew hgs _).setNew hgs _, ((HOFF.out.trans hp.2).setNew (Nat.le_refl _) _ _).setNew (Nat.le_refl _) _ _⟩
    clear hp
    go_wp2
    exact bodyPost_ret (v := .agg #[.int .i64 0, .int .i64 0]) (by simp [results, Tryz.results98, go_sem, k0, k1, k4]) rfl (RWinSPost.mk HF1.out HF2.out (by rw [HF3.out]; exact HFIN.out))
  · have HG := Lib.hid hg
    have HF1 := Lib.hid (Sc.tv_got hg (0 : Int) winSLo)
    have HF2 := Lib.hid (Sc.tv_got hg (0 : Int) winSHi)
    have HF3 := Lib.hid (Sc.tk_got hg winSEr)
    obtain ⟨t, ht⟩ : ∃ t, s.text = t := ⟨_, rfl⟩
    have hsz := text_size hts
    rw [ht] at HF1 HF2 HF3 hsz
    have HT := Lib.hid ht
    have HSZ := Lib.hid hsz
    clear hg ht hts hsz
    go_enter Tryz.func98, Tryz.ntmps98
    go_wp2_with fail
    refine (rtake_any s g _ H.out).mono ?_
    rintro e w1 ⟨rfl, hp⟩
    rw [HG.out, HT.out]
    have HP := Lib.hid hp
    clear hp
    go_wp2_with fail
    refine (rparseWindow_any (sb t) _ HSZ.out).mono ?_
    rintro e w2 ⟨rfl, hb2⟩
    rw [bl_sb]
    have HP2 := Lib.hid (HP.out.then_ hb2)
    have z2 : w.heap.size + 1 ≤ w2.heap.size := by have := HP2.out.2.size; simp at this; omega
    obtain ⟨x, hx⟩ : ∃ x, winSLo t = x := ⟨_, rfl⟩
    obtain ⟨y, hy⟩ : ∃ x, winSHi t = x := ⟨_, rfl⟩
    obtain ⟨er, her⟩ : ∃ x, winSEr t = x := ⟨_, rfl⟩
    rw [hx] at HF1
    rw [hy] at HF2
    rw [her] at HF3
    unfold winSLo at hx
    unfold winSHi at hy
    unfold winSEr at her
    rw [hx, hy, her]
    clear hx hy her
    have Q1 := Lib.hid (O1.out.off HP2.out.2 (by omega))
    obtain ⟨k0, k1, k2, k3, k4⟩ := Q1.out.facts
    have c3 := HP2.out.1.c3
    have hg2 := HP2.out.1.lt
    clear hb2
    go_wp2_with fail
    refine (rnote_any s.take s.take.la er g _ (HP2.out.1.alloc _)).mono ?_
    rintro e w3 ⟨rfl, hp⟩
    have HP3 := Lib.hid hp
    have HO3 : Hid (Off g w2 w3) := ((Off.refl g w2).alloc _).trans hp.2
    have P5 : OwnB (w2.alloc (.cells #[.int .i64 x, .int .i64 y] 46)) w2.heap.size x y 46 := heap_alloc_new w2 _
    clear k0 k1 k2 k3 k4
    obtain ⟨l0, l1, l2, l3, l4⟩ := (P5.off hp.2 (by omega)).facts
    obtain ⟨k0, k1, k2, k3, k4⟩ := (Q1.out.off HO3.out (by omega)).facts
    have HFIN : Hid (ScQPost (s.tk winSEr) g w ((w3.setCell ⟨w.heap.size, 0, none⟩ (.int .i64 x)).setCell ⟨w.heap.size, 1, none⟩ (.int .i64 y))) := by
      unfold Hid
      rw [HF3.out]
      exact ⟨(HP3.out.1.setNew hgs _).setNew hgs _, (((HOFF.out.trans HP2.out.2).trans HO3.out).setNew (Nat.le_refl _) _ _).setNew (Nat.le_refl _) _ _⟩
    clear hp P5
    go_wp2
    exact bodyPost_ret (v := .agg #[.int .i64 x, .int .i64 y]) (by simp [results, Tryz.results98, go_sem, k0, k1, k4]) rfl (RWinSPost.mk HF1.out HF2.out HFIN.out)
end Go.Proofs.YtlgajjlnbcbijaaGreatDoor
