/-
  Contracts: a position that a scanner takes; the end of a record; a scanner at the first field. Both sides.
-/
import Derived.Test.YtlgajjlnbcbijaaGreatDoorScanV
import Derived.Test.YtlgajjlnbcbijaaGreatDoorAppF
namespace Go.Proofs.YtlgajjlnbcbijaaGreatDoor
open Go.RowKit
set_option linter.unusedVariables false
set_option linter.unusedSimpArgs false

theorem posP_zero {l : List UInt8} (h : posPErr l ≠ 0) : posPLat l = 0 ∧ posPLon l = 0 := by
  unfold posPLat posPLon; rw [if_neg h, if_neg h]; exact ⟨rfl, rfl⟩
def PosSPost (s : Sc) (g : Nat) (w : World) (e : Ending) (w' : World) : Prop :=
  e = .returned (.agg #[.int .i64 (s.tv 0 posPLat), .int .i64 (s.tv 0 posPLon)]) ∧ ScPost (s.tk posPErr) g w w'
theorem PosSPost.mk {s : Sc} {g : Nat} {w w' : World} {a b : Int} (h1 : s.tv 0 posPLat = a) (h2 : s.tv 0 posPLon = b) (h : ScPost (s.tk posPErr) g w w') : PosSPost s g w (.returned (.agg #[.int .i64 a, .int .i64 b])) w' := by
  unfold PosSPost; rw [h1, h2]; exact ⟨rfl, h⟩
def RPosSPost (s : Sc) (g : Nat) (w : World) (e : Ending) (w' : World) : Prop :=
  e = .returned (.agg #[.int .i64 (s.tv 0 posPLat), .int .i64 (s.tv 0 posPLon)]) ∧ ScQPost (s.tk posPErr) g w w'
theorem RPosSPost.mk {s : Sc} {g : Nat} {w w' : World} {a b : Int} (h1 : s.tv 0 posPLat = a) (h2 : s.tv 0 posPLon = b) (h : ScQPost (s.tk posPErr) g w w') : RPosSPost s g w (.returned (.agg #[.int .i64 a, .int .i64 b])) w' := by
  unfold RPosSPost; rw [h1, h2]; exact ⟨rfl, h⟩
/-- a block of the call's own, behind a scanner's -/
def OwnB (w : World) (b : Nat) (x y : Int) (T : TypeId) : Prop := w.heap[b]? = some (.cells #[.int .i64 x, .int .i64 y] T (0, 0))
theorem OwnB.facts {w : World} {b : Nat} {x y : Int} {T : TypeId} (h : OwnB w b x y T) : w.cell? ⟨b, 0, none⟩ = some (.int .i64 x) ∧ w.cell? ⟨b, 1, none⟩ = some (.int .i64 y) ∧ w.frozen? ⟨b, 0, none⟩ = false ∧ w.frozen? ⟨b, 1, none⟩ = false ∧ b < w.heap.size :=
  ⟨blkCell h 0 rfl, blkCell h 1 rfl, blkFree h 0, blkFree h 1, (Array.getElem?_eq_some_iff.1 h).1⟩
theorem OwnB.off {w w' : World} {g b : Nat} {x y : Int} {T : TypeId} (h : OwnB w b x y T) (ho : Off g w w') (hb : b ≠ g) : OwnB w' b x y T :=
  (ho.block b (Array.getElem?_eq_some_iff.1 h).1 (by intro e; injection e with e; exact hb e)).trans h
set_option maxRecDepth 100000 in
set_option maxHeartbeats 1000000 in
theorem takenPos_any (s : Sc) (g : Nat) (w : World) (hts : s.text.length ≤ 140737488351232) (h : ScP w g s) :
    Calls Tryz.prog 111 #[.pointer (some ⟨g, 0, none⟩), .func (.func 112) #[] #[]] w (PosSPost s g w) := by
  have hgs := h.lt
  have H : Hid (ScP ((w.alloc (.cells #[.int .i64 0, .int .i64 0] 51)).alloc (.cells #[.int .i64 0, .int .i64 0] 51)) g s) := (h.alloc _).alloc _
  have O1 : OwnB ((w.alloc (.cells #[.int .i64 0, .int .i64 0] 51)).alloc (.cells #[.int .i64 0, .int .i64 0] 51)) w.heap.size 0 0 51 :=
    (((Below.refl _ _).alloc (Nat.le_refl _) _).block w.heap.size (by simp)).trans (heap_alloc_new w _)
  have O2 : OwnB ((w.alloc (.cells #[.int .i64 0, .int .i64 0] 51)).alloc (.cells #[.int .i64 0, .int .i64 0] 51)) (w.heap.size + 1) 0 0 51 := by
    have := heap_alloc_new (w.alloc (.cells #[.int .i64 0, .int .i64 0] 51)) (.cells #[.int .i64 0, .int .i64 0] 51)
    rw [show (w.alloc (.cells #[.int .i64 0, .int .i64 0] 51)).heap.size = w.heap.size + 1 by simp] at this
    exact this
  have HOFF : Hid (Off g w ((w.alloc (.cells #[.int .i64 0, .int .i64 0] 51)).alloc (.cells #[.int .i64 0, .int .i64 0] 51))) := ((Off.refl g w).alloc _).alloc _
  have HO1 := Lib.hid O1
  have HO2 := Lib.hid O2
  clear h O1 O2
  cases hg : s.got
  · have HG := Lib.hid hg
    have HF1 := Lib.hid (Sc.tv_no hg (0 : Int) posPLat)
    have HF2 := Lib.hid (Sc.tv_no hg (0 : Int) posPLon)
    have HF3 := Lib.hid (Sc.tk_no hg posPErr)
    clear hg
    go_enter Tryz.func111, Tryz.ntmps111
    go_wp2_with fail
    refine (take_any s g _ H.out).mono ?_
    rintro e w1 ⟨rfl, hp⟩
    rw [HG.out]
    have HP := Lib.hid hp
    obtain ⟨k0, k1, k2, k3, k4⟩ := (HO1.out.off hp.2 (by omega)).facts
    obtain ⟨l0, l1, l2, l3, l4⟩ := (HO2.out.off hp.2 (by omega)).facts
    have HFIN : Hid (ScPost s.take g w ((w1.setCell ⟨w.heap.size, 0, none⟩ (.int .i64 0)).setCell ⟨w.heap.size, 1, none⟩ (.int .i64 0))) :=
      ⟨(hp.1.setNew hgs _).setNew hgs _, ((HOFF.out.trans hp.2).setNew (Nat.le_refl _) _ _).setNew (Nat.le_refl _) _ _⟩
    clear hp
    go_wp2
    exact bodyPost_ret (v := .agg #[.int .i64 0, .int .i64 0]) (by simp [results, Tryz.results111, go_sem, k0, k1, k4]) rfl (PosSPost.mk HF1.out HF2.out (by rw [HF3.out]; exact HFIN.out))
  · have HG := Lib.hid hg
    have HF1 := Lib.hid (Sc.tv_got hg (0 : Int) posPLat)
    have HF2 := Lib.hid (Sc.tv_got hg (0 : Int) posPLon)
    have HF3 := Lib.hid (Sc.tk_got hg posPErr)
    obtain ⟨t, ht⟩ : ∃ t, s.text = t := ⟨_, rfl⟩
    have hsz := text_size hts
    rw [ht] at HF1 HF2 HF3 hsz
    have HT := Lib.hid ht
    have HSZ := Lib.hid hsz
    clear hg ht hts hsz
    go_enter Tryz.func111, Tryz.ntmps111
    go_wp2_with fail
    refine (take_any s g _ H.out).mono ?_
    rintro e w1 ⟨rfl, hp⟩
    rw [HG.out, HT.out]
    have HP := Lib.hid hp
    clear hp
    go_wp2_with fail
    refine (parsePos_any (sb t) _ (by have := HSZ.out; unfold maxLen; omega)).mono ?_
    rintro e w2 ⟨rfl, hb2⟩
    rw [bl_sb]
    have HP2 := Lib.hid (HP.out.then_ hb2)
    have z2 : w.heap.size + 2 ≤ w2.heap.size := by have := HP2.out.2.size; simp at this; omega
    obtain ⟨x, hx⟩ : ∃ x, posPLat t = x := ⟨_, rfl⟩
    obtain ⟨y, hy⟩ : ∃ x, posPLon t = x := ⟨_, rfl⟩
    obtain ⟨er, her⟩ : ∃ x, posPErr t = x := ⟨_, rfl⟩
    have hz : er ≠ 0 → x = 0 ∧ y = 0 := by rw [← her, ← hx, ← hy]; exact posP_zero
    rw [hx] at HF1
    rw [hy] at HF2
    rw [her] at HF3
    rw [hx, hy, her]
    clear hx hy her
    have Q1 := Lib.hid (HO1.out.off HP2.out.2 (by omega))
    have Q2 := Lib.hid (HO2.out.off HP2.out.2 (by omega))
    obtain ⟨k0, k1, k2, k3, k4⟩ := Q1.out.facts
    obtain ⟨l0, l1, l2, l3, l4⟩ := Q2.out.facts
    have c3 := HP2.out.1.c3
    have hg2 := HP2.out.1.lt
    by_cases h0 : er = 0
    · have e1 : (er != 0) = false := bne_eq_false_iff_eq.2 h0
      have HE : Hid (s.tk posPErr = s.take) := by unfold Hid; rw [HF3.out, h0, Sc.note_zero]
      have HFIN : Hid (ScPost s.take g w (((w2.setCell ⟨w.heap.size, 0, none⟩ (.int .i64 x)).setCell ⟨w.heap.size, 1, none⟩ (.int .i64 y)).alloc (.cells #[.int .i64 x, .int .i64 y] 51))) :=
        ⟨((HP2.out.1.setNew hgs _).setNew hgs _).alloc _, (((HOFF.out.trans HP2.out.2).setNew (Nat.le_refl _) _ _).setNew (Nat.le_refl _) _ _).alloc _⟩
      clear h0 hz hb2
      go_wp2
      exact bodyPost_ret (v := .agg #[.int .i64 x, .int .i64 y]) (by simp [results, Tryz.results111, go_sem, k0, k1, k4]) rfl (PosSPost.mk HF1.out HF2.out (by rw [HE.out]; exact HFIN.out))
    · have e1 : (er != 0) = true := bne_iff_ne.2 h0
      obtain ⟨rfl, rfl⟩ := hz h0
      clear h0 hz hb2
      go_wp2_with fail
      refine (note_any s.take s.take.la er g _ (HP2.out.1.alloc _)).mono ?_
      rintro e w3 ⟨rfl, hp⟩
      have HP3 := Lib.hid hp
      have HO3 : Hid (Off g w2 w3) := ((Off.refl g w2).alloc _).trans hp.2
      clear k0 k1 k2 k3 k4 l0 l1 l2 l3 l4 hp
      obtain ⟨k0, k1, k2, k3, k4⟩ := (Q1.out.off HO3.out (by omega)).facts
      obtain ⟨l0, l1, l2, l3, l4⟩ := (Q2.out.off HO3.out (by omega)).facts
      have HFIN : Hid (ScPost (s.tk posPErr) g w ((w3.setCell ⟨w.heap.size, 0, none⟩ (.int .i64 0)).setCell ⟨w.heap.size, 1, none⟩ (.int .i64 0))) := by
        unfold Hid
        rw [HF3.out]
        exact ⟨(HP3.out.1.setNew hgs _).setNew hgs _, (((HOFF.out.trans HP2.out.2).trans HO3.out).setNew (Nat.le_refl _) _ _).setNew (Nat.le_refl _) _ _⟩
      go_wp2
      exact bodyPost_ret (v := .agg #[.int .i64 0, .int .i64 0]) (by simp [results, Tryz.results111, go_sem, k0, k1, k4]) rfl (PosSPost.mk HF1.out HF2.out HFIN.out)
set_option maxHeartbeats 1000000 in
theorem posS_any (s : Sc) (g : Nat) (w : World) (hts : s.text.length ≤ 140737488351232) (h : ScP w g s) :
    Calls Tryz.prog 38 #[.pointer (some ⟨g, 0, none⟩)] w (PosSPost s g w) := by
  have H : Hid (ScP (w.alloc (.cells #[.int .i64 0, .int .i64 0] 51)) g s) := h.alloc _
  have O1 : Hid (OwnB (w.alloc (.cells #[.int .i64 0, .int .i64 0] 51)) w.heap.size 0 0 51) := heap_alloc_new w _
  have HOFF : Hid (Off g w (w.alloc (.cells #[.int .i64 0, .int .i64 0] 51))) := (Off.refl g w).alloc _
  have hgs := h.lt
  obtain ⟨x, hx⟩ : ∃ x, s.tv 0 posPLat = x := ⟨_, rfl⟩
  obtain ⟨y, hy⟩ : ∃ x, s.tv 0 posPLon = x := ⟨_, rfl⟩
  have HX := Lib.hid hx
  have HY := Lib.hid hy
  clear h hx hy
  go_enter Tryz.func38, Tryz.ntmps38
  go_wp2_with fail
  refine (takenPos_any s g _ hts H.out).mono ?_
  rintro e w1 ⟨rfl, hp⟩
  rw [HX.out, HY.out]
  obtain ⟨k0, k1, k2, k3, k4⟩ := (O1.out.off hp.2 (by omega)).facts
  have HFIN : Hid (ScPost (s.tk posPErr) g w ((w1.setCell ⟨w.heap.size, 0, none⟩ (.int .i64 x)).setCell ⟨w.heap.size, 1, none⟩ (.int .i64 y))) :=
    ⟨(hp.1.setNew hgs _).setNew hgs _, ((HOFF.out.trans hp.2).setNew (Nat.le_refl _) _ _).setNew (Nat.le_refl _) _ _⟩
  clear hp
  go_wp2
  exact bodyPost_ret (v := .agg #[.int .i64 x, .int .i64 y]) (by simp [results, Tryz.results38, go_sem, k0, k1, k4]) rfl (PosSPost.mk HX.out HY.out HFIN.out)
set_option maxRecDepth 100000 in
set_option maxHeartbeats 1000000 in
theorem rposS_any (s : Sc) (g : Nat) (w : World) (hts : s.text.length ≤ 140737488351232) (h : ScQ w g s) :
    Calls Tryz.prog 96 #[.pointer (some ⟨g, 0, none⟩)] w (RPosSPost s g w) := by
  have H : Hid (ScQ (w.alloc (.cells #[.int .i64 0, .int .i64 0] 51)) g s) := h.alloc _
  have O1 : Hid (OwnB (w.alloc (.cells #[.int .i64 0, .int .i64 0] 51)) w.heap.size 0 0 51) := heap_alloc_new w _
  have HOFF : Hid (Off g w (w.alloc (.cells #[.int .i64 0, .int .i64 0] 51))) := (Off.refl g w).alloc _
  have hgs := h.lt
  clear h
  cases hg : s.got
  · have HG := Lib.hid hg
    have HF1 := Lib.hid (Sc.tv_no hg (0 : Int) posPLat)
    have HF2 := Lib.hid (Sc.tv_no hg (0 : Int) posPLon)
    have HF3 := Lib.hid (Sc.tk_no hg posPErr)
    clear hg
    go_enter Tryz.func96, Tryz.ntmps96
    go_wp2_with fail
    refine (rtake_any s g _ H.out).mono ?_
    rintro e w1 ⟨rfl, hp⟩
    rw [HG.out]
    obtain ⟨k0, k1, k2, k3, k4⟩ := (O1.out.off hp.2 (by omega)).facts
    have HFIN : Hid (ScQPost s.take g w ((w1.setCell ⟨w.heap.size, 0, none⟩ (.int .i64 0)).setCell ⟨w.heap.size, 1, none⟩ (.int .i64 0))) :=
      ⟨(hp.1.setNew hgs _).setNew hgs _, ((HOFF.out.trans hp.2).setNew (Nat.le_refl _) _ _).setNew (Nat.le_refl _) _ _⟩
    clear hp
    go_wp2
    exact bodyPost_ret (v := .agg #[.int .i64 0, .int .i64 0]) (by simp [results, Tryz.results96, go_sem, k0, k1, k4]) rfl (RPosSPost.mk HF1.out HF2.out (by rw [HF3.out]; exact HFIN.out))
  · have HG := Lib.hid hg
    have HF1 := Lib.hid (Sc.tv_got hg (0 : Int) posPLat)
    have HF2 := Lib.hid (Sc.tv_got hg (0 : Int) posPLon)
    have HF3 := Lib.hid (Sc.tk_got hg posPErr)
    obtain ⟨t, ht⟩ : ∃ t, s.text = t := ⟨_, rfl⟩
    have hsz := text_size hts
    rw [ht] at HF1 HF2 HF3 hsz
    have HT := Lib.hid ht
    have HSZ := Lib.hid hsz
    clear hg ht hts hsz
    go_enter Tryz.func96, Tryz.ntmps96
    go_wp2_with fail
    refine (rtake_any s g _ H.out).mono ?_
    rintro e w1 ⟨rfl, hp⟩
    rw [HG.out, HT.out]
    have HP := Lib.hid hp
    clear hp
    go_wp2_with fail
    refine (rparsePos_any (sb t) _ (by have := HSZ.out; unfold maxLen; omega)).mono ?_
    rintro e w2 ⟨rfl, hb2⟩
    rw [bl_sb]
    have HP2 := Lib.hid (HP.out.then_ hb2)
    have z2 : w.heap.size + 1 ≤ w2.heap.size := by have := HP2.out.2.size; simp at this; omega
    obtain ⟨x, hx⟩ : ∃ x, posPLat t = x := ⟨_, rfl⟩
    obtain ⟨y, hy⟩ : ∃ x, posPLon t = x := ⟨_, rfl⟩
    obtain ⟨er, her⟩ : ∃ x, posPErr t = x := ⟨_, rfl⟩
    rw [hx] at HF1
    rw [hy] at HF2
    rw [her] at HF3
    rw [hx, hy, her]
    clear hx hy her
    have Q1 := Lib.hid (O1.out.off HP2.out.2 (by omega))
    obtain ⟨k0, k1, k2, k3, k4⟩ := Q1.out.facts
    have c3 := HP2.out.1.c3
    have hg2 := HP2.out.1.lt
    clear hb2
    go_wp2_with fail
    refine (rnote_any s.take s.take.la er g _ (HP2.out.1.alloc _)).mono ?_
    rintro e w3 ⟨rfl, hp⟩
    have HP3 := Lib.hid hp
    have HO3 : Hid (Off g w2 w3) := ((Off.refl g w2).alloc _).trans hp.2
    have P5 : OwnB (w2.alloc (.cells #[.int .i64 x, .int .i64 y] 51)) w2.heap.size x y 51 := heap_alloc_new w2 _
    clear k0 k1 k2 k3 k4
    obtain ⟨l0, l1, l2, l3, l4⟩ := (P5.off hp.2 (by omega)).facts
    obtain ⟨k0, k1, k2, k3, k4⟩ := (Q1.out.off HO3.out (by omega)).facts
    have HFIN : Hid (ScQPost (s.tk posPErr) g w ((w3.setCell ⟨w.heap.size, 0, none⟩ (.int .i64 x)).setCell ⟨w.heap.size, 1, none⟩ (.int .i64 y))) := by
      unfold Hid
      rw [HF3.out]
      exact ⟨(HP3.out.1.setNew hgs _).setNew hgs _, (((HOFF.out.trans HP2.out.2).trans HO3.out).setNew (Nat.le_refl _) _ _).setNew (Nat.le_refl _) _ _⟩
    clear hp P5
    go_wp2
    exact bodyPost_ret (v := .agg #[.int .i64 x, .int .i64 y]) (by simp [results, Tryz.results96, go_sem, k0, k1, k4]) rfl (RPosSPost.mk HF1.out HF2.out HFIN.out)
end Go.Proofs.YtlgajjlnbcbijaaGreatDoor
