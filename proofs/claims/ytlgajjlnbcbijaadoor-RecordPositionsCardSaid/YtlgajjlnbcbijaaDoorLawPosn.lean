/-
  The walk of the law RecordPositions.
-/
import Derived.Test.YtlgajjlnbcbijaaDoorScanD
import Derived.Test.YtlgajjlnbcbijaaDoorAngTxP
import Derived.Test.YtlgajjlnbcbijaaDoorAwake
import Derived.Deep.RegionHeld3
namespace Go.Proofs.YtlgajjlnbcbijaaDoor
open Go.RowKit
set_option linter.unusedVariables false
set_option linter.unusedSimpArgs false

def posFs (t : List UInt8) : List FldI := [(t, 1)]
theorem posn_tk {t : List UInt8} (he : posPErr t = 0) : ((scan0 1 (posFs t)).tk posPErr).endB = false ∧ ((scan0 1 (posFs t)).tk posPErr).left = 0 ∧ (scan0 1 (posFs t)).tv 0 posPLat = posPLat t ∧ (scan0 1 (posFs t)).tv 0 posPLon = posPLon t := by
  have hg : (scan0 1 (posFs t)).got = true := by unfold Sc.got; rfl
  have hx : (scan0 1 (posFs t)).text = t := by unfold Sc.text; rw [if_pos hg]; rfl
  have hk : (scan0 1 (posFs t)).tk posPErr = (scan0 1 (posFs t)).take := by rw [Sc.tk_got hg, hx, he, Sc.note_zero]
  rw [hk, Sc.take_got hg, Sc.tv_got hg, Sc.tv_got hg, hx]
  exact ⟨rfl, rfl, rfl, rfl⟩
theorem fsr_one (w : World) (t : ByteArray) (ht : t.size ≤ maxLen) (T : TypeId) : FsR (w.alloc (.cells #[.string t, .int .i64 1] T)) (w.alloc (.cells #[.string t, .int .i64 1] T)).heap.size (.slice (some ⟨w.heap.size, 0, none⟩) 1 1) (posFs (bl t)) := by
  refine ⟨_, _, rfl, Nat.le_refl _, by unfold maxLen; decide, fun f hf => ?_, fun _ => ⟨w.heap.size, 0, rfl, by simp, fun j u hu => ?_⟩⟩
  · unfold posFs at hf; rw [List.mem_singleton] at hf; subst hf; exact ht
  · unfold posFs ficells at hu
    match j, hu with
    | 0, hu => simp at hu; subst hu; rw [sb_bl]; simp [go_sem]
    | 1, hu => simp at hu; subst hu; simp [go_sem]
    | j + 2, hu => simp at hu
set_option maxRecDepth 100000 in
set_option maxHeartbeats 4000000 in
theorem recordPositions_walk (a b : Int) (w : World) (E : Env w) :
    Calls Tryd.prog 3 #[.agg #[.int .i64 a, .int .i64 b]] w fun e w' => e = .returned (.bool true) ∧ Below w.heap.size w w' := by
  have K0 : Hid (Below w.heap.size w (w.alloc (.cells #[.int .i64 a, .int .i64 b] 23))) := (Below.refl _ _).alloc (Nat.le_refl _) _
  have P0 : Hid ((w.alloc (.cells #[.int .i64 a, .int .i64 b] 23)).heap[w.heap.size]? = some (.cells #[.int .i64 a, .int .i64 b] 23 (0, 0))) := heap_alloc_new w _
  go_enter Tryd.func3, Tryd.ntmps3
  go_wp2_with fail
  refine (awake_any _ (E.alloc _)).mono ?_
  rintro e w1 ⟨rfl, hb1⟩
  have HB1 := Lib.hid (Below.then_ K0.out hb1)
  have P1 : Hid (w1.heap[w.heap.size]? = some (.cells #[.int .i64 a, .int .i64 b] 23 (0, 0))) := (hb1.block _ (by simp)).trans P0.out
  have c0 : w1.cell? ⟨w.heap.size, 0, none⟩ = some (.int .i64 a) := blkCell P1.out 0 rfl
  have c1 : w1.cell? ⟨w.heap.size, 1, none⟩ = some (.int .i64 b) := blkCell P1.out 1 rfl
  clear hb1 P0
  go_wp2_with fail
  refine (posText_any a b _).mono ?_
  rintro e w2 ⟨t, rfl, ht, hb2⟩
  have P2 : Hid (w2.heap[w.heap.size]? = some (.cells #[.int .i64 a, .int .i64 b] 23 (0, 0))) := (hb2.block _ (Array.getElem?_eq_some_iff.1 P1.out).1).trans P1.out
  have HB2 := Lib.hid (Below.then_ HB1.out hb2)
  clear hb2 c0 c1 P1
  cases hB : posB a b
  · have he : posErr a b = 2 := by unfold posErr; rw [hB]; rfl
    rw [he]
    clear he hB
    go_wp2
    go_ret
    exact ⟨rfl, HB2.out⟩
  · have he : posErr a b = 0 := by unfold posErr; rw [hB]; rfl
    rw [he]
    have hpb := pos_back hB
    rw [← ht.out] at hpb
    obtain ⟨h1, h2, h3⟩ := hpb
    have hl : t.size = 19 := by
      rw [← bl_len]
      unfold posPErr at h1
      split at h1
      · assumption
      · cases h1
    obtain ⟨k1, k2, k3, k4⟩ := posn_tk h1
    rw [h2] at k3
    rw [h3] at k4
    have HK1 := Lib.hid k1
    have HK2 := Lib.hid k2
    have HK3 := Lib.hid k3
    have HK4 := Lib.hid k4
    have HSZ : Hid (t.size ≤ maxLen) := by unfold Hid maxLen; omega
    have HTX : Hid ((scan0 1 (posFs (bl t))).text.length ≤ 140737488351232) := by
      have hx : (scan0 1 (posFs (bl t))).text = bl t := by
        have hg : (scan0 1 (posFs (bl t))).got = true := by unfold Sc.got; rfl
        unfold Sc.text; rw [if_pos hg]; rfl
      unfold Hid; rw [hx, bl_len, hl]; decide
    have HFS := Lib.hid (fsr_one w2 t HSZ.out 31)
    have K2 : Hid (Below w2.heap.size w2 (w2.alloc (.cells #[.string t, .int .i64 1] 31))) := (Below.refl _ _).alloc (Nat.le_refl _) _
    clear he hB h1 h2 h3 hl k1 k2 k3 k4
    go_wp2_with fail
    refine (scan_any 1 _ (posFs (bl t)) _ HFS.out (by unfold posFs; simp)).mono ?_
    rintro e w3 ⟨g, rfl, hg, hsc, hb3⟩
    obtain ⟨s, hs⟩ : ∃ s, scan0 1 (posFs (bl t)) = s := ⟨_, rfl⟩
    rw [hs] at hsc HK1 HK2 HK3 HK4 HTX
    have HB3 := Lib.hid (Below.then_ K2.out hb3)
    have P3 : Hid (w3.heap[w.heap.size]? = some (.cells #[.int .i64 a, .int .i64 b] 23 (0, 0))) := (HB3.out.block _ (Array.getElem?_eq_some_iff.1 P2.out).1).trans P2.out
    have HG : Hid (w2.heap.size ≤ g) := Nat.le_trans K2.out.size hg
    have HSC := Lib.hid hsc
    clear hs hb3 hsc hg HFS
    go_wp2_with fail
    refine (posS_any s g _ HTX.out HSC.out).mono ?_
    rintro e w4 ⟨rfl, hp⟩
    rw [HK3.out, HK4.out]
    have hwg : w.heap.size < w2.heap.size := (Array.getElem?_eq_some_iff.1 P2.out).1
    have P4 : Hid (w4.heap[w.heap.size]? = some (.cells #[.int .i64 a, .int .i64 b] 23 (0, 0))) := (hp.2.block _ (Array.getElem?_eq_some_iff.1 P3.out).1 (by intro e; injection e with e; have := HG.out; omega)).trans P3.out
    have HB4 : Hid (Below w.heap.size w w4) := hp.2.below (Below.then_ HB2.out HB3.out) (by have := HG.out; omega) (by have := (Below.then_ HB2.out HB3.out).size; omega)
    have S4 : Hid (ScP (w4.alloc (.cells #[.int .i64 a, .int .i64 b] 23)) g (s.tk posPErr)) := hp.1.alloc _
    have P5 : Hid ((w4.alloc (.cells #[.int .i64 a, .int .i64 b] 23)).heap[w.heap.size]? = some (.cells #[.int .i64 a, .int .i64 b] 23 (0, 0))) := (((Below.refl _ _).alloc (Nat.le_refl _) _ : Below w4.heap.size w4 _).block _ (Array.getElem?_eq_some_iff.1 P4.out).1).trans P4.out
    have Q5 : Hid ((w4.alloc (.cells #[.int .i64 a, .int .i64 b] 23)).heap[w4.heap.size]? = some (.cells #[.int .i64 a, .int .i64 b] 23 (0, 0))) := heap_alloc_new w4 _
    have HB5 : Hid (Below w.heap.size w (w4.alloc (.cells #[.int .i64 a, .int .i64 b] 23))) := HB4.out.alloc HB4.out.size _
    clear hp hwg HB4 P4 P3 HB3 K2 HB2 P2
    go_wp2_with fail
    refine (endS_any _ g _ S4.out).mono ?_
    rintro e w6 ⟨rfl, hb⟩
    rw [HK1.out]
    have c0 : w6.cell? ⟨w.heap.size, 0, none⟩ = some (.int .i64 a) := blkCell ((hb.block _ (Array.getElem?_eq_some_iff.1 P5.out).1).trans P5.out) 0 rfl
    have c1 : w6.cell? ⟨w.heap.size, 1, none⟩ = some (.int .i64 b) := blkCell ((hb.block _ (Array.getElem?_eq_some_iff.1 P5.out).1).trans P5.out) 1 rfl
    have d0 : w6.cell? ⟨w4.heap.size, 0, none⟩ = some (.int .i64 a) := blkCell ((hb.block _ (Array.getElem?_eq_some_iff.1 Q5.out).1).trans Q5.out) 0 rfl
    have d1 : w6.cell? ⟨w4.heap.size, 1, none⟩ = some (.int .i64 b) := blkCell ((hb.block _ (Array.getElem?_eq_some_iff.1 Q5.out).1).trans Q5.out) 1 rfl
    have S6 := Lib.hid (S4.out.below hb)
    have HB6 := Lib.hid (Below.then_ HB5.out hb)
    have hl1 : w.heap.size < w6.heap.size := Nat.lt_of_lt_of_le (Array.getElem?_eq_some_iff.1 P5.out).1 hb.size
    have hl2 : w4.heap.size < w6.heap.size := Nat.lt_of_lt_of_le (Array.getElem?_eq_some_iff.1 Q5.out).1 hb.size
    have HKL : Hid ((((s.tk posPErr).left : Nat) : Int) = 0) := by unfold Hid; rw [HK2.out]; rfl
    have S7 := Lib.hid (S6.out.alloc (.cells #[.int .i64 (s.tk posPErr).endL, .int .i64 (s.tk posPErr).endC, .int .i64 (s.tk posPErr).endE] 37))
    have HB7 := Lib.hid (HB6.out.alloc HB6.out.size (.cells #[.int .i64 (s.tk posPErr).endL, .int .i64 (s.tk posPErr).endC, .int .i64 (s.tk posPErr).endE] 37))
    clear hb P5 Q5 S4 HB5 S6 HB6
    go_wp2_with fail
    refine (left_any _ g _ S7.out).mono ?_
    rintro e w7 ⟨rfl, hd⟩
    rw [HKL.out]
    have HB8 := Lib.hid (Below.then_ HB7.out hd.below)
    clear hd
    go_wp2
    go_ret
    exact ⟨rfl, HB8.out⟩
end Go.Proofs.YtlgajjlnbcbijaaDoor
