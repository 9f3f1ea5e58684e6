/-
  The walk of the law AirwayCertifies.
-/
import Derived.Test.YtgnnblkpjankgaaGreatDoorMRCk
import Derived.Test.YtgnnblkpjankgaaGreatDoorAwAwake
namespace Go.Proofs.YtgnnblkpjankgaaGreatDoor
open Go.RowKit Go.Lib
set_option linter.unusedVariables false
set_option linter.unusedSimpArgs false
theorem OpenIs.ex (L : List Aw) (F : List Fx) (a b : Rf) : ∃ e, OpenIs L F a b e := by
  by_cases h1 : chkL L = 0
  · by_cases h2 : F.length ≤ 400
    · by_cases h3 : ∃ r ∈ a :: b :: allRefs L, findL F r = none
      · exact ⟨6, .inr (.inr (.inl ⟨h1, h2, h3, rfl⟩))⟩
      · have h4 : ∀ r ∈ a :: b :: allRefs L, findL F r ≠ none := fun r hr hn => h3 ⟨r, hr, hn⟩
        by_cases h5 : ∃ A ∈ L, ¬ SegOk F A.pts A.pts.length
        · exact ⟨1, .inr (.inr (.inr ⟨h1, h2, h4, .inl ⟨h5, rfl⟩⟩))⟩
        · refine ⟨0, .inr (.inr (.inr ⟨h1, h2, h4, .inr ⟨fun A hA => ?_, rfl⟩⟩))⟩
          by_cases h6 : SegOk F A.pts A.pts.length
          · exact h6
          · exact absurd ⟨A, hA, h6⟩ h5
    · exact ⟨3, .inr (.inl ⟨h1, by omega, rfl⟩)⟩
  · exact ⟨chkL L, .inl ⟨h1, rfl⟩⟩
set_option maxRecDepth 100000 in
set_option maxHeartbeats 8000000 in
theorem airwayCertifies_walk (v fv hv lv : Value) (L : List Aw) (F : List Fx) (a b : ByteArray) (n : Int) (hs : List Hp) (lb : List (Rf × Lb)) (w : World) (E : Env w) (h : AwsR w v L) (hf : FxsR w fv F) (hz : SzL F) (ha : a.size ≤ maxLen) (hb : b.size ≤ maxLen)
    (hh : RdH w hv hs) (hl : LbsR w lv lb) (hfl : ∀ x ∈ lb, x.1.length ≤ maxLen) (hfb : ∀ x ∈ lb, -9223372036854775808 ≤ x.2.1 ∧ x.2.1 ≤ 9223372036854775807) (hsz : hs.length + lb.length ≤ 1048576) :
    Calls Tryz.prog 3 #[v, fv, .agg #[.string a, .string b, hv, .int .i64 n, lv]] w fun e w' => e = .returned (.bool true) ∧ Below w.heap.size w w' := by
  obtain ⟨s, rfl⟩ : ∃ s, a = sb s := ⟨bl a, (sb_bl a).symm⟩
  obtain ⟨t, rfl⟩ : ∃ t, b = sb t := ⟨bl b, (sb_bl b).symm⟩
  obtain ⟨Ah, ch, rfl, _, _⟩ := hh.form
  obtain ⟨Al, cl, rfl, _, _⟩ := hl.form2
  obtain ⟨hn, hhe⟩ : ∃ k, hs.length = k := ⟨_, rfl⟩
  obtain ⟨ln, hle⟩ : ∃ k, lb.length = k := ⟨_, rfl⟩
  have H := Lib.hid h
  have HF := Lib.hid hf
  have HZ := Lib.hid hz
  have HH := Lib.hid hh
  have HL := Lib.hid hl
  have HFL := Lib.hid hfl
  have HFB := Lib.hid hfb
  have HS1 : Hid (hs.length ≤ 1048576) := by unfold Hid; omega
  have HS2 : Hid (lb.length ≤ 1048576) := by unfold Hid; omega
  rw [hhe] at HH ⊢
  rw [hle] at HL ⊢
  obtain ⟨er, hop⟩ := OpenIs.ex L F s t
  obtain ⟨X, hX⟩ : ∃ X : Int, (if er = 0 then ckWay (hopsL L) (wtF F) s t ⟨hs, n, lb⟩ else er) = X := ⟨_, rfl⟩
  obtain ⟨w0, hw0⟩ : ∃ W, w.alloc (.cells #[.string (sb s), .string (sb t), .slice Ah hn ch, .int .i64 n, .slice Al ln cl] 29) = W := ⟨_, rfl⟩
  have B0 : Hid (Below w.heap.size w w0) := by rw [← hw0]; exact (Below.refl _ _).alloc (Nat.le_refl _) _
  have C0 : Hid (w0.cell? ⟨w.heap.size, 0, none⟩ = some (.string (sb s)) ∧ w0.cell? ⟨w.heap.size, 1, none⟩ = some (.string (sb t)) ∧ w0.cell? ⟨w.heap.size, 2, none⟩ = some (.slice Ah hn ch) ∧ w0.cell? ⟨w.heap.size, 3, none⟩ = some (.int .i64 n) ∧ w0.cell? ⟨w.heap.size, 4, none⟩ = some (.slice Al ln cl) ∧ w.heap.size < w0.heap.size) := by rw [← hw0]; unfold Hid; simp [go_sem]
  have aw := fun q : BelBy w0 => (awake_any q.x (E.below (Below.then_ B0.out q.h)))
  have cw := fun q : BelBy w0 => (checkWay_any v fv (.slice Ah hn ch) (.slice Al ln cl) L F (sb s) (sb t) ⟨hs, n, lb⟩ q.x (H.out.below (Below.then_ B0.out q.h)) (HF.out.below (Below.then_ B0.out q.h)) HZ.out ha hb (HH.out.below (Below.then_ B0.out q.h)) (HL.out.below2 (Below.then_ B0.out q.h)) HFL.out HFB.out (by have := HS1.out; show hs.length ≤ _; omega) (by have := HS2.out; show lb.length ≤ _; omega)).mono
    (R' := fun e w' => e = .returned (.int .i64 X) ∧ Below q.x.heap.size q.x w') (by
      rintro e w' ⟨er2, hop2, he, hb2⟩
      rw [bl_sb, bl_sb] at hop2
      obtain rfl := OpenIs.uniq hop2 hop
      rw [bl_sb, bl_sb, hX] at he
      exact ⟨he, hb2⟩)
  have rw_ := fun q : BelBy w0 => (rcheckWay_any v fv (.slice Ah hn ch) (.slice Al ln cl) L F (sb s) (sb t) ⟨hs, n, lb⟩ q.x (H.out.below (Below.then_ B0.out q.h)) (HF.out.below (Below.then_ B0.out q.h)) HZ.out ha hb (HH.out.below (Below.then_ B0.out q.h)) (HL.out.below2 (Below.then_ B0.out q.h)) HFL.out HFB.out (by have := HS1.out; show hs.length ≤ _; omega) (by have := HS2.out; show lb.length ≤ _; omega)).mono
    (R' := fun e w' => e = .returned (.int .i64 X) ∧ Below q.x.heap.size q.x w') (by
      rintro e w' ⟨er2, hop2, he, hb2⟩
      rw [bl_sb, bl_sb] at hop2
      obtain rfl := OpenIs.uniq hop2 hop
      rw [bl_sb, bl_sb, hX] at he
      exact ⟨he, hb2⟩)
  have a0 := fun q : BelBy w0 => (q.h.cell (p := ⟨w.heap.size, 0, none⟩) C0.out.2.2.2.2.2).trans C0.out.1
  have a1 := fun q : BelBy w0 => (q.h.cell (p := ⟨w.heap.size, 1, none⟩) C0.out.2.2.2.2.2).trans C0.out.2.1
  have a2 := fun q : BelBy w0 => (q.h.cell (p := ⟨w.heap.size, 2, none⟩) C0.out.2.2.2.2.2).trans C0.out.2.2.1
  have a3 := fun q : BelBy w0 => (q.h.cell (p := ⟨w.heap.size, 3, none⟩) C0.out.2.2.2.2.2).trans C0.out.2.2.2.1
  have a4 := fun q : BelBy w0 => (q.h.cell (p := ⟨w.heap.size, 4, none⟩) C0.out.2.2.2.2.2).trans C0.out.2.2.2.2.1
  simp only at cw rw_
  have hmix := mixedD
  have hxx : (X == X) = true := beq_self_eq_true _
  clear h hf hz hh hl hfl hfb hsz hhe hle hop hX
  go_enter Tryz.func3, Tryz.ntmps3
  go_wp2_with fail
  try rw [hw0]
  clear hw0
  refine wp_region_quiet_bel (by assumption) (by kernel_rfl) ?_
  repeat (quiet_step (first | (go_at_call 7; exact Calls.bel_of (aw _)) | (go_at_call 8; exact Calls.bel_of (cw _)) | (go_at_call 9; exact Calls.bel_of (rw_ _))))
  refine wpQuiet_nil ?_
  rintro wz ⟨pw, hwz⟩
  have BZ : Hid (Below w.heap.size w wz) := by rw [hwz]; exact Below.then_ B0.out pw.h
  clear hwz pw a0 a1 a2 a3 a4 aw cw rw_
  go_wp2
  go_ret
  exact ⟨rfl, BZ.out⟩
end Go.Proofs.YtgnnblkpjankgaaGreatDoor
