/-
  Contracts: the diagnostic at the end of a record; both sides.
-/
import Derived.Test.YtempiooclhmeoaaGreatDoorScanS
namespace Go.Proofs.YtempiooclhmeoaaGreatDoor
open Go.RowKit
set_option linter.unusedVariables false
set_option linter.unusedSimpArgs false

def EndPost (s : Sc) (w : World) (e : Ending) (w' : World) : Prop := e = .returned (.tuple #[.agg #[.int .i64 s.endL, .int .i64 s.endC, .int .i64 s.endE], .bool s.endB]) ∧ Below w.heap.size w w'
theorem EndPost.mk {s : Sc} {w w' : World} {a b c : Int} {f : Bool} (h1 : s.endL = a) (h2 : s.endC = b) (h3 : s.endE = c) (h4 : s.endB = f) (h : Below w.heap.size w w') : EndPost s w (.returned (.tuple #[.agg #[.int .i64 a, .int .i64 b, .int .i64 c], .bool f])) w' := by
  subst h1 h2 h3 h4; exact ⟨rfl, h⟩
theorem end_bad {s : Sc} (h : s.bad = true) : s.endL = s.dl ∧ s.endC = s.dc ∧ s.endE = s.de ∧ s.endB = true := by
  unfold Sc.endL Sc.endC Sc.endE Sc.endB; rw [h]; exact ⟨rfl, rfl, rfl, rfl⟩
theorem end_more {s : Sc} (h : s.bad = false) (h2 : s.nx < s.fs.length) : s.endL = s.num ∧ s.endC = (fld s.fs s.nx).2 ∧ s.endE = 4 ∧ s.endB = true := by
  unfold Sc.endL Sc.endC Sc.endE Sc.endB; rw [h]; simp [h2]
theorem end_ok {s : Sc} (h : s.bad = false) (h2 : ¬ s.nx < s.fs.length) : s.endL = 0 ∧ s.endC = 0 ∧ s.endE = 0 ∧ s.endB = false := by
  unfold Sc.endL Sc.endC Sc.endE Sc.endB; rw [h]; simp [h2]
set_option maxRecDepth 100000 in
set_option maxHeartbeats 2000000 in
theorem endS_any (s : Sc) (g : Nat) (w : World) (h : ScP w g s) :
    Calls Tryz.prog 66 #[.pointer (some ⟨g, 0, none⟩)] w (EndPost s w) := by
  have H := Lib.hid h
  have hgs := h.lt
  obtain ⟨hn, v, hb, hf⟩ := h
  skip
  cases hbad : s.bad
  · have HB := Lib.hid hbad
    try rw [hbad] at c7
    by_cases hlt : s.nx < s.fs.length
    · have HE := Lib.hid (end_more hbad hlt)
      obtain ⟨b, o, c, rfl, hbl, hc0, hc1, hsz⟩ := hf.at_ hlt
      have hbn : b ≠ g := Nat.ne_of_lt hbl
      have hbw : b < w.heap.size := Nat.lt_trans hbl hgs
      have k0 : w.cell? ⟨g, 0, none⟩ = some (.int .i64 s.num) := blkCell hb 0 rfl
      have k1 : w.cell? ⟨g, 1, none⟩ = some (.slice (some ⟨b, o, none⟩) s.fs.length c) := blkCell hb 1 rfl
      have k2 : w.cell? ⟨g, 2, none⟩ = some (.int .i64 (s.nx : Int)) := blkCell hb 2 rfl
      obtain ⟨A', c', hv', hcn, hcm⟩ := fld_le hf
      simp only [Value.slice.injEq, true_and] at hv'
      obtain ⟨-, rfl⟩ := hv'
      obtain ⟨n, hnn⟩ : ∃ n, s.fs.length = n := ⟨_, rfl⟩
      obtain ⟨k, hkk⟩ : ∃ k, s.nx = k := ⟨_, rfl⟩
      obtain ⟨co, hco⟩ : ∃ t, (fld s.fs s.nx).2 = t := ⟨_, rfl⟩
      rw [hco] at hc1 HE
      rw [hkk] at hlt k2 hc1
      rw [hnn] at hlt hcn k1
      clear hnn hkk hco hb hf hn hbad hsz hc0
      have hki : (k : Int) < (n : Int) := by omega
      have hk0 : (0 : Int) ≤ (k : Int) := by omega
      have hknat : ((k : Int)).toNat = k := Int.toNat_natCast k
      go_enter Tryz.func66, Tryz.ntmps66
      go_wp2_with fail
      refine (failed_any s g _ (H.out.alloc _)).mono ?_
      rintro en w1 ⟨rfl, rfl⟩; rw [HB.out]
      go_wp2
      go_quiet (fail)
      go_wp2
      go_region
      go_wp2
      exact bodyPost_ret (v := .tuple #[.agg #[.int .i64 s.num, .int .i64 co, .int .i64 4], .bool true]) (by simp [results, Tryz.results66, go_sem]) rfl (EndPost.mk HE.out.1 HE.out.2.1 HE.out.2.2.1 HE.out.2.2.2 (by repeat (first | exact Below.refl _ _ | refine Below.setCell ?_ (by simp) _ | refine Below.drew ?_ | refine below_drewN' ?_ _ | refine Below.alloc ?_ (by simp) _)))
    · have HE := Lib.hid (end_ok hbad hlt)
      obtain ⟨A, c, rfl, hcn, hcm⟩ := fld_le hf
      have k1 : w.cell? ⟨g, 1, none⟩ = some (.slice A s.fs.length c) := blkCell hb 1 rfl
      have k2 : w.cell? ⟨g, 2, none⟩ = some (.int .i64 (s.nx : Int)) := blkCell hb 2 rfl
      obtain ⟨n, hnn⟩ : ∃ n, s.fs.length = n := ⟨_, rfl⟩
      obtain ⟨k, hkk⟩ : ∃ k, s.nx = k := ⟨_, rfl⟩
      rw [hkk] at k2 hlt
      rw [hnn] at hcn k1 hlt
      have hki : (n : Int) ≤ (k : Int) := by omega
      clear hnn hkk hb hf hn hbad hlt
      go_enter Tryz.func66, Tryz.ntmps66
      go_wp2_with fail
      refine (failed_any s g _ (H.out.alloc _)).mono ?_
      rintro en w1 ⟨rfl, rfl⟩; rw [HB.out]
      go_wp2
      go_quiet (fail)
      go_wp2
      exact bodyPost_ret (v := .tuple #[.agg #[.int .i64 0, .int .i64 0, .int .i64 0], .bool false]) (by simp [results, Tryz.results66, go_sem]) rfl (EndPost.mk HE.out.1 HE.out.2.1 HE.out.2.2.1 HE.out.2.2.2 (by repeat (first | exact Below.refl _ _ | refine Below.setCell ?_ (by simp) _ | refine Below.drew ?_ | refine below_drewN' ?_ _ | refine Below.alloc ?_ (by simp) _)))
  · have HE := Lib.hid (end_bad hbad)
    have HB := Lib.hid hbad
    try rw [hbad] at c7
    have k4 : w.cell? ⟨g, 4, none⟩ = some (.int .i64 s.dl) := blkCell hb 4 rfl
    have k5 : w.cell? ⟨g, 5, none⟩ = some (.int .i64 s.dc) := blkCell hb 5 rfl
    have k6 : w.cell? ⟨g, 6, none⟩ = some (.int .i64 s.de) := blkCell hb 6 rfl
    clear hbad hb hf hn
    go_enter Tryz.func66, Tryz.ntmps66
    go_wp2_with fail
    refine (failed_any s g _ (H.out.alloc _)).mono ?_
    rintro en w1 ⟨rfl, rfl⟩; rw [HB.out]
    go_wp2
    exact bodyPost_ret (v := .tuple #[.agg #[.int .i64 s.dl, .int .i64 s.dc, .int .i64 s.de], .bool true]) (by simp [results, Tryz.results66, go_sem]) rfl (EndPost.mk HE.out.1 HE.out.2.1 HE.out.2.2.1 HE.out.2.2.2 (by repeat (first | exact Below.refl _ _ | refine Below.setCell ?_ (by simp) _ | refine Below.drew ?_ | refine below_drewN' ?_ _ | refine Below.alloc ?_ (by simp) _)))
set_option maxRecDepth 100000 in
set_option maxHeartbeats 2000000 in
theorem rendS_any (s : Sc) (g : Nat) (w : World) (h : ScQ w g s) :
    Calls Tryz.prog 74 #[.pointer (some ⟨g, 0, none⟩)] w (EndPost s w) := by
  have H := Lib.hid h
  have hgs := h.lt
  obtain ⟨hn, v, hb, hf⟩ := h
  have c7 : w.cell? ⟨g, 7, none⟩ = some (.bool s.bad) := blkCell hb 7 rfl
  cases hbad : s.bad
  · have HB := Lib.hid hbad
    try rw [hbad] at c7
    by_cases hlt : s.nx < s.fs.length
    · have HE := Lib.hid (end_more hbad hlt)
      obtain ⟨b, o, c, rfl, hbl, hc0, hc1, hsz⟩ := hf.at_ hlt
      have hbn : b ≠ g := Nat.ne_of_lt hbl
      have hbw : b < w.heap.size := Nat.lt_trans hbl hgs
      have k0 : w.cell? ⟨g, 0, none⟩ = some (.int .i64 s.num) := blkCell hb 0 rfl
      have k1 : w.cell? ⟨g, 1, none⟩ = some (.slice (some ⟨b, o, none⟩) s.fs.length c) := blkCell hb 1 rfl
      have k2 : w.cell? ⟨g, 2, none⟩ = some (.int .i64 (s.nx : Int)) := blkCell hb 2 rfl
      obtain ⟨A', c', hv', hcn, hcm⟩ := fld_le hf
      simp only [Value.slice.injEq, true_and] at hv'
      obtain ⟨-, rfl⟩ := hv'
      obtain ⟨n, hnn⟩ : ∃ n, s.fs.length = n := ⟨_, rfl⟩
      obtain ⟨k, hkk⟩ : ∃ k, s.nx = k := ⟨_, rfl⟩
      obtain ⟨co, hco⟩ : ∃ t, (fld s.fs s.nx).2 = t := ⟨_, rfl⟩
      rw [hco] at hc1 HE
      rw [hkk] at hlt k2 hc1
      rw [hnn] at hlt hcn k1
      clear hnn hkk hco hb hf hn hbad hsz hc0
      have hki : (k : Int) < (n : Int) := by omega
      have hk0 : (0 : Int) ≤ (k : Int) := by omega
      have hknat : ((k : Int)).toNat = k := Int.toNat_natCast k
      go_enter Tryz.func74, Tryz.ntmps74
      go_wp2_with fail
      skip
      skip
      go_wp2
      go_quiet (fail)
      go_wp2
      go_region
      go_wp2
      exact bodyPost_ret (v := .tuple #[.agg #[.int .i64 s.num, .int .i64 co, .int .i64 4], .bool true]) (by simp [results, Tryz.results74, go_sem]) rfl (EndPost.mk HE.out.1 HE.out.2.1 HE.out.2.2.1 HE.out.2.2.2 (by repeat (first | exact Below.refl _ _ | refine Below.setCell ?_ (by simp) _ | refine Below.drew ?_ | refine below_drewN' ?_ _ | refine Below.alloc ?_ (by simp) _)))
    · have HE := Lib.hid (end_ok hbad hlt)
      obtain ⟨A, c, rfl, hcn, hcm⟩ := fld_le hf
      have k1 : w.cell? ⟨g, 1, none⟩ = some (.slice A s.fs.length c) := blkCell hb 1 rfl
      have k2 : w.cell? ⟨g, 2, none⟩ = some (.int .i64 (s.nx : Int)) := blkCell hb 2 rfl
      obtain ⟨n, hnn⟩ : ∃ n, s.fs.length = n := ⟨_, rfl⟩
      obtain ⟨k, hkk⟩ : ∃ k, s.nx = k := ⟨_, rfl⟩
      rw [hkk] at k2 hlt
      rw [hnn] at hcn k1 hlt
      have hki : (n : Int) ≤ (k : Int) := by omega
      clear hnn hkk hb hf hn hbad hlt
      go_enter Tryz.func74, Tryz.ntmps74
      go_wp2_with fail
      skip
      skip
      go_wp2
      go_quiet (fail)
      go_wp2
      exact bodyPost_ret (v := .tuple #[.agg #[.int .i64 0, .int .i64 0, .int .i64 0], .bool false]) (by simp [results, Tryz.results74, go_sem]) rfl (EndPost.mk HE.out.1 HE.out.2.1 HE.out.2.2.1 HE.out.2.2.2 (by repeat (first | exact Below.refl _ _ | refine Below.setCell ?_ (by simp) _ | refine Below.drew ?_ | refine below_drewN' ?_ _ | refine Below.alloc ?_ (by simp) _)))
  · have HE := Lib.hid (end_bad hbad)
    have HB := Lib.hid hbad
    try rw [hbad] at c7
    have k4 : w.cell? ⟨g, 4, none⟩ = some (.int .i64 s.dl) := blkCell hb 4 rfl
    have k5 : w.cell? ⟨g, 5, none⟩ = some (.int .i64 s.dc) := blkCell hb 5 rfl
    have k6 : w.cell? ⟨g, 6, none⟩ = some (.int .i64 s.de) := blkCell hb 6 rfl
    clear hbad hb hf hn
    go_enter Tryz.func74, Tryz.ntmps74
    go_wp2_with fail
    skip
    skip
    go_wp2
    exact bodyPost_ret (v := .tuple #[.agg #[.int .i64 s.dl, .int .i64 s.dc, .int .i64 s.de], .bool true]) (by simp [results, Tryz.results74, go_sem]) rfl (EndPost.mk HE.out.1 HE.out.2.1 HE.out.2.2.1 HE.out.2.2.2 (by repeat (first | exact Below.refl _ _ | refine Below.setCell ?_ (by simp) _ | refine Below.drew ?_ | refine below_drewN' ?_ _ | refine Below.alloc ?_ (by simp) _)))
end Go.Proofs.YtempiooclhmeoaaGreatDoor
