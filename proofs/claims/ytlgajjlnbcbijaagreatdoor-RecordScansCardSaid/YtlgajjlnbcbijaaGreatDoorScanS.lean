/-
  Contracts: a scanner at the first field of a record; both sides.
-/
import Derived.Test.YtlgajjlnbcbijaaGreatDoorScanE
import Derived.Deep.RegionHeld3
namespace Go.Proofs.YtlgajjlnbcbijaaGreatDoor
open Go.RowKit
set_option linter.unusedVariables false
set_option linter.unusedSimpArgs false

theorem infoFieldI : (Tryz.prog.info? 158).map (fun i => (i.zero, i.size, i.bytes)) = some (some (.agg #[.string ⟨#[]⟩, .int .i64 0]), 2, 24) := by kernel_rfl
theorem FsR.mono {w : World} {g g' : Nat} {v : Value} {fs : List FldI} (h : FsR w g v fs) (hg : g ≤ g') : FsR w g' v fs := by
  obtain ⟨A, c, hv, hc, hm, hf, hr⟩ := h
  refine ⟨A, c, hv, hc, hm, hf, fun h0 => ?_⟩
  obtain ⟨b, o, hA, hb, hx⟩ := hr h0
  exact ⟨b, o, hA, Nat.lt_of_lt_of_le hb hg, hx⟩
def ScanPost (num : Int) (fs : List FldI) (w : World) (e : Ending) (w' : World) : Prop :=
  ∃ g, e = .returned (.pointer (some ⟨g, 0, none⟩)) ∧ w.heap.size ≤ g ∧ ScP w' g (scan0 num fs) ∧ Below w.heap.size w w'
def RScanPost (num : Int) (fs : List FldI) (w : World) (e : Ending) (w' : World) : Prop :=
  ∃ g, e = .returned (.pointer (some ⟨g, 0, none⟩)) ∧ w.heap.size ≤ g ∧ ScQ w' g (scan0 num fs) ∧ Below w.heap.size w w'
set_option maxHeartbeats 1000000 in
theorem rscan_any (num : Int) (v : Value) (fs : List FldI) (w : World) (h : FsR w w.heap.size v fs) :
    Calls Tryz.prog 27 #[.agg #[.int .i64 num, v]] w (RScanPost num fs w) := by
  have H := Lib.hid h
  obtain ⟨A, c, rfl, hc, hm⟩ := fld_le h
  clear h
  have HFIN : Hid (∀ w', w' = (w.alloc (.cells #[.int .i64 num, .slice A fs.length c] 66)).alloc (.cells #[.int .i64 num, .slice A fs.length c, .int .i64 0, .int .i64 1, .int .i64 0, .int .i64 0, .int .i64 0, .bool false] 162) → RScanPost num fs w (.returned (.pointer (some ⟨w.heap.size + 1, 0, none⟩))) w') := by
    intro w' hw
    subst hw
    have hb : Below w.heap.size w ((w.alloc (.cells #[.int .i64 num, .slice A fs.length c] 66)).alloc (.cells #[.int .i64 num, .slice A fs.length c, .int .i64 0, .int .i64 1, .int .i64 0, .int .i64 0, .int .i64 0, .bool false] 162)) := ((Below.refl _ _).alloc (Nat.le_refl _) _).alloc (by simp) _
    refine ⟨_, rfl, by omega, ⟨Nat.zero_le _, _, ?_, (H.out.keep fun k hk => hb.block k hk).mono (by omega)⟩, hb⟩
    have := heap_alloc_new (w.alloc (.cells #[.int .i64 num, .slice A fs.length c] 66)) (.cells #[.int .i64 num, .slice A fs.length c, .int .i64 0, .int .i64 1, .int .i64 0, .int .i64 0, .int .i64 0, .bool false] 162)
    rw [show (w.alloc (.cells #[.int .i64 num, .slice A fs.length c] 66)).heap.size = w.heap.size + 1 by simp] at this
    exact this
  obtain ⟨n, hn⟩ : ∃ n, fs.length = n := ⟨_, rfl⟩
  rw [hn] at HFIN hc ⊢
  clear hn
  go_enter Tryz.func27, Tryz.ntmps27
  go_wp2
  go_ret
  exact HFIN.out _ rfl
/-- what Scan leaves: the record's box, the fields' copy, the scanner -/
theorem scan_post {num : Int} {fs : List FldI} {w w2 : World} {v : Value} {g : Nat} (hg : w2.heap.size = g) (hf : FsR w2 w2.heap.size v fs) (hb : Below w.heap.size w w2) :
    ScanPost num fs w (.returned (.pointer (some ⟨g, 0, none⟩))) (w2.alloc (.cells #[.int .i64 num, v, .int .i64 0, .int .i64 1, .int .i64 0, .int .i64 0, .int .i64 0] 160)) := by
  subst hg
  have hb2 := (Below.refl w2.heap.size w2).alloc (Nat.le_refl _) (.cells #[.int .i64 num, v, .int .i64 0, .int .i64 1, .int .i64 0, .int .i64 0, .int .i64 0] 160)
  exact ⟨_, rfl, hb.size, ⟨Nat.zero_le _, v, heap_alloc_new w2 _, hf.keep fun k hk => hb2.block k hk⟩, hb.trans (hb2.mono hb.size)⟩
theorem ScanPost.drew {num : Int} {fs : List FldI} {w w' : World} {e : Ending} (h : ScanPost num fs w e w') : ScanPost num fs w e w'.drew := by
  obtain ⟨g, he, hg, hs, hb⟩ := h
  exact ⟨g, he, hg, hs.drew, hb.drew⟩
theorem fsr_nil (w : World) (g : Nat) : FsR w g (.slice none 0 0) [] := ⟨none, 0, rfl, Nat.le_refl _, by unfold maxLen; omega, by simp, fun h => absurd h (by simp)⟩
set_option maxHeartbeats 2000000 in
theorem scan_zero (num : Int) (v : Value) (w : World) (h : FsR w w.heap.size v []) :
    Calls Tryz.prog 26 #[.agg #[.int .i64 num, v]] w (ScanPost num [] w) := by
  obtain ⟨i0, hi, hz0, hz1, hz2⟩ := info_parts infoFieldI
  obtain ⟨A, c, rfl, hc, hm⟩ := fld_le h
  clear h
  have hl : ([] : List FldI).length = 0 := rfl
  rw [hl] at hc ⊢
  cases A
  all_goals
    go_enter Tryz.func26, Tryz.ntmps26
    go_wp2
    go_region
    go_wp2
    go_ret
    exact (scan_post (w2 := w.alloc _) (by simp) (fsr_nil _ _) ((Below.refl _ _).alloc (Nat.le_refl _) _)).drew
set_option maxRecDepth 100000 in
set_option maxHeartbeats 2000000 in
theorem scan_some (num : Int) (v : Value) (fs : List FldI) (w : World) (h : FsR w w.heap.size v fs) (h0 : 0 < fs.length) (hN : fs.length ≤ 1000000000000) :
    Calls Tryz.prog 26 #[.agg #[.int .i64 num, v]] w (ScanPost num fs w) := by
  obtain ⟨i0, hi, hz0, hz1, hz2⟩ := info_parts infoFieldI
  have H := Lib.hid h
  obtain ⟨A, c, hv, hc, hm, hf, hr⟩ := h
  obtain ⟨b, o, rfl, hb, hx⟩ := hr h0
  subst hv
  unfold maxLen at hm
  obtain ⟨n, hn⟩ : ∃ n, fs.length = n := ⟨_, rfl⟩
  have HX := Lib.hid hx
  have hfl := ficells_len fs
  rw [hn] at hc h0 hfl hN ⊢
  have HFL := Lib.hid hfl
  have HN := Lib.hid hn
  have HF := Lib.hid hf
  have HSRC : Hid (∀ wx : World, Below w.heap.size w wx → ∀ j u, (ficells fs)[j]? = some u → wx.cell? ((⟨b, o, none⟩ : Addr).add j) = some u) := by
    intro wx hbx j u hu
    rw [Addr.add_lit]
    exact (hbx.cell (p := ⟨b, o + j, none⟩) hb).trans (HX.out j u hu)
  have HONE : Hid (∀ u ∈ ficells fs, u.oneCell' = true) := by
    intro u hu
    unfold ficells at hu
    rw [List.mem_flatMap] at hu
    obtain ⟨f, _, hu⟩ := hu
    simp at hu
    rcases hu with rfl | rfl <;> rfl
  clear hn hf hx hr hfl
  go_enter Tryz.func26, Tryz.ntmps26
  go_wp2
  go_region_held3 (fun wx => wx.cell? ⟨w.heap.size, 0, none⟩ = some (.int .i64 num) ∧ wx.cell? ⟨w.heap.size, 1, none⟩ = some (.slice (some ⟨b, o, none⟩) n c))
    (first
      | go_keep
      | (go_split_ands
         refine ⟨?_, ?_⟩
         · (rw [hgrow.cell_far _ (by simp) (by simp [Value.ownBlock])]; assumption)
         · (rw [hgrow.cell_far _ (by simp) (by simp [Value.ownBlock])]; assumption)))
    ((refine step_append_lies _ (by rfl) _ _ _ (by rfl) w.heap.size 158 i0 (.agg #[.string ⟨#[]⟩, .int .i64 0]) 2 24 Tryz.underlying61 hi hz0 hz1 hz2 rfl (by omega) (.slice none 0 0) 0 [] (by rfl) (World.ownsRow_nil _ _ _ _) ⟨b, o, none⟩ n c (ficells fs) (by rfl) HFL.out (by exact HSRC.out _ (by repeat (first | exact Below.refl _ _ | refine Below.drew ?_ | refine Below.alloc ?_ (by simp) _ | refine below_drewN' ?_ _))) HONE.out (by omega) (by unfold maxLen; omega) (by omega) (by simp) (w.heap.size + 1) (by simp) ?_; intro gg cap w2 hown2 hgrow hat hlt2))
  have HFS : Hid (FsR w2 w2.heap.size (.slice (some ⟨gg, 0, none⟩) n cap) fs) := by
    simp only [Nat.zero_add, List.nil_append] at hown2
    have h2 := hown2
    obtain ⟨_, ⟨h3, _⟩ | ⟨g', cap', cur, h3, _, _, hnc, hcm, _⟩⟩ := h2
    · simp at h3
    · simp only [Value.slice.injEq, true_and] at h3
      obtain ⟨_, rfl⟩ := h3
      refine ⟨_, cap, by rw [HN.out], by rw [HN.out]; exact hnc, hcm, HF.out, fun _ => ⟨gg, 0, rfl, hlt2, fun j u hu => ?_⟩⟩
      have hj : j < n * 2 := by
        rw [← HFL.out]; exact (List.getElem?_eq_some_iff.1 hu).1
      rw [Nat.zero_add, hown2.cellAt j hj]; exact hu
  have HBB : Hid (Below w.heap.size w w2) := ((((Below.refl w.heap.size w).alloc (Nat.le_refl _) (.cells #[.int .i64 num, .slice (some ⟨b, o, none⟩) n c] 66)).drew).grown hgrow (by simp) (fun j hj => by cases hj) : Below w.heap.size w w2)
  clear hown2 hgrow hat
  go_wp2
  go_ret
  exact scan_post rfl HFS.out HBB.out
theorem scan_any (num : Int) (v : Value) (fs : List FldI) (w : World) (h : FsR w w.heap.size v fs) (hN : fs.length ≤ 1000000000000) :
    Calls Tryz.prog 26 #[.agg #[.int .i64 num, v]] w (ScanPost num fs w) := by
  match fs, h, hN with
  | [], h, _ => exact scan_zero num v w h
  | f :: fs, h, hN => exact scan_some num v (f :: fs) w h (by simp) hN

def EndPost (s : Sc) (w : World) (e : Ending) (w' : World) : Prop := e = .returned (.tuple #[.agg #[.int .i64 s.endL, .int .i64 s.endC, .int .i64 s.endE], .bool s.endB]) ∧ Below w.heap.size w w'
theorem EndPost.mk {s : Sc} {w w' : World} {a b c : Int} {f : Bool} (h1 : s.endL = a) (h2 : s.endC = b) (h3 : s.endE = c) (h4 : s.endB = f) (h : Below w.heap.size w w') : EndPost s w (.returned (.tuple #[.agg #[.int .i64 a, .int .i64 b, .int .i64 c], .bool f])) w' := by
  subst h1 h2 h3 h4; exact ⟨rfl, h⟩
theorem end_bad {s : Sc} (h : s.bad = true) : s.endL = s.dl ∧ s.endC = s.dc ∧ s.endE = s.de ∧ s.endB = true := by
  unfold Sc.endL Sc.endC Sc.endE Sc.endB; rw [h]; exact ⟨rfl, rfl, rfl, rfl⟩
theorem end_more {s : Sc} (h : s.bad = false) (h2 : s.nx < s.fs.length) : s.endL = s.num ∧ s.endC = (fld s.fs s.nx).2 ∧ s.endE = 4 ∧ s.endB = true := by
  unfold Sc.endL Sc.endC Sc.endE Sc.endB; rw [h]; simp [h2]
theorem end_ok {s : Sc} (h : s.bad = false) (h2 : ¬ s.nx < s.fs.length) : s.endL = 0 ∧ s.endC = 0 ∧ s.endE = 0 ∧ s.endB = false := by
  unfold Sc.endL Sc.endC Sc.endE Sc.endB; rw [h]; simp [h2]
set_option maxRecDepth 100000 in
set_option maxHeartbeats 2000000 in
theorem endS_any (s : Sc) (g : Nat) (w : World) (h : ScP w g s) :
    Calls Tryz.prog 31 #[.pointer (some ⟨g, 0, none⟩)] w (EndPost s w) := by
  have H := Lib.hid h
  have hgs := h.lt
  obtain ⟨hn, v, hb, hf⟩ := h
  skip
  cases hbad : s.bad
  · have HB := Lib.hid hbad
    try rw [hbad] at c7
    by_cases hlt : s.nx < s.fs.length
    · have HE := Lib.hid (end_more hbad hlt)
      obtain ⟨b, o, c, rfl, hbl, hc0, hc1, hsz⟩ := hf.at_ hlt
      have hbn : b ≠ g := Nat.ne_of_lt hbl
      have hbw : b < w.heap.size := Nat.lt_trans hbl hgs
      have k0 : w.cell? ⟨g, 0, none⟩ = some (.int .i64 s.num) := blkCell hb 0 rfl
      have k1 : w.cell? ⟨g, 1, none⟩ = some (.slice (some ⟨b, o, none⟩) s.fs.length c) := blkCell hb 1 rfl
      have k2 : w.cell? ⟨g, 2, none⟩ = some (.int .i64 (s.nx : Int)) := blkCell hb 2 rfl
      obtain ⟨A', c', hv', hcn, hcm⟩ := fld_le hf
      simp only [Value.slice.injEq, true_and] at hv'
      obtain ⟨-, rfl⟩ := hv'
      obtain ⟨n, hnn⟩ : ∃ n, s.fs.length = n := ⟨_, rfl⟩
      obtain ⟨k, hkk⟩ : ∃ k, s.nx = k := ⟨_, rfl⟩
      obtain ⟨co, hco⟩ : ∃ t, (fld s.fs s.nx).2 = t := ⟨_, rfl⟩
      rw [hco] at hc1 HE
      rw [hkk] at hlt k2 hc1
      rw [hnn] at hlt hcn k1
      clear hnn hkk hco hb hf hn hbad hsz hc0
      have hki : (k : Int) < (n : Int) := by omega
      have hk0 : (0 : Int) ≤ (k : Int) := by omega
      have hknat : ((k : Int)).toNat = k := Int.toNat_natCast k
      go_enter Tryz.func31, Tryz.ntmps31
      go_wp2_with fail
      refine (failed_any s g _ (H.out.alloc _)).mono ?_
      rintro en w1 ⟨rfl, rfl⟩; rw [HB.out]
      go_wp2
      go_quiet (fail)
      go_wp2
      go_region
      go_wp2
      exact bodyPost_ret (v := .tuple #[.agg #[.int .i64 s.num, .int .i64 co, .int .i64 4], .bool true]) (by simp [results, Tryz.results31, go_sem]) rfl (EndPost.mk HE.out.1 HE.out.2.1 HE.out.2.2.1 HE.out.2.2.2 (by repeat (first | exact Below.refl _ _ | refine Below.setCell ?_ (by simp) _ | refine Below.drew ?_ | refine below_drewN' ?_ _ | refine Below.alloc ?_ (by simp) _)))
    · have HE := Lib.hid (end_ok hbad hlt)
      obtain ⟨A, c, rfl, hcn, hcm⟩ := fld_le hf
      have k1 : w.cell? ⟨g, 1, none⟩ = some (.slice A s.fs.length c) := blkCell hb 1 rfl
      have k2 : w.cell? ⟨g, 2, none⟩ = some (.int .i64 (s.nx : Int)) := blkCell hb 2 rfl
      obtain ⟨n, hnn⟩ : ∃ n, s.fs.length = n := ⟨_, rfl⟩
      obtain ⟨k, hkk⟩ : ∃ k, s.nx = k := ⟨_, rfl⟩
      rw [hkk] at k2 hlt
      rw [hnn] at hcn k1 hlt
      have hki : (n : Int) ≤ (k : Int) := by omega
      clear hnn hkk hb hf hn hbad hlt
      go_enter Tryz.func31, Tryz.ntmps31
      go_wp2_with fail
      refine (failed_any s g _ (H.out.alloc _)).mono ?_
      rintro en w1 ⟨rfl, rfl⟩; rw [HB.out]
      go_wp2
      go_quiet (fail)
      go_wp2
      exact bodyPost_ret (v := .tuple #[.agg #[.int .i64 0, .int .i64 0, .int .i64 0], .bool false]) (by simp [results, Tryz.results31, go_sem]) rfl (EndPost.mk HE.out.1 HE.out.2.1 HE.out.2.2.1 HE.out.2.2.2 (by repeat (first | exact Below.refl _ _ | refine Below.setCell ?_ (by simp) _ | refine Below.drew ?_ | refine below_drewN' ?_ _ | refine Below.alloc ?_ (by simp) _)))
  · have HE := Lib.hid (end_bad hbad)
    have HB := Lib.hid hbad
    try rw [hbad] at c7
    have k4 : w.cell? ⟨g, 4, none⟩ = some (.int .i64 s.dl) := blkCell hb 4 rfl
    have k5 : w.cell? ⟨g, 5, none⟩ = some (.int .i64 s.dc) := blkCell hb 5 rfl
    have k6 : w.cell? ⟨g, 6, none⟩ = some (.int .i64 s.de) := blkCell hb 6 rfl
    clear hbad hb hf hn
    go_enter Tryz.func31, Tryz.ntmps31
    go_wp2_with fail
    refine (failed_any s g _ (H.out.alloc _)).mono ?_
    rintro en w1 ⟨rfl, rfl⟩; rw [HB.out]
    go_wp2
    exact bodyPost_ret (v := .tuple #[.agg #[.int .i64 s.dl, .int .i64 s.dc, .int .i64 s.de], .bool true]) (by simp [results, Tryz.results31, go_sem]) rfl (EndPost.mk HE.out.1 HE.out.2.1 HE.out.2.2.1 HE.out.2.2.2 (by repeat (first | exact Below.refl _ _ | refine Below.setCell ?_ (by simp) _ | refine Below.drew ?_ | refine below_drewN' ?_ _ | refine Below.alloc ?_ (by simp) _)))
set_option maxRecDepth 100000 in
set_option maxHeartbeats 2000000 in
theorem rendS_any (s : Sc) (g : Nat) (w : World) (h : ScQ w g s) :
    Calls Tryz.prog 32 #[.pointer (some ⟨g, 0, none⟩)] w (EndPost s w) := by
  have H := Lib.hid h
  have hgs := h.lt
  obtain ⟨hn, v, hb, hf⟩ := h
  have c7 : w.cell? ⟨g, 7, none⟩ = some (.bool s.bad) := blkCell hb 7 rfl
  cases hbad : s.bad
  · have HB := Lib.hid hbad
    try rw [hbad] at c7
    by_cases hlt : s.nx < s.fs.length
    · have HE := Lib.hid (end_more hbad hlt)
      obtain ⟨b, o, c, rfl, hbl, hc0, hc1, hsz⟩ := hf.at_ hlt
      have hbn : b ≠ g := Nat.ne_of_lt hbl
      have hbw : b < w.heap.size := Nat.lt_trans hbl hgs
      have k0 : w.cell? ⟨g, 0, none⟩ = some (.int .i64 s.num) := blkCell hb 0 rfl
      have k1 : w.cell? ⟨g, 1, none⟩ = some (.slice (some ⟨b, o, none⟩) s.fs.length c) := blkCell hb 1 rfl
      have k2 : w.cell? ⟨g, 2, none⟩ = some (.int .i64 (s.nx : Int)) := blkCell hb 2 rfl
      obtain ⟨A', c', hv', hcn, hcm⟩ := fld_le hf
      simp only [Value.slice.injEq, true_and] at hv'
      obtain ⟨-, rfl⟩ := hv'
      obtain ⟨n, hnn⟩ : ∃ n, s.fs.length = n := ⟨_, rfl⟩
      obtain ⟨k, hkk⟩ : ∃ k, s.nx = k := ⟨_, rfl⟩
      obtain ⟨co, hco⟩ : ∃ t, (fld s.fs s.nx).2 = t := ⟨_, rfl⟩
      rw [hco] at hc1 HE
      rw [hkk] at hlt k2 hc1
      rw [hnn] at hlt hcn k1
      clear hnn hkk hco hb hf hn hbad hsz hc0
      have hki : (k : Int) < (n : Int) := by omega
      have hk0 : (0 : Int) ≤ (k : Int) := by omega
      have hknat : ((k : Int)).toNat = k := Int.toNat_natCast k
      go_enter Tryz.func32, Tryz.ntmps32
      go_wp2_with fail
      skip
      skip
      go_wp2
      go_quiet (fail)
      go_wp2
      go_region
      go_wp2
      exact bodyPost_ret (v := .tuple #[.agg #[.int .i64 s.num, .int .i64 co, .int .i64 4], .bool true]) (by simp [results, Tryz.results32, go_sem]) rfl (EndPost.mk HE.out.1 HE.out.2.1 HE.out.2.2.1 HE.out.2.2.2 (by repeat (first | exact Below.refl _ _ | refine Below.setCell ?_ (by simp) _ | refine Below.drew ?_ | refine below_drewN' ?_ _ | refine Below.alloc ?_ (by simp) _)))
    · have HE := Lib.hid (end_ok hbad hlt)
      obtain ⟨A, c, rfl, hcn, hcm⟩ := fld_le hf
      have k1 : w.cell? ⟨g, 1, none⟩ = some (.slice A s.fs.length c) := blkCell hb 1 rfl
      have k2 : w.cell? ⟨g, 2, none⟩ = some (.int .i64 (s.nx : Int)) := blkCell hb 2 rfl
      obtain ⟨n, hnn⟩ : ∃ n, s.fs.length = n := ⟨_, rfl⟩
      obtain ⟨k, hkk⟩ : ∃ k, s.nx = k := ⟨_, rfl⟩
      rw [hkk] at k2 hlt
      rw [hnn] at hcn k1 hlt
      have hki : (n : Int) ≤ (k : Int) := by omega
      clear hnn hkk hb hf hn hbad hlt
      go_enter Tryz.func32, Tryz.ntmps32
      go_wp2_with fail
      skip
      skip
      go_wp2
      go_quiet (fail)
      go_wp2
      exact bodyPost_ret (v := .tuple #[.agg #[.int .i64 0, .int .i64 0, .int .i64 0], .bool false]) (by simp [results, Tryz.results32, go_sem]) rfl (EndPost.mk HE.out.1 HE.out.2.1 HE.out.2.2.1 HE.out.2.2.2 (by repeat (first | exact Below.refl _ _ | refine Below.setCell ?_ (by simp) _ | refine Below.drew ?_ | refine below_drewN' ?_ _ | refine Below.alloc ?_ (by simp) _)))
  · have HE := Lib.hid (end_bad hbad)
    have HB := Lib.hid hbad
    try rw [hbad] at c7
    have k4 : w.cell? ⟨g, 4, none⟩ = some (.int .i64 s.dl) := blkCell hb 4 rfl
    have k5 : w.cell? ⟨g, 5, none⟩ = some (.int .i64 s.dc) := blkCell hb 5 rfl
    have k6 : w.cell? ⟨g, 6, none⟩ = some (.int .i64 s.de) := blkCell hb 6 rfl
    clear hbad hb hf hn
    go_enter Tryz.func32, Tryz.ntmps32
    go_wp2_with fail
    skip
    skip
    go_wp2
    exact bodyPost_ret (v := .tuple #[.agg #[.int .i64 s.dl, .int .i64 s.dc, .int .i64 s.de], .bool true]) (by simp [results, Tryz.results32, go_sem]) rfl (EndPost.mk HE.out.1 HE.out.2.1 HE.out.2.2.1 HE.out.2.2.2 (by repeat (first | exact Below.refl _ _ | refine Below.setCell ?_ (by simp) _ | refine Below.drew ?_ | refine below_drewN' ?_ _ | refine Below.alloc ?_ (by simp) _)))
end Go.Proofs.YtlgajjlnbcbijaaGreatDoor
