/-
  The walk of the law AirwayShortest.
-/
import Derived.Test.YtgnnblkpjankgaaGreatDoorMRSh
import Derived.Test.YtgnnblkpjankgaaGreatDoorAwNext
import Derived.Test.YtgnnblkpjankgaaGreatDoorAwAwake
namespace Go.Proofs.YtgnnblkpjankgaaGreatDoor
open Go.RowKit Go.Lib
set_option linter.unusedVariables false
set_option linter.unusedSimpArgs false
theorem LbsR.at3 {w : World} {v : Value} {l : List (Rf × Lb)} (h : LbsR w v l) {k : Nat} (hk : k < l.length) :
    ∃ g o c, v = .slice (some ⟨g, o, none⟩) l.length c ∧ g < w.heap.size ∧ w.cell? ⟨g, o + k * 3, none⟩ = some (.string (sb l[k].1)) ∧ w.cell? ⟨g, o + k * 3 + 1, none⟩ = some (.int .i64 l[k].2.1) ∧ w.cell? ⟨g, o + k * 3 + 2, none⟩ = some (.int .i64 l[k].2.2) := by
  obtain ⟨hl, A, c, hv, hc, hm, hr⟩ := h
  obtain ⟨g, o, rfl, hg, hx⟩ := hr (by omega)
  obtain ⟨h0, h1, h2⟩ := lbcells_at l k hk
  exact ⟨g, o, c, hv, hg, hx _ _ h0, hx _ _ h1, hx _ _ h2⟩
theorem LbsR.form3 {w : World} {v : Value} {l : List (Rf × Lb)} (h : LbsR w v l) : ∃ A c, v = .slice A l.length c ∧ l.length ≤ c ∧ c ≤ maxLen := Rd.form h
theorem LbsR.below3 {w w' : World} {v : Value} {l : List (Rf × Lb)} (h : LbsR w v l) (hb : Below w.heap.size w w') : LbsR w' v l := Rd.below h hb
theorem LbsR.nil3 (w : World) : LbsR w (.slice none 0 0) [] := Rd.nil w 3
set_option maxRecDepth 100000 in
set_option maxHeartbeats 4000000 in
/-- equal ways -/
theorem ways_same (ha hb la lb : Value) (x : Int) (l : List Hp) (q : List (Rf × Lb)) (w : World) (h1 : HpsR w ha l) (h2 : HpsR w hb l) (h3 : LbsR w la q) (h4 : LbsR w lb q) :
    Calls Tryz.prog 12 #[.agg #[ha, .int .i64 x, la], .agg #[hb, .int .i64 x, lb]] w fun e w' => e = .returned (.bool true) ∧ Below w.heap.size w w' := by
  obtain ⟨Ah, ch, rfl, _, _⟩ := h1.form
  obtain ⟨Bh, dh, rfl, _, _⟩ := h2.form
  obtain ⟨Al, cl, rfl, hcl, hclm⟩ := h3.form3
  obtain ⟨Bl, dl, rfl, hdl, hdlm⟩ := h4.form3
  unfold maxLen at hclm hdlm
  obtain ⟨n, hn⟩ : ∃ n, q.length = n := ⟨_, rfl⟩
  have HN := Lib.hid hn
  rw [hn] at h3 h4 hcl hdl ⊢
  obtain ⟨m, hm⟩ : ∃ n, l.length = n := ⟨_, rfl⟩
  rw [hm] at h1 h2 ⊢
  have H1 := Lib.hid h1
  have H2 := Lib.hid h2
  have H3 := Lib.hid h3
  have H4 := Lib.hid h4
  obtain ⟨w0, hw0⟩ : ∃ W, (w.alloc (.cells #[.slice Ah m ch, .int .i64 x, .slice Al n cl] 27)).alloc (.cells #[.slice Bh m dh, .int .i64 x, .slice Bl n dl] 27) = W := ⟨_, rfl⟩
  have B0 : Hid (Below w.heap.size w w0) := by rw [← hw0]; exact ((Below.refl _ _).alloc (Nat.le_refl _) _).alloc (by simp) _
  have C0 : Hid (w0.cell? ⟨w.heap.size, 0, none⟩ = some (.slice Ah m ch) ∧ w0.cell? ⟨w.heap.size, 1, none⟩ = some (.int .i64 x) ∧ w0.cell? ⟨w.heap.size, 2, none⟩ = some (.slice Al n cl) ∧ w0.cell? ⟨w.heap.size + 1, 0, none⟩ = some (.slice Bh m dh) ∧ w0.cell? ⟨w.heap.size + 1, 1, none⟩ = some (.int .i64 x) ∧ w0.cell? ⟨w.heap.size + 1, 2, none⟩ = some (.slice Bl n dl)) := by rw [← hw0]; unfold Hid; simp [go_sem]
  clear h1 h2 h3 h4 hn hm
  obtain ⟨c0, c1, c2, d0, d1, d2⟩ := C0.out
  have hnn : ((n : Int) != (n : Int)) = false := by simp
  have hxx : (x != x) = false := by simp
  go_enter Tryz.func12, Tryz.ntmps12
  go_wp2_with fail
  try rw [hw0]
  refine (hops_same _ _ l _ (H1.out.below B0.out) (H2.out.below B0.out)).mono ?_
  rintro e w1 ⟨rfl, q1, rfl⟩
  clear hw0
  go_wp2_with fail
  go_loopw [31] (fun i wr => ∃ k : Nat, k ≤ n ∧ i = .int .i64 k ∧ Drawn w0 wr) (fun i _ => n - (intOf i).toNat)
  case atStart => exact ⟨0, Nat.zero_le _, by first | rfl | go_num, _, rfl⟩
  case round =>
    obtain ⟨k, hk, rfl, m1, rfl⟩ := hrel
    by_cases hlt : k < n
    · have hkl : k < q.length := by rw [HN.out]; exact hlt
      obtain ⟨g, o, cx, hv, hg, y1, y2, y3⟩ := (H3.out.below3 B0.out).at3 hkl
      obtain ⟨g', o', cx', hv', hg', y1', y2', y3'⟩ := (H4.out.below3 B0.out).at3 hkl
      rw [HN.out] at hv hv'
      simp only [Value.slice.injEq, true_and] at hv hv'
      obtain ⟨rfl, rfl⟩ := hv
      obtain ⟨rfl, rfl⟩ := hv'
      obtain ⟨p, hp⟩ : ∃ p, q[k] = p := ⟨_, rfl⟩
      rw [hp] at y1 y2 y3 y1' y2' y3'
      clear hp hkl hg hg'
      have hki : (k : Int) < (n : Int) := by omega
      go_wp2
      go_quiet (fail)
      go_wp2
      go_roundw
      case rel => exact ⟨k + 1, hlt, by go_num, _, rfl⟩
      case measure => simp [intOf]; omega
    · go_wp2
      go_ret
      exact ⟨rfl, below_drewN' B0.out _⟩
set_option maxRecDepth 100000 in
set_option maxHeartbeats 8000000 in
theorem airwayShortest_walk (v fv : Value) (L : List Aw) (F : List Fx) (a b : ByteArray) (w : World) (E : Env w) (h : AwsR w v L) (hf : FxsR w fv F) (hz : SzL F) (ha : a.size ≤ maxLen) (hb : b.size ≤ maxLen) :
    Calls Tryz.prog 4 #[v, fv, .agg #[.string a, .string b]] w fun e w' => e = .returned (.bool true) ∧ Below w.heap.size w w' := by
  have H := Lib.hid h
  have HF := Lib.hid hf
  have HZ := Lib.hid hz
  obtain ⟨s, rfl⟩ : ∃ s, a = sb s := ⟨bl a, (sb_bl a).symm⟩
  obtain ⟨t, rfl⟩ : ∃ t, b = sb t := ⟨bl b, (sb_bl b).symm⟩
  have hsl : s.length ≤ maxLen := ha
  have htl : t.length ≤ maxLen := hb
  obtain ⟨w0, hw0⟩ : ∃ W, w.alloc (.cells #[.string (sb s), .string (sb t)] 35) = W := ⟨_, rfl⟩
  have B0 : Hid (Below w.heap.size w w0) := by rw [← hw0]; exact (Below.refl _ _).alloc (Nat.le_refl _) _
  have C0 : Hid (w0.cell? ⟨w.heap.size, 0, none⟩ = some (.string (sb s)) ∧ w0.cell? ⟨w.heap.size, 1, none⟩ = some (.string (sb t)) ∧ w.heap.size < w0.heap.size) := by rw [← hw0]; unfold Hid; simp [go_sem]
  clear h hf hz
  go_enter Tryz.func4, Tryz.ntmps4
  go_wp2_with fail
  try rw [hw0]
  clear hw0
  refine (awake_any _ (E.below B0.out)).mono ?_
  rintro e w1 ⟨rfl, hb1⟩
  have B1 := Lib.hid (Below.then_ B0.out hb1)
  have C1 : Hid (w1.cell? ⟨w.heap.size, 0, none⟩ = some (.string (sb s)) ∧ w1.cell? ⟨w.heap.size, 1, none⟩ = some (.string (sb t)) ∧ w.heap.size < w1.heap.size) :=
    ⟨(hb1.cell (p := ⟨w.heap.size, 0, none⟩) C0.out.2.2).trans C0.out.1, (hb1.cell (p := ⟨w.heap.size, 1, none⟩) C0.out.2.2).trans C0.out.2.1, Nat.lt_of_lt_of_le C0.out.2.2 hb1.size⟩
  clear B0 C0 hb1
  obtain ⟨c0, c1, clt⟩ := C1.out
  go_wp2_with fail
  refine (shortest_any v fv L F (sb s) (sb t) _ (H.out.below B1.out) (HF.out.below B1.out) HZ.out ha hb).mono ?_
  rintro e w2 ⟨f, hv, lv, m, er, rfl, hb2, hpost⟩
  rw [bl_sb, bl_sb] at hpost
  have B2 := Lib.hid (Below.then_ B1.out hb2)
  have C2 : Hid (w2.cell? ⟨w.heap.size, 0, none⟩ = some (.string (sb s)) ∧ w2.cell? ⟨w.heap.size, 1, none⟩ = some (.string (sb t)) ∧ w.heap.size < w2.heap.size) :=
    ⟨(hb2.cell (p := ⟨w.heap.size, 0, none⟩) clt).trans c0, (hb2.cell (p := ⟨w.heap.size, 1, none⟩) clt).trans c1, Nat.lt_of_lt_of_le clt hb2.size⟩
  clear c0 c1 clt C1 B1 hb2
  -- what the program has found: hops, length, labels and the error
  have hall : ∃ (W : List Hp) (q : List (Rf × Lb)), HpsR w2 hv W ∧ LbsR w2 lv q ∧ (OpenIs L F s t 0 → t ∈ reachL L s → LeastOf L F s f) ∧
      ∀ (hv' lv' : Value) (n' er' : Int) (w' : World), ((er' ≠ 0 ∧ hv' = .slice none 0 0 ∧ n' = 0 ∧ lv' = .slice none 0 0 ∧ (OpenIs L F s t er' ∨ OpenIs L F s t 0 ∧ t ∉ reachL L s ∧ er' = 10)) ∨
        (er' = 0 ∧ OpenIs L F s t 0 ∧ t ∈ reachL L s ∧ LeastOf L F s f ∧ n' = (f t).1 ∧ HpsR w' hv' (wayTo (hopsL L) (wtF F) f (reachL L s) t) ∧ LbsR w' lv' (labsOf (reachL L s) f))) → er' = er ∧ n' = m ∧ HpsR w' hv' W ∧ LbsR w' lv' q := by
    rcases hpost with ⟨her, rfl, rfl, rfl, hopx⟩ | ⟨rfl, hop, htR, hle, hm, hhv, hlv⟩
    · refine ⟨[], [], HpsR.nil _, LbsR.nil3 _, fun h0 hR => ?_, fun hv' lv' n' er' w' hp => ?_⟩
      · rcases hopx with h1 | ⟨_, h1, _⟩
        · exact absurd (OpenIs.uniq h1 h0) her
        · exact absurd hR h1
      · rcases hp with ⟨h1, rfl, rfl, rfl, h2⟩ | ⟨_, h2, h3, _⟩
        · refine ⟨?_, rfl, HpsR.nil _, LbsR.nil3 _⟩
          rcases hopx with k1 | ⟨k1, k2, k3⟩
          · rcases h2 with h2 | ⟨h2, _, h4⟩
            · exact OpenIs.uniq h2 k1
            · exact absurd (OpenIs.uniq k1 h2) her
          · rcases h2 with h2 | ⟨h2, _, h4⟩
            · exact absurd (OpenIs.uniq h2 k1) h1
            · rw [h4, k3]
        · exfalso
          rcases hopx with h1 | ⟨_, h1, _⟩
          · exact her (OpenIs.uniq h1 h2)
          · exact h1 h3
    · refine ⟨_, _, hhv, hlv, fun _ _ => hle, fun hv' lv' n' er' w' hp => ?_⟩
      rcases hp with ⟨h1, rfl, rfl, rfl, h2⟩ | ⟨h1, _, _, _, h2, h3, h4⟩
      · exfalso
        rcases h2 with h2 | ⟨_, h4, _⟩
        · exact h1 (OpenIs.uniq h2 hop)
        · exact h4 htR
      · exact ⟨h1, by rw [h2, hm], h3, h4⟩
  obtain ⟨W, q, hhv, hlv, hfl, hsame⟩ := hall
  have HFL := Lib.hid hfl
  have HSM := Lib.hid hsame
  have HHV := Lib.hid hhv
  have HLV := Lib.hid hlv
  obtain ⟨Ah, ch, rfl, _, _⟩ := hhv.form
  obtain ⟨Al, cl, rfl, _, _⟩ := hlv.form3
  obtain ⟨nw, hnw⟩ : ∃ k, W.length = k := ⟨_, rfl⟩
  obtain ⟨nl, hnl⟩ : ∃ k, q.length = k := ⟨_, rfl⟩
  rw [hnw] at HHV ⊢
  rw [hnl] at HLV ⊢
  have HNW := Lib.hid hnw
  have HNL := Lib.hid hnl
  obtain ⟨w3, hw3⟩ : ∃ W, w2.alloc (.cells #[.slice Ah nw ch, .int .i64 m, .slice Al nl cl] 27) = W := ⟨_, rfl⟩
  have HW3 := Lib.hid hw3
  have B23 : Hid (Below w2.heap.size w2 w3) := by rw [← hw3]; exact (Below.refl _ _).alloc (Nat.le_refl _) _
  have C3 : Hid (w3.cell? ⟨w2.heap.size, 0, none⟩ = some (.slice Ah nw ch) ∧ w3.cell? ⟨w2.heap.size, 1, none⟩ = some (.int .i64 m) ∧ w3.cell? ⟨w2.heap.size, 2, none⟩ = some (.slice Al nl cl) ∧ w2.heap.size < w3.heap.size) := by rw [← hw3]; unfold Hid; simp [go_sem]
  have B3 := Lib.hid (Below.then_ B2.out B23.out)
  obtain ⟨c0, c1, clt⟩ := C2.out
  have d0 := (B23.out.cell (p := ⟨w.heap.size, 0, none⟩) clt).trans c0
  have d1 := (B23.out.cell (p := ⟨w.heap.size, 1, none⟩) clt).trans c1
  clear hw3 hpost hhv hlv hfl hsame hnw hnl
  go_wp2_with fail
  rw [HW3.out]
  clear c0 c1 clt
  refine (rshortest_any v fv L F (sb s) (sb t) f _ (H.out.below B3.out) (HF.out.below B3.out) HZ.out ha hb (by rw [bl_sb, bl_sb]; exact HFL.out)).mono ?_
  rintro e w4 ⟨hv', lv', n', er', rfl, hb4, hpost'⟩
  rw [bl_sb, bl_sb] at hpost'
  obtain ⟨rfl, rfl, hhv', hlv'⟩ := HSM.out _ _ _ _ _ hpost'
  have B4 := Lib.hid (Below.then_ B3.out hb4)
  have HHV4 := Lib.hid hhv'
  have HLV4 := Lib.hid hlv'
  obtain ⟨Ah', ch', rfl, _, _⟩ := hhv'.form
  obtain ⟨Al', cl', rfl, _, _⟩ := hlv'.form3
  rw [HNW.out] at HHV4 ⊢
  rw [HNL.out] at HLV4 ⊢
  have y0 := (hb4.cell (p := ⟨w2.heap.size, 0, none⟩) C3.out.2.2.2).trans C3.out.1
  have y1 := (hb4.cell (p := ⟨w2.heap.size, 1, none⟩) C3.out.2.2.2).trans C3.out.2.1
  have y2 := (hb4.cell (p := ⟨w2.heap.size, 2, none⟩) C3.out.2.2.2).trans C3.out.2.2.1
  have ylt : w2.heap.size < w4.heap.size := Nat.lt_of_lt_of_le C3.out.2.2.2 hb4.size
  obtain ⟨w5, hw5⟩ : ∃ W, w4.alloc (.cells #[.slice Ah' nw ch', .int .i64 n', .slice Al' nl cl'] 27) = W := ⟨_, rfl⟩
  have HW5 := Lib.hid hw5
  have B45 : Hid (Below w4.heap.size w4 w5) := by rw [← hw5]; exact (Below.refl _ _).alloc (Nat.le_refl _) _
  have C5 : Hid (w5.cell? ⟨w4.heap.size, 0, none⟩ = some (.slice Ah' nw ch') ∧ w5.cell? ⟨w4.heap.size, 1, none⟩ = some (.int .i64 n') ∧ w5.cell? ⟨w4.heap.size, 2, none⟩ = some (.slice Al' nl cl')) := by rw [← hw5]; unfold Hid; simp [go_sem]
  obtain ⟨z0, z1, z2⟩ := C5.out
  have x0 := (B45.out.cell (p := ⟨w2.heap.size, 0, none⟩) ylt).trans y0
  have x1 := (B45.out.cell (p := ⟨w2.heap.size, 1, none⟩) ylt).trans y1
  have x2 := (B45.out.cell (p := ⟨w2.heap.size, 2, none⟩) ylt).trans y2
  have B25 : Hid (Below w2.heap.size w2 w5) := Below.then_ B23.out (Below.then_ hb4 B45.out)
  have B5 := Lib.hid (Below.then_ B4.out B45.out)
  have hee : (er' == er') = true := by simp
  clear hw5 hpost' hhv' hlv' hb4 d0 d1 HFL HSM C3 x0 x1 x2 z0 z1 z2
  go_wp2_with fail
  rw [HW5.out]
  refine (ways_same _ _ _ _ n' W q _ (HHV.out.below B25.out) (HHV4.out.below B45.out) (HLV.out.below3 B25.out) (HLV4.out.below3 B45.out)).mono ?_
  rintro e w6 ⟨rfl, hb6⟩
  have B6 := Lib.hid (Below.then_ B5.out hb6)
  go_wp2
  go_ret
  exact ⟨rfl, B6.out⟩
end Go.Proofs.YtgnnblkpjankgaaGreatDoor
