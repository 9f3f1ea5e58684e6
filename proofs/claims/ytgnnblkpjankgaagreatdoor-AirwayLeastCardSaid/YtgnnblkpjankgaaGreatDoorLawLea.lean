/-
  The walk of the law AirwayLeast.
-/
import Derived.Test.YtgnnblkpjankgaaGreatDoorMSho
import Derived.Test.YtgnnblkpjankgaaGreatDoorAwNext
import Derived.Test.YtgnnblkpjankgaaGreatDoorAwAwake
import Derived.Test.YtgnnblkpjankgaaGreatDoorRetL
namespace Go.Proofs.YtgnnblkpjankgaaGreatDoor
open Go.RowKit Go.Lib
set_option linter.unusedVariables false
set_option linter.unusedSimpArgs false
/-! ### plain words -/
theorem idxFrom_bd (r : List UInt8) : ∀ (l : List Pt) (n k : Nat), idxFrom r n l = (k : Int) → n ≤ k ∧ k < n + l.length
  | [], n, k, h => by unfold idxFrom at h; omega
  | p :: l, n, k, h => by
    unfold idxFrom at h
    split at h
    · rw [List.length_cons]; omega
    · have := idxFrom_bd r l (n + 1) k h
      rw [List.length_cons]; omega
theorem getD_ref {l : List Pt} {k : Nat} (h : k < l.length) : l.getD k noPt = l[k] := by rw [List.getD_eq_getElem?_getD, List.getElem?_eq_getElem h]; rfl
theorem seg_of {F : List Fx} {l : List Pt} {n : Nat} (h : SegOk F l n) (j : Nat) (hj : j + 1 < l.length) (hn : j + 1 < n) : (vldP (posD F (l.getD j noPt).ref) && vldP (posD F (l.getD (j + 1) noPt).ref)) = true := by
  rw [getD_ref (show j < l.length by omega), getD_ref hj]
  exact h j hj hn
/-- the two ends of a hop have valid positions -/
theorem hop_vld {L : List Aw} {F : List Fx} {a b r : Rf} {h : Hp} (ho : OpenIs L F a b 0) (hh : h ∈ hopsL L r) : (vldP (posD F r) && vldP (posD F h.dst)) = true := by
  have hseg : ∀ A ∈ L, SegOk F A.pts A.pts.length := by
    rcases ho with ⟨h1, h2⟩ | ⟨h1, h2, h3⟩ | ⟨h1, h2, _, h3⟩ | ⟨h1, h2, h3, ⟨_, h4⟩ | ⟨h4, _⟩⟩
    · omega
    · omega
    · omega
    · omega
    · exact h4
  unfold hopsL at hh
  rw [List.mem_flatMap] at hh
  obtain ⟨A, hA, hh⟩ := hh
  have hs := hseg A hA
  unfold hopsOf at hh
  split at hh
  · cases hh
  · rename_i hi
    obtain ⟨k, hk⟩ : ∃ k : Nat, idxOf A.pts r = (k : Int) := ⟨(idxOf A.pts r).toNat, by omega⟩
    have hb := idxFrom_bd r A.pts 0 k hk
    have hr := idxOf_ref hk
    rw [hk, Int.toNat_natCast, List.mem_append] at hh
    rcases hh with hh | hh
    · unfold hopF at hh
      split at hh
      · rename_i h1
        rw [List.mem_singleton] at hh
        have := seg_of hs k h1.1 h1.1
        rw [hr] at this
        rw [hh]; exact this
      · cases hh
    · unfold hopB at hh
      split at hh
      · rename_i h1
        rw [List.mem_singleton] at hh
        obtain ⟨j, rfl⟩ : ∃ j, k = j + 1 := ⟨k - 1, by omega⟩
        have := seg_of hs j (by omega) (by omega)
        rw [hr, Bool.and_comm] at this
        rw [hh, show j + 1 - 1 = j by omega]; exact this
      · cases hh
theorem open_end {L : List Aw} {F : List Fx} {a b c : Rf} (ho : OpenIs L F a b 0) (hc : c ∈ a :: allRefs L) : OpenIs L F a c 0 := by
  rcases ho with ⟨h1, h2⟩ | ⟨h1, h2, h3⟩ | ⟨h1, h2, _, h3⟩ | ⟨h1, h2, h3, h4⟩
  · omega
  · omega
  · omega
  · refine .inr (.inr (.inr ⟨h1, h2, fun r hr => h3 r ?_, h4⟩))
    rcases List.mem_cons.1 hr with rfl | hr
    · simp
    · rcases List.mem_cons.1 hr with rfl | hr
      · rcases List.mem_cons.1 hc with rfl | hc
        · simp
        · exact List.mem_cons_of_mem _ (List.mem_cons_of_mem _ hc)
      · exact List.mem_cons_of_mem _ (List.mem_cons_of_mem _ hr)
theorem least_same {L : List Aw} {F : List Fx} {a : Rf} {f g : Rf → Lb} (hf : LeastOf L F a f) (hg : LeastOf L F a g) {v : Rf} (hv : v ∈ reachL L a) : f v = g v := hf.opt.uniq hg.opt v hv
/-- bytes in memory -/
def BtR (w : World) (v : Value) (zs : List Int) : Prop :=
  ∃ A c, v = .slice A zs.length c ∧ zs.length ≤ c ∧ c ≤ maxLen ∧ (∀ n ∈ zs, 0 ≤ n ∧ n ≤ 255) ∧ (0 < zs.length → ∃ g o, A = some ⟨g, o, none⟩ ∧ g < w.heap.size ∧ ∀ i z, zs[i]? = some z → w.cell? ⟨g, o + i, none⟩ = some (.int .u8 z))
/-- what the law knows of the walk so far -/
structure WkS (L : List Aw) (F : List Fx) (a x : Rf) (s : Int) (k : Nat) : Prop where
  walk : ∃ l, walkOk (hopsL L) a l = true ∧ endW a l = x ∧ sumW (wtF F) a l = s
  fit : x.length ≤ maxLen
  lo : 0 ≤ s
  hi : s ≤ k * 64800000
theorem WkS.step {L : List Aw} {F : List Fx} {a x : Rf} {s : Int} {k : Nat} (h : WkS L F a x s k) {p : Hp} (hp : p ∈ hopsL L x) (hf : p.dst.length ≤ maxLen) : WkS L F a p.dst (s + wtF F x p.dst) (k + 1) := by
  obtain ⟨⟨l, h1, h2, h3⟩, _, h4, h5⟩ := h
  have hw := wtF_bd F x p.dst
  obtain ⟨k1, k2, k3⟩ := walk_snoc (hp := hopsL L) (wt := wtF F) a l p
  refine ⟨⟨l ++ [p], ?_, ?_, ?_⟩, hf, by omega, by omega⟩
  · rw [k1, h1, h2]; simp [hp]
  · rw [k2]
  · rw [k3, h2, h3]
theorem labs_snd (R : List Rf) (f : Rf → Lb) : ∀ y ∈ labsOf R f, y.2 = f y.1 := by
  intro y hy
  unfold labsOf at hy
  rw [List.mem_map] at hy
  obtain ⟨r, _, rfl⟩ := hy
  rfl
theorem LbsR.at_ {w : World} {v : Value} {l : List (Rf × Lb)} (h : LbsR w v l) {k : Nat} (hk : k < l.length) :
    ∃ g o c, v = .slice (some ⟨g, o, none⟩) l.length c ∧ g < w.heap.size ∧ w.cell? ⟨g, o + k * 3, none⟩ = some (.string (sb l[k].1)) ∧ w.cell? ⟨g, o + k * 3 + 1, none⟩ = some (.int .i64 l[k].2.1) ∧ w.cell? ⟨g, o + k * 3 + 2, none⟩ = some (.int .i64 l[k].2.2) := by
  obtain ⟨hl, A, c, hv, hc, hm, hr⟩ := h
  obtain ⟨g, o, rfl, hg, hx⟩ := hr (by omega)
  obtain ⟨h0, h1, h2⟩ := lbcells_at l k hk
  exact ⟨g, o, c, hv, hg, hx _ _ h0, hx _ _ h1, hx _ _ h2⟩
set_option maxRecDepth 100000 in
set_option maxHeartbeats 8000000 in
theorem airwayLeast_walk (v fv pv : Value) (L : List Aw) (F : List Fx) (a : ByteArray) (zs : List Int) (w : World) (E : Env w) (h : AwsR w v L) (hf : FxsR w fv F) (hz : SzL F) (ha : a.size ≤ maxLen) (hp : BtR w pv zs) :
    Calls Tryz.prog 5 #[v, fv, .agg #[.string a, pv]] w fun e w' => e = .returned (.bool true) ∧ Below w.heap.size w w' := by
  have H := Lib.hid h
  have HF := Lib.hid hf
  have HZ := Lib.hid hz
  obtain ⟨s, rfl⟩ : ∃ s, a = sb s := ⟨bl a, (sb_bl a).symm⟩
  have hsl : s.length ≤ maxLen := ha
  obtain ⟨Ap, cp, rfl, hcp, hcpm, hzs, hpr⟩ := hp
  obtain ⟨n, hn⟩ : ∃ n, zs.length = n := ⟨_, rfl⟩
  have HN := Lib.hid hn
  have HPR := Lib.hid hpr
  rw [hn] at hcp ⊢
  unfold maxLen at hcpm
  have HZS := Lib.hid hzs
  obtain ⟨w0, hw0⟩ : ∃ W, w.alloc (.cells #[.string (sb s), .slice Ap n cp] 42) = W := ⟨_, rfl⟩
  have B0 : Hid (Below w.heap.size w w0) := by rw [← hw0]; exact (Below.refl _ _).alloc (Nat.le_refl _) _
  have C0 : Hid (w0.cell? ⟨w.heap.size, 0, none⟩ = some (.string (sb s)) ∧ w0.cell? ⟨w.heap.size, 1, none⟩ = some (.slice Ap n cp) ∧ w.heap.size < w0.heap.size) := by rw [← hw0]; unfold Hid; simp [go_sem]
  clear h hf hz hpr hzs hn
  go_enter Tryz.func5, Tryz.ntmps5
  go_wp2_with fail
  try rw [hw0]
  clear hw0
  refine (awake_any _ (E.below B0.out)).mono ?_
  rintro e w1 ⟨rfl, hb1⟩
  have B1 := Lib.hid (Below.then_ B0.out hb1)
  have C1 : Hid (w1.cell? ⟨w.heap.size, 0, none⟩ = some (.string (sb s)) ∧ w1.cell? ⟨w.heap.size, 1, none⟩ = some (.slice Ap n cp) ∧ w.heap.size < w1.heap.size) :=
    ⟨(hb1.cell (p := ⟨w.heap.size, 0, none⟩) C0.out.2.2).trans C0.out.1, (hb1.cell (p := ⟨w.heap.size, 1, none⟩) C0.out.2.2).trans C0.out.2.1, Nat.lt_of_lt_of_le C0.out.2.2 hb1.size⟩
  clear B0 C0 hb1
  obtain ⟨c0, c1, clt⟩ := C1.out
  go_wp2_with fail
  refine (shortest_any v fv L F (sb s) (sb s) _ (H.out.below B1.out) (HF.out.below B1.out) HZ.out ha ha).mono ?_
  rintro e w2 ⟨f, hv, lv, m, er, rfl, hb2, hpost⟩
  rw [bl_sb] at hpost
  have B2 := Lib.hid (Below.then_ B1.out hb2)
  have C2 : Hid (w2.cell? ⟨w.heap.size, 0, none⟩ = some (.string (sb s)) ∧ w2.cell? ⟨w.heap.size, 1, none⟩ = some (.slice Ap n cp) ∧ w.heap.size < w2.heap.size) :=
    ⟨(hb2.cell (p := ⟨w.heap.size, 0, none⟩) clt).trans c0, (hb2.cell (p := ⟨w.heap.size, 1, none⟩) clt).trans c1, Nat.lt_of_lt_of_le clt hb2.size⟩
  clear c0 c1 clt C1 B1 hb2
  rcases hpost with ⟨her, rfl, rfl, rfl, _⟩ | ⟨rfl, hop, hsR, hle, hm, hhv, hlv⟩
  case inl =>
    have e0 : (er != 0) = true := bne_iff_ne.2 her
    have HB : Hid (Below w.heap.size w (w2.alloc (.cells #[.slice none 0 0, .int .i64 0, .slice none 0 0] 27))) := B2.out.alloc B2.out.size _
    clear her C2
    go_wp2
    go_ret
    exact ⟨rfl, HB.out⟩
  case inr =>
    have HOP := Lib.hid hop
    have HLE := Lib.hid hle
    have HLV := Lib.hid hlv
    obtain ⟨Al, cl, rfl, hcll, hclm⟩ := hlv.form
    unfold maxLen at hclm
    obtain ⟨Ah, ch, rfl, _, _⟩ := hhv.form
    obtain ⟨ll, hll⟩ : ∃ k, (labsOf (reachL L s) f).length = k := ⟨_, rfl⟩
    rw [hll] at HLV hcll ⊢
    obtain ⟨hl, hhl⟩ : ∃ k, (wayTo (hopsL L) (wtF F) f (reachL L s) s).length = k := ⟨_, rfl⟩
    rw [hhl]
    obtain ⟨w3, hw3⟩ : ∃ W, w2.alloc (.cells #[.slice Ah hl ch, .int .i64 m, .slice Al ll cl] 27) = W := ⟨_, rfl⟩
    have HW3 := Lib.hid hw3
    have HMF := Lib.hid hm
    have HLL := Lib.hid hll
    clear hop hle hlv hhv hw3 hll hm hhl
    obtain ⟨c0, c1, clt⟩ := C2.out
    have B3 : Hid (Below w.heap.size w w3) := by rw [← HW3.out]; exact B2.out.alloc B2.out.size _
    have B23 : Hid (Below w2.heap.size w2 w3) := by rw [← HW3.out]; exact (Below.refl _ _).alloc (Nat.le_refl _) _
    have C3 : Hid (w3.cell? ⟨w2.heap.size, 0, none⟩ = some (.slice Ah hl ch) ∧ w3.cell? ⟨w2.heap.size, 1, none⟩ = some (.int .i64 m) ∧ w3.cell? ⟨w2.heap.size, 2, none⟩ = some (.slice Al ll cl) ∧ w2.heap.size < w3.heap.size) := by rw [← HW3.out]; unfold Hid; simp [go_sem]
    have D3 : Hid (w3.cell? ⟨w.heap.size, 0, none⟩ = some (.string (sb s)) ∧ w3.cell? ⟨w.heap.size, 1, none⟩ = some (.slice Ap n cp) ∧ w.heap.size < w3.heap.size) :=
      ⟨(B23.out.cell (p := ⟨w.heap.size, 0, none⟩) clt).trans c0, (B23.out.cell (p := ⟨w.heap.size, 1, none⟩) clt).trans c1, Nat.lt_of_lt_of_le clt B23.out.size⟩
    have hc0 := HOP.out.zero.1
    have hF4 := HOP.out.zero.2
    have HC := Lib.hid hc0
    clear hc0
    go_wp2_with fail
    rw [HW3.out]
    clear HW3 c0 c1 clt C2 B2
    go_loopw [9, 10, 48] (fun av sv iv wr => ∃ (k : Nat) (x : Rf) (sm : Int), k ≤ n ∧ k ≤ 40 ∧ iv = .int .i64 k ∧ av = .string (sb x) ∧ sv = .int .i64 sm ∧ Hid (WkS L F s x sm k) ∧ Hid (Below w3.heap.size w3 wr)) (fun _ _ iv _ => n - (intOf iv).toNat)
    case atStart => exact ⟨0, s, 0, Nat.zero_le _, by omega, by first | rfl | go_num, rfl, rfl, Lib.hid ⟨⟨[], rfl, rfl, rfl⟩, hsl, by omega, by omega⟩, Lib.hid (Below.refl _ _)⟩
    obtain ⟨k, x, sm, hkn, hk40, rfl, rfl, rfl, hwk, hbr⟩ := hrel
    have BW := Lib.hid (Below.then_ B3.out hbr.out)
    obtain ⟨d0, d1, dlt⟩ := D3.out
    have k0 := (hbr.out.cell (p := ⟨w.heap.size, 0, none⟩) dlt).trans d0
    clear d0 d1 dlt
    by_cases hlt : k < n
    case' neg =>
      have BE := hbr
      have hge : ¬ (k : Int) < (n : Int) := by omega
      go_wp2_with fail
    case' pos =>
      have hlz : k < zs.length := by rw [HN.out]; exact hlt
      obtain ⟨gp, op, rfl, hgp, hcell⟩ := HPR.out (by omega)
      obtain ⟨z, hz⟩ : ∃ z, zs[k]? = some z := ⟨_, List.getElem?_eq_getElem hlz⟩
      have hzb := HZS.out z (List.mem_of_getElem? hz)
      have kz := (BW.out.cell (p := ⟨gp, op + k, none⟩) hgp).trans (hcell k z hz)
      clear hcell hz hlz hgp
      by_cases h40 : 40 ≤ k
      case' pos =>
        have BE := hbr
        have h40' : (40 : Int) ≤ (k : Int) := by omega
        go_wp2_with fail
      case' neg =>
        have h40' : ¬ (40 : Int) ≤ (k : Int) := by omega
        have HX := Lib.hid (H.out.below BW.out)
        have hnx : nextL L x = hopsL L x := by unfold nextL; rw [if_pos HC.out]
        have HNX := Lib.hid hnx
        clear hnx
        go_wp2_with fail
        refine (next_any v L (sb x) _ HX.out).mono ?_
        rintro e w5 ⟨hv5, rfl, hh5, hb5⟩
        rw [bl_sb, HNX.out] at hh5
        rw [HC.out]
        have BE := Lib.hid (Below.then_ hbr.out hb5)
        have k05 := (hb5.cell (p := ⟨w.heap.size, 0, none⟩) (Nat.lt_of_lt_of_le D3.out.2.2 hbr.out.size)).trans k0
        have hlen5 := hopsL_len L x
        obtain ⟨A5, c5, rfl, hc51, hc52⟩ := hh5.form
        unfold maxLen at hc52
        obtain ⟨m5, hm5⟩ : ∃ k, (hopsL L x).length = k := ⟨_, rfl⟩
        have HM5 := Lib.hid hm5
        have HH5 := Lib.hid hh5
        rw [hm5] at hc51 hlen5 HH5 ⊢
        clear hh5 hb5 hm5 k0 HX HNX
        by_cases hm0 : m5 = 0
        case' pos =>
          subst hm0
          go_wp2_with fail
        case' neg =>
          have hm0' : ¬ ((m5 : Int) = 0) := by omega
          have hm0'' : ((m5 : Int) == 0) = false := beq_eq_false_iff_ne.2 hm0'
          obtain ⟨j, hj⟩ : ∃ j : Nat, z % (m5 : Int) = (j : Int) := ⟨(z % (m5 : Int)).toNat, by have := Int.emod_nonneg z hm0'; omega⟩
          have hjm : j < m5 := by have := Int.emod_lt_of_pos z (show (0 : Int) < (m5 : Int) by omega); omega
          have hjl : j < (hopsL L x).length := by rw [HM5.out]; exact hjm
          obtain ⟨g5, o5, c5', hA, hg5, x0, x1, x2, x3⟩ := HH5.out.at_ hjl
          rw [HM5.out] at hA
          simp only [Value.slice.injEq, true_and] at hA
          obtain ⟨rfl, rfl⟩ := hA
          have hpm : (hopsL L x)[j] ∈ hopsL L x := List.getElem_mem hjl
          obtain ⟨p, hp⟩ : ∃ p, (hopsL L x)[j] = p := ⟨_, rfl⟩
          rw [hp] at x0 x1 x2 x3 hpm
          have hpfit : p.dst.length ≤ maxLen := chkL_fit HC.out p.dst (nxt_mem L x p.dst (by unfold nxt; exact List.mem_map.2 ⟨p, hpm, rfl⟩))
          have HV := Lib.hid (hop_vld HOP.out hpm)
          have HWK := Lib.hid (hwk.out.step hpm hpfit)
          clear hp hjl hpm hwk
          obtain ⟨w6, hw6⟩ : ∃ W, w5.alloc (.cells #[.string (sb p.aw), .string (sb p.dst), .int .i64 p.lo, .int .i64 p.hi] 48) = W := ⟨_, rfl⟩
          have HW6 := Lib.hid hw6
          have B56 : Hid (Below w5.heap.size w5 w6) := by rw [← hw6]; exact (Below.refl _ _).alloc (Nat.le_refl _) _
          have B36 := Lib.hid (Below.then_ BE.out B56.out)
          have n6 : Hid (w6.cell? ⟨w5.heap.size, 1, none⟩ = some (.string (sb p.dst)) ∧ w5.heap.size < w6.heap.size) := by rw [← hw6]; unfold Hid; simp [go_sem]
          have HF6 := Lib.hid (HF.out.below (Below.then_ B3.out B36.out))
          clear hw6
          go_wp2_with fail
          rw [HW6.out]
          refine (find_any fv F (sb x) _ HF6.out HZ.out (by omega)).mono ?_
          rintro e w7 ⟨rfl, hb7⟩
          rw [bl_sb]
          obtain ⟨q1, hq1⟩ : ∃ q, (findL F x).getD fx0 = q := ⟨_, rfl⟩
          rw [hq1]
          have HQ1 : Hid (posD F x = (q1.lat, q1.lon)) := by unfold Hid; rw [posD_find, hq1]
          obtain ⟨b7, hb7e⟩ : ∃ b, (findL F x).isSome = b := ⟨_, rfl⟩
          rw [hb7e]
          obtain ⟨w8, hw8⟩ : ∃ W, w7.alloc (.cells #[.string (sb q1.id), .string (sb q1.rg), .int .u8 (q1.kd : Int), .int .i64 q1.lat, .int .i64 q1.lon, .int .i64 q1.el, .int .i64 q1.ra] 53) = W := ⟨_, rfl⟩
          have HW8 := Lib.hid hw8
          have B78 : Hid (Below w7.heap.size w7 w8) := by rw [← hw8]; exact (Below.refl _ _).alloc (Nat.le_refl _) _
          have B68 := Lib.hid (Below.then_ hb7 B78.out)
          have r1 : Hid (w8.cell? ⟨w7.heap.size, 3, none⟩ = some (.int .i64 q1.lat) ∧ w8.cell? ⟨w7.heap.size, 4, none⟩ = some (.int .i64 q1.lon) ∧ w7.heap.size < w8.heap.size) := by rw [← hw8]; unfold Hid; simp [go_sem]
          have n7 := (hb7.cell (p := ⟨w5.heap.size, 1, none⟩) n6.out.2).trans n6.out.1
          have lt57 : w5.heap.size < w7.heap.size := Nat.lt_of_lt_of_le n6.out.2 hb7.size
          have B38 := Lib.hid (Below.then_ B36.out B68.out)
          have HF8 := Lib.hid (HF.out.below (Below.then_ B3.out B38.out))
          clear hw8 hb7 hq1 hb7e x0 x1 x2 x3 hg5 hzb kz HW6 B56
          go_wp2_with fail
          rw [HW8.out]
          refine (find_any fv F (sb p.dst) _ HF8.out HZ.out (by omega)).mono ?_
          rintro e w9 ⟨rfl, hb9⟩
          rw [bl_sb]
          obtain ⟨q2, hq2⟩ : ∃ q, (findL F p.dst).getD fx0 = q := ⟨_, rfl⟩
          rw [hq2]
          have HQ2 : Hid (posD F p.dst = (q2.lat, q2.lon)) := by unfold Hid; rw [posD_find, hq2]
          obtain ⟨b9, hb9e⟩ : ∃ b, (findL F p.dst).isSome = b := ⟨_, rfl⟩
          rw [hb9e]
          obtain ⟨w10, hw10⟩ : ∃ W, w9.alloc (.cells #[.string (sb q2.id), .string (sb q2.rg), .int .u8 (q2.kd : Int), .int .i64 q2.lat, .int .i64 q2.lon, .int .i64 q2.el, .int .i64 q2.ra] 53) = W := ⟨_, rfl⟩
          have HW10 := Lib.hid hw10
          have B910 : Hid (Below w9.heap.size w9 w10) := by rw [← hw10]; exact (Below.refl _ _).alloc (Nat.le_refl _) _
          have B810 := Lib.hid (Below.then_ hb9 B910.out)
          have r2 : Hid (w10.cell? ⟨w9.heap.size, 3, none⟩ = some (.int .i64 q2.lat) ∧ w10.cell? ⟨w9.heap.size, 4, none⟩ = some (.int .i64 q2.lon) ∧ w9.heap.size < w10.heap.size) := by rw [← hw10]; unfold Hid; simp [go_sem]
          have m1 := (hb9.cell (p := ⟨w7.heap.size, 3, none⟩) r1.out.2.2).trans r1.out.1
          have m2 := (hb9.cell (p := ⟨w7.heap.size, 4, none⟩) r1.out.2.2).trans r1.out.2.1
          have lt79 : w7.heap.size < w9.heap.size := Nat.lt_of_lt_of_le r1.out.2.2 hb9.size
          have B610 := Lib.hid (Below.then_ B68.out B810.out)
          have n10 := (B610.out.cell (p := ⟨w5.heap.size, 1, none⟩) n6.out.2).trans n6.out.1
          have B310 := Lib.hid (Below.then_ B36.out B610.out)
          have HDE : Hid (dst2 (q1.lat, q1.lon) (q2.lat, q2.lon) = wtF F x p.dst ∧ dstE (q1.lat, q1.lon) (q2.lat, q2.lon) = 0) := by
            have hv := HV.out
            rw [HQ1.out, HQ2.out] at hv
            refine ⟨by unfold wtF; rw [HQ1.out, HQ2.out], ?_⟩
            unfold dstE
            rw [if_pos hv]
          clear hw10 hb9 hq2 hb9e HW8 B78 n7 lt57 HF8
          go_wp2_with fail
          rw [HW10.out]
          refine (sdist_any (q1.lat, q1.lon) (q2.lat, q2.lon) _).mono ?_
          rintro e w11 ⟨rfl, hb11⟩
          rw [HDE.out.1, HDE.out.2]
          have B311 := Lib.hid (Below.then_ B310.out hb11)
          have n11 := (hb11.cell (p := ⟨w5.heap.size, 1, none⟩) (Nat.lt_of_lt_of_le n6.out.2 B610.out.size)).trans n10
          have hwb := wtF_bd F x p.dst
          obtain ⟨dd, hdd⟩ : ∃ d, wtF F x p.dst = d := ⟨_, rfl⟩
          rw [hdd] at HWK hwb ⊢
          have hlo := HWK.out.lo
          have hhi := HWK.out.hi
          have e1 : IntKind.i64.wrap (sm + dd) = sm + dd := IntWalk.i64_in _ (by omega)
          have HN11 := Lib.hid n11
          have hk1 : k + 1 ≤ n := hlt
          clear hb11 hdd HDE m1 m2 lt79 n10 hwb hlo hhi
          go_wp2
          go_roundw
          case rel => exact ⟨k + 1, p.dst, sm + dd, hk1, by omega, by go_num, rfl, rfl, HWK, B311⟩
          case measure => simp [intOf]; omega
    all_goals
      refine (shortest_any v fv L F (sb s) (sb x) _ (H.out.below (Below.then_ B3.out BE.out)) (HF.out.below (Below.then_ B3.out BE.out)) HZ.out ha hwk.out.fit).mono ?_
      rintro e w20 ⟨f2, hv2, lv2, m2, er2, rfl, hb20, hpost2⟩
      rw [bl_sb, bl_sb] at hpost2
      have hwl : x ∈ reachL L s ∧ (f x).1 ≤ sm := by
        obtain ⟨l, l1, l2, l3⟩ := hwk.out.walk
        have h1 := walk_least HLE.out.opt l s (reach_self L s) l1
        rw [l2, l3, HLE.out.opt.base] at h1
        exact ⟨h1.1, by have := h1.2; simp only at this; omega⟩
      have B20 := Lib.hid (Below.then_ BE.out hb20)
      rcases hpost2 with ⟨her, _, _, _, ho2 | ⟨_, ho2, _⟩⟩ | ⟨rfl, _, _, hle2, hm2, hhv2, hlv2⟩
      · exact absurd (ho2.uniq (open_end HOP.out (reach_in x hwl.1))) her
      · exact absurd hwl.1 ho2
      · have hfx := least_same HLE.out hle2 hwl.1
        have hwn := (wayTo_ok (refs := reachL L s) (R := fun v => v ∈ reachL L s) (fun v => Iff.rfl) hle2.opt hwl.1).2.2.2
        obtain ⟨l1, l2, hfl⟩ : ∃ l1 l2, f x = (l1, l2) := ⟨_, _, rfl⟩
        rw [← hfx, hfl] at hm2 hwn
        rw [hfl] at hwl
        simp only at hm2 hwn hwl
        subst hm2
        obtain ⟨Ah2, ch2, rfl, _, _⟩ := hhv2.form
        obtain ⟨hl2, hhl2⟩ : ∃ k, (wayTo (hopsL L) (wtF F) f2 (reachL L s) x).length = k := ⟨_, rfl⟩
        rw [hhl2] at hwn ⊢
        obtain ⟨Al2, cl2, rfl, _, _⟩ := hlv2.form
        obtain ⟨ll2, hll2⟩ : ∃ k, (labsOf (reachL L s) f2).length = k := ⟨_, rfl⟩
        rw [hll2]
        have g1 : ¬ sm < m2 := by omega
        have g2 : (l2 == (hl2 : Int)) = true := beq_iff_eq.2 hwn.symm
        have HWL := Lib.hid hwl
        have HFL := Lib.hid hfl
        obtain ⟨w21, hw21⟩ : ∃ W, w20.alloc (.cells #[.slice Ah2 hl2 ch2, .int .i64 m2, .slice Al2 ll2 cl2] 27) = W := ⟨_, rfl⟩
        have HW21 := Lib.hid hw21
        have B2021 : Hid (Below w20.heap.size w20 w21) := by rw [← hw21]; exact (Below.refl _ _).alloc (Nat.le_refl _) _
        have C21 : Hid (w21.cell? ⟨w20.heap.size, 0, none⟩ = some (.slice Ah2 hl2 ch2) ∧ w21.cell? ⟨w20.heap.size, 1, none⟩ = some (.int .i64 m2) ∧ w20.heap.size < w21.heap.size) := by rw [← hw21]; unfold Hid; simp [go_sem]
        have B321 := Lib.hid (Below.then_ B20.out B2021.out)
        have q2 := (B20.out.cell (p := ⟨w2.heap.size, 2, none⟩) C3.out.2.2.2).trans C3.out.2.2.1
        have q2lt : w2.heap.size < w20.heap.size := Nat.lt_of_lt_of_le C3.out.2.2.2 B20.out.size
        clear hwl hfl hwn hfx hw21 hb20 hle2 hhv2 hlv2 hhl2 hll2
        go_wp2_with fail
        rw [HW21.out]
        have HL21 := Lib.hid (Rd.below HLV.out (Below.then_ B23.out B321.out))
        obtain ⟨lb, hlb⟩ : ∃ l, labsOf (reachL L s) f = l := ⟨_, rfl⟩
        have HLB : Hid (∀ y ∈ lb, y.2 = f y.1) := by rw [← hlb]; exact labs_snd _ _
        have HIN : Hid (∃ y ∈ lb, y.1 = x) := by rw [← hlb]; exact ⟨(x, f x), List.mem_map.2 ⟨x, HWL.out.1, rfl⟩, rfl⟩
        have HLN : Hid (lb.length = ll) := by rw [← hlb]; exact HLL.out
        have HL22 : Hid (LbsR w21 (.slice Al ll cl) lb) := by
          have := HL21.out
          rw [hlb] at this
          unfold Hid LbsR
          exact this
        clear HL21 hlb q2 q2lt
        go_loopw [123] (fun iv wr => ∃ k : Nat, k ≤ ll ∧ iv = .int .i64 k ∧ Hid (∀ j (h : j < lb.length), j < k → lb[j].1 ≠ x) ∧ Hid (Below w21.heap.size w21 wr)) (fun iv _ => ll - (intOf iv).toNat)
        case atStart => exact ⟨0, Nat.zero_le _, by first | rfl | go_num, Lib.hid (fun j _ h => absurd h (by omega)), Lib.hid (Below.refl _ _)⟩
        case round =>
          obtain ⟨k, hk, rfl, hno, hbr2⟩ := hrel
          by_cases hlt2 : k < ll
          · have hkl : k < lb.length := by rw [HLN.out]; exact hlt2
            obtain ⟨gl, ol, cl', hA, hgl, x0, x1, x2⟩ := LbsR.at_ HL22.out hkl
            rw [HLN.out] at hA
            simp only [Value.slice.injEq, true_and] at hA
            obtain ⟨rfl, rfl⟩ := hA
            have k0 := (hbr2.out.cell (p := ⟨gl, ol + k * 3, none⟩) hgl).trans x0
            have k1 := (hbr2.out.cell (p := ⟨gl, ol + k * 3 + 1, none⟩) hgl).trans x1
            have k2 := (hbr2.out.cell (p := ⟨gl, ol + k * 3 + 2, none⟩) hgl).trans x2
            have hff := HLB.out _ (List.getElem_mem hkl)
            have HNO2 : Hid (lb[k].1 ≠ x → ∀ j (h : j < lb.length), j < k + 1 → lb[j].1 ≠ x) := fun hne j h hj => by
              by_cases e : j = k
              · subst e; exact hne
              · exact hno.out j h (by omega)
            obtain ⟨⟨r, l3, l4⟩, hy⟩ : ∃ y, lb[k] = y := ⟨_, rfl⟩
            rw [hy] at k0 k1 k2 hff HNO2
            simp only at k0 k1 k2 hff
            have hse := str_eq (t := sb r) (r := sb x)
            rw [bl_sb, bl_sb] at hse
            have u0 := (hbr2.out.cell (p := ⟨w20.heap.size, 0, none⟩) C21.out.2.2).trans C21.out.1
            have u1 := (hbr2.out.cell (p := ⟨w20.heap.size, 1, none⟩) C21.out.2.2).trans C21.out.2.1
            have ult : w20.heap.size < wr.heap.size := Nat.lt_of_lt_of_le C21.out.2.2 hbr2.out.size
            clear x0 x1 x2 hgl hy hkl hno
            by_cases hrx : r = x
            · rw [decide_eq_true hrx] at hse
              subst hrx
              rw [HFL.out, Prod.mk.injEq] at hff
              obtain ⟨rfl, rfl⟩ := hff
              have BF : Hid (Below w.heap.size w (wr.alloc (.cells #[.string (sb r), .int .i64 l3, .int .i64 l4] 59))) := by
                have := Below.then_ B3.out (Below.then_ B321.out hbr2.out)
                exact this.alloc this.size _
              clear HNO2 hbr2
              go_wp2
              go_ret
              exact ⟨rfl, BF.out⟩
            · rw [decide_eq_false hrx] at hse
              have HN2 := Lib.hid (HNO2.out hrx)
              have BF := Lib.hid (hbr2.out.alloc hbr2.out.size (.cells #[.string (sb r), .int .i64 l3, .int .i64 l4] 59))
              clear HNO2 hbr2 hrx hff
              go_wp2
              go_roundw
              case rel => exact ⟨k + 1, hlt2, by go_num, HN2, BF⟩
              case measure => simp [intOf]; omega
          · exfalso
            obtain ⟨y, hy, e⟩ := HIN.out
            obtain ⟨j, hj, rfl⟩ := List.getElem_of_mem hy
            exact hno.out j hj (by have := HLN.out; omega) e
end Go.Proofs.YtgnnblkpjankgaaGreatDoor
