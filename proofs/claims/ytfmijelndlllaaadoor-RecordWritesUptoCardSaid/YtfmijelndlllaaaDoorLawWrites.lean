/-
  The walk of the law RecordWrites.
-/
import Derived.Test.YtfmijelndlllaaaDoorWriteLaw
import Derived.Test.YtfmijelndlllaaaDoorAwake
namespace Go.Proofs.YtfmijelndlllaaaDoor
open Go.RowKit
set_option linter.unusedVariables false
set_option linter.unusedSimpArgs false

theorem LnR.take {w : World} {A : Option Addr} {n c m : Nat} {L : List (List (List UInt8))} (h : LnR w (.slice A n c) L) (hm : m ≤ n) : LnR w (.slice A m c) (L.take m) := by
  obtain ⟨xs, ⟨hl, A', c', hv, hc, hcm, hx⟩, h2⟩ := h
  injection hv with e1 e2 e3
  subst e1 e3
  have e4 : n = L.length := e2
  have hlt : (L.take m).length = m := by rw [List.length_take]; omega
  refine ⟨xs.take (m * 2), ⟨?_, A, c, by rw [hlt], by rw [hlt]; omega, hcm, fun h0 => ?_⟩, fun k hk => ?_⟩
  · rw [List.length_take, hl, hlt]; omega
  · obtain ⟨g, o, hA, hg, hcell⟩ := hx (by omega)
    refine ⟨g, o, hA, hg, fun j u hu => hcell j u ?_⟩
    rw [List.getElem?_take] at hu
    split at hu
    · exact hu
    · cases hu
  · rw [hlt] at hk
    obtain ⟨a, fv, x1, x2, x3⟩ := h2 k (by omega)
    refine ⟨a, fv, ?_, ?_, ?_⟩
    · rw [List.getElem?_take, if_pos (by omega)]; exact x1
    · rw [List.getElem?_take, if_pos (by omega)]; exact x2
    · rw [List.getElem_take]; exact x3
/-- the texts of the fields of two records at one place -/
theorem rec_texts {rs rs' : List Rec} {k : Nat} (h : textsOf rs = textsOf rs') (hk : k < rs.length) (hk' : k < rs'.length) : rs[k].2.map (·.1) = rs'[k].2.map (·.1) := by
  have h1 : (textsOf rs)[k]? = (textsOf rs')[k]? := by rw [h]
  unfold textsOf at h1
  rw [List.getElem?_map, List.getElem?_map, List.getElem?_eq_getElem hk, List.getElem?_eq_getElem hk'] at h1
  simpa using h1
theorem rec_num {rs : List Rec} {n k : Nat} (h : rs.map (·.1) = List.range' 1 n) (hk : k < rs.length) : rs[k].1 = k + 1 := by
  have h1 : (rs.map (·.1))[k]? = (List.range' 1 n)[k]? := by rw [h]
  have hl : rs.length = n := by have := congrArg List.length h; rw [List.length_map, List.length_range'] at this; exact this
  rw [List.getElem?_map, List.getElem?_eq_getElem hk, List.getElem?_range' (by omega)] at h1
  simp at h1
  omega

set_option maxRecDepth 100000 in
set_option maxHeartbeats 8000000 in
theorem recordWrites_walk (s : ByteArray) (v : Value) (raw : List (List (List UInt8))) (w : World) (E : Env w) (hs : s.size ≤ maxLen) (hv : LnR w v raw)
    (hrn : ∀ ts ∈ raw, ts.length ≤ 1048576) (hrw : (writeL (raw.take (min raw.length 6))).length ≤ 1000000000) :
    Calls Tryd.prog 10 #[.string s, v] w fun e w' => e = .returned (.bool true) ∧ Below w.heap.size w w' := by
  obtain ⟨A0, c0, rfl, hc0, hm0⟩ := hv.form
  unfold maxLen at hm0
  have HV := Lib.hid hv
  have HRN := Lib.hid hrn
  have HRW := Lib.hid hrw
  clear hv hrn hrw
  obtain ⟨n0, hn0⟩ : ∃ n0, raw.length = n0 := ⟨_, rfl⟩
  rw [hn0] at hc0 HV HRW
  rw [hn0]
  clear hn0
  go_enter Tryd.func10, Tryd.ntmps10
  go_wp2_with fail
  refine (awake_any _ E).mono ?_
  rintro e w1 ⟨rfl, hb1⟩
  have E1 := E.below hb1
  go_wp2_with fail
  refine (cut_any s 2000 (by omega) (by omega) _ hs).mono ?_
  rintro e w' ⟨u, rfl, _, hu, _, rfl⟩
  obtain ⟨k1, k2, k3, k4, k5⟩ := write_back (s := bl u) (by rw [bl_len]; omega)
  have K1 := Lib.hid k1
  have K3 := Lib.hid k3
  have K4 := Lib.hid k4
  have K5 := Lib.hid k5
  clear k1 k3 k4 k5
  go_wp2_with fail
  refine (read_any u _ E1 (by unfold maxLen; omega)).mono ?_
  rintro e w2 ⟨l, d, rfl, hl, hd, hb2⟩
  have E2 := E1.below hb2
  have B2 := Below.then_ hb1 hb2
  obtain ⟨rs, hrs⟩ : ∃ rs, readRecs (bl u) = rs := ⟨_, rfl⟩
  rw [hrs] at hl k2 K1 K3 K4 K5
  clear hrs hd
  go_wp2_with fail
  refine (write_any l (textsOf rs) _ (LnR.of_recs hl) (fun ts h => Nat.le_trans (K1.out ts h) (by decide)) (by omega)).mono ?_
  rintro e w3 ⟨t, rfl, ht, hb3⟩
  have E3 := E2.below hb3
  have B3 := Below.then_ B2 hb3
  have hl3 := hl.below hb3
  rw [← ht.out] at k2 K3 K4 K5
  rw [bl_len] at k2
  go_wp2_with fail
  refine (read_any t _ E3 (by unfold maxLen; omega)).mono ?_
  rintro e w4 ⟨m, d2, rfl, hm, hd2, hb4⟩
  have E4 := E3.below hb4
  have B4 := Lib.hid (Below.then_ B3 hb4)
  have hl4 := hl3.below hb4
  rw [K3.out] at hd2
  obtain ⟨rs2, hrs2⟩ : ∃ rs2, readRecs (bl t) = rs2 := ⟨_, rfl⟩
  rw [hrs2] at hm K4 K5
  obtain ⟨Ad, cd, rfl, hcd, _⟩ := hd2.form
  obtain ⟨Al, cl, rfl, hcl, hcml⟩ := hl4.form
  obtain ⟨Am, cm, rfl, hcm, hcmm⟩ := hm.form
  have HL := Lib.hid hl4
  have HM := Lib.hid hm
  have hll : rs2.length = rs.length := by have := congrArg List.length K4.out; unfold textsOf at this; rwa [List.length_map, List.length_map] at this
  have hcl' := hcl
  rw [hll] at hcm HM
  rw [hll]
  have HLL := Lib.hid hll
  unfold maxLen at hcml hcmm
  clear hl hl3 hl4 hm hd2 hrs2 hll hb1 hb2 hb3 hb4 B2 B3 hcl'
  obtain ⟨n, hn⟩ : ∃ n, rs.length = n := ⟨_, rfl⟩
  rw [hn] at hcm hcl HM HL HLL
  rw [hn]
  have HN := Lib.hid hn
  clear hn
  go_wp2
  obtain ⟨wo, hwo⟩ : ∃ wo, w4 = wo := ⟨_, rfl⟩
  subst hwo
  go_loopw [39] (fun i wr => ∃ k : Nat, k ≤ n ∧ i = .int .i64 k ∧ Drew w4 wr) (fun i _ => n - (intOf i).toNat)
  case atStart => exact ⟨0, Nat.zero_le _, rfl, Drew.refl _⟩
  case round =>
    obtain ⟨k, hk, rfl, mo, rfl⟩ := hrel
    by_cases hlt : k < n
    · have hk1 : k < rs.length := by rw [HN.out]; exact hlt
      have hk2 : k < rs2.length := by rw [HLL.out]; exact hlt
      obtain ⟨g, o, c1, fv, hv1, y1, y2, y3⟩ := HL.out.at_ (k := k) hk1
      obtain ⟨g', o', c1', fv', hv1', y1', y2', y3'⟩ := HM.out.at_ (k := k) hk2
      rw [HN.out] at hv1
      rw [HLL.out] at hv1'
      simp only [Value.slice.injEq, true_and] at hv1 hv1'
      obtain ⟨rfl, rfl⟩ := hv1
      obtain ⟨rfl, rfl⟩ := hv1'
      rw [rec_num K5.out hk2, Int.natCast_add, Int.natCast_one] at y1'
      have tx1 := TxR.of_flds y3.1
      have tx2 := TxR.of_flds y3'.1
      rw [rec_texts K4.out hk2 hk1] at tx2
      obtain ⟨ts, hts⟩ : ∃ ts, rs[k].2.map (·.1) = ts := ⟨_, rfl⟩
      rw [hts] at tx1 tx2
      obtain ⟨z, hz⟩ : ∃ z : Int, ((rs[k].1 : Nat) : Int) = z := ⟨_, rfl⟩
      rw [hz] at y1
      clear y3 y3' hz hts hk1 hk2
      have TX1 := Lib.hid tx1
      have TX2 := Lib.hid tx2
      obtain ⟨Bf, cf, rfl, hcf, hcfm⟩ := tx1.form
      obtain ⟨Bf', cf', rfl, hcf', hcfm'⟩ := tx2.form
      unfold maxLen at hcfm hcfm'
      obtain ⟨nf, hnf⟩ : ∃ nf, ts.length = nf := ⟨_, rfl⟩
      rw [hnf] at TX1 TX2 y2 y2' hcf hcf'
      have HNF := Lib.hid hnf
      clear tx1 tx2 hnf
      have hki : (k : Int) < (n : Int) := by omega
      go_wp2
      go_quiet (fail)
      go_wp2
      go_loopw [71] (fun i wi => ∃ j : Nat, j ≤ nf ∧ i = .int .i64 j ∧ Drew w4 wi) (fun i _ => nf - (intOf i).toNat)
      case atStart => exact ⟨0, Nat.zero_le _, rfl, _, rfl⟩
      case round =>
        obtain ⟨j, hj, rfl, mi, rfl⟩ := hrel
        by_cases hjl : j < nf
        · have hj1 : j < ts.length := by rw [HNF.out]; exact hjl
          obtain ⟨p1, p2, p3, q1, hA1, _, x1, x2⟩ := TX1.out.at_ hj1
          obtain ⟨p1', p2', p3', q1', hA1', _, x1', x2'⟩ := TX2.out.at_ hj1
          rw [HNF.out] at hA1 hA1'
          simp only [Value.slice.injEq, true_and] at hA1 hA1'
          obtain ⟨rfl, rfl⟩ := hA1
          obtain ⟨rfl, rfl⟩ := hA1'
          obtain ⟨tt, htt⟩ : ∃ tt, sb ts[j] = tt := ⟨_, rfl⟩
          rw [htt] at x1 x1'
          clear htt hj1
          have hji : (j : Int) < (nf : Int) := by omega
          go_wp2
          go_quiet (fail)
          go_wp2
          go_roundw
          case rel => exact ⟨j + 1, hjl, by go_num, _, rfl⟩
          case measure => simp [intOf]; omega
        · go_wp2
          go_roundw
          case rel => exact ⟨k + 1, hlt, by go_num, _, rfl⟩
          case measure => simp [intOf]; omega
    · clear hk
      have hV4 := Lib.hid (HV.out.below (B4.out.trans (below_drewN' (Below.refl _ _) mo)))
      have hM4 := Lib.hid (HM.out.below (below_drewN' (Below.refl _ _) mo))
      have B5 := Lib.hid (B4.out.trans (below_drewN' (Below.refl w.heap.size w4) mo))
      have HM5 : Hid (LnR (w4.drewN mo) (.slice Am n cm) (textsOf rs)) := by
        have h := LnR.of_recs hM4.out
        unfold Hid
        rw [← K4.out]
        exact h
      have hmin : min n0 6 = n0 ∧ n0 ≤ 6 ∨ min n0 6 = 6 ∧ 6 < n0 := by omega
      rcases hmin with ⟨hmin, h6⟩ | ⟨hmin, h6⟩
      · rw [hmin] at HRW
        have hT := Lib.hid (hV4.out.take (m := n0) (by omega))
        have HRN5 : Hid (∀ ts ∈ raw.take n0, ts.length ≤ 1048576) := fun ts h => HRN.out ts (List.mem_of_mem_take h)
        have h6' : (n0 : Int) ≤ (6 : Int) := by omega
        have HMM := Lib.hid (show (min (n0 : Int) 6).toNat = n0 by omega)
        clear h6 hmin
        go_wp2_with fail
        refine (write_any _ (textsOf rs) _ HM5.out (fun ts h => Nat.le_trans (K1.out ts h) (by decide)) (by rw [← ht.out, bl_len]; omega)).mono ?_
        rintro e w5 ⟨t2, rfl, ht2, hb5⟩
        obtain rfl : t2 = t := bl_inj (ht2.out.trans ht.out.symm)
        have B6 := Below.then_ B5.out hb5
        have hV5 := Lib.hid (hT.out.below hb5)
        go_wp2_with fail
        rw [HMM.out]
        refine (write_any _ _ _ hV5.out HRN5.out HRW.out).mono ?_
        rintro e w6 ⟨t3, rfl, ht3, hb6⟩
        have B7 := Below.then_ B6 hb6
        have hV6 := Lib.hid (hV5.out.below hb6)
        go_wp2_with fail
        try rw [HMM.out]
        refine (rwrite_any _ _ _ hV6.out HRW.out).mono ?_
        rintro e w7 ⟨t4, rfl, ht4, hb7⟩
        obtain rfl : t4 = t3 := bl_inj (ht4.out.trans ht3.out.symm)
        have B8 := Below.then_ B7 hb7
        go_wp2
        go_ret
        exact ⟨rfl, B8⟩
      · rw [hmin] at HRW
        have hT := Lib.hid (hV4.out.take (m := 6) (by omega))
        have HRN5 : Hid (∀ ts ∈ raw.take 6, ts.length ≤ 1048576) := fun ts h => HRN.out ts (List.mem_of_mem_take h)
        have h6' : (6 : Int) < (n0 : Int) := by omega
        have HMM := Lib.hid (show (min (n0 : Int) 6).toNat = 6 by omega)
        clear h6 hmin
        go_wp2_with fail
        refine (write_any _ (textsOf rs) _ HM5.out (fun ts h => Nat.le_trans (K1.out ts h) (by decide)) (by rw [← ht.out, bl_len]; omega)).mono ?_
        rintro e w5 ⟨t2, rfl, ht2, hb5⟩
        obtain rfl : t2 = t := bl_inj (ht2.out.trans ht.out.symm)
        have B6 := Below.then_ B5.out hb5
        have hV5 := Lib.hid (hT.out.below hb5)
        go_wp2_with fail
        rw [HMM.out]
        refine (write_any _ _ _ hV5.out HRN5.out HRW.out).mono ?_
        rintro e w6 ⟨t3, rfl, ht3, hb6⟩
        have B7 := Below.then_ B6 hb6
        have hV6 := Lib.hid (hV5.out.below hb6)
        go_wp2_with fail
        try rw [HMM.out]
        refine (rwrite_any _ _ _ hV6.out HRW.out).mono ?_
        rintro e w7 ⟨t4, rfl, ht4, hb7⟩
        obtain rfl : t4 = t3 := bl_inj (ht4.out.trans ht3.out.symm)
        have B8 := Below.then_ B7 hb7
        go_wp2
        go_ret
        exact ⟨rfl, B8⟩
end Go.Proofs.YtfmijelndlllaaaDoor
