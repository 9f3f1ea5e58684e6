/-
  The walk of the law AirwayReaches.
-/
import Derived.Test.YtkopjbjkfeopfaaDoorAwAwake
namespace Go.Proofs.YtkopjbjkfeopfaaDoor
open Go.RowKit
set_option linter.unusedVariables false
set_option linter.unusedSimpArgs false

set_option maxHeartbeats 1000000 in
theorem has_yes (v : Value) (l : List (List UInt8)) (s : ByteArray) (w : World) (h : StrR w v l) (hs : bl s ∈ l) :
    Calls Tryd.prog 18 #[v, .string s] w fun e w' => e = .returned (.bool true) ∧ w = w' := by
  obtain ⟨A, c, rfl, hc, hm⟩ := h.form
  unfold maxLen at hm
  obtain ⟨n, hn⟩ : ∃ n, l.length = n := ⟨_, rfl⟩
  have HN := Lib.hid hn
  rw [hn] at h hc ⊢
  have H := Lib.hid h
  have HS : Hid (bl s ∈ l.drop 0) := hs
  clear h hs hn
  go_enter Tryd.func18, Tryd.ntmps18
  go_wp2
  go_loop [9] (fun iv => ∃ k : Nat, k ≤ n ∧ iv = .int .i64 k ∧ Hid (bl s ∈ l.drop k)) (fun iv => n - (intOf iv).toNat)
  case atStart => exact ⟨0, Nat.zero_le _, rfl, HS⟩
  case round =>
    obtain ⟨k, hk, rfl, hin⟩ := hrel
    have hlt : k < n := by
      rcases Nat.lt_or_ge k n with h | h
      · exact h
      · have h2 := hin.out
        rw [List.drop_eq_nil_of_le (by have := HN.out; omega)] at h2
        cases h2
    have hkl : k < l.length := by rw [HN.out]; exact hlt
    obtain ⟨g, o, c1, hv, _, y1⟩ := H.out.at_ hkl
    rw [HN.out] at hv
    simp only [Value.slice.injEq, true_and] at hv
    obtain ⟨rfl, rfl⟩ := hv
    have hin2 := hin.out
    rw [List.drop_eq_getElem_cons hkl, List.mem_cons] at hin2
    obtain ⟨x, hx⟩ : ∃ x, l[k] = x := ⟨_, rfl⟩
    rw [hx] at y1 hin2
    have hki : (k : Int) < (n : Int) := by omega
    by_cases he : bl s = x
    · have e1 : ((sb x).toList == s.toList) = true := by rw [str_eq, bl_sb]; exact decide_eq_true he.symm
      clear hx hkl hin hin2 he
      go_wp2
      go_ret
      exact ⟨rfl, rfl⟩
    · have e1 : ((sb x).toList == s.toList) = false := by rw [str_eq, bl_sb]; exact decide_eq_false (fun h => he h.symm)
      have HIN : Hid (bl s ∈ l.drop (k + 1)) := hin2.resolve_left he
      clear hx hkl hin hin2 he
      go_wp2
      go_round
      case rel => exact ⟨k + 1, hlt, by go_num, HIN⟩
      case measure => simp [intOf]; omega
theorem AwsR.take {w : World} {A : Option Addr} {c : Nat} {L : List Aw} (h : AwsR w (.slice A L.length c) L) {m : Nat} (hm : m ≤ L.length) : AwsR w (.slice A m c) (L.take m) := by
  obtain ⟨xs, ⟨hl, A', c', hv, hc, hcm, hr⟩, h2⟩ := h
  simp only [Value.slice.injEq, true_and] at hv
  obtain ⟨rfl, rfl⟩ := hv
  have hlen : (L.take m).length = m := by rw [List.length_take]; omega
  refine ⟨xs.take (m * 2), ⟨?_, A, c, by rw [hlen], by omega, hcm, ?_⟩, ?_⟩
  · rw [hlen, List.length_take]; omega
  · intro h0
    obtain ⟨g, o, hA, hg, hx⟩ := hr (by omega)
    refine ⟨g, o, hA, hg, fun j u hu => hx j u ?_⟩
    rw [List.getElem?_take] at hu
    split at hu
    · exact hu
    · cases hu
  · intro k hk
    rw [hlen] at hk
    obtain ⟨pv, x0, x1, x2, x3⟩ := h2 k (by omega)
    have e : (L.take m)[k]'(by rw [hlen]; exact hk) = L[k]'(by omega) := List.getElem_take
    rw [e]
    refine ⟨pv, ?_, ?_, x2, x3⟩
    · rw [List.getElem?_take_of_lt (by omega)]; exact x0
    · rw [List.getElem?_take_of_lt (by omega)]; exact x1
set_option maxRecDepth 100000 in
set_option maxHeartbeats 4000000 in
theorem airwayReaches_walk (A : Option Addr) (n c : Nat) (L0 : List Aw) (s : ByteArray) (w : World) (E : Env w) (h : AwsR w (.slice A n c) L0) (hs : s.size ≤ maxLen) :
    Calls Tryd.prog 6 #[.slice A n c, .string s] w fun e w' => e = .returned (.bool true) ∧ Below w.heap.size w w' := by
  obtain ⟨A', c', hv, hc, hm⟩ := h.form
  simp only [Value.slice.injEq] at hv
  obtain ⟨rfl, rfl, rfl⟩ := hv
  unfold maxLen at hm
  have hmin : min (L0.length : Int) 6 = ((min L0.length 6 : Nat) : Int) := by omega
  have h6 := h.take (m := min L0.length 6) (Nat.min_le_left _ _)
  obtain ⟨n6, hn6⟩ : ∃ n6, min L0.length 6 = n6 := ⟨_, rfl⟩
  have hle : n6 ≤ L0.length := by omega
  rw [hn6] at hmin h6
  have HS := Lib.hid hs
  obtain ⟨n, hn⟩ : ∃ n, L0.length = n := ⟨_, rfl⟩
  rw [hn] at hmin hle hc ⊢
  obtain ⟨L, hL⟩ : ∃ L, L0.take n6 = L := ⟨_, rfl⟩
  rw [hL] at h6
  have H := Lib.hid h6
  clear h h6 hn6 hn hL hs
  go_enter Tryd.func6, Tryd.ntmps6
  go_wp2_with fail
  refine (awake_any _ E).mono ?_
  rintro e w1 ⟨rfl, hb1⟩
  have HB1 := Lib.hid hb1
  clear hb1
  go_wp2_with fail
  refine (reachT_any _ L s _ (H.out.below HB1.out) HS.out).mono ?_
  rintro e w2 ⟨v2, rfl, hv2, hb2⟩
  have HB2 := Lib.hid (Below.then_ HB1.out hb2)
  have hL0 := H.out.form
  clear hb2
  by_cases h0 : chkL L = 0
  · have HC := Lib.hid h0
    have hR : rcL L (bl s) = reachL L (bl s) := by unfold rcL; rw [if_pos h0]
    rw [hR] at hv2
    rw [h0]
    have R1 := Lib.hid (reach_self L (bl s))
    have R2 := Lib.hid (fun x hx => reach_closed L (bl s) x hx)
    have R3 := Lib.hid (fun x hx => reach_sub L (bl s) x hx)
    have R4 := Lib.hid (fun i h => reach_asc L (bl s) (i := i) h)
    have hfit5 : Hid (∀ x ∈ reachL L (bl s), (sb x).size ≤ maxLen) := by
      intro x hx
      have h1 := srt_mem.1 hx
      have h2 := bfs_sub (nx := nxt L) (C := fun z => z.length ≤ maxLen) (fun z _ y hy => chkL_fit HC.out y (nxt_mem L z y hy)) ((allRefs L).length + 2) [bl s] 0 (by
        intro z hz
        rw [List.mem_singleton] at hz
        subst hz
        exact HS.out) x h1
      exact h2
    obtain ⟨R, hRe⟩ : ∃ R, reachL L (bl s) = R := ⟨_, rfl⟩
    rw [hRe] at hv2 R1 R2 R3 hfit5
    have R5 : Hid (∀ (i : Nat) (h : i + 1 < R.length), R[i] < R[i + 1]) := by
      subst hRe
      exact fun i h => R4.out i h
    clear hRe hR h0 R4
    obtain ⟨A2, c2, rfl, hc2, hm2⟩ := hv2.form
    unfold maxLen at hm2
    have V2 := Lib.hid hv2
    obtain ⟨nr, hnr⟩ : ∃ nr, R.length = nr := ⟨_, rfl⟩
    rw [hnr] at V2 hc2 ⊢
    have HN := Lib.hid hnr
    clear hv2 hnr
    go_wp2_with fail
    refine (has_yes _ R s _ V2.out R1.out).mono ?_
    rintro e w2' ⟨rfl, rfl⟩
    go_wp2_with fail
    go_loopw [41] (fun iv wr => ∃ k : Nat, k ≤ nr ∧ iv = .int .i64 k ∧ Hid (Below w2.heap.size w2 wr)) (fun iv _ => nr - (intOf iv).toNat)
    case atStart => exact ⟨0, Nat.zero_le _, rfl, Below.refl _ _⟩
    case round =>
      obtain ⟨k, hk, rfl, hbr⟩ := hrel
      by_cases hlt : k < nr
      · have hkl : k < R.length := by rw [HN.out]; exact hlt
        obtain ⟨g, o, c1, hv, hg, y1⟩ := V2.out.at_ hkl
        rw [HN.out] at hv
        simp only [Value.slice.injEq, true_and] at hv
        obtain ⟨rfl, rfl⟩ := hv
        have k1 := (hbr.out.cell (p := ⟨g, o + k, none⟩) hg).trans y1
        have RX := Lib.hid (List.getElem_mem hkl)
        have hki : (k : Int) < (nr : Int) := by omega
        obtain ⟨x, hx⟩ : ∃ x, R[k] = x := ⟨_, rfl⟩
        have HKL := Lib.hid hkl
        have hp12 : k = 0 ∨ (0 < k ∧ ∃ x0, w2.cell? ⟨g, o + (k - 1), none⟩ = some (.string (sb x0)) ∧ Hid (x0 < x)) := by
          rcases Nat.eq_zero_or_pos k with hk0 | hk0
          · exact .inl hk0
          · have hk1 : k - 1 < R.length := by omega
            have R6 := R5.out (k - 1) (by omega)
            obtain ⟨g', o', c1', hv', hg', y1'⟩ := V2.out.at_ hk1
            rw [HN.out] at hv'
            simp only [Value.slice.injEq, Option.some.injEq, Addr.mk.injEq, and_true, true_and] at hv'
            obtain ⟨⟨rfl, rfl⟩, rfl⟩ := hv'
            have e : R[k - 1 + 1] = R[k] := by congr 1; omega
            rw [e] at R6
            refine .inr ⟨hk0, _, y1', ?_⟩
            show _ < x
            rw [← hx]
            exact R6
        rw [hx] at k1 RX
        have RC := Lib.hid (R2.out x RX.out)
        have RS := Lib.hid (R3.out x RX.out)
        clear y1 hx hkl
        rcases hp12 with hk0 | ⟨hk0, x0, y2, hlt2⟩
        case' inl =>
          have s1 : (k : Int) ≤ 0 := by omega
          have HK0 := Lib.hid hk0
          clear hk0
        case' inr =>
          have k2 := (hbr.out.cell (p := ⟨g, o + (k - 1), none⟩) hg).trans y2
          have s1 : (0 : Int) < (k : Int) := by omega
          have s2 : (0 : Int) ≤ (k : Int) - 1 := by omega
          have s3 : (k : Int) - 1 < (nr : Int) := by omega
          have s4 : (1 : Int) ≤ (k : Int) := by omega
          have s5 : ((k : Int) - 1).toNat = k - 1 := by omega
          have s6 : (k : Int) < (nr : Int) + 1 := by omega
          have s7 : Op.bytesLess (sb x).toList (sb x0).toList = false := by
            rw [bl_toList, bl_toList, bl_sb, bl_sb, bytesLess_eq]
            exact decide_eq_false (List.lt_asymm hlt2.out)
          have s8 : ((sb x).toList == (sb x0).toList) = false := by
            rw [bl_toList, bl_toList, bl_sb, bl_sb]
            refine beq_eq_false_iff_ne.2 (fun h => ?_)
            rw [h] at hlt2
            exact List.lt_irrefl _ hlt2.out
          clear y2
        all_goals
          go_wp2_with fail
          refine (next_any _ L (sb x) _ (H.out.below (Below.then_ HB2.out hbr.out))).mono ?_
          rintro e w4 ⟨v4, rfl, hv4, hb4⟩
          have hbr4 := Lib.hid (Below.then_ hbr.out hb4)
          rw [HC.out]
          have hN : nextL L (bl (sb x)) = hopsL L x := by unfold nextL; rw [if_pos HC.out, bl_sb]
          rw [hN] at hv4
          obtain ⟨hl, hhe⟩ : ∃ hl, hopsL L x = hl := ⟨_, rfl⟩
          rw [hhe] at hv4 RC
          obtain ⟨m, hm4⟩ : ∃ m, hl.length = m := ⟨_, rfl⟩
          obtain ⟨A4, c4, rfl, hc4, hcm4⟩ := hv4.form
          unfold maxLen at hcm4
          have HM := Lib.hid hm4
          have V4 := Lib.hid hv4
          rw [hm4] at hc4 V4 ⊢
          clear hv4 hhe hN hm4 hb4 k1
          go_wp2_with fail
          go_loopw [67] (fun jv wr => ∃ j : Nat, j ≤ m ∧ jv = .int .i64 j ∧ Hid (Below w4.heap.size w4 wr)) (fun jv _ => m - (intOf jv).toNat)
          case atStart => exact ⟨0, Nat.zero_le _, rfl, Below.refl _ _⟩
          case round =>
            obtain ⟨j, hj, rfl, hbx⟩ := hrel
            by_cases hlj : j < m
            · have hjl : j < hl.length := by rw [HM.out]; exact hlj
              obtain ⟨gh, oh, ch, hA, hgh, x0, x1, x2, x3⟩ := V4.out.at_ hjl
              rw [HM.out] at hA
              simp only [Value.slice.injEq, true_and] at hA
              obtain ⟨rfl, rfl⟩ := hA
              have q0 := (hbx.out.cell (p := ⟨gh, oh + j * 4, none⟩) hgh).trans x0
              have q1 := (hbx.out.cell (p := ⟨gh, oh + j * 4 + 1, none⟩) hgh).trans x1
              have q2 := (hbx.out.cell (p := ⟨gh, oh + j * 4 + 2, none⟩) hgh).trans x2
              have q3 := (hbx.out.cell (p := ⟨gh, oh + j * 4 + 3, none⟩) hgh).trans x3
              have HIN := Lib.hid (RC.out _ (List.getElem_mem hjl))
              obtain ⟨p, hp⟩ : ∃ p, hl[j] = p := ⟨_, rfl⟩
              rw [hp] at q0 q1 q2 q3 HIN
              have hji : (j : Int) < (m : Int) := by omega
              have hbr5 := Lib.hid (hbr4.out.trans ((hbx.out.alloc hbx.out.size (.cells #[.string (sb p.aw), .string (sb p.dst), .int .i64 p.lo, .int .i64 p.hi] 47)).mono hbr4.out.size))
              have hbx5 := Lib.hid (hbx.out.alloc hbx.out.size (.cells #[.string (sb p.aw), .string (sb p.dst), .int .i64 p.lo, .int .i64 p.hi] 47))
              clear x0 x1 x2 x3 hp hjl
              go_wp2_with fail
              refine (has_yes _ R (sb p.dst) _ (V2.out.below hbr5.out) (by rw [bl_sb]; exact HIN.out)).mono ?_
              rintro e w5 ⟨rfl, rfl⟩
              go_wp2
              go_roundw
              case rel => exact ⟨j + 1, hlj, by go_num, hbx5⟩
              case measure => simp [intOf]; omega
            · have hbr5 := Lib.hid (Below.then_ hbr4.out hbx.out)
              have hmi : (m : Int) ≤ (j : Int) := by omega
              clear hbx
              rcases Nat.lt_or_ge k 4 with h4 | h4
              · have h4' : (k : Int) < 4 := by omega
                go_wp2_with fail
                refine (reachT_any _ L (sb x) _ (H.out.below (Below.then_ HB2.out hbr5.out)) (hfit5.out x RX.out)).mono ?_
                rintro e w6 ⟨v6, rfl, hv6, hb6⟩
                have hbr6 := Lib.hid (Below.then_ hbr5.out hb6)
                rw [HC.out]
                have hR6 : rcL L (bl (sb x)) = reachL L x := by unfold rcL; rw [if_pos HC.out, bl_sb]
                rw [hR6] at hv6
                obtain ⟨D, hDe⟩ : ∃ D, reachL L x = D := ⟨_, rfl⟩
                rw [hDe] at hv6 RS
                obtain ⟨md, hmd⟩ : ∃ md, D.length = md := ⟨_, rfl⟩
                obtain ⟨A6, c6, rfl, hc6, hcm6⟩ := hv6.form
                unfold maxLen at hcm6
                have HMD := Lib.hid hmd
                have V6 := Lib.hid hv6
                rw [hmd] at hc6 V6 ⊢
                clear hv6 hDe hR6 hmd hb6 hbr5
                go_wp2_with fail
                go_loopw [89] (fun jv wr => ∃ j : Nat, j ≤ md ∧ jv = .int .i64 j ∧ Hid (Below w6.heap.size w6 wr)) (fun jv _ => md - (intOf jv).toNat)
                case atStart => exact ⟨0, Nat.zero_le _, rfl, Below.refl _ _⟩
                case round =>
                  obtain ⟨i, hi, rfl, hby⟩ := hrel
                  by_cases hli : i < md
                  · have hil : i < D.length := by rw [HMD.out]; exact hli
                    obtain ⟨gd, od, cd, hA, hgd, x7⟩ := V6.out.at_ hil
                    rw [HMD.out] at hA
                    simp only [Value.slice.injEq, true_and] at hA
                    obtain ⟨rfl, rfl⟩ := hA
                    have q7 := (hby.out.cell (p := ⟨gd, od + i, none⟩) hgd).trans x7
                    have HIN := Lib.hid (RS.out _ (List.getElem_mem hil))
                    obtain ⟨y, hy⟩ : ∃ y, D[i] = y := ⟨_, rfl⟩
                    rw [hy] at q7 HIN
                    have hii : (i : Int) < (md : Int) := by omega
                    clear x7 hy hil
                    go_wp2_with fail
                    refine (has_yes _ R (sb y) _ (V2.out.below (Below.then_ hbr6.out hby.out)) (by rw [bl_sb]; exact HIN.out)).mono ?_
                    rintro e w7 ⟨rfl, rfl⟩
                    go_wp2
                    go_roundw
                    case rel => exact ⟨i + 1, hli, by go_num, hby⟩
                    case measure => simp [intOf]; omega
                  · have hbr7 := Lib.hid (Below.then_ hbr6.out hby.out)
                    have hdi : (md : Int) ≤ (i : Int) := by omega
                    go_wp2
                    go_roundw
                    case rel => exact ⟨k + 1, hlt, by go_num, hbr7⟩
                    case measure => simp [intOf]; omega
              · have h4' : (4 : Int) ≤ (k : Int) := by omega
                first
                  | (exfalso; omega)
                  | (go_wp2
                     go_roundw
                     case rel => exact ⟨k + 1, hlt, by go_num, hbr5⟩
                     case measure => simp [intOf]; omega)
      · go_wp2
        go_ret
        exact ⟨rfl, Below.then_ HB2.out hbr.out⟩
  · have hR : rcL L (bl s) = [] := by unfold rcL; rw [if_neg h0]
    rw [hR] at hv2
    obtain ⟨A2, c2, rfl, _⟩ := hv2.form
    have e1 : (chkL L != 0) = true := bne_iff_ne.2 h0
    clear hv2 hR h0
    go_wp2
    go_ret
    exact ⟨rfl, HB2.out⟩
end Go.Proofs.YtkopjbjkfeopfaaDoor
