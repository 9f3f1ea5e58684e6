/-
  The walk of the law AirwayReturns.
-/
import Derived.Test.YtkopjbjkfeopfaaDoorAwAwake
import Derived.Test.YtkopjbjkfeopfaaDoorRetL
namespace Go.Proofs.YtkopjbjkfeopfaaDoor
open Go.RowKit
set_option linter.unusedVariables false
set_option linter.unusedSimpArgs false

/-- all points of a row -/
theorem PtsR.row {w : World} {v : Value} {l : List Pt} (h : PtsR w v l) (h0 : 0 < l.length) : ∃ g o c, v = .slice (some ⟨g, o, none⟩) l.length c ∧ l.length ≤ c ∧ c ≤ maxLen ∧ g < w.heap.size ∧
    ∀ k, k < l.length → w.cell? ⟨g, o + k * 4, none⟩ = some (.string (sb (l.getD k noPt).ref)) ∧ w.cell? ⟨g, o + k * 4 + 1, none⟩ = some (.int .i64 (l.getD k noPt).lo) ∧ w.cell? ⟨g, o + k * 4 + 2, none⟩ = some (.int .i64 (l.getD k noPt).hi) ∧ w.cell? ⟨g, o + k * 4 + 3, none⟩ = some (.int .u8 ((l.getD k noPt).dir : Int)) := by
  obtain ⟨⟨hl, A, c, hv, hc, hm, hr⟩, _⟩ := h
  obtain ⟨g, o, rfl, hg, hx⟩ := hr h0
  refine ⟨g, o, c, hv, hc, hm, hg, fun k hk => ?_⟩
  have e : l.getD k noPt = l[k] := getD_of (List.getElem?_eq_getElem hk)
  obtain ⟨a0, a1, a2, a3⟩ := ptcells_at l k hk
  rw [e]
  exact ⟨hx _ _ a0, hx _ _ a1, hx _ _ a2, hx _ _ a3⟩
set_option maxRecDepth 100000 in
set_option maxHeartbeats 4000000 in
theorem airwayReturns_walk (nm f t : ByteArray) (v : Value) (l : List Pt) (w : World) (E : Env w) (h : PtsR w v l) (hnm : nm.size ≤ maxLen) :
    Calls Tryd.prog 4 #[.agg #[.string nm, v], .string f, .string t] w fun e w' => e = .returned (.bool true) ∧ Below w.heap.size w w' := by
  have H := Lib.hid h
  clear h
  have Q0 : Hid (BoxQ w nm v (w.alloc (.cells #[.string nm, v] 24))) := Below.refl _ _
  go_enter Tryd.func4, Tryd.ntmps4
  go_wp2_with fail
  refine (awake_any _ (E.alloc _)).mono ?_
  rintro e w1 ⟨rfl, hb1⟩
  have Q1 := Lib.hid (Q0.out.then_ hb1)
  have b0 := Q1.out.c0
  have b1 := Q1.out.c1
  have bs := Q1.out.size
  clear hb1
  go_wp2_with fail
  refine (expand_any nm f t _ l _ (Q1.out.pts H) hnm).mono ?_
  rintro e w2 ⟨v2, rfl, hv2, hb2⟩
  have Q2 := Lib.hid (Q1.out.then_ hb2)
  clear b0 b1 bs
  have b0 := Q2.out.c0
  have b1 := Q2.out.c1
  have bs := Q2.out.size
  have V2 := Lib.hid hv2
  clear hv2 hb2
  have X1 := Lib.hid (fun h => expOut_err (nm := bl nm) (l := l) (f := bl f) (t := bl t) h)
  have X2 := Lib.hid (fun h => expOut_err (nm := bl nm) (l := l) (f := bl t) (t := bl f) h)
  have X3 := Lib.hid (fun h h' => expOut_back (nm := bl nm) (l := l) (f := bl f) (t := bl t) h h')
  obtain ⟨r, hr⟩ : ∃ r, expOut (bl nm) l (bl f) (bl t) = r := ⟨_, rfl⟩
  rw [hr] at V2 X1 X3 ⊢
  clear hr
  go_wp2_with fail
  refine (expand_any nm t f _ l _ (Q2.out.pts H) hnm).mono ?_
  rintro e w3 ⟨v3, rfl, hv3, hb3⟩
  have Q3 := Lib.hid (Q2.out.then_ hb3)
  have V2 := Lib.hid (V2.out.below hb3)
  have V3 := Lib.hid hv3
  clear hv3 hb3 b0 b1 bs
  obtain ⟨q, hq⟩ : ∃ q, expOut (bl nm) l (bl t) (bl f) = q := ⟨_, rfl⟩
  rw [hq] at V3 X2 X3 ⊢
  clear hq
  obtain ⟨A2, c2, rfl, hc2, hm2⟩ := V2.out.form
  obtain ⟨A3, c3, rfl, hc3, hm3⟩ := V3.out.form
  have HB := Lib.hid Q3.out.below
  by_cases hr0 : r.2 = 0
  · by_cases hq0 : q.2 = 0
    · obtain ⟨hlen, hpos, hrt, hrf, hall⟩ := X3.out hr0 hq0
      obtain ⟨g, o, c, hA, hgc, hcm, hg, hc⟩ := V2.out.row hpos
      obtain ⟨g', o', c', hA', hgc', hcm', hg', hc'⟩ := V3.out.row (by omega)
      simp only [Value.slice.injEq, true_and] at hA hA'
      obtain ⟨rfl, rfl⟩ := hA
      obtain ⟨rfl, rfl⟩ := hA'
      have e1 : (r.2 != 0) = false := bne_eq_false_iff_eq.2 hr0
      have e2 : (q.2 != 0) = false := bne_eq_false_iff_eq.2 hq0
      rw [← hlen] at hc' ⊢
      obtain ⟨n, hn⟩ : ∃ n, r.1.length = n := ⟨_, rfl⟩
      rw [hn] at hc hc' hrt hrf hall hpos hgc ⊢
      have HRT : sb (r.1.getD (n - 1) noPt).ref = t := by rw [hrt, sb_bl]
      have HRF : sb (q.1.getD (n - 1) noPt).ref = f := by rw [hrf, sb_bl]
      have z1 := (hc (n - 1) (by omega)).1
      have z2 := (hc' (n - 1) (by omega)).1
      rw [HRT] at z1
      rw [HRF] at z2
      have HC := Lib.hid hc
      have HC' := Lib.hid hc'
      have HALL := Lib.hid hall
      clear hc hc' hall HRT HRF hrt hrf hr0 hq0 hn hlen V2 V3 X1 X2 X3 H Q0 Q1 Q2 Q3
      unfold maxLen at hcm hcm'
      have e3 : ((n : Int) == 0) = false := beq_eq_false_iff_ne.2 (by omega)
      have e4 : (0 : Int) ≤ (n : Int) - 1 := by omega
      have e5 : (n : Int) - 1 < (n : Int) := by omega
      have e6 : (1 : Int) ≤ (n : Int) := by omega
      have e7 : ((n : Int) - 1).toNat = n - 1 := by omega
      go_wp2
      clear z1 z2 e7
      go_loopw [83] (fun iv wr => ∃ k : Nat, k ≤ n ∧ iv = .int .i64 k ∧ Drawn w3 wr) (fun iv _ => n - (intOf iv).toNat)
      case atStart => exact ⟨0, Nat.zero_le _, rfl, Drawn.refl _⟩
      case round =>
        obtain ⟨k, hk, rfl, m, rfl⟩ := hrel
        by_cases hlt : k < n
        · obtain ⟨j1, j2, j3, j4, j5⟩ := HALL.out k hlt
          obtain ⟨_, _, _, x3⟩ := HC.out k hlt
          obtain ⟨_, x1, x2, _⟩ := HC.out (n - 1 - k) (by omega)
          obtain ⟨y0, y1, y2, y3⟩ := HC'.out k hlt
          rw [j1] at y1
          rw [j2] at y2
          rw [j3] at x3
          rw [j4] at y3
          have hki : (k : Int) < (n : Int) := by omega
          obtain ⟨lo, hlo⟩ : ∃ lo, (r.1.getD (n - 1 - k) noPt).lo = lo := ⟨_, rfl⟩
          obtain ⟨hi, hhi⟩ : ∃ hi, (r.1.getD (n - 1 - k) noPt).hi = hi := ⟨_, rfl⟩
          rw [hlo] at x1 y1
          rw [hhi] at x2 y2
          clear hlo hhi j1 j2 j3 j4
          have i1 : (0 : Int) ≤ (n : Int) - 1 - (k : Int) := by omega
          have i2 : (n : Int) - 1 - (k : Int) < (n : Int) := by omega
          have i3 : (k : Int) ≤ (n : Int) - 1 := by omega
          obtain ⟨ja, hja⟩ : ∃ ja, n - 1 - k = ja := ⟨_, rfl⟩
          rw [hja] at x1 x2
          have i4 : ((n : Int) - 1 - (k : Int)).toNat = ja := by omega
          clear hja
          rcases Nat.lt_or_ge (k + 1) n with hl2 | hl2
          · obtain ⟨x0, _, _, _⟩ := HC.out (n - 2 - k) (by omega)
            rw [j5 hl2] at y0
            obtain ⟨rf, hrf⟩ : ∃ rf, sb (r.1.getD (n - 2 - k) noPt).ref = rf := ⟨_, rfl⟩
            rw [hrf] at x0 y0
            clear hrf j5
            have i5 : (0 : Int) ≤ (n : Int) - 2 - (k : Int) := by omega
            have i6 : (n : Int) - 2 - (k : Int) < (n : Int) := by omega
            have i7 : (k : Int) ≤ (n : Int) - 2 := by omega
            obtain ⟨jb, hjb⟩ : ∃ jb, n - 2 - k = jb := ⟨_, rfl⟩
            rw [hjb] at x0
            have i8 : ((n : Int) - 2 - (k : Int)).toNat = jb := by omega
            clear hjb
            have i9 : (k : Int) < (n : Int) - 1 := by omega
            have d1 : decide ((k : Int) < (n : Int) - 1) = true := decide_eq_true i9
            have p1 : IntKind.i64.wrap ((n : Int) - 1) = (n : Int) - 1 := IntWalk.i64_in _ (by omega)
            have p2 : IntKind.i64.wrap ((n : Int) - 1 - (k : Int)) = (n : Int) - 1 - (k : Int) := IntWalk.i64_in _ (by omega)
            have p3 : IntKind.i64.wrap ((n : Int) - 2) = (n : Int) - 2 := IntWalk.i64_in _ (by omega)
            have p4 : IntKind.i64.wrap ((n : Int) - 2 - (k : Int)) = (n : Int) - 2 - (k : Int) := IntWalk.i64_in _ (by omega)
            go_wp2
            go_quiet (fail)
            clear p1 p2 p3 p4
            go_wp2
            go_roundw
            case rel => exact ⟨k + 1, hlt, by go_num, _, rfl⟩
            case measure => simp [intOf]; omega
          · clear y0 j5
            have i9 : (n : Int) - 1 ≤ (k : Int) := by omega
            have d1 : decide ((k : Int) < (n : Int) - 1) = false := decide_eq_false (by omega)
            have p1 : IntKind.i64.wrap ((n : Int) - 1) = (n : Int) - 1 := IntWalk.i64_in _ (by omega)
            have p2 : IntKind.i64.wrap ((n : Int) - 1 - (k : Int)) = (n : Int) - 1 - (k : Int) := IntWalk.i64_in _ (by omega)
            go_wp2
            go_quiet (fail)
            clear p1 p2
            go_wp2
            go_roundw
            case rel => exact ⟨k + 1, hlt, by go_num, _, rfl⟩
            case measure => simp [intOf]; omega
        · go_wp2
          go_ret
          exact ⟨rfl, HB.out.trans (below_drewN' (Below.refl _ _) _)⟩
    · have hl : q.1.length = 0 := by rw [X2.out hq0]; rfl
      have e1 : (r.2 != 0) = false := bne_eq_false_iff_eq.2 hr0
      have e2 : (q.2 != 0) = true := bne_iff_ne.2 hq0
      have e3 : ((q.1.length : Int) == 0) = true := beq_iff_eq.2 (by omega)
      have HL := Lib.hid hl
      have HR0 := Lib.hid hr0
      clear hr0 hq0 hl
      go_wp2
      go_ret
      exact ⟨rfl, HB.out⟩
  · have hl : r.1.length = 0 := by rw [X1.out hr0]; rfl
    have e2 : (r.2 != 0) = true := bne_iff_ne.2 hr0
    have e3 : ((r.1.length : Int) == 0) = true := beq_iff_eq.2 (by omega)
    have HL := Lib.hid hl
    clear hr0 hl
    go_wp2
    go_ret
    exact ⟨rfl, HB.out⟩
end Go.Proofs.YtkopjbjkfeopfaaDoor
