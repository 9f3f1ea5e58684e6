/-
  Contracts: what a scanner takes: a field, a word, an altitude, a distance, a number, a position, a window; what it notes.
-/
import Derived.Test.YtlgajjlnbcbijaaGreatDoorScanQ
import Derived.Test.YtlgajjlnbcbijaaGreatDoorDistP
import Derived.Test.YtlgajjlnbcbijaaGreatDoorAngPos
namespace Go.Proofs.YtlgajjlnbcbijaaGreatDoor
open Go.RowKit
set_option linter.unusedVariables false
set_option linter.unusedSimpArgs false

theorem ScP.c3 {w : World} {g : Nat} {s : Sc} (h : ScP w g s) : w.cell? ⟨g, 3, none⟩ = some (.int .i64 s.la) := by
  obtain ⟨_, v, h, _⟩ := h; exact blkCell h 3 rfl
theorem ScQ.c3 {w : World} {g : Nat} {s : Sc} (h : ScQ w g s) : w.cell? ⟨g, 3, none⟩ = some (.int .i64 s.la) := by
  obtain ⟨_, v, h, _⟩ := h; exact blkCell h 3 rfl
theorem field_any (s : Sc) (g : Nat) (w : World) (h : ScP w g s) :
    Calls Tryz.prog 34 #[.pointer (some ⟨g, 0, none⟩)] w fun e w' => e = .returned (.string (sb s.text)) ∧ ScPost s.take g w w' := by
  have H := Lib.hid h
  clear h
  go_enter Tryz.func34, Tryz.ntmps34
  go_wp2_with fail
  refine (take_any s g _ H.out).mono ?_
  rintro e w1 ⟨rfl, hp⟩
  have HP := Lib.hid hp
  clear hp
  go_wp2
  go_ret
  exact ⟨rfl, HP.out⟩
theorem rfield_any (s : Sc) (g : Nat) (w : World) (h : ScQ w g s) :
    Calls Tryz.prog 92 #[.pointer (some ⟨g, 0, none⟩)] w fun e w' => e = .returned (.string (sb s.text)) ∧ ScQPost s.take g w w' := by
  have H := Lib.hid h
  clear h
  go_enter Tryz.func92, Tryz.ntmps92
  go_wp2_with fail
  refine (rtake_any s g _ H.out).mono ?_
  rintro e w1 ⟨rfl, hp⟩
  have HP := Lib.hid hp
  clear hp
  go_wp2
  go_ret
  exact ⟨rfl, HP.out⟩
theorem failS_any (s : Sc) (er : Int) (g : Nat) (w : World) (h : ScP w g s) :
    Calls Tryz.prog 33 #[.pointer (some ⟨g, 0, none⟩), .int .i64 er] w fun e w' => e = .returned (.tuple #[]) ∧ ScPost (s.note s.la er) g w w' := by
  have c3 := h.c3
  have H := Lib.hid h
  clear h
  go_enter Tryz.func33, Tryz.ntmps33
  go_wp2_with fail
  refine (note_any s s.la er g _ H.out).mono ?_
  rintro e w1 ⟨rfl, hp⟩
  have HP := Lib.hid hp
  clear hp
  go_wp2
  go_end0
  exact ⟨rfl, HP.out⟩
theorem rfailS_any (s : Sc) (er : Int) (g : Nat) (w : World) (h : ScQ w g s) :
    Calls Tryz.prog 101 #[.pointer (some ⟨g, 0, none⟩), .int .i64 er] w fun e w' => e = .returned (.tuple #[]) ∧ ScQPost (s.note s.la er) g w w' := by
  have c3 := h.c3
  have H := Lib.hid h
  clear h
  go_enter Tryz.func101, Tryz.ntmps101
  go_wp2_with fail
  refine (rnote_any s s.la er g _ H.out).mono ?_
  rintro e w1 ⟨rfl, hp⟩
  have HP := Lib.hid hp
  clear hp
  go_wp2
  go_end0
  exact ⟨rfl, HP.out⟩
theorem pAlt_zero {o : Option Int} (h : pAltE o ≠ 0) : pAltN o = 0 := by
  unfold pAltE pAltN at *
  split at h
  · split at h
    · exact absurd rfl h
    · rename_i h2; simp [h2]
  · rfl
theorem distN_zero {o : Option Int} (h : distE o ≠ 0) : distN o = 0 := by
  unfold distE distN at *
  split at h
  · split at h
    · exact absurd rfl h
    · rename_i h2; rw [if_neg h2]
  · rfl
/-- words in memory, outside block g -/
def WdR (w : World) (g : Nat) (v : Value) (ws : List (List UInt8)) : Prop :=
  ∃ A c, v = .slice A ws.length c ∧ ws.length ≤ c ∧ c ≤ maxLen ∧ (0 < ws.length → ∃ h o, A = some ⟨h, o, none⟩ ∧ h < w.heap.size ∧ h ≠ g ∧ ∀ k (hk : k < ws.length), w.cell? ⟨h, o + k, none⟩ = some (.string (sb ws[k])))
theorem WdR.off {w w' : World} {g : Nat} {v : Value} {ws : List (List UInt8)} (h : WdR w g v ws) (ho : Off g w w') : WdR w' g v ws := by
  obtain ⟨A, c, hv, hc, hm, hr⟩ := h
  refine ⟨A, c, hv, hc, hm, fun h0 => ?_⟩
  obtain ⟨b, o, hA, hb, hn, hx⟩ := hr h0
  exact ⟨b, o, hA, Nat.lt_of_lt_of_le hb ho.size, hn, fun k hk => (ho.cell hb hn).trans (hx k hk)⟩
theorem WdR.at_ {w : World} {g : Nat} {v : Value} {ws : List (List UInt8)} (h : WdR w g v ws) {k : Nat} (hk : k < ws.length) :
    ∃ b o c, v = .slice (some ⟨b, o, none⟩) ws.length c ∧ w.cell? ⟨b, o + k, none⟩ = some (.string (sb ws[k])) := by
  obtain ⟨A, c, hv, hc, hm, hr⟩ := h
  obtain ⟨b, o, rfl, hb, hn, hx⟩ := hr (by omega)
  exact ⟨b, o, c, hv, hx k hk⟩
theorem wordAt_step {ws : List (List UInt8)} {k : Nat} (t : List UInt8) (h : k < ws.length) : wordAt (ws.drop k) t k = if ws[k] = t then (k : Int) else wordAt (ws.drop (k + 1)) t (k + 1) := by
  rw [List.drop_eq_getElem_cons h]; rfl
theorem wordAt_end {ws : List (List UInt8)} {k : Nat} (t : List UInt8) (h : ws.length ≤ k) : wordAt (ws.drop k) t k = -1 := by
  rw [List.drop_eq_nil_of_le h]; rfl
theorem sb_eq {a b : List UInt8} : ((sb a).toList == (sb b).toList) = decide (a = b) := by
  rw [bl_toList, bl_toList, bl_sb, bl_sb, Bool.eq_iff_iff, beq_iff_eq, decide_eq_true_iff]
def wordPost (s : Sc) (ws : List (List UInt8)) (g : Nat) (w : World) (e : Ending) (w' : World) : Prop := e = .returned (.int .i64 (s.tv (-1) (fun t => wordAt ws t 0))) ∧ ScPost (s.tk (wordE ws)) g w w'
set_option maxRecDepth 100000 in
set_option maxHeartbeats 1000000 in
theorem word_any (s : Sc) (g : Nat) (v : Value) (ws : List (List UInt8)) (w : World) (h : ScP w g s) (hw : WdR w g v ws) :
    Calls Tryz.prog 35 #[.pointer (some ⟨g, 0, none⟩), v] w (wordPost s ws g w) := by
  obtain ⟨A, c, hv, hc, hm⟩ : ∃ A c, v = .slice A ws.length c ∧ ws.length ≤ c ∧ c ≤ maxLen := by
    obtain ⟨A, c, hv, hc, hm, _⟩ := hw; exact ⟨A, c, hv, hc, hm⟩
  subst hv
  have HFIN : Hid (∀ (x : Int) w', s.tv (-1) (fun t => wordAt ws t 0) = x → ScPost (s.tk (wordE ws)) g w w' → wordPost s ws g w (.returned (.int .i64 x)) w') := by
    intro x w' h1 h2; unfold wordPost; rw [h1]; exact ⟨rfl, h2⟩
  unfold maxLen at hm
  have HW := Lib.hid hw
  have H := Lib.hid h
  obtain ⟨n, hn⟩ : ∃ n, ws.length = n := ⟨_, rfl⟩
  have HN := Lib.hid hn
  rw [hn] at hc HW ⊢
  clear h hw hn
  cases hg : s.got
  · have HG := Lib.hid hg
    have HF1 := Lib.hid (Sc.tv_no hg (-1 : Int) (fun t => wordAt ws t 0))
    have HF2 := Lib.hid (Sc.tk_no hg (wordE ws))
    clear hg
    go_enter Tryz.func35, Tryz.ntmps35
    go_wp2_with fail
    refine (take_any s g _ H.out).mono ?_
    rintro e w1 ⟨rfl, hp⟩
    rw [HG.out]
    have HP := Lib.hid hp
    clear hp
    go_wp2
    go_ret
    exact HFIN.out _ _ HF1.out (by rw [HF2.out]; exact HP.out)
  · have HG := Lib.hid hg
    have HF1 := Lib.hid (Sc.tv_got hg (-1 : Int) (fun t => wordAt ws t 0))
    have HF2 := Lib.hid (Sc.tk_got hg (wordE ws))
    obtain ⟨t, ht⟩ : ∃ t, s.text = t := ⟨_, rfl⟩
    rw [ht] at HF1 HF2
    have HT := Lib.hid ht
    clear hg ht
    go_enter Tryz.func35, Tryz.ntmps35
    go_wp2_with fail
    refine (take_any s g _ H.out).mono ?_
    rintro e w1 ⟨rfl, hp⟩
    rw [HG.out, HT.out]
    have HP := Lib.hid hp
    have HW1 := Lib.hid (HW.out.off hp.2)
    clear hp HW
    go_wp2
    go_loop [7, 8, 18] (fun _ _ i => ∃ k : Nat, k ≤ n ∧ i = .int .i64 k ∧ Hid (wordAt ws t 0 = wordAt (ws.drop k) t k)) (fun _ _ i => n - (intOf i).toNat)
    case atStart => exact ⟨0, Nat.zero_le _, rfl, by unfold Hid; rw [List.drop_zero]⟩
    case round =>
      obtain ⟨k, hk, rfl, hx⟩ := hrel
      by_cases hlt : k < n
      · have hkl : k < ws.length := by rw [HN.out]; exact hlt
        obtain ⟨b, o, c', hA, hcell⟩ := HW1.out.at_ hkl
        rw [HN.out] at hA
        simp only [Value.slice.injEq, true_and] at hA
        obtain ⟨rfl, rfl⟩ := hA
        have hst := Lib.hid (wordAt_step t hkl)
        obtain ⟨x, hxx⟩ : ∃ x, ws[k] = x := ⟨_, rfl⟩
        rw [hxx] at hcell hst
        have hki : (k : Int) < (n : Int) := by omega
        clear hxx
        by_cases hxt : x = t
        · have e1 : ((sb x).toList == (sb t).toList) = true := by rw [sb_eq, decide_eq_true_iff]; exact hxt
          have HV : Hid (wordAt ws t 0 = (k : Int)) := by unfold Hid; rw [hx.out, hst.out, if_pos hxt]
          have HE : Hid (s.tk (wordE ws) = s.take) := by
            unfold Hid; rw [HF2.out]; unfold wordE; rw [HV.out, if_neg (by omega), Sc.note_zero]
          clear hxt hst hx
          go_wp2
          go_ret
          exact HFIN.out _ _ (by rw [HF1.out, HV.out]) (by rw [HE.out]; exact HP.out)
        · have e1 : ((sb x).toList == (sb t).toList) = false := by rw [sb_eq, decide_eq_false_iff_not]; exact hxt
          have HV : Hid (wordAt ws t 0 = wordAt (ws.drop (k + 1)) t (k + 1)) := by unfold Hid; rw [hx.out, hst.out, if_neg hxt]
          clear hxt hst hx
          go_wp2
          go_round
          case rel => exact ⟨k + 1, hlt, by go_num, HV.out⟩
          case measure => simp [intOf]; omega
      · have HV : Hid (wordAt ws t 0 = -1) := by unfold Hid; rw [hx.out, wordAt_end t (by rw [HN.out]; omega)]
        have HE : Hid (s.tk (wordE ws) = s.take.note s.take.la 4) := by
          unfold Hid; rw [HF2.out]; unfold wordE; rw [HV.out, if_pos rfl]
        have c3 := HP.out.1.c3
        have hki : (n : Int) ≤ (k : Int) := by omega
        clear hx
        go_wp2_with fail
        refine (note_any s.take s.take.la 4 g _ HP.out.1).mono ?_
        rintro e w2 ⟨rfl, hp⟩
        have HP2 := Lib.hid (HP.out.trans hp)
        clear hp
        go_wp2
        go_ret
        exact HFIN.out _ _ (by rw [HF1.out, HV.out]) (by rw [HE.out]; exact HP2.out)
def rwordPost (s : Sc) (ws : List (List UInt8)) (g : Nat) (w : World) (e : Ending) (w' : World) : Prop := e = .returned (.int .i64 (s.tv (-1) (fun t => wordAt ws t 0))) ∧ ScQPost (s.tk (wordE ws)) g w w'
set_option maxRecDepth 100000 in
set_option maxHeartbeats 1000000 in
theorem rword_any (s : Sc) (g : Nat) (v : Value) (ws : List (List UInt8)) (w : World) (h : ScQ w g s) (hw : WdR w g v ws) :
    Calls Tryz.prog 93 #[.pointer (some ⟨g, 0, none⟩), v] w (rwordPost s ws g w) := by
  obtain ⟨A, c, hv, hc, hm⟩ : ∃ A c, v = .slice A ws.length c ∧ ws.length ≤ c ∧ c ≤ maxLen := by
    obtain ⟨A, c, hv, hc, hm, _⟩ := hw; exact ⟨A, c, hv, hc, hm⟩
  subst hv
  have HFIN : Hid (∀ (x : Int) w', s.tv (-1) (fun t => wordAt ws t 0) = x → ScQPost (s.tk (wordE ws)) g w w' → rwordPost s ws g w (.returned (.int .i64 x)) w') := by
    intro x w' h1 h2; unfold rwordPost; rw [h1]; exact ⟨rfl, h2⟩
  unfold maxLen at hm
  have HW := Lib.hid hw
  have H := Lib.hid h
  obtain ⟨n, hn⟩ : ∃ n, ws.length = n := ⟨_, rfl⟩
  have HN := Lib.hid hn
  rw [hn] at hc HW ⊢
  clear h hw hn
  cases hg : s.got
  · have HG := Lib.hid hg
    have HF1 := Lib.hid (Sc.tv_no hg (-1 : Int) (fun t => wordAt ws t 0))
    have HF2 := Lib.hid (Sc.tk_no hg (wordE ws))
    clear hg
    go_enter Tryz.func93, Tryz.ntmps93
    go_wp2_with fail
    refine (rtake_any s g _ H.out).mono ?_
    rintro e w1 ⟨rfl, hp⟩
    rw [HG.out]
    have HP := Lib.hid hp
    clear hp
    go_wp2
    go_ret
    exact HFIN.out _ _ HF1.out (by rw [HF2.out]; exact HP.out)
  · have HG := Lib.hid hg
    have HF1 := Lib.hid (Sc.tv_got hg (-1 : Int) (fun t => wordAt ws t 0))
    have HF2 := Lib.hid (Sc.tk_got hg (wordE ws))
    obtain ⟨t, ht⟩ : ∃ t, s.text = t := ⟨_, rfl⟩
    rw [ht] at HF1 HF2
    have HT := Lib.hid ht
    clear hg ht
    go_enter Tryz.func93, Tryz.ntmps93
    go_wp2_with fail
    refine (rtake_any s g _ H.out).mono ?_
    rintro e w1 ⟨rfl, hp⟩
    rw [HG.out, HT.out]
    have HP := Lib.hid hp
    have HW1 := Lib.hid (HW.out.off hp.2)
    clear hp HW
    go_wp2
    go_loop [7, 8, 18] (fun _ _ i => ∃ k : Nat, k ≤ n ∧ i = .int .i64 k ∧ Hid (wordAt ws t 0 = wordAt (ws.drop k) t k)) (fun _ _ i => n - (intOf i).toNat)
    case atStart => exact ⟨0, Nat.zero_le _, rfl, by unfold Hid; rw [List.drop_zero]⟩
    case round =>
      obtain ⟨k, hk, rfl, hx⟩ := hrel
      by_cases hlt : k < n
      · have hkl : k < ws.length := by rw [HN.out]; exact hlt
        obtain ⟨b, o, c', hA, hcell⟩ := HW1.out.at_ hkl
        rw [HN.out] at hA
        simp only [Value.slice.injEq, true_and] at hA
        obtain ⟨rfl, rfl⟩ := hA
        have hst := Lib.hid (wordAt_step t hkl)
        obtain ⟨x, hxx⟩ : ∃ x, ws[k] = x := ⟨_, rfl⟩
        rw [hxx] at hcell hst
        have hki : (k : Int) < (n : Int) := by omega
        clear hxx
        by_cases hxt : x = t
        · have e1 : ((sb x).toList == (sb t).toList) = true := by rw [sb_eq, decide_eq_true_iff]; exact hxt
          have HV : Hid (wordAt ws t 0 = (k : Int)) := by unfold Hid; rw [hx.out, hst.out, if_pos hxt]
          have HE : Hid (s.tk (wordE ws) = s.take) := by
            unfold Hid; rw [HF2.out]; unfold wordE; rw [HV.out, if_neg (by omega), Sc.note_zero]
          clear hxt hst hx
          go_wp2
          go_ret
          exact HFIN.out _ _ (by rw [HF1.out, HV.out]) (by rw [HE.out]; exact HP.out)
        · have e1 : ((sb x).toList == (sb t).toList) = false := by rw [sb_eq, decide_eq_false_iff_not]; exact hxt
          have HV : Hid (wordAt ws t 0 = wordAt (ws.drop (k + 1)) t (k + 1)) := by unfold Hid; rw [hx.out, hst.out, if_neg hxt]
          clear hxt hst hx
          go_wp2
          go_round
          case rel => exact ⟨k + 1, hlt, by go_num, HV.out⟩
          case measure => simp [intOf]; omega
      · have HV : Hid (wordAt ws t 0 = -1) := by unfold Hid; rw [hx.out, wordAt_end t (by rw [HN.out]; omega)]
        have HE : Hid (s.tk (wordE ws) = s.take.note s.take.la 4) := by
          unfold Hid; rw [HF2.out]; unfold wordE; rw [HV.out, if_pos rfl]
        have c3 := HP.out.1.c3
        have hki : (n : Int) ≤ (k : Int) := by omega
        clear hx
        go_wp2_with fail
        refine (rnote_any s.take s.take.la 4 g _ HP.out.1).mono ?_
        rintro e w2 ⟨rfl, hp⟩
        have HP2 := Lib.hid (HP.out.trans hp)
        clear hp
        go_wp2
        go_ret
        exact HFIN.out _ _ (by rw [HF1.out, HV.out]) (by rw [HE.out]; exact HP2.out)
end Go.Proofs.YtlgajjlnbcbijaaGreatDoor
