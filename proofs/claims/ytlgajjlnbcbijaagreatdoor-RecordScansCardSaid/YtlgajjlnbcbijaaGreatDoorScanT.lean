/-
  Contract: a scanner takes a field (the program).
-/
import Derived.Test.YtlgajjlnbcbijaaGreatDoorScanP
namespace Go.Proofs.YtlgajjlnbcbijaaGreatDoor
open Go.RowKit
set_option linter.unusedVariables false
set_option linter.unusedSimpArgs false

def TakePost (s : Sc) (g : Nat) (w : World) (e : Ending) (w' : World) : Prop := e = .returned (.tuple #[.string (sb s.text), .bool s.got]) ∧ ScPost s.take g w w'
theorem fld_le {w : World} {g : Nat} {v : Value} {fs : List FldI} (h : FsR w g v fs) : ∃ A c, v = .slice A fs.length c ∧ fs.length ≤ c ∧ c ≤ 9223372036854775807 := by
  obtain ⟨A, c, hv, hc, hm, _⟩ := h; exact ⟨A, c, hv, hc, by unfold maxLen at hm; omega⟩
set_option maxRecDepth 100000 in
set_option maxHeartbeats 2000000 in
theorem take_any (s : Sc) (g : Nat) (w : World) (h : ScP w g s) :
    Calls Tryz.prog 104 #[.pointer (some ⟨g, 0, none⟩)] w (TakePost s g w) := by
  have H := Lib.hid h
  obtain ⟨hn, v, hb, hf⟩ := h
  cases hbad : s.bad
  · have hde : s.de = 0 := by unfold Sc.bad at hbad; simpa using hbad
    have HBD := Lib.hid hbad
    by_cases hlt : s.nx < s.fs.length
    · have hg : s.got = true := Sc.got_iff.2 ⟨hde, hlt⟩
      obtain ⟨b, o, c, rfl, hbl, hc0, hc1, hsz⟩ := hf.at_ hlt
      have hbn : b ≠ g := Nat.ne_of_lt hbl
      have hbw : b < w.heap.size := Nat.lt_trans hbl H.out.lt
      have HFIN : Hid (∀ o' : Obj, TakePost s g w (.returned (.tuple #[.string (sb (fld s.fs s.nx).1), .bool true])) ((((w.setCell ⟨g, 2, none⟩ (.int .i64 ((s.nx : Int) + 1))).setCell ⟨g, 3, none⟩ (.int .i64 (fld s.fs s.nx).2)).alloc o').drew)) := by
        intro o'
        have ho : Off g w ((((w.setCell ⟨g, 2, none⟩ (.int .i64 ((s.nx : Int) + 1))).setCell ⟨g, 3, none⟩ (.int .i64 (fld s.fs s.nx).2)).alloc o').drew) := ((((Off.refl g w).set 2 _).set 3 _).alloc _).drew
        refine ⟨by unfold Sc.text; rw [hg]; rfl, ?_, ho⟩
        rw [Sc.take_got hg]
        refine ⟨hlt, _, ?_, hf.off H.out.lt ho⟩
        have h2 := blkSet (blkSet hb 2 (.int .i64 ((s.nx : Int) + 1))) 3 (.int .i64 (fld s.fs s.nx).2)
        exact ((((Below.refl _ _).alloc (Nat.le_refl _) o').drew).block g (by simpa using H.out.lt)).trans h2
      have k1 : w.cell? ⟨g, 1, none⟩ = some (.slice (some ⟨b, o, none⟩) s.fs.length c) := blkCell hb 1 rfl
      have k2 : w.cell? ⟨g, 2, none⟩ = some (.int .i64 (s.nx : Int)) := blkCell hb 2 rfl
      have k3 : w.cell? ⟨g, 3, none⟩ = some (.int .i64 s.la) := blkCell hb 3 rfl
      have f2 := blkFree hb 2
      have f3 := blkFree hb 3
      have hgw := H.out.lt
      obtain ⟨A', c', hv', hcn, hcm⟩ := fld_le hf
      simp only [Value.slice.injEq, true_and] at hv'
      obtain ⟨-, rfl⟩ := hv'
      obtain ⟨n, hnn⟩ : ∃ n, s.fs.length = n := ⟨_, rfl⟩
      obtain ⟨k, hkk⟩ : ∃ k, s.nx = k := ⟨_, rfl⟩
      obtain ⟨tx, htx⟩ : ∃ t, sb (fld s.fs s.nx).1 = t := ⟨_, rfl⟩
      obtain ⟨co, hco⟩ : ∃ t, (fld s.fs s.nx).2 = t := ⟨_, rfl⟩
      rw [htx, hco] at HFIN
      rw [htx] at hc0
      rw [hco] at hc1
      rw [hkk] at HFIN hlt k2 hc0 hc1
      rw [hnn] at hlt hcn k1
      clear hnn hkk htx hco hb hf hn hg hbad hde hsz
      have hne : ((k : Int) == (n : Int)) = false := by rw [beq_eq_false_iff_ne]; omega
      have hki : (k : Int) < (n : Int) := by omega
      have hknat : ((k : Int)).toNat = k := Int.toNat_natCast k
      go_enter Tryz.func104, Tryz.ntmps104
      go_wp2_with fail
      refine (failed_any s g _ H.out).mono ?_
      rintro en w1 ⟨rfl, rfl⟩
      rw [HBD.out]
      go_wp2
      go_region
      go_wp2
      go_ret2
      exact HFIN.out _
    · have hg : s.got = false := by
        rw [← Bool.not_eq_true, Sc.got_iff]; intro h; exact hlt h.2
      have HFIN : Hid (∀ (col : Int) (w1 w' : World), col = endCol s.fs → Below w.heap.size w w1 → ScPost (s.note col 4) g w1 w' → TakePost s g w (.returned (.tuple #[.string ⟨#[]⟩, .bool false])) w') := by
        intro col w1 w' hc hb1 hp
        refine ⟨by unfold Sc.text; rw [hg]; rfl, ?_⟩
        have ht : s.take = s.note col 4 := by unfold Sc.take; rw [if_neg (by rw [hbad]; decide), if_neg hlt, hc]
        rw [ht]
        exact ⟨hp.1, (Off.of_below hb1).trans hp.2⟩
      have hnl : s.nx = s.fs.length := by omega
      obtain ⟨A, c, rfl, hcn, hcm⟩ := fld_le hf
      have k1 : w.cell? ⟨g, 1, none⟩ = some (.slice A s.fs.length c) := blkCell hb 1 rfl
      have k2 : w.cell? ⟨g, 2, none⟩ = some (.int .i64 (s.nx : Int)) := blkCell hb 2 rfl
      rw [hnl] at k2
      have hgw := H.out.lt
      by_cases h0 : 0 < s.fs.length
      · obtain ⟨m, hm⟩ : ∃ m, s.fs.length = m + 1 := ⟨s.fs.length - 1, by omega⟩
        obtain ⟨b, o, c', hv', hbl, hc0, hc1, hsz⟩ := hf.at_ (k := m) (by omega)
        have hbn : b ≠ g := Nat.ne_of_lt hbl
        have hbw : b < w.heap.size := Nat.lt_trans hbl H.out.lt
        simp only [Value.slice.injEq, true_and] at hv'
        obtain ⟨rfl, rfl⟩ := hv'
        have HCOL : Hid (wrap64 ((fld s.fs m).2 + ((sb (fld s.fs m).1).size : Int)) = endCol s.fs) := by
          unfold Hid endCol; rw [if_neg (by omega), hm]; rfl
        have hsz2 : (sb (fld s.fs m).1).size ≤ 9223372036854775807 := by unfold maxLen at hsz; exact hsz
        obtain ⟨n, hnn⟩ : ∃ n, s.fs.length = n := ⟨_, rfl⟩
        obtain ⟨tx, htx⟩ : ∃ t, sb (fld s.fs m).1 = t := ⟨_, rfl⟩
        obtain ⟨co, hco⟩ : ∃ t, (fld s.fs m).2 = t := ⟨_, rfl⟩
        rw [hnn] at h0 hm hcn k1 k2
        rw [htx] at HCOL hc0 hsz2
        rw [hco] at HCOL hc1
        have hi1 : ((n : Int) - 1).toNat = m := by omega
        have hi2 : (0 : Int) ≤ (n : Int) - 1 := by omega
        have hi3 : (1 : Int) ≤ (n : Int) := by omega
        have hi4 : (n : Int) - 1 < (n : Int) := by omega
        have hi5 : (0 : Int) < (n : Int) := by omega
        clear hnn htx hco hsz hb hf hn hg hbad hde hlt hnl hm
        go_enter Tryz.func104, Tryz.ntmps104
        go_wp2_with fail
        refine (failed_any s g _ H.out).mono ?_
        rintro en w1 ⟨rfl, rfl⟩
        rw [HBD.out]
        go_wp2_with fail
        refine (note_any s _ 4 g _ (H.out.below ((Below.refl _ _).alloc (Nat.le_refl _) _))).mono ?_
        rintro en w1 ⟨rfl, hp⟩
        have HP := Lib.hid hp
        clear hp
        go_wp2
        go_ret2
        exact HFIN.out _ _ _ HCOL.out ((Below.refl _ _).alloc (Nat.le_refl _) _) HP.out
      · have h00 : s.fs.length = 0 := by omega
        have HCOL : Hid (1 = endCol s.fs) := by unfold Hid endCol; rw [if_pos h00]
        rw [h00] at k1 k2 hcn
        clear hb hf hn hg hbad hde hlt hnl h00 h0
        go_enter Tryz.func104, Tryz.ntmps104
        go_wp2_with fail
        refine (failed_any s g _ H.out).mono ?_
        rintro en w1 ⟨rfl, rfl⟩
        rw [HBD.out]
        go_wp2_with fail
        refine (note_any s _ 4 g _ H.out).mono ?_
        rintro en w1 ⟨rfl, hp⟩
        have HP := Lib.hid hp
        clear hp
        go_wp2
        go_ret2
        exact HFIN.out _ _ _ HCOL.out (Below.refl _ _) HP.out
  · have hg : s.got = false := by unfold Sc.got; rw [hbad]; rfl
    have HFIN : Hid (TakePost s g w (.returned (.tuple #[.string ⟨#[]⟩, .bool false])) w) := by
      refine ⟨by unfold Sc.text; rw [hg]; rfl, ?_⟩
      rw [Sc.take_bad hbad]; exact ScPost.same H.out
    have HBD := Lib.hid hbad
    clear hbad hb hn hf hg
    go_enter Tryz.func104, Tryz.ntmps104
    go_wp2_with fail
    refine (failed_any s g _ H.out).mono ?_
    rintro en w1 ⟨rfl, rfl⟩
    rw [HBD.out]
    go_wp2
    go_ret2
    exact HFIN.out
end Go.Proofs.YtlgajjlnbcbijaaGreatDoor
