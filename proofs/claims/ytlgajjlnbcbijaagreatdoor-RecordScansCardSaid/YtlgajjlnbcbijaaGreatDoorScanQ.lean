/-
  Contracts: a scanner of the reference notes an error, and takes a field.
-/
import Derived.Test.YtlgajjlnbcbijaaGreatDoorScanT
namespace Go.Proofs.YtlgajjlnbcbijaaGreatDoor
open Go.RowKit
set_option linter.unusedVariables false
set_option linter.unusedSimpArgs false

def RTakePost (s : Sc) (g : Nat) (w : World) (e : Ending) (w' : World) : Prop := e = .returned (.tuple #[.string (sb s.text), .bool s.got]) ∧ ScQPost s.take g w w'
set_option maxHeartbeats 1000000 in
theorem rnote_any (s : Sc) (c e : Int) (g : Nat) (w : World) (h : ScQ w g s) :
    Calls Tryz.prog 163 #[.pointer (some ⟨g, 0, none⟩), .int .i64 c, .int .i64 e] w fun en w' => en = .returned (.tuple #[]) ∧ ScQPost (s.note c e) g w w' := by
  have H := Lib.hid h
  obtain ⟨hn, v, hb, hf⟩ := h
  have HB := Lib.hid hb
  have HF := Lib.hid hf
  clear hf
  have c7 : w.cell? ⟨g, 7, none⟩ = some (.bool s.bad) := blkCell hb 7 rfl
  cases hbad : s.bad
  · rw [hbad] at c7
    by_cases he : e = 0
    · have e1 : (e != 0) = false := bne_eq_false_iff_eq.2 he
      have HN : Hid (s.note c e = s) := by unfold Hid; rw [he, Sc.note_zero]
      clear he hb hn hbad
      go_enter Tryz.func163, Tryz.ntmps163
      go_wp2
      go_end0
      exact ⟨rfl, by rw [HN.out]; exact ScQPost.same H.out⟩
    · have e1 : (e != 0) = true := bne_iff_ne.2 he
      have HN := Lib.hid (Sc.note_set hbad c he)
      have f4 := blkFree hb 4
      have f5 := blkFree hb 5
      have f6 := blkFree hb 6
      have f7 := blkFree hb 7
      have c0 : w.cell? ⟨g, 0, none⟩ = some (.int .i64 s.num) := blkCell hb 0 rfl
      have c4 : w.cell? ⟨g, 4, none⟩ = some (.int .i64 s.dl) := blkCell hb 4 rfl
      have c5 : w.cell? ⟨g, 5, none⟩ = some (.int .i64 s.dc) := blkCell hb 5 rfl
      have c6 : w.cell? ⟨g, 6, none⟩ = some (.int .i64 s.de) := blkCell hb 6 rfl
      have HFIN : Hid (ScQPost (s.note c e) g w ((((w.setCell ⟨g, 7, none⟩ (.bool true)).setCell ⟨g, 4, none⟩ (.int .i64 s.num)).setCell ⟨g, 5, none⟩ (.int .i64 c)).setCell ⟨g, 6, none⟩ (.int .i64 e))) := by
        have ho : Off g w ((((w.setCell ⟨g, 7, none⟩ (.bool true)).setCell ⟨g, 4, none⟩ (.int .i64 s.num)).setCell ⟨g, 5, none⟩ (.int .i64 c)).setCell ⟨g, 6, none⟩ (.int .i64 e)) := ((((Off.refl g w).set 7 _).set 4 _).set 5 _).set 6 _
        refine ⟨?_, ho⟩
        rw [HN.out]
        have h2 := blkSet (blkSet (blkSet (blkSet HB.out 7 (.bool true)) 4 (.int .i64 s.num)) 5 (.int .i64 c)) 6 (.int .i64 e)
        refine ⟨hn, v, h2.trans ?_, HF.out.off H.out.lt ho⟩
        have hne : (e != 0) = true := bne_iff_ne.2 he
        show _ = some (Obj.cells #[.int .i64 s.num, v, .int .i64 (s.nx : Int), .int .i64 s.la, .int .i64 s.num, .int .i64 c, .int .i64 e, .bool (e != 0)] _ _)
        rw [hne]; rfl
      clear hbad he hb hn
      go_enter Tryz.func163, Tryz.ntmps163
      go_wp2
      go_end0
      exact ⟨rfl, HFIN.out⟩
  · rw [hbad] at c7
    have HN := Lib.hid (Sc.note_bad hbad c e)
    clear hbad hb hn
    go_enter Tryz.func163, Tryz.ntmps163
    go_wp2
    go_end0
    exact ⟨rfl, by rw [HN.out]; exact ScQPost.same H.out⟩
set_option maxRecDepth 100000 in
set_option maxHeartbeats 2000000 in
theorem rtake_any (s : Sc) (g : Nat) (w : World) (h : ScQ w g s) :
    Calls Tryz.prog 162 #[.pointer (some ⟨g, 0, none⟩)] w (RTakePost s g w) := by
  have H := Lib.hid h
  obtain ⟨hn, v, hb, hf⟩ := h
  have c7 : w.cell? ⟨g, 7, none⟩ = some (.bool s.bad) := blkCell hb 7 rfl
  cases hbad : s.bad
  · rw [hbad] at c7
    have hde : s.de = 0 := by unfold Sc.bad at hbad; simpa using hbad
    have HBD := Lib.hid hbad
    by_cases hlt : s.nx < s.fs.length
    · have hg : s.got = true := Sc.got_iff.2 ⟨hde, hlt⟩
      obtain ⟨b, o, c, rfl, hbl, hc0, hc1, hsz⟩ := hf.at_ hlt
      have hbn : b ≠ g := Nat.ne_of_lt hbl
      have hbw : b < w.heap.size := Nat.lt_trans hbl H.out.lt
      have HFIN : Hid (∀ o' : Obj, RTakePost s g w (.returned (.tuple #[.string (sb (fld s.fs s.nx).1), .bool true])) ((((w.setCell ⟨g, 2, none⟩ (.int .i64 ((s.nx : Int) + 1))).setCell ⟨g, 3, none⟩ (.int .i64 (fld s.fs s.nx).2)).alloc o').drew)) := by
        intro o'
        have ho : Off g w ((((w.setCell ⟨g, 2, none⟩ (.int .i64 ((s.nx : Int) + 1))).setCell ⟨g, 3, none⟩ (.int .i64 (fld s.fs s.nx).2)).alloc o').drew) := ((((Off.refl g w).set 2 _).set 3 _).alloc _).drew
        refine ⟨by unfold Sc.text; rw [hg]; rfl, ?_, ho⟩
        rw [Sc.take_got hg]
        refine ⟨hlt, _, ?_, hf.off H.out.lt ho⟩
        have h2 := blkSet (blkSet hb 2 (.int .i64 ((s.nx : Int) + 1))) 3 (.int .i64 (fld s.fs s.nx).2)
        exact ((((Below.refl _ _).alloc (Nat.le_refl _) o').drew).block g (by simpa using H.out.lt)).trans h2
      have k1 : w.cell? ⟨g, 1, none⟩ = some (.slice (some ⟨b, o, none⟩) s.fs.length c) := blkCell hb 1 rfl
      have k2 : w.cell? ⟨g, 2, none⟩ = some (.int .i64 (s.nx : Int)) := blkCell hb 2 rfl
      have k3 : w.cell? ⟨g, 3, none⟩ = some (.int .i64 s.la) := blkCell hb 3 rfl
      have f2 := blkFree hb 2
      have f3 := blkFree hb 3
      have hgw := H.out.lt
      obtain ⟨A', c', hv', hcn, hcm⟩ := fld_le hf
      simp only [Value.slice.injEq, true_and] at hv'
      obtain ⟨-, rfl⟩ := hv'
      obtain ⟨n, hnn⟩ : ∃ n, s.fs.length = n := ⟨_, rfl⟩
      obtain ⟨k, hkk⟩ : ∃ k, s.nx = k := ⟨_, rfl⟩
      obtain ⟨tx, htx⟩ : ∃ t, sb (fld s.fs s.nx).1 = t := ⟨_, rfl⟩
      obtain ⟨co, hco⟩ : ∃ t, (fld s.fs s.nx).2 = t := ⟨_, rfl⟩
      rw [htx, hco] at HFIN
      rw [htx] at hc0
      rw [hco] at hc1
      rw [hkk] at HFIN hlt k2 hc0 hc1
      rw [hnn] at hlt hcn k1
      clear hnn hkk htx hco hb hf hn hg hbad hde hsz
      have hne : ¬ (n : Int) ≤ (k : Int) := by omega
      have hki : (k : Int) < (n : Int) := by omega
      have hknat : ((k : Int)).toNat = k := Int.toNat_natCast k
      go_enter Tryz.func162, Tryz.ntmps162
      go_wp2
      go_region
      go_wp2
      go_ret2
      exact HFIN.out _
    · have hg : s.got = false := by
        rw [← Bool.not_eq_true, Sc.got_iff]; intro h; exact hlt h.2
      have HFIN : Hid (∀ (col : Int) (w1 w' : World), col = endCol s.fs → Below w.heap.size w w1 → ScQPost (s.note col 4) g w1 w' → RTakePost s g w (.returned (.tuple #[.string ⟨#[]⟩, .bool false])) w') := by
        intro col w1 w' hc hb1 hp
        refine ⟨by unfold Sc.text; rw [hg]; rfl, ?_⟩
        have ht : s.take = s.note col 4 := by unfold Sc.take; rw [if_neg (by rw [hbad]; decide), if_neg hlt, hc]
        rw [ht]
        exact ⟨hp.1, (Off.of_below hb1).trans hp.2⟩
      have hnl : s.nx = s.fs.length := by omega
      obtain ⟨A, c, rfl, hcn, hcm⟩ := fld_le hf
      have k1 : w.cell? ⟨g, 1, none⟩ = some (.slice A s.fs.length c) := blkCell hb 1 rfl
      have k2 : w.cell? ⟨g, 2, none⟩ = some (.int .i64 (s.nx : Int)) := blkCell hb 2 rfl
      rw [hnl] at k2
      have hgw := H.out.lt
      by_cases h0 : 0 < s.fs.length
      · obtain ⟨m, hm⟩ : ∃ m, s.fs.length = m + 1 := ⟨s.fs.length - 1, by omega⟩
        obtain ⟨b, o, c', hv', hbl, hc0, hc1, hsz⟩ := hf.at_ (k := m) (by omega)
        have hbn : b ≠ g := Nat.ne_of_lt hbl
        have hbw : b < w.heap.size := Nat.lt_trans hbl H.out.lt
        simp only [Value.slice.injEq, true_and] at hv'
        obtain ⟨rfl, rfl⟩ := hv'
        have HCOL : Hid (wrap64 ((fld s.fs m).2 + ((sb (fld s.fs m).1).size : Int)) = endCol s.fs) := by
          unfold Hid endCol; rw [if_neg (by omega), hm]; rfl
        have hsz2 : (sb (fld s.fs m).1).size ≤ 9223372036854775807 := by unfold maxLen at hsz; exact hsz
        obtain ⟨n, hnn⟩ : ∃ n, s.fs.length = n := ⟨_, rfl⟩
        obtain ⟨tx, htx⟩ : ∃ t, sb (fld s.fs m).1 = t := ⟨_, rfl⟩
        obtain ⟨co, hco⟩ : ∃ t, (fld s.fs m).2 = t := ⟨_, rfl⟩
        rw [hnn] at h0 hm hcn k1 k2
        rw [htx] at HCOL hc0 hsz2
        rw [hco] at HCOL hc1
        have hi1 : ((n : Int) - 1).toNat = m := by omega
        have hi2 : (0 : Int) ≤ (n : Int) - 1 := by omega
        have hi3 : (1 : Int) ≤ (n : Int) := by omega
        have hi4 : (n : Int) - 1 < (n : Int) := by omega
        have hi5 : (0 : Int) < (n : Int) := by omega
        clear hnn htx hco hsz hb hf hn hg hbad hde hlt hnl hm
        go_enter Tryz.func162, Tryz.ntmps162
        go_wp2_with fail
        refine (rnote_any s _ 4 g _ (H.out.below ((Below.refl _ _).alloc (Nat.le_refl _) _))).mono ?_
        rintro en w1 ⟨rfl, hp⟩
        have HP := Lib.hid hp
        clear hp
        go_wp2
        go_ret2
        exact HFIN.out _ _ _ HCOL.out ((Below.refl _ _).alloc (Nat.le_refl _) _) HP.out
      · have h00 : s.fs.length = 0 := by omega
        have HCOL : Hid (1 = endCol s.fs) := by unfold Hid endCol; rw [if_pos h00]
        rw [h00] at k1 k2 hcn
        clear hb hf hn hg hbad hde hlt hnl h00 h0
        go_enter Tryz.func162, Tryz.ntmps162
        go_wp2_with fail
        refine (rnote_any s _ 4 g _ H.out).mono ?_
        rintro en w1 ⟨rfl, hp⟩
        have HP := Lib.hid hp
        clear hp
        go_wp2
        go_ret2
        exact HFIN.out _ _ _ HCOL.out (Below.refl _ _) HP.out
  · rw [hbad] at c7
    have hg : s.got = false := by unfold Sc.got; rw [hbad]; rfl
    have HFIN : Hid (RTakePost s g w (.returned (.tuple #[.string ⟨#[]⟩, .bool false])) w) := by
      refine ⟨by unfold Sc.text; rw [hg]; rfl, ?_⟩
      rw [Sc.take_bad hbad]; exact ScQPost.same H.out
    have HBD := Lib.hid hbad
    clear hbad hb hn hf hg
    go_enter Tryz.func162, Tryz.ntmps162
    go_wp2
    go_ret2
    exact HFIN.out
end Go.Proofs.YtlgajjlnbcbijaaGreatDoor
