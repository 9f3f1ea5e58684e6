/-
  Several texts as one.
-/
import Derived.Test.YtlhniiakacbbeaaGreatDoorMG19
import Derived.Test.YtlhniiakacbbeaaGreatDoorMG12
import Derived.Test.YtlhniiakacbbeaaGreatDoorMG01
import Derived.Deep.QuietTactic
import Derived.BigQuiet
namespace Go.Proofs.YtlhniiakacbbeaaGreatDoor
open Go.RowKit
set_option linter.unusedVariables false
set_option linter.unusedSimpArgs false

def TakePost (s : Sc) (g : Nat) (w : World) (e : Ending) (w' : World) : Prop := e = .returned (.tuple #[.string (sb s.text), .bool s.got]) ∧ ScPost s.take g w w'
theorem fld_le {w : World} {g : Nat} {v : Value} {fs : List FldI} (h : FsR w g v fs) : ∃ A c, v = .slice A fs.length c ∧ fs.length ≤ c ∧ c ≤ 9223372036854775807 := by
 obtain ⟨A, c, hv, hc, hm, _⟩ := h; exact ⟨A, c, hv, hc, by unfold maxLen at hm; omega⟩
set_option maxRecDepth 100000 in
set_option maxHeartbeats 2000000 in
theorem take_any (s : Sc) (g : Nat) (w : World) (h : ScP w g s) :
  Calls Tryz.prog 290 #[.pointer (some ⟨g, 0, none⟩)] w (TakePost s g w) := by
 have H := Lib.hid h
 obtain ⟨hn, v, hb, hf⟩ := h
 cases hbad : s.bad
 ·have hde : s.de = 0 := by unfold Sc.bad at hbad; simpa using hbad
  have HBD := Lib.hid hbad
  by_cases hlt : s.nx < s.fs.length
  ·have hg : s.got = true := Sc.got_iff.2 ⟨hde, hlt⟩
   obtain ⟨b, o, c, rfl, hbl, hc0, hc1, hsz⟩ := hf.at_ hlt
   have hbn : b ≠ g := Nat.ne_of_lt hbl
   have hbw : b < w.heap.size := Nat.lt_trans hbl H.out.lt
   have HFIN : Hid (∀ o' : Obj, TakePost s g w (.returned (.tuple #[.string (sb (fld s.fs s.nx).1), .bool true])) ((((w.setCell ⟨g, 2, none⟩ (.int .i64 ((s.nx : Int) + 1))).setCell ⟨g, 3, none⟩ (.int .i64 (fld s.fs s.nx).2)).alloc o').drew)) := by
    intro o'
    have ho : Off g w ((((w.setCell ⟨g, 2, none⟩ (.int .i64 ((s.nx : Int) + 1))).setCell ⟨g, 3, none⟩ (.int .i64 (fld s.fs s.nx).2)).alloc o').drew) := ((((Off.refl g w).set 2 _).set 3 _).alloc _).drew
    refine ⟨by unfold Sc.text; rw [hg]; rfl, ?_, ho⟩
    rw [Sc.take_got hg]
    refine ⟨hlt, _, ?_, hf.off H.out.lt ho⟩
    have h2 := blkSet (blkSet hb 2 (.int .i64 ((s.nx : Int) + 1))) 3 (.int .i64 (fld s.fs s.nx).2)
    exact ((((Below.refl _ _).alloc (Nat.le_refl _) o').drew).block g (by simpa using H.out.lt)).trans h2
   have k1 : w.cell? ⟨g, 1, none⟩ = some (.slice (some ⟨b, o, none⟩) s.fs.length c) := blkCell hb 1 rfl
   have k2 : w.cell? ⟨g, 2, none⟩ = some (.int .i64 (s.nx : Int)) := blkCell hb 2 rfl
   have k3 : w.cell? ⟨g, 3, none⟩ = some (.int .i64 s.la) := blkCell hb 3 rfl
   have f2 := blkFree hb 2
   have f3 := blkFree hb 3
   have hgw := H.out.lt
   obtain ⟨A', c', hv', hcn, hcm⟩ := fld_le hf
   simp only [Value.slice.injEq, true_and] at hv'
   obtain ⟨-, rfl⟩ := hv'
   obtain ⟨n, hnn⟩ : ∃ n, s.fs.length = n := ⟨_, rfl⟩
   obtain ⟨k, hkk⟩ : ∃ k, s.nx = k := ⟨_, rfl⟩
   obtain ⟨tx, htx⟩ : ∃ t, sb (fld s.fs s.nx).1 = t := ⟨_, rfl⟩
   obtain ⟨co, hco⟩ : ∃ t, (fld s.fs s.nx).2 = t := ⟨_, rfl⟩
   rw [htx, hco] at HFIN
   rw [htx] at hc0
   rw [hco] at hc1
   rw [hkk] at HFIN hlt k2 hc0 hc1
   rw [hnn] at hlt hcn k1
   clear hnn hkk htx hco hb hf hn hg hbad hde hsz
   have hne : ((k : Int) == (n : Int)) = false := by rw [beq_eq_false_iff_ne]; omega
   have hki : (k : Int) < (n : Int) := by omega
   have hknat : ((k : Int)).toNat = k := Int.toNat_natCast k
   go_enter Tryz.func290, Tryz.ntmps290
   go_wp2_with fail
   refine (failed_any s g _ H.out).mono ?_
   rintro en w1 ⟨rfl, rfl⟩
   rw [HBD.out]
   go_wp2
   go_region
   go_wp2
   go_ret2
   exact HFIN.out _
  ·have hg : s.got = false := by
    rw [← Bool.not_eq_true, Sc.got_iff]; intro h; exact hlt h.2
   have HFIN : Hid (∀ (col : Int) (w1 w' : World), col = endCol s.fs → Below w.heap.size w w1 → ScPost (s.note col 4) g w1 w' → TakePost s g w (.returned (.tuple #[.string ⟨#[]⟩, .bool false])) w') := by
    intro col w1 w' hc hb1 hp
    refine ⟨by unfold Sc.text; rw [hg]; rfl, ?_⟩
    have ht : s.take = s.note col 4 := by unfold Sc.take; rw [if_neg (by rw [hbad]; decide), if_neg hlt, hc]
    rw [ht]
    exact ⟨hp.1, (Off.of_below hb1).trans hp.2⟩
   have hnl : s.nx = s.fs.length := by omega
   obtain ⟨A, c, rfl, hcn, hcm⟩ := fld_le hf
   have k1 : w.cell? ⟨g, 1, none⟩ = some (.slice A s.fs.length c) := blkCell hb 1 rfl
   have k2 : w.cell? ⟨g, 2, none⟩ = some (.int .i64 (s.nx : Int)) := blkCell hb 2 rfl
   rw [hnl] at k2
   have hgw := H.out.lt
   by_cases h0 : 0 < s.fs.length
   ·obtain ⟨m, hm⟩ : ∃ m, s.fs.length = m + 1 := ⟨s.fs.length - 1, by omega⟩
    obtain ⟨b, o, c', hv', hbl, hc0, hc1, hsz⟩ := hf.at_ (k := m) (by omega)
    have hbn : b ≠ g := Nat.ne_of_lt hbl
    have hbw : b < w.heap.size := Nat.lt_trans hbl H.out.lt
    simp only [Value.slice.injEq, true_and] at hv'
    obtain ⟨rfl, rfl⟩ := hv'
    have HCOL : Hid (wrap64 ((fld s.fs m).2 + ((sb (fld s.fs m).1).size : Int)) = endCol s.fs) := by
     unfold Hid endCol; rw [if_neg (by omega), hm]; rfl
    have hsz2 : (sb (fld s.fs m).1).size ≤ 9223372036854775807 := by unfold maxLen at hsz; exact hsz
    obtain ⟨n, hnn⟩ : ∃ n, s.fs.length = n := ⟨_, rfl⟩
    obtain ⟨tx, htx⟩ : ∃ t, sb (fld s.fs m).1 = t := ⟨_, rfl⟩
    obtain ⟨co, hco⟩ : ∃ t, (fld s.fs m).2 = t := ⟨_, rfl⟩
    rw [hnn] at h0 hm hcn k1 k2
    rw [htx] at HCOL hc0 hsz2
    rw [hco] at HCOL hc1
    have hi1 : ((n : Int) - 1).toNat = m := by omega
    have hi2 : (0 : Int) ≤ (n : Int) - 1 := by omega
    have hi3 : (1 : Int) ≤ (n : Int) := by omega
    have hi4 : (n : Int) - 1 < (n : Int) := by omega
    have hi5 : (0 : Int) < (n : Int) := by omega
    clear hnn htx hco hsz hb hf hn hg hbad hde hlt hnl hm
    go_enter Tryz.func290, Tryz.ntmps290
    go_wp2_with fail
    refine (failed_any s g _ H.out).mono ?_
    rintro en w1 ⟨rfl, rfl⟩
    rw [HBD.out]
    go_wp2_with fail
    refine (note_any s _ 4 g _ (H.out.below ((Below.refl _ _).alloc (Nat.le_refl _) _))).mono ?_
    rintro en w1 ⟨rfl, hp⟩
    have HP := Lib.hid hp
    clear hp
    go_wp2
    go_ret2
    exact HFIN.out _ _ _ HCOL.out ((Below.refl _ _).alloc (Nat.le_refl _) _) HP.out
   ·have h00 : s.fs.length = 0 := by omega
    have HCOL : Hid (1 = endCol s.fs) := by unfold Hid endCol; rw [if_pos h00]
    rw [h00] at k1 k2 hcn
    clear hb hf hn hg hbad hde hlt hnl h00 h0
    go_enter Tryz.func290, Tryz.ntmps290
    go_wp2_with fail
    refine (failed_any s g _ H.out).mono ?_
    rintro en w1 ⟨rfl, rfl⟩
    rw [HBD.out]
    go_wp2_with fail
    refine (note_any s _ 4 g _ H.out).mono ?_
    rintro en w1 ⟨rfl, hp⟩
    have HP := Lib.hid hp
    clear hp
    go_wp2
    go_ret2
    exact HFIN.out _ _ _ HCOL.out (Below.refl _ _) HP.out
 ·have hg : s.got = false := by unfold Sc.got; rw [hbad]; rfl
  have HFIN : Hid (TakePost s g w (.returned (.tuple #[.string ⟨#[]⟩, .bool false])) w) := by
   refine ⟨by unfold Sc.text; rw [hg]; rfl, ?_⟩
   rw [Sc.take_bad hbad]; exact ScPost.same H.out
  have HBD := Lib.hid hbad
  clear hbad hb hn hf hg
  go_enter Tryz.func290, Tryz.ntmps290
  go_wp2_with fail
  refine (failed_any s g _ H.out).mono ?_
  rintro en w1 ⟨rfl, rfl⟩
  rw [HBD.out]
  go_wp2
  go_ret2
  exact HFIN.out


theorem joinV_lt {l : List UInt8} {c : Nat} (hc : c ≤ 3) (h : joinB l c = true) : joinV l c ≤ 400000000 := by
 unfold joinB at h
 simp only [Bool.and_eq_true, decide_eq_true_iff] at h
 obtain ⟨⟨⟨h1, h2⟩, h3⟩, h4⟩ := h
 have b1 : numV (l.take c) < 10 ^ 3 := numV_small (all_of_take _ h2) (by rw [List.length_take]; omega)
 have b4 : numV (l.drop (c + 4)) < 10 ^ 2 := numV_small (all_of_drop _ h2) (by rw [List.length_drop]; omega)
 unfold joinV
 omega
def SgnPost (l : List UInt8) (p m : UInt8) (c : Nat) (w : World) (e : Ending) (w' : World) : Prop := e = .returned (.tuple #[.int .i64 (if sgnB l p m c then sgnV l m c else 0), .bool (sgnB l p m c)]) ∧ Drawn w w'
theorem u8_ne {a b : UInt8} (h : a ≠ b) : ((a.toNat : Int) != (b.toNat : Int)) = true ∧ ((a.toNat : Int) == (b.toNat : Int)) = false := by
 have h2 : ¬ (a.toNat : Int) = (b.toNat : Int) := fun e => h (UInt8.toNat_inj.1 (by omega))
 exact ⟨bne_iff_ne.2 h2, beq_eq_false_iff_ne.2 h2⟩
theorem u8_same {a b : UInt8} (h : a = b) : ((a.toNat : Int) != (b.toNat : Int)) = false ∧ ((a.toNat : Int) == (b.toNat : Int)) = true := by
 subst h; exact ⟨by simp, by simp⟩
theorem bl_cons {s : ByteArray} (h : 0 < s.size) : bl s = s[0] :: (bl s).drop 1 := by
 have := List.drop_eq_getElem_cons (l := bl s) (i := 0) (by rw [bl_len]; exact h)
 rw [List.drop_zero] at this
 exact this
set_option maxRecDepth 100000 in
set_option maxHeartbeats 2000000 in
theorem parse_any (s : ByteArray) (p m : UInt8) (c : Nat) (w : World) (hc : c ≤ 3) (hs : s.size ≤ maxLen) : Calls Tryz.prog 371 #[.string s, .int .u8 (p.toNat : Int), .int .u8 (m.toNat : Int), .int .i64 (c : Int)] w (SgnPost (bl s) p m c w) := by
 unfold maxLen at hs
 have HNO : Hid (sgnB (bl s) p m c = false → SgnPost (bl s) p m c w (.returned (.tuple #[.int .i64 0, .bool false])) w) := by
  intro h; unfold SgnPost; rw [h]; exact ⟨rfl, Drawn.refl _⟩
 have HYES : Hid (sgnB (bl s) p m c = true → ∀ n : Int, sgnV (bl s) m c = n → SgnPost (bl s) p m c w (.returned (.tuple #[.int .i64 n, .bool true])) w) := by
  intro h n hn; unfold SgnPost; rw [h, ← hn]; exact ⟨rfl, Drawn.refl _⟩
 have hc0 : (0 : Int) ≤ (c : Int) := by omega
 have hc3 : (c : Int) ≤ 3 := by omega
 by_cases hl : s.size = c + 7
 ·have hne : ((s.size : Int) != (c : Int) + 7) = false := bne_eq_false_iff_eq.2 (by omega)
  have hz : 0 < s.size := by omega
  have hz1 : (0 : Int) < (s.size : Int) := by omega
  have hz2 : (1 : Int) ≤ (s.size : Int) := by omega
  have hz3 : 1 ≤ s.size := by omega
  have HB : Hid (sgnB (bl s) p m c = ((s[0] == p || s[0] == m) && joinB ((bl s).drop 1) c && !(s[0] == m && decide (joinV ((bl s).drop 1) c = 0)))) := by
   unfold Hid sgnB
   rw [bl_len, hl, decide_eq_true rfl]
   rw [bl_cons hz]
   simp
  have HV : Hid (sgnV (bl s) m c = if s[0] == m then -(joinV ((bl s).drop 1) c : Int) else (joinV ((bl s).drop 1) c : Int)) := by
   unfold Hid sgnV
   rw [bl_cons hz]
   simp
  have HJ : Hid (bl (s.extract 1 s.size) = (bl s).drop 1) := by
   unfold Hid; rw [bl_extract, List.take_of_length_le (by rw [List.length_drop, bl_len]; omega)]
  have hle : s.size ≤ 10 := by omega
  clear hl
  by_cases h1 : s[0] = p ∨ s[0] = m
  ·have HOK : Hid ((s[0] == p || s[0] == m) = true) := by unfold Hid; rcases h1 with h | h <;> rw [h] <;> simp
   have h2 : ((s[0].toNat : Int) != (p.toNat : Int)) = false ∨ (((s[0].toNat : Int) != (p.toNat : Int)) = true ∧ ((s[0].toNat : Int) != (m.toNat : Int)) = false) := by
    by_cases h3 : s[0] = p
    ·exact .inl (u8_same h3).1
    ·exact .inr ⟨(u8_ne h3).1, (u8_same (h1.resolve_left h3)).1⟩
   have h4 : (Hid (s[0] = m) ∧ ((s[0].toNat : Int) == (m.toNat : Int)) = true) ∨ (Hid (s[0] ≠ m) ∧ ((s[0].toNat : Int) == (m.toNat : Int)) = false) := by
    by_cases h3 : s[0] = m
    ·exact .inl ⟨h3, (u8_same h3).2⟩
    ·exact .inr ⟨h3, (u8_ne h3).2⟩
   clear h1
   rcases h2 with t1 | ⟨t1, t2⟩
   all_goals
    go_enter Tryz.func371, Tryz.ntmps371
    go_wp2_with fail
    refine (join_any _ c _ hc (by rw [ByteArray.size_extract]; unfold maxLen; omega)).mono ?_
    rintro e w' ⟨rfl, rfl⟩
    rw [HJ.out]
    cases hj : joinB ((bl s).drop 1) c with
    | false =>
     have HZ : Hid (sgnB (bl s) p m c = false) := by unfold Hid; rw [HB.out, hj]; simp
     clear hj
     simp only [Bool.false_eq_true, if_false]
     go_wp2
     go_ret2
     exact HNO.out HZ.out
    | true =>
     have hjv := joinV_lt hc hj
     have HJT := Lib.hid hj
     clear hj
     obtain ⟨jv, hjve⟩ : ∃ jv, joinV ((bl s).drop 1) c = jv := ⟨_, rfl⟩
     rw [hjve] at hjv HB HV ⊢
     clear hjve
     simp only [if_true]
     have g0 : (0 : Int) ≤ (jv : Int) := by omega
     have g1 : (jv : Int) ≤ 400000000 := by omega
     rcases h4 with ⟨h5, h6⟩ | ⟨h5, h6⟩
     ·have HV2 : Hid (sgnV (bl s) m c = -(jv : Int)) := by unfold Hid; rw [HV.out, h5.out]; simp
      by_cases hj0 : jv = 0
      ·have HZ : Hid (sgnB (bl s) p m c = false) := by unfold Hid; rw [HB.out, h5.out, hj0]; simp
       have e0 : ((jv : Int) == 0) = true := beq_iff_eq.2 (by omega)
       clear hj0
       go_wp2
       go_ret2
       exact HNO.out HZ.out
      ·have HZ : Hid (sgnB (bl s) p m c = true) := by unfold Hid; rw [HB.out, HOK.out, HJT.out, decide_eq_false hj0]; simp
       have e0 : ((jv : Int) == 0) = false := beq_eq_false_iff_ne.2 (by omega)
       clear hj0
       go_wp2
       go_ret2
       exact HYES.out HZ.out _ HV2.out
     ·have HV2 : Hid (sgnV (bl s) m c = (jv : Int)) := by unfold Hid; rw [HV.out, if_neg (by simpa using h5.out)]
      have HZ : Hid (sgnB (bl s) p m c = true) := by unfold Hid; rw [HB.out, HOK.out, HJT.out, beq_eq_false_iff_ne.2 h5.out]; simp
      go_wp2
      go_ret2
      exact HYES.out HZ.out _ HV2.out
  ·have HZ : Hid (sgnB (bl s) p m c = false) := by
    unfold Hid
    rw [HB.out, beq_eq_false_iff_ne.2 (fun h => h1 (.inl h)), beq_eq_false_iff_ne.2 (fun h => h1 (.inr h))]; simp
   have t1 : ((s[0].toNat : Int) != (p.toNat : Int)) = true := (u8_ne (fun h => h1 (.inl h))).1
   have t2 : ((s[0].toNat : Int) != (m.toNat : Int)) = true := (u8_ne (fun h => h1 (.inr h))).1
   clear h1
   go_enter Tryz.func371, Tryz.ntmps371
   go_wp2
   go_ret2
   exact HNO.out HZ.out
 ·have HJ : Hid (sgnB (bl s) p m c = false) := by
   unfold Hid sgnB; rw [decide_eq_false (p := (bl s).length = c + 7) (by rw [bl_len]; exact hl)]; rfl
  have hne : ((s.size : Int) != (c : Int) + 7) = true := bne_iff_ne.2 (by omega)
  clear hl
  go_enter Tryz.func371, Tryz.ntmps371
  go_wp2
  go_ret2
  exact HNO.out HJ.out


theorem latB_ways (a : Int) : (Hid (latB a = true) ∧ -32400000 ≤ a ∧ a ≤ 32400000) ∨ (Hid (latB a = false) ∧ (a < -32400000 ∨ (-32400000 ≤ a ∧ 32400000 < a))) := by
 unfold latB Hid
 rcases Int.lt_or_le a (-32400000) with h | h
 ·exact .inr ⟨by rw [decide_eq_false (p := -32400000 ≤ a) (by omega)]; rfl, .inl h⟩
 ·rcases Int.lt_or_le 32400000 a with h2 | h2
  ·exact .inr ⟨by rw [decide_eq_false (p := a ≤ 32400000) (by omega), Bool.and_false], .inr ⟨h, h2⟩⟩
  ·exact .inl ⟨by rw [decide_eq_true h, decide_eq_true h2]; rfl, h, h2⟩
theorem lonB_ways (a : Int) : (Hid (lonB a = true) ∧ -64800000 < a ∧ a ≤ 64800000) ∨ (Hid (lonB a = false) ∧ (a ≤ -64800000 ∨ (-64800000 < a ∧ 64800000 < a))) := by
 unfold lonB Hid
 rcases Int.lt_or_le (-64800000) a with h | h
 ·rcases Int.lt_or_le 64800000 a with h2 | h2
  ·exact .inr ⟨by rw [decide_eq_false (p := a ≤ 64800000) (by omega), Bool.and_false], .inr ⟨h, h2⟩⟩
  ·exact .inl ⟨by rw [decide_eq_true h, decide_eq_true h2]; rfl, h, h2⟩
 ·exact .inr ⟨by rw [decide_eq_false (p := -64800000 < a) (by omega)]; rfl, .inl h⟩
set_option maxHeartbeats 400000 in
theorem isLat_any (a : Int) (w : World) : Calls Tryz.prog 252 #[.int .i64 a] w fun e w' => e = .returned (.bool (latB a)) ∧ w = w' := by
 rcases latB_ways a with ⟨hb, h1, h2⟩ | ⟨hb, h1 | ⟨h1, h2⟩⟩
 all_goals
  go_enter Tryz.func252, Tryz.ntmps252
  go_wp2
  go_ret
  exact ⟨ret_bool (by first | (rw [hb.out]; done) | (rw [hb.out]; exact decide_eq_false (by omega)) | (rw [hb.out]; exact decide_eq_true (by omega)) | exact hb.out.symm), rfl⟩
set_option maxHeartbeats 400000 in
theorem isLon_any (a : Int) (w : World) : Calls Tryz.prog 254 #[.int .i64 a] w fun e w' => e = .returned (.bool (lonB a)) ∧ w = w' := by
 rcases lonB_ways a with ⟨hb, h1, h2⟩ | ⟨hb, h1 | ⟨h1, h2⟩⟩
 all_goals
  go_enter Tryz.func254, Tryz.ntmps254
  go_wp2
  go_ret
  exact ⟨ret_bool (by first | (rw [hb.out]; done) | (rw [hb.out]; exact decide_eq_false (by omega)) | (rw [hb.out]; exact decide_eq_true (by omega)) | exact hb.out.symm), rfl⟩
def CoordPost (v er : Int) (w : World) (e : Ending) (w' : World) : Prop := e = .returned (.tuple #[.int .i64 v, .int .i64 er]) ∧ Drawn w w'
set_option maxHeartbeats 1000000 in
theorem parseLat_any (s : ByteArray) (w : World) (hs : s.size ≤ maxLen) : Calls Tryz.prog 336 #[.string s] w (CoordPost (latPV (bl s)) (latPErr (bl s)) w) := by
 have HP : Hid (∀ (v er : Int) w', latPErr (bl s) = er → latPV (bl s) = v → Drawn w w' → CoordPost (latPV (bl s)) (latPErr (bl s)) w (.returned (.tuple #[.int .i64 v, .int .i64 er])) w') := by
  intro v er w' h1 h2 h3; unfold CoordPost; rw [h1, h2]; exact ⟨rfl, h3⟩
 have HC := parse_any s 78 83 2 w (by decide) hs
 have HCC : Hid (∀ K : Ending → World → Prop, (∀ e w', SgnPost (bl s) 78 83 2 w e w' → K e w') → True) := fun _ _ => trivial
 clear HCC
 go_enter Tryz.func336, Tryz.ntmps336
 go_wp2_with fail
 refine HC.mono ?_
 rintro e w' ⟨rfl, k, rfl⟩
 clear HC
 show _
 have HS : Hid (latPErr (bl s) = if sgnB (bl s) 78 83 2 then (if latB (sgnV (bl s) 83 2) then 0 else 2) else 4) := rfl
 cases hb : sgnB (bl s) 78 83 2 with
 | false =>
  have HB := Lib.hid hb
  try rw [hb]
  clear hb
  simp only [Bool.false_eq_true, if_false]
  have h4 : Hid (latPErr (bl s) = 4) := by unfold Hid; rw [HS.out, HB.out]; rfl
  have hv : Hid (latPV (bl s) = 0) := by unfold Hid latPV; rw [h4.out]; rfl
  go_wp2
  go_ret2
  exact HP.out _ _ _ h4.out hv.out ⟨_, rfl⟩
 | true =>
  have HB := Lib.hid hb
  try rw [hb]
  clear hb
  simp only [if_true]
  obtain ⟨a, ha⟩ : ∃ a, sgnV (bl s) 83 2 = a := ⟨_, rfl⟩
  have HA := Lib.hid ha
  try rw [ha]
  clear ha
  rcases latB_ways a with ⟨hx, h1, h2⟩ | ⟨hx, h1 | ⟨h1, h2⟩⟩
  ·have h4 : Hid (latPErr (bl s) = 0) := by unfold Hid; rw [HS.out, HB.out, HA.out, hx.out]; rfl
   have hv : Hid (latPV (bl s) = a) := by unfold Hid latPV; rw [h4.out]; exact HA.out
   go_wp2_with fail
   first
    | (refine (isLat_any a _).mono ?_; rintro e w' ⟨rfl, rfl⟩; rw [hx.out]; go_wp2; go_ret2)
    | go_ret2
   exact HP.out _ _ _ h4.out hv.out ⟨_, rfl⟩
  all_goals
   have h4 : Hid (latPErr (bl s) = 2) := by unfold Hid; rw [HS.out, HB.out, HA.out, hx.out]; rfl
   have hv : Hid (latPV (bl s) = 0) := by unfold Hid latPV; rw [h4.out]; rfl
   go_wp2_with fail
   first
    | (refine (isLat_any a _).mono ?_; rintro e w' ⟨rfl, rfl⟩; rw [hx.out]; go_wp2; go_ret2)
    | go_ret2
   exact HP.out _ _ _ h4.out hv.out ⟨_, rfl⟩
set_option maxHeartbeats 1000000 in
theorem parseLon_any (s : ByteArray) (w : World) (hs : s.size ≤ maxLen) : Calls Tryz.prog 337 #[.string s] w (CoordPost (lonPV (bl s)) (lonPErr (bl s)) w) := by
 have HP : Hid (∀ (v er : Int) w', lonPErr (bl s) = er → lonPV (bl s) = v → Drawn w w' → CoordPost (lonPV (bl s)) (lonPErr (bl s)) w (.returned (.tuple #[.int .i64 v, .int .i64 er])) w') := by
  intro v er w' h1 h2 h3; unfold CoordPost; rw [h1, h2]; exact ⟨rfl, h3⟩
 have HC := parse_any s 69 87 3 w (by decide) hs
 have HCC : Hid (∀ K : Ending → World → Prop, (∀ e w', SgnPost (bl s) 69 87 3 w e w' → K e w') → True) := fun _ _ => trivial
 clear HCC
 go_enter Tryz.func337, Tryz.ntmps337
 go_wp2_with fail
 refine HC.mono ?_
 rintro e w' ⟨rfl, k, rfl⟩
 clear HC
 show _
 have HS : Hid (lonPErr (bl s) = if sgnB (bl s) 69 87 3 then (if lonB (sgnV (bl s) 87 3) then 0 else 2) else 4) := rfl
 cases hb : sgnB (bl s) 69 87 3 with
 | false =>
  have HB := Lib.hid hb
  try rw [hb]
  clear hb
  simp only [Bool.false_eq_true, if_false]
  have h4 : Hid (lonPErr (bl s) = 4) := by unfold Hid; rw [HS.out, HB.out]; rfl
  have hv : Hid (lonPV (bl s) = 0) := by unfold Hid lonPV; rw [h4.out]; rfl
  go_wp2
  go_ret2
  exact HP.out _ _ _ h4.out hv.out ⟨_, rfl⟩
 | true =>
  have HB := Lib.hid hb
  try rw [hb]
  clear hb
  simp only [if_true]
  obtain ⟨a, ha⟩ : ∃ a, sgnV (bl s) 87 3 = a := ⟨_, rfl⟩
  have HA := Lib.hid ha
  try rw [ha]
  clear ha
  rcases lonB_ways a with ⟨hx, h1, h2⟩ | ⟨hx, h1 | ⟨h1, h2⟩⟩
  ·have h4 : Hid (lonPErr (bl s) = 0) := by unfold Hid; rw [HS.out, HB.out, HA.out, hx.out]; rfl
   have hv : Hid (lonPV (bl s) = a) := by unfold Hid lonPV; rw [h4.out]; exact HA.out
   go_wp2_with fail
   first
    | (refine (isLon_any a _).mono ?_; rintro e w' ⟨rfl, rfl⟩; rw [hx.out]; go_wp2; go_ret2)
    | go_ret2
   exact HP.out _ _ _ h4.out hv.out ⟨_, rfl⟩
  all_goals
   have h4 : Hid (lonPErr (bl s) = 2) := by unfold Hid; rw [HS.out, HB.out, HA.out, hx.out]; rfl
   have hv : Hid (lonPV (bl s) = 0) := by unfold Hid lonPV; rw [h4.out]; rfl
   go_wp2_with fail
   first
    | (refine (isLon_any a _).mono ?_; rintro e w' ⟨rfl, rfl⟩; rw [hx.out]; go_wp2; go_ret2)
    | go_ret2
   exact HP.out _ _ _ h4.out hv.out ⟨_, rfl⟩

def PosPPost (l : List UInt8) (w : World) (e : Ending) (w' : World) : Prop := e = .returned (.tuple #[.agg #[.int .i64 (posPLat l), .int .i64 (posPLon l)], .int .i64 (posPErr l)]) ∧ Below w.heap.size w w'
set_option maxHeartbeats 2000000 in
theorem parsePos_any (s : ByteArray) (w : World) (hs : s.size ≤ maxLen) : Calls Tryz.prog 296 #[.string s] w (PosPPost (bl s) w) := by
 unfold maxLen at hs
 have HP : Hid (∀ (a b er : Int) w', posPErr (bl s) = er → posPLat (bl s) = a → posPLon (bl s) = b → Below w.heap.size w w' → PosPPost (bl s) w (.returned (.tuple #[.agg #[.int .i64 a, .int .i64 b], .int .i64 er])) w') := by
  intro a b er w' h1 h2 h3 h4; unfold PosPPost; rw [h1, h2, h3]; exact ⟨rfl, h4⟩
 have HZ : Hid (posPErr (bl s) ≠ 0 → posPLat (bl s) = 0 ∧ posPLon (bl s) = 0) := by
  intro h; unfold posPLat posPLon; rw [if_neg h, if_neg h]; exact ⟨rfl, rfl⟩
 by_cases hl : s.size = 19
 ·have h19 : ((s.size : Int) != 19) = false := bne_eq_false_iff_eq.2 (by omega)
  have h9 : 9 ≤ s.size := by omega
  have h9' : (9 : Int) ≤ (s.size : Int) := by omega
  have HE : Hid (posPErr (bl s) = if latPErr ((bl s).take 9) = 0 then lonPErr ((bl s).drop 9) else latPErr ((bl s).take 9)) := by
   unfold Hid posPErr; rw [if_pos (show (bl s).length = 19 from hl)]
  have e1 : Hid (bl (s.extract 0 9) = (bl s).take 9) := by unfold Hid; rw [bl_extract]; rfl
  have e2 : Hid (bl (s.extract 9 s.size) = (bl s).drop 9) := by unfold Hid; rw [bl_extract, List.take_of_length_le (by rw [List.length_drop, bl_len]; omega)]
  have HLa : Hid (posPErr (bl s) = 0 → posPLat (bl s) = latPV ((bl s).take 9) ∧ posPLon (bl s) = lonPV ((bl s).drop 9)) := by
   intro h; unfold posPLat posPLon; rw [if_pos h, if_pos h]; exact ⟨rfl, rfl⟩
  clear hl
  go_enter Tryz.func296, Tryz.ntmps296
  go_wp2_with fail
  refine (parseLat_any _ _ (by rw [ByteArray.size_extract]; unfold maxLen; omega)).mono ?_
  rintro e w' ⟨rfl, k, rfl⟩
  rw [e1.out]
  obtain ⟨ea, hea⟩ : ∃ e, latPErr ((bl s).take 9) = e := ⟨_, rfl⟩
  obtain ⟨va, hva⟩ : ∃ v, latPV ((bl s).take 9) = v := ⟨_, rfl⟩
  rw [hea] at HE
  rw [hva] at HLa
  rw [hea, hva]
  clear hea hva
  by_cases h0 : ea = 0
  ·have e3 : (ea != 0) = false := bne_eq_false_iff_eq.2 h0
   rw [if_pos h0] at HE
   have H0 := Lib.hid h0
   clear h0
   go_wp2_with fail
   refine (parseLon_any _ _ (by rw [ByteArray.size_extract]; unfold maxLen; omega)).mono ?_
   rintro e w' ⟨rfl, k2, rfl⟩
   rw [e2.out]
   obtain ⟨eb, heb⟩ : ∃ e, lonPErr ((bl s).drop 9) = e := ⟨_, rfl⟩
   obtain ⟨vb, hvb⟩ : ∃ v, lonPV ((bl s).drop 9) = v := ⟨_, rfl⟩
   rw [heb] at HE
   rw [hvb] at HLa
   rw [heb, hvb]
   clear heb hvb
   by_cases h0 : eb = 0
   ·have e4 : (eb != 0) = false := bne_eq_false_iff_eq.2 h0
    have H1 := Lib.hid h0
    clear h0
    have HR := Lib.hid (HLa.out (HE.out.trans H1.out))
    have HE0 := Lib.hid (HE.out.trans H1.out)
    go_wp2
    exact bodyPost_ret (v := .tuple #[.agg #[.int .i64 va, .int .i64 vb], .int .i64 0]) (by simp [results, Tryz.results296, go_sem]) rfl (HP.out _ _ _ _ HE0.out HR.out.1 HR.out.2 (by repeat (first | exact Below.refl _ _ | refine Below.setCell ?_ (by simp) _ | refine below_drewN' ?_ _ | refine Below.alloc ?_ (by simp) _)))
   ·have e4 : (eb != 0) = true := bne_iff_ne.2 h0
    have H1 := Lib.hid h0
    have HR := Lib.hid (HZ.out (by rw [HE.out]; exact h0))
    clear h0
    go_wp2
    exact bodyPost_ret (v := .tuple #[.agg #[.int .i64 0, .int .i64 0], .int .i64 eb]) (by simp [results, Tryz.results296, go_sem]) rfl (HP.out _ _ _ _ HE.out HR.out.1 HR.out.2 (by repeat (first | exact Below.refl _ _ | refine Below.setCell ?_ (by simp) _ | refine below_drewN' ?_ _ | refine Below.alloc ?_ (by simp) _)))
  ·have e3 : (ea != 0) = true := bne_iff_ne.2 h0
   rw [if_neg h0] at HE
   have H0 := Lib.hid h0
   have HR := Lib.hid (HZ.out (by rw [HE.out]; exact h0))
   clear h0
   go_wp2
   exact bodyPost_ret (v := .tuple #[.agg #[.int .i64 0, .int .i64 0], .int .i64 ea]) (by simp [results, Tryz.results296, go_sem]) rfl (HP.out _ _ _ _ HE.out HR.out.1 HR.out.2 (by repeat (first | exact Below.refl _ _ | refine Below.setCell ?_ (by simp) _ | refine below_drewN' ?_ _ | refine Below.alloc ?_ (by simp) _)))
 ·have h19 : ((s.size : Int) != 19) = true := bne_iff_ne.2 (by omega)
  have HE : Hid (posPErr (bl s) = 4) := by unfold Hid posPErr; rw [if_neg (show ¬ (bl s).length = 19 from hl)]
  clear hl
  go_enter Tryz.func296, Tryz.ntmps296
  have HR := Lib.hid (HZ.out (by rw [HE.out]; decide))
  go_wp2
  exact bodyPost_ret (v := .tuple #[.agg #[.int .i64 0, .int .i64 0], .int .i64 4]) (by simp [results, Tryz.results296, go_sem]) rfl (HP.out _ _ _ _ HE.out HR.out.1 HR.out.2 (by repeat (first | exact Below.refl _ _ | refine Below.setCell ?_ (by simp) _ | refine below_drewN' ?_ _ | refine Below.alloc ?_ (by simp) _)))

theorem ScP.c3 {w : World} {g : Nat} {s : Sc} (h : ScP w g s) : w.cell? ⟨g, 3, none⟩ = some (.int .i64 s.la) := by
 obtain ⟨_, v, h, _⟩ := h; exact blkCell h 3 rfl
theorem field_any (s : Sc) (g : Nat) (w : World) (h : ScP w g s) :
  Calls Tryz.prog 231 #[.pointer (some ⟨g, 0, none⟩)] w fun e w' => e = .returned (.string (sb s.text)) ∧ ScPost s.take g w w' := by
 have H := Lib.hid h
 clear h
 go_enter Tryz.func231, Tryz.ntmps231
 go_wp2_with fail
 refine (take_any s g _ H.out).mono ?_
 rintro e w1 ⟨rfl, hp⟩
 have HP := Lib.hid hp
 clear hp
 go_wp2
 go_ret
 exact ⟨rfl, HP.out⟩
theorem failS_any (s : Sc) (er : Int) (g : Nat) (w : World) (h : ScP w g s) :
  Calls Tryz.prog 234 #[.pointer (some ⟨g, 0, none⟩), .int .i64 er] w fun e w' => e = .returned (.tuple #[]) ∧ ScPost (s.note s.la er) g w w' := by
 have c3 := h.c3
 have H := Lib.hid h
 clear h
 go_enter Tryz.func234, Tryz.ntmps234
 go_wp2_with fail
 refine (note_any s s.la er g _ H.out).mono ?_
 rintro e w1 ⟨rfl, hp⟩
 have HP := Lib.hid hp
 clear hp
 go_wp2
 go_end0
 exact ⟨rfl, HP.out⟩
def WdR (w : World) (g : Nat) (v : Value) (ws : List (List UInt8)) : Prop :=
 ∃ A c, v = .slice A ws.length c ∧ ws.length ≤ c ∧ c ≤ maxLen ∧ (0 < ws.length → ∃ h o, A = some ⟨h, o, none⟩ ∧ h < w.heap.size ∧ h ≠ g ∧ ∀ k (hk : k < ws.length), w.cell? ⟨h, o + k, none⟩ = some (.string (sb ws[k])))
theorem WdR.off {w w' : World} {g : Nat} {v : Value} {ws : List (List UInt8)} (h : WdR w g v ws) (ho : Off g w w') : WdR w' g v ws := by
 obtain ⟨A, c, hv, hc, hm, hr⟩ := h
 refine ⟨A, c, hv, hc, hm, fun h0 => ?_⟩
 obtain ⟨b, o, hA, hb, hn, hx⟩ := hr h0
 exact ⟨b, o, hA, Nat.lt_of_lt_of_le hb ho.size, hn, fun k hk => (ho.cell hb hn).trans (hx k hk)⟩
theorem WdR.at_ {w : World} {g : Nat} {v : Value} {ws : List (List UInt8)} (h : WdR w g v ws) {k : Nat} (hk : k < ws.length) :
  ∃ b o c, v = .slice (some ⟨b, o, none⟩) ws.length c ∧ w.cell? ⟨b, o + k, none⟩ = some (.string (sb ws[k])) := by
 obtain ⟨A, c, hv, hc, hm, hr⟩ := h
 obtain ⟨b, o, rfl, hb, hn, hx⟩ := hr (by omega)
 exact ⟨b, o, c, hv, hx k hk⟩

theorem text_size {s : Sc} (h : s.text.length ≤ 140737488351232) : (sb s.text).size ≤ 140737488351232 := h
end Go.Proofs.YtlhniiakacbbeaaGreatDoor
