/-
  Contracts: all the rest that a scanner takes (both sides); a name and a number that the reference's takes.
-/
import Derived.Test.YtlgajjlnbcbijaaGreatDoorScanX
namespace Go.Proofs.YtlgajjlnbcbijaaGreatDoor
open Go.RowKit
set_option linter.unusedVariables false
set_option linter.unusedSimpArgs false

theorem ficells_drop : ∀ (l : List FldI) (k : Nat), ficells (l.drop k) = (ficells l).drop (k * 2)
  | [], k => by simp [ficells]
  | f :: l, 0 => by simp
  | f :: l, k + 1 => by
    rw [List.drop_succ_cons, ficells_cons, ficells_drop l k, show (k + 1) * 2 = k * 2 + 1 + 1 by omega, List.drop_succ_cons, List.drop_succ_cons]
def Sc.restS (s : Sc) : Sc := if s.left = 0 then s else { s with nx := s.fs.length, la := (fld s.fs s.nx).2 }
def Sc.restV (s : Sc) : List UInt8 := if s.left = 0 then [] else joinL ((s.fs.drop s.nx).map (·.1))
theorem left_pos {s : Sc} (h : s.left ≠ 0) : s.bad = false ∧ s.nx < s.fs.length := by
  unfold Sc.left at h
  cases hb : s.bad
  · rw [hb] at h; refine ⟨rfl, ?_⟩; simp at h; omega
  · rw [hb] at h; exact absurd rfl h
theorem FsR.tx {w : World} {g b o c : Nat} {fs : List FldI} (h : FsR w g (.slice (some ⟨b, o, none⟩) fs.length c) fs) (hg : g ≤ w.heap.size) {k : Nat} (hk : k < fs.length) :
    TxR w (.slice (some ⟨b, o + k * 2, none⟩) (fs.length - k) (c - k)) ((fs.drop k).map (·.1)) := by
  obtain ⟨A, c', hv, hc, hm, hf, hr⟩ := h
  obtain ⟨b', o', rfl, hb, hx⟩ := hr (by omega)
  simp only [Value.slice.injEq, Option.some.injEq, Addr.mk.injEq, true_and, and_true] at hv
  obtain ⟨⟨rfl, rfl⟩, rfl⟩ := hv
  have hl : ((fs.drop k).map (·.1)).length = fs.length - k := by rw [List.length_map, List.length_drop]
  refine ⟨ficells (fs.drop k), ⟨by rw [ficells_len, hl, List.length_drop], _, _, by rw [hl], by rw [hl]; omega, by omega, fun _ => ⟨b, o + k * 2, rfl, by omega, fun j u hu => ?_⟩⟩, fun j hj => ?_⟩
  · rw [ficells_drop, List.getElem?_drop] at hu
    have := hx _ _ hu
    rwa [← Nat.add_assoc] at this
  · rw [hl] at hj
    have := ficells_at (fs.drop k) j (by rw [List.length_drop]; exact hj)
    rw [List.getElem_map]
    exact ⟨this.1, _, this.2⟩
theorem scC_rest {s : Sc} (h : s.left ≠ 0) (v : Value) : ((scC s v).setIfInBounds 2 (.int .i64 (s.fs.length : Int))).setIfInBounds 3 (.int .i64 (fld s.fs s.nx).2) = scC s.restS v := by
  unfold Sc.restS; rw [if_neg h]; rfl
theorem rscC_rest {s : Sc} (h : s.left ≠ 0) (v : Value) : ((rscC s v).setIfInBounds 2 (.int .i64 (s.fs.length : Int))).setIfInBounds 3 (.int .i64 (fld s.fs s.nx).2) = rscC s.restS v := by
  unfold Sc.restS; rw [if_neg h]; rfl
theorem rest_fs (s : Sc) : s.restS.fs = s.fs := by unfold Sc.restS; split <;> rfl
theorem rest_nx {s : Sc} (h : s.left ≠ 0) : s.restS.nx = s.fs.length := by unfold Sc.restS; rw [if_neg h]
def RestPost (s : Sc) (g : Nat) (w : World) (e : Ending) (w' : World) : Prop := e = .returned (.string (sb s.restV)) ∧ ScPost s.restS g w w'
set_option maxRecDepth 100000 in
set_option maxHeartbeats 2000000 in
theorem rest_any (s : Sc) (g : Nat) (w : World) (h : ScP w g s) (hL : s.restV.length ≤ 1100000000) (hN : s.fs.length ≤ 1048576) :
    Calls Tryz.prog 42 #[.pointer (some ⟨g, 0, none⟩)] w (RestPost s g w) := by
  have H := Lib.hid h
  have HNN := Lib.hid hN
  by_cases hl0 : s.left = 0
  · have HV : Hid (s.restV = []) := by unfold Hid Sc.restV; rw [if_pos hl0]
    have HS : Hid (s.restS = s) := by unfold Hid Sc.restS; rw [if_pos hl0]
    have HL := Lib.hid hl0
    clear h hL hN hl0
    go_enter Tryz.func42, Tryz.ntmps42
    go_wp2_with fail
    refine (left_any s g _ H.out).mono ?_
    rintro e w1 ⟨rfl, hd⟩
    rw [HL.out]
    have HP : Hid (RestPost s g w (.returned (.string (sb []))) w1) := ⟨by rw [HV.out], by rw [HS.out]; exact ⟨H.out.below hd.below, Off.of_below hd.below⟩⟩
    clear hd
    go_wp2
    go_ret
    exact HP.out
  · obtain ⟨hbad, hlt⟩ := left_pos hl0
    have HV : Hid (s.restV = joinL ((s.fs.drop s.nx).map (·.1))) := by unfold Hid Sc.restV; rw [if_neg hl0]
    have HLJ : Hid ((joinL ((s.fs.drop s.nx).map (·.1))).length ≤ 1100000000) := by unfold Hid; rw [← HV.out]; exact hL
    have hlp : (0 : Int) < (s.left : Int) := by omega
    have hle : ((s.left : Int) == 0) = false := by rw [beq_eq_false_iff_ne]; omega
    have HC := Lib.hid (fun v => scC_rest hl0 v)
    have HRN := Lib.hid (rest_nx hl0)
    have hgs := h.lt
    obtain ⟨hn, v, hb, hf⟩ := h
    obtain ⟨b, o, c, rfl, hbl, hc0, hc1, hsz⟩ := hf.at_ hlt
    have hbn : b ≠ g := Nat.ne_of_lt hbl
    have hbw : b < w.heap.size := Nat.lt_trans hbl hgs
    obtain ⟨A', c', hv', hcn, hcm⟩ := fld_le hf
    simp only [Value.slice.injEq, true_and] at hv'
    obtain ⟨-, rfl⟩ := hv'
    have k1 : w.cell? ⟨g, 1, none⟩ = some (.slice (some ⟨b, o, none⟩) s.fs.length c) := blkCell hb 1 rfl
    have k2 : w.cell? ⟨g, 2, none⟩ = some (.int .i64 (s.nx : Int)) := blkCell hb 2 rfl
    have k3 : w.cell? ⟨g, 3, none⟩ = some (.int .i64 s.la) := blkCell hb 3 rfl
    have f2 := blkFree hb 2
    have f3 := blkFree hb 3
    have HFIN : Hid (∀ w1 w2 : World, Drew w w1 → w2 = ((w1.setCell ⟨g, 2, none⟩ (.int .i64 (s.fs.length : Int))).setCell ⟨g, 3, none⟩ (.int .i64 (fld s.fs s.nx).2)) → ScP w2 g s.restS ∧ Off g w w2 ∧ TxR w2 (.slice (some ⟨b, o + s.nx * 2, none⟩) (s.fs.length - s.nx) (c - s.nx)) ((s.fs.drop s.nx).map (·.1))) := by
      intro w1 w2 hd hw2
      have ho : Off g w w2 := by rw [hw2]; exact ((Off.of_below hd.below).set 2 _).set 3 _
      have hf2 : FsR w2 g (.slice (some ⟨b, o, none⟩) s.fs.length c) s.fs := hf.off hgs ho
      refine ⟨⟨by rw [HRN.out, rest_fs]; exact Nat.le_refl _, _, ?_, by rw [rest_fs]; exact hf2⟩, ho, hf2.tx (Nat.le_trans (Nat.le_of_lt hgs) ho.size) hlt⟩
      have hb1 := (hd.below.block g hgs).trans hb
      rw [hw2, ← HC.out]
      exact blkSet (blkSet hb1 2 _) 3 _
    obtain ⟨n, hnn⟩ : ∃ n, s.fs.length = n := ⟨_, rfl⟩
    obtain ⟨k, hkk⟩ : ∃ k, s.nx = k := ⟨_, rfl⟩
    obtain ⟨co, hco⟩ : ∃ t, (fld s.fs s.nx).2 = t := ⟨_, rfl⟩
    obtain ⟨L, hLL⟩ : ∃ L, (s.fs.drop s.nx).map (·.1) = L := ⟨_, rfl⟩
    have HTL : Hid (L.length ≤ 1048576) := by unfold Hid; rw [← hLL, List.length_map, List.length_drop]; omega
    rw [hLL] at HV HLJ HFIN
    rw [hco] at HFIN hc1
    rw [hkk] at HFIN hlt k2 hc0 hc1
    rw [hnn] at HFIN hlt hcn k1
    obtain ⟨lf, hlf⟩ : ∃ x, (s.left : Int) = x := ⟨_, rfl⟩
    rw [hlf] at hlp hle
    have HLF := Lib.hid hlf
    clear hnn hkk hco hLL hb hf hn hbad hsz hc0 hL hN hl0 hlf
    have hki : (k : Int) < (n : Int) := by omega
    have hk0 : (0 : Int) ≤ (k : Int) := by omega
    have hknat : ((k : Int)).toNat = k := Int.toNat_natCast k
    have hck : ¬ c = k := by omega
    have hkc : k ≤ c := by omega
    go_enter Tryz.func42, Tryz.ntmps42
    go_wp2_with fail
    refine (left_any s g _ H.out).mono ?_
    rintro e w1 ⟨rfl, hd⟩
    rw [HLF.out]
    have HD := Lib.hid hd
    obtain ⟨m, rfl⟩ := hd
    go_wp2
    go_quiet (fail)
    go_wp2_with fail
    have HFX : Hid (∀ (t : ByteArray) w', Hid (bl t = joinL L) → ScPost s.restS g w w' → RestPost s g w (.returned (.string t)) w') := fun t w' h1 h2 => ⟨by rw [HV.out, ← h1.out, sb_bl], h2⟩
    obtain ⟨hsc, hof, htx⟩ := HFIN.out (w.drewN (m + nq)) _ ⟨_, rfl⟩ rfl
    have HSC := Lib.hid hsc
    have HOF := Lib.hid hof
    clear hsc hof
    refine (texts_any _ L _ htx HTL.out HLJ.out).mono ?_
    rintro e w2 ⟨t, rfl, ht, hb2⟩
    have HP : Hid (ScPost s.restS g w w2) := ⟨HSC.out.below hb2, HOF.out.trans (Off.of_below hb2)⟩
    clear hb2 htx
    go_wp2
    go_ret
    exact HFX.out _ _ ht HP.out
def RRestPost (s : Sc) (g : Nat) (w : World) (e : Ending) (w' : World) : Prop := e = .returned (.string (sb s.restV)) ∧ ScQPost s.restS g w w'
set_option maxRecDepth 100000 in
set_option maxHeartbeats 2000000 in
theorem rrest_any (s : Sc) (g : Nat) (w : World) (h : ScQ w g s) (hL : s.restV.length ≤ 1100000000) (hN : s.fs.length ≤ 1048576) :
    Calls Tryz.prog 100 #[.pointer (some ⟨g, 0, none⟩)] w (RRestPost s g w) := by
  have H := Lib.hid h
  have HNN := Lib.hid hN
  by_cases hl0 : s.left = 0
  · have HV : Hid (s.restV = []) := by unfold Hid Sc.restV; rw [if_pos hl0]
    have HS : Hid (s.restS = s) := by unfold Hid Sc.restS; rw [if_pos hl0]
    have HL := Lib.hid hl0
    clear h hL hN hl0
    go_enter Tryz.func100, Tryz.ntmps100
    go_wp2_with fail
    refine (rleft_any s g _ H.out).mono ?_
    rintro e w1 ⟨rfl, hd⟩
    rw [HL.out]
    have HP : Hid (RRestPost s g w (.returned (.string (sb []))) w1) := ⟨by rw [HV.out], by rw [HS.out]; exact ⟨H.out.below hd.below, Off.of_below hd.below⟩⟩
    clear hd
    go_wp2
    go_ret
    exact HP.out
  · obtain ⟨hbad, hlt⟩ := left_pos hl0
    have HV : Hid (s.restV = joinL ((s.fs.drop s.nx).map (·.1))) := by unfold Hid Sc.restV; rw [if_neg hl0]
    have HLJ : Hid ((joinL ((s.fs.drop s.nx).map (·.1))).length ≤ 1100000000) := by unfold Hid; rw [← HV.out]; exact hL
    have hlp : (0 : Int) < (s.left : Int) := by omega
    have hle : ((s.left : Int) == 0) = false := by rw [beq_eq_false_iff_ne]; omega
    have HC := Lib.hid (fun v => rscC_rest hl0 v)
    have HRN := Lib.hid (rest_nx hl0)
    have hgs := h.lt
    obtain ⟨hn, v, hb, hf⟩ := h
    obtain ⟨b, o, c, rfl, hbl, hc0, hc1, hsz⟩ := hf.at_ hlt
    have hbn : b ≠ g := Nat.ne_of_lt hbl
    have hbw : b < w.heap.size := Nat.lt_trans hbl hgs
    obtain ⟨A', c', hv', hcn, hcm⟩ := fld_le hf
    simp only [Value.slice.injEq, true_and] at hv'
    obtain ⟨-, rfl⟩ := hv'
    have k1 : w.cell? ⟨g, 1, none⟩ = some (.slice (some ⟨b, o, none⟩) s.fs.length c) := blkCell hb 1 rfl
    have k2 : w.cell? ⟨g, 2, none⟩ = some (.int .i64 (s.nx : Int)) := blkCell hb 2 rfl
    have k3 : w.cell? ⟨g, 3, none⟩ = some (.int .i64 s.la) := blkCell hb 3 rfl
    have f2 := blkFree hb 2
    have f3 := blkFree hb 3
    have HFIN : Hid (∀ w1 w2 : World, Drew w w1 → w2 = ((w1.setCell ⟨g, 2, none⟩ (.int .i64 (s.fs.length : Int))).setCell ⟨g, 3, none⟩ (.int .i64 (fld s.fs s.nx).2)) → ScQ w2 g s.restS ∧ Off g w w2 ∧ TxR w2 (.slice (some ⟨b, o + s.nx * 2, none⟩) (s.fs.length - s.nx) (c - s.nx)) ((s.fs.drop s.nx).map (·.1))) := by
      intro w1 w2 hd hw2
      have ho : Off g w w2 := by rw [hw2]; exact ((Off.of_below hd.below).set 2 _).set 3 _
      have hf2 : FsR w2 g (.slice (some ⟨b, o, none⟩) s.fs.length c) s.fs := hf.off hgs ho
      refine ⟨⟨by rw [HRN.out, rest_fs]; exact Nat.le_refl _, _, ?_, by rw [rest_fs]; exact hf2⟩, ho, hf2.tx (Nat.le_trans (Nat.le_of_lt hgs) ho.size) hlt⟩
      have hb1 := (hd.below.block g hgs).trans hb
      rw [hw2, ← HC.out]
      exact blkSet (blkSet hb1 2 _) 3 _
    obtain ⟨n, hnn⟩ : ∃ n, s.fs.length = n := ⟨_, rfl⟩
    obtain ⟨k, hkk⟩ : ∃ k, s.nx = k := ⟨_, rfl⟩
    obtain ⟨co, hco⟩ : ∃ t, (fld s.fs s.nx).2 = t := ⟨_, rfl⟩
    obtain ⟨L, hLL⟩ : ∃ L, (s.fs.drop s.nx).map (·.1) = L := ⟨_, rfl⟩
    have HTL : Hid (L.length ≤ 1048576) := by unfold Hid; rw [← hLL, List.length_map, List.length_drop]; omega
    rw [hLL] at HV HLJ HFIN
    rw [hco] at HFIN hc1
    rw [hkk] at HFIN hlt k2 hc0 hc1
    rw [hnn] at HFIN hlt hcn k1
    obtain ⟨lf, hlf⟩ : ∃ x, (s.left : Int) = x := ⟨_, rfl⟩
    rw [hlf] at hlp hle
    have HLF := Lib.hid hlf
    clear hnn hkk hco hLL hb hf hn hbad hsz hc0 hL hN hl0 hlf
    have hki : (k : Int) < (n : Int) := by omega
    have hk0 : (0 : Int) ≤ (k : Int) := by omega
    have hknat : ((k : Int)).toNat = k := Int.toNat_natCast k
    have hck : ¬ c = k := by omega
    have hkc : k ≤ c := by omega
    go_enter Tryz.func100, Tryz.ntmps100
    go_wp2_with fail
    refine (rleft_any s g _ H.out).mono ?_
    rintro e w1 ⟨rfl, hd⟩
    rw [HLF.out]
    have HD := Lib.hid hd
    obtain ⟨m, rfl⟩ := hd
    go_wp2
    go_quiet (fail)
    go_wp2_with fail
    have HFX : Hid (∀ (t : ByteArray) w', Hid (bl t = joinL L) → ScQPost s.restS g w w' → RRestPost s g w (.returned (.string t)) w') := fun t w' h1 h2 => ⟨by rw [HV.out, ← h1.out, sb_bl], h2⟩
    obtain ⟨hsc, hof, htx⟩ := HFIN.out (w.drewN (m + nq)) _ ⟨_, rfl⟩ rfl
    have HSC := Lib.hid hsc
    have HOF := Lib.hid hof
    clear hsc hof
    refine (rjoinT_any _ L _ htx HLJ.out).mono ?_
    rintro e w2 ⟨t, rfl, ht, hb2⟩
    have HP : Hid (ScQPost s.restS g w w2) := ⟨HSC.out.below hb2, HOF.out.trans (Off.of_below hb2)⟩
    clear hb2 htx
    go_wp2
    go_ret
    exact HFX.out _ _ ht HP.out
set_option maxRecDepth 100000 in
set_option maxHeartbeats 1000000 in
theorem rnameS_any (m : Int) (s : Sc) (g : Nat) (w : World) (hts : s.text.length ≤ 140737488351232) (h : ScQ w g s) :
    Calls Tryz.prog 94 #[.pointer (some ⟨g, 0, none⟩), .int .i64 m] w (RStrSPost (nameSV m) (nameSE m) s g w) := by
  have H := Lib.hid h
  clear h
  cases hg : s.got
  · have HG := Lib.hid hg
    have HF1 := Lib.hid (Sc.tv_no hg ([] : List UInt8) (nameSV m))
    have HF2 := Lib.hid (Sc.tk_no hg (nameSE m))
    clear hg
    go_enter Tryz.func94, Tryz.ntmps94
    go_wp2_with fail
    refine (rtake_any s g _ H.out).mono ?_
    rintro e w1 ⟨rfl, hp⟩
    rw [HG.out]
    have HP := Lib.hid hp
    clear hp
    go_wp2
    go_ret
    exact RStrSPost.mk HF1.out (by rw [HF2.out]; exact HP.out)
  · have HG := Lib.hid hg
    have HF1 := Lib.hid (Sc.tv_got hg ([] : List UInt8) (nameSV m))
    have HF2 := Lib.hid (Sc.tk_got hg (nameSE m))
    obtain ⟨t, ht⟩ : ∃ t, s.text = t := ⟨_, rfl⟩
    have hsz := text_size hts
    rw [ht] at HF1 HF2 hsz
    have HT := Lib.hid ht
    have HSZ := Lib.hid hsz
    clear hg ht hts hsz
    cases hn : nameB t m
    · have HV : Hid (nameSV m t = [] ∧ nameSE m t = 5) := by unfold Hid nameSV nameSE; rw [hn]; exact ⟨rfl, rfl⟩
      have HN := Lib.hid hn
      clear hn
      go_enter Tryz.func94, Tryz.ntmps94
      go_wp2_with fail
      refine (rtake_any s g _ H.out).mono ?_
      rintro e w1 ⟨rfl, hp⟩
      rw [HG.out, HT.out]
      have HP := Lib.hid hp
      clear hp
      go_wp2_with fail
      refine (rname_any (sb t) m _ (by have := HSZ.out; unfold maxLen; omega)).mono ?_
      rintro e w2 ⟨rfl, rfl⟩
      rw [bl_sb, HN.out]
      have c3 := HP.out.1.c3
      go_wp2_with fail
      refine (rnote_any s.take s.take.la 5 g _ HP.out.1).mono ?_
      rintro e w3 ⟨rfl, hp⟩
      have HP3 := Lib.hid (HP.out.trans hp)
      clear hp
      go_wp2
      go_ret
      exact RStrSPost.mk (x := []) (by rw [HF1.out, HV.out.1]) (by rw [HF2.out, HV.out.2]; exact HP3.out)
    · have HV : Hid (nameSV m t = t ∧ nameSE m t = 0) := by unfold Hid nameSV nameSE; rw [hn]; exact ⟨rfl, rfl⟩
      have HN := Lib.hid hn
      clear hn
      go_enter Tryz.func94, Tryz.ntmps94
      go_wp2_with fail
      refine (rtake_any s g _ H.out).mono ?_
      rintro e w1 ⟨rfl, hp⟩
      rw [HG.out, HT.out]
      have HP := Lib.hid hp
      clear hp
      go_wp2_with fail
      refine (rname_any (sb t) m _ (by have := HSZ.out; unfold maxLen; omega)).mono ?_
      rintro e w2 ⟨rfl, rfl⟩
      rw [bl_sb, HN.out]
      go_wp2
      go_ret
      exact RStrSPost.mk (by rw [HF1.out, HV.out.1]) (by rw [HF2.out, HV.out.2, Sc.note_zero]; exact HP.out)
set_option maxRecDepth 100000 in
set_option maxHeartbeats 1000000 in
theorem rnumS_any (lo hi : Int) (s : Sc) (g : Nat) (w : World) (hts : s.text.length ≤ 140737488351232) (h : ScQ w g s) :
    Calls Tryz.prog 95 #[.pointer (some ⟨g, 0, none⟩), .int .i64 lo, .int .i64 hi] w (RIntPost (numSV lo hi) (numSE lo hi) s g w) := by
  have H := Lib.hid h
  have HFIN : Hid (∀ (x : Int) w', s.tv 0 (numSV lo hi) = x → ScQPost (s.tk (numSE lo hi)) g w w' → RIntPost (numSV lo hi) (numSE lo hi) s g w (.returned (.int .i64 x)) w') := by
    intro x w' h1 h2; unfold RIntPost; rw [h1]; exact ⟨rfl, h2⟩
  clear h
  cases hg : s.got
  · have HG := Lib.hid hg
    have HF1 := Lib.hid (Sc.tv_no hg (0 : Int) (numSV lo hi))
    have HF2 := Lib.hid (Sc.tk_no hg (numSE lo hi))
    clear hg
    go_enter Tryz.func95, Tryz.ntmps95
    go_wp2_with fail
    refine (rtake_any s g _ H.out).mono ?_
    rintro e w1 ⟨rfl, hp⟩
    rw [HG.out]
    have HP := Lib.hid hp
    clear hp
    go_wp2
    go_ret
    exact HFIN.out _ _ HF1.out (by rw [HF2.out]; exact HP.out)
  · have HG := Lib.hid hg
    have HF1 := Lib.hid (Sc.tv_got hg (0 : Int) (numSV lo hi))
    have HF2 := Lib.hid (Sc.tk_got hg (numSE lo hi))
    obtain ⟨t, ht⟩ : ∃ t, s.text = t := ⟨_, rfl⟩
    have hsz := text_size hts
    rw [ht] at HF1 HF2 hsz
    have HT := Lib.hid ht
    have HSZ := Lib.hid hsz
    clear hg ht hts hsz
    go_enter Tryz.func95, Tryz.ntmps95
    go_wp2_with fail
    refine (rtake_any s g _ H.out).mono ?_
    rintro e w1 ⟨rfl, hp⟩
    rw [HG.out, HT.out]
    have HP := Lib.hid hp
    clear hp
    go_wp2_with fail
    refine (rparseNumber_any (sb t) lo hi _ HSZ.out).mono ?_
    rintro e w2 ⟨rfl, hb2⟩
    rw [bl_sb]
    have HP2 := Lib.hid (HP.out.then_ hb2)
    have c3 := HP2.out.1.c3
    clear hb2
    obtain ⟨x, hx⟩ : ∃ x, numSV lo hi t = x := ⟨_, rfl⟩
    obtain ⟨er, her⟩ : ∃ x, numSE lo hi t = x := ⟨_, rfl⟩
    rw [hx] at HF1
    rw [her] at HF2
    unfold numSV at hx
    unfold numSE at her
    rw [hx, her]
    clear hx her
    go_wp2_with fail
    refine (rnote_any s.take s.take.la er g _ HP2.out.1).mono ?_
    rintro e w3 ⟨rfl, hp⟩
    have HP3 := Lib.hid (HP2.out.trans hp)
    clear hp
    go_wp2
    go_ret
    exact HFIN.out _ _ HF1.out (by rw [HF2.out]; exact HP3.out)
end Go.Proofs.YtlgajjlnbcbijaaGreatDoor
