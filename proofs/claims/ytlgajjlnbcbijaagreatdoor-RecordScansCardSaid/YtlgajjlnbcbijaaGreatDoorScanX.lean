/-
  Contracts: how many fields are left; a name, a number, all the rest that a scanner takes. Both sides.
-/
import Derived.Test.YtlgajjlnbcbijaaGreatDoorScanW
import Derived.Test.YtlgajjlnbcbijaaGreatDoorNum
import Derived.Test.YtlgajjlnbcbijaaGreatDoorWrite
namespace Go.Proofs.YtlgajjlnbcbijaaGreatDoor
open Go.RowKit
set_option linter.unusedVariables false
set_option linter.unusedSimpArgs false

theorem left_bad {s : Sc} (h : s.bad = true) : (0 : Int) = (s.left : Int) := by unfold Sc.left; rw [if_pos h]; rfl
theorem left_ok {s : Sc} (h : s.bad = false) (h2 : s.nx ≤ s.fs.length) : (s.fs.length : Int) - (s.nx : Int) = (s.left : Int) := by
  unfold Sc.left; rw [if_neg (by rw [h]; decide)]; omega
set_option maxHeartbeats 1000000 in
theorem left_any (s : Sc) (g : Nat) (w : World) (h : ScP w g s) :
    Calls Tryz.prog 29 #[.pointer (some ⟨g, 0, none⟩)] w fun e w' => e = .returned (.int .i64 (s.left : Int)) ∧ Drew w w' := by
  have H := Lib.hid h
  have hgs := h.lt
  obtain ⟨hn, v, hb, hf⟩ := h
  skip
  cases hbad : s.bad
  · have HL := Lib.hid (left_ok hbad hn)
    have HB := Lib.hid hbad
    try rw [hbad] at c7
    obtain ⟨A, c, rfl, hcn, hcm⟩ := fld_le hf
    have k1 : w.cell? ⟨g, 1, none⟩ = some (.slice A s.fs.length c) := blkCell hb 1 rfl
    have k2 : w.cell? ⟨g, 2, none⟩ = some (.int .i64 (s.nx : Int)) := blkCell hb 2 rfl
    obtain ⟨n, hnn⟩ : ∃ n, s.fs.length = n := ⟨_, rfl⟩
    obtain ⟨k, hkk⟩ : ∃ k, s.nx = k := ⟨_, rfl⟩
    rw [hnn] at hn k1 hcn HL
    rw [hkk] at hn k2 HL
    have hki : (k : Int) ≤ (n : Int) := by omega
    clear hnn hkk hb hf hbad hn
    go_enter Tryz.func29, Tryz.ntmps29
    go_wp2_with fail
    refine (failed_any s g _ H.out).mono ?_
    rintro en w1 ⟨rfl, rfl⟩; rw [HB.out]
    go_wp2
    go_quiet (fail)
    go_wp2
    go_ret
    exact ⟨ret_int HL.out, ⟨_, rfl⟩⟩
  · have HL := Lib.hid (left_bad hbad)
    have HB := Lib.hid hbad
    try rw [hbad] at c7
    clear hbad hb hf hn
    go_enter Tryz.func29, Tryz.ntmps29
    go_wp2_with fail
    refine (failed_any s g _ H.out).mono ?_
    rintro en w1 ⟨rfl, rfl⟩; rw [HB.out]
    go_wp2
    go_ret
    exact ⟨ret_int HL.out, Drew.refl _⟩
set_option maxHeartbeats 1000000 in
theorem rleft_any (s : Sc) (g : Nat) (w : World) (h : ScQ w g s) :
    Calls Tryz.prog 30 #[.pointer (some ⟨g, 0, none⟩)] w fun e w' => e = .returned (.int .i64 (s.left : Int)) ∧ Drew w w' := by
  have H := Lib.hid h
  have hgs := h.lt
  obtain ⟨hn, v, hb, hf⟩ := h
  have c7 : w.cell? ⟨g, 7, none⟩ = some (.bool s.bad) := blkCell hb 7 rfl
  cases hbad : s.bad
  · have HL := Lib.hid (left_ok hbad hn)
    have HB := Lib.hid hbad
    try rw [hbad] at c7
    obtain ⟨A, c, rfl, hcn, hcm⟩ := fld_le hf
    have k1 : w.cell? ⟨g, 1, none⟩ = some (.slice A s.fs.length c) := blkCell hb 1 rfl
    have k2 : w.cell? ⟨g, 2, none⟩ = some (.int .i64 (s.nx : Int)) := blkCell hb 2 rfl
    obtain ⟨n, hnn⟩ : ∃ n, s.fs.length = n := ⟨_, rfl⟩
    obtain ⟨k, hkk⟩ : ∃ k, s.nx = k := ⟨_, rfl⟩
    rw [hnn] at hn k1 hcn HL
    rw [hkk] at hn k2 HL
    have hki : (k : Int) ≤ (n : Int) := by omega
    clear hnn hkk hb hf hbad hn
    go_enter Tryz.func30, Tryz.ntmps30
    go_wp2_with fail
    skip
    skip
    go_wp2
    go_quiet (fail)
    go_wp2
    go_ret
    exact ⟨ret_int HL.out, ⟨_, rfl⟩⟩
  · have HL := Lib.hid (left_bad hbad)
    have HB := Lib.hid hbad
    try rw [hbad] at c7
    clear hbad hb hf hn
    go_enter Tryz.func30, Tryz.ntmps30
    go_wp2_with fail
    skip
    skip
    go_wp2
    go_ret
    exact ⟨ret_int HL.out, Drew.refl _⟩

/-! ### names and numbers -/
def nameSV (m : Int) (t : List UInt8) : List UInt8 := if nameB t m then t else []
def nameSE (m : Int) (t : List UInt8) : Int := if nameB t m then 0 else 5
/-- a box of one number -/
def NBox (w : World) (b : Nat) (x : Int) (T : TypeId) : Prop := w.heap[b]? = some (.cells #[.int .i64 x] T (0, 0))
theorem NBox.cell {w : World} {b : Nat} {x : Int} {T : TypeId} (h : NBox w b x T) : w.cell? ⟨b, 0, none⟩ = some (.int .i64 x) := blkCell h 0 rfl
theorem NBox.off {w w' : World} {g b : Nat} {x : Int} {T : TypeId} (h : NBox w b x T) (ho : Off g w w') (hb : b ≠ g) : NBox w' b x T :=
  (ho.block b (Array.getElem?_eq_some_iff.1 h).1 (by intro e; injection e with e; exact hb e)).trans h
theorem NBox.below {w w' : World} {b : Nat} {x : Int} {T : TypeId} (h : NBox w b x T) (hb : Below w.heap.size w w') : NBox w' b x T :=
  (hb.block b (Array.getElem?_eq_some_iff.1 h).1).trans h
theorem nbox_new (w : World) (x : Int) (T : TypeId) : NBox (w.alloc (.cells #[.int .i64 x] T)) w.heap.size x T := heap_alloc_new w _
def StrSPost (V : List UInt8 → List UInt8) (E : List UInt8 → Int) (s : Sc) (g : Nat) (w : World) (e : Ending) (w' : World) : Prop := e = .returned (.string (sb (s.tv [] V))) ∧ ScPost (s.tk E) g w w'
theorem StrSPost.mk {V : List UInt8 → List UInt8} {E : List UInt8 → Int} {s : Sc} {g : Nat} {w w' : World} {x : List UInt8} (h1 : s.tv [] V = x) (h2 : ScPost (s.tk E) g w w') : StrSPost V E s g w (.returned (.string (sb x))) w' := by
  unfold StrSPost; rw [h1]; exact ⟨rfl, h2⟩
def RStrSPost (V : List UInt8 → List UInt8) (E : List UInt8 → Int) (s : Sc) (g : Nat) (w : World) (e : Ending) (w' : World) : Prop := e = .returned (.string (sb (s.tv [] V))) ∧ ScQPost (s.tk E) g w w'
theorem RStrSPost.mk {V : List UInt8 → List UInt8} {E : List UInt8 → Int} {s : Sc} {g : Nat} {w w' : World} {x : List UInt8} (h1 : s.tv [] V = x) (h2 : ScQPost (s.tk E) g w w') : RStrSPost V E s g w (.returned (.string (sb x))) w' := by
  unfold RStrSPost; rw [h1]; exact ⟨rfl, h2⟩
def NamePost (m : Int) (t : ByteArray) (w : World) (e : Ending) (w' : World) : Prop := e = .returned (.tuple #[.string (sb (nameSV m (bl t))), .int .i64 (nameSE m (bl t))]) ∧ w = w'
theorem nameClo_any (t : ByteArray) (m : Int) (b : Nat) (w : World) (ht : t.size ≤ maxLen) (hb : NBox w b m 3) :
    Calls Tryz.prog 106 #[.string t, .pointer (some ⟨b, 0, none⟩)] w (NamePost m t w) := by
  have hc := hb.cell
  have HF : Hid (∀ (x : ByteArray) (k : Int) w', x = sb (nameSV m (bl t)) → k = nameSE m (bl t) → w = w' → NamePost m t w (.returned (.tuple #[.string x, .int .i64 k])) w') := by
    rintro x k w' rfl rfl rfl; exact ⟨rfl, rfl⟩
  clear hb
  cases hn : nameB (bl t) m
  · have HV : Hid ((⟨#[]⟩ : ByteArray) = sb (nameSV m (bl t)) ∧ (5 : Int) = nameSE m (bl t)) := by unfold Hid nameSV nameSE; rw [hn]; exact ⟨rfl, rfl⟩
    have HN := Lib.hid hn
    clear hn
    go_enter Tryz.func106, Tryz.ntmps106
    go_wp2_with fail
    refine (name_any t m _ ht).mono ?_
    rintro e w' ⟨rfl, rfl⟩
    rw [HN.out]
    go_wp2
    go_ret2
    exact HF.out _ _ _ HV.out.1 HV.out.2 rfl
  · have HV : Hid (t = sb (nameSV m (bl t)) ∧ (0 : Int) = nameSE m (bl t)) := by unfold Hid nameSV nameSE; rw [hn]; exact ⟨(sb_bl t).symm, rfl⟩
    have HN := Lib.hid hn
    clear hn
    go_enter Tryz.func106, Tryz.ntmps106
    go_wp2_with fail
    refine (name_any t m _ ht).mono ?_
    rintro e w' ⟨rfl, rfl⟩
    rw [HN.out]
    go_wp2
    go_ret2
    exact HF.out _ _ _ HV.out.1 HV.out.2 rfl
def NumPostW (lo hi : Int) (t : ByteArray) (w : World) (e : Ending) (w' : World) : Prop := NumPost t lo hi w e w'
theorem numClo_any (t : ByteArray) (lo hi : Int) (b1 b2 : Nat) (w : World) (E : Env w) (ht : t.size ≤ 140737488351232) (h1 : NBox w b1 lo 2) (h2 : NBox w b2 hi 2) :
    Calls Tryz.prog 109 #[.string t, .pointer (some ⟨b1, 0, none⟩), .pointer (some ⟨b2, 0, none⟩)] w (NumPostW lo hi t w) := by
  have c1 := h1.cell
  have c2 := h2.cell
  have HF : Hid (∀ (x k : Int) w', x = numN lo hi (numSpec (bl t)) → k = numE lo hi (numSpec (bl t)) → Below w.heap.size w w' → NumPostW lo hi t w (.returned (.tuple #[.int .i64 x, .int .i64 k])) w') := by
    rintro x k w' rfl rfl hb; exact ⟨rfl, hb⟩
  obtain ⟨x, hx⟩ : ∃ x, numN lo hi (numSpec (bl t)) = x := ⟨_, rfl⟩
  obtain ⟨k, hk⟩ : ∃ x, numE lo hi (numSpec (bl t)) = x := ⟨_, rfl⟩
  have HX := Lib.hid hx
  have HK := Lib.hid hk
  clear h1 h2 hx hk
  go_enter Tryz.func109, Tryz.ntmps109
  go_wp2_with fail
  refine (parseNumber_any t lo hi _ E ht).mono ?_
  rintro e w' ⟨rfl, hb⟩
  rw [HX.out, HK.out]
  have HB := Lib.hid hb
  clear hb
  go_wp2
  go_ret2
  exact HF.out _ _ _ HX.out.symm HK.out.symm HB.out
def numSV (lo hi : Int) (t : List UInt8) : Int := numN lo hi (numSpec t)
def numSE (lo hi : Int) (t : List UInt8) : Int := numE lo hi (numSpec t)
theorem numS_zero {lo hi : Int} {t : List UInt8} (h : numSE lo hi t ≠ 0) : numSV lo hi t = 0 := by
  unfold numSE numE at h; unfold numSV numN
  cases ho : numSpec t with
  | none => rfl
  | some v =>
    rw [ho] at h
    simp only at h ⊢
    by_cases h1 : numIn lo hi v = true
    · rw [if_pos h1] at h; exact absurd rfl h
    · rw [if_neg h1]
theorem nameS_zero {m : Int} {t : List UInt8} (h : nameSE m t ≠ 0) : nameSV m t = [] := by
  unfold nameSE at h; unfold nameSV
  by_cases h1 : nameB t m = true
  · rw [if_pos h1] at h; exact absurd rfl h
  · rw [if_neg h1]
set_option maxRecDepth 100000 in
set_option maxHeartbeats 1000000 in
theorem takenName_any (m : Int) (b : Nat) (s : Sc) (g : Nat) (w : World) (hts : s.text.length ≤ 140737488351232) (hbg : b ≠ g) (hbx : NBox w b m 3) (h : ScP w g s) :
    Calls Tryz.prog 105 #[.pointer (some ⟨g, 0, none⟩), .func (.func 106) #[] #[.pointer (some ⟨b, 0, none⟩)]] w (StrSPost (nameSV m) (nameSE m) s g w) := by
  have H := Lib.hid h
  have HBX := Lib.hid hbx
  clear h hbx
  cases hg : s.got
  · have HG := Lib.hid hg
    have HF1 := Lib.hid (Sc.tv_no hg ([] : List UInt8) (nameSV m))
    have HF2 := Lib.hid (Sc.tk_no hg (nameSE m))
    clear hg
    go_enter Tryz.func105, Tryz.ntmps105
    go_wp2_with fail
    refine (take_any s g _ H.out).mono ?_
    rintro e w1 ⟨rfl, hp⟩
    rw [HG.out]
    have HP := Lib.hid hp
    clear hp
    go_wp2
    go_ret
    exact StrSPost.mk HF1.out (by rw [HF2.out]; exact HP.out)
  · have HG := Lib.hid hg
    have HF1 := Lib.hid (Sc.tv_got hg ([] : List UInt8) (nameSV m))
    have HF2 := Lib.hid (Sc.tk_got hg (nameSE m))
    obtain ⟨t, ht⟩ : ∃ t, s.text = t := ⟨_, rfl⟩
    have hsz := text_size hts
    rw [ht] at HF1 HF2 hsz
    have HT := Lib.hid ht
    have HSZ := Lib.hid hsz
    clear hg ht hts hsz
    go_enter Tryz.func105, Tryz.ntmps105
    go_wp2_with fail
    refine (take_any s g _ H.out).mono ?_
    rintro e w1 ⟨rfl, hp⟩
    rw [HG.out, HT.out]
    have HP := Lib.hid hp
    have HB1 := Lib.hid (HBX.out.off hp.2 hbg)
    clear hp
    go_wp2_with fail
    refine (nameClo_any (sb t) m b _ (by have := HSZ.out; unfold maxLen; omega) HB1.out).mono ?_
    rintro e w2 ⟨rfl, rfl⟩
    rw [bl_sb]
    have c3 := HP.out.1.c3
    obtain ⟨x, hx⟩ : ∃ x, nameSV m t = x := ⟨_, rfl⟩
    obtain ⟨er, her⟩ : ∃ x, nameSE m t = x := ⟨_, rfl⟩
    have hz : er ≠ 0 → x = [] := by rw [← her, ← hx]; exact nameS_zero
    rw [hx] at HF1
    rw [her] at HF2
    rw [hx, her]
    clear hx her
    by_cases h0 : er = 0
    · have e1 : (er != 0) = false := bne_eq_false_iff_eq.2 h0
      have HE : Hid (s.tk (nameSE m) = s.take) := by unfold Hid; rw [HF2.out, h0, Sc.note_zero]
      clear h0 hz
      go_wp2
      go_ret
      exact StrSPost.mk HF1.out (by rw [HE.out]; exact HP.out)
    · have e1 : (er != 0) = true := bne_iff_ne.2 h0
      have HX := Lib.hid (hz h0)
      clear h0 hz
      go_wp2_with fail
      refine (note_any s.take s.take.la er g _ HP.out.1).mono ?_
      rintro e w3 ⟨rfl, hp⟩
      have HP3 := Lib.hid (HP.out.trans hp)
      clear hp
      go_wp2
      go_ret
      exact StrSPost.mk (x := []) (by rw [HF1.out, HX.out]) (by rw [HF2.out]; exact HP3.out)
set_option maxRecDepth 100000 in
set_option maxHeartbeats 1000000 in
theorem takenNum_any (lo hi : Int) (b1 b2 : Nat) (s : Sc) (g : Nat) (w : World) (E : Env w) (hg0 : 8 ≤ g) (hts : s.text.length ≤ 140737488351232) (hbg : b1 ≠ g) (hbg2 : b2 ≠ g) (hbx : NBox w b1 lo 2) (hby : NBox w b2 hi 2) (h : ScP w g s) :
    Calls Tryz.prog 108 #[.pointer (some ⟨g, 0, none⟩), .func (.func 109) #[] #[.pointer (some ⟨b1, 0, none⟩), .pointer (some ⟨b2, 0, none⟩)]] w (IntPost (numSV lo hi) (numSE lo hi) s g w) := by
  have H := Lib.hid h
  have HBX := Lib.hid hbx
  have HBY := Lib.hid hby
  have HFIN : Hid (∀ (x : Int) w', s.tv 0 (numSV lo hi) = x → ScPost (s.tk (numSE lo hi)) g w w' → IntPost (numSV lo hi) (numSE lo hi) s g w (.returned (.int .i64 x)) w') := by
    intro x w' h1 h2; unfold IntPost; rw [h1]; exact ⟨rfl, h2⟩
  clear h hbx hby
  cases hg : s.got
  · have HG := Lib.hid hg
    have HF1 := Lib.hid (Sc.tv_no hg (0 : Int) (numSV lo hi))
    have HF2 := Lib.hid (Sc.tk_no hg (numSE lo hi))
    clear hg
    go_enter Tryz.func108, Tryz.ntmps108
    go_wp2_with fail
    refine (take_any s g _ H.out).mono ?_
    rintro e w1 ⟨rfl, hp⟩
    rw [HG.out]
    have HP := Lib.hid hp
    clear hp
    go_wp2
    go_ret
    exact HFIN.out _ _ HF1.out (by rw [HF2.out]; exact HP.out)
  · have HG := Lib.hid hg
    have HF1 := Lib.hid (Sc.tv_got hg (0 : Int) (numSV lo hi))
    have HF2 := Lib.hid (Sc.tk_got hg (numSE lo hi))
    obtain ⟨t, ht⟩ : ∃ t, s.text = t := ⟨_, rfl⟩
    have hsz := text_size hts
    rw [ht] at HF1 HF2 hsz
    have HT := Lib.hid ht
    have HSZ := Lib.hid hsz
    clear hg ht hts hsz
    go_enter Tryz.func108, Tryz.ntmps108
    go_wp2_with fail
    refine (take_any s g _ H.out).mono ?_
    rintro e w1 ⟨rfl, hp⟩
    rw [HG.out, HT.out]
    have HP := Lib.hid hp
    have E1 : Env w1 := E.of_below (hp.2.below (Below.refl 8 w) hg0 E.size) (Nat.le_refl _)
    have HB1 := Lib.hid (HBX.out.off hp.2 hbg)
    have HB2 := Lib.hid (HBY.out.off hp.2 hbg2)
    clear hp
    go_wp2_with fail
    refine (numClo_any (sb t) lo hi b1 b2 _ E1 HSZ.out HB1.out HB2.out).mono ?_
    rintro e w2 ⟨rfl, hb2⟩
    rw [bl_sb]
    have HP2 := Lib.hid (HP.out.then_ hb2)
    have c3 := HP2.out.1.c3
    clear hb2
    obtain ⟨x, hx⟩ : ∃ x, numSV lo hi t = x := ⟨_, rfl⟩
    obtain ⟨er, her⟩ : ∃ x, numSE lo hi t = x := ⟨_, rfl⟩
    have hz : er ≠ 0 → x = 0 := by rw [← her, ← hx]; exact numS_zero
    rw [hx] at HF1
    rw [her] at HF2
    unfold numSV at hx
    unfold numSE at her
    rw [hx, her]
    clear hx her
    by_cases h0 : er = 0
    · have e1 : (er != 0) = false := bne_eq_false_iff_eq.2 h0
      have HE : Hid (s.tk (numSE lo hi) = s.take) := by unfold Hid; rw [HF2.out, h0, Sc.note_zero]
      clear h0 hz
      go_wp2
      go_ret
      exact HFIN.out _ _ HF1.out (by rw [HE.out]; exact HP2.out)
    · have e1 : (er != 0) = true := bne_iff_ne.2 h0
      have HX := Lib.hid (hz h0)
      clear h0 hz
      go_wp2_with fail
      refine (note_any s.take s.take.la er g _ HP2.out.1).mono ?_
      rintro e w3 ⟨rfl, hp⟩
      have HP3 := Lib.hid (HP2.out.trans hp)
      clear hp
      go_wp2
      go_ret
      exact HFIN.out _ _ (by rw [HF1.out, HX.out]) (by rw [HF2.out]; exact HP3.out)
set_option maxHeartbeats 1000000 in
theorem nameS_any (m : Int) (s : Sc) (g : Nat) (w : World) (hts : s.text.length ≤ 140737488351232) (h : ScP w g s) :
    Calls Tryz.prog 36 #[.pointer (some ⟨g, 0, none⟩), .int .i64 m] w (StrSPost (nameSV m) (nameSE m) s g w) := by
  have hgs := h.lt
  have H : Hid (ScP (w.alloc (.cells #[.int .i64 m] 3)) g s) := h.alloc _
  have HB : Hid (NBox (w.alloc (.cells #[.int .i64 m] 3)) w.heap.size m 3) := nbox_new w m _
  have HO : Hid (Off g w (w.alloc (.cells #[.int .i64 m] 3))) := (Off.refl g w).alloc _
  clear h
  go_enter Tryz.func36, Tryz.ntmps36
  go_wp2_with fail
  refine (takenName_any m _ s g _ hts (by omega) HB.out H.out).mono ?_
  rintro e w1 ⟨rfl, hp⟩
  have HP : Hid (ScPost (s.tk (nameSE m)) g w w1) := ⟨hp.1, HO.out.trans hp.2⟩
  clear hp
  go_wp2
  go_ret
  exact ⟨rfl, HP.out⟩
set_option maxHeartbeats 1000000 in
theorem numS_any (lo hi : Int) (s : Sc) (g : Nat) (w : World) (E : Env w) (hg0 : 8 ≤ g) (hts : s.text.length ≤ 140737488351232) (h : ScP w g s) :
    Calls Tryz.prog 37 #[.pointer (some ⟨g, 0, none⟩), .int .i64 lo, .int .i64 hi] w (IntPost (numSV lo hi) (numSE lo hi) s g w) := by
  have hgs := h.lt
  have H : Hid (ScP ((w.alloc (.cells #[.int .i64 lo] 2)).alloc (.cells #[.int .i64 hi] 2)) g s) := (h.alloc _).alloc _
  have HB1 : Hid (NBox ((w.alloc (.cells #[.int .i64 lo] 2)).alloc (.cells #[.int .i64 hi] 2)) w.heap.size lo 2) := (nbox_new w lo _).below ((Below.refl _ _).alloc (Nat.le_refl _) _)
  have HB2 : Hid (NBox ((w.alloc (.cells #[.int .i64 lo] 2)).alloc (.cells #[.int .i64 hi] 2)) (w.heap.size + 1) hi 2) := by
    have := nbox_new (w.alloc (.cells #[.int .i64 lo] 2)) hi 2
    rw [World.size_alloc] at this
    exact this
  have HO : Hid (Off g w ((w.alloc (.cells #[.int .i64 lo] 2)).alloc (.cells #[.int .i64 hi] 2))) := ((Off.refl g w).alloc _).alloc _
  clear h
  go_enter Tryz.func37, Tryz.ntmps37
  go_wp2_with fail
  refine (takenNum_any lo hi _ _ s g _ ((E.alloc _).alloc _) hg0 hts (by omega) (by omega) HB1.out HB2.out H.out).mono ?_
  rintro e w1 ⟨rfl, hp⟩
  have HP : Hid (ScPost (s.tk (numSE lo hi)) g w w1) := ⟨hp.1, HO.out.trans hp.2⟩
  clear hp
  go_wp2
  go_ret
  exact ⟨rfl, HP.out⟩
end Go.Proofs.YtlgajjlnbcbijaaGreatDoor
