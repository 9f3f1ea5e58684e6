/-
  Several texts as one.
  Contracts: a window that a scanner takes; both sides.
  Contracts: how many fields are left; a name, a number, all the rest that a scanner takes. Both sides.
  Contracts: all the rest that a scanner takes (both sides); a name and a number that the reference's takes.
  Plain words: the airway of records; records in memory.
-/
import Derived.Test.YtakgcdefbbgdaaaGreatDoorMG12
import Derived.Test.YtakgcdefbbgdaaaGreatDoorMG19
import Derived.Test.YtakgcdefbbgdaaaGreatDoorMG06
import Derived.Test.YtakgcdefbbgdaaaGreatDoorAwCheck
import Derived.Test.YtakgcdefbbgdaaaGreatDoorMG09
namespace Go.Proofs.YtakgcdefbbgdaaaGreatDoor
open Go.RowKit
set_option linter.unusedVariables false
set_option linter.unusedSimpArgs false

def winSLo (l : List UInt8) : Int := pwLo l (winSpec l)
def winSHi (l : List UInt8) : Int := pwHi l (winSpec l)
def winSEr (l : List UInt8) : Int := pwErr l (winSpec l)
theorem winS_zero {l : List UInt8} (h : winSEr l ≠ 0) : winSLo l = 0 ∧ winSHi l = 0 := by
  unfold winSEr at h
  unfold winSLo winSHi
  revert h
  unfold pwErr pwLo pwHi
  cases winSpec l with
  | none => intro _; exact ⟨rfl, rfl⟩
  | some v =>
    obtain ⟨a, b⟩ := v
    simp only []
    intro h
    by_cases h1 : (rangedB a && rangedB b) = true
    · rw [if_pos h1] at h
      by_cases h2 : a ≤ b
      · rw [if_pos h2] at h
        by_cases h3 : (winOut a b == l) = true
        · rw [if_pos h3] at h; exact absurd rfl h
        · have h3' := Bool.not_eq_true _ ▸ h3
          rw [Bool.not_eq_true] at h3
          rw [h3, Bool.and_false]; exact ⟨rfl, rfl⟩
      · rw [decide_eq_false h2, Bool.and_false, Bool.false_and]; exact ⟨rfl, rfl⟩
    · rw [Bool.not_eq_true] at h1
      rw [h1, Bool.false_and, Bool.false_and]; exact ⟨rfl, rfl⟩
def WinSPost (s : Sc) (g : Nat) (w : World) (e : Ending) (w' : World) : Prop :=
  e = .returned (.agg #[.int .i64 (s.tv 0 winSLo), .int .i64 (s.tv 0 winSHi)]) ∧ ScPost (s.tk winSEr) g w w'
theorem WinSPost.mk {s : Sc} {g : Nat} {w w' : World} {a b : Int} (h1 : s.tv 0 winSLo = a) (h2 : s.tv 0 winSHi = b) (h : ScPost (s.tk winSEr) g w w') : WinSPost s g w (.returned (.agg #[.int .i64 a, .int .i64 b])) w' := by
  unfold WinSPost; rw [h1, h2]; exact ⟨rfl, h⟩
set_option maxRecDepth 100000 in
set_option maxHeartbeats 1000000 in
theorem takenWin_any (s : Sc) (g : Nat) (w : World) (E : Env w) (hg0 : 12 ≤ g) (hts : s.text.length ≤ 140737488351232) (h : ScP w g s) :
    Calls Tryz.prog 235 #[.pointer (some ⟨g, 0, none⟩), .func (.func 210) #[] #[]] w (WinSPost s g w) := by
  have hgs := h.lt
  have H : Hid (ScP ((w.alloc (.cells #[.int .i64 0, .int .i64 0] 98)).alloc (.cells #[.int .i64 0, .int .i64 0] 98)) g s) := (h.alloc _).alloc _
  have O1 : OwnB ((w.alloc (.cells #[.int .i64 0, .int .i64 0] 98)).alloc (.cells #[.int .i64 0, .int .i64 0] 98)) w.heap.size 0 0 98 :=
    (((Below.refl _ _).alloc (Nat.le_refl _) _).block w.heap.size (by simp)).trans (heap_alloc_new w _)
  have O2 : OwnB ((w.alloc (.cells #[.int .i64 0, .int .i64 0] 98)).alloc (.cells #[.int .i64 0, .int .i64 0] 98)) (w.heap.size + 1) 0 0 98 := by
    have := heap_alloc_new (w.alloc (.cells #[.int .i64 0, .int .i64 0] 98)) (.cells #[.int .i64 0, .int .i64 0] 98)
    rw [show (w.alloc (.cells #[.int .i64 0, .int .i64 0] 98)).heap.size = w.heap.size + 1 by simp] at this
    exact this
  have HOFF : Hid (Off g w ((w.alloc (.cells #[.int .i64 0, .int .i64 0] 98)).alloc (.cells #[.int .i64 0, .int .i64 0] 98))) := ((Off.refl g w).alloc _).alloc _
  have HO1 := Lib.hid O1
  have HO2 := Lib.hid O2
  clear h O1 O2
  cases hg : s.got
  · have HG := Lib.hid hg
    have HF1 := Lib.hid (Sc.tv_no hg (0 : Int) winSLo)
    have HF2 := Lib.hid (Sc.tv_no hg (0 : Int) winSHi)
    have HF3 := Lib.hid (Sc.tk_no hg winSEr)
    clear hg
    go_enter Tryz.func235, Tryz.ntmps235
    go_wp2_with fail
    refine (take_any s g _ H.out).mono ?_
    rintro e w1 ⟨rfl, hp⟩
    rw [HG.out]
    have HP := Lib.hid hp
    obtain ⟨k0, k1, k2, k3, k4⟩ := (HO1.out.off hp.2 (by omega)).facts
    obtain ⟨l0, l1, l2, l3, l4⟩ := (HO2.out.off hp.2 (by omega)).facts
    have HFIN : Hid (ScPost s.take g w ((w1.setCell ⟨w.heap.size, 0, none⟩ (.int .i64 0)).setCell ⟨w.heap.size, 1, none⟩ (.int .i64 0))) :=
      ⟨(hp.1.setNew hgs _).setNew hgs _, ((HOFF.out.trans hp.2).setNew (Nat.le_refl _) _ _).setNew (Nat.le_refl _) _ _⟩
    clear hp
    go_wp2
    exact bodyPost_ret (v := .agg #[.int .i64 0, .int .i64 0]) (by simp [results, Tryz.results235, go_sem, k0, k1, k4]) rfl (WinSPost.mk HF1.out HF2.out (by rw [HF3.out]; exact HFIN.out))
  · have HG := Lib.hid hg
    have HF1 := Lib.hid (Sc.tv_got hg (0 : Int) winSLo)
    have HF2 := Lib.hid (Sc.tv_got hg (0 : Int) winSHi)
    have HF3 := Lib.hid (Sc.tk_got hg winSEr)
    obtain ⟨t, ht⟩ : ∃ t, s.text = t := ⟨_, rfl⟩
    have hsz := text_size hts
    rw [ht] at HF1 HF2 HF3 hsz
    have HT := Lib.hid ht
    have HSZ := Lib.hid hsz
    clear hg ht hts hsz
    go_enter Tryz.func235, Tryz.ntmps235
    go_wp2_with fail
    refine (take_any s g _ H.out).mono ?_
    rintro e w1 ⟨rfl, hp⟩
    rw [HG.out, HT.out]
    have HP := Lib.hid hp
    have E1 : Env w1 := ((E.alloc _).alloc _).of_below (hp.2.below (Below.refl 12 _) hg0 ((E.alloc _).alloc _).size) (Nat.le_refl _)
    clear hp
    go_wp2_with fail
    refine (parseWindow_any (sb t) _ E1 HSZ.out).mono ?_
    rintro e w2 ⟨rfl, hb2⟩
    rw [bl_sb]
    have HP2 := Lib.hid (HP.out.then_ hb2)
    have z2 : w.heap.size + 2 ≤ w2.heap.size := by have := HP2.out.2.size; simp at this; omega
    obtain ⟨x, hx⟩ : ∃ x, winSLo t = x := ⟨_, rfl⟩
    obtain ⟨y, hy⟩ : ∃ x, winSHi t = x := ⟨_, rfl⟩
    obtain ⟨er, her⟩ : ∃ x, winSEr t = x := ⟨_, rfl⟩
    have hz : er ≠ 0 → x = 0 ∧ y = 0 := by rw [← her, ← hx, ← hy]; exact winS_zero
    rw [hx] at HF1
    rw [hy] at HF2
    rw [her] at HF3
    unfold winSLo at hx
    unfold winSHi at hy
    unfold winSEr at her
    rw [hx, hy, her]
    clear hx hy her
    have Q1 := Lib.hid (HO1.out.off HP2.out.2 (by omega))
    have Q2 := Lib.hid (HO2.out.off HP2.out.2 (by omega))
    obtain ⟨k0, k1, k2, k3, k4⟩ := Q1.out.facts
    obtain ⟨l0, l1, l2, l3, l4⟩ := Q2.out.facts
    have c3 := HP2.out.1.c3
    have hg2 := HP2.out.1.lt
    by_cases h0 : er = 0
    · have e1 : (er != 0) = false := bne_eq_false_iff_eq.2 h0
      have HE : Hid (s.tk winSEr = s.take) := by unfold Hid; rw [HF3.out, h0, Sc.note_zero]
      have HFIN : Hid (ScPost s.take g w (((w2.setCell ⟨w.heap.size, 0, none⟩ (.int .i64 x)).setCell ⟨w.heap.size, 1, none⟩ (.int .i64 y)).alloc (.cells #[.int .i64 x, .int .i64 y] 98))) :=
        ⟨((HP2.out.1.setNew hgs _).setNew hgs _).alloc _, (((HOFF.out.trans HP2.out.2).setNew (Nat.le_refl _) _ _).setNew (Nat.le_refl _) _ _).alloc _⟩
      clear h0 hz hb2
      go_wp2
      exact bodyPost_ret (v := .agg #[.int .i64 x, .int .i64 y]) (by simp [results, Tryz.results235, go_sem, k0, k1, k4]) rfl (WinSPost.mk HF1.out HF2.out (by rw [HE.out]; exact HFIN.out))
    · have e1 : (er != 0) = true := bne_iff_ne.2 h0
      obtain ⟨rfl, rfl⟩ := hz h0
      clear h0 hz hb2
      go_wp2_with fail
      refine (note_any s.take s.take.la er g _ (HP2.out.1.alloc _)).mono ?_
      rintro e w3 ⟨rfl, hp⟩
      have HP3 := Lib.hid hp
      have HO3 : Hid (Off g w2 w3) := ((Off.refl g w2).alloc _).trans hp.2
      clear k0 k1 k2 k3 k4 l0 l1 l2 l3 l4 hp
      obtain ⟨k0, k1, k2, k3, k4⟩ := (Q1.out.off HO3.out (by omega)).facts
      obtain ⟨l0, l1, l2, l3, l4⟩ := (Q2.out.off HO3.out (by omega)).facts
      have HFIN : Hid (ScPost (s.tk winSEr) g w ((w3.setCell ⟨w.heap.size, 0, none⟩ (.int .i64 0)).setCell ⟨w.heap.size, 1, none⟩ (.int .i64 0))) := by
        unfold Hid
        rw [HF3.out]
        exact ⟨(HP3.out.1.setNew hgs _).setNew hgs _, (((HOFF.out.trans HP2.out.2).trans HO3.out).setNew (Nat.le_refl _) _ _).setNew (Nat.le_refl _) _ _⟩
      go_wp2
      exact bodyPost_ret (v := .agg #[.int .i64 0, .int .i64 0]) (by simp [results, Tryz.results235, go_sem, k0, k1, k4]) rfl (WinSPost.mk HF1.out HF2.out HFIN.out)
set_option maxHeartbeats 1000000 in
theorem winS_any (s : Sc) (g : Nat) (w : World) (E : Env w) (hg0 : 12 ≤ g) (hts : s.text.length ≤ 140737488351232) (h : ScP w g s) :
    Calls Tryz.prog 203 #[.pointer (some ⟨g, 0, none⟩)] w (WinSPost s g w) := by
  have H : Hid (ScP (w.alloc (.cells #[.int .i64 0, .int .i64 0] 98)) g s) := h.alloc _
  have O1 : Hid (OwnB (w.alloc (.cells #[.int .i64 0, .int .i64 0] 98)) w.heap.size 0 0 98) := heap_alloc_new w _
  have HOFF : Hid (Off g w (w.alloc (.cells #[.int .i64 0, .int .i64 0] 98))) := (Off.refl g w).alloc _
  have hgs := h.lt
  obtain ⟨x, hx⟩ : ∃ x, s.tv 0 winSLo = x := ⟨_, rfl⟩
  obtain ⟨y, hy⟩ : ∃ x, s.tv 0 winSHi = x := ⟨_, rfl⟩
  have HX := Lib.hid hx
  have HY := Lib.hid hy
  clear h hx hy
  go_enter Tryz.func203, Tryz.ntmps203
  go_wp2_with fail
  refine (takenWin_any s g _ (E.alloc _) hg0 hts H.out).mono ?_
  rintro e w1 ⟨rfl, hp⟩
  rw [HX.out, HY.out]
  obtain ⟨k0, k1, k2, k3, k4⟩ := (O1.out.off hp.2 (by omega)).facts
  have HFIN : Hid (ScPost (s.tk winSEr) g w ((w1.setCell ⟨w.heap.size, 0, none⟩ (.int .i64 x)).setCell ⟨w.heap.size, 1, none⟩ (.int .i64 y))) :=
    ⟨(hp.1.setNew hgs _).setNew hgs _, ((HOFF.out.trans hp.2).setNew (Nat.le_refl _) _ _).setNew (Nat.le_refl _) _ _⟩
  clear hp
  go_wp2
  exact bodyPost_ret (v := .agg #[.int .i64 x, .int .i64 y]) (by simp [results, Tryz.results203, go_sem, k0, k1, k4]) rfl (WinSPost.mk HX.out HY.out HFIN.out)
end Go.Proofs.YtakgcdefbbgdaaaGreatDoor
namespace Go.Proofs.YtakgcdefbbgdaaaGreatDoor
open Go.RowKit
set_option linter.unusedVariables false
set_option linter.unusedSimpArgs false

theorem left_bad {s : Sc} (h : s.bad = true) : (0 : Int) = (s.left : Int) := by unfold Sc.left; rw [if_pos h]; rfl
theorem left_ok {s : Sc} (h : s.bad = false) (h2 : s.nx ≤ s.fs.length) : (s.fs.length : Int) - (s.nx : Int) = (s.left : Int) := by
  unfold Sc.left; rw [if_neg (by rw [h]; decide)]; omega
set_option maxHeartbeats 1000000 in
theorem left_any (s : Sc) (g : Nat) (w : World) (h : ScP w g s) :
    Calls Tryz.prog 159 #[.pointer (some ⟨g, 0, none⟩)] w fun e w' => e = .returned (.int .i64 (s.left : Int)) ∧ Drew w w' := by
  have H := Lib.hid h
  have hgs := h.lt
  obtain ⟨hn, v, hb, hf⟩ := h
  skip
  cases hbad : s.bad
  · have HL := Lib.hid (left_ok hbad hn)
    have HB := Lib.hid hbad
    try rw [hbad] at c7
    obtain ⟨A, c, rfl, hcn, hcm⟩ := fld_le hf
    have k1 : w.cell? ⟨g, 1, none⟩ = some (.slice A s.fs.length c) := blkCell hb 1 rfl
    have k2 : w.cell? ⟨g, 2, none⟩ = some (.int .i64 (s.nx : Int)) := blkCell hb 2 rfl
    obtain ⟨n, hnn⟩ : ∃ n, s.fs.length = n := ⟨_, rfl⟩
    obtain ⟨k, hkk⟩ : ∃ k, s.nx = k := ⟨_, rfl⟩
    rw [hnn] at hn k1 hcn HL
    rw [hkk] at hn k2 HL
    have hki : (k : Int) ≤ (n : Int) := by omega
    clear hnn hkk hb hf hbad hn
    go_enter Tryz.func159, Tryz.ntmps159
    go_wp2_with fail
    refine (failed_any s g _ H.out).mono ?_
    rintro en w1 ⟨rfl, rfl⟩; rw [HB.out]
    go_wp2
    go_quiet (fail)
    go_wp2
    go_ret
    exact ⟨ret_int HL.out, ⟨_, rfl⟩⟩
  · have HL := Lib.hid (left_bad hbad)
    have HB := Lib.hid hbad
    try rw [hbad] at c7
    clear hbad hb hf hn
    go_enter Tryz.func159, Tryz.ntmps159
    go_wp2_with fail
    refine (failed_any s g _ H.out).mono ?_
    rintro en w1 ⟨rfl, rfl⟩; rw [HB.out]
    go_wp2
    go_ret
    exact ⟨ret_int HL.out, Drew.refl _⟩

/-! ### names and numbers -/
def nameSV (m : Int) (t : List UInt8) : List UInt8 := if nameB t m then t else []
def nameSE (m : Int) (t : List UInt8) : Int := if nameB t m then 0 else 5
/-- a box of one number -/
def NBox (w : World) (b : Nat) (x : Int) (T : TypeId) : Prop := w.heap[b]? = some (.cells #[.int .i64 x] T (0, 0))
theorem NBox.cell {w : World} {b : Nat} {x : Int} {T : TypeId} (h : NBox w b x T) : w.cell? ⟨b, 0, none⟩ = some (.int .i64 x) := blkCell h 0 rfl
theorem NBox.off {w w' : World} {g b : Nat} {x : Int} {T : TypeId} (h : NBox w b x T) (ho : Off g w w') (hb : b ≠ g) : NBox w' b x T :=
  (ho.block b (Array.getElem?_eq_some_iff.1 h).1 (by intro e; injection e with e; exact hb e)).trans h
theorem NBox.below {w w' : World} {b : Nat} {x : Int} {T : TypeId} (h : NBox w b x T) (hb : Below w.heap.size w w') : NBox w' b x T :=
  (hb.block b (Array.getElem?_eq_some_iff.1 h).1).trans h
theorem nbox_new (w : World) (x : Int) (T : TypeId) : NBox (w.alloc (.cells #[.int .i64 x] T)) w.heap.size x T := heap_alloc_new w _
def StrSPost (V : List UInt8 → List UInt8) (E : List UInt8 → Int) (s : Sc) (g : Nat) (w : World) (e : Ending) (w' : World) : Prop := e = .returned (.string (sb (s.tv [] V))) ∧ ScPost (s.tk E) g w w'
theorem StrSPost.mk {V : List UInt8 → List UInt8} {E : List UInt8 → Int} {s : Sc} {g : Nat} {w w' : World} {x : List UInt8} (h1 : s.tv [] V = x) (h2 : ScPost (s.tk E) g w w') : StrSPost V E s g w (.returned (.string (sb x))) w' := by
  unfold StrSPost; rw [h1]; exact ⟨rfl, h2⟩
def NamePost (m : Int) (t : ByteArray) (w : World) (e : Ending) (w' : World) : Prop := e = .returned (.tuple #[.string (sb (nameSV m (bl t))), .int .i64 (nameSE m (bl t))]) ∧ w = w'
theorem nameClo_any (t : ByteArray) (m : Int) (b : Nat) (w : World) (ht : t.size ≤ maxLen) (hb : NBox w b m 3) :
    Calls Tryz.prog 149 #[.string t, .pointer (some ⟨b, 0, none⟩)] w (NamePost m t w) := by
  have hc := hb.cell
  have HF : Hid (∀ (x : ByteArray) (k : Int) w', x = sb (nameSV m (bl t)) → k = nameSE m (bl t) → w = w' → NamePost m t w (.returned (.tuple #[.string x, .int .i64 k])) w') := by
    rintro x k w' rfl rfl rfl; exact ⟨rfl, rfl⟩
  clear hb
  cases hn : nameB (bl t) m
  · have HV : Hid ((⟨#[]⟩ : ByteArray) = sb (nameSV m (bl t)) ∧ (5 : Int) = nameSE m (bl t)) := by unfold Hid nameSV nameSE; rw [hn]; exact ⟨rfl, rfl⟩
    have HN := Lib.hid hn
    clear hn
    go_enter Tryz.func149, Tryz.ntmps149
    go_wp2_with fail
    refine (name_any t m _ ht).mono ?_
    rintro e w' ⟨rfl, rfl⟩
    rw [HN.out]
    go_wp2
    go_ret2
    exact HF.out _ _ _ HV.out.1 HV.out.2 rfl
  · have HV : Hid (t = sb (nameSV m (bl t)) ∧ (0 : Int) = nameSE m (bl t)) := by unfold Hid nameSV nameSE; rw [hn]; exact ⟨(sb_bl t).symm, rfl⟩
    have HN := Lib.hid hn
    clear hn
    go_enter Tryz.func149, Tryz.ntmps149
    go_wp2_with fail
    refine (name_any t m _ ht).mono ?_
    rintro e w' ⟨rfl, rfl⟩
    rw [HN.out]
    go_wp2
    go_ret2
    exact HF.out _ _ _ HV.out.1 HV.out.2 rfl
def NumPostW (lo hi : Int) (t : ByteArray) (w : World) (e : Ending) (w' : World) : Prop := NumPost t lo hi w e w'
def numSV (lo hi : Int) (t : List UInt8) : Int := numN lo hi (numSpec t)
def numSE (lo hi : Int) (t : List UInt8) : Int := numE lo hi (numSpec t)
theorem numS_zero {lo hi : Int} {t : List UInt8} (h : numSE lo hi t ≠ 0) : numSV lo hi t = 0 := by
  unfold numSE numE at h; unfold numSV numN
  cases ho : numSpec t with
  | none => rfl
  | some v =>
    rw [ho] at h
    simp only at h ⊢
    by_cases h1 : numIn lo hi v = true
    · rw [if_pos h1] at h; exact absurd rfl h
    · rw [if_neg h1]
theorem nameS_zero {m : Int} {t : List UInt8} (h : nameSE m t ≠ 0) : nameSV m t = [] := by
  unfold nameSE at h; unfold nameSV
  by_cases h1 : nameB t m = true
  · rw [if_pos h1] at h; exact absurd rfl h
  · rw [if_neg h1]
set_option maxRecDepth 100000 in
set_option maxHeartbeats 1000000 in
theorem takenName_any (m : Int) (b : Nat) (s : Sc) (g : Nat) (w : World) (hts : s.text.length ≤ 140737488351232) (hbg : b ≠ g) (hbx : NBox w b m 3) (h : ScP w g s) :
    Calls Tryz.prog 148 #[.pointer (some ⟨g, 0, none⟩), .func (.func 149) #[] #[.pointer (some ⟨b, 0, none⟩)]] w (StrSPost (nameSV m) (nameSE m) s g w) := by
  have H := Lib.hid h
  have HBX := Lib.hid hbx
  clear h hbx
  cases hg : s.got
  · have HG := Lib.hid hg
    have HF1 := Lib.hid (Sc.tv_no hg ([] : List UInt8) (nameSV m))
    have HF2 := Lib.hid (Sc.tk_no hg (nameSE m))
    clear hg
    go_enter Tryz.func148, Tryz.ntmps148
    go_wp2_with fail
    refine (take_any s g _ H.out).mono ?_
    rintro e w1 ⟨rfl, hp⟩
    rw [HG.out]
    have HP := Lib.hid hp
    clear hp
    go_wp2
    go_ret
    exact StrSPost.mk HF1.out (by rw [HF2.out]; exact HP.out)
  · have HG := Lib.hid hg
    have HF1 := Lib.hid (Sc.tv_got hg ([] : List UInt8) (nameSV m))
    have HF2 := Lib.hid (Sc.tk_got hg (nameSE m))
    obtain ⟨t, ht⟩ : ∃ t, s.text = t := ⟨_, rfl⟩
    have hsz := text_size hts
    rw [ht] at HF1 HF2 hsz
    have HT := Lib.hid ht
    have HSZ := Lib.hid hsz
    clear hg ht hts hsz
    go_enter Tryz.func148, Tryz.ntmps148
    go_wp2_with fail
    refine (take_any s g _ H.out).mono ?_
    rintro e w1 ⟨rfl, hp⟩
    rw [HG.out, HT.out]
    have HP := Lib.hid hp
    have HB1 := Lib.hid (HBX.out.off hp.2 hbg)
    clear hp
    go_wp2_with fail
    refine (nameClo_any (sb t) m b _ (by have := HSZ.out; unfold maxLen; omega) HB1.out).mono ?_
    rintro e w2 ⟨rfl, rfl⟩
    rw [bl_sb]
    have c3 := HP.out.1.c3
    obtain ⟨x, hx⟩ : ∃ x, nameSV m t = x := ⟨_, rfl⟩
    obtain ⟨er, her⟩ : ∃ x, nameSE m t = x := ⟨_, rfl⟩
    have hz : er ≠ 0 → x = [] := by rw [← her, ← hx]; exact nameS_zero
    rw [hx] at HF1
    rw [her] at HF2
    rw [hx, her]
    clear hx her
    by_cases h0 : er = 0
    · have e1 : (er != 0) = false := bne_eq_false_iff_eq.2 h0
      have HE : Hid (s.tk (nameSE m) = s.take) := by unfold Hid; rw [HF2.out, h0, Sc.note_zero]
      clear h0 hz
      go_wp2
      go_ret
      exact StrSPost.mk HF1.out (by rw [HE.out]; exact HP.out)
    · have e1 : (er != 0) = true := bne_iff_ne.2 h0
      have HX := Lib.hid (hz h0)
      clear h0 hz
      go_wp2_with fail
      refine (note_any s.take s.take.la er g _ HP.out.1).mono ?_
      rintro e w3 ⟨rfl, hp⟩
      have HP3 := Lib.hid (HP.out.trans hp)
      clear hp
      go_wp2
      go_ret
      exact StrSPost.mk (x := []) (by rw [HF1.out, HX.out]) (by rw [HF2.out]; exact HP3.out)
set_option maxHeartbeats 1000000 in
theorem nameS_any (m : Int) (s : Sc) (g : Nat) (w : World) (hts : s.text.length ≤ 140737488351232) (h : ScP w g s) :
    Calls Tryz.prog 97 #[.pointer (some ⟨g, 0, none⟩), .int .i64 m] w (StrSPost (nameSV m) (nameSE m) s g w) := by
  have hgs := h.lt
  have H : Hid (ScP (w.alloc (.cells #[.int .i64 m] 3)) g s) := h.alloc _
  have HB : Hid (NBox (w.alloc (.cells #[.int .i64 m] 3)) w.heap.size m 3) := nbox_new w m _
  have HO : Hid (Off g w (w.alloc (.cells #[.int .i64 m] 3))) := (Off.refl g w).alloc _
  clear h
  go_enter Tryz.func97, Tryz.ntmps97
  go_wp2_with fail
  refine (takenName_any m _ s g _ hts (by omega) HB.out H.out).mono ?_
  rintro e w1 ⟨rfl, hp⟩
  have HP : Hid (ScPost (s.tk (nameSE m)) g w w1) := ⟨hp.1, HO.out.trans hp.2⟩
  clear hp
  go_wp2
  go_ret
  exact ⟨rfl, HP.out⟩
end Go.Proofs.YtakgcdefbbgdaaaGreatDoor
namespace Go.Proofs.YtakgcdefbbgdaaaGreatDoor
open Go.RowKit
set_option linter.unusedVariables false
set_option linter.unusedSimpArgs false

theorem ficells_drop : ∀ (l : List FldI) (k : Nat), ficells (l.drop k) = (ficells l).drop (k * 2)
  | [], k => by simp [ficells]
  | f :: l, 0 => by simp
  | f :: l, k + 1 => by
    rw [List.drop_succ_cons, ficells_cons, ficells_drop l k, show (k + 1) * 2 = k * 2 + 1 + 1 by omega, List.drop_succ_cons, List.drop_succ_cons]
def Sc.restS (s : Sc) : Sc := if s.left = 0 then s else { s with nx := s.fs.length, la := (fld s.fs s.nx).2 }
def Sc.restV (s : Sc) : List UInt8 := if s.left = 0 then [] else joinL ((s.fs.drop s.nx).map (·.1))
theorem left_pos {s : Sc} (h : s.left ≠ 0) : s.bad = false ∧ s.nx < s.fs.length := by
  unfold Sc.left at h
  cases hb : s.bad
  · rw [hb] at h; refine ⟨rfl, ?_⟩; simp at h; omega
  · rw [hb] at h; exact absurd rfl h
theorem FsR.tx {w : World} {g b o c : Nat} {fs : List FldI} (h : FsR w g (.slice (some ⟨b, o, none⟩) fs.length c) fs) (hg : g ≤ w.heap.size) {k : Nat} (hk : k < fs.length) :
    TxR w (.slice (some ⟨b, o + k * 2, none⟩) (fs.length - k) (c - k)) ((fs.drop k).map (·.1)) := by
  obtain ⟨A, c', hv, hc, hm, hf, hr⟩ := h
  obtain ⟨b', o', rfl, hb, hx⟩ := hr (by omega)
  simp only [Value.slice.injEq, Option.some.injEq, Addr.mk.injEq, true_and, and_true] at hv
  obtain ⟨⟨rfl, rfl⟩, rfl⟩ := hv
  have hl : ((fs.drop k).map (·.1)).length = fs.length - k := by rw [List.length_map, List.length_drop]
  refine ⟨ficells (fs.drop k), ⟨by rw [ficells_len, hl, List.length_drop], _, _, by rw [hl], by rw [hl]; omega, by omega, fun _ => ⟨b, o + k * 2, rfl, by omega, fun j u hu => ?_⟩⟩, fun j hj => ?_⟩
  · rw [ficells_drop, List.getElem?_drop] at hu
    have := hx _ _ hu
    rwa [← Nat.add_assoc] at this
  · rw [hl] at hj
    have := ficells_at (fs.drop k) j (by rw [List.length_drop]; exact hj)
    rw [List.getElem_map]
    exact ⟨this.1, _, this.2⟩
theorem scC_rest {s : Sc} (h : s.left ≠ 0) (v : Value) : ((scC s v).setIfInBounds 2 (.int .i64 (s.fs.length : Int))).setIfInBounds 3 (.int .i64 (fld s.fs s.nx).2) = scC s.restS v := by
  unfold Sc.restS; rw [if_neg h]; rfl
theorem rest_fs (s : Sc) : s.restS.fs = s.fs := by unfold Sc.restS; split <;> rfl
theorem rest_nx {s : Sc} (h : s.left ≠ 0) : s.restS.nx = s.fs.length := by unfold Sc.restS; rw [if_neg h]
def RestPost (s : Sc) (g : Nat) (w : World) (e : Ending) (w' : World) : Prop := e = .returned (.string (sb s.restV)) ∧ ScPost s.restS g w w'
set_option maxRecDepth 100000 in
set_option maxHeartbeats 2000000 in
theorem rest_any (s : Sc) (g : Nat) (w : World) (h : ScP w g s) (hL : s.restV.length ≤ 1100000000) (hN : s.fs.length ≤ 1048576) :
    Calls Tryz.prog 108 #[.pointer (some ⟨g, 0, none⟩)] w (RestPost s g w) := by
  have H := Lib.hid h
  have HNN := Lib.hid hN
  by_cases hl0 : s.left = 0
  · have HV : Hid (s.restV = []) := by unfold Hid Sc.restV; rw [if_pos hl0]
    have HS : Hid (s.restS = s) := by unfold Hid Sc.restS; rw [if_pos hl0]
    have HL := Lib.hid hl0
    clear h hL hN hl0
    go_enter Tryz.func108, Tryz.ntmps108
    go_wp2_with fail
    refine (left_any s g _ H.out).mono ?_
    rintro e w1 ⟨rfl, hd⟩
    rw [HL.out]
    have HP : Hid (RestPost s g w (.returned (.string (sb []))) w1) := ⟨by rw [HV.out], by rw [HS.out]; exact ⟨H.out.below hd.below, Off.of_below hd.below⟩⟩
    clear hd
    go_wp2
    go_ret
    exact HP.out
  · obtain ⟨hbad, hlt⟩ := left_pos hl0
    have HV : Hid (s.restV = joinL ((s.fs.drop s.nx).map (·.1))) := by unfold Hid Sc.restV; rw [if_neg hl0]
    have HLJ : Hid ((joinL ((s.fs.drop s.nx).map (·.1))).length ≤ 1100000000) := by unfold Hid; rw [← HV.out]; exact hL
    have hlp : (0 : Int) < (s.left : Int) := by omega
    have hle : ((s.left : Int) == 0) = false := by rw [beq_eq_false_iff_ne]; omega
    have HC := Lib.hid (fun v => scC_rest hl0 v)
    have HRN := Lib.hid (rest_nx hl0)
    have hgs := h.lt
    obtain ⟨hn, v, hb, hf⟩ := h
    obtain ⟨b, o, c, rfl, hbl, hc0, hc1, hsz⟩ := hf.at_ hlt
    have hbn : b ≠ g := Nat.ne_of_lt hbl
    have hbw : b < w.heap.size := Nat.lt_trans hbl hgs
    obtain ⟨A', c', hv', hcn, hcm⟩ := fld_le hf
    simp only [Value.slice.injEq, true_and] at hv'
    obtain ⟨-, rfl⟩ := hv'
    have k1 : w.cell? ⟨g, 1, none⟩ = some (.slice (some ⟨b, o, none⟩) s.fs.length c) := blkCell hb 1 rfl
    have k2 : w.cell? ⟨g, 2, none⟩ = some (.int .i64 (s.nx : Int)) := blkCell hb 2 rfl
    have k3 : w.cell? ⟨g, 3, none⟩ = some (.int .i64 s.la) := blkCell hb 3 rfl
    have f2 := blkFree hb 2
    have f3 := blkFree hb 3
    have HFIN : Hid (∀ w1 w2 : World, Drew w w1 → w2 = ((w1.setCell ⟨g, 2, none⟩ (.int .i64 (s.fs.length : Int))).setCell ⟨g, 3, none⟩ (.int .i64 (fld s.fs s.nx).2)) → ScP w2 g s.restS ∧ Off g w w2 ∧ TxR w2 (.slice (some ⟨b, o + s.nx * 2, none⟩) (s.fs.length - s.nx) (c - s.nx)) ((s.fs.drop s.nx).map (·.1))) := by
      intro w1 w2 hd hw2
      have ho : Off g w w2 := by rw [hw2]; exact ((Off.of_below hd.below).set 2 _).set 3 _
      have hf2 : FsR w2 g (.slice (some ⟨b, o, none⟩) s.fs.length c) s.fs := hf.off hgs ho
      refine ⟨⟨by rw [HRN.out, rest_fs]; exact Nat.le_refl _, _, ?_, by rw [rest_fs]; exact hf2⟩, ho, hf2.tx (Nat.le_trans (Nat.le_of_lt hgs) ho.size) hlt⟩
      have hb1 := (hd.below.block g hgs).trans hb
      rw [hw2, ← HC.out]
      exact blkSet (blkSet hb1 2 _) 3 _
    obtain ⟨n, hnn⟩ : ∃ n, s.fs.length = n := ⟨_, rfl⟩
    obtain ⟨k, hkk⟩ : ∃ k, s.nx = k := ⟨_, rfl⟩
    obtain ⟨co, hco⟩ : ∃ t, (fld s.fs s.nx).2 = t := ⟨_, rfl⟩
    obtain ⟨L, hLL⟩ : ∃ L, (s.fs.drop s.nx).map (·.1) = L := ⟨_, rfl⟩
    have HTL : Hid (L.length ≤ 1048576) := by unfold Hid; rw [← hLL, List.length_map, List.length_drop]; omega
    rw [hLL] at HV HLJ HFIN
    rw [hco] at HFIN hc1
    rw [hkk] at HFIN hlt k2 hc0 hc1
    rw [hnn] at HFIN hlt hcn k1
    obtain ⟨lf, hlf⟩ : ∃ x, (s.left : Int) = x := ⟨_, rfl⟩
    rw [hlf] at hlp hle
    have HLF := Lib.hid hlf
    clear hnn hkk hco hLL hb hf hn hbad hsz hc0 hL hN hl0 hlf
    have hki : (k : Int) < (n : Int) := by omega
    have hk0 : (0 : Int) ≤ (k : Int) := by omega
    have hknat : ((k : Int)).toNat = k := Int.toNat_natCast k
    have hck : ¬ c = k := by omega
    have hkc : k ≤ c := by omega
    go_enter Tryz.func108, Tryz.ntmps108
    go_wp2_with fail
    refine (left_any s g _ H.out).mono ?_
    rintro e w1 ⟨rfl, hd⟩
    rw [HLF.out]
    have HD := Lib.hid hd
    obtain ⟨m, rfl⟩ := hd
    go_wp2
    go_quiet (fail)
    go_wp2_with fail
    have HFX : Hid (∀ (t : ByteArray) w', Hid (bl t = joinL L) → ScPost s.restS g w w' → RestPost s g w (.returned (.string t)) w') := fun t w' h1 h2 => ⟨by rw [HV.out, ← h1.out, sb_bl], h2⟩
    obtain ⟨hsc, hof, htx⟩ := HFIN.out (w.drewN (m + nq)) _ ⟨_, rfl⟩ rfl
    have HSC := Lib.hid hsc
    have HOF := Lib.hid hof
    clear hsc hof
    refine (texts_any _ L _ htx HTL.out HLJ.out).mono ?_
    rintro e w2 ⟨t, rfl, ht, hb2⟩
    have HP : Hid (ScPost s.restS g w w2) := ⟨HSC.out.below hb2, HOF.out.trans (Off.of_below hb2)⟩
    clear hb2 htx
    go_wp2
    go_ret
    exact HFX.out _ _ ht HP.out
end Go.Proofs.YtakgcdefbbgdaaaGreatDoor
namespace Go.Proofs.YtakgcdefbbgdaaaGreatDoor
open Go.RowKit
set_option linter.unusedVariables false
set_option linter.unusedSimpArgs false

/-- a record: its number, its fields -/
abbrev Ln := Int × List FldI
def airW : List (List UInt8) := [[65, 73, 82, 87, 65, 89]]
def viaW : List (List UInt8) := [[86, 73, 65]]
def dirW : List (List UInt8) := [[66, 79, 84, 72], [70, 79, 82, 87, 65, 82, 68], [66, 65, 67, 75, 87, 65, 82, 68]]
/-- the name of an airway's first record -/
def hd1 (x : Ln) : Sc := (scan0 x.1 x.2).tk (wordE airW)
def hd2 (x : Ln) : Sc := (hd1 x).tk (nameSE 8)
def hdNm (x : Ln) : List UInt8 := (hd1 x).tv [] (nameSV 8)
/-- the point of another record -/
def via1 (x : Ln) : Sc := (scan0 x.1 x.2).tk (wordE viaW)
def via2 (x : Ln) : Sc := (via1 x).take
def via3 (x : Ln) : Sc := if refErr (via1 x).text = 0 then via2 x else (via2 x).note (via2 x).la 5
def via4 (x : Ln) : Sc := (via3 x).tk winSEr
def via5 (x : Ln) : Sc := (via4 x).tk (wordE dirW)
def viaS (x : Ln) (last : Bool) : Sc := if last then via3 x else via5 x
def viaDir (x : Ln) : Int := (via4 x).tv (-1) (fun t => wordAt dirW t 0)
def viaP (x : Ln) (last : Bool) : Pt := if last then ⟨(via1 x).text, -200000, 6000000, 0⟩ else ⟨(via1 x).text, (via3 x).tv 0 winSLo, (via3 x).tv 0 winSHi, (viaDir x % 256).toNat⟩
/-- what Take answers: the name, the points, the diagnostic, whether there is one -/
structure TkO where
  nm : List UInt8
  pts : List Pt
  dl : Int
  dc : Int
  de : Int
  bad : Bool
def tkBad (s : Sc) : TkO := ⟨[], [], s.endL, s.endC, s.endE, true⟩
/-- the points of the records from place k on; done: those ahead -/
def ptsGo (nm : List UInt8) (l0 c0 : Int) (done : List Pt) : List Ln → TkO
  | [] => if chkA nm done = 0 then ⟨nm, done, 0, 0, 0, false⟩ else ⟨[], [], l0, c0, chkA nm done, true⟩
  | x :: r => if (viaS x r.isEmpty).endB then tkBad (viaS x r.isEmpty) else ptsGo nm l0 c0 (done ++ [viaP x r.isEmpty]) r
def takeO : List Ln → TkO
  | [] => ⟨[], [], 1, 1, 4, true⟩
  | x :: r => if (hd2 x).endB then tkBad (hd2 x) else ptsGo (hdNm x) x.1 (fld x.2 0).2 [] r
theorem ptsGo_chk (nm : List UInt8) (l0 c0 : Int) : ∀ (r : List Ln) (done : List Pt), (ptsGo nm l0 c0 done r).bad = false → chkA (ptsGo nm l0 c0 done r).nm (ptsGo nm l0 c0 done r).pts = 0
  | [], done, h => by
    unfold ptsGo at h ⊢
    split
    · assumption
    · next h2 => rw [if_neg h2] at h; cases h
  | x :: r, done, h => by
    unfold ptsGo at h ⊢
    split
    · next h2 => rw [if_pos h2] at h; cases h
    · next h2 => rw [if_neg h2] at h; exact ptsGo_chk nm l0 c0 r _ h
theorem takeO_chk (L : List Ln) (h : (takeO L).bad = false) : chkA (takeO L).nm (takeO L).pts = 0 := by
  match L with
  | [] => cases h
  | x :: r =>
    have e : takeO (x :: r) = if (hd2 x).endB then tkBad (hd2 x) else ptsGo (hdNm x) x.1 (fld x.2 0).2 [] r := rfl
    rw [e] at h ⊢
    split
    · next h2 => rw [if_pos h2] at h; cases h
    · next h2 => rw [if_neg h2] at h; exact ptsGo_chk _ _ _ _ _ h
theorem ptsGo_step (nm : List UInt8) (l0 c0 : Int) (done : List Pt) {L : List Ln} {k : Nat} (h : k < L.length) :
    ptsGo nm l0 c0 done (L.drop k) = if (viaS L[k] (decide (L.length ≤ k + 1))).endB then tkBad (viaS L[k] (decide (L.length ≤ k + 1))) else ptsGo nm l0 c0 (done ++ [viaP L[k] (decide (L.length ≤ k + 1))]) (L.drop (k + 1)) := by
  rw [List.drop_eq_getElem_cons h]
  have e : (L.drop (k + 1)).isEmpty = decide (L.length ≤ k + 1) := by
    rw [Bool.eq_iff_iff, List.isEmpty_iff, List.drop_eq_nil_iff, decide_eq_true_iff]
  rw [← e]; rfl
theorem ptsGo_end (nm : List UInt8) (l0 c0 : Int) (done : List Pt) {L : List Ln} {k : Nat} (h : L.length ≤ k) :
    ptsGo nm l0 c0 done (L.drop k) = if chkA nm done = 0 then ⟨nm, done, 0, 0, 0, false⟩ else ⟨[], [], l0, c0, chkA nm done, true⟩ := by
  rw [List.drop_eq_nil_of_le h]; rfl
/-- records whose parts fit -/
def LnOk (x : Ln) : Prop := x.2.length ≤ 5864062014634 ∧ ∀ f ∈ x.2, f.1.length ≤ 140737488351232
/-- records in memory -/
def LnsR (w : World) (v : Value) (L : List Ln) : Prop :=
  ∃ A c, v = .slice A L.length c ∧ L.length ≤ c ∧ c ≤ maxLen ∧ (∀ x ∈ L, LnOk x) ∧ (0 < L.length → ∃ g o, A = some ⟨g, o, none⟩ ∧ g < w.heap.size ∧
    ∀ k (h : k < L.length), ∃ fv, w.cell? ⟨g, o + k * 2, none⟩ = some (.int .i64 L[k].1) ∧ w.cell? ⟨g, o + k * 2 + 1, none⟩ = some fv ∧ FsR w w.heap.size fv L[k].2)
theorem FsR.grow' {w w' : World} {v : Value} {fs : List FldI} (h : FsR w w.heap.size v fs) (hb : Below w.heap.size w w') : FsR w' w'.heap.size v fs :=
  (h.keep fun k hk => hb.block k hk).mono hb.size
theorem LnsR.below {w w' : World} {v : Value} {L : List Ln} (h : LnsR w v L) (hb : Below w.heap.size w w') : LnsR w' v L := by
  obtain ⟨A, c, hv, hc, hm, hk, hr⟩ := h
  refine ⟨A, c, hv, hc, hm, hk, fun h0 => ?_⟩
  obtain ⟨g, o, hA, hg, hx⟩ := hr h0
  refine ⟨g, o, hA, Nat.lt_of_lt_of_le hg hb.size, fun k hk => ?_⟩
  obtain ⟨fv, h1, h2, h3⟩ := hx k hk
  exact ⟨fv, (hb.cell (p := ⟨g, o + k * 2, none⟩) hg).trans h1, (hb.cell (p := ⟨g, o + k * 2 + 1, none⟩) hg).trans h2, h3.grow' hb⟩
theorem LnsR.form {w : World} {v : Value} {L : List Ln} (h : LnsR w v L) : ∃ A c, v = .slice A L.length c ∧ L.length ≤ c ∧ c ≤ maxLen := by
  obtain ⟨A, c, hv, hc, hm, _⟩ := h; exact ⟨A, c, hv, hc, hm⟩
theorem LnsR.at_ {w : World} {v : Value} {L : List Ln} (h : LnsR w v L) {k : Nat} (hk : k < L.length) :
    ∃ g o c fv, v = .slice (some ⟨g, o, none⟩) L.length c ∧ g < w.heap.size ∧ w.cell? ⟨g, o + k * 2, none⟩ = some (.int .i64 L[k].1) ∧ w.cell? ⟨g, o + k * 2 + 1, none⟩ = some fv ∧ FsR w w.heap.size fv L[k].2 ∧ LnOk L[k] := by
  obtain ⟨A, c, hv, hc, hm, hok, hr⟩ := h
  obtain ⟨g, o, rfl, hg, hx⟩ := hr (by omega)
  obtain ⟨fv, h1, h2, h3⟩ := hx k hk
  exact ⟨g, o, c, fv, hv, hg, h1, h2, h3, hok _ (List.getElem_mem hk)⟩
theorem LnOk.text {s : Sc} (h : ∀ f ∈ s.fs, f.1.length ≤ 140737488351232) : s.text.length ≤ 140737488351232 := by
  unfold Sc.text
  split
  · unfold fld
    rcases Nat.lt_or_ge s.nx s.fs.length with h1 | h1
    · rw [List.getD_eq_getElem?_getD, List.getElem?_eq_getElem h1]
      simp only [Option.getD_some]; exact h _ (List.getElem_mem h1)
    · rw [List.getD_eq_getElem?_getD, List.getElem?_eq_none h1]; simp
  · simp
theorem tk_fsT (s : Sc) (er : List UInt8 → Int) : (s.tk er).fs = s.fs := by
  unfold Sc.tk; split
  · rw [Sc.note_fs, Sc.take_fs]
  · rw [Sc.take_fs]
theorem via1_fs (x : Ln) : (via1 x).fs = x.2 := by unfold via1; rw [tk_fsT]; rfl
theorem via2_fs (x : Ln) : (via2 x).fs = x.2 := by unfold via2; rw [Sc.take_fs, via1_fs]
theorem via3_fs (x : Ln) : (via3 x).fs = x.2 := by unfold via3; split
                                                   · exact via2_fs x
                                                   · rw [Sc.note_fs, via2_fs]
theorem via4_fs (x : Ln) : (via4 x).fs = x.2 := by unfold via4; rw [tk_fsT, via3_fs]
theorem hd1_fs (x : Ln) : (hd1 x).fs = x.2 := by unfold hd1; rw [tk_fsT]; rfl
end Go.Proofs.YtakgcdefbbgdaaaGreatDoor
