/-
  The walk of the law FixTakes.
-/
import Derived.Test.YtempiooclhmeoaaGreatDoorFixB
namespace Go.Proofs.YtempiooclhmeoaaGreatDoor
open Go.RowKit
set_option linter.unusedVariables false
set_option linter.unusedSimpArgs false

/-! ### the record's number is of no account -/
structure SimS (s t : Sc) : Prop where
  fs : s.fs = t.fs
  nx : s.nx = t.nx
  la : s.la = t.la
  de : s.de = t.de
theorem SimS.bad {s t : Sc} (h : SimS s t) : s.bad = t.bad := by unfold Sc.bad; rw [h.de]
theorem SimS.got {s t : Sc} (h : SimS s t) : s.got = t.got := by unfold Sc.got; rw [h.bad, h.nx, h.fs]
theorem SimS.text {s t : Sc} (h : SimS s t) : s.text = t.text := by unfold Sc.text; rw [h.got, h.nx, h.fs]
theorem SimS.note {s t : Sc} (h : SimS s t) (c d e : Int) : SimS (s.note c e) (t.note d e) := by
  unfold Sc.note; rw [h.bad]
  split
  · exact h
  · exact ⟨h.fs, h.nx, h.la, rfl⟩
theorem SimS.take {s t : Sc} (h : SimS s t) : SimS s.take t.take := by
  unfold Sc.take
  rw [h.bad]
  split
  · exact h
  · have e1 := h.fs
    have e2 := h.nx
    rw [e1, e2]
    split
    · exact ⟨rfl, rfl, rfl, h.de⟩
    · exact h.note _ _ _
theorem SimS.tk {s t : Sc} (h : SimS s t) (er : List UInt8 → Int) : SimS (s.tk er) (t.tk er) := by
  unfold Sc.tk
  rw [h.got, h.text]
  split
  · exact h.take.note _ _ _
  · exact h.take
theorem SimS.tv {s t : Sc} (h : SimS s t) {α : Type} (z : α) (v : List UInt8 → α) : s.tv z v = t.tv z v := by unfold Sc.tv; rw [h.got, h.text]
theorem SimS.nm {s t : Sc} (h : SimS s t) (er : List UInt8 → Int) : SimS (tkNm s er) (tkNm t er) := by
  unfold tkNm; rw [h.text]; exact h.take.note _ _ _
theorem SimS.kd {s t : Sc} (h : SimS s t) : tkKd s = tkKd t := by unfold tkKd; rw [h.tv]
theorem SimS.el {s t : Sc} (h : SimS s t) (k : Nat) : SimS (tkEl s k) (tkEl t k) := by
  unfold tkEl; split
  · exact h.tk _
  · exact h
theorem SimS.rv {s t : Sc} (h : SimS s t) (k : Nat) : raV s k = raV t k := by unfold raV; rw [h.tv]
theorem SimS.ev {s t : Sc} (h : SimS s t) (k : Nat) : elV s k = elV t k := by unfold elV; rw [h.tv]
theorem SimS.ra {s t : Sc} (h : SimS s t) (k : Nat) : SimS (tkRa s k) (tkRa t k) := by
  unfold tkRa; rw [h.rv]
  split
  · split
    · exact (h.tk _).note _ _ _
    · exact h.tk _
  · exact h
theorem SimS.out {s t : Sc} (h : SimS s t) : tkOut s = tkOut t ∧ (tk6 s).endE = (tk6 t).endE := by
  have hk := h.kd
  have h1 := h.tk (wordE kindWords)
  have h2 : SimS (tk2 s) (tk2 t) := by unfold tk2; rw [hk]; exact h1.nm _
  have h3 : SimS (tk3 s) (tk3 t) := by unfold tk3; rw [hk]; exact h2.nm _
  have h4 : SimS (tk4 s) (tk4 t) := by unfold tk4; exact h3.tk _
  have h5 : SimS (tk5 s) (tk5 t) := by unfold tk5; rw [hk]; exact h4.el _
  have h6 : SimS (tk6 s) (tk6 t) := by unfold tk6; rw [hk]; exact h5.ra _
  have hE : (tk6 s).endE = (tk6 t).endE := by unfold Sc.endE; rw [h6.bad, h6.de, h6.nx, h6.fs]
  have hB : (tk6 s).endB = (tk6 t).endB := by unfold Sc.endB; rw [h6.bad, h6.nx, h6.fs]
  have hF : tkFx s = tkFx t := by unfold tkFx; rw [h1.text, h2.text, hk, h3.tv, h3.tv, h4.ev, h5.rv]
  refine ⟨?_, hE⟩
  unfold tkOut; rw [hB, hF]
theorem sim0 (a b : Int) (fs : List FldI) : SimS (scan0 a fs) (scan0 b fs) := ⟨rfl, rfl, rfl, rfl⟩
/-- a diagnostic in a box -/
def DgF (w : World) (b : Nat) (x y z : Int) : Prop := w.heap[b]? = some (.cells #[.int .i64 x, .int .i64 y, .int .i64 z] 46 (0, 0))
theorem DgF.below {w w' : World} {b : Nat} {x y z : Int} (h : DgF w b x y z) (hb : Below w.heap.size w w') : DgF w' b x y z := (hb.block b (Array.getElem?_eq_some_iff.1 h).1).trans h
theorem DgF.cells {w : World} {b : Nat} {x y z : Int} (h : DgF w b x y z) : w.cell? ⟨b, 0, none⟩ = some (.int .i64 x) ∧ w.cell? ⟨b, 1, none⟩ = some (.int .i64 y) ∧ w.cell? ⟨b, 2, none⟩ = some (.int .i64 z) :=
  ⟨blkCell' h 0 rfl, blkCell' h 1 rfl, blkCell' h 2 rfl⟩
def LnF (w : World) (b : Nat) (n : Int) (v : Value) : Prop := w.heap[b]? = some (.cells #[.int .i64 n, v] 44 (0, 0))
theorem LnF.below {w w' : World} {b : Nat} {n : Int} {v : Value} (h : LnF w b n v) (hb : Below w.heap.size w w') : LnF w' b n v := (hb.block b (Array.getElem?_eq_some_iff.1 h).1).trans h
set_option maxRecDepth 100000 in
set_option maxHeartbeats 4000000 in
theorem fixTakes_walk (s : ByteArray) (num : Int) (w : World) (E : Env w) (hs : s.size ≤ maxLen) :
    Calls Tryz.prog 7 #[.string s, .int .i64 num] w fun e w' => e = .returned (.bool true) ∧ Below w.heap.size w w' := by
  unfold maxLen at hs
  have hsz : Hid ((s.extract 0 (min (s.size : Int) 200).toNat).size ≤ maxLen) := by
    unfold Hid maxLen; rw [ByteArray.size_extract]; omega
  go_enter Tryz.func7, Tryz.ntmps7
  go_wp2_with fail
  refine (awakeF_any _ E).mono ?_
  rintro e w1 ⟨rfl, hb1⟩
  have HB1 := Lib.hid hb1
  have E1 := E.below hb1
  clear hb1
  go_wp2_with fail
  refine (split_any _ _ E1 hsz.out).mono ?_
  rintro e w2 ⟨v, rfl, hr, hb2⟩
  obtain ⟨l, hl⟩ : ∃ l, bl (s.extract 0 (min (s.size : Int) 200).toNat) = l := ⟨_, rfl⟩
  have HL := Lib.hid hl
  rw [hl] at hr ⊢
  have HB2 := Lib.hid (Below.then_ HB1.out hb2)
  have E2 := E.below HB2.out
  have HSM := Lib.hid (splitF_small l)
  obtain ⟨sc, hsc⟩ : ∃ x, splitCol l = x := ⟨_, rfl⟩
  obtain ⟨se, hse⟩ : ∃ x, splitErr l = x := ⟨_, rfl⟩
  rw [hsc, hse]
  have HSE := Lib.hid hse
  have HPE : Hid (se = 0 → paF l = tkOut (paS l) ∧ paE l = (tk6 (paS l)).endE) := by
    intro h; unfold paF paE; rw [if_pos (by rw [hse]; exact h), if_pos (by rw [hse]; exact h)]; exact ⟨rfl, rfl⟩
  obtain ⟨fs, hfs⟩ : ∃ fs, splitF l = fs := ⟨_, rfl⟩
  have HPS : Hid (paS l = scan0 1 (fldI fs)) := by unfold Hid paS; rw [hfs]
  rw [hfs] at hr HSM
  clear hl hsc hse hb2 hfs
  obtain ⟨A, c, rfl, hc, hm⟩ := hr.1.form
  unfold maxLen at hm
  have HFR : Hid (FsR w2 w2.heap.size (.slice A fs.length c) (fldI fs)) := fsr_of hr HSM.out.1
  have HNN : Hid ((fldI fs).length ≤ 1000000000000) := by unfold Hid; rw [fldI_len]; have := HSM.out.2; omega
  have HFL := Lib.hid (fldI_small HSM.out.1 (show 200 ≤ 100000 by omega))
  obtain ⟨n, hn⟩ : ∃ n, fs.length = n := ⟨_, rfl⟩
  rw [hn] at HFR hc ⊢
  clear hr hn
  by_cases h0 : se = 0
  · have e1 : (se != 0) = false := bne_eq_false_iff_eq.2 h0
    have HQ := Lib.hid (HPE.out h0)
    clear h0
    rcases Nat.eq_zero_or_pos n with hn0 | hn0
    · subst hn0
      go_wp2
      go_ret
      exact ⟨rfl, HB2.out⟩
    · have e2 : ((n : Int) == 0) = false := beq_eq_false_iff_ne.2 (by omega)
      clear hn0
      have L2 : Hid (LnF (w2.alloc (.cells #[.int .i64 num, .slice A n c] 44)) w2.heap.size num (.slice A n c)) := heap_alloc_new w2 _
      have HB2' : Hid (Below w2.heap.size w2 (w2.alloc (.cells #[.int .i64 num, .slice A n c] 44))) := (Below.refl _ _).alloc (Nat.le_refl _) _
      have E2' := E2.alloc (.cells #[.int .i64 num, .slice A n c] 44)
      have HFR2 := Lib.hid (HFR.out.grow HB2'.out)
      go_wp2_with fail
      refine (takeF_any num _ (fldI fs) _ E2' HFR2.out HNN.out HFL.out).mono ?_
      rintro e w3 ⟨rfl, hb3⟩
      have HSO := Lib.hid (sim0 num 1 (fldI fs)).out
      obtain ⟨S, hS⟩ : ∃ S, scan0 num (fldI fs) = S := ⟨_, rfl⟩
      have HS := Lib.hid hS
      rw [hS] at HSO ⊢
      rw [← HPS.out, ← HQ.out.1, ← HQ.out.2] at HSO
      obtain ⟨F, hF⟩ : ∃ F, tkOut S = F := ⟨_, rfl⟩
      rw [hF] at HSO ⊢
      obtain ⟨el, hel⟩ : ∃ x, (tk6 S).endL = x := ⟨_, rfl⟩
      obtain ⟨ec, hec⟩ : ∃ x, (tk6 S).endC = x := ⟨_, rfl⟩
      obtain ⟨ee, hee⟩ : ∃ x, (tk6 S).endE = x := ⟨_, rfl⟩
      obtain ⟨eb, heb⟩ : ∃ x, (tk6 S).endB = x := ⟨_, rfl⟩
      rw [hee] at HSO
      rw [hel, hec, hee, heb]
      have HF := Lib.hid hF
      have HEL := Lib.hid hel
      have HEC := Lib.hid hec
      have HEE := Lib.hid hee
      have HEB := Lib.hid heb
      clear hS hF hel hec hee heb
      have HB3 := Lib.hid (Below.then_ (Below.then_ HB2.out HB2'.out) hb3)
      have L3 := Lib.hid (L2.out.below hb3)
      have HFR3 := Lib.hid (HFR2.out.grow hb3)
      clear hb3 HFR2 L2
      -- the boxes of the first answer
      have K3 : Hid (Below w3.heap.size w3 ((w3.alloc (.cells #[.string (sb F.id), .string (sb F.rg), .int .u8 (F.kd : Int), .int .i64 F.lat, .int .i64 F.lon, .int .i64 F.el, .int .i64 F.ra] 26)).alloc (.cells #[.int .i64 el, .int .i64 ec, .int .i64 ee] 46))) := ((Below.refl _ _).alloc (Nat.le_refl _) _).alloc (by simp) _
      have G3 : Hid (FxBox ((w3.alloc (.cells #[.string (sb F.id), .string (sb F.rg), .int .u8 (F.kd : Int), .int .i64 F.lat, .int .i64 F.lon, .int .i64 F.el, .int .i64 F.ra] 26)).alloc (.cells #[.int .i64 el, .int .i64 ec, .int .i64 ee] 46)) w3.heap.size F) := (fxBox_new w3 F).below ((Below.refl _ _).alloc (Nat.le_refl _) _)
      have D3 : Hid (DgF ((w3.alloc (.cells #[.string (sb F.id), .string (sb F.rg), .int .u8 (F.kd : Int), .int .i64 F.lat, .int .i64 F.lon, .int .i64 F.el, .int .i64 F.ra] 26)).alloc (.cells #[.int .i64 el, .int .i64 ec, .int .i64 ee] 46)) (w3.heap.size + 1) el ec ee) := by
        have := heap_alloc_new (w3.alloc (.cells #[.string (sb F.id), .string (sb F.rg), .int .u8 (F.kd : Int), .int .i64 F.lat, .int .i64 F.lon, .int .i64 F.el, .int .i64 F.ra] 26)) (.cells #[.int .i64 el, .int .i64 ec, .int .i64 ee] 46)
        rw [World.size_alloc] at this
        exact this
      have k0 : w3.cell? ⟨w2.heap.size, 0, none⟩ = some (.int .i64 num) := blkCell' L3.out 0 rfl
      have k1 : w3.cell? ⟨w2.heap.size, 1, none⟩ = some (.slice A n c) := blkCell' L3.out 1 rfl
      have kl := lt_heap L3.out
      have E3 := (E.below HB3.out).below K3.out
      have HFR4 := Lib.hid (HFR3.out.grow K3.out)
      go_wp2_with fail
      refine (rtakeF_any num _ (fldI fs) _ E3 HFR4.out HNN.out HFL.out).mono ?_
      rintro e w4 ⟨rfl, hb4⟩
      rw [HS.out, HF.out, HEL.out, HEC.out, HEE.out, HEB.out]
      have G4 := Lib.hid (G3.out.below hb4)
      have D4 := Lib.hid (D3.out.below hb4)
      have HB4 := Lib.hid (Below.then_ (Below.then_ HB3.out K3.out) hb4)
      have K4 : Hid (Below w4.heap.size w4 ((w4.alloc (.cells #[.string (sb F.id), .string (sb F.rg), .int .u8 (F.kd : Int), .int .i64 F.lat, .int .i64 F.lon, .int .i64 F.el, .int .i64 F.ra] 26)).alloc (.cells #[.int .i64 el, .int .i64 ec, .int .i64 ee] 46))) := ((Below.refl _ _).alloc (Nat.le_refl _) _).alloc (by simp) _
      have G5 := Lib.hid (G4.out.below K4.out)
      have D5 := Lib.hid (D4.out.below K4.out)
      have HB5 := Lib.hid (Below.then_ HB4.out K4.out)
      have E5 := E.below HB5.out
      obtain ⟨c0, c1, c2, c3, c4, c5, c6⟩ := G4.out.cells
      obtain ⟨d0, d1, d2⟩ := D4.out.cells
      have g4 := lt_heap G4.out
      have h4 := lt_heap D4.out
      have q1 : (el != el) = false := by simp
      have q2 : (eb != eb) = false := by simp
      clear hb4 k0 k1 kl
      go_wp2_with fail
      refine (parseF_any _ _ E5 hsz.out).mono ?_
      rintro e w5 ⟨rfl, hb5⟩
      rw [HL.out, ← HSO.out.1, ← HSO.out.2]
      have G6 := Lib.hid (G5.out.below hb5)
      have D6 := Lib.hid (D5.out.below hb5)
      have HB6 := Lib.hid (Below.then_ HB5.out hb5)
      clear c0 c1 c2 c3 c4 c5 c6 d0 d1 d2 g4 h4 hb5
      obtain ⟨c0, c1, c2, c3, c4, c5, c6⟩ := G6.out.cells
      obtain ⟨d0, d1, d2⟩ := D6.out.cells
      have g4 := lt_heap G6.out
      have h4 := lt_heap D6.out
      have K6 : Hid (Below w5.heap.size w5 (w5.alloc (.cells #[.string (sb F.id), .string (sb F.rg), .int .u8 (F.kd : Int), .int .i64 F.lat, .int .i64 F.lon, .int .i64 F.el, .int .i64 F.ra] 26))) := (Below.refl _ _).alloc (Nat.le_refl _) _
      have HB7 := Lib.hid (Below.then_ HB6.out K6.out)
      go_wp2
      go_ret
      exact ⟨rfl, HB7.out⟩
  · have e1 : (se != 0) = true := bne_iff_ne.2 h0
    clear h0
    go_wp2
    go_ret
    exact ⟨rfl, HB2.out⟩
end Go.Proofs.YtempiooclhmeoaaGreatDoor
