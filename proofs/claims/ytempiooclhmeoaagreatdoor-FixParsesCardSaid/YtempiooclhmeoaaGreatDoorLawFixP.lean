/-
  The walk of the law FixParses.
-/
import Derived.Test.YtempiooclhmeoaaGreatDoorFixB
namespace Go.Proofs.YtempiooclhmeoaaGreatDoor
open Go.RowKit
set_option linter.unusedVariables false
set_option linter.unusedSimpArgs false

/-! ### a fix that is taken without a diagnostic is valid -/
theorem note_ok {s : Sc} {c e : Int} (h : (s.note c e).de = 0) : s.de = 0 ∧ e = 0 := by
  by_cases hb : s.bad = true
  · rw [Sc.note_bad hb] at h
    exact absurd h (Sc.bad_iff.1 hb)
  · have hb' : s.bad = false := by simpa using hb
    by_cases he : e = 0
    · subst he; rw [Sc.note_zero] at h; exact ⟨h, rfl⟩
    · rw [Sc.note_set hb' c he] at h; exact absurd h he
theorem take_ok {s : Sc} (h : s.take.de = 0) : s.got = true := by
  cases hg : s.got
  · rcases Sc.got_no hg with hb | ⟨hb, hl⟩
    · rw [Sc.take_bad hb] at h; exact absurd h (Sc.bad_iff.1 hb)
    · rw [Sc.take_end hb hl] at h; exact absurd h (show ¬ ((4 : Int) = 0) by decide)
  · rfl
theorem tk_ok {s : Sc} {er : List UInt8 → Int} (h : (s.tk er).de = 0) : s.got = true ∧ er s.text = 0 ∧ s.de = 0 := by
  cases hg : s.got
  · rw [Sc.tk_no hg] at h
    have := take_ok h
    rw [hg] at this; cases this
  · rw [Sc.tk_got hg] at h
    exact ⟨rfl, (note_ok h).2, (Sc.got_iff.1 hg).1⟩
theorem tkNm_ok {s : Sc} {er : List UInt8 → Int} (h : (tkNm s er).de = 0) : s.got = true ∧ er s.text = 0 ∧ s.de = 0 := by
  unfold tkNm at h
  have h1 := note_ok h
  have hg := take_ok h1.1
  exact ⟨hg, h1.2, (Sc.got_iff.1 hg).1⟩
theorem posP_ok {l : List UInt8} (h : posPErr l = 0) : posB (posPLat l) (posPLon l) = true := by
  have h0 := h
  unfold posPErr at h
  split at h
  · split at h
    · rename_i h1
      have h2 := h
      unfold latPErr at h1
      unfold lonPErr at h2
      have e1 : posPLat l = sgnV (l.take 9) 83 2 := by
        unfold posPLat; rw [if_pos h0]; unfold latPV latPErr; rw [if_pos h1]
      have e2 : posPLon l = sgnV (l.drop 9) 87 3 := by
        unfold posPLon; rw [if_pos h0]; unfold lonPV; rw [if_pos h]
      rw [e1, e2]
      unfold posB
      rw [Bool.and_eq_true]
      constructor
      · split at h1
        · split at h1
          · assumption
          · cases h1
        · cases h1
      · split at h2
        · split at h2
          · assumption
          · cases h2
        · cases h2
    · rename_i h1; exact absurd h h1
  · cases h
theorem pAlt_ok {o : Option Int} (h : pAltE o = 0) : -200000 ≤ pAltN o ∧ pAltN o ≤ 6000000 := by
  unfold pAltE at h
  unfold pAltN
  split at h
  · split at h
    · rename_i h2
      simp only [h2, if_true]
      unfold rangedB at h2
      simp only [Bool.and_eq_true, decide_eq_true_eq] at h2
      omega
    · cases h
  · cases h
theorem distN_ok {o : Option Int} (h : distE o = 0) : distN o ≤ 8000000 := by
  unfold distE at h
  unfold distN
  split at h
  · split at h
    · rename_i h2; simp only [if_pos h2]; exact h2
    · cases h
  · cases h
theorem word_ok {s : Sc} (h : s.got = true) (h2 : wordE kindWords s.text = 0) : 1 ≤ tkKd s := by
  have h3 := tkKd_eq s
  rw [Sc.tv_got h] at h3
  unfold wordE at h2
  split at h2
  · cases h2
  · rename_i h4
    have := wordAt_bd kindWords s.text 0
    omega
/-- a fix that is taken is valid -/
theorem take_valid {s : Sc} (h : (tk6 s).de = 0) : fixE (tkFx s) = 0 := by
  obtain ⟨h5, hra⟩ : (tk5 s).de = 0 ∧ raE (tkKd s) (raV (tk5 s) (tkKd s)) = 0 := by
    unfold tk6 tkRa at h
    cases hn : navB (tkKd s)
    · rw [hn] at h
      refine ⟨h, ?_⟩
      unfold raE raV; rw [hn]; rfl
    · rw [hn, if_pos rfl] at h
      by_cases hz : raV (tk5 s) (tkKd s) = 0
      · rw [if_pos hz] at h
        exact absurd (note_ok h).2 (by decide)
      · rw [if_neg hz] at h
        unfold tkDs at h
        have h2 := tk_ok h
        refine ⟨h2.2.2, ?_⟩
        have h0 := raV_nonneg (tk5 s) (tkKd s)
        have h8 : raV (tk5 s) (tkKd s) ≤ 8000000 := by
          unfold raV; rw [hn, if_pos rfl, Sc.tv_got h2.1]; exact distN_ok h2.2.1
        unfold raE; rw [hn, if_pos rfl, if_neg (by omega)]
  obtain ⟨h4, hel⟩ : (tk4 s).de = 0 ∧ elE (tkKd s) (elV (tk4 s) (tkKd s)) = 0 := by
    unfold tk5 tkEl at h5
    cases he : elevB (tkKd s)
    · rw [he] at h5
      refine ⟨h5, ?_⟩
      unfold elE elV; rw [he]; rfl
    · rw [he, if_pos rfl] at h5
      have h2 := tk_ok h5
      refine ⟨h2.2.2, ?_⟩
      have h8 := pAlt_ok h2.2.1
      unfold elE elV; rw [he, if_pos rfl, if_pos rfl, Sc.tv_got h2.1, if_neg (by omega)]
  unfold tk4 at h4
  have hp := tk_ok h4
  unfold tk3 at hp
  have h3 := hp.2.2
  have hl := tkNm_ok h3
  have h2 := hl.2.2
  unfold tk2 at h2
  have hi := tkNm_ok h2
  have h1 := hi.2.2
  have hw := tk_ok h1
  have hk1 := word_ok hw.1 hw.2.1
  have hk6 := (tkKd_eq s).2
  have hpos : posB ((tk3 s).tv 0 posPLat) ((tk3 s).tv 0 posPLon) = true := by
    unfold tk3
    rw [Sc.tv_got hp.1, Sc.tv_got hp.1]
    exact posP_ok hp.2.1
  have hid : identE (s.tk (wordE kindWords)).text (tkKd s) = 0 := hi.2.1
  have hrg : locE (tk2 s).text (tkKd s) = 0 := hl.2.1
  rw [fixE_rest (f := tkFx s) (by show ¬ (tkKd s < 1 ∨ 6 < tkKd s); omega) hid hrg hpos]
  show (if elE (tkKd s) (elV (tk4 s) (tkKd s)) ≠ 0 then _ else raE (tkKd s) (raV (tk5 s) (tkKd s))) = 0
  rw [if_neg (by simp [hel])]
  exact hra
theorem end_de {s : Sc} (h : s.endE = 0) : s.de = 0 := by
  unfold Sc.endE Sc.bad at h
  split at h
  · exact h
  · rename_i h2; simpa using h2
theorem splitErr_vals (l : List UInt8) : splitErr l = 0 ∨ splitErr l = 3 ∨ splitErr l = 4 := by
  unfold splitErr; split
  · exact .inr (.inl rfl)
  · split
    · exact .inl rfl
    · exact .inr (.inr rfl)
theorem parse_valid {l : List UInt8} (h : paE l = 0) : fixE (paF l) = 0 := by
  unfold paE at h
  split at h
  · rename_i h0
    unfold paF; rw [if_pos h0]
    have hb : (tk6 (paS l)).endB = false := by
      cases hb : (tk6 (paS l)).endB
      · rfl
      · exact absurd h (endB_E.1 hb)
    unfold tkOut; rw [if_neg (by rw [hb]; decide)]
    exact take_valid (end_de h)
  · rename_i h0; exact absurd h h0
theorem paF_len (l : List UInt8) : (paE l = 0 → (paF l).id.length ≤ 6 ∧ (paF l).rg.length ≤ 6) := by
  intro h
  have := fixE_ok (parse_valid h)
  exact ⟨identE_len this.2.1, locE_len this.2.2.1⟩
set_option maxRecDepth 100000 in
set_option maxHeartbeats 2000000 in
theorem fixParses_walk (s : ByteArray) (w : World) (E : Env w) (hs : s.size ≤ maxLen) :
    Calls Tryz.prog 6 #[.string s] w fun e w' => e = .returned (.bool true) ∧ Below w.heap.size w w' := by
  have hs' := hs
  unfold maxLen at hs
  have hsz : Hid ((s.extract 0 (min (s.size : Int) 250).toNat).size ≤ maxLen) := by
    unfold Hid maxLen; rw [ByteArray.size_extract]; omega
  clear hs'
  go_enter Tryz.func6, Tryz.ntmps6
  go_wp2_with fail
  refine (awakeF_any _ E).mono ?_
  rintro e w1 ⟨rfl, hb1⟩
  have HB1 := Lib.hid hb1
  have E1 := E.below hb1
  clear hb1
  go_wp2_with fail
  refine (parseF_any _ _ E1 hsz.out).mono ?_
  rintro e w2 ⟨rfl, hb2⟩
  obtain ⟨l, hl⟩ : ∃ l, bl (s.extract 0 (min (s.size : Int) 250).toNat) = l := ⟨_, rfl⟩
  have HL := Lib.hid hl
  rw [hl]
  clear hl
  have HV := Lib.hid (parse_valid (l := l))
  have HLN := Lib.hid (paF_len l)
  obtain ⟨F, hF⟩ : ∃ F, paF l = F := ⟨_, rfl⟩
  obtain ⟨er, her⟩ : ∃ x, paE l = x := ⟨_, rfl⟩
  rw [hF, her] at HV HLN ⊢
  have HF := Lib.hid hF
  have HER := Lib.hid her
  have HB2 := Lib.hid (Below.then_ HB1.out hb2)
  have HB2' : Hid (Below w2.heap.size w2 (w2.alloc (.cells #[.string (sb F.id), .string (sb F.rg), .int .u8 (F.kd : Int), .int .i64 F.lat, .int .i64 F.lon, .int .i64 F.el, .int .i64 F.ra] 26))) := (Below.refl _ _).alloc (Nat.le_refl _) _
  have E2 : Env (w2.alloc (.cells #[.string (sb F.id), .string (sb F.rg), .int .u8 (F.kd : Int), .int .i64 F.lat, .int .i64 F.lon, .int .i64 F.el, .int .i64 F.ra] 26)) := (E.below HB2.out).alloc _
  have G2 := Lib.hid (fxBox_new w2 F)
  clear hb2 hF her
  go_wp2_with fail
  refine (rparseF_any _ _ E2 hsz.out).mono ?_
  rintro e w3 ⟨rfl, hb3⟩
  rw [HL.out, HF.out, HER.out]
  have G3 := Lib.hid (G2.out.below hb3)
  have HB3 := Lib.hid (Below.then_ (Below.then_ HB2.out HB2'.out) hb3)
  have K3 : Hid (Below w3.heap.size w3 (w3.alloc (.cells #[.string (sb F.id), .string (sb F.rg), .int .u8 (F.kd : Int), .int .i64 F.lat, .int .i64 F.lon, .int .i64 F.el, .int .i64 F.ra] 26))) := (Below.refl _ _).alloc (Nat.le_refl _) _
  obtain ⟨c0, c1, c2, c3, c4, c5, c6⟩ := G3.out.cells
  have hl3 := lt_heap G3.out
  clear hb3
  by_cases h0 : er = 0
  · have e1 : (er != 0) = false := bne_eq_false_iff_eq.2 h0
    have e2 : (er != er) = false := by simp
    have HOK := Lib.hid (HV.out h0)
    have hlen := HLN.out h0
    have HI : Hid (F.id.length ≤ maxLen) := by unfold Hid maxLen; have := hlen.1; omega
    have HR : Hid (F.rg.length ≤ maxLen) := by unfold Hid maxLen; have := hlen.2; omega
    clear h0 hlen
    go_wp2_with fail
    refine (check_any F _ HI.out HR.out).mono ?_
    rintro e w4 ⟨rfl, hb4⟩
    rw [HOK.out]
    have HB4 := Lib.hid (Below.then_ (Below.then_ HB3.out K3.out) hb4)
    clear hb4
    go_wp2
    go_ret
    exact ⟨rfl, HB4.out⟩
  · have e1 : (er != 0) = true := bne_iff_ne.2 h0
    have e2 : (er != er) = false := by simp
    have HB4 := Lib.hid (Below.then_ HB3.out K3.out)
    clear h0
    go_wp2
    go_ret
    exact ⟨rfl, HB4.out⟩
end Go.Proofs.YtempiooclhmeoaaGreatDoor
