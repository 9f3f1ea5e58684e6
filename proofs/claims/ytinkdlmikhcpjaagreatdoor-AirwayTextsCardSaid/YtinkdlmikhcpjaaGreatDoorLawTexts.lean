/-
  The walk of the law AirwayTexts.
-/
import Derived.Test.YtinkdlmikhcpjaaGreatDoorAwParse
import Derived.Test.YtinkdlmikhcpjaaGreatDoorAwTextR
import Derived.Test.YtinkdlmikhcpjaaGreatDoorLawTakes
namespace Go.Proofs.YtinkdlmikhcpjaaGreatDoor
open Go.RowKit
set_option linter.unusedVariables false
set_option linter.unusedSimpArgs false

set_option maxHeartbeats 1000000 in
theorem diags3_same (va vb : Value) (l : List (Int × Int × Int)) (w : World) (ha : DiR w va l) (hb : DiR w vb l) :
    Calls Tryz.prog 26 #[va, vb] w fun e w' => e = .returned (.bool true) ∧ Drew w w' := by
  obtain ⟨A, c, rfl, hc, hm⟩ := ha.form
  obtain ⟨A', c', rfl, hc', hm'⟩ := hb.form
  obtain ⟨n, hn⟩ : ∃ n, l.length = n := ⟨_, rfl⟩
  have HN := Lib.hid hn
  have HA := Lib.hid ha
  have HB := Lib.hid hb
  clear ha hb
  rw [hn] at hc hc' ⊢
  clear hn
  unfold maxLen at hm hm'
  go_enter Tryz.func26, Tryz.ntmps26
  go_wp2
  go_loopw [13] (fun i wr => ∃ k : Nat, k ≤ n ∧ i = .int .i64 k ∧ Drew w wr) (fun i _ => n - (intOf i).toNat)
  case atStart => exact ⟨0, Nat.zero_le _, rfl, Drew.refl _⟩
  case round =>
    obtain ⟨k, hk, rfl, hbr⟩ := hrel
    by_cases hlt : k < n
    · obtain ⟨g, o, c1, hv, y1, y2, y3⟩ := (HA.out.below hbr.below).at_ (k := k) (by rw [HN.out]; exact hlt)
      obtain ⟨g', o', c1', hv', y1', y2', y3'⟩ := (HB.out.below hbr.below).at_ (k := k) (by rw [HN.out]; exact hlt)
      injection hv with hA _ hC
      injection hv' with hA' _ hC'
      subst hA hA' hC hC'
      have hki : (k : Int) < (n : Int) := by omega
      go_wp2
      go_quiet (fail)
      go_wp2
      go_roundw
      case rel => exact ⟨k + 1, hlt, by go_num, hbr.more _⟩
      case measure => simp [intOf]; omega
    · go_wp2
      go_ret
      exact ⟨rfl, hbr⟩
/-- an airway in a box, its points with it -/
structure AwBx (w0 : World) (b : Nat) (nm : List UInt8) (pv : Value) (pts : List Pt) (w : World) : Prop where
  bx : AwB w b nm pv
  pt : PtsR w pv pts
  be : Below w0.heap.size w0 w
theorem AwBx.then_ {w0 w w' : World} {b : Nat} {nm : List UInt8} {pv : Value} {pts : List Pt} (h : AwBx w0 b nm pv pts w) (hb : Below w.heap.size w w') : AwBx w0 b nm pv pts w' :=
  ⟨(hb.block _ (heap_lt2 h.bx)).trans h.bx, h.pt.below hb, Below.then_ h.be hb⟩
theorem awBx_new {w0 w : World} {nm : List UInt8} {pv : Value} {pts : List Pt} (hp : PtsR w pv pts) (hb : Below w0.heap.size w0 w) : AwBx w0 w.heap.size nm pv pts (w.alloc (.cells #[.string (sb nm), pv] 36)) :=
  ⟨heap_alloc_new w _, hp.below ((Below.refl _ _).alloc (Nat.le_refl _) _), Below.then_ hb ((Below.refl _ _).alloc (Nat.le_refl _) _)⟩
set_option maxRecDepth 100000 in
set_option maxHeartbeats 8000000 in
/-- the last part of the law: any text is read as the reference reads it -/
theorem airwayTexts_walk (nm s : ByteArray) (pv : Value) (l : List Pt) (w : World) (E : Env w) (h : PtsR w pv l) (hnm : nm.size ≤ maxLen) (hs : s.size ≤ maxLen) :
    Calls Tryz.prog 7 #[.agg #[.string nm, pv], .string s] w fun e w' => e = .returned (.bool true) ∧ Below w.heap.size w w' := by
  obtain ⟨nl, rfl⟩ : ∃ nl, nm = sb nl := ⟨bl nm, (sb_bl nm).symm⟩
  have Q0 := Lib.hid (awBx_new (nm := nl) h (Below.refl _ _))
  obtain ⟨A, c, rfl, _, _⟩ := h.form
  have HNM := Lib.hid hnm
  have HSS := Lib.hid hs
  have E0 := E.alloc (.cells #[.string (sb nl), .slice A l.length c] 36)
  obtain ⟨n, hnn⟩ : ∃ n, l.length = n := ⟨_, rfl⟩
  rw [hnn] at Q0 E0 ⊢
  clear h hnm hs hnn
  go_enter Tryz.func7, Tryz.ntmps7
  go_wp2_with fail
  refine (awake_any _ E0).mono ?_
  rintro e w1 ⟨rfl, hb1⟩
  have Q1 := Lib.hid (Q0.out.then_ hb1)
  have E1 := E.below Q1.out.be
  obtain ⟨b0, b1, bl1⟩ := Q1.out.bx.cells
  clear hb1 Q0
  go_wp2_with fail
  refine (text_any (sb nl) _ l _ E1 Q1.out.pt HNM.out).mono ?_
  rintro e w2 ⟨t, rfl, ht, hb2⟩
  have Q2 := Lib.hid (Q1.out.then_ hb2)
  have E2 := E.below Q2.out.be
  clear hb2 b0 b1 bl1 Q1
  obtain ⟨b0, b1, bl1⟩ := Q2.out.bx.cells
  go_wp2_with fail
  refine (rtext15_any (sb nl) _ l _ E2 Q2.out.pt HNM.out).mono ?_
  rintro e w3 ⟨t', rfl, ht', hb3⟩
  obtain rfl : t' = t := bl_inj (by rw [ht'.out, ht.out])
  have Q3 := Lib.hid (Q2.out.then_ hb3)
  have E3 := E.below Q3.out.be
  clear hb3 b0 b1 bl1 Q2 ht'
  obtain ⟨b0, b1, bl1⟩ := Q3.out.bx.cells
  rw [bl_sb] at ht
  have HBK := Lib.hid (parse_back (nm := nl) (l := l))
  have HTL := Lib.hid (awText_len (nm := nl) (l := l))
  obtain ⟨er, her⟩ : ∃ x, chkA (bl (sb nl)) l = x := ⟨_, rfl⟩
  have HER : Hid (chkA nl l = er) := her
  rw [her]
  have q1 : (er != er) = false := by simp
  clear her
  go_upto_if 36 with (fail)
  go_cut [37] (fun _ wx => Hid (AwBx w w.heap.size nl (.slice A n c) l wx))
  case first =>
    by_cases h0 : er = 0
    · have e1 : (er == 0) = true := by rw [h0]; rfl
      have HK := Lib.hid (HBK.out (HER.out.trans h0))
      have HTX : Hid (txOut nl l = awText nl l) := by unfold Hid txOut; rw [if_pos (HER.out.trans h0)]
      have HTS : Hid (t'.size ≤ maxLen) := by
        have := HTL.out (HER.out.trans h0)
        unfold Hid; rw [← bl_len, ht.out, HTX.out]; unfold maxLen; omega
      clear h0
      go_wp2_with fail
      refine (parse15_any t' _ E3 HTS.out).mono ?_
      rintro e w4 ⟨pw, dw, rfl, hpw, hdw, hb4⟩
      rw [ht.out, HTX.out, HK.out.2.1] at hpw
      rw [ht.out, HTX.out, HK.out.2.2] at hdw
      rw [ht.out, HTX.out, HK.out.1]
      have Q4 := Lib.hid (Q3.out.then_ hb4)
      have R4 := Lib.hid (awBx_new (nm := nl) hpw Q4.out.be)
      have K4 : Hid (Below w4.heap.size w4 (w4.alloc (.cells #[.string (sb nl), pw] 36))) := (Below.refl _ _).alloc (Nat.le_refl _) _
      have Q5 := Lib.hid (Q4.out.then_ K4.out)
      obtain ⟨Ad, cd, hdf, _, _⟩ := hdw.form
      subst hdf
      obtain ⟨Ap, cp, hpf, _, _⟩ := hpw.form
      subst hpf
      clear hb4 hpw hdw b0 b1 bl1 K4
      obtain ⟨b0, b1, bl1⟩ := Q4.out.bx.cells
      go_wp2_with fail
      refine (points_same _ _ l _ R4.out.pt Q5.out.pt).mono ?_
      rintro e w5 ⟨rfl, hd⟩
      have Q6 := Lib.hid (Q5.out.then_ hd.below)
      clear hd
      go_wp2
      go_meet
      exact Q6
    · have e1 : (er == 0) = false := beq_eq_false_iff_ne.2 h0
      clear h0
      go_wp2
      go_meet
      exact Q3
  case rest =>
    have Q4 := hcut
    have E4 := E.below Q4.out.be
    clear hcut Q3 b0 b1 bl1
    go_wp2_with fail
    refine (parse15_any s _ E4 HSS.out).mono ?_
    rintro e w5 ⟨pa, da, rfl, hpa, hda, hb5⟩
    have Q5 := Lib.hid (Q4.out.then_ hb5)
    have R5 := Lib.hid (awBx_new hpa Q5.out.be (nm := paNm (bl s)))
    have D5 := Lib.hid (hda.below ((Below.refl _ _).alloc (Nat.le_refl _) (.cells #[.string (sb (paNm (bl s))), pa] 36)))
    have E5 := E.below R5.out.be
    obtain ⟨Ad, cd, hdf, _, _⟩ := hda.form
    subst hdf
    obtain ⟨Ap, cp, hpf, _, _⟩ := hpa.form
    subst hpf
    clear hb5 hpa hda Q4
    go_wp2_with fail
    refine (rparse15_any s _ E5 HSS.out).mono ?_
    rintro e w6 ⟨pb, db, rfl, hpb, hdb, hb6⟩
    have R6 := Lib.hid (R5.out.then_ hb6)
    have D6 := Lib.hid (D5.out.below hb6)
    have S6 := Lib.hid (awBx_new hpb R6.out.be (nm := paNm (bl s)))
    have K6 : Hid (Below w6.heap.size w6 (w6.alloc (.cells #[.string (sb (paNm (bl s))), pb] 36))) := (Below.refl _ _).alloc (Nat.le_refl _) _
    have R7 := Lib.hid (R6.out.then_ K6.out)
    have D7 := Lib.hid (D6.out.below K6.out)
    have F7 := Lib.hid (hdb.below K6.out)
    obtain ⟨Bd, ce, hdf, _, _⟩ := hdb.form
    subst hdf
    obtain ⟨Bp, cq, hpf, _, _⟩ := hpb.form
    subst hpf
    clear hb6 hpb hdb K6 Q5 R5 D5
    obtain ⟨b0, b1, bl1⟩ := R6.out.bx.cells
    go_wp2_with fail
    refine (points_same _ _ (paPts (bl s)) _ R7.out.pt S6.out.pt).mono ?_
    rintro e w8 ⟨rfl, hd⟩
    have R8 := Lib.hid (R7.out.then_ hd.below)
    have D8 := Lib.hid (D7.out.below hd.below)
    have F8 := Lib.hid (F7.out.below hd.below)
    clear hd R7 D7 F7 S6 R6 D6 b0 b1 bl1
    go_wp2_with fail
    refine (diags3_same _ _ (paDgs (bl s)) _ D8.out F8.out).mono ?_
    rintro e w9 ⟨rfl, hd⟩
    have R9 := Lib.hid (R8.out.then_ hd.below)
    clear hd
    go_wp2
    go_ret
    exact ⟨rfl, R9.out.be⟩
end Go.Proofs.YtinkdlmikhcpjaaGreatDoor
