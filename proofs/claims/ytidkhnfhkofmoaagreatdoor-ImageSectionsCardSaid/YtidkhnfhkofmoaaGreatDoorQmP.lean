/-
  Contract: a procedure of an image, read by the reference.
-/
import Derived.Test.YtidkhnfhkofmoaaGreatDoorMG30
import Derived.Test.YtidkhnfhkofmoaaGreatDoorImB
namespace Go.Proofs.YtidkhnfhkofmoaaGreatDoor
open Go.RowKit
set_option linter.unusedVariables false
set_option linter.unusedSimpArgs false
set_option maxRecDepth 100000 in
set_option maxHeartbeats 16000000 in
theorem qmProc_any {g gb ob c st : Nat} {bs : List UInt8} (s : RS) (w : World) (h : RdQ g gb ob c st bs s w) :
  Calls Tryz.prog 158 #[.pointer (some ⟨g, 0, none⟩)] w fun e w' => (∃ a b k A n c', e = .returned (.agg #[.string a, .string b, .int .u8 k, .slice A n c'])) ∧ RdQTo g gb ob c st bs (prS bs st s) w w' := by
 obtain ⟨ip, hip, hz0, hz1, hz2⟩ := info_parts info_imLsPart
 obtain ⟨il, hil, hy0, hy1, hy2⟩ := info_parts info_imLsLeg
 obtain ⟨w0, hw0⟩ : ∃ W, w.alloc (.cells #[.string ⟨#[]⟩, .string ⟨#[]⟩, .int .u8 0, .slice none 0 0] 85) = W := ⟨_, rfl⟩
 obtain ⟨r, hr⟩ : ∃ x, w.heap.size = x := ⟨_, rfl⟩
 have Q0 : Hid (QS g gb ob c st bs (· = g) w s [(r, #[.string ⟨#[]⟩, .string ⟨#[]⟩, .int .u8 0, .slice none 0 0], 85)] [] w0) := by rw [← hw0, ← hr]; exact (QS.start (S := (· = g)) h rfl).alloc _ _
 have HW0 := Lib.hid hw0
 have HR0 := Lib.hid hr
 clear h hw0 hr
 go_enter Tryz.func158, Tryz.ntmps158
 go_wp2_with fail
 try rw [HW0.out]
 try rw [HR0.out]
 refine (qmText_any (s) _ Q0.out.q).mono ?_
 rintro e w1 ⟨rfl, hr⟩
 have Q1 := Lib.hid (Q0.out.call hr)
 obtain ⟨x1, hx1⟩ : ∃ x, sb (rtxV bs st (s)) = x := ⟨_, rfl⟩
 rw [hx1]
 clear hr Q0 hx1
 obtain ⟨p, hp⟩ : ∃ x, w1.heap.size = x := ⟨_, rfl⟩
 obtain ⟨w2, hw2⟩ : ∃ W, w1.alloc (.cells #[.string x1, .string ⟨#[]⟩, .int .u8 0, .slice none 0 0] 85) = W := ⟨_, rfl⟩
 have Q2 := Q1.out.alloc #[.string x1, .string ⟨#[]⟩, .int .u8 0, .slice none 0 0] 85
 rw [hw2, hp] at Q2
 replace Q2 := Lib.hid Q2
 have HW2 := Lib.hid hw2
 have Hp := Lib.hid hp
 clear hw2 hp Q1
 go_wp2_with fail
 rw [HW2.out, Hp.out]
 clear HW2 Hp
 refine (qmText_any (txS bs st s) _ Q2.out.q).mono ?_
 rintro e w3 ⟨rfl, hr⟩
 have Q3 := Lib.hid (Q2.out.call hr)
 obtain ⟨x2, hx2⟩ : ∃ x, sb (rtxV bs st (txS bs st s)) = x := ⟨_, rfl⟩
 rw [hx2]
 clear hr Q2 hx2
 have kc := Q3.out.x0.cell 1 rfl
 have kf := Q3.out.x0.free 1
 have kl := Q3.out.x0.lt
 have Q4 := Lib.hid (QS.s0_4_1 Q3.out (.string x2))
 clear Q3
 go_wp2_with fail
 clear kc kf kl
 refine (qmByte_any (txS bs st (txS bs st s)) _ Q4.out.q).mono ?_
 rintro e w5 ⟨rfl, hr⟩
 have Q5 := Lib.hid (Q4.out.call hr)
 have hbx3 := (byV bs st (txS bs st (txS bs st s))).toNat_lt
 obtain ⟨x3, hx3⟩ : ∃ x : Nat, (byV bs st (txS bs st (txS bs st s))).toNat = x := ⟨_, rfl⟩
 rw [hx3] at hbx3 ⊢
 have hux3 : IntKind.u8.wrap (x3 : Int) = (x3 : Int) := by rw [IntKind.wrap_u8']; omega
 clear hr Q4 hx3
 have kc := Q5.out.x0.cell 2 rfl
 have kf := Q5.out.x0.free 2
 have kl := Q5.out.x0.lt
 have Q6 := Lib.hid (QS.s0_4_2 Q5.out (.int .u8 (x3 : Int)))
 clear Q5
 obtain ⟨s3, hs3⟩ : ∃ x, tkS st 1 (txS bs st (txS bs st s)) = x := ⟨_, rfl⟩
 rw [hs3] at Q6
 have HS3 := Lib.hid hs3
 clear hs3
 go_wp2_with fail
 clear kc kf kl
 refine (qmTwo_any (s3) _ Q6.out.q).mono ?_
 rintro e w7 ⟨rfl, hr⟩
 have Q7 := Lib.hid (Q6.out.call hr)
 have hln : lsN bs st (s3) < 65536 := lsN_lt
 obtain ⟨n, hn⟩ : ∃ x : Nat, lsN bs st (s3) = x := ⟨_, rfl⟩
 rw [hn] at hln ⊢
 have Hn := Lib.hid hn
 clear hr Q6 hn
 have HF : Hid (prS bs st s = itS (imPaS bs st) n (tkS st 2 s3)) := by
  unfold Hid
  rw [← Hn.out, ← HS3.out]
  rfl
 obtain ⟨fin, hfin⟩ : ∃ x, prS bs st s = x := ⟨_, rfl⟩
 rw [hfin] at HF
 have HFIN := Lib.hid hfin
 have QR := Lib.hid (Q7.out.row 89 3)
 clear Q7 hfin
 go_wp2
 go_loopw [5] (fun iv wr => ∃ (k : Nat) (pv : Value) (ys : List Value) (sk : RS), k ≤ n ∧ iv = .int .i64 (k : Int) ∧ Hid (itS (imPaS bs st) (n - k) sk = fin) ∧ Hid (QS g gb ob c st bs (· = g) w sk [(p, #[.string x1, .string x2, .int .u8 (x3 : Int), pv], 85), (r, #[.string ⟨#[]⟩, .string ⟨#[]⟩, .int .u8 0, .slice none 0 0], 85)] [⟨89, 3, pv, k, ys⟩] wr)) (fun iv _ => n - (intOf iv).toNat)
 case atStart => exact ⟨0, _, _, _, Nat.zero_le _, rfl, HF.out.symm, QR.out⟩
 case round =>
  obtain ⟨k, pv, ys, sk, hk, rfl, hit, hq⟩ := hrel
  obtain ⟨ak, bk⟩ := sk
  obtain ⟨Ap, np, cp, rfl⟩ := own_form hq.out.r0
  have k2 := hq.out.q.bx.cell 2 (u := .bool (!bk)) rfl
  have kgl := hq.out.q.lt
  clear QR HF
  by_cases hgo : k < n ∧ bk = false
  ·obtain ⟨hlt, rfl⟩ := hgo
   have hki : (k : Int) < (n : Int) := by omega
   obtain ⟨wo, rfl⟩ : ∃ W, W = wr := ⟨_, rfl⟩
   go_wp2_with fail
   refine (qmByte_any ((ak, false)) _ hq.out.q).mono ?_
   rintro e w8 ⟨rfl, hr⟩
   have Q8 := Lib.hid (hq.out.call hr)
   have hba := (byV bs st ((ak, false))).toNat_lt
   obtain ⟨a, ha⟩ : ∃ x : Nat, (byV bs st ((ak, false))).toNat = x := ⟨_, rfl⟩
   rw [ha] at hba ⊢
   have hua : IntKind.u8.wrap (a : Int) = (a : Int) := by rw [IntKind.wrap_u8']; omega
   clear hr hq ha
   clear k2 kgl
   obtain ⟨q, hq⟩ : ∃ x, w8.heap.size = x := ⟨_, rfl⟩
   obtain ⟨w9, hw9⟩ : ∃ W, w8.alloc (.cells #[.int .u8 (a : Int), .string ⟨#[]⟩, .slice none 0 0] 89) = W := ⟨_, rfl⟩
   have Q9 := Q8.out.alloc #[.int .u8 (a : Int), .string ⟨#[]⟩, .slice none 0 0] 89
   rw [hw9, hq] at Q9
   replace Q9 := Lib.hid Q9
   have HW9 := Lib.hid hw9
   have Hq := Lib.hid hq
   clear hw9 hq Q8
   go_wp2_with fail
   rw [HW9.out, Hq.out]
   clear HW9 Hq
   refine (qmText_any (tkS st 1 (ak, false)) _ Q9.out.q).mono ?_
   rintro e w10 ⟨rfl, hr⟩
   have Q10 := Lib.hid (Q9.out.call hr)
   obtain ⟨b, hb⟩ : ∃ x, sb (rtxV bs st (tkS st 1 (ak, false))) = x := ⟨_, rfl⟩
   rw [hb]
   clear hr Q9 hb
   have kc := Q10.out.x0.cell 1 rfl
   have kf := Q10.out.x0.free 1
   have kl := Q10.out.x0.lt
   have Q11 := Lib.hid (QS.s0_3_1 Q10.out (.string b))
   clear Q10
   go_wp2_with fail
   clear kc kf kl
   refine (qmTwo_any (txS bs st (tkS st 1 (ak, false))) _ Q11.out.q).mono ?_
   rintro e w12 ⟨rfl, hr⟩
   have Q12 := Lib.hid (Q11.out.call hr)
   have hlm : lsN bs st (txS bs st (tkS st 1 (ak, false))) < 65536 := lsN_lt
   obtain ⟨m, hm⟩ : ∃ x : Nat, lsN bs st (txS bs st (tkS st 1 (ak, false))) = x := ⟨_, rfl⟩
   rw [hm] at hlm ⊢
   have Hm := Lib.hid hm
   clear hr Q11 hm
   have HG : Hid (imPaS bs st (ak, false) = itS (leS bs st) m (tkS st 2 (txS bs st (tkS st 1 (ak, false))))) := by
    unfold Hid
    rw [← Hm.out]
    rfl
   obtain ⟨fi2, hfi2⟩ : ∃ x, imPaS bs st (ak, false) = x := ⟨_, rfl⟩
   rw [hfi2] at HG
   have HFI2 := Lib.hid hfi2
   have QR := Lib.hid (Q12.out.row 92 13)
   clear Q12 hfi2
   go_wp2
   go_loopw [8] (fun jv wr => ∃ (j : Nat) (lv : Value) (zs : List Value) (sj : RS), j ≤ m ∧ jv = .int .i64 (j : Int) ∧ Hid (itS (leS bs st) (m - j) sj = fi2) ∧ Hid (QS g gb ob c st bs (· = g) w sj [(q, #[.int .u8 (a : Int), .string b, lv], 89), (p, #[.string x1, .string x2, .int .u8 (x3 : Int), .slice Ap np cp], 85), (r, #[.string ⟨#[]⟩, .string ⟨#[]⟩, .int .u8 0, .slice none 0 0], 85)] [⟨92, 13, lv, j, zs⟩, ⟨89, 3, .slice Ap np cp, k, ys⟩] wr)) (fun jv _ => m - (intOf jv).toNat)
   case atStart => exact ⟨0, _, _, _, Nat.zero_le _, rfl, HG.out.symm, QR.out⟩
   case round =>
    obtain ⟨j, lv, zs, sj, hj, rfl, hit2, hq2⟩ := hrel
    obtain ⟨aj, bj⟩ := sj
    obtain ⟨Al, nl, cl, rfl⟩ := own_form hq2.out.r0
    have k2 := hq2.out.q.bx.cell 2 (u := .bool (!bj)) rfl
    have kgl := hq2.out.q.lt
    clear QR HG
    by_cases hgo : j < m ∧ bj = false
    ·obtain ⟨hlt2, rfl⟩ := hgo
     have hji : (j : Int) < (m : Int) := by omega
     go_wp2_with fail
     refine (qmByte_any ((aj, false)) _ hq2.out.q).mono ?_
     rintro e w13 ⟨rfl, hr⟩
     have Q13 := Lib.hid (hq2.out.call hr)
     have hbl0 := (byV bs st ((aj, false))).toNat_lt
     obtain ⟨l0, hl0⟩ : ∃ x : Nat, (byV bs st ((aj, false))).toNat = x := ⟨_, rfl⟩
     rw [hl0] at hbl0 ⊢
     have hul0 : IntKind.u8.wrap (l0 : Int) = (l0 : Int) := by rw [IntKind.wrap_u8']; omega
     clear hr hq2 hl0
     clear k2 kgl
     obtain ⟨x, hx⟩ : ∃ x, w13.heap.size = x := ⟨_, rfl⟩
     obtain ⟨w14, hw14⟩ : ∃ W, w13.alloc (.cells #[.int .u8 (l0 : Int), .string ⟨#[]⟩, .string ⟨#[]⟩, .int .u8 0, .bool false, .int .i64 0, .int .i64 0, .int .i64 0, .int .i64 0, .int .i64 0, .int .i64 0, .int .i64 0, .int .i64 0] 92) = W := ⟨_, rfl⟩
     have Q14 := Q13.out.alloc #[.int .u8 (l0 : Int), .string ⟨#[]⟩, .string ⟨#[]⟩, .int .u8 0, .bool false, .int .i64 0, .int .i64 0, .int .i64 0, .int .i64 0, .int .i64 0, .int .i64 0, .int .i64 0, .int .i64 0] 92
     rw [hw14, hx] at Q14
     replace Q14 := Lib.hid Q14
     have HW14 := Lib.hid hw14
     have Hx := Lib.hid hx
     clear hw14 hx Q13
     go_wp2_with fail
     rw [HW14.out, Hx.out]
     clear HW14 Hx
     refine (qmText_any (tkS st 1 (aj, false)) _ Q14.out.q).mono ?_
     rintro e w15 ⟨rfl, hr⟩
     have Q15 := Lib.hid (Q14.out.call hr)
     obtain ⟨l1, hl1⟩ : ∃ x, sb (rtxV bs st (tkS st 1 (aj, false))) = x := ⟨_, rfl⟩
     rw [hl1]
     clear hr Q14 hl1
     have kc := Q15.out.x0.cell 1 rfl
     have kf := Q15.out.x0.free 1
     have kl := Q15.out.x0.lt
     have Q16 := Lib.hid (QS.s0_13_1 Q15.out (.string l1))
     clear Q15
     go_wp2_with fail
     clear kc kf kl
     refine (qmText_any (txS bs st (tkS st 1 (aj, false))) _ Q16.out.q).mono ?_
     rintro e w17 ⟨rfl, hr⟩
     have Q17 := Lib.hid (Q16.out.call hr)
     obtain ⟨l2, hl2⟩ : ∃ x, sb (rtxV bs st (txS bs st (tkS st 1 (aj, false)))) = x := ⟨_, rfl⟩
     rw [hl2]
     clear hr Q16 hl2
     have kc := Q17.out.x0.cell 2 rfl
     have kf := Q17.out.x0.free 2
     have kl := Q17.out.x0.lt
     have Q18 := Lib.hid (QS.s0_13_2 Q17.out (.string l2))
     clear Q17
     go_wp2_with fail
     clear kc kf kl
     refine (qmByte_any (txS bs st (txS bs st (tkS st 1 (aj, false)))) _ Q18.out.q).mono ?_
     rintro e w19 ⟨rfl, hr⟩
     have Q19 := Lib.hid (Q18.out.call hr)
     have hbl3 := (byV bs st (txS bs st (txS bs st (tkS st 1 (aj, false))))).toNat_lt
     obtain ⟨l3, hl3⟩ : ∃ x : Nat, (byV bs st (txS bs st (txS bs st (tkS st 1 (aj, false))))).toNat = x := ⟨_, rfl⟩
     rw [hl3] at hbl3 ⊢
     have hul3 : IntKind.u8.wrap (l3 : Int) = (l3 : Int) := by rw [IntKind.wrap_u8']; omega
     clear hr Q18 hl3
     have kc := Q19.out.x0.cell 3 rfl
     have kf := Q19.out.x0.free 3
     have kl := Q19.out.x0.lt
     have Q20 := Lib.hid (QS.s0_13_3 Q19.out (.int .u8 (l3 : Int)))
     clear Q19
     obtain ⟨la, hla⟩ : ∃ x, legA bs st (aj, false) = x := ⟨_, rfl⟩
     have HLA : Hid (leS bs st (aj, false) = n8x st 8 (ovS bs st la)) := by
      unfold Hid
      rw [← hla]
      rfl
     have QA := Lib.hid Q20.out
     rw [show tkS st 1 (txS bs st (txS bs st (tkS st 1 (aj, false)))) = la from hla] at QA
     clear Q20 hla
     go_wp2_with fail
     clear kc kf kl
     refine (qmByte_any (la) _ QA.out.q).mono ?_
     rintro e w21 ⟨rfl, hr⟩
     have Q21 := Lib.hid (QA.out.call hr)
     have hbB := (byV bs st (la)).toNat_lt
     obtain ⟨B, hB⟩ : ∃ x : Nat, (byV bs st (la)).toNat = x := ⟨_, rfl⟩
     rw [hB] at hbB ⊢
     clear hr QA
     have HOV : Hid (ovS bs st la = if 1 < B then ((tkS st 1 la).1, true) else tkS st 1 la) := by
      unfold Hid
      rw [← hB]
      rfl
     clear hB
     have k2 := Q21.out.q.bx.cell 2 (u := .bool (!(tkS st 1 la).2)) rfl
     have f2 := Q21.out.q.bx.free 2
     have kgl := Q21.out.q.lt
     go_upto_if 71 with (fail)
     go_cut [71] (fun _ wx => Hid (QS g gb ob c st bs (· = g) w (ovS bs st la) [(x, #[.int .u8 (l0 : Int), .string l1, .string l2, .int .u8 (l3 : Int), .bool false, .int .i64 0, .int .i64 0, .int .i64 0, .int .i64 0, .int .i64 0, .int .i64 0, .int .i64 0, .int .i64 0], 92), (q, #[.int .u8 (a : Int), .string b, .slice Al nl cl], 89), (p, #[.string x1, .string x2, .int .u8 (x3 : Int), .slice Ap np cp], 85), (r, #[.string ⟨#[]⟩, .string ⟨#[]⟩, .int .u8 0, .slice none 0 0], 85)] [⟨92, 13, .slice Al nl cl, j, zs⟩, ⟨89, 3, .slice Ap np cp, k, ys⟩] wx))
     case first =>
      rcases Nat.lt_or_ge 1 B with h1 | h1
      ·have h1i : (1 : Int) < (B : Int) := by omega
       have QV := Lib.hid Q21.out.setF
       rw [show ((tkS st 1 la).1, true) = ovS bs st la by rw [HOV.out, if_pos h1]] at QV
       go_wp2
       go_meet
       exact QV
      ·have h1i : ¬ (1 : Int) < (B : Int) := by omega
       rw [show tkS st 1 la = ovS bs st la by rw [HOV.out, if_neg (by omega)]] at Q21
       go_wp2
       go_meet
       exact Q21
     case rest =>
      have QC := hcut
      clear Q21 k2 f2 kgl hcut
      obtain ⟨so, hso⟩ : ∃ x, ovS bs st la = x := ⟨_, rfl⟩
      rw [hso] at QC HLA
      clear hso HOV
      have kc := QC.out.x0.cell 4 rfl
      have kf := QC.out.x0.free 4
      have kl := QC.out.x0.lt
      have Q22 := Lib.hid (QS.s0_13_4 QC.out (.bool ((B : Int) == 1)))
      clear QC
      go_wp2_with fail
      clear kc kf kl
      refine (qm8_any (so) _ Q22.out.q).mono ?_
      rintro e w23 ⟨rfl, hr⟩
      have Q23 := Lib.hid (Q22.out.call hr)
      obtain ⟨c0, hc0⟩ : ∃ x, n8V bs st (so) = x := ⟨_, rfl⟩
      rw [hc0]
      clear hr Q22 hc0
      have kc := Q23.out.x0.cell 5 rfl
      have kf := Q23.out.x0.free 5
      have kl := Q23.out.x0.lt
      have Q24 := Lib.hid (QS.s0_13_5 Q23.out (.int .i64 c0))
      clear Q23
      go_wp2_with fail
      clear kc kf kl
      refine (qm8_any (n8x st 1 so) _ Q24.out.q).mono ?_
      rintro e w25 ⟨rfl, hr⟩
      have Q25 := Lib.hid (Q24.out.call hr)
      obtain ⟨c1, hc1⟩ : ∃ x, n8V bs st (n8x st 1 so) = x := ⟨_, rfl⟩
      rw [hc1]
      clear hr Q24 hc1
      have kc := Q25.out.x0.cell 6 rfl
      have kf := Q25.out.x0.free 6
      have kl := Q25.out.x0.lt
      have Q26 := Lib.hid (QS.s0_13_6 Q25.out (.int .i64 c1))
      clear Q25
      go_wp2_with fail
      clear kc kf kl
      refine (qm8_any (n8x st 2 so) _ Q26.out.q).mono ?_
      rintro e w27 ⟨rfl, hr⟩
      have Q27 := Lib.hid (Q26.out.call hr)
      obtain ⟨c2, hc2⟩ : ∃ x, n8V bs st (n8x st 2 so) = x := ⟨_, rfl⟩
      rw [hc2]
      clear hr Q26 hc2
      have kc := Q27.out.x0.cell 7 rfl
      have kf := Q27.out.x0.free 7
      have kl := Q27.out.x0.lt
      have Q28 := Lib.hid (QS.s0_13_7 Q27.out (.int .i64 c2))
      clear Q27
      go_wp2_with fail
      clear kc kf kl
      refine (qm8_any (n8x st 3 so) _ Q28.out.q).mono ?_
      rintro e w29 ⟨rfl, hr⟩
      have Q29 := Lib.hid (Q28.out.call hr)
      obtain ⟨c3, hc3⟩ : ∃ x, n8V bs st (n8x st 3 so) = x := ⟨_, rfl⟩
      rw [hc3]
      clear hr Q28 hc3
      have kc := Q29.out.x0.cell 8 rfl
      have kf := Q29.out.x0.free 8
      have kl := Q29.out.x0.lt
      have Q30 := Lib.hid (QS.s0_13_8 Q29.out (.int .i64 c3))
      clear Q29
      go_wp2_with fail
      clear kc kf kl
      refine (qm8_any (n8x st 4 so) _ Q30.out.q).mono ?_
      rintro e w31 ⟨rfl, hr⟩
      have Q31 := Lib.hid (Q30.out.call hr)
      obtain ⟨c4, hc4⟩ : ∃ x, n8V bs st (n8x st 4 so) = x := ⟨_, rfl⟩
      rw [hc4]
      clear hr Q30 hc4
      have kc := Q31.out.x0.cell 9 rfl
      have kf := Q31.out.x0.free 9
      have kl := Q31.out.x0.lt
      have Q32 := Lib.hid (QS.s0_13_9 Q31.out (.int .i64 c4))
      clear Q31
      go_wp2_with fail
      clear kc kf kl
      refine (qm8_any (n8x st 5 so) _ Q32.out.q).mono ?_
      rintro e w33 ⟨rfl, hr⟩
      have Q33 := Lib.hid (Q32.out.call hr)
      obtain ⟨c5, hc5⟩ : ∃ x, n8V bs st (n8x st 5 so) = x := ⟨_, rfl⟩
      rw [hc5]
      clear hr Q32 hc5
      have kc := Q33.out.x0.cell 10 rfl
      have kf := Q33.out.x0.free 10
      have kl := Q33.out.x0.lt
      have Q34 := Lib.hid (QS.s0_13_10 Q33.out (.int .i64 c5))
      clear Q33
      go_wp2_with fail
      clear kc kf kl
      refine (qm8_any (n8x st 6 so) _ Q34.out.q).mono ?_
      rintro e w35 ⟨rfl, hr⟩
      have Q35 := Lib.hid (Q34.out.call hr)
      obtain ⟨c6, hc6⟩ : ∃ x, n8V bs st (n8x st 6 so) = x := ⟨_, rfl⟩
      rw [hc6]
      clear hr Q34 hc6
      have kc := Q35.out.x0.cell 11 rfl
      have kf := Q35.out.x0.free 11
      have kl := Q35.out.x0.lt
      have Q36 := Lib.hid (QS.s0_13_11 Q35.out (.int .i64 c6))
      clear Q35
      go_wp2_with fail
      clear kc kf kl
      refine (qm8_any (n8x st 7 so) _ Q36.out.q).mono ?_
      rintro e w37 ⟨rfl, hr⟩
      have Q37 := Lib.hid (Q36.out.call hr)
      obtain ⟨c7, hc7⟩ : ∃ x, n8V bs st (n8x st 7 so) = x := ⟨_, rfl⟩
      rw [hc7]
      clear hr Q36 hc7
      have kc := Q37.out.x0.cell 12 rfl
      have kf := Q37.out.x0.free 12
      have kl := Q37.out.x0.lt
      have Q38 := Lib.hid (QS.s0_13_12 Q37.out (.int .i64 c7))
      clear Q37
      obtain ⟨we, hwe⟩ : ∃ W, w37.setCell ⟨x, 12, none⟩ (.int .i64 c7) = W := ⟨_, rfl⟩
      rw [hwe] at Q38
      have HWE := Lib.hid hwe
      have QE := Lib.hid Q38.out
      rw [show n8S st (n8x st 7 so) = leS bs st (aj, false) by rw [HLA.out]; rfl] at QE
      clear Q38 hwe
      go_upto_region 30 with fail
      rw [HWE.out]
      clear HWE kc kf kl
      have HCS : Hid (∀ j u, [.int .u8 (l0 : Int), .string l1, .string l2, .int .u8 (l3 : Int), .bool ((B : Int) == 1), .int .i64 c0, .int .i64 c1, .int .i64 c2, .int .i64 c3, .int .i64 c4, .int .i64 c5, .int .i64 c6, .int .i64 c7][j]? = some u → we.cell? ⟨x, 0 + j, none⟩ = some u) := fun j u hu => by rw [Nat.zero_add]; exact QE.out.x0.cell j (by simpa using hu)
      have kc := QE.out.x1.cell 2 (u := .slice Al nl cl) rfl
      have kl := QE.out.x1.lt
      go_wp2_with (first | (with_reducible refine wpList_load_wide rfl 92 (.tmp 9) rfl x 0 rfl [.int .u8 (l0 : Int), .string l1, .string l2, .int .u8 (l3 : Int), .bool ((B : Int) == 1), .int .i64 c0, .int .i64 c1, .int .i64 c2, .int .i64 c3, .int .i64 c4, .int .i64 c5, .int .i64 c6, .int .i64 c7] 13 rfl (aggLeg _) (sizeLeg _) HCS.out ?_) | (at_builtin; refine wpList_append_lies _ rfl _ _ 87 rfl w.heap.size 92 il (.agg #[.int .u8 0, .string ⟨#[]⟩, .string ⟨#[]⟩, .int .u8 0, .bool false, .int .i64 0, .int .i64 0, .int .i64 0, .int .i64 0, .int .i64 0, .int .i64 0, .int .i64 0, .int .i64 0]) 13 112 Tryz.underlying87 hil hy0 hy1 hy2 rfl (by decide) _ _ _ rfl (QE.out.r0.alloc _) ⟨we.heap.size, 0, none⟩ 1 1 [.int .u8 (l0 : Int), .string l1, .string l2, .int .u8 (l3 : Int), .bool ((B : Int) == 1), .int .i64 c0, .int .i64 c1, .int .i64 c2, .int .i64 c3, .int .i64 c4, .int .i64 c5, .int .i64 c6, .int .i64 c7] rfl rfl (World.news_of_block (heap_alloc_new we _)) ?c2 (by decide) ?c3 ?c4 ?c5 _ rfl ?_))
      case c2 => intro u hu; simp only [List.mem_cons, List.not_mem_nil, or_false] at hu; rcases hu with rfl | rfl | rfl | rfl | rfl | rfl | rfl | rfl | rfl | rfl | rfl | rfl | rfl <;> rfl
      case c3 => unfold maxLen; omega
      case c4 => omega
      case c5 => have := QE.out.f.size; simp; omega
      intro gg cap w3 hown3 hgrow3 hor hgg
      have Q3 := Lib.hid ((QE.out.below ((Below.refl _ _).alloc (Nat.le_refl _) _)).push hown3 hgrow3 (fun kk hkk => by
       have e : gg = kk := by simpa [Value.ownBlock] using hkk
       subst e
       rcases hor with h1 | h1
       ·exact .inl h1
       ·exact .inr (by rw [h1]; first | exact Nat.le_refl _ | simp)))
      clear kc kl
      have kc := Q3.out.x1.cell 2 (u := .slice Al nl cl) rfl
      have kf := Q3.out.x1.free 2
      have kl := Q3.out.x1.lt
      have Q4 := Lib.hid (QS.s0_3_2 Q3.out.pop (.slice (some ⟨gg, 0, none⟩) (j + 1) cap))
      have HN2 : Hid (itS (leS bs st) (m - (j + 1)) (leS bs st (aj, false)) = fi2) := it_on hit2.out hlt2 rfl
      clear hown3 hgrow3 hor hgg QE HCS Q3
      go_wp2
      go_roundw
      case rel => exact ⟨j + 1, _, _, _, hlt2, by go_num, HN2, Q4.out⟩
      case measure => simp [intOf]; omega
    ·have HE : Hid ((aj, bj) = fi2) := it_end hit2.out (by
      by_cases h1 : j < m
      ·exact .inr (by cases bj with
        | true => rfl
        | false => exact absurd ⟨h1, rfl⟩ hgo)
      ·exact .inl h1)
     have hex : ¬ j < m ∨ (j < m ∧ bj = true) := by
      by_cases h1 : j < m
      ·exact .inr ⟨h1, by cases bj with
        | true => rfl
        | false => exact absurd ⟨h1, rfl⟩ hgo⟩
      ·exact .inl h1
     rw [HE.out] at hq2
     have kq0 := hq2.out.x0.cell 0 (u := .int .u8 (a : Int)) rfl
     have kq1 := hq2.out.x0.cell 1 (u := .string b) rfl
     have kq2 := hq2.out.x0.cell 2 (u := .slice Al nl cl) rfl
     have kql := hq2.out.x0.lt
     have kp3 := hq2.out.x1.cell 3 (u := .slice Ap np cp) rfl
     have kpl := hq2.out.x1.lt
     clear hgo hit2
     rcases hex with hlt2 | ⟨hlt2, rfl⟩
     all_goals
      go_wp2_with (first | (at_builtin; refine wpList_append_lies _ rfl _ _ 83 rfl w.heap.size 89 ip (.agg #[.int .u8 0, .string ⟨#[]⟩, .slice none 0 0]) 3 48 Tryz.underlying83 hip hz0 hz1 hz2 rfl (by decide) _ _ _ rfl (hq2.out.r1.alloc _) ⟨wr.heap.size, 0, none⟩ 1 1 [.int .u8 (a : Int), .string b, .slice Al nl cl] rfl rfl (World.news_of_block (heap_alloc_new wr _)) ?c2 (by decide) ?c3 ?c4 ?c5 _ rfl ?_))
      case c2 => intro u hu; simp only [List.mem_cons, List.not_mem_nil, or_false] at hu; rcases hu with rfl | rfl | rfl <;> rfl
      case c3 => unfold maxLen; omega
      case c4 => omega
      case c5 => have := hq2.out.f.size; simp; omega
      intro gg cap w3 hown3 hgrow3 hor hgg
      have Q3 := Lib.hid ((hq2.out.popR.below ((Below.refl _ _).alloc (Nat.le_refl _) _)).push hown3 hgrow3 (fun kk hkk => by
       have e : gg = kk := by simpa [Value.ownBlock] using hkk
       subst e
       rcases hor with h1 | h1
       ·exact .inl h1
       ·exact .inr (by rw [h1]; first | exact Nat.le_refl _ | simp)))
      clear kq0 kq1 kq2 kql kp3 kpl
      have kc := Q3.out.x1.cell 3 (u := .slice Ap np cp) rfl
      have kf := Q3.out.x1.free 3
      have kl := Q3.out.x1.lt
      have Q4 := Lib.hid (QS.s0_4_3 Q3.out.pop (.slice (some ⟨gg, 0, none⟩) (k + 1) cap))
      have HN2 : Hid (itS (imPaS bs st) (n - (k + 1)) fi2 = fin) := it_on hit.out hlt HFI2.out
      clear hown3 hgrow3 hor hgg hq2 Q3
      go_wp2
      go_roundw
      case rel => exact ⟨k + 1, _, _, _, hlt, by go_num, HN2, Q4.out⟩
      case measure => simp [intOf]; omega
  ·have HE : Hid ((ak, bk) = fin) := it_end hit.out (by
    by_cases h1 : k < n
    ·exact .inr (by cases bk with
      | true => rfl
      | false => exact absurd ⟨h1, rfl⟩ hgo)
    ·exact .inl h1)
   have hex : ¬ k < n ∨ (k < n ∧ bk = true) := by
    by_cases h1 : k < n
    ·exact .inr ⟨h1, by cases bk with
      | true => rfl
      | false => exact absurd ⟨h1, rfl⟩ hgo⟩
    ·exact .inl h1
   rw [HE.out] at hq
   have p0 := hq.out.x0.cell 0 (u := .string x1) rfl
   have p1 := hq.out.x0.cell 1 (u := .string x2) rfl
   have p2 := hq.out.x0.cell 2 (u := .int .u8 (x3 : Int)) rfl
   have p3 := hq.out.x0.cell 3 (u := .slice Ap np cp) rfl
   have pl := hq.out.x0.lt
   have y0 := hq.out.x1.cell 0 (u := .string ⟨#[]⟩) rfl
   have f0 := hq.out.x1.free 0
   have y1 := hq.out.x1.cell 1 (u := .string ⟨#[]⟩) rfl
   have f1 := hq.out.x1.free 1
   have y2 := hq.out.x1.cell 2 (u := .int .u8 0) rfl
   have f2 := hq.out.x1.free 2
   have y3 := hq.out.x1.cell 3 (u := .slice none 0 0) rfl
   have f3 := hq.out.x1.free 3
   have yl := hq.out.x1.lt
   have F := QS.s1_4_3 (QS.s1_4_2 (QS.s1_4_1 (QS.s1_4_0 hq.out (.string x1)) (.string x2)) (.int .u8 (x3 : Int))) (.slice Ap np cp)
   have z0 := F.x1.cell 0 (u := .string x1) rfl
   have z1 := F.x1.cell 1 (u := .string x2) rfl
   have z2 := F.x1.cell 2 (u := .int .u8 (x3 : Int)) rfl
   have z3 := F.x1.cell 3 (u := .slice Ap np cp) rfl
   have FQ := F.q
   have FR := Lib.hid (RdQTo.mk FQ F.f)
   clear hgo hit F FQ hq
   rcases hex with hlt | ⟨hlt, rfl⟩
   all_goals
    go_wp2
    refine bodyPost_ret (v := .agg #[.string x1, .string x2, .int .u8 (x3 : Int), .slice Ap np cp]) (by simp [results, Tryz.results158, go_sem, z0, z1, z2, z3]; try rfl) rfl ?_
    refine ⟨⟨_, _, _, _, _, _, rfl⟩, ?_⟩
    rw [HFIN.out]
    exact FR.out
end Go.Proofs.YtidkhnfhkofmoaaGreatDoor
