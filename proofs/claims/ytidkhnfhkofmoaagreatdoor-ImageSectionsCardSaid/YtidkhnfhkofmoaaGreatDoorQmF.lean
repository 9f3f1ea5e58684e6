/-
  Contracts: the sections of an image, read by the reference.
-/
import Derived.Test.YtidkhnfhkofmoaaGreatDoorQmP
import Derived.Test.YtidkhnfhkofmoaaGreatDoorImA
import Derived.Test.YtidkhnfhkofmoaaGreatDoorMG09
import Derived.Deep.RegionLaw
namespace Go.Proofs.YtidkhnfhkofmoaaGreatDoor
open Go.RowKit
set_option linter.unusedVariables false
set_option linter.unusedSimpArgs false
def IsSl (v : Value) : Prop := ∃ A n c, v = .slice A n c
def SecQPost (g gb ob c st : Nat) (bs : List UInt8) (s : RS) (tag d : Nat) (hd : ImHd) (f a p : Value) (w : World) (e : Ending) (w' : World) : Prop :=
 e = .returned (.int .i64 ((secN bs st tag s : Nat) : Int)) ∧ RdQ g gb ob c st bs (secS bs st tag s) w' ∧ Frm (fun k => k = g ∨ k = d) w w' ∧ ∃ (hd' : ImHd) (f' a' p' : Value), Bx d (dbI hd' f' a' p') 30 w' ∧ IsSl f' ∧ IsSl a' ∧ IsSl p' ∧ (tag = 1 → (secS bs st tag s).2 = false → hd' = hdV bs st s) ∧ (tag ≠ 1 → hd' = hd) ∧ (tag < 2 → f' = f) ∧ (tag < 3 → a' = a) ∧ (tag < 4 → p' = p)
theorem n8x_good {st : Nat} : ∀ (k : Nat) {s : RS}, (n8x st k s).2 = false → s.2 = false
 | 0, _, h => h
 | k + 1, s, h => (tkS_good (n8x_good k (s := n8S st s) h)).1
set_option maxRecDepth 100000 in
set_option maxHeartbeats 16000000 in
theorem qmSec1_any {g gb ob c st : Nat} {bs : List UInt8} (s : RS) (d : Nat) (hd : ImHd) (f a p : Value) (w : World) (h : RdQ g gb ob c st bs s w) (hx : Bx d (dbI hd f a p) 30 w) (hdg : d ≠ g) (hdb : d ≠ gb) (hf : IsSl f) (ha : IsSl a) (hp : IsSl p) :
  Calls Tryz.prog 110 #[.pointer (some ⟨d, 0, none⟩), .pointer (some ⟨g, 0, none⟩), .int .i64 1] w (SecQPost g gb ob c st bs s 1 d hd f a p w) := by
 have QX : QS g gb ob c st bs (fun k => k = g ∨ k = d) w s [(d, #[.string (sb hd.nm), .int .i64 hd.cy, .int .i64 hd.fr, .int .i64 hd.tu, .int .i64 hd.la, .int .i64 hd.lo, f, a, p], 30)] [] w := (QS.start (S := fun k => k = g ∨ k = d) h (.inl rfl)).box hx hdg hdb (.inl (.inr rfl)) (by simp) (by simp)
 have Q0 := Lib.hid QX
 clear h hx QX
 have HNM : Hid (secN bs st 1 s = 1) := by unfold Hid secN; rw [if_pos rfl]
 have HSS : Hid (secS bs st 1 s = n8x st 5 (txS bs st s)) := by unfold Hid secS; rw [if_pos rfl]; rfl
 go_enter Tryz.func110, Tryz.ntmps110
 go_wp2_with fail
 refine (qmText_any (s) _ Q0.out.q).mono ?_
 rintro e w1 ⟨rfl, hr⟩
 have Q1 := Lib.hid (Q0.out.call hr)
 obtain ⟨y0, hy0⟩ : ∃ x, sb (rtxV bs st (s)) = x := ⟨_, rfl⟩
 rw [hy0]
 clear hr Q0
 have Hy0 := Lib.hid hy0
 clear hy0
 have kc := Q1.out.x0.cell 0 rfl
 have kf := Q1.out.x0.free 0
 have kl := Q1.out.x0.lt
 have Q2 := Lib.hid (QS.s0_9_0 Q1.out (.string y0))
 clear Q1
 go_wp2_with fail
 clear kc kf kl
 refine (qm8_any (txS bs st s) _ Q2.out.q).mono ?_
 rintro e w3 ⟨rfl, hr⟩
 have Q3 := Lib.hid (Q2.out.call hr)
 obtain ⟨y1, hy1⟩ : ∃ x, n8V bs st (txS bs st s) = x := ⟨_, rfl⟩
 rw [hy1]
 clear hr Q2
 have Hy1 := Lib.hid hy1
 clear hy1
 have kc := Q3.out.x0.cell 1 rfl
 have kf := Q3.out.x0.free 1
 have kl := Q3.out.x0.lt
 have Q4 := Lib.hid (QS.s0_9_1 Q3.out (.int .i64 y1))
 clear Q3
 go_wp2_with fail
 clear kc kf kl
 refine (qm8_any (n8x st 1 (txS bs st s)) _ Q4.out.q).mono ?_
 rintro e w5 ⟨rfl, hr⟩
 have Q5 := Lib.hid (Q4.out.call hr)
 obtain ⟨y2, hy2⟩ : ∃ x, n8V bs st (n8x st 1 (txS bs st s)) = x := ⟨_, rfl⟩
 rw [hy2]
 clear hr Q4
 have Hy2 := Lib.hid hy2
 clear hy2
 have kc := Q5.out.x0.cell 2 rfl
 have kf := Q5.out.x0.free 2
 have kl := Q5.out.x0.lt
 have Q6 := Lib.hid (QS.s0_9_2 Q5.out (.int .i64 y2))
 clear Q5
 go_wp2_with fail
 clear kc kf kl
 refine (qm8_any (n8x st 2 (txS bs st s)) _ Q6.out.q).mono ?_
 rintro e w7 ⟨rfl, hr⟩
 have Q7 := Lib.hid (Q6.out.call hr)
 obtain ⟨y3, hy3⟩ : ∃ x, n8V bs st (n8x st 2 (txS bs st s)) = x := ⟨_, rfl⟩
 rw [hy3]
 clear hr Q6
 have Hy3 := Lib.hid hy3
 clear hy3
 have kc := Q7.out.x0.cell 3 rfl
 have kf := Q7.out.x0.free 3
 have kl := Q7.out.x0.lt
 have Q8 := Lib.hid (QS.s0_9_3 Q7.out (.int .i64 y3))
 clear Q7
 go_wp2_with fail
 clear kc kf kl
 refine (qm8_any (n8x st 3 (txS bs st s)) _ Q8.out.q).mono ?_
 rintro e w9 ⟨rfl, hr⟩
 have Q9 := Lib.hid (Q8.out.call hr)
 obtain ⟨y4, hy4⟩ : ∃ x, n8V bs st (n8x st 3 (txS bs st s)) = x := ⟨_, rfl⟩
 rw [hy4]
 clear hr Q8
 have Hy4 := Lib.hid hy4
 clear hy4
 have kc := Q9.out.x0.cell 4 rfl
 have kf := Q9.out.x0.free 4
 have kl := Q9.out.x0.lt
 have Q10 := Lib.hid (QS.s0_9_4 Q9.out (.int .i64 y4))
 clear Q9
 go_wp2_with fail
 clear kc kf kl
 refine (qm8_any (n8x st 4 (txS bs st s)) _ Q10.out.q).mono ?_
 rintro e w11 ⟨rfl, hr⟩
 have Q11 := Lib.hid (Q10.out.call hr)
 obtain ⟨y5, hy5⟩ : ∃ x, n8V bs st (n8x st 4 (txS bs st s)) = x := ⟨_, rfl⟩
 rw [hy5]
 clear hr Q10
 have Hy5 := Lib.hid hy5
 clear hy5
 have kc := Q11.out.x0.cell 5 rfl
 have kf := Q11.out.x0.free 5
 have kl := Q11.out.x0.lt
 have Q12 := Lib.hid (QS.s0_9_5 Q11.out (.int .i64 y5))
 clear Q11
 have QZ := Lib.hid Q12.out
 rw [show n8S st (n8x st 4 (txS bs st s)) = secS bs st 1 s from HSS.out.symm] at QZ
 clear Q12
 go_wp2
 go_ret
 have XZ := QZ.out.x0
 refine ⟨by rw [HNM.out]; rfl, QZ.out.q, QZ.out.f, ⟨rtxV bs st s, y1, y2, y3, y4, y5⟩, f, a, p, ?_, hf, ha, hp, fun _ hg => ?_, fun h => absurd rfl h, fun _ => rfl, fun _ => rfl, fun _ => rfl⟩
 ·unfold dbI
  rw [Hy0.out]
  exact XZ
 ·have ht : (txS bs st s).2 = false := n8x_good 5 (by rw [← HSS.out]; exact hg)
  unfold hdV
  rw [rtxV_good ht, ← Hy1.out, ← Hy2.out, ← Hy3.out, ← Hy4.out, ← Hy5.out]
  try rfl
theorem secS_2' (bs : List UInt8) (st : Nat) (s : RS) : secS bs st 2 s = lsS bs st (fiS bs st) s := by unfold secS; rw [if_neg (by decide), if_pos rfl]
theorem secS_3' (bs : List UInt8) (st : Nat) (s : RS) : secS bs st 3 s = lsS bs st (awS bs st) s := by unfold secS; rw [if_neg (by decide), if_neg (by decide), if_pos rfl]
theorem secS_4' (bs : List UInt8) (st : Nat) (s : RS) : secS bs st 4 s = lsS bs st (prS bs st) s := by unfold secS; rw [if_neg (by decide), if_neg (by decide), if_neg (by decide)]
theorem secN_2' (bs : List UInt8) (st : Nat) (s : RS) : secN bs st 2 s = lsN bs st s := by unfold secN; rw [if_neg (by decide)]
theorem secN_3' (bs : List UInt8) (st : Nat) (s : RS) : secN bs st 3 s = lsN bs st s := by unfold secN; rw [if_neg (by decide)]
theorem secN_4' (bs : List UInt8) (st : Nat) (s : RS) : secN bs st 4 s = lsN bs st s := by unfold secN; rw [if_neg (by decide)]
set_option maxRecDepth 100000 in
set_option maxHeartbeats 16000000 in
theorem qmSec2_any {g gb ob c st : Nat} {bs : List UInt8} (s : RS) (d : Nat) (hd : ImHd) (f a p : Value) (w : World) (h : RdQ g gb ob c st bs s w) (hx : Bx d (dbI hd f a p) 30 w) (hdg : d ≠ g) (hdb : d ≠ gb) (hf : IsSl f) (ha : IsSl a) (hp : IsSl p) (h0 : f = .slice none 0 0) :
  Calls Tryz.prog 110 #[.pointer (some ⟨d, 0, none⟩), .pointer (some ⟨g, 0, none⟩), .int .i64 2] w (SecQPost g gb ob c st bs s 2 d hd f a p w) := by
 subst h0
 obtain ⟨Aa, na, ca, rfl⟩ := ha
 obtain ⟨Ap, np, cp, rfl⟩ := hp
 obtain ⟨ie, hie, hz0, hz1, hz2⟩ := info_parts info_imLsFix
 have QX : QS g gb ob c st bs (fun k => k = g ∨ k = d) w s [(d, #[.string (sb hd.nm), .int .i64 hd.cy, .int .i64 hd.fr, .int .i64 hd.tu, .int .i64 hd.la, .int .i64 hd.lo, .slice none 0 0, .slice Aa na ca, .slice Ap np cp], 30)] [] w := (QS.start (S := fun k => k = g ∨ k = d) h (.inl rfl)).box hx hdg hdb (.inl (.inr rfl)) (by simp) (by simp)
 have Q0 := Lib.hid QX
 clear h hx QX
 have HSS : Hid (secS bs st 2 s = itS (fiS bs st) (lsN bs st s) (tkS st 2 s)) := by unfold Hid; rw [secS_2']; rfl
 have HNM : Hid (secN bs st 2 s = lsN bs st s) := secN_2' bs st s
 go_enter Tryz.func110, Tryz.ntmps110
 go_wp2_with fail
 refine (qmTwo_any (s) _ Q0.out.q).mono ?_
 rintro e w1 ⟨rfl, hr⟩
 have Q1 := Lib.hid (Q0.out.call hr)
 have hln : lsN bs st (s) < 65536 := lsN_lt
 obtain ⟨n, hn⟩ : ∃ x : Nat, lsN bs st (s) = x := ⟨_, rfl⟩
 rw [hn] at hln ⊢
 have Hn := Lib.hid hn
 clear hr Q0 hn
 rw [Hn.out] at HSS HNM
 obtain ⟨fin, hfin⟩ : ∃ x, secS bs st 2 s = x := ⟨_, rfl⟩
 rw [hfin] at HSS
 have HFIN := Lib.hid hfin
 have QR := Lib.hid (Q1.out.row 73 7)
 clear Q1 hfin
 go_wp2
 go_loopw [8] (fun iv wr => ∃ (k : Nat) (fv : Value) (xs : List Value) (sk : RS), k ≤ n ∧ iv = .int .i64 (k : Int) ∧ Hid (itS (fiS bs st) (n - k) sk = fin) ∧ Hid (QS g gb ob c st bs (fun k => k = g ∨ k = d) w sk [(d, #[.string (sb hd.nm), .int .i64 hd.cy, .int .i64 hd.fr, .int .i64 hd.tu, .int .i64 hd.la, .int .i64 hd.lo, fv, .slice Aa na ca, .slice Ap np cp], 30)] [⟨73, 7, fv, k, xs⟩] wr)) (fun iv _ => n - (intOf iv).toNat)
 case atStart => exact ⟨0, _, _, _, Nat.zero_le _, rfl, HSS.out.symm, QR.out⟩
 case round =>
  obtain ⟨k, fv, xs, sk, hk, rfl, hit, hq⟩ := hrel
  obtain ⟨ak, bk⟩ := sk
  obtain ⟨Av, nv, cv, rfl⟩ := own_form hq.out.r0
  have k2 := hq.out.q.bx.cell 2 (u := .bool (!bk)) rfl
  have kgl := hq.out.q.lt
  clear QR HSS
  by_cases hgo : k < n ∧ bk = false
  ·obtain ⟨hlt, rfl⟩ := hgo
   have hki : (k : Int) < (n : Int) := by omega
   go_wp2_with fail
   refine (qmText_any ((ak, false)) _ hq.out.q).mono ?_
   rintro e w2 ⟨rfl, hr⟩
   have Q2 := Lib.hid (hq.out.call hr)
   obtain ⟨l0, hl0⟩ : ∃ x, sb (rtxV bs st ((ak, false))) = x := ⟨_, rfl⟩
   rw [hl0]
   clear hr hq hl0
   clear k2 kgl
   obtain ⟨x, hx⟩ : ∃ x, w2.heap.size = x := ⟨_, rfl⟩
   obtain ⟨w3, hw3⟩ : ∃ W, w2.alloc (.cells #[.string l0, .string ⟨#[]⟩, .int .u8 0, .int .i64 0, .int .i64 0, .int .i64 0, .int .i64 0] 73) = W := ⟨_, rfl⟩
   have Q3 := Q2.out.alloc #[.string l0, .string ⟨#[]⟩, .int .u8 0, .int .i64 0, .int .i64 0, .int .i64 0, .int .i64 0] 73
   rw [hw3, hx] at Q3
   replace Q3 := Lib.hid Q3
   have HW3 := Lib.hid hw3
   have Hx := Lib.hid hx
   clear hw3 hx Q2
   go_wp2_with fail
   rw [HW3.out, Hx.out]
   clear HW3 Hx
   refine (qmText_any (txS bs st (ak, false)) _ Q3.out.q).mono ?_
   rintro e w4 ⟨rfl, hr⟩
   have Q4 := Lib.hid (Q3.out.call hr)
   obtain ⟨l1, hl1⟩ : ∃ x, sb (rtxV bs st (txS bs st (ak, false))) = x := ⟨_, rfl⟩
   rw [hl1]
   clear hr Q3 hl1
   have kc := Q4.out.x0.cell 1 rfl
   have kf := Q4.out.x0.free 1
   have kl := Q4.out.x0.lt
   have Q5 := Lib.hid (QS.s0_7_1 Q4.out (.string l1))
   clear Q4
   go_wp2_with fail
   clear kc kf kl
   refine (qmByte_any (txS bs st (txS bs st (ak, false))) _ Q5.out.q).mono ?_
   rintro e w6 ⟨rfl, hr⟩
   have Q6 := Lib.hid (Q5.out.call hr)
   have hbl2 := (byV bs st (txS bs st (txS bs st (ak, false)))).toNat_lt
   obtain ⟨l2, hl2⟩ : ∃ x : Nat, (byV bs st (txS bs st (txS bs st (ak, false)))).toNat = x := ⟨_, rfl⟩
   rw [hl2] at hbl2 ⊢
   have hul2 : IntKind.u8.wrap (l2 : Int) = (l2 : Int) := by rw [IntKind.wrap_u8']; omega
   clear hr Q5 hl2
   have kc := Q6.out.x0.cell 2 rfl
   have kf := Q6.out.x0.free 2
   have kl := Q6.out.x0.lt
   have Q7 := Lib.hid (QS.s0_7_2 Q6.out (.int .u8 (l2 : Int)))
   clear Q6
   go_wp2_with fail
   clear kc kf kl
   refine (qm8_any (tkS st 1 (txS bs st (txS bs st (ak, false)))) _ Q7.out.q).mono ?_
   rintro e w8 ⟨rfl, hr⟩
   have Q8 := Lib.hid (Q7.out.call hr)
   obtain ⟨c0, hc0⟩ : ∃ x, n8V bs st (tkS st 1 (txS bs st (txS bs st (ak, false)))) = x := ⟨_, rfl⟩
   rw [hc0]
   clear hr Q7 hc0
   have kc := Q8.out.x0.cell 3 rfl
   have kf := Q8.out.x0.free 3
   have kl := Q8.out.x0.lt
   have Q9 := Lib.hid (QS.s0_7_3 Q8.out (.int .i64 c0))
   clear Q8
   go_wp2_with fail
   clear kc kf kl
   refine (qm8_any (n8S st (tkS st 1 (txS bs st (txS bs st (ak, false))))) _ Q9.out.q).mono ?_
   rintro e w10 ⟨rfl, hr⟩
   have Q10 := Lib.hid (Q9.out.call hr)
   obtain ⟨c1, hc1⟩ : ∃ x, n8V bs st (n8S st (tkS st 1 (txS bs st (txS bs st (ak, false))))) = x := ⟨_, rfl⟩
   rw [hc1]
   clear hr Q9 hc1
   have kc := Q10.out.x0.cell 4 rfl
   have kf := Q10.out.x0.free 4
   have kl := Q10.out.x0.lt
   have Q11 := Lib.hid (QS.s0_7_4 Q10.out (.int .i64 c1))
   clear Q10
   go_wp2_with fail
   clear kc kf kl
   refine (qm8_any (n8S st (n8S st (tkS st 1 (txS bs st (txS bs st (ak, false)))))) _ Q11.out.q).mono ?_
   rintro e w12 ⟨rfl, hr⟩
   have Q12 := Lib.hid (Q11.out.call hr)
   obtain ⟨c2, hc2⟩ : ∃ x, n8V bs st (n8S st (n8S st (tkS st 1 (txS bs st (txS bs st (ak, false)))))) = x := ⟨_, rfl⟩
   rw [hc2]
   clear hr Q11 hc2
   have kc := Q12.out.x0.cell 5 rfl
   have kf := Q12.out.x0.free 5
   have kl := Q12.out.x0.lt
   have Q13 := Lib.hid (QS.s0_7_5 Q12.out (.int .i64 c2))
   clear Q12
   go_wp2_with fail
   clear kc kf kl
   refine (qm8_any (n8S st (n8S st (n8S st (tkS st 1 (txS bs st (txS bs st (ak, false))))))) _ Q13.out.q).mono ?_
   rintro e w14 ⟨rfl, hr⟩
   have Q14 := Lib.hid (Q13.out.call hr)
   obtain ⟨c3, hc3⟩ : ∃ x, n8V bs st (n8S st (n8S st (n8S st (tkS st 1 (txS bs st (txS bs st (ak, false))))))) = x := ⟨_, rfl⟩
   rw [hc3]
   clear hr Q13 hc3
   have kc := Q14.out.x0.cell 6 rfl
   have kf := Q14.out.x0.free 6
   have kl := Q14.out.x0.lt
   have Q15 := Lib.hid (QS.s0_7_6 Q14.out (.int .i64 c3))
   clear Q14
   obtain ⟨we, hwe⟩ : ∃ W, w14.setCell ⟨x, 6, none⟩ (.int .i64 c3) = W := ⟨_, rfl⟩
   rw [hwe] at Q15
   have HWE := Lib.hid hwe
   have QE := Lib.hid Q15.out
   rw [show n8S st (n8S st (n8S st (n8S st (tkS st 1 (txS bs st (txS bs st (ak, false))))))) = fiS bs st (ak, false) from rfl] at QE
   clear Q15 hwe
   go_upto_region 21 with fail
   rw [HWE.out]
   clear HWE kc kf kl
   have kx0 := QE.out.x0.cell 0 (u := .string l0) rfl
   have kx1 := QE.out.x0.cell 1 (u := .string l1) rfl
   have kx2 := QE.out.x0.cell 2 (u := .int .u8 (l2 : Int)) rfl
   have kx3 := QE.out.x0.cell 3 (u := .int .i64 c0) rfl
   have kx4 := QE.out.x0.cell 4 (u := .int .i64 c1) rfl
   have kx5 := QE.out.x0.cell 5 (u := .int .i64 c2) rfl
   have kx6 := QE.out.x0.cell 6 (u := .int .i64 c3) rfl
   have kxl := QE.out.x0.lt
   have kv := QE.out.x1.cell 6 (u := .slice Av nv cv) rfl
   have kf := QE.out.x1.free 6
   have kl := QE.out.x1.lt
   have hown := QE.out.r0
   have hlt0 := hown.lt
   have hsz := QE.out.f.size
   have nbw : (Value.slice Av nv cv).ownBlock ≠ some d := fun e => (QE.out.dj _ List.mem_cons_self d e (d, _, _) (List.mem_cons_of_mem _ List.mem_cons_self)) rfl
   have kva := Lib.hid (fun o => (((Below.refl we.heap.size we).alloc (Nat.le_refl _) o).drew.cell (p := ⟨d, 6, none⟩) kl).trans kv)
   have kfa := Lib.hid (fun o => (((Below.refl we.heap.size we).alloc (Nat.le_refl _) o).drew.frozen (p := ⟨d, 6, none⟩) kl).trans kf)
   have ksz : Hid (∀ o, d < (we.alloc o).drew.heap.size) := fun o => by show d < (we.alloc o).heap.size; rw [World.size_alloc]; omega
   go_region_law (
     (refine step_append_lies _ (by rfl) _ _ _ (by rfl) w.heap.size 73 ie (.agg #[.string ⟨#[]⟩, .string ⟨#[]⟩, .int .u8 0, .int .i64 0, .int .i64 0, .int .i64 0, .int .i64 0]) 7 72 Tryz.underlying26 hie hz0 hz1 hz2 rfl (by omega) (.slice Av nv cv) k xs (by rfl) (by first | exact (hown.alloc _).drew | exact (hown.drew).alloc _) ⟨we.heap.size, 0, none⟩ 1 1 [.string l0, .string l1, .int .u8 (l2 : Int), .int .i64 c0, .int .i64 c1, .int .i64 c2, .int .i64 c3] (by rfl) (by rfl) (World.news_of_block (cs := #[.string l0, .string l1, .int .u8 (l2 : Int), .int .i64 c0, .int .i64 c1, .int .i64 c2, .int .i64 c3]) (t := 73) (fr := (0, 0)) (heap_alloc_new we _)) (by simp [Value.oneCell']) (by omega) (by unfold maxLen; omega) (by omega) (by simp; omega) (we.heap.size + 1) (by simp) ?_; intro gg cap w3 hown3 hgrow hat hlt3; have kv3 : w3.cell? ⟨d, 6, none⟩ = some (.slice Av nv cv) := (hgrow.cell_far ⟨d, 6, none⟩ (ksz.out _) (Ne.symm nbw)).trans (kva.out _); have kf3 : w3.frozen? ⟨d, 6, none⟩ = false := (hgrow.frozen_far ⟨d, 6, none⟩ (ksz.out _) (Ne.symm nbw)).trans (kfa.out _)))
   all_goals
    have Q3 := ((QE.out.below (((Below.refl _ _).alloc (Nat.le_refl _) _).drew)).push hown3 hgrow (fun kk hkk => by
     have e : gg = kk := by simpa [Value.ownBlock] using hkk
     subst e
     rcases hat with h1 | h1
     ·exact .inl h1
     ·exact .inr (by rw [h1]; simp)))
    have Q4 := Lib.hid ((QS.s1_9_6 Q3 (.slice (some ⟨gg, 0, none⟩) (k + 1) cap)).pop)
    clear Q3 hown3 hgrow hat hlt3 kv3 kf3 kv kf kl hown kva kfa ksz nbw hlt0 hsz
    have HN2 : Hid (itS (fiS bs st) (n - (k + 1)) (fiS bs st (ak, false)) = fin) := it_on hit.out hlt rfl
    clear QE kx0 kx1 kx2 kx3 kx4 kx5 kx6 kxl
    go_wp2
    go_roundw
    case rel => exact ⟨k + 1, _, _, _, hlt, by go_num, HN2, Q4.out⟩
    case measure => simp [intOf]; omega
  ·have HE : Hid ((ak, bk) = fin) := it_end hit.out (by
    by_cases h1 : k < n
    ·exact .inr (by cases bk with
      | true => rfl
      | false => exact absurd ⟨h1, rfl⟩ hgo)
    ·exact .inl h1)
   have hex : ¬ k < n ∨ (k < n ∧ bk = true) := by
    by_cases h1 : k < n
    ·exact .inr ⟨h1, by cases bk with
      | true => rfl
      | false => exact absurd ⟨h1, rfl⟩ hgo⟩
    ·exact .inl h1
   rw [HE.out] at hq
   have HP : Hid (SecQPost g gb ob c st bs s 2 d hd (.slice none 0 0) (.slice Aa na ca) (.slice Ap np cp) w (.returned (.int .i64 (n : Int))) wr) := by
    unfold Hid SecQPost
    rw [HNM.out, HFIN.out]
    exact ⟨rfl, hq.out.q, hq.out.f, hd, _, _, _, hq.out.x0, ⟨_, _, _, rfl⟩, ⟨_, _, _, rfl⟩, ⟨_, _, _, rfl⟩, fun h => absurd h (by decide), fun _ => rfl, fun h => absurd h (by decide), fun h => rfl, fun h => rfl⟩
   clear hgo hit hq
   rcases hex with hlt | ⟨hlt, rfl⟩
   all_goals
    go_wp2
    go_ret
    exact HP.out
set_option maxRecDepth 100000 in
set_option maxHeartbeats 16000000 in
theorem qmSec3_any {g gb ob c st : Nat} {bs : List UInt8} (s : RS) (d : Nat) (hd : ImHd) (f a p : Value) (w : World) (h : RdQ g gb ob c st bs s w) (hx : Bx d (dbI hd f a p) 30 w) (hdg : d ≠ g) (hdb : d ≠ gb) (hf : IsSl f) (ha : IsSl a) (hp : IsSl p) (h0 : a = .slice none 0 0) :
  Calls Tryz.prog 110 #[.pointer (some ⟨d, 0, none⟩), .pointer (some ⟨g, 0, none⟩), .int .i64 3] w (SecQPost g gb ob c st bs s 3 d hd f a p w) := by
 subst h0
 obtain ⟨Af, nf, cf, rfl⟩ := hf
 obtain ⟨Ap, np, cp, rfl⟩ := hp
 obtain ⟨ie, hie, hz0, hz1, hz2⟩ := info_parts info_imLsAw
 obtain ⟨il, hil, hy0, hy1, hy2⟩ := info_parts info_imLsPt
 have QX : QS g gb ob c st bs (fun k => k = g ∨ k = d) w s [(d, #[.string (sb hd.nm), .int .i64 hd.cy, .int .i64 hd.fr, .int .i64 hd.tu, .int .i64 hd.la, .int .i64 hd.lo, .slice Af nf cf, .slice none 0 0, .slice Ap np cp], 30)] [] w := (QS.start (S := fun k => k = g ∨ k = d) h (.inl rfl)).box hx hdg hdb (.inl (.inr rfl)) (by simp) (by simp)
 have Q0 := Lib.hid QX
 clear h hx QX
 have HSS : Hid (secS bs st 3 s = itS (awS bs st) (lsN bs st s) (tkS st 2 s)) := by unfold Hid; rw [secS_3']; rfl
 have HNM : Hid (secN bs st 3 s = lsN bs st s) := secN_3' bs st s
 go_enter Tryz.func110, Tryz.ntmps110
 go_wp2_with fail
 refine (qmTwo_any (s) _ Q0.out.q).mono ?_
 rintro e w1 ⟨rfl, hr⟩
 have Q1 := Lib.hid (Q0.out.call hr)
 have hln : lsN bs st (s) < 65536 := lsN_lt
 obtain ⟨n, hn⟩ : ∃ x : Nat, lsN bs st (s) = x := ⟨_, rfl⟩
 rw [hn] at hln ⊢
 have Hn := Lib.hid hn
 clear hr Q0 hn
 rw [Hn.out] at HSS HNM
 obtain ⟨fin, hfin⟩ : ∃ x, secS bs st 3 s = x := ⟨_, rfl⟩
 rw [hfin] at HSS
 have HFIN := Lib.hid hfin
 have QR := Lib.hid (Q1.out.row 77 2)
 clear Q1 hfin
 go_wp2
 go_loopw [8] (fun iv wr => ∃ (k : Nat) (fv : Value) (xs : List Value) (sk : RS), k ≤ n ∧ iv = .int .i64 (k : Int) ∧ Hid (itS (awS bs st) (n - k) sk = fin) ∧ Hid (QS g gb ob c st bs (fun k => k = g ∨ k = d) w sk [(d, #[.string (sb hd.nm), .int .i64 hd.cy, .int .i64 hd.fr, .int .i64 hd.tu, .int .i64 hd.la, .int .i64 hd.lo, .slice Af nf cf, fv, .slice Ap np cp], 30)] [⟨77, 2, fv, k, xs⟩] wr)) (fun iv _ => n - (intOf iv).toNat)
 case atStart => exact ⟨0, _, _, _, Nat.zero_le _, rfl, HSS.out.symm, QR.out⟩
 case round =>
  obtain ⟨k, fv, xs, sk, hk, rfl, hit, hq⟩ := hrel
  obtain ⟨ak, bk⟩ := sk
  obtain ⟨Av, nv, cv, rfl⟩ := own_form hq.out.r0
  have k2 := hq.out.q.bx.cell 2 (u := .bool (!bk)) rfl
  have kgl := hq.out.q.lt
  clear QR HSS
  by_cases hgo : k < n ∧ bk = false
  ·obtain ⟨hlt, rfl⟩ := hgo
   have hki : (k : Int) < (n : Int) := by omega
   obtain ⟨wo, rfl⟩ : ∃ W, W = wr := ⟨_, rfl⟩
   go_wp2_with fail
   refine (qmText_any ((ak, false)) _ hq.out.q).mono ?_
   rintro e w2 ⟨rfl, hr⟩
   have Q2 := Lib.hid (hq.out.call hr)
   obtain ⟨l0, hl0⟩ : ∃ x, sb (rtxV bs st ((ak, false))) = x := ⟨_, rfl⟩
   rw [hl0]
   clear hr hq hl0
   clear k2 kgl
   obtain ⟨z, hz⟩ : ∃ x, w2.heap.size = x := ⟨_, rfl⟩
   obtain ⟨w3, hw3⟩ : ∃ W, w2.alloc (.cells #[.string l0, .slice none 0 0] 77) = W := ⟨_, rfl⟩
   have Q3 := Q2.out.alloc #[.string l0, .slice none 0 0] 77
   rw [hw3, hz] at Q3
   replace Q3 := Lib.hid Q3
   have HW3 := Lib.hid hw3
   have Hz := Lib.hid hz
   clear hw3 hz Q2
   go_wp2_with fail
   rw [HW3.out, Hz.out]
   clear HW3 Hz
   refine (qmTwo_any (txS bs st (ak, false)) _ Q3.out.q).mono ?_
   rintro e w4 ⟨rfl, hr⟩
   have Q4 := Lib.hid (Q3.out.call hr)
   have hlm : lsN bs st (txS bs st (ak, false)) < 65536 := lsN_lt
   obtain ⟨m, hm⟩ : ∃ x : Nat, lsN bs st (txS bs st (ak, false)) = x := ⟨_, rfl⟩
   rw [hm] at hlm ⊢
   have Hm := Lib.hid hm
   clear hr Q3 hm
   have HG : Hid (awS bs st (ak, false) = itS (ptS bs st) m (tkS st 2 (txS bs st (ak, false)))) := by
    unfold Hid
    rw [← Hm.out]
    rfl
   obtain ⟨fi2, hfi2⟩ : ∃ x, awS bs st (ak, false) = x := ⟨_, rfl⟩
   rw [hfi2] at HG
   have HFI2 := Lib.hid hfi2
   have QR := Lib.hid (Q4.out.row 81 4)
   clear Q4 hfi2
   go_wp2
   go_loopw [12] (fun jv wr => ∃ (j : Nat) (lv : Value) (zs : List Value) (sj : RS), j ≤ m ∧ jv = .int .i64 (j : Int) ∧ Hid (itS (ptS bs st) (m - j) sj = fi2) ∧ Hid (QS g gb ob c st bs (fun k => k = g ∨ k = d) w sj [(z, #[.string l0, lv], 77), (d, #[.string (sb hd.nm), .int .i64 hd.cy, .int .i64 hd.fr, .int .i64 hd.tu, .int .i64 hd.la, .int .i64 hd.lo, .slice Af nf cf, .slice Av nv cv, .slice Ap np cp], 30)] [⟨81, 4, lv, j, zs⟩, ⟨77, 2, .slice Av nv cv, k, xs⟩] wr)) (fun jv _ => m - (intOf jv).toNat)
   case atStart => exact ⟨0, _, _, _, Nat.zero_le _, rfl, HG.out.symm, QR.out⟩
   case round =>
    obtain ⟨j, lv, zs, sj, hj, rfl, hit2, hq2⟩ := hrel
    obtain ⟨aj, bj⟩ := sj
    obtain ⟨Al, nl, cl, rfl⟩ := own_form hq2.out.r0
    have k2 := hq2.out.q.bx.cell 2 (u := .bool (!bj)) rfl
    have kgl := hq2.out.q.lt
    clear QR HG
    by_cases hgo : j < m ∧ bj = false
    ·obtain ⟨hlt2, rfl⟩ := hgo
     have hji : (j : Int) < (m : Int) := by omega
     go_wp2_with fail
     refine (qmText_any ((aj, false)) _ hq2.out.q).mono ?_
     rintro e w5 ⟨rfl, hr⟩
     have Q5 := Lib.hid (hq2.out.call hr)
     obtain ⟨c0, hc0⟩ : ∃ x, sb (rtxV bs st ((aj, false))) = x := ⟨_, rfl⟩
     rw [hc0]
     clear hr hq2 hc0
     clear k2 kgl
     obtain ⟨x, hx⟩ : ∃ x, w5.heap.size = x := ⟨_, rfl⟩
     obtain ⟨w6, hw6⟩ : ∃ W, w5.alloc (.cells #[.string c0, .int .i64 0, .int .i64 0, .int .u8 0] 81) = W := ⟨_, rfl⟩
     have Q6 := Q5.out.alloc #[.string c0, .int .i64 0, .int .i64 0, .int .u8 0] 81
     rw [hw6, hx] at Q6
     replace Q6 := Lib.hid Q6
     have HW6 := Lib.hid hw6
     have Hx := Lib.hid hx
     clear hw6 hx Q5
     go_wp2_with fail
     rw [HW6.out, Hx.out]
     clear HW6 Hx
     refine (qm8_any (txS bs st (aj, false)) _ Q6.out.q).mono ?_
     rintro e w7 ⟨rfl, hr⟩
     have Q7 := Lib.hid (Q6.out.call hr)
     obtain ⟨c1, hc1⟩ : ∃ x, n8V bs st (txS bs st (aj, false)) = x := ⟨_, rfl⟩
     rw [hc1]
     clear hr Q6 hc1
     have kc := Q7.out.x0.cell 1 rfl
     have kf := Q7.out.x0.free 1
     have kl := Q7.out.x0.lt
     have Q8 := Lib.hid (QS.s0_4_1 Q7.out (.int .i64 c1))
     clear Q7
     go_wp2_with fail
     clear kc kf kl
     refine (qm8_any (n8S st (txS bs st (aj, false))) _ Q8.out.q).mono ?_
     rintro e w9 ⟨rfl, hr⟩
     have Q9 := Lib.hid (Q8.out.call hr)
     obtain ⟨c2, hc2⟩ : ∃ x, n8V bs st (n8S st (txS bs st (aj, false))) = x := ⟨_, rfl⟩
     rw [hc2]
     clear hr Q8 hc2
     have kc := Q9.out.x0.cell 2 rfl
     have kf := Q9.out.x0.free 2
     have kl := Q9.out.x0.lt
     have Q10 := Lib.hid (QS.s0_4_2 Q9.out (.int .i64 c2))
     clear Q9
     go_wp2_with fail
     clear kc kf kl
     refine (qmByte_any (n8S st (n8S st (txS bs st (aj, false)))) _ Q10.out.q).mono ?_
     rintro e w11 ⟨rfl, hr⟩
     have Q11 := Lib.hid (Q10.out.call hr)
     have hbc3 := (byV bs st (n8S st (n8S st (txS bs st (aj, false))))).toNat_lt
     obtain ⟨c3, hc3⟩ : ∃ x : Nat, (byV bs st (n8S st (n8S st (txS bs st (aj, false))))).toNat = x := ⟨_, rfl⟩
     rw [hc3] at hbc3 ⊢
     have huc3 : IntKind.u8.wrap (c3 : Int) = (c3 : Int) := by rw [IntKind.wrap_u8']; omega
     clear hr Q10 hc3
     have kc := Q11.out.x0.cell 3 rfl
     have kf := Q11.out.x0.free 3
     have kl := Q11.out.x0.lt
     have Q12 := Lib.hid (QS.s0_4_3 Q11.out (.int .u8 (c3 : Int)))
     clear Q11
     obtain ⟨we, hwe⟩ : ∃ W, w11.setCell ⟨x, 3, none⟩ (.int .u8 (c3 : Int)) = W := ⟨_, rfl⟩
     rw [hwe] at Q12
     have HWE := Lib.hid hwe
     have QE := Lib.hid Q12.out
     rw [show tkS st 1 (n8S st (n8S st (txS bs st (aj, false)))) = ptS bs st (aj, false) from rfl] at QE
     clear Q12 hwe
     go_upto_region 32 with fail
     rw [HWE.out]
     clear HWE kc kf kl
     have kx0 := QE.out.x0.cell 0 (u := .string c0) rfl
     have kx1 := QE.out.x0.cell 1 (u := .int .i64 c1) rfl
     have kx2 := QE.out.x0.cell 2 (u := .int .i64 c2) rfl
     have kx3 := QE.out.x0.cell 3 (u := .int .u8 (c3 : Int)) rfl
     have kxl := QE.out.x0.lt
     have kc := QE.out.x1.cell 1 (u := .slice Al nl cl) rfl
     have kl := QE.out.x1.lt
     go_wp2_with (first | (at_builtin; refine wpList_append_lies _ rfl _ _ 75 rfl w.heap.size 81 il (.agg #[.string ⟨#[]⟩, .int .i64 0, .int .i64 0, .int .u8 0]) 4 40 Tryz.underlying75 hil hy0 hy1 hy2 rfl (by decide) _ _ _ rfl (QE.out.r0.alloc _) ⟨we.heap.size, 0, none⟩ 1 1 [.string c0, .int .i64 c1, .int .i64 c2, .int .u8 (c3 : Int)] rfl rfl (World.news_of_block (heap_alloc_new we _)) ?c2 (by decide) ?c3 ?c4 ?c5 _ rfl ?_))
     case c2 => intro u hu; simp only [List.mem_cons, List.not_mem_nil, or_false] at hu; rcases hu with rfl | rfl | rfl | rfl <;> rfl
     case c3 => unfold maxLen; omega
     case c4 => omega
     case c5 => have := QE.out.f.size; simp; omega
     intro gg cap w3 hown3 hgrow3 hor hgg
     have Q3 := Lib.hid ((QE.out.below ((Below.refl _ _).alloc (Nat.le_refl _) _)).push hown3 hgrow3 (fun kk hkk => by
      have e : gg = kk := by simpa [Value.ownBlock] using hkk
      subst e
      rcases hor with h1 | h1
      ·exact .inl h1
      ·exact .inr (by rw [h1]; first | exact Nat.le_refl _ | simp)))
     clear kc kl kx0 kx1 kx2 kx3 kxl
     have kc := Q3.out.x1.cell 1 (u := .slice Al nl cl) rfl
     have kf := Q3.out.x1.free 1
     have kl := Q3.out.x1.lt
     have Q4 := Lib.hid (QS.s0_2_1 Q3.out.pop (.slice (some ⟨gg, 0, none⟩) (j + 1) cap))
     have HN2 : Hid (itS (ptS bs st) (m - (j + 1)) (ptS bs st (aj, false)) = fi2) := it_on hit2.out hlt2 rfl
     clear hown3 hgrow3 hor hgg QE Q3
     go_wp2
     go_roundw
     case rel => exact ⟨j + 1, _, _, _, hlt2, by go_num, HN2, Q4.out⟩
     case measure => simp [intOf]; omega
    ·have HE : Hid ((aj, bj) = fi2) := it_end hit2.out (by
      by_cases h1 : j < m
      ·exact .inr (by cases bj with
        | true => rfl
        | false => exact absurd ⟨h1, rfl⟩ hgo)
      ·exact .inl h1)
     have hex : ¬ j < m ∨ (j < m ∧ bj = true) := by
      by_cases h1 : j < m
      ·exact .inr ⟨h1, by cases bj with
        | true => rfl
        | false => exact absurd ⟨h1, rfl⟩ hgo⟩
      ·exact .inl h1
     rw [HE.out] at hq2
     have QE := Lib.hid hq2.out.popR
     clear hgo hit2 hq2
     rcases hex with hlt2 | ⟨hlt2, rfl⟩
     all_goals
      go_upto_region 33 with fail
      clear k2 kgl
      have kx0 := QE.out.x0.cell 0 (u := .string l0) rfl
      have kx1 := QE.out.x0.cell 1 (u := .slice Al nl cl) rfl
      have kxl := QE.out.x0.lt
      have kv := QE.out.x1.cell 7 (u := .slice Av nv cv) rfl
      have kf := QE.out.x1.free 7
      have kl := QE.out.x1.lt
      have hown := QE.out.r0
      have hlt0 := hown.lt
      have hsz := QE.out.f.size
      have nbw : (Value.slice Av nv cv).ownBlock ≠ some d := fun e => (QE.out.dj _ List.mem_cons_self d e (d, _, _) (List.mem_cons_of_mem _ List.mem_cons_self)) rfl
      have kva := Lib.hid (fun o => (((Below.refl wr.heap.size wr).alloc (Nat.le_refl _) o).drew.cell (p := ⟨d, 7, none⟩) kl).trans kv)
      have kfa := Lib.hid (fun o => (((Below.refl wr.heap.size wr).alloc (Nat.le_refl _) o).drew.frozen (p := ⟨d, 7, none⟩) kl).trans kf)
      have ksz : Hid (∀ o, d < (wr.alloc o).drew.heap.size) := fun o => by show d < (wr.alloc o).heap.size; rw [World.size_alloc]; omega
      go_region_law (
        (refine step_append_lies _ (by rfl) _ _ _ (by rfl) w.heap.size 77 ie (.agg #[.string ⟨#[]⟩, .slice none 0 0]) 2 40 Tryz.underlying27 hie hz0 hz1 hz2 rfl (by omega) (.slice Av nv cv) k xs (by rfl) (by first | exact (hown.alloc _).drew | exact (hown.drew).alloc _) ⟨wr.heap.size, 0, none⟩ 1 1 [.string l0, .slice Al nl cl] (by rfl) (by rfl) (World.news_of_block (cs := #[.string l0, .slice Al nl cl]) (t := 77) (fr := (0, 0)) (heap_alloc_new wr _)) (by simp [Value.oneCell']) (by omega) (by unfold maxLen; omega) (by omega) (by simp; omega) (wr.heap.size + 1) (by simp) ?_; intro gg cap w3 hown3 hgrow hat hlt3; have kv3 : w3.cell? ⟨d, 7, none⟩ = some (.slice Av nv cv) := (hgrow.cell_far ⟨d, 7, none⟩ (ksz.out _) (Ne.symm nbw)).trans (kva.out _); have kf3 : w3.frozen? ⟨d, 7, none⟩ = false := (hgrow.frozen_far ⟨d, 7, none⟩ (ksz.out _) (Ne.symm nbw)).trans (kfa.out _)))
      all_goals
       have Q3 := ((QE.out.below (((Below.refl _ _).alloc (Nat.le_refl _) _).drew)).push hown3 hgrow (fun kk hkk => by
        have e : gg = kk := by simpa [Value.ownBlock] using hkk
        subst e
        rcases hat with h1 | h1
        ·exact .inl h1
        ·exact .inr (by rw [h1]; simp)))
       have Q4 := Lib.hid ((QS.s1_9_7 Q3 (.slice (some ⟨gg, 0, none⟩) (k + 1) cap)).pop)
       clear Q3 hown3 hgrow hat hlt3 kv3 kf3 kv kf kl hown kva kfa ksz nbw hlt0 hsz
       have HN2 : Hid (itS (awS bs st) (n - (k + 1)) fi2 = fin) := it_on hit.out hlt HFI2.out
       clear QE kx0 kx1 kxl
       go_wp2
       go_roundw
       case rel => exact ⟨k + 1, _, _, _, hlt, by go_num, HN2, Q4.out⟩
       case measure => simp [intOf]; omega
  ·have HE : Hid ((ak, bk) = fin) := it_end hit.out (by
    by_cases h1 : k < n
    ·exact .inr (by cases bk with
      | true => rfl
      | false => exact absurd ⟨h1, rfl⟩ hgo)
    ·exact .inl h1)
   have hex : ¬ k < n ∨ (k < n ∧ bk = true) := by
    by_cases h1 : k < n
    ·exact .inr ⟨h1, by cases bk with
      | true => rfl
      | false => exact absurd ⟨h1, rfl⟩ hgo⟩
    ·exact .inl h1
   rw [HE.out] at hq
   have HP : Hid (SecQPost g gb ob c st bs s 3 d hd (.slice Af nf cf) (.slice none 0 0) (.slice Ap np cp) w (.returned (.int .i64 (n : Int))) wr) := by
    unfold Hid SecQPost
    rw [HNM.out, HFIN.out]
    exact ⟨rfl, hq.out.q, hq.out.f, hd, _, _, _, hq.out.x0, ⟨_, _, _, rfl⟩, ⟨_, _, _, rfl⟩, ⟨_, _, _, rfl⟩, fun h => absurd h (by decide), fun _ => rfl, fun h => absurd h (by decide), fun h => absurd h (by decide), fun h => rfl⟩
   clear hgo hit hq
   rcases hex with hlt | ⟨hlt, rfl⟩
   all_goals
    go_wp2
    go_ret
    exact HP.out
set_option maxRecDepth 100000 in
set_option maxHeartbeats 16000000 in
theorem qmSec4_any {g gb ob c st : Nat} {bs : List UInt8} (s : RS) (d : Nat) (hd : ImHd) (f a p : Value) (w : World) (h : RdQ g gb ob c st bs s w) (hx : Bx d (dbI hd f a p) 30 w) (hdg : d ≠ g) (hdb : d ≠ gb) (hf : IsSl f) (ha : IsSl a) (hp : IsSl p) (h0 : p = .slice none 0 0) :
  Calls Tryz.prog 110 #[.pointer (some ⟨d, 0, none⟩), .pointer (some ⟨g, 0, none⟩), .int .i64 4] w (SecQPost g gb ob c st bs s 4 d hd f a p w) := by
 subst h0
 obtain ⟨Af, nf, cf, rfl⟩ := hf
 obtain ⟨Aa, na, ca, rfl⟩ := ha
 obtain ⟨ie, hie, hz0, hz1, hz2⟩ := info_parts info_imLsProc
 have QX : QS g gb ob c st bs (fun k => k = g ∨ k = d) w s [(d, #[.string (sb hd.nm), .int .i64 hd.cy, .int .i64 hd.fr, .int .i64 hd.tu, .int .i64 hd.la, .int .i64 hd.lo, .slice Af nf cf, .slice Aa na ca, .slice none 0 0], 30)] [] w := (QS.start (S := fun k => k = g ∨ k = d) h (.inl rfl)).box hx hdg hdb (.inl (.inr rfl)) (by simp) (by simp)
 have Q0 := Lib.hid QX
 clear h hx QX
 have HSS : Hid (secS bs st 4 s = itS (prS bs st) (lsN bs st s) (tkS st 2 s)) := by unfold Hid; rw [secS_4']; rfl
 have HNM : Hid (secN bs st 4 s = lsN bs st s) := secN_4' bs st s
 go_enter Tryz.func110, Tryz.ntmps110
 go_wp2_with fail
 refine (qmTwo_any (s) _ Q0.out.q).mono ?_
 rintro e w1 ⟨rfl, hr⟩
 have Q1 := Lib.hid (Q0.out.call hr)
 have hln : lsN bs st (s) < 65536 := lsN_lt
 obtain ⟨n, hn⟩ : ∃ x : Nat, lsN bs st (s) = x := ⟨_, rfl⟩
 rw [hn] at hln ⊢
 have Hn := Lib.hid hn
 clear hr Q0 hn
 rw [Hn.out] at HSS HNM
 obtain ⟨fin, hfin⟩ : ∃ x, secS bs st 4 s = x := ⟨_, rfl⟩
 rw [hfin] at HSS
 have HFIN := Lib.hid hfin
 have QR := Lib.hid (Q1.out.row 85 4)
 clear Q1 hfin
 go_wp2
 go_loopw [8] (fun iv wr => ∃ (k : Nat) (fv : Value) (xs : List Value) (sk : RS), k ≤ n ∧ iv = .int .i64 (k : Int) ∧ Hid (itS (prS bs st) (n - k) sk = fin) ∧ Hid (QS g gb ob c st bs (fun k => k = g ∨ k = d) w sk [(d, #[.string (sb hd.nm), .int .i64 hd.cy, .int .i64 hd.fr, .int .i64 hd.tu, .int .i64 hd.la, .int .i64 hd.lo, .slice Af nf cf, .slice Aa na ca, fv], 30)] [⟨85, 4, fv, k, xs⟩] wr)) (fun iv _ => n - (intOf iv).toNat)
 case atStart => exact ⟨0, _, _, _, Nat.zero_le _, rfl, HSS.out.symm, QR.out⟩
 case round =>
  obtain ⟨k, fv, xs, sk, hk, rfl, hit, hq⟩ := hrel
  obtain ⟨ak, bk⟩ := sk
  obtain ⟨Av, nv, cv, rfl⟩ := own_form hq.out.r0
  have k2 := hq.out.q.bx.cell 2 (u := .bool (!bk)) rfl
  have kgl := hq.out.q.lt
  clear QR HSS
  by_cases hgo : k < n ∧ bk = false
  ·obtain ⟨hlt, rfl⟩ := hgo
   have hki : (k : Int) < (n : Int) := by omega
   go_upto_region 35 with fail
   clear k2 kgl
   have kv := hq.out.x0.cell 8 (u := .slice Av nv cv) rfl
   have kf := hq.out.x0.free 8
   have kl := hq.out.x0.lt
   have QD : Hid (QS g gb ob c st bs (fun k => k = g ∨ k = d) w (ak, false) _ _ wr.drew) := hq.out.below ((Below.refl _ _).drew)
   have nbw : (Value.slice Av nv cv).ownBlock ≠ some d := fun e => (hq.out.dj _ List.mem_cons_self d e (d, _, _) List.mem_cons_self) rfl
   have NBW := Lib.hid nbw
   have HN2 : Hid (itS (prS bs st) (n - (k + 1)) (prS bs st (ak, false)) = fin) := it_on hit.out hlt rfl
   clear hq
   go_region_law (first
    | (go_simp; go_at_call 158; refine (qmProc_any (ak, false) _ QD.out.q).mono ?_; rintro e w2 ⟨⟨a0, b0, k0, A0, n0, c0, rfl⟩, hr2⟩; have Q2 := Lib.hid (QD.out.call hr2); have kv2 := Q2.out.x0.cell 8 (u := .slice Av nv cv) rfl; have kf2 := Q2.out.x0.free 8; have kl2 := Q2.out.x0.lt; have hown2 := Q2.out.r0; have hlt2 := hown2.lt; have hsz2 := Q2.out.f.size; clear hr2)
    | (refine step_append_lies _ (by rfl) _ _ _ (by rfl) w.heap.size 85 ie (.agg #[.string ⟨#[]⟩, .string ⟨#[]⟩, .int .u8 0, .slice none 0 0]) 4 64 Tryz.underlying28 hie hz0 hz1 hz2 rfl (by omega) (.slice Av nv cv) k xs (by rfl) (by first | exact (hown2.alloc _)) ⟨w2.heap.size, 0, none⟩ 1 1 [.string a0, .string b0, .int .u8 k0, .slice A0 n0 c0] (by rfl) (by rfl) (World.news_of_block (cs := #[.string a0, .string b0, .int .u8 k0, .slice A0 n0 c0]) (t := 85) (fr := (0, 0)) (heap_alloc_new w2 _)) (by simp [Value.oneCell']) (by omega) (by unfold maxLen; omega) (by omega) (by simp; omega) (w2.heap.size + 1) (by simp) ?_; intro gg cap w3 hown3 hgrow hat hlt3; have kv3 : w3.cell? ⟨d, 8, none⟩ = some (.slice Av nv cv) := (hgrow.cell_far ⟨d, 8, none⟩ (by simp; omega) (Ne.symm NBW.out)).trans ((((Below.refl w2.heap.size w2).alloc (Nat.le_refl _) _).cell (p := ⟨d, 8, none⟩) kl2).trans kv2); have kf3 : w3.frozen? ⟨d, 8, none⟩ = false := (hgrow.frozen_far ⟨d, 8, none⟩ (by simp; omega) (Ne.symm NBW.out)).trans ((((Below.refl w2.heap.size w2).alloc (Nat.le_refl _) _).frozen (p := ⟨d, 8, none⟩) kl2).trans kf2)))
   all_goals
    have Q3 := ((Q2.out.below ((Below.refl _ _).alloc (Nat.le_refl _) _)).push hown3 hgrow (fun kk hkk => by
     have e : gg = kk := by simpa [Value.ownBlock] using hkk
     subst e
     rcases hat with h1 | h1
     ·exact .inl h1
     ·exact .inr (by rw [h1]; simp)))
    have Q4 := Lib.hid (QS.s0_9_8 Q3 (.slice (some ⟨gg, 0, none⟩) (k + 1) cap))
    clear Q3 hown3 hgrow hat hlt3 kv3 kf3 kv kf kl hown2 kv2 kf2 kl2 hlt2 hsz2 nbw Q2 QD
    go_wp2
    go_roundw
    case rel => exact ⟨k + 1, _, _, _, hlt, by go_num, HN2, Q4.out⟩
    case measure => simp [intOf]; omega
  ·have HE : Hid ((ak, bk) = fin) := it_end hit.out (by
    by_cases h1 : k < n
    ·exact .inr (by cases bk with
      | true => rfl
      | false => exact absurd ⟨h1, rfl⟩ hgo)
    ·exact .inl h1)
   have hex : ¬ k < n ∨ (k < n ∧ bk = true) := by
    by_cases h1 : k < n
    ·exact .inr ⟨h1, by cases bk with
      | true => rfl
      | false => exact absurd ⟨h1, rfl⟩ hgo⟩
    ·exact .inl h1
   rw [HE.out] at hq
   have HP : Hid (SecQPost g gb ob c st bs s 4 d hd (.slice Af nf cf) (.slice Aa na ca) (.slice none 0 0) w (.returned (.int .i64 (n : Int))) wr) := by
    unfold Hid SecQPost
    rw [HNM.out, HFIN.out]
    exact ⟨rfl, hq.out.q, hq.out.f, hd, _, _, _, hq.out.x0, ⟨_, _, _, rfl⟩, ⟨_, _, _, rfl⟩, ⟨_, _, _, rfl⟩, fun h => absurd h (by decide), fun _ => rfl, fun h => absurd h (by decide), fun h => absurd h (by decide), fun h => absurd h (by decide)⟩
   clear hgo hit hq
   rcases hex with hlt | ⟨hlt, rfl⟩
   all_goals
    go_wp2
    go_ret
    exact HP.out
end Go.Proofs.YtidkhnfhkofmoaaGreatDoor
