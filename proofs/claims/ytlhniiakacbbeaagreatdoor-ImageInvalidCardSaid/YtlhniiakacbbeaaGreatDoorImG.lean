/-
  Contract: a leg, read out of an image by the program.
-/
import Derived.Test.YtlhniiakacbbeaaGreatDoorMG06
import Derived.Test.YtlhniiakacbbeaaGreatDoorMG07
import Derived.Laws.Tables
namespace Go.Proofs.YtlhniiakacbbeaaGreatDoor
open Go.RowKit
set_option linter.unusedVariables false
set_option linter.unusedSimpArgs false
def legA (bs : List UInt8) (st : Nat) (s : RS) : RS := tkS st 1 (txS bs st (txS bs st (tkS st 1 s)))
def legN (bs : List UInt8) (st : Nat) (s : RS) (k : Nat) : Int := n8V bs st (n8x st k (ovS bs st (legA bs st s)))
def imLegC (bs : List UInt8) (st : Nat) (s : RS) : List Value :=
 [.int .u8 ((byV bs st s).toNat : Int), .string (sb (txV bs st (tkS st 1 s))), .string (sb (txV bs st (txS bs st (tkS st 1 s)))), .int .u8 ((byV bs st (txS bs st (txS bs st (tkS st 1 s)))).toNat : Int), .bool (((byV bs st (legA bs st s)).toNat : Int) == 1),
 .int .i64 (legN bs st s 0), .int .i64 (legN bs st s 1), .int .i64 (legN bs st s 2), .int .i64 (legN bs st s 3), .int .i64 (legN bs st s 4), .int .i64 (legN bs st s 5), .int .i64 (legN bs st s 6), .int .i64 (legN bs st s 7)]
def imLegR (bs : List UInt8) (st : Nat) (s : RS) (cs : List Value) : Prop := cs = imLegC bs st s
theorem aggLeg (w : World) : (isAgg 65).run Tryz.prog w = .ok true w := by kernel_rfl
theorem sizeLeg (w : World) : (Go.sizeOf 65).run Tryz.prog w = .ok 13 w := by kernel_rfl
theorem infoLegS : (Tryz.prog.info? 65).map (·.size) = some 13 := by kernel_rfl
theorem legC_one (bs : List UInt8) (st : Nat) (s : RS) : ∀ u ∈ imLegC bs st s, u.oneCell' = true := by
 intro u hu
 unfold imLegC at hu
 simp only [List.mem_cons, List.not_mem_nil, or_false] at hu
 rcases hu with rfl | rfl | rfl | rfl | rfl | rfl | rfl | rfl | rfl | rfl | rfl | rfl | rfl <;> rfl
theorem len13 {l : List Value} (h : l.length = 13) : ∃ v0 v1 v2 v3 v4 v5 v6 v7 v8 v9 v10 v11 v12, l = [v0, v1, v2, v3, v4, v5, v6, v7, v8, v9, v10, v11, v12] := by
 match l, h with
 | [v0, v1, v2, v3, v4, v5, v6, v7, v8, v9, v10, v11, v12], _ => exact ⟨_, _, _, _, _, _, _, _, _, _, _, _, _, rfl⟩
theorem ImB.row {g gb ob c st q : Nat} {bs : List UInt8} {cs : Array Value} {T : TypeId} {s : RS} {w w1 : World} (h : ImB g gb ob c st bs q cs T s w w1) (vs : Array Value) (hq : w.heap.size = q) : Bx q vs T (w1.setRow q vs) ∧ RdPTo g gb ob c st bs s w (w1.setRow q vs) := by
 have hx := setRow_heap w1 q cs vs T (0, 0) h.x
 have hf : Frm (· = q) w1 (w1.setRow q vs) := ⟨rfl, rfl, rfl, by simp [World.setRow], fun k hk hn => setRow_other w1 q k vs hn⟩
 refine ⟨hx, h.r.r.keep hf (fun e => h.ne e.symm) h.nb, ⟨hf.os.trans h.r.f.os, hf.tape.trans h.r.f.tape, hf.output.trans h.r.f.output, Nat.le_trans h.r.f.size hf.size, fun k hk hn => ?_⟩⟩
 exact (hf.block k (Nat.lt_of_lt_of_le hk h.r.f.size) (by omega)).trans (h.r.f.block k hk hn)
theorem Bx.l4 {b : Nat} {x0 x1 x2 x3 x4 x5 x6 x7 x8 x9 x10 x11 x12 : Value} {t : TypeId} {w : World} (h : Bx b #[x0, x1, x2, x3, x4, x5, x6, x7, x8, x9, x10, x11, x12] t w) (u : Value) : Bx b #[x0, x1, x2, x3, u, x5, x6, x7, x8, x9, x10, x11, x12] t (w.setCell ⟨b, 4, none⟩ u) := h.set 4 u
theorem Bx.l5 {b : Nat} {x0 x1 x2 x3 x4 x5 x6 x7 x8 x9 x10 x11 x12 : Value} {t : TypeId} {w : World} (h : Bx b #[x0, x1, x2, x3, x4, x5, x6, x7, x8, x9, x10, x11, x12] t w) (u : Value) : Bx b #[x0, x1, x2, x3, x4, u, x6, x7, x8, x9, x10, x11, x12] t (w.setCell ⟨b, 5, none⟩ u) := h.set 5 u
theorem Bx.l6 {b : Nat} {x0 x1 x2 x3 x4 x5 x6 x7 x8 x9 x10 x11 x12 : Value} {t : TypeId} {w : World} (h : Bx b #[x0, x1, x2, x3, x4, x5, x6, x7, x8, x9, x10, x11, x12] t w) (u : Value) : Bx b #[x0, x1, x2, x3, x4, x5, u, x7, x8, x9, x10, x11, x12] t (w.setCell ⟨b, 6, none⟩ u) := h.set 6 u
theorem Bx.l7 {b : Nat} {x0 x1 x2 x3 x4 x5 x6 x7 x8 x9 x10 x11 x12 : Value} {t : TypeId} {w : World} (h : Bx b #[x0, x1, x2, x3, x4, x5, x6, x7, x8, x9, x10, x11, x12] t w) (u : Value) : Bx b #[x0, x1, x2, x3, x4, x5, x6, u, x8, x9, x10, x11, x12] t (w.setCell ⟨b, 7, none⟩ u) := h.set 7 u
theorem Bx.l8 {b : Nat} {x0 x1 x2 x3 x4 x5 x6 x7 x8 x9 x10 x11 x12 : Value} {t : TypeId} {w : World} (h : Bx b #[x0, x1, x2, x3, x4, x5, x6, x7, x8, x9, x10, x11, x12] t w) (u : Value) : Bx b #[x0, x1, x2, x3, x4, x5, x6, x7, u, x9, x10, x11, x12] t (w.setCell ⟨b, 8, none⟩ u) := h.set 8 u
theorem Bx.l9 {b : Nat} {x0 x1 x2 x3 x4 x5 x6 x7 x8 x9 x10 x11 x12 : Value} {t : TypeId} {w : World} (h : Bx b #[x0, x1, x2, x3, x4, x5, x6, x7, x8, x9, x10, x11, x12] t w) (u : Value) : Bx b #[x0, x1, x2, x3, x4, x5, x6, x7, x8, u, x10, x11, x12] t (w.setCell ⟨b, 9, none⟩ u) := h.set 9 u
theorem Bx.l10 {b : Nat} {x0 x1 x2 x3 x4 x5 x6 x7 x8 x9 x10 x11 x12 : Value} {t : TypeId} {w : World} (h : Bx b #[x0, x1, x2, x3, x4, x5, x6, x7, x8, x9, x10, x11, x12] t w) (u : Value) : Bx b #[x0, x1, x2, x3, x4, x5, x6, x7, x8, x9, u, x11, x12] t (w.setCell ⟨b, 10, none⟩ u) := h.set 10 u
theorem Bx.l11 {b : Nat} {x0 x1 x2 x3 x4 x5 x6 x7 x8 x9 x10 x11 x12 : Value} {t : TypeId} {w : World} (h : Bx b #[x0, x1, x2, x3, x4, x5, x6, x7, x8, x9, x10, x11, x12] t w) (u : Value) : Bx b #[x0, x1, x2, x3, x4, x5, x6, x7, x8, x9, x10, u, x12] t (w.setCell ⟨b, 11, none⟩ u) := h.set 11 u
theorem Bx.l12 {b : Nat} {x0 x1 x2 x3 x4 x5 x6 x7 x8 x9 x10 x11 x12 : Value} {t : TypeId} {w : World} (h : Bx b #[x0, x1, x2, x3, x4, x5, x6, x7, x8, x9, x10, x11, x12] t w) (u : Value) : Bx b #[x0, x1, x2, x3, x4, x5, x6, x7, x8, x9, x10, x11, u] t (w.setCell ⟨b, 12, none⟩ u) := h.set 12 u
theorem RdPTo.box {g gb ob c st q : Nat} {bs : List UInt8} {s : RS} {cs : Array Value} {T : TypeId} {w1 w2 : World} (k : RdPTo g gb ob c st bs s w1 w2) (hx : Bx q cs T w1) (hne : q ≠ g) : Bx q cs T w2 := (k.f.block q hx.lt hne).trans hx
theorem ImB.alloc {g gb ob c st q : Nat} {bs : List UInt8} {cs : Array Value} {T : TypeId} {s : RS} {w w1 : World} (h : ImB g gb ob c st bs q cs T s w w1) (o : Obj) : ImB g gb ob c st bs q cs T s w (w1.alloc o) := by
 have hb := (Below.refl w1.heap.size w1).alloc (Nat.le_refl _) o
 exact ⟨⟨h.r.r.below hb, h.r.f.trans (Frm.of_below hb)⟩, h.x.via hb, h.ne, h.nb⟩
theorem ImB.put {g gb ob c st q b : Nat} {bs : List UInt8} {cs : Array Value} {T : TypeId} {s : RS} {w w1 : World} (h : ImB g gb ob c st bs q cs T s w w1) (hb : w.heap.size ≤ b) (h1 : b ≠ g) (h2 : b ≠ gb) (h3 : b ≠ q) (j : Nat) (u : Value) : ImB g gb ob c st bs q cs T s w (w1.setCell ⟨b, j, none⟩ u) := by
 have hf := frm_set w1 b j u
 refine ⟨⟨h.r.r.keep hf (fun e => h1 e.symm) (fun e => h2 e.symm), ⟨hf.os.trans h.r.f.os, hf.tape.trans h.r.f.tape, hf.output.trans h.r.f.output, Nat.le_trans h.r.f.size hf.size, fun k hk hn => ?_⟩⟩, (hf.block q h.x.lt (fun e => h3 e.symm)).trans h.x, h.ne, h.nb⟩
 exact (hf.block k (Nat.lt_of_lt_of_le hk h.r.f.size) (by omega)).trans (h.r.f.block k hk hn)
theorem ImB.failB {g gb ob c st q : Nat} {bs : List UInt8} {cs : Array Value} {T : TypeId} {s : RS} {w w1 : World} (h : ImB g gb ob c st bs q cs T s w w1) : ImB g gb ob c st bs q cs T (s.1, true) w (w1.setCell ⟨g, 3, none⟩ (.bool true)) := by
 obtain ⟨a, b⟩ := s
 exact h.then_ h.r.r.fail
set_option maxRecDepth 100000 in
set_option maxHeartbeats 16000000 in
theorem imLeg_any {g gb ob c st : Nat} {bs : List UInt8} (s : RS) (w : World) (h : RdP g gb ob c st bs s w) :
  Calls Tryz.prog 282 #[.pointer (some ⟨g, 0, none⟩)] w fun e w' => (∃ cs, e = .returned (.agg cs) ∧ imLegR bs st s cs.toList) ∧ RdPTo g gb ob c st bs (leS bs st s) w w' := by
 have hgl := h.lt
 have hgb := h.by_.1
 obtain ⟨w0, hw0⟩ : ∃ W, w.alloc (.cells #[.int .u8 0, .string ⟨#[]⟩, .string ⟨#[]⟩, .int .u8 0, .bool false, .int .i64 0, .int .i64 0, .int .i64 0, .int .i64 0, .int .i64 0, .int .i64 0, .int .i64 0, .int .i64 0] 65) = W := ⟨_, rfl⟩
 have I0 : Hid (ImB g gb ob c st bs w.heap.size #[.int .u8 0, .string ⟨#[]⟩, .string ⟨#[]⟩, .int .u8 0, .bool false, .int .i64 0, .int .i64 0, .int .i64 0, .int .i64 0, .int .i64 0, .int .i64 0, .int .i64 0, .int .i64 0] 65 s w w0) := by
  rw [← hw0]; exact ⟨⟨h.below ((Below.refl _ _).alloc (Nat.le_refl _) _), Frm.of_below ((Below.refl _ _).alloc (Nat.le_refl _) _)⟩, Bx.last _ _ _, by omega, by omega⟩
 have hs0 : w0.heap.size = w.heap.size + 1 := by rw [← hw0, World.size_alloc]
 obtain ⟨q, hq⟩ : ∃ q, w.heap.size = q := ⟨_, rfl⟩
 rw [hq] at I0 hgl hgb hs0
 have HQ := Lib.hid hq
 have HS0 := Lib.hid hs0
 clear h hs0
 go_enter Tryz.func282, Tryz.ntmps282
 go_wp2_with fail
 try rw [hw0]
 try rw [hq]
 clear hw0 hq
 refine (imByte_any s _ I0.out.r.r).mono ?_
 rintro e w1 ⟨rfl, hr⟩
 have I1 := Lib.hid (I0.out.then_ hr)
 clear hr
 go_wp2_with fail
 refine (imText_any _ _ I1.out.r.r).mono ?_
 rintro e w2 ⟨rfl, hr⟩
 have I2 := Lib.hid (I1.out.then_ hr)
 clear hr I1
 go_wp2_with fail
 refine (imText_any _ _ I2.out.r.r).mono ?_
 rintro e w3 ⟨rfl, hr⟩
 have I3 := Lib.hid (I2.out.then_ hr)
 clear hr I2
 go_wp2_with fail
 refine (imByte_any _ _ I3.out.r.r).mono ?_
 rintro e w4 ⟨rfl, hr⟩
 have I4 := Lib.hid (I3.out.then_ hr)
 clear hr I3
 have HA : Hid (legA bs st s = tkS st 1 (txS bs st (txS bs st (tkS st 1 s)))) := rfl
 obtain ⟨sa, hsa⟩ : ∃ x, legA bs st s = x := ⟨_, rfl⟩
 rw [← HA.out, hsa] at I4
 have HSA := Lib.hid hsa
 obtain ⟨q1, hq1⟩ : ∃ x, w4.heap.size = x := ⟨_, rfl⟩
 have hq1q : q < q1 := by rw [← hq1]; exact I4.out.x.lt
 have hq1w : w.heap.size ≤ q1 := by rw [HQ.out]; omega
 obtain ⟨w5, hw5⟩ : ∃ W, w4.alloc (.cells #[.int .u8 ((byV bs st s).toNat : Int), .string (sb (txV bs st (tkS st 1 s))), .string (sb (txV bs st (txS bs st (tkS st 1 s)))), .int .u8 ((byV bs st (txS bs st (txS bs st (tkS st 1 s)))).toNat : Int), .bool false, .int .i64 0, .int .i64 0, .int .i64 0, .int .i64 0, .int .i64 0, .int .i64 0, .int .i64 0, .int .i64 0] 65) = W := ⟨_, rfl⟩
 have I5 : Hid (ImB g gb ob c st bs q #[.int .u8 0, .string ⟨#[]⟩, .string ⟨#[]⟩, .int .u8 0, .bool false, .int .i64 0, .int .i64 0, .int .i64 0, .int .i64 0, .int .i64 0, .int .i64 0, .int .i64 0, .int .i64 0] 65 sa w w5) := by rw [← hw5]; exact I4.out.alloc _
 have X5 : Hid (Bx q1 #[.int .u8 ((byV bs st s).toNat : Int), .string (sb (txV bs st (tkS st 1 s))), .string (sb (txV bs st (txS bs st (tkS st 1 s)))), .int .u8 ((byV bs st (txS bs st (txS bs st (tkS st 1 s)))).toNat : Int), .bool false, .int .i64 0, .int .i64 0, .int .i64 0, .int .i64 0, .int .i64 0, .int .i64 0, .int .i64 0, .int .i64 0] 65 w5) := by rw [← hw5, ← hq1]; exact Bx.last _ _ _
 have HW5 := Lib.hid hw5
 have HQ1 := Lib.hid hq1
 have h1g : q1 ≠ g := by omega
 have h1b : q1 ≠ gb := by omega
 have h1q : q1 ≠ q := by omega
 clear HA hsa hq1 I4 hw5
 go_wp2_with fail
 rw [HW5.out, HQ1.out]
 clear HW5 HQ1
 refine (imByte_any sa _ I5.out.r.r).mono ?_
 rintro e w6 ⟨rfl, hr⟩
 have I6 := Lib.hid (I5.out.then_ hr)
 have X6 := Lib.hid (hr.box X5.out h1g)
 clear hr I5 X5
 have hov : ovS bs st sa = if 1 < (byV bs st sa).toNat then ((tkS st 1 sa).1, true) else tkS st 1 sa := rfl
 have hB8 := (byV bs st sa).toNat_lt
 have HLN : Hid (∀ k, n8V bs st (n8x st k (ovS bs st sa)) = legN bs st s k) := by intro k; unfold legN; rw [HSA.out]
 have HLE : Hid (leS bs st s = n8x st 8 (ovS bs st sa)) := by unfold Hid leS; rw [← HSA.out]; rfl
 have HOB : Hid (imLegC bs st s = [.int .u8 ((byV bs st s).toNat : Int), .string (sb (txV bs st (tkS st 1 s))), .string (sb (txV bs st (txS bs st (tkS st 1 s)))), .int .u8 ((byV bs st (txS bs st (txS bs st (tkS st 1 s)))).toNat : Int), .bool (((byV bs st sa).toNat : Int) == 1), .int .i64 (legN bs st s 0), .int .i64 (legN bs st s 1), .int .i64 (legN bs st s 2), .int .i64 (legN bs st s 3), .int .i64 (legN bs st s 4), .int .i64 (legN bs st s 5), .int .i64 (legN bs st s 6), .int .i64 (legN bs st s 7)]) := by unfold Hid imLegC; rw [HSA.out]
 obtain ⟨B, hB⟩ : ∃ B : Nat, (byV bs st sa).toNat = B := ⟨_, rfl⟩
 rw [hB] at hov hB8 HOB ⊢
 have HOV := Lib.hid hov
 clear hB hov HSA
 have k3 := I6.out.r.r.bx.cell 3 (u := .bool (tkS st 1 sa).2) rfl
 have f3 := I6.out.r.r.bx.free 3
 go_upto_if 17 with (fail)
 go_cut [17] (fun _ wx => Hid (ImB g gb ob c st bs q #[.int .u8 0, .string ⟨#[]⟩, .string ⟨#[]⟩, .int .u8 0, .bool false, .int .i64 0, .int .i64 0, .int .i64 0, .int .i64 0, .int .i64 0, .int .i64 0, .int .i64 0, .int .i64 0] 65 (ovS bs st sa) w wx) ∧ Hid (Bx q1 #[.int .u8 ((byV bs st s).toNat : Int), .string (sb (txV bs st (tkS st 1 s))), .string (sb (txV bs st (txS bs st (tkS st 1 s)))), .int .u8 ((byV bs st (txS bs st (txS bs st (tkS st 1 s)))).toNat : Int), .bool false, .int .i64 0, .int .i64 0, .int .i64 0, .int .i64 0, .int .i64 0, .int .i64 0, .int .i64 0, .int .i64 0] 65 wx))
 case first =>
  rcases Nat.lt_or_ge 1 B with h1 | h1
  ·have h1i : (1 : Int) < (B : Int) := by omega
   have I7 := Lib.hid I6.out.failB
   have X7 : Hid (Bx q1 #[.int .u8 ((byV bs st s).toNat : Int), .string (sb (txV bs st (tkS st 1 s))), .string (sb (txV bs st (txS bs st (tkS st 1 s)))), .int .u8 ((byV bs st (txS bs st (txS bs st (tkS st 1 s)))).toNat : Int), .bool false, .int .i64 0, .int .i64 0, .int .i64 0, .int .i64 0, .int .i64 0, .int .i64 0, .int .i64 0, .int .i64 0] 65 (w6.setCell ⟨g, 3, none⟩ (.bool true))) := ((frm_set w6 g 3 (.bool true)).block q1 X6.out.lt h1g).trans X6.out
   rw [show ((tkS st 1 sa).1, true) = ovS bs st sa by rw [HOV.out, if_pos h1]] at I7
   go_wp2
   go_meet
   exact ⟨I7, X7⟩
  ·have h1i : ¬ (1 : Int) < (B : Int) := by omega
   rw [show tkS st 1 sa = ovS bs st sa by rw [HOV.out, if_neg (by omega)]] at I6
   go_wp2
   go_meet
   exact ⟨I6, X6⟩
 case rest =>
  clear I6 X6 k3 f3
  obtain ⟨I7, X7⟩ := hcut
  obtain ⟨so, hso⟩ : ∃ x, ovS bs st sa = x := ⟨_, rfl⟩
  rw [hso] at I7 HLN HLE
  clear hso HOV
  have k4 := X7.out.cell 4 (u := .bool false) rfl
  have f4 := X7.out.free 4
  have kl := X7.out.lt
  have I8 := Lib.hid (I7.out.put hq1w h1g h1b h1q 4 (.bool ((B : Int) == 1)))
  have X8 := Lib.hid (Bx.l4 X7.out (.bool ((B : Int) == 1)))
  clear I7 X7
  go_wp2_with fail
  clear k4 f4 kl
  refine (imNum_any so _ I8.out.r.r).mono ?_
  rintro e w9 ⟨rfl, hr⟩
  have I9 := Lib.hid (I8.out.then_ hr)
  have X9 := Lib.hid (hr.box X8.out h1g)
  clear hr I8 X8
  rw [show n8V bs st so = legN bs st s 0 from HLN.out 0]
  go_wp2_with fail
  refine (imNum_any (n8x st 1 so) _ I9.out.r.r).mono ?_
  rintro e w10 ⟨rfl, hr⟩
  have I10 := Lib.hid (I9.out.then_ hr)
  have X10 := Lib.hid (hr.box X9.out h1g)
  clear hr I9 X9
  rw [HLN.out 1]
  go_wp2_with fail
  refine (imNum_any (n8x st 2 so) _ I10.out.r.r).mono ?_
  rintro e w11 ⟨rfl, hr⟩
  have I11 := Lib.hid (I10.out.then_ hr)
  have X11 := Lib.hid (hr.box X10.out h1g)
  clear hr I10 X10
  rw [HLN.out 2]
  go_wp2_with fail
  refine (imNum_any (n8x st 3 so) _ I11.out.r.r).mono ?_
  rintro e w12 ⟨rfl, hr⟩
  have I12 := Lib.hid (I11.out.then_ hr)
  have X12 := Lib.hid (hr.box X11.out h1g)
  clear hr I11 X11
  rw [HLN.out 3]
  have k5 := X12.out.cell 5 (u := .int .i64 0) rfl
  have f5 := X12.out.free 5
  have k6 := X12.out.cell 6 (u := .int .i64 0) rfl
  have f6 := X12.out.free 6
  have k7 := X12.out.cell 7 (u := .int .i64 0) rfl
  have f7 := X12.out.free 7
  have k8 := X12.out.cell 8 (u := .int .i64 0) rfl
  have f8 := X12.out.free 8
  have kl := X12.out.lt
  have I13 := Lib.hid ((((I12.out.put hq1w h1g h1b h1q 5 (.int .i64 (legN bs st s 0))).put hq1w h1g h1b h1q 6 (.int .i64 (legN bs st s 1))).put hq1w h1g h1b h1q 7 (.int .i64 (legN bs st s 2))).put hq1w h1g h1b h1q 8 (.int .i64 (legN bs st s 3)))
  have X13 := Lib.hid (Bx.l8 (Bx.l7 (Bx.l6 (Bx.l5 X12.out (.int .i64 (legN bs st s 0))) (.int .i64 (legN bs st s 1))) (.int .i64 (legN bs st s 2))) (.int .i64 (legN bs st s 3)))
  clear I12 X12
  go_wp2_with fail
  clear k5 k6 k7 k8 f5 f6 f7 f8 kl
  refine (imNum_any (n8x st 4 so) _ I13.out.r.r).mono ?_
  rintro e w14 ⟨rfl, hr⟩
  have I14 := Lib.hid (I13.out.then_ hr)
  have X14 := Lib.hid (hr.box X13.out h1g)
  clear hr I13 X13
  rw [HLN.out 4]
  go_wp2_with fail
  refine (imNum_any (n8x st 5 so) _ I14.out.r.r).mono ?_
  rintro e w15 ⟨rfl, hr⟩
  have I15 := Lib.hid (I14.out.then_ hr)
  have X15 := Lib.hid (hr.box X14.out h1g)
  clear hr I14 X14
  rw [HLN.out 5]
  have k9 := X15.out.cell 9 (u := .int .i64 0) rfl
  have f9 := X15.out.free 9
  have k10 := X15.out.cell 10 (u := .int .i64 0) rfl
  have f10 := X15.out.free 10
  have kl := X15.out.lt
  have I16 := Lib.hid ((I15.out.put hq1w h1g h1b h1q 9 (.int .i64 (legN bs st s 4))).put hq1w h1g h1b h1q 10 (.int .i64 (legN bs st s 5)))
  have X16 := Lib.hid (Bx.l10 (Bx.l9 X15.out (.int .i64 (legN bs st s 4))) (.int .i64 (legN bs st s 5)))
  clear I15 X15
  go_wp2_with fail
  clear k9 k10 f9 f10 kl
  refine (imNum_any (n8x st 6 so) _ I16.out.r.r).mono ?_
  rintro e w17 ⟨rfl, hr⟩
  have I17 := Lib.hid (I16.out.then_ hr)
  have X17 := Lib.hid (hr.box X16.out h1g)
  clear hr I16 X16
  rw [HLN.out 6]
  go_wp2_with fail
  refine (imNum_any (n8x st 7 so) _ I17.out.r.r).mono ?_
  rintro e w18 ⟨rfl, hr⟩
  have I18 := Lib.hid (I17.out.then_ hr)
  have X18 := Lib.hid (hr.box X17.out h1g)
  clear hr I17 X17
  rw [HLN.out 7]
  have k11 := X18.out.cell 11 (u := .int .i64 0) rfl
  have f11 := X18.out.free 11
  have k12 := X18.out.cell 12 (u := .int .i64 0) rfl
  have f12 := X18.out.free 12
  have kl := X18.out.lt
  have I19 := Lib.hid ((I18.out.put hq1w h1g h1b h1q 11 (.int .i64 (legN bs st s 6))).put hq1w h1g h1b h1q 12 (.int .i64 (legN bs st s 7)))
  have X19 := Lib.hid (Bx.l12 (Bx.l11 X18.out (.int .i64 (legN bs st s 6))) (.int .i64 (legN bs st s 7)))
  clear I18 X18
  obtain ⟨wz, hwz⟩ : ∃ W, (w18.setCell ⟨q1, 11, none⟩ (.int .i64 (legN bs st s 6))).setCell ⟨q1, 12, none⟩ (.int .i64 (legN bs st s 7)) = W := ⟨_, rfl⟩
  rw [hwz] at I19 X19
  have XZ0 : Hid (Bx q1 #[.int .u8 ((byV bs st s).toNat : Int), .string (sb (txV bs st (tkS st 1 s))), .string (sb (txV bs st (txS bs st (tkS st 1 s)))), .int .u8 ((byV bs st (txS bs st (txS bs st (tkS st 1 s)))).toNat : Int), .bool ((B : Int) == 1), .int .i64 (legN bs st s 0), .int .i64 (legN bs st s 1), .int .i64 (legN bs st s 2), .int .i64 (legN bs st s 3), .int .i64 (legN bs st s 4), .int .i64 (legN bs st s 5), .int .i64 (legN bs st s 6), .int .i64 (legN bs st s 7)] 65 wz) := X19.out
  rw [show n8S st (n8x st 7 so) = leS bs st s by rw [HLE.out]; rfl] at I19
  have HON : Hid (∀ u ∈ imLegC bs st s, u.oneCell' = true) := legC_one bs st s
  have XZ : Hid (Bx q1 (imLegC bs st s).toArray 65 wz) := by unfold Hid; rw [HOB.out]; exact XZ0.out
  have hcl : (imLegC bs st s).length = 13 := rfl
  obtain ⟨CS, hCS⟩ : ∃ l, imLegC bs st s = l := ⟨_, rfl⟩
  rw [hCS] at HON XZ hcl
  have HRS : Hid (imLegR bs st s CS) := hCS.symm
  have HCS : Hid (∀ j u, CS[j]? = some u → wz.cell? ⟨q1, 0 + j, none⟩ = some u) := fun j u hu => by rw [Nat.zero_add]; exact XZ.out.cell j (by simpa using hu)
  have HWZ := Lib.hid hwz
  have F := I19.out.row CS.toArray HQ.out
  have HF := Lib.hid F
  have hqx := I19.out.x
  have HOLD : Hid (wz.heap[q]? = some (.cells #[.int .u8 0, .string ⟨#[]⟩, .string ⟨#[]⟩, .int .u8 0, .bool false, .int .i64 0, .int .i64 0, .int .i64 0, .int .i64 0, .int .i64 0, .int .i64 0, .int .i64 0, .int .i64 0] 65 (0, 0))) := hqx
  have hcs2 : (#[.int .u8 0, .string ⟨#[]⟩, .string ⟨#[]⟩, .int .u8 0, .bool false, .int .i64 0, .int .i64 0, .int .i64 0, .int .i64 0, .int .i64 0, .int .i64 0, .int .i64 0, .int .i64 0] : Array Value).size = CS.toArray.size := by show 13 = CS.length; exact hcl.symm
  have HSZ := Lib.hid hcs2
  have HCL := Lib.hid hcl
  clear hwz X19 XZ0 hCS F hqx hcs2 hcl XZ I19 HLE HLN HOB
  go_upto_region 9 with fail
  rw [HWZ.out]
  clear HWZ k11 k12 f11 f12 kl
  go_wp2_with (first | (with_reducible refine wpList_load_wide rfl 65 (.tmp 3) rfl q1 0 rfl CS 13 HCL.out (aggLeg _) (sizeLeg _) HCS.out ?_) | (refine wpList_plain rfl fun _ hK => wp_store_row 65 (.tmp 2) (.tmp 48) rfl q CS.toArray rfl rfl 65 _ HOLD.out (by rw [List.size_toArray, HCL.out]; exact infoLegS) HSZ.out (by rw [Array.all_eq_true_iff_forall_mem]; intro u hu; exact HON.out u (by simpa using hu)) (hK _ _ ?_)))
  obtain ⟨W9, hW9⟩ : ∃ W, wz.setRow q CS.toArray = W := ⟨_, rfl⟩
  have HF9 := HF.out
  rw [hW9] at HF9 ⊢
  obtain ⟨FX, FR⟩ := HF9
  have HR9 := Lib.hid FR
  have hcl := HCL.out
  clear HF HCL HSZ HCS HON HOLD hW9 FR
  obtain ⟨v0, v1, v2, v3, v4, v5, v6, v7, v8, v9, v10, v11, v12, rfl⟩ := len13 hcl
  have x0 := FX.cell 0 (u := v0) rfl
  have x1 := FX.cell 1 (u := v1) rfl
  have x2 := FX.cell 2 (u := v2) rfl
  have x3 := FX.cell 3 (u := v3) rfl
  have x4 := FX.cell 4 (u := v4) rfl
  have x5 := FX.cell 5 (u := v5) rfl
  have x6 := FX.cell 6 (u := v6) rfl
  have x7 := FX.cell 7 (u := v7) rfl
  have x8 := FX.cell 8 (u := v8) rfl
  have x9 := FX.cell 9 (u := v9) rfl
  have x10 := FX.cell 10 (u := v10) rfl
  have x11 := FX.cell 11 (u := v11) rfl
  have x12 := FX.cell 12 (u := v12) rfl
  refine bodyPost_ret (v := .agg #[v0, v1, v2, v3, v4, v5, v6, v7, v8, v9, v10, v11, v12]) (by simp [results, Tryz.results282, go_sem, x0, x1, x2, x3, x4, x5, x6, x7, x8, x9, x10, x11, x12]; try rfl) rfl ?_
  exact ⟨⟨_, rfl, HRS.out⟩, HR9.out⟩
end Go.Proofs.YtlhniiakacbbeaaGreatDoor
