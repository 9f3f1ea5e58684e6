/-
  Several texts as one.
  Contract: a sealed string is opened by the reference.
  An image's database and sections in memory, while they are read.
  Contracts: bytes and numbers are written into an image.
  The image of the example's database, ahead of its checksum, and what is read out of it.
  Contract: strings are written into an image.
-/
import Derived.Test.YtidkhnfhkofmoaaGreatDoorMG08
import Derived.Test.YtidkhnfhkofmoaaGreatDoorImB
import Derived.Test.YtidkhnfhkofmoaaGreatDoorImA
import Derived.Lib.AppendStr
namespace Go.Proofs.YtidkhnfhkofmoaaGreatDoor
open Go.RowKit
set_option linter.unusedVariables false
set_option linter.unusedSimpArgs false
def fourC (x : Int) : Array Value := #[.int .u8 (x % 256), .int .u8 (x / 256 % 256), .int .u8 (x / 65536 % 256), .int .u8 (x / 16777216 % 256)]
set_option maxHeartbeats 2000000 in
theorem rfour_any (x : Int) (w : World) (h0 : 0 ≤ x) (h1 : x < 4294967296) :
  Calls Tryz.prog 107 #[.int .u32 x] w fun e w' => e = .returned (.slice (some ⟨w.heap.size, 0, none⟩) 4 4) ∧ w' = w.alloc (.cells (fourC x) 5) := by
 have hl : x / 16777216 % 256 = x / 16777216 := by omega
 unfold fourC
 rw [hl]
 clear hl
 go_enter Tryz.func107, Tryz.ntmps107
 go_wp2
 go_ret
 exact ⟨rfl, by trivial⟩
structure EqTo (x0 x1 x2 x3 S : Int) (k : Nat) : Prop where
 a : 0 < k → x0 = S % 256
 b : 1 < k → x1 = S / 256 % 256
 c : 2 < k → x2 = S / 65536 % 256
 d : 3 < k → x3 = S / 16777216 % 256
structure Cmp4 (g o q : Nat) (bs : List UInt8) (S : Int) (w wr : World) : Prop where
 b : BsA wr g o bs
 x : Bx q (fourC S) 5 wr
 e : Below w.heap.size w wr
theorem Cmp4.drewN {g o q : Nat} {bs : List UInt8} {S : Int} {w wr : World} (h : Cmp4 g o q bs S w wr) (n : Nat) : Cmp4 g o q bs S w (wr.drewN n) := ⟨h.b.below (below_drewN' (Below.refl _ _) n), h.x, below_drewN' h.e n⟩
set_option maxRecDepth 100000 in
set_option maxHeartbeats 8000000 in
theorem ropen_any (v : Value) (bs : List UInt8) (w : World) (h : BsV w v bs) (hL : bs.length ≤ 1000000) :
  Calls Tryz.prog 65 #[v] w (CrcOpPost bs w) := by
 obtain ⟨A, c, rfl, hc, hm, hx⟩ := h
 have hm' := hm
 unfold maxLen at hm
 rcases Nat.lt_or_ge bs.length 4 with h4 | h4
 ·have HP : Hid (CrcOpPost bs w (.returned (.tuple #[.slice none 0 0, .int .i64 4])) w) := .inl ⟨h4, rfl, Below.refl _ _⟩
  obtain ⟨N, hN⟩ : ∃ N, bs.length = N := ⟨_, rfl⟩
  rw [hN] at hc h4 ⊢
  clear hx hL hN hm'
  go_enter Tryz.func65, Tryz.ntmps65
  go_wp2
  go_ret2
  exact HP.out
 ·obtain ⟨i0, hi, hz0, hz1, hz2⟩ := info_parts infoU8b
  obtain ⟨m, hm4⟩ : ∃ m, bs.length = m + 4 := ⟨bs.length - 4, by omega⟩
  obtain ⟨g, o, rfl, hb⟩ := hx (by omega)
  have hlt : (bs.take m).length = m := by rw [List.length_take]; omega
  have HLT := Lib.hid hlt
  have hs := rcsum_any (.slice (some ⟨g, o, none⟩) m c) (bs.take m) w ⟨_, c, by rw [hlt], by omega, hm', fun _ => ⟨g, o, rfl, hb.take m⟩⟩
  have hiff := opOk_iff hm4
  have hbd := crcF_bd (bs.take m)
  have HPN : Hid (opOk bs = false → ∀ w', Below w.heap.size w w' → CrcOpPost bs w (.returned (.tuple #[.slice none 0 0, .int .i64 12])) w') := fun hf w' hw => .inr (.inl ⟨h4, hf, rfl, hw⟩)
  have HPY : Hid (opOk bs = true → ∀ v w', BsNew (bs.take m) w v w' → CrcOpPost bs w (.returned (.tuple #[v, .int .i64 0])) w') := fun hf v w' hn => .inr (.inr ⟨h4, hf, v, rfl, by rw [hm4, Nat.add_sub_cancel]; exact hn⟩)
  obtain ⟨S, hS⟩ : ∃ S, crcF (bs.take m) = S := ⟨_, rfl⟩
  rw [hS] at hs hiff hbd
  have c0 : ∀ W : World, BsA W g o bs → W.cell? ⟨g, o + m, none⟩ = some (.int .u8 ((bs[m]'(by omega)).toNat : Int)) := fun _ hb => hb.cell (j := m) (by omega)
  have c1 : ∀ W : World, BsA W g o bs → W.cell? ⟨g, o + (m + 1), none⟩ = some (.int .u8 ((bs[m + 1]'(by omega)).toNat : Int)) := fun _ hb => hb.cell (j := m + 1) (by omega)
  have c2 : ∀ W : World, BsA W g o bs → W.cell? ⟨g, o + (m + 2), none⟩ = some (.int .u8 ((bs[m + 2]'(by omega)).toNat : Int)) := fun _ hb => hb.cell (j := m + 2) (by omega)
  have c3 : ∀ W : World, BsA W g o bs → W.cell? ⟨g, o + (m + 3), none⟩ = some (.int .u8 ((bs[m + 3]'(by omega)).toNat : Int)) := fun _ hb => hb.cell (j := m + 3) (by omega)
  obtain ⟨x0, hx0⟩ : ∃ x : Int, ((bs[m]'(by omega)).toNat : Int) = x := ⟨_, rfl⟩
  obtain ⟨x1, hx1⟩ : ∃ x : Int, ((bs[m + 1]'(by omega)).toNat : Int) = x := ⟨_, rfl⟩
  obtain ⟨x2, hx2⟩ : ∃ x : Int, ((bs[m + 2]'(by omega)).toNat : Int) = x := ⟨_, rfl⟩
  obtain ⟨x3, hx3⟩ : ∃ x : Int, ((bs[m + 3]'(by omega)).toNat : Int) = x := ⟨_, rfl⟩
  rw [hx0] at hiff
  rw [hx1] at hiff
  rw [hx2] at hiff
  rw [hx3] at hiff
  simp only [hx0] at c0
  simp only [hx1] at c1
  simp only [hx2] at c2
  simp only [hx3] at c3
  have C0 := Lib.hid c0
  have C1 := Lib.hid c1
  have C2 := Lib.hid c2
  have C3 := Lib.hid c3
  have HIF := Lib.hid hiff
  obtain ⟨q, hq⟩ : ∃ q, w.heap.size = q := ⟨_, rfl⟩
  obtain ⟨w0, hw0⟩ : ∃ W, w.alloc (.cells (fourC S) 5) = W := ⟨_, rfl⟩
  have hc4 : Cmp4 g o q bs S w w0 := by
   rw [← hw0, ← hq]
   exact ⟨hb.below ((Below.refl _ _).alloc (Nat.le_refl _) _), Bx.last _ _ _, (Below.refl _ _).alloc (Nat.le_refl _) _⟩
  have HC4 := Lib.hid hc4
  have hgl : g < w.heap.size := hb.1
  obtain ⟨N, hN⟩ : ∃ N, bs.length = N := ⟨_, rfl⟩
  have HNB := Lib.hid hN
  rw [hN] at hc hL ⊢
  have hNm : (N : Int) - 4 = (m : Int) := by omega
  have hm1 : ((m : Int) + 1).toNat = m + 1 := by omega
  have hm2 : ((m : Int) + 2).toNat = m + 2 := by omega
  have hm3 : ((m : Int) + 3).toNat = m + 3 := by omega
  have hmN : (m : Int) + 4 ≤ (N : Int) := by omega
  have HS := Lib.hid hs
  have HQ := Lib.hid hq
  have HW0 := Lib.hid hw0
  have hf4 := Lib.hid (fun W => rfour_any S W hbd.1 hbd.2)
  clear hs hiff hb hx hS hx0 hx1 hx2 hx3 hN hm4 hlt h4 hm' c0 c1 c2 c3 hc4 hq hw0
  go_enter Tryz.func65, Tryz.ntmps65
  go_wp2_with fail
  refine HS.out.mono ?_
  rintro e w1 ⟨rfl, rfl⟩
  clear HS
  go_wp2_with fail
  refine (hf4.out _).mono ?_
  rintro e w1' ⟨rfl, hw1⟩
  rw [HW0.out] at hw1
  subst hw1
  rw [HQ.out]
  clear hf4 HW0
  go_wp2_with fail
  go_loopw [6] (fun iv wr => ∃ k : Nat, k ≤ 4 ∧ iv = .int .i64 (k : Int) ∧ Hid (EqTo x0 x1 x2 x3 S k) ∧ Hid (Cmp4 g o q bs S w wr)) (fun iv _ => 4 - (intOf iv).toNat)
  case atStart => exact ⟨0, by omega, by first | rfl | go_num, ⟨fun h => absurd h (by omega), fun h => absurd h (by omega), fun h => absurd h (by omega), fun h => absurd h (by omega)⟩, HC4.out⟩
  case round =>
   obtain ⟨k, hk, rfl, heq, hcm⟩ := hrel
   clear HC4
   rcases (by omega : k = 0 ∨ k = 1 ∨ k = 2 ∨ k = 3 ∨ k = 4) with rfl | rfl | rfl | rfl | rfl
   ·have kb := C0.out _ hcm.out.b
    have k4 := hcm.out.x.cell 0 (u := .int .u8 (S % 256)) rfl
    have hgr : g < wr.heap.size := hcm.out.b.1
    have hqr := hcm.out.x.lt
    by_cases e : x0 = S % 256
    ·have HE : Hid (EqTo x0 x1 x2 x3 S 1) := ⟨fun _ => e, fun h => absurd h (by omega), fun h => absurd h (by omega), fun h => absurd h (by omega)⟩
     have q1 : (x0 == S % 256) = true := by rw [beq_iff_eq]; exact e
     have q2 : (x0 != S % 256) = false := by rw [bne, q1]; rfl
     clear e
     go_wp2_with fail
     go_quiet (fail)
     go_wp2
     go_roundw
     case rel => exact ⟨1, by omega, by first | rfl | go_num, HE, hcm.out.drewN _⟩
     case measure => simp [intOf]
    ·have hT : opOk bs = false := by
      rw [← Bool.not_eq_true]; intro h; exact e (HIF.out.1 h).1
     have HT := Lib.hid (HPN.out hT)
     have q1 : (x0 == S % 256) = false := by rw [beq_eq_false_iff_ne]; exact e
     have q2 : (x0 != S % 256) = true := by rw [bne, q1]; rfl
     clear e hT
     go_wp2_with fail
     go_quiet (fail)
     go_wp2
     go_ret2
     exact HT.out _ (below_drewN' hcm.out.e _)
   ·have kb := C1.out _ hcm.out.b
    have k4 := hcm.out.x.cell 1 (u := .int .u8 (S / 256 % 256)) rfl
    have hgr : g < wr.heap.size := hcm.out.b.1
    have hqr := hcm.out.x.lt
    by_cases e : x1 = S / 256 % 256
    ·have HE : Hid (EqTo x0 x1 x2 x3 S 2) := ⟨fun _ => heq.out.a (by omega), fun h => e, fun h => absurd h (by omega), fun h => absurd h (by omega)⟩
     have q1 : (x1 == S / 256 % 256) = true := by rw [beq_iff_eq]; exact e
     have q2 : (x1 != S / 256 % 256) = false := by rw [bne, q1]; rfl
     clear e
     go_wp2_with fail
     go_quiet (fail)
     go_wp2
     go_roundw
     case rel => exact ⟨2, by omega, by first | rfl | go_num, HE, hcm.out.drewN _⟩
     case measure => simp [intOf]
    ·have hT : opOk bs = false := by
      rw [← Bool.not_eq_true]; intro h; exact e (HIF.out.1 h).2.1
     have HT := Lib.hid (HPN.out hT)
     have q1 : (x1 == S / 256 % 256) = false := by rw [beq_eq_false_iff_ne]; exact e
     have q2 : (x1 != S / 256 % 256) = true := by rw [bne, q1]; rfl
     clear e hT
     go_wp2_with fail
     go_quiet (fail)
     go_wp2
     go_ret2
     exact HT.out _ (below_drewN' hcm.out.e _)
   ·have kb := C2.out _ hcm.out.b
    have k4 := hcm.out.x.cell 2 (u := .int .u8 (S / 65536 % 256)) rfl
    have hgr : g < wr.heap.size := hcm.out.b.1
    have hqr := hcm.out.x.lt
    by_cases e : x2 = S / 65536 % 256
    ·have HE : Hid (EqTo x0 x1 x2 x3 S 3) := ⟨fun _ => heq.out.a (by omega), fun h => heq.out.b (by omega), fun h => e, fun h => absurd h (by omega)⟩
     have q1 : (x2 == S / 65536 % 256) = true := by rw [beq_iff_eq]; exact e
     have q2 : (x2 != S / 65536 % 256) = false := by rw [bne, q1]; rfl
     clear e
     go_wp2_with fail
     go_quiet (fail)
     go_wp2
     go_roundw
     case rel => exact ⟨3, by omega, by first | rfl | go_num, HE, hcm.out.drewN _⟩
     case measure => simp [intOf]
    ·have hT : opOk bs = false := by
      rw [← Bool.not_eq_true]; intro h; exact e (HIF.out.1 h).2.2.1
     have HT := Lib.hid (HPN.out hT)
     have q1 : (x2 == S / 65536 % 256) = false := by rw [beq_eq_false_iff_ne]; exact e
     have q2 : (x2 != S / 65536 % 256) = true := by rw [bne, q1]; rfl
     clear e hT
     go_wp2_with fail
     go_quiet (fail)
     go_wp2
     go_ret2
     exact HT.out _ (below_drewN' hcm.out.e _)
   ·have kb := C3.out _ hcm.out.b
    have k4 := hcm.out.x.cell 3 (u := .int .u8 (S / 16777216 % 256)) rfl
    have hgr : g < wr.heap.size := hcm.out.b.1
    have hqr := hcm.out.x.lt
    by_cases e : x3 = S / 16777216 % 256
    ·have HE : Hid (EqTo x0 x1 x2 x3 S 4) := ⟨fun _ => heq.out.a (by omega), fun h => heq.out.b (by omega), fun h => heq.out.c (by omega), fun h => e⟩
     have q1 : (x3 == S / 16777216 % 256) = true := by rw [beq_iff_eq]; exact e
     have q2 : (x3 != S / 16777216 % 256) = false := by rw [bne, q1]; rfl
     clear e
     go_wp2_with fail
     go_quiet (fail)
     go_wp2
     go_roundw
     case rel => exact ⟨4, by omega, by first | rfl | go_num, HE, hcm.out.drewN _⟩
     case measure => simp [intOf]
    ·have hT : opOk bs = false := by
      rw [← Bool.not_eq_true]; intro h; exact e (HIF.out.1 h).2.2.2
     have HT := Lib.hid (HPN.out hT)
     have q1 : (x3 == S / 16777216 % 256) = false := by rw [beq_eq_false_iff_ne]; exact e
     have q2 : (x3 != S / 16777216 % 256) = true := by rw [bne, q1]; rfl
     clear e hT
     go_wp2_with fail
     go_quiet (fail)
     go_wp2
     go_ret2
     exact HT.out _ (below_drewN' hcm.out.e _)
   ·have hT := HIF.out.2 ⟨heq.out.a (by omega), heq.out.b (by omega), heq.out.c (by omega), heq.out.d (by omega)⟩
    have HT := Lib.hid (HPY.out hT)
    obtain ⟨w5, hw5⟩ : ∃ W, wr = W := ⟨_, rfl⟩
    have HB5 := Lib.hid hcm.out.e
    have hb5 := hcm.out.b
    have HEMP := Lib.hid (World.ownsRow_lit (base := w.heap.size) (e := 5) (size := 1) wr #[] 0 hcm.out.e.size (by unfold maxLen; omega) rfl)
    have hba : Below wr.heap.size wr (wr.alloc (.cells #[] 5)) := (Below.refl _ _).alloc (Nat.le_refl _) _
    have HX := Lib.hid ((hb5.take m).news hba)
    have HONE := Lib.hid (u8cells_one (bs.take m))
    have HL2 : Hid (((bs.take m).map u8c).length = m * 1) := by unfold Hid; rw [List.length_map, HLT.out]; omega
    have hgr : g < wr.heap.size := hb5.1
    clear heq hcm hT HIF HPN HPY hb5 hba C0 C1 C2 C3 hw5
    rcases Nat.eq_zero_or_pos m with h0 | h0
    ·have HZ : Hid (BsNew (bs.take m) w (.slice (some ⟨wr.heap.size, 0, none⟩) m 0) (wr.alloc (.cells #[] 5))) := by
      refine ⟨wr.heap.size, 0, by rw [HLT.out], by rw [HLT.out]; omega, by unfold maxLen; omega, HB5.out.size, ?_, HB5.out.alloc HB5.out.size _⟩
      rw [List.eq_nil_of_length_eq_zero (HLT.out.trans h0)]
      exact BsA.nil (by simp)
     subst h0
     go_wp2
     go_ret2
     exact HT.out _ _ HZ.out
    ·go_wp2_with (at_builtin; (refine wpList_append_lies _ rfl _ _ 33 rfl w.heap.size 5 i0 (.int .u8 0) 1 1 Tryz.underlying33 hi hz0 hz1 hz2 rfl (by decide) _ _ _ rfl HEMP.out ⟨g, o, none⟩ m c ((bs.take m).map u8c) rfl HL2.out HX.out HONE.out h0 ?c3 ?c4 ?c5 _ rfl ?_))
     case c3 => unfold maxLen; omega
     case c4 => omega
     case c5 => have := HB5.out.size; simp; omega
     intro gg cap w' hown' hgrow hor hgg
     have HB : Hid (Below w.heap.size w w') := ((HB5.out.alloc HB5.out.size _).grown hgrow (by have := HB5.out.size; simp; omega) (fun k hk => by cases hk; exact HB5.out.size))
     have HO : Hid (BsNew (bs.take m) w (.slice (some ⟨gg, 0, none⟩) m cap) w') := by
      have h2 : w'.ownsRow w.heap.size 5 1 (.slice (some ⟨gg, 0, none⟩) (bs.take m).length cap) (bs.take m).length ((bs.take m).map u8c) := by rw [HLT.out]; simpa using hown'
      have h3 := BsNew.of_own h2 HB.out
      rw [HLT.out] at h3
      exact h3
     clear hown' hgrow hor hgg
     go_wp2
     go_ret2
     exact HT.out _ _ HO.out
end Go.Proofs.YtidkhnfhkofmoaaGreatDoor
namespace Go.Proofs.YtidkhnfhkofmoaaGreatDoor
open Go.RowKit
set_option linter.unusedVariables false
set_option linter.unusedSimpArgs false
def dbI (h : ImHd) (f a p : Value) : Array Value := #[.string (sb h.nm), .int .i64 h.cy, .int .i64 h.fr, .int .i64 h.tu, .int .i64 h.la, .int .i64 h.lo, f, a, p]
def dbZ9 : Array Value := #[.string ⟨#[]⟩, .int .i64 0, .int .i64 0, .int .i64 0, .int .i64 0, .int .i64 0, .slice none 0 0, .slice none 0 0, .slice none 0 0]
def secC (s : Sec) : List Value := [.int .u8 (s.1 : Int), .int .i64 (s.2.1 : Int), .int .i64 (s.2.2.1 : Int), .int .i64 (s.2.2.2 : Int)]
def seccells (L : List Sec) : List Value := L.flatMap secC
theorem seccells_snoc (L : List Sec) (s : Sec) : seccells (L ++ [s]) = seccells L ++ secC s := by unfold seccells; rw [List.flatMap_append]; simp
def LF (v : Value) (n : Nat) : Prop := ∃ A c, v = .slice A n c ∧ (n = 0 → v = .slice none 0 0)
theorem LF.nil : LF (.slice none 0 0) 0 := ⟨_, _, rfl, fun _ => rfl⟩
structure DbK (body : List UInt8) (k : Nat) (db : Array Value) (L : List Sec) : Prop where
 ex : ∃ (f a p : Value) (nf na np : Nat), db = dbI (if k = 0 then hd0 else imHdF body) f a p ∧ LF f nf ∧ LF a na ∧ LF p np ∧ (k < 2 → nf = 0) ∧ (k < 3 → na = 0) ∧ (k < 4 → np = 0) ∧ L.map (·.2.2.2) = ([1, nf, na, np] : List Nat).take k
def rdRes (bs : List UInt8) : Int × ImHd × List Sec :=
 if bs.length < 4 then (4, hd0, []) else if opOk bs = false then (12, hd0, []) else match rdF (bs.take (bs.length - 4)) with
  | none => (4, hd0, [])
  | some (h, l) => (0, h, l)
def ImReadPost (bs : List UInt8) (w : World) (e : Ending) (w' : World) : Prop :=
 ∃ (f a p sv : Value) (nf na np : Nat), e = .returned (.tuple #[.agg (dbI (rdRes bs).2.1 f a p), sv, .int .i64 (rdRes bs).1]) ∧ Rd w' 4 sv (rdRes bs).2.2.length (seccells (rdRes bs).2.2) ∧ LF f nf ∧ LF a na ∧ LF p np ∧ ((rdRes bs).1 = 0 → (rdRes bs).2.2.map (·.2.2.2) = [1, nf, na, np]) ∧ Below w.heap.size w w'
theorem ImReadPost.err {bs : List UInt8} {w w' : World} {x : Int} (h : rdRes bs = (x, hd0, [])) (hx : x ≠ 0) (hb : Below w.heap.size w w') : ImReadPost bs w (.returned (.tuple #[.agg dbZ9, .slice none 0 0, .int .i64 x])) w' := by
 refine ⟨.slice none 0 0, .slice none 0 0, .slice none 0 0, .slice none 0 0, 0, 0, 0, ?_, ?_, LF.nil, LF.nil, LF.nil, fun h0 => ?_, hb⟩
 ·rw [h]; rfl
 ·rw [h]; exact Rd.nil _ _
 ·rw [h] at h0; exact absurd h0 hx
theorem rdRes_some {bs : List UInt8} (h4 : 4 ≤ bs.length) (ho : opOk bs = true) {h : ImHd} {l : List Sec} (hr : rdF (bs.take (bs.length - 4)) = some (h, l)) : rdRes bs = (0, h, l) := by
 unfold rdRes; rw [if_neg (by omega), if_neg (by rw [ho]; simp), hr]
theorem rdRes_none {bs : List UInt8} (h4 : 4 ≤ bs.length) (ho : opOk bs = true) (hr : rdF (bs.take (bs.length - 4)) = none) : rdRes bs = (4, hd0, []) := by
 unfold rdRes; rw [if_neg (by omega), if_neg (by rw [ho]; simp), hr]
theorem rdRes_sum {bs : List UInt8} (h4 : 4 ≤ bs.length) (ho : opOk bs = false) : rdRes bs = (12, hd0, []) := by
 unfold rdRes; rw [if_neg (by omega), if_pos ho]
theorem rdRes_short {bs : List UInt8} (h4 : bs.length < 4) : rdRes bs = (4, hd0, []) := by
 unfold rdRes; rw [if_pos h4]
structure RdI (w : World) (q1 q2 gb ob c B : Nat) (body : List UInt8) (db : Array Value) (s : RS) (sv : Value) (L : List Sec) (wr : World) : Prop where
 res : Bx w.heap.size dbZ9 30 wr
 rd : RdP q1 gb ob c body.length body s wr
 dbx : Bx q2 db 30 wr
 own : wr.ownsRow B 51 4 sv L.length (seccells L)
 be : Below w.heap.size w wr
 o1 : w.heap.size < gb
 o2 : gb < q1
 o3 : q1 < q2
 o4 : q2 < B
 hi : B ≤ wr.heap.size
section
variable {w wr wr' : World} {q1 q2 gb ob c B : Nat} {body : List UInt8} {db db' : Array Value} {s s' : RS} {sv : Value} {L : List Sec}
theorem own_keep {S : Nat → Prop} {base : Nat} {w w' : World} {e : TypeId} {size n : Nat} {v : Value} {xs : List Value} (h : w.ownsRow base e size v n xs) (hf : Frm S w w') (hS : ∀ b, base ≤ b → b < w.heap.size → ¬ S b) : w'.ownsRow base e size v n xs := by
 obtain ⟨hl, h2 | ⟨b, cap, cur, hv, hb, hh, r⟩⟩ := h
 ·exact ⟨hl, .inl h2⟩
 ·exact ⟨hl, .inr ⟨b, cap, cur, hv, hb, (hf.block b (heap_lt hh) (hS b hb (heap_lt hh))).trans hh, r⟩⟩
theorem RdI.frm (h : RdI w q1 q2 gb ob c B body db s sv L wr) {S : Nat → Prop} (hf : Frm S wr wr') (hS : ∀ k, S k → k = q2 ∨ wr.heap.size ≤ k) (hdb : Bx q2 db' 30 wr') : RdI w q1 q2 gb ob c B body db' s sv L wr' := by
 have o1 := h.o1; have o2 := h.o2; have o3 := h.o3; have o4 := h.o4; have hi := h.hi
 have hn : ∀ b, b < wr.heap.size → b ≠ q2 → ¬ S b := fun b hb hne hs => by rcases hS b hs with h1 | h1 <;> omega
 refine ⟨(hf.block _ (by omega) (hn _ (by omega) (by omega))).trans h.res, h.rd.keep hf (hn _ (by omega) (by omega)) (hn _ (by omega) (by omega)), hdb, own_keep h.own hf (fun b hb hl => hn b hl (by omega)), h.be.trans (hf.below (by omega) (fun k hk => by rcases hS k hk with h1 | h1 <;> omega)), o1, o2, o3, o4, Nat.le_trans hi hf.size⟩
theorem RdI.below (h : RdI w q1 q2 gb ob c B body db s sv L wr) (hb : Below wr.heap.size wr wr') : RdI w q1 q2 gb ob c B body db s sv L wr' :=
 h.frm (S := fun _ => False) (Frm.of_below hb) (fun _ hk => hk.elim) (h.dbx.via hb)
theorem RdI.call (h : RdI w q1 q2 gb ob c B body db s sv L wr) (k : RdPTo q1 gb ob c body.length body s' wr wr') : RdI w q1 q2 gb ob c B body db s' sv L wr' := by
 have o1 := h.o1; have o2 := h.o2; have o3 := h.o3; have o4 := h.o4; have hi := h.hi
 have hf := k.f
 refine ⟨(hf.block _ (by omega) (by omega)).trans h.res, k.r, (hf.block _ (by omega) (by omega)).trans h.dbx, own_keep h.own hf (fun b hb hl => by omega), h.be.trans (hf.below (by omega) (fun k hk => by omega)), o1, o2, o3, o4, Nat.le_trans hi hf.size⟩
theorem RdP.seek {g gb ob c st : Nat} {bs : List UInt8} {a n : Nat} {w : World} (h : RdP g gb ob c st bs (a, false) w) (hn : n ≤ st) : RdPTo g gb ob c st bs (n, false) w (w.setCell ⟨g, 1, none⟩ (.int .i64 (n : Int))) :=
 ⟨h.to (frm_set w g 1 _) (h.bx.set 1 _) hn, frm_set w g 1 _⟩
theorem RdI.push (h : RdI w q1 q2 gb ob c B body db s sv L wr) {v' : Value} {x : Sec} {o : Obj} (hown : wr'.ownsRow B 51 4 v' (L.length + 1) (seccells L ++ secC x)) (hg : (wr.alloc o).grownBy wr' sv.ownBlock) : RdI w q1 q2 gb ob c B body db s v' (L ++ [x]) wr' := by
 have o1 := h.o1; have o2 := h.o2; have o3 := h.o3; have o4 := h.o4; have hi := h.hi
 have hlo := h.own.lt
 have hF : Frm (fun b => B ≤ b) wr wr' := by
  refine ⟨hg.os, hg.tape, hg.output, ?_, fun b hb hn => ?_⟩
  ·have := hg.size
   rw [World.size_alloc] at this; omega
  ·have h1 := hg.block b (by rw [World.size_alloc]; omega) (by intro e; have := (hlo b e.symm).1; omega)
   rw [h1]
   exact ((Below.refl wr.heap.size wr).alloc (Nat.le_refl _) o).block b hb
 refine ⟨(hF.block _ (by omega) (by omega)).trans h.res, h.rd.keep hF (by omega) (by omega), (hF.block _ (by omega) (by omega)).trans h.dbx, ?_, h.be.trans (hF.below (by omega) (fun k hk => by omega)), o1, o2, o3, o4, Nat.le_trans hi hF.size⟩
 rw [List.length_append, seccells_snoc]; exact hown
end
theorem infoDB9 : (Tryz.prog.info? 30).map (·.size) = some 9 := by kernel_rfl
theorem aggDB9 (w : World) : (isAgg 30).run Tryz.prog w = .ok true w := by kernel_rfl
theorem sizeDB9 (w : World) : (Go.sizeOf 30).run Tryz.prog w = .ok 9 w := by kernel_rfl
theorem infoSecI : (Tryz.prog.info? 51).map (fun i => (i.zero, i.size, i.bytes)) = some (some (.agg #[.int .u8 0, .int .i64 0, .int .i64 0, .int .i64 0]), 4, 32) := by kernel_rfl
end Go.Proofs.YtidkhnfhkofmoaaGreatDoor
namespace Go.Proofs.YtidkhnfhkofmoaaGreatDoor
open Go.RowKit
set_option linter.unusedVariables false
set_option linter.unusedSimpArgs false
set_option maxRecDepth 100000 in
set_option maxHeartbeats 8000000 in
theorem wbytes_any {g B : Nat} {v : Value} {out : List UInt8} (ga oa ca : Nat) (add : List UInt8) (w : World) (h : WrR g B v out w) (ha : BsA w ga oa add) (h0 : 0 < add.length) (hN : out.length + add.length ≤ 100000000) :
  Calls Tryz.prog 24 #[.pointer (some ⟨g, 0, none⟩), .slice (some ⟨ga, oa, none⟩) add.length ca] w fun e w' => e = .returned (.tuple #[]) ∧ ∃ v', WrTo g B v (out ++ add) w v' w' := by
 obtain ⟨i0, hi, hz0, hz1, hz2⟩ := info_parts infoU8b
 have H := Lib.hid h
 obtain ⟨Av, nv, cv, rfl⟩ := own_form h.own
 have k0 := h.bx.cell 0 (u := .slice Av nv cv) rfl
 have f0 := h.bx.free 0
 have gl := h.bx.lt
 have hBs := h.hi
 have hglo := h.lo
 have hlo := h.own.lt
 have HOWN := Lib.hid h.own
 have HX := Lib.hid (ha.news (Below.refl _ _))
 have HONE := Lib.hid (u8cells_one add)
 obtain ⟨m, hm⟩ : ∃ m, out.length = m := ⟨_, rfl⟩
 obtain ⟨p, hp⟩ : ∃ p, add.length = p := ⟨_, rfl⟩
 have HL2 : Hid ((add.map u8c).length = p * 1) := by unfold Hid; rw [List.length_map, hp]; omega
 rw [hm] at HOWN hN
 rw [hp] at h0 hN ⊢
 have HM := Lib.hid hm
 have HP := Lib.hid hp
 have hal := ha.1
 clear h ha hm hp
 go_enter Tryz.func24, Tryz.ntmps24
 go_wp2_with (at_builtin; (refine wpList_append_lies _ rfl _ _ 33 rfl B 5 i0 (.int .u8 0) 1 1 Tryz.underlying33 hi hz0 hz1 hz2 rfl (by decide) _ _ _ rfl HOWN.out ⟨ga, oa, none⟩ p ca (add.map u8c) rfl HL2.out HX.out HONE.out h0 ?c3 ?c4 ?c5 _ rfl ?_))
 case c3 => unfold maxLen; omega
 case c4 => omega
 case c5 => omega
 intro gg cap w3 hown3 hgrow hor hgg
 have hown4 : w3.ownsRow B 5 1 (.slice (some ⟨gg, 0, none⟩) (m + p) cap) (out.length + add.length) (out.map u8c ++ add.map u8c) := by rw [HM.out, HP.out]; exact hown3
 have hoo : ∀ b, (Value.slice (some ⟨gg, 0, none⟩) (m + p) cap).ownBlock = some b → (Value.slice Av nv cv).ownBlock = some b ∨ w.heap.size ≤ b := fun b hb => by
  have : gg = b := by simpa [Value.ownBlock] using hb
  subst this
  rcases hor with h1 | h1
  ·exact .inl h1
  ·exact .inr (by omega)
 have R := Lib.hid (H.out.push2 hown4 hgrow hoo)
 have hb3 := hgrow.block g gl (by intro e; exact hglo e.symm)
 have kg : w3.cell? ⟨g, 0, none⟩ = some (.slice Av nv cv) := (World.cell?_of_block (w := w) (a := ⟨g, 0, none⟩) hb3).trans k0
 have hx3 : Bx g #[.slice Av nv cv] 66 w3 := hb3.trans H.out.bx
 have fg := hx3.free 0
 have gl3 := hx3.lt
 clear hown3 hown4 hgrow hoo hor hlo k0 f0 hb3 hx3
 go_wp2
 go_end0
 exact ⟨rfl, _, R.out⟩
def numB (l : List Int) : List UInt8 := l.flatMap fun n => lowB n 8
theorem numB_snoc (l : List Int) (k : Nat) (hk : k < l.length) : numB (l.take (k + 1)) = numB (l.take k) ++ lowB l[k] 8 := by
 unfold numB; rw [List.take_succ_eq_append_getElem hk, List.flatMap_append]; simp
theorem numB_len (l : List Int) : (numB l).length = l.length * 8 := by
 unfold numB
 induction l with
 | nil => rfl
 | cons a l ih => rw [List.flatMap_cons, List.length_append, ih, lowB_len, List.length_cons]; omega
set_option maxRecDepth 100000 in
set_option maxHeartbeats 8000000 in
theorem wnumbers_any {g B : Nat} {v : Value} {out : List UInt8} (ga oa ca : Nat) (l : List Int) (w : World) (h : WrR g B v out w) (hgl : ga < w.heap.size) (hc : ∀ j (hj : j < l.length), w.cell? ⟨ga, oa + j, none⟩ = some (.int .i64 l[j])) (hg : ga ≠ g) (hgo : v.ownBlock ≠ some ga) (hN : out.length ≤ 1000000) (hl : l.length ≤ 1000) :
  Calls Tryz.prog 21 #[.pointer (some ⟨g, 0, none⟩), .slice (some ⟨ga, oa, none⟩) l.length ca] w fun e w' => e = .returned (.tuple #[]) ∧ ∃ v', WrTo g B v (out ++ numB l) w v' w' := by
 have H := Lib.hid h
 have HC := Lib.hid hc
 obtain ⟨n, hn⟩ : ∃ n, l.length = n := ⟨_, rfl⟩
 have HN := Lib.hid hn
 rw [hn] at hl ⊢
 clear h hc hn
 go_enter Tryz.func21, Tryz.ntmps21
 go_wp2_with fail
 go_loopw [8] (fun iv wr => ∃ (k : Nat) (vk : Value), k ≤ n ∧ iv = .int .i64 (k : Int) ∧ Hid (WrTo g B v (out ++ numB (l.take k)) w vk wr)) (fun iv _ => n - (intOf iv).toNat)
 case atStart => exact ⟨0, v, Nat.zero_le _, rfl, by unfold Hid numB; simpa using WrTo.refl H.out⟩
 case round =>
  obtain ⟨k, vk, hk, rfl, ht⟩ := hrel
  by_cases hlt : k < n
  ·have hkl : k < l.length := by rw [HN.out]; exact hlt
   have c0 := (ht.out.f.cell (a := ⟨ga, oa + k, none⟩) hgl (fun e => by rcases e with e | e; exact hg e; exact hgo e)).trans (HC.out k hkl)
   have hgw : ga < wr.heap.size := Nat.lt_of_lt_of_le hgl ht.out.f.size
   have HS := Lib.hid (numB_snoc l k hkl)
   have hll : (out ++ numB (l.take k)).length ≤ 100000000 := by rw [List.length_append, numB_len, List.length_take]; omega
   have hw := wlow_any l[k] 8 (by omega) wr ht.out.r hll
   obtain ⟨x, hx⟩ : ∃ x, l[k] = x := ⟨_, rfl⟩
   rw [hx] at c0 HS hw
   have HW := Lib.hid hw
   clear hx hll hw
   go_wp2_with fail
   refine HW.out.mono ?_
   rintro e w2 ⟨rfl, v2, hr⟩
   have R := Lib.hid (ht.out.then_ hr)
   clear HW hr c0
   go_wp2
   go_roundw
   case rel => exact ⟨k + 1, v2, hlt, by first | rfl | go_num, by unfold Hid; rw [HS.out, ← List.append_assoc]; exact R.out⟩
   case measure => simp [intOf]; omega
  ·have hkn : l.take k = l := List.take_of_length_le (by rw [HN.out]; omega)
   rw [hkn] at ht
   clear hkn
   go_wp2
   go_end0
   exact ⟨rfl, _, ht.out⟩
end Go.Proofs.YtidkhnfhkofmoaaGreatDoor
namespace Go.Proofs.YtidkhnfhkofmoaaGreatDoor
open Go.RowKit
set_option linter.unusedVariables false
set_option linter.unusedSimpArgs false
def exHd : ImHd := ⟨[87, 69, 83, 84], 2612, 9826, 9854, 16560000, -43200000⟩
def exB : List UInt8 := [70, 68, 66, 49] ++ ([1, 45, 0, 0, 0] ++ (([4, 87, 69, 83, 84] ++ numB [2612, 9826, 9854, 16560000, -43200000]) ++ ([2, 2, 0, 0, 0, 0, 0] ++ ([3, 2, 0, 0, 0, 0, 0] ++ [4, 2, 0, 0, 0, 0, 0]))))
theorem exB_len : exB.length = 75 := by decide +kernel
theorem exB_rd : rdF exB = some (exHd, [(1, 9, 45, 1), (2, 59, 2, 0), (3, 66, 2, 0), (4, 73, 2, 0)]) := by kernel_rfl
theorem ex_rd : rdRes (sealL exB) = (0, exHd, [(1, 9, 45, 1), (2, 59, 2, 0), (3, 66, 2, 0), (4, 73, 2, 0)]) := by
 have h := seal_ok exB
 have hl : (sealL exB).length = 79 := by unfold sealL; rw [List.length_append, exB_len]; rfl
 exact rdRes_some (by omega) h.1 (by rw [h.2]; exact exB_rd)
theorem ex_head : (sealL exB).take 9 = [70, 68, 66, 49, 1, 45, 0, 0, 0] := by
 unfold sealL
 rw [List.take_append_of_le_length (by rw [exB_len]; omega)]
 decide +kernel
end Go.Proofs.YtidkhnfhkofmoaaGreatDoor
namespace Go.Proofs.YtidkhnfhkofmoaaGreatDoor
open Go.RowKit
set_option linter.unusedVariables false
set_option linter.unusedSimpArgs false
def txtB (l : List ByteArray) : List UInt8 := l.flatMap fun s => u8of (s.size : Int) :: bl s
theorem txtB_snoc (l : List ByteArray) (k : Nat) (hk : k < l.length) : txtB (l.take (k + 1)) = txtB (l.take k) ++ (u8of (l[k].size : Int) :: bl l[k]) := by
 unfold txtB; rw [List.take_succ_eq_append_getElem hk, List.flatMap_append]; simp
theorem WrR.two {g B ga : Nat} {v v1 v2 : Value} {out out2 : List UInt8} {w w3 w4 : World} {o : Obj} (h : WrR g B v out w) (hg : (w.alloc o).grownBy w3 v.ownBlock) (h1 : ∀ b, v1.ownBlock = some b → v.ownBlock = some b ∨ w.heap.size ≤ b) (hg2 : w3.grownBy w4 v1.ownBlock)
  (hown : w4.ownsRow B 5 1 v2 out2.length (out2.map u8c)) (hga : v.ownBlock ≠ some ga) (hgl : ga < w.heap.size) (hgg : ga ≠ g) :
  WrR g B v2 out2 (w4.setCell ⟨g, 0, none⟩ v2) ∧ Frm (fun j => j = g ∨ (B ≤ j ∧ j ≠ ga)) w (w4.setCell ⟨g, 0, none⟩ v2) ∧ Bx g #[v] 66 w4 := by
 have hlt := h.own.lt
 have lo := h.lo
 have hi := h.hi
 have hgl0 := h.bx.lt
 have hs3 : w.heap.size ≤ w3.heap.size := by have := hg.size; rw [World.size_alloc] at this; omega
 have hs4 := hg2.size
 have hk : ∀ k, k < w.heap.size → v.ownBlock ≠ some k → w4.heap[k]? = w.heap[k]? := fun k hk hn =>
  (hg2.block k (by omega) (fun e => by rcases h1 k e.symm with e2 | e2; exact hn e2; omega)).trans ((hg.block k (by rw [World.size_alloc]; omega) (fun e => hn e.symm)).trans (((Below.refl w.heap.size w).alloc (Nat.le_refl _) o).block k hk))
 have hoth : ∀ k, k ≠ g → (w4.setCell ⟨g, 0, none⟩ v2).heap[k]? = w4.heap[k]? := fun k hk => heap_setCell_other w4 ⟨g, 0, none⟩ k v2 (fun e => hk (by simpa using e))
 have hng : v.ownBlock ≠ some g := h.lo
 have hx4 : Bx g #[v] 66 w4 := (hk g hgl0 hng).trans h.bx
 refine ⟨⟨hx4.set 0 v2, ?_, by simp; omega⟩, ⟨hg2.os.trans hg.os, hg2.tape.trans hg.tape, hg2.output.trans hg.output, by simp; omega, fun k hkl hn => ?_⟩, hx4⟩
 ·obtain ⟨hl, h2 | ⟨b, cap, cur, hv, hb, hh, r⟩⟩ := hown
  ·exact ⟨hl, .inl h2⟩
  ·exact ⟨hl, .inr ⟨b, cap, cur, hv, hb, (hoth b (bx_ne hx4 hh)).trans hh, r⟩⟩
 ·refine (hoth k (fun e => hn (.inl e))).trans (hk k hkl (fun e => ?_))
  have := (hlt _ e).1
  exact hn (.inr ⟨this, fun e2 => hga (e2 ▸ e)⟩)
set_option maxRecDepth 100000 in
set_option maxHeartbeats 8000000 in
theorem wtext_any {g B : Nat} {v : Value} {out : List UInt8} (ga oa ca : Nat) (l : List ByteArray) (w : World) (h : WrR g B v out w) (hc : ∀ j (hj : j < l.length), w.cell? ⟨ga, oa + j, none⟩ = some (.string l[j])) (hg : ga ≠ g) {cur : Array Value} {ty : TypeId} {z : Nat × Nat} (hty : w.heap[ga]? = some (.cells cur ty z)) (hne : ty ≠ 5)
  (hN : (out ++ txtB l).length ≤ 100000000) :
  Calls Tryz.prog 20 #[.pointer (some ⟨g, 0, none⟩), .slice (some ⟨ga, oa, none⟩) l.length ca] w fun e w' => e = .returned (.tuple #[]) ∧ ∃ v', WrR g B v' (out ++ txtB l) w' ∧ Frm (fun j => j = g ∨ (B ≤ j ∧ j ≠ ga)) w w' := by
 obtain ⟨i0, hi, hz0, hz1, hz2⟩ := info_parts infoU8b
 have H := Lib.hid h
 have HC := Lib.hid hc
 have HTY := Lib.hid hty
 have hgl := heap_lt hty
 obtain ⟨n, hn⟩ : ∃ n, l.length = n := ⟨_, rfl⟩
 have HN := Lib.hid hn
 have HNN := Lib.hid hN
 have hnl : n ≤ 100000000 := by
  have h1 : l.length ≤ (txtB l).length := by
   unfold txtB
   clear hc hN hn HC HN HNN
   induction l with
   | nil => simp
   | cons a l ih => rw [List.flatMap_cons, List.length_append, List.length_cons, List.length_cons]; omega
  rw [List.length_append] at hN; omega
 rw [hn]
 clear h hc hn hty hN
 go_enter Tryz.func20, Tryz.ntmps20
 go_wp2_with fail
 go_loopw [8] (fun iv wr => ∃ (k : Nat) (vk : Value), k ≤ n ∧ iv = .int .i64 (k : Int) ∧ Hid (WrR g B vk (out ++ txtB (l.take k)) wr) ∧ Hid (Frm (fun j => j = g ∨ (B ≤ j ∧ j ≠ ga)) w wr)) (fun iv _ => n - (intOf iv).toNat)
 case atStart => exact ⟨0, v, Nat.zero_le _, rfl, by unfold Hid txtB; simpa using H.out, Frm.refl _ _⟩
 case round =>
  obtain ⟨k, vk, hk, rfl, ht, hf⟩ := hrel
  by_cases hlt : k < n
  ·have hkl : k < l.length := by rw [HN.out]; exact hlt
   have hns : ¬ (ga = g ∨ (B ≤ ga ∧ ga ≠ ga)) := fun e => by rcases e with e | e; exact hg e; exact e.2 rfl
   have c0 := (hf.out.cell (a := ⟨ga, oa + k, none⟩) hgl hns).trans (HC.out k hkl)
   have hgaw := (hf.out.block ga hgl hns).trans HTY.out
   have hgw : ga < wr.heap.size := heap_lt hgaw
   have hnown : vk.ownBlock ≠ some ga := fun e => by
    obtain ⟨cur2, e2, z2, hh, he⟩ := own_block ht.out.own ga e
    rw [hgaw] at hh
    injection hh with hh
    injection hh with _ h2 _
    exact hne (h2.trans he)
   have HNO := Lib.hid hnown
   have hx := ht.out.bx
   have hown := ht.out.own
   obtain ⟨Av, nv, cv, rfl⟩ := own_form hown
   have k0 := hx.cell 0 (u := .slice Av nv cv) rfl
   have f0 := hx.free 0
   have gl := hx.lt
   have hBs := ht.out.hi
   have hlo := hown.lt
   have hsn := txtB_snoc l k hkl
   have hlen : (out ++ txtB (l.take k)).length + 1 + l[k].size ≤ 100000000 := by
    have h1 : (txtB (l.take (k + 1))).length ≤ (txtB l).length := by
     have h2 : txtB l = txtB (l.take (k + 1)) ++ txtB (l.drop (k + 1)) := by unfold txtB; rw [← List.flatMap_append, List.take_append_drop]
     rw [h2, List.length_append]; omega
    have h3 := HNN.out
    rw [hsn] at h1
    simp only [List.length_append, List.length_cons, bl_len] at h1 h3 ⊢
    omega
   obtain ⟨s, hs⟩ : ∃ s, l[k] = s := ⟨_, rfl⟩
   rw [hs] at c0 hsn hlen
   have HSN := Lib.hid hsn
   obtain ⟨m, hm⟩ : ∃ m, (out ++ txtB (l.take k)).length = m := ⟨_, rfl⟩
   rw [hm] at hown hlen
   have HM := Lib.hid hm
   have hss : s.size ≤ 100000000 := by omega
   have HOWN := Lib.hid hown
   have HU : Hid ([u8of (s.size : Int)].map u8c = [.int .u8 ((s.size : Int) % 256)]) := by unfold Hid u8c; simp only [List.map_cons, List.map_nil, u8of_nat]
   clear hown hx hm hs hsn hgaw hnown hns
   go_wp2_with (at_builtin; (first
    | (refine wpList_append_lies _ rfl _ _ 33 rfl B 5 i0 (.int .u8 0) 1 1 Tryz.underlying33 hi hz0 hz1 hz2 rfl (by decide) _ _ _ rfl (HOWN.out.alloc _) ⟨wr.heap.size, 0, none⟩ 1 1 [.int .u8 ((s.size : Int) % 256)] rfl rfl (cell_one_new _ _ _) ?c2 (by decide) ?c3 ?c4 ?c5 _ rfl ?_)))
   case c2 => intro u hu; simp only [List.mem_cons, List.not_mem_nil, or_false] at hu; rcases hu with rfl; rfl
   case c3 => unfold maxLen; omega
   case c4 => omega
   case c5 => simp; omega
   intro gg cap w3 hown3 hgrow hor hgg
   have HO3 := Lib.hid hown3
   have HG3 := Lib.hid hgrow
   have HOO : Hid (∀ b, (Value.slice (some ⟨gg, 0, none⟩) (m + 1) cap).ownBlock = some b → (Value.slice Av nv cv).ownBlock = some b ∨ wr.heap.size ≤ b) := fun b hb => by
    have : gg = b := by simpa [Value.ownBlock] using hb
    subst this
    rcases hor with h1 | h1
    ·exact .inl h1
    ·exact .inr (by rw [h1]; first | omega | simp)
   have hB3 : B ≤ w3.heap.size := by have := hgrow.size; rw [World.size_alloc] at this; omega
   clear hown3 hgrow hor
   go_wp2_with (at_builtin; (refine Lib.wpList_append_own_string _ rfl _ _ 33 9 rfl B 5 i0 Tryz.underlying33 Tryz.underlying9 hi hz0 hz1 hz2 _ (m + 1) _ rfl HO3.out s rfl ?d1 ?d2 hB3 ?_))
   case d1 => unfold maxLen; omega
   case d2 => omega
   intro v2 w4 hown4 hgrow4 _
   obtain ⟨A2, n2, c2, rfl⟩ := own_form hown4
   have HSS : Hid (out ++ txtB (l.take (k + 1)) = (out ++ txtB (l.take k)) ++ (u8of (s.size : Int) :: bl s)) := by unfold Hid; rw [HSN.out, List.append_assoc]
   have hown5 : w4.ownsRow B 5 1 (.slice A2 n2 c2) (out ++ txtB (l.take (k + 1))).length ((out ++ txtB (l.take (k + 1))).map u8c) := by
    have e1 : (out ++ txtB (l.take (k + 1))).length = m + 1 + s.size := by rw [HSS.out, List.length_append, HM.out, List.length_cons, bl_len]; omega
    have e2 : (out ++ txtB (l.take (k + 1))).map u8c = (out ++ txtB (l.take k)).map u8c ++ [.int .u8 ((s.size : Int) % 256)] ++ Lib.strCells s := by
     rw [HSS.out, List.map_append, List.map_cons, ← HU.out, List.append_assoc]; rfl
    rw [e1, e2]
    simpa using hown4
   have R := WrR.two ht.out HG3.out HOO.out hgrow4 hown5 HNO.out hgw hg
   obtain ⟨R1, R2, R3⟩ := R
   have Q1 := Lib.hid R1
   have Q2 := Lib.hid (hf.out.trans R2)
   have kg := R3.cell 0 (u := .slice Av nv cv) rfl
   have fg := R3.free 0
   have gl4 := R3.lt
   clear R1 R2 R3 hown4 hown5 hgrow4 k0 f0 HG3 HO3 HOO
   go_wp2
   go_roundw
   case rel => exact ⟨k + 1, _, hlt, by first | rfl | go_num, Q1, Q2⟩
   case measure => simp [intOf]; omega
  ·have hkn : l.take k = l := List.take_of_length_le (by rw [HN.out]; omega)
   rw [hkn] at ht
   clear hkn
   go_wp2
   go_end0
   exact ⟨rfl, _, ht.out, hf.out⟩
end Go.Proofs.YtidkhnfhkofmoaaGreatDoor
