/-
  Several texts as one.
-/
import Derived.Test.YtlhniiakacbbeaaGreatDoorMG04
import Derived.Lib.SliceRun
namespace Go.Proofs.YtlhniiakacbbeaaGreatDoor
open Go.RowKit
set_option linter.unusedVariables false
set_option linter.unusedSimpArgs false
set_option maxRecDepth 100000 in
set_option maxHeartbeats 4000000 in
theorem csum_up (v : Value) (bs : List UInt8) (w : World) (h : BsV w v bs) :
  Calls Tryz.prog 221 #[.int .u32 0, v] w fun e w' => e = .returned (.int .u32 (crcF bs)) ∧ w = w' := by
 obtain ⟨A, c, rfl, hc, hm, hx⟩ := h
 unfold maxLen at hm
 obtain ⟨n, hn⟩ : ∃ n, bs.length = n := ⟨_, rfl⟩
 rw [hn] at hc hx ⊢
 have HX := Lib.hid hx
 have HN := Lib.hid hn
 have HF : Hid (crcF bs = bits .xor .u32 IntKind.u32.max (crG 4294967295 bs)) := rfl
 have hb0 := crG_bd bs (r := 4294967295) (by omega)
 clear hx hn
 go_enter Tryz.func221, Tryz.ntmps221
 go_wp2_with fail
 go_loopw [5, 12] (fun rv iv wr => ∃ k : Nat, k ≤ n ∧ iv = .int .i64 (k : Int) ∧ rv = .int .u32 (crG 4294967295 (bs.take k)) ∧ wr = w) (fun _ iv _ => n - (intOf iv).toNat)
 case atStart => exact ⟨0, Nat.zero_le _, by first | rfl | go_num, rfl, by trivial⟩
 case round =>
  obtain ⟨k, hk, rfl, rfl, rfl⟩ := hrel
  by_cases hlt : k < n
  ·have hkl : k < bs.length := by rw [HN.out]; exact hlt
   obtain ⟨g', o', rfl, hb⟩ := HX.out (by omega)
   have k0 := hb.cell hkl
   have hnx := crG_snoc 4294967295 bs k hkl
   have hbd := crG_bd (bs.take k) (r := 4294967295) (by omega)
   obtain ⟨x, hx⟩ : ∃ x : UInt8, bs[k] = x := ⟨_, rfl⟩
   rw [hx] at k0 hnx
   obtain ⟨r, hr⟩ : ∃ r, crG 4294967295 (bs.take k) = r := ⟨_, rfl⟩
   rw [hr] at hnx hbd ⊢
   have HNX := Lib.hid hnx
   have hst := Lib.hid (fun W => cstep_any r x W hbd.1 hbd.2)
   clear hb hx hr hnx
   go_wp2_with fail
   refine (hst.out _).mono ?_
   rintro e w1 ⟨rfl, rfl⟩
   clear hst
   go_wp2
   go_roundw
   case rel => exact ⟨k + 1, hlt, by go_num, by rw [HNX.out], by trivial⟩
   case measure => simp [intOf]; omega
  ·have hkn : bs.take k = bs := List.take_of_length_le (by rw [HN.out]; omega)
   rw [hkn]
   obtain ⟨r, hr⟩ : ∃ r, crG 4294967295 bs = r := ⟨_, rfl⟩
   rw [hr] at hb0 ⊢
   have HR := Lib.hid hr
   clear hkn hr
   go_wp2
   go_ret
   rw [HF.out, HR.out]
   exact ⟨rfl, by trivial⟩
theorem csum_any (v : Value) (bs : List UInt8) (w : World) (h : BsV w v bs) :
  Calls Tryz.prog 137 #[v] w fun e w' => e = .returned (.int .u32 (crcF bs)) ∧ w = w' := by
 have hu := csum_up v bs w h
 clear h
 go_enter Tryz.func137, Tryz.ntmps137
 go_wp2_with fail
 refine hu.mono ?_
 rintro e w1 ⟨rfl, rfl⟩
 clear hu
 go_wp2
 go_ret
 exact ⟨rfl, rfl⟩
set_option maxRecDepth 100000 in
set_option maxHeartbeats 4000000 in
theorem rcsum_up (v : Value) (bs : List UInt8) (w : World) (h : BsV w v bs) :
  Calls Tryz.prog 226 #[.int .u32 0, v] w fun e w' => e = .returned (.int .u32 (crcF bs)) ∧ w = w' := by
 obtain ⟨A, c, rfl, hc, hm, hx⟩ := h
 unfold maxLen at hm
 obtain ⟨n, hn⟩ : ∃ n, bs.length = n := ⟨_, rfl⟩
 rw [hn] at hc hx ⊢
 have HX := Lib.hid hx
 have HN := Lib.hid hn
 have HF : Hid (crcF bs = bits .xor .u32 IntKind.u32.max (crG 4294967295 bs)) := rfl
 have hb0 := crG_bd bs (r := 4294967295) (by omega)
 clear hx hn
 go_enter Tryz.func226, Tryz.ntmps226
 go_wp2_with fail
 go_loopw [5, 12] (fun rv iv wr => ∃ k : Nat, k ≤ n ∧ iv = .int .i64 (k : Int) ∧ rv = .int .u32 (crG 4294967295 (bs.take k)) ∧ wr = w) (fun _ iv _ => n - (intOf iv).toNat)
 case atStart => exact ⟨0, Nat.zero_le _, by first | rfl | go_num, rfl, by trivial⟩
 case round =>
  obtain ⟨k, hk, rfl, rfl, rfl⟩ := hrel
  by_cases hlt : k < n
  ·have hkl : k < bs.length := by rw [HN.out]; exact hlt
   obtain ⟨g', o', rfl, hb⟩ := HX.out (by omega)
   have k0 := hb.cell hkl
   have hnx := crG_snoc 4294967295 bs k hkl
   have hbd := crG_bd (bs.take k) (r := 4294967295) (by omega)
   obtain ⟨x, hx⟩ : ∃ x : UInt8, bs[k] = x := ⟨_, rfl⟩
   rw [hx] at k0 hnx
   obtain ⟨r, hr⟩ : ∃ r, crG 4294967295 (bs.take k) = r := ⟨_, rfl⟩
   rw [hr] at hnx hbd ⊢
   have HNX := Lib.hid hnx
   have hst := Lib.hid (fun W => rcstep_any r x W hbd.1 hbd.2)
   clear hb hx hr hnx
   go_wp2_with fail
   refine (hst.out _).mono ?_
   rintro e w1 ⟨rfl, rfl⟩
   clear hst
   go_wp2
   go_roundw
   case rel => exact ⟨k + 1, hlt, by go_num, by rw [HNX.out], by trivial⟩
   case measure => simp [intOf]; omega
  ·have hkn : bs.take k = bs := List.take_of_length_le (by rw [HN.out]; omega)
   rw [hkn]
   obtain ⟨r, hr⟩ : ∃ r, crG 4294967295 bs = r := ⟨_, rfl⟩
   rw [hr] at hb0 ⊢
   have HR := Lib.hid hr
   clear hkn hr
   go_wp2
   go_ret
   rw [HF.out, HR.out]
   exact ⟨rfl, by trivial⟩
theorem rcsum_any (v : Value) (bs : List UInt8) (w : World) (h : BsV w v bs) :
  Calls Tryz.prog 154 #[v] w fun e w' => e = .returned (.int .u32 (crcF bs)) ∧ w = w' := by
 have hu := rcsum_up v bs w h
 clear h
 go_enter Tryz.func154, Tryz.ntmps154
 go_wp2_with fail
 refine hu.mono ?_
 rintro e w1 ⟨rfl, rfl⟩
 clear hu
 go_wp2
 go_ret
 exact ⟨rfl, rfl⟩
theorem infoU8b : (Tryz.prog.info? 5).map (fun i => (i.zero, i.size, i.bytes)) = some (some (.int .u8 0), 1, 1) := by kernel_rfl
theorem u8cells_one (bs : List UInt8) : ∀ u ∈ bs.map u8c, u.oneCell' = true := by
 intro u hu
 obtain ⟨b, _, rfl⟩ := List.mem_map.1 hu
 rfl
theorem BsA.news {w W : World} {g o : Nat} {bs : List UInt8} (h : BsA w g o bs) (hb : Below w.heap.size w W) : ∀ j u, (bs.map u8c)[j]? = some u → W.cell? ((⟨g, o, none⟩ : Addr).add j) = some u := by
 intro j u hu
 rw [List.getElem?_map] at hu
 cases hj : bs[j]? with
 | none => rw [hj] at hu; cases hu
 | some b =>
  rw [hj] at hu
  injection hu with hu
  rw [Addr.add_lit, ← hu]
  exact (h.below hb).2 j b hj
def BsNew (bs : List UInt8) (w : World) (v : Value) (w' : World) : Prop := ∃ gb c, v = .slice (some ⟨gb, 0, none⟩) bs.length c ∧ bs.length ≤ c ∧ c ≤ maxLen ∧ w.heap.size ≤ gb ∧ BsA w' gb 0 bs ∧ Below w.heap.size w w'
theorem BsNew.of_own {bs : List UInt8} {w w' : World} {g cap : Nat} (h : w'.ownsRow w.heap.size 5 1 (.slice (some ⟨g, 0, none⟩) bs.length cap) bs.length (bs.map u8c)) (hb : Below w.heap.size w w') : BsNew bs w (.slice (some ⟨g, 0, none⟩) bs.length cap) w' := by
 have hlt := h.lt g rfl
 have hcs := h.cells (g := g) rfl
 obtain ⟨_, ⟨h2, _⟩ | ⟨b, cap', cur, hv, _, _, h3, h4, _⟩⟩ := h
 ·cases h2
 ·injection hv with e1 e2 e3
  subst e3
  refine ⟨g, cap, rfl, by omega, h4, hlt.1, ⟨hlt.2, fun j b hb => ?_⟩, hb⟩
  have := hcs j (u8c b) (by rw [List.getElem?_map, hb]; rfl)
  rwa [Addr.add_lit] at this
set_option maxRecDepth 100000 in
set_option maxHeartbeats 2000000 in
theorem cloneB_any (g o c : Nat) (bs : List UInt8) (w : World) (h : BsA w g o bs) (hc : bs.length ≤ c) (hm : c ≤ maxLen) (hN : bs.length ≤ 1000000000) :
  Calls Tryz.prog 138 #[.slice (some ⟨g, o, none⟩) bs.length c] w fun e w' => ∃ v, e = .returned v ∧ BsNew bs w v w' := by
 obtain ⟨i0, hi, hz0, hz1, hz2⟩ := info_parts infoU8b
 have hnil : ∀ W, (binOp .eql 68 (.slice (some ⟨g, o, none⟩) bs.length c) (.slice none 0 0)).run Tryz.prog W = .ok (.bool false) W := fun W => Lib.run_eql_slice_nil W _ _ _ _ _ _ _ Tryz.underlying68
 have HEMP := Lib.hid (World.ownsRow_lit (base := w.heap.size) (e := 5) (size := 1) w #[] 0 (Nat.le_refl _) (by unfold maxLen; omega) rfl)
 have hba : Below w.heap.size w (w.alloc (.cells #[] 5)) := (Below.refl _ _).alloc (Nat.le_refl _) _
 have HX := Lib.hid (h.news hba)
 have HONE := Lib.hid (u8cells_one bs)
 have HL2 : Hid ((bs.map u8c).length = bs.length * 1) := by unfold Hid; simp
 have H0 : Hid (bs.length = 0 → BsNew bs w (.slice (some ⟨w.heap.size, 0, none⟩) bs.length 0) (w.alloc (.cells #[] 5))) := by
  intro h0
  refine ⟨w.heap.size, 0, rfl, by omega, by unfold maxLen; omega, Nat.le_refl _, ?_, hba⟩
  rw [List.eq_nil_of_length_eq_zero h0]
  exact BsA.nil (by simp)
 unfold maxLen at hm
 obtain ⟨n, hn⟩ : ∃ n, bs.length = n := ⟨_, rfl⟩
 have HN := Lib.hid hn
 rw [hn] at hc hN hnil HL2 H0 ⊢
 clear h hba hn
 rcases Nat.eq_zero_or_pos n with h0 | h0
 ·have HZ := Lib.hid (H0.out h0)
  subst h0
  clear H0
  go_enter Tryz.func138, Tryz.ntmps138
  go_wp2
  go_ret
  exact ⟨_, rfl, HZ.out⟩
 ·clear H0
  go_enter Tryz.func138, Tryz.ntmps138
  go_wp2_with (at_builtin; (refine wpList_append_lies _ rfl _ _ 68 rfl w.heap.size 5 i0 (.int .u8 0) 1 1 Tryz.underlying68 hi hz0 hz1 hz2 rfl (by decide) _ _ _ rfl HEMP.out ⟨g, o, none⟩ n c (bs.map u8c) rfl HL2.out HX.out HONE.out h0 ?c3 ?c4 ?c5 _ rfl ?_))
  case c3 => unfold maxLen; omega
  case c4 => omega
  intro gg cap w' hown' hgrow hor hgg
  have HB : Hid (Below w.heap.size w w') := (((Below.refl _ _).alloc (Nat.le_refl _) _).grown hgrow (by simp) (fun k hk => by cases hk; exact Nat.le_refl _))
  have HO : Hid (BsNew bs w (.slice (some ⟨gg, 0, none⟩) n cap) w') := by
   have h2 : w'.ownsRow w.heap.size 5 1 (.slice (some ⟨gg, 0, none⟩) bs.length cap) bs.length (bs.map u8c) := by rw [HN.out]; simpa using hown'
   have h3 := BsNew.of_own h2 HB.out
   rw [HN.out] at h3
   exact h3
  clear hown' hgrow hor hgg
  try rw [Nat.zero_add]
  go_wp2
  go_ret
  exact ⟨_, rfl, HO.out⟩
def u8of (x : Int) : UInt8 := UInt8.ofNat (x % 256).toNat
theorem u8of_nat (x : Int) : (((u8of x).toNat : Nat) : Int) = x % 256 := by
 unfold u8of
 have h0 : 0 ≤ x % 256 := by omega
 have h1 : x % 256 < 256 := by omega
 rw [UInt8.toNat_ofNat']
 omega
def fourL (x : Int) : List UInt8 := [u8of x, u8of (x / 256), u8of (x / 65536), u8of (x / 16777216)]
def opOk (bs : List UInt8) : Bool := bs.drop (bs.length - 4) == fourL (crcF (bs.take (bs.length - 4)))
def CrcOpPost (bs : List UInt8) (w : World) (e : Ending) (w' : World) : Prop :=
 (bs.length < 4 ∧ e = .returned (.tuple #[.slice none 0 0, .int .i64 4]) ∧ Below w.heap.size w w') ∨
 (4 ≤ bs.length ∧ opOk bs = false ∧ e = .returned (.tuple #[.slice none 0 0, .int .i64 12]) ∧ Below w.heap.size w w') ∨
 (4 ≤ bs.length ∧ opOk bs = true ∧ ∃ v, e = .returned (.tuple #[v, .int .i64 0]) ∧ BsNew (bs.take (bs.length - 4)) w v w')
theorem drop4 {l : List UInt8} {m : Nat} (h : l.length = m + 4) : l.drop m = [l[m]'(by omega), l[m + 1]'(by omega), l[m + 2]'(by omega), l[m + 3]'(by omega)] := by
 rw [List.drop_eq_getElem_cons (by omega), List.drop_eq_getElem_cons (by omega), List.drop_eq_getElem_cons (by omega), List.drop_eq_getElem_cons (by omega), List.drop_eq_nil_of_le (by omega)]
theorem opOk_iff {l : List UInt8} {m : Nat} (h : l.length = m + 4) : opOk l = true ↔ ((l[m]'(by omega)).toNat : Int) = crcF (l.take m) % 256 ∧ ((l[m + 1]'(by omega)).toNat : Int) = crcF (l.take m) / 256 % 256 ∧ ((l[m + 2]'(by omega)).toNat : Int) = crcF (l.take m) / 65536 % 256 ∧ ((l[m + 3]'(by omega)).toNat : Int) = crcF (l.take m) / 16777216 % 256 := by
 have hu : ∀ (b : UInt8) (x : Int), b = u8of x ↔ ((b.toNat : Nat) : Int) = x % 256 := by
  intro b x
  rw [← u8of_nat]
  constructor
  ·rintro rfl; rfl
  ·intro e; exact UInt8.toNat_inj.1 (by omega)
 have e : l.length - 4 = m := by omega
 unfold opOk fourL
 rw [e, beq_iff_eq, drop4 h]
 simp only [List.cons.injEq, and_true, hu]
set_option maxRecDepth 100000 in
set_option maxHeartbeats 8000000 in
theorem copen_any (v : Value) (bs : List UInt8) (w : World) (h : BsV w v bs) (hL : bs.length ≤ 1000000) :
  Calls Tryz.prog 139 #[v] w (CrcOpPost bs w) := by
 obtain ⟨A, c, rfl, hc, hm, hx⟩ := h
 have hm' := hm
 unfold maxLen at hm
 rcases Nat.lt_or_ge bs.length 4 with h4 | h4
 ·have HP : Hid (CrcOpPost bs w (.returned (.tuple #[.slice none 0 0, .int .i64 4])) w) := .inl ⟨h4, rfl, Below.refl _ _⟩
  obtain ⟨N, hN⟩ : ∃ N, bs.length = N := ⟨_, rfl⟩
  rw [hN] at hc h4 ⊢
  clear hx hL hN hm'
  go_enter Tryz.func139, Tryz.ntmps139
  go_wp2
  go_ret2
  exact HP.out
 ·obtain ⟨m, hm4⟩ : ∃ m, bs.length = m + 4 := ⟨bs.length - 4, by omega⟩
  obtain ⟨g, o, rfl, hb⟩ := hx (by omega)
  have hlt : (bs.take m).length = m := by rw [List.length_take]; omega
  have HLT := Lib.hid hlt
  have hs := csum_any (.slice (some ⟨g, o, none⟩) m c) (bs.take m) w ⟨_, c, by rw [hlt], by omega, hm', fun _ => ⟨g, o, rfl, hb.take m⟩⟩
  have hcl := cloneB_any g o c (bs.take m) w (hb.take m) (by omega) hm' (by omega)
  rw [hlt] at hcl
  have b0 := hb.cell (j := m) (by omega)
  have b1 := hb.cell (j := m + 1) (by omega)
  have b2 := hb.cell (j := m + 2) (by omega)
  have b3 := hb.cell (j := m + 3) (by omega)
  have hiff := opOk_iff hm4
  have hbd := crcF_bd (bs.take m)
  have HPN : Hid (opOk bs = false → CrcOpPost bs w (.returned (.tuple #[.slice none 0 0, .int .i64 12])) w) := fun hf => .inr (.inl ⟨h4, hf, rfl, Below.refl _ _⟩)
  have HPY : Hid (opOk bs = true → ∀ v w', BsNew (bs.take m) w v w' → CrcOpPost bs w (.returned (.tuple #[v, .int .i64 0])) w') := fun hf v w' hn => .inr (.inr ⟨h4, hf, v, rfl, by rw [hm4, Nat.add_sub_cancel]; exact hn⟩)
  obtain ⟨S, hS⟩ : ∃ S, crcF (bs.take m) = S := ⟨_, rfl⟩
  rw [hS] at hs hiff hbd
  obtain ⟨x0, hx0⟩ : ∃ x : Int, ((bs[m]'(by omega)).toNat : Int) = x := ⟨_, rfl⟩
  obtain ⟨x1, hx1⟩ : ∃ x : Int, ((bs[m + 1]'(by omega)).toNat : Int) = x := ⟨_, rfl⟩
  obtain ⟨x2, hx2⟩ : ∃ x : Int, ((bs[m + 2]'(by omega)).toNat : Int) = x := ⟨_, rfl⟩
  obtain ⟨x3, hx3⟩ : ∃ x : Int, ((bs[m + 3]'(by omega)).toNat : Int) = x := ⟨_, rfl⟩
  rw [hx0] at b0 hiff
  rw [hx1] at b1 hiff
  rw [hx2] at b2 hiff
  rw [hx3] at b3 hiff
  have HIF := Lib.hid hiff
  obtain ⟨N, hN⟩ : ∃ N, bs.length = N := ⟨_, rfl⟩
  rw [hN] at hc hL ⊢
  have hNm : (N : Int) - 4 = (m : Int) := by omega
  have hm1 : ((m : Int) + 1).toNat = m + 1 := by omega
  have hm2 : ((m : Int) + 2).toNat = m + 2 := by omega
  have hm3 : ((m : Int) + 3).toNat = m + 3 := by omega
  have hmN : (m : Int) + 4 ≤ (N : Int) := by omega
  have HS := Lib.hid hs
  have HCL := Lib.hid hcl
  clear hs hcl hiff hb hx hS hx0 hx1 hx2 hx3 hN hm4 hlt h4 hm'
  go_enter Tryz.func139, Tryz.ntmps139
  go_wp2_with fail
  refine HS.out.mono ?_
  rintro e w1 ⟨rfl, rfl⟩
  clear HS
  by_cases e0 : x0 = S % 256
  ·by_cases e1 : x1 = S / 256 % 256
   ·by_cases e2 : x2 = S / 65536 % 256
    ·by_cases e3 : x3 = S / 16777216 % 256
     ·have hT := HIF.out.2 ⟨e0, e1, e2, e3⟩
      have HT := Lib.hid (HPY.out hT)
      have q0 : (x0 == S % 256) = true := by rw [beq_iff_eq]; exact e0
      have p0 : (x0 != S % 256) = false := by rw [bne, q0]; rfl
      have q1 : (x1 == S / 256 % 256) = true := by rw [beq_iff_eq]; exact e1
      have p1 : (x1 != S / 256 % 256) = false := by rw [bne, q1]; rfl
      have q2 : (x2 == S / 65536 % 256) = true := by rw [beq_iff_eq]; exact e2
      have p2 : (x2 != S / 65536 % 256) = false := by rw [bne, q2]; rfl
      have q3 : (x3 == S / 16777216 % 256) = true := by rw [beq_iff_eq]; exact e3
      have p3 : (x3 != S / 16777216 % 256) = false := by rw [bne, q3]; rfl
      clear e0 e1 e2 e3 hT HIF HPN HPY
      go_wp2_with fail
      refine HCL.out.mono ?_
      rintro e w2 ⟨v, rfl, hn⟩
      have HN := Lib.hid (HT.out v w2 hn)
      obtain ⟨gb, cb, rfl, -⟩ := hn
      rw [HLT.out] at HN ⊢
      clear HT HCL
      go_wp2
      go_ret2
      exact HN.out
     ·have hT : opOk bs = false := by
       rw [← Bool.not_eq_true]; intro h; exact e3 (HIF.out.1 h).2.2.2
      have HT := Lib.hid (HPN.out hT)
      have q0 : (x0 == S % 256) = true := by rw [beq_iff_eq]; exact e0
      have p0 : (x0 != S % 256) = false := by rw [bne, q0]; rfl
      have q1 : (x1 == S / 256 % 256) = true := by rw [beq_iff_eq]; exact e1
      have p1 : (x1 != S / 256 % 256) = false := by rw [bne, q1]; rfl
      have q2 : (x2 == S / 65536 % 256) = true := by rw [beq_iff_eq]; exact e2
      have p2 : (x2 != S / 65536 % 256) = false := by rw [bne, q2]; rfl
      have q3 : (x3 == S / 16777216 % 256) = false := by rw [beq_eq_false_iff_ne]; exact e3
      have p3 : (x3 != S / 16777216 % 256) = true := by rw [bne, q3]; rfl
      clear e0 e1 e2 e3 hT HIF HPN HPY HCL
      go_wp2
      all_goals (go_ret2; exact HT.out)
    ·have hT : opOk bs = false := by
      rw [← Bool.not_eq_true]; intro h; exact e2 (HIF.out.1 h).2.2.1
     have HT := Lib.hid (HPN.out hT)
     have q0 : (x0 == S % 256) = true := by rw [beq_iff_eq]; exact e0
     have p0 : (x0 != S % 256) = false := by rw [bne, q0]; rfl
     have q1 : (x1 == S / 256 % 256) = true := by rw [beq_iff_eq]; exact e1
     have p1 : (x1 != S / 256 % 256) = false := by rw [bne, q1]; rfl
     have q2 : (x2 == S / 65536 % 256) = false := by rw [beq_eq_false_iff_ne]; exact e2
     have p2 : (x2 != S / 65536 % 256) = true := by rw [bne, q2]; rfl
     clear e0 e1 e2 hT HIF HPN HPY HCL
     go_wp2
     all_goals (go_ret2; exact HT.out)
   ·have hT : opOk bs = false := by
     rw [← Bool.not_eq_true]; intro h; exact e1 (HIF.out.1 h).2.1
    have HT := Lib.hid (HPN.out hT)
    have q0 : (x0 == S % 256) = true := by rw [beq_iff_eq]; exact e0
    have p0 : (x0 != S % 256) = false := by rw [bne, q0]; rfl
    have q1 : (x1 == S / 256 % 256) = false := by rw [beq_eq_false_iff_ne]; exact e1
    have p1 : (x1 != S / 256 % 256) = true := by rw [bne, q1]; rfl
    clear e0 e1 hT HIF HPN HPY HCL
    go_wp2
    all_goals (go_ret2; exact HT.out)
  ·have hT : opOk bs = false := by
    rw [← Bool.not_eq_true]; intro h; exact e0 (HIF.out.1 h).1
   have HT := Lib.hid (HPN.out hT)
   have q0 : (x0 == S % 256) = false := by rw [beq_eq_false_iff_ne]; exact e0
   have p0 : (x0 != S % 256) = true := by rw [bne, q0]; rfl
   clear e0 hT HIF HPN HPY HCL
   go_wp2
   all_goals (go_ret2; exact HT.out)
end Go.Proofs.YtlhniiakacbbeaaGreatDoor
