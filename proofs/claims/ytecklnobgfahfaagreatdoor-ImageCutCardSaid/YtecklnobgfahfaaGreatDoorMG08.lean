/-
  Several texts as one.
  Contracts: legs, parts and procedures, and lists of them, read out of an image by the program.
  Contract: a sealed string is opened by the reference.
  An image's database and sections in memory, while they are read.
-/
import Derived.Test.YtecklnobgfahfaaGreatDoorMG07
import Derived.Test.YtecklnobgfahfaaGreatDoorMG04
import Derived.Test.YtecklnobgfahfaaGreatDoorImA
namespace Go.Proofs.YtecklnobgfahfaaGreatDoor
open Go.RowKit
set_option linter.unusedVariables false
set_option linter.unusedSimpArgs false
theorem info_imLsLeg : (Tryz.prog.info? 87).map (fun i => (i.zero, i.size, i.bytes)) = some (some (.agg #[.int .u8 0, .string ⟨#[]⟩, .string ⟨#[]⟩, .int .u8 0, .bool false, .int .i64 0, .int .i64 0, .int .i64 0, .int .i64 0, .int .i64 0, .int .i64 0, .int .i64 0, .int .i64 0]), 13, 112) := by kernel_rfl
set_option maxRecDepth 100000 in
set_option maxHeartbeats 8000000 in
theorem imLsLeg_any {g gb ob c st : Nat} {bs : List UInt8} (s : RS) (w : World) (h : RdP g gb ob c st bs s w) :
    Calls Tryz.prog 143 #[.pointer (some ⟨g, 0, none⟩), .func (.func 144) #[] #[]] w (ImLPost (imLegR bs st) (leS bs st) 87 13 g gb ob c st bs s w) := by
  obtain ⟨i0, hi, hz0, hz1, hz2⟩ := info_parts info_imLsLeg
  have hgl := h.lt
  have hgb := h.by_.1
  go_enter Tryz.func143, Tryz.ntmps143
  go_wp2_with fail
  refine (imLow_any s 2 w h (by omega)).mono ?_
  rintro e w1 ⟨rfl, hr⟩
  have HR := Lib.hid hr
  have hnlt : lsN bs st s < 65536 := lsN_lt
  have HLS : Hid (lsS bs st (leS bs st) s = itS (leS bs st) (lsN bs st s) (tkS st 2 s)) := rfl
  obtain ⟨n, hn⟩ : ∃ n, loN (tkV bs st 2 s) = n := ⟨_, rfl⟩
  have hn2 : lsN bs st s = n := hn
  have hwn : IntKind.i64.wrap (n : Int) = (n : Int) := by rw [IntKind.wrap_i64]; omega
  rw [hn, hwn]
  rw [hn2] at HLS hnlt
  have HN := Lib.hid hn2
  obtain ⟨s1, hs1⟩ : ∃ x, tkS st 2 s = x := ⟨_, rfl⟩
  rw [hs1] at HR HLS
  have HS1 := Lib.hid hs1
  clear hr hwn hn hn2 hs1 h
  go_wp2
  go_loopw [5, 8] (fun v iv wr => ∃ (k : Nat) (L : List (List Value)) (sk : RS), k ≤ n ∧ iv = .int .i64 (k : Int) ∧ Hid (L.length = k) ∧ Hid (Chn (imLegR bs st) (leS bs st) s1 L sk) ∧ Hid (itS (leS bs st) (n - k) sk = lsS bs st (leS bs st) s) ∧ Hid (wr.ownsRow w.heap.size 87 13 v L.length L.reverse.flatten) ∧ Hid (RdPTo g gb ob c st bs sk w wr) ∧ Hid (k = 0 → v = .slice none 0 0)) (fun _ iv _ => n - (intOf iv).toNat)
  case atStart => exact ⟨0, [], s1, Nat.zero_le _, rfl, rfl, rfl, HLS.out.symm, World.ownsRow_nil _ _ _ _, HR.out, fun _ => rfl⟩
  case round =>
    obtain ⟨k, L, sk, hk, rfl, hL, hch, hit, hown, hrd, hnil⟩ := hrel
    obtain ⟨ak, bk⟩ := sk
    have k3 := hrd.out.r.bx.cell 3 (u := .bool bk) rfl
    by_cases hlt : k < n
    · cases bk with
      | true =>
        have HB : Hid ((lsS bs st (leS bs st) s) = (ak, true)) := by unfold Hid; rw [← hit.out, itS_bad rfl]
        clear hown hch hit
        go_wp2
        go_ret
        refine ⟨_, rfl, ⟨_, _, _, rfl⟩, fun _ => rfl, fun hb => ?_, ?_⟩
        · rw [HB.out] at hb; cases hb
        · rw [HB.out]; exact hrd.out
      | false =>
        have hkl : ak ≤ st := hrd.out.r.at_
        go_wp2_with fail
        refine (imLeg_any (ak, false) _ hrd.out.r).mono ?_
        rintro e w2 ⟨⟨cs, rfl, hcs⟩, hr2⟩
        have HR2 := Lib.hid (hrd.out.then_ hr2)
        have hf2 := Lib.hid hr2.f
        have hown2 : w2.ownsRow w.heap.size 87 13 _ L.length L.reverse.flatten := own_frm2 hown.out hr2.f (by omega)
        have hlo := hown2.lt
        obtain ⟨cs, rfl⟩ : ∃ l : List Value, cs = l.toArray := ⟨cs.toList, by simp⟩
        simp only [List.toList_toArray] at hcs
        have HCS := Lib.hid hcs
        obtain rfl : cs = imLegC bs st (ak, false) := hcs
        unfold imLegC
        have HC2 : Hid (imLegR bs st (ak, false) (imLegC bs st (ak, false))) := rfl
        clear hr2 hown k3
        have hLk := hL.out
        go_wp2_with (at_builtin; refine wpList_append_lies _ rfl _ _ 82 rfl w.heap.size 87 i0 (.agg #[.int .u8 0, .string ⟨#[]⟩, .string ⟨#[]⟩, .int .u8 0, .bool false, .int .i64 0, .int .i64 0, .int .i64 0, .int .i64 0, .int .i64 0, .int .i64 0, .int .i64 0, .int .i64 0]) 13 112 Tryz.underlying82 hi hz0 hz1 hz2 rfl (by decide) _ _ _ rfl (hown2.alloc _) ⟨w2.heap.size, 0, none⟩ 1 1 (imLegC bs st (ak, false)) rfl rfl (World.news_of_block (heap_alloc_new w2 _)) ?c2 (by decide) ?c3 ?c4 ?c5 _ rfl ?_)
        case c2 => intro u hu; unfold imLegC at hu; simp only [List.mem_cons, List.not_mem_nil, or_false] at hu; rcases hu with rfl | rfl | rfl | rfl | rfl | rfl | rfl | rfl | rfl | rfl | rfl | rfl | rfl <;> rfl
        case c3 => unfold maxLen; omega
        case c4 => omega
        case c5 => have := HR2.out.f.size; simp; omega
        intro gg cap w3 hown3 hgrow3 hor hgg
        have R := chn_step (one := leS bs st) (ak := ak) hL.out hch.out hit.out HC2.out hlt HR2.out hown2 hlo hown3 hgrow3 hgl hgb
        obtain ⟨R1, R2, R3, R4, R5⟩ := R
        have Q1 := Lib.hid R1
        have Q2 := Lib.hid R2
        have Q3 := Lib.hid R3
        have Q4 := Lib.hid R4
        have Q5 := Lib.hid R5
        clear R1 R2 R3 R4 R5 hown3 hgrow3 hor hgg hlo hown2 hLk hL hch hit
        go_wp2
        go_roundw
        case rel => exact ⟨k + 1, _, _, hlt, by go_num, Q1, Q2, Q3, Q4, Q5, fun h => by omega⟩
        case measure => simp [intOf]; omega
    · have hkn : k = n := by omega
      subst hkn
      have hit2 := hit.out
      rw [Nat.sub_self] at hit2
      have HI : Hid ((ak, bk) = lsS bs st (leS bs st) s) := hit2
      obtain ⟨A, n', c', hv⟩ := own_form hown.out
      rw [hv] at hown hnil ⊢
      clear hit2 hit
      go_wp2
      go_ret
      rw [HI.out] at hrd hch
      refine ⟨_, rfl, ⟨_, _, _, rfl⟩, fun h0 => hnil.out (HN.out ▸ h0), fun _ => ⟨L, hL.out.trans HN.out.symm, by rw [HS1.out]; exact hch.out, hown.out⟩, hrd.out⟩
def imPartR (bs : List UInt8) (st : Nat) (s : RS) (cs : List Value) : Prop := ∃ A n c', cs = [.int .u8 ((byV bs st s).toNat : Int), .string (sb (txV bs st (tkS st 1 s))), .slice A n c']
set_option maxRecDepth 100000 in
set_option maxHeartbeats 8000000 in
theorem imPart_any {g gb ob c st : Nat} {bs : List UInt8} (s : RS) (w : World) (h : RdP g gb ob c st bs s w) :
    Calls Tryz.prog 99 #[.pointer (some ⟨g, 0, none⟩)] w fun e w' => (∃ cs, e = .returned (.agg cs) ∧ imPartR bs st s cs.toList) ∧ RdPTo g gb ob c st bs (imPaS bs st s) w w' := by
  have hgl := h.lt
  have hgb := h.by_.1
  obtain ⟨w0, hw0⟩ : ∃ W, w.alloc (.cells #[.int .u8 0, .string ⟨#[]⟩, .slice none 0 0] 84) = W := ⟨_, rfl⟩
  have I0 : Hid (ImB g gb ob c st bs w.heap.size #[.int .u8 0, .string ⟨#[]⟩, .slice none 0 0] 84 s w w0) := by
    rw [← hw0]; exact ⟨⟨h.below ((Below.refl _ _).alloc (Nat.le_refl _) _), Frm.of_below ((Below.refl _ _).alloc (Nat.le_refl _) _)⟩, Bx.last _ _ _, by omega, by omega⟩
  obtain ⟨q, hq⟩ : ∃ q, w.heap.size = q := ⟨_, rfl⟩
  rw [hq] at I0
  have HQ := Lib.hid hq
  clear h hgl hgb
  go_enter Tryz.func99, Tryz.ntmps99
  go_wp2_with fail
  try rw [hw0]
  try rw [hq]
  clear hw0 hq
  refine (imByte_any s _ I0.out.r.r).mono ?_
  rintro e w1 ⟨rfl, hr⟩
  have I1 := Lib.hid (I0.out.then_ hr)
  clear hr I0
  go_wp2_with fail
  refine (imText_any (tkS st 1 s) _ I1.out.r.r).mono ?_
  rintro e w2 ⟨rfl, hr⟩
  have I2 := Lib.hid (I1.out.then_ hr)
  clear hr I1
  go_wp2_with fail
  refine (imLsLeg_any (txS bs st (tkS st 1 s)) _ I2.out.r.r).mono ?_
  rintro e w3 ⟨v, rfl, ⟨A, n, c', rfl⟩, hnl, hls, hr⟩
  have I3 := Lib.hid (I2.out.then_ hr)
  clear hr I2 hls hnl
  have F := I3.out.fin [.int .u8 ((byV bs st s).toNat : Int), .string (sb (txV bs st (tkS st 1 s))), .slice A n c'] rfl HQ.out
  simp only [setAll, Nat.reduceAdd, Nat.zero_add] at F
  obtain ⟨FX, FR⟩ := F
  have HR := Lib.hid FR
  have hql := I3.out.x.lt
  have y0 := I3.out.x.cell 0 (u := .int .u8 0) rfl
  have f0 := I3.out.x.free 0
  have y1 := I3.out.x.cell 1 (u := .string ⟨#[]⟩) rfl
  have f1 := I3.out.x.free 1
  have y2 := I3.out.x.cell 2 (u := .slice none 0 0) rfl
  have f2 := I3.out.x.free 2
  have z0 := FX.cell 0 (u := .int .u8 ((byV bs st s).toNat : Int)) rfl
  have z1 := FX.cell 1 (u := .string (sb (txV bs st (tkS st 1 s)))) rfl
  have z2 := FX.cell 2 (u := .slice A n c') rfl
  clear FX FR I3 HQ
  go_wp2
  refine bodyPost_ret (v := .agg #[.int .u8 ((byV bs st s).toNat : Int), .string (sb (txV bs st (tkS st 1 s))), .slice A n c']) (by simp [results, Tryz.results99, go_sem, z0, z1, z2]; try rfl) rfl ?_
  exact ⟨⟨_, rfl, ⟨_, _, _, rfl⟩⟩, HR.out⟩
theorem info_imLsPart : (Tryz.prog.info? 84).map (fun i => (i.zero, i.size, i.bytes)) = some (some (.agg #[.int .u8 0, .string ⟨#[]⟩, .slice none 0 0]), 3, 48) := by kernel_rfl
set_option maxRecDepth 100000 in
set_option maxHeartbeats 8000000 in
theorem imLsPart_any {g gb ob c st : Nat} {bs : List UInt8} (s : RS) (w : World) (h : RdP g gb ob c st bs s w) :
    Calls Tryz.prog 98 #[.pointer (some ⟨g, 0, none⟩), .func (.func 99) #[] #[]] w (ImLPost (imPartR bs st) (imPaS bs st) 84 3 g gb ob c st bs s w) := by
  obtain ⟨i0, hi, hz0, hz1, hz2⟩ := info_parts info_imLsPart
  have hgl := h.lt
  have hgb := h.by_.1
  go_enter Tryz.func98, Tryz.ntmps98
  go_wp2_with fail
  refine (imLow_any s 2 w h (by omega)).mono ?_
  rintro e w1 ⟨rfl, hr⟩
  have HR := Lib.hid hr
  have hnlt : lsN bs st s < 65536 := lsN_lt
  have HLS : Hid (lsS bs st (imPaS bs st) s = itS (imPaS bs st) (lsN bs st s) (tkS st 2 s)) := rfl
  obtain ⟨n, hn⟩ : ∃ n, loN (tkV bs st 2 s) = n := ⟨_, rfl⟩
  have hn2 : lsN bs st s = n := hn
  have hwn : IntKind.i64.wrap (n : Int) = (n : Int) := by rw [IntKind.wrap_i64]; omega
  rw [hn, hwn]
  rw [hn2] at HLS hnlt
  have HN := Lib.hid hn2
  obtain ⟨s1, hs1⟩ : ∃ x, tkS st 2 s = x := ⟨_, rfl⟩
  rw [hs1] at HR HLS
  have HS1 := Lib.hid hs1
  clear hr hwn hn hn2 hs1 h
  go_wp2
  go_loopw [5, 8] (fun v iv wr => ∃ (k : Nat) (L : List (List Value)) (sk : RS), k ≤ n ∧ iv = .int .i64 (k : Int) ∧ Hid (L.length = k) ∧ Hid (Chn (imPartR bs st) (imPaS bs st) s1 L sk) ∧ Hid (itS (imPaS bs st) (n - k) sk = lsS bs st (imPaS bs st) s) ∧ Hid (wr.ownsRow w.heap.size 84 3 v L.length L.reverse.flatten) ∧ Hid (RdPTo g gb ob c st bs sk w wr) ∧ Hid (k = 0 → v = .slice none 0 0)) (fun _ iv _ => n - (intOf iv).toNat)
  case atStart => exact ⟨0, [], s1, Nat.zero_le _, rfl, rfl, rfl, HLS.out.symm, World.ownsRow_nil _ _ _ _, HR.out, fun _ => rfl⟩
  case round =>
    obtain ⟨k, L, sk, hk, rfl, hL, hch, hit, hown, hrd, hnil⟩ := hrel
    obtain ⟨ak, bk⟩ := sk
    have k3 := hrd.out.r.bx.cell 3 (u := .bool bk) rfl
    by_cases hlt : k < n
    · cases bk with
      | true =>
        have HB : Hid ((lsS bs st (imPaS bs st) s) = (ak, true)) := by unfold Hid; rw [← hit.out, itS_bad rfl]
        clear hown hch hit
        go_wp2
        go_ret
        refine ⟨_, rfl, ⟨_, _, _, rfl⟩, fun _ => rfl, fun hb => ?_, ?_⟩
        · rw [HB.out] at hb; cases hb
        · rw [HB.out]; exact hrd.out
      | false =>
        have hkl : ak ≤ st := hrd.out.r.at_
        go_wp2_with fail
        refine (imPart_any (ak, false) _ hrd.out.r).mono ?_
        rintro e w2 ⟨⟨cs, rfl, hcs⟩, hr2⟩
        have HR2 := Lib.hid (hrd.out.then_ hr2)
        have hf2 := Lib.hid hr2.f
        have hown2 : w2.ownsRow w.heap.size 84 3 _ L.length L.reverse.flatten := own_frm2 hown.out hr2.f (by omega)
        have hlo := hown2.lt
        obtain ⟨cs, rfl⟩ : ∃ l : List Value, cs = l.toArray := ⟨cs.toList, by simp⟩
        simp only [List.toList_toArray] at hcs
        have HCS := Lib.hid hcs
        obtain ⟨A, na, ca, rfl⟩ := hcs
        have HC2 := HCS
        clear hr2 hown k3
        have hLk := hL.out
        go_wp2_with (at_builtin; refine wpList_append_lies _ rfl _ _ 78 rfl w.heap.size 84 i0 (.agg #[.int .u8 0, .string ⟨#[]⟩, .slice none 0 0]) 3 48 Tryz.underlying78 hi hz0 hz1 hz2 rfl (by decide) _ _ _ rfl (hown2.alloc _) ⟨w2.heap.size, 0, none⟩ 1 1 ([.int .u8 ((byV bs st (ak, false)).toNat : Int), .string (sb (txV bs st (tkS st 1 (ak, false)))), .slice A na ca]) rfl rfl (World.news_of_block (heap_alloc_new w2 _)) ?c2 (by decide) ?c3 ?c4 ?c5 _ rfl ?_)
        case c2 => intro u hu; simp only [List.mem_cons, List.not_mem_nil, or_false] at hu; rcases hu with rfl | rfl | rfl <;> rfl
        case c3 => unfold maxLen; omega
        case c4 => omega
        case c5 => have := HR2.out.f.size; simp; omega
        intro gg cap w3 hown3 hgrow3 hor hgg
        have R := chn_step (one := imPaS bs st) (ak := ak) hL.out hch.out hit.out HC2.out hlt HR2.out hown2 hlo hown3 hgrow3 hgl hgb
        obtain ⟨R1, R2, R3, R4, R5⟩ := R
        have Q1 := Lib.hid R1
        have Q2 := Lib.hid R2
        have Q3 := Lib.hid R3
        have Q4 := Lib.hid R4
        have Q5 := Lib.hid R5
        clear R1 R2 R3 R4 R5 hown3 hgrow3 hor hgg hlo hown2 hLk hL hch hit
        go_wp2
        go_roundw
        case rel => exact ⟨k + 1, _, _, hlt, by go_num, Q1, Q2, Q3, Q4, Q5, fun h => by omega⟩
        case measure => simp [intOf]; omega
    · have hkn : k = n := by omega
      subst hkn
      have hit2 := hit.out
      rw [Nat.sub_self] at hit2
      have HI : Hid ((ak, bk) = lsS bs st (imPaS bs st) s) := hit2
      obtain ⟨A, n', c', hv⟩ := own_form hown.out
      rw [hv] at hown hnil ⊢
      clear hit2 hit
      go_wp2
      go_ret
      rw [HI.out] at hrd hch
      refine ⟨_, rfl, ⟨_, _, _, rfl⟩, fun h0 => hnil.out (HN.out ▸ h0), fun _ => ⟨L, hL.out.trans HN.out.symm, by rw [HS1.out]; exact hch.out, hown.out⟩, hrd.out⟩
def imProcR (bs : List UInt8) (st : Nat) (s : RS) (cs : List Value) : Prop := ∃ A n c', cs = [.string (sb (txV bs st s)), .string (sb (txV bs st (txS bs st s))), .int .u8 ((byV bs st (txS bs st (txS bs st s))).toNat : Int), .slice A n c']
set_option maxRecDepth 100000 in
set_option maxHeartbeats 8000000 in
theorem imProc_any {g gb ob c st : Nat} {bs : List UInt8} (s : RS) (w : World) (h : RdP g gb ob c st bs s w) :
    Calls Tryz.prog 59 #[.pointer (some ⟨g, 0, none⟩)] w fun e w' => (∃ cs, e = .returned (.agg cs) ∧ imProcR bs st s cs.toList) ∧ RdPTo g gb ob c st bs (prS bs st s) w w' := by
  have hgl := h.lt
  have hgb := h.by_.1
  obtain ⟨w0, hw0⟩ : ∃ W, w.alloc (.cells #[.string ⟨#[]⟩, .string ⟨#[]⟩, .int .u8 0, .slice none 0 0] 80) = W := ⟨_, rfl⟩
  have I0 : Hid (ImB g gb ob c st bs w.heap.size #[.string ⟨#[]⟩, .string ⟨#[]⟩, .int .u8 0, .slice none 0 0] 80 s w w0) := by
    rw [← hw0]; exact ⟨⟨h.below ((Below.refl _ _).alloc (Nat.le_refl _) _), Frm.of_below ((Below.refl _ _).alloc (Nat.le_refl _) _)⟩, Bx.last _ _ _, by omega, by omega⟩
  obtain ⟨q, hq⟩ : ∃ q, w.heap.size = q := ⟨_, rfl⟩
  rw [hq] at I0
  have HQ := Lib.hid hq
  clear h hgl hgb
  go_enter Tryz.func59, Tryz.ntmps59
  go_wp2_with fail
  try rw [hw0]
  try rw [hq]
  clear hw0 hq
  refine (imText_any s _ I0.out.r.r).mono ?_
  rintro e w1 ⟨rfl, hr⟩
  have I1 := Lib.hid (I0.out.then_ hr)
  clear hr I0
  go_wp2_with fail
  refine (imText_any (txS bs st s) _ I1.out.r.r).mono ?_
  rintro e w2 ⟨rfl, hr⟩
  have I2 := Lib.hid (I1.out.then_ hr)
  clear hr I1
  go_wp2_with fail
  refine (imByte_any (txS bs st (txS bs st s)) _ I2.out.r.r).mono ?_
  rintro e w3 ⟨rfl, hr⟩
  have I3 := Lib.hid (I2.out.then_ hr)
  clear hr I2
  go_wp2_with fail
  refine (imLsPart_any (tkS st 1 (txS bs st (txS bs st s))) _ I3.out.r.r).mono ?_
  rintro e w4 ⟨v, rfl, ⟨A, n, c', rfl⟩, hnl, hls, hr⟩
  have I4 := Lib.hid (I3.out.then_ hr)
  clear hr I3 hls hnl
  have F := I4.out.fin [.string (sb (txV bs st s)), .string (sb (txV bs st (txS bs st s))), .int .u8 ((byV bs st (txS bs st (txS bs st s))).toNat : Int), .slice A n c'] rfl HQ.out
  simp only [setAll, Nat.reduceAdd, Nat.zero_add] at F
  obtain ⟨FX, FR⟩ := F
  have HR := Lib.hid FR
  have hql := I4.out.x.lt
  have y0 := I4.out.x.cell 0 (u := .string ⟨#[]⟩) rfl
  have f0 := I4.out.x.free 0
  have y1 := I4.out.x.cell 1 (u := .string ⟨#[]⟩) rfl
  have f1 := I4.out.x.free 1
  have y2 := I4.out.x.cell 2 (u := .int .u8 0) rfl
  have f2 := I4.out.x.free 2
  have y3 := I4.out.x.cell 3 (u := .slice none 0 0) rfl
  have f3 := I4.out.x.free 3
  have z0 := FX.cell 0 (u := .string (sb (txV bs st s))) rfl
  have z1 := FX.cell 1 (u := .string (sb (txV bs st (txS bs st s)))) rfl
  have z2 := FX.cell 2 (u := .int .u8 ((byV bs st (txS bs st (txS bs st s))).toNat : Int)) rfl
  have z3 := FX.cell 3 (u := .slice A n c') rfl
  clear FX FR I4 HQ
  go_wp2
  refine bodyPost_ret (v := .agg #[.string (sb (txV bs st s)), .string (sb (txV bs st (txS bs st s))), .int .u8 ((byV bs st (txS bs st (txS bs st s))).toNat : Int), .slice A n c']) (by simp [results, Tryz.results59, go_sem, z0, z1, z2, z3]; try rfl) rfl ?_
  exact ⟨⟨_, rfl, ⟨_, _, _, rfl⟩⟩, HR.out⟩
theorem info_imLsProc : (Tryz.prog.info? 80).map (fun i => (i.zero, i.size, i.bytes)) = some (some (.agg #[.string ⟨#[]⟩, .string ⟨#[]⟩, .int .u8 0, .slice none 0 0]), 4, 64) := by kernel_rfl
set_option maxRecDepth 100000 in
set_option maxHeartbeats 8000000 in
theorem imLsProc_any {g gb ob c st : Nat} {bs : List UInt8} (s : RS) (w : World) (h : RdP g gb ob c st bs s w) :
    Calls Tryz.prog 58 #[.pointer (some ⟨g, 0, none⟩), .func (.func 59) #[] #[]] w (ImLPost (imProcR bs st) (prS bs st) 80 4 g gb ob c st bs s w) := by
  obtain ⟨i0, hi, hz0, hz1, hz2⟩ := info_parts info_imLsProc
  have hgl := h.lt
  have hgb := h.by_.1
  go_enter Tryz.func58, Tryz.ntmps58
  go_wp2_with fail
  refine (imLow_any s 2 w h (by omega)).mono ?_
  rintro e w1 ⟨rfl, hr⟩
  have HR := Lib.hid hr
  have hnlt : lsN bs st s < 65536 := lsN_lt
  have HLS : Hid (lsS bs st (prS bs st) s = itS (prS bs st) (lsN bs st s) (tkS st 2 s)) := rfl
  obtain ⟨n, hn⟩ : ∃ n, loN (tkV bs st 2 s) = n := ⟨_, rfl⟩
  have hn2 : lsN bs st s = n := hn
  have hwn : IntKind.i64.wrap (n : Int) = (n : Int) := by rw [IntKind.wrap_i64]; omega
  rw [hn, hwn]
  rw [hn2] at HLS hnlt
  have HN := Lib.hid hn2
  obtain ⟨s1, hs1⟩ : ∃ x, tkS st 2 s = x := ⟨_, rfl⟩
  rw [hs1] at HR HLS
  have HS1 := Lib.hid hs1
  clear hr hwn hn hn2 hs1 h
  go_wp2
  go_loopw [5, 8] (fun v iv wr => ∃ (k : Nat) (L : List (List Value)) (sk : RS), k ≤ n ∧ iv = .int .i64 (k : Int) ∧ Hid (L.length = k) ∧ Hid (Chn (imProcR bs st) (prS bs st) s1 L sk) ∧ Hid (itS (prS bs st) (n - k) sk = lsS bs st (prS bs st) s) ∧ Hid (wr.ownsRow w.heap.size 80 4 v L.length L.reverse.flatten) ∧ Hid (RdPTo g gb ob c st bs sk w wr) ∧ Hid (k = 0 → v = .slice none 0 0)) (fun _ iv _ => n - (intOf iv).toNat)
  case atStart => exact ⟨0, [], s1, Nat.zero_le _, rfl, rfl, rfl, HLS.out.symm, World.ownsRow_nil _ _ _ _, HR.out, fun _ => rfl⟩
  case round =>
    obtain ⟨k, L, sk, hk, rfl, hL, hch, hit, hown, hrd, hnil⟩ := hrel
    obtain ⟨ak, bk⟩ := sk
    have k3 := hrd.out.r.bx.cell 3 (u := .bool bk) rfl
    by_cases hlt : k < n
    · cases bk with
      | true =>
        have HB : Hid ((lsS bs st (prS bs st) s) = (ak, true)) := by unfold Hid; rw [← hit.out, itS_bad rfl]
        clear hown hch hit
        go_wp2
        go_ret
        refine ⟨_, rfl, ⟨_, _, _, rfl⟩, fun _ => rfl, fun hb => ?_, ?_⟩
        · rw [HB.out] at hb; cases hb
        · rw [HB.out]; exact hrd.out
      | false =>
        have hkl : ak ≤ st := hrd.out.r.at_
        go_wp2_with fail
        refine (imProc_any (ak, false) _ hrd.out.r).mono ?_
        rintro e w2 ⟨⟨cs, rfl, hcs⟩, hr2⟩
        have HR2 := Lib.hid (hrd.out.then_ hr2)
        have hf2 := Lib.hid hr2.f
        have hown2 : w2.ownsRow w.heap.size 80 4 _ L.length L.reverse.flatten := own_frm2 hown.out hr2.f (by omega)
        have hlo := hown2.lt
        obtain ⟨cs, rfl⟩ : ∃ l : List Value, cs = l.toArray := ⟨cs.toList, by simp⟩
        simp only [List.toList_toArray] at hcs
        have HCS := Lib.hid hcs
        obtain ⟨A, na, ca, rfl⟩ := hcs
        have HC2 := HCS
        clear hr2 hown k3
        have hLk := hL.out
        go_wp2_with (at_builtin; refine wpList_append_lies _ rfl _ _ 28 rfl w.heap.size 80 i0 (.agg #[.string ⟨#[]⟩, .string ⟨#[]⟩, .int .u8 0, .slice none 0 0]) 4 64 Tryz.underlying28 hi hz0 hz1 hz2 rfl (by decide) _ _ _ rfl (hown2.alloc _) ⟨w2.heap.size, 0, none⟩ 1 1 ([.string (sb (txV bs st (ak, false))), .string (sb (txV bs st (txS bs st (ak, false)))), .int .u8 ((byV bs st (txS bs st (txS bs st (ak, false)))).toNat : Int), .slice A na ca]) rfl rfl (World.news_of_block (heap_alloc_new w2 _)) ?c2 (by decide) ?c3 ?c4 ?c5 _ rfl ?_)
        case c2 => intro u hu; simp only [List.mem_cons, List.not_mem_nil, or_false] at hu; rcases hu with rfl | rfl | rfl | rfl <;> rfl
        case c3 => unfold maxLen; omega
        case c4 => omega
        case c5 => have := HR2.out.f.size; simp; omega
        intro gg cap w3 hown3 hgrow3 hor hgg
        have R := chn_step (one := prS bs st) (ak := ak) hL.out hch.out hit.out HC2.out hlt HR2.out hown2 hlo hown3 hgrow3 hgl hgb
        obtain ⟨R1, R2, R3, R4, R5⟩ := R
        have Q1 := Lib.hid R1
        have Q2 := Lib.hid R2
        have Q3 := Lib.hid R3
        have Q4 := Lib.hid R4
        have Q5 := Lib.hid R5
        clear R1 R2 R3 R4 R5 hown3 hgrow3 hor hgg hlo hown2 hLk hL hch hit
        go_wp2
        go_roundw
        case rel => exact ⟨k + 1, _, _, hlt, by go_num, Q1, Q2, Q3, Q4, Q5, fun h => by omega⟩
        case measure => simp [intOf]; omega
    · have hkn : k = n := by omega
      subst hkn
      have hit2 := hit.out
      rw [Nat.sub_self] at hit2
      have HI : Hid ((ak, bk) = lsS bs st (prS bs st) s) := hit2
      obtain ⟨A, n', c', hv⟩ := own_form hown.out
      rw [hv] at hown hnil ⊢
      clear hit2 hit
      go_wp2
      go_ret
      rw [HI.out] at hrd hch
      refine ⟨_, rfl, ⟨_, _, _, rfl⟩, fun h0 => hnil.out (HN.out ▸ h0), fun _ => ⟨L, hL.out.trans HN.out.symm, by rw [HS1.out]; exact hch.out, hown.out⟩, hrd.out⟩
end Go.Proofs.YtecklnobgfahfaaGreatDoor
namespace Go.Proofs.YtecklnobgfahfaaGreatDoor
open Go.RowKit
set_option linter.unusedVariables false
set_option linter.unusedSimpArgs false
def fourC (x : Int) : Array Value := #[.int .u8 (x % 256), .int .u8 (x / 256 % 256), .int .u8 (x / 65536 % 256), .int .u8 (x / 16777216 % 256)]
/-- while the four bytes are compared -/
structure Cmp4 (g o q : Nat) (bs : List UInt8) (S : Int) (w wr : World) : Prop where
  b : BsA wr g o bs
  x : Bx q (fourC S) 5 wr
  e : Below w.heap.size w wr
theorem Cmp4.drewN {g o q : Nat} {bs : List UInt8} {S : Int} {w wr : World} (h : Cmp4 g o q bs S w wr) (n : Nat) : Cmp4 g o q bs S w (wr.drewN n) := ⟨h.b.below (below_drewN' (Below.refl _ _) n), h.x, below_drewN' h.e n⟩
end Go.Proofs.YtecklnobgfahfaaGreatDoor
namespace Go.Proofs.YtecklnobgfahfaaGreatDoor
open Go.RowKit
set_option linter.unusedVariables false
set_option linter.unusedSimpArgs false
def dbI (h : ImHd) (f a p : Value) : Array Value := #[.string (sb h.nm), .int .i64 h.cy, .int .i64 h.fr, .int .i64 h.tu, .int .i64 h.la, .int .i64 h.lo, f, a, p]
def dbZ9 : Array Value := #[.string ⟨#[]⟩, .int .i64 0, .int .i64 0, .int .i64 0, .int .i64 0, .int .i64 0, .slice none 0 0, .slice none 0 0, .slice none 0 0]
def secC (s : Sec) : List Value := [.int .u8 (s.1 : Int), .int .i64 (s.2.1 : Int), .int .i64 (s.2.2.1 : Int), .int .i64 (s.2.2.2 : Int)]
def seccells (L : List Sec) : List Value := L.flatMap secC
theorem seccells_snoc (L : List Sec) (s : Sec) : seccells (L ++ [s]) = seccells L ++ secC s := by unfold seccells; rw [List.flatMap_append]; simp
/-- a list that was read: its length; nil, where it has no elements -/
def LF (v : Value) (n : Nat) : Prop := ∃ A c, v = .slice A n c ∧ (n = 0 → v = .slice none 0 0)
theorem LF.nil : LF (.slice none 0 0) 0 := ⟨_, _, rfl, fun _ => rfl⟩
/-- the database behind k sections -/
structure DbK (body : List UInt8) (k : Nat) (db : Array Value) (L : List Sec) : Prop where
  ex : ∃ (f a p : Value) (nf na np : Nat), db = dbI (if k = 0 then hd0 else imHdF body) f a p ∧ LF f nf ∧ LF a na ∧ LF p np ∧ (k < 2 → nf = 0) ∧ (k < 3 → na = 0) ∧ (k < 4 → np = 0) ∧ L.map (·.2.2.2) = ([1, nf, na, np] : List Nat).take k
/-- what is read: the error, the header, the sections -/
def rdRes (bs : List UInt8) : Int × ImHd × List Sec :=
  if bs.length < 4 then (4, hd0, []) else if opOk bs = false then (12, hd0, []) else match rdF (bs.take (bs.length - 4)) with
    | none => (4, hd0, [])
    | some (h, l) => (0, h, l)
def ImReadPost (bs : List UInt8) (w : World) (e : Ending) (w' : World) : Prop :=
  ∃ (f a p sv : Value) (nf na np : Nat), e = .returned (.tuple #[.agg (dbI (rdRes bs).2.1 f a p), sv, .int .i64 (rdRes bs).1]) ∧ Rd w' 4 sv (rdRes bs).2.2.length (seccells (rdRes bs).2.2) ∧ LF f nf ∧ LF a na ∧ LF p np ∧ ((rdRes bs).1 = 0 → (rdRes bs).2.2.map (·.2.2.2) = [1, nf, na, np]) ∧ Below w.heap.size w w'
theorem ImReadPost.err {bs : List UInt8} {w w' : World} {x : Int} (h : rdRes bs = (x, hd0, [])) (hx : x ≠ 0) (hb : Below w.heap.size w w') : ImReadPost bs w (.returned (.tuple #[.agg dbZ9, .slice none 0 0, .int .i64 x])) w' := by
  refine ⟨.slice none 0 0, .slice none 0 0, .slice none 0 0, .slice none 0 0, 0, 0, 0, ?_, ?_, LF.nil, LF.nil, LF.nil, fun h0 => ?_, hb⟩
  · rw [h]; rfl
  · rw [h]; exact Rd.nil _ _
  · rw [h] at h0; exact absurd h0 hx
theorem rdRes_some {bs : List UInt8} (h4 : 4 ≤ bs.length) (ho : opOk bs = true) {h : ImHd} {l : List Sec} (hr : rdF (bs.take (bs.length - 4)) = some (h, l)) : rdRes bs = (0, h, l) := by
  unfold rdRes; rw [if_neg (by omega), if_neg (by rw [ho]; simp), hr]
theorem rdRes_none {bs : List UInt8} (h4 : 4 ≤ bs.length) (ho : opOk bs = true) (hr : rdF (bs.take (bs.length - 4)) = none) : rdRes bs = (4, hd0, []) := by
  unfold rdRes; rw [if_neg (by omega), if_neg (by rw [ho]; simp), hr]
theorem rdRes_sum {bs : List UInt8} (h4 : 4 ≤ bs.length) (ho : opOk bs = false) : rdRes bs = (12, hd0, []) := by
  unfold rdRes; rw [if_neg (by omega), if_pos ho]
theorem rdRes_short {bs : List UInt8} (h4 : bs.length < 4) : rdRes bs = (4, hd0, []) := by
  unfold rdRes; rw [if_pos h4]
/-- while the sections are read -/
structure RdI (w : World) (q1 q2 gb ob c B : Nat) (body : List UInt8) (db : Array Value) (s : RS) (sv : Value) (L : List Sec) (wr : World) : Prop where
  res : Bx w.heap.size dbZ9 30 wr
  rd : RdP q1 gb ob c body.length body s wr
  dbx : Bx q2 db 30 wr
  own : wr.ownsRow B 49 4 sv L.length (seccells L)
  be : Below w.heap.size w wr
  o1 : w.heap.size < gb
  o2 : gb < q1
  o3 : q1 < q2
  o4 : q2 < B
  hi : B ≤ wr.heap.size
section
variable {w wr wr' : World} {q1 q2 gb ob c B : Nat} {body : List UInt8} {db db' : Array Value} {s s' : RS} {sv : Value} {L : List Sec}
theorem own_keep {S : Nat → Prop} {base : Nat} {w w' : World} {e : TypeId} {size n : Nat} {v : Value} {xs : List Value} (h : w.ownsRow base e size v n xs) (hf : Frm S w w') (hS : ∀ b, base ≤ b → b < w.heap.size → ¬ S b) : w'.ownsRow base e size v n xs := by
  obtain ⟨hl, h2 | ⟨b, cap, cur, hv, hb, hh, r⟩⟩ := h
  · exact ⟨hl, .inl h2⟩
  · exact ⟨hl, .inr ⟨b, cap, cur, hv, hb, (hf.block b (heap_lt hh) (hS b hb (heap_lt hh))).trans hh, r⟩⟩
theorem RdI.frm (h : RdI w q1 q2 gb ob c B body db s sv L wr) {S : Nat → Prop} (hf : Frm S wr wr') (hS : ∀ k, S k → k = q2 ∨ wr.heap.size ≤ k) (hdb : Bx q2 db' 30 wr') : RdI w q1 q2 gb ob c B body db' s sv L wr' := by
  have o1 := h.o1; have o2 := h.o2; have o3 := h.o3; have o4 := h.o4; have hi := h.hi
  have hn : ∀ b, b < wr.heap.size → b ≠ q2 → ¬ S b := fun b hb hne hs => by rcases hS b hs with h1 | h1 <;> omega
  refine ⟨(hf.block _ (by omega) (hn _ (by omega) (by omega))).trans h.res, h.rd.keep hf (hn _ (by omega) (by omega)) (hn _ (by omega) (by omega)), hdb, own_keep h.own hf (fun b hb hl => hn b hl (by omega)), h.be.trans (hf.below (by omega) (fun k hk => by rcases hS k hk with h1 | h1 <;> omega)), o1, o2, o3, o4, Nat.le_trans hi hf.size⟩
theorem RdI.below (h : RdI w q1 q2 gb ob c B body db s sv L wr) (hb : Below wr.heap.size wr wr') : RdI w q1 q2 gb ob c B body db s sv L wr' :=
  h.frm (S := fun _ => False) (Frm.of_below hb) (fun _ hk => hk.elim) (h.dbx.via hb)
theorem RdI.call (h : RdI w q1 q2 gb ob c B body db s sv L wr) (k : RdPTo q1 gb ob c body.length body s' wr wr') : RdI w q1 q2 gb ob c B body db s' sv L wr' := by
  have o1 := h.o1; have o2 := h.o2; have o3 := h.o3; have o4 := h.o4; have hi := h.hi
  have hf := k.f
  refine ⟨(hf.block _ (by omega) (by omega)).trans h.res, k.r, (hf.block _ (by omega) (by omega)).trans h.dbx, own_keep h.own hf (fun b hb hl => by omega), h.be.trans (hf.below (by omega) (fun k hk => by omega)), o1, o2, o3, o4, Nat.le_trans hi hf.size⟩
theorem RdP.seek {g gb ob c st : Nat} {bs : List UInt8} {a n : Nat} {w : World} (h : RdP g gb ob c st bs (a, false) w) (hn : n ≤ st) : RdPTo g gb ob c st bs (n, false) w (w.setCell ⟨g, 1, none⟩ (.int .i64 (n : Int))) :=
  ⟨h.to (frm_set w g 1 _) (h.bx.set 1 _) hn, frm_set w g 1 _⟩
theorem RdI.push (h : RdI w q1 q2 gb ob c B body db s sv L wr) {v' : Value} {x : Sec} {o : Obj} (hown : wr'.ownsRow B 49 4 v' (L.length + 1) (seccells L ++ secC x)) (hg : (wr.alloc o).grownBy wr' sv.ownBlock) : RdI w q1 q2 gb ob c B body db s v' (L ++ [x]) wr' := by
  have o1 := h.o1; have o2 := h.o2; have o3 := h.o3; have o4 := h.o4; have hi := h.hi
  have hlo := h.own.lt
  have hF : Frm (fun b => B ≤ b) wr wr' := by
    refine ⟨hg.os, hg.tape, hg.output, ?_, fun b hb hn => ?_⟩
    · have := hg.size
      rw [World.size_alloc] at this; omega
    · have h1 := hg.block b (by rw [World.size_alloc]; omega) (by intro e; have := (hlo b e.symm).1; omega)
      rw [h1]
      exact ((Below.refl wr.heap.size wr).alloc (Nat.le_refl _) o).block b hb
  refine ⟨(hF.block _ (by omega) (by omega)).trans h.res, h.rd.keep hF (by omega) (by omega), (hF.block _ (by omega) (by omega)).trans h.dbx, ?_, h.be.trans (hF.below (by omega) (fun k hk => by omega)), o1, o2, o3, o4, Nat.le_trans hi hF.size⟩
  rw [List.length_append, seccells_snoc]; exact hown
end
theorem infoDB9 : (Tryz.prog.info? 30).map (·.size) = some 9 := by kernel_rfl
theorem aggDB9 (w : World) : (isAgg 30).run Tryz.prog w = .ok true w := by kernel_rfl
theorem sizeDB9 (w : World) : (Go.sizeOf 30).run Tryz.prog w = .ok 9 w := by kernel_rfl
theorem infoSecI : (Tryz.prog.info? 49).map (fun i => (i.zero, i.size, i.bytes)) = some (some (.agg #[.int .u8 0, .int .i64 0, .int .i64 0, .int .i64 0]), 4, 32) := by kernel_rfl
end Go.Proofs.YtecklnobgfahfaaGreatDoor
