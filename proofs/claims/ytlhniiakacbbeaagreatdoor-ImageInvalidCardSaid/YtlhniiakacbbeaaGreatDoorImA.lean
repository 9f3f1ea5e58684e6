/-
  Contracts: fixes, points and airways, and lists of them, read out of an image by the program.
-/
import Derived.Test.YtlhniiakacbbeaaGreatDoorMG06
namespace Go.Proofs.YtlhniiakacbbeaaGreatDoor
open Go.RowKit
set_option linter.unusedVariables false
set_option linter.unusedSimpArgs false
def imFixC (bs : List UInt8) (st : Nat) (s : RS) : List Value := [.string (sb (txV bs st s)), .string (sb (txV bs st (txS bs st s))), .int .u8 ((byV bs st (txS bs st (txS bs st s))).toNat : Int), .int .i64 (n8V bs st (tkS st 1 (txS bs st (txS bs st s)))), .int .i64 (n8V bs st (n8S st (tkS st 1 (txS bs st (txS bs st s))))), .int .i64 (n8V bs st (n8S st (n8S st (tkS st 1 (txS bs st (txS bs st s)))))), .int .i64 (n8V bs st (n8S st (n8S st (n8S st (tkS st 1 (txS bs st (txS bs st s)))))))]
def imFixR (bs : List UInt8) (st : Nat) (s : RS) (cs : List Value) : Prop := cs = imFixC bs st s
set_option maxRecDepth 100000 in
set_option maxHeartbeats 8000000 in
theorem imFix_any {g gb ob c st : Nat} {bs : List UInt8} (s : RS) (w : World) (h : RdP g gb ob c st bs s w) :
  Calls Tryz.prog 146 #[.pointer (some ⟨g, 0, none⟩)] w fun e w' => (∃ cs, e = .returned (.agg cs) ∧ imFixR bs st s cs.toList) ∧ RdPTo g gb ob c st bs (fiS bs st s) w w' := by
 have hgl := h.lt
 have hgb := h.by_.1
 obtain ⟨w0, hw0⟩ : ∃ W, w.alloc (.cells #[.string ⟨#[]⟩, .string ⟨#[]⟩, .int .u8 0, .int .i64 0, .int .i64 0, .int .i64 0, .int .i64 0] 38) = W := ⟨_, rfl⟩
 have I0 : Hid (ImB g gb ob c st bs w.heap.size #[.string ⟨#[]⟩, .string ⟨#[]⟩, .int .u8 0, .int .i64 0, .int .i64 0, .int .i64 0, .int .i64 0] 38 s w w0) := by
  rw [← hw0]; exact ⟨⟨h.below ((Below.refl _ _).alloc (Nat.le_refl _) _), Frm.of_below ((Below.refl _ _).alloc (Nat.le_refl _) _)⟩, Bx.last _ _ _, by omega, by omega⟩
 obtain ⟨q, hq⟩ : ∃ q, w.heap.size = q := ⟨_, rfl⟩
 rw [hq] at I0
 have HQ := Lib.hid hq
 clear h hgl hgb
 go_enter Tryz.func146, Tryz.ntmps146
 go_wp2_with fail
 try rw [hw0]
 try rw [hq]
 clear hw0 hq
 refine (imText_any s _ I0.out.r.r).mono ?_
 rintro e w1 ⟨rfl, hr⟩
 have I1 := Lib.hid (I0.out.then_ hr)
 clear hr I0
 go_wp2_with fail
 refine (imText_any (txS bs st s) _ I1.out.r.r).mono ?_
 rintro e w2 ⟨rfl, hr⟩
 have I2 := Lib.hid (I1.out.then_ hr)
 clear hr I1
 go_wp2_with fail
 refine (imByte_any (txS bs st (txS bs st s)) _ I2.out.r.r).mono ?_
 rintro e w3 ⟨rfl, hr⟩
 have I3 := Lib.hid (I2.out.then_ hr)
 clear hr I2
 go_wp2_with fail
 refine (imNum_any (tkS st 1 (txS bs st (txS bs st s))) _ I3.out.r.r).mono ?_
 rintro e w4 ⟨rfl, hr⟩
 have I4 := Lib.hid (I3.out.then_ hr)
 clear hr I3
 go_wp2_with fail
 refine (imNum_any (n8S st (tkS st 1 (txS bs st (txS bs st s)))) _ I4.out.r.r).mono ?_
 rintro e w5 ⟨rfl, hr⟩
 have I5 := Lib.hid (I4.out.then_ hr)
 clear hr I4
 go_wp2_with fail
 refine (imNum_any (n8S st (n8S st (tkS st 1 (txS bs st (txS bs st s))))) _ I5.out.r.r).mono ?_
 rintro e w6 ⟨rfl, hr⟩
 have I6 := Lib.hid (I5.out.then_ hr)
 clear hr I5
 go_wp2_with fail
 refine (imNum_any (n8S st (n8S st (n8S st (tkS st 1 (txS bs st (txS bs st s)))))) _ I6.out.r.r).mono ?_
 rintro e w7 ⟨rfl, hr⟩
 have I7 := Lib.hid (I6.out.then_ hr)
 clear hr I6
 have F := I7.out.fin [.string (sb (txV bs st s)), .string (sb (txV bs st (txS bs st s))), .int .u8 ((byV bs st (txS bs st (txS bs st s))).toNat : Int), .int .i64 (n8V bs st (tkS st 1 (txS bs st (txS bs st s)))), .int .i64 (n8V bs st (n8S st (tkS st 1 (txS bs st (txS bs st s))))), .int .i64 (n8V bs st (n8S st (n8S st (tkS st 1 (txS bs st (txS bs st s)))))), .int .i64 (n8V bs st (n8S st (n8S st (n8S st (tkS st 1 (txS bs st (txS bs st s)))))))] rfl HQ.out
 simp only [setAll, Nat.reduceAdd, Nat.zero_add] at F
 obtain ⟨FX, FR⟩ := F
 have HR := Lib.hid FR
 have hql := I7.out.x.lt
 have y0 := I7.out.x.cell 0 (u := .string ⟨#[]⟩) rfl
 have f0 := I7.out.x.free 0
 have y1 := I7.out.x.cell 1 (u := .string ⟨#[]⟩) rfl
 have f1 := I7.out.x.free 1
 have y2 := I7.out.x.cell 2 (u := .int .u8 0) rfl
 have f2 := I7.out.x.free 2
 have y3 := I7.out.x.cell 3 (u := .int .i64 0) rfl
 have f3 := I7.out.x.free 3
 have y4 := I7.out.x.cell 4 (u := .int .i64 0) rfl
 have f4 := I7.out.x.free 4
 have y5 := I7.out.x.cell 5 (u := .int .i64 0) rfl
 have f5 := I7.out.x.free 5
 have y6 := I7.out.x.cell 6 (u := .int .i64 0) rfl
 have f6 := I7.out.x.free 6
 have z0 := FX.cell 0 (u := .string (sb (txV bs st s))) rfl
 have z1 := FX.cell 1 (u := .string (sb (txV bs st (txS bs st s)))) rfl
 have z2 := FX.cell 2 (u := .int .u8 ((byV bs st (txS bs st (txS bs st s))).toNat : Int)) rfl
 have z3 := FX.cell 3 (u := .int .i64 (n8V bs st (tkS st 1 (txS bs st (txS bs st s))))) rfl
 have z4 := FX.cell 4 (u := .int .i64 (n8V bs st (n8S st (tkS st 1 (txS bs st (txS bs st s)))))) rfl
 have z5 := FX.cell 5 (u := .int .i64 (n8V bs st (n8S st (n8S st (tkS st 1 (txS bs st (txS bs st s))))))) rfl
 have z6 := FX.cell 6 (u := .int .i64 (n8V bs st (n8S st (n8S st (n8S st (tkS st 1 (txS bs st (txS bs st s)))))))) rfl
 clear FX FR I7 HQ
 go_wp2
 refine bodyPost_ret (v := .agg #[.string (sb (txV bs st s)), .string (sb (txV bs st (txS bs st s))), .int .u8 ((byV bs st (txS bs st (txS bs st s))).toNat : Int), .int .i64 (n8V bs st (tkS st 1 (txS bs st (txS bs st s)))), .int .i64 (n8V bs st (n8S st (tkS st 1 (txS bs st (txS bs st s))))), .int .i64 (n8V bs st (n8S st (n8S st (tkS st 1 (txS bs st (txS bs st s)))))), .int .i64 (n8V bs st (n8S st (n8S st (n8S st (tkS st 1 (txS bs st (txS bs st s)))))))]) (by simp [results, Tryz.results146, go_sem, z0, z1, z2, z3, z4, z5, z6]; try rfl) rfl ?_
 exact ⟨⟨_, rfl, rfl⟩, HR.out⟩
theorem info_imLsFix : (Tryz.prog.info? 38).map (fun i => (i.zero, i.size, i.bytes)) = some (some (.agg #[.string ⟨#[]⟩, .string ⟨#[]⟩, .int .u8 0, .int .i64 0, .int .i64 0, .int .i64 0, .int .i64 0]), 7, 72) := by kernel_rfl
set_option maxRecDepth 100000 in
set_option maxHeartbeats 8000000 in
theorem imLsFix_any {g gb ob c st : Nat} {bs : List UInt8} (s : RS) (w : World) (h : RdP g gb ob c st bs s w) :
  Calls Tryz.prog 145 #[.pointer (some ⟨g, 0, none⟩), .func (.func 146) #[] #[]] w (ImLPost (imFixR bs st) (fiS bs st) 38 7 g gb ob c st bs s w) := by
 obtain ⟨i0, hi, hz0, hz1, hz2⟩ := info_parts info_imLsFix
 have hgl := h.lt
 have hgb := h.by_.1
 go_enter Tryz.func145, Tryz.ntmps145
 go_wp2_with fail
 refine (imLow_any s 2 w h (by omega)).mono ?_
 rintro e w1 ⟨rfl, hr⟩
 have HR := Lib.hid hr
 have hnlt : lsN bs st s < 65536 := lsN_lt
 have HLS : Hid (lsS bs st (fiS bs st) s = itS (fiS bs st) (lsN bs st s) (tkS st 2 s)) := rfl
 obtain ⟨n, hn⟩ : ∃ n, loN (tkV bs st 2 s) = n := ⟨_, rfl⟩
 have hn2 : lsN bs st s = n := hn
 have hwn : IntKind.i64.wrap (n : Int) = (n : Int) := by rw [IntKind.wrap_i64]; omega
 rw [hn, hwn]
 rw [hn2] at HLS hnlt
 have HN := Lib.hid hn2
 obtain ⟨s1, hs1⟩ : ∃ x, tkS st 2 s = x := ⟨_, rfl⟩
 rw [hs1] at HR HLS
 have HS1 := Lib.hid hs1
 clear hr hwn hn hn2 hs1 h
 go_wp2
 go_loopw [5, 8] (fun v iv wr => ∃ (k : Nat) (L : List (List Value)) (sk : RS), k ≤ n ∧ iv = .int .i64 (k : Int) ∧ Hid (L.length = k) ∧ Hid (Chn (imFixR bs st) (fiS bs st) s1 L sk) ∧ Hid (itS (fiS bs st) (n - k) sk = lsS bs st (fiS bs st) s) ∧ Hid (wr.ownsRow w.heap.size 38 7 v L.length L.reverse.flatten) ∧ Hid (RdPTo g gb ob c st bs sk w wr) ∧ Hid (k = 0 → v = .slice none 0 0)) (fun _ iv _ => n - (intOf iv).toNat)
 case atStart => exact ⟨0, [], s1, Nat.zero_le _, rfl, rfl, rfl, HLS.out.symm, World.ownsRow_nil _ _ _ _, HR.out, fun _ => rfl⟩
 case round =>
  obtain ⟨k, L, sk, hk, rfl, hL, hch, hit, hown, hrd, hnil⟩ := hrel
  obtain ⟨ak, bk⟩ := sk
  have k3 := hrd.out.r.bx.cell 3 (u := .bool bk) rfl
  by_cases hlt : k < n
  ·cases bk with
   | true =>
    have HB : Hid ((lsS bs st (fiS bs st) s) = (ak, true)) := by unfold Hid; rw [← hit.out, itS_bad rfl]
    clear hown hch hit
    go_wp2
    go_ret
    refine ⟨_, rfl, ⟨_, _, _, rfl⟩, fun _ => rfl, fun hb => ?_, ?_⟩
    ·rw [HB.out] at hb; cases hb
    ·rw [HB.out]; exact hrd.out
   | false =>
    have hkl : ak ≤ st := hrd.out.r.at_
    go_wp2_with fail
    refine (imFix_any (ak, false) _ hrd.out.r).mono ?_
    rintro e w2 ⟨⟨cs, rfl, hcs⟩, hr2⟩
    have HR2 := Lib.hid (hrd.out.then_ hr2)
    have hf2 := Lib.hid hr2.f
    have hown2 : w2.ownsRow w.heap.size 38 7 _ L.length L.reverse.flatten := own_frm2 hown.out hr2.f (by omega)
    have hlo := hown2.lt
    obtain ⟨cs, rfl⟩ : ∃ l : List Value, cs = l.toArray := ⟨cs.toList, by simp⟩
    simp only [List.toList_toArray] at hcs
    have HCS := Lib.hid hcs
    obtain rfl : cs = imFixC bs st (ak, false) := hcs
    unfold imFixC
    have HC2 : Hid (imFixR bs st (ak, false) (imFixC bs st (ak, false))) := rfl
    clear hr2 hown k3
    have hLk := hL.out
    go_wp2_with (at_builtin; refine wpList_append_lies _ rfl _ _ 26 rfl w.heap.size 38 i0 (.agg #[.string ⟨#[]⟩, .string ⟨#[]⟩, .int .u8 0, .int .i64 0, .int .i64 0, .int .i64 0, .int .i64 0]) 7 72 Tryz.underlying26 hi hz0 hz1 hz2 rfl (by decide) _ _ _ rfl (hown2.alloc _) ⟨w2.heap.size, 0, none⟩ 1 1 (imFixC bs st (ak, false)) rfl rfl (World.news_of_block (heap_alloc_new w2 _)) ?c2 (by decide) ?c3 ?c4 ?c5 _ rfl ?_)
    case c2 => intro u hu; unfold imFixC at hu; simp only [List.mem_cons, List.not_mem_nil, or_false] at hu; rcases hu with rfl | rfl | rfl | rfl | rfl | rfl | rfl <;> rfl
    case c3 => unfold maxLen; omega
    case c4 => omega
    case c5 => have := HR2.out.f.size; simp; omega
    intro gg cap w3 hown3 hgrow3 hor hgg
    have R := chn_step (one := fiS bs st) (ak := ak) hL.out hch.out hit.out HC2.out hlt HR2.out hown2 hlo hown3 hgrow3 hgl hgb
    obtain ⟨R1, R2, R3, R4, R5⟩ := R
    have Q1 := Lib.hid R1
    have Q2 := Lib.hid R2
    have Q3 := Lib.hid R3
    have Q4 := Lib.hid R4
    have Q5 := Lib.hid R5
    clear R1 R2 R3 R4 R5 hown3 hgrow3 hor hgg hlo hown2 hLk hL hch hit
    go_wp2
    go_roundw
    case rel => exact ⟨k + 1, _, _, hlt, by go_num, Q1, Q2, Q3, Q4, Q5, fun h => by omega⟩
    case measure => simp [intOf]; omega
  ·have hkn : k = n := by omega
   subst hkn
   have hit2 := hit.out
   rw [Nat.sub_self] at hit2
   have HI : Hid ((ak, bk) = lsS bs st (fiS bs st) s) := hit2
   obtain ⟨A, n', c', hv⟩ := own_form hown.out
   rw [hv] at hown hnil ⊢
   clear hit2 hit
   go_wp2
   go_ret
   rw [HI.out] at hrd hch
   refine ⟨_, rfl, ⟨_, _, _, rfl⟩, fun h0 => hnil.out (HN.out ▸ h0), fun _ => ⟨L, hL.out.trans HN.out.symm, by rw [HS1.out]; exact hch.out, hown.out⟩, hrd.out⟩
def imPtC (bs : List UInt8) (st : Nat) (s : RS) : List Value := [.string (sb (txV bs st s)), .int .i64 (n8V bs st (txS bs st s)), .int .i64 (n8V bs st (n8S st (txS bs st s))), .int .u8 ((byV bs st (n8S st (n8S st (txS bs st s)))).toNat : Int)]
def imPtR (bs : List UInt8) (st : Nat) (s : RS) (cs : List Value) : Prop := cs = imPtC bs st s
set_option maxRecDepth 100000 in
set_option maxHeartbeats 8000000 in
theorem imPt_any {g gb ob c st : Nat} {bs : List UInt8} (s : RS) (w : World) (h : RdP g gb ob c st bs s w) :
  Calls Tryz.prog 223 #[.pointer (some ⟨g, 0, none⟩)] w fun e w' => (∃ cs, e = .returned (.agg cs) ∧ imPtR bs st s cs.toList) ∧ RdPTo g gb ob c st bs (ptS bs st s) w w' := by
 have hgl := h.lt
 have hgb := h.by_.1
 obtain ⟨w0, hw0⟩ : ∃ W, w.alloc (.cells #[.string ⟨#[]⟩, .int .i64 0, .int .i64 0, .int .u8 0] 53) = W := ⟨_, rfl⟩
 have I0 : Hid (ImB g gb ob c st bs w.heap.size #[.string ⟨#[]⟩, .int .i64 0, .int .i64 0, .int .u8 0] 53 s w w0) := by
  rw [← hw0]; exact ⟨⟨h.below ((Below.refl _ _).alloc (Nat.le_refl _) _), Frm.of_below ((Below.refl _ _).alloc (Nat.le_refl _) _)⟩, Bx.last _ _ _, by omega, by omega⟩
 obtain ⟨q, hq⟩ : ∃ q, w.heap.size = q := ⟨_, rfl⟩
 rw [hq] at I0
 have HQ := Lib.hid hq
 clear h hgl hgb
 go_enter Tryz.func223, Tryz.ntmps223
 go_wp2_with fail
 try rw [hw0]
 try rw [hq]
 clear hw0 hq
 refine (imText_any s _ I0.out.r.r).mono ?_
 rintro e w1 ⟨rfl, hr⟩
 have I1 := Lib.hid (I0.out.then_ hr)
 clear hr I0
 go_wp2_with fail
 refine (imNum_any (txS bs st s) _ I1.out.r.r).mono ?_
 rintro e w2 ⟨rfl, hr⟩
 have I2 := Lib.hid (I1.out.then_ hr)
 clear hr I1
 go_wp2_with fail
 refine (imNum_any (n8S st (txS bs st s)) _ I2.out.r.r).mono ?_
 rintro e w3 ⟨rfl, hr⟩
 have I3 := Lib.hid (I2.out.then_ hr)
 clear hr I2
 go_wp2_with fail
 refine (imByte_any (n8S st (n8S st (txS bs st s))) _ I3.out.r.r).mono ?_
 rintro e w4 ⟨rfl, hr⟩
 have I4 := Lib.hid (I3.out.then_ hr)
 clear hr I3
 have F := I4.out.fin [.string (sb (txV bs st s)), .int .i64 (n8V bs st (txS bs st s)), .int .i64 (n8V bs st (n8S st (txS bs st s))), .int .u8 ((byV bs st (n8S st (n8S st (txS bs st s)))).toNat : Int)] rfl HQ.out
 simp only [setAll, Nat.reduceAdd, Nat.zero_add] at F
 obtain ⟨FX, FR⟩ := F
 have HR := Lib.hid FR
 have hql := I4.out.x.lt
 have y0 := I4.out.x.cell 0 (u := .string ⟨#[]⟩) rfl
 have f0 := I4.out.x.free 0
 have y1 := I4.out.x.cell 1 (u := .int .i64 0) rfl
 have f1 := I4.out.x.free 1
 have y2 := I4.out.x.cell 2 (u := .int .i64 0) rfl
 have f2 := I4.out.x.free 2
 have y3 := I4.out.x.cell 3 (u := .int .u8 0) rfl
 have f3 := I4.out.x.free 3
 have z0 := FX.cell 0 (u := .string (sb (txV bs st s))) rfl
 have z1 := FX.cell 1 (u := .int .i64 (n8V bs st (txS bs st s))) rfl
 have z2 := FX.cell 2 (u := .int .i64 (n8V bs st (n8S st (txS bs st s)))) rfl
 have z3 := FX.cell 3 (u := .int .u8 ((byV bs st (n8S st (n8S st (txS bs st s)))).toNat : Int)) rfl
 clear FX FR I4 HQ
 go_wp2
 refine bodyPost_ret (v := .agg #[.string (sb (txV bs st s)), .int .i64 (n8V bs st (txS bs st s)), .int .i64 (n8V bs st (n8S st (txS bs st s))), .int .u8 ((byV bs st (n8S st (n8S st (txS bs st s)))).toNat : Int)]) (by simp [results, Tryz.results223, go_sem, z0, z1, z2, z3]; try rfl) rfl ?_
 exact ⟨⟨_, rfl, rfl⟩, HR.out⟩
theorem info_imLsPt : (Tryz.prog.info? 53).map (fun i => (i.zero, i.size, i.bytes)) = some (some (.agg #[.string ⟨#[]⟩, .int .i64 0, .int .i64 0, .int .u8 0]), 4, 40) := by kernel_rfl
set_option maxRecDepth 100000 in
set_option maxHeartbeats 8000000 in
theorem imLsPt_any {g gb ob c st : Nat} {bs : List UInt8} (s : RS) (w : World) (h : RdP g gb ob c st bs s w) :
  Calls Tryz.prog 222 #[.pointer (some ⟨g, 0, none⟩), .func (.func 223) #[] #[]] w (ImLPost (imPtR bs st) (ptS bs st) 53 4 g gb ob c st bs s w) := by
 obtain ⟨i0, hi, hz0, hz1, hz2⟩ := info_parts info_imLsPt
 have hgl := h.lt
 have hgb := h.by_.1
 go_enter Tryz.func222, Tryz.ntmps222
 go_wp2_with fail
 refine (imLow_any s 2 w h (by omega)).mono ?_
 rintro e w1 ⟨rfl, hr⟩
 have HR := Lib.hid hr
 have hnlt : lsN bs st s < 65536 := lsN_lt
 have HLS : Hid (lsS bs st (ptS bs st) s = itS (ptS bs st) (lsN bs st s) (tkS st 2 s)) := rfl
 obtain ⟨n, hn⟩ : ∃ n, loN (tkV bs st 2 s) = n := ⟨_, rfl⟩
 have hn2 : lsN bs st s = n := hn
 have hwn : IntKind.i64.wrap (n : Int) = (n : Int) := by rw [IntKind.wrap_i64]; omega
 rw [hn, hwn]
 rw [hn2] at HLS hnlt
 have HN := Lib.hid hn2
 obtain ⟨s1, hs1⟩ : ∃ x, tkS st 2 s = x := ⟨_, rfl⟩
 rw [hs1] at HR HLS
 have HS1 := Lib.hid hs1
 clear hr hwn hn hn2 hs1 h
 go_wp2
 go_loopw [5, 8] (fun v iv wr => ∃ (k : Nat) (L : List (List Value)) (sk : RS), k ≤ n ∧ iv = .int .i64 (k : Int) ∧ Hid (L.length = k) ∧ Hid (Chn (imPtR bs st) (ptS bs st) s1 L sk) ∧ Hid (itS (ptS bs st) (n - k) sk = lsS bs st (ptS bs st) s) ∧ Hid (wr.ownsRow w.heap.size 53 4 v L.length L.reverse.flatten) ∧ Hid (RdPTo g gb ob c st bs sk w wr) ∧ Hid (k = 0 → v = .slice none 0 0)) (fun _ iv _ => n - (intOf iv).toNat)
 case atStart => exact ⟨0, [], s1, Nat.zero_le _, rfl, rfl, rfl, HLS.out.symm, World.ownsRow_nil _ _ _ _, HR.out, fun _ => rfl⟩
 case round =>
  obtain ⟨k, L, sk, hk, rfl, hL, hch, hit, hown, hrd, hnil⟩ := hrel
  obtain ⟨ak, bk⟩ := sk
  have k3 := hrd.out.r.bx.cell 3 (u := .bool bk) rfl
  by_cases hlt : k < n
  ·cases bk with
   | true =>
    have HB : Hid ((lsS bs st (ptS bs st) s) = (ak, true)) := by unfold Hid; rw [← hit.out, itS_bad rfl]
    clear hown hch hit
    go_wp2
    go_ret
    refine ⟨_, rfl, ⟨_, _, _, rfl⟩, fun _ => rfl, fun hb => ?_, ?_⟩
    ·rw [HB.out] at hb; cases hb
    ·rw [HB.out]; exact hrd.out
   | false =>
    have hkl : ak ≤ st := hrd.out.r.at_
    go_wp2_with fail
    refine (imPt_any (ak, false) _ hrd.out.r).mono ?_
    rintro e w2 ⟨⟨cs, rfl, hcs⟩, hr2⟩
    have HR2 := Lib.hid (hrd.out.then_ hr2)
    have hf2 := Lib.hid hr2.f
    have hown2 : w2.ownsRow w.heap.size 53 4 _ L.length L.reverse.flatten := own_frm2 hown.out hr2.f (by omega)
    have hlo := hown2.lt
    obtain ⟨cs, rfl⟩ : ∃ l : List Value, cs = l.toArray := ⟨cs.toList, by simp⟩
    simp only [List.toList_toArray] at hcs
    have HCS := Lib.hid hcs
    obtain rfl : cs = imPtC bs st (ak, false) := hcs
    unfold imPtC
    have HC2 : Hid (imPtR bs st (ak, false) (imPtC bs st (ak, false))) := rfl
    clear hr2 hown k3
    have hLk := hL.out
    go_wp2_with (at_builtin; refine wpList_append_lies _ rfl _ _ 46 rfl w.heap.size 53 i0 (.agg #[.string ⟨#[]⟩, .int .i64 0, .int .i64 0, .int .u8 0]) 4 40 Tryz.underlying46 hi hz0 hz1 hz2 rfl (by decide) _ _ _ rfl (hown2.alloc _) ⟨w2.heap.size, 0, none⟩ 1 1 (imPtC bs st (ak, false)) rfl rfl (World.news_of_block (heap_alloc_new w2 _)) ?c2 (by decide) ?c3 ?c4 ?c5 _ rfl ?_)
    case c2 => intro u hu; unfold imPtC at hu; simp only [List.mem_cons, List.not_mem_nil, or_false] at hu; rcases hu with rfl | rfl | rfl | rfl <;> rfl
    case c3 => unfold maxLen; omega
    case c4 => omega
    case c5 => have := HR2.out.f.size; simp; omega
    intro gg cap w3 hown3 hgrow3 hor hgg
    have R := chn_step (one := ptS bs st) (ak := ak) hL.out hch.out hit.out HC2.out hlt HR2.out hown2 hlo hown3 hgrow3 hgl hgb
    obtain ⟨R1, R2, R3, R4, R5⟩ := R
    have Q1 := Lib.hid R1
    have Q2 := Lib.hid R2
    have Q3 := Lib.hid R3
    have Q4 := Lib.hid R4
    have Q5 := Lib.hid R5
    clear R1 R2 R3 R4 R5 hown3 hgrow3 hor hgg hlo hown2 hLk hL hch hit
    go_wp2
    go_roundw
    case rel => exact ⟨k + 1, _, _, hlt, by go_num, Q1, Q2, Q3, Q4, Q5, fun h => by omega⟩
    case measure => simp [intOf]; omega
  ·have hkn : k = n := by omega
   subst hkn
   have hit2 := hit.out
   rw [Nat.sub_self] at hit2
   have HI : Hid ((ak, bk) = lsS bs st (ptS bs st) s) := hit2
   obtain ⟨A, n', c', hv⟩ := own_form hown.out
   rw [hv] at hown hnil ⊢
   clear hit2 hit
   go_wp2
   go_ret
   rw [HI.out] at hrd hch
   refine ⟨_, rfl, ⟨_, _, _, rfl⟩, fun h0 => hnil.out (HN.out ▸ h0), fun _ => ⟨L, hL.out.trans HN.out.symm, by rw [HS1.out]; exact hch.out, hown.out⟩, hrd.out⟩
theorem info_imLsAw : (Tryz.prog.info? 48).map (fun i => (i.zero, i.size, i.bytes)) = some (some (.agg #[.string ⟨#[]⟩, .slice none 0 0]), 2, 40) := by kernel_rfl
end Go.Proofs.YtlhniiakacbbeaaGreatDoor
