/-
  Contracts: airways, parts and procedures, and lists of them, read out of an image by the program, with all that they hold.
-/
import Derived.Test.YtlhniiakacbbeaaGreatDoorMG08
namespace Go.Proofs.YtlhniiakacbbeaaGreatDoor
open Go.RowKit
set_option linter.unusedVariables false
set_option linter.unusedSimpArgs false
theorem lsInv_step {α : Type} {val : RS → α} {cf : Value × α → List Value} {Own : Nat → World → Value × α → Prop} {one : RS → RS} {T : TypeId} {K B k ak : Nat} {s1 : RS} {v v3 : Value} {L : List (Value × α)} {x : Value × α} {w2 w3 : World} {o : Obj}
  (hT : ∀ (w w' : World) (y : Value × α), TFrm B [T] w w' → Own B w y → Own B w' y) (hso : (ak, false) = itO one k s1) (hLk : L.length = k) (hLm : L.map (·.2) = lsV val one k s1) (hown2 : w2.ownsRow B T K v L.length (L.flatMap cf)) (hOw2 : ∀ y ∈ L, Own B w2 y)
  (hx : (one (ak, false)).2 = false → Own B w2 x) (hxv : x.2 = val (ak, false)) (hown3 : w3.ownsRow B T K v3 (k + 1) (L.flatMap cf ++ cf x)) (hg : (w2.alloc o).grownBy w3 v.ownBlock) : LsInv val cf Own one T K B (k + 1) s1 v3 (one (ak, false)) w3 := by
 have hF : TFrm B [T] w2 w3 := (TFrm.of_below ((Below.refl _ _).alloc (Nat.le_refl _) o)).trans (TFrm.grown hg (hown2.alloc o) (by simp))
 refine ⟨own_form hown3, fun hb => ⟨by rw [itO_snoc, ← hso], L ++ [x], by simp [hLk], ?_, ?_, fun y hy => ?_⟩⟩
 ·rw [List.map_append, hLm, lsV_snoc, ← hso, List.map_cons, hxv]; rfl
 ·rw [List.length_append, hLk, List.flatMap_append]; simpa using hown3
 ·rcases List.mem_append.1 hy with hy | hy
  ·exact hT _ _ _ hF (hOw2 y hy)
  ·rw [List.mem_singleton] at hy; subst hy; exact hT _ _ _ hF (hx hb)
theorem RdPTo.grownS {g gb ob c st : Nat} {bs : List UInt8} {s : RS} {v : Value} {w w2 w3 : World} {o : Obj} (hrd : RdPTo g gb ob c st bs s w w2) (hlo : ∀ b, v.ownBlock = some b → w.heap.size ≤ b ∧ b < w2.heap.size) (hg : (w2.alloc o).grownBy w3 v.ownBlock) (hgl : g < w.heap.size) (hgb : gb < w.heap.size) : RdPTo g gb ob c st bs s w w3 := by
 have hsz := hrd.f.size
 have hF : Frm (fun b => w.heap.size ≤ b) w2 w3 := by
  refine ⟨hg.os, hg.tape, hg.output, ?_, fun b hb hn => ?_⟩
  ·have := hg.size
   rw [World.size_alloc] at this; omega
  ·have h1 := hg.block b (by rw [World.size_alloc]; omega) (by intro e; have := (hlo b e.symm).1; omega)
   rw [h1]
   exact ((Below.refl w2.heap.size w2).alloc (Nat.le_refl _) o).block b hb
 refine ⟨hrd.r.keep hF (by omega) (by omega), hF.os.trans hrd.f.os, hF.tape.trans hrd.f.tape, hF.output.trans hrd.f.output, Nat.le_trans hsz hF.size, fun b hb hn => ?_⟩
 exact (hF.block b (by omega) (by omega)).trans (hrd.f.block b hb hn)
set_option maxRecDepth 100000 in
set_option maxHeartbeats 8000000 in
theorem imAwS_any {g gb ob c st : Nat} {bs : List UInt8} (s : RS) (w : World) (h : RdP g gb ob c st bs s w) :
  Calls Tryz.prog 148 #[.pointer (some ⟨g, 0, none⟩)] w fun e w' => (∃ A n c', e = .returned (.agg #[.string (sb (txV bs st s)), .slice A n c']) ∧ ((awS bs st s).2 = false → OwnAw w.heap.size w' (.slice A n c', awV bs st s))) ∧ RdPTo g gb ob c st bs (awS bs st s) w w' := by
 have hgl := h.lt
 have hgb := h.by_.1
 obtain ⟨w0, hw0⟩ : ∃ W, w.alloc (.cells #[.string ⟨#[]⟩, .slice none 0 0] 48) = W := ⟨_, rfl⟩
 have I0 : Hid (ImB g gb ob c st bs w.heap.size #[.string ⟨#[]⟩, .slice none 0 0] 48 s w w0) := by
  rw [← hw0]; exact ⟨⟨h.below ((Below.refl _ _).alloc (Nat.le_refl _) _), Frm.of_below ((Below.refl _ _).alloc (Nat.le_refl _) _)⟩, Bx.last _ _ _, by omega, by omega⟩
 obtain ⟨q, hq⟩ : ∃ q, w.heap.size = q := ⟨_, rfl⟩
 rw [hq] at I0
 have HQ := Lib.hid hq
 clear h hgl hgb
 go_enter Tryz.func148, Tryz.ntmps148
 go_wp2_with fail
 try rw [hw0]
 try rw [hq]
 clear hw0 hq
 refine (imText_any s _ I0.out.r.r).mono ?_
 rintro e w1 ⟨rfl, hr⟩
 have I1 := Lib.hid (I0.out.then_ hr)
 clear hr I0
 go_wp2_with fail
 refine (imLsPt_any (txS bs st s) _ I1.out.r.r).mono ?_
 rintro e w2 ⟨v, rfl, ⟨A, n, c', rfl⟩, hnl, hls, hr⟩
 have hsz : w.heap.size ≤ w1.heap.size := I1.out.r.f.size
 have HO : Hid ((awS bs st s).2 = false → OwnAw w.heap.size w2 (.slice A n c', awV bs st s)) := fun hb => by
  obtain ⟨L, hLl, hch, hown⟩ := hls hb
  obtain ⟨_, hrev⟩ := chn_val (cf := ptc) (val := ptV bs st) (fun s c h => h) _ L _ hch
  have hb2 := own_base hown hsz
  rw [hLl] at hrev hb2
  have hl2 : (ptsV bs st (txS bs st s)).length = lsN bs st (txS bs st s) := lsV_len _ _ _ _
  show w2.ownsRow _ _ _ _ (ptsV bs st (txS bs st s)).length ((ptsV bs st (txS bs st s)).flatMap ptc)
  rw [hl2, List.flatMap_def, show (ptsV bs st (txS bs st s)).map ptc = L.reverse from hrev.symm]
  exact hb2
 have I2 := Lib.hid (I1.out.then_ hr)
 clear hr I1 hls hnl hsz
 have FO : (awS bs st s).2 = false → OwnAw w.heap.size (setAll w2 q 0 [.string (sb (txV bs st s)), .slice A n c']) (.slice A n c', awV bs st s) := fun hb => (HO.out hb).tf (TFrm.of_frmT (Ts := [48]) (setAll_frm q _ 0 w2) I2.out.x (by simp)) (by decide)
 have F := I2.out.fin [.string (sb (txV bs st s)), .slice A n c'] rfl HQ.out
 simp only [setAll, Nat.reduceAdd, Nat.zero_add] at F FO
 obtain ⟨FX, FR⟩ := F
 have HR := Lib.hid FR
 have HFO := Lib.hid FO
 clear FO HO
 have hql := I2.out.x.lt
 have y0 := I2.out.x.cell 0 (u := .string ⟨#[]⟩) rfl
 have f0 := I2.out.x.free 0
 have y1 := I2.out.x.cell 1 (u := .slice none 0 0) rfl
 have f1 := I2.out.x.free 1
 have z0 := FX.cell 0 (u := .string (sb (txV bs st s))) rfl
 have z1 := FX.cell 1 (u := .slice A n c') rfl
 clear FX FR I2 HQ
 go_wp2
 refine bodyPost_ret (v := .agg #[.string (sb (txV bs st s)), .slice A n c']) (by simp [results, Tryz.results148, go_sem, z0, z1]; try rfl) rfl ?_
 exact ⟨⟨_, _, _, rfl, HFO.out⟩, HR.out⟩
set_option maxRecDepth 100000 in
set_option maxHeartbeats 8000000 in
theorem imLsAwS_any {g gb ob c st : Nat} {bs : List UInt8} (s : RS) (w : World) (h : RdP g gb ob c st bs s w) :
  Calls Tryz.prog 147 #[.pointer (some ⟨g, 0, none⟩), .func (.func 148) #[] #[]] w (ImLPostS (awV bs st) awc OwnAw (awS bs st) 48 2 g gb ob c st bs s w) := by
 obtain ⟨i0, hi, hz0, hz1, hz2⟩ := info_parts info_imLsAw
 have hgl := h.lt
 have hgb := h.by_.1
 go_enter Tryz.func147, Tryz.ntmps147
 go_wp2_with fail
 refine (imLow_any s 2 w h (by omega)).mono ?_
 rintro e w1 ⟨rfl, hr⟩
 have HR := Lib.hid hr
 have hnlt : lsN bs st s < 65536 := lsN_lt
 have HLS : Hid (lsS bs st (awS bs st) s = itS (awS bs st) (lsN bs st s) (tkS st 2 s)) := rfl
 obtain ⟨n, hn⟩ : ∃ n, loN (tkV bs st 2 s) = n := ⟨_, rfl⟩
 have hn2 : lsN bs st s = n := hn
 have hwn : IntKind.i64.wrap (n : Int) = (n : Int) := by rw [IntKind.wrap_i64]; omega
 rw [hn, hwn]
 rw [hn2] at HLS hnlt
 have HN := Lib.hid hn2
 obtain ⟨s1, hs1⟩ : ∃ x, tkS st 2 s = x := ⟨_, rfl⟩
 rw [hs1] at HR HLS
 have HS1 := Lib.hid hs1
 clear hr hwn hn hn2 hs1 h
 go_wp2
 go_loopw [5, 8] (fun v iv wr => ∃ (k : Nat) (sk : RS), k ≤ n ∧ iv = .int .i64 (k : Int) ∧ Hid (itS (awS bs st) (n - k) sk = lsS bs st (awS bs st) s) ∧ Hid (LsInv (awV bs st) awc OwnAw (awS bs st) 48 2 w.heap.size k s1 v sk wr) ∧ Hid (RdPTo g gb ob c st bs sk w wr) ∧ Hid (k = 0 → v = .slice none 0 0)) (fun _ iv _ => n - (intOf iv).toNat)
 case atStart => exact ⟨0, s1, Nat.zero_le _, rfl, HLS.out.symm, ⟨⟨_, _, _, rfl⟩, fun _ => ⟨rfl, [], rfl, rfl, World.ownsRow_nil _ _ _ _, by simp⟩⟩, HR.out, fun _ => rfl⟩
 case round =>
  obtain ⟨k, sk, hk, rfl, hit, hinv, hrd, hnil⟩ := hrel
  obtain ⟨ak, bk⟩ := sk
  have k3 := hrd.out.r.bx.cell 3 (u := .bool bk) rfl
  by_cases hlt : k < n
  ·cases bk with
   | true =>
    have HB : Hid ((lsS bs st (awS bs st) s) = (ak, true)) := by unfold Hid; rw [← hit.out, itS_bad rfl]
    clear hinv hit
    go_wp2
    go_ret
    refine ⟨_, rfl, ⟨_, _, _, rfl⟩, fun _ => rfl, fun hb => ?_, ?_⟩
    ·rw [HB.out] at hb; cases hb
    ·rw [HB.out]; exact hrd.out
   | false =>
    obtain ⟨hform, hLL⟩ := hinv.out
    obtain ⟨hso, L, hLk, hLm, hown, hOw⟩ := hLL rfl
    have hkl : ak ≤ st := hrd.out.r.at_
    have HSO := Lib.hid hso
    have HLM := Lib.hid hLm
    have HLK := Lib.hid hLk
    have HOWN := Lib.hid hown
    have HOW := Lib.hid hOw
    clear hform hLL hso hLm hLk hown hOw hinv
    go_wp2_with fail
    refine (imAwS_any (ak, false) _ hrd.out.r).mono ?_
    rintro e w2 ⟨⟨A, na, ca, rfl, hcs⟩, hr2⟩
    have HR2 := Lib.hid (hrd.out.then_ hr2)
    have hf2 : TFrm w.heap.size [] wr w2 := TFrm.of_frm hr2.f hgl
    have hown2 : w2.ownsRow w.heap.size 48 2 _ L.length (L.flatMap awc) := own_tf HOWN.out hf2 (Nat.le_refl _) (by simp)
    have HOW2 : Hid (∀ x ∈ L, OwnAw w.heap.size w2 x) := fun x hx => (HOW.out x hx).tf hf2 (by simp)
    have HCS : Hid ((awS bs st (ak, false)).2 = false → OwnAw w.heap.size w2 (.slice A na ca, awV bs st (ak, false))) := fun hb => (hcs hb).base hrd.out.f.size
    have hlo := hown2.lt
    have hLk := HLK.out
    clear hr2 hf2 hcs HOWN HOW k3
    go_wp2_with (at_builtin; refine wpList_append_lies _ rfl _ _ 27 rfl w.heap.size 48 i0 (.agg #[.string ⟨#[]⟩, .slice none 0 0]) 2 40 Tryz.underlying27 hi hz0 hz1 hz2 rfl (by decide) _ _ _ rfl (hown2.alloc _) ⟨w2.heap.size, 0, none⟩ 1 1 ([.string (sb (txV bs st (ak, false))), .slice A na ca]) rfl rfl (World.news_of_block (heap_alloc_new w2 _)) ?c2 (by decide) ?c3 ?c4 ?c5 _ rfl ?_)
    case c2 => intro u hu; simp only [List.mem_cons, List.not_mem_nil, or_false] at hu; rcases hu with rfl | rfl <;> rfl
    case c3 => unfold maxLen; omega
    case c4 => omega
    case c5 => have := HR2.out.f.size; simp; omega
    intro gg cap w3 hown3 hgrow3 hor hgg
    try rw [hLk] at hown3
    have Q1 : Hid (LsInv (awV bs st) awc OwnAw (awS bs st) 48 2 w.heap.size (k + 1) s1 _ (awS bs st (ak, false)) w3) := lsInv_step (x := (.slice A na ca, awV bs st (ak, false))) (fun w w' y hF hy => hy.tf hF (by decide)) HSO.out HLK.out HLM.out hown2 HOW2.out HCS.out rfl hown3 hgrow3
    have Q2 := Lib.hid (HR2.out.grownS hlo hgrow3 hgl hgb)
    have Q3 : Hid (itS (awS bs st) (n - (k + 1)) (awS bs st (ak, false)) = lsS bs st (awS bs st) s) := by
     unfold Hid; rw [← hit.out, show n - k = (n - (k + 1)) + 1 by omega, itS_more]
    try rw [hLk] at Q1
    clear hown3 hgrow3 hor hgg hlo hown2 hLk hit HOW2 HCS HR2
    go_wp2
    go_roundw
    case rel => exact ⟨k + 1, _, hlt, by go_num, Q3, Q1, Q2, fun h => by omega⟩
    case measure => simp [intOf]; omega
  ·have hkn : k = n := by omega
   subst hkn
   have hit2 := hit.out
   rw [Nat.sub_self] at hit2
   have HI : Hid ((ak, bk) = lsS bs st (awS bs st) s) := hit2
   obtain ⟨A, n', c', hv⟩ := hinv.out.1
   rw [hv] at hinv hnil ⊢
   clear hit2 hit
   go_wp2
   go_ret
   rw [HI.out] at hrd hinv
   refine ⟨_, rfl, ⟨_, _, _, rfl⟩, fun h0 => hnil.out (HN.out ▸ h0), fun hb => ?_, hrd.out⟩
   obtain ⟨_, L, _, h2, h3, h4⟩ := hinv.out.2 hb
   exact ⟨L, by rw [HN.out, HS1.out]; exact h2, h3, h4⟩
set_option maxRecDepth 100000 in
set_option maxHeartbeats 8000000 in
theorem imPartS_any {g gb ob c st : Nat} {bs : List UInt8} (s : RS) (w : World) (h : RdP g gb ob c st bs s w) :
  Calls Tryz.prog 225 #[.pointer (some ⟨g, 0, none⟩)] w fun e w' => (∃ A n c', e = .returned (.agg #[.int .u8 ((byV bs st s).toNat : Int), .string (sb (txV bs st (tkS st 1 s))), .slice A n c']) ∧ ((imPaS bs st s).2 = false → OwnPa w.heap.size w' (.slice A n c', paV bs st s))) ∧ RdPTo g gb ob c st bs (imPaS bs st s) w w' := by
 have hgl := h.lt
 have hgb := h.by_.1
 obtain ⟨w0, hw0⟩ : ∃ W, w.alloc (.cells #[.int .u8 0, .string ⟨#[]⟩, .slice none 0 0] 62) = W := ⟨_, rfl⟩
 have I0 : Hid (ImB g gb ob c st bs w.heap.size #[.int .u8 0, .string ⟨#[]⟩, .slice none 0 0] 62 s w w0) := by
  rw [← hw0]; exact ⟨⟨h.below ((Below.refl _ _).alloc (Nat.le_refl _) _), Frm.of_below ((Below.refl _ _).alloc (Nat.le_refl _) _)⟩, Bx.last _ _ _, by omega, by omega⟩
 obtain ⟨q, hq⟩ : ∃ q, w.heap.size = q := ⟨_, rfl⟩
 rw [hq] at I0
 have HQ := Lib.hid hq
 clear h hgl hgb
 go_enter Tryz.func225, Tryz.ntmps225
 go_wp2_with fail
 try rw [hw0]
 try rw [hq]
 clear hw0 hq
 refine (imByte_any s _ I0.out.r.r).mono ?_
 rintro e w1 ⟨rfl, hr⟩
 have I1 := Lib.hid (I0.out.then_ hr)
 clear hr I0
 go_wp2_with fail
 refine (imText_any (tkS st 1 s) _ I1.out.r.r).mono ?_
 rintro e w2 ⟨rfl, hr⟩
 have I2 := Lib.hid (I1.out.then_ hr)
 clear hr I1
 go_wp2_with fail
 refine (imLsLeg_any (txS bs st (tkS st 1 s)) _ I2.out.r.r).mono ?_
 rintro e w3 ⟨v, rfl, ⟨A, n, c', rfl⟩, hnl, hls, hr⟩
 have hsz : w.heap.size ≤ w2.heap.size := I2.out.r.f.size
 have HO : Hid ((imPaS bs st s).2 = false → OwnPa w.heap.size w3 (.slice A n c', paV bs st s)) := fun hb => by
  obtain ⟨L, hLl, hch, hown⟩ := hls hb
  obtain ⟨_, hrev⟩ := chn_val (cf := lgc) (val := lgV bs st) (fun s c h => h) _ L _ hch
  have hb2 := own_base hown hsz
  rw [hLl] at hrev hb2
  have hl2 : (lgsV bs st (txS bs st (tkS st 1 s))).length = lsN bs st (txS bs st (tkS st 1 s)) := lsV_len _ _ _ _
  show w3.ownsRow _ _ _ _ (lgsV bs st (txS bs st (tkS st 1 s))).length ((lgsV bs st (txS bs st (tkS st 1 s))).flatMap lgc)
  rw [hl2, List.flatMap_def, show (lgsV bs st (txS bs st (tkS st 1 s))).map lgc = L.reverse from hrev.symm]
  exact hb2
 have I3 := Lib.hid (I2.out.then_ hr)
 clear hr I2 hls hnl hsz
 have FO : (imPaS bs st s).2 = false → OwnPa w.heap.size (setAll w3 q 0 [.int .u8 ((byV bs st s).toNat : Int), .string (sb (txV bs st (tkS st 1 s))), .slice A n c']) (.slice A n c', paV bs st s) := fun hb => (HO.out hb).tf (TFrm.of_frmT (Ts := [62]) (setAll_frm q _ 0 w3) I3.out.x (by simp)) (by decide)
 have F := I3.out.fin [.int .u8 ((byV bs st s).toNat : Int), .string (sb (txV bs st (tkS st 1 s))), .slice A n c'] rfl HQ.out
 simp only [setAll, Nat.reduceAdd, Nat.zero_add] at F FO
 obtain ⟨FX, FR⟩ := F
 have HR := Lib.hid FR
 have HFO := Lib.hid FO
 clear FO HO
 have hql := I3.out.x.lt
 have y0 := I3.out.x.cell 0 (u := .int .u8 0) rfl
 have f0 := I3.out.x.free 0
 have y1 := I3.out.x.cell 1 (u := .string ⟨#[]⟩) rfl
 have f1 := I3.out.x.free 1
 have y2 := I3.out.x.cell 2 (u := .slice none 0 0) rfl
 have f2 := I3.out.x.free 2
 have z0 := FX.cell 0 (u := .int .u8 ((byV bs st s).toNat : Int)) rfl
 have z1 := FX.cell 1 (u := .string (sb (txV bs st (tkS st 1 s)))) rfl
 have z2 := FX.cell 2 (u := .slice A n c') rfl
 clear FX FR I3 HQ
 go_wp2
 refine bodyPost_ret (v := .agg #[.int .u8 ((byV bs st s).toNat : Int), .string (sb (txV bs st (tkS st 1 s))), .slice A n c']) (by simp [results, Tryz.results225, go_sem, z0, z1, z2]; try rfl) rfl ?_
 exact ⟨⟨_, _, _, rfl, HFO.out⟩, HR.out⟩
set_option maxRecDepth 100000 in
set_option maxHeartbeats 8000000 in
theorem imLsPartS_any {g gb ob c st : Nat} {bs : List UInt8} (s : RS) (w : World) (h : RdP g gb ob c st bs s w) :
  Calls Tryz.prog 224 #[.pointer (some ⟨g, 0, none⟩), .func (.func 225) #[] #[]] w (ImLPostS (paV bs st) pac OwnPa (imPaS bs st) 62 3 g gb ob c st bs s w) := by
 obtain ⟨i0, hi, hz0, hz1, hz2⟩ := info_parts info_imLsPart
 have hgl := h.lt
 have hgb := h.by_.1
 go_enter Tryz.func224, Tryz.ntmps224
 go_wp2_with fail
 refine (imLow_any s 2 w h (by omega)).mono ?_
 rintro e w1 ⟨rfl, hr⟩
 have HR := Lib.hid hr
 have hnlt : lsN bs st s < 65536 := lsN_lt
 have HLS : Hid (lsS bs st (imPaS bs st) s = itS (imPaS bs st) (lsN bs st s) (tkS st 2 s)) := rfl
 obtain ⟨n, hn⟩ : ∃ n, loN (tkV bs st 2 s) = n := ⟨_, rfl⟩
 have hn2 : lsN bs st s = n := hn
 have hwn : IntKind.i64.wrap (n : Int) = (n : Int) := by rw [IntKind.wrap_i64]; omega
 rw [hn, hwn]
 rw [hn2] at HLS hnlt
 have HN := Lib.hid hn2
 obtain ⟨s1, hs1⟩ : ∃ x, tkS st 2 s = x := ⟨_, rfl⟩
 rw [hs1] at HR HLS
 have HS1 := Lib.hid hs1
 clear hr hwn hn hn2 hs1 h
 go_wp2
 go_loopw [5, 8] (fun v iv wr => ∃ (k : Nat) (sk : RS), k ≤ n ∧ iv = .int .i64 (k : Int) ∧ Hid (itS (imPaS bs st) (n - k) sk = lsS bs st (imPaS bs st) s) ∧ Hid (LsInv (paV bs st) pac OwnPa (imPaS bs st) 62 3 w.heap.size k s1 v sk wr) ∧ Hid (RdPTo g gb ob c st bs sk w wr) ∧ Hid (k = 0 → v = .slice none 0 0)) (fun _ iv _ => n - (intOf iv).toNat)
 case atStart => exact ⟨0, s1, Nat.zero_le _, rfl, HLS.out.symm, ⟨⟨_, _, _, rfl⟩, fun _ => ⟨rfl, [], rfl, rfl, World.ownsRow_nil _ _ _ _, by simp⟩⟩, HR.out, fun _ => rfl⟩
 case round =>
  obtain ⟨k, sk, hk, rfl, hit, hinv, hrd, hnil⟩ := hrel
  obtain ⟨ak, bk⟩ := sk
  have k3 := hrd.out.r.bx.cell 3 (u := .bool bk) rfl
  by_cases hlt : k < n
  ·cases bk with
   | true =>
    have HB : Hid ((lsS bs st (imPaS bs st) s) = (ak, true)) := by unfold Hid; rw [← hit.out, itS_bad rfl]
    clear hinv hit
    go_wp2
    go_ret
    refine ⟨_, rfl, ⟨_, _, _, rfl⟩, fun _ => rfl, fun hb => ?_, ?_⟩
    ·rw [HB.out] at hb; cases hb
    ·rw [HB.out]; exact hrd.out
   | false =>
    obtain ⟨hform, hLL⟩ := hinv.out
    obtain ⟨hso, L, hLk, hLm, hown, hOw⟩ := hLL rfl
    have hkl : ak ≤ st := hrd.out.r.at_
    have HSO := Lib.hid hso
    have HLM := Lib.hid hLm
    have HLK := Lib.hid hLk
    have HOWN := Lib.hid hown
    have HOW := Lib.hid hOw
    clear hform hLL hso hLm hLk hown hOw hinv
    go_wp2_with fail
    refine (imPartS_any (ak, false) _ hrd.out.r).mono ?_
    rintro e w2 ⟨⟨A, na, ca, rfl, hcs⟩, hr2⟩
    have HR2 := Lib.hid (hrd.out.then_ hr2)
    have hf2 : TFrm w.heap.size [] wr w2 := TFrm.of_frm hr2.f hgl
    have hown2 : w2.ownsRow w.heap.size 62 3 _ L.length (L.flatMap pac) := own_tf HOWN.out hf2 (Nat.le_refl _) (by simp)
    have HOW2 : Hid (∀ x ∈ L, OwnPa w.heap.size w2 x) := fun x hx => (HOW.out x hx).tf hf2 (by simp)
    have HCS : Hid ((imPaS bs st (ak, false)).2 = false → OwnPa w.heap.size w2 (.slice A na ca, paV bs st (ak, false))) := fun hb => (hcs hb).base hrd.out.f.size
    have hlo := hown2.lt
    have hLk := HLK.out
    clear hr2 hf2 hcs HOWN HOW k3
    go_wp2_with (at_builtin; refine wpList_append_lies _ rfl _ _ 55 rfl w.heap.size 62 i0 (.agg #[.int .u8 0, .string ⟨#[]⟩, .slice none 0 0]) 3 48 Tryz.underlying55 hi hz0 hz1 hz2 rfl (by decide) _ _ _ rfl (hown2.alloc _) ⟨w2.heap.size, 0, none⟩ 1 1 ([.int .u8 ((byV bs st (ak, false)).toNat : Int), .string (sb (txV bs st (tkS st 1 (ak, false)))), .slice A na ca]) rfl rfl (World.news_of_block (heap_alloc_new w2 _)) ?c2 (by decide) ?c3 ?c4 ?c5 _ rfl ?_)
    case c2 => intro u hu; simp only [List.mem_cons, List.not_mem_nil, or_false] at hu; rcases hu with rfl | rfl | rfl <;> rfl
    case c3 => unfold maxLen; omega
    case c4 => omega
    case c5 => have := HR2.out.f.size; simp; omega
    intro gg cap w3 hown3 hgrow3 hor hgg
    try rw [hLk] at hown3
    have Q1 : Hid (LsInv (paV bs st) pac OwnPa (imPaS bs st) 62 3 w.heap.size (k + 1) s1 _ (imPaS bs st (ak, false)) w3) := lsInv_step (x := (.slice A na ca, paV bs st (ak, false))) (fun w w' y hF hy => hy.tf hF (by decide)) HSO.out HLK.out HLM.out hown2 HOW2.out HCS.out rfl hown3 hgrow3
    have Q2 := Lib.hid (HR2.out.grownS hlo hgrow3 hgl hgb)
    have Q3 : Hid (itS (imPaS bs st) (n - (k + 1)) (imPaS bs st (ak, false)) = lsS bs st (imPaS bs st) s) := by
     unfold Hid; rw [← hit.out, show n - k = (n - (k + 1)) + 1 by omega, itS_more]
    try rw [hLk] at Q1
    clear hown3 hgrow3 hor hgg hlo hown2 hLk hit HOW2 HCS HR2
    go_wp2
    go_roundw
    case rel => exact ⟨k + 1, _, hlt, by go_num, Q3, Q1, Q2, fun h => by omega⟩
    case measure => simp [intOf]; omega
  ·have hkn : k = n := by omega
   subst hkn
   have hit2 := hit.out
   rw [Nat.sub_self] at hit2
   have HI : Hid ((ak, bk) = lsS bs st (imPaS bs st) s) := hit2
   obtain ⟨A, n', c', hv⟩ := hinv.out.1
   rw [hv] at hinv hnil ⊢
   clear hit2 hit
   go_wp2
   go_ret
   rw [HI.out] at hrd hinv
   refine ⟨_, rfl, ⟨_, _, _, rfl⟩, fun h0 => hnil.out (HN.out ▸ h0), fun hb => ?_, hrd.out⟩
   obtain ⟨_, L, _, h2, h3, h4⟩ := hinv.out.2 hb
   exact ⟨L, by rw [HN.out, HS1.out]; exact h2, h3, h4⟩
set_option maxRecDepth 100000 in
set_option maxHeartbeats 8000000 in
theorem imProcS_any {g gb ob c st : Nat} {bs : List UInt8} (s : RS) (w : World) (h : RdP g gb ob c st bs s w) :
  Calls Tryz.prog 150 #[.pointer (some ⟨g, 0, none⟩)] w fun e w' => (∃ A n c', e = .returned (.agg #[.string (sb (txV bs st s)), .string (sb (txV bs st (txS bs st s))), .int .u8 ((byV bs st (txS bs st (txS bs st s))).toNat : Int), .slice A n c']) ∧ ((prS bs st s).2 = false → OwnPr w.heap.size w' (.slice A n c', prV bs st s))) ∧ RdPTo g gb ob c st bs (prS bs st s) w w' := by
 have hgl := h.lt
 have hgb := h.by_.1
 obtain ⟨w0, hw0⟩ : ∃ W, w.alloc (.cells #[.string ⟨#[]⟩, .string ⟨#[]⟩, .int .u8 0, .slice none 0 0] 57) = W := ⟨_, rfl⟩
 have I0 : Hid (ImB g gb ob c st bs w.heap.size #[.string ⟨#[]⟩, .string ⟨#[]⟩, .int .u8 0, .slice none 0 0] 57 s w w0) := by
  rw [← hw0]; exact ⟨⟨h.below ((Below.refl _ _).alloc (Nat.le_refl _) _), Frm.of_below ((Below.refl _ _).alloc (Nat.le_refl _) _)⟩, Bx.last _ _ _, by omega, by omega⟩
 obtain ⟨q, hq⟩ : ∃ q, w.heap.size = q := ⟨_, rfl⟩
 rw [hq] at I0
 have HQ := Lib.hid hq
 clear h hgl hgb
 go_enter Tryz.func150, Tryz.ntmps150
 go_wp2_with fail
 try rw [hw0]
 try rw [hq]
 clear hw0 hq
 refine (imText_any s _ I0.out.r.r).mono ?_
 rintro e w1 ⟨rfl, hr⟩
 have I1 := Lib.hid (I0.out.then_ hr)
 clear hr I0
 go_wp2_with fail
 refine (imText_any (txS bs st s) _ I1.out.r.r).mono ?_
 rintro e w2 ⟨rfl, hr⟩
 have I2 := Lib.hid (I1.out.then_ hr)
 clear hr I1
 go_wp2_with fail
 refine (imByte_any (txS bs st (txS bs st s)) _ I2.out.r.r).mono ?_
 rintro e w3 ⟨rfl, hr⟩
 have I3 := Lib.hid (I2.out.then_ hr)
 clear hr I2
 go_wp2_with fail
 refine (imLsPartS_any (tkS st 1 (txS bs st (txS bs st s))) _ I3.out.r.r).mono ?_
 rintro e w4 ⟨v, rfl, ⟨A, n, c', rfl⟩, hnl, hls, hr⟩
 have hsz : w.heap.size ≤ w3.heap.size := I3.out.r.f.size
 have HO : Hid ((prS bs st s).2 = false → OwnPr w.heap.size w4 (.slice A n c', prV bs st s)) := fun hb => by
  obtain ⟨L, h1, h2, h3⟩ := hls hb
  exact ⟨L, h1, own_base h2 hsz, fun y hy => (h3 y hy).base hsz⟩
 have I4 := Lib.hid (I3.out.then_ hr)
 clear hr I3 hls hnl hsz
 have FO : (prS bs st s).2 = false → OwnPr w.heap.size (setAll w4 q 0 [.string (sb (txV bs st s)), .string (sb (txV bs st (txS bs st s))), .int .u8 ((byV bs st (txS bs st (txS bs st s))).toNat : Int), .slice A n c']) (.slice A n c', prV bs st s) := fun hb => (HO.out hb).tf (TFrm.of_frmT (Ts := [57]) (setAll_frm q _ 0 w4) I4.out.x (by simp)) (by decide) (by decide)
 have F := I4.out.fin [.string (sb (txV bs st s)), .string (sb (txV bs st (txS bs st s))), .int .u8 ((byV bs st (txS bs st (txS bs st s))).toNat : Int), .slice A n c'] rfl HQ.out
 simp only [setAll, Nat.reduceAdd, Nat.zero_add] at F FO
 obtain ⟨FX, FR⟩ := F
 have HR := Lib.hid FR
 have HFO := Lib.hid FO
 clear FO HO
 have hql := I4.out.x.lt
 have y0 := I4.out.x.cell 0 (u := .string ⟨#[]⟩) rfl
 have f0 := I4.out.x.free 0
 have y1 := I4.out.x.cell 1 (u := .string ⟨#[]⟩) rfl
 have f1 := I4.out.x.free 1
 have y2 := I4.out.x.cell 2 (u := .int .u8 0) rfl
 have f2 := I4.out.x.free 2
 have y3 := I4.out.x.cell 3 (u := .slice none 0 0) rfl
 have f3 := I4.out.x.free 3
 have z0 := FX.cell 0 (u := .string (sb (txV bs st s))) rfl
 have z1 := FX.cell 1 (u := .string (sb (txV bs st (txS bs st s)))) rfl
 have z2 := FX.cell 2 (u := .int .u8 ((byV bs st (txS bs st (txS bs st s))).toNat : Int)) rfl
 have z3 := FX.cell 3 (u := .slice A n c') rfl
 clear FX FR I4 HQ
 go_wp2
 refine bodyPost_ret (v := .agg #[.string (sb (txV bs st s)), .string (sb (txV bs st (txS bs st s))), .int .u8 ((byV bs st (txS bs st (txS bs st s))).toNat : Int), .slice A n c']) (by simp [results, Tryz.results150, go_sem, z0, z1, z2, z3]; try rfl) rfl ?_
 exact ⟨⟨_, _, _, rfl, HFO.out⟩, HR.out⟩
set_option maxRecDepth 100000 in
set_option maxHeartbeats 8000000 in
theorem imLsProcS_any {g gb ob c st : Nat} {bs : List UInt8} (s : RS) (w : World) (h : RdP g gb ob c st bs s w) :
  Calls Tryz.prog 149 #[.pointer (some ⟨g, 0, none⟩), .func (.func 150) #[] #[]] w (ImLPostS (prV bs st) prc OwnPr (prS bs st) 57 4 g gb ob c st bs s w) := by
 obtain ⟨i0, hi, hz0, hz1, hz2⟩ := info_parts info_imLsProc
 have hgl := h.lt
 have hgb := h.by_.1
 go_enter Tryz.func149, Tryz.ntmps149
 go_wp2_with fail
 refine (imLow_any s 2 w h (by omega)).mono ?_
 rintro e w1 ⟨rfl, hr⟩
 have HR := Lib.hid hr
 have hnlt : lsN bs st s < 65536 := lsN_lt
 have HLS : Hid (lsS bs st (prS bs st) s = itS (prS bs st) (lsN bs st s) (tkS st 2 s)) := rfl
 obtain ⟨n, hn⟩ : ∃ n, loN (tkV bs st 2 s) = n := ⟨_, rfl⟩
 have hn2 : lsN bs st s = n := hn
 have hwn : IntKind.i64.wrap (n : Int) = (n : Int) := by rw [IntKind.wrap_i64]; omega
 rw [hn, hwn]
 rw [hn2] at HLS hnlt
 have HN := Lib.hid hn2
 obtain ⟨s1, hs1⟩ : ∃ x, tkS st 2 s = x := ⟨_, rfl⟩
 rw [hs1] at HR HLS
 have HS1 := Lib.hid hs1
 clear hr hwn hn hn2 hs1 h
 go_wp2
 go_loopw [5, 8] (fun v iv wr => ∃ (k : Nat) (sk : RS), k ≤ n ∧ iv = .int .i64 (k : Int) ∧ Hid (itS (prS bs st) (n - k) sk = lsS bs st (prS bs st) s) ∧ Hid (LsInv (prV bs st) prc OwnPr (prS bs st) 57 4 w.heap.size k s1 v sk wr) ∧ Hid (RdPTo g gb ob c st bs sk w wr) ∧ Hid (k = 0 → v = .slice none 0 0)) (fun _ iv _ => n - (intOf iv).toNat)
 case atStart => exact ⟨0, s1, Nat.zero_le _, rfl, HLS.out.symm, ⟨⟨_, _, _, rfl⟩, fun _ => ⟨rfl, [], rfl, rfl, World.ownsRow_nil _ _ _ _, by simp⟩⟩, HR.out, fun _ => rfl⟩
 case round =>
  obtain ⟨k, sk, hk, rfl, hit, hinv, hrd, hnil⟩ := hrel
  obtain ⟨ak, bk⟩ := sk
  have k3 := hrd.out.r.bx.cell 3 (u := .bool bk) rfl
  by_cases hlt : k < n
  ·cases bk with
   | true =>
    have HB : Hid ((lsS bs st (prS bs st) s) = (ak, true)) := by unfold Hid; rw [← hit.out, itS_bad rfl]
    clear hinv hit
    go_wp2
    go_ret
    refine ⟨_, rfl, ⟨_, _, _, rfl⟩, fun _ => rfl, fun hb => ?_, ?_⟩
    ·rw [HB.out] at hb; cases hb
    ·rw [HB.out]; exact hrd.out
   | false =>
    obtain ⟨hform, hLL⟩ := hinv.out
    obtain ⟨hso, L, hLk, hLm, hown, hOw⟩ := hLL rfl
    have hkl : ak ≤ st := hrd.out.r.at_
    have HSO := Lib.hid hso
    have HLM := Lib.hid hLm
    have HLK := Lib.hid hLk
    have HOWN := Lib.hid hown
    have HOW := Lib.hid hOw
    clear hform hLL hso hLm hLk hown hOw hinv
    go_wp2_with fail
    refine (imProcS_any (ak, false) _ hrd.out.r).mono ?_
    rintro e w2 ⟨⟨A, na, ca, rfl, hcs⟩, hr2⟩
    have HR2 := Lib.hid (hrd.out.then_ hr2)
    have hf2 : TFrm w.heap.size [] wr w2 := TFrm.of_frm hr2.f hgl
    have hown2 : w2.ownsRow w.heap.size 57 4 _ L.length (L.flatMap prc) := own_tf HOWN.out hf2 (Nat.le_refl _) (by simp)
    have HOW2 : Hid (∀ x ∈ L, OwnPr w.heap.size w2 x) := fun x hx => (HOW.out x hx).tf hf2 (by simp) (by simp)
    have HCS : Hid ((prS bs st (ak, false)).2 = false → OwnPr w.heap.size w2 (.slice A na ca, prV bs st (ak, false))) := fun hb => (hcs hb).base hrd.out.f.size
    have hlo := hown2.lt
    have hLk := HLK.out
    clear hr2 hf2 hcs HOWN HOW k3
    go_wp2_with (at_builtin; refine wpList_append_lies _ rfl _ _ 28 rfl w.heap.size 57 i0 (.agg #[.string ⟨#[]⟩, .string ⟨#[]⟩, .int .u8 0, .slice none 0 0]) 4 64 Tryz.underlying28 hi hz0 hz1 hz2 rfl (by decide) _ _ _ rfl (hown2.alloc _) ⟨w2.heap.size, 0, none⟩ 1 1 ([.string (sb (txV bs st (ak, false))), .string (sb (txV bs st (txS bs st (ak, false)))), .int .u8 ((byV bs st (txS bs st (txS bs st (ak, false)))).toNat : Int), .slice A na ca]) rfl rfl (World.news_of_block (heap_alloc_new w2 _)) ?c2 (by decide) ?c3 ?c4 ?c5 _ rfl ?_)
    case c2 => intro u hu; simp only [List.mem_cons, List.not_mem_nil, or_false] at hu; rcases hu with rfl | rfl | rfl | rfl <;> rfl
    case c3 => unfold maxLen; omega
    case c4 => omega
    case c5 => have := HR2.out.f.size; simp; omega
    intro gg cap w3 hown3 hgrow3 hor hgg
    try rw [hLk] at hown3
    have Q1 : Hid (LsInv (prV bs st) prc OwnPr (prS bs st) 57 4 w.heap.size (k + 1) s1 _ (prS bs st (ak, false)) w3) := lsInv_step (x := (.slice A na ca, prV bs st (ak, false))) (fun w w' y hF hy => hy.tf hF (by decide) (by decide)) HSO.out HLK.out HLM.out hown2 HOW2.out HCS.out rfl hown3 hgrow3
    have Q2 := Lib.hid (HR2.out.grownS hlo hgrow3 hgl hgb)
    have Q3 : Hid (itS (prS bs st) (n - (k + 1)) (prS bs st (ak, false)) = lsS bs st (prS bs st) s) := by
     unfold Hid; rw [← hit.out, show n - k = (n - (k + 1)) + 1 by omega, itS_more]
    try rw [hLk] at Q1
    clear hown3 hgrow3 hor hgg hlo hown2 hLk hit HOW2 HCS HR2
    go_wp2
    go_roundw
    case rel => exact ⟨k + 1, _, hlt, by go_num, Q3, Q1, Q2, fun h => by omega⟩
    case measure => simp [intOf]; omega
  ·have hkn : k = n := by omega
   subst hkn
   have hit2 := hit.out
   rw [Nat.sub_self] at hit2
   have HI : Hid ((ak, bk) = lsS bs st (prS bs st) s) := hit2
   obtain ⟨A, n', c', hv⟩ := hinv.out.1
   rw [hv] at hinv hnil ⊢
   clear hit2 hit
   go_wp2
   go_ret
   rw [HI.out] at hrd hinv
   refine ⟨_, rfl, ⟨_, _, _, rfl⟩, fun h0 => hnil.out (HN.out ▸ h0), fun hb => ?_, hrd.out⟩
   obtain ⟨_, L, _, h2, h3, h4⟩ := hinv.out.2 hb
   exact ⟨L, by rw [HN.out, HS1.out]; exact h2, h3, h4⟩
end Go.Proofs.YtlhniiakacbbeaaGreatDoor
