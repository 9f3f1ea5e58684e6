/-
  Contract: the bytes ahead of the checksum are read (the reference: parse).
-/
import Derived.Test.YtidkhnfhkofmoaaGreatDoorQmF
import Derived.Test.YtidkhnfhkofmoaaGreatDoorImP
import Derived.StillTailTactics
namespace Go.Proofs.YtidkhnfhkofmoaaGreatDoor
open Go.RowKit
set_option linter.unusedVariables false
set_option linter.unusedSimpArgs false
section
variable {g gb ob c st : Nat} {bs : List UInt8} {S : Nat → Prop} {w0 w w' : World} {s s' : RS} {bx : List BxI} {rw : List RwI}
theorem QS.redo {d : Nat} {cs cs' : Array Value} {T : TypeId} {C : List BxI} (h : QS g gb ob c st bs S w0 s ((d, cs, T) :: C) rw w) (hf : Frm (· = d) w w') (hb : Bx d cs' T w') : QS g gb ob c st bs S w0 s ((d, cs', T) :: C) rw w' := by
 have hm : (d, cs, T) ∈ (d, cs, T) :: C := List.mem_cons_self
 have hq := h.ng _ hm
 have hnd := h.nd
 rw [List.map_cons, List.nodup_cons] at hnd
 have hot : ∀ x, x ∈ C → x.1 ≠ d := fun x hx e => hnd.1 (List.mem_map.2 ⟨x, hx, e⟩)
 refine ⟨h.q.keep hf (fun e => hq.1 e.symm) (fun e => hq.2 e.symm), ?_, by have := h.nd; simpa using this, ?_, ?_, ?_, h.dr, ?_, h.sg, ?_, h.gl, h.gbl⟩
 ·intro x hx
  rcases List.mem_cons.1 hx with rfl | hx
  ·exact hb
  ·have hx2 := h.b x (List.mem_cons_of_mem _ hx)
   exact (hf.block x.1 hx2.lt (hot x hx)).trans hx2
 ·intro x hx
  rcases List.mem_cons.1 hx with rfl | hx
  ·exact hq
  ·exact h.ng x (List.mem_cons_of_mem _ hx)
 ·intro y hy
  exact own_off (h.r y hy) (fun k hk => hf.block k ((h.r y hy).lt k hk).2 (h.dj y hy k hk _ hm))
 ·intro y hy k hk x hx
  rcases List.mem_cons.1 hx with rfl | hx
  ·exact h.dj y hy k hk (d, cs, T) hm
  ·exact h.dj y hy k hk x (List.mem_cons_of_mem _ hx)
 ·refine ⟨hf.os.trans h.f.os, hf.tape.trans h.f.tape, hf.output.trans h.f.output, Nat.le_trans h.f.size hf.size, fun k hk hn => ?_⟩
  have hkq : k ≠ d := fun e => by
   rcases h.sb _ hm with h1 | h1
   ·exact hn (e ▸ h1)
   ·simp only at h1; omega
  exact (hf.block k (Nat.lt_of_lt_of_le hk h.f.size) hkq).trans (h.f.block k hk hn)
 ·intro x hx
  rcases List.mem_cons.1 hx with rfl | hx
  ·exact h.sb (d, cs, T) hm
  ·exact h.sb x (List.mem_cons_of_mem _ hx)
theorem RdQ.seek {g gb ob c st : Nat} {bs : List UInt8} {a n : Nat} {w : World} (h : RdQ g gb ob c st bs (a, false) w) (hn : n ≤ st) : RdQTo g gb ob c st bs (n, false) w (w.setCell ⟨g, 1, none⟩ (.int .i64 (n : Int))) :=
 ⟨h.to (frm_set w g 1 _) (h.bx.set 1 _) hn, frm_set w g 1 _⟩
theorem QS.seek {a n : Nat} (h : QS g gb ob c st bs S w0 (a, false) bx rw w) (hn : n ≤ st) : QS g gb ob c st bs S w0 (n, false) bx rw (w.setCell ⟨g, 1, none⟩ (.int .i64 (n : Int))) := h.call (h.q.seek hn)
end
theorem qmFour_any {g gb ob c st : Nat} {bs : List UInt8} (s : RS) (w : World) (h : RdQ g gb ob c st bs s w) :
  Calls Tryz.prog 109 #[.pointer (some ⟨g, 0, none⟩), .int .i64 4] w fun e w' => e = .returned (.int .i64 ((loN (tkV bs st 4 s) : Nat) : Int)) ∧ RdQTo g gb ob c st bs (tkS st 4 s) w w' := by
 have h1 := qmNum_any s 4 w h (by omega)
 have hl := loN_lt4 (tkV bs st 4 s) tkV_len
 rw [show IntKind.i64.wrap ((loN (tkV bs st 4 s) : Nat) : Int) = ((loN (tkV bs st 4 s) : Nat) : Int) by rw [IntKind.wrap_i64]; omega] at h1
 exact h1
theorem qmSec_any {g gb ob c st : Nat} {bs : List UInt8} (s : RS) (t : Int) (tag d : Nat) (ht : t = (tag : Int)) (h1 : 1 ≤ tag) (h4 : tag ≤ 4) (hd : ImHd) (f a p : Value) (w : World) (h : RdQ g gb ob c st bs s w) (hx : Bx d (dbI hd f a p) 30 w) (hdg : d ≠ g) (hdb : d ≠ gb) (hf : IsSl f) (ha : IsSl a) (hp : IsSl p)
  (hf0 : tag = 2 → f = .slice none 0 0) (ha0 : tag = 3 → a = .slice none 0 0) (hp0 : tag = 4 → p = .slice none 0 0) :
  Calls Tryz.prog 110 #[.pointer (some ⟨d, 0, none⟩), .pointer (some ⟨g, 0, none⟩), .int .i64 t] w (SecQPost g gb ob c st bs s tag d hd f a p w) := by
 subst ht
 rcases (by omega : tag = 1 ∨ tag = 2 ∨ tag = 3 ∨ tag = 4) with rfl | rfl | rfl | rfl
 ·exact qmSec1_any s d hd f a p w h hx hdg hdb hf ha hp
 ·exact qmSec2_any s d hd f a p w h hx hdg hdb hf ha hp (hf0 rfl)
 ·exact qmSec3_any s d hd f a p w h hx hdg hdb hf ha hp (ha0 rfl)
 ·exact qmSec4_any s d hd f a p w h hx hdg hdb hf ha hp (hp0 rfl)
def QmParsePost (body : List UInt8) (w : World) (e : Ending) (w' : World) : Prop :=
 ∃ (hd : ImHd) (f a p sv : Value) (okb : Bool), e = .returned (.tuple #[.agg (dbI hd f a p), sv, .bool okb]) ∧ IsSl f ∧ IsSl a ∧ IsSl p ∧ IsSl sv ∧ Below w.heap.size w w' ∧ (okb = false → rdF body = none) ∧ (okb = true → ∃ l, rdF body = some (hd, l) ∧ w'.ownsRow w.heap.size 52 4 sv l.length (seccells l))
theorem QmParsePost.no {body : List UInt8} {w w' : World} (h : rdF body = none) (hb : Below w.heap.size w w') : QmParsePost body w (.returned (.tuple #[.agg dbZ9, .slice none 0 0, .bool false])) w' :=
 ⟨hd0, .slice none 0 0, .slice none 0 0, .slice none 0 0, .slice none 0 0, false, rfl, ⟨_, _, _, rfl⟩, ⟨_, _, _, rfl⟩, ⟨_, _, _, rfl⟩, ⟨_, _, _, rfl⟩, hb, fun _ => h, fun h => by cases h⟩
theorem qm_own_base {base base' : Nat} {w : World} {e : TypeId} {size n : Nat} {v : Value} {xs : List Value} (h : w.ownsRow base e size v n xs) (hb : base' ≤ base) : w.ownsRow base' e size v n xs := by
 obtain ⟨hl, h2 | ⟨b, cap, cur, hv, hg, r⟩⟩ := h
 ·exact ⟨hl, .inl h2⟩
 ·exact ⟨hl, .inr ⟨b, cap, cur, hv, Nat.le_trans hb hg, r⟩⟩
theorem bx_drew {b : Nat} {cs : Array Value} {t : TypeId} {w : World} (h : Bx b cs t w) : Bx b cs t w.drew := h
structure DbQ (body : List UInt8) (k : Nat) (hd : ImHd) (f a p : Value) : Prop where
 xf : IsSl f
 xa : IsSl a
 xp : IsSl p
 f0 : k < 2 → f = .slice none 0 0
 a0 : k < 3 → a = .slice none 0 0
 p0 : k < 4 → p = .slice none 0 0
 he : hd = if k = 0 then hd0 else imHdF body
theorem infoSecQ : (Tryz.prog.info? 52).map (fun i => (i.zero, i.size, i.bytes)) = some (some (.agg #[.int .u8 0, .int .i64 0, .int .i64 0, .int .i64 0]), 4, 32) := by kernel_rfl
set_option maxRecDepth 100000 in
set_option maxHeartbeats 16000000 in
theorem qmParse_any (gb cb : Nat) (body : List UInt8) (w : World) (hb : BsA w gb 0 body) (hc : body.length ≤ cb) (hm : cb ≤ maxLen) (hL : body.length ≤ 1000000) :
  Calls Tryz.prog 66 #[.slice (some ⟨gb, 0, none⟩) body.length cb] w (QmParsePost body w) := by
 obtain ⟨i0, hi0, hz0, hz1, hz2⟩ := info_parts infoSecQ
 have hgbl := hb.1
 have XZ : Bx w.heap.size dbZ9 30 (w.alloc (.cells #[.string ⟨#[]⟩, .int .i64 0, .int .i64 0, .int .i64 0, .int .i64 0, .int .i64 0, .slice none 0 0, .slice none 0 0, .slice none 0 0] 30)) := Bx.last _ _ _
 have hb0 : Below w.heap.size w (w.alloc (.cells #[.string ⟨#[]⟩, .int .i64 0, .int .i64 0, .int .i64 0, .int .i64 0, .int .i64 0, .slice none 0 0, .slice none 0 0, .slice none 0 0] 30)) := (Below.refl _ _).alloc (Nat.le_refl _) _
 have BA0 := hb.below hb0
 have XZ0 := Lib.hid XZ
 have HB0 := Lib.hid hb0
 have HBA := Lib.hid BA0
 have HBW := Lib.hid hb
 have HNO : Hid (rdF body = none → ∀ W, Below w.heap.size w W → QmParsePost body w (.returned (.tuple #[.agg dbZ9, .slice none 0 0, .bool false])) W) := fun h W hW => QmParsePost.no h hW
 obtain ⟨q0, hq⟩ : ∃ q, w.heap.size = q := ⟨_, rfl⟩
 have HQ := Lib.hid hq
 have hmm := hm
 unfold maxLen at hmm
 rcases Nat.lt_or_ge body.length 4 with h4 | h4
 ·have HR : Hid (rdF body = none) := by
   unfold Hid rdF
   rw [if_neg]
   intro e
   have := congrArg List.length e
   rw [List.length_take] at this
   have h5 : magicL.length = 4 := rfl
   omega
  obtain ⟨nb, hnb⟩ : ∃ n, body.length = n := ⟨_, rfl⟩
  rw [hnb] at hc hL h4 ⊢
  clear hb hnb hq BA0 XZ hb0
  go_enter Tryz.func66, Tryz.ntmps66
  go_wp2_with (refine wpList_plain rfl fun _ hK => wp_store_row 30 (.tmp 2) (.tmp 23) rfl w.heap.size dbZ9 rfl rfl 30 _ XZ0.out infoDB9 rfl dbZ9_one (hK _ _ ?_))
  have FX : Bx w.heap.size dbZ9 30 _ := setRow_heap _ w.heap.size _ dbZ9 30 (0, 0) XZ0.out
  obtain ⟨⟨x0, x1, x2, x3, x4, x5, x6, x7, x8⟩, _⟩ := Bx.cells9 FX
  refine bodyPost_ret (v := .tuple #[.agg dbZ9, .slice none 0 0, .bool false]) (by simp [results, Tryz.results66, go_sem, x0, x1, x2, x3, x4, x5, x6, x7, x8]; try rfl) rfl ?_
  exact HNO.out HR.out _ (row_below HB0.out rfl)
 ·have hbv : BsV (w.alloc (.cells #[.string ⟨#[]⟩, .int .i64 0, .int .i64 0, .int .i64 0, .int .i64 0, .int .i64 0, .slice none 0 0, .slice none 0 0, .slice none 0 0] 30)) (.slice (some ⟨gb, 0, none⟩) 4 cb) (body.take 4) :=
   ⟨_, cb, by rw [List.length_take, Nat.min_eq_left h4], by rw [List.length_take]; omega, hm, fun _ => ⟨gb, 0, rfl, BA0.take 4⟩⟩
  have hcv := bsv_string hbv
  obtain ⟨l, hl⟩ : ∃ l, body.take 4 = l := ⟨_, rfl⟩
  rw [hl] at hcv
  have HLL := Lib.hid hl
  obtain ⟨nb, hnb⟩ : ∃ n, body.length = n := ⟨_, rfl⟩
  rw [hnb] at hc hL h4 ⊢
  have HNB := Lib.hid hnb
  have h4i : ¬ (nb : Int) < 4 := by omega
  have h4c : (4 : Int) ≤ (cb : Int) := by omega
  clear hbv hb hl hnb hq BA0 XZ hb0
  by_cases hmg : l = magicL
  ·subst hmg
   have e1 : ((sb magicL).toList == [70, 68, 66, 49]) = true := by rw [bl_toList, bl_sb]; rfl
   have HGO : Hid (rdF body = (rdG body 4 1 4).map fun l => (imHdF body, l)) := by unfold Hid rdF; rw [if_pos HLL.out]
   obtain ⟨w1, hw1⟩ : ∃ W, ((w.alloc (.cells #[.string ⟨#[]⟩, .int .i64 0, .int .i64 0, .int .i64 0, .int .i64 0, .int .i64 0, .slice none 0 0, .slice none 0 0, .slice none 0 0] 30)).alloc (.cells #[.string ⟨#[]⟩, .int .i64 0, .int .i64 0, .int .i64 0, .int .i64 0, .int .i64 0, .slice none 0 0, .slice none 0 0, .slice none 0 0] 30)).alloc (.cells #[.slice (some ⟨gb, 0, none⟩) nb cb, .int .i64 4, .bool true] 210) = W := ⟨_, rfl⟩
   obtain ⟨d, hd⟩ : ∃ x, w.heap.size + 1 = x := ⟨_, rfl⟩
   obtain ⟨g, hg⟩ : ∃ x, d + 1 = x := ⟨_, rfl⟩
   have hs1 : w1.heap.size = g + 1 := by rw [← hw1]; simp only [World.size_alloc]; omega
   have HB1 : Hid (Below w.heap.size w w1) := by
    rw [← hw1]
    exact ((HB0.out.alloc (by simp; try omega) _).alloc (by simp; try omega) _)
   have R1 : RdQ g gb 0 cb nb body (4, false) w1 := by
    have hx : Bx g (rdQc gb 0 body.length cb nb (4, false)) 210 w1 := by
     have := Bx.last ((w.alloc (.cells #[.string ⟨#[]⟩, .int .i64 0, .int .i64 0, .int .i64 0, .int .i64 0, .int .i64 0, .slice none 0 0, .slice none 0 0, .slice none 0 0] 30)).alloc (.cells #[.string ⟨#[]⟩, .int .i64 0, .int .i64 0, .int .i64 0, .int .i64 0, .int .i64 0, .slice none 0 0, .slice none 0 0, .slice none 0 0] 30)) (#[.slice (some ⟨gb, 0, none⟩) nb cb, .int .i64 4, .bool true] : Array Value) 210
     rw [hw1] at this
     simp only [World.size_alloc] at this
     rw [hd, hg] at this
     exact this
    exact ⟨hx, HBW.out.below HB1.out, by omega, by show 4 ≤ nb; omega, by rw [HNB.out]; exact Nat.le_refl _, by rw [HNB.out]; exact hc, hm⟩
   have XD : Bx d dbZ9 30 w1 := by
    have h1 := Bx.last (w.alloc (.cells #[.string ⟨#[]⟩, .int .i64 0, .int .i64 0, .int .i64 0, .int .i64 0, .int .i64 0, .slice none 0 0, .slice none 0 0, .slice none 0 0] 30)) (#[.string ⟨#[]⟩, .int .i64 0, .int .i64 0, .int .i64 0, .int .i64 0, .int .i64 0, .slice none 0 0, .slice none 0 0, .slice none 0 0] : Array Value) 30
    have h2 := Bx.via ((Below.refl _ _).alloc (Nat.le_refl _) (.cells #[.slice (some ⟨gb, 0, none⟩) nb cb, .int .i64 4, .bool true] 210)) h1
    rw [hw1, World.size_alloc, hd] at h2
    exact h2
   have XR : Bx w.heap.size dbZ9 30 w1 := by
    have h2 := Bx.via ((Below.refl _ _).alloc (Nat.le_refl _) (.cells #[.string ⟨#[]⟩, .int .i64 0, .int .i64 0, .int .i64 0, .int .i64 0, .int .i64 0, .slice none 0 0, .slice none 0 0, .slice none 0 0] 30)) XZ0.out
    have h3 := Bx.via ((Below.refl _ _).alloc (Nat.le_refl _) (.cells #[.slice (some ⟨gb, 0, none⟩) nb cb, .int .i64 4, .bool true] 210)) h2
    rw [hw1] at h3
    exact h3
   have hqd : w.heap.size < d := by omega
   have hdg : d < g := by omega
   have Q1 : QS g gb 0 cb nb body (fun k => w.heap.size ≤ k) w1 (4, false) [(d, dbZ9, 30), (w.heap.size, dbZ9, 30)] [⟨52, 4, .slice none 0 0, 0, []⟩] w1 :=
    (((QS.start (S := fun k => w.heap.size ≤ k) R1 (by show w.heap.size ≤ g; omega)).box XR (by omega) (by omega) (.inl (Nat.le_refl _)) (by simp) (by simp)).box XD (by omega) (by omega) (.inl (by show w.heap.size ≤ d; omega)) (by simp; omega) (by simp)).row _ _
   have HQ1 := Lib.hid Q1
   have HW1 := Lib.hid hw1
   have HD := Lib.hid hd
   have HG := Lib.hid hg
   have hgb : gb < w.heap.size := hgbl
   have HG2 := Lib.hid hs1
   obtain ⟨q0, hq⟩ : ∃ q, w.heap.size = q := ⟨_, rfl⟩
   have HQ0 := Lib.hid hq
   rw [hq] at HQ1 hgb hqd HD
   clear hw1 R1 XD XR Q1 hs1 hd hg hq hgbl HLL HB0 XZ0 HBA HBW
   go_enter Tryz.func66, Tryz.ntmps66
   go_wp2_with fail
   rw [HW1.out, HQ0.out, HD.out, HG.out]
   clear HW1
   go_loopw [6, 8] (fun lv tv wr => ∃ (k a : Nat) (L : List Sec) (hd : ImHd) (f av p : Value), k ≤ 4 ∧ tv = .int .i64 ((k : Int) + 1) ∧ Hid (QS g gb 0 cb nb body (fun k => q0 ≤ k) w1 (a, false) [(d, dbI hd f av p, 30), (q0, dbZ9, 30)] [⟨52, 4, lv, L.length, seccells L⟩] wr) ∧ Hid (DbQ body k hd f av p) ∧ Hid (rdG body 4 1 4 = (rdG body (4 - k) (k + 1) a).map (L ++ ·)) ∧ Hid (L.length = k) ∧ Hid (k = 0 → a = 4)) (fun _ tv _ => 5 - (intOf tv).toNat)
   case atStart => exact ⟨0, 4, [], hd0, .slice none 0 0, .slice none 0 0, .slice none 0 0, by omega, rfl, HQ1.out, ⟨⟨_, _, _, rfl⟩, ⟨_, _, _, rfl⟩, ⟨_, _, _, rfl⟩, fun _ => rfl, fun _ => rfl, fun _ => rfl, rfl⟩, by unfold Hid; simp, rfl, fun _ => rfl⟩
   case round =>
    obtain ⟨k, a, L, hd, f, av, p, hk, rfl, hq, hdq, hgo, hLk, hka⟩ := hrel
    obtain ⟨As, ns, cs, rfl⟩ := own_form hq.out.r0
    clear HQ1
    have kg2 := hq.out.q.bx.cell 2 (u := .bool true) rfl
    have kgl := hq.out.q.lt
    by_cases hk4 : k = 4
    ·subst hk4
     have HG0 : Hid (rdG body 4 1 4 = (if a = body.length then some [] else none : Option (List Sec)).map (L ++ ·)) := hgo.out
     have ka := hq.out.q.bx.cell 1 (u := .int .i64 (a : Int)) rfl
     have hal := hq.out.q.at_
     obtain ⟨⟨Af, nf, cf, rfl⟩, ⟨Aa, na, ca, rfl⟩, ⟨Ap, np, cp, rfl⟩, -, -, -, hhd⟩ := hdq.out
     rw [if_neg (by decide)] at hhd
     subst hhd
     have XD : Bx d #[.string (sb (imHdF body).nm), .int .i64 (imHdF body).cy, .int .i64 (imHdF body).fr, .int .i64 (imHdF body).tu, .int .i64 (imHdF body).la, .int .i64 (imHdF body).lo, .slice Af nf cf, .slice Aa na ca, .slice Ap np cp] 30 wr := hq.out.x0
     have XO : Bx q0 #[.string ⟨#[]⟩, .int .i64 0, .int .i64 0, .int .i64 0, .int .i64 0, .int .i64 0, .slice none 0 0, .slice none 0 0, .slice none 0 0] 30 wr := hq.out.x1
     have BQ : Below w.heap.size w wr := HB1.out.trans (hq.out.f.below (by have := HB1.out.size; exact this) (fun k hk => by rw [HQ0.out]; exact hk))
     have FX0 := Lib.hid (bx_drew <| Bx.set9 XO (.string (sb (imHdF body).nm)) (.int .i64 (imHdF body).cy) (.int .i64 (imHdF body).fr) (.int .i64 (imHdF body).tu) (.int .i64 (imHdF body).la) (.int .i64 (imHdF body).lo) (.slice Af nf cf) (.slice Aa na ca) (.slice Ap np cp))
     have FB0 := Lib.hid (Below.drew <| bel_set9 BQ (b := q0) (by rw [HQ0.out]; exact Nat.le_refl _) (.string (sb (imHdF body).nm)) (.int .i64 (imHdF body).cy) (.int .i64 (imHdF body).fr) (.int .i64 (imHdF body).tu) (.int .i64 (imHdF body).la) (.int .i64 (imHdF body).lo) (.slice Af nf cf) (.slice Aa na ca) (.slice Ap np cp))
     have h1 : wr.ownsRow w1.heap.size 52 4 (.slice As ns cs) L.length (seccells L) := hq.out.r0
     have h2 : Frm (· = q0) wr _ := (((((((((frm_set wr q0 0 (.string (sb (imHdF body).nm))).trans (frm_set _ q0 1 (.int .i64 (imHdF body).cy))).trans (frm_set _ q0 2 (.int .i64 (imHdF body).fr))).trans (frm_set _ q0 3 (.int .i64 (imHdF body).tu))).trans (frm_set _ q0 4 (.int .i64 (imHdF body).la))).trans (frm_set _ q0 5 (.int .i64 (imHdF body).lo))).trans (frm_set _ q0 6 (.slice Af nf cf))).trans (frm_set _ q0 7 (.slice Aa na ca))).trans (frm_set _ q0 8 (.slice Ap np cp)))
     have RQ := Lib.hid (qm_own_base ((own_frm2 h1 h2 (by have := HG2.out; omega)).drew) (by have := HG2.out; have := HQ0.out; omega : w.heap.size ≤ w1.heap.size))
     have HPO : Hid (∀ W, Below w.heap.size w W → W.ownsRow w.heap.size 52 4 (.slice As ns cs) L.length (seccells L) → QmParsePost body w (.returned (.tuple #[.agg (dbL (imHdF body) (.slice Af nf cf) (.slice Aa na ca) (.slice Ap np cp)).toArray, .slice As ns cs, .bool ((a : Int) == (nb : Int))])) W) := fun W hW hrd => by
      refine ⟨imHdF body, _, _, _, _, _, rfl, ⟨_, _, _, rfl⟩, ⟨_, _, _, rfl⟩, ⟨_, _, _, rfl⟩, ⟨_, _, _, rfl⟩, hW, fun hf => ?_, fun ht => ⟨L, ?_, hrd⟩⟩
      ·rw [HGO.out, HG0.out, if_neg (by rw [HNB.out]; intro e; rw [e] at hf; simp at hf)]; rfl
      ·rw [HGO.out, HG0.out, if_pos (by rw [HNB.out]; have := beq_iff_eq.1 ht; omega)]; simp
     obtain ⟨⟨x0, x1, x2, x3, x4, x5, x6, x7, x8⟩, _⟩ := Bx.cells9 XD
     have xl := XD.lt
     obtain ⟨⟨y0, y1, y2, y3, y4, y5, y6, y7, y8⟩, ⟨f0, f1, f2, f3, f4, f5, f6, f7, f8⟩⟩ := Bx.cells9 XO
     have yl := XO.lt
     clear hgo HG0 HGO hdq hq HNO hka hLk XD XO BQ h1 h2 kg2
     go_upto_region 20 with fail
     go_region
     all_goals
      clear x0 x1 x2 x3 x4 x5 x6 x7 x8 xl ka kgl y0 y1 y2 y3 y4 y5 y6 y7 y8 f0 f1 f2 f3 f4 f5 f6 f7 f8 yl hcv e1
      go_wp2
      obtain ⟨⟨z0, z1, z2, z3, z4, z5, z6, z7, z8⟩, _⟩ := Bx.cells9 FX0.out
      have HPF := HPO.out _ FB0.out RQ.out
      clear HPO RQ FB0 FX0
      refine bodyPost_ret (v := .tuple #[.agg (dbL (imHdF body) (.slice Af nf cf) (.slice Aa na ca) (.slice Ap np cp)).toArray, .slice As ns cs, .bool ((a : Int) == (nb : Int))]) (by simp [results, Tryz.results66, go_sem, dbL, z0, z1, z2, z3, z4, z5, z6, z7, z8]; try rfl) rfl ?_
      exact HPF
    ·have hlt : k < 4 := by omega
     have hle : (k : Int) + 1 ≤ 4 := by omega
     have HB9 : Hid (∀ W, Frm (fun k => q0 ≤ k) w1 W → Below w.heap.size w W) := fun W hf => HB1.out.trans (hf.below (by have := HB1.out.size; exact this) (fun k hk => by rw [HQ0.out]; exact hk))
     clear kg2 kgl
     go_wp2_with fail
     refine (qmByte_any (a, false) _ hq.out.q).mono ?_
     rintro e w5 ⟨rfl, hr⟩
     have I5 := Lib.hid (hq.out.call hr)
     obtain ⟨bv, hbv⟩ : ∃ x : Nat, (byV body nb (a, false)).toNat = x := ⟨_, rfl⟩
     have HBV := Lib.hid hbv
     have hb8 := (byV body nb (a, false)).toNat_lt
     rw [hbv] at hb8 ⊢
     clear hr hq hbv
     go_wp2_with fail
     refine (qmFour_any (tkS nb 1 (a, false)) _ I5.out.q).mono ?_
     rintro e w6 ⟨rfl, hr⟩
     have I6 := Lib.hid (I5.out.call hr)
     clear hr I5
     have HTK : Hid (tkS body.length 4 (tkS body.length 1 (a, false)) = tkS nb 4 (tkS nb 1 (a, false))) := by unfold Hid; rw [HNB.out]
     cases h2 : (tkS nb 4 (tkS nb 1 (a, false))).2 with
     | true =>
      obtain ⟨n7, hn7⟩ : ∃ x : Nat, loN (tkV body nb 4 (tkS nb 1 (a, false))) = x := ⟨_, rfl⟩
      rw [hn7]
      have HR : Hid (rdF body = none) := by
       have hG : rdG body (4 - k) (k + 1) a = none := by
        rw [show 4 - k = (3 - k) + 1 by omega]
        exact rdG_form (.inl (by rw [HTK.out]; exact h2))
       unfold Hid
       rw [HGO.out, hgo.out, hG]; rfl
      have kb := I6.out.q.bx.cell 2 (u := .bool (!(tkS nb 4 (tkS nb 1 (a, false))).2)) rfl
      rw [h2] at kb
      have kbl := I6.out.q.lt
      have XO : Hid (Bx q0 dbZ9 30 w6) := I6.out.x1
      have BQ := Lib.hid (HB9.out _ I6.out.f)
      clear I6 hn7 h2 hgo HTK HBV
      go_wp2_with (refine wpList_plain rfl fun _ hK => wp_store_row 30 (.tmp 2) (.tmp 49) rfl q0 dbZ9 rfl rfl 30 _ XO.out infoDB9 rfl dbZ9_one (hK _ _ ?_))
      have FX : Bx q0 dbZ9 30 _ := setRow_heap _ q0 _ dbZ9 30 (0, 0) XO.out
      obtain ⟨⟨x0, x1, x2, x3, x4, x5, x6, x7, x8⟩, _⟩ := Bx.cells9 FX
      refine bodyPost_ret (v := .tuple #[.agg dbZ9, .slice none 0 0, .bool false]) (by simp [results, Tryz.results66, go_sem, x0, x1, x2, x3, x4, x5, x6, x7, x8]; try rfl) rfl ?_
      exact HNO.out HR.out _ (row_below BQ.out HQ0.out)
     | false =>
      have hg4 := tkS_good (n := 4) (a := (tkS nb 1 (a, false)).1) (b := (tkS nb 1 (a, false)).2) h2
      have hg1 : (tkS nb 1 (a, false)).2 = false := hg4.1
      have hg0 := tkS_good (n := 1) (a := a) (b := false) hg1
      have hs1 : tkS nb 1 (a, false) = (a + 1, false) := tkS_yes hg0.2
      rw [hs1] at hg4 I6 HTK
      have hs4 : tkS nb 4 (a + 1, false) = (a + 5, false) := tkS_yes hg4.2
      rw [hs4] at I6 HTK
      rw [hs1]
      have hal : a + 5 ≤ nb := I6.out.q.at_
      have hn4 := loN_lt4 (tkV body nb 4 (a + 1, false)) tkV_len
      obtain ⟨n, hn⟩ : ∃ x : Nat, loN (tkV body nb 4 (a + 1, false)) = x := ⟨_, rfl⟩
      rw [hn] at hn4 ⊢
      have HNN : Hid (loN (tkV body body.length 4 (a + 1, false)) = n) := by unfold Hid; rw [HNB.out]; exact hn
      have kb := I6.out.q.bx.cell 2 (u := .bool true) rfl
      have ka := I6.out.q.bx.cell 1 (u := .int .i64 ((a + 5 : Nat) : Int)) rfl
      rw [show ((a + 5 : Nat) : Int) = (a : Int) + 5 by omega] at ka
      have kbl := I6.out.q.lt
      clear hg4 hg1 hg0 hs1 hs4 h2 hn
      by_cases hbk : bv = k + 1
      ·have e5 : (((bv : Int)) == (k : Int) + 1) = true := by rw [beq_iff_eq]; omega
       have p5 : (((bv : Int)) != (k : Int) + 1) = false := by rw [bne, e5]; rfl
       by_cases hgt : nb - (a + 5) < n
       ·have hgi : (nb : Int) - ((a : Int) + 5) < (n : Int) := by omega
        have HR : Hid (rdF body = none) := by
         have hG : rdG body (4 - k) (k + 1) a = none := by
          rw [show 4 - k = (3 - k) + 1 by omega]
          exact rdG_form (.inr (.inr (by rw [HNN.out, HNB.out]; exact hgt)))
         unfold Hid
         rw [HGO.out, hgo.out, hG]; rfl
        have XO : Hid (Bx q0 dbZ9 30 w6) := I6.out.x1
        have BQ := Lib.hid (HB9.out _ I6.out.f)
        clear I6 hgo HTK HBV hbk HNN
        go_wp2_with (refine wpList_plain rfl fun _ hK => wp_store_row 30 (.tmp 2) (.tmp 49) rfl q0 dbZ9 rfl rfl 30 _ XO.out infoDB9 rfl dbZ9_one (hK _ _ ?_))
        have FX : Bx q0 dbZ9 30 _ := setRow_heap _ q0 _ dbZ9 30 (0, 0) XO.out
        obtain ⟨⟨x0, x1, x2, x3, x4, x5, x6, x7, x8⟩, _⟩ := Bx.cells9 FX
        refine bodyPost_ret (v := .tuple #[.agg dbZ9, .slice none 0 0, .bool false]) (by simp [results, Tryz.results66, go_sem, x0, x1, x2, x3, x4, x5, x6, x7, x8]; try rfl) rfl ?_
        exact HNO.out HR.out _ (row_below BQ.out HQ0.out)
       ·have hgi : ¬ (nb : Int) - ((a : Int) + 5) < (n : Int) := by omega
        have hst : a + 5 + n ≤ nb := by omega
        have hwa : IntKind.i64.wrap ((a : Int) + 5 + (n : Int)) = (a : Int) + 5 + (n : Int) := by rw [IntKind.wrap_i64]; omega
        have htn : ((a : Int) + 5 + (n : Int)).toNat = a + 5 + n := by omega
        have hcc : (a : Int) + 5 + (n : Int) ≤ (cb : Int) := by omega
        have hk1 : IntKind.u8.wrap ((k : Int) + 1) = (k : Int) + 1 := by rw [IntKind.wrap_u8']; omega
        have HK1 := Lib.hid hk1
        obtain ⟨w7, hw7⟩ : ∃ W, w6.alloc (.cells #[.slice (some ⟨gb, 0, none⟩) (a + 5 + n) cb, .int .i64 ((a : Int) + 5), .bool true] 210) = W := ⟨_, rfl⟩
        have hb7 : Below w6.heap.size w6 w7 := by rw [← hw7]; exact (Below.refl _ _).alloc (Nat.le_refl _) _
        obtain ⟨q4, hq4⟩ : ∃ q, w6.heap.size = q := ⟨_, rfl⟩
        have hgb6 := I6.out.q.by_.1
        have hd6 := I6.out.x0.lt
        have C7 : Hid (RdQ q4 gb 0 cb (a + 5 + n) body (a + 5, false) w7) := by
         have hx : Bx q4 (rdQc gb 0 body.length cb (a + 5 + n) (a + 5, false)) 210 w7 := by
          have h1 := Bx.last w6 (#[.slice (some ⟨gb, 0, none⟩) (a + 5 + n) cb, .int .i64 ((a : Int) + 5), .bool true] : Array Value) 210
          rw [hw7, hq4] at h1
          unfold rdQc
          simp only [show ((a + 5 : Nat) : Int) = (a : Int) + 5 by omega]
          exact h1
         exact ⟨hx, I6.out.q.by_.below hb7, by omega, by show a + 5 ≤ a + 5 + n; omega, by rw [HNB.out]; exact hst, by rw [HNB.out]; exact hc, hm⟩
        have I7 := Lib.hid (I6.out.below hb7)
        have hs7 : w7.heap.size = q4 + 1 := by rw [← hw7, World.size_alloc, hq4]
        have HS7 := Lib.hid hs7
        have HW7 := Lib.hid hw7
        have HQ4 := Lib.hid hq4
        have HQ5 := Lib.hid hq4
        have hdq4 : d ≠ q4 := by omega
        have hgq4 : g < q4 := by rw [← hq4]; exact kbl
        clear hw7 hq4 hs7 hk1
        clear hgt
        go_wp2_with fail
        rw [HW7.out, HQ4.out]
        clear HW7 HQ4 kb ka hwa htn hcc e5 p5 hgi kbl
        have hsec := qmSec_any (g := q4) (gb := gb) (ob := 0) (c := cb) (st := a + 5 + n) (bs := body) (a + 5, false) ((k : Int) + 1) (k + 1) d (by omega) (by omega) (by omega) hd f av p w7 C7.out I7.out.x0 hdq4 (by omega) hdq.out.xf hdq.out.xa hdq.out.xp (fun h => hdq.out.f0 (by omega)) (fun h => hdq.out.a0 (by omega)) (fun h => hdq.out.p0 (by omega))
        refine hsec.mono ?_
        rintro e w8 ⟨rfl, hq8, hf8, hd2, f2, a2, p2, hx8, hf2, ha2, hp2, hh1, hh2, hh3, hh4, hh5⟩
        have hfd : Frm (· = d) w6 w8 := by
         refine ⟨hf8.os.trans hb7.os, hf8.tape.trans hb7.tape, hf8.output.trans hb7.output, Nat.le_trans hb7.size hf8.size, fun j hj hn => ?_⟩
         exact (hf8.block j (Nat.lt_of_lt_of_le hj hb7.size) (fun e => by rcases e with e | e; (have := HQ5.out; omega); exact hn e)).trans (hb7.block j hj)
        have I8 := Lib.hid (I6.out.redo hfd hx8)
        obtain ⟨stp, hstp⟩ : ∃ x, a + 5 + n = x := ⟨_, rfl⟩
        rw [hstp] at hq8 hh1 hst ⊢
        obtain ⟨sz, hsz⟩ : ∃ x, secS body stp (k + 1) (a + 5, false) = x := ⟨_, rfl⟩
        rw [hsz] at hq8 hh1
        have HSZ := Lib.hid hsz
        obtain ⟨cnt, hcnt⟩ : ∃ x, secN body stp (k + 1) (a + 5, false) = x := ⟨_, rfl⟩
        rw [hcnt]
        have HCNT := Lib.hid hcnt
        obtain ⟨az, bz⟩ := sz
        have c1 := hq8.bx.cell 1 (u := .int .i64 (az : Int)) rfl
        have c2 := hq8.bx.cell 2 (u := .bool (!bz)) rfl
        have cl := hq8.lt
        have haz := hq8.at_
        have HH1 := Lib.hid hh1
        have HHR := Lib.hid (And.intro hf2 (And.intro ha2 (And.intro hp2 (And.intro hh2 (And.intro hh3 (And.intro hh4 hh5))))))
        have HSTP := Lib.hid hstp
        have hsti : (a : Int) + 5 + (n : Int) = (stp : Int) := by omega
        have HSTI := Lib.hid hsti
        clear hsec hq8 hf8 hx8 hf2 ha2 hp2 hh1 hh2 hh3 hh4 hh5 hfd hb7 I6 I7 C7 hsz hcnt hstp hsti
        have HBAD : Hid (bz = true ∨ az ≠ stp → rdF body = none) := fun hb => by
         rw [HGO.out, hgo.out, show 4 - k = (3 - k) + 1 by omega, rdG_sec HNN.out (by rw [HSTP.out, HSZ.out]; exact hb)]; rfl
        have XO : Hid (Bx q0 dbZ9 30 w8) := I8.out.x1
        have BQ := Lib.hid (HB9.out _ I8.out.f)
        have hwb : IntKind.i64.wrap ((a : Int) + 5 + (n : Int)) = (stp : Int) := by rw [IntKind.wrap_i64]; have := HSTI.out; omega
        by_cases hbad : bz = true ∨ az ≠ stp
        ·have HR := Lib.hid (HBAD.out hbad)
         have hbad2 : bz = true ∨ (bz = false ∧ az ≠ stp) := by
          cases bz with
          | true => exact .inl rfl
          | false => rcases hbad with h | h; cases h; exact .inr ⟨rfl, h⟩
         clear HBAD I8 hgo HTK HBV hbk HNN hbad HH1 HHR hka hLk hdq
         rcases hbad2 with rfl | ⟨rfl, hne⟩
         all_goals
          try (have e9 : ((az : Int) == (stp : Int)) = false := by rw [beq_eq_false_iff_ne]; omega)
          try (have p9 : ((az : Int) != (stp : Int)) = true := by rw [bne, e9]; rfl)
          try clear hne
          go_wp2_with (refine wpList_plain rfl fun _ hK => wp_store_row 30 (.tmp 2) (.tmp 72) rfl q0 dbZ9 rfl rfl 30 _ XO.out infoDB9 rfl dbZ9_one (hK _ _ ?_))
          have FX : Bx q0 dbZ9 30 _ := setRow_heap _ q0 _ dbZ9 30 (0, 0) XO.out
          obtain ⟨⟨x0, x1, x2, x3, x4, x5, x6, x7, x8⟩, _⟩ := Bx.cells9 FX
          refine bodyPost_ret (v := .tuple #[.agg dbZ9, .slice none 0 0, .bool false]) (by simp [results, Tryz.results66, go_sem, x0, x1, x2, x3, x4, x5, x6, x7, x8]; try rfl) rfl ?_
          exact HNO.out HR.out _ (row_below BQ.out HQ0.out)
        ·have hbz : bz = false := by cases bz with
          | true => exact absurd (.inl rfl) hbad
          | false => rfl
         have hazs : az = stp := by
          rcases Nat.lt_trichotomy az stp with h | h | h
          ·exact absurd (.inr (by omega)) hbad
          ·exact h
          ·exact absurd (.inr (by omega)) hbad
         subst hbz hazs
         have e9 : ((az : Int) == (az : Int)) = true := by rw [beq_iff_eq]
         have p9 : ((az : Int) != (az : Int)) = false := by rw [bne, e9]; rfl
         have hG : rdG body (4 - k) (k + 1) a = (rdG body (4 - (k + 1)) (k + 1 + 1) az).map ((k + 1, a + 5, n, cnt) :: ·) := by
          rw [show 4 - k = (4 - (k + 1)) + 1 by omega, rdG_more (n := n) (by rw [HTK.out]; simp) (by rw [HNB.out, HBV.out]; exact hbk) HNN.out (by rw [HNB.out]; omega) (by rw [HSTP.out, HSZ.out]; simp) (by rw [HSTP.out, HSZ.out])]
          rw [HSTP.out, HCNT.out]
         have HGN : Hid (rdG body 4 1 4 = (rdG body (4 - (k + 1)) (k + 1 + 1) az).map ((L ++ [(k + 1, a + 5, n, cnt)]) ++ ·)) := by
          unfold Hid
          rw [hgo.out, hG, Option.map_map]
          congr 1
          funext l
          simp
         have HDN : Hid (DbQ body (k + 1) hd2 f2 a2 p2) := by
          obtain ⟨g1, g2, g3, g4, g5, g6, g7⟩ := HHR.out
          refine ⟨g1, g2, g3, fun h => (g5 h).trans (hdq.out.f0 (by omega)), fun h => (g6 h).trans (hdq.out.a0 (by omega)), fun h => (g7 h).trans (hdq.out.p0 (by omega)), ?_⟩
          rw [if_neg (by omega)]
          by_cases hk0 : k = 0
          ·have ha4 := hka.out hk0
           have h5 := HH1.out (by omega) rfl
           rw [h5, ha4, ← HSTP.out]
           unfold imHdF
           have h6 := HNN.out
           rw [ha4] at h6
           rw [h6, ha4, show 4 + 5 + n = 9 + n by omega]
          ·rw [g4 (by omega), hdq.out.he, if_neg hk0]
         have hkg := I8.out.q.bx.cell 1 (u := .int .i64 ((a + 5 : Nat) : Int)) rfl
         have hkf := I8.out.q.bx.free 1
         have hkl := I8.out.q.lt
         have I9 := Lib.hid (I8.out.seek (n := az) (by omega))
         obtain ⟨w9, hw9⟩ : ∃ W, w8.setCell ⟨g, 1, none⟩ (.int .i64 (az : Int)) = W := ⟨_, rfl⟩
         rw [hw9] at I9
         have HW9 := Lib.hid hw9
         clear HBAD hgo hG XO BQ hbad hw9 I8 hdq HHR HH1
         go_upto_region 19 with fail
         rw [HW9.out]
         clear HW9 c1 c2 cl hkg hkf hkl e9 p9
         have hk1 := HK1.out
         have HSC : Hid (secC (k + 1, a + 5, n, cnt) = [.int .u8 ((k : Int) + 1), .int .i64 ((a : Int) + 5), .int .i64 (n : Int), .int .i64 (cnt : Int)]) := by
          unfold Hid secC
          simp
         have hLl : L.length ≤ 4 := by have := hLk.out; omega
         go_wp2_with (at_builtin; refine wpList_append_lies _ rfl _ _ 45 rfl w1.heap.size 52 i0 (.agg #[.int .u8 0, .int .i64 0, .int .i64 0, .int .i64 0]) 4 32 Tryz.underlying45 hi0 hz0 hz1 hz2 rfl (by decide) _ _ _ rfl (I9.out.r0.alloc _) ⟨w9.heap.size, 0, none⟩ 1 1 [.int .u8 ((k : Int) + 1), .int .i64 ((a : Int) + 5), .int .i64 (n : Int), .int .i64 (cnt : Int)] rfl rfl (World.news_of_block (heap_alloc_new w9 _)) ?c2 (by decide) ?c3 ?c4 ?c5 _ rfl ?_)
         case c2 => intro u hu; simp only [List.mem_cons, List.not_mem_nil, or_false] at hu; rcases hu with rfl | rfl | rfl | rfl <;> rfl
         case c3 => unfold maxLen; omega
         case c4 => omega
         case c5 => have := I9.out.f.size; simp; omega
         intro gg cap w3 hown3 hgrow3 hor hgg
         rw [← HSC.out, ← seccells_snoc] at hown3
         have Q3 := Lib.hid ((I9.out.below ((Below.refl _ _).alloc (Nat.le_refl _) _)).push hown3 hgrow3 (fun kk hkk => by
          have e : gg = kk := by simpa [Value.ownBlock] using hkk
          subst e
          rcases hor with h1 | h1
          ·exact .inl h1
          ·exact .inr (by rw [h1]; first | exact Nat.le_refl _ | simp)))
         have HLN : Hid ((L ++ [(k + 1, a + 5, n, cnt)]).length = k + 1) := by unfold Hid; rw [List.length_append, hLk.out]; rfl
         have Q4 : Hid (QS g gb 0 cb nb body (fun k => q0 ≤ k) w1 (az, false) [(d, dbI hd2 f2 a2 p2, 30), (q0, dbZ9, 30)] [⟨52, 4, .slice (some ⟨gg, 0, none⟩) (L.length + 1) cap, (L ++ [(k + 1, a + 5, n, cnt)]).length, seccells (L ++ [(k + 1, a + 5, n, cnt)])⟩] w3) := by
          rw [show (L ++ [(k + 1, a + 5, n, cnt)]).length = L.length + 1 by rw [List.length_append]; rfl]
          exact Q3.out
         clear hown3 hgrow3 hor hgg I9 hk1 Q3
         go_wp2
         go_roundw
         case rel => exact ⟨k + 1, az, _, _, _, _, _, hlt, by first | rfl | go_num, Q4, HDN, HGN, HLN, fun h => by omega⟩
         case measure => simp [intOf]; omega
      ·have e5 : (((bv : Int)) == (k : Int) + 1) = false := by rw [beq_eq_false_iff_ne]; omega
       have p5 : (((bv : Int)) != (k : Int) + 1) = true := by rw [bne, e5]; rfl
       have HR : Hid (rdF body = none) := by
        have hG : rdG body (4 - k) (k + 1) a = none := by
         rw [show 4 - k = (3 - k) + 1 by omega]
         exact rdG_form (.inr (.inl (by rw [HNB.out, HBV.out]; exact hbk)))
        unfold Hid
        rw [HGO.out, hgo.out, hG]; rfl
       have XO : Hid (Bx q0 dbZ9 30 w6) := I6.out.x1
       have BQ := Lib.hid (HB9.out _ I6.out.f)
       clear I6 hgo HTK HBV hbk HNN
       go_wp2_with (refine wpList_plain rfl fun _ hK => wp_store_row 30 (.tmp 2) (.tmp 49) rfl q0 dbZ9 rfl rfl 30 _ XO.out infoDB9 rfl dbZ9_one (hK _ _ ?_))
       have FX : Bx q0 dbZ9 30 _ := setRow_heap _ q0 _ dbZ9 30 (0, 0) XO.out
       obtain ⟨⟨x0, x1, x2, x3, x4, x5, x6, x7, x8⟩, _⟩ := Bx.cells9 FX
       refine bodyPost_ret (v := .tuple #[.agg dbZ9, .slice none 0 0, .bool false]) (by simp [results, Tryz.results66, go_sem, x0, x1, x2, x3, x4, x5, x6, x7, x8]; try rfl) rfl ?_
       exact HNO.out HR.out _ (row_below BQ.out HQ0.out)
  ·have e1 : ((sb l).toList == [70, 68, 66, 49]) = false := by rw [bl_toList, bl_sb, beq_eq_false_iff_ne]; exact hmg
   have HR : Hid (rdF body = none) := by
    unfold Hid rdF
    rw [if_neg (by rw [HLL.out]; exact hmg)]
   clear hmg HLL
   go_enter Tryz.func66, Tryz.ntmps66
   go_wp2_with (refine wpList_plain rfl fun _ hK => wp_store_row 30 (.tmp 2) (.tmp 23) rfl w.heap.size dbZ9 rfl rfl 30 _ XZ0.out infoDB9 rfl dbZ9_one (hK _ _ ?_))
   have FX : Bx w.heap.size dbZ9 30 _ := setRow_heap _ w.heap.size _ dbZ9 30 (0, 0) XZ0.out
   obtain ⟨⟨x0, x1, x2, x3, x4, x5, x6, x7, x8⟩, _⟩ := Bx.cells9 FX
   refine bodyPost_ret (v := .tuple #[.agg dbZ9, .slice none 0 0, .bool false]) (by simp [results, Tryz.results66, go_sem, x0, x1, x2, x3, x4, x5, x6, x7, x8]; try rfl) rfl ?_
   exact HNO.out HR.out _ (row_below HB0.out rfl)
end Go.Proofs.YtidkhnfhkofmoaaGreatDoor
