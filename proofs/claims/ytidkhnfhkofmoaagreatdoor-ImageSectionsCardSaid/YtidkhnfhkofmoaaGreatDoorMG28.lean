/-
  Several texts as one.
-/
import Derived.Test.YtidkhnfhkofmoaaGreatDoorNvK
import Derived.Test.YtidkhnfhkofmoaaGreatDoorImY
import Derived.Test.YtidkhnfhkofmoaaGreatDoorMG09
import Derived.Lib.SlBytesConst
namespace Go.Proofs.YtidkhnfhkofmoaaGreatDoor
open Go.RowKit Go.Lib Go.Sort
set_option linter.unusedVariables false
set_option linter.unusedSimpArgs false
structure FxGood (l : List Fx) : Prop where
 ck : ∀ f ∈ l, fixE f = 0
 at_ : ∀ f ∈ l, AtO f
 sz : SzL l
 up : ∀ k (h : k + 1 < l.length), fxRef (l[k]'(by omega)) < fxRef l[k + 1]
 le : l.length ≤ 400
structure Ck (w : World) (l : List Fx) (v : Value) (q1 q4 q5 b1 b2 b3 c1 c2 c3 : Nat) (bf : List Fx) (wr : World) : Prop where
 ix : IxR b1 b2 b3 l.length (rfM l) (fun _ => none) (fun _ => none) wr
 jx : IxR c1 c2 c3 bf.length (rfM bf) (fun _ => none) (fun _ => none) wr
 x1 : Bx q1 (dbH v) 30 wr
 x4 : Bx q4 #[.map (some b1), .map (some b2), .map (some b3)] 127 wr
 x5 : Bx q5 #[.map (some c1), .map (some c2), .map (some c3)] 127 wr
 be : Below w.heap.size w wr
theorem Ck.below {w : World} {l : List Fx} {v : Value} {q1 q4 q5 b1 b2 b3 c1 c2 c3 : Nat} {bf : List Fx} {wr w' : World} (h : Ck w l v q1 q4 q5 b1 b2 b3 c1 c2 c3 bf wr) (hb : Below wr.heap.size wr w') : Ck w l v q1 q4 q5 b1 b2 b3 c1 c2 c3 bf w' :=
 ⟨h.ix.below hb, h.jx.below hb, h.x1.via hb, h.x4.via hb, h.x5.via hb, Below.then_ h.be hb⟩
theorem Ck.add {w : World} {l : List Fx} {v : Value} {q1 q4 q5 b1 b2 b3 c1 c2 c3 : Nat} {bf : List Fx} {wr w' : World} {f : Fx} (h : Ck w l v q1 q4 q5 b1 b2 b3 c1 c2 c3 bf wr) (h1 : b1 ≠ c1) (h2 : b2 ≠ c1) (h3 : b3 ≠ c1) (hw : w.heap.size ≤ c1)
  (hj : IxR c1 c2 c3 (bf.length + 1) (setK (rfM bf) (fxRef f) (some true)) (fun _ => none) (fun _ => none) w') (hf : Frm (· = c1) wr w') : Ck w l v q1 q4 q5 b1 b2 b3 c1 c2 c3 (bf ++ [f]) w' := by
 refine ⟨h.ix.frm hf h1 h2 h3, ?_, (hf.block q1 h.x1.lt (map_nocell h.jx.r h.x1)).trans h.x1, (hf.block q4 h.x4.lt (map_nocell h.jx.r h.x4)).trans h.x4, (hf.block q5 h.x5.lt (map_nocell h.jx.r h.x5)).trans h.x5, h.be.trans (hf.below h.be.size (fun k hk => by omega))⟩
 rw [rfM_snoc, List.length_append]; exact hj
theorem up_cmp {a b : List UInt8} (h : b < a) : cmpS a b = 1 := by
 unfold cmpS
 rw [if_neg (fun h2 => absurd (List.lt_trans h h2) (List.lt_irrefl _)), if_pos h]
set_option maxRecDepth 100000 in
set_option maxHeartbeats 16000000 in
theorem ncheck_ex (v : Value) (l : List Fx) (w : World) (h : FxsR w v l) (hg : FxGood l) :
  Calls Tryz.prog 19 #[.agg (dbH v)] w fun e w' => e = .returned (.int .i64 0) ∧ Below w.heap.size w w' := by
 obtain ⟨A, c, rfl, hc, hm⟩ := h.form
 obtain ⟨n, hn⟩ : ∃ n, l.length = n := ⟨_, rfl⟩
 have HN := Lib.hid hn
 have hn4 : n ≤ 400 := by rw [← hn]; exact hg.le
 rw [hn] at hc
 have H := Lib.hid h
 rw [hn] at H ⊢
 have HG := Lib.hid hg
 have hh := header_ex
 unfold hdr26 at hh
 clear h hg hn
 obtain ⟨w0, hw0⟩ : ∃ W, w.alloc (.cells (dbH (.slice A n c)) 30) = W := ⟨_, rfl⟩
 have B0 : Hid (Below w.heap.size w w0) := by rw [← hw0]; exact (Below.refl _ _).alloc (Nat.le_refl _) _
 have X0 : Hid (Bx w.heap.size (dbH (.slice A n c)) 30 w0) := by rw [← hw0]; exact Bx.last w _ _
 obtain ⟨⟨x0, x1, x2, x3, x4, x5, x6, x7, x8⟩, _⟩ := Bx.cells9 X0.out
 have xl := Bx.lt X0.out
 have hmm := @run_makeMap Tryz.prog
 unfold dbH at hw0
 have HW0 := Lib.hid hw0
 have hn4i : ¬ (400 : Int) < (n : Int) := by omega
 clear hw0
 unfold dbH
 go_enter Tryz.func19, Tryz.ntmps19
 go_wp2_with fail
 rw [HW0.out]
 clear HW0
 refine (hh _).mono ?_
 rintro e w1 ⟨rfl, hb1⟩
 have B1 := Lib.hid (Below.then_ B0.out hb1)
 have X1 := Lib.hid (X0.out.via hb1)
 obtain ⟨⟨x0, x1, x2, x3, x4, x5, x6, x7, x8⟩, _⟩ := Bx.cells9 X1.out
 have xl := Bx.lt X1.out
 clear hb1 hh B0 X0
 have HKD : Hid (∀ f ∈ l, f.kd ≠ 5 ∧ f.kd ≠ 6 ∧ f.kd < 256) := fun f hf => (HG.out.at_ f hf).2.2
 have H1 := Lib.hid (H.out.below B1.out)
 go_wp2_with fail
 refine (indexed_any _ l w1 H1.out HG.out.sz HKD.out (by have := HG.out.le; omega)).mono ?_
 rintro e w2 ⟨b1, b2, b3, rfl, hix, hb2, q1, q2, q3⟩
 have HIX := Lib.hid hix
 have B2 := Lib.hid (Below.then_ B1.out hb2)
 have X2 := Lib.hid (X1.out.via hb2)
 have hw2 := hb2.size
 clear hix hb2 x0 x1 x2 x3 x4 x5 x6 x7 x8 xl
 go_wp2_with fail
 refine (indexed_any (.slice none 0 0) [] w2 (Rd.nil w2 7) (fun f h => by cases h) (fun f h => by cases h) (by decide)).mono ?_
 rintro e w3 ⟨c1, c2, c3, rfl, hjx, hb3, r1, r2, r3⟩
 have HJX := Lib.hid hjx
 have hw3 := hb3.size
 have HIX3 := Lib.hid (HIX.out.below hb3)
 have B3 := Lib.hid (Below.then_ B2.out hb3)
 have X3 := Lib.hid (X2.out.via hb3)
 have hbl1 := HIX.out.r.lt
 have hbl2 := HIX.out.a.lt
 have hbl3 := HIX.out.u.lt
 have hwz := B2.out.size
 unfold ixV
 clear hjx hb3 HIX
 go_upto_region 7 with fail
 obtain ⟨w4, hw4⟩ : ∃ W, (w3.alloc (.cells #[.map (some b1), .map (some b2), .map (some b3)] 127)).alloc (.cells #[.map (some c1), .map (some c2), .map (some c3)] 127) = W := ⟨_, rfl⟩
 rw [hw4]
 obtain ⟨q4, hq4⟩ : ∃ q, w3.heap.size = q := ⟨_, rfl⟩
 obtain ⟨q5, hq5⟩ : ∃ q, w3.heap.size + 1 = q := ⟨_, rfl⟩
 have K0 : Hid (Ck w l (.slice A n c) w.heap.size q4 q5 b1 b2 b3 c1 c2 c3 [] w4) := by
  have hb : Below w3.heap.size w3 w4 := by rw [← hw4]; exact ((Below.refl _ _).alloc (Nat.le_refl _) _).alloc (by simp) _
  refine ⟨HIX3.out.below hb, ?_, X3.out.via hb, ?_, ?_, Below.then_ B3.out hb⟩
  ·rw [rfM_nil]; exact HJX.out.below hb
  ·rw [← hw4, ← hq4]; exact (Bx.last w3 _ _).grow _
  ·rw [← hw4, ← hq5]; exact Bx.last2 w3 _ _ _
 have AP : Hid (b1 ≠ c1 ∧ b2 ≠ c1 ∧ b3 ≠ c1 ∧ w.heap.size ≤ c1) := ⟨by omega, by omega, by omega, by omega⟩
 rw [hq5, hq4]
 clear hw4 hq4 hq5 hmm HJX HIX3 B3 X3 hbl1 hbl2 hbl3 q1 q2 q3 r1 r2 r3 hw2 hw3 B1 B2 X1 X2 hwz H1
 obtain ⟨⟨x0, x1, x2, x3, x4, x5, x6, x7, x8⟩, _⟩ := Bx.cells9 K0.out.x1
 have xl := Bx.lt K0.out.x1
 go_wp2_with fail
 go_loopw [58] (fun iv wr => ∃ k : Nat, k ≤ n ∧ iv = .int .i64 (k : Int) ∧ Hid (Ck w l (.slice A n c) w.heap.size q4 q5 b1 b2 b3 c1 c2 c3 (l.take k) wr)) (fun iv _ => n - (intOf iv).toNat)
 case atStart => exact ⟨0, Nat.zero_le _, rfl, K0.out⟩
 case round =>
  obtain ⟨k, hk, rfl, hck⟩ := hrel
  clear x0 x1 x2 x3 x4 x5 x6 x7 x8 xl
  obtain ⟨⟨x0, x1, x2, x3, x4, x5, x6, x7, x8⟩, _⟩ := Bx.cells9 hck.out.x1
  have xl := Bx.lt hck.out.x1
  by_cases hlt : k < n
  ·have hkl : k < l.length := by rw [HN.out]; exact hlt
   have HR := Lib.hid (H.out.below hck.out.be)
   obtain ⟨g, o, c', hA, hgl, hat⟩ := FxsR.at_ (by have := HR.out; rw [← HN.out] at this; exact this : FxsR wr (.slice A l.length c) l) hkl
   rw [HN.out] at hA
   simp only [Value.slice.injEq, true_and] at hA
   obtain ⟨rfl, rfl⟩ := hA
   have hsz := HG.out.sz.get hkl
   have hck0 := HG.out.ck _ (List.getElem_mem hkl)
   have hao := HG.out.at_ _ (List.getElem_mem hkl)
   have HTK : Hid (l.take (k + 1) = l.take k ++ [l[k]]) := List.take_succ_eq_append_getElem hkl
   have HFK : Hid (∃ f, l[k] = f) := ⟨_, rfl⟩
   obtain ⟨f, hf⟩ : ∃ f, l[k] = f := ⟨_, rfl⟩
   rw [hf] at hat hsz hck0 hao HTK
   have HF := Lib.hid hf
   obtain ⟨y0, y1, y2, y3, y4, y5, y6⟩ := hat
   have hki : (k : Int) < (n : Int) := by omega
   have hcf := checkF_any f
   obtain ⟨wA, hwA⟩ : ∃ W, wr.alloc (.cells #[.string (sb f.id), .string (sb f.rg), .int .u8 (f.kd : Int), .int .i64 f.lat, .int .i64 f.lon, .int .i64 f.el, .int .i64 f.ra] 73) = W := ⟨_, rfl⟩
   have BA : Hid (Below wr.heap.size wr wA) := by rw [← hwA]; exact (Below.refl _ _).alloc (Nat.le_refl _) _
   obtain ⟨q7, hq7⟩ : ∃ q, wr.heap.size = q := ⟨_, rfl⟩
   have FA : Hid (FxBox wA q7 f) := by rw [← hwA, ← hq7]; exact heap_alloc_new wr _
   have KA := Lib.hid (hck.out.below BA.out)
   have HWA := Lib.hid hwA
   have HSZ := Lib.hid hsz
   have HAO := Lib.hid hao
   have HCF := Lib.hid (fun W => (checkF_any f W (Nat.le_trans hsz.1 (by unfold maxLen; omega)) (Nat.le_trans hsz.2 (by unfold maxLen; omega))).mono (R' := fun e w' => e = .returned (.int .i64 0) ∧ Below W.heap.size W w') (fun e w' h => ⟨by rw [h.1, hck0], h.2⟩))
   have HQ7 := Lib.hid hq7
   clear hq7 hf hwA hck hck0 hsz hao hcf HR x0 x1 x2 x3 x4 x5 x6 x7 x8 xl
   go_upto_region 10 with fail
   rw [HWA.out, HQ7.out]
   clear HWA y0 y1 y2 y3 y4 y5 y6
   obtain ⟨y0, y1, y2, y3, y4, y5, y6⟩ := FA.out.cells
   have yl := lt_heap FA.out
   go_wp2_with fail
   refine (HCF.out _).mono ?_
   rintro e w5 ⟨rfl, hb5⟩
   have K5 := Lib.hid (KA.out.below hb5)
   have F5 : Hid (FxBox w5 q7 f) := (hb5.block q7 (lt_heap FA.out)).trans FA.out
   clear hb5 KA FA HCF y0 y1 y2 y3 y4 y5 y6 yl
   go_upto_if 69 with (fail)
   go_cut [9] (fun _ wx => Hid (Ck w l (.slice (some ⟨g, o, none⟩) n c) w.heap.size q4 q5 b1 b2 b3 c1 c2 c3 (l.take k) wx) ∧ Hid (FxBox wx q7 f))
   case first =>
    rcases Nat.eq_zero_or_pos k with h0 | h0
    ·have h0i : ¬ (0 : Int) < (k : Int) := by omega
     clear h0
     go_wp2
     go_meet
     exact ⟨K5.out, F5.out⟩
    ·have h0i : (0 : Int) < (k : Int) := by omega
     obtain ⟨j, hj⟩ : ∃ j, k = j + 1 := ⟨k - 1, by omega⟩
     subst hj
     have HR5 := Lib.hid (H.out.below K5.out.be)
     have hjl : j < l.length := by rw [HN.out]; omega
     obtain ⟨g', o', c'', hA5, hgl5, hatp⟩ := FxsR.at_ (by have := HR5.out; rw [← HN.out] at this; exact this : FxsR w5 (.slice (some ⟨g, o, none⟩) l.length c) l) hjl
     rw [HN.out] at hA5
     simp only [Value.slice.injEq, Option.some.injEq, Addr.mk.injEq, true_and, and_true] at hA5
     obtain ⟨⟨rfl, rfl⟩, rfl⟩ := hA5
     have hszp := HG.out.sz.get hjl
     have hup := HG.out.up j hkl
     obtain ⟨p, hp⟩ : ∃ p, l[j] = p := ⟨_, rfl⟩
     rw [hp] at hatp hszp hup
     rw [HF.out] at hup
     obtain ⟨p0, p1, p2, p3, p4, p5, p6⟩ := hatp
     have gl5 := hgl5
     have z0 := fun pb : BelBy w5 => (pb.h.cell (p := ⟨g, o + j * 7, none⟩) gl5).trans p0
     have z1 := fun pb : BelBy w5 => (pb.h.cell (p := ⟨g, o + j * 7 + 1, none⟩) gl5).trans p1
     have z2 := fun pb : BelBy w5 => (pb.h.cell (p := ⟨g, o + j * 7 + 2, none⟩) gl5).trans p2
     have z3 := fun pb : BelBy w5 => (pb.h.cell (p := ⟨g, o + j * 7 + 3, none⟩) gl5).trans p3
     have z4 := fun pb : BelBy w5 => (pb.h.cell (p := ⟨g, o + j * 7 + 4, none⟩) gl5).trans p4
     have z5 := fun pb : BelBy w5 => (pb.h.cell (p := ⟨g, o + j * 7 + 5, none⟩) gl5).trans p5
     have z6 := fun pb : BelBy w5 => (pb.h.cell (p := ⟨g, o + j * 7 + 6, none⟩) gl5).trans p6
     have v0 := fun pb : BelBy w5 => (FxBox.below F5.out pb.h).cells.c0
     have v1 := fun pb : BelBy w5 => (FxBox.below F5.out pb.h).cells.c1
     have v2 := fun pb : BelBy w5 => (FxBox.below F5.out pb.h).cells.c2
     have v3 := fun pb : BelBy w5 => (FxBox.below F5.out pb.h).cells.c3
     have v4 := fun pb : BelBy w5 => (FxBox.below F5.out pb.h).cells.c4
     have v5 := fun pb : BelBy w5 => (FxBox.below F5.out pb.h).cells.c5
     have v6 := fun pb : BelBy w5 => (FxBox.below F5.out pb.h).cells.c6
     have x6 := fun pb : BelBy w5 => (K5.out.x1.via pb.h).cell 6 (u := .slice (some ⟨g, o, none⟩) n c) rfl
     have r1 := fun W => fixRef_any f W HSZ.out.1 HSZ.out.2
     have r2 := fun W => fixRef_any p W hszp.1 hszp.2
     unfold FRefPost at r1 r2
     have hcm := fun W => (cmpStr_any (sb (fxRef f)) (sb (fxRef p)) W).mono (R' := fun e w' => e = .returned (.int .i64 1) ∧ Below W.heap.size W w') (fun e w' h => ⟨by rw [h.1, bl_sb, bl_sb, up_cmp hup], by rw [h.2]; exact Below.refl _ _⟩)
     have hor := fun W => (norder_any 1 W).mono (R' := fun e w' => e = .returned (.int .i64 0) ∧ Below W.heap.size W w') (fun e w' h => ⟨h.1, by rw [← h.2]; exact Below.refl _ _⟩)
     obtain ⟨rf, hrf⟩ : ∃ r, fxRef f = r := ⟨_, rfl⟩
     obtain ⟨rp, hrp⟩ : ∃ r, fxRef p = r := ⟨_, rfl⟩
     rw [hrf] at r1 hcm
     rw [hrp] at r2 hcm
     have e6 : IntKind.i64.wrap (j : Int) = (j : Int) := IntWalk.i64_in _ (by omega)
     have e1 : IntKind.i64.wrap ((j : Int) + 1 - 1) = (j : Int) := by rw [show (j : Int) + 1 - 1 = (j : Int) by omega]; exact e6
     have e4 : (j : Int) < (n : Int) := by omega
     clear h0 hrf hrp hup hp hszp hgl5 p0 p1 p2 p3 p4 p5 p6 HR5 HTK
     go_upto_region 14 with fail
     refine wp_region_quiet_bel (by kernel_rfl) (by kernel_rfl) ?_
     repeat (quiet_step (first | (go_at_call 45; first | with_reducible exact Calls.bel_of (r1 _) | with_reducible exact Calls.bel_of (r2 _)) | (go_at_call 38; with_reducible exact Calls.bel_of (hcm _)) | (go_at_call 44; with_reducible exact Calls.bel_of (hor _))))
     refine wpQuiet_nil ?_
     rintro wz ⟨pw, hwz⟩
     have BZ : Hid (Below w5.heap.size w5 wz) := by rw [hwz]; exact pw.h
     clear hwz pw z0 z1 z2 z3 z4 z5 z6 v0 v1 v2 v3 v4 v5 v6 x6 r1 r2 hcm hor e1 e6
     go_wp2
     go_meet
     exact ⟨K5.out.below BZ.out, FxBox.below F5.out BZ.out⟩
   case rest =>
    obtain ⟨hK6, hF6⟩ := hcut
    obtain ⟨y0, y1, y2, y3, y4, y5, y6⟩ := hF6.out.cells
    have yl := lt_heap hF6.out
    obtain ⟨⟨x0, x1, x2, x3, x4, x5, x6, x7, x8⟩, _⟩ := Bx.cells9 hK6.out.x1
    have xl := Bx.lt hK6.out.x1
    obtain ⟨⟨d0, d1, d2⟩, _⟩ := hK6.out.x5.cells3
    obtain ⟨⟨g0, g1, g2⟩, _⟩ := hK6.out.x4.cells3
    have dl := Bx.lt hK6.out.x5
    have gl := Bx.lt hK6.out.x4
    obtain ⟨fi, fr, fk, fa, fo, fe, fg⟩ := f
    simp only at y0 y1 y2 y3 y4 y5 y6
    have pl := fun w => placed_ex c1 c2 c3 b1 b2 b3 _ w HAO.out
    unfold ixV at pl
    simp only at pl
    go_wp2_with fail
    refine (pl _).mono ?_
    rintro e w7 ⟨rfl, hb7⟩
    have K7 := Lib.hid (hK6.out.below hb7)
    have F7 : Hid (FxBox w7 q7 ⟨fi, fr, fk, fa, fo, fe, fg⟩) := (hb7.block q7 (lt_heap hF6.out)).trans hF6.out
    clear hb7 y0 y1 y2 y3 y4 y5 y6 yl x0 x1 x2 x3 x4 x5 x6 x7 x8 xl d0 d1 d2 g0 g1 g2 dl gl pl hK6 hF6
    obtain ⟨y0, y1, y2, y3, y4, y5, y6⟩ := F7.out.cells
    simp only at y0 y1 y2 y3 y4 y5 y6
    have yl := lt_heap F7.out
    obtain ⟨⟨d0, d1, d2⟩, _⟩ := K7.out.x5.cells3
    have dl := Bx.lt K7.out.x5
    have hlk : (l.take k).length = k := List.length_take_of_le (by rw [HN.out]; omega)
    have had := add_any c1 c2 c3 (l.take k).length (rfM (l.take k)) _ _ _ w7 K7.out.jx (by omega) HSZ.out.1 HSZ.out.2 HAO.out.2.2.1 HAO.out.2.2.2.1 HAO.out.2.2.2.2
    unfold ixV at had
    simp only at had
    have HAD := Lib.hid had
    clear had hlk
    go_wp2_with fail
    refine HAD.out.mono ?_
    rintro e w8 ⟨rfl, hj8, hf8⟩
    have K8 := Lib.hid (K7.out.add AP.out.1 AP.out.2.1 AP.out.2.2.1 AP.out.2.2.2 hj8 hf8)
    clear hj8 hf8 HAD y0 y1 y2 y3 y4 y5 y6 yl d0 d1 d2 dl
    go_wp2
    go_roundw
    case rel => exact ⟨k + 1, hlt, by go_num, by unfold Hid; rw [HTK.out]; exact K8.out⟩
    case measure => simp [intOf]; omega
  ·have hkn : k = n := by omega
   have HB := Lib.hid hck.out.be
   go_wp2
   go_loopw [101] (fun iv wr => iv = .int .i64 0 ∧ Hid (Ck w l (.slice A n c) w.heap.size q4 q5 b1 b2 b3 c1 c2 c3 (l.take k) wr)) (fun iv _ => 0)
   case atStart => exact ⟨rfl, hck.out⟩
   case round =>
    obtain ⟨rfl, hck2⟩ := hrel
    clear x0 x1 x2 x3 x4 x5 x6 x7 x8 xl
    obtain ⟨⟨x0, x1, x2, x3, x4, x5, x6, x7, x8⟩, _⟩ := Bx.cells9 hck2.out.x1
    have xl := Bx.lt hck2.out.x1
    go_wp2
    go_loopw [145] (fun iv wr => iv = .int .i64 0 ∧ Hid (Ck w l (.slice A n c) w.heap.size q4 q5 b1 b2 b3 c1 c2 c3 (l.take k) wr)) (fun iv _ => 0)
    case atStart => exact ⟨rfl, hck2.out⟩
    case round =>
     obtain ⟨rfl, hck3⟩ := hrel
     go_wp2
     go_ret
     exact ⟨rfl, hck3.out.be⟩
end Go.Proofs.YtidkhnfhkofmoaaGreatDoor
namespace Go.Proofs.YtidkhnfhkofmoaaGreatDoor
open Go.RowKit
set_option linter.unusedVariables false
set_option linter.unusedSimpArgs false
theorem WrTo.box {g B q : Nat} {v v' : Value} {out out0 : List UInt8} {w w' : World} {cs : Array Value} {T : TypeId} (h : WrTo g B v out w v' w') (h0 : WrR g B v out0 w) (hb : Bx q cs T w) (hT : T ≠ 5) (hq : q ≠ g) : Bx q cs T w' := by
 refine (h.f.block q hb.lt (fun e => ?_)).trans hb
 rcases e with e | e
 ·exact hq e
 ·obtain ⟨cur, e', z, hh, he⟩ := own_block h0.own q e
  unfold Bx at hb
  rw [hb] at hh
  injection hh with hh
  injection hh with _ h6 _
  exact hT (h6.trans he)
theorem WrTo.low {g B B0 : Nat} {v v' : Value} {out out0 : List UInt8} {w w' : World} (h : WrTo g B v out w v' w') (h0 : WrR g B v out0 w) (hg : B0 ≤ g) (hB : B0 ≤ B) (hs : B0 ≤ w.heap.size) : Below B0 w w' :=
 h.f.below hs (fun k hk => by
  rcases hk with e | e
  ·omega
  ·have := (h0.own.lt k e).1; omega)
theorem WrR.new (w : World) (B : Nat) (hB : B ≤ w.heap.size) : WrR w.heap.size B (.slice none 0 0) [] (w.alloc (.cells #[.slice none 0 0] 66)) :=
 ⟨Bx.last _ _ _, World.ownsRow_nil _ _ _ _, by simp; omega⟩
theorem fxGood_nil : FxGood [] := by
 refine ⟨?_, ?_, ?_, ?_, ?_⟩
 ·intro f hf; cases hf
 ·intro f hf; cases hf
 ·intro f hf; cases hf
 ·intro k hk; exact absurd hk (by simp)
 ·simp
theorem WrR.bs {g B : Nat} {v : Value} {out : List UInt8} {w : World} (h : WrR g B v out w) (h0 : 0 < out.length) : ∃ b o c, v = .slice (some ⟨b, o, none⟩) out.length c ∧ out.length ≤ c ∧ c ≤ maxLen ∧ BsA w b o out := by
 obtain ⟨_, A, c, rfl, hc, hm, hx⟩ := Rd.of_own h.own
 obtain ⟨b, o, rfl, hb, hcell⟩ := hx h0
 refine ⟨b, o, c, rfl, hc, hm, hb, fun j u hu => hcell j (u8c u) ?_⟩
 rw [List.getElem?_map, hu]; rfl
def exO1 : List UInt8 := txtB [⟨#[87, 69, 83, 84]⟩] ++ numB [2612, 9826, 9854, 16560000, -43200000]
structure EnS (w0 : World) (qd gA : Nat) (db : Array Value) (vA : Value) (out : List UInt8) (w : World) : Prop where
 x : Bx qd db 30 w
 a : WrR gA w0.heap.size vA out w
 be : Below w0.heap.size w0 w
 ne : qd ≠ gA
 lo : w0.heap.size ≤ gA
theorem EnS.below {w0 w w' : World} {qd gA : Nat} {db : Array Value} {vA : Value} {out : List UInt8} (h : EnS w0 qd gA db vA out w) (hb : Below w.heap.size w w') : EnS w0 qd gA db vA out w' :=
 ⟨h.x.via hb, h.a.below hb, Below.then_ h.be hb, h.ne, h.lo⟩
structure EnW (w0 : World) (qd gA gW : Nat) (db : Array Value) (vA : Value) (out : List UInt8) (vW : Value) (oW : List UInt8) (w : World) : Prop where
 s : EnS w0 qd gA db vA out w
 w : WrR gW w0.heap.size vW oW w
 nA : gA ≠ gW
 nq : qd ≠ gW
 lo : w0.heap.size ≤ gW
 h1 : vW.ownBlock ≠ some gA
 hd : ∀ b, vA.ownBlock = some b → vW.ownBlock ≠ some b ∧ b ≠ gW
theorem EnW.call {w0 w w' : World} {qd gA gW : Nat} {db : Array Value} {vA vW vW' : Value} {out oW oW' : List UInt8} (h : EnW w0 qd gA gW db vA out vW oW w) (k : WrTo gW w0.heap.size vW oW' w vW' w') : EnW w0 qd gA gW db vA out vW' oW' w' := by
 have hs := sep_to h.s.a h.h1 h.hd k.o
 exact ⟨⟨k.box h.w h.s.x (by decide) h.nq, h.s.a.beside k h.nA h.h1 h.hd, h.s.be.trans (k.low h.w h.lo (Nat.le_refl _) h.s.be.size), h.s.ne, h.s.lo⟩, k.r, h.nA, h.nq, h.lo, hs.1, hs.2⟩
theorem EnS.new {w0 w : World} {qd gA : Nat} {db : Array Value} {vA : Value} {out : List UInt8} (h : EnS w0 qd gA db vA out w) : EnW w0 qd gA w.heap.size db vA out (.slice none 0 0) [] (w.alloc (.cells #[.slice none 0 0] 66)) := by
 have hl := h.a.bx.lt
 have hq := h.x.lt
 refine ⟨h.below ((Below.refl _ _).alloc (Nat.le_refl _) _), WrR.new w _ h.be.size, by omega, by omega, h.be.size, (by simp [Value.ownBlock]), fun b hb => ⟨by simp [Value.ownBlock], ?_⟩⟩
 have := (h.a.own.lt b hb).2
 omega
theorem EnW.close {w0 w w' : World} {qd gA gW : Nat} {db : Array Value} {vA vA' vW : Value} {out out' oW : List UInt8} (h : EnW w0 qd gA gW db vA out vW oW w) (k : WrTo gA w0.heap.size vA out' w vA' w') : EnS w0 qd gA db vA' out' w' :=
 ⟨k.box h.s.a h.s.x (by decide) h.s.ne, k.r, h.s.be.trans (k.low h.s.a h.s.lo (Nat.le_refl _) h.s.be.size), h.s.ne, h.s.lo⟩
theorem EnW.sec {w0 w : World} {qd gA gW : Nat} {db : Array Value} {vA vW : Value} {out oW : List UInt8} (tag : UInt8) (h : EnW w0 qd gA gW db vA out vW oW w) (h0 : 0 < oW.length) (hN : oW.length + out.length ≤ 1000000) :
  Calls Tryz.prog 22 #[.pointer (some ⟨gW, 0, none⟩), .pointer (some ⟨gA, 0, none⟩), .int .u8 (tag.toNat : Int)] w fun e w' => e = .returned (.tuple #[]) ∧ ∃ vA', EnS w0 qd gA db vA' (out ++ secB tag oW) w' :=
 (wsection_any tag w h.w h.s.a (fun e => h.nA e.symm) (fun e => (h.hd gW e).2 rfl) (fun b hb => ⟨fun e => (h.hd b e).1 hb, fun e => h.h1 (e ▸ hb)⟩) h0 hN).mono (fun e w' hp => by
  obtain ⟨he, v', hk⟩ := hp
  exact ⟨he, v', h.close hk⟩)
set_option maxRecDepth 100000 in
set_option maxHeartbeats 16000000 in
theorem imEncode_ex (v : Value) (w : World) (h : FxsR w v []) :
  Calls Tryz.prog 8 #[.agg (dbH v)] w fun e w' => ∃ vp, e = .returned (.tuple #[vp, .int .i64 0]) ∧ BsNew (sealL exB) w vp w' := by
 obtain ⟨A0, c0, rfl, -, -⟩ := h.form
 simp only [List.length_nil] at h ⊢
 obtain ⟨w1, hw1⟩ : ∃ W, w.alloc (.cells (dbH (.slice A0 0 c0)) 30) = W := ⟨_, rfl⟩
 have hb1 : Below w.heap.size w w1 := by rw [← hw1]; exact (Below.refl _ _).alloc (Nat.le_refl _) _
 obtain ⟨qd, hqd⟩ : ∃ q, w.heap.size = q := ⟨_, rfl⟩
 have X1 : Hid (Bx qd (dbH (.slice A0 0 c0)) 30 w1) := by rw [← hw1, ← hqd]; exact Bx.last w _ _
 have hck := ncheck_ex (.slice A0 0 c0) [] w1 (h.below hb1) fxGood_nil
 have HCK := Lib.hid hck
 have HB1 := Lib.hid hb1
 obtain ⟨⟨x0, x1, x2, x3, x4, x5, x6, x7, x8⟩, _⟩ := Bx.cells9 X1.out
 have xl := Bx.lt X1.out
 have HQD := Lib.hid hqd
 unfold dbH at hw1
 have HW1 := Lib.hid hw1
 unfold dbH
 unfold dbH at HCK
 clear h hw1 hqd hck hb1
 go_enter Tryz.func8, Tryz.ntmps8
 go_upto_region 1 with fail
 rw [HW1.out, HQD.out]
 clear HW1
 go_wp2_with fail
 refine HCK.out.mono ?_
 rintro e w2 ⟨rfl, hb2⟩
 have X2 := Lib.hid (X1.out.via hb2)
 have B2 := Lib.hid (Below.then_ HB1.out hb2)
 clear HCK x0 x1 x2 x3 x4 x5 x6 x7 x8 xl X1 HB1 hb2
 have kc := Lib.run_convert_bytes_const (P := Tryz.prog) w2 33 5 #[.int .u8 70, .int .u8 68, .int .u8 66, .int .u8 49] 4 4 Tryz.underlying33 Tryz.underlying5
 obtain ⟨n2, hn2⟩ : ∃ x, w2.heap.size = x := ⟨_, rfl⟩
 obtain ⟨w3, hw3⟩ : ∃ W, (w2.alloc (.cells #[.int .u8 70, .int .u8 68, .int .u8 66, .int .u8 49] 5 (4, 5))).alloc (.cells #[.slice (some ⟨w2.heap.size, 0, none⟩) 4 4] 66) = W := ⟨_, rfl⟩
 have hb3 : Below w2.heap.size w2 w3 := by rw [← hw3]; exact ((Below.refl _ _).alloc (Nat.le_refl _) _).alloc (by simp) _
 have F3 : Hid (WrF (n2 + 1) (.slice (some ⟨n2, 0, none⟩) 4 4) magicL w3) := by
  have hx : Bx (n2 + 1) #[.slice (some ⟨n2, 0, none⟩) 4 4] 66 w3 := by
   have h1 := Bx.last (w2.alloc (.cells #[.int .u8 70, .int .u8 68, .int .u8 66, .int .u8 49] 5 (4, 5))) (#[.slice (some ⟨w2.heap.size, 0, none⟩) 4 4] : Array Value) 66
   rw [hw3, World.size_alloc, hn2] at h1
   exact h1
  have h4 : w3.heap[n2]? = some (.cells #[.int .u8 70, .int .u8 68, .int .u8 66, .int .u8 49] 5 (4, 5)) := by
   have h5 : (w2.alloc (.cells #[.int .u8 70, .int .u8 68, .int .u8 66, .int .u8 49] 5 (4, 5))).heap[w2.heap.size]? = _ := heap_alloc_new w2 _
   have h6 := ((Below.refl _ (w2.alloc (.cells #[.int .u8 70, .int .u8 68, .int .u8 66, .int .u8 49] 5 (4, 5)))).alloc (Nat.le_refl _) (.cells #[.slice (some ⟨w2.heap.size, 0, none⟩) 4 4] 66)).block w2.heap.size (by simp)
   rw [hw3] at h6
   rw [← hn2]
   exact h6.trans h5
  refine ⟨hx, n2, rfl, heap_lt h4, fun j b hb => ?_⟩
  have h7 : w3.cell? ⟨n2, j, none⟩ = (#[.int .u8 70, .int .u8 68, .int .u8 66, .int .u8 49] : Array Value)[j]? := by simp [World.cell?, h4]
  rw [Nat.zero_add, h7]
  match j, hb with
  | 0, hb => simp [magicL] at hb; subst hb; rfl
  | 1, hb => simp [magicL] at hb; subst hb; rfl
  | 2, hb => simp [magicL] at hb; subst hb; rfl
  | 3, hb => simp [magicL] at hb; subst hb; rfl
  | j + 4, hb => simp [magicL] at hb
 have X3 := Lib.hid (X2.out.via hb3)
 have B3 := Lib.hid (Below.then_ B2.out hb3)
 have hs3 : w3.heap.size = n2 + 1 + 1 := by rw [← hw3]; simp only [World.size_alloc]; omega
 have hqn : qd < n2 := by rw [← hn2]; exact X2.out.lt
 have HW3 := Lib.hid hw3
 have HN2 := Lib.hid hn2
 have HS3 := Lib.hid hs3
 clear hb3 hs3 hw3 hn2 X2 B2
 go_upto_region 5 with fail
 rw [HW3.out, HN2.out]
 clear HW3 HN2 kc
 obtain ⟨⟨x0, x1, x2, x3, x4, x5, x6, x7, x8⟩, _⟩ := Bx.cells9 X3.out
 have xl := Bx.lt X3.out
 obtain ⟨gA, hgA⟩ : ∃ x, n2 + 1 = x := ⟨_, rfl⟩
 rw [hgA] at F3 HS3 ⊢
 have hqA : qd < gA := by omega
 have hnA : n2 < gA := by omega
 clear hgA
 obtain ⟨w4, hw4⟩ : ∃ W, w3.alloc (.cells #[.string ⟨#[87, 69, 83, 84]⟩, .int .i64 2612, .int .i64 9826, .int .i64 9854, .int .i64 16560000, .int .i64 (-43200000)] 25) = W := ⟨_, rfl⟩
 have hb4 : Below w3.heap.size w3 w4 := by rw [← hw4]; exact (Below.refl _ _).alloc (Nat.le_refl _) _
 obtain ⟨qh, hqh⟩ : ∃ x, w3.heap.size = x := ⟨_, rfl⟩
 have Y4 : Hid (Bx qh #[.string ⟨#[87, 69, 83, 84]⟩, .int .i64 2612, .int .i64 9826, .int .i64 9854, .int .i64 16560000, .int .i64 (-43200000)] 25 w4) := by rw [← hw4, ← hqh]; exact Bx.last w3 _ _
 have F4 := Lib.hid (F3.out.below hb4)
 have X4 := Lib.hid (X3.out.via hb4)
 have B4 := Lib.hid (Below.then_ B3.out hb4)
 have HW4 := Lib.hid hw4
 have HQH := Lib.hid hqh
 have hqhA : gA < qh := by rw [← hqh, HS3.out]; omega
 clear hb4 hw4 hqh F3 X3 B3 HS3
 go_upto_region 6 with fail
 rw [HW4.out, HQH.out]
 clear HW4 HQH x0 x1 x2 x3 x4 x5 x6 x7 x8 xl
 obtain ⟨w5, hw5⟩ : ∃ W, w4.alloc (.cells #[.slice none 0 0] 66) = W := ⟨_, rfl⟩
 have hb5 : Below w4.heap.size w4 w5 := by rw [← hw5]; exact (Below.refl _ _).alloc (Nat.le_refl _) _
 obtain ⟨gW, hgW⟩ : ∃ x, w4.heap.size = x := ⟨_, rfl⟩
 have R5 : Hid (Bx gW #[.slice none 0 0] 66 w5) := by rw [← hw5, ← hgW]; exact Bx.last w4 _ _
 have hs5 : w5.heap.size = gW + 1 := by rw [← hw5, World.size_alloc, hgW]
 have F5 := Lib.hid (F4.out.below hb5)
 have X5 := Lib.hid (X4.out.via hb5)
 have B5 := Lib.hid (Below.then_ B4.out hb5)
 have Y5 := Lib.hid (Y4.out.via hb5)
 have hqhW : qh < gW := by rw [← hgW]; exact Y4.out.lt
 have HW5 := Lib.hid hw5
 have HGW := Lib.hid hgW
 have HS5 := Lib.hid hs5
 clear hb5 hw5 hgW hs5 F4 X4 B4 Y4
 go_upto_region 7 with fail
 rw [HW5.out, HGW.out]
 clear HW5 HGW
 have y0 := Y5.out.cell 0 (u := .string ⟨#[87, 69, 83, 84]⟩) rfl
 have yl := Y5.out.lt
 obtain ⟨w6, hw6⟩ : ∃ W, w5.alloc (.cells #[.string ⟨#[87, 69, 83, 84]⟩] 9) = W := ⟨_, rfl⟩
 have hb6 : Below w5.heap.size w5 w6 := by rw [← hw6]; exact (Below.refl _ _).alloc (Nat.le_refl _) _
 obtain ⟨ga, hga⟩ : ∃ x, w5.heap.size = x := ⟨_, rfl⟩
 have Z6 : Bx ga #[.string ⟨#[87, 69, 83, 84]⟩] 9 w6 := by rw [← hw6, ← hga]; exact Bx.last w5 _ _
 have F6 := Lib.hid (F5.out.below hb6)
 have X6 := Lib.hid (X5.out.via hb6)
 have B6 := Lib.hid (Below.then_ B5.out hb6)
 have Y6 := Lib.hid (Y5.out.via hb6)
 have hs6 : w6.heap.size = ga + 1 := by rw [← hw6, World.size_alloc, hga]
 have hWa : gW < ga := by rw [← hga, HS5.out]; omega
 have W6 : WrR gW w6.heap.size (.slice none 0 0) [] w6 := ⟨R5.out.via hb6, World.ownsRow_nil _ _ _ _, Nat.le_refl _⟩
 have htx := wtext_any ga 0 1 [⟨#[87, 69, 83, 84]⟩] w6 W6 (fun j hj => by
  obtain rfl : j = 0 := by simp at hj; omega
  exact Z6.cell 0 rfl) (by omega) (cur := #[.string ⟨#[87, 69, 83, 84]⟩]) (ty := 9) (z := (0, 0)) Z6 (by decide) (by decide +kernel)
 have HTX := Lib.hid htx
 have HW6 := Lib.hid hw6
 have HGA := Lib.hid hga
 have HS6 := Lib.hid hs6
 clear hb6 hw6 hga hs6 htx W6 Z6 F5 X5 B5 Y5 R5 HS5
 go_wp2_with fail
 rw [HW6.out, HGA.out]
 clear HW6 HGA y0 yl
 refine HTX.out.mono ?_
 rintro e w7 ⟨rfl, vw, hr7, hf7⟩
 have gl6 : gA < w6.heap.size := F6.out.bx.lt
 have hA0 : gA ≠ gW := by omega
 have hn6 : ∀ k, k < w6.heap.size → k ≠ gW → ¬ (k = gW ∨ (w6.heap.size ≤ k ∧ k ≠ ga)) := fun k h1 h2 h3 => by rcases h3 with h3 | h3; exact h2 h3; omega
 have F7 : Hid (WrF gA (.slice (some ⟨n2, 0, none⟩) 4 4) magicL w7) := by
  obtain ⟨hx, b, hv, hbs⟩ := F6.out
  injection hv with e1 e2 e3
  injection e1 with e1
  injection e1 with e1
  subst e1
  exact ⟨(hf7.block gA hx.lt (hn6 _ hx.lt hA0)).trans hx, n2, rfl, hbs.frm hf7 (hn6 _ hbs.1 (by omega))⟩
 have X7 : Hid (Bx qd _ 30 w7) := (hf7.block qd X6.out.lt (hn6 _ X6.out.lt (by omega))).trans X6.out
 have Y7 : Hid (Bx qh _ 25 w7) := (hf7.block qh Y6.out.lt (hn6 _ Y6.out.lt (by omega))).trans Y6.out
 have B7 : Hid (Below w.heap.size w w7) := B6.out.trans (hf7.below B6.out.size (fun k hk => by
  have h1 := B6.out.size
  have h2 := HQD.out
  rcases hk with hk | hk
  ·omega
  ·omega))
 have R7 := Lib.hid hr7
 have HF7 := Lib.hid hf7.size
 clear HTX hr7 hf7 F6 X6 Y6 B6 hn6
 obtain ⟨B, hB⟩ : ∃ x, w6.heap.size = x := ⟨_, rfl⟩
 rw [hB] at R7 gl6 HS6 HF7
 clear hB
 have y1 := Y7.out.cell 1 (u := .int .i64 2612) rfl
 have y2 := Y7.out.cell 2 (u := .int .i64 9826) rfl
 have y3 := Y7.out.cell 3 (u := .int .i64 9854) rfl
 have y4 := Y7.out.cell 4 (u := .int .i64 16560000) rfl
 have y5 := Y7.out.cell 5 (u := .int .i64 (-43200000)) rfl
 have yl := Y7.out.lt
 obtain ⟨w8, hw8⟩ : ∃ W, w7.alloc (.cells #[.int .i64 2612, .int .i64 9826, .int .i64 9854, .int .i64 16560000, .int .i64 (-43200000)] 2) = W := ⟨_, rfl⟩
 have hb8 : Below w7.heap.size w7 w8 := by rw [← hw8]; exact (Below.refl _ _).alloc (Nat.le_refl _) _
 obtain ⟨gi, hgi⟩ : ∃ x, w7.heap.size = x := ⟨_, rfl⟩
 have Z8 : Bx gi #[.int .i64 2612, .int .i64 9826, .int .i64 9854, .int .i64 16560000, .int .i64 (-43200000)] 2 w8 := by rw [← hw8, ← hgi]; exact Bx.last w7 _ _
 have hnu := wnumbers_any gi 0 5 [2612, 9826, 9854, 16560000, -43200000] w8 (R7.out.below hb8) Z8.lt (fun j hj => by
  have h5 : j < 5 := hj
  rw [Nat.zero_add]
  match j, h5 with
  | 0, _ => exact Z8.cell 0 rfl
  | 1, _ => exact Z8.cell 1 rfl
  | 2, _ => exact Z8.cell 2 rfl
  | 3, _ => exact Z8.cell 3 rfl
  | 4, _ => exact Z8.cell 4 rfl) (by have := R7.out.bx.lt; omega) (fun e => by have := (R7.out.own.lt gi e).2; omega) (by decide +kernel) (by decide)
 have HNU := Lib.hid hnu
 have F8 := Lib.hid (F7.out.below hb8)
 have X8 := Lib.hid (X7.out.via hb8)
 have B8 := Lib.hid (Below.then_ B7.out hb8)
 have R8 := Lib.hid (R7.out.below hb8)
 have HW8 := Lib.hid hw8
 have HGI := Lib.hid hgi
 clear hb8 hw8 hgi hnu Z8 F7 X7 B7 R7
 go_wp2_with fail
 rw [HW8.out, HGI.out]
 clear HW8 HGI y1 y2 y3 y4 y5 yl Y7
 refine HNU.out.mono ?_
 rintro e w9 ⟨rfl, vx, ht9⟩
 have hV : ∀ b, b < B → vw.ownBlock ≠ some b := fun b hb e => by have := (R8.out.own.lt b e).1; omega
 have F9 : Hid (WrF gA (.slice (some ⟨n2, 0, none⟩) 4 4) magicL w9) := by
  obtain ⟨hx, b, hv, hbs⟩ := F8.out
  injection hv with e1 e2 e3
  injection e1 with e1
  injection e1 with e1
  subst e1
  refine ⟨(ht9.f.block gA hx.lt (fun e => ?_)).trans hx, n2, rfl, hbs.frm ht9.f (fun e => ?_)⟩
  ·rcases e with e | e
   ·exact hA0 e
   ·exact hV gA gl6 e
  ·rcases e with e | e
   ·omega
   ·exact hV n2 (by omega) e
 have X9 : Hid (Bx qd _ 30 w9) := ht9.box R8.out X8.out (by decide) (by omega)
 have hw6B : w.heap.size ≤ B := by have h2 := HQD.out; omega
 have hgWl : w.heap.size ≤ gW := by have h2 := HQD.out; omega
 have B9 : Hid (Below w.heap.size w w9) := B8.out.trans (ht9.low R8.out hgWl hw6B B8.out.size)
 have R9 : Hid (WrR gW B vx exO1 w9) := ht9.r
 clear HNU ht9 F8 X8 B8 R8 hV
 have hvx : ∀ b, vx.ownBlock = some b → B ≤ b := fun b hb => (R9.out.own.lt b hb).1
 have hse := wsectionF_any (g1 := gW) (g2 := gA) (B2 := w.heap.size) 1 w9 R9.out F9.out (fun e => hA0 e.symm) (by intro e; simp [Value.ownBlock] at e; omega) (fun b hb => by
  have := hvx b hb
  exact ⟨by intro e; simp [Value.ownBlock] at e; omega, by omega⟩) (by decide +kernel) (by decide +kernel) B9.out.size
 have HSE := Lib.hid hse
 clear hse
 go_wp2_with fail
 refine HSE.out.mono ?_
 rintro e w10 ⟨rfl, vA, ht10⟩
 have hgAl : w.heap.size ≤ gA := by have h2 := HQD.out; omega
 have S10 : Hid (EnS w qd gA (dbH (.slice A0 0 c0)) vA (magicL ++ secB 1 exO1) w10) := by
  refine ⟨(ht10.f.block qd X9.out.lt (fun e => ?_)).trans X9.out, ht10.r, B9.out.trans (ht10.f.below B9.out.size (fun k hk => ?_)), by omega, hgAl⟩
  ·rcases e with e | e
   ·omega
   ·simp [Value.ownBlock] at e; omega
  ·rcases hk with e | e
   ·omega
   ·simp [Value.ownBlock] at e
    have h2 := HQD.out
    omega
 clear HSE ht10 F9 X9 B9 R9 hvx hA0 hgWl hw6B gl6 hqhA hqhW hWa hqA hnA hqn HS6 HF7
 obtain ⟨w11, hw11⟩ : ∃ W, w10.alloc (.cells #[.slice none 0 0] 66) = W := ⟨_, rfl⟩
 obtain ⟨g11, hg11⟩ : ∃ x, w10.heap.size = x := ⟨_, rfl⟩
 have S11 := S10.out.new
 rw [hw11, hg11] at S11
 replace S11 := Lib.hid S11
 have HW := Lib.hid hw11
 have HG := Lib.hid hg11
 clear hw11 hg11 S10
 go_upto_region 11 with fail
 rw [HW.out, HG.out]
 clear HW HG
 have xc := S11.out.s.x.cell 6 (u := .slice A0 0 c0) rfl
 have xl := S11.out.s.x.lt
 have hlo := Lib.hid (wlow_any 0 2 (by omega) w11 S11.out.w (by simp))
 go_wp2_with fail
 refine hlo.out.mono ?_
 rintro e w12 ⟨rfl, v12, ht⟩
 have S12 := Lib.hid (S11.out.call ht)
 clear hlo ht xc xl S11
 have xc := S12.out.s.x.cell 6 (u := .slice A0 0 c0) rfl
 have xl := S12.out.s.x.lt
 go_wp2
 go_loopw [66] (fun iv wr => iv = .int .i64 0 ∧ wr = w12) (fun _ _ => 0)
 case atStart => exact ⟨rfl, rfl⟩
 case round =>
 obtain ⟨rfl, rfl⟩ := hrel
 have hse := Lib.hid (S12.out.sec 2 (by decide +kernel) (by decide +kernel))
 clear xc xl S12
 go_wp2_with fail
 refine hse.out.mono ?_
 rintro e w13 ⟨rfl, vA13, hs⟩
 have S13 := Lib.hid hs
 clear hse hs
 obtain ⟨w14, hw14⟩ : ∃ W, w13.alloc (.cells #[.slice none 0 0] 66) = W := ⟨_, rfl⟩
 obtain ⟨g14, hg14⟩ : ∃ x, w13.heap.size = x := ⟨_, rfl⟩
 have S14 := S13.out.new
 rw [hw14, hg14] at S14
 replace S14 := Lib.hid S14
 have HW := Lib.hid hw14
 have HG := Lib.hid hg14
 clear hw14 hg14 S13
 go_upto_region 21 with fail
 rw [HW.out, HG.out]
 clear HW HG
 have xc := S14.out.s.x.cell 7 (u := .slice none 0 0) rfl
 have xl := S14.out.s.x.lt
 have hlo := Lib.hid (wlow_any 0 2 (by omega) w14 S14.out.w (by simp))
 go_wp2_with fail
 refine hlo.out.mono ?_
 rintro e w15 ⟨rfl, v15, ht⟩
 have S15 := Lib.hid (S14.out.call ht)
 clear hlo ht xc xl S14
 have xc := S15.out.s.x.cell 7 (u := .slice none 0 0) rfl
 have xl := S15.out.s.x.lt
 go_wp2
 go_loopw [109] (fun iv wr => iv = .int .i64 0 ∧ wr = w15) (fun _ _ => 0)
 case atStart => exact ⟨rfl, rfl⟩
 case round =>
 obtain ⟨rfl, rfl⟩ := hrel
 have hse := Lib.hid (S15.out.sec 3 (by decide +kernel) (by decide +kernel))
 clear xc xl S15
 go_wp2_with fail
 refine hse.out.mono ?_
 rintro e w16 ⟨rfl, vA16, hs⟩
 have S16 := Lib.hid hs
 clear hse hs
 obtain ⟨w17, hw17⟩ : ∃ W, w16.alloc (.cells #[.slice none 0 0] 66) = W := ⟨_, rfl⟩
 obtain ⟨g17, hg17⟩ : ∃ x, w16.heap.size = x := ⟨_, rfl⟩
 have S17 := S16.out.new
 rw [hw17, hg17] at S17
 replace S17 := Lib.hid S17
 have HW := Lib.hid hw17
 have HG := Lib.hid hg17
 clear hw17 hg17 S16
 go_upto_region 37 with fail
 rw [HW.out, HG.out]
 clear HW HG
 have xc := S17.out.s.x.cell 8 (u := .slice none 0 0) rfl
 have xl := S17.out.s.x.lt
 have hlo := Lib.hid (wlow_any 0 2 (by omega) w17 S17.out.w (by simp))
 go_wp2_with fail
 refine hlo.out.mono ?_
 rintro e w18 ⟨rfl, v18, ht⟩
 have S18 := Lib.hid (S17.out.call ht)
 clear hlo ht xc xl S17
 have xc := S18.out.s.x.cell 8 (u := .slice none 0 0) rfl
 have xl := S18.out.s.x.lt
 go_wp2
 go_loopw [164] (fun iv wr => iv = .int .i64 0 ∧ wr = w18) (fun _ _ => 0)
 case atStart => exact ⟨rfl, rfl⟩
 case round =>
 obtain ⟨rfl, rfl⟩ := hrel
 have hse := Lib.hid (S18.out.sec 4 (by decide +kernel) (by decide +kernel))
 clear xc xl S18
 go_wp2_with fail
 refine hse.out.mono ?_
 rintro e w19 ⟨rfl, vA19, hs⟩
 have S19 := Lib.hid hs
 clear hse hs
 have hlen : (((((magicL ++ secB 1 exO1) ++ secB 2 ([] ++ lowB 0 2)) ++ secB 3 ([] ++ lowB 0 2)) ++ secB 4 ([] ++ lowB 0 2))) = exB := by decide +kernel
 rw [hlen] at S19
 obtain ⟨b, o, c, hv, hc, hm, hbs⟩ := S19.out.a.bs (by rw [exB_len]; omega)
 have hse := Lib.hid (cseal_any b o c exB w19 hbs hc hm (by rw [exB_len]; omega))
 have B19 := Lib.hid S19.out.be
 have kA := S19.out.a.bx.cell 0 (u := vA19) rfl
 have kAl := S19.out.a.bx.lt
 subst hv
 have hL := exB_len
 obtain ⟨N, hN⟩ : ∃ N, exB.length = N := ⟨_, rfl⟩
 rw [hN] at kA hse
 clear S19 hlen hbs hc hm hL hN
 go_wp2_with fail
 refine hse.out.mono ?_
 rintro e wz ⟨vp, rfl, hn⟩
 have HN : Hid (BsNew (sealL exB) w vp wz) := by
  obtain ⟨gb, cc, h1, h2, h3, h4, h5, h6⟩ := hn
  exact ⟨gb, cc, h1, h2, h3, Nat.le_trans B19.out.size h4, h5, Below.then_ B19.out h6⟩
 obtain ⟨gb, cc, hvp, -⟩ := hn
 subst hvp
 clear hse B19 kA kAl
 go_wp2
 go_ret2
 exact ⟨_, rfl, HN.out⟩
end Go.Proofs.YtidkhnfhkofmoaaGreatDoor
