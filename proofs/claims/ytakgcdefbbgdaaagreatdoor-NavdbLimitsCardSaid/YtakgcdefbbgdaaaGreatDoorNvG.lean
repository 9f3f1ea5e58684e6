/-
  Contract: the first error of a database of the examples' header and of fixes (there is none).
-/
import Derived.Test.YtakgcdefbbgdaaaGreatDoorNvK
namespace Go.Proofs.YtakgcdefbbgdaaaGreatDoor
open Go.RowKit Go.Lib Go.Sort
set_option linter.unusedVariables false
set_option linter.unusedSimpArgs false
/-- a database's fixes: valid, at the origin, ascending -/
structure FxGood (l : List Fx) : Prop where
  ck : ∀ f ∈ l, fixE f = 0
  at_ : ∀ f ∈ l, AtO f
  sz : SzL l
  up : ∀ k (h : k + 1 < l.length), fxRef (l[k]'(by omega)) < fxRef l[k + 1]
  le : l.length ≤ 400
/-- the state of Check's loop -/
structure Ck (w : World) (l : List Fx) (v : Value) (q1 q4 q5 b1 b2 b3 c1 c2 c3 : Nat) (bf : List Fx) (wr : World) : Prop where
  ix : IxR b1 b2 b3 l.length (rfM l) (fun _ => none) (fun _ => none) wr
  jx : IxR c1 c2 c3 bf.length (rfM bf) (fun _ => none) (fun _ => none) wr
  x1 : Bx q1 (dbH v) 31 wr
  x4 : Bx q4 #[.map (some b1), .map (some b2), .map (some b3)] 89 wr
  x5 : Bx q5 #[.map (some c1), .map (some c2), .map (some c3)] 89 wr
  be : Below w.heap.size w wr
theorem Ck.below {w : World} {l : List Fx} {v : Value} {q1 q4 q5 b1 b2 b3 c1 c2 c3 : Nat} {bf : List Fx} {wr w' : World} (h : Ck w l v q1 q4 q5 b1 b2 b3 c1 c2 c3 bf wr) (hb : Below wr.heap.size wr w') : Ck w l v q1 q4 q5 b1 b2 b3 c1 c2 c3 bf w' :=
  ⟨h.ix.below hb, h.jx.below hb, h.x1.via hb, h.x4.via hb, h.x5.via hb, Below.then_ h.be hb⟩
theorem Ck.add {w : World} {l : List Fx} {v : Value} {q1 q4 q5 b1 b2 b3 c1 c2 c3 : Nat} {bf : List Fx} {wr w' : World} {f : Fx} (h : Ck w l v q1 q4 q5 b1 b2 b3 c1 c2 c3 bf wr) (h1 : b1 ≠ c1) (h2 : b2 ≠ c1) (h3 : b3 ≠ c1) (hw : w.heap.size ≤ c1)
    (hj : IxR c1 c2 c3 (bf.length + 1) (setK (rfM bf) (fxRef f) (some true)) (fun _ => none) (fun _ => none) w') (hf : Frm (· = c1) wr w') : Ck w l v q1 q4 q5 b1 b2 b3 c1 c2 c3 (bf ++ [f]) w' := by
  refine ⟨h.ix.frm hf h1 h2 h3, ?_, (hf.block q1 h.x1.lt (map_nocell h.jx.r h.x1)).trans h.x1, (hf.block q4 h.x4.lt (map_nocell h.jx.r h.x4)).trans h.x4, (hf.block q5 h.x5.lt (map_nocell h.jx.r h.x5)).trans h.x5, h.be.trans (hf.below h.be.size (fun k hk => by omega))⟩
  rw [rfM_snoc, List.length_append]; exact hj
theorem up_cmp {a b : List UInt8} (h : b < a) : cmpS a b = 1 := by
  unfold cmpS
  rw [if_neg (fun h2 => absurd (List.lt_trans h h2) (List.lt_irrefl _)), if_pos h]
set_option maxRecDepth 100000 in
set_option maxHeartbeats 16000000 in
theorem ncheck_ex (v : Value) (l : List Fx) (w : World) (h : FxsR w v l) (hg : FxGood l) :
    Calls Tryz.prog 10 #[.agg (dbH v)] w fun e w' => e = .returned (.int .i64 0) ∧ Below w.heap.size w w' := by
  obtain ⟨A, c, rfl, hc, hm⟩ := h.form
  obtain ⟨n, hn⟩ : ∃ n, l.length = n := ⟨_, rfl⟩
  have HN := Lib.hid hn
  have hn4 : n ≤ 400 := by rw [← hn]; exact hg.le
  rw [hn] at hc
  have H := Lib.hid h
  rw [hn] at H ⊢
  have HG := Lib.hid hg
  have hh := header_ex
  unfold hdr26 at hh
  clear h hg hn
  obtain ⟨w0, hw0⟩ : ∃ W, w.alloc (.cells (dbH (.slice A n c)) 31) = W := ⟨_, rfl⟩
  have B0 : Hid (Below w.heap.size w w0) := by rw [← hw0]; exact (Below.refl _ _).alloc (Nat.le_refl _) _
  have X0 : Hid (Bx w.heap.size (dbH (.slice A n c)) 31 w0) := by rw [← hw0]; exact Bx.last w _ _
  obtain ⟨⟨x0, x1, x2, x3, x4, x5, x6, x7, x8⟩, _⟩ := Bx.cells9 X0.out
  have xl := Bx.lt X0.out
  have hmm := @run_makeMap Tryz.prog
  unfold dbH at hw0
  have HW0 := Lib.hid hw0
  have hn4i : ¬ (400 : Int) < (n : Int) := by omega
  clear hw0
  unfold dbH
  go_enter Tryz.func10, Tryz.ntmps10
  go_wp2_with fail
  rw [HW0.out]
  clear HW0
  refine (hh _).mono ?_
  rintro e w1 ⟨rfl, hb1⟩
  have B1 := Lib.hid (Below.then_ B0.out hb1)
  have X1 := Lib.hid (X0.out.via hb1)
  obtain ⟨⟨x0, x1, x2, x3, x4, x5, x6, x7, x8⟩, _⟩ := Bx.cells9 X1.out
  have xl := Bx.lt X1.out
  clear hb1 hh B0 X0
  have HKD : Hid (∀ f ∈ l, f.kd ≠ 5 ∧ f.kd ≠ 6 ∧ f.kd < 256) := fun f hf => (HG.out.at_ f hf).2.2
  have H1 := Lib.hid (H.out.below B1.out)
  go_wp2_with fail
  refine (indexed_any _ l w1 H1.out HG.out.sz HKD.out (by have := HG.out.le; omega)).mono ?_
  rintro e w2 ⟨b1, b2, b3, rfl, hix, hb2, q1, q2, q3⟩
  have HIX := Lib.hid hix
  have B2 := Lib.hid (Below.then_ B1.out hb2)
  have X2 := Lib.hid (X1.out.via hb2)
  have hw2 := hb2.size
  clear hix hb2 x0 x1 x2 x3 x4 x5 x6 x7 x8 xl
  go_wp2_with fail
  refine (indexed_any (.slice none 0 0) [] w2 (Rd.nil w2 7) (fun f h => by cases h) (fun f h => by cases h) (by decide)).mono ?_
  rintro e w3 ⟨c1, c2, c3, rfl, hjx, hb3, r1, r2, r3⟩
  have HJX := Lib.hid hjx
  have hw3 := hb3.size
  have HIX3 := Lib.hid (HIX.out.below hb3)
  have B3 := Lib.hid (Below.then_ B2.out hb3)
  have X3 := Lib.hid (X2.out.via hb3)
  have hbl1 := HIX.out.r.lt
  have hbl2 := HIX.out.a.lt
  have hbl3 := HIX.out.u.lt
  have hwz := B2.out.size
  unfold ixV
  clear hjx hb3 HIX
  go_upto_region 7 with fail
  obtain ⟨w4, hw4⟩ : ∃ W, (w3.alloc (.cells #[.map (some b1), .map (some b2), .map (some b3)] 89)).alloc (.cells #[.map (some c1), .map (some c2), .map (some c3)] 89) = W := ⟨_, rfl⟩
  rw [hw4]
  obtain ⟨q4, hq4⟩ : ∃ q, w3.heap.size = q := ⟨_, rfl⟩
  obtain ⟨q5, hq5⟩ : ∃ q, w3.heap.size + 1 = q := ⟨_, rfl⟩
  have K0 : Hid (Ck w l (.slice A n c) w.heap.size q4 q5 b1 b2 b3 c1 c2 c3 [] w4) := by
    have hb : Below w3.heap.size w3 w4 := by rw [← hw4]; exact ((Below.refl _ _).alloc (Nat.le_refl _) _).alloc (by simp) _
    refine ⟨HIX3.out.below hb, ?_, X3.out.via hb, ?_, ?_, Below.then_ B3.out hb⟩
    · rw [rfM_nil]; exact HJX.out.below hb
    · rw [← hw4, ← hq4]; exact (Bx.last w3 _ _).grow _
    · rw [← hw4, ← hq5]; exact Bx.last2 w3 _ _ _
  have AP : Hid (b1 ≠ c1 ∧ b2 ≠ c1 ∧ b3 ≠ c1 ∧ w.heap.size ≤ c1) := ⟨by omega, by omega, by omega, by omega⟩
  rw [hq5, hq4]
  clear hw4 hq4 hq5 hmm HJX HIX3 B3 X3 hbl1 hbl2 hbl3 q1 q2 q3 r1 r2 r3 hw2 hw3 B1 B2 X1 X2 hwz H1
  obtain ⟨⟨x0, x1, x2, x3, x4, x5, x6, x7, x8⟩, _⟩ := Bx.cells9 K0.out.x1
  have xl := Bx.lt K0.out.x1
  go_wp2_with fail
  go_loopw [58] (fun iv wr => ∃ k : Nat, k ≤ n ∧ iv = .int .i64 (k : Int) ∧ Hid (Ck w l (.slice A n c) w.heap.size q4 q5 b1 b2 b3 c1 c2 c3 (l.take k) wr)) (fun iv _ => n - (intOf iv).toNat)
  case atStart => exact ⟨0, Nat.zero_le _, rfl, K0.out⟩
  case round =>
    obtain ⟨k, hk, rfl, hck⟩ := hrel
    clear x0 x1 x2 x3 x4 x5 x6 x7 x8 xl
    obtain ⟨⟨x0, x1, x2, x3, x4, x5, x6, x7, x8⟩, _⟩ := Bx.cells9 hck.out.x1
    have xl := Bx.lt hck.out.x1
    by_cases hlt : k < n
    · have hkl : k < l.length := by rw [HN.out]; exact hlt
      have HR := Lib.hid (H.out.below hck.out.be)
      obtain ⟨g, o, c', hA, hgl, hat⟩ := FxsR.at_ (by have := HR.out; rw [← HN.out] at this; exact this : FxsR wr (.slice A l.length c) l) hkl
      rw [HN.out] at hA
      simp only [Value.slice.injEq, true_and] at hA
      obtain ⟨rfl, rfl⟩ := hA
      have hsz := HG.out.sz.get hkl
      have hck0 := HG.out.ck _ (List.getElem_mem hkl)
      have hao := HG.out.at_ _ (List.getElem_mem hkl)
      have HTK : Hid (l.take (k + 1) = l.take k ++ [l[k]]) := List.take_succ_eq_append_getElem hkl
      have HFK : Hid (∃ f, l[k] = f) := ⟨_, rfl⟩
      obtain ⟨f, hf⟩ : ∃ f, l[k] = f := ⟨_, rfl⟩
      rw [hf] at hat hsz hck0 hao HTK
      have HF := Lib.hid hf
      obtain ⟨y0, y1, y2, y3, y4, y5, y6⟩ := hat
      have hki : (k : Int) < (n : Int) := by omega
      have hcf := checkF_any f
      obtain ⟨wA, hwA⟩ : ∃ W, wr.alloc (.cells #[.string (sb f.id), .string (sb f.rg), .int .u8 (f.kd : Int), .int .i64 f.lat, .int .i64 f.lon, .int .i64 f.el, .int .i64 f.ra] 67) = W := ⟨_, rfl⟩
      have BA : Hid (Below wr.heap.size wr wA) := by rw [← hwA]; exact (Below.refl _ _).alloc (Nat.le_refl _) _
      obtain ⟨q7, hq7⟩ : ∃ q, wr.heap.size = q := ⟨_, rfl⟩
      have FA : Hid (FxBox wA q7 f) := by rw [← hwA, ← hq7]; exact heap_alloc_new wr _
      have KA := Lib.hid (hck.out.below BA.out)
      have HWA := Lib.hid hwA
      have HSZ := Lib.hid hsz
      have HAO := Lib.hid hao
      have HCF := Lib.hid (fun W => (checkF_any f W (Nat.le_trans hsz.1 (by unfold maxLen; omega)) (Nat.le_trans hsz.2 (by unfold maxLen; omega))).mono (R' := fun e w' => e = .returned (.int .i64 0) ∧ Below W.heap.size W w') (fun e w' h => ⟨by rw [h.1, hck0], h.2⟩))
      have HQ7 := Lib.hid hq7
      clear hq7 hf hwA hck hck0 hsz hao hcf HR x0 x1 x2 x3 x4 x5 x6 x7 x8 xl
      go_upto_region 10 with fail
      rw [HWA.out, HQ7.out]
      clear HWA y0 y1 y2 y3 y4 y5 y6
      obtain ⟨y0, y1, y2, y3, y4, y5, y6⟩ := FA.out.cells
      have yl := lt_heap FA.out
      go_wp2_with fail
      refine (HCF.out _).mono ?_
      rintro e w5 ⟨rfl, hb5⟩
      have K5 := Lib.hid (KA.out.below hb5)
      have F5 : Hid (FxBox w5 q7 f) := (hb5.block q7 (lt_heap FA.out)).trans FA.out
      clear hb5 KA FA HCF y0 y1 y2 y3 y4 y5 y6 yl
      go_upto_if 69 with (fail)
      go_cut [9] (fun _ wx => Hid (Ck w l (.slice (some ⟨g, o, none⟩) n c) w.heap.size q4 q5 b1 b2 b3 c1 c2 c3 (l.take k) wx) ∧ Hid (FxBox wx q7 f))
      case first =>
        rcases Nat.eq_zero_or_pos k with h0 | h0
        · have h0i : ¬ (0 : Int) < (k : Int) := by omega
          clear h0
          go_wp2
          go_meet
          exact ⟨K5.out, F5.out⟩
        · have h0i : (0 : Int) < (k : Int) := by omega
          obtain ⟨j, hj⟩ : ∃ j, k = j + 1 := ⟨k - 1, by omega⟩
          subst hj
          have HR5 := Lib.hid (H.out.below K5.out.be)
          have hjl : j < l.length := by rw [HN.out]; omega
          obtain ⟨g', o', c'', hA5, hgl5, hatp⟩ := FxsR.at_ (by have := HR5.out; rw [← HN.out] at this; exact this : FxsR w5 (.slice (some ⟨g, o, none⟩) l.length c) l) hjl
          rw [HN.out] at hA5
          simp only [Value.slice.injEq, Option.some.injEq, Addr.mk.injEq, true_and, and_true] at hA5
          obtain ⟨⟨rfl, rfl⟩, rfl⟩ := hA5
          have hszp := HG.out.sz.get hjl
          have hup := HG.out.up j hkl
          obtain ⟨p, hp⟩ : ∃ p, l[j] = p := ⟨_, rfl⟩
          rw [hp] at hatp hszp hup
          rw [HF.out] at hup
          obtain ⟨p0, p1, p2, p3, p4, p5, p6⟩ := hatp
          have gl5 := hgl5
          have z0 := fun pb : BelBy w5 => (pb.h.cell (p := ⟨g, o + j * 7, none⟩) gl5).trans p0
          have z1 := fun pb : BelBy w5 => (pb.h.cell (p := ⟨g, o + j * 7 + 1, none⟩) gl5).trans p1
          have z2 := fun pb : BelBy w5 => (pb.h.cell (p := ⟨g, o + j * 7 + 2, none⟩) gl5).trans p2
          have z3 := fun pb : BelBy w5 => (pb.h.cell (p := ⟨g, o + j * 7 + 3, none⟩) gl5).trans p3
          have z4 := fun pb : BelBy w5 => (pb.h.cell (p := ⟨g, o + j * 7 + 4, none⟩) gl5).trans p4
          have z5 := fun pb : BelBy w5 => (pb.h.cell (p := ⟨g, o + j * 7 + 5, none⟩) gl5).trans p5
          have z6 := fun pb : BelBy w5 => (pb.h.cell (p := ⟨g, o + j * 7 + 6, none⟩) gl5).trans p6
          have v0 := fun pb : BelBy w5 => (FxBox.below F5.out pb.h).cells.c0
          have v1 := fun pb : BelBy w5 => (FxBox.below F5.out pb.h).cells.c1
          have v2 := fun pb : BelBy w5 => (FxBox.below F5.out pb.h).cells.c2
          have v3 := fun pb : BelBy w5 => (FxBox.below F5.out pb.h).cells.c3
          have v4 := fun pb : BelBy w5 => (FxBox.below F5.out pb.h).cells.c4
          have v5 := fun pb : BelBy w5 => (FxBox.below F5.out pb.h).cells.c5
          have v6 := fun pb : BelBy w5 => (FxBox.below F5.out pb.h).cells.c6
          have x6 := fun pb : BelBy w5 => (K5.out.x1.via pb.h).cell 6 (u := .slice (some ⟨g, o, none⟩) n c) rfl
          have r1 := fun W => fixRef_any f W HSZ.out.1 HSZ.out.2
          have r2 := fun W => fixRef_any p W hszp.1 hszp.2
          unfold FRefPost at r1 r2
          have hcm := fun W => (cmpStr_any (sb (fxRef f)) (sb (fxRef p)) W).mono (R' := fun e w' => e = .returned (.int .i64 1) ∧ Below W.heap.size W w') (fun e w' h => ⟨by rw [h.1, bl_sb, bl_sb, up_cmp hup], by rw [h.2]; exact Below.refl _ _⟩)
          have hor := fun W => (norder_any 1 W).mono (R' := fun e w' => e = .returned (.int .i64 0) ∧ Below W.heap.size W w') (fun e w' h => ⟨h.1, by rw [← h.2]; exact Below.refl _ _⟩)
          obtain ⟨rf, hrf⟩ : ∃ r, fxRef f = r := ⟨_, rfl⟩
          obtain ⟨rp, hrp⟩ : ∃ r, fxRef p = r := ⟨_, rfl⟩
          rw [hrf] at r1 hcm
          rw [hrp] at r2 hcm
          have e6 : IntKind.i64.wrap (j : Int) = (j : Int) := IntWalk.i64_in _ (by omega)
          have e1 : IntKind.i64.wrap ((j : Int) + 1 - 1) = (j : Int) := by rw [show (j : Int) + 1 - 1 = (j : Int) by omega]; exact e6
          have e4 : (j : Int) < (n : Int) := by omega
          clear h0 hrf hrp hup hp hszp hgl5 p0 p1 p2 p3 p4 p5 p6 HR5 HTK
          go_upto_region 14 with fail
          refine wp_region_quiet_bel (by kernel_rfl) (by kernel_rfl) ?_
          repeat (quiet_step (first | (go_at_call 27; first | with_reducible exact Calls.bel_of (r1 _) | with_reducible exact Calls.bel_of (r2 _)) | (go_at_call 18; with_reducible exact Calls.bel_of (hcm _)) | (go_at_call 26; with_reducible exact Calls.bel_of (hor _))))
          refine wpQuiet_nil ?_
          rintro wz ⟨pw, hwz⟩
          have BZ : Hid (Below w5.heap.size w5 wz) := by rw [hwz]; exact pw.h
          clear hwz pw z0 z1 z2 z3 z4 z5 z6 v0 v1 v2 v3 v4 v5 v6 x6 r1 r2 hcm hor e1 e6
          go_wp2
          go_meet
          exact ⟨K5.out.below BZ.out, FxBox.below F5.out BZ.out⟩
      case rest =>
        obtain ⟨hK6, hF6⟩ := hcut
        obtain ⟨y0, y1, y2, y3, y4, y5, y6⟩ := hF6.out.cells
        have yl := lt_heap hF6.out
        obtain ⟨⟨x0, x1, x2, x3, x4, x5, x6, x7, x8⟩, _⟩ := Bx.cells9 hK6.out.x1
        have xl := Bx.lt hK6.out.x1
        obtain ⟨⟨d0, d1, d2⟩, _⟩ := hK6.out.x5.cells3
        obtain ⟨⟨g0, g1, g2⟩, _⟩ := hK6.out.x4.cells3
        have dl := Bx.lt hK6.out.x5
        have gl := Bx.lt hK6.out.x4
        obtain ⟨fi, fr, fk, fa, fo, fe, fg⟩ := f
        simp only at y0 y1 y2 y3 y4 y5 y6
        have pl := fun w => placed_ex c1 c2 c3 b1 b2 b3 _ w HAO.out
        unfold ixV at pl
        simp only at pl
        go_wp2_with fail
        refine (pl _).mono ?_
        rintro e w7 ⟨rfl, hb7⟩
        have K7 := Lib.hid (hK6.out.below hb7)
        have F7 : Hid (FxBox w7 q7 ⟨fi, fr, fk, fa, fo, fe, fg⟩) := (hb7.block q7 (lt_heap hF6.out)).trans hF6.out
        clear hb7 y0 y1 y2 y3 y4 y5 y6 yl x0 x1 x2 x3 x4 x5 x6 x7 x8 xl d0 d1 d2 g0 g1 g2 dl gl pl hK6 hF6
        obtain ⟨y0, y1, y2, y3, y4, y5, y6⟩ := F7.out.cells
        simp only at y0 y1 y2 y3 y4 y5 y6
        have yl := lt_heap F7.out
        obtain ⟨⟨d0, d1, d2⟩, _⟩ := K7.out.x5.cells3
        have dl := Bx.lt K7.out.x5
        have hlk : (l.take k).length = k := List.length_take_of_le (by rw [HN.out]; omega)
        have had := add_any c1 c2 c3 (l.take k).length (rfM (l.take k)) _ _ _ w7 K7.out.jx (by omega) HSZ.out.1 HSZ.out.2 HAO.out.2.2.1 HAO.out.2.2.2.1 HAO.out.2.2.2.2
        unfold ixV at had
        simp only at had
        have HAD := Lib.hid had
        clear had hlk
        go_wp2_with fail
        refine HAD.out.mono ?_
        rintro e w8 ⟨rfl, hj8, hf8⟩
        have K8 := Lib.hid (K7.out.add AP.out.1 AP.out.2.1 AP.out.2.2.1 AP.out.2.2.2 hj8 hf8)
        clear hj8 hf8 HAD y0 y1 y2 y3 y4 y5 y6 yl d0 d1 d2 dl
        go_wp2
        go_roundw
        case rel => exact ⟨k + 1, hlt, by go_num, by unfold Hid; rw [HTK.out]; exact K8.out⟩
        case measure => simp [intOf]; omega
    · have hkn : k = n := by omega
      have HB := Lib.hid hck.out.be
      go_wp2
      go_loopw [101] (fun iv wr => iv = .int .i64 0 ∧ Hid (Ck w l (.slice A n c) w.heap.size q4 q5 b1 b2 b3 c1 c2 c3 (l.take k) wr)) (fun iv _ => 0)
      case atStart => exact ⟨rfl, hck.out⟩
      case round =>
        obtain ⟨rfl, hck2⟩ := hrel
        clear x0 x1 x2 x3 x4 x5 x6 x7 x8 xl
        obtain ⟨⟨x0, x1, x2, x3, x4, x5, x6, x7, x8⟩, _⟩ := Bx.cells9 hck2.out.x1
        have xl := Bx.lt hck2.out.x1
        go_wp2
        go_loopw [145] (fun iv wr => iv = .int .i64 0 ∧ Hid (Ck w l (.slice A n c) w.heap.size q4 q5 b1 b2 b3 c1 c2 c3 (l.take k) wr)) (fun iv _ => 0)
        case atStart => exact ⟨rfl, hck2.out⟩
        case round =>
          obtain ⟨rfl, hck3⟩ := hrel
          go_wp2
          go_ret
          exact ⟨rfl, hck3.out.be⟩
end Go.Proofs.YtakgcdefbbgdaaaGreatDoor
