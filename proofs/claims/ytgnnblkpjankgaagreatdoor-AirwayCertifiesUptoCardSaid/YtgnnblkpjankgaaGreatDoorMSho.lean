/-
  Several texts as one.
  Contract: one step back over least labels: airway.back.
  Contract: slices.Reverse at hops, by the shelf's law for structs.
  Contract: the shortest way: airway.Shortest.
-/
import Derived.Test.YtgnnblkpjankgaaGreatDoorMLab
import Derived.Deep.AppendLies
import Derived.Deep.RegionLaw
import Derived.Shelf.SlicesQ.Reverse
import Derived.Shelf.SlSortCmp.KitK
namespace Go.Proofs.YtgnnblkpjankgaaGreatDoor
open Go.RowKit Go.Lib
set_option linter.unusedVariables false
set_option linter.unusedSimpArgs false
theorem wpQuiet_skip' {P : Program} {ops : Array Oper} {C : World → Prop} {Q : Act → Prop} {o : Oper} {rest : List Oper} {a : Act} (hw : Region.wanted o (yielded ops a.tmps) = false) (h : wpQuiet P ops C Q rest (a.put o.dst undef)) : wpQuiet P ops C Q (o :: rest) a := by
  unfold wpQuiet
  rw [if_neg (by rw [hw]; decide)]
  exact h
/-- all that lies below B stands, but for block bw -/
structure FrB (B bw : Nat) (w w' : World) : Prop where
  os : w'.os = w.os
  tape : w'.tape = w.tape
  output : w'.output = w.output
  size : w.heap.size ≤ w'.heap.size
  block : ∀ k, k < B → k ≠ bw → w'.heap[k]? = w.heap[k]?
theorem FrB.refl (B bw : Nat) (w : World) : FrB B bw w w := ⟨rfl, rfl, rfl, Nat.le_refl _, fun _ _ _ => rfl⟩
theorem FrB.trans {B bw : Nat} {a b c : World} (h : FrB B bw a b) (k : FrB B bw b c) : FrB B bw a c :=
  ⟨k.os.trans h.os, k.tape.trans h.tape, k.output.trans h.output, Nat.le_trans h.size k.size, fun i hi hn => (k.block i hi hn).trans (h.block i hi hn)⟩
theorem FrB.below {B bw : Nat} {w w' : World} {B' : Nat} (hb : Below B' w w') (hB : B ≤ B') : FrB B bw w w' := ⟨hb.os, hb.tape, hb.output, hb.size, fun k hk _ => hb.block k (Nat.lt_of_lt_of_le hk hB)⟩
theorem FrB.grown {B bw : Nat} {w w' : World} {row : Option Nat} (hg : w.grownBy w' row) (hB : B ≤ w.heap.size) (hr : ∀ k, row = some k → B ≤ k ∨ k = bw) : FrB B bw w w' :=
  ⟨hg.os, hg.tape, hg.output, hg.size, fun k hk hn => hg.block k (Nat.lt_of_lt_of_le hk hB) (fun e => by rcases hr k e.symm with h | h <;> omega)⟩
theorem FrB.to_below {B bw : Nat} {w w' : World} (h : FrB B bw w w') {B' : Nat} (h1 : B' ≤ B) (h2 : B' ≤ bw) : Below B' w w' := ⟨h.os, h.tape, h.output, h.size, fun k hk => h.block k (by omega) (by omega)⟩
theorem FrB.cell {B bw : Nat} {w w' : World} (h : FrB B bw w w') {a : Addr} (h1 : a.block < B) (h2 : a.block ≠ bw) : w'.cell? a = w.cell? a := World.cell?_of_block (h.block _ h1 h2)
theorem FrB.mapF {β : Type} {e : Elm β} {B bw b n : Nat} {m : List UInt8 → Option β} {w w' : World} (h : FrB B bw w w') (hm : MapF e w b n m) (h1 : b < B) (h2 : b ≠ bw) : MapF e w' b n m := by
  obtain ⟨D, ⟨es, clock, hbk, r⟩, k⟩ := hm
  exact ⟨D, ⟨es, clock, (h.block b h1 h2).trans hbk, r⟩, k⟩
theorem FrB.setCell {B bw : Nat} (w : World) {a : Addr} (ha : a.block = bw ∨ B ≤ a.block) (v : Value) : FrB B bw w (w.setCell a v) :=
  ⟨rfl, rfl, rfl, by rw [World.size_setCell]; exact Nat.le_refl _, fun k hk hn => heap_setCell_other w a k v (by rcases ha with h | h <;> omega)⟩
/-- the hops of a way that is being built: cell 0 of block bw -/
structure WyH (B bw : Nat) (hs : List Hp) (w : World) : Prop where
  cell : ∃ hv, w.cell? ⟨bw, 0, none⟩ = some hv ∧ w.ownsRow B 48 4 hv hs.length (hpcells hs)
  froz : w.frozen? ⟨bw, 0, none⟩ = false
theorem own_hp_step {B : Nat} {w : World} {v : Value} {hs : List Hp} {h : Hp} {n : Nat} (hn : hs.length = n) (hown : w.ownsRow B 48 4 v (n + 1) (hpcells hs ++ hpc h)) : w.ownsRow B 48 4 v (hs ++ [h]).length (hpcells (hs ++ [h])) := by
  subst hn
  rw [hpcells_snoc, List.length_append]
  exact hown
theorem find_drop_step {P : Hp → Bool} {l : List Hp} {j : Nat} (hj : j < l.length) (h : (l.drop j).find? P = l.find? P) (h2 : P l[j] = false) : (l.drop (j + 1)).find? P = l.find? P := by
  rw [← h, List.drop_eq_getElem_cons hj, List.find?_cons, h2]
theorem find_drop_hit {P : Hp → Bool} {l : List Hp} {j : Nat} (hj : j < l.length) (h : (l.drop j).find? P = l.find? P) (h2 : P l[j] = true) : l.find? P = some l[j] := by
  rw [← h, List.drop_eq_getElem_cons hj, List.find?_cons, h2]
theorem find_drop_end {P : Hp → Bool} {l : List Hp} {j : Nat} (hj : l.length ≤ j) (h : (l.drop j).find? P = l.find? P) : l.find? P = none := by
  rw [← h, List.drop_eq_nil_of_le hj]; rfl
theorem h4_set {b bw : Nat} {y0 y1 y2 y3 : Option Value} {v : Value} {T : World} (hne : bw ≠ b)
    (h : T.cell? ⟨b, 0, none⟩ = y0 ∧ T.cell? ⟨b, 1, none⟩ = y1 ∧ T.cell? ⟨b, 2, none⟩ = y2 ∧ T.cell? ⟨b, 3, none⟩ = y3) :
    (T.setCell ⟨bw, 0, none⟩ v).cell? ⟨b, 0, none⟩ = y0 ∧ (T.setCell ⟨bw, 0, none⟩ v).cell? ⟨b, 1, none⟩ = y1 ∧ (T.setCell ⟨bw, 0, none⟩ v).cell? ⟨b, 2, none⟩ = y2 ∧ (T.setCell ⟨bw, 0, none⟩ v).cell? ⟨b, 3, none⟩ = y3 := by
  have k : ∀ j, (T.setCell ⟨bw, 0, none⟩ v).cell? ⟨b, j, none⟩ = T.cell? ⟨b, j, none⟩ := fun j => World.cell?_setCell_other _ _ _ _ (fun e => by injection e with e _; exact hne e)
  exact ⟨(k 0).trans h.1, (k 1).trans h.2.1, (k 2).trans h.2.2.1, (k 3).trans h.2.2.2⟩
theorem LbB.setOther {b : Nat} {s : Rf} {l1 l2 : Int} {w : World} (h : LbB b s l1 l2 w) {a : Addr} (ha : a.block ≠ b) (v : Value) : LbB b s l1 l2 (w.setCell a v) := by
  have hg : w.grownBy (w.setCell a v) (some a.block) := ⟨rfl, rfl, rfl, by rw [World.size_setCell]; exact Nat.le_refl _, fun i _ hn => heap_setCell_other w a i v (fun e => hn (by rw [e]))⟩
  exact h.grw hg (fun e => by injection e with e; exact ha e.symm)
theorem own_setlow {base : Nat} {w : World} {e : TypeId} {size n : Nat} {v : Value} {xs : List Value} (h : w.ownsRow base e size v n xs) {g : Nat} (hg : g < base) (j : Nat) (u : Value) : (w.setCell ⟨g, j, none⟩ u).ownsRow base e size v n xs := by
  obtain ⟨hl, h2 | ⟨g', cap, cur, hv, hb, hh, r⟩⟩ := h
  · exact ⟨hl, .inl h2⟩
  · refine ⟨hl, .inr ⟨g', cap, cur, hv, hb, ?_, r⟩⟩
    rw [heap_setCell_other w ⟨g, j, none⟩ g' u (by show g' ≠ g; omega)]
    exact hh
theorem own_setne {base : Nat} {w : World} {e : TypeId} {size n : Nat} {v : Value} {xs : List Value} (h : w.ownsRow base e size v n xs) {g : Nat} (hg : v.ownBlock ≠ some g) (j : Nat) (u : Value) : (w.setCell ⟨g, j, none⟩ u).ownsRow base e size v n xs := by
  obtain ⟨hl, h2 | ⟨g', cap, cur, hv, hb, hh, r⟩⟩ := h
  · exact ⟨hl, .inl h2⟩
  · refine ⟨hl, .inr ⟨g', cap, cur, hv, hb, ?_, r⟩⟩
    have hne : g' ≠ g := fun e => hg (by rw [hv, e]; rfl)
    rw [heap_setCell_other w ⟨g, j, none⟩ g' u (by show g' ≠ g; exact hne)]
    exact hh
theorem wyH_set3 {B bw q : Nat} {hs : List Hp} {w : World} {hv : Value} (hc : w.cell? ⟨bw, 0, none⟩ = some hv) (hf : w.frozen? ⟨bw, 0, none⟩ = false) (ho : w.ownsRow B 48 4 hv hs.length (hpcells hs)) (hq : q ≠ bw) (hn : hv.ownBlock ≠ some q) (a b c : Value) :
    WyH B bw hs (((w.setCell ⟨q, 0, none⟩ a).setCell ⟨q, 1, none⟩ b).setCell ⟨q, 2, none⟩ c) := by
  have k : ∀ (W : World) j v, (W.setCell ⟨q, j, none⟩ v).cell? ⟨bw, 0, none⟩ = W.cell? ⟨bw, 0, none⟩ := fun W j v => World.cell?_setCell_other _ _ _ _ (fun e => by injection e with e _; exact hq e)
  refine ⟨⟨hv, ?_, own_setne (own_setne (own_setne ho hn 0 a) hn 1 b) hn 2 c⟩, ?_⟩
  · rw [k, k, k]; exact hc
  · rw [World.frozen?_setCell, World.frozen?_setCell, World.frozen?_setCell]; exact hf
def BackPost (B bw : Nat) (hs : List Hp) (g : Hp) (u : Rf) (l : Lb) (w : World) (e : Ending) (w' : World) : Prop :=
  e = .returned (.agg #[.string (sb u), .int .i64 l.1, .int .i64 l.2]) ∧ WyH B bw (hs ++ [g]) w' ∧ FrB B bw w w' ∧ (∀ k cur z, w.heap[k]? = some (.cells cur 59 z) → k ≠ bw → w'.heap[k]? = w.heap[k]?) ∧ ∀ j, j ≠ 0 → w'.cell? ⟨bw, j, none⟩ = w.cell? ⟨bw, j, none⟩
set_option maxRecDepth 100000 in
set_option maxHeartbeats 8000000 in
theorem back_any (v mv rv : Value) (bm nm : Nat) (L : List Aw) (F : List Fx) (R : List Rf) (f : Rf → Lb) (x : Rf) (B bw : Nat) (hs : List Hp) (w : World)
    (h : AwsR w v L) (hL : L.length ≤ 60) (hm : AtlR w F mv) (hl : MapF elmL w bm nm (lm (labM R f))) (hr : StrR w rv R) (hfit : ∀ u ∈ R, u.length ≤ maxLen) (hx : x ∈ R)
    (hbd : ∀ u ∈ R, 0 ≤ (f u).1 ∧ (f u).1 ≤ 155584800000 ∧ 0 ≤ (f u).2 ∧ (f u).2 ≤ 2401) (hR : R.length ≤ 2401)
    (u : Rf) (g : Hp) (hb : bkL (hopsL L) (wtF F) f x R = some (u, g)) (hwy : WyH B bw hs w) (hbw : bw < B) (hB : B ≤ w.heap.size) (hlen : hs.length ≤ 3000) :
    Calls Tryz.prog 32 #[v, mv, .map (some bm), rv, .agg #[.string (sb x), .int .i64 (f x).1, .int .i64 (f x).2], .pointer (some ⟨bw, 0, none⟩)] w (BackPost B bw hs g u (f u) w) := by
  obtain ⟨ip, hip, hz0, hz1, hz2⟩ := info_parts infoHp
  obtain ⟨l, hlx⟩ : ∃ l, f x = l := ⟨_, rfl⟩
  obtain ⟨l1, l2⟩ := l
  have hbx := hbd x hx
  have hfx := hfit x hx
  rw [hlx] at hbx
  simp only at hbx
  have HFX := Lib.hid hlx
  rw [hlx]
  have H := Lib.hid h
  have HA := Lib.hid hm
  have HM := Lib.hid hl
  have HR := Lib.hid hr
  have HFIT := Lib.hid hfit
  have HBD := Lib.hid hbd
  have HBK := Lib.hid hb
  have HW := Lib.hid hwy
  obtain ⟨Ar, cr, rfl, hcr, hcrm⟩ := hr.form
  unfold maxLen at hcrm
  obtain ⟨n, hn⟩ : ∃ n, R.length = n := ⟨_, rfl⟩
  have HN := Lib.hid hn
  rw [hn] at HR hR hcr ⊢
  obtain ⟨w2, hw2⟩ : ∃ W, (w.alloc (.cells #[.string (sb x), .int .i64 l1, .int .i64 l2] 59)).alloc (.cells #[.string ⟨#[]⟩, .int .i64 0, .int .i64 0] 59) = W := ⟨_, rfl⟩
  have hsz1 : (w.alloc (.cells #[.string (sb x), .int .i64 l1, .int .i64 l2] 59)).heap.size = w.heap.size + 1 := by simp
  have B2 : Hid (Below w.heap.size w w2) := by rw [← hw2]; exact ((Below.refl _ _).alloc (Nat.le_refl _) _).alloc (by simp) _
  have X2 : Hid (LbB w.heap.size x l1 l2 w2) := by rw [← hw2]; exact (LbB.new w x l1 l2 _).below ((Below.refl _ _).alloc (Nat.le_refl _) _)
  have Y2 : Hid (LbB (w.heap.size + 1) [] 0 0 w2) := by
    have h1 := LbB.new (w.alloc (.cells #[.string (sb x), .int .i64 l1, .int .i64 l2] 59)) [] 0 0 59
    rw [hsz1] at h1
    rw [← hw2]
    exact h1
  clear h hm hl hr hb hwy hn hlx hsz1 hx hfit hbd
  go_enter Tryz.func32, Tryz.ntmps32
  go_wp2_with fail
  try rw [hw2]
  clear hw2
  go_loopw [20] (fun iv wr => ∃ i : Nat, i ≤ n ∧ iv = .int .i64 i ∧ Hid (bkL (hopsL L) (wtF F) f x (R.drop i) = some (u, g)) ∧ Hid (Below w2.heap.size w2 wr)) (fun iv _ => n - (intOf iv).toNat)
  case atStart => exact ⟨0, Nat.zero_le _, by first | rfl | go_num, HBK, Lib.hid (Below.refl _ _)⟩
  case round =>
    obtain ⟨i, hi, rfl, hbk, hbr⟩ := hrel
    by_cases hli : i < n
    · have hiR : i < R.length := by rw [HN.out]; exact hli
      obtain ⟨gr, og, cg, hA, hgr, y0⟩ := HR.out.at_ hiR
      rw [HN.out] at hA
      simp only [Value.slice.injEq, true_and] at hA
      obtain ⟨rfl, rfl⟩ := hA
      have HBW := Lib.hid (Below.then_ B2.out hbr.out)
      have hwLs : w.heap.size ≤ wr.heap.size := HBW.out.size
      have k0 := (HBW.out.cell (p := ⟨gr, og + i, none⟩) hgr).trans y0
      have hDR : R.drop i = R[i] :: R.drop (i + 1) := List.drop_eq_getElem_cons hiR
      have hbk2 := hbk.out
      rw [hDR] at hbk2
      obtain ⟨r, hrr⟩ : ∃ r, R[i] = r := ⟨_, rfl⟩
      have hrR : r ∈ R := by rw [← hrr]; exact List.getElem_mem hiR
      rw [hrr] at k0 hbk2
      have hfr := HFIT.out r hrR
      obtain ⟨m1, m2, hfm⟩ : ∃ m1 m2, f r = (m1, m2) := ⟨_, _, rfl⟩
      have hrb := HBD.out r hrR
      rw [hfm] at hrb
      simp only at hrb
      have hlm : labM R f r = some (m1, m2) := by unfold labM; rw [if_pos hrR, hfm]
      have HMR := Lib.hid (HM.out.below' HBW.out)
      clear y0 hDR hrr hrR hiR hgr hbk
      obtain ⟨w5, hw5⟩ : ∃ W, wr.alloc (.cells #[.string (sb r), .int .i64 m1, .int .i64 m2] 59) = W := ⟨_, rfl⟩
      have B5 : Hid (Below w2.heap.size w2 w5) := by rw [← hw5]; exact hbr.out.alloc hbr.out.size _
      have Y5 : Hid (LbB wr.heap.size r m1 m2 w5) := by rw [← hw5]; exact LbB.new wr r m1 m2 _
      have X5 : Hid (LbB w.heap.size x l1 l2 w5) := X2.out.below B5.out
      have HW5 := Lib.hid hw5
      clear hw5 hbr
      go_upto_region 5 with (at_lookup; refine wpList_readL rfl _ _ rfl _ _ _ rfl HMR.out r rfl hfr (m1, m2) hlm ?_)
      rw [HW5.out]
      clear HW5 HMR hlm k0
      have BW5 := Lib.hid (Below.then_ B2.out B5.out)
      have a1 := fun p : BelBy w5 => (Y5.out.below p.h).c1
      have a2 := fun p : BelBy w5 => (Y5.out.below p.h).c2
      have b0 := fun p : BelBy w5 => (X5.out.below p.h).c0
      have b1 := fun p : BelBy w5 => (X5.out.below p.h).c1
      have b2 := fun p : BelBy w5 => (X5.out.below p.h).c2
      have ln := fun p : BelBy w5 => length_any mv F (sb r) (sb x) p.x (HA.out.below (Below.then_ BW5.out p.h)) hfr hfx
      simp only [bl_sb] at ln
      obtain ⟨dd, hdd⟩ : ∃ d, wtF F r x = d := ⟨_, rfl⟩
      have hdb := wtF_bd F r x
      rw [hdd] at hdb
      simp only [hdd] at ln
      have e1 : IntKind.i64.wrap (l2 - 1) = l2 - 1 := IntWalk.i64_in _ (by omega)
      have e2 : IntKind.i64.wrap (m1 + dd) = m1 + dd := IntWalk.i64_in _ (by omega)
      have HFT : Hid (fits (wtF F) f r x = (decide (m2 + 1 = l2) && decide (m1 + dd = l1))) := by unfold Hid fits; rw [hfm, HFX.out, hdd]
      have hmix := mixedD
      clear hdd
      by_cases q1 : m2 + 1 = l2
      · have g1 : (m2 != l2 - 1) = false := by
          rw [bne_eq_false_iff_eq]; omega
        by_cases q2 : m1 + dd = l1
        · have g2 : (m1 + dd != l1) = false := by rw [bne_eq_false_iff_eq]; exact q2
          have HF1 : Hid (fits (wtF F) f r x = true) := by unfold Hid; rw [HFT.out, decide_eq_true q1, decide_eq_true q2]; rfl
          clear HFT q1 q2
          refine wp_region_quiet_bel (by assumption) (by kernel_rfl) ?_
          repeat (quiet_step (first | (go_at_call 23; exact Calls.bel_of (ln _))))
          refine wpQuiet_nil ?_
          rintro wz ⟨pw, hwz⟩
          have BZ : Hid (Below w5.heap.size w5 wz) := by rw [hwz]; exact pw.h
          clear hwz pw a1 a2 b0 b1 b2 ln e1 e2 g1 g2
          have XZ := Lib.hid (X5.out.below BZ.out)
          have YZ := Lib.hid (Y5.out.below BZ.out)
          have BWZ := Lib.hid (Below.then_ BW5.out BZ.out)
          have BRZ := Lib.hid (Below.then_ B5.out BZ.out)
          go_wp2_with fail
          refine (hops_index_any v L (sb r) _ (H.out.below BWZ.out) hL).mono ?_
          rintro e w6 ⟨vh, rfl, hvh, hb6⟩
          rw [bl_sb] at hvh
          have X6 := Lib.hid (XZ.out.below hb6)
          have Y6 := Lib.hid (YZ.out.below hb6)
          have BR6 := Lib.hid (Below.then_ BRZ.out hb6)
          have hhl := hopsL_len L r
          have HBE : Hid (∀ p, (hopsL L r).find? (fun h => decide (h.dst = x)) = some p → u = r ∧ g = p) := fun p hp => by
            have h1 := bk_hit (r := R.drop (i + 1)) HF1.out hp
            rw [h1, Option.some.injEq, Prod.mk.injEq] at hbk2
            exact ⟨hbk2.1.symm, hbk2.2.symm⟩
          have HNX : Hid ((hopsL L r).find? (fun h => decide (h.dst = x)) = none → bkL (hopsL L) (wtF F) f x (R.drop (i + 1)) = some (u, g)) := fun hp => (bk_skip (l := []) (.inr hp)).symm.trans hbk2
          obtain ⟨hl, hhe⟩ : ∃ hl, hopsL L r = hl := ⟨_, rfl⟩
          rw [hhe] at hvh hhl HBE HNX
          clear hhe hb6 XZ YZ BZ BWZ BRZ X5 Y5 BW5 hbk2
          obtain ⟨m, hm⟩ : ∃ m, hl.length = m := ⟨_, rfl⟩
          have HMM := Lib.hid hm
          obtain ⟨Ah, ch, rfl, hc1, hc2⟩ := hvh.form
          have HV := Lib.hid hvh
          rw [hm] at hhl HV hc1 ⊢
          clear hm hvh
          unfold maxLen at hc2
          go_wp2_with fail
          go_loopw [50] (fun jv wr => ∃ j : Nat, j ≤ m ∧ jv = .int .i64 j ∧ Hid ((hl.drop j).find? (fun h => decide (h.dst = x)) = hl.find? (fun h => decide (h.dst = x))) ∧ Hid (Below w6.heap.size w6 wr)) (fun jv _ => m - (intOf jv).toNat)
          case atStart => exact ⟨0, Nat.zero_le _, by first | rfl | go_num, Lib.hid (by rw [List.drop_zero]), Lib.hid (Below.refl _ _)⟩
          case round =>
            obtain ⟨j, hj, rfl, hdr, hbr⟩ := hrel
            by_cases hlj : j < m
            · have hjl : j < hl.length := by rw [HMM.out]; exact hlj
              obtain ⟨gh, oh, ch', hA, hgh, x0, x1, x2, x3⟩ := HV.out.at_ hjl
              rw [HMM.out] at hA
              simp only [Value.slice.injEq, true_and] at hA
              obtain ⟨rfl, rfl⟩ := hA
              have k0 := (hbr.out.cell (p := ⟨gh, oh + j * 4, none⟩) hgh).trans x0
              have k1 := (hbr.out.cell (p := ⟨gh, oh + j * 4 + 1, none⟩) hgh).trans x1
              have k2 := (hbr.out.cell (p := ⟨gh, oh + j * 4 + 2, none⟩) hgh).trans x2
              have k3 := (hbr.out.cell (p := ⟨gh, oh + j * 4 + 3, none⟩) hgh).trans x3
              have HST : Hid (decide ((hl[j]).dst = x) = false → (hl.drop (j + 1)).find? (fun h => decide (h.dst = x)) = hl.find? (fun h => decide (h.dst = x))) := fun h => find_drop_step hjl hdr.out h
              have HHT : Hid (decide ((hl[j]).dst = x) = true → hl.find? (fun h => decide (h.dst = x)) = some hl[j]) := fun h => find_drop_hit hjl hdr.out h
              obtain ⟨p, hp⟩ : ∃ p, hl[j] = p := ⟨_, rfl⟩
              rw [hp] at k0 k1 k2 k3 HST HHT
              have hse := str_eq (t := sb p.dst) (r := sb x)
              rw [bl_sb, bl_sb] at hse
              have XR := Lib.hid (X6.out.below hbr.out)
              have YR := Lib.hid (Y6.out.below hbr.out)
              obtain ⟨z0, z1, z2, zf0, zf1, zf2, zlt⟩ := XR.out
              have BRR := Lib.hid (Below.then_ BR6.out hbr.out)
              clear x0 x1 x2 x3 hp hjl hgh hdr
              by_cases hpx : p.dst = x
              · have hd : decide (p.dst = x) = true := decide_eq_true hpx
                rw [hd] at hse
                obtain ⟨rfl, rfl⟩ := HBE.out p (HHT.out hd)
                have BWR : Hid (Below w.heap.size w wr) := Below.then_ B2.out BRR.out
                obtain ⟨hv, hcv, hown0⟩ := HW.out.cell
                have hlt0 := hown0.lt
                have HLK : Hid (∀ k cur z, w.heap[k]? = some (.cells cur 59 z) → hv.ownBlock ≠ some k) := fun k cur z hk hown1 => by
                  obtain ⟨_, ⟨rfl, _⟩ | ⟨g', cap, cur', rfl, _, hh, _⟩⟩ := hown0
                  · cases hown1
                  · have e : g' = k := by simpa [Value.ownBlock] using hown1
                    rw [e, hk] at hh
                    simp at hh
                have hbww : bw < w.heap.size := Nat.lt_of_lt_of_le hbw hB
                obtain ⟨Av, cv, rfl, hcv1, hcv2⟩ := (Rd.of_own hown0).form
                unfold maxLen at hcv2
                obtain ⟨w17, hw17⟩ : ∃ W, wr.alloc (.cells #[.string (sb g.aw), .string (sb g.dst), .int .i64 g.lo, .int .i64 g.hi] 48) = W := ⟨_, rfl⟩
                have B17 : Hid (Below wr.heap.size wr w17) := by rw [← hw17]; exact (Below.refl _ _).alloc (Nat.le_refl _) _
                have C17 : Hid (w17.cell? ⟨wr.heap.size, 0, none⟩ = some (.string (sb g.aw)) ∧ w17.cell? ⟨wr.heap.size, 1, none⟩ = some (.string (sb g.dst)) ∧ w17.cell? ⟨wr.heap.size, 2, none⟩ = some (.int .i64 g.lo) ∧ w17.cell? ⟨wr.heap.size, 3, none⟩ = some (.int .i64 g.hi) ∧ wr.heap.size < w17.heap.size) := by rw [← hw17]; unfold Hid; simp [go_sem]
                have Y17 := Lib.hid (YR.out.below B17.out)
                have X17 := Lib.hid (XR.out.below B17.out)
                have Z17 := Lib.hid (Y2.out.below (Below.then_ BRR.out B17.out))
                have BW17 := Lib.hid (Below.then_ BWR.out B17.out)
                have kv : w17.cell? ⟨bw, 0, none⟩ = some (.slice Av hs.length cv) := (BW17.out.cell (p := ⟨bw, 0, none⟩) hbww).trans hcv
                have kf : w17.frozen? ⟨bw, 0, none⟩ = false := (BW17.out.frozen (p := ⟨bw, 0, none⟩) hbww).trans HW.out.froz
                have hown17 := own_below hown0 BW17.out
                have hbwr : w.heap.size ≤ wr.heap.size := BWR.out.size
                have hwL := Y6.out.lt
                clear hcv hown0 hd hpx HST HHT hbr HBE HNX
                obtain ⟨z0, z1, z2, z3, zlt⟩ := C17.out
                obtain ⟨q0, q1, q2, qf0, qf1, qf2, qlt⟩ := X17.out
                go_upto_region 10 with fail
                try rw [hw17]
                clear hw17
                have neb : (Value.slice Av hs.length cv).ownBlock ≠ some wr.heap.size := fun h => by have := hlt0 _ h; omega
                have hbne : bw ≠ wr.heap.size := by omega
                have nbw : (Value.slice Av hs.length cv).ownBlock ≠ some bw := fun h => by have := hlt0 _ h; omega
                have hbw17 : bw < w17.heap.size := Nat.lt_of_lt_of_le hbww BW17.out.size
                have kva := Lib.hid (fun o => (((Below.refl w17.heap.size w17).alloc (Nat.le_refl _) o).drew.cell (p := ⟨bw, 0, none⟩) hbw17).trans kv)
                have kfa := Lib.hid (fun o => (((Below.refl w17.heap.size w17).alloc (Nat.le_refl _) o).drew.frozen (p := ⟨bw, 0, none⟩) hbw17).trans kf)
                have ksz : Hid (∀ o, bw < (w17.alloc o).drew.heap.size) := fun o => by show bw < (w17.alloc o).heap.size; rw [World.size_alloc]; omega
                go_region_law (
                    (refine step_append_lies _ (by rfl) _ _ _ (by rfl) B 48 ip (.agg #[.string ⟨#[]⟩, .string ⟨#[]⟩, .int .i64 0, .int .i64 0]) 4 48 Tryz.underlying24 hip hz0 hz1 hz2 rfl (by omega) (.slice Av hs.length cv) hs.length (hpcells hs) (by rfl) (by first | exact (hown17.alloc _).drew | exact (hown17.drew).alloc _) ⟨w17.heap.size, 0, none⟩ 1 1 [.string (sb g.aw), .string (sb g.dst), .int .i64 g.lo, .int .i64 g.hi] (by rfl) (by rfl) (World.news_of_block (cs := #[.string (sb g.aw), .string (sb g.dst), .int .i64 g.lo, .int .i64 g.hi]) (t := 48) (fr := (0, 0)) (heap_alloc_new w17 _)) (by simp [Value.oneCell']) (by omega) (by unfold maxLen; omega) (by omega) (by simp; omega) (w17.heap.size + 1) (by simp) ?_; intro gg cap w3 hown3 hgrow hat hlt3; have kv3 : w3.cell? ⟨bw, 0, none⟩ = some (.slice Av hs.length cv) := (hgrow.cell_far ⟨bw, 0, none⟩ (ksz.out _) (Ne.symm nbw)).trans (kva.out _); have kf3 : w3.frozen? ⟨bw, 0, none⟩ = false := (hgrow.frozen_far ⟨bw, 0, none⟩ (ksz.out _) (Ne.symm nbw)).trans (kfa.out _)))
                all_goals
                  have BA : Hid (Below w17.heap.size w17 _) := ((Below.refl w17.heap.size w17).alloc (Nat.le_refl _) (.cells #[.string (sb g.aw), .string (sb g.dst), .int .i64 g.lo, .int .i64 g.hi] 48)).drew
                  have YF := Lib.hid (((Y17.out.below BA.out).grw hgrow (fun e => by have := hlt0 _ e.symm; omega)).setOther (a := ⟨bw, 0, none⟩) (by show bw ≠ _; omega) (.slice (some ⟨gg, 0, none⟩) (hs.length + 1) cap))
                  have ZF := Lib.hid (((Z17.out.below BA.out).grw hgrow (fun e => by have := hlt0 _ e.symm; omega)).setOther (a := ⟨bw, 0, none⟩) (by show bw ≠ _; omega) (.slice (some ⟨gg, 0, none⟩) (hs.length + 1) cap))
                  have hwF : w.heap.size + 1 ≠ bw := by omega
                  have hggn : (Value.slice (some ⟨gg, 0, none⟩) (hs.length + 1) cap).ownBlock ≠ some (w.heap.size + 1) := fun h => by
                    have e : gg = w.heap.size + 1 := by simpa [Value.ownBlock] using h
                    have h17 := BW17.out.size
                    rcases hat with h1 | h1
                    · have := hlt0 _ h1; omega
                    · omega
                  have WF : Hid (∀ y0 y1 y2, WyH B bw (hs ++ [g]) ((((w3.setCell ⟨bw, 0, none⟩ (.slice (some ⟨gg, 0, none⟩) (hs.length + 1) cap)).setCell ⟨w.heap.size + 1, 0, none⟩ y0).setCell ⟨w.heap.size + 1, 1, none⟩ y1).setCell ⟨w.heap.size + 1, 2, none⟩ y2)) := fun y0 y1 y2 =>
                    wyH_set3 (World.cell?_setCell_same _ _ _ kv3) (by rw [World.frozen?_setCell]; exact kf3) (own_hp_step rfl (own_setlow hown3 hbw 0 _)) hwF hggn y0 y1 y2
                  have FF : Hid (FrB B bw w (w3.setCell ⟨bw, 0, none⟩ (.slice (some ⟨gg, 0, none⟩) (hs.length + 1) cap))) :=
                    ((FrB.below (Below.then_ BW17.out BA.out) hB).trans (FrB.grown hgrow (by have := BA.out.size; have := BW17.out.size; omega) (fun k hk => .inl (hlt0 _ hk).1))).trans (FrB.setCell (B := B) (bw := bw) w3 (a := ⟨bw, 0, none⟩) (.inl rfl) _)
                  have KF : Hid (∀ k cur z, w.heap[k]? = some (.cells cur 59 z) → k ≠ bw → (w3.setCell ⟨bw, 0, none⟩ (.slice (some ⟨gg, 0, none⟩) (hs.length + 1) cap)).heap[k]? = w.heap[k]?) := fun k cur z hk hne => by
                    have hkl : k < w.heap.size := (Array.getElem?_eq_some_iff.1 hk).1
                    have hks : k < w17.heap.size := Nat.lt_of_lt_of_le hkl BW17.out.size
                    rw [heap_setCell_other w3 ⟨bw, 0, none⟩ k _ hne, hgrow.block k (Nat.lt_of_lt_of_le hks BA.out.size) (Ne.symm (HLK.out k cur z hk)), BA.out.block k hks, BW17.out.block k hkl]
                  have JF : Hid (∀ j, j ≠ 0 → (w3.setCell ⟨bw, 0, none⟩ (.slice (some ⟨gg, 0, none⟩) (hs.length + 1) cap)).cell? ⟨bw, j, none⟩ = w.cell? ⟨bw, j, none⟩) := fun j hj => by
                    rw [World.cell?_setCell_other _ _ _ _ (fun e => by injection e with _ e; exact hj e.symm)]
                    exact (hgrow.cell_far ⟨bw, j, none⟩ (ksz.out _) (Ne.symm nbw)).trans ((BA.out.cell (p := ⟨bw, j, none⟩) hbw17).trans (BW17.out.cell (p := ⟨bw, j, none⟩) hbww))
                  generalize w3.setCell ⟨bw, 0, none⟩ (.slice (some ⟨gg, 0, none⟩) (hs.length + 1) cap) = w20 at YF ZF WF FF KF JF ⊢
                  clear hown3 hgrow hat hlt3 kv3 kf3 BA kva kfa ksz z0 z1 z2 z3 zlt q0 q1 q2 qf0 qf1 qf2 qlt kv kf Y17 X17 Z17 C17 hown17 k0 k1 k2 k3 zf0 zf1 zf2
                  obtain ⟨y0, y1, y2, yf0, yf1, yf2, ylt⟩ := YF.out
                  obtain ⟨z0, z1, z2, zf0, zf1, zf2, zlt⟩ := ZF.out
                  have HPP := Lib.hid (ZF.out.put (x := u) (m1 := m1) (m2 := m2))
                  have HFM := Lib.hid hfm
                  clear hfm
                  have FZ : Hid (FrB B bw w (((w20.setCell ⟨w.heap.size + 1, 0, none⟩ (.string (sb u))).setCell ⟨w.heap.size + 1, 1, none⟩ (.int .i64 m1)).setCell ⟨w.heap.size + 1, 2, none⟩ (.int .i64 m2))) :=
                    ((FF.out.trans (FrB.setCell (B := B) (bw := bw) w20 (a := ⟨w.heap.size + 1, 0, none⟩) (.inr (by show B ≤ w.heap.size + 1; omega)) _)).trans (FrB.setCell (B := B) (bw := bw) _ (a := ⟨w.heap.size + 1, 1, none⟩) (.inr (by show B ≤ w.heap.size + 1; omega)) _)).trans (FrB.setCell (B := B) (bw := bw) _ (a := ⟨w.heap.size + 1, 2, none⟩) (.inr (by show B ≤ w.heap.size + 1; omega)) _)
                  go_wp2
                  obtain ⟨c0, c1, c2, _, _, _, _⟩ := HPP.out.1
                  refine bodyPost_ret (by simp [results, Tryz.results32, go_sem, c0, c1, c2]; try rfl) rfl ?_
                  refine ⟨by rw [HFM.out], WF.out _ _ _, FZ.out, fun k cur z hk hne => ?_, fun j hj => ?_⟩
                  case refine_2 =>
                    have hne : ∀ i : Nat, (⟨w.heap.size + 1, i, none⟩ : Addr) ≠ ⟨bw, j, none⟩ := fun i e => by injection e with e _; omega
                    rw [World.cell?_setCell_other _ _ _ _ (hne 2), World.cell?_setCell_other _ _ _ _ (hne 1), World.cell?_setCell_other _ _ _ _ (hne 0)]
                    exact JF.out j hj
                  have hkl : k < w.heap.size := (Array.getElem?_eq_some_iff.1 hk).1
                  rw [heap_setCell_other _ ⟨w.heap.size + 1, 2, none⟩ k _ (by show k ≠ w.heap.size + 1; omega), heap_setCell_other _ ⟨w.heap.size + 1, 1, none⟩ k _ (by show k ≠ w.heap.size + 1; omega), heap_setCell_other _ ⟨w.heap.size + 1, 0, none⟩ k _ (by show k ≠ w.heap.size + 1; omega)]
                  exact KF.out k cur z hk hne
              · have hd : decide (p.dst = x) = false := decide_eq_false hpx
                rw [hd] at hse
                have HS := Lib.hid (HST.out hd)
                have HBN := Lib.hid (hbr.out.alloc hbr.out.size (.cells #[.string (sb p.aw), .string (sb p.dst), .int .i64 p.lo, .int .i64 p.hi] 48))
                clear hd hpx HST HHT hbr
                go_wp2
                go_roundw
                case rel => exact ⟨j + 1, hlj, by go_num, HS, HBN⟩
                case measure => simp [intOf]; omega
            · have hjm : m = j := by omega
              subst hjm
              have HS := Lib.hid (HNX.out (find_drop_end (by rw [HMM.out]; exact Nat.le_refl _) hdr.out))
              have HBN := Lib.hid (Below.then_ BR6.out hbr.out)
              clear hdr hbr
              go_wp2
              go_roundw
              case rel => exact ⟨i + 1, hli, by go_num, HS, HBN⟩
              case measure => simp [intOf]; omega
        · have g2 : (m1 + dd != l1) = true := bne_iff_ne.2 q2
          have g2' : (m1 + dd == l1) = false := beq_eq_false_iff_ne.2 q2
          have hsk : fits (wtF F) f r x = false := by rw [HFT.out, decide_eq_false q2, Bool.and_false]
          have HS : Hid (bkL (hopsL L) (wtF F) f x (R.drop (i + 1)) = some (u, g)) := (bk_skip (l := []) (.inl hsk)).symm.trans hbk2
          clear HFT q1 q2
          refine wp_region_quiet_bel (by assumption) (by kernel_rfl) ?_
          repeat (quiet_step (first | (go_at_call 23; exact Calls.bel_of (ln _))))
          refine wpQuiet_nil ?_
          rintro wz ⟨pw, hwz⟩
          have BZ : Hid (Below w2.heap.size w2 wz) := by rw [hwz]; exact Below.then_ B5.out pw.h
          clear hwz pw a1 a2 b0 b1 b2 ln e1 e2
          go_wp2
          go_roundw
          case rel => exact ⟨i + 1, hli, by go_num, HS, BZ⟩
          case measure => simp [intOf]; omega
      · have g1 : (m2 != l2 - 1) = true := bne_iff_ne.2 (by omega)
        have g1' : (m2 == l2 - 1) = false := beq_eq_false_iff_ne.2 (by omega)
        have g1'' : ¬ m2 = l2 - 1 := by omega
        have hsk : fits (wtF F) f r x = false := by rw [HFT.out, decide_eq_false q1, Bool.false_and]
        have HS : Hid (bkL (hopsL L) (wtF F) f x (R.drop (i + 1)) = some (u, g)) := (bk_skip (l := []) (.inl hsk)).symm.trans hbk2
        clear HFT q1 hsk ln
        refine wp_region_quiet_bel (by assumption) (by kernel_rfl) ?_
        iterate 6 (quiet_step (fail))
        clear g1 g1' g1'' e1 e2
        refine wpQuiet_step (fun K hK => ?_)
        go_simp
        with_reducible refine hK _ ?_
        clear hK K
        iterate 11 (with_reducible refine wpQuiet_skip' (by kernel_rfl) ?_)
        simp only [Act.put, List.setIfInBounds_toArray, List.set_cons_succ, List.set_cons_zero]
        quiet_step (fail)
        refine wpQuiet_nil ?_
        rintro wz ⟨pw, hwz⟩
        have BZ : Hid (Below w2.heap.size w2 wz) := by rw [hwz]; exact Below.then_ B5.out pw.h
        clear hwz pw a1 a2 b0 b1 b2
        go_wp2
        go_roundw
        case rel => exact ⟨i + 1, hli, by go_num, HS, BZ⟩
        case measure => simp [intOf]; omega
    · have : R.drop i = [] := List.drop_eq_nil_of_le (by rw [HN.out]; omega)
      have h1 := hbk.out
      rw [this] at h1
      cases h1
end Go.Proofs.YtgnnblkpjankgaaGreatDoor
namespace Go.Proofs.YtgnnblkpjankgaaGreatDoor
open Go.RowKit Go.Lib Go.Sort
set_option linter.unusedVariables false
set_option linter.unusedSimpArgs false
instance inhHp : Inhabited Hp := ⟨⟨[], [], 0, 0⟩⟩
def revRen : Go.Shelf.Ren := ⟨fun | 35 => 33 | n => n, fun | 0 => 0 | 3 => 3 | 4 => 4 | 22 => 24 | 23 => 48 | n => n, fun | n => n⟩
theorem revLays : SlLaysE0.n35 Tryz.prog revRen where
  mixed := by kernel_rfl
  f35 := ⟨("slices.Reverse[[]flightdeck/api.Hop,flightdeck/api.Hop]"), by decide, Tryz.func33.trans (congrArg some (by kernel_rfl))⟩
  t0 := by kernel_rfl
  a0 := fun w => by kernel_rfl
  z0 := fun w => by kernel_rfl
  v0 := fun w => by kernel_rfl
  t3 := by kernel_rfl
  a3 := fun w => by kernel_rfl
  z3 := fun w => by kernel_rfl
  v3 := fun w => by kernel_rfl
  t4 := by kernel_rfl
  a4 := fun w => by kernel_rfl
  z4 := fun w => by kernel_rfl
  v4 := fun w => by kernel_rfl
  t22 := by kernel_rfl
  a22 := fun w => by kernel_rfl
  z22 := fun w => by kernel_rfl
  v22 := fun w => by kernel_rfl
theorem hpc_len (x : Hp) : (hpc x).length = 4 := rfl
theorem hpc_one (x : Hp) : ∀ v ∈ hpc x, v.oneCell' = true := by
  intro v hv
  unfold hpc at hv
  simp at hv
  rcases hv with rfl | rfl | rfl | rfl <;> rfl
theorem flatR_at (D : List Hp) {t : Nat} (h : t < D.length * 4) : (hpcells D)[t]? = some (flatK hpc 4 D.toArray)[t]! := by
  have hi : t / 4 < D.length := by omega
  have hj : t % 4 < 4 := Nat.mod_lt _ (by decide)
  have h2 : (hpcells D)[t / 4 * 4 + t % 4]? = (hpc D[t / 4])[t % 4]? := by
    obtain ⟨a0, a1, a2, a3⟩ := hpcells_at D (t / 4) hi
    have : t % 4 = 0 ∨ t % 4 = 1 ∨ t % 4 = 2 ∨ t % 4 = 3 := by omega
    rcases this with e | e | e | e <;> rw [e]
    · rw [Nat.add_zero, a0]; rfl
    · rw [a1]; rfl
    · rw [a2]; rfl
    · rw [a3]; rfl
  have e : t / 4 * 4 + t % 4 = t := by omega
  rw [e] at h2
  rw [h2, get_flatK hpc 4 D.toArray t (by rw [List.size_toArray]; exact h), getElem!_pos D.toArray _ (by rw [List.size_toArray]; exact hi)]
  rw [List.getElem?_eq_getElem (by rw [hpc_len]; exact hj), List.getElem_toArray, getElem!_pos (hpc D[t / 4]) _ (by rw [hpc_len]; exact hj)]
set_option maxHeartbeats 1000000 in
/-- the hops of a way are turned about -/
theorem rev_hops (B : Nat) (v : Value) (hs : List Hp) (w : World) (h : w.ownsRow B 48 4 v hs.length (hpcells hs)) (hl : hs.length ≤ 9000) (hB : B ≤ w.heap.size) :
    Calls Tryz.prog 33 #[v] w fun e w' => e = .returned (.tuple #[]) ∧ HpsR w' v hs.reverse ∧ Below B w w' := by
  have hcs := @World.ownsRow.cells _ _ _ _ _ _ _ h
  rcases Nat.eq_zero_or_pos hs.length with h0 | h0
  · obtain ⟨A, c, rfl, _, _⟩ := (Rd.of_own h).form
    have hnil : hs = [] := List.eq_nil_of_length_eq_zero h0
    subst hnil
    have h2 := hpsR_own h
    refine (AnyQ.slices_Reverse_empty revLays A c w).mono ?_
    rintro e w' ⟨rfl, hw⟩
    rw [hw]
    exact ⟨rfl, h2, Below.refl _ _⟩
  · obtain ⟨hlen, ⟨rfl, h1⟩ | ⟨g, cap, cur, rfl, hb, hh, hn, hm, _, _⟩⟩ := h
    · omega
    · have hg : g < w.heap.size := heap_lt hh
      have hH : HoldsK hpc 4 w g 0 hs.toArray := fun t ht => by
        rw [size_flatK, List.size_toArray] at ht
        have := hcs (g := g) rfl t _ (flatR_at hs ht)
        refine ⟨by simpa [Addr.add_lit] using this, ?_⟩
        unfold World.frozen?
        rw [hh]; simp
      have hz := AnyQ.slices_Reverse revLays 4 (fun w => by kernel_rfl) (fun w => by kernel_rfl) hpc hpc_len hpc_one g 0 cap hs.toArray w hH (by rw [List.size_toArray]; omega)
      rw [List.size_toArray] at hz
      refine hz.mono ?_
      rintro e w' ⟨rfl, n, rfl⟩
      have hrev : hs.toArray.reverse = hs.reverse.toArray := by simp
      rw [hrev]
      have hH2 : HoldsK hpc 4 (putRowK hpc 4 (Sort.ahead w n) g 0 hs.reverse.toArray) g 0 hs.reverse.toArray := holdsK_putRowK hpc 4 _ g 0 hs.toArray _ (holdsK_ahead hpc 4 w n g 0 hs.toArray hH) (by simp)
      have hcell : ∃ cur' z', (putRowK hpc 4 (Sort.ahead w n) g 0 hs.reverse.toArray).heap[g]? = some (.cells cur' 48 z') := by
        show ∃ cur' z', ((w.heap.modify g _)[g]? : Option Obj) = _
        rw [Array.getElem?_modify, if_pos rfl, hh]
        exact ⟨_, _, rfl⟩
      obtain ⟨cur', z', hcell⟩ := hcell
      refine ⟨rfl, ⟨⟨by rw [hpcells_len], _, cap, by rw [List.length_reverse], by rw [List.length_reverse]; exact hn, hm, fun _ => ⟨g, 0, rfl, ?_, fun j u hu => ?_⟩⟩, .inr ⟨g, 0, cap, cur', z', by rw [List.length_reverse], hcell⟩⟩, rfl, rfl, rfl, ?_, fun i hi => ?_⟩
      · exact (Array.getElem?_eq_some_iff.1 hcell).1
      · have hj : j < hs.reverse.length * 4 := by rw [← hpcells_len]; exact (List.getElem?_eq_some_iff.1 hu).1
        have h1 := (hH2 j (by rw [size_flatK, List.size_toArray]; exact hj)).1
        rw [flatR_at hs.reverse hj, Option.some.injEq] at hu
        rw [h1, ← hu]; rfl
      · rw [size_putRowK]; show w.heap.size ≤ w.heap.size; exact Nat.le_refl _
      · show ((w.heap.modify g _)[i]? : Option Obj) = _
        rw [Array.getElem?_modify, if_neg (by omega)]
end Go.Proofs.YtgnnblkpjankgaaGreatDoor
namespace Go.Proofs.YtgnnblkpjankgaaGreatDoor
open Go.RowKit Go.Lib
set_option linter.unusedVariables false
set_option linter.unusedSimpArgs false
/-- labels' cells -/
def lbc (x : Rf × Lb) : List Value := [.string (sb x.1), .int .i64 x.2.1, .int .i64 x.2.2]
def lbcells (l : List (Rf × Lb)) : List Value := l.flatMap lbc
theorem lbcells_snoc (l : List (Rf × Lb)) (x : Rf × Lb) : lbcells (l ++ [x]) = lbcells l ++ lbc x := by unfold lbcells; rw [List.flatMap_append]; simp
theorem lbcells_len (l : List (Rf × Lb)) : (lbcells l).length = l.length * 3 := by
  induction l with
  | nil => rfl
  | cons p l ih =>
    show (lbc p ++ lbcells l).length = _
    rw [List.length_append, ih, List.length_cons]
    show 3 + _ = _
    omega
theorem lbcells_at (l : List (Rf × Lb)) : ∀ (k : Nat) (h : k < l.length), (lbcells l)[k * 3]? = some (.string (sb l[k].1)) ∧ (lbcells l)[k * 3 + 1]? = some (.int .i64 l[k].2.1) ∧ (lbcells l)[k * 3 + 2]? = some (.int .i64 l[k].2.2) := by
  induction l with
  | nil => intro k h; simp at h
  | cons p l ih =>
    intro k h
    have e : lbcells (p :: l) = lbc p ++ lbcells l := rfl
    have hl : (lbc p).length = 3 := rfl
    rw [e]
    cases k with
    | zero => exact ⟨rfl, rfl, rfl⟩
    | succ k =>
      have h2 := ih k (by simpa using h)
      rw [List.getElem?_append_right (by omega), List.getElem?_append_right (by omega), List.getElem?_append_right (by omega), hl, show (k + 1) * 3 - 3 = k * 3 by omega, show (k + 1) * 3 + 1 - 3 = k * 3 + 1 by omega, show (k + 1) * 3 + 2 - 3 = k * 3 + 2 by omega]
      exact h2
def LbsR (w : World) (v : Value) (l : List (Rf × Lb)) : Prop := Rd w 3 v l.length (lbcells l)
theorem infoLb : (Tryz.prog.info? 59).map (fun i => (i.zero, i.size, i.bytes)) = some (some (.agg #[.string ⟨#[]⟩, .int .i64 0, .int .i64 0]), 3, 32) := by kernel_rfl
/-- what Shortest hands back -/
def ShPost (L : List Aw) (F : List Fx) (a b : Rf) (f : Rf → Lb) (w : World) (e : Ending) (w' : World) : Prop :=
  ∃ (hv lv : Value) (n er : Int), e = .returned (.tuple #[.agg #[hv, .int .i64 n, lv], .int .i64 er]) ∧ Below w.heap.size w w' ∧
    ((er ≠ 0 ∧ hv = .slice none 0 0 ∧ n = 0 ∧ lv = .slice none 0 0 ∧ (OpenIs L F a b er ∨ OpenIs L F a b 0 ∧ b ∉ reachL L a ∧ er = 10)) ∨
     (er = 0 ∧ OpenIs L F a b 0 ∧ b ∈ reachL L a ∧ LeastOf L F a f ∧ n = (f b).1 ∧ HpsR w' hv (wayTo (hopsL L) (wtF F) f (reachL L a) b) ∧ LbsR w' lv (labsOf (reachL L a) f)))
/-- the labels of a way that is being built -/
structure WyL (base bw : Nat) (m : Int) (l : List (Rf × Lb)) (w : World) : Prop where
  c0 : w.cell? ⟨bw, 0, none⟩ = some (.slice none 0 0)
  c1 : w.cell? ⟨bw, 1, none⟩ = some (.int .i64 m)
  c2 : ∃ lv, w.cell? ⟨bw, 2, none⟩ = some lv ∧ w.ownsRow base 59 3 lv l.length (lbcells l)
  f0 : w.frozen? ⟨bw, 0, none⟩ = false
  f1 : w.frozen? ⟨bw, 1, none⟩ = false
  f2 : w.frozen? ⟨bw, 2, none⟩ = false
  no : ∀ o, w.cell? ⟨bw, o + 3, none⟩ = none
theorem wyL_new {base bw : Nat} {m : Int} {w : World} {t : TypeId} (h : w.heap[bw]? = some (.cells #[.slice none 0 0, .int .i64 m, .slice none 0 0] t (0, 0))) : WyL base bw m [] w := by
  have hf : ∀ j, w.frozen? ⟨bw, j, none⟩ = false := fun j => by unfold World.frozen?; rw [h]; simp
  refine ⟨by unfold World.cell?; rw [h]; rfl, by unfold World.cell?; rw [h]; rfl, ⟨.slice none 0 0, by unfold World.cell?; rw [h]; rfl, rfl, .inl ⟨rfl, rfl⟩⟩, hf 0, hf 1, hf 2, fun o => by unfold World.cell?; rw [h]; simp⟩
theorem three_no {bw o : Nat} {m : Int} {w : World} {t : TypeId} {x : ByteArray} (h : w.heap[bw]? = some (.cells #[.slice none 0 0, .int .i64 m, .slice none 0 0] t (0, 0))) (k : w.cell? ⟨bw, o, none⟩ = some (.string x)) : False := by
  unfold World.cell? at k
  rw [h] at k
  match o with
  | 0 => cases k
  | 1 => cases k
  | 2 => cases k
  | o + 3 => simp at k
theorem labs_take {f : Rf → Lb} {R : List Rf} {i : Nat} (h : i < R.length) : labsOf (R.take (i + 1)) f = labsOf (R.take i) f ++ [(R[i], f R[i])] := by
  unfold labsOf
  rw [List.take_add_one, List.map_append, List.getElem?_eq_getElem h]
  rfl
theorem LbB.frB {B bw b : Nat} {s : Rf} {l1 l2 : Int} {w w' : World} (h : LbB b s l1 l2 w) (hf : FrB B bw w w') (h1 : b < B) (h2 : b ≠ bw) : LbB b s l1 l2 w' := by
  have hb := hf.block b h1 h2
  have hz : ∀ j, w'.frozen? ⟨b, j, none⟩ = w.frozen? ⟨b, j, none⟩ := fun j => by unfold World.frozen?; show (match w'.heap[b]? with | _ => _) = _; rw [hb]
  exact ⟨(hf.cell h1 h2).trans h.c0, (hf.cell h1 h2).trans h.c1, (hf.cell h1 h2).trans h.c2, (hz 0).trans h.f0, (hz 1).trans h.f1, (hz 2).trans h.f2, Nat.lt_of_lt_of_le h.lt hf.size⟩
theorem LbB.block {b : Nat} {s : Rf} {l1 l2 : Int} {w w' : World} (h : LbB b s l1 l2 w) (hb : w'.heap[b]? = w.heap[b]?) (hs : w.heap.size ≤ w'.heap.size) : LbB b s l1 l2 w' := by
  have hz : ∀ j, w'.frozen? ⟨b, j, none⟩ = w.frozen? ⟨b, j, none⟩ := fun j => by unfold World.frozen?; show (match w'.heap[b]? with | _ => _) = _; rw [hb]
  have hc : ∀ j, w'.cell? ⟨b, j, none⟩ = w.cell? ⟨b, j, none⟩ := fun j => World.cell?_of_block (a := ⟨b, j, none⟩) hb
  exact ⟨(hc 0).trans h.c0, (hc 1).trans h.c1, (hc 2).trans h.c2, (hz 0).trans h.f0, (hz 1).trans h.f1, (hz 2).trans h.f2, Nat.lt_of_lt_of_le h.lt hs⟩
theorem FrB.mono {B B' bw : Nat} {w w' : World} (h : FrB B bw w w') (hB : B' ≤ B) : FrB B' bw w w' := ⟨h.os, h.tape, h.output, h.size, fun k hk hn => h.block k (Nat.lt_of_lt_of_le hk hB) hn⟩
theorem FrB.own {B bw base : Nat} {w w' : World} {e : TypeId} {size n : Nat} {v : Value} {xs : List Value} (h : w.ownsRow base e size v n xs) (hf : FrB B bw w w') (hB : w.heap.size ≤ B) (hb : bw < base) : w'.ownsRow base e size v n xs := by
  obtain ⟨hl, h2 | ⟨g, cap, cur, hv, hg, hh, r⟩⟩ := h
  · exact ⟨hl, .inl h2⟩
  · exact ⟨hl, .inr ⟨g, cap, cur, hv, hg, (hf.block g (Nat.lt_of_lt_of_le (heap_lt hh) hB) (by omega)).trans hh, r⟩⟩
theorem StrR.frB {B bw : Nat} {w w' : World} {v : Value} {l : List Rf} (h : StrR w v l) (hf : FrB B bw w w') (hB : w.heap.size ≤ B) (hn : ∀ (g o : Nat) (x : ByteArray), w.cell? ⟨g, o, none⟩ = some (.string x) → g ≠ bw) : StrR w' v l := by
  obtain ⟨hl, A, c, hv, hc, hm, hr⟩ := h
  refine ⟨hl, A, c, hv, hc, hm, fun h0 => ?_⟩
  obtain ⟨g, o, hA, hg, hx⟩ := hr h0
  have hg2 : g ≠ bw := by
    cases l with
    | nil => simp at h0
    | cons x l => exact hn g (o + 0) (sb x) (hx 0 _ rfl)
  exact ⟨g, o, hA, Nat.lt_of_lt_of_le hg hf.size, fun j u hu => (hf.cell (a := ⟨g, o + j, none⟩) (Nat.lt_of_lt_of_le hg hB) hg2).trans (hx j u hu)⟩
theorem HpsR.setne {w : World} {v : Value} {l : List Hp} (h : HpsR w v l) {q : Nat} (hq : v.ownBlock ≠ some q) (j : Nat) (u : Value) : HpsR (w.setCell ⟨q, j, none⟩ u) v l := by
  obtain ⟨⟨hl, A, c, hv, hc, hm, hr⟩, h2⟩ := h
  refine ⟨⟨hl, A, c, hv, hc, hm, fun h0 => ?_⟩, ?_⟩
  · obtain ⟨g, o, hA, hg, hx⟩ := hr h0
    have hne : g ≠ q := fun e => hq (by rw [hv, hA, e]; rfl)
    exact ⟨g, o, hA, by rw [World.size_setCell]; exact hg, fun j' u' hu => (World.cell?_setCell_other _ _ _ _ (fun e => by injection e with e _; exact hne e.symm)).trans (hx j' u' hu)⟩
  · rcases h2 with h0 | ⟨g, o, c, cur, z, hv, hh⟩
    · exact .inl h0
    · have hne : g ≠ q := fun e => hq (by rw [hv, e]; rfl)
      exact .inr ⟨g, o, c, cur, z, hv, by rw [heap_setCell_other w ⟨q, j, none⟩ g u hne]; exact hh⟩
/-- the state of the walk back -/
structure WyS (B bw q : Nat) (x : Rf) (l1 l2 : Int) (hs : List Hp) (w5 w : World) : Prop where
  lb : LbB q x l1 l2 w
  ty : ∃ cur z, w.heap[q]? = some (.cells cur 59 z)
  qB : B ≤ q
  wy : WyH B bw hs w
  fr : FrB B bw w5 w
  kp : ∀ j, j ≠ 0 → w.cell? ⟨bw, j, none⟩ = w5.cell? ⟨bw, j, none⟩
theorem wyS_next {B bw q : Nat} {x u : Rf} {l1 l2 m1 m2 : Int} {hs hs' : List Hp} {w5 w w7 : World} (h : WyS B bw q x l1 l2 hs w5 w) (hbw : bw < B) (hB : w5.heap.size = B) (h1 : WyH B bw hs' w7) (h2 : FrB B bw w w7)
    (h3 : ∀ k cur z, w.heap[k]? = some (.cells cur 59 z) → k ≠ bw → w7.heap[k]? = w.heap[k]?) (h4 : ∀ j, j ≠ 0 → w7.cell? ⟨bw, j, none⟩ = w.cell? ⟨bw, j, none⟩) :
    WyS B bw w7.heap.size u m1 m2 hs' w5 ((((w7.setCell ⟨q, 0, none⟩ (.string (sb u))).setCell ⟨q, 1, none⟩ (.int .i64 m1)).setCell ⟨q, 2, none⟩ (.int .i64 m2)).alloc (.cells #[.string (sb u), .int .i64 m1, .int .i64 m2] 59)) := by
  obtain ⟨cur, z, hty⟩ := h.ty
  have hq : q ≠ bw := by have := h.qB; omega
  have hblk := h3 q cur z hty hq
  have h7B : B ≤ w7.heap.size := by have := h.fr.size; have := h2.size; omega
  obtain ⟨hv, hc, hown⟩ := h1.cell
  have hn : hv.ownBlock ≠ some q := fun e => by
    obtain ⟨_, ⟨rfl, _⟩ | ⟨g', cap, cur', rfl, _, hh, _⟩⟩ := hown
    · cases e
    · have e2 : g' = q := by simpa [Value.ownBlock] using e
      rw [e2, hblk, hty] at hh
      simp at hh
  obtain ⟨W, hW⟩ : ∃ W, ((w7.setCell ⟨q, 0, none⟩ (.string (sb u))).setCell ⟨q, 1, none⟩ (.int .i64 m1)).setCell ⟨q, 2, none⟩ (.int .i64 m2) = W := ⟨_, rfl⟩
  have hWs : W.heap.size = w7.heap.size := by rw [← hW]; simp
  have hwy : WyH B bw hs' W := by rw [← hW]; exact wyH_set3 hc h1.froz hown hq hn _ _ _
  have hfr : FrB B bw w7 W := by
    rw [← hW]
    exact ((FrB.setCell (B := B) (bw := bw) w7 (a := ⟨q, 0, none⟩) (.inr h.qB) _).trans (FrB.setCell (B := B) (bw := bw) _ (a := ⟨q, 1, none⟩) (.inr h.qB) _)).trans (FrB.setCell (B := B) (bw := bw) _ (a := ⟨q, 2, none⟩) (.inr h.qB) _)
  have hkp : ∀ j, W.cell? ⟨bw, j, none⟩ = w7.cell? ⟨bw, j, none⟩ := fun j => by
    have hne : ∀ i : Nat, (⟨q, i, none⟩ : Addr) ≠ ⟨bw, j, none⟩ := fun i e => by injection e with e _; exact hq e
    rw [← hW, World.cell?_setCell_other _ _ _ _ (hne 2), World.cell?_setCell_other _ _ _ _ (hne 1), World.cell?_setCell_other _ _ _ _ (hne 0)]
  rw [hW, ← hWs]
  have hba : Below W.heap.size W (W.alloc (.cells #[.string (sb u), .int .i64 m1, .int .i64 m2] 59)) := (Below.refl _ _).alloc (Nat.le_refl _) _
  have hbW : bw < W.heap.size := by omega
  refine ⟨LbB.new W u m1 m2 _, ⟨_, _, heap_alloc_new W _⟩, by omega, ?_, ((h.fr.trans h2).trans hfr).trans (FrB.below hba (by omega)), fun j hj => ?_⟩
  · obtain ⟨hv', hc', hown'⟩ := hwy.cell
    exact ⟨⟨hv', (hba.cell (p := ⟨bw, 0, none⟩) hbW).trans hc', hown'.alloc _⟩, (hba.frozen (p := ⟨bw, 0, none⟩) hbW).trans hwy.froz⟩
  · exact (hba.cell (p := ⟨bw, j, none⟩) hbW).trans ((hkp j).trans ((h4 j hj).trans (h.kp j hj)))
theorem wayN_succ (hp : Rf → List Hp) (wt : Rf → Rf → Int) (f : Rf → Lb) (refs : List Rf) (n : Nat) (v : Rf) : wayN hp wt f refs (n + 1) v = (match bkL hp wt f v refs with | some (u, h) => wayN hp wt f refs n u ++ [h] | none => []) := rfl
theorem wayTo_step {L : List Aw} {F : List Fx} {a : Rf} {f : Rf → Lb} (hf : LeastOf L F a f) {x : Rf} (hx : x ∈ reachL L a) (h0 : 0 < (f x).2) :
    ∃ u g, bkL (hopsL L) (wtF F) f x (reachL L a) = some (u, g) ∧ u ∈ reachL L a ∧ (f x).2 = (f u).2 + 1 ∧ wayN (hopsL L) (wtF F) f (reachL L a) (f x).2.toNat x = wayN (hopsL L) (wtF F) f (reachL L a) (f u).2.toNat u ++ [g] := by
  obtain ⟨u, g, h1, h2, _, _, h3, _⟩ := bk_opt (refs := reachL L a) (R := fun v => v ∈ reachL L a) (fun v => Iff.rfl) hf.opt hx h0
  refine ⟨u, g, h1, h2, h3, ?_⟩
  have hn := (hf.bd u h2).2.2.1
  have e : (f x).2.toNat = (f u).2.toNat + 1 := by omega
  rw [e, wayN_succ, h1]
set_option maxRecDepth 100000 in
set_option maxHeartbeats 8000000 in
theorem shortest_any (v fv : Value) (L : List Aw) (F : List Fx) (a b : ByteArray) (w : World) (h : AwsR w v L) (hf : FxsR w fv F) (hz : SzL F) (ha : a.size ≤ maxLen) (hb : b.size ≤ maxLen) :
    Calls Tryz.prog 10 #[v, fv, .string a, .string b] w fun e w' => ∃ f, ShPost L F (bl a) (bl b) f w e w' := by
  obtain ⟨il, hil, hy0, hy1, hy2⟩ := info_parts infoLb
  obtain ⟨t, rfl⟩ : ∃ t, b = sb t := ⟨bl b, (sb_bl b).symm⟩
  rw [bl_sb]
  have htl : t.length ≤ maxLen := hb
  have H := Lib.hid h
  have HF := Lib.hid hf
  have HZ := Lib.hid hz
  obtain ⟨W0, hW0⟩ : ∃ W, w.alloc (.cells #[.slice none 0 0, .int .i64 0, .slice none 0 0] 27) = W := ⟨_, rfl⟩
  have B0 : Hid (Below w.heap.size w W0) := by rw [← hW0]; exact (Below.refl _ _).alloc (Nat.le_refl _) _
  have C0 : Hid (W0.cell? ⟨w.heap.size, 0, none⟩ = some (.slice none 0 0) ∧ W0.cell? ⟨w.heap.size, 1, none⟩ = some (.int .i64 0) ∧ W0.cell? ⟨w.heap.size, 2, none⟩ = some (.slice none 0 0) ∧ W0.frozen? ⟨w.heap.size, 0, none⟩ = false ∧ W0.frozen? ⟨w.heap.size, 1, none⟩ = false ∧ W0.frozen? ⟨w.heap.size, 2, none⟩ = false ∧ w.heap.size < W0.heap.size) := by rw [← hW0]; unfold Hid; simp [go_sem]
  clear h hf hz
  go_enter Tryz.func10, Tryz.ntmps10
  go_wp2_with fail
  try rw [hW0]
  clear hW0
  refine (open_any v fv L F a (sb t) _ (H.out.below B0.out) (HF.out.below B0.out) HZ.out ha hb).mono ?_
  rintro e w1 ⟨mv, er, rfl, hop, hat, hb1⟩
  rw [bl_sb] at hop
  have HOP := Lib.hid hop
  have HAT := Lib.hid hat
  have HB1 := Lib.hid (Below.then_ B0.out hb1)
  have C1 : Hid (w1.cell? ⟨w.heap.size, 0, none⟩ = some (.slice none 0 0) ∧ w1.cell? ⟨w.heap.size, 1, none⟩ = some (.int .i64 0) ∧ w1.cell? ⟨w.heap.size, 2, none⟩ = some (.slice none 0 0) ∧ w1.frozen? ⟨w.heap.size, 0, none⟩ = false ∧ w1.frozen? ⟨w.heap.size, 1, none⟩ = false ∧ w1.frozen? ⟨w.heap.size, 2, none⟩ = false ∧ w.heap.size < w1.heap.size) := by
    obtain ⟨c0, c1, c2, f0, f1, f2, lt⟩ := C0.out
    exact ⟨(hb1.cell (p := ⟨w.heap.size, 0, none⟩) lt).trans c0, (hb1.cell (p := ⟨w.heap.size, 1, none⟩) lt).trans c1, (hb1.cell (p := ⟨w.heap.size, 2, none⟩) lt).trans c2, (hb1.frozen (p := ⟨w.heap.size, 0, none⟩) lt).trans f0, (hb1.frozen (p := ⟨w.heap.size, 1, none⟩) lt).trans f1, (hb1.frozen (p := ⟨w.heap.size, 2, none⟩) lt).trans f2, Nat.lt_of_lt_of_le lt hb1.size⟩
  clear hop hat hb1 B0 C0
  by_cases h0 : er = 0
  case neg =>
    obtain ⟨c0, c1, c2, f0, f1, f2, lt⟩ := C1.out
    have e0 : (er != 0) = true := bne_iff_ne.2 h0
    have H0 := Lib.hid h0
    have HE : Hid (Below w.heap.size w (((w1.setCell ⟨w.heap.size, 0, none⟩ (.slice none 0 0)).setCell ⟨w.heap.size, 1, none⟩ (.int .i64 0)).setCell ⟨w.heap.size, 2, none⟩ (.slice none 0 0))) := ((HB1.out.setCell (Nat.le_refl _) _).setCell (Nat.le_refl _) _).setCell (Nat.le_refl _) _
    clear h0
    go_wp2
    refine bodyPost_ret (v := .tuple #[.agg #[.slice none 0 0, .int .i64 0, .slice none 0 0], .int .i64 er]) (by simp [results, Tryz.results10, go_sem, c0, c1, c2]; try rfl) rfl ?_
    exact ⟨fun _ => (0, 0), _, _, _, _, rfl, HE.out, .inl ⟨H0.out, rfl, rfl, rfl, .inl HOP.out⟩⟩
  subst h0
  obtain ⟨hc0, _⟩ := HOP.out.zero
  have HA1 := Lib.hid (HAT.out rfl)
  have HC := Lib.hid hc0
  clear HAT hc0
  go_wp2_with fail
  refine (labels_any v mv L F a _ (H.out.below HB1.out) HA1.out HC.out ha).mono ?_
  rintro e w2 ⟨bm, nm, f, rfl, hlm, hleast, hb2, hbm⟩
  have HLM := Lib.hid hlm
  have HLE := Lib.hid hleast
  have HB2 := Lib.hid (Below.then_ HB1.out hb2)
  have HA2 := Lib.hid (HA1.out.below hb2)
  obtain ⟨R, hR⟩ : ∃ R, reachL L (bl a) = R := ⟨_, rfl⟩
  have HR := Lib.hid hR
  have HRF : Hid (∀ u ∈ R, u.length ≤ maxLen) := by rw [← hR]; exact reach_fit HC.out ha
  have HRL : Hid (R.length ≤ 2401) := by rw [← hR]; exact reach_len HC.out (bl a)
  have C2 : Hid (w2.cell? ⟨w.heap.size, 0, none⟩ = some (.slice none 0 0) ∧ w2.cell? ⟨w.heap.size, 1, none⟩ = some (.int .i64 0) ∧ w2.cell? ⟨w.heap.size, 2, none⟩ = some (.slice none 0 0) ∧ w2.frozen? ⟨w.heap.size, 0, none⟩ = false ∧ w2.frozen? ⟨w.heap.size, 1, none⟩ = false ∧ w2.frozen? ⟨w.heap.size, 2, none⟩ = false ∧ w.heap.size < w2.heap.size) := by
    obtain ⟨c0, c1, c2, f0, f1, f2, lt⟩ := C1.out
    exact ⟨(hb2.cell (p := ⟨w.heap.size, 0, none⟩) lt).trans c0, (hb2.cell (p := ⟨w.heap.size, 1, none⟩) lt).trans c1, (hb2.cell (p := ⟨w.heap.size, 2, none⟩) lt).trans c2, (hb2.frozen (p := ⟨w.heap.size, 0, none⟩) lt).trans f0, (hb2.frozen (p := ⟨w.heap.size, 1, none⟩) lt).trans f1, (hb2.frozen (p := ⟨w.heap.size, 2, none⟩) lt).trans f2, Nat.lt_of_lt_of_le lt hb2.size⟩
  have hbmlt := hlm.lt
  rw [hR] at HLM
  clear hlm hleast hb2 HB1 C1 HA1 hR
  go_wp2_with (at_lookup; refine wpList_lookL rfl _ _ rfl _ _ _ rfl HLM.out t rfl htl ?_ ?_)
  · intro hno
    have HNO : Hid (t ∉ reachL L (bl a)) := fun h => by
      unfold labM at hno
      rw [if_pos (by rw [← HR.out]; exact h)] at hno
      cases hno
    obtain ⟨c0, c1, c2, f0, f1, f2, lt⟩ := C2.out
    have HE : Hid (Below w.heap.size w ((((w2.setCell ⟨w.heap.size, 0, none⟩ (.slice none 0 0)).setCell ⟨w.heap.size, 1, none⟩ (.int .i64 0)).setCell ⟨w.heap.size, 2, none⟩ (.slice none 0 0)).alloc (.cells #[.string ⟨#[]⟩, .int .i64 0, .int .i64 0] 59))) := (((HB2.out.setCell (Nat.le_refl _) _).setCell (Nat.le_refl _) _).setCell (Nat.le_refl _) _).alloc (by simp; omega) _
    have lne : w.heap.size ≠ w2.heap.size := by omega
    clear hno
    go_wp2
    refine bodyPost_ret (v := .tuple #[.agg #[.slice none 0 0, .int .i64 0, .slice none 0 0], .int .i64 10]) (by simp [results, Tryz.results10, go_sem, c0, c1, c2, lt, lne]; try rfl) rfl ?_
    exact ⟨f, _, _, _, _, rfl, HE.out, .inl ⟨by decide, rfl, rfl, rfl, .inr ⟨HOP.out, HNO.out, rfl⟩⟩⟩
  · intro t1 t2 hyes
    have hyes2 := hyes
    unfold labM at hyes2
    have htR : t ∈ R := by
      by_cases h : t ∈ R
      · exact h
      · rw [if_neg h] at hyes2; cases hyes2
    rw [if_pos htR, Option.some.injEq] at hyes2
    have HTR := Lib.hid htR
    have HFT := Lib.hid hyes2
    clear hyes hyes2 htR
    obtain ⟨w3, hw3⟩ : ∃ W, (w2.alloc (.cells #[.string (sb t), .int .i64 t1, .int .i64 t2] 59)).alloc (.cells #[.slice none 0 0, .int .i64 t1, .slice none 0 0] 27) = W := ⟨_, rfl⟩
    have hs2 : (w2.alloc (.cells #[.string (sb t), .int .i64 t1, .int .i64 t2] 59)).heap.size = w2.heap.size + 1 := by simp
    have B3 : Hid (Below w2.heap.size w2 w3) := by rw [← hw3]; exact ((Below.refl _ _).alloc (Nat.le_refl _) _).alloc (by simp) _
    have L3 : Hid (LbB w2.heap.size t t1 t2 w3) := by rw [← hw3]; exact (LbB.new w2 t t1 t2 _).below ((Below.refl _ _).alloc (Nat.le_refl _) _)
    have K3 : Hid (w3.heap[w2.heap.size + 1]? = some (.cells #[.slice none 0 0, .int .i64 t1, .slice none 0 0] 27 (0, 0))) := by rw [← hw3, ← hs2]; exact heap_alloc_new _ _
    have HW3 := Lib.hid hw3
    clear hs2 hw3
    go_wp2_with fail
    rw [HW3.out]
    clear HW3
    have hlL := chkL_few HC.out
    refine (reach_any v L a _ (H.out.below (Below.then_ HB2.out B3.out)) hlL ha (chkL_fit HC.out) (chkL_refs HC.out)).mono ?_
    rintro e w4 ⟨rv, rfl, hrv, hb4⟩
    rw [HR.out] at hrv
    have B4 := Lib.hid (Below.then_ B3.out hb4)
    have L4 := Lib.hid (L3.out.below hb4)
    have k4lt : w2.heap.size + 1 < w3.heap.size := heap_lt K3.out
    have K4 : Hid (w4.heap[w2.heap.size + 1]? = some (.cells #[.slice none 0 0, .int .i64 t1, .slice none 0 0] 27 (0, 0))) := (hb4.block _ k4lt).trans K3.out
    have hbw4 : w2.heap.size + 1 < w4.heap.size := heap_lt K4.out
    have M4 := Lib.hid (HLM.out.below' B4.out)
    have W4 : Hid (WyL w4.heap.size (w2.heap.size + 1) t1 [] w4) := wyL_new K4.out
    have NB : Hid (∀ (g o : Nat) (x : ByteArray), w4.cell? ⟨g, o, none⟩ = some (.string x) → g ≠ w2.heap.size + 1) := fun g o x h e => by
      rw [e] at h
      exact three_no K4.out h
    clear B3 L3 K3 HLM k4lt K4
    obtain ⟨Ar, cr, rfl, hcr, hcrm⟩ := hrv.form
    unfold maxLen at hcrm
    have HRV := Lib.hid hrv
    obtain ⟨n, hn⟩ : ∃ n, R.length = n := ⟨_, rfl⟩
    have HN := Lib.hid hn
    have hn24 : n ≤ 2401 := by have := HRL.out; omega
    rw [hn] at HRV hcr ⊢
    clear hn hrv hb4
    go_wp2_with fail
    go_loopw [53] (fun iv wr => ∃ i : Nat, i ≤ n ∧ iv = .int .i64 i ∧ Hid (WyL w4.heap.size (w2.heap.size + 1) t1 (labsOf (R.take i) f) wr) ∧ Hid (FrB w4.heap.size (w2.heap.size + 1) w4 wr)) (fun iv _ => n - (intOf iv).toNat)
    case atStart => exact ⟨0, Nat.zero_le _, by first | rfl | go_num, W4, Lib.hid (FrB.refl _ _ _)⟩
    case round =>
      obtain ⟨i, hi, rfl, hwy, hfr⟩ := hrel
      by_cases hli : i < n
      · have hiR : i < R.length := by rw [HN.out]; exact hli
        obtain ⟨gr, og, cg, hA, hgr, y0⟩ := HRV.out.at_ hiR
        rw [HN.out] at hA
        simp only [Value.slice.injEq, true_and] at hA
        obtain ⟨rfl, rfl⟩ := hA
        have hgne := NB.out _ _ _ y0
        have k0 := (hfr.out.cell (a := ⟨gr, og + i, none⟩) hgr hgne).trans y0
        have hrR : R[i] ∈ R := List.getElem_mem hiR
        have hTK : Hid (labsOf (R.take (i + 1)) f = labsOf (R.take i) f ++ [(R[i], f R[i])]) := labs_take hiR
        have hlT : (labsOf (R.take i) f).length = i := by unfold labsOf; rw [List.length_map, List.length_take]; omega
        obtain ⟨r, hrr⟩ : ∃ r, R[i] = r := ⟨_, rfl⟩
        rw [hrr] at k0 hTK hrR
        have hfitr := HRF.out r hrR
        obtain ⟨m1, m2, hfm⟩ : ∃ m1 m2, f r = (m1, m2) := ⟨_, _, rfl⟩
        rw [hfm] at hTK
        have hlm : labM R f r = some (m1, m2) := by unfold labM; rw [if_pos hrR, hfm]
        have HMR := Lib.hid (hfr.out.mapF M4.out (Nat.lt_of_lt_of_le (by omega) (Nat.le_of_lt hbw4)) (by omega))
        obtain ⟨c0, c1, ⟨lv, c2, hown⟩, f0, f1, f2, no3⟩ := hwy.out
        have NO3 := Lib.hid no3
        clear no3
        clear y0 hrr hrR hiR hgr hgne hfm
        have hwrs : w4.heap.size ≤ wr.heap.size := hfr.out.size
        have hbwr : w2.heap.size + 1 < wr.heap.size := by omega
        have hown1 := hown.lt
        have nob : some (w2.heap.size + 1) ≠ lv.ownBlock := fun h => by have := hown1 _ h.symm; omega
        rw [hlT] at hown
        obtain ⟨w7, hw7⟩ : ∃ W, wr.alloc (.cells #[.string (sb r), .int .i64 m1, .int .i64 m2] 59) = W := ⟨_, rfl⟩
        have B7 : Hid (Below wr.heap.size wr w7) := by rw [← hw7]; exact (Below.refl _ _).alloc (Nat.le_refl _) _
        have N7 : Hid (w7.heap[wr.heap.size]? = some (.cells #[.string (sb r), .int .i64 m1, .int .i64 m2] 59 (0, 0))) := by rw [← hw7]; exact heap_alloc_new _ _
        have own7 : w7.ownsRow w4.heap.size 59 3 lv i (lbcells (labsOf (R.take i) f)) := by rw [← hw7]; exact hown.alloc _
        have HW7 := Lib.hid hw7
        clear hw7 hown hown1
        go_wp2_with (first | (at_lookup; refine wpList_readL rfl _ _ rfl _ _ _ rfl HMR.out r rfl hfitr (m1, m2) hlm ?_) | (at_builtin; rw [HW7.out]; refine wpList_append_lies _ rfl _ _ 25 rfl w4.heap.size 59 il (.agg #[.string ⟨#[]⟩, .int .i64 0, .int .i64 0]) 3 32 Tryz.underlying25 hil hy0 hy1 hy2 rfl (by decide) _ _ _ rfl own7 ⟨wr.heap.size, 0, none⟩ 1 1 [.string (sb r), .int .i64 m1, .int .i64 m2] rfl rfl (World.news_of_block N7.out) (by simp [Value.oneCell']) (by decide) (by unfold maxLen; omega) (by omega) (by have := B7.out.size; omega) _ rfl ?_))
        intro gg cap w8 hown8 hgrow _ _
        obtain ⟨v1, hv1⟩ : ∃ v1, Value.slice (some ⟨gg, 0, none⟩) (i + 1) cap = v1 := ⟨_, rfl⟩
        rw [hv1] at hown8
        have hw78 : wr.heap.size ≤ w7.heap.size := B7.out.size
        have e0 : w8.cell? ⟨w2.heap.size + 1, 0, none⟩ = some (.slice none 0 0) := (hgrow.cell_far ⟨w2.heap.size + 1, 0, none⟩ (by show w2.heap.size + 1 < _; omega) nob).trans ((B7.out.cell (p := ⟨w2.heap.size + 1, 0, none⟩) hbwr).trans c0)
        have e1 : w8.cell? ⟨w2.heap.size + 1, 1, none⟩ = some (.int .i64 t1) := (hgrow.cell_far ⟨w2.heap.size + 1, 1, none⟩ (by show w2.heap.size + 1 < _; omega) nob).trans ((B7.out.cell (p := ⟨w2.heap.size + 1, 1, none⟩) hbwr).trans c1)
        have e2 : w8.cell? ⟨w2.heap.size + 1, 2, none⟩ = some lv := (hgrow.cell_far ⟨w2.heap.size + 1, 2, none⟩ (by show w2.heap.size + 1 < _; omega) nob).trans ((B7.out.cell (p := ⟨w2.heap.size + 1, 2, none⟩) hbwr).trans c2)
        have d0 : w8.frozen? ⟨w2.heap.size + 1, 0, none⟩ = false := (hgrow.frozen_far ⟨w2.heap.size + 1, 0, none⟩ (by show w2.heap.size + 1 < _; omega) nob).trans ((B7.out.frozen (p := ⟨w2.heap.size + 1, 0, none⟩) hbwr).trans f0)
        have d1 : w8.frozen? ⟨w2.heap.size + 1, 1, none⟩ = false := (hgrow.frozen_far ⟨w2.heap.size + 1, 1, none⟩ (by show w2.heap.size + 1 < _; omega) nob).trans ((B7.out.frozen (p := ⟨w2.heap.size + 1, 1, none⟩) hbwr).trans f1)
        have d2 : w8.frozen? ⟨w2.heap.size + 1, 2, none⟩ = false := (hgrow.frozen_far ⟨w2.heap.size + 1, 2, none⟩ (by show w2.heap.size + 1 < _; omega) nob).trans ((B7.out.frozen (p := ⟨w2.heap.size + 1, 2, none⟩) hbwr).trans f2)
        have WN : Hid (WyL w4.heap.size (w2.heap.size + 1) t1 (labsOf (R.take (i + 1)) f) (w8.setCell ⟨w2.heap.size + 1, 2, none⟩ v1)) := by
          have hx : w8.ownsRow w4.heap.size 59 3 v1 (labsOf (R.take (i + 1)) f).length (lbcells (labsOf (R.take (i + 1)) f)) := by
            rw [hTK.out, lbcells_snoc, List.length_append, hlT]; exact hown8
          have hne : ∀ j, j ≠ 2 → (⟨w2.heap.size + 1, 2, none⟩ : Addr) ≠ ⟨w2.heap.size + 1, j, none⟩ := fun j hj e => by injection e with _ e; exact hj e.symm
          refine ⟨(World.cell?_setCell_other _ _ _ _ (hne 0 (by decide))).trans e0, (World.cell?_setCell_other _ _ _ _ (hne 1 (by decide))).trans e1, ⟨v1, World.cell?_setCell_same _ _ _ e2, own_setlow hx hbw4 2 v1⟩, ?_, ?_, ?_, fun o => ?_⟩
          · rw [World.frozen?_setCell]; exact d0
          · rw [World.frozen?_setCell]; exact d1
          · rw [World.frozen?_setCell]; exact d2
          · exact (World.cell?_setCell_other _ _ _ _ (hne (o + 3) (by omega))).trans ((hgrow.cell_far ⟨w2.heap.size + 1, o + 3, none⟩ (by show w2.heap.size + 1 < _; omega) nob).trans ((B7.out.cell (p := ⟨w2.heap.size + 1, o + 3, none⟩) hbwr).trans (NO3.out o)))
        have FN : Hid (FrB w4.heap.size (w2.heap.size + 1) w4 (w8.setCell ⟨w2.heap.size + 1, 2, none⟩ v1)) :=
          ((hfr.out.trans (FrB.below B7.out hwrs)).trans (FrB.grown hgrow (by omega) (fun k hk => .inl (own7.lt _ hk).1))).trans (FrB.setCell (B := w4.heap.size) (bw := w2.heap.size + 1) w8 (a := ⟨w2.heap.size + 1, 2, none⟩) (.inl rfl) v1)
        subst hv1
        clear hown8 hgrow own7 c0 c1 c2 f0 f1 f2 k0 HMR hwy hfr nob
        go_wp2
        go_roundw
        case rel => exact ⟨i + 1, hli, by go_num, WN, FN⟩
        case measure => simp [intOf]; omega
      · have hin : i = n := by omega
        subst hin
        have HT : R.take i = R := List.take_of_length_le (by rw [HN.out]; exact Nat.le_refl _)
        rw [HT] at hwy
        clear HT
        obtain ⟨w5, rfl⟩ : ∃ w5, w5 = wr := ⟨_, rfl⟩
        obtain ⟨Bb, hBb⟩ : ∃ B, w5.heap.size = B := ⟨_, rfl⟩
        have hB4 : w4.heap.size ≤ Bb := by rw [← hBb]; exact hfr.out.size
        obtain ⟨c0, c1, ⟨lv, c2, hown⟩, f0, f1, f2, no3⟩ := hwy.out
        have NO3 := Lib.hid no3
        clear no3
        have OWL := Lib.hid hown
        have L5 : Hid (LbB w2.heap.size t t1 t2 w5) := L4.out.frB hfr.out (by omega) (by omega)
        obtain ⟨z0, z1, z2, _, _, _, zlt⟩ := L5.out
        obtain ⟨w6, hw6⟩ : ∃ W, w5.alloc (.cells #[.string (sb t), .int .i64 t1, .int .i64 t2] 59) = W := ⟨_, rfl⟩
        have HW6 := Lib.hid hw6
        clear hw6
        go_wp2_with fail
        rw [HW6.out]
        have S6 : Hid (WyS Bb (w2.heap.size + 1) w5.heap.size t t1 t2 [] w5 w6) := by
          have hba : Below w5.heap.size w5 w6 := by rw [← HW6.out]; exact (Below.refl _ _).alloc (Nat.le_refl _) _
          have hbl : w2.heap.size + 1 < w5.heap.size := by omega
          refine ⟨by rw [← HW6.out]; exact LbB.new w5 t t1 t2 _, ⟨_, _, by rw [← HW6.out]; exact heap_alloc_new w5 _⟩, by omega, ⟨⟨_, (hba.cell (p := ⟨w2.heap.size + 1, 0, none⟩) hbl).trans c0, World.ownsRow_nil _ _ _ _⟩, (hba.frozen (p := ⟨w2.heap.size + 1, 0, none⟩) hbl).trans f0⟩, FrB.below hba (by omega), fun j _ => hba.cell (p := ⟨w2.heap.size + 1, j, none⟩) hbl⟩
        have F5 : Hid (FrB w.heap.size (w2.heap.size + 1) w w5) := ((FrB.below (bw := w2.heap.size + 1) HB2.out (Nat.le_refl _)).trans ((FrB.below B4.out (Nat.le_refl _)).mono HB2.out.size)).trans (hfr.out.mono (by have := HB2.out.size; omega))
        have FA : Hid (FrB w2.heap.size (w2.heap.size + 1) w2 w5) := (FrB.below B4.out (Nat.le_refl _)).trans (hfr.out.mono (by omega))
        have M5 := Lib.hid (hfr.out.mapF M4.out (by omega) (by omega))
        have NBH := HRV.out.frB hfr.out (Nat.le_refl _) NB.out
        have HR5 := Lib.hid NBH
        have NB5 : Hid (∀ (g o : Nat) (x : ByteArray), w5.cell? ⟨g, o, none⟩ = some (.string x) → g ≠ w2.heap.size + 1) := fun g o x h e => by
          subst e
          match o with
          | 0 => rw [c0] at h; cases h
          | 1 => rw [c1] at h; cases h
          | 2 =>
            rw [c2, Option.some.injEq] at h
            rw [h] at hown
            obtain ⟨_, ⟨h1, _⟩ | ⟨_, _, _, h1, _⟩⟩ := hown <;> cases h1
          | o + 3 => rw [NO3.out o] at h; cases h
        clear NBH
        clear z0 z1 z2 zlt L5 c0 f0 f1 f2 HW6 hwy
        go_loopg [19] (t2.toNat) (fun g u19 wr => ∃ (x : Rf) (hs : List Hp) (q : Nat) (l1 l2 : Int), u19 = .pointer (some ⟨q, 0, none⟩) ∧ Hid (f x = (l1, l2)) ∧ Hid (x ∈ R) ∧ Hid (WyS Bb (w2.heap.size + 1) q x l1 l2 hs w5 wr) ∧ Hid (wayN (hopsL L) (wtF F) f R l2.toNat x ++ hs.reverse = wayTo (hopsL L) (wtF F) f R t) ∧ hs.length + l2.toNat ≤ 2401 ∧ 0 ≤ l2 ∧ l2.toNat ≤ g)
        case atStart =>
          have htb := HLE.out.bd t (by rw [HR.out]; exact HTR.out)
          rw [HFT.out] at htb
          simp only at htb
          exact ⟨t, [], _, t1, t2, rfl, HFT, HTR, Lib.hid (by rw [← hBb] at S6 ⊢; exact S6.out), Lib.hid (by unfold wayTo; rw [HFT.out]; simp), by simp; omega, htb.2.2.1, Nat.le_refl _⟩
        case round =>
          obtain ⟨x, hs, q, l1, l2, rfl, hfx, hxR, hst, hway, hlen, hl0, hlg⟩ := hrel
          obtain ⟨z0, z1, z2, zf0, zf1, zf2, zlt⟩ := hst.out.lb
          have hqB := hst.out.qB
          have hwr5 : Bb ≤ wr.heap.size := by rw [← hBb]; exact hst.out.fr.size
          by_cases hp : 0 < l2
          · have hxL : x ∈ reachL L (bl a) := by rw [HR.out]; exact hxR.out
            obtain ⟨u, g, hbk, huL, he2, hwn⟩ := wayTo_step HLE.out hxL (by rw [hfx.out]; exact hp)
            rw [HR.out] at hbk huL hwn
            obtain ⟨m1, m2, hfu⟩ : ∃ m1 m2, f u = (m1, m2) := ⟨_, _, rfl⟩
            rw [hfx.out, hfu] at he2 hwn
            simp only at he2 hwn
            have hub := HLE.out.bd u (by rw [HR.out]; exact huL)
            rw [hfu] at hub
            simp only at hub
            have HHA : AwsR wr v L := H.out.below ((F5.out.trans (hst.out.fr.mono (by have := HB2.out.size; omega))).to_below (Nat.le_refl _) (by have := HB2.out.size; omega))
            have HHB : AtlR wr F mv := HA2.out.below ((FA.out.trans (hst.out.fr.mono (by omega))).to_below (Nat.le_refl _) (by omega))
            have HHC : MapF elmL wr bm nm (lm (labM R f)) := hst.out.fr.mapF M5.out (by omega) (by omega)
            have HHD : StrR wr (.slice Ar i cr) R := HR5.out.frB hst.out.fr (by omega) NB5.out
            have hback := back_any v mv (.slice Ar i cr) bm nm L F R f x Bb (w2.heap.size + 1) hs wr HHA hlL HHB HHC HHD HRF.out hxR.out (by rw [← HR.out]; exact HLE.out.bd) HRL.out u g hbk hst.out.wy (by omega) hwr5 (by omega)
            rw [hfx.out, hfu] at hback
            simp only at hback
            have HBK := Lib.hid hback
            have HWN := Lib.hid hwn
            have HHP := Lib.hid he2
            have HUB := Lib.hid hub
            have HFU := Lib.hid hfu
            have HUR := Lib.hid huL
            have hgt : decide (0 < l2) = true := decide_eq_true hp
            have HB5 := Lib.hid hBb
            have HLN := Lib.hid hlen
            have HLG := Lib.hid hlg
            clear hback hbk hwn HHA HHB HHC HHD he2 hub hfu huL hxL hBb hlen hl0 hlg hp
            go_wp2_with fail
            refine HBK.out.mono ?_
            rintro e w7 ⟨rfl, hwy7, hfr7, hty7, hkp7⟩
            have hbB : w2.heap.size + 1 < Bb := by omega
            have S7 := Lib.hid (wyS_next (u := u) (m1 := m1) (m2 := m2) hst.out hbB HB5.out hwy7 hfr7 hty7 hkp7)
            obtain ⟨cur, zz, hty⟩ := hst.out.ty
            have L7 := hst.out.lb.block (hty7 q cur zz hty (by omega)) hfr7.size
            have HWY : Hid (wayN (hopsL L) (wtF F) f R m2.toNat u ++ (hs ++ [g]).reverse = wayTo (hopsL L) (wtF F) f R t) := by
              have h1 := hway.out
              rw [HWN.out] at h1
              unfold Hid
              rw [← h1]; simp
            clear hwy7 hfr7 hty7 hkp7 hty z0 z1 z2 zf0 zf1 zf2 zlt HBK hst hway HWN hgt
            obtain ⟨z0, z1, z2, zf0, zf1, zf2, zlt⟩ := L7
            go_wp2
            have hub := HUB.out
            have he2 := HHP.out
            go_roundg (m2.toNat)
            case measure => have := HLG.out; omega
            case rel => exact ⟨u, hs ++ [g], w7.heap.size, m1, m2, by first | rfl | simp, HFU, HUR, S7, HWY, by rw [List.length_append]; show hs.length + 1 + _ ≤ _; have := HLN.out; omega, by omega, Nat.le_refl _⟩
          · have hl20 : l2 = 0 := by omega
            subst hl20
            have hwe := hway.out
            rw [show (0 : Int).toNat = 0 from rfl, show wayN (hopsL L) (wtF F) f R 0 x = [] from rfl, List.nil_append] at hwe
            have HWE := Lib.hid hwe
            have F9 := Lib.hid hst.out.fr
            have KP := Lib.hid hst.out.kp
            obtain ⟨hv, hc, hown9⟩ := hst.out.wy.cell
            have HOW := Lib.hid hown9
            clear hway hwe hst hown9 hown
            go_wp2_with fail
            refine (rev_hops Bb hv hs _ HOW.out (by omega) hwr5).mono ?_
            rintro e w9 ⟨rfl, hh9, hb9⟩
            have F99 := Lib.hid (F9.out.trans (FrB.below hb9 (Nat.le_refl _)))
            have hbB : w2.heap.size + 1 < Bb := by omega
            have hb8 : w.heap.size < w2.heap.size := C2.out.2.2.2.2.2.2
            have OWZ := Lib.hid (FrB.own OWL.out F99.out (by omega) hbw4)
            have q0 : w9.cell? ⟨w2.heap.size + 1, 0, none⟩ = some hv := (hb9.cell (p := ⟨w2.heap.size + 1, 0, none⟩) hbB).trans hc
            have q1 : w9.cell? ⟨w2.heap.size + 1, 1, none⟩ = some (.int .i64 t1) := (hb9.cell (p := ⟨w2.heap.size + 1, 1, none⟩) hbB).trans ((KP.out 1 (by decide)).trans c1)
            have q2 : w9.cell? ⟨w2.heap.size + 1, 2, none⟩ = some lv := (hb9.cell (p := ⟨w2.heap.size + 1, 2, none⟩) hbB).trans ((KP.out 2 (by decide)).trans c2)
            have FW9 := Lib.hid ((F5.out.trans (F99.out.mono (by omega))).to_below (Nat.le_refl _) (by omega))
            have FA9 := Lib.hid ((FA.out.trans (F99.out.mono (by omega))).to_below (Nat.le_refl _) (by omega))
            obtain ⟨b0, b1, b2, bf0, bf1, bf2, blt⟩ := C2.out
            have r0 := (FA9.out.cell (p := ⟨w.heap.size, 0, none⟩) hb8).trans b0
            have r1 := (FA9.out.cell (p := ⟨w.heap.size, 1, none⟩) hb8).trans b1
            have r2 := (FA9.out.cell (p := ⟨w.heap.size, 2, none⟩) hb8).trans b2
            have rf0 := (FA9.out.frozen (p := ⟨w.heap.size, 0, none⟩) hb8).trans bf0
            have rf1 := (FA9.out.frozen (p := ⟨w.heap.size, 1, none⟩) hb8).trans bf1
            have rf2 := (FA9.out.frozen (p := ⟨w.heap.size, 2, none⟩) hb8).trans bf2
            have hlt9 := HOW.out.lt
            have hnq : hv.ownBlock ≠ some w.heap.size := fun e => by have := (hlt9 _ e).1; omega
            have HH : Hid (HpsR (((w9.setCell ⟨w.heap.size, 0, none⟩ hv).setCell ⟨w.heap.size, 1, none⟩ (.int .i64 t1)).setCell ⟨w.heap.size, 2, none⟩ lv) hv hs.reverse) := ((hh9.setne hnq 0 _).setne hnq 1 _).setne hnq 2 _
            have HLB : Hid (LbsR (((w9.setCell ⟨w.heap.size, 0, none⟩ hv).setCell ⟨w.heap.size, 1, none⟩ (.int .i64 t1)).setCell ⟨w.heap.size, 2, none⟩ lv) lv (labsOf R f)) := Rd.of_own (own_setlow (own_setlow (own_setlow OWZ.out (by omega) 0 _) (by omega) 1 _) (by omega) 2 _)
            have HBL : Hid (Below w.heap.size w (((w9.setCell ⟨w.heap.size, 0, none⟩ hv).setCell ⟨w.heap.size, 1, none⟩ (.int .i64 t1)).setCell ⟨w.heap.size, 2, none⟩ lv)) := ((FW9.out.setCell (Nat.le_refl _) _).setCell (Nat.le_refl _) _).setCell (Nat.le_refl _) _
            obtain ⟨Av, cv, rfl, _, _⟩ := (Rd.of_own HOW.out).form
            obtain ⟨Al, cl, rfl, _, _⟩ := (Rd.of_own OWL.out).form
            clear hh9 hb9 b0 b1 b2 bf0 bf1 bf2 c1 c2 hc z0 z1 z2 zf0 zf1 zf2 zlt hlt9 hnq hb blt
            go_wp2
            refine bodyPost_ret (v := .tuple #[.agg #[.slice Av hs.length cv, .int .i64 t1, .slice Al (labsOf R f).length cl], .int .i64 0]) (by simp [results, Tryz.results10, go_sem, r0, r1, r2]; try rfl) rfl ?_
            refine ⟨f, _, _, _, _, rfl, HBL.out, .inr ⟨rfl, HOP.out, by rw [HR.out]; exact HTR.out, HLE.out, by rw [HFT.out], ?_, ?_⟩⟩
            · rw [HR.out, ← HWE.out]; exact HH.out
            · rw [HR.out]; exact HLB.out
end Go.Proofs.YtgnnblkpjankgaaGreatDoor
