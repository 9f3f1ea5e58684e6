/-
  The walk of the law RecordNil.
-/
import Derived.Test.YtlgajjlnbcbijaaGreatDoorScanY
import Derived.Test.YtlgajjlnbcbijaaGreatDoorScanN
import Derived.Test.YtlgajjlnbcbijaaGreatDoorAwake
import Derived.Deep.RegionHeld3
namespace Go.Proofs.YtlgajjlnbcbijaaGreatDoor
open Go.RowKit
set_option linter.unusedVariables false
set_option linter.unusedSimpArgs false

/-- a diagnostic in a box -/
def DgB (w : World) (b : Nat) (x y z : Int) : Prop := w.heap[b]? = some (.cells #[.int .i64 x, .int .i64 y, .int .i64 z] 74 (0, 0))
theorem DgB.below {w w' : World} {b : Nat} {x y z : Int} (h : DgB w b x y z) (hb : Below w.heap.size w w') : DgB w' b x y z := (hb.block b (Array.getElem?_eq_some_iff.1 h).1).trans h
theorem DgB.cells {w : World} {b : Nat} {x y z : Int} (h : DgB w b x y z) : w.cell? ⟨b, 0, none⟩ = some (.int .i64 x) ∧ w.cell? ⟨b, 1, none⟩ = some (.int .i64 y) ∧ w.cell? ⟨b, 2, none⟩ = some (.int .i64 z) ∧ b < w.heap.size :=
  ⟨blkCell h 0 rfl, blkCell h 1 rfl, blkCell h 2 rfl, (Array.getElem?_eq_some_iff.1 h).1⟩
theorem DgB.free {w : World} {b : Nat} {x y z : Int} (h : DgB w b x y z) : w.frozen? ⟨b, 0, none⟩ = false ∧ w.frozen? ⟨b, 1, none⟩ = false ∧ w.frozen? ⟨b, 2, none⟩ = false :=
  ⟨blkFree h 0, blkFree h 1, blkFree h 2⟩
theorem DgB.off {w w' : World} {g b : Nat} {x y z : Int} (h : DgB w b x y z) (ho : Off g w w') (hb : b ≠ g) : DgB w' b x y z :=
  (ho.block b (Array.getElem?_eq_some_iff.1 h).1 (by intro e; injection e with e; exact hb e)).trans h
theorem dgB_new (w : World) (x y z : Int) : DgB (w.alloc (.cells #[.int .i64 x, .int .i64 y, .int .i64 z] 74)) w.heap.size x y z := heap_alloc_new w _
structure NilS (w0 : World) (b : Nat) (w : World) : Prop where
  b0 : Below w0.heap.size w0 w
  b1 : DgB w b 0 0 0
theorem NilS.then_ {w0 w w' : World} {b : Nat} (h : NilS w0 b w) (hb : Below w.heap.size w w') : NilS w0 b w' := ⟨Below.then_ h.b0 hb, h.b1.below hb⟩
theorem NilS.drew {w0 w : World} {b : Nat} (h : NilS w0 b w) : NilS w0 b w.drew := h.then_ (Below.refl _ _).drew
theorem NilS.drewN {w0 w : World} {b : Nat} (h : NilS w0 b w) (n : Nat) : NilS w0 b (w.drewN n) := h.then_ (below_drewN' (Below.refl _ _) n)
theorem NilS.alloc {w0 w : World} {b : Nat} (h : NilS w0 b w) (o : Obj) : NilS w0 b (w.alloc o) := h.then_ ((Below.refl _ _).alloc (Nat.le_refl _) o)
structure NilT (w0 : World) (bx g : Nat) (s : Sc) (w : World) : Prop where
  b0 : Below w0.heap.size w0 w
  b1 : DgB w bx 0 0 0
  sc : ScP w g s
  lt : bx < g
  le : w0.heap.size ≤ bx
theorem NilT.then_ {w0 w w' : World} {bx g : Nat} {s : Sc} (h : NilT w0 bx g s w) (hb : Below w.heap.size w w') : NilT w0 bx g s w' :=
  ⟨Below.then_ h.b0 hb, h.b1.below hb, h.sc.below hb, h.lt, h.le⟩
theorem NilT.off {w0 w w' : World} {bx g : Nat} {s s' : Sc} (h : NilT w0 bx g s w) (hp : ScPost s' g w w') : NilT w0 bx g s' w' :=
  ⟨hp.2.below h.b0 (by have := h.lt; have := h.le; omega) h.b0.size, h.b1.off hp.2 (by have := h.lt; omega), hp.1, h.lt, h.le⟩
theorem NilT.facts {w0 w : World} {bx g : Nat} {s : Sc} (h : NilT w0 bx g s w) : bx < w.heap.size ∧ w.frozen? ⟨bx, 0, none⟩ = false ∧ w.frozen? ⟨bx, 1, none⟩ = false ∧ w.frozen? ⟨bx, 2, none⟩ = false ∧ ∃ x y z, w.cell? ⟨bx, 0, none⟩ = some (.int .i64 x) ∧ w.cell? ⟨bx, 1, none⟩ = some (.int .i64 y) ∧ w.cell? ⟨bx, 2, none⟩ = some (.int .i64 z) :=
  ⟨h.b1.cells.2.2.2, h.b1.free.1, h.b1.free.2.1, h.b1.free.2.2, _, _, _, h.b1.cells.1, h.b1.cells.2.1, h.b1.cells.2.2.1⟩
theorem NilT.store {w0 w : World} {bx g : Nat} (h : NilT w0 bx g (scan0 3 []) w) : NilT w0 bx g (scan0 3 []) (((w.setCell ⟨bx, 0, none⟩ (.int .i64 0)).setCell ⟨bx, 1, none⟩ (.int .i64 0)).setCell ⟨bx, 2, none⟩ (.int .i64 0)) := by
  refine ⟨((h.b0.setCell h.le _).setCell h.le _).setCell h.le _, blkSet (blkSet (blkSet h.b1 0 _) 1 _) 2 _, ?_, h.lt, h.le⟩
  obtain ⟨h1, v, h2, A, c, hv, hc, hm, hf, hr⟩ := h.sc
  have hne : ∀ (ww : World) (j : Nat) (u : Value), (ww.setCell ⟨bx, j, none⟩ u).heap[g]? = ww.heap[g]? := fun ww j u => heap_setCell_other ww ⟨bx, j, none⟩ g u (fun e => by simp only at e; have := h.lt; omega)
  exact ⟨h1, v, by rw [hne, hne, hne]; exact h2, A, c, hv, hc, hm, hf, fun h0 => absurd h0 (by decide)⟩
theorem nil_note {er : Int} (h : er ≠ 0) : ((scan0 3 []).note (scan0 3 []).la er).endL = 3 ∧ ((scan0 3 []).note (scan0 3 []).la er).endC = 1 ∧ ((scan0 3 []).note (scan0 3 []).la er).endE = er ∧ ((scan0 3 []).note (scan0 3 []).la er).endB = true := by
  rw [Sc.note_set rfl _ h]
  have hb : ({ scan0 3 [] with dl := (scan0 3 []).num, dc := (scan0 3 []).la, de := er } : Sc).bad = true := Sc.bad_iff.2 h
  obtain ⟨h1, h2, h3, h4⟩ := end_bad hb
  rw [h1, h2, h3, h4]; exact ⟨rfl, rfl, rfl, rfl⟩
set_option maxRecDepth 100000 in
set_option maxHeartbeats 4000000 in
theorem recordNil_walk (er : Int) (w : World) (E : Env w) :
    Calls Tryz.prog 7 #[.int .i64 er] w fun e w' => e = .returned (.bool true) ∧ Below w.heap.size w w' := by
  go_enter Tryz.func7, Tryz.ntmps7
  go_wp2_with fail
  refine (awake_any _ E).mono ?_
  rintro e w1 ⟨rfl, hb1⟩
  have HB1 := Lib.hid hb1
  clear hb1
  go_wp2_with fail
  refine (nfail_any er _).mono ?_
  rintro e w2 ⟨rfl, rfl⟩
  go_wp2_with fail
  refine (nend_any _).mono ?_
  rintro e w2 ⟨rfl, hb2⟩
  have Q : Hid (NilS w w2.heap.size (w2.alloc (.cells #[.int .i64 0, .int .i64 0, .int .i64 0] 74))) := ⟨(Below.then_ HB1.out hb2).alloc (Below.then_ HB1.out hb2).size _, dgB_new w2 0 0 0⟩
  have HZ2 : Hid (w.heap.size ≤ w2.heap.size) := by
    have h1 := HB1.out.size
    have h2 := hb2.size
    unfold Hid; omega
  clear hb2
  obtain ⟨d0, d1, d2, d3⟩ := Q.out.b1.cells
  clear d0 d1 d2 d3
  go_wp2_with fail
  refine (nleft_any _).mono ?_
  rintro e w3 ⟨rfl, rfl⟩
  go_wp2_with fail
  refine (nfield_any _).mono ?_
  rintro e w3 ⟨rfl, rfl⟩
  go_wp2_with fail
  refine (nword_any _ _).mono ?_
  rintro e w3 ⟨rfl, rfl⟩
  go_wp2_with fail
  refine (nname_any _ _).mono ?_
  rintro e w3 ⟨rfl, hb⟩
  have Q3 := Lib.hid ((Q.out.alloc _).then_ hb)
  clear hb Q
  go_wp2_with fail
  refine (nnumber_any _ _ _).mono ?_
  rintro e w4 ⟨rfl, hb⟩
  have Q4 := Lib.hid (Q3.out.then_ hb)
  clear hb Q3
  go_wp2_with fail
  refine (nposS_any _).mono ?_
  rintro e w5 ⟨rfl, hb⟩
  have Q5 := Lib.hid (Q4.out.then_ hb)
  clear hb Q4
  go_wp2_with fail
  refine (naltS_any _).mono ?_
  rintro e w6 ⟨rfl, rfl⟩
  go_wp2_with fail
  refine (nwinS_any _).mono ?_
  rintro e w6 ⟨rfl, hb⟩
  have Q6 := Lib.hid (Q5.out.then_ hb)
  clear hb Q5
  go_wp2_with fail
  refine (ndistS_any _).mono ?_
  rintro e w7 ⟨rfl, rfl⟩
  go_wp2_with fail
  refine (nrest_any _).mono ?_
  rintro e w7 ⟨rfl, rfl⟩
  have HB6 := Lib.hid Q6.out.b0
  obtain ⟨d0, d1, d2, d3⟩ := Q6.out.b1.cells
  obtain ⟨f0, f1, f2⟩ := Q6.out.b1.free
  obtain ⟨bx, hbx⟩ : ∃ bx, w2.heap.size = bx := ⟨_, rfl⟩
  rw [hbx] at Q6 d0 d1 d2 d3 f0 f1 f2 HZ2
  rw [hbx]
  clear hbx
  go_wp2_with fail
  refine (scan_any 3 _ [] _ (fsr_nil _ _) (by simp)).mono ?_
  rintro e w7 ⟨g, rfl, hg, hs, hb⟩
  have T7 : Hid (NilT w bx g (scan0 3 []) w7) := ⟨Below.then_ HB6.out hb, Q6.out.b1.below hb, hs, by omega, HZ2.out⟩
  clear hb hs d0 d1 d2 d3 f0 f1 f2 Q6 HB6 hg
  go_wp2_with fail
  refine (left_any (scan0 3 []) g _ T7.out.sc).mono ?_
  rintro e w8 ⟨rfl, hd⟩
  rw [show (((scan0 3 []).left : Nat) : Int) = 0 from rfl]
  have T8 := Lib.hid (T7.out.then_ hd.below)
  clear hd T7
  go_wp2_with fail
  refine (rest_any (scan0 3 []) g _ T8.out.sc (by decide) (by decide)).mono ?_
  rintro e w9 ⟨rfl, hp⟩
  rw [show sb (Sc.restV (scan0 3 [])) = ⟨#[]⟩ from rfl]
  have T9 : Hid (NilT w bx g (scan0 3 []) w9) := T8.out.off hp
  clear hp T8
  go_wp2_with fail
  refine (endS_any (scan0 3 []) g _ T9.out.sc).mono ?_
  rintro e w10 ⟨rfl, hb⟩
  rw [show (scan0 3 []).endL = 0 from rfl, show (scan0 3 []).endC = 0 from rfl, show (scan0 3 []).endE = 0 from rfl, show (scan0 3 []).endB = false from rfl]
  have T10 := Lib.hid (T9.out.then_ hb)
  clear hb T9
  go_wp2_with fail
  refine (failS_any (scan0 3 []) er g _ T10.out.sc).mono ?_
  rintro e w11 ⟨rfl, hp⟩
  have T11 := Lib.hid (T10.out.off hp)
  clear hp T10
  go_wp2_with fail
  refine (endS_any _ g _ T11.out.sc).mono ?_
  rintro e w12 ⟨rfl, hb⟩
  have T12 := Lib.hid (T11.out.then_ hb)
  clear hb T11
  obtain ⟨b0, f0, f1, f2, x, y, z, c0, c1, c2⟩ := T12.out.facts
  have HLE := Lib.hid T12.out.le
  have HLT := Lib.hid T12.out.lt
  by_cases h0 : er = 0
  · subst h0
    rw [Sc.note_zero] at T12 ⊢
    rw [show (scan0 3 []).endL = 0 from rfl, show (scan0 3 []).endC = 0 from rfl, show (scan0 3 []).endE = 0 from rfl, show (scan0 3 []).endB = false from rfl]
    have T13 := Lib.hid T12.out.store
    clear T12
    go_wp2_with fail
    refine (field_any _ g _ T13.out.sc).mono ?_
    rintro e w13 ⟨rfl, hp⟩
    have T14 := Lib.hid (T13.out.off hp)
    clear hp T13
    go_wp2_with fail
    refine (endS_any _ g _ T14.out.sc).mono ?_
    rintro e w14 ⟨rfl, hb⟩
    rw [show (scan0 3 []).take.endL = 3 from rfl, show (scan0 3 []).take.endC = 1 from rfl, show (scan0 3 []).take.endE = 4 from rfl, show (scan0 3 []).take.endB = true from rfl]
    have T15 := Lib.hid (T14.out.then_ hb)
    clear hb T14 b0 f0 f1 f2 c0 c1 c2
    obtain ⟨b0, f0, f1, f2, x', y', z', c0, c1, c2⟩ := T15.out.facts
    have HB15 := Lib.hid T15.out.b0
    go_wp2
    go_ret
    exact ⟨rfl, by repeat (first | exact HB15.out | refine Below.setCell ?_ HLE.out _)⟩
  · obtain ⟨h1, h2, h3, h4⟩ := nil_note h0
    have e1 : (er == 0) = false := beq_eq_false_iff_ne.2 h0
    rw [h1, h2, h3, h4]
    have HB12 := Lib.hid T12.out.b0
    clear h1 h2 h3 h4 h0
    go_wp2
    go_ret
    exact ⟨rfl, by repeat (first | exact HB12.out | refine Below.setCell ?_ HLE.out _)⟩
end Go.Proofs.YtlgajjlnbcbijaaGreatDoor
