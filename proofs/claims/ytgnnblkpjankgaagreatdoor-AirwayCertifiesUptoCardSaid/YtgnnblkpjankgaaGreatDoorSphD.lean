/-
  Contracts: the distance of two positions; both sides.
-/
import Derived.Test.YtgnnblkpjankgaaGreatDoorSphQ
import Derived.Deep.RegionHeld3
import Derived.Deep.CutBlock
namespace Go.Proofs.YtgnnblkpjankgaaGreatDoor
open Go.RowKit
set_option linter.unusedVariables false
set_option linter.unusedSimpArgs false
/-- two positions' boxes -/
def PosB (b : Nat) (la lo : Int) (w : World) : Prop := w.cell? ⟨b, 0, none⟩ = some (.int .i64 la) ∧ w.cell? ⟨b, 1, none⟩ = some (.int .i64 lo)
theorem PosB.below {b : Nat} {la lo : Int} {w w' : World} (h : PosB b la lo w) (hb : b < w.heap.size) {B : Nat} (hbe : Below B w w') (hB : b < B) : PosB b la lo w' :=
  ⟨(hbe.cell (p := ⟨b, 0, none⟩) hB).trans h.1, (hbe.cell (p := ⟨b, 1, none⟩) hB).trans h.2⟩
/-- a direction's box -/
def VecB (b : Nat) (u : V3) (w : World) : Prop := w.cell? ⟨b, 0, none⟩ = some (.int .i64 u.x) ∧ w.cell? ⟨b, 1, none⟩ = some (.int .i64 u.y) ∧ w.cell? ⟨b, 2, none⟩ = some (.int .i64 u.z) ∧ b < w.heap.size
/-- a world in which two boxes of the call's own lie -/
def DT (w T : World) : Prop := Below w.heap.size w T ∧ w.heap.size + 1 < T.heap.size
theorem DT.alloc {w T : World} (o : Obj) (h : DT w T) : DT w (T.alloc o) := ⟨h.1.alloc h.1.size o, by rw [World.size_alloc]; have := h.2; omega⟩
theorem DT.setCell {w T : World} (q : Addr) (v : Value) (hq : w.heap.size ≤ q.block) (h : DT w T) : DT w (T.setCell q v) := ⟨h.1.setCell hq v, by rw [World.size_setCell]; exact h.2⟩
theorem DT.via {w T wa : World} (hb : Below T.heap.size T wa) (h : DT w T) : DT w wa := ⟨Below.then_ h.1 hb, Nat.lt_of_lt_of_le h.2 hb.size⟩
def DSq (w : World) (x0 x1 y0 y1 : Option Value) (T : World) : Prop := T.cell? ⟨w.heap.size, 0, none⟩ = x0 ∧ T.cell? ⟨w.heap.size, 1, none⟩ = x1 ∧ T.cell? ⟨w.heap.size + 1, 0, none⟩ = y0 ∧ T.cell? ⟨w.heap.size + 1, 1, none⟩ = y1
theorem ds_below {w : World} {x0 x1 y0 y1 : Option Value} {T wa : World} (hb : Below T.heap.size T wa) (d : DT w T) (h : T.cell? ⟨w.heap.size, 0, none⟩ = x0 ∧ T.cell? ⟨w.heap.size, 1, none⟩ = x1 ∧ T.cell? ⟨w.heap.size + 1, 0, none⟩ = y0 ∧ T.cell? ⟨w.heap.size + 1, 1, none⟩ = y1) :
    wa.cell? ⟨w.heap.size, 0, none⟩ = x0 ∧ wa.cell? ⟨w.heap.size, 1, none⟩ = x1 ∧ wa.cell? ⟨w.heap.size + 1, 0, none⟩ = y0 ∧ wa.cell? ⟨w.heap.size + 1, 1, none⟩ = y1 :=
  have hs := d.2
  ⟨(hb.cell (p := ⟨w.heap.size, 0, none⟩) (by show w.heap.size < _; omega)).trans h.1, (hb.cell (p := ⟨w.heap.size, 1, none⟩) (by show w.heap.size < _; omega)).trans h.2.1, (hb.cell (p := ⟨w.heap.size + 1, 0, none⟩) hs).trans h.2.2.1, (hb.cell (p := ⟨w.heap.size + 1, 1, none⟩) hs).trans h.2.2.2⟩
theorem ds_alloc {w : World} {x0 x1 y0 y1 : Option Value} {T : World} (o : Obj) (d : DT w T) (h : T.cell? ⟨w.heap.size, 0, none⟩ = x0 ∧ T.cell? ⟨w.heap.size, 1, none⟩ = x1 ∧ T.cell? ⟨w.heap.size + 1, 0, none⟩ = y0 ∧ T.cell? ⟨w.heap.size + 1, 1, none⟩ = y1) :
    (T.alloc o).cell? ⟨w.heap.size, 0, none⟩ = x0 ∧ (T.alloc o).cell? ⟨w.heap.size, 1, none⟩ = x1 ∧ (T.alloc o).cell? ⟨w.heap.size + 1, 0, none⟩ = y0 ∧ (T.alloc o).cell? ⟨w.heap.size + 1, 1, none⟩ = y1 := ds_below ((Below.refl _ T).alloc (Nat.le_refl _) o) d h
theorem ds_set {w : World} {x0 x1 y0 y1 : Option Value} {T : World} (q : Addr) (v : Value) (hs : w.heap.size + 1 < q.block) (h : T.cell? ⟨w.heap.size, 0, none⟩ = x0 ∧ T.cell? ⟨w.heap.size, 1, none⟩ = x1 ∧ T.cell? ⟨w.heap.size + 1, 0, none⟩ = y0 ∧ T.cell? ⟨w.heap.size + 1, 1, none⟩ = y1) :
    (T.setCell q v).cell? ⟨w.heap.size, 0, none⟩ = x0 ∧ (T.setCell q v).cell? ⟨w.heap.size, 1, none⟩ = x1 ∧ (T.setCell q v).cell? ⟨w.heap.size + 1, 0, none⟩ = y0 ∧ (T.setCell q v).cell? ⟨w.heap.size + 1, 1, none⟩ = y1 := by
  have k : ∀ c j, c ≤ w.heap.size + 1 → (T.setCell q v).cell? ⟨c, j, none⟩ = T.cell? ⟨c, j, none⟩ := fun c j hc => World.cell?_setCell_other _ _ _ _ (fun e => by rw [e] at hs; simp at hs; omega)
  exact ⟨(k _ _ (by omega)).trans h.1, (k _ _ (by omega)).trans h.2.1, (k _ _ (by omega)).trans h.2.2.1, (k _ _ (by omega)).trans h.2.2.2⟩
theorem new_gt {w T : World} (d : DT w T) : w.heap.size + 1 < T.heap.size := d.2
theorem new_gt1 {w T : World} (d : DT w T) : w.heap.size + 1 < T.heap.size + 1 := by have := d.2; omega
theorem new_le {w T : World} (d : DT w T) : w.heap.size ≤ T.heap.size := by have := d.2; omega
theorem new_le1 {w T : World} (d : DT w T) : w.heap.size ≤ T.heap.size + 1 := by have := d.2; omega
/-- a box of three numbers -/
def B3 (b : Nat) (x y z : Int) (T : World) : Prop := T.cell? ⟨b, 0, none⟩ = some (.int .i64 x) ∧ T.cell? ⟨b, 1, none⟩ = some (.int .i64 y) ∧ T.cell? ⟨b, 2, none⟩ = some (.int .i64 z) ∧ T.frozen? ⟨b, 0, none⟩ = false ∧ T.frozen? ⟨b, 1, none⟩ = false ∧ T.frozen? ⟨b, 2, none⟩ = false ∧ b < T.heap.size
theorem B3.via {b : Nat} {x y z : Int} {T wa : World} (hb : Below T.heap.size T wa) (h : B3 b x y z T) : B3 b x y z wa := by
  obtain ⟨h0, h1, h2, f0, f1, f2, hl⟩ := h
  exact ⟨(hb.cell (p := ⟨b, 0, none⟩) hl).trans h0, (hb.cell (p := ⟨b, 1, none⟩) hl).trans h1, (hb.cell (p := ⟨b, 2, none⟩) hl).trans h2, (hb.frozen (p := ⟨b, 0, none⟩) hl).trans f0, (hb.frozen (p := ⟨b, 1, none⟩) hl).trans f1, (hb.frozen (p := ⟨b, 2, none⟩) hl).trans f2, Nat.lt_of_lt_of_le hl hb.size⟩
theorem B3.grow {b : Nat} {x y z : Int} {T : World} (h : B3 b x y z T) (o : Obj) : B3 b x y z (T.alloc o) := B3.via ((Below.refl _ T).alloc (Nat.le_refl _) o) h
theorem B3.last (T : World) (x y z : Int) (t : TypeId) : B3 T.heap.size x y z (T.alloc (.cells #[.int .i64 x, .int .i64 y, .int .i64 z] t)) := by
  have h := heap_alloc_new T (.cells #[.int .i64 x, .int .i64 y, .int .i64 z] t)
  refine ⟨?_, ?_, ?_, ?_, ?_, ?_, by rw [World.size_alloc]; exact Nat.lt_succ_self _⟩
  · simp only [World.cell?, h, Option.bind_some, Bind.bind]; rfl
  · simp only [World.cell?, h, Option.bind_some, Bind.bind]; rfl
  · simp only [World.cell?, h, Option.bind_some, Bind.bind]; rfl
  · unfold World.frozen?; rw [h]; simp
  · unfold World.frozen?; rw [h]; simp
  · unfold World.frozen?; rw [h]; simp
theorem B3.last2 (T : World) (o : Obj) (x y z : Int) (t : TypeId) : B3 (T.heap.size + 1) x y z ((T.alloc o).alloc (.cells #[.int .i64 x, .int .i64 y, .int .i64 z] t)) := by
  have := B3.last (T.alloc o) x y z t
  rw [World.size_alloc] at this
  exact this
theorem B3.drew {b : Nat} {x y z : Int} {T : World} (h : B3 b x y z T) : B3 b x y z T.drew := h
theorem DT.drew {w T : World} (h : DT w T) : DT w T.drew := ⟨h.1.drew, h.2⟩
theorem DT.bel {w T : World} (h : DT w T) : Hid (Below w.heap.size w T) := h.1
theorem ds_drew {w : World} {x0 x1 y0 y1 : Option Value} {T : World} (h : T.cell? ⟨w.heap.size, 0, none⟩ = x0 ∧ T.cell? ⟨w.heap.size, 1, none⟩ = x1 ∧ T.cell? ⟨w.heap.size + 1, 0, none⟩ = y0 ∧ T.cell? ⟨w.heap.size + 1, 1, none⟩ = y1) :
    T.drew.cell? ⟨w.heap.size, 0, none⟩ = x0 ∧ T.drew.cell? ⟨w.heap.size, 1, none⟩ = x1 ∧ T.drew.cell? ⟨w.heap.size + 1, 0, none⟩ = y0 ∧ T.drew.cell? ⟨w.heap.size + 1, 1, none⟩ = y1 := h
/-- a call between: what stands in the new world -/
theorem of_arm {w T wa : World} {x0 x1 y0 y1 : Option Value} (hb : Below T.heap.size T wa) (h : T.cell? ⟨w.heap.size, 0, none⟩ = x0 ∧ T.cell? ⟨w.heap.size, 1, none⟩ = x1 ∧ T.cell? ⟨w.heap.size + 1, 0, none⟩ = y0 ∧ T.cell? ⟨w.heap.size + 1, 1, none⟩ = y1) (d : DT w T) :
    (wa.cell? ⟨w.heap.size, 0, none⟩ = x0 ∧ wa.cell? ⟨w.heap.size, 1, none⟩ = x1 ∧ wa.cell? ⟨w.heap.size + 1, 0, none⟩ = y0 ∧ wa.cell? ⟨w.heap.size + 1, 1, none⟩ = y1) ∧ DT w wa ∧ (∀ p : Addr, p.block < T.heap.size → wa.cell? p = T.cell? p) ∧ (∀ p : Addr, p.block < T.heap.size → wa.frozen? p = T.frozen? p) ∧ T.heap.size ≤ wa.heap.size :=
  ⟨ds_below hb d h, d.via hb, fun p hp => hb.cell hp, fun p hp => hb.frozen hp, hb.size⟩
set_option maxRecDepth 100000 in
set_option maxHeartbeats 4000000 in
theorem sdist_bad (la lo ma mo : Int) (w : World) (h : (vldB la lo && vldB ma mo) = false) :
    Calls Tryz.prog 15 #[.agg #[.int .i64 la, .int .i64 lo], .agg #[.int .i64 ma, .int .i64 mo]] w fun e w' => e = .returned (.tuple #[.int .i64 0, .int .i64 1]) ∧ Below w.heap.size w w' := by
  obtain ⟨W2, hW2⟩ : ∃ W2, (w.alloc (.cells #[.int .i64 la, .int .i64 lo] 51)).alloc (.cells #[.int .i64 ma, .int .i64 mo] 51) = W2 := ⟨_, rfl⟩
  have HB : Hid (Below w.heap.size w W2) := by rw [← hW2]; exact ((Below.refl _ _).alloc (Nat.le_refl _) _).alloc (by simp) _
  have HC : Hid (W2.cell? ⟨w.heap.size, 0, none⟩ = some (.int .i64 la) ∧ W2.cell? ⟨w.heap.size, 1, none⟩ = some (.int .i64 lo) ∧
      W2.cell? ⟨w.heap.size + 1, 0, none⟩ = some (.int .i64 ma) ∧ W2.cell? ⟨w.heap.size + 1, 1, none⟩ = some (.int .i64 mo) ∧ w.heap.size + 1 < W2.heap.size) := by rw [← hW2]; unfold Hid; simp [go_sem]
  obtain ⟨c0, c1, d0, d1, hsz⟩ := HC.out
  have hv1 := fun w => sValid_any la lo w
  have hv2 := fun w => sValid_any ma mo w
  cases h1 : vldB la lo
  · rw [h1] at hv1
    clear h h1 hv2
    go_enter Tryz.func15, Tryz.ntmps15
    go_wp2_with fail
    refine (hv1 _).mono ?_
    rintro e w1 ⟨rfl, hb1⟩
    have HE : Hid (Below w.heap.size w w1) := HB.out.trans (hb1.mono HB.out.size)
    clear hb1
    go_wp2
    go_ret2
    exact ⟨rfl, HE.out⟩
  · have h2 : vldB ma mo = false := by rw [h1] at h; exact h
    rw [h1] at hv1
    rw [h2] at hv2
    clear h h1 h2
    go_enter Tryz.func15, Tryz.ntmps15
    go_wp2_with fail
    refine (hv1 _).mono ?_
    rintro e w1 ⟨rfl, hb1⟩
    have HE : Hid (Below w.heap.size w w1) := HB.out.trans (hb1.mono HB.out.size)
    have e0 : w1.cell? ⟨w.heap.size + 1, 0, none⟩ = some (.int .i64 ma) := (hb1.cell (p := ⟨w.heap.size + 1, 0, none⟩) hsz).trans d0
    have e1 : w1.cell? ⟨w.heap.size + 1, 1, none⟩ = some (.int .i64 mo) := (hb1.cell (p := ⟨w.heap.size + 1, 1, none⟩) hsz).trans d1
    clear hb1
    go_wp2_with fail
    refine (hv2 _).mono ?_
    rintro e w2 ⟨rfl, hb2⟩
    have HE2 : Hid (Below w.heap.size w w2) := HE.out.trans (hb2.mono HE.out.size)
    clear hb2
    go_wp2
    go_ret2
    exact ⟨rfl, HE2.out⟩
theorem VecB.drewN {b : Nat} {u : V3} {w : World} (h : VecB b u w) (n : Nat) : VecB b u (w.drewN n) := h
theorem bel_drewN {B : Nat} {w w' : World} (h : Below B w w') (n : Nat) : Below B w (w'.drewN n) := ⟨h.1, h.2, h.3, h.4, h.5⟩
theorem mixedD : Tryz.prog.follows .mixedOrders = true := by kernel_rfl
/-! ### a region whose callees leave what was there -/
structure BelBy (w : World) where
  x : World
  h : Below w.heap.size w x
instance (w : World) : Inhabited (BelBy w) := ⟨⟨w, Below.refl _ w⟩⟩
theorem wp_region_quiet_bel {P : Program} {id : Nat} {Q : Exit → Act → World → Prop} {a : Act} {w : World} {l : List Oper} (hm : P.follows .mixedOrders = true) (hB : Region.lexB .any l.toArray = true)
    (h : wpQuiet P l.toArray (fun w' => ∃ p : BelBy w, w' = p.x) (fun a' => ∀ w', (∃ p : BelBy w, w' = p.x) → Q .normal a' w') l a) : (Code.region id l.toArray true).wp P Q a w :=
  wp_region_quiet (C := fun w' => ∃ p : BelBy w, w' = p.x) hm hB ⟨⟨w.drew, (Below.refl _ w).drew⟩, rfl⟩ (by simpa using h)
theorem Calls.bel_of {P : Program} {f : FuncId} {args : Array Value} {w : World} {p : BelBy w} {v : Value}
    (h : Calls P f args p.x fun e w' => e = .returned v ∧ Below p.x.heap.size p.x w') : Calls P f args p.x fun e w'' => e = .returned v ∧ ∃ q : BelBy w, w'' = q.x :=
  h.mono fun _ _ ⟨he, hb⟩ => ⟨he, ⟨⟨_, Below.then_ p.h hb⟩, rfl⟩⟩
theorem Calls.bel_same {P : Program} {f : FuncId} {args : Array Value} {w : World} {p : BelBy w} {v : Value}
    (h : Calls P f args p.x fun e w' => e = .returned v ∧ w' = p.x) : Calls P f args p.x fun e w'' => e = .returned v ∧ ∃ q : BelBy w, w'' = q.x :=
  h.mono fun _ _ ⟨he, hb⟩ => ⟨he, ⟨p, hb⟩⟩
theorem VecB.by {b : Nat} {u : V3} {w : World} (h : VecB b u w) : ∀ p : BelBy w, p.x.cell? ⟨b, 0, none⟩ = some (.int .i64 u.x) ∧ p.x.cell? ⟨b, 1, none⟩ = some (.int .i64 u.y) ∧ p.x.cell? ⟨b, 2, none⟩ = some (.int .i64 u.z) := fun p =>
  ⟨(p.h.cell (p := ⟨b, 0, none⟩) h.2.2.2).trans h.1, (p.h.cell (p := ⟨b, 1, none⟩) h.2.2.2).trans h.2.1, (p.h.cell (p := ⟨b, 2, none⟩) h.2.2.2).trans h.2.2.1⟩
set_option maxRecDepth 100000 in
set_option maxHeartbeats 40000000 in
theorem sdist_ok (la lo ma mo : Int) (w : World) (h1 : vldB la lo = true) (h2 : vldB ma mo = true) :
    Calls Tryz.prog 15 #[.agg #[.int .i64 la, .int .i64 lo], .agg #[.int .i64 ma, .int .i64 mo]] w fun e w' => e = .returned (.tuple #[.int .i64 (distV (vecOf la lo) (vecOf ma mo)), .int .i64 0]) ∧ Below w.heap.size w w' := by
  obtain ⟨W2, hW2⟩ : ∃ W2, (w.alloc (.cells #[.int .i64 la, .int .i64 lo] 51)).alloc (.cells #[.int .i64 ma, .int .i64 mo] 51) = W2 := ⟨_, rfl⟩
  have HB : Hid (Below w.heap.size w W2) := by rw [← hW2]; exact ((Below.refl _ _).alloc (Nat.le_refl _) _).alloc (by simp) _
  have HC : Hid (W2.cell? ⟨w.heap.size, 0, none⟩ = some (.int .i64 la) ∧ W2.cell? ⟨w.heap.size, 1, none⟩ = some (.int .i64 lo) ∧
      W2.cell? ⟨w.heap.size + 1, 0, none⟩ = some (.int .i64 ma) ∧ W2.cell? ⟨w.heap.size + 1, 1, none⟩ = some (.int .i64 mo) ∧ w.heap.size + 1 < W2.heap.size) := by rw [← hW2]; unfold Hid; simp [go_sem]
  obtain ⟨c0, c1, d0, d1, hsz⟩ := HC.out
  have hv1 := fun w => sValid_any la lo w
  have hv2 := fun w => sValid_any ma mo w
  have o1 := fun w => of_any la lo w h1
  have o2 := fun w => of_any ma mo w h2
  rw [h1] at hv1
  rw [h2] at hv2
  obtain ⟨u, hu⟩ : ∃ u, vecOf la lo = u := ⟨_, rfl⟩
  obtain ⟨v, hv⟩ : ∃ v, vecOf ma mo = v := ⟨_, rfl⟩
  have HU : Hid u.Ok := hu ▸ vec_ok la lo
  have HV : Hid v.Ok := hv ▸ vec_ok ma mo
  rw [hu] at o1
  rw [hv] at o2
  rw [hu, hv]
  clear hu hv h1 h2
  obtain ⟨dist, hdist⟩ : ∃ d, distV u v = d := ⟨_, rfl⟩
  have HD := Lib.hid hdist
  rw [hdist]
  clear hdist
  go_enter Tryz.func15, Tryz.ntmps15
  go_wp2_with fail
  refine (hv1 _).mono ?_
  rintro e w1 ⟨rfl, hb1⟩
  have HE : Hid (Below w.heap.size w w1) := HB.out.trans (hb1.mono HB.out.size)
  have k0 : w1.cell? ⟨w.heap.size, 0, none⟩ = some (.int .i64 la) := (hb1.cell (p := ⟨w.heap.size, 0, none⟩) (by show w.heap.size < _; omega)).trans c0
  have k1 : w1.cell? ⟨w.heap.size, 1, none⟩ = some (.int .i64 lo) := (hb1.cell (p := ⟨w.heap.size, 1, none⟩) (by show w.heap.size < _; omega)).trans c1
  have e0 : w1.cell? ⟨w.heap.size + 1, 0, none⟩ = some (.int .i64 ma) := (hb1.cell (p := ⟨w.heap.size + 1, 0, none⟩) hsz).trans d0
  have e1 : w1.cell? ⟨w.heap.size + 1, 1, none⟩ = some (.int .i64 mo) := (hb1.cell (p := ⟨w.heap.size + 1, 1, none⟩) hsz).trans d1
  have hsz1 : w.heap.size + 1 < w1.heap.size := Nat.lt_of_lt_of_le hsz hb1.size
  clear hb1 c0 c1 d0 d1 hsz hW2 HB HC
  go_wp2_with fail
  refine (hv2 _).mono ?_
  rintro e w2 ⟨rfl, hb2⟩
  have HE2 : Hid (Below w.heap.size w w2) := HE.out.trans (hb2.mono HE.out.size)
  have c0 : w2.cell? ⟨w.heap.size, 0, none⟩ = some (.int .i64 la) := (hb2.cell (p := ⟨w.heap.size, 0, none⟩) (by show w.heap.size < _; omega)).trans k0
  have c1 : w2.cell? ⟨w.heap.size, 1, none⟩ = some (.int .i64 lo) := (hb2.cell (p := ⟨w.heap.size, 1, none⟩) (by show w.heap.size < _; omega)).trans k1
  have d0 : w2.cell? ⟨w.heap.size + 1, 0, none⟩ = some (.int .i64 ma) := (hb2.cell (p := ⟨w.heap.size + 1, 0, none⟩) hsz1).trans e0
  have d1 : w2.cell? ⟨w.heap.size + 1, 1, none⟩ = some (.int .i64 mo) := (hb2.cell (p := ⟨w.heap.size + 1, 1, none⟩) hsz1).trans e1
  have hsz : w.heap.size + 1 < w2.heap.size := Nat.lt_of_lt_of_le hsz1 hb2.size
  clear hb2 k0 k1 e0 e1 hsz1 HE
  go_wp2_with fail
  unfold vcV at o1 o2
  clear hv1 hv2
  go_cut [6, 7] from 23 to 26 (fun a b wx => ∃ p q, a = .pointer (some ⟨p, 0, none⟩) ∧ b = .pointer (some ⟨q, 0, none⟩) ∧ Hid (Below w.heap.size w wx) ∧ Hid (VecB p u wx) ∧ Hid (VecB q v wx))
  · have HS0 : w2.drew.cell? ⟨w.heap.size, 0, none⟩ = some (.int .i64 la) ∧ w2.drew.cell? ⟨w.heap.size, 1, none⟩ = some (.int .i64 lo) ∧ w2.drew.cell? ⟨w.heap.size + 1, 0, none⟩ = some (.int .i64 ma) ∧ w2.drew.cell? ⟨w.heap.size + 1, 1, none⟩ = some (.int .i64 mo) := ⟨c0, c1, d0, d1⟩
    have HS00 : w2.cell? ⟨w.heap.size, 0, none⟩ = some (.int .i64 la) ∧ w2.cell? ⟨w.heap.size, 1, none⟩ = some (.int .i64 lo) ∧ w2.cell? ⟨w.heap.size + 1, 0, none⟩ = some (.int .i64 ma) ∧ w2.cell? ⟨w.heap.size + 1, 1, none⟩ = some (.int .i64 mo) := ⟨c0, c1, d0, d1⟩
    have D0 : DT w w2.drew := ⟨HE2.out.drew, hsz⟩
    have D00 : DT w w2 := ⟨HE2.out, hsz⟩
    clear c0 c1 d0 d1 hsz HE2
    go_region_held3 (fun wx => wx.cell? ⟨w.heap.size, 0, none⟩ = some (.int .i64 la) ∧ wx.cell? ⟨w.heap.size, 1, none⟩ = some (.int .i64 lo) ∧ wx.cell? ⟨w.heap.size + 1, 0, none⟩ = some (.int .i64 ma) ∧ wx.cell? ⟨w.heap.size + 1, 1, none⟩ = some (.int .i64 mo))
      (repeat (first
      | with_reducible assumption
      | with_reducible refine ds_drew ?_
      | with_reducible refine ds_set _ _ (by with_reducible first | exact new_gt (by assumption) | exact new_gt1 (by assumption)) ?_
      | with_reducible refine ds_alloc _ (by repeat (first | with_reducible assumption | with_reducible (first | refine DT.alloc _ ?_ | refine DT.drew ?_) | with_reducible refine DT.setCell _ _ (by with_reducible first | exact new_le (by assumption) | exact new_le1 (by assumption)) ?_)) ?_))
      (first
      | (go_at_call 41; (first | with_reducible refine (o1 _).mono ?_ | with_reducible refine (o2 _).mono ?_); rintro e wa ⟨rfl, hb⟩; have hA := of_arm hb (by with_reducible assumption) (by repeat (first | with_reducible assumption | with_reducible (first | refine DT.alloc _ ?_ | refine DT.drew ?_))); obtain ⟨hS, D0, hk, hf, hle⟩ := hA;
         (first | (with_reducible have hz1 := B3.via hb (B3.grow (B3.last _ _ _ _ _) _)) | (with_reducible have hz1 := B3.via hb (B3.drew (B3.grow (B3.last _ _ _ _ _) _))) | skip);
         (try (with_reducible have hz1 := B3.via hb (B3.grow hz2 _)));
         (try (with_reducible have hz1 := B3.via hb hz1));
         (try (with_reducible have hz2 := B3.via hb hz2));
         (first | (with_reducible have hz2 := B3.via hb (B3.last2 _ _ _ _ _ _)) | (with_reducible have hz2 := B3.via hb (B3.last _ _ _ _ _)) | (with_reducible have hz2 := B3.via hb (B3.drew (B3.last2 _ _ _ _ _ _))) | (with_reducible have hz2 := B3.via hb (B3.drew (B3.last _ _ _ _ _))) | skip);
         (try (have hy := hz1; obtain ⟨y0, y1, y2, y3, y4, y5, y6⟩ := hy)); (try (have hy := hz2; obtain ⟨x0, x1, x2, x3, x4, x5, x6⟩ := hy)); clear hb hk hf)
      | fail)
    all_goals go_wp2
    all_goals go_meet
    all_goals refine ⟨_, _, rfl, rfl, ?_, ?_, ?_⟩
    all_goals first
      | (refine (DT.bel ?_); (repeat (first | with_reducible assumption | with_reducible (first | refine DT.alloc _ ?_ | refine DT.drew ?_) | with_reducible refine DT.setCell _ _ (by with_reducible first | exact new_le (by assumption) | exact new_le1 (by assumption)) ?_)); done)
      | (unfold Hid VecB; refine ⟨?_, ?_, ?_, ?_⟩ <;> simp [go_sem, *] <;> done)
      | skip
  · obtain ⟨p, q, rfl, rfl, HB1, HU1, HV1⟩ := hcut
    have P := pair_ok HU.out HV.out
    have p1 := prod_bd _ _ HU.out.y HV.out.z
    have p2 := prod_bd _ _ HU.out.z HV.out.y
    have p3 := prod_bd _ _ HU.out.z HV.out.x
    have p4 := prod_bd _ _ HU.out.x HV.out.z
    have p5 := prod_bd _ _ HU.out.x HV.out.y
    have p6 := prod_bd _ _ HU.out.y HV.out.x
    obtain ⟨hq1, hq2, hq3, hnz⟩ := P
    have hdo : ∀ W, Calls Tryz.prog 46 #[vcV u, vcV v] W fun e w' => e = .returned (.int .i64 (rnd (u.dot v))) ∧ Below W.heap.size W w' := fun W => sdot_any u v W HU.out HV.out
    obtain ⟨dd, hdd⟩ : ∃ d, rnd (u.dot v) = d := ⟨_, rfl⟩
    have hdb : -2147483647 ≤ dd ∧ dd ≤ 2147483647 := by rw [← hdd]; unfold rnd; omega
    have HD1 : Hid (atZ (isq (rnd (u.c1 v).natAbs * rnd (u.c1 v).natAbs + rnd (u.c2 v).natAbs * rnd (u.c2 v).natAbs + rnd (u.c3 v).natAbs * rnd (u.c3 v).natAbs).toNat) (rnd (u.dot v)) = dist) := HD.out
    rw [hdd] at hdo hnz HD1
    have k1 : u.c1 v = u.y * v.z - u.z * v.y := rfl
    have k2 : u.c2 v = u.z * v.x - u.x * v.z := rfl
    have k3 : u.c3 v = u.x * v.y - u.y * v.x := rfl
    rw [k1, k2, k3] at hq3 hnz HD1
    unfold vcV at hdo
    unfold VecB at HU1 HV1
    clear k1 k2 k3 hdd hq1 hq2 HU HV HD o1 o2
    obtain ⟨ux, uy, uz⟩ := u
    obtain ⟨vx, vy, vz⟩ := v
    simp only at p1 p2 p3 p4 p5 p6 hq3 hnz hdo HD1 HU1 HV1
    obtain ⟨a1, ha1⟩ : ∃ a, uy * vz = a := ⟨_, rfl⟩
    obtain ⟨a2, ha2⟩ : ∃ a, uz * vy = a := ⟨_, rfl⟩
    obtain ⟨a3, ha3⟩ : ∃ a, uz * vx = a := ⟨_, rfl⟩
    obtain ⟨a4, ha4⟩ : ∃ a, ux * vz = a := ⟨_, rfl⟩
    obtain ⟨a5, ha5⟩ : ∃ a, ux * vy = a := ⟨_, rfl⟩
    obtain ⟨a6, ha6⟩ : ∃ a, uy * vx = a := ⟨_, rfl⟩
    rw [ha1, ha2, ha3, ha4, ha5, ha6] at hq3 hnz HD1
    rw [ha1] at p1
    rw [ha2] at p2
    rw [ha3] at p3
    rw [ha4] at p4
    rw [ha5] at p5
    rw [ha6] at p6
    have A1 := fun W => abs_any (a1 - a2) W (by omega) (by omega)
    have A2 := fun W => abs_any (a3 - a4) W (by omega) (by omega)
    have A3 := fun W => abs_any (a5 - a6) W (by omega) (by omega)
    have R1 := fun W => sround_any ((a1 - a2).natAbs : Int) W (by omega) (by omega)
    have R2 := fun W => sround_any ((a3 - a4).natAbs : Int) W (by omega) (by omega)
    have R3 := fun W => sround_any ((a5 - a6).natAbs : Int) W (by omega) (by omega)
    have n1 : 0 ≤ rnd ((a1 - a2).natAbs : Int) ∧ rnd ((a1 - a2).natAbs : Int) ≤ 2147483648 := by unfold rnd; omega
    have n2 : 0 ≤ rnd ((a3 - a4).natAbs : Int) ∧ rnd ((a3 - a4).natAbs : Int) ≤ 2147483648 := by unfold rnd; omega
    have n3 : 0 ≤ rnd ((a5 - a6).natAbs : Int) ∧ rnd ((a5 - a6).natAbs : Int) ≤ 2147483648 := by unfold rnd; omega
    obtain ⟨m1, hm1⟩ : ∃ m, rnd ((a1 - a2).natAbs : Int) = m := ⟨_, rfl⟩
    obtain ⟨m2, hm2⟩ : ∃ m, rnd ((a3 - a4).natAbs : Int) = m := ⟨_, rfl⟩
    obtain ⟨m3, hm3⟩ : ∃ m, rnd ((a5 - a6).natAbs : Int) = m := ⟨_, rfl⟩
    rw [hm1] at n1 R1
    rw [hm2] at n2 R2
    rw [hm3] at n3 R3
    rw [hm1, hm2, hm3] at hq3 hnz HD1
    clear hm1 hm2 hm3
    have z1 := sq_nonneg m1
    have z2 := sq_nonneg m2
    have z3 := sq_nonneg m3
    have y1 : m1 * m1 = 0 → m1 = 0 := fun h => by rcases Int.mul_eq_zero.1 h with h | h <;> exact h
    have y2 : m2 * m2 = 0 → m2 = 0 := fun h => by rcases Int.mul_eq_zero.1 h with h | h <;> exact h
    have y3 : m3 * m3 = 0 → m3 = 0 := fun h => by rcases Int.mul_eq_zero.1 h with h | h <;> exact h
    obtain ⟨q1, hs1⟩ : ∃ a, m1 * m1 = a := ⟨_, rfl⟩
    obtain ⟨q2, hs2⟩ : ∃ a, m2 * m2 = a := ⟨_, rfl⟩
    obtain ⟨q3, hs3⟩ : ∃ a, m3 * m3 = a := ⟨_, rfl⟩
    rw [hs1] at z1 y1
    rw [hs2] at z2 y2
    rw [hs3] at z3 y3
    rw [hs1, hs2, hs3] at hq3 HD1
    obtain ⟨N, hN⟩ : ∃ N : Nat, (N : Int) = q1 + q2 + q3 := ⟨(q1 + q2 + q3).toNat, by omega⟩
    have hNt : (q1 + q2 + q3).toNat = N := by omega
    rw [hNt] at HD1
    have SQ := fun W => sqrt_any N W (by omega)
    have hrb : (isq N : Int) ≤ 2147483647 := by have := isq_bd (n := N) (by omega); omega
    have hr0 : 0 ≤ (isq N : Int) := by omega
    have AT := fun W => atan_any (isq N : Int) dd W hr0 hrb hdb.1 hdb.2 (fun ⟨h1, h2⟩ => hnz (by
      have h3 : N = 0 := isq_zero (by omega)
      exact ⟨y1 (by omega), y2 (by omega), y3 (by omega), h1⟩))
    rw [HD1.out] at AT
    obtain ⟨r, hr⟩ : ∃ r, (isq N : Int) = r := ⟨_, rfl⟩
    rw [hr] at AT SQ
    rw [hN] at SQ
    clear HD1 hnz hrb hr0 hr y1 y2 y3 hN hNt hdb
    go_wp2
    go_loopg [8, 27] 3 (fun g a b wr => ((b = .int .i64 0 ∧ a = .int .i64 0 ∧ 3 ≤ g) ∨ (b = .int .i64 1 ∧ a = .int .i64 q1 ∧ 2 ≤ g) ∨ (b = .int .i64 2 ∧ a = .int .i64 (q1 + q2) ∧ 1 ≤ g) ∨ (b = .int .i64 3 ∧ a = .int .i64 (q1 + q2 + q3))) ∧ Hid (Below w.heap.size w wr) ∧ Hid (VecB p ⟨ux, uy, uz⟩ wr) ∧ Hid (VecB q ⟨vx, vy, vz⟩ wr))
    case atStart => exact ⟨.inl ⟨rfl, rfl, Nat.le_refl _⟩, HB1, HU1, HV1⟩
    case round =>
      obtain ⟨hc, hb, hu, hv⟩ := hrel
      obtain ⟨c0, c1, c2, c3⟩ := hu.out
      obtain ⟨d0, d1, d2, d3⟩ := hv.out
      simp only at c0 c1 c2 d0 d1 d2
      rcases hc with ⟨rfl, rfl, hg⟩ | ⟨rfl, rfl, hg⟩ | ⟨rfl, rfl, hg⟩ | ⟨rfl, rfl⟩
      · go_wp2_with fail
        go_quiet (first | (go_at_call 43; exact Calls.quiet_of_same ((A1 _).mono fun e w' ⟨h1, h2⟩ => ⟨h1, h2.symm⟩)) | (go_at_call 42; exact Calls.quiet_of_same ((R1 _).mono fun e w' ⟨h1, h2⟩ => ⟨h1, h2.symm⟩)))
        go_wp2
        go_roundg (2)
        case measure => omega
        case rel => exact ⟨.inr (.inl ⟨by go_num, by go_num, Nat.le_refl _⟩), bel_drewN hb.out _, hu.out.drewN _, hv.out.drewN _⟩
      · go_wp2_with fail
        go_quiet (first | (go_at_call 43; exact Calls.quiet_of_same ((A2 _).mono fun e w' ⟨h1, h2⟩ => ⟨h1, h2.symm⟩)) | (go_at_call 42; exact Calls.quiet_of_same ((R2 _).mono fun e w' ⟨h1, h2⟩ => ⟨h1, h2.symm⟩)))
        go_wp2
        go_roundg (1)
        case measure => omega
        case rel => exact ⟨.inr (.inr (.inl ⟨by go_num, by go_num, Nat.le_refl _⟩)), bel_drewN hb.out _, hu.out.drewN _, hv.out.drewN _⟩
      · go_wp2_with fail
        go_quiet (first | (go_at_call 43; exact Calls.quiet_of_same ((A3 _).mono fun e w' ⟨h1, h2⟩ => ⟨h1, h2.symm⟩)) | (go_at_call 42; exact Calls.quiet_of_same ((R3 _).mono fun e w' ⟨h1, h2⟩ => ⟨h1, h2.symm⟩)))
        go_wp2
        go_roundg (0)
        case measure => omega
        case rel => exact ⟨.inr (.inr (.inr ⟨by go_num, by go_num⟩)), bel_drewN hb.out _, hu.out.drewN _, hv.out.drewN _⟩
      · have F0 := fun p => (hu.out.by p).1
        have F1 := fun p => (hu.out.by p).2.1
        have F2 := fun p => (hu.out.by p).2.2
        have G0 := fun p => (hv.out.by p).1
        have G1 := fun p => (hv.out.by p).2.1
        have G2 := fun p => (hv.out.by p).2.2
        have mixed := mixedD
        simp only at F0 F1 F2 G0 G1 G2
        go_wp2_with fail
        refine wp_region_quiet_bel (by assumption) (by kernel_rfl) ?_
        repeat (quiet_step (first
          | (go_at_call 45; exact Calls.bel_same (SQ _))
          | (go_at_call 46; exact Calls.bel_of (hdo _))
          | (go_at_call 44; exact Calls.bel_of (AT _))))
        refine wpQuiet_nil ?_
        rintro wz ⟨pz, hz⟩
        have HE : Hid (Below w.heap.size w wz) := by rw [hz]; exact Below.then_ hb.out pz.h
        clear hz pz F0 F1 F2 G0 G1 G2
        go_wp2
        go_ret2
        exact ⟨rfl, HE.out⟩
end Go.Proofs.YtgnnblkpjankgaaGreatDoor
