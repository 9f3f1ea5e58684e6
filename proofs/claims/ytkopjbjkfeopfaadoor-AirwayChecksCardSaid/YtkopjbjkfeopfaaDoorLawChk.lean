/-
  The walk of the law AirwayChecks.
-/
import Derived.Test.YtkopjbjkfeopfaaDoorAwAwake
import Derived.Deep.RegionHeld3
namespace Go.Proofs.YtkopjbjkfeopfaaDoor
open Go.RowKit
set_option linter.unusedVariables false
set_option linter.unusedSimpArgs false

/-- the world behind the boxes of two airways -/
def Box2 (w : World) (nm : ByteArray) (v : Value) (nm' : ByteArray) (v' : Value) (w1 : World) : Prop := Below (w.heap.size + 2) ((w.alloc (.cells #[.string nm, v] 24)).alloc (.cells #[.string nm', v'] 24)) w1
section
variable {w w1 w2 : World} {nm nm' : ByteArray} {v v' : Value}
theorem Box2.below (h : Box2 w nm v nm' v' w1) : Below w.heap.size w w1 := (((Below.refl w.heap.size w).alloc (Nat.le_refl _) _).alloc (by simp) _).trans (Below.mono h (by omega))
theorem Box2.size (h : Box2 w nm v nm' v' w1) : w.heap.size + 2 ≤ w1.heap.size := by have := Below.size h; simp at this; omega
theorem Box2.c0 (h : Box2 w nm v nm' v' w1) : w1.cell? ⟨w.heap.size, 0, none⟩ = some (.string nm) := (Below.cell h (p := ⟨w.heap.size, 0, none⟩) (by simp)).trans (by simp [go_sem])
theorem Box2.c1 (h : Box2 w nm v nm' v' w1) : w1.cell? ⟨w.heap.size, 1, none⟩ = some v := (Below.cell h (p := ⟨w.heap.size, 1, none⟩) (by simp)).trans (by simp [go_sem])
theorem Box2.d0 (h : Box2 w nm v nm' v' w1) : w1.cell? ⟨w.heap.size + 1, 0, none⟩ = some (.string nm') := (Below.cell h (p := ⟨w.heap.size + 1, 0, none⟩) (by simp)).trans (by simp [go_sem])
theorem Box2.d1 (h : Box2 w nm v nm' v' w1) : w1.cell? ⟨w.heap.size + 1, 1, none⟩ = some v' := (Below.cell h (p := ⟨w.heap.size + 1, 1, none⟩) (by simp)).trans (by simp [go_sem])
theorem Box2.then_ (h : Box2 w nm v nm' v' w1) (hb : Below w1.heap.size w1 w2) : Box2 w nm v nm' v' w2 := Below.trans h (hb.mono h.size)
theorem Box2.drew (h : Box2 w nm v nm' v' w1) : Box2 w nm v nm' v' w1.drew := h.then_ (Below.refl _ _).drew
theorem Box2.drewN (h : Box2 w nm v nm' v' w1) (k : Nat) : Box2 w nm v nm' v' (w1.drewN k) := h.then_ (below_drewN' (Below.refl _ _) k)
end
def TruePost (w : World) (e : Ending) (w' : World) : Prop := e = .returned (.bool true) ∧ Below w.heap.size w w'
set_option maxRecDepth 100000 in
set_option maxHeartbeats 8000000 in
theorem airwayChecks_walk (nm nm' s : ByteArray) (v v' : Value) (l m : List Pt) (w : World) (E : Env w) (h : PtsR w v l) (h' : PtsR w v' m) (hnm : nm.size ≤ maxLen) (hnm' : nm'.size ≤ maxLen) (hl : l.length ≤ 4398046511104) :
    Calls Tryd.prog 7 #[.agg #[.string nm, v], .agg #[.string nm', v'], .string s] w (TruePost w) := by
  have H := Lib.hid h
  have H' := Lib.hid h'
  have HL := Lib.hid hl
  have HNM := Lib.hid hnm
  clear h h' hl hnm hnm'
  have Q : Hid (Box2 w nm v nm' v' ((w.alloc (.cells #[.string nm, v] 24)).alloc (.cells #[.string nm', v'] 24))) := Below.refl _ _
  have HF : Hid (∀ w', Box2 w nm v nm' v' w' → TruePost w (.returned (.bool true)) w') := fun w' hq => ⟨rfl, hq.below⟩
  have hs0 : w.heap.size < w.heap.size + 1 := by omega
  have e1 : (chkA (bl nm) l == chkA (bl nm) l) = true := by simp
  have e2 : (idxOf l (bl s) == idxOf l (bl s)) = true := by simp
  go_enter Tryd.func7, Tryd.ntmps7
  go_wp2_with fail
  go_region_held3 (fun wx => wx.cell? ⟨w.heap.size, 0, none⟩ = some (.string nm) ∧ wx.cell? ⟨w.heap.size, 1, none⟩ = some v ∧ wx.cell? ⟨w.heap.size + 1, 0, none⟩ = some (.string nm') ∧ wx.cell? ⟨w.heap.size + 1, 1, none⟩ = some v')
    (first | go_keep | exact ⟨by assumption, by assumption, by assumption, by assumption⟩)
    (first
    | (go_at_call 8; refine (awake_any _ (E.below (by first | exact Q.out.drew.below | exact Q.out.below | exact (Q.out.drewN _).below))).mono ?_; rintro e w2 ⟨rfl, hb⟩; have Q := Lib.hid (by first | exact Q.out.drew.then_ hb | exact Q.out.then_ hb | exact (Q.out.drewN _).then_ hb : Box2 w nm v nm' v' w2); have c0 := Q.out.c0; have c1 := Q.out.c1; have d0 := Q.out.d0; have d1 := Q.out.d1; have cs := Q.out.size; clear hb)
    | (go_at_call 19; refine (check_any nm v l _ (H.out.below (by first | exact Q.out.below | exact Q.out.drew.below | exact (Q.out.drewN _).below)) HNM.out).mono ?_; rintro e w2 ⟨rfl, hb⟩; have Q := Lib.hid (by first | exact Q.out.then_ hb | exact Q.out.drew.then_ hb | exact (Q.out.drewN _).then_ hb : Box2 w nm v nm' v' w2); have c0 := Q.out.c0; have c1 := Q.out.c1; have d0 := Q.out.d0; have d1 := Q.out.d1; have cs := Q.out.size; clear hb)
    | (go_at_call 20; refine (rcheck_any nm v l _ (H.out.below (by first | exact Q.out.below | exact Q.out.drew.below | exact (Q.out.drewN _).below)) HNM.out).mono ?_; rintro e w2 ⟨rfl, hb⟩; have Q := Lib.hid (by first | exact Q.out.then_ hb | exact Q.out.drew.then_ hb | exact (Q.out.drewN _).then_ hb : Box2 w nm v nm' v' w2); have c0 := Q.out.c0; have c1 := Q.out.c1; have d0 := Q.out.d0; have d1 := Q.out.d1; have cs := Q.out.size; clear hb)
    | (go_at_call 21; refine (index_any nm s v l _ (H.out.below (by first | exact Q.out.below | exact Q.out.drew.below | exact (Q.out.drewN _).below))).mono ?_; rintro e w2 ⟨rfl, hb⟩; have Q := Lib.hid (by first | exact Q.out.then_ hb | exact Q.out.drew.then_ hb | exact (Q.out.drewN _).then_ hb : Box2 w nm v nm' v' w2); have c0 := Q.out.c0; have c1 := Q.out.c1; have d0 := Q.out.d0; have d1 := Q.out.d1; have cs := Q.out.size; clear hb)
    | (go_at_call 22; refine (rindex_any nm s v l _ (H.out.below (by first | exact Q.out.below | exact Q.out.drew.below | exact (Q.out.drewN _).below))).mono ?_; rintro e w2 ⟨rfl, hb⟩; have Q := Lib.hid (by first | exact Q.out.then_ hb | exact Q.out.drew.then_ hb | exact (Q.out.drewN _).then_ hb : Box2 w nm v nm' v' w2); have c0 := Q.out.c0; have c1 := Q.out.c1; have d0 := Q.out.d0; have d1 := Q.out.d1; have cs := Q.out.size; clear hb)
    | (go_at_call 23; refine (index_any_common nm nm' v v' l m _ (H.out.below (by first | exact Q.out.below | exact Q.out.drew.below | exact (Q.out.drewN _).below)) (H'.out.below (by first | exact Q.out.below | exact Q.out.drew.below | exact (Q.out.drewN _).below)) HL.out).mono ?_; rintro e w2 ⟨vp, rfl, hvp, hb⟩; have Q := Lib.hid (by first | exact Q.out.then_ hb | exact Q.out.drew.then_ hb | exact (Q.out.drewN _).then_ hb : Box2 w nm v nm' v' w2); have c0 := Q.out.c0; have c1 := Q.out.c1; have d0 := Q.out.d0; have d1 := Q.out.d1; have cs := Q.out.size; (try (have VR := Lib.hid (VR.out.below hb))); have VP := Lib.hid hvp; clear hvp; clear hb)
    | (go_at_call 24; refine (rindex_any_common nm nm' v v' l m _ (H.out.below (by first | exact Q.out.below | exact Q.out.drew.below | exact (Q.out.drewN _).below)) (H'.out.below (by first | exact Q.out.below | exact Q.out.drew.below | exact (Q.out.drewN _).below)) HL.out).mono ?_; rintro e w2 ⟨vr, rfl, hvr, hb⟩; have Q := Lib.hid (by first | exact Q.out.then_ hb | exact Q.out.drew.then_ hb | exact (Q.out.drewN _).then_ hb : Box2 w nm v nm' v' w2); have c0 := Q.out.c0; have c1 := Q.out.c1; have d0 := Q.out.d0; have d1 := Q.out.d1; have cs := Q.out.size; (try (have VP := Lib.hid (VP.out.below hb))); have VR := Lib.hid hvr; clear hvr; clear hb)
    | (go_at_call 17; refine (refs_same _ _ (comL l m) _ VP.out VR.out).mono ?_; rintro e w2 ⟨rfl, hb⟩; have Q := Lib.hid (by first | exact Q.out.then_ hb.below | exact Q.out.drew.then_ hb.below : Box2 w nm v nm' v' w2); have c0 := Q.out.c0; have c1 := Q.out.c1; have d0 := Q.out.d0; have d1 := Q.out.d1; have cs := Q.out.size; clear hb))
  all_goals
    go_wp2
    go_ret
    exact HF.out _ Q.out
end Go.Proofs.YtkopjbjkfeopfaaDoor
