/-
  Contract: Reach of the program.
-/
import Derived.Test.YtgnnblkpjankgaaGreatDoorReachP
import Derived.Test.YtgnnblkpjankgaaGreatDoorReachL
import Derived.Test.YtgnnblkpjankgaaGreatDoorAwTextL
namespace Go.Proofs.YtgnnblkpjankgaaGreatDoor
open Go.RowKit
set_option linter.unusedVariables false
set_option linter.unusedSimpArgs false

theorem chkLFrom_all : ∀ (L : List Aw), chkLFrom L = 0 → ∀ a ∈ L, chkA a.name a.pts = 0
  | [], _, a, h => by cases h
  | b :: L, hc, a, h => by
    have hc2 : (if chkA b.name b.pts = 0 then chkLFrom L else chkA b.name b.pts) = 0 := hc
    split at hc2
    · next h0 =>
      rcases List.mem_cons.1 h with rfl | h
      · exact h0
      · exact chkLFrom_all L hc2 a h
    · next h0 => exact absurd hc2 h0
theorem chkL_all {L : List Aw} (h : chkL L = 0) : ∀ a ∈ L, chkA a.name a.pts = 0 := by
  unfold chkL at h
  split at h
  · cases h
  · exact chkLFrom_all L h
theorem allRefs_len : ∀ (L : List Aw), (∀ a ∈ L, a.pts.length ≤ 40) → (allRefs L).length ≤ 40 * L.length
  | [], _ => by simp [allRefs]
  | b :: L, h => by
    have h1 := h b (by simp)
    have h2 := allRefs_len L (fun a ha => h a (List.mem_cons_of_mem _ ha))
    have e : allRefs (b :: L) = b.pts.map (·.ref) ++ allRefs L := by unfold allRefs; rw [List.flatMap_cons]
    rw [e, List.length_append, List.length_map, List.length_cons]; omega
theorem chkL_refs {L : List Aw} (h : chkL L = 0) : (allRefs L).length ≤ 100000 := by
  have h1 := chkL_small h
  have h2 := allRefs_len L (fun a ha => chk_small (chkL_all h a ha))
  omega
theorem chkL_fit {L : List Aw} (h : chkL L = 0) : FitL L := by
  intro x hx
  unfold allRefs at hx
  rw [List.mem_flatMap] at hx
  obtain ⟨a, ha, hx⟩ := hx
  rw [List.mem_map] at hx
  obtain ⟨p, hp, rfl⟩ := hx
  obtain ⟨j, hj, rfl⟩ := List.mem_iff_getElem.1 hp
  have := ((chk_has (chkL_all h a ha)).2.2.2 j hj).1
  unfold maxLen
  omega
def rcL (L : List Aw) (r : List UInt8) : List Rf := if chkL L = 0 then reachL L r else []
def ReachTPost (L : List Aw) (r : List UInt8) (w : World) (e : Ending) (w' : World) : Prop := ∃ v, e = .returned (.tuple #[v, .int .i64 (chkL L)]) ∧ StrR w' v (rcL L r) ∧ Below w.heap.size w w'
theorem strR_nil (w : World) : StrR w (.slice none 0 0) [] := ⟨rfl, none, 0, rfl, Nat.le_refl _, by unfold maxLen; omega, fun h => absurd h (by decide)⟩
theorem StrR.below {w w' : World} {v : Value} {l : List (List UInt8)} (h : StrR w v l) (hb : Below w.heap.size w w') : StrR w' v l := Rd.below h hb
set_option maxHeartbeats 1000000 in
theorem reachT_any (v : Value) (L : List Aw) (r : ByteArray) (w : World) (h : AwsR w v L) (hr : r.size ≤ maxLen) :
    Calls Tryz.prog 19 #[v, .string r] w (ReachTPost L (bl r) w) := by
  have H := Lib.hid h
  have HR := Lib.hid hr
  clear h hr
  obtain ⟨x, hx⟩ : ∃ x, chkL L = x := ⟨_, rfl⟩
  have HX := Lib.hid hx
  have HP : Hid (∀ (v' : Value) (w' : World), StrR w' v' (rcL L (bl r)) → Below w.heap.size w w' → ReachTPost L (bl r) w (.returned (.tuple #[v', .int .i64 x])) w') := fun v' w' h1 h2 => ⟨v', by rw [HX.out], h1, h2⟩
  clear hx
  go_enter Tryz.func19, Tryz.ntmps19
  go_wp2_with fail
  refine (checkL_any v L _ H.out).mono ?_
  rintro e w1 ⟨rfl, hb1⟩
  rw [HX.out]
  by_cases h0 : x = 0
  · have e1 : (x != 0) = false := by rw [h0]; rfl
    have H0 := Lib.hid h0
    have HC := Lib.hid (HX.out.trans h0)
    rw [h0] at HP
    clear h0
    go_wp2_with fail
    refine (reach_any v L r _ (H.out.below hb1) (chkL_small HC.out) HR.out (chkL_fit HC.out) (chkL_refs HC.out)).mono ?_
    rintro e w2 ⟨v2, rfl, hv2, hb2⟩
    have HV := Lib.hid hv2
    clear hv2
    go_wp2
    go_ret2
    exact HP.out _ _ (by unfold rcL; rw [if_pos HC.out]; exact HV.out) (Below.then_ hb1 hb2)
  · have e1 : (x != 0) = true := bne_iff_ne.2 h0
    have H0 := Lib.hid h0
    clear h0
    go_wp2
    go_ret2
    exact HP.out _ _ (by unfold rcL; rw [if_neg (by rw [HX.out]; exact H0.out)]; exact strR_nil _) hb1
end Go.Proofs.YtgnnblkpjankgaaGreatDoor
