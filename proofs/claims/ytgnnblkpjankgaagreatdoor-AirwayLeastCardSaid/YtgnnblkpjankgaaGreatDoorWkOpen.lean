/-
  Arguments that are walks, trips and ways, opened to cells.
-/
import Derived.Test.YtgnnblkpjankgaaGreatDoorLawLea
import Derived.Test.YtgnnblkpjankgaaGreatDoorAwOpen
import Derived.ChangeSlices
import Derived.ProofKit
namespace Go.Proofs.YtgnnblkpjankgaaGreatDoor
open Go.ChangeShapes Go.WideShapes Go.ChangeAt Go.Deep Go.RowKit
set_option linter.unusedVariables false
set_option linter.unusedSimpArgs false

section
variable {H : Type} {enc : TypeId × Value → H} {w : World} {base : Nat} {held : Bool}
theorem cU8W : Tryz.prog.cellsOf 5 = 1 := by kernel_rfl
theorem cBytes : Tryz.prog.cellsOf 40 = 1 := by kernel_rfl
theorem cWalk : Tryz.prog.cellsOf 42 = 2 := by kernel_rfl
theorem open_bts {fuel : Nat} {v : Value} {x : DataW H × List MemPlace} (h : DataW.trod enc Tryz.prog w base (fun _ => true) held fuel 40 [v] = some x) : ∃ zs : List Int, BtR w v zs := by
  rcases open_ints Tryz.underlying40 Tryz.underlying5 cU8W h with ⟨hcs, _⟩ | ⟨a, len, cap, zs, hcs, hb, hl, hm, hz, hx, hc, hw⟩
  · obtain rfl : v = .slice none 0 0 := by simpa using hcs
    exact ⟨[], none, 0, rfl, Nat.le_refl _, by unfold maxLen; omega, by simp, fun h => absurd h (by simp)⟩
  · obtain rfl : v = .slice (some a) len cap := by simpa using hcs
    simp only [if_true] at hz
    have hlen : (zs.take len).length = len := by rw [List.length_take]; omega
    refine ⟨zs.take len, some a, cap, by rw [hlen], by rw [hlen]; exact hl, hm, fun n hn => ?_, fun h0 => ?_⟩
    · have := hw n (List.mem_of_mem_take hn)
      unfold Lit.wf at this
      rw [Bool.and_eq_true, decide_eq_true_iff, decide_eq_true_iff] at this
      exact ⟨this.1, this.2⟩
    · rw [hlen] at h0
      obtain ⟨g, o, sp⟩ := a
      have h00 := hc 0 (by omega)
      have hsp : sp = none := by have := World.cell?_spot h00; simpa [Addr.add] using this
      subst hsp
      have h1 : ∀ i, i < zs.length → w.cell? ⟨g, o + i, none⟩ = some (.int .u8 (zs.getD i 0)) := by
        intro i hi
        have := hc i hi
        rwa [Go.WideShapes.add_plain] at this
      refine ⟨g, o, rfl, cell_lt (h1 0 (by omega)), fun i z hi => ?_⟩
      obtain ⟨hi1, hi3⟩ := List.getElem?_eq_some_iff.1 hi
      have hi2 : i < zs.length := by rw [hlen] at hi1; omega
      rw [h1 i hi2, ← hi3, List.getElem_take, List.getD_eq_getElem?_getD, List.getElem?_eq_getElem hi2]; rfl
set_option maxRecDepth 100000 in
theorem open_walk {fuel : Nat} {cs : List Value} {x : DataW H × List MemPlace} (h : DataW.trod enc Tryz.prog w base (fun _ => true) held fuel 42 cs = some x) : ∃ (nm : ByteArray) (pv : Value) (zs : List Int), cs = [.string nm, pv] ∧ nm.size ≤ maxLen ∧ BtR w pv zs := by
  obtain ⟨ys, n, _, _, hl, hyl, hf⟩ := DataW.trod_struct Tryz.underlying42 h
  rw [cWalk] at hl
  match cs, hl with
  | [c0, c1], _ =>
    have h0 : DataW.trod enc Tryz.prog w base (fun _ => true) held n 9 (([c0, c1].drop 0).take (Tryz.prog.cellsOf 9)) = ys[0]? := hf 0 _ rfl
    have h1 : DataW.trod enc Tryz.prog w base (fun _ => true) held n 40 (([c0, c1].drop 1).take (Tryz.prog.cellsOf 40)) = ys[1]? := hf 1 _ rfl
    rw [cString] at h0
    rw [cBytes] at h1
    match ys, hyl with
    | [z0, z1], _ =>
      obtain ⟨s, e0, _, hs⟩ := DataW.trod_string Tryz.underlying9 (show DataW.trod enc Tryz.prog w base (fun _ => true) held n 9 [c0] = some z0 from h0)
      obtain ⟨l, hp⟩ := open_bts (show DataW.trod enc Tryz.prog w base (fun _ => true) held n 40 [c1] = some z1 from h1)
      obtain rfl : c0 = .string s := by simpa using e0
      exact ⟨s, c1, l, rfl, hs, hp⟩
end
end Go.Proofs.YtgnnblkpjankgaaGreatDoor
