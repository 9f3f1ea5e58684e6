/-
  A slice of bytes among the arguments, as a list.
-/
import Derived.Test.YtlgajjlnbcbijaaGreatDoorLawScans
import Derived.Test.YtlgajjlnbcbijaaGreatDoorRowA
import Derived.ChangeSlices
namespace Go.Proofs.YtlgajjlnbcbijaaGreatDoor
open Go.ChangeShapes Go.WideShapes Go.ChangeAt Go.RowKit
set_option linter.unusedVariables false
set_option linter.unusedSimpArgs false

section
variable {H : Type} {enc : TypeId × Value → H} {w : World} {base : Nat} {held : Bool}
theorem cU8 : Tryz.prog.cellsOf 5 = 1 := by kernel_rfl
theorem open_u8s {fuel : Nat} {v : Value} {x : DataW H × List MemPlace} (h : DataW.trod enc Tryz.prog w base (fun _ => true) held fuel 40 [v] = some x) : ∃ zs : List Int, U8R w v zs := by
  rcases open_ints Tryz.underlying40 Tryz.underlying5 cU8 h with ⟨hcs, _⟩ | ⟨a, len, cap, zs, hcs, hb, hl, hm, hz, hx, hc, hw⟩
  · obtain rfl : v = .slice none 0 0 := by simpa using hcs
    exact ⟨[], none, 0, rfl, Nat.le_refl _, by unfold maxLen; omega, by simp, fun h => absurd h (by simp)⟩
  · obtain rfl : v = .slice (some a) len cap := by simpa using hcs
    simp only [if_true] at hz
    have hlen : (zs.take len).length = len := by rw [List.length_take]; omega
    refine ⟨zs.take len, some a, cap, by rw [hlen], by rw [hlen]; exact hl, hm, fun n hn => ?_, fun h0 => ?_⟩
    · have := hw n (List.mem_of_mem_take hn)
      unfold Lit.wf at this
      rw [Bool.and_eq_true, decide_eq_true_iff, decide_eq_true_iff] at this
      exact ⟨this.1, this.2⟩
    · rw [hlen] at h0
      obtain ⟨g, o, sp⟩ := a
      have h00 := hc 0 (by omega)
      have hsp : sp = none := by have := World.cell?_spot h00; simpa [Addr.add] using this
      subst hsp
      have h1 : ∀ i, i < zs.length → w.cell? ⟨g, o + i, none⟩ = some (.int .u8 (zs.getD i 0)) := by
        intro i hi
        have := hc i hi
        rwa [Go.WideShapes.add_plain] at this
      refine ⟨g, o, rfl, cell_lt (h1 0 (by omega)), fun i hi => ?_⟩
      have hi2 : i < zs.length := by rw [hlen] at hi; omega
      rw [h1 i hi2, List.getElem_take, List.getD_eq_getElem?_getD, List.getElem?_eq_getElem hi2]; rfl
end
end Go.Proofs.YtlgajjlnbcbijaaGreatDoor
