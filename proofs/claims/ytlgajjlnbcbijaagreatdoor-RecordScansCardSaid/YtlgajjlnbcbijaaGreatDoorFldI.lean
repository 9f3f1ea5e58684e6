/-
  Plain words: the fields of a line as a scanner takes them.
-/
import Derived.Test.YtlgajjlnbcbijaaGreatDoorRSplit
import Derived.Test.YtlgajjlnbcbijaaGreatDoorScanR
namespace Go.Proofs.YtlgajjlnbcbijaaGreatDoor
open Go.RowKit
set_option linter.unusedVariables false
set_option linter.unusedSimpArgs false

/-- fields with columns that may be any number -/
def fldI (fs : List Fld) : List FldI := fs.map fun f => (f.1, (f.2 : Int))
theorem fldI_cells (fs : List Fld) : ficells (fldI fs) = fcells fs := by
  unfold ficells fldI fcells
  rw [List.flatMap_map]
theorem fldI_len (fs : List Fld) : (fldI fs).length = fs.length := by unfold fldI; rw [List.length_map]
theorem fieldsGo_le (l : List UInt8) : ∀ (cur : List UInt8) (st pos : Nat), (∀ f ∈ fieldsGo cur st pos l, f.1.length ≤ cur.length + l.length) ∧ (fieldsGo cur st pos l).length ≤ l.length + 1 := by
  induction l with
  | nil =>
    intro cur st pos
    unfold fieldsGo
    split
    · exact ⟨by simp, by simp⟩
    · exact ⟨by simp, by simp⟩
  | cons c l ih =>
    intro cur st pos
    unfold fieldsGo
    rw [List.length_cons]
    split
    · split
      · have := ih [] 0 (pos + 1)
        refine ⟨fun f hf => ?_, by omega⟩
        have := this.1 f hf
        simp at this
        omega
      · have := ih [] 0 (pos + 1)
        refine ⟨fun f hf => ?_, by rw [List.length_cons]; omega⟩
        rw [List.mem_cons] at hf
        rcases hf with rfl | hf
        · show cur.length ≤ _; omega
        · have := this.1 f hf
          simp at this
          omega
    · have := ih (cur ++ [c]) (if cur = [] then pos else st) (pos + 1)
      refine ⟨fun f hf => ?_, by omega⟩
      have := this.1 f hf
      rw [List.length_append, List.length_singleton] at this
      omega
theorem cutAt_fst_len (c : UInt8) (l : List UInt8) : (cutAt c l).1.length ≤ l.length := by
  rcases cutAt_spec c l with ⟨_, h, _⟩ | ⟨_, _, h, _⟩
  · have := congrArg List.length h
    rw [List.length_append, List.length_cons] at this
    omega
  · rw [h]; exact Nat.le_refl _
theorem splitF_small (l : List UInt8) : (∀ f ∈ splitF l, f.1.length ≤ 200) ∧ (splitF l).length ≤ 201 := by
  unfold splitF
  split
  · exact ⟨by simp, by simp⟩
  · rename_i hl
    split
    · unfold fieldsL
      have h := fieldsGo_le (cutAt 35 l).1 [] 0 0
      have h2 := cutAt_fst_len 35 l
      refine ⟨fun f hf => ?_, by omega⟩
      have := h.1 f hf
      simp at this
      omega
    · exact ⟨by simp, by simp⟩
theorem fsr_of {w : World} {v : Value} {fs : List Fld} (h : RdT w 158 2 v fs.length (fcells fs)) (hs : ∀ f ∈ fs, f.1.length ≤ 200) : FsR w w.heap.size v (fldI fs) := by
  obtain ⟨⟨hl, A, c, hv, hc, hm, hr⟩, _⟩ := h
  refine ⟨A, c, by rw [fldI_len]; exact hv, by rw [fldI_len]; exact hc, hm, ?_, fun h0 => ?_⟩
  · intro f hf
    unfold fldI at hf
    rw [List.mem_map] at hf
    obtain ⟨f', hf', rfl⟩ := hf
    have := hs f' hf'
    unfold maxLen
    show f'.1.length ≤ _
    omega
  · rw [fldI_len] at h0
    obtain ⟨g, o, hA, hg, hx⟩ := hr h0
    refine ⟨g, o, hA, hg, ?_⟩
    rw [fldI_cells]; exact hx
theorem fldI_small {fs : List Fld} {N M : Nat} (hs : ∀ f ∈ fs, f.1.length ≤ N) (hNM : N ≤ M) : ∀ f ∈ fldI fs, f.1.length ≤ M := by
  intro f hf
  unfold fldI at hf
  rw [List.mem_map] at hf
  obtain ⟨f', hf', rfl⟩ := hf
  have := hs f' hf'
  show f'.1.length ≤ _
  omega
end Go.Proofs.YtlgajjlnbcbijaaGreatDoor
