/-
  Plain laws: the place of a reference in an ascending list.
-/
import Derived.Test.YtgnnblkpjankgaaGreatDoorReach
namespace Go.Proofs.YtgnnblkpjankgaaGreatDoor
set_option linter.unusedVariables false
set_option linter.unusedSimpArgs false

/-- the place at which a reference stands, or would stand -/
def plc (d : Rf) : List Rf → Nat
  | [] => 0
  | s :: l => if leB d s then 0 else plc d l + 1
theorem plc_le (d : Rf) : ∀ l, plc d l ≤ l.length
  | [] => Nat.le_refl _
  | s :: l => by
    unfold plc
    split
    · exact Nat.zero_le _
    · have := plc_le d l; simp only [List.length_cons]; omega
theorem insL_plc (d : Rf) : ∀ l, insL d l = l.take (plc d l) ++ d :: l.drop (plc d l)
  | [] => rfl
  | s :: l => by
    unfold insL plc
    split
    · rfl
    · rw [List.take_succ_cons, List.drop_succ_cons, List.cons_append, ← insL_plc d l]
/-- whether it stands there -/
theorem plc_mem (d : Rf) : ∀ l : List Rf, l.Pairwise (fun a b => leB a b = true) → (d ∈ l ↔ l[plc d l]? = some d)
  | [], _ => by simp [plc]
  | s :: l, h => by
    rw [List.pairwise_cons] at h
    unfold plc
    split
    · next hd =>
      rw [List.getElem?_cons_zero]
      constructor
      · intro hm
        rcases List.mem_cons.1 hm with rfl | hm
        · rfl
        · rw [leB_anti (h.1 d hm) hd]
      · intro he
        have : s = d := by simpa using he
        rw [this]; exact List.mem_cons_self ..
    · next hd =>
      rw [List.getElem?_cons_succ, ← plc_mem d l h.2, List.mem_cons]
      constructor
      · rintro (rfl | hm)
        · exact absurd (by unfold leB; exact decide_eq_true (List.le_refl d)) hd
        · exact hm
      · exact .inr
theorem plc_step {d : Rf} {l : List Rf} {k : Nat} (h : k < l.length) : plc d (l.drop k) = if leB d l[k] then 0 else plc d (l.drop (k + 1)) + 1 := by
  rw [List.drop_eq_getElem_cons h]; rfl
theorem plc_end {d : Rf} {l : List Rf} {k : Nat} (h : l.length ≤ k) : plc d (l.drop k) = 0 := by
  rw [List.drop_eq_nil_of_le h]; rfl
/-- behind a place that does not fit -/
theorem plc_at {d : Rf} {l : List Rf} {k : Nat} (h : k < l.length) (hp : plc d l = k + plc d (l.drop k)) (h2 : leB d l[k] = false) : plc d l = k + 1 + plc d (l.drop (k + 1)) := by
  rw [plc_step h, h2] at hp
  simp only [Bool.false_eq_true, if_false] at hp
  omega
theorem plc_here {d : Rf} {l : List Rf} {k : Nat} (h : k < l.length) (hp : plc d l = k + plc d (l.drop k)) (h2 : leB d l[k] = true) : plc d l = k := by
  rw [plc_step h, h2] at hp
  simpa using hp
theorem leB_lt {a b : Rf} : leB a b = false ↔ b < a := by
  unfold leB
  rw [decide_eq_false_iff_not, List.not_le]
end Go.Proofs.YtgnnblkpjankgaaGreatDoor
