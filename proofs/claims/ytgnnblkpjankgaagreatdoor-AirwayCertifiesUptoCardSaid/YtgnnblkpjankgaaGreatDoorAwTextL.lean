/-
  Plain laws: the text of an airway; what an airway without an error has.
-/
import Derived.Test.YtgnnblkpjankgaaGreatDoorAwCheck
namespace Go.Proofs.YtgnnblkpjankgaaGreatDoor
open Go.RowKit
set_option linter.unusedVariables false
set_option linter.unusedSimpArgs false

def dirWord (d : Nat) : List UInt8 := if d = 0 then [66, 79, 84, 72] else if d = 1 then [70, 79, 82, 87, 65, 82, 68] else [66, 65, 67, 75, 87, 65, 82, 68]
theorem dirWord_len (d : Nat) : (dirWord d).length ≤ 8 := by
  unfold dirWord; split
  · decide
  · split <;> decide
/-- what follows the reference in a point's line -/
def ptTail (p : Pt) (last : Bool) : List UInt8 := if last then [] else 32 :: (winOut p.lo p.hi ++ 32 :: dirWord p.dir)
def ptLine (p : Pt) (last : Bool) : List UInt8 := [86, 73, 65, 32] ++ p.ref ++ (ptTail p last ++ [10])
def ptLines : List Pt → List UInt8
  | [] => []
  | p :: r => ptLine p r.isEmpty ++ ptLines r
def awText (nm : List UInt8) (l : List Pt) : List UInt8 := [65, 73, 82, 87, 65, 89, 32] ++ nm ++ [10] ++ ptLines l
theorem ptLines_step {l : List Pt} {k : Nat} (h : k < l.length) : ptLines (l.drop k) = ptLine l[k] (decide (l.length ≤ k + 1)) ++ ptLines (l.drop (k + 1)) := by
  rw [List.drop_eq_getElem_cons h]
  show ptLine l[k] (l.drop (k + 1)).isEmpty ++ _ = _
  have e : (l.drop (k + 1)).isEmpty = decide (l.length ≤ k + 1) := by
    rw [Bool.eq_iff_iff, List.isEmpty_iff, List.drop_eq_nil_iff, decide_eq_true_iff]
  rw [e]
theorem ptLines_end {l : List Pt} {k : Nat} (h : l.length ≤ k) : ptLines (l.drop k) = [] := by
  rw [List.drop_eq_nil_of_le h]; rfl
theorem winOut_len (lo hi : Int) : (winOut lo hi).length ≤ 140004 := by
  have h1 := altOut_len lo
  have h2 := altOut_len hi
  unfold winOut
  split
  · simp
  · unfold winText
    repeat' split
    all_goals ((try simp only [List.length_append, List.length_cons, List.length_nil]); omega)
theorem chk_zero : ∀ (l : List Pt) (r : List Pt) (i : Nat), chkFrom l i r = 0 → ∀ (j : Nat) (h : j < r.length), ptErr l r[j] (i + j) = 0
  | l, [], i, _, j, h => absurd h (by simp)
  | l, p :: r, i, hc, j, h => by
    have hc2 : (if ptErr l p i = 0 then chkFrom l (i + 1) r else ptErr l p i) = 0 := hc
    split at hc2
    · next h0 =>
      cases j with
      | zero => exact h0
      | succ j =>
        have := chk_zero l r (i + 1) hc2 j (by simpa using h)
        rw [show i + (j + 1) = i + 1 + j by omega]
        exact this
    · next h0 => exact absurd hc2 h0
theorem cutAt_join (c : UInt8) : ∀ l : List UInt8, (cutAt c l).2.2 = true → l = (cutAt c l).1 ++ c :: (cutAt c l).2.1
  | [], h => by simp [cutAt] at h
  | x :: l, h => by
    unfold cutAt at h ⊢
    by_cases hx : x = c
    · rw [if_pos hx]; rw [hx]; rfl
    · rw [if_neg hx] at h ⊢
      exact congrArg (x :: ·) (cutAt_join c l h)
theorem nameB_len {l : List UInt8} {n : Int} (h : nameB l n = true) : (l.length : Int) ≤ n ∧ 0 < l.length := by
  unfold nameB at h
  simp only [Bool.and_eq_true, decide_eq_true_iff] at h
  omega
theorem refErr_len {l : List UInt8} (h : refErr l = 0) : l.length ≤ 13 := by
  unfold refErr at h
  split at h
  · next h1 =>
    split at h
    · next h2 =>
      unfold refB at h2
      rw [Bool.and_eq_true, Bool.or_eq_true] at h2
      have ha := (nameB_len h2.1).1
      have hb : ((cutAt 47 l).2.1.length : Int) ≤ 6 := by
        rcases h2.2 with h3 | h3
        · exact (nameB_len h3).1
        · unfold shortB at h3
          rw [Bool.and_eq_true] at h3
          have := h3.1
          have : (cutAt 47 l).2.1.length = 2 := by simpa using this
          omega
      have hl : l = (cutAt 47 l).1 ++ 47 :: (cutAt 47 l).2.1 := by
        have := cutAt_join 47 l h1
        exact this
      have hlen := congrArg List.length hl
      rw [List.length_append, List.length_cons] at hlen
      omega
    · cases h
  · cases h
/-- what an airway without an error has -/
theorem chk_has {nm : List UInt8} {l : List Pt} (h : chkA nm l = 0) : nm.length ≤ 8 ∧ 2 ≤ l.length ∧ l.length ≤ 40 ∧ ∀ (j : Nat) (hj : j < l.length), l[j].ref.length ≤ 13 ∧ (j + 1 ≠ l.length → l[j].dir ≤ 2 ∧ winOk l[j].lo l[j].hi = true) ∧ (j + 1 = l.length → lastOk l[j] = true) ∧ ¬ idxOf l l[j].ref < j := by
  unfold chkA at h
  split at h
  · next h1 =>
    split at h
    · cases h
    · split at h
      · cases h
      · refine ⟨by have := (nameB_len h1).1; omega, by omega, by omega, fun j hj => ?_⟩
        have h2 := chk_zero l l 0 h j hj
        rw [Nat.zero_add] at h2
        unfold ptErr at h2
        split at h2
        · next h3 =>
          split at h2
          · cases h2
          · next hx =>
            refine ⟨refErr_len h3, ?_, ?_, hx⟩
            · intro hne
              rw [if_neg hne] at h2
              split at h2
              · next hw =>
                split at h2
                · cases h2
                · exact ⟨by omega, hw⟩
              · cases h2
            · intro he
              rw [if_pos he] at h2
              split at h2
              · assumption
              · cases h2
        · cases h2
  · cases h
end Go.Proofs.YtgnnblkpjankgaaGreatDoor
