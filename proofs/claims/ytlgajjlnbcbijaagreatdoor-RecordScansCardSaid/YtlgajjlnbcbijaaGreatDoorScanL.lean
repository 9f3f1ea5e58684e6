/-
  Plain words: a scanner's state, and what its calls do to it.
-/
import Derived.Test.YtlgajjlnbcbijaaGreatDoorBase
namespace Go.Proofs.YtlgajjlnbcbijaaGreatDoor
open Go.RowKit
set_option linter.unusedVariables false
set_option linter.unusedSimpArgs false

/-- a field: its bytes, its column -/
abbrev FldI := List UInt8 × Int
def ficells (l : List FldI) : List Value := l.flatMap fun f => [.string (sb f.1), .int .i64 f.2]
theorem ficells_len (l : List FldI) : (ficells l).length = l.length * 2 := by
  induction l with
  | nil => rfl
  | cons f l ih => unfold ficells at ih ⊢; rw [List.flatMap_cons, List.length_append, ih]; simp only [List.length_cons, List.length_nil]; omega
theorem ficells_cons (f : FldI) (l : List FldI) : ficells (f :: l) = .string (sb f.1) :: .int .i64 f.2 :: ficells l := rfl
theorem ficells_at (l : List FldI) : ∀ (k : Nat) (h : k < l.length), (ficells l)[k * 2]? = some (.string (sb l[k].1)) ∧ (ficells l)[k * 2 + 1]? = some (.int .i64 l[k].2) := by
  induction l with
  | nil => intro k h; simp at h
  | cons f l ih =>
    intro k h
    rw [ficells_cons]
    cases k with
    | zero => exact ⟨rfl, rfl⟩
    | succ k =>
      have := ih k (by simpa using h)
      rw [show (k + 1) * 2 = k * 2 + 2 by omega]
      exact this
/-- a scanner: the record's number and fields, how many are taken, the column of the last one, the diagnostic (its code is 0 if there is none) -/
structure Sc where
  num : Int
  fs : List FldI
  nx : Nat
  la : Int
  dl : Int
  dc : Int
  de : Int
def Sc.bad (s : Sc) : Bool := s.de != 0
def Sc.got (s : Sc) : Bool := !s.bad && decide (s.nx < s.fs.length)
def Sc.note (s : Sc) (c e : Int) : Sc := if s.bad || e == 0 then s else { s with dl := s.num, dc := c, de := e }
def fld (l : List FldI) (k : Nat) : FldI := l.getD k ([], 0)
def endCol (l : List FldI) : Int := if l.length = 0 then 1 else wrap64 ((fld l (l.length - 1)).2 + (fld l (l.length - 1)).1.length)
def Sc.take (s : Sc) : Sc := if s.bad then s else if s.nx < s.fs.length then { s with nx := s.nx + 1, la := (fld s.fs s.nx).2 } else s.note (endCol s.fs) 4
def Sc.text (s : Sc) : List UInt8 := if s.got then (fld s.fs s.nx).1 else []
/-- takes a field and what it means: er: the error of its text -/
def Sc.tk (s : Sc) (er : List UInt8 → Int) : Sc := if s.got then s.take.note s.take.la (er s.text) else s.take
def Sc.tv (s : Sc) {α : Type} (z : α) (v : List UInt8 → α) : α := if s.got then v s.text else z
def Sc.left (s : Sc) : Nat := if s.bad then 0 else s.fs.length - s.nx
/-- the diagnostic at the end -/
def Sc.endB (s : Sc) : Bool := s.bad || decide (s.nx < s.fs.length)
def Sc.endL (s : Sc) : Int := if s.bad then s.dl else if s.nx < s.fs.length then s.num else 0
def Sc.endC (s : Sc) : Int := if s.bad then s.dc else if s.nx < s.fs.length then (fld s.fs s.nx).2 else 0
def Sc.endE (s : Sc) : Int := if s.bad then s.de else if s.nx < s.fs.length then 4 else 0
/-- a scanner at the first field -/
def scan0 (num : Int) (fs : List FldI) : Sc := ⟨num, fs, 0, 1, 0, 0, 0⟩
theorem Sc.got_iff {s : Sc} : s.got = true ↔ s.de = 0 ∧ s.nx < s.fs.length := by unfold Sc.got Sc.bad; simp
theorem Sc.bad_iff {s : Sc} : s.bad = true ↔ s.de ≠ 0 := by unfold Sc.bad; simp
theorem Sc.take_fs (s : Sc) : s.take.fs = s.fs := by
  unfold Sc.take Sc.note; split <;> (try rfl); split <;> (try rfl); split <;> rfl
theorem Sc.note_fs (s : Sc) (c e : Int) : (s.note c e).fs = s.fs := by unfold Sc.note; split <;> rfl
theorem Sc.note_nx (s : Sc) (c e : Int) : (s.note c e).nx = s.nx := by unfold Sc.note; split <;> rfl
theorem Sc.take_nx (s : Sc) (h : s.nx ≤ s.fs.length) : s.take.nx ≤ s.take.fs.length := by
  rw [Sc.take_fs]
  unfold Sc.take; split
  · exact h
  · split
    · show s.nx + 1 ≤ _; omega
    · rw [Sc.note_nx]; exact h
theorem Sc.take_bad {s : Sc} (h : s.bad = true) : s.take = s := by unfold Sc.take; rw [if_pos h]
theorem Sc.take_got {s : Sc} (h : s.got = true) : s.take = { s with nx := s.nx + 1, la := (fld s.fs s.nx).2 } := by
  have := Sc.got_iff.1 h
  unfold Sc.take; rw [if_neg (by rw [Sc.bad_iff]; simp [this.1]), if_pos this.2]
theorem Sc.take_end {s : Sc} (h : s.bad = false) (h2 : ¬ s.nx < s.fs.length) : s.take = { s with dl := s.num, dc := endCol s.fs, de := 4 } := by
  unfold Sc.take; rw [if_neg (by rw [h]; decide), if_neg h2]; unfold Sc.note; rw [h]; rfl
theorem Sc.got_no {s : Sc} (h : s.got = false) : s.bad = true ∨ (s.bad = false ∧ ¬ s.nx < s.fs.length) := by
  unfold Sc.got at h
  cases hb : s.bad
  · rw [hb] at h; right; exact ⟨rfl, by simpa using h⟩
  · exact .inl rfl
theorem Sc.tk_no {s : Sc} (h : s.got = false) (er : List UInt8 → Int) : s.tk er = s.take := by unfold Sc.tk; rw [if_neg (by rw [h]; decide)]
theorem Sc.tk_got {s : Sc} (h : s.got = true) (er : List UInt8 → Int) : s.tk er = s.take.note s.take.la (er s.text) := by unfold Sc.tk; rw [if_pos h]
theorem Sc.tv_no {s : Sc} (h : s.got = false) {α : Type} (z : α) (v : List UInt8 → α) : s.tv z v = z := by unfold Sc.tv; rw [if_neg (by rw [h]; decide)]
theorem Sc.tv_got {s : Sc} (h : s.got = true) {α : Type} (z : α) (v : List UInt8 → α) : s.tv z v = v s.text := by unfold Sc.tv; rw [if_pos h]
theorem Sc.note_zero (s : Sc) (c : Int) : s.note c 0 = s := by unfold Sc.note; rw [if_pos (by simp)]
theorem Sc.note_bad {s : Sc} (h : s.bad = true) (c e : Int) : s.note c e = s := by unfold Sc.note; rw [if_pos (by rw [h]; rfl)]
theorem Sc.note_set {s : Sc} (h : s.bad = false) (c : Int) {e : Int} (he : e ≠ 0) : s.note c e = { s with dl := s.num, dc := c, de := e } := by
  unfold Sc.note; rw [if_neg]; rw [h]; simpa using he
/-- the place of a word -/
def wordAt (ws : List (List UInt8)) (t : List UInt8) (n : Nat) : Int := match ws with
  | [] => -1
  | w :: ws => if w = t then n else wordAt ws t (n + 1)
def wordE (ws : List (List UInt8)) (t : List UInt8) : Int := if wordAt ws t 0 = -1 then 4 else 0
end Go.Proofs.YtlgajjlnbcbijaaGreatDoor
