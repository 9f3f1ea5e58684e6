/-
  Contracts of the library's cuts in the words of this program's proofs: CutPrefix, CutSuffix and Cut at one byte.
-/
import Derived.Test.YtempiooclhmeoaaGreatDoorWin
namespace Go.Proofs.YtempiooclhmeoaaGreatDoor
open Go.RowKit
set_option linter.unusedVariables false
set_option linter.unusedSimpArgs false

/-- strings.Cut at one byte, as a recursion: before, behind, found -/
def cutAt (c : UInt8) : List UInt8 → List UInt8 × List UInt8 × Bool
  | [] => ([], [], false)
  | x :: l => if x = c then ([], l, true) else (x :: (cutAt c l).1, (cutAt c l).2.1, (cutAt c l).2.2)
def headIs (c : UInt8) (l : List UInt8) : Bool := l.head? == some c
def lastIs (c : UInt8) (l : List UInt8) : Bool := l.getLast? == some c

theorem index_one (c : UInt8) (l : List UInt8) :
    (Lib.index l [c] = -1 ∧ cutAt c l = (l, [], false)) ∨ ∃ i : Nat, Lib.index l [c] = i ∧ cutAt c l = (l.take i, l.drop (i + 1), true) := by
  induction l with
  | nil => exact .inl ⟨rfl, rfl⟩
  | cons x l ih =>
    unfold Lib.index cutAt
    by_cases h : x = c
    · subst h
      exact .inr ⟨0, by simp, by simp⟩
    · have h1 : ([c].isPrefixOf (x :: l)) = false := by simp [List.isPrefixOf, Ne.symm h]
      rw [h1]
      rcases ih with ⟨h2, h3⟩ | ⟨i, h2, h3⟩
      · rw [h2, h3]; exact .inl ⟨by simp, by simp [h]⟩
      · rw [h2, h3]
        have h4 : ((i : Int) == -1) = false := by rw [beq_eq_false_iff_ne]; omega
        exact .inr ⟨i + 1, by simp [h4], by simp [h]⟩
theorem cut_one (c : UInt8) (l : List UInt8) : Lib.cut l [c] = cutAt c l := by
  unfold Lib.cut
  rcases index_one c l with ⟨h1, h2⟩ | ⟨i, h1, h2⟩
  · rw [h1, h2]; rfl
  · rw [h1, h2, if_pos (by omega)]; simp
theorem cutAt_len (c : UInt8) (l : List UInt8) : (cutAt c l).1.length ≤ l.length ∧ (cutAt c l).2.1.length ≤ l.length := by
  rcases index_one c l with ⟨h1, h2⟩ | ⟨i, h1, h2⟩
  · rw [h2]; simp
  · rw [h2]; simp; omega

theorem str_len {a : List UInt8} {s : ByteArray} (h : a.length ≤ (bl s).length) : (sb a).size ≤ s.size := h

/-- strings.Cut(s, one byte) -/
theorem cut1 (s : ByteArray) (c : UInt8) (w : World) (E : Env w) (hs : s.size ≤ 1048576) :
    Calls Tryz.prog 44 #[.string s, .string ⟨#[c]⟩] w fun e w' => ∃ a b f, e = .returned (.tuple #[.string a, .string b, .bool f]) ∧ Hid (cutAt c (bl s) = (bl a, bl b, f)) ∧ a.size ≤ s.size ∧ b.size ≤ s.size ∧ Below w.heap.size w w' := by
  obtain ⟨m, hm⟩ := E.most
  refine (Tryz.strings_Cut s ⟨#[c]⟩ m w (by omega) hm).mono ?_
  rintro e w' ⟨rfl, n, rfl⟩
  have h1 : Lib.cut s.data.toList (⟨#[c]⟩ : ByteArray).data.toList = cutAt c (bl s) := cut_one c (bl s)
  have hl := cutAt_len c (bl s)
  rw [h1]
  exact ⟨sb (cutAt c (bl s)).1, sb (cutAt c (bl s)).2.1, (cutAt c (bl s)).2.2, rfl, rfl, hl.1, hl.2, below_drewN' (Below.refl _ _) n⟩

/-- strings.CutPrefix(s, one byte) -/
theorem cutPrefix1 (s : ByteArray) (c : UInt8) (w : World) :
    Calls Tryz.prog 180 #[.string s, .string ⟨#[c]⟩] w fun e w' => ∃ r f, e = .returned (.tuple #[.string r, .bool f]) ∧ Hid (f = headIs c (bl s)) ∧ Hid (bl r = if f then (bl s).tail else bl s) ∧ r.size ≤ s.size ∧ w = w' := by
  refine (Tryz.strings_CutPrefix s ⟨#[c]⟩ w).mono ?_
  rintro e w' ⟨rfl, rfl⟩
  have h1 : Lib.hasPrefix s.data.toList (⟨#[c]⟩ : ByteArray).data.toList = headIs c (bl s) := by
    show Lib.hasPrefix (bl s) [c] = _
    unfold Lib.hasPrefix headIs
    cases bl s with
    | nil => rfl
    | cons x l => simp [List.isPrefixOf, Bool.beq_comm (a := c)]
  have h2 : Lib.trimPrefix s.data.toList (⟨#[c]⟩ : ByteArray).data.toList = if headIs c (bl s) then (bl s).tail else bl s := by
    unfold Lib.trimPrefix
    rw [h1]
    show (if headIs c (bl s) then (bl s).drop 1 else bl s) = _
    rw [List.drop_one]
  rw [h1, h2]
  refine ⟨sb _, _, rfl, rfl, rfl, ?_, rfl⟩
  apply str_len
  split
  · simp
  · exact Nat.le_refl _
end Go.Proofs.YtempiooclhmeoaaGreatDoor
