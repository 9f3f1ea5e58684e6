/-
  Contracts of the library's cuts in the words of this program's proofs: CutPrefix, CutSuffix and Cut at one byte.
-/
import Derived.Test.YtgnnblkpjankgaaGreatDoorWin
namespace Go.Proofs.YtgnnblkpjankgaaGreatDoor
open Go.RowKit
set_option linter.unusedVariables false
set_option linter.unusedSimpArgs false

/-- strings.Cut at one byte, as a recursion: before, behind, found -/
def cutAt (c : UInt8) : List UInt8 → List UInt8 × List UInt8 × Bool
  | [] => ([], [], false)
  | x :: l => if x = c then ([], l, true) else (x :: (cutAt c l).1, (cutAt c l).2.1, (cutAt c l).2.2)
def headIs (c : UInt8) (l : List UInt8) : Bool := l.head? == some c
def lastIs (c : UInt8) (l : List UInt8) : Bool := l.getLast? == some c

theorem index_one (c : UInt8) (l : List UInt8) :
    (Lib.index l [c] = -1 ∧ cutAt c l = (l, [], false)) ∨ ∃ i : Nat, Lib.index l [c] = i ∧ cutAt c l = (l.take i, l.drop (i + 1), true) := by
  induction l with
  | nil => exact .inl ⟨rfl, rfl⟩
  | cons x l ih =>
    unfold Lib.index cutAt
    by_cases h : x = c
    · subst h
      exact .inr ⟨0, by simp, by simp⟩
    · have h1 : ([c].isPrefixOf (x :: l)) = false := by simp [List.isPrefixOf, Ne.symm h]
      rw [h1]
      rcases ih with ⟨h2, h3⟩ | ⟨i, h2, h3⟩
      · rw [h2, h3]; exact .inl ⟨by simp, by simp [h]⟩
      · rw [h2, h3]
        have h4 : ((i : Int) == -1) = false := by rw [beq_eq_false_iff_ne]; omega
        exact .inr ⟨i + 1, by simp [h4], by simp [h]⟩
theorem cut_one (c : UInt8) (l : List UInt8) : Lib.cut l [c] = cutAt c l := by
  unfold Lib.cut
  rcases index_one c l with ⟨h1, h2⟩ | ⟨i, h1, h2⟩
  · rw [h1, h2]; rfl
  · rw [h1, h2, if_pos (by omega)]; simp
theorem cutAt_len (c : UInt8) (l : List UInt8) : (cutAt c l).1.length ≤ l.length ∧ (cutAt c l).2.1.length ≤ l.length := by
  rcases index_one c l with ⟨h1, h2⟩ | ⟨i, h1, h2⟩
  · rw [h2]; simp
  · rw [h2]; simp; omega

theorem str_len {a : List UInt8} {s : ByteArray} (h : a.length ≤ (bl s).length) : (sb a).size ≤ s.size := h

/-- only draws -/
def Drawn (w w' : World) : Prop := ∃ m, w' = w.drewN m
theorem Drawn.refl (w : World) : Drawn w w := ⟨0, rfl⟩
theorem Drawn.trans {a b c : World} (h : Drawn a b) (k : Drawn b c) : Drawn a c := by
  obtain ⟨m, rfl⟩ := h
  obtain ⟨n, rfl⟩ := k
  exact ⟨m + n, by rw [World.drewN_drewN]⟩
theorem Drawn.more {w w' : World} (h : Drawn w w') (n : Nat) : Drawn w (w'.drewN n) := h.trans ⟨n, rfl⟩
theorem Drawn.below {w w' : World} (h : Drawn w w') {b : Nat} : Below b w w' := by
  obtain ⟨m, rfl⟩ := h
  exact below_drewN' (Below.refl _ _) m
def CutPost (s : ByteArray) (c : UInt8) (w : World) (e : Ending) (w' : World) : Prop :=
  ∃ a b f, e = .returned (.tuple #[.string a, .string b, .bool f]) ∧ Hid (cutAt c (bl s) = (bl a, bl b, f)) ∧ a.size ≤ s.size ∧ b.size ≤ s.size ∧ Drawn w w'
theorem cutAt_byte (c : UInt8) (l : List UInt8) :
    (Lib.indexByte l c = -1 ∧ cutAt c l = (l, [], false)) ∨ ∃ i : Nat, Lib.indexByte l c = i ∧ i < l.length ∧ cutAt c l = (l.take i, l.drop (i + 1), true) := by
  induction l with
  | nil => exact .inl ⟨rfl, rfl⟩
  | cons x l ih =>
    unfold Lib.indexByte cutAt
    by_cases h : x = c
    · subst h
      exact .inr ⟨0, by simp, by simp, by simp⟩
    · have h1 : (x == c) = false := beq_eq_false_iff_ne.2 h
      rw [h1]
      rcases ih with ⟨h2, h3⟩ | ⟨i, h2, h4, h3⟩
      · rw [h2, h3]; exact .inl ⟨by simp, by simp [h]⟩
      · rw [h2, h3]
        have h5 : ((i : Int) == -1) = false := by rw [beq_eq_false_iff_ne]; omega
        exact .inr ⟨i + 1, by simp [h5], by simp; omega, by simp [h]⟩
theorem cut_ways (s : ByteArray) (c : UInt8) : (∃ h : Hid (cutAt c (bl s) = (bl s, [], false)), Lib.indexByte s.data.toList c = -1) ∨
    ∃ i : Nat, i < s.size ∧ Lib.indexByte s.data.toList c = i ∧ Hid (cutAt c (bl s) = (bl (s.extract 0 i), bl (s.extract (i + 1) s.size), true)) := by
  rcases cutAt_byte c (bl s) with ⟨h1, h2⟩ | ⟨i, h1, h2, h3⟩
  · exact .inl ⟨h2, h1⟩
  · refine .inr ⟨i, h2, h1, ?_⟩
    unfold Hid
    rw [h3, bl_extract, bl_extract, List.drop_zero, Nat.sub_zero, List.take_of_length_le (l := (bl s).drop (i + 1)) (by rw [List.length_drop, bl_len]; omega)]
set_option maxHeartbeats 400000 in
theorem slCut_any (s : ByteArray) (c : UInt8) (w : World) (hs : s.size ≤ maxLen) :
    Calls Tryz.prog 127 #[.string s, .string ⟨#[c]⟩] w (CutPost s c w) := by
  unfold maxLen at hs
  rcases cut_ways s c with ⟨h, hi⟩ | ⟨i, hi, hx, h⟩
  · have HI := Lib.hid hi
    clear hi
    go_enter Tryz.func127, Tryz.ntmps127
    go_wp2_with fail
    refine (Tryz.stringslite_Index_one s c _).mono ?_
    rintro e w1 ⟨rfl, rfl⟩
    rw [HI.out]
    go_wp2
    go_ret3
    exact ⟨s, ⟨#[]⟩, false, rfl, h, Nat.le_refl _, Nat.zero_le _, Drawn.refl _⟩
  · have HI := Lib.hid hx
    clear hx
    have hsa : (s.extract 0 i).size ≤ s.size := by rw [ByteArray.size_extract]; omega
    have hsb : (s.extract (i + 1) s.size).size ≤ s.size := by rw [ByteArray.size_extract]; omega
    go_enter Tryz.func127, Tryz.ntmps127
    go_wp2_with fail
    refine (Tryz.stringslite_Index_one s c _).mono ?_
    rintro e w1 ⟨rfl, rfl⟩
    rw [HI.out]
    go_wp2
    go_quiet (fail)
    go_wp2
    go_ret3
    exact ⟨_, _, true, rfl, h, hsa, hsb, _, rfl⟩
set_option maxHeartbeats 400000 in
theorem cutAny (s : ByteArray) (c : UInt8) (w : World) (hs : s.size ≤ maxLen) :
    Calls Tryz.prog 113 #[.string s, .string ⟨#[c]⟩] w (CutPost s c w) := by
  go_enter Tryz.func113, Tryz.ntmps113
  go_wp2_with fail
  refine (slCut_any s c _ hs).mono ?_
  rintro e w1 ⟨a, b, f, rfl, h⟩
  go_wp2
  go_ret3
  exact ⟨a, b, f, rfl, h⟩

/-- strings.Cut(s, one byte) -/
theorem cut1 (s : ByteArray) (c : UInt8) (w : World) (E : Env w) (hs : s.size ≤ 140737488351232) :
    Calls Tryz.prog 113 #[.string s, .string ⟨#[c]⟩] w fun e w' => ∃ a b f, e = .returned (.tuple #[.string a, .string b, .bool f]) ∧ Hid (cutAt c (bl s) = (bl a, bl b, f)) ∧ a.size ≤ s.size ∧ b.size ≤ s.size ∧ Below w.heap.size w w' :=
  (cutAny s c w (by unfold maxLen; omega)).mono fun _ _ ⟨a, b, f, h1, h2, h3, h4, h5⟩ => ⟨a, b, f, h1, h2, h3, h4, h5.below⟩

end Go.Proofs.YtgnnblkpjankgaaGreatDoor
