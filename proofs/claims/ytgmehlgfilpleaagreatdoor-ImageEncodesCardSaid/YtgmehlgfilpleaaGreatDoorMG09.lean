/-
  Several texts as one.
-/
import Derived.Test.YtgmehlgfilpleaaGreatDoorMG04
import Derived.IntWalk
namespace Go.Proofs.YtgmehlgfilpleaaGreatDoor
open Go.RowKit
set_option linter.unusedVariables false
set_option linter.unusedSimpArgs false

theorem getD_at {s : ByteArray} {k : Nat} (h : k < s.size) : (bl s).getD k 0 = s[k] := by
  rw [List.getD_eq_getElem?_getD, bl_get? s k h]; rfl
theorem rwy_short {s : ByteArray} (h : s.size < 4 ∨ 5 < s.size) : rwyB (bl s) = false := by
  unfold rwyB
  rcases h with h | h
  · rw [decide_eq_false (p := 4 ≤ (bl s).length) (by rw [bl_len]; omega)]; rfl
  · rw [decide_eq_false (p := (bl s).length ≤ 5) (by rw [bl_len]; omega)]; simp
theorem rwy_word {s : ByteArray} (h : ((s.extract 0 2).toList == [82, 87]) = false) : rwyB (bl s) = false := by
  unfold rwyB
  have : ((bl s).take 2 == [82, 87]) = false := by
    rw [bl_toList, bl_extract] at h
    exact h
  rw [this]; simp
/-- the ways of a text of four or five bytes that begins with RW -/
structure RwF (s : ByteArray) (x y : Nat) : Prop where
  a : 4 ≤ s.size
  b : s.size ≤ 5
  w : ((s.extract 0 2).toList == [82, 87]) = true
  x2 : (bl s).getD 2 0 = UInt8.ofNat x
  y3 : (bl s).getD 3 0 = UInt8.ofNat y
  xb : x < 256
  yb : y < 256
theorem rwy_dig {s : ByteArray} {x y : Nat} (h : RwF s x y) (hd : x < 48 ∨ 51 < x ∨ y < 48 ∨ 57 < y) : rwyB (bl s) = false := by
  unfold rwyB digC
  rw [h.x2, h.y3]
  have e1 : (UInt8.ofNat x).toNat = x := by have := h.xb; simp; omega
  have e2 : (UInt8.ofNat y).toNat = y := by have := h.yb; simp; omega
  rw [e1, e2]
  rw [← Bool.not_eq_true]
  simp only [Bool.and_eq_true, decide_eq_true_eq]
  omega
theorem rwy_num {s : ByteArray} {x y : Nat} (h : RwF s x y) (h1 : 48 ≤ x) (h2 : x ≤ 51) (h3 : 48 ≤ y) (h4 : y ≤ 57) (hn : 10 * (x - 48) + (y - 48) < 1 ∨ 36 < 10 * (x - 48) + (y - 48)) : rwyB (bl s) = false := by
  unfold rwyB digC
  rw [h.x2, h.y3]
  have e1 : (UInt8.ofNat x).toNat = x := by have := h.xb; simp; omega
  have e2 : (UInt8.ofNat y).toNat = y := by have := h.yb; simp; omega
  rw [e1, e2]
  rw [← Bool.not_eq_true]
  simp only [Bool.and_eq_true, decide_eq_true_eq]
  omega
theorem rwy_ok {s : ByteArray} {x y : Nat} (h : RwF s x y) (h1 : 48 ≤ x) (h2 : x ≤ 51) (h3 : 48 ≤ y) (h4 : y ≤ 57) (hn : 1 ≤ 10 * (x - 48) + (y - 48)) (hn2 : 10 * (x - 48) + (y - 48) ≤ 36) :
    rwyB (bl s) = (decide ((bl s).length = 4) || (bl s).getD 4 0 == 76 || (bl s).getD 4 0 == 67 || (bl s).getD 4 0 == 82) := by
  unfold rwyB digC
  rw [h.x2, h.y3]
  have e1 : (UInt8.ofNat x).toNat = x := by have := h.xb; simp; omega
  have e2 : (UInt8.ofNat y).toNat = y := by have := h.yb; simp; omega
  have e3 : ((bl s).take 2 == [82, 87]) = true := by
    have hw := h.w
    rw [bl_toList, bl_extract] at hw
    exact hw
  rw [e1, e2, e3, decide_eq_true (p := 4 ≤ (bl s).length) (by rw [bl_len]; exact h.a), decide_eq_true (p := (bl s).length ≤ 5) (by rw [bl_len]; exact h.b), decide_eq_true h1, decide_eq_true (p := x ≤ 57) (by omega), decide_eq_true h2, decide_eq_true h3, decide_eq_true h4, decide_eq_true hn, decide_eq_true hn2]
  rfl
theorem rwF_mk {s : ByteArray} (h4 : 4 ≤ s.size) (h5 : s.size ≤ 5) (hw : ((s.extract 0 2).toList == [82, 87]) = true) : RwF s (s[2]'(by omega)).toNat (s[3]'(by omega)).toNat :=
  ⟨h4, h5, hw, by rw [getD_at (show 2 < s.size by omega), UInt8.ofNat_toNat], by rw [getD_at (show 3 < s.size by omega), UInt8.ofNat_toNat], u8_lt _, u8_lt _⟩
/-- the last letter -/
inductive RwT (s : ByteArray) : Prop
  | four (h : s.size = 4)
  | l (h : 4 < s.size) (e1 : ((s[4].toNat : Int) != 76) = false) (e2 : ((s[4].toNat : Int) == 76) = true)
  | c (h : 4 < s.size) (e0 : ((s[4].toNat : Int) != 76) = true) (e1 : ((s[4].toNat : Int) != 67) = false) (e2 : ((s[4].toNat : Int) == 67) = true) (e3 : ((s[4].toNat : Int) == 76) = false)
  | r (h : 4 < s.size) (e0 : ((s[4].toNat : Int) != 76) = true) (e1 : ((s[4].toNat : Int) != 67) = true) (e2 : ((s[4].toNat : Int) != 82) = false) (e3 : ((s[4].toNat : Int) == 82) = true) (e4 : ((s[4].toNat : Int) == 76) = false) (e5 : ((s[4].toNat : Int) == 67) = false)
  | no (h : 4 < s.size) (e0 : ((s[4].toNat : Int) != 76) = true) (e1 : ((s[4].toNat : Int) != 67) = true) (e2 : ((s[4].toNat : Int) != 82) = true) (e3 : ((s[4].toNat : Int) == 82) = false) (e4 : ((s[4].toNat : Int) == 76) = false) (e5 : ((s[4].toNat : Int) == 67) = false)
def tailB (l : List UInt8) : Bool := decide (l.length = 4) || l.getD 4 0 == 76 || l.getD 4 0 == 67 || l.getD 4 0 == 82
theorem rwT_mk (s : ByteArray) (h4 : 4 ≤ s.size) (h5 : s.size ≤ 5) : RwT s := by
  by_cases h : s.size = 4
  · exact .four h
  · have h' : 4 < s.size := by omega
    by_cases e1 : (s[4].toNat : Int) = 76
    · exact .l h' (bne_eq_false_iff_eq.2 e1) (beq_iff_eq.2 e1)
    · have n1 : ((s[4].toNat : Int) != 76) = true := bne_iff_ne.2 e1
      have m1 : ((s[4].toNat : Int) == 76) = false := beq_eq_false_iff_ne.2 e1
      by_cases e2 : (s[4].toNat : Int) = 67
      · exact .c h' n1 (bne_eq_false_iff_eq.2 e2) (beq_iff_eq.2 e2) m1
      · have n2 : ((s[4].toNat : Int) != 67) = true := bne_iff_ne.2 e2
        have m2 : ((s[4].toNat : Int) == 67) = false := beq_eq_false_iff_ne.2 e2
        by_cases e3 : (s[4].toNat : Int) = 82
        · exact .r h' n1 n2 (bne_eq_false_iff_eq.2 e3) (beq_iff_eq.2 e3) m1 m2
        · exact .no h' n1 n2 (bne_iff_ne.2 e3) (beq_eq_false_iff_ne.2 e3) m1 m2
theorem tail_yes {s : ByteArray} (h : s.size = 4 ∨ ∃ h : 4 < s.size, ((s[4].toNat : Int) == 76) = true ∨ ((s[4].toNat : Int) == 67) = true ∨ ((s[4].toNat : Int) == 82) = true) : tailB (bl s) = true := by
  unfold tailB
  rcases h with h | ⟨h, h2⟩
  · rw [decide_eq_true (p := (bl s).length = 4) (by rw [bl_len]; exact h)]; rfl
  · rw [getD_at h]
    rcases h2 with h2 | h2 | h2
    all_goals
      rw [beq_iff_eq] at h2
      have : s[4] = UInt8.ofNat s[4].toNat := (UInt8.ofNat_toNat ..).symm
      rw [this]
    · rw [show s[4].toNat = 76 by omega]; simp
    · rw [show s[4].toNat = 67 by omega]; simp
    · rw [show s[4].toNat = 82 by omega]; simp
theorem tail_no {s : ByteArray} (h : 4 < s.size) (e0 : ((s[4].toNat : Int) != 76) = true) (e1 : ((s[4].toNat : Int) != 67) = true) (e2 : ((s[4].toNat : Int) != 82) = true) : tailB (bl s) = false := by
  rw [bne_iff_ne] at e0 e1 e2
  unfold tailB
  rw [getD_at h, decide_eq_false (p := (bl s).length = 4) (by rw [bl_len]; omega)]
  have k : ∀ n : Nat, n < 256 → (s[4].toNat : Int) ≠ n → (s[4] == UInt8.ofNat n) = false := by
    intro n hn hne
    rw [beq_eq_false_iff_ne]
    intro e
    have := congrArg UInt8.toNat e
    simp at this
    omega
  have k1 := k 76 (by omega) (by omega)
  have k2 := k 67 (by omega) (by omega)
  have k3 := k 82 (by omega) (by omega)
  show (((false || s[4] == UInt8.ofNat 76) || s[4] == UInt8.ofNat 67) || s[4] == UInt8.ofNat 82) = false
  rw [k1, k2, k3]; rfl
theorem rwy_notail {s : ByteArray} (h : tailB (bl s) = false) : rwyB (bl s) = false := by
  unfold tailB at h
  unfold rwyB
  rw [h, Bool.and_false]
def RwyPost (s : ByteArray) (w : World) (e : Ending) (w' : World) : Prop := e = .returned (.bool (rwyB (bl s))) ∧ Drawn w w'
theorem RwyPost.mk {s : ByteArray} {w w' : World} {b : Bool} (h : rwyB (bl s) = b) (hd : Drawn w w') : RwyPost s w (.returned (.bool b)) w' := by subst h; exact ⟨rfl, hd⟩
set_option maxRecDepth 100000 in
set_option maxHeartbeats 4000000 in
theorem rrunway_any (s : ByteArray) (w : World) (hs : s.size ≤ maxLen) : Calls Tryz.prog 203 #[.string s] w (RwyPost s w) := by
  unfold maxLen at hs
  have hw : s.size < 4 ∨ (4 ≤ s.size ∧ 5 < s.size) ∨ (4 ≤ s.size ∧ s.size ≤ 5) := by omega
  rcases hw with h | ⟨h, h'⟩ | ⟨h4, h5⟩
  · have HF := Lib.hid (rwy_short (s := s) (.inl h))
    go_enter Tryz.func203, Tryz.ntmps203
    go_wp2
    go_ret
    exact .mk HF.out (Drawn.refl _)
  · have HF := Lib.hid (rwy_short (s := s) (.inr h'))
    go_enter Tryz.func203, Tryz.ntmps203
    go_wp2
    go_ret
    exact .mk HF.out (Drawn.refl _)
  · cases hwd : ((s.extract 0 2).toList == [82, 87])
    · have HF := Lib.hid (rwy_word hwd)
      go_enter Tryz.func203, Tryz.ntmps203
      go_wp2
      go_ret
      exact .mk HF.out (Drawn.refl _)
    · have HR := Lib.hid (rwF_mk h4 h5 hwd)
      have hT := rwT_mk s h4 h5
      have h2 : 2 < s.size := by omega
      have h3 : 3 < s.size := by omega
      have hdig : (s[2].toNat : Int) < 48 ∨ (48 ≤ (s[2].toNat : Int) ∧ 51 < (s[2].toNat : Int)) ∨ (48 ≤ (s[2].toNat : Int) ∧ (s[2].toNat : Int) ≤ 51 ∧ (s[3].toNat : Int) < 48) ∨ (48 ≤ (s[2].toNat : Int) ∧ (s[2].toNat : Int) ≤ 51 ∧ 48 ≤ (s[3].toNat : Int) ∧ 57 < (s[3].toNat : Int)) ∨ (48 ≤ (s[2].toNat : Int) ∧ (s[2].toNat : Int) ≤ 51 ∧ 48 ≤ (s[3].toNat : Int) ∧ (s[3].toNat : Int) ≤ 57) := by omega
      have HBAD : Hid (((s[2].toNat : Int) < 48 ∨ 51 < (s[2].toNat : Int) ∨ (s[3].toNat : Int) < 48 ∨ 57 < (s[3].toNat : Int)) → rwyB (bl s) = false) := by
        intro h; rw [rwy_dig HR.out (by omega)]
      have HNUM : Hid (48 ≤ (s[2].toNat : Int) → (s[2].toNat : Int) ≤ 51 → 48 ≤ (s[3].toNat : Int) → (s[3].toNat : Int) ≤ 57 → (10 * ((s[2].toNat : Int) - 48) + ((s[3].toNat : Int) - 48) < 1 ∨ 36 < 10 * ((s[2].toNat : Int) - 48) + ((s[3].toNat : Int) - 48)) → rwyB (bl s) = false) := by
        intro h1 h2 h3 h4 h; exact rwy_num HR.out (by omega) (by omega) (by omega) (by omega) (by omega)
      have HOKN : Hid (48 ≤ (s[2].toNat : Int) → (s[2].toNat : Int) ≤ 51 → 48 ≤ (s[3].toNat : Int) → (s[3].toNat : Int) ≤ 57 → 1 ≤ 10 * ((s[2].toNat : Int) - 48) + ((s[3].toNat : Int) - 48) → 10 * ((s[2].toNat : Int) - 48) + ((s[3].toNat : Int) - 48) ≤ 36 → rwyB (bl s) = tailB (bl s)) := by
        intro h1 h2 h3 h4 h5 h6; exact rwy_ok HR.out (by omega) (by omega) (by omega) (by omega) (by omega) (by omega)
      rcases hdig with d1 | ⟨d1, d2⟩ | ⟨d1, d2, d3⟩ | ⟨d1, d2, d3, d4⟩ | ⟨d1, d2, d3, d4⟩
      case inr.inr.inr.inr =>
        have q1 : IntKind.u8.wrap ((s[2].toNat : Int) - 48) = (s[2].toNat : Int) - 48 := IntWalk.u8_in _ (by omega)
        have q2 : IntKind.u8.wrap ((s[3].toNat : Int) - 48) = (s[3].toNat : Int) - 48 := IntWalk.u8_in _ (by omega)
        have q3 : IntKind.i64.wrap (10 * ((s[2].toNat : Int) - 48)) = 10 * ((s[2].toNat : Int) - 48) := IntWalk.i64_in _ (by omega)
        have q4 : IntKind.i64.wrap (10 * ((s[2].toNat : Int) - 48) + ((s[3].toNat : Int) - 48)) = 10 * ((s[2].toNat : Int) - 48) + ((s[3].toNat : Int) - 48) := IntWalk.i64_in _ (by omega)
        have hn : 10 * ((s[2].toNat : Int) - 48) + ((s[3].toNat : Int) - 48) < 1 ∨ (1 ≤ 10 * ((s[2].toNat : Int) - 48) + ((s[3].toNat : Int) - 48) ∧ 10 * ((s[2].toNat : Int) - 48) + ((s[3].toNat : Int) - 48) ≤ 36) ∨ (1 ≤ 10 * ((s[2].toNat : Int) - 48) + ((s[3].toNat : Int) - 48) ∧ 36 < 10 * ((s[2].toNat : Int) - 48) + ((s[3].toNat : Int) - 48)) := by omega
        rcases hn with n1 | ⟨n1, n2⟩ | ⟨n1, n2⟩
        case inr.inl =>
          have hb1 := decide_eq_true n1
          have hb2 := decide_eq_true n2
          have HOK := Lib.hid (HOKN.out d1 d2 d3 d4 n1 n2)
          rcases hT with h | ⟨h, e1, e2⟩ | ⟨h, e0, e1, e2, e3⟩ | ⟨h, e0, e1, e2, e3, e4, e5⟩ | ⟨h, e0, e1, e2, e3, e4, e5⟩
          case four =>
            have HF := Lib.hid (HOK.out.trans (tail_yes (s := s) (.inl h)))
            have e4' : ((s.size : Int) == 4) = true := beq_iff_eq.2 (by omega)
            clear h
            go_enter Tryz.func203, Tryz.ntmps203
            go_wp2
            go_quiet (fail)
            clear q1 q2 q3 q4
            go_wp2
            go_ret
            exact .mk HF.out ⟨_, rfl⟩
          case no =>
            have HF := Lib.hid (HOK.out.trans (tail_no h e0 e1 e2))
            have e4' : ((s.size : Int) == 4) = false := beq_eq_false_iff_ne.2 (by omega)
            go_enter Tryz.func203, Tryz.ntmps203
            go_wp2
            go_quiet (fail)
            clear q1 q2 q3 q4
            go_wp2
            go_ret
            exact .mk HF.out ⟨_, rfl⟩
          all_goals
            have HF := Lib.hid (HOK.out.trans (tail_yes (s := s) (.inr ⟨h, by first | exact .inl e2 | exact .inr (.inl e2) | exact .inr (.inr e3)⟩)))
            have e4' : ((s.size : Int) == 4) = false := beq_eq_false_iff_ne.2 (by omega)
            go_enter Tryz.func203, Tryz.ntmps203
            go_wp2
            go_quiet (fail)
            clear q1 q2 q3 q4
            go_wp2
            go_ret
            exact .mk HF.out ⟨_, rfl⟩
        all_goals
          have HF := Lib.hid (HNUM.out d1 d2 d3 d4 (by omega))
          try have hb1 : decide (10 * ((s[2].toNat : Int) - 48) + ((s[3].toNat : Int) - 48) ≤ 36) = false := decide_eq_false (by omega)
          go_enter Tryz.func203, Tryz.ntmps203
          go_wp2
          go_quiet (fail)
          clear q1 q2 q3 q4
          go_wp2
          go_ret
          exact .mk HF.out ⟨_, rfl⟩
      all_goals
        have HF := Lib.hid (HBAD.out (by omega))
        go_enter Tryz.func203, Tryz.ntmps203
        go_wp2
        go_ret
        exact .mk HF.out (Drawn.refl _)
set_option maxRecDepth 100000 in
set_option maxHeartbeats 4000000 in
theorem runway_any (s : ByteArray) (w : World) (hs : s.size ≤ maxLen) : Calls Tryz.prog 145 #[.string s] w (RwyPost s w) := by
  unfold maxLen at hs
  have hw : s.size < 4 ∨ (4 ≤ s.size ∧ 5 < s.size) ∨ (4 ≤ s.size ∧ s.size ≤ 5) := by omega
  rcases hw with h | ⟨h, h'⟩ | ⟨h4, h5⟩
  · have HF := Lib.hid (rwy_short (s := s) (.inl h))
    go_enter Tryz.func145, Tryz.ntmps145
    go_wp2
    go_ret
    exact .mk HF.out (Drawn.refl _)
  · have HF := Lib.hid (rwy_short (s := s) (.inr h'))
    go_enter Tryz.func145, Tryz.ntmps145
    go_wp2
    go_ret
    exact .mk HF.out (Drawn.refl _)
  · cases hwd : ((s.extract 0 2).toList == [82, 87])
    · have HF := Lib.hid (rwy_word hwd)
      go_enter Tryz.func145, Tryz.ntmps145
      go_wp2
      go_ret
      exact .mk HF.out (Drawn.refl _)
    · have HR := Lib.hid (rwF_mk h4 h5 hwd)
      have hT := rwT_mk s h4 h5
      have h2 : 2 < s.size := by omega
      have h3 : 3 < s.size := by omega
      have hdig : (s[2].toNat : Int) < 48 ∨ (48 ≤ (s[2].toNat : Int) ∧ 51 < (s[2].toNat : Int)) ∨ (48 ≤ (s[2].toNat : Int) ∧ (s[2].toNat : Int) ≤ 51 ∧ (s[3].toNat : Int) < 48) ∨ (48 ≤ (s[2].toNat : Int) ∧ (s[2].toNat : Int) ≤ 51 ∧ 48 ≤ (s[3].toNat : Int) ∧ 57 < (s[3].toNat : Int)) ∨ (48 ≤ (s[2].toNat : Int) ∧ (s[2].toNat : Int) ≤ 51 ∧ 48 ≤ (s[3].toNat : Int) ∧ (s[3].toNat : Int) ≤ 57) := by omega
      have HBAD : Hid (∀ b : Bool, b = false → ((s[2].toNat : Int) < 48 ∨ 51 < (s[2].toNat : Int) ∨ (s[3].toNat : Int) < 48 ∨ 57 < (s[3].toNat : Int)) → rwyB (bl s) = b) := by
        intro b hb h; rw [rwy_dig HR.out (by omega), hb]
      have HNUM : Hid (48 ≤ (s[2].toNat : Int) → (s[2].toNat : Int) ≤ 51 → 48 ≤ (s[3].toNat : Int) → (s[3].toNat : Int) ≤ 57 → (((s[2].toNat : Int) - 48) * 10 + ((s[3].toNat : Int) - 48) < 1 ∨ 36 < ((s[2].toNat : Int) - 48) * 10 + ((s[3].toNat : Int) - 48)) → rwyB (bl s) = false) := by
        intro h1 h2 h3 h4 h; exact rwy_num HR.out (by omega) (by omega) (by omega) (by omega) (by omega)
      have HOKN : Hid (48 ≤ (s[2].toNat : Int) → (s[2].toNat : Int) ≤ 51 → 48 ≤ (s[3].toNat : Int) → (s[3].toNat : Int) ≤ 57 → 1 ≤ ((s[2].toNat : Int) - 48) * 10 + ((s[3].toNat : Int) - 48) → ((s[2].toNat : Int) - 48) * 10 + ((s[3].toNat : Int) - 48) ≤ 36 → rwyB (bl s) = tailB (bl s)) := by
        intro h1 h2 h3 h4 h5 h6; exact rwy_ok HR.out (by omega) (by omega) (by omega) (by omega) (by omega) (by omega)
      rcases hT with h | ⟨h, e1, e2⟩ | ⟨h, e0, e1, e2, e3⟩ | ⟨h, e0, e1, e2, e3, e4, e5⟩ | ⟨h, e0, e1, e2, e3, e4, e5⟩
      case no =>
        have HF := Lib.hid (rwy_notail (tail_no h e0 e1 e2))
        have e5' : ((s.size : Int) == 5) = true := beq_iff_eq.2 (by omega)
        clear hdig
        go_enter Tryz.func145, Tryz.ntmps145
        go_wp2
        go_ret
        exact .mk HF.out (Drawn.refl _)
      all_goals
        first
          | (have e5' : ((s.size : Int) == 5) = false := beq_eq_false_iff_ne.2 (by omega)
             have HTY := Lib.hid (tail_yes (s := s) (.inl h))
             have HS4 := Lib.hid h
             clear h)
          | (have e5' : ((s.size : Int) == 5) = true := beq_iff_eq.2 (by omega)
             have HTY := Lib.hid (tail_yes (s := s) (.inr ⟨h, by first | exact .inl e2 | exact .inr (.inl e2) | exact .inr (.inr e3)⟩)))
        rcases hdig with d1 | ⟨d1, d2⟩ | ⟨d1, d2, d3⟩ | ⟨d1, d2, d3, d4⟩ | ⟨d1, d2, d3, d4⟩
        case inr.inr.inr.inr =>
          have q1 : IntKind.u8.wrap ((s[2].toNat : Int) - 48) = (s[2].toNat : Int) - 48 := IntWalk.u8_in _ (by omega)
          have q2 : IntKind.u8.wrap ((s[3].toNat : Int) - 48) = (s[3].toNat : Int) - 48 := IntWalk.u8_in _ (by omega)
          have q3 : IntKind.i64.wrap (((s[2].toNat : Int) - 48) * 10) = ((s[2].toNat : Int) - 48) * 10 := IntWalk.i64_in _ (by omega)
          have q4 : IntKind.i64.wrap (((s[2].toNat : Int) - 48) * 10 + ((s[3].toNat : Int) - 48)) = ((s[2].toNat : Int) - 48) * 10 + ((s[3].toNat : Int) - 48) := IntWalk.i64_in _ (by omega)
          have hn : ((s[2].toNat : Int) - 48) * 10 + ((s[3].toNat : Int) - 48) < 1 ∨ (1 ≤ ((s[2].toNat : Int) - 48) * 10 + ((s[3].toNat : Int) - 48) ∧ ((s[2].toNat : Int) - 48) * 10 + ((s[3].toNat : Int) - 48) ≤ 36) ∨ (1 ≤ ((s[2].toNat : Int) - 48) * 10 + ((s[3].toNat : Int) - 48) ∧ 36 < ((s[2].toNat : Int) - 48) * 10 + ((s[3].toNat : Int) - 48)) := by omega
          rcases hn with n1 | ⟨n1, n2⟩ | ⟨n1, n2⟩
          case inr.inl =>
            have HF := Lib.hid ((HOKN.out d1 d2 d3 d4 n1 n2).trans HTY.out)
            have hb1 := decide_eq_true n1
            have hb2 := decide_eq_true n2
            go_enter Tryz.func145, Tryz.ntmps145
            go_wp2
            go_quiet (fail)
            clear q1 q2 q3 q4
            go_wp2
            go_ret
            exact .mk (HF.out.trans hb2.symm) ⟨_, rfl⟩
          all_goals
            have HF := Lib.hid (HNUM.out d1 d2 d3 d4 (by omega))
            try have hb1 : decide (((s[2].toNat : Int) - 48) * 10 + ((s[3].toNat : Int) - 48) ≤ 36) = false := decide_eq_false (by omega)
            go_enter Tryz.func145, Tryz.ntmps145
            go_wp2
            go_quiet (fail)
            clear q1 q2 q3 q4
            go_wp2
            go_ret
            first | exact .mk HF.out ⟨_, rfl⟩ | exact .mk (HF.out.trans hb1.symm) ⟨_, rfl⟩
        all_goals
          have HF := Lib.hid (HBAD.out false rfl (by omega))
          go_enter Tryz.func145, Tryz.ntmps145
          go_wp2
          go_ret
          exact .mk HF.out (Drawn.refl _)

theorem navaid_any (k:Nat) (w:World):Calls Tryz.prog 67 #[.int .u8 (k:Int)] w fun e w'=>e=.returned (.bool (navB k))∧w=w':=by
 have hk:k=2∨k=3∨k=4∨(k≠2∧k≠3∧k≠4):=by omega
 rcases hk with rfl|rfl|rfl|⟨h2,h3,h4⟩
 case inr.inr.inr =>
  have e2:((k:Int) == 2)=false:=beq_eq_false_iff_ne.2 (by omega)
  have e3:((k:Int) == 3)=false:=beq_eq_false_iff_ne.2 (by omega)
  have e4:((k:Int) == 4)=false:=beq_eq_false_iff_ne.2 (by omega)
  have HN:Hid (navB k=false):=by unfold Hid navB;rw[decide_eq_false h2,decide_eq_false h3,decide_eq_false h4];rfl
  clear h2 h3 h4
  go_enter Tryz.func67,Tryz.ntmps67
  go_wp2
  go_ret
  exact⟨ret_bool HN.out.symm,rfl⟩
 all_goals
  go_enter Tryz.func67,Tryz.ntmps67
  go_wp2
  go_ret
  exact⟨rfl,rfl⟩
theorem elevated_any (k:Nat) (w:World):Calls Tryz.prog 66 #[.int .u8 (k:Int)] w fun e w'=>e=.returned (.bool (elevB k))∧w=w':=by
 have hk:k=5∨k=6∨(k≠5∧k≠6):=by omega
 rcases hk with rfl|rfl|⟨h2,h3⟩
 case inr.inr =>
  have e2:((k:Int) == 5)=false:=beq_eq_false_iff_ne.2 (by omega)
  have e3:((k:Int) == 6)=false:=beq_eq_false_iff_ne.2 (by omega)
  have HN:Hid (elevB k=false):=by unfold Hid elevB;rw[decide_eq_false h2,decide_eq_false h3];rfl
  clear h2 h3
  go_enter Tryz.func66,Tryz.ntmps66
  go_wp2
  go_ret
  exact⟨ret_bool HN.out.symm,rfl⟩
 all_goals
  go_enter Tryz.func66,Tryz.ntmps66
  go_wp2
  go_ret
  exact⟨rfl,rfl⟩
def EPost (er:Int) (w:World) (e:Ending) (w':World):Prop:=e=.returned (.int .i64 er)∧Drawn w w'
theorem EPost.mk {er x:Int} {w w':World} (h:er=x) (hd:Drawn w w'):EPost er w (.returned (.int .i64 x)) w':=by subst h;exact⟨rfl,hd⟩
theorem identE_ways (l:List UInt8) (k:Nat):(nameB l 6=false∧Hid (identE l k=5))∨(nameB l 6=true∧((k≠6∧Hid (identE l k=0))∨(k=6∧((rwyB l=true∧Hid (identE l k=0))∨(rwyB l=false∧Hid (identE l k=5)))))):=by
 unfold identE Hid
 by_cases h6:k=6
 ·subst h6;cases nameB l 6 <;> cases rwyB l <;> simp
 ·have:(k != 6)=true:=bne_iff_ne.2 h6
  rw[this];cases nameB l 6 <;> simp[h6]
theorem locE_ways (l:List UInt8) (k:Nat):(k=6∧((nameB l 6=true∧Hid (locE l k=0))∨(nameB l 6=false∧Hid (locE l k=5))))∨(k≠6∧((shortB l=true∧Hid (locE l k=0))∨(shortB l=false∧Hid (locE l k=5)))):=by
 unfold locE Hid
 by_cases h6:k=6
 ·subst h6;cases nameB l 6 <;> simp
 ·have h1:(k != 6)=true:=bne_iff_ne.2 h6
  have h2:(k == 6)=false:=beq_eq_false_iff_ne.2 h6
  rw[h1,h2];cases shortB l <;> simp[h6]
set_option maxHeartbeats 1000000 in
theorem identified_any (s:ByteArray) (k:Nat) (w:World) (hs:s.size≤maxLen):Calls Tryz.prog 64 #[.string s,.int .u8 (k:Int)] w (EPost (identE (bl s) k) w):=by
 rcases identE_ways (bl s) k with ⟨h1,hr⟩|⟨h1,⟨h6,hr⟩|⟨rfl,⟨h2,hr⟩|⟨h2,hr⟩⟩⟩
 ·have H1:=Lib.hid h1
  clear h1
  go_enter Tryz.func64,Tryz.ntmps64
  go_wp2_with fail
  refine(name_any s 6 _ hs).mono ?_
  rintro e w' ⟨rfl,rfl⟩
  rw[H1.out]
  go_wp2
  go_ret
  exact .mk hr.out (Drawn.refl _)
 ·have H1:=Lib.hid h1
  have e6:((k:Int) == 6)=false:=beq_eq_false_iff_ne.2 (by omega)
  clear h1 h6
  go_enter Tryz.func64,Tryz.ntmps64
  go_wp2_with fail
  refine(name_any s 6 _ hs).mono ?_
  rintro e w' ⟨rfl,rfl⟩
  rw[H1.out]
  go_wp2
  go_ret
  exact .mk hr.out (Drawn.refl _)
 all_goals
  have H1:=Lib.hid h1
  have H2:=Lib.hid h2
  clear h1 h2
  go_enter Tryz.func64,Tryz.ntmps64
  go_wp2_with fail
  refine(name_any s 6 _ hs).mono ?_
  rintro e w' ⟨rfl,rfl⟩
  rw[H1.out]
  go_wp2_with fail
  refine(runway_any s _ hs).mono ?_
  rintro e w' ⟨rfl,hd⟩
  rw[H2.out]
  go_wp2
  go_ret
  exact .mk hr.out hd
set_option maxHeartbeats 1000000 in
theorem rident_any (s:ByteArray) (k:Nat) (w:World) (hs:s.size≤maxLen):Calls Tryz.prog 127 #[.int .u8 (k:Int),.string s] w (EPost (identE (bl s) k) w):=by
 rcases identE_ways (bl s) k with ⟨h1,hr⟩|⟨h1,⟨h6,hr⟩|⟨rfl,⟨h2,hr⟩|⟨h2,hr⟩⟩⟩
 ·have H1:=Lib.hid h1
  clear h1
  go_enter Tryz.func127,Tryz.ntmps127
  go_wp2_with fail
  refine(rname_any s 6 _ hs).mono ?_
  rintro e w' ⟨rfl,rfl⟩
  rw[H1.out]
  go_wp2
  go_ret
  exact .mk hr.out (Drawn.refl _)
 ·have H1:=Lib.hid h1
  have e6:((k:Int) == 6)=false:=beq_eq_false_iff_ne.2 (by omega)
  clear h1 h6
  go_enter Tryz.func127,Tryz.ntmps127
  go_wp2_with fail
  refine(rname_any s 6 _ hs).mono ?_
  rintro e w' ⟨rfl,rfl⟩
  rw[H1.out]
  go_wp2
  go_ret
  exact .mk hr.out (Drawn.refl _)
 all_goals
  have H1:=Lib.hid h1
  have H2:=Lib.hid h2
  clear h1 h2
  go_enter Tryz.func127,Tryz.ntmps127
  go_wp2_with fail
  refine(rname_any s 6 _ hs).mono ?_
  rintro e w' ⟨rfl,rfl⟩
  rw[H1.out]
  go_wp2_with fail
  refine(rrunway_any s _ hs).mono ?_
  rintro e w' ⟨rfl,hd⟩
  rw[H2.out]
  go_wp2
  go_ret
  exact .mk hr.out hd
set_option maxHeartbeats 1000000 in
theorem located_any (s:ByteArray) (k:Nat) (w:World) (hs:s.size≤maxLen):Calls Tryz.prog 65 #[.string s,.int .u8 (k:Int)] w (EPost (locE (bl s) k) w):=by
 rcases locE_ways (bl s) k with ⟨rfl,⟨h1,hr⟩|⟨h1,hr⟩⟩|⟨h6,⟨h1,hr⟩|⟨h1,hr⟩⟩
 case inr.inl =>
  have H1:=Lib.hid h1
  have e6:((k:Int) == 6)=false:=beq_eq_false_iff_ne.2 (by omega)
  have e7:((k:Int) != 6)=true:=bne_iff_ne.2 (by omega)
  clear h1 h6
  go_enter Tryz.func65,Tryz.ntmps65
  go_wp2_with fail
  refine(short_any s _ hs).mono ?_
  rintro e w' ⟨rfl,rfl⟩
  rw[H1.out]
  go_wp2
  go_ret
  exact .mk hr.out (Drawn.refl _)
 case inr.inr =>
  have H1:=Lib.hid h1
  have e6:((k:Int) == 6)=false:=beq_eq_false_iff_ne.2 (by omega)
  have e7:((k:Int) != 6)=true:=bne_iff_ne.2 (by omega)
  clear h1 h6
  go_enter Tryz.func65,Tryz.ntmps65
  go_wp2_with fail
  refine(short_any s _ hs).mono ?_
  rintro e w' ⟨rfl,rfl⟩
  rw[H1.out]
  go_wp2
  go_ret
  exact .mk hr.out (Drawn.refl _)
 all_goals
  have H1:=Lib.hid h1
  clear h1
  go_enter Tryz.func65,Tryz.ntmps65
  go_wp2_with fail
  refine(name_any s 6 _ hs).mono ?_
  rintro e w' ⟨rfl,rfl⟩
  rw[H1.out]
  go_wp2
  go_ret
  exact .mk hr.out (Drawn.refl _)
set_option maxHeartbeats 1000000 in
theorem rlocated_any (s:ByteArray) (k:Nat) (w:World) (hs:s.size≤maxLen):Calls Tryz.prog 128 #[.int .u8 (k:Int),.string s] w (EPost (locE (bl s) k) w):=by
 rcases locE_ways (bl s) k with ⟨rfl,⟨h1,hr⟩|⟨h1,hr⟩⟩|⟨h6,⟨h1,hr⟩|⟨h1,hr⟩⟩
 case inr.inl =>
  have H1:=Lib.hid h1
  have e6:((k:Int) == 6)=false:=beq_eq_false_iff_ne.2 (by omega)
  have e7:((k:Int) != 6)=true:=bne_iff_ne.2 (by omega)
  clear h1 h6
  go_enter Tryz.func128,Tryz.ntmps128
  go_wp2_with fail
  refine(region_any s _ hs).mono ?_
  rintro e w' ⟨rfl,rfl⟩
  rw[H1.out]
  go_wp2
  go_ret
  exact .mk hr.out (Drawn.refl _)
 case inr.inr =>
  have H1:=Lib.hid h1
  have e6:((k:Int) == 6)=false:=beq_eq_false_iff_ne.2 (by omega)
  have e7:((k:Int) != 6)=true:=bne_iff_ne.2 (by omega)
  clear h1 h6
  go_enter Tryz.func128,Tryz.ntmps128
  go_wp2_with fail
  refine(region_any s _ hs).mono ?_
  rintro e w' ⟨rfl,rfl⟩
  rw[H1.out]
  go_wp2
  go_ret
  exact .mk hr.out (Drawn.refl _)
 all_goals
  have H1:=Lib.hid h1
  clear h1
  go_enter Tryz.func128,Tryz.ntmps128
  go_wp2_with fail
  refine(rname_any s 6 _ hs).mono ?_
  rintro e w' ⟨rfl,rfl⟩
  rw[H1.out]
  go_wp2
  go_ret
  exact .mk hr.out (Drawn.refl _)
theorem posB_iff {a b:Int}:posB a b=true ↔ -32400000≤a∧a≤32400000 ∧ -64800000<b∧b≤64800000:=by
 unfold posB latB lonB;simp only[Bool.and_eq_true,decide_eq_true_eq];omega
theorem posB_ways (a b:Int):(a < -32400000∧Hid (posB a b=false))∨(-32400000≤a∧32400000<a∧Hid (posB a b=false))∨(-32400000≤a∧a≤32400000∧b ≤ -64800000∧Hid (posB a b=false))∨(-32400000≤a∧a≤32400000 ∧ -64800000<b∧decide (b≤64800000)=false∧Hid (posB a b=false))∨(-32400000≤a∧a≤32400000 ∧ -64800000<b∧decide (b≤64800000)=true∧Hid (posB a b=true)):=by
 by_cases h:posB a b=true
 ·have h2:=posB_iff.1 h
  exact .inr (.inr (.inr (.inr ⟨h2.1,h2.2.1,h2.2.2.1,decide_eq_true h2.2.2.2,h⟩)))
 ·have hf:Hid (posB a b=false):=by unfold Hid;simpa using h
  have h2:¬(-32400000≤a∧a≤32400000 ∧ -64800000<b∧b≤64800000):=fun x=>h (posB_iff.2 x)
  by_cases h3:a < -32400000
  ·exact .inl ⟨h3,hf⟩
  ·by_cases h4:32400000<a
   ·exact .inr (.inl ⟨by omega,h4,hf⟩)
   ·by_cases h5:b ≤ -64800000
    ·exact .inr (.inr (.inl ⟨by omega,by omega,h5,hf⟩))
    ·exact .inr (.inr (.inr (.inl ⟨by omega,by omega,by omega,decide_eq_false (by omega),hf⟩)))
theorem valid_any (a b:Int) (w:World):Calls Tryz.prog 60 #[.agg #[.int .i64 a,.int .i64 b]] w fun e w'=>e=.returned (.bool (posB a b))∧Below w.heap.size w w':=by
 rcases posB_ways a b with ⟨h1,hf⟩|⟨h1,h2,hf⟩|⟨h1,h2,h3,hf⟩|⟨h1,h2,h3,h4,hf⟩|⟨h1,h2,h3,h4,hf⟩
 all_goals
  go_enter Tryz.func60,Tryz.ntmps60
  go_wp2
  go_ret
  exact⟨ret_bool hf.out.symm,(Below.refl _ _).alloc (Nat.le_refl _) _⟩
theorem rvalid_any (a b:Int) (w:World):Calls Tryz.prog 129 #[.agg #[.int .i64 a,.int .i64 b]] w fun e w'=>e=.returned (.bool (posB a b))∧Below w.heap.size w w':=by
 rcases posB_ways a b with ⟨h1,hf⟩|⟨h1,h2,hf⟩|⟨h1,h2,h3,hf⟩|⟨h1,h2,h3,h4,hf⟩|⟨h1,h2,h3,h4,hf⟩
 all_goals
  go_enter Tryz.func129,Tryz.ntmps129
  go_wp2
  go_ret
  exact⟨ret_bool hf.out.symm,(Below.refl _ _).alloc (Nat.le_refl _) _⟩

def CkPost (er:Int) (w:World) (e:Ending) (w':World):Prop:=e=.returned (.int .i64 er)∧Below w.heap.size w w'
theorem CkPost.mk {er x:Int} {w w':World} (h:er=x) (hd:Below w.heap.size w w'):CkPost er w (.returned (.int .i64 x)) w':=by subst h;exact⟨rfl,hd⟩
theorem fixE_kind {f:Fx} (h:f.kd<1∨6<f.kd):fixE f=17:=if_pos h
theorem fixE_id {f:Fx} (h:¬(f.kd<1∨6<f.kd)) (h1:identE f.id f.kd≠0):fixE f=5:=by unfold fixE;rw[if_neg h,if_pos h1]
theorem fixE_rg {f:Fx} (h:¬(f.kd<1∨6<f.kd)) (h1:identE f.id f.kd=0) (h2:locE f.rg f.kd≠0):fixE f=5:=by unfold fixE;rw[if_neg h,if_neg (by simp[h1]),if_pos h2]
theorem fixE_pos {f:Fx} (h:¬(f.kd<1∨6<f.kd)) (h1:identE f.id f.kd=0) (h2:locE f.rg f.kd=0) (h3:posB f.lat f.lon=false):fixE f=2:=by
 unfold fixE;rw[if_neg h,if_neg (by simp[h1]),if_neg (by simp[h2]),if_pos h3]
theorem fixE_rest {f:Fx} (h:¬(f.kd<1∨6<f.kd)) (h1:identE f.id f.kd=0) (h2:locE f.rg f.kd=0) (h3:posB f.lat f.lon=true):fixE f=if elE f.kd f.el≠0 then elE f.kd f.el else raE f.kd f.ra:=by
 unfold fixE;rw[if_neg h,if_neg (by simp[h1]),if_neg (by simp[h2]),if_neg (by rw[h3];decide)]
theorem identE_5 {l:List UInt8} {k:Nat} (h:identE l k≠0):identE l k=5:=by unfold identE at *;split at h <;> simp_all
theorem locE_5 {l:List UInt8} {k:Nat} (h:locE l k≠0):locE l k=5:=by unfold locE at *;split at h <;> simp_all
inductive ElW (k:Nat) (x:Int) (lo hi:Int) (isB:Nat→Bool) (er:Int):Prop
 | low (h:isB k=true) (h1:x<lo) (e:er=2)
 | high (h:isB k=true) (h0:lo≤x) (h1:hi<x) (e:er=2)
 | ok (h:isB k=true) (h0:lo≤x) (h1:x≤hi) (e:er=0)
 | arg (h:isB k=false) (h0:(x != 0)=true) (e:er=1)
 | none (h:isB k=false) (h0:(x != 0)=false) (e:er=0)
theorem elW (k:Nat) (x:Int):ElW k x (-200000) 6000000 elevB (elE k x):=by
 cases h:elevB k
 ·by_cases hx:x=0
  ·exact .none h (bne_eq_false_iff_eq.2 hx) (by unfold elE;rw[h];simp[hx])
  ·exact .arg h (bne_iff_ne.2 hx) (by unfold elE;rw[h];simp[hx])
 ·by_cases h1:x < -200000
  ·exact .low h h1 (by unfold elE;rw[h,if_pos rfl,if_pos (.inl h1)])
  ·by_cases h2:6000000<x
   ·exact .high h (by omega) h2 (by unfold elE;rw[h,if_pos rfl,if_pos (.inr h2)])
   ·exact .ok h (by omega) (by omega) (by unfold elE;rw[h,if_pos rfl,if_neg (by omega)])
theorem raW (k:Nat) (x:Int):ElW k x 1 8000000 navB (raE k x):=by
 cases h:navB k
 ·by_cases hx:x=0
  ·exact .none h (bne_eq_false_iff_eq.2 hx) (by unfold raE;rw[h];simp[hx])
  ·exact .arg h (bne_iff_ne.2 hx) (by unfold raE;rw[h];simp[hx])
 ·by_cases h1:x<1
  ·exact .low h h1 (by unfold raE;rw[h,if_pos rfl,if_pos (.inl h1)])
  ·by_cases h2:8000000<x
   ·exact .high h (by omega) h2 (by unfold raE;rw[h,if_pos rfl,if_pos (.inr h2)])
   ·exact .ok h (by omega) (by omega) (by unfold raE;rw[h,if_pos rfl,if_neg (by omega)])
set_option maxRecDepth 100000 in
set_option maxHeartbeats 4000000 in
theorem checkF_any (f:Fx) (w:World) (hi:f.id.length≤maxLen) (hr:f.rg.length≤maxLen) :
  Calls Tryz.prog 15 #[.agg #[.string (sb f.id),.string (sb f.rg),.int .u8 (f.kd:Int),.int .i64 f.lat,.int .i64 f.lon,.int .i64 f.el,.int .i64 f.ra]] w (CkPost (fixE f) w):=by
 have B0:=Lib.hid (fxBox_new w f)
 have HB0:Hid (Below w.heap.size w (w.alloc (.cells #[.string (sb f.id),.string (sb f.rg),.int .u8 (f.kd:Int),.int .i64 f.lat,.int .i64 f.lon,.int .i64 f.el,.int .i64 f.ra] 38))):=(Below.refl _ _).alloc (Nat.le_refl _) _
 have hk:f.kd<1∨(1≤f.kd∧6<f.kd)∨(1≤f.kd∧f.kd≤6):=by omega
 rcases hk with k1|⟨k1,k2⟩|⟨k1,k2⟩
 ·have HF:=Lib.hid (fixE_kind (f:=f) (.inl k1))
  have q1:(f.kd:Int)<1:=by omega
  clear k1 hi hr
  go_enter Tryz.func15,Tryz.ntmps15
  go_wp2
  go_ret
  exact .mk HF.out HB0.out
 ·have HF:=Lib.hid (fixE_kind (f:=f) (.inr k2))
  have q1:(1:Int)≤(f.kd:Int):=by omega
  have q2:(6:Int)<(f.kd:Int):=by omega
  clear k1 k2 hi hr
  go_enter Tryz.func15,Tryz.ntmps15
  go_wp2
  go_ret
  exact .mk HF.out HB0.out
 ·have HK:Hid (¬(f.kd<1∨6<f.kd)):=by unfold Hid;omega
  have q1:(1:Int)≤(f.kd:Int):=by omega
  have q2:(f.kd:Int)≤6:=by omega
  have HI:=Lib.hid hi
  have HR:=Lib.hid hr
  clear k1 k2 hi hr
  go_enter Tryz.func15,Tryz.ntmps15
  go_wp2_with fail
  refine(identified_any (sb f.id) f.kd _ HI.out).mono ?_
  rintro e w1 ⟨rfl,hd1⟩
  rw[bl_sb]
  have B1:=Lib.hid (B0.out.below hd1.below)
  have HB1:=Lib.hid (Below.then_ HB0.out hd1.below)
  obtain⟨c0,c1,c2,c3,c4,c5,c6⟩:=B1.out.cells
  obtain⟨e1,he1⟩:∃x,identE f.id f.kd=x:=⟨_,rfl⟩
  rw[he1]
  have HE1:=Lib.hid he1
  clear he1 hd1
  by_cases z1:e1=0
  ·subst z1
   go_wp2_with fail
   refine(located_any (sb f.rg) f.kd _ HR.out).mono ?_
   rintro e w2 ⟨rfl,hd2⟩
   rw[bl_sb]
   have B2:=Lib.hid (B1.out.below hd2.below)
   have HB2:=Lib.hid (Below.then_ HB1.out hd2.below)
   clear c0 c1 c2 c3 c4 c5 c6
   obtain⟨c0,c1,c2,c3,c4,c5,c6⟩:=B2.out.cells
   obtain⟨e2,he2⟩:∃x,locE f.rg f.kd=x:=⟨_,rfl⟩
   rw[he2]
   have HE2:=Lib.hid he2
   clear he2 hd2 HB1 B1
   by_cases z2:e2=0
   ·subst z2
    go_wp2_with fail
    refine(valid_any f.lat f.lon _).mono ?_
    rintro e w3 ⟨rfl,hb3⟩
    have B3:=Lib.hid (B2.out.below hb3)
    have HB3:=Lib.hid (Below.then_ HB2.out hb3)
    clear c0 c1 c2 c3 c4 c5 c6
    obtain⟨c0,c1,c2,c3,c4,c5,c6⟩:=B3.out.cells
    clear hb3 HB2 B2
    cases hp:posB f.lat f.lon
    ·have HF:=Lib.hid (fixE_pos HK.out HE1.out HE2.out hp)
     clear hp
     go_wp2
     go_ret
     exact .mk HF.out HB3.out
    ·have HF:=Lib.hid (fixE_rest HK.out HE1.out HE2.out hp)
     have EW:=elW f.kd f.el
     obtain⟨ee,hee⟩:∃x,elE f.kd f.el=x:=⟨_,rfl⟩
     obtain⟨er,her⟩:∃x,raE f.kd f.ra=x:=⟨_,rfl⟩
     rw[hee] at HF EW
     have RW:=raW f.kd f.ra
     rw[her] at HF RW
     clear hp hee her
     rcases EW with ⟨h,h1,e⟩|⟨h,h0,h1,e⟩|⟨h,h0,h1,e⟩|⟨h,h0,e⟩|⟨h,h0,e⟩
     case low|high|arg =>
      have HF2:=Lib.hid (HF.out.trans (if_pos (by rw[e];decide)))
      have HX:=Lib.hid e
      have HH:=Lib.hid h
      clear e h RW HF
      go_wp2_with fail
      refine(elevated_any f.kd _).mono ?_
      rintro en w4 ⟨rfl,rfl⟩
      rw[HH.out]
      go_wp2
      go_ret
      exact .mk (HF2.out.trans HX.out) HB3.out
     all_goals
      have HF2:=Lib.hid (HF.out.trans (if_neg (by rw[e];decide)))
      have HH:=Lib.hid h
      clear e h HF
      go_wp2_with fail
      refine(elevated_any f.kd _).mono ?_
      rintro en w4 ⟨rfl,rfl⟩
      rw[HH.out]
      go_wp2_with fail
      refine(navaid_any f.kd _).mono ?_
      rintro en w5 ⟨rfl,rfl⟩
      rcases RW with ⟨h,g1,e⟩|⟨h,g0,g1,e⟩|⟨h,g0,g1,e⟩|⟨h,g0,e⟩|⟨h,g0,e⟩
      all_goals
       rw[h]
       have HX:=Lib.hid e
       clear e h
       go_wp2
       go_ret
       exact .mk (HF2.out.trans HX.out) HB3.out
   ·have HF:=Lib.hid (fixE_rg HK.out HE1.out (by rw[HE2.out];exact z2))
    have HX:=Lib.hid (HE2.out.symm.trans (locE_5 (by rw[HE2.out];exact z2)))
    have e3:(e2 != 0)=true:=bne_iff_ne.2 z2
    clear z2
    go_wp2
    go_ret
    exact .mk (HF.out.trans HX.out.symm) HB2.out
  ·have HF:=Lib.hid (fixE_id HK.out (by rw[HE1.out];exact z1))
   have HX:=Lib.hid (HE1.out.symm.trans (identE_5 (by rw[HE1.out];exact z1)))
   have e3:(e1 != 0)=true:=bne_iff_ne.2 z1
   clear z1
   go_wp2
   go_ret
   exact .mk (HF.out.trans HX.out.symm) HB1.out
theorem elev_yes {k:Nat} (h:elevB k=true):(5:Int)≤(k:Int):=by unfold elevB at h;simp at h;omega
theorem elev_no {k:Nat} (h:elevB k=false) (h6:(k:Int)≤6):(k:Int)<5:=by unfold elevB at h;simp at h;omega
theorem nav_ways {k:Nat} {b:Bool} (h:navB k=b):(b=true∧(2:Int)≤(k:Int)∧(k:Int)≤4)∨(b=false∧(k:Int)<2)∨(b=false∧(2:Int)≤(k:Int)∧4<(k:Int)):=by
 subst h
 cases h:navB k
 ·unfold navB at h;simp at h
  by_cases h2:(k:Int)<2
  ·exact .inr (.inl ⟨rfl,h2⟩)
  ·exact .inr (.inr ⟨rfl,by omega,by omega⟩)
 ·unfold navB at h;simp at h
  exact .inl ⟨rfl,by omega,by omega⟩
set_option maxRecDepth 100000 in
set_option maxHeartbeats 4000000 in
theorem rcheckF_any (f:Fx) (w:World) (hi:f.id.length≤maxLen) (hr:f.rg.length≤maxLen) :
  Calls Tryz.prog 50 #[.agg #[.string (sb f.id),.string (sb f.rg),.int .u8 (f.kd:Int),.int .i64 f.lat,.int .i64 f.lon,.int .i64 f.el,.int .i64 f.ra]] w (CkPost (fixE f) w):=by
 have B0:=Lib.hid (fxBox_new w f)
 have HB0:Hid (Below w.heap.size w (w.alloc (.cells #[.string (sb f.id),.string (sb f.rg),.int .u8 (f.kd:Int),.int .i64 f.lat,.int .i64 f.lon,.int .i64 f.el,.int .i64 f.ra] 38))):=(Below.refl _ _).alloc (Nat.le_refl _) _
 have hk:f.kd<1∨(1≤f.kd∧6<f.kd)∨(1≤f.kd∧f.kd≤6):=by omega
 rcases hk with k1|⟨k1,k2⟩|⟨k1,k2⟩
 ·have HF:=Lib.hid (fixE_kind (f:=f) (.inl k1))
  have q1:(f.kd:Int)<1:=by omega
  clear k1 hi hr
  go_enter Tryz.func50,Tryz.ntmps50
  go_wp2
  go_ret
  exact .mk HF.out HB0.out
 ·have HF:=Lib.hid (fixE_kind (f:=f) (.inr k2))
  have q1:(1:Int)≤(f.kd:Int):=by omega
  have q2:(6:Int)<(f.kd:Int):=by omega
  clear k1 k2 hi hr
  go_enter Tryz.func50,Tryz.ntmps50
  go_wp2
  go_ret
  exact .mk HF.out HB0.out
 ·have HK:Hid (¬(f.kd<1∨6<f.kd)):=by unfold Hid;omega
  have q1:(1:Int)≤(f.kd:Int):=by omega
  have q2:(f.kd:Int)≤6:=by omega
  have HI:=Lib.hid hi
  have HR:=Lib.hid hr
  clear k1 k2 hi hr
  go_enter Tryz.func50,Tryz.ntmps50
  go_wp2_with fail
  refine(rident_any (sb f.id) f.kd _ HI.out).mono ?_
  rintro e w1 ⟨rfl,hd1⟩
  rw[bl_sb]
  have B1:=Lib.hid (B0.out.below hd1.below)
  have HB1:=Lib.hid (Below.then_ HB0.out hd1.below)
  obtain⟨c0,c1,c2,c3,c4,c5,c6⟩:=B1.out.cells
  obtain⟨e1,he1⟩:∃x,identE f.id f.kd=x:=⟨_,rfl⟩
  rw[he1]
  have HE1:=Lib.hid he1
  clear he1 hd1
  by_cases z1:e1=0
  ·subst z1
   go_wp2_with fail
   refine(rlocated_any (sb f.rg) f.kd _ HR.out).mono ?_
   rintro e w2 ⟨rfl,hd2⟩
   rw[bl_sb]
   have B2:=Lib.hid (B1.out.below hd2.below)
   have HB2:=Lib.hid (Below.then_ HB1.out hd2.below)
   clear c0 c1 c2 c3 c4 c5 c6
   obtain⟨c0,c1,c2,c3,c4,c5,c6⟩:=B2.out.cells
   obtain⟨e2,he2⟩:∃x,locE f.rg f.kd=x:=⟨_,rfl⟩
   rw[he2]
   have HE2:=Lib.hid he2
   clear he2 hd2 HB1 B1
   by_cases z2:e2=0
   ·subst z2
    go_wp2_with fail
    refine(rvalid_any f.lat f.lon _).mono ?_
    rintro e w3 ⟨rfl,hb3⟩
    have B3:=Lib.hid (B2.out.below hb3)
    have HB3:=Lib.hid (Below.then_ HB2.out hb3)
    clear c0 c1 c2 c3 c4 c5 c6
    obtain⟨c0,c1,c2,c3,c4,c5,c6⟩:=B3.out.cells
    clear hb3 HB2 B2
    cases hp:posB f.lat f.lon
    ·have HF:=Lib.hid (fixE_pos HK.out HE1.out HE2.out hp)
     clear hp
     go_wp2
     go_ret
     exact .mk HF.out HB3.out
    ·have HF:=Lib.hid (fixE_rest HK.out HE1.out HE2.out hp)
     have EW:=elW f.kd f.el
     obtain⟨ee,hee⟩:∃x,elE f.kd f.el=x:=⟨_,rfl⟩
     obtain⟨er,her⟩:∃x,raE f.kd f.ra=x:=⟨_,rfl⟩
     rw[hee] at HF EW
     have RW:=raW f.kd f.ra
     rw[her] at HF RW
     clear hp hee her
     rcases EW with ⟨h,h1,e⟩|⟨h,h0,h1,e⟩|⟨h,h0,h1,e⟩|⟨h,h0,e⟩|⟨h,h0,e⟩
     case low|high|arg =>
      have HF2:=Lib.hid (HF.out.trans (if_pos (by rw[e];decide)))
      have HX:=Lib.hid e
      first|have hk5:=elev_yes h|have hk5:=elev_no h q2
      clear e h RW HF
      go_wp2
      go_ret
      exact .mk (HF2.out.trans HX.out) HB3.out
     all_goals
      have HF2:=Lib.hid (HF.out.trans (if_neg (by rw[e];decide)))
      first|have hk5:=elev_yes h|have hk5:=elev_no h q2
      clear e h HF
      rcases RW with ⟨h,g1,e⟩|⟨h,g0,g1,e⟩|⟨h,g0,g1,e⟩|⟨h,g0,e⟩|⟨h,g0,e⟩
      all_goals
       have HX:=Lib.hid e
       have HN:=nav_ways h
       clear e h
       rcases HN with ⟨hh,n1,n2⟩|⟨hh,n1⟩|⟨hh,n1,n2⟩
       all_goals
        first
         | exact absurd hh (by decide)
         | (exfalso;omega)
         | (clear hh;go_wp2;go_ret;exact .mk (HF2.out.trans HX.out) HB3.out)
   ·have HF:=Lib.hid (fixE_rg HK.out HE1.out (by rw[HE2.out];exact z2))
    have HX:=Lib.hid (HE2.out.symm.trans (locE_5 (by rw[HE2.out];exact z2)))
    have e3:(e2 != 0)=true:=bne_iff_ne.2 z2
    clear z2
    go_wp2
    go_ret
    exact .mk HF.out HB2.out
  ·have HF:=Lib.hid (fixE_id HK.out (by rw[HE1.out];exact z1))
   have HX:=Lib.hid (HE1.out.symm.trans (identE_5 (by rw[HE1.out];exact z1)))
   have e3:(e1 != 0)=true:=bne_iff_ne.2 z1
   clear z1
   go_wp2
   go_ret
   exact .mk HF.out HB1.out
end Go.Proofs.YtgmehlgfilpleaaGreatDoor
