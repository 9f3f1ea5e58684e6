/-
  Contracts: identifiers of runways, on both sides.
-/
import Derived.Test.YtakgcdefbbgdaaaGreatDoorMG08
import Derived.IntWalk
namespace Go.Proofs.YtakgcdefbbgdaaaGreatDoor
open Go.RowKit
set_option linter.unusedVariables false
set_option linter.unusedSimpArgs false

theorem getD_at {s : ByteArray} {k : Nat} (h : k < s.size) : (bl s).getD k 0 = s[k] := by
  rw [List.getD_eq_getElem?_getD, bl_get? s k h]; rfl
theorem rwy_short {s : ByteArray} (h : s.size < 4 ∨ 5 < s.size) : rwyB (bl s) = false := by
  unfold rwyB
  rcases h with h | h
  · rw [decide_eq_false (p := 4 ≤ (bl s).length) (by rw [bl_len]; omega)]; rfl
  · rw [decide_eq_false (p := (bl s).length ≤ 5) (by rw [bl_len]; omega)]; simp
theorem rwy_word {s : ByteArray} (h : ((s.extract 0 2).toList == [82, 87]) = false) : rwyB (bl s) = false := by
  unfold rwyB
  have : ((bl s).take 2 == [82, 87]) = false := by
    rw [bl_toList, bl_extract] at h
    exact h
  rw [this]; simp
/-- the ways of a text of four or five bytes that begins with RW -/
structure RwF (s : ByteArray) (x y : Nat) : Prop where
  a : 4 ≤ s.size
  b : s.size ≤ 5
  w : ((s.extract 0 2).toList == [82, 87]) = true
  x2 : (bl s).getD 2 0 = UInt8.ofNat x
  y3 : (bl s).getD 3 0 = UInt8.ofNat y
  xb : x < 256
  yb : y < 256
theorem rwy_dig {s : ByteArray} {x y : Nat} (h : RwF s x y) (hd : x < 48 ∨ 51 < x ∨ y < 48 ∨ 57 < y) : rwyB (bl s) = false := by
  unfold rwyB digC
  rw [h.x2, h.y3]
  have e1 : (UInt8.ofNat x).toNat = x := by have := h.xb; simp; omega
  have e2 : (UInt8.ofNat y).toNat = y := by have := h.yb; simp; omega
  rw [e1, e2]
  rw [← Bool.not_eq_true]
  simp only [Bool.and_eq_true, decide_eq_true_eq]
  omega
theorem rwy_num {s : ByteArray} {x y : Nat} (h : RwF s x y) (h1 : 48 ≤ x) (h2 : x ≤ 51) (h3 : 48 ≤ y) (h4 : y ≤ 57) (hn : 10 * (x - 48) + (y - 48) < 1 ∨ 36 < 10 * (x - 48) + (y - 48)) : rwyB (bl s) = false := by
  unfold rwyB digC
  rw [h.x2, h.y3]
  have e1 : (UInt8.ofNat x).toNat = x := by have := h.xb; simp; omega
  have e2 : (UInt8.ofNat y).toNat = y := by have := h.yb; simp; omega
  rw [e1, e2]
  rw [← Bool.not_eq_true]
  simp only [Bool.and_eq_true, decide_eq_true_eq]
  omega
theorem rwy_ok {s : ByteArray} {x y : Nat} (h : RwF s x y) (h1 : 48 ≤ x) (h2 : x ≤ 51) (h3 : 48 ≤ y) (h4 : y ≤ 57) (hn : 1 ≤ 10 * (x - 48) + (y - 48)) (hn2 : 10 * (x - 48) + (y - 48) ≤ 36) :
    rwyB (bl s) = (decide ((bl s).length = 4) || (bl s).getD 4 0 == 76 || (bl s).getD 4 0 == 67 || (bl s).getD 4 0 == 82) := by
  unfold rwyB digC
  rw [h.x2, h.y3]
  have e1 : (UInt8.ofNat x).toNat = x := by have := h.xb; simp; omega
  have e2 : (UInt8.ofNat y).toNat = y := by have := h.yb; simp; omega
  have e3 : ((bl s).take 2 == [82, 87]) = true := by
    have hw := h.w
    rw [bl_toList, bl_extract] at hw
    exact hw
  rw [e1, e2, e3, decide_eq_true (p := 4 ≤ (bl s).length) (by rw [bl_len]; exact h.a), decide_eq_true (p := (bl s).length ≤ 5) (by rw [bl_len]; exact h.b), decide_eq_true h1, decide_eq_true (p := x ≤ 57) (by omega), decide_eq_true h2, decide_eq_true h3, decide_eq_true h4, decide_eq_true hn, decide_eq_true hn2]
  rfl
theorem rwF_mk {s : ByteArray} (h4 : 4 ≤ s.size) (h5 : s.size ≤ 5) (hw : ((s.extract 0 2).toList == [82, 87]) = true) : RwF s (s[2]'(by omega)).toNat (s[3]'(by omega)).toNat :=
  ⟨h4, h5, hw, by rw [getD_at (show 2 < s.size by omega), UInt8.ofNat_toNat], by rw [getD_at (show 3 < s.size by omega), UInt8.ofNat_toNat], u8_lt _, u8_lt _⟩
/-- the last letter -/
inductive RwT (s : ByteArray) : Prop
  | four (h : s.size = 4)
  | l (h : 4 < s.size) (e1 : ((s[4].toNat : Int) != 76) = false) (e2 : ((s[4].toNat : Int) == 76) = true)
  | c (h : 4 < s.size) (e0 : ((s[4].toNat : Int) != 76) = true) (e1 : ((s[4].toNat : Int) != 67) = false) (e2 : ((s[4].toNat : Int) == 67) = true) (e3 : ((s[4].toNat : Int) == 76) = false)
  | r (h : 4 < s.size) (e0 : ((s[4].toNat : Int) != 76) = true) (e1 : ((s[4].toNat : Int) != 67) = true) (e2 : ((s[4].toNat : Int) != 82) = false) (e3 : ((s[4].toNat : Int) == 82) = true) (e4 : ((s[4].toNat : Int) == 76) = false) (e5 : ((s[4].toNat : Int) == 67) = false)
  | no (h : 4 < s.size) (e0 : ((s[4].toNat : Int) != 76) = true) (e1 : ((s[4].toNat : Int) != 67) = true) (e2 : ((s[4].toNat : Int) != 82) = true) (e3 : ((s[4].toNat : Int) == 82) = false) (e4 : ((s[4].toNat : Int) == 76) = false) (e5 : ((s[4].toNat : Int) == 67) = false)
def tailB (l : List UInt8) : Bool := decide (l.length = 4) || l.getD 4 0 == 76 || l.getD 4 0 == 67 || l.getD 4 0 == 82
theorem rwT_mk (s : ByteArray) (h4 : 4 ≤ s.size) (h5 : s.size ≤ 5) : RwT s := by
  by_cases h : s.size = 4
  · exact .four h
  · have h' : 4 < s.size := by omega
    by_cases e1 : (s[4].toNat : Int) = 76
    · exact .l h' (bne_eq_false_iff_eq.2 e1) (beq_iff_eq.2 e1)
    · have n1 : ((s[4].toNat : Int) != 76) = true := bne_iff_ne.2 e1
      have m1 : ((s[4].toNat : Int) == 76) = false := beq_eq_false_iff_ne.2 e1
      by_cases e2 : (s[4].toNat : Int) = 67
      · exact .c h' n1 (bne_eq_false_iff_eq.2 e2) (beq_iff_eq.2 e2) m1
      · have n2 : ((s[4].toNat : Int) != 67) = true := bne_iff_ne.2 e2
        have m2 : ((s[4].toNat : Int) == 67) = false := beq_eq_false_iff_ne.2 e2
        by_cases e3 : (s[4].toNat : Int) = 82
        · exact .r h' n1 n2 (bne_eq_false_iff_eq.2 e3) (beq_iff_eq.2 e3) m1 m2
        · exact .no h' n1 n2 (bne_iff_ne.2 e3) (beq_eq_false_iff_ne.2 e3) m1 m2
theorem tail_yes {s : ByteArray} (h : s.size = 4 ∨ ∃ h : 4 < s.size, ((s[4].toNat : Int) == 76) = true ∨ ((s[4].toNat : Int) == 67) = true ∨ ((s[4].toNat : Int) == 82) = true) : tailB (bl s) = true := by
  unfold tailB
  rcases h with h | ⟨h, h2⟩
  · rw [decide_eq_true (p := (bl s).length = 4) (by rw [bl_len]; exact h)]; rfl
  · rw [getD_at h]
    rcases h2 with h2 | h2 | h2
    all_goals
      rw [beq_iff_eq] at h2
      have : s[4] = UInt8.ofNat s[4].toNat := (UInt8.ofNat_toNat ..).symm
      rw [this]
    · rw [show s[4].toNat = 76 by omega]; simp
    · rw [show s[4].toNat = 67 by omega]; simp
    · rw [show s[4].toNat = 82 by omega]; simp
theorem tail_no {s : ByteArray} (h : 4 < s.size) (e0 : ((s[4].toNat : Int) != 76) = true) (e1 : ((s[4].toNat : Int) != 67) = true) (e2 : ((s[4].toNat : Int) != 82) = true) : tailB (bl s) = false := by
  rw [bne_iff_ne] at e0 e1 e2
  unfold tailB
  rw [getD_at h, decide_eq_false (p := (bl s).length = 4) (by rw [bl_len]; omega)]
  have k : ∀ n : Nat, n < 256 → (s[4].toNat : Int) ≠ n → (s[4] == UInt8.ofNat n) = false := by
    intro n hn hne
    rw [beq_eq_false_iff_ne]
    intro e
    have := congrArg UInt8.toNat e
    simp at this
    omega
  have k1 := k 76 (by omega) (by omega)
  have k2 := k 67 (by omega) (by omega)
  have k3 := k 82 (by omega) (by omega)
  show (((false || s[4] == UInt8.ofNat 76) || s[4] == UInt8.ofNat 67) || s[4] == UInt8.ofNat 82) = false
  rw [k1, k2, k3]; rfl
theorem rwy_notail {s : ByteArray} (h : tailB (bl s) = false) : rwyB (bl s) = false := by
  unfold tailB at h
  unfold rwyB
  rw [h, Bool.and_false]
def RwyPost (s : ByteArray) (w : World) (e : Ending) (w' : World) : Prop := e = .returned (.bool (rwyB (bl s))) ∧ Drawn w w'
theorem RwyPost.mk {s : ByteArray} {w w' : World} {b : Bool} (h : rwyB (bl s) = b) (hd : Drawn w w') : RwyPost s w (.returned (.bool b)) w' := by subst h; exact ⟨rfl, hd⟩
set_option maxRecDepth 100000 in
set_option maxHeartbeats 4000000 in
theorem runway_any (s : ByteArray) (w : World) (hs : s.size ≤ maxLen) : Calls Tryz.prog 127 #[.string s] w (RwyPost s w) := by
  unfold maxLen at hs
  have hw : s.size < 4 ∨ (4 ≤ s.size ∧ 5 < s.size) ∨ (4 ≤ s.size ∧ s.size ≤ 5) := by omega
  rcases hw with h | ⟨h, h'⟩ | ⟨h4, h5⟩
  · have HF := Lib.hid (rwy_short (s := s) (.inl h))
    go_enter Tryz.func127, Tryz.ntmps127
    go_wp2
    go_ret
    exact .mk HF.out (Drawn.refl _)
  · have HF := Lib.hid (rwy_short (s := s) (.inr h'))
    go_enter Tryz.func127, Tryz.ntmps127
    go_wp2
    go_ret
    exact .mk HF.out (Drawn.refl _)
  · cases hwd : ((s.extract 0 2).toList == [82, 87])
    · have HF := Lib.hid (rwy_word hwd)
      go_enter Tryz.func127, Tryz.ntmps127
      go_wp2
      go_ret
      exact .mk HF.out (Drawn.refl _)
    · have HR := Lib.hid (rwF_mk h4 h5 hwd)
      have hT := rwT_mk s h4 h5
      have h2 : 2 < s.size := by omega
      have h3 : 3 < s.size := by omega
      have hdig : (s[2].toNat : Int) < 48 ∨ (48 ≤ (s[2].toNat : Int) ∧ 51 < (s[2].toNat : Int)) ∨ (48 ≤ (s[2].toNat : Int) ∧ (s[2].toNat : Int) ≤ 51 ∧ (s[3].toNat : Int) < 48) ∨ (48 ≤ (s[2].toNat : Int) ∧ (s[2].toNat : Int) ≤ 51 ∧ 48 ≤ (s[3].toNat : Int) ∧ 57 < (s[3].toNat : Int)) ∨ (48 ≤ (s[2].toNat : Int) ∧ (s[2].toNat : Int) ≤ 51 ∧ 48 ≤ (s[3].toNat : Int) ∧ (s[3].toNat : Int) ≤ 57) := by omega
      have HBAD : Hid (∀ b : Bool, b = false → ((s[2].toNat : Int) < 48 ∨ 51 < (s[2].toNat : Int) ∨ (s[3].toNat : Int) < 48 ∨ 57 < (s[3].toNat : Int)) → rwyB (bl s) = b) := by
        intro b hb h; rw [rwy_dig HR.out (by omega), hb]
      have HNUM : Hid (48 ≤ (s[2].toNat : Int) → (s[2].toNat : Int) ≤ 51 → 48 ≤ (s[3].toNat : Int) → (s[3].toNat : Int) ≤ 57 → (((s[2].toNat : Int) - 48) * 10 + ((s[3].toNat : Int) - 48) < 1 ∨ 36 < ((s[2].toNat : Int) - 48) * 10 + ((s[3].toNat : Int) - 48)) → rwyB (bl s) = false) := by
        intro h1 h2 h3 h4 h; exact rwy_num HR.out (by omega) (by omega) (by omega) (by omega) (by omega)
      have HOKN : Hid (48 ≤ (s[2].toNat : Int) → (s[2].toNat : Int) ≤ 51 → 48 ≤ (s[3].toNat : Int) → (s[3].toNat : Int) ≤ 57 → 1 ≤ ((s[2].toNat : Int) - 48) * 10 + ((s[3].toNat : Int) - 48) → ((s[2].toNat : Int) - 48) * 10 + ((s[3].toNat : Int) - 48) ≤ 36 → rwyB (bl s) = tailB (bl s)) := by
        intro h1 h2 h3 h4 h5 h6; exact rwy_ok HR.out (by omega) (by omega) (by omega) (by omega) (by omega) (by omega)
      rcases hT with h | ⟨h, e1, e2⟩ | ⟨h, e0, e1, e2, e3⟩ | ⟨h, e0, e1, e2, e3, e4, e5⟩ | ⟨h, e0, e1, e2, e3, e4, e5⟩
      case no =>
        have HF := Lib.hid (rwy_notail (tail_no h e0 e1 e2))
        have e5' : ((s.size : Int) == 5) = true := beq_iff_eq.2 (by omega)
        clear hdig
        go_enter Tryz.func127, Tryz.ntmps127
        go_wp2
        go_ret
        exact .mk HF.out (Drawn.refl _)
      all_goals
        first
          | (have e5' : ((s.size : Int) == 5) = false := beq_eq_false_iff_ne.2 (by omega)
             have HTY := Lib.hid (tail_yes (s := s) (.inl h))
             have HS4 := Lib.hid h
             clear h)
          | (have e5' : ((s.size : Int) == 5) = true := beq_iff_eq.2 (by omega)
             have HTY := Lib.hid (tail_yes (s := s) (.inr ⟨h, by first | exact .inl e2 | exact .inr (.inl e2) | exact .inr (.inr e3)⟩)))
        rcases hdig with d1 | ⟨d1, d2⟩ | ⟨d1, d2, d3⟩ | ⟨d1, d2, d3, d4⟩ | ⟨d1, d2, d3, d4⟩
        case inr.inr.inr.inr =>
          have q1 : IntKind.u8.wrap ((s[2].toNat : Int) - 48) = (s[2].toNat : Int) - 48 := IntWalk.u8_in _ (by omega)
          have q2 : IntKind.u8.wrap ((s[3].toNat : Int) - 48) = (s[3].toNat : Int) - 48 := IntWalk.u8_in _ (by omega)
          have q3 : IntKind.i64.wrap (((s[2].toNat : Int) - 48) * 10) = ((s[2].toNat : Int) - 48) * 10 := IntWalk.i64_in _ (by omega)
          have q4 : IntKind.i64.wrap (((s[2].toNat : Int) - 48) * 10 + ((s[3].toNat : Int) - 48)) = ((s[2].toNat : Int) - 48) * 10 + ((s[3].toNat : Int) - 48) := IntWalk.i64_in _ (by omega)
          have hn : ((s[2].toNat : Int) - 48) * 10 + ((s[3].toNat : Int) - 48) < 1 ∨ (1 ≤ ((s[2].toNat : Int) - 48) * 10 + ((s[3].toNat : Int) - 48) ∧ ((s[2].toNat : Int) - 48) * 10 + ((s[3].toNat : Int) - 48) ≤ 36) ∨ (1 ≤ ((s[2].toNat : Int) - 48) * 10 + ((s[3].toNat : Int) - 48) ∧ 36 < ((s[2].toNat : Int) - 48) * 10 + ((s[3].toNat : Int) - 48)) := by omega
          rcases hn with n1 | ⟨n1, n2⟩ | ⟨n1, n2⟩
          case inr.inl =>
            have HF := Lib.hid ((HOKN.out d1 d2 d3 d4 n1 n2).trans HTY.out)
            have hb1 := decide_eq_true n1
            have hb2 := decide_eq_true n2
            go_enter Tryz.func127, Tryz.ntmps127
            go_wp2
            go_quiet (fail)
            clear q1 q2 q3 q4
            go_wp2
            go_ret
            exact .mk (HF.out.trans hb2.symm) ⟨_, rfl⟩
          all_goals
            have HF := Lib.hid (HNUM.out d1 d2 d3 d4 (by omega))
            try have hb1 : decide (((s[2].toNat : Int) - 48) * 10 + ((s[3].toNat : Int) - 48) ≤ 36) = false := decide_eq_false (by omega)
            go_enter Tryz.func127, Tryz.ntmps127
            go_wp2
            go_quiet (fail)
            clear q1 q2 q3 q4
            go_wp2
            go_ret
            first | exact .mk HF.out ⟨_, rfl⟩ | exact .mk (HF.out.trans hb1.symm) ⟨_, rfl⟩
        all_goals
          have HF := Lib.hid (HBAD.out false rfl (by omega))
          go_enter Tryz.func127, Tryz.ntmps127
          go_wp2
          go_ret
          exact .mk HF.out (Drawn.refl _)
end Go.Proofs.YtakgcdefbbgdaaaGreatDoor
