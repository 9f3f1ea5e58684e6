/-
  The walk of the law RecordWindows.
-/
import Derived.Test.YtfmijelndlllaaaDoorAwake
import Derived.Test.YtfmijelndlllaaaDoorRPW
import Derived.Test.YtfmijelndlllaaaDoorWinLaw
namespace Go.Proofs.YtfmijelndlllaaaDoor
open Go.RowKit
set_option linter.unusedVariables false
set_option linter.unusedSimpArgs false

theorem dec_len_lt : ∀ (f n : Nat), n < 10 ^ f → 0 < f → (Lib.decDigits n).length ≤ f := by
  intro f
  induction f with
  | zero => intro n _ h; omega
  | succ f ih =>
    intro n hn _
    by_cases h : n < 10
    · rw [decDigits_small h]; simp
    · rw [decDigits_big h, List.length_append, List.length_singleton]
      have hf : 0 < f := by
        rcases Nat.eq_zero_or_pos f with h0 | h0
        · subst h0; omega
        · exact h0
      have := ih (n / 10) (by rw [Nat.pow_succ] at hn; omega) hf
      omega
theorem altAbs_len9 {b : Nat} (h : b ≤ 6000000) : (altAbs b).length ≤ 9 := by
  have h1 := dec_len_lt 5 (b / 100) (by omega) (by omega)
  have h2 := dec_len_lt 1 (b % 100 / 10) (by omega) (by omega)
  have h3 := dec_len_lt 1 (b % 10) (by omega) (by omega)
  by_cases h0 : b % 100 = 0
  · rw [altAbs_whole h0]; omega
  · rw [altAbs_part h0]
    simp only [List.length_append, List.length_cons]; omega
theorem altOut_len9 (a : Int) : (altOut a).length ≤ 10 := by
  by_cases h : a < -200000 ∨ 6000000 < a
  · rw [altOut_bad h]; simp
  · by_cases hn : a < 0
    · obtain ⟨b, rfl⟩ : ∃ b : Nat, a = -(b : Int) := ⟨(-a).toNat, by omega⟩
      rw [altOut_neg (by omega) (by omega)]
      have := @altAbs_len9 b (by omega)
      simp only [List.length_cons]; omega
    · obtain ⟨b, rfl⟩ := Int.eq_ofNat_of_zero_le (a := a) (by omega)
      rw [altOut_pos (by omega)]
      have := @altAbs_len9 b (by omega)
      omega
theorem winOut_len (lo hi : Int) : (winOut lo hi).length ≤ 30 := by
  have h1 := altOut_len9 lo
  have h2 := altOut_len9 hi
  unfold winOut winText
  repeat' split
  all_goals (try simp only [List.length_append, List.length_cons, List.length_nil])
  all_goals omega
/-- two cells of a block that stands -/
def Box2 (w : World) (g : Nat) (a b : Value) : Prop := g < w.heap.size ∧ w.cell? ⟨g, 0, none⟩ = some a ∧ w.cell? ⟨g, 1, none⟩ = some b
theorem Box2.below {w w' : World} {g : Nat} {a b : Value} (h : Box2 w g a b) (hb : Below w.heap.size w w') : Box2 w' g a b :=
  ⟨Nat.lt_of_lt_of_le h.1 hb.size, (hb.cell (p := ⟨g, 0, none⟩) h.1).trans h.2.1, (hb.cell (p := ⟨g, 1, none⟩) h.1).trans h.2.2⟩
theorem Box2.alloc {w : World} {g : Nat} {a b : Value} (h : Box2 w g a b) (o : Obj) : Box2 (w.alloc o) g a b := h.below ((Below.refl _ _).alloc (Nat.le_refl _) o)
theorem Box2.new (w : World) (a b : Value) (t : TypeId) : Box2 (w.alloc (.cells #[a, b] t)) w.heap.size a b :=
  ⟨by simp, by simp [go_sem], by simp [go_sem]⟩

set_option maxRecDepth 100000 in
set_option maxHeartbeats 4000000 in
theorem recordWindows_walk (lo hi : Int) (s : ByteArray) (w : World) (E : Env w) (hs : s.size ≤ maxLen) :
    Calls Tryd.prog 6 #[.agg #[.int .i64 lo, .int .i64 hi], .string s] w fun e w' => e = .returned (.bool true) ∧ Below w.heap.size w w' := by
  go_enter Tryd.func6, Tryd.ntmps6
  go_wp2_with fail
  refine (awake_any _ (E.alloc _)).mono ?_
  rintro e w1 ⟨rfl, hb1⟩
  have E1 := (E.alloc _).below hb1
  have X1 := (Box2.new w _ _ _).below hb1
  have B1 := below_box hb1
  obtain ⟨x0, x1, x2⟩ := X1
  have X1 : Hid (Box2 w1 w.heap.size (.int .i64 lo) (.int .i64 hi)) := ⟨x0, x1, x2⟩
  go_wp2_with fail
  refine (winText_any lo hi _ E1).mono ?_
  rintro e w2 ⟨t, rfl, ht, hb2⟩
  have E2 := E1.below hb2
  have X2 := Lib.hid (X1.out.below hb2)
  have B2 := Below.then_ B1 hb2
  clear x0 x1 x2
  obtain ⟨x0, x1, x2⟩ := X2.out
  go_wp2_with fail
  refine (rwinText_any lo hi _).mono ?_
  rintro e w3 ⟨t2, rfl, ht2, hb3⟩
  obtain rfl : t = t2 := bl_inj (ht.out.trans ht2.out.symm)
  have E3 := E2.below hb3
  have X3 := Lib.hid (X2.out.below hb3)
  have B3 := Below.then_ B2 hb3
  have hts : t.size ≤ 30 := by have := winOut_len lo hi; rw [← ht.out, bl_len] at this; exact this
  clear x0 x1 x2
  obtain ⟨x0, x1, x2⟩ := X3.out
  rcases hbad : (decide (winBad lo hi)) with _ | _
  · have hok : ¬ winBad lo hi := of_decide_eq_false hbad
    have he : winErr lo hi = 0 := if_neg hok
    obtain ⟨p1, p2, p3⟩ := pw_winOut hok
    rw [he]
    clear he hbad hok
    go_wp2_with fail
    refine (parseWindow_any t _ E3 (by omega)).mono ?_
    rintro e w4 ⟨rfl, hb4⟩
    rw [ht.out, p1, p2, p3]
    have E4 := E3.below hb4
    have X4 := Lib.hid (X3.out.below hb4)
    have B4 := Below.then_ B3 hb4
    clear x0 x1 x2 p1 p2 p3
    obtain ⟨x0, x1, x2⟩ := X4.out
    go_wp2_with fail
    refine (cut_any s 40 (by omega) (by omega) _ hs).mono ?_
    rintro e w' ⟨u, rfl, _, hu, _, rfl⟩
    go_wp2_with fail
    refine (parseWindow_any u _ (E4.alloc _) (by omega)).mono ?_
    rintro e w5 ⟨rfl, hb5⟩
    have B5 := Below.then_ (B4.alloc (o := .cells #[.int .i64 lo, .int .i64 hi] 42) B4.size) hb5
    have E5 := E.below B5
    have HW := Lib.hid (@winOut_pw (bl u))
    obtain ⟨a, ha⟩ : ∃ a, pwLo (bl u) (winSpec (bl u)) = a := ⟨_, rfl⟩
    obtain ⟨b, hb⟩ : ∃ b, pwHi (bl u) (winSpec (bl u)) = b := ⟨_, rfl⟩
    obtain ⟨g, hg⟩ : ∃ g, pwErr (bl u) (winSpec (bl u)) = g := ⟨_, rfl⟩
    rw [ha, hb, hg] at HW
    rw [ha, hb, hg]
    have HA := Lib.hid ha
    have HB := Lib.hid hb
    have HG := Lib.hid hg
    clear ha hb hg
    go_wp2_with fail
    refine (rparseWindow_any u _ (by omega)).mono ?_
    rintro e w6 ⟨rfl, hb6⟩
    rw [HA.out, HB.out, HG.out]
    obtain ⟨y0, y1⟩ := boxed2 hb6
    have hN6 : w5.heap.size < w6.heap.size := Nat.lt_of_lt_of_le (by simp) hb6.size
    have B6 := Below.then_ B5 (below_box hb6)
    have E6 := E.below B6
    by_cases hg0 : g = 0
    · subst hg0
      have H2 := HW.out rfl
      have H2o := Lib.hid H2.1
      have H2e := H2.2
      clear H2
      go_wp2_with fail
      refine (winText_any a b _ (E6.alloc _)).mono ?_
      rintro e w7 ⟨t7, rfl, ht7, hb7⟩
      rw [H2e]
      have e7 : (t7.toList == u.toList) = true := by rw [bl_toList, bl_toList, ht7.out, H2o.out, beq_iff_eq]
      clear H2e
      go_wp2
      go_ret
      exact ⟨rfl, Below.then_ B6 (below_box hb7)⟩
    · have g1 : (g == 0) = false := beq_eq_false_iff_ne.2 hg0
      have g2 : (g != 0) = true := bne_iff_ne.2 hg0
      clear hg0
      go_wp2
      go_ret
      exact ⟨rfl, B6.alloc B6.size _⟩
  · have he : winErr lo hi = 1 := if_pos (of_decide_eq_true hbad)
    rw [he]
    clear he hbad
    have B4 := B3
    have E4 := E3
    go_wp2_with fail
    refine (cut_any s 40 (by omega) (by omega) _ hs).mono ?_
    rintro e w' ⟨u, rfl, _, hu, _, rfl⟩
    go_wp2_with fail
    refine (parseWindow_any u _ E4 (by omega)).mono ?_
    rintro e w5 ⟨rfl, hb5⟩
    have B5 := Below.then_ B4 hb5
    have E5 := E.below B5
    have HW := Lib.hid (@winOut_pw (bl u))
    obtain ⟨a, ha⟩ : ∃ a, pwLo (bl u) (winSpec (bl u)) = a := ⟨_, rfl⟩
    obtain ⟨b, hb⟩ : ∃ b, pwHi (bl u) (winSpec (bl u)) = b := ⟨_, rfl⟩
    obtain ⟨g, hg⟩ : ∃ g, pwErr (bl u) (winSpec (bl u)) = g := ⟨_, rfl⟩
    rw [ha, hb, hg] at HW
    rw [ha, hb, hg]
    have HA := Lib.hid ha
    have HB := Lib.hid hb
    have HG := Lib.hid hg
    clear ha hb hg
    go_wp2_with fail
    refine (rparseWindow_any u _ (by omega)).mono ?_
    rintro e w6 ⟨rfl, hb6⟩
    rw [HA.out, HB.out, HG.out]
    obtain ⟨y0, y1⟩ := boxed2 hb6
    have hN6 : w5.heap.size < w6.heap.size := Nat.lt_of_lt_of_le (by simp) hb6.size
    have B6 := Below.then_ B5 (below_box hb6)
    have E6 := E.below B6
    by_cases hg0 : g = 0
    · subst hg0
      have H2 := HW.out rfl
      have H2o := Lib.hid H2.1
      have H2e := H2.2
      clear H2
      go_wp2_with fail
      refine (winText_any a b _ (E6.alloc _)).mono ?_
      rintro e w7 ⟨t7, rfl, ht7, hb7⟩
      rw [H2e]
      have e7 : (t7.toList == u.toList) = true := by rw [bl_toList, bl_toList, ht7.out, H2o.out, beq_iff_eq]
      clear H2e
      go_wp2
      go_ret
      exact ⟨rfl, Below.then_ B6 (below_box hb7)⟩
    · have g1 : (g == 0) = false := beq_eq_false_iff_ne.2 hg0
      have g2 : (g != 0) = true := bne_iff_ne.2 hg0
      clear hg0
      go_wp2
      go_ret
      exact ⟨rfl, B6.alloc B6.size _⟩
end Go.Proofs.YtfmijelndlllaaaDoor
