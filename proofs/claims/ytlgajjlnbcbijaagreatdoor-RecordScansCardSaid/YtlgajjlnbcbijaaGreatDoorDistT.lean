/-
  Contracts: distances as texts (DistText of both sides), and the plain law that the text of a distance is read as it.
-/
import Derived.Test.YtlgajjlnbcbijaaGreatDoorNum
import Derived.Test.YtlgajjlnbcbijaaGreatDoorAltLaw
namespace Go.Proofs.YtlgajjlnbcbijaaGreatDoor
open Go.RowKit
set_option linter.unusedVariables false
set_option linter.unusedSimpArgs false

def distAbs (b : Nat) : List UInt8 := Lib.decDigits (b / 6000) ++ (if b % 6000 = 0 then [] else 43 :: Lib.decDigits (b % 6000))
theorem distAbs_whole {b : Nat} (h : b % 6000 = 0) : distAbs b = Lib.decDigits (b / 6000) := by unfold distAbs; rw [if_pos h, List.append_nil]
theorem distAbs_part {b : Nat} (h : ¬ b % 6000 = 0) : distAbs b = Lib.decDigits (b / 6000) ++ (43 :: Lib.decDigits (b % 6000)) := by unfold distAbs; rw [if_neg h]
theorem distAbs_len {b : Nat} (h : b ≤ 8000000) : (distAbs b).length ≤ 20000 := by
  have h1 := decDigits_len (b / 6000)
  have h2 := decDigits_len (b % 6000)
  by_cases h0 : b % 6000 = 0
  · rw [distAbs_whole h0]; omega
  · rw [distAbs_part h0, List.length_append, List.length_cons]; omega
def distGood (d : Int) : Bool := decide (0 ≤ d) && decide (d ≤ 8000000)
def distOut (d : Int) : List UInt8 := if distGood d then distAbs d.toNat else []
def distErr (d : Int) : Int := if distGood d then 0 else 2
theorem distGood_iff {d : Int} : distGood d = true ↔ 0 ≤ d ∧ d ≤ 8000000 := by unfold distGood; simp
theorem dist_bad {d : Int} (h : d < 0 ∨ 8000000 < d) : distGood d = false := by
  rw [← Bool.not_eq_true, distGood_iff]; omega
/-- the distance of a text -/
def distOf (a b : List UInt8) (f : Bool) : Option Int :=
  if plainB a && (!f || (plainB b && !(b == [48]) && decide (b.length ≤ 4) && decide (digVal b < 6000))) then some ((digVal a * 6000 + (if f then digVal b else 0) : Nat) : Int) else none
def distSpec (l : List UInt8) : Option Int := distOf (cutAt 43 l).1 (cutAt 43 l).2.1 (cutAt 43 l).2.2
theorem distSpec_eq {l a b : List UInt8} {f : Bool} (h : cutAt 43 l = (a, b, f)) : distSpec l = distOf a b f := by unfold distSpec; rw [h]
def distN (o : Option Int) : Int := match o with | some v => if v ≤ 8000000 then v else 0 | none => 0
def distE (o : Option Int) : Int := match o with | some v => if v ≤ 8000000 then 0 else 2 | none => 4
/-- the text of a distance is read as it -/
theorem distSpec_out {d : Int} (h : distGood d = true) : distSpec (distOut d) = some d := by
  have hr := distGood_iff.1 h
  obtain ⟨b, rfl⟩ := Int.eq_ofNat_of_zero_le (a := d) hr.1
  unfold distOut
  rw [if_pos h, Int.toNat_natCast]
  have hn : (43 : UInt8) ∉ Lib.decDigits (b / 6000) := notin_digits (dec_all _) (by decide)
  by_cases h0 : b % 6000 = 0
  · rw [distAbs_whole h0, distSpec_eq (cutAt_none hn)]
    unfold distOf
    rw [dec_plain, dec_val, show b / 6000 * 6000 + (if false = true then digVal [] else 0) = b by simp; omega]
    rfl
  · rw [distAbs_part h0, distSpec_eq (cutAt_mid hn)]
    unfold distOf
    have e1 : (Lib.decDigits (b % 6000) == [48]) = false := by
      rw [beq_eq_false_iff_ne]
      intro e
      have := dec_val (b % 6000)
      rw [e] at this
      exact h0 this.symm
    have hl4 : ∀ n : Nat, n < 10000 → (Lib.decDigits n).length ≤ 4 := by
      intro n hn
      by_cases h1 : n < 10
      · rw [decDigits_small h1]; simp
      · rw [decDigits_big h1, List.length_append, List.length_singleton]
        by_cases h2 : n / 10 < 10
        · rw [decDigits_small h2]; simp
        · rw [decDigits_big h2, List.length_append, List.length_singleton]
          by_cases h3 : n / 10 / 10 < 10
          · rw [decDigits_small h3]; simp
          · rw [decDigits_big h3, List.length_append, List.length_singleton, decDigits_small (by omega)]; simp
    rw [dec_plain, dec_plain, dec_val, dec_val, e1, decide_eq_true (hl4 _ (by omega)), decide_eq_true (by omega), show b / 6000 * 6000 + (if true = true then b % 6000 else 0) = b by simp; omega]
    rfl
theorem dist_back {d : Int} (h : distGood d = true) : distN (distSpec (distOut d)) = d ∧ distE (distSpec (distOut d)) = 0 := by
  rw [distSpec_out h]
  have hr := distGood_iff.1 h
  exact ⟨if_pos hr.2, if_pos hr.2⟩

set_option maxHeartbeats 400000 in
theorem distText_bad (a : Int) (w : World) (h : a < 0 ∨ 8000000 < a) :
    Calls Tryz.prog 184 #[.int .i64 a] w fun e w' => ∃ t, e = .returned (.tuple #[.string t, .int .i64 2]) ∧ Hid (bl t = []) ∧ w = w' := by
  have h' : a < 0 ∨ 0 ≤ a ∧ 8000000 < a := by omega
  clear h
  rcases h' with h | ⟨h, h2⟩
  all_goals
    go_enter Tryz.func184, Tryz.ntmps184
    go_wp2
    go_ret2
    exact ⟨_, rfl, rfl, rfl⟩
set_option maxHeartbeats 400000 in
theorem distText_good (b : Nat) (w : World) (h2 : b ≤ 8000000) (E : Env w) :
    Calls Tryz.prog 184 #[.int .i64 (b : Int)] w fun e w' => ∃ t, e = .returned (.tuple #[.string t, .int .i64 0]) ∧ Hid (bl t = distAbs b) ∧ Below w.heap.size w w' := by
  have q1 := Lib.hid (show (b : Int) / 6000 = ((b / 6000 : Nat) : Int) by omega)
  have q2 := Lib.hid (show (b : Int) % 6000 = ((b % 6000 : Nat) : Int) by omega)
  by_cases hk : b % 6000 = 0
  · have hk' : ((b : Int) % 6000 != 0) = false := by simp only [bne_eq_false_iff_eq]; omega
    have HK := Lib.hid hk; clear hk
    go_enter Tryz.func184, Tryz.ntmps184
    go_wp2_with fail
    rw [q1.out]
    refine (fmt10 (b / 6000) (by omega) _ E).mono ?_
    rintro e w1 ⟨t1, rfl, ht1, hs1, hb1⟩
    go_wp2_with fail
    go_ret2
    refine ⟨_, rfl, ?_, hb1⟩
    show bl t1 = _
    rw [ht1.out, distAbs_whole HK.out]
  · have hk' : ((b : Int) % 6000 != 0) = true := by rw [bne_iff_ne]; omega
    have HK := Lib.hid hk; clear hk
    go_enter Tryz.func184, Tryz.ntmps184
    go_wp2_with fail
    rw [q1.out]
    refine (fmt10 (b / 6000) (by omega) _ E).mono ?_
    rintro e w1 ⟨t1, rfl, ht1, hs1, hb1⟩
    go_wp2_with fail
    rw [q2.out]
    refine (fmt10 (b % 6000) (by omega) _ (E.below hb1)).mono ?_
    rintro e w2 ⟨t2, rfl, ht2, hs2, hb2⟩
    go_wp2_with fail
    go_ret2
    refine ⟨_, rfl, ?_, (Below.then_ hb1 hb2)⟩
    first | show bl (t1 ++ (⟨#[43]⟩ ++ t2)) = _ | show bl (t1 ++ ⟨#[43]⟩ ++ t2) = _
    simp only [bl_append, ht1.out, ht2.out, distAbs_part HK.out, bl_mk, List.cons_append, List.nil_append, List.append_assoc]
/-- DistText at every distance -/
theorem distText_any (a : Int) (w : World) (E : Env w) :
    Calls Tryz.prog 184 #[.int .i64 a] w fun e w' => ∃ t, e = .returned (.tuple #[.string t, .int .i64 (distErr a)]) ∧ Hid (bl t = distOut a) ∧ t.size ≤ 20000 ∧ Below w.heap.size w w' := by
  by_cases h : a < 0 ∨ 8000000 < a
  · have hg := dist_bad h
    rw [show distErr a = 2 by unfold distErr; rw [hg]; rfl]
    refine (distText_bad a w h).mono ?_
    rintro e w' ⟨t, he, ht, hw⟩
    exact ⟨t, he, by unfold distOut; rw [hg]; exact ht, by rw [str_size ht]; simp, (by subst hw; exact Below.refl _ _)⟩
  · have hg : distGood a = true := distGood_iff.2 (by omega)
    rw [show distErr a = 0 by unfold distErr; rw [hg]; rfl]
    obtain ⟨b, rfl⟩ := Int.eq_ofNat_of_zero_le (a := a) (by omega)
    refine (distText_good b w (by omega) E).mono ?_
    rintro e w' ⟨t, he, ht, hw⟩
    exact ⟨t, he, by unfold distOut; rw [hg]; exact ht, by rw [str_size ht]; exact distAbs_len (by omega), hw⟩
end Go.Proofs.YtlgajjlnbcbijaaGreatDoor
