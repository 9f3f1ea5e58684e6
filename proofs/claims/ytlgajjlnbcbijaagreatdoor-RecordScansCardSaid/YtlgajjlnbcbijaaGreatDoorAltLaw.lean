/-
  Plain laws: the text of an altitude is read as that altitude.
-/
import Derived.Test.YtlgajjlnbcbijaaGreatDoorLines
namespace Go.Proofs.YtlgajjlnbcbijaaGreatDoor
set_option linter.unusedVariables false
set_option linter.unusedSimpArgs false

theorem dig_nat {d : Nat} (h : d < 10) : (UInt8.ofNat (48 + d)).toNat = 48 + d := by
  rw [UInt8.toNat_ofNat']; omega
theorem dig_B {d : Nat} (h : d < 10) : digitB (UInt8.ofNat (48 + d)) = true := by
  unfold digitB; rw [dig_nat h]; simp; omega
theorem digFrom_snoc (a : Nat) (l : List UInt8) (c : UInt8) : digFrom a (l ++ [c]) = 10 * digFrom a l + (c.toNat - 48) := by
  unfold digFrom; rw [List.foldl_append]; rfl
theorem dec_all (n : Nat) : (Lib.decDigits n).all digitB = true := by
  induction n using Nat.strongRecOn with
  | _ n ih =>
    by_cases h : n < 10
    · rw [decDigits_small h, List.all_cons, dig_B h]; rfl
    · rw [decDigits_big h, List.all_append, ih (n / 10) (by omega), List.all_cons, dig_B (by omega)]; rfl
theorem dec_val (n : Nat) : digVal (Lib.decDigits n) = n := by
  induction n using Nat.strongRecOn with
  | _ n ih =>
    by_cases h : n < 10
    · rw [decDigits_small h]
      show 10 * 0 + ((UInt8.ofNat (48 + n)).toNat - 48) = n
      rw [dig_nat h]; omega
    · rw [decDigits_big h]
      unfold digVal at ih ⊢
      rw [digFrom_snoc, ih (n / 10) (by omega), dig_nat (by omega)]; omega
theorem dec_ne (n : Nat) : Lib.decDigits n ≠ [] := by
  by_cases h : n < 10
  · rw [decDigits_small h]; simp
  · rw [decDigits_big h]; simp
theorem headD_append {l r : List UInt8} (h : l ≠ []) : (l ++ r).headD 0 = l.headD 0 := by
  cases l with
  | nil => exact absurd rfl h
  | cons a l => rfl
theorem dec_head (n : Nat) : (n = 0 ∧ Lib.decDigits n = [48]) ∨ (0 < n ∧ 48 < ((Lib.decDigits n).headD 0).toNat) := by
  induction n using Nat.strongRecOn with
  | _ n ih =>
    by_cases h : n < 10
    · by_cases h0 : n = 0
      · subst h0; exact .inl ⟨rfl, by rw [decDigits_small (by omega)]; rfl⟩
      · right
        rw [decDigits_small h]
        show 0 < n ∧ 48 < (UInt8.ofNat (48 + n)).toNat
        rw [dig_nat h]; omega
    · right
      rw [decDigits_big h, headD_append (dec_ne _)]
      rcases ih (n / 10) (by omega) with h1 | h1
      · omega
      · exact ⟨by omega, h1.2⟩
theorem dec_zeroAhead (n : Nat) : zeroAhead (Lib.decDigits n) = false := by
  unfold zeroAhead
  rcases dec_head n with ⟨_, h⟩ | ⟨_, h⟩
  · rw [h]; rfl
  · have e : ((Lib.decDigits n).headD 0 == 48) = false := by
      rw [beq_eq_false_iff_ne]; intro e; rw [e] at h; exact absurd h (by decide)
    rw [e, Bool.and_false]
theorem dec_plain (n : Nat) : plainB (Lib.decDigits n) = true := by
  unfold plainB
  rw [dec_zeroAhead, dec_all, List.isEmpty_eq_false_iff.2 (dec_ne n)]; rfl
theorem notin_digits {l : List UInt8} {c : UInt8} (h : l.all digitB = true) (hc : digitB c = false) : c ∉ l := by
  intro hm
  have := List.all_eq_true.1 h c hm
  rw [hc] at this; cases this
theorem headIs_append {c : UInt8} {l r : List UInt8} (h0 : l ≠ []) (h : c ∉ l) : headIs c (l ++ r) = false := by
  cases l with
  | nil => exact absurd rfl h0
  | cons a l =>
    have : a ≠ c := fun e => h (by rw [e]; simp)
    simp [headIs, this]
theorem pair_dec {x y : Nat} (hx : x < 10) (hy : y < 10) (h : ¬ (x = 0 ∧ y = 0)) : pairB (Lib.decDigits x ++ Lib.decDigits y) = true ∧ digVal (Lib.decDigits x ++ Lib.decDigits y) = 10 * x + y := by
  rw [decDigits_small hx, decDigits_small hy]
  constructor
  · unfold pairB
    have e1 : ([UInt8.ofNat (48 + x)] ++ [UInt8.ofNat (48 + y)]).all digitB = true := by
      simp only [List.cons_append, List.nil_append, List.all_cons, List.all_nil, dig_B hx, dig_B hy]; rfl
    have e2 : (([UInt8.ofNat (48 + x)] ++ [UInt8.ofNat (48 + y)]) == [48, 48]) = false := by
      rw [beq_eq_false_iff_ne]
      intro e
      simp only [List.cons_append, List.nil_append, List.cons.injEq, and_true] at e
      have a1 := congrArg UInt8.toNat e.1
      have a2 := congrArg UInt8.toNat e.2
      rw [dig_nat hx] at a1
      rw [dig_nat hy] at a2
      have b1 : (48 : UInt8).toNat = 48 := rfl
      omega
    rw [e1, e2]; rfl
  · show 10 * (10 * 0 + ((UInt8.ofNat (48 + x)).toNat - 48)) + ((UInt8.ofNat (48 + y)).toNat - 48) = _
    rw [dig_nat hx, dig_nat hy]; omega
/-- the parts of the text of an altitude without its sign -/
theorem altAbs_cut (b : Nat) : ∃ p f, cutAt 46 (altAbs b) = (Lib.decDigits (b / 100), p, f) ∧ (∀ g, altOf g (Lib.decDigits (b / 100)) p f = if g then (if b = 0 then none else some (-(b : Int))) else some (b : Int)) := by
  have hn : (46 : UInt8) ∉ Lib.decDigits (b / 100) := notin_digits (dec_all _) (by decide)
  by_cases h : b % 100 = 0
  · refine ⟨[], false, by rw [altAbs_whole h, cutAt_none hn], fun g => ?_⟩
    have e : b / 100 * 100 = b := by omega
    unfold altOf
    simp only [dec_plain, dec_val, e, Bool.not_false, Bool.true_or, Bool.and_self, if_true, Bool.false_eq_true, if_false, Nat.add_zero]
  · obtain ⟨k1, k2⟩ := @pair_dec (b % 100 / 10) (b % 10) (by omega) (by omega) (by omega)
    refine ⟨Lib.decDigits (b % 100 / 10) ++ Lib.decDigits (b % 10), true, ?_, fun g => ?_⟩
    · rw [altAbs_part h, List.cons_append, cutAt_mid hn]
    · have e : b / 100 * 100 + (10 * (b % 100 / 10) + b % 10) = b := by omega
      unfold altOf
      simp only [dec_plain, dec_val, k1, k2, e, Bool.not_true, Bool.false_or, Bool.and_self, if_true]
theorem altAbs_head (b : Nat) {c : UInt8} (hc : digitB c = false) : headIs c (altAbs b) = false := by
  unfold altAbs
  exact headIs_append (dec_ne _) (notin_digits (dec_all _) hc)
/-- the text of an altitude is read as that altitude -/
theorem altSpec_altOut {a : Int} (h : rangedB a = true) : altSpec (altOut a) = some a := by
  have hr : -200000 ≤ a ∧ a ≤ 6000000 := by unfold rangedB at h; simpa using h
  by_cases hn : a < 0
  · obtain ⟨b, rfl⟩ : ∃ b : Nat, a = -(b : Int) := ⟨(-a).toNat, by omega⟩
    obtain ⟨p, f, h1, h2⟩ := altAbs_cut b
    rw [altOut_neg (by omega) (by omega), altSpec_eq (g := true) (r := altAbs b) (by simp [headIs]) rfl h1, h2, if_pos rfl, if_neg (by omega)]
  · obtain ⟨b, rfl⟩ := Int.eq_ofNat_of_zero_le (a := a) (by omega)
    obtain ⟨p, f, h1, h2⟩ := altAbs_cut b
    rw [altOut_pos (by omega), altSpec_eq (g := false) (r := altAbs b) (altAbs_head b (by decide)).symm rfl h1, h2, if_neg (by decide)]
theorem pAlt_altOut {a : Int} (h : rangedB a = true) : pAltN (altSpec (altOut a)) = a ∧ pAltE (altSpec (altOut a)) = 0 := by
  rw [altSpec_altOut h]
  exact ⟨if_pos h, if_pos h⟩
end Go.Proofs.YtlgajjlnbcbijaaGreatDoor
