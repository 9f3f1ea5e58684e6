/-
  Contracts: numbers and altitudes as texts (strconv.FormatInt at base 10, the reference's digits, AltText of both sides).
-/
import Derived.Test.YtgnnblkpjankgaaGreatDoorText
namespace Go.Proofs.YtgnnblkpjankgaaGreatDoor
open Go.RowKit
set_option linter.unusedVariables false
set_option linter.unusedSimpArgs false

theorem decDigits_len (n : Nat) : (Lib.decDigits n).length ≤ n + 1 := by
  induction n using Nat.strongRecOn with
  | _ n ih =>
    rw [Lib.decDigits]
    split
    · simp
    · have := ih (n / 10) (by omega)
      simp only [List.length_append, List.length_cons, List.length_nil]
      omega
theorem decDigits_small {n : Nat} (h : n < 10) : Lib.decDigits n = [UInt8.ofNat (48 + n)] := by rw [Lib.decDigits, dif_pos h]
theorem decDigits_big {n : Nat} (h : ¬ n < 10) : Lib.decDigits n = Lib.decDigits (n / 10) ++ [UInt8.ofNat (48 + n % 10)] := by rw [Lib.decDigits, dif_neg h]

/-- strconv.FormatInt(n, 10) at n >= 0 -/
theorem fmt10 (n : Nat) (h1 : n ≤ 9223372036854775807) (w : World) (E : Env w) :
    Calls Tryz.prog 91 #[.int .i64 (n : Int), .int .i64 10] w fun e w' => ∃ t, e = .returned (.string t) ∧ Hid (bl t = Lib.decDigits n) ∧ t.size ≤ n + 1 ∧ Below w.heap.size w w' := by
  refine (Tryz.strconv_FormatInt_10 n (by omega) (by omega) w E.pow10).mono ?_
  rintro e w' ⟨rfl, k, os, rfl⟩
  have h2 : Lib.itoa (n : Int) = Lib.decDigits n := by unfold Lib.itoa; rw [if_neg (by omega)]; rfl
  refine ⟨_, rfl, ?_, ?_, below_grow w k os⟩
  · rw [h2]; rfl
  · rw [h2]; exact decDigits_len n

def altAbs (b : Nat) : List UInt8 := Lib.decDigits (b / 100) ++ (if b % 100 = 0 then [] else 46 :: Lib.decDigits (b % 100 / 10) ++ Lib.decDigits (b % 10))
def altTextL (a : Int) : List UInt8 := if a < 0 then 45 :: altAbs (-a).toNat else altAbs a.toNat
def altOut (a : Int) : List UInt8 := if rangedB a then altTextL a else []
def altErr (a : Int) : Int := if rangedB a then 0 else 2
theorem rangedB_yes {a : Int} (h1 : -200000 ≤ a) (h2 : a ≤ 6000000) : rangedB a = true := by unfold rangedB; rw [decide_eq_true h1, decide_eq_true h2]; rfl
theorem rangedB_no {a : Int} (h : a < -200000 ∨ 6000000 < a) : rangedB a = false := by
  unfold rangedB; rcases h with h | h
  · rw [decide_eq_false (by omega)]; rfl
  · rw [decide_eq_false (p := a ≤ 6000000) (by omega), Bool.and_false]
theorem altAbs_whole {b : Nat} (h : b % 100 = 0) : altAbs b = Lib.decDigits (b / 100) := by unfold altAbs; rw [if_pos h, List.append_nil]
theorem altAbs_part {b : Nat} (h : ¬ b % 100 = 0) : altAbs b = Lib.decDigits (b / 100) ++ (46 :: Lib.decDigits (b % 100 / 10) ++ Lib.decDigits (b % 10)) := by unfold altAbs; rw [if_neg h]
theorem str_size {t : ByteArray} {l : List UInt8} (h : bl t = l) : t.size = l.length := by rw [← h, bl_len]

set_option maxHeartbeats 400000 in
theorem altText_bad (a : Int) (w : World) (h : a < -200000 ∨ 6000000 < a) :
    Calls Tryz.prog 74 #[.int .i64 a] w fun e w' => ∃ t, e = .returned (.tuple #[.string t, .int .i64 2]) ∧ Hid (bl t = []) ∧ w = w' := by
  have h' : a < -200000 ∨ -200000 ≤ a ∧ 6000000 < a := by omega
  clear h
  rcases h' with h | ⟨h, h2⟩
  all_goals
    go_enter Tryz.func74, Tryz.ntmps74
    go_wp2
    go_ret2
    exact ⟨_, rfl, rfl, rfl⟩

set_option maxHeartbeats 400000 in
theorem altText_neg (b : Nat) (w : World) (h : 1 ≤ b) (h2 : b ≤ 200000) (E : Env w) :
    Calls Tryz.prog 74 #[.int .i64 (-(b : Int))] w fun e w' => ∃ t, e = .returned (.tuple #[.string t, .int .i64 0]) ∧ Hid (bl t = 45 :: altAbs b) ∧ Below w.heap.size w w' := by
  have q1 := Lib.hid (show (b : Int) / 100 = ((b / 100 : Nat) : Int) by omega)
  have q2 := Lib.hid (show (b : Int) % 100 / 10 = ((b % 100 / 10 : Nat) : Int) by omega)
  have q3 := Lib.hid (show (b : Int) % 10 = ((b % 10 : Nat) : Int) by omega)
  by_cases hk : b % 100 = 0
  · have hk' : ((b : Int) % 100 != 0) = false := by simp only [bne_eq_false_iff_eq]; omega
    have HK := Lib.hid hk; clear hk
    go_enter Tryz.func74, Tryz.ntmps74
    go_wp2_with fail
    rw [q1.out]
    refine (fmt10 (b / 100) (by omega) _ E).mono ?_
    rintro e w1 ⟨t1, rfl, ht1, hs1, hb1⟩
    go_wp2_with fail
    go_ret2
    refine ⟨_, rfl, ?_, hb1⟩
    show bl (⟨#[45]⟩ ++ t1) = _
    simp only [bl_append, ht1.out, altAbs_whole HK.out, bl_mk, List.cons_append, List.nil_append]
  · have hk' : ((b : Int) % 100 != 0) = true := by rw [bne_iff_ne]; omega
    go_enter Tryz.func74, Tryz.ntmps74
    go_wp2_with fail
    rw [q1.out]
    refine (fmt10 (b / 100) (by omega) _ E).mono ?_
    rintro e w1 ⟨t1, rfl, ht1, hs1, hb1⟩
    go_wp2_with fail
    rw [q2.out]
    refine (fmt10 (b % 100 / 10) (by omega) _ (E.below hb1)).mono ?_
    rintro e w2 ⟨t2, rfl, ht2, hs2, hb2⟩
    go_wp2_with fail
    rw [q3.out]
    refine (fmt10 (b % 10) (by omega) _ ((E.below hb1).below hb2)).mono ?_
    rintro e w3 ⟨t3, rfl, ht3, hs3, hb3⟩
    go_wp2_with fail
    go_ret2
    refine ⟨_, rfl, ?_, Below.then_ (Below.then_ hb1 hb2) hb3⟩
    show bl (⟨#[45]⟩ ++ t1 ++ (⟨#[46]⟩ ++ t2 ++ t3)) = _
    simp only [bl_append, ht1.out, ht2.out, ht3.out, altAbs_part hk, bl_mk, List.cons_append, List.nil_append, List.append_assoc]
set_option maxHeartbeats 400000 in
theorem altText_pos (b : Nat) (w : World) (h : 0 ≤ b) (h2 : b ≤ 6000000) (E : Env w) :
    Calls Tryz.prog 74 #[.int .i64 (b : Int)] w fun e w' => ∃ t, e = .returned (.tuple #[.string t, .int .i64 0]) ∧ Hid (bl t =  altAbs b) ∧ Below w.heap.size w w' := by
  have q1 := Lib.hid (show (b : Int) / 100 = ((b / 100 : Nat) : Int) by omega)
  have q2 := Lib.hid (show (b : Int) % 100 / 10 = ((b % 100 / 10 : Nat) : Int) by omega)
  have q3 := Lib.hid (show (b : Int) % 10 = ((b % 10 : Nat) : Int) by omega)
  by_cases hk : b % 100 = 0
  · have hk' : ((b : Int) % 100 != 0) = false := by simp only [bne_eq_false_iff_eq]; omega
    have HK := Lib.hid hk; clear hk
    go_enter Tryz.func74, Tryz.ntmps74
    go_wp2_with fail
    rw [q1.out]
    refine (fmt10 (b / 100) (by omega) _ E).mono ?_
    rintro e w1 ⟨t1, rfl, ht1, hs1, hb1⟩
    go_wp2_with fail
    go_ret2
    refine ⟨_, rfl, ?_, hb1⟩
    show bl (t1) = _
    simp only [bl_append, ht1.out, altAbs_whole HK.out, bl_mk, List.cons_append, List.nil_append]
  · have hk' : ((b : Int) % 100 != 0) = true := by rw [bne_iff_ne]; omega
    go_enter Tryz.func74, Tryz.ntmps74
    go_wp2_with fail
    rw [q1.out]
    refine (fmt10 (b / 100) (by omega) _ E).mono ?_
    rintro e w1 ⟨t1, rfl, ht1, hs1, hb1⟩
    go_wp2_with fail
    rw [q2.out]
    refine (fmt10 (b % 100 / 10) (by omega) _ (E.below hb1)).mono ?_
    rintro e w2 ⟨t2, rfl, ht2, hs2, hb2⟩
    go_wp2_with fail
    rw [q3.out]
    refine (fmt10 (b % 10) (by omega) _ ((E.below hb1).below hb2)).mono ?_
    rintro e w3 ⟨t3, rfl, ht3, hs3, hb3⟩
    go_wp2_with fail
    go_ret2
    refine ⟨_, rfl, ?_, Below.then_ (Below.then_ hb1 hb2) hb3⟩
    show bl (t1 ++ (⟨#[46]⟩ ++ t2 ++ t3)) = _
    simp only [bl_append, ht1.out, ht2.out, ht3.out, altAbs_part hk, bl_mk, List.cons_append, List.nil_append, List.append_assoc]
theorem altOut_neg {b : Nat} (h : 1 ≤ b) (h2 : b ≤ 200000) : altOut (-(b : Int)) = 45 :: altAbs b := by
  unfold altOut altTextL; rw [if_pos (rangedB_yes (by omega) (by omega)), if_pos (by omega)]; simp
theorem altOut_pos {b : Nat} (h2 : b ≤ 6000000) : altOut (b : Int) = altAbs b := by
  unfold altOut altTextL; rw [if_pos (rangedB_yes (by omega) (by omega)), if_neg (by omega)]; simp
theorem altOut_bad {a : Int} (h : a < -200000 ∨ 6000000 < a) : altOut a = [] := by unfold altOut; rw [rangedB_no h]; rfl
theorem altErr_bad {a : Int} (h : a < -200000 ∨ 6000000 < a) : altErr a = 2 := by unfold altErr; rw [rangedB_no h]; rfl
theorem altErr_ok {a : Int} (h : -200000 ≤ a) (h2 : a ≤ 6000000) : altErr a = 0 := by unfold altErr; rw [rangedB_yes h h2]; rfl
theorem altAbs_len {b : Nat} (h2 : b ≤ 6000000) : (altAbs b).length ≤ 70000 := by
  unfold altAbs
  have h1 := decDigits_len (b / 100)
  have h3 := decDigits_len (b % 100 / 10)
  have h4 := decDigits_len (b % 10)
  split
  · simp only [List.append_nil]; omega
  · simp only [List.length_append, List.length_cons]; omega
theorem altOut_len (a : Int) : (altOut a).length ≤ 70001 := by
  by_cases h : a < -200000 ∨ 6000000 < a
  · rw [altOut_bad h]; simp
  · by_cases hn : a < 0
    · obtain ⟨b, rfl⟩ : ∃ b : Nat, a = -(b : Int) := ⟨(-a).toNat, by omega⟩
      rw [altOut_neg (by omega) (by omega)]
      have := @altAbs_len b (by omega)
      simp only [List.length_cons]; omega
    · obtain ⟨b, rfl⟩ : ∃ b : Nat, a = (b : Int) := ⟨a.toNat, by omega⟩
      rw [altOut_pos (by omega)]
      have := @altAbs_len b (by omega)
      omega
/-- AltText at every altitude -/
theorem altText_any (a : Int) (w : World) (E : Env w) :
    Calls Tryz.prog 74 #[.int .i64 a] w fun e w' => ∃ t, e = .returned (.tuple #[.string t, .int .i64 (altErr a)]) ∧ Hid (bl t = altOut a) ∧ t.size ≤ 70001 ∧ Below w.heap.size w w' := by
  have hl := altOut_len a
  by_cases h : a < -200000 ∨ 6000000 < a
  · rw [altErr_bad h]
    refine (altText_bad a w h).mono ?_
    rintro e w' ⟨t, he, ht, hw⟩
    exact ⟨t, he, by rw [altOut_bad h]; exact ht, by rw [str_size ht]; simp, (by subst hw; exact Below.refl _ _)⟩
  · rw [altErr_ok (by omega) (by omega)]
    by_cases hn : a < 0
    · obtain ⟨b, rfl⟩ : ∃ b : Nat, a = -(b : Int) := ⟨(-a).toNat, by omega⟩
      refine (altText_neg b w (by omega) (by omega) E).mono ?_
      rintro e w' ⟨t, he, ht, hw⟩
      have ht' : bl t = altOut (-(b : Int)) := by rw [altOut_neg (by omega) (by omega)]; exact ht
      exact ⟨t, he, ht', by rw [str_size ht']; exact hl, hw⟩
    · obtain ⟨b, rfl⟩ : ∃ b : Nat, a = (b : Int) := ⟨a.toNat, by omega⟩
      refine (altText_pos b w (by omega) (by omega) E).mono ?_
      rintro e w' ⟨t, he, ht, hw⟩
      have ht' : bl t = altOut (b : Int) := by rw [altOut_pos (by omega)]; exact ht
      exact ⟨t, he, ht', by rw [str_size ht']; exact hl, hw⟩
/-- decimal digits by a count of steps -/
def digs : Nat → Nat → List UInt8
  | 0, _ => []
  | f + 1, n => if n < 10 then [UInt8.ofNat (48 + n)] else digs f (n / 10) ++ [UInt8.ofNat (48 + n % 10)]
theorem decDigits_digs : ∀ (f n : Nat), n < 10 ^ f → 0 < f → Lib.decDigits n = digs f n
  | f + 1, n, h, _ => by
    unfold digs
    by_cases hn : n < 10
    · rw [if_pos hn, decDigits_small hn]
    · rw [if_neg hn, decDigits_big hn]
      have hf : 0 < f := by
        rcases Nat.eq_zero_or_pos f with h0 | h0
        · subst h0; omega
        · exact h0
      rw [decDigits_digs f (n / 10) (by rw [Nat.pow_succ] at h; omega) hf]
end Go.Proofs.YtgnnblkpjankgaaGreatDoor
