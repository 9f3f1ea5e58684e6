/-
  Plain laws: texts of latitudes, longitudes and positions, and what such a text means.
-/
import Derived.Test.YtlgajjlnbcbijaaGreatDoorBase
namespace Go.Proofs.YtlgajjlnbcbijaaGreatDoor
open Go.RowKit
set_option linter.unusedVariables false
set_option linter.unusedSimpArgs false

/-- so many digits of a number -/
def fixD (n : Nat) : Nat → List UInt8
  | 0 => []
  | c + 1 => fixD (n / 10) c ++ [UInt8.ofNat (48 + n % 10)]
def digC (c : UInt8) : Bool := decide (48 ≤ c.toNat) && decide (c.toNat ≤ 57)
def numV (l : List UInt8) : Nat := l.foldl (fun n c => 10 * n + (c.toNat - 48)) 0
theorem fixD_len : ∀ (c n : Nat), (fixD n c).length = c
  | 0, n => rfl
  | c + 1, n => by unfold fixD; rw [List.length_append, fixD_len c]; rfl
theorem digit_toNat {n : Nat} (h : n < 10) : (UInt8.ofNat (48 + n)).toNat = 48 + n := by
  simp; omega
theorem digC_digit {n : Nat} (h : n < 10) : digC (UInt8.ofNat (48 + n)) = true := by
  unfold digC; rw [digit_toNat h, decide_eq_true (by omega), decide_eq_true (by omega)]; rfl
theorem fixD_dig : ∀ (c n : Nat), (fixD n c).all digC = true
  | 0, n => rfl
  | c + 1, n => by
    unfold fixD
    rw [List.all_append, fixD_dig c, Bool.true_and]
    show (digC _ && true) = true
    rw [Bool.and_true]
    exact digC_digit (Nat.mod_lt _ (by decide))
theorem numV_snoc (l : List UInt8) (c : UInt8) : numV (l ++ [c]) = 10 * numV l + (c.toNat - 48) := by unfold numV; rw [List.foldl_append]; rfl
theorem numV_fixD : ∀ (c n : Nat), n < 10 ^ c → numV (fixD n c) = n
  | 0, n, h => by
    have : n = 0 := by simpa using h
    subst this; rfl
  | c + 1, n, h => by
    unfold fixD
    rw [numV_snoc, numV_fixD c (n / 10) (by rw [Nat.pow_succ] at h; omega), digit_toNat (Nat.mod_lt _ (by decide))]
    omega
theorem fold_lt : ∀ (l : List UInt8) (acc : Nat), l.all digC = true → l.foldl (fun n c => 10 * n + (c.toNat - 48)) acc + 1 ≤ (acc + 1) * 10 ^ l.length
  | [], acc, _ => by simp
  | c :: l, acc, h => by
    rw [List.all_cons, Bool.and_eq_true] at h
    have h2 := h.1
    unfold digC at h2
    rw [Bool.and_eq_true, decide_eq_true_iff, decide_eq_true_iff] at h2
    rw [List.foldl_cons, List.length_cons]
    refine Nat.le_trans (fold_lt l _ h.2) ?_
    rw [Nat.pow_succ, Nat.mul_comm (10 ^ l.length) 10, ← Nat.mul_assoc]
    exact Nat.mul_le_mul_right _ (by omega)
theorem numV_lt (l : List UInt8) (h : l.all digC = true) : numV l < 10 ^ l.length := by
  have := fold_lt l 0 h
  unfold numV
  omega
/-- degrees in so many digits, minutes, seconds and hundredths -/
def sexa (a : Nat) (c : Nat) : List UInt8 := fixD (a / 360000) c ++ fixD (a % 360000 / 6000) 2 ++ fixD (a % 6000 / 100) 2 ++ fixD (a % 100) 2
theorem sexa_len (a c : Nat) : (sexa a c).length = c + 6 := by
  unfold sexa; rw [List.length_append, List.length_append, List.length_append, fixD_len, fixD_len, fixD_len, fixD_len]
theorem sexa_dig (a c : Nat) : (sexa a c).all digC = true := by
  unfold sexa; rw [List.all_append, List.all_append, List.all_append, fixD_dig, fixD_dig, fixD_dig, fixD_dig]; rfl
def sgnText (a : Int) (p m : UInt8) (c : Nat) : List UInt8 := if a < 0 then m :: sexa (-a).toNat c else p :: sexa a.toNat c
def latB (a : Int) : Bool := decide (-32400000 ≤ a) && decide (a ≤ 32400000)
def lonB (a : Int) : Bool := decide (-64800000 < a) && decide (a ≤ 64800000)
def latOut (a : Int) : List UInt8 := if latB a then sgnText a 78 83 2 else []
def lonOut (a : Int) : List UInt8 := if lonB a then sgnText a 69 87 3 else []
def posB (a b : Int) : Bool := latB a && lonB b
def posOut (a b : Int) : List UInt8 := if posB a b then latOut a ++ lonOut b else []
def posErr (a b : Int) : Int := if posB a b then 0 else 2
/-- the angle of degrees (in so many digits), minutes, seconds and hundredths -/
def joinV (l : List UInt8) (c : Nat) : Nat := numV (l.take c) * 360000 + numV ((l.drop c).take 2) * 6000 + numV ((l.drop (c + 2)).take 2) * 100 + numV (l.drop (c + 4))
def joinB (l : List UInt8) (c : Nat) : Bool := decide (l.length = c + 6) && l.all digC && decide (numV ((l.drop c).take 2) < 60) && decide (numV ((l.drop (c + 2)).take 2) < 60)
/-- the signed angle of a letter and digits -/
def sgnB (l : List UInt8) (p m : UInt8) (c : Nat) : Bool := decide (l.length = c + 7) && (l.headD 0 == p || l.headD 0 == m) && joinB l.tail c && !(l.headD 0 == m && decide (joinV l.tail c = 0))
def sgnV (l : List UInt8) (m : UInt8) (c : Nat) : Int := if l.headD 0 == m then -(joinV l.tail c : Int) else (joinV l.tail c : Int)
theorem joinV_sexa {a c : Nat} (h : a / 360000 < 10 ^ c) : joinV (sexa a c) c = a ∧ joinB (sexa a c) c = true := by
  have e1 : (sexa a c).take c = fixD (a / 360000) c := by
    unfold sexa
    rw [List.append_assoc, List.append_assoc, List.take_append_of_le_length (by rw [fixD_len]; exact Nat.le_refl _), List.take_of_length_le (by rw [fixD_len]; exact Nat.le_refl _)]
  have e2 : (sexa a c).drop c = fixD (a % 360000 / 6000) 2 ++ (fixD (a % 6000 / 100) 2 ++ fixD (a % 100) 2) := by
    unfold sexa
    rw [List.append_assoc, List.append_assoc]
    have := List.drop_append_of_le_length (l₁ := fixD (a / 360000) c) (l₂ := fixD (a % 360000 / 6000) 2 ++ (fixD (a % 6000 / 100) 2 ++ fixD (a % 100) 2)) (i := c) (by rw [fixD_len]; exact Nat.le_refl _)
    rw [this, List.drop_of_length_le (by rw [fixD_len]; exact Nat.le_refl _)]; rfl
  have e3 : (sexa a c).drop (c + 2) = fixD (a % 6000 / 100) 2 ++ fixD (a % 100) 2 := by
    rw [← List.drop_drop, e2]; rfl
  have e4 : (sexa a c).drop (c + 4) = fixD (a % 100) 2 := by
    rw [← List.drop_drop, e2]; rfl
  have e5 : ((sexa a c).drop c).take 2 = fixD (a % 360000 / 6000) 2 := by rw [e2]; rfl
  have e6 : ((sexa a c).drop (c + 2)).take 2 = fixD (a % 6000 / 100) 2 := by rw [e3]; rfl
  have n1 := numV_fixD c (a / 360000) h
  have n2 := numV_fixD 2 (a % 360000 / 6000) (by omega)
  have n3 := numV_fixD 2 (a % 6000 / 100) (by omega)
  have n4 := numV_fixD 2 (a % 100) (by omega)
  constructor
  · unfold joinV
    rw [e1, e5, e6, e4, n1, n2, n3, n4]
    omega
  · unfold joinB
    rw [sexa_len, sexa_dig, e5, e6, n2, n3, decide_eq_true rfl, decide_eq_true (by omega), decide_eq_true (by omega)]; rfl
theorem sgn_back {a : Int} {p m : UInt8} {c : Nat} (hpm : p ≠ m) (h : a.natAbs / 360000 < 10 ^ c) : sgnB (sgnText a p m c) p m c = true ∧ sgnV (sgnText a p m c) m c = a := by
  unfold sgnText
  by_cases h0 : a < 0
  · rw [if_pos h0]
    have hj := joinV_sexa (a := (-a).toNat) (c := c) (by rw [show (-a).toNat = a.natAbs by omega]; exact h)
    constructor
    · unfold sgnB
      rw [List.length_cons, sexa_len, List.headD_cons, List.tail_cons, hj.2, hj.1, decide_eq_true rfl, decide_eq_false (by omega)]
      simp
    · unfold sgnV
      rw [List.headD_cons, List.tail_cons, hj.1, if_pos (by simp)]
      omega
  · rw [if_neg h0]
    have hj := joinV_sexa (a := a.toNat) (c := c) (by rw [show a.toNat = a.natAbs by omega]; exact h)
    constructor
    · unfold sgnB
      rw [List.length_cons, sexa_len, List.headD_cons, List.tail_cons, hj.2, hj.1, decide_eq_true rfl, beq_eq_false_iff_ne.2 hpm]
      simp
    · unfold sgnV
      rw [List.headD_cons, List.tail_cons, hj.1, if_neg (by simpa using hpm)]
      omega
theorem sgnText_len (a : Int) (p m : UInt8) (c : Nat) : (sgnText a p m c).length = c + 7 := by
  unfold sgnText; split <;> rw [List.length_cons, sexa_len]
/-- what ParsePos answers: 4: no text of that form, 2: out of range -/
def latPErr (l : List UInt8) : Int := if sgnB l 78 83 2 then (if latB (sgnV l 83 2) then 0 else 2) else 4
def lonPErr (l : List UInt8) : Int := if sgnB l 69 87 3 then (if lonB (sgnV l 87 3) then 0 else 2) else 4
def latPV (l : List UInt8) : Int := if latPErr l = 0 then sgnV l 83 2 else 0
def lonPV (l : List UInt8) : Int := if lonPErr l = 0 then sgnV l 87 3 else 0
def posPErr (l : List UInt8) : Int := if l.length = 19 then (if latPErr (l.take 9) = 0 then lonPErr (l.drop 9) else latPErr (l.take 9)) else 4
def posPLat (l : List UInt8) : Int := if posPErr l = 0 then latPV (l.take 9) else 0
def posPLon (l : List UInt8) : Int := if posPErr l = 0 then lonPV (l.drop 9) else 0
theorem pos_back {a b : Int} (h : posB a b = true) : posPErr (posOut a b) = 0 ∧ posPLat (posOut a b) = a ∧ posPLon (posOut a b) = b := by
  have h2 := h
  unfold posB at h2
  rw [Bool.and_eq_true] at h2
  have hl := h2.1
  have hn := h2.2
  unfold latB at hl
  unfold lonB at hn
  rw [Bool.and_eq_true, decide_eq_true_iff, decide_eq_true_iff] at hl hn
  have e1 : latOut a = sgnText a 78 83 2 := by unfold latOut; rw [if_pos h2.1]
  have e2 : lonOut b = sgnText b 69 87 3 := by unfold lonOut; rw [if_pos h2.2]
  have l1 : (latOut a).length = 9 := by rw [e1, sgnText_len]
  have l2 : (lonOut b).length = 10 := by rw [e2, sgnText_len]
  have e3 : posOut a b = latOut a ++ lonOut b := by unfold posOut; rw [if_pos h]
  have t1 : (posOut a b).take 9 = latOut a := by rw [e3, List.take_append_of_le_length (by omega), List.take_of_length_le (by omega)]
  have t2 : (posOut a b).drop 9 = lonOut b := by rw [e3, List.drop_append_of_le_length (by omega), List.drop_of_length_le (by omega)]; rfl
  have s1 := sgn_back (a := a) (p := 78) (m := 83) (c := 2) (by decide) (by omega)
  have s2 := sgn_back (a := b) (p := 69) (m := 87) (c := 3) (by decide) (by omega)
  have p1 : latPErr (latOut a) = 0 := by unfold latPErr; rw [e1, if_pos s1.1, s1.2, if_pos h2.1]
  have p2 : lonPErr (lonOut b) = 0 := by unfold lonPErr; rw [e2, if_pos s2.1, s2.2, if_pos h2.2]
  have p3 : posPErr (posOut a b) = 0 := by
    unfold posPErr
    rw [t1, t2, p1, if_pos (by rw [e3, List.length_append]; omega), if_pos rfl, p2]
  refine ⟨p3, ?_, ?_⟩
  · unfold posPLat; rw [if_pos p3, t1]; unfold latPV; rw [if_pos p1, e1, s1.2]
  · unfold posPLon; rw [if_pos p3, t2]; unfold lonPV; rw [if_pos p2, e2, s2.2]
end Go.Proofs.YtlgajjlnbcbijaaGreatDoor
