/-
  Several texts as one.
  Plain laws: texts of latitudes, longitudes and positions, and what such a text means.
  Contracts: the number that digits mean, on both sides.
  Contracts: the angle of degrees, minutes, seconds and hundredths, on both sides.
  Contracts: the signed angle of a letter and digits, on both sides.
  Contract: the signed angle of a letter and digits, by the reference.
  Contracts: latitudes and longitudes read from their texts, on both sides.
  Contracts: positions read from their texts, on both sides.
  Plain laws: digits from the front; bytes in a row of the call's own; the string of bytes.
  Contracts: texts of angles (the program): digits, split, signed, LatText, LonText, PosText.
  Contracts: texts of latitudes, longitudes and positions, on both sides.
-/
import Derived.Test.YteojggbmkppjoaaGreatDoorBase
import Derived.IntWalk
import Derived.Test.YteojggbmkppjoaaGreatDoorMWords
import Derived.Deep.QuietTactic
import Derived.BigQuiet
import Derived.Laws.BytesString
import Derived.Laws.Cells
import Derived.Laws.OwnMore
import Derived.Deep.OwnRows
namespace Go.Proofs.YteojggbmkppjoaaGreatDoor
open Go.RowKit
set_option linter.unusedVariables false
set_option linter.unusedSimpArgs false

/-- so many digits of a number -/
def fixD (n : Nat) : Nat → List UInt8
  | 0 => []
  | c + 1 => fixD (n / 10) c ++ [UInt8.ofNat (48 + n % 10)]
def digC (c : UInt8) : Bool := decide (48 ≤ c.toNat) && decide (c.toNat ≤ 57)
def numV (l : List UInt8) : Nat := l.foldl (fun n c => 10 * n + (c.toNat - 48)) 0
theorem fixD_len : ∀ (c n : Nat), (fixD n c).length = c
  | 0, n => rfl
  | c + 1, n => by unfold fixD; rw [List.length_append, fixD_len c]; rfl
theorem digit_toNat {n : Nat} (h : n < 10) : (UInt8.ofNat (48 + n)).toNat = 48 + n := by
  simp; omega
theorem digC_digit {n : Nat} (h : n < 10) : digC (UInt8.ofNat (48 + n)) = true := by
  unfold digC; rw [digit_toNat h, decide_eq_true (by omega), decide_eq_true (by omega)]; rfl
theorem fixD_dig : ∀ (c n : Nat), (fixD n c).all digC = true
  | 0, n => rfl
  | c + 1, n => by
    unfold fixD
    rw [List.all_append, fixD_dig c, Bool.true_and]
    show (digC _ && true) = true
    rw [Bool.and_true]
    exact digC_digit (Nat.mod_lt _ (by decide))
theorem numV_snoc (l : List UInt8) (c : UInt8) : numV (l ++ [c]) = 10 * numV l + (c.toNat - 48) := by unfold numV; rw [List.foldl_append]; rfl
theorem numV_fixD : ∀ (c n : Nat), n < 10 ^ c → numV (fixD n c) = n
  | 0, n, h => by
    have : n = 0 := by simpa using h
    subst this; rfl
  | c + 1, n, h => by
    unfold fixD
    rw [numV_snoc, numV_fixD c (n / 10) (by rw [Nat.pow_succ] at h; omega), digit_toNat (Nat.mod_lt _ (by decide))]
    omega
theorem fold_lt : ∀ (l : List UInt8) (acc : Nat), l.all digC = true → l.foldl (fun n c => 10 * n + (c.toNat - 48)) acc + 1 ≤ (acc + 1) * 10 ^ l.length
  | [], acc, _ => by simp
  | c :: l, acc, h => by
    rw [List.all_cons, Bool.and_eq_true] at h
    have h2 := h.1
    unfold digC at h2
    rw [Bool.and_eq_true, decide_eq_true_iff, decide_eq_true_iff] at h2
    rw [List.foldl_cons, List.length_cons]
    refine Nat.le_trans (fold_lt l _ h.2) ?_
    rw [Nat.pow_succ, Nat.mul_comm (10 ^ l.length) 10, ← Nat.mul_assoc]
    exact Nat.mul_le_mul_right _ (by omega)
theorem numV_lt (l : List UInt8) (h : l.all digC = true) : numV l < 10 ^ l.length := by
  have := fold_lt l 0 h
  unfold numV
  omega
/-- degrees in so many digits, minutes, seconds and hundredths -/
def sexa (a : Nat) (c : Nat) : List UInt8 := fixD (a / 360000) c ++ fixD (a % 360000 / 6000) 2 ++ fixD (a % 6000 / 100) 2 ++ fixD (a % 100) 2
theorem sexa_len (a c : Nat) : (sexa a c).length = c + 6 := by
  unfold sexa; rw [List.length_append, List.length_append, List.length_append, fixD_len, fixD_len, fixD_len, fixD_len]
theorem sexa_dig (a c : Nat) : (sexa a c).all digC = true := by
  unfold sexa; rw [List.all_append, List.all_append, List.all_append, fixD_dig, fixD_dig, fixD_dig, fixD_dig]; rfl
def sgnText (a : Int) (p m : UInt8) (c : Nat) : List UInt8 := if a < 0 then m :: sexa (-a).toNat c else p :: sexa a.toNat c
def latB (a : Int) : Bool := decide (-32400000 ≤ a) && decide (a ≤ 32400000)
def lonB (a : Int) : Bool := decide (-64800000 < a) && decide (a ≤ 64800000)
def latOut (a : Int) : List UInt8 := if latB a then sgnText a 78 83 2 else []
def lonOut (a : Int) : List UInt8 := if lonB a then sgnText a 69 87 3 else []
def posB (a b : Int) : Bool := latB a && lonB b
def posOut (a b : Int) : List UInt8 := if posB a b then latOut a ++ lonOut b else []
def posErr (a b : Int) : Int := if posB a b then 0 else 2
/-- the angle of degrees (in so many digits), minutes, seconds and hundredths -/
def joinV (l : List UInt8) (c : Nat) : Nat := numV (l.take c) * 360000 + numV ((l.drop c).take 2) * 6000 + numV ((l.drop (c + 2)).take 2) * 100 + numV (l.drop (c + 4))
def joinB (l : List UInt8) (c : Nat) : Bool := decide (l.length = c + 6) && l.all digC && decide (numV ((l.drop c).take 2) < 60) && decide (numV ((l.drop (c + 2)).take 2) < 60)
/-- the signed angle of a letter and digits -/
def sgnB (l : List UInt8) (p m : UInt8) (c : Nat) : Bool := decide (l.length = c + 7) && (l.headD 0 == p || l.headD 0 == m) && joinB l.tail c && !(l.headD 0 == m && decide (joinV l.tail c = 0))
def sgnV (l : List UInt8) (m : UInt8) (c : Nat) : Int := if l.headD 0 == m then -(joinV l.tail c : Int) else (joinV l.tail c : Int)
theorem joinV_sexa {a c : Nat} (h : a / 360000 < 10 ^ c) : joinV (sexa a c) c = a ∧ joinB (sexa a c) c = true := by
  have e1 : (sexa a c).take c = fixD (a / 360000) c := by
    unfold sexa
    rw [List.append_assoc, List.append_assoc, List.take_append_of_le_length (by rw [fixD_len]; exact Nat.le_refl _), List.take_of_length_le (by rw [fixD_len]; exact Nat.le_refl _)]
  have e2 : (sexa a c).drop c = fixD (a % 360000 / 6000) 2 ++ (fixD (a % 6000 / 100) 2 ++ fixD (a % 100) 2) := by
    unfold sexa
    rw [List.append_assoc, List.append_assoc]
    have := List.drop_append_of_le_length (l₁ := fixD (a / 360000) c) (l₂ := fixD (a % 360000 / 6000) 2 ++ (fixD (a % 6000 / 100) 2 ++ fixD (a % 100) 2)) (i := c) (by rw [fixD_len]; exact Nat.le_refl _)
    rw [this, List.drop_of_length_le (by rw [fixD_len]; exact Nat.le_refl _)]; rfl
  have e3 : (sexa a c).drop (c + 2) = fixD (a % 6000 / 100) 2 ++ fixD (a % 100) 2 := by
    rw [← List.drop_drop, e2]; rfl
  have e4 : (sexa a c).drop (c + 4) = fixD (a % 100) 2 := by
    rw [← List.drop_drop, e2]; rfl
  have e5 : ((sexa a c).drop c).take 2 = fixD (a % 360000 / 6000) 2 := by rw [e2]; rfl
  have e6 : ((sexa a c).drop (c + 2)).take 2 = fixD (a % 6000 / 100) 2 := by rw [e3]; rfl
  have n1 := numV_fixD c (a / 360000) h
  have n2 := numV_fixD 2 (a % 360000 / 6000) (by omega)
  have n3 := numV_fixD 2 (a % 6000 / 100) (by omega)
  have n4 := numV_fixD 2 (a % 100) (by omega)
  constructor
  · unfold joinV
    rw [e1, e5, e6, e4, n1, n2, n3, n4]
    omega
  · unfold joinB
    rw [sexa_len, sexa_dig, e5, e6, n2, n3, decide_eq_true rfl, decide_eq_true (by omega), decide_eq_true (by omega)]; rfl
theorem sgn_back {a : Int} {p m : UInt8} {c : Nat} (hpm : p ≠ m) (h : a.natAbs / 360000 < 10 ^ c) : sgnB (sgnText a p m c) p m c = true ∧ sgnV (sgnText a p m c) m c = a := by
  unfold sgnText
  by_cases h0 : a < 0
  · rw [if_pos h0]
    have hj := joinV_sexa (a := (-a).toNat) (c := c) (by rw [show (-a).toNat = a.natAbs by omega]; exact h)
    constructor
    · unfold sgnB
      rw [List.length_cons, sexa_len, List.headD_cons, List.tail_cons, hj.2, hj.1, decide_eq_true rfl, decide_eq_false (by omega)]
      simp
    · unfold sgnV
      rw [List.headD_cons, List.tail_cons, hj.1, if_pos (by simp)]
      omega
  · rw [if_neg h0]
    have hj := joinV_sexa (a := a.toNat) (c := c) (by rw [show a.toNat = a.natAbs by omega]; exact h)
    constructor
    · unfold sgnB
      rw [List.length_cons, sexa_len, List.headD_cons, List.tail_cons, hj.2, hj.1, decide_eq_true rfl, beq_eq_false_iff_ne.2 hpm]
      simp
    · unfold sgnV
      rw [List.headD_cons, List.tail_cons, hj.1, if_neg (by simpa using hpm)]
      omega
theorem sgnText_len (a : Int) (p m : UInt8) (c : Nat) : (sgnText a p m c).length = c + 7 := by
  unfold sgnText; split <;> rw [List.length_cons, sexa_len]
/-- what ParsePos answers: 4: no text of that form, 2: out of range -/
def latPErr (l : List UInt8) : Int := if sgnB l 78 83 2 then (if latB (sgnV l 83 2) then 0 else 2) else 4
def lonPErr (l : List UInt8) : Int := if sgnB l 69 87 3 then (if lonB (sgnV l 87 3) then 0 else 2) else 4
def latPV (l : List UInt8) : Int := if latPErr l = 0 then sgnV l 83 2 else 0
def lonPV (l : List UInt8) : Int := if lonPErr l = 0 then sgnV l 87 3 else 0
def posPErr (l : List UInt8) : Int := if l.length = 19 then (if latPErr (l.take 9) = 0 then lonPErr (l.drop 9) else latPErr (l.take 9)) else 4
def posPLat (l : List UInt8) : Int := if posPErr l = 0 then latPV (l.take 9) else 0
def posPLon (l : List UInt8) : Int := if posPErr l = 0 then lonPV (l.drop 9) else 0
theorem pos_back {a b : Int} (h : posB a b = true) : posPErr (posOut a b) = 0 ∧ posPLat (posOut a b) = a ∧ posPLon (posOut a b) = b := by
  have h2 := h
  unfold posB at h2
  rw [Bool.and_eq_true] at h2
  have hl := h2.1
  have hn := h2.2
  unfold latB at hl
  unfold lonB at hn
  rw [Bool.and_eq_true, decide_eq_true_iff, decide_eq_true_iff] at hl hn
  have e1 : latOut a = sgnText a 78 83 2 := by unfold latOut; rw [if_pos h2.1]
  have e2 : lonOut b = sgnText b 69 87 3 := by unfold lonOut; rw [if_pos h2.2]
  have l1 : (latOut a).length = 9 := by rw [e1, sgnText_len]
  have l2 : (lonOut b).length = 10 := by rw [e2, sgnText_len]
  have e3 : posOut a b = latOut a ++ lonOut b := by unfold posOut; rw [if_pos h]
  have t1 : (posOut a b).take 9 = latOut a := by rw [e3, List.take_append_of_le_length (by omega), List.take_of_length_le (by omega)]
  have t2 : (posOut a b).drop 9 = lonOut b := by rw [e3, List.drop_append_of_le_length (by omega), List.drop_of_length_le (by omega)]; rfl
  have s1 := sgn_back (a := a) (p := 78) (m := 83) (c := 2) (by decide) (by omega)
  have s2 := sgn_back (a := b) (p := 69) (m := 87) (c := 3) (by decide) (by omega)
  have p1 : latPErr (latOut a) = 0 := by unfold latPErr; rw [e1, if_pos s1.1, s1.2, if_pos h2.1]
  have p2 : lonPErr (lonOut b) = 0 := by unfold lonPErr; rw [e2, if_pos s2.1, s2.2, if_pos h2.2]
  have p3 : posPErr (posOut a b) = 0 := by
    unfold posPErr
    rw [t1, t2, p1, if_pos (by rw [e3, List.length_append]; omega), if_pos rfl, p2]
  refine ⟨p3, ?_, ?_⟩
  · unfold posPLat; rw [if_pos p3, t1]; unfold latPV; rw [if_pos p1, e1, s1.2]
  · unfold posPLon; rw [if_pos p3, t2]; unfold lonPV; rw [if_pos p2, e2, s2.2]
end Go.Proofs.YteojggbmkppjoaaGreatDoor
namespace Go.Proofs.YteojggbmkppjoaaGreatDoor
open Go.RowKit
set_option linter.unusedVariables false
set_option linter.unusedSimpArgs false

theorem take_snoc' (s : ByteArray) (k : Nat) (h : k < s.size) : (bl s).take (k + 1) = (bl s).take k ++ [s[k]] := by
  rw [List.take_succ_eq_append_getElem (by rw [bl_len]; exact h)]; rfl
theorem digC_of {c : UInt8} (h1 : (48 : Int) ≤ (c.toNat : Int)) (h2 : (c.toNat : Int) ≤ 57) : digC c = true := by
  unfold digC; rw [decide_eq_true (by omega), decide_eq_true (by omega)]; rfl
theorem digC_not {c : UInt8} (h : (c.toNat : Int) < 48 ∨ 57 < (c.toNat : Int)) : digC c = false := by
  unfold digC
  rcases h with h | h
  · rw [decide_eq_false (p := 48 ≤ c.toNat) (by omega)]; rfl
  · rw [decide_eq_false (p := c.toNat ≤ 57) (by omega), Bool.and_false]
theorem all_take_snoc {s : ByteArray} {k : Nat} (hk : k < s.size) (h : ((bl s).take k).all digC = true) (hc : digC s[k] = true) : ((bl s).take (k + 1)).all digC = true := by
  rw [take_snoc' s k hk, List.all_append, h, List.all_cons, hc]; rfl
theorem all_no {s : ByteArray} {k : Nat} (hk : k < s.size) (hc : digC s[k] = false) : (bl s).all digC = false :=
  all_false_at (l := bl s) (k := k) (by rw [bl_len]; exact hk) hc
def DigPost (s : ByteArray) (w : World) (e : Ending) (w' : World) : Prop := e = .returned (.tuple #[.int .i64 (if (bl s).all digC then (numV (bl s) : Int) else 0), .bool ((bl s).all digC)]) ∧ w = w'
set_option maxRecDepth 100000 in
set_option maxHeartbeats 1000000 in
theorem number_any (s : ByteArray) (w : World) (hs : s.size ≤ 9) : Calls Tryz.prog 151 #[.string s] w (DigPost s w) := by
  have HNO : Hid ((bl s).all digC = false → DigPost s w (.returned (.tuple #[.int .i64 0, .bool false])) w) := by
    intro h; unfold DigPost; rw [h]; exact ⟨rfl, rfl⟩
  have HYES : Hid ((bl s).all digC = true → ∀ n : Nat, numV (bl s) = n → DigPost s w (.returned (.tuple #[.int .i64 (n : Int), .bool true])) w) := by
    intro h n hn; unfold DigPost; rw [h, hn]; exact ⟨rfl, rfl⟩
  go_enter Tryz.func151, Tryz.ntmps151
  go_wp2
  go_loop [4, 8] (fun nv iv => ∃ k n : Nat, k ≤ s.size ∧ iv = .int .i64 k ∧ nv = .int .i64 n ∧ Hid (numV ((bl s).take k) = n ∧ ((bl s).take k).all digC = true)) (fun _ iv => s.size - (intOf iv).toNat)
  case atStart => exact ⟨0, 0, Nat.zero_le _, rfl, rfl, rfl, rfl⟩
  case round =>
    obtain ⟨k, n, hk, rfl, rfl, hn⟩ := hrel
    by_cases hlt : k < s.size
    · have hb : (n : Int) ≤ 100000000 := by
        have h1 := numV_lt _ hn.out.2
        rw [hn.out.1, List.length_take, bl_len, Nat.min_eq_left hk] at h1
        have h2 : 10 ^ k ≤ 10 ^ 8 := Nat.pow_le_pow_right (by decide) (by omega)
        omega
      have hb0 : (0 : Int) ≤ (n : Int) := by omega
      have HST : Hid (numV ((bl s).take (k + 1)) = 10 * n + (s[k].toNat - 48)) := by
        unfold Hid; rw [take_snoc' s k hlt, numV_snoc, hn.out.1]
      have hki : (k : Int) < (s.size : Int) := by omega
      rcases Int.lt_or_le (s[k].toNat : Int) 48 with h1 | h1
      · have HF := Lib.hid (all_no hlt (digC_not (.inl h1)))
        go_wp2
        go_ret2
        exact HNO.out HF.out
      · rcases Int.lt_or_le 57 (s[k].toNat : Int) with h2 | h2
        · have HF := Lib.hid (all_no hlt (digC_not (.inr h2)))
          go_wp2
          go_ret2
          exact HNO.out HF.out
        · have HT := Lib.hid (all_take_snoc hlt hn.out.2 (digC_of h1 h2))
          have HC : Hid (10 * (n : Int) + ((s[k].toNat : Int) - 48) = ((10 * n + (s[k].toNat - 48) : Nat) : Int)) := by
            unfold Hid; omega
          go_wp2
          go_round
          case rel => exact ⟨k + 1, _, hlt, by go_num, congrArg (Value.int .i64) HC.out, HST.out, HT.out⟩
          case measure => simp [intOf]; omega
    · have HE : Hid ((bl s).take k = bl s) := List.take_of_length_le (by rw [bl_len]; omega)
      go_wp2
      go_ret2
      exact HYES.out (by rw [← HE.out]; exact hn.out.2) n (by rw [← HE.out]; exact hn.out.1)
end Go.Proofs.YteojggbmkppjoaaGreatDoor
namespace Go.Proofs.YteojggbmkppjoaaGreatDoor
open Go.RowKit
set_option linter.unusedVariables false
set_option linter.unusedSimpArgs false

theorem number_yes (s : ByteArray) (n : Nat) (w : World) (hs : s.size ≤ 9) (hd : (bl s).all digC = true) (hn : numV (bl s) = n) : Calls Tryz.prog 151 #[.string s] w fun e w' => e = .returned (.tuple #[.int .i64 (n : Int), .bool true]) ∧ w = w' :=
  (number_any s w hs).mono fun e w' h => by unfold DigPost at h; rw [hd, hn] at h; exact h
theorem number_no (s : ByteArray) (w : World) (hs : s.size ≤ 9) (hd : (bl s).all digC = false) : Calls Tryz.prog 151 #[.string s] w fun e w' => e = .returned (.tuple #[.int .i64 0, .bool false]) ∧ w = w' :=
  (number_any s w hs).mono fun e w' h => by unfold DigPost at h; rw [hd] at h; exact h
theorem all_of_take {l : List UInt8} (k : Nat) (h : l.all digC = true) : (l.take k).all digC = true := by
  rw [List.all_eq_true] at *; exact fun x hx => h x (List.mem_of_mem_take hx)
theorem all_of_drop {l : List UInt8} (k : Nat) (h : l.all digC = true) : (l.drop k).all digC = true := by
  rw [List.all_eq_true] at *; exact fun x hx => h x (List.mem_of_mem_drop hx)
theorem numV_small {l : List UInt8} {k : Nat} (h : l.all digC = true) (hl : l.length ≤ k) : numV l < 10 ^ k :=
  Nat.lt_of_lt_of_le (numV_lt l h) (Nat.pow_le_pow_right (by decide) hl)
def JoinPost (s : ByteArray) (c : Nat) (w : World) (e : Ending) (w' : World) : Prop := e = .returned (.tuple #[.int .i64 (if joinB (bl s) c then (joinV (bl s) c : Int) else 0), .bool (joinB (bl s) c)]) ∧ w = w'
set_option maxRecDepth 100000 in
set_option maxHeartbeats 2000000 in
theorem join_any (s : ByteArray) (c : Nat) (w : World) (hc : c ≤ 3) (hs : s.size ≤ maxLen) : Calls Tryz.prog 144 #[.string s, .int .i64 (c : Int)] w (JoinPost s c w) := by
  unfold maxLen at hs
  have HNO : Hid (joinB (bl s) c = false → JoinPost s c w (.returned (.tuple #[.int .i64 0, .bool false])) w) := by
    intro h; unfold JoinPost; rw [h]; exact ⟨rfl, rfl⟩
  have HYES : Hid (joinB (bl s) c = true → ∀ n : Int, (joinV (bl s) c : Int) = n → JoinPost s c w (.returned (.tuple #[.int .i64 n, .bool true])) w) := by
    intro h n hn; unfold JoinPost; rw [h, ← hn]; exact ⟨rfl, rfl⟩
  by_cases hl : s.size = c + 6
  · have HLE : Hid ((bl s).length = c + 6) := hl
    have hl1 : (s.size : Int) = (c : Int) + 6 := by omega
    have hz1 : s.size ≤ 9 := by omega
    have hz2 : c + 6 ≤ s.size := by omega
    have hne : ((s.size : Int) != (c : Int) + 6) = false := bne_eq_false_iff_eq.2 hl1
    have hc0 : (0 : Int) ≤ (c : Int) := by omega
    have hc3 : (c : Int) ≤ 3 := by omega
    have hz3 : (c : Int) + 6 ≤ (s.size : Int) := by omega
    clear hl hl1
    cases hd : (bl s).all digC with
    | false =>
      have HD := Lib.hid hd
      have HJ : Hid (joinB (bl s) c = false) := by unfold Hid joinB; rw [hd]; simp
      clear hd
      go_enter Tryz.func144, Tryz.ntmps144
      go_wp2_with fail
      refine (number_no s _ hz1 HD.out).mono ?_
      rintro e w' ⟨rfl, rfl⟩
      go_wp2
      go_ret2
      exact HNO.out HJ.out
    | true =>
      have HD := Lib.hid hd
      clear hd
      obtain ⟨n1, h1⟩ : ∃ n, numV ((bl s).take c) = n := ⟨_, rfl⟩
      obtain ⟨n2, h2⟩ : ∃ n, numV (((bl s).drop c).take 2) = n := ⟨_, rfl⟩
      obtain ⟨n3, h3⟩ : ∃ n, numV (((bl s).drop (c + 2)).take 2) = n := ⟨_, rfl⟩
      obtain ⟨n4, h4⟩ : ∃ n, numV ((bl s).drop (c + 4)) = n := ⟨_, rfl⟩
      have b1 : n1 < 1000 := by
        rw [← h1]; exact numV_small (k := 3) (all_of_take _ HD.out) (by rw [List.length_take]; omega)
      have b2 : n2 < 100 := by
        rw [← h2]; exact numV_small (k := 2) (all_of_take _ (all_of_drop _ HD.out)) (by rw [List.length_take]; omega)
      have b3 : n3 < 100 := by
        rw [← h3]; exact numV_small (k := 2) (all_of_take _ (all_of_drop _ HD.out)) (by rw [List.length_take]; omega)
      have b4 : n4 < 100 := by
        rw [← h4]; exact numV_small (k := 2) (all_of_drop _ HD.out) (by rw [List.length_drop, HLE.out]; omega)
      have HV : Hid ((joinV (bl s) c : Int) = (n1 : Int) * 360000 + (n2 : Int) * 6000 + (n3 : Int) * 100 + (n4 : Int)) := by
        unfold Hid joinV; rw [h1, h2, h3, h4]; omega
      have HB : Hid (joinB (bl s) c = (decide (n2 < 60) && decide (n3 < 60))) := by
        unfold Hid joinB; rw [HD.out, HLE.out, h2, h3]; simp
      have i1 : (n1 : Int) < 1000 := by omega
      have i2 : (n2 : Int) < 100 := by omega
      have i3 : (n3 : Int) < 100 := by omega
      have i4 : (n4 : Int) < 100 := by omega
      have H1 := Lib.hid h1
      have H2 := Lib.hid h2
      have H3 := Lib.hid h3
      have H4 := Lib.hid h4
      clear h1 h2 h3 h4
      go_enter Tryz.func144, Tryz.ntmps144
      go_wp2_with fail
      refine (number_yes s _ _ hz1 HD.out rfl).mono ?_
      rintro e w' ⟨rfl, rfl⟩
      go_wp2_with fail
      refine (number_yes _ n1 _ (by rw [ByteArray.size_extract]; omega) (by rw [bl_extract]; exact all_of_take _ (all_of_drop _ HD.out)) (by rw [bl_extract]; first | exact H1.out | (rw [List.drop_zero]; exact H1.out))).mono ?_
      rintro e w' ⟨rfl, rfl⟩
      go_wp2_with fail
      refine (number_yes _ n2 _ (by rw [ByteArray.size_extract]; omega) (by rw [bl_extract]; exact all_of_take _ (all_of_drop _ HD.out)) (by rw [bl_extract, show c + 2 - c = 2 by omega]; exact H2.out)).mono ?_
      rintro e w' ⟨rfl, rfl⟩
      go_wp2_with fail
      refine (number_yes _ n3 _ (by rw [ByteArray.size_extract]; omega) (by rw [bl_extract]; exact all_of_take _ (all_of_drop _ HD.out)) (by rw [bl_extract, show c + 4 - (c + 2) = 2 by omega]; exact H3.out)).mono ?_
      rintro e w' ⟨rfl, rfl⟩
      go_wp2_with fail
      refine (number_yes _ n4 _ (by rw [ByteArray.size_extract]; omega) (by rw [bl_extract]; exact all_of_take _ (all_of_drop _ HD.out)) (by rw [bl_extract, List.take_of_length_le (by rw [List.length_drop, bl_len]; omega)]; exact H4.out)).mono ?_
      rintro e w' ⟨rfl, rfl⟩
      rcases Nat.lt_or_ge n2 60 with k2 | k2
      · have k2' : (n2 : Int) < 60 := by omega
        rcases Nat.lt_or_ge n3 60 with k3 | k3
        · have k3' : (n3 : Int) < 60 := by omega
          have HJ : Hid (joinB (bl s) c = true) := by unfold Hid; rw [HB.out, decide_eq_true k2, decide_eq_true k3]; rfl
          go_wp2
          go_ret2
          exact HYES.out HJ.out _ HV.out
        · have k3' : (60 : Int) ≤ (n3 : Int) := by omega
          have HJ : Hid (joinB (bl s) c = false) := by unfold Hid; rw [HB.out, decide_eq_false (p := n3 < 60) (by omega), Bool.and_false]
          go_wp2
          go_ret2
          exact HNO.out HJ.out
      · have k2' : (60 : Int) ≤ (n2 : Int) := by omega
        have HJ : Hid (joinB (bl s) c = false) := by unfold Hid; rw [HB.out, decide_eq_false (p := n2 < 60) (by omega), Bool.false_and]
        go_wp2
        go_ret2
        exact HNO.out HJ.out
  · have HJ : Hid (joinB (bl s) c = false) := by
      unfold Hid joinB; rw [decide_eq_false (p := (bl s).length = c + 6) (by rw [bl_len]; exact hl)]; rfl
    have hne : ((s.size : Int) != (c : Int) + 6) = true := bne_iff_ne.2 (by omega)
    have hc0 : (0 : Int) ≤ (c : Int) := by omega
    have hc3 : (c : Int) ≤ 3 := by omega
    clear hl
    go_enter Tryz.func144, Tryz.ntmps144
    go_wp2
    go_ret2
    exact HNO.out HJ.out
theorem and4 : ∀ a b c d : Bool, ((a && b) && c && d) = false → a = false ∨ b = false ∨ c = false ∨ d = false := by decide
theorem parts4 (l : List UInt8) (c : Nat) : l.all digC = (((l.take c).all digC && ((l.drop c).take 2).all digC) && ((l.drop (c + 2)).take 2).all digC && (l.drop (c + 4)).all digC) := by
  have e1 : l = l.take c ++ l.drop c := (List.take_append_drop c l).symm
  have e2 : l.drop c = (l.drop c).take 2 ++ l.drop (c + 2) := by
    have h := (List.take_append_drop 2 (l.drop c)).symm
    rw [List.drop_drop] at h
    exact h
  have e3 : l.drop (c + 2) = (l.drop (c + 2)).take 2 ++ l.drop (c + 4) := by
    have h := (List.take_append_drop 2 (l.drop (c + 2))).symm
    rw [List.drop_drop] at h
    exact h
  have a1 : l.all digC = ((l.take c).all digC && (l.drop c).all digC) := by rw [← List.all_append, List.take_append_drop]
  have a2 : (l.drop c).all digC = (((l.drop c).take 2).all digC && (l.drop (c + 2)).all digC) := by rw [← List.all_append, ← e2]
  have a3 : (l.drop (c + 2)).all digC = (((l.drop (c + 2)).take 2).all digC && (l.drop (c + 4)).all digC) := by rw [← List.all_append, ← e3]
  rw [a1, a2, a3, Bool.and_assoc, Bool.and_assoc]
end Go.Proofs.YteojggbmkppjoaaGreatDoor
namespace Go.Proofs.YteojggbmkppjoaaGreatDoor
open Go.RowKit
set_option linter.unusedVariables false
set_option linter.unusedSimpArgs false

theorem joinV_lt {l : List UInt8} {c : Nat} (hc : c ≤ 3) (h : joinB l c = true) : joinV l c ≤ 400000000 := by
  unfold joinB at h
  simp only [Bool.and_eq_true, decide_eq_true_iff] at h
  obtain ⟨⟨⟨h1, h2⟩, h3⟩, h4⟩ := h
  have b1 : numV (l.take c) < 10 ^ 3 := numV_small (all_of_take _ h2) (by rw [List.length_take]; omega)
  have b4 : numV (l.drop (c + 4)) < 10 ^ 2 := numV_small (all_of_drop _ h2) (by rw [List.length_drop]; omega)
  unfold joinV
  omega
def SgnPost (l : List UInt8) (p m : UInt8) (c : Nat) (w : World) (e : Ending) (w' : World) : Prop := e = .returned (.tuple #[.int .i64 (if sgnB l p m c then sgnV l m c else 0), .bool (sgnB l p m c)]) ∧ Drawn w w'
theorem u8_ne {a b : UInt8} (h : a ≠ b) : ((a.toNat : Int) != (b.toNat : Int)) = true ∧ ((a.toNat : Int) == (b.toNat : Int)) = false := by
  have h2 : ¬ (a.toNat : Int) = (b.toNat : Int) := fun e => h (UInt8.toNat_inj.1 (by omega))
  exact ⟨bne_iff_ne.2 h2, beq_eq_false_iff_ne.2 h2⟩
theorem u8_same {a b : UInt8} (h : a = b) : ((a.toNat : Int) != (b.toNat : Int)) = false ∧ ((a.toNat : Int) == (b.toNat : Int)) = true := by
  subst h; exact ⟨by simp, by simp⟩
theorem bl_cons {s : ByteArray} (h : 0 < s.size) : bl s = s[0] :: (bl s).drop 1 := by
  have := List.drop_eq_getElem_cons (l := bl s) (i := 0) (by rw [bl_len]; exact h)
  rw [List.drop_zero] at this
  exact this
set_option maxRecDepth 100000 in
set_option maxHeartbeats 2000000 in
theorem parse_any (s : ByteArray) (p m : UInt8) (c : Nat) (w : World) (hc : c ≤ 3) (hs : s.size ≤ maxLen) : Calls Tryz.prog 133 #[.string s, .int .u8 (p.toNat : Int), .int .u8 (m.toNat : Int), .int .i64 (c : Int)] w (SgnPost (bl s) p m c w) := by
  unfold maxLen at hs
  have HNO : Hid (sgnB (bl s) p m c = false → SgnPost (bl s) p m c w (.returned (.tuple #[.int .i64 0, .bool false])) w) := by
    intro h; unfold SgnPost; rw [h]; exact ⟨rfl, Drawn.refl _⟩
  have HYES : Hid (sgnB (bl s) p m c = true → ∀ n : Int, sgnV (bl s) m c = n → SgnPost (bl s) p m c w (.returned (.tuple #[.int .i64 n, .bool true])) w) := by
    intro h n hn; unfold SgnPost; rw [h, ← hn]; exact ⟨rfl, Drawn.refl _⟩
  have hc0 : (0 : Int) ≤ (c : Int) := by omega
  have hc3 : (c : Int) ≤ 3 := by omega
  by_cases hl : s.size = c + 7
  · have hne : ((s.size : Int) != (c : Int) + 7) = false := bne_eq_false_iff_eq.2 (by omega)
    have hz : 0 < s.size := by omega
    have hz1 : (0 : Int) < (s.size : Int) := by omega
    have hz2 : (1 : Int) ≤ (s.size : Int) := by omega
    have hz3 : 1 ≤ s.size := by omega
    have HB : Hid (sgnB (bl s) p m c = ((s[0] == p || s[0] == m) && joinB ((bl s).drop 1) c && !(s[0] == m && decide (joinV ((bl s).drop 1) c = 0)))) := by
      unfold Hid sgnB
      rw [bl_len, hl, decide_eq_true rfl]
      rw [bl_cons hz]
      simp
    have HV : Hid (sgnV (bl s) m c = if s[0] == m then -(joinV ((bl s).drop 1) c : Int) else (joinV ((bl s).drop 1) c : Int)) := by
      unfold Hid sgnV
      rw [bl_cons hz]
      simp
    have HJ : Hid (bl (s.extract 1 s.size) = (bl s).drop 1) := by
      unfold Hid; rw [bl_extract, List.take_of_length_le (by rw [List.length_drop, bl_len]; omega)]
    have hle : s.size ≤ 10 := by omega
    clear hl
    by_cases h1 : s[0] = p ∨ s[0] = m
    · have HOK : Hid ((s[0] == p || s[0] == m) = true) := by unfold Hid; rcases h1 with h | h <;> rw [h] <;> simp
      have h2 : ((s[0].toNat : Int) != (p.toNat : Int)) = false ∨ (((s[0].toNat : Int) != (p.toNat : Int)) = true ∧ ((s[0].toNat : Int) != (m.toNat : Int)) = false) := by
        by_cases h3 : s[0] = p
        · exact .inl (u8_same h3).1
        · exact .inr ⟨(u8_ne h3).1, (u8_same (h1.resolve_left h3)).1⟩
      have h4 : (Hid (s[0] = m) ∧ ((s[0].toNat : Int) == (m.toNat : Int)) = true) ∨ (Hid (s[0] ≠ m) ∧ ((s[0].toNat : Int) == (m.toNat : Int)) = false) := by
        by_cases h3 : s[0] = m
        · exact .inl ⟨h3, (u8_same h3).2⟩
        · exact .inr ⟨h3, (u8_ne h3).2⟩
      clear h1
      rcases h2 with t1 | ⟨t1, t2⟩
      all_goals
        go_enter Tryz.func133, Tryz.ntmps133
        go_wp2_with fail
        refine (join_any _ c _ hc (by rw [ByteArray.size_extract]; unfold maxLen; omega)).mono ?_
        rintro e w' ⟨rfl, rfl⟩
        rw [HJ.out]
        cases hj : joinB ((bl s).drop 1) c with
        | false =>
          have HZ : Hid (sgnB (bl s) p m c = false) := by unfold Hid; rw [HB.out, hj]; simp
          clear hj
          simp only [Bool.false_eq_true, if_false]
          go_wp2
          go_ret2
          exact HNO.out HZ.out
        | true =>
          have hjv := joinV_lt hc hj
          have HJT := Lib.hid hj
          clear hj
          obtain ⟨jv, hjve⟩ : ∃ jv, joinV ((bl s).drop 1) c = jv := ⟨_, rfl⟩
          rw [hjve] at hjv HB HV ⊢
          clear hjve
          simp only [if_true]
          have g0 : (0 : Int) ≤ (jv : Int) := by omega
          have g1 : (jv : Int) ≤ 400000000 := by omega
          rcases h4 with ⟨h5, h6⟩ | ⟨h5, h6⟩
          · have HV2 : Hid (sgnV (bl s) m c = -(jv : Int)) := by unfold Hid; rw [HV.out, h5.out]; simp
            by_cases hj0 : jv = 0
            · have HZ : Hid (sgnB (bl s) p m c = false) := by unfold Hid; rw [HB.out, h5.out, hj0]; simp
              have e0 : ((jv : Int) == 0) = true := beq_iff_eq.2 (by omega)
              clear hj0
              go_wp2
              go_ret2
              exact HNO.out HZ.out
            · have HZ : Hid (sgnB (bl s) p m c = true) := by unfold Hid; rw [HB.out, HOK.out, HJT.out, decide_eq_false hj0]; simp
              have e0 : ((jv : Int) == 0) = false := beq_eq_false_iff_ne.2 (by omega)
              clear hj0
              go_wp2
              go_ret2
              exact HYES.out HZ.out _ HV2.out
          · have HV2 : Hid (sgnV (bl s) m c = (jv : Int)) := by unfold Hid; rw [HV.out, if_neg (by simpa using h5.out)]
            have HZ : Hid (sgnB (bl s) p m c = true) := by unfold Hid; rw [HB.out, HOK.out, HJT.out, beq_eq_false_iff_ne.2 h5.out]; simp
            go_wp2
            go_ret2
            exact HYES.out HZ.out _ HV2.out
    · have HZ : Hid (sgnB (bl s) p m c = false) := by
        unfold Hid
        rw [HB.out, beq_eq_false_iff_ne.2 (fun h => h1 (.inl h)), beq_eq_false_iff_ne.2 (fun h => h1 (.inr h))]; simp
      have t1 : ((s[0].toNat : Int) != (p.toNat : Int)) = true := (u8_ne (fun h => h1 (.inl h))).1
      have t2 : ((s[0].toNat : Int) != (m.toNat : Int)) = true := (u8_ne (fun h => h1 (.inr h))).1
      clear h1
      go_enter Tryz.func133, Tryz.ntmps133
      go_wp2
      go_ret2
      exact HNO.out HZ.out
  · have HJ : Hid (sgnB (bl s) p m c = false) := by
      unfold Hid sgnB; rw [decide_eq_false (p := (bl s).length = c + 7) (by rw [bl_len]; exact hl)]; rfl
    have hne : ((s.size : Int) != (c : Int) + 7) = true := bne_iff_ne.2 (by omega)
    clear hl
    go_enter Tryz.func133, Tryz.ntmps133
    go_wp2
    go_ret2
    exact HNO.out HJ.out
end Go.Proofs.YteojggbmkppjoaaGreatDoor
namespace Go.Proofs.YteojggbmkppjoaaGreatDoor
open Go.RowKit
set_option linter.unusedVariables false
set_option linter.unusedSimpArgs false

end Go.Proofs.YteojggbmkppjoaaGreatDoor
namespace Go.Proofs.YteojggbmkppjoaaGreatDoor
open Go.RowKit
set_option linter.unusedVariables false
set_option linter.unusedSimpArgs false

theorem latB_ways (a : Int) : (Hid (latB a = true) ∧ -32400000 ≤ a ∧ a ≤ 32400000) ∨ (Hid (latB a = false) ∧ (a < -32400000 ∨ (-32400000 ≤ a ∧ 32400000 < a))) := by
  unfold latB Hid
  rcases Int.lt_or_le a (-32400000) with h | h
  · exact .inr ⟨by rw [decide_eq_false (p := -32400000 ≤ a) (by omega)]; rfl, .inl h⟩
  · rcases Int.lt_or_le 32400000 a with h2 | h2
    · exact .inr ⟨by rw [decide_eq_false (p := a ≤ 32400000) (by omega), Bool.and_false], .inr ⟨h, h2⟩⟩
    · exact .inl ⟨by rw [decide_eq_true h, decide_eq_true h2]; rfl, h, h2⟩
theorem lonB_ways (a : Int) : (Hid (lonB a = true) ∧ -64800000 < a ∧ a ≤ 64800000) ∨ (Hid (lonB a = false) ∧ (a ≤ -64800000 ∨ (-64800000 < a ∧ 64800000 < a))) := by
  unfold lonB Hid
  rcases Int.lt_or_le (-64800000) a with h | h
  · rcases Int.lt_or_le 64800000 a with h2 | h2
    · exact .inr ⟨by rw [decide_eq_false (p := a ≤ 64800000) (by omega), Bool.and_false], .inr ⟨h, h2⟩⟩
    · exact .inl ⟨by rw [decide_eq_true h, decide_eq_true h2]; rfl, h, h2⟩
  · exact .inr ⟨by rw [decide_eq_false (p := -64800000 < a) (by omega)]; rfl, .inl h⟩
set_option maxHeartbeats 400000 in
theorem isLat_any (a : Int) (w : World) : Calls Tryz.prog 86 #[.int .i64 a] w fun e w' => e = .returned (.bool (latB a)) ∧ w = w' := by
  rcases latB_ways a with ⟨hb, h1, h2⟩ | ⟨hb, h1 | ⟨h1, h2⟩⟩
  all_goals
    go_enter Tryz.func86, Tryz.ntmps86
    go_wp2
    go_ret
    exact ⟨ret_bool (by first | (rw [hb.out]; done) | (rw [hb.out]; exact decide_eq_false (by omega)) | (rw [hb.out]; exact decide_eq_true (by omega)) | exact hb.out.symm), rfl⟩
set_option maxHeartbeats 400000 in
theorem isLon_any (a : Int) (w : World) : Calls Tryz.prog 88 #[.int .i64 a] w fun e w' => e = .returned (.bool (lonB a)) ∧ w = w' := by
  rcases lonB_ways a with ⟨hb, h1, h2⟩ | ⟨hb, h1 | ⟨h1, h2⟩⟩
  all_goals
    go_enter Tryz.func88, Tryz.ntmps88
    go_wp2
    go_ret
    exact ⟨ret_bool (by first | (rw [hb.out]; done) | (rw [hb.out]; exact decide_eq_false (by omega)) | (rw [hb.out]; exact decide_eq_true (by omega)) | exact hb.out.symm), rfl⟩
def CoordPost (v er : Int) (w : World) (e : Ending) (w' : World) : Prop := e = .returned (.tuple #[.int .i64 v, .int .i64 er]) ∧ Drawn w w'
set_option maxHeartbeats 1000000 in
theorem parseLat_any (s : ByteArray) (w : World) (hs : s.size ≤ maxLen) : Calls Tryz.prog 113 #[.string s] w (CoordPost (latPV (bl s)) (latPErr (bl s)) w) := by
  have HP : Hid (∀ (v er : Int) w', latPErr (bl s) = er → latPV (bl s) = v → Drawn w w' → CoordPost (latPV (bl s)) (latPErr (bl s)) w (.returned (.tuple #[.int .i64 v, .int .i64 er])) w') := by
    intro v er w' h1 h2 h3; unfold CoordPost; rw [h1, h2]; exact ⟨rfl, h3⟩
  have HC := parse_any s 78 83 2 w (by decide) hs
  have HCC : Hid (∀ K : Ending → World → Prop, (∀ e w', SgnPost (bl s) 78 83 2 w e w' → K e w') → True) := fun _ _ => trivial
  clear HCC
  go_enter Tryz.func113, Tryz.ntmps113
  go_wp2_with fail
  refine HC.mono ?_
  rintro e w' ⟨rfl, k, rfl⟩
  clear HC
  show _
  have HS : Hid (latPErr (bl s) = if sgnB (bl s) 78 83 2 then (if latB (sgnV (bl s) 83 2) then 0 else 2) else 4) := rfl
  cases hb : sgnB (bl s) 78 83 2 with
  | false =>
    have HB := Lib.hid hb
    try rw [hb]
    clear hb
    simp only [Bool.false_eq_true, if_false]
    have h4 : Hid (latPErr (bl s) = 4) := by unfold Hid; rw [HS.out, HB.out]; rfl
    have hv : Hid (latPV (bl s) = 0) := by unfold Hid latPV; rw [h4.out]; rfl
    go_wp2
    go_ret2
    exact HP.out _ _ _ h4.out hv.out ⟨_, rfl⟩
  | true =>
    have HB := Lib.hid hb
    try rw [hb]
    clear hb
    simp only [if_true]
    obtain ⟨a, ha⟩ : ∃ a, sgnV (bl s) 83 2 = a := ⟨_, rfl⟩
    have HA := Lib.hid ha
    try rw [ha]
    clear ha
    rcases latB_ways a with ⟨hx, h1, h2⟩ | ⟨hx, h1 | ⟨h1, h2⟩⟩
    · have h4 : Hid (latPErr (bl s) = 0) := by unfold Hid; rw [HS.out, HB.out, HA.out, hx.out]; rfl
      have hv : Hid (latPV (bl s) = a) := by unfold Hid latPV; rw [h4.out]; exact HA.out
      go_wp2_with fail
      first
        | (refine (isLat_any a _).mono ?_; rintro e w' ⟨rfl, rfl⟩; rw [hx.out]; go_wp2; go_ret2)
        | go_ret2
      exact HP.out _ _ _ h4.out hv.out ⟨_, rfl⟩
    all_goals
      have h4 : Hid (latPErr (bl s) = 2) := by unfold Hid; rw [HS.out, HB.out, HA.out, hx.out]; rfl
      have hv : Hid (latPV (bl s) = 0) := by unfold Hid latPV; rw [h4.out]; rfl
      go_wp2_with fail
      first
        | (refine (isLat_any a _).mono ?_; rintro e w' ⟨rfl, rfl⟩; rw [hx.out]; go_wp2; go_ret2)
        | go_ret2
      exact HP.out _ _ _ h4.out hv.out ⟨_, rfl⟩
set_option maxHeartbeats 1000000 in
theorem parseLon_any (s : ByteArray) (w : World) (hs : s.size ≤ maxLen) : Calls Tryz.prog 114 #[.string s] w (CoordPost (lonPV (bl s)) (lonPErr (bl s)) w) := by
  have HP : Hid (∀ (v er : Int) w', lonPErr (bl s) = er → lonPV (bl s) = v → Drawn w w' → CoordPost (lonPV (bl s)) (lonPErr (bl s)) w (.returned (.tuple #[.int .i64 v, .int .i64 er])) w') := by
    intro v er w' h1 h2 h3; unfold CoordPost; rw [h1, h2]; exact ⟨rfl, h3⟩
  have HC := parse_any s 69 87 3 w (by decide) hs
  have HCC : Hid (∀ K : Ending → World → Prop, (∀ e w', SgnPost (bl s) 69 87 3 w e w' → K e w') → True) := fun _ _ => trivial
  clear HCC
  go_enter Tryz.func114, Tryz.ntmps114
  go_wp2_with fail
  refine HC.mono ?_
  rintro e w' ⟨rfl, k, rfl⟩
  clear HC
  show _
  have HS : Hid (lonPErr (bl s) = if sgnB (bl s) 69 87 3 then (if lonB (sgnV (bl s) 87 3) then 0 else 2) else 4) := rfl
  cases hb : sgnB (bl s) 69 87 3 with
  | false =>
    have HB := Lib.hid hb
    try rw [hb]
    clear hb
    simp only [Bool.false_eq_true, if_false]
    have h4 : Hid (lonPErr (bl s) = 4) := by unfold Hid; rw [HS.out, HB.out]; rfl
    have hv : Hid (lonPV (bl s) = 0) := by unfold Hid lonPV; rw [h4.out]; rfl
    go_wp2
    go_ret2
    exact HP.out _ _ _ h4.out hv.out ⟨_, rfl⟩
  | true =>
    have HB := Lib.hid hb
    try rw [hb]
    clear hb
    simp only [if_true]
    obtain ⟨a, ha⟩ : ∃ a, sgnV (bl s) 87 3 = a := ⟨_, rfl⟩
    have HA := Lib.hid ha
    try rw [ha]
    clear ha
    rcases lonB_ways a with ⟨hx, h1, h2⟩ | ⟨hx, h1 | ⟨h1, h2⟩⟩
    · have h4 : Hid (lonPErr (bl s) = 0) := by unfold Hid; rw [HS.out, HB.out, HA.out, hx.out]; rfl
      have hv : Hid (lonPV (bl s) = a) := by unfold Hid lonPV; rw [h4.out]; exact HA.out
      go_wp2_with fail
      first
        | (refine (isLon_any a _).mono ?_; rintro e w' ⟨rfl, rfl⟩; rw [hx.out]; go_wp2; go_ret2)
        | go_ret2
      exact HP.out _ _ _ h4.out hv.out ⟨_, rfl⟩
    all_goals
      have h4 : Hid (lonPErr (bl s) = 2) := by unfold Hid; rw [HS.out, HB.out, HA.out, hx.out]; rfl
      have hv : Hid (lonPV (bl s) = 0) := by unfold Hid lonPV; rw [h4.out]; rfl
      go_wp2_with fail
      first
        | (refine (isLon_any a _).mono ?_; rintro e w' ⟨rfl, rfl⟩; rw [hx.out]; go_wp2; go_ret2)
        | go_ret2
      exact HP.out _ _ _ h4.out hv.out ⟨_, rfl⟩
end Go.Proofs.YteojggbmkppjoaaGreatDoor
namespace Go.Proofs.YteojggbmkppjoaaGreatDoor
open Go.RowKit
set_option linter.unusedVariables false
set_option linter.unusedSimpArgs false

def PosPPost (l : List UInt8) (w : World) (e : Ending) (w' : World) : Prop := e = .returned (.tuple #[.agg #[.int .i64 (posPLat l), .int .i64 (posPLon l)], .int .i64 (posPErr l)]) ∧ Below w.heap.size w w'
set_option maxHeartbeats 2000000 in
theorem parsePos_any (s : ByteArray) (w : World) (hs : s.size ≤ maxLen) : Calls Tryz.prog 95 #[.string s] w (PosPPost (bl s) w) := by
  unfold maxLen at hs
  have HP : Hid (∀ (a b er : Int) w', posPErr (bl s) = er → posPLat (bl s) = a → posPLon (bl s) = b → Below w.heap.size w w' → PosPPost (bl s) w (.returned (.tuple #[.agg #[.int .i64 a, .int .i64 b], .int .i64 er])) w') := by
    intro a b er w' h1 h2 h3 h4; unfold PosPPost; rw [h1, h2, h3]; exact ⟨rfl, h4⟩
  have HZ : Hid (posPErr (bl s) ≠ 0 → posPLat (bl s) = 0 ∧ posPLon (bl s) = 0) := by
    intro h; unfold posPLat posPLon; rw [if_neg h, if_neg h]; exact ⟨rfl, rfl⟩
  by_cases hl : s.size = 19
  · have h19 : ((s.size : Int) != 19) = false := bne_eq_false_iff_eq.2 (by omega)
    have h9 : 9 ≤ s.size := by omega
    have h9' : (9 : Int) ≤ (s.size : Int) := by omega
    have HE : Hid (posPErr (bl s) = if latPErr ((bl s).take 9) = 0 then lonPErr ((bl s).drop 9) else latPErr ((bl s).take 9)) := by
      unfold Hid posPErr; rw [if_pos (show (bl s).length = 19 from hl)]
    have e1 : Hid (bl (s.extract 0 9) = (bl s).take 9) := by unfold Hid; rw [bl_extract]; rfl
    have e2 : Hid (bl (s.extract 9 s.size) = (bl s).drop 9) := by unfold Hid; rw [bl_extract, List.take_of_length_le (by rw [List.length_drop, bl_len]; omega)]
    have HLa : Hid (posPErr (bl s) = 0 → posPLat (bl s) = latPV ((bl s).take 9) ∧ posPLon (bl s) = lonPV ((bl s).drop 9)) := by
      intro h; unfold posPLat posPLon; rw [if_pos h, if_pos h]; exact ⟨rfl, rfl⟩
    clear hl
    go_enter Tryz.func95, Tryz.ntmps95
    go_wp2_with fail
    refine (parseLat_any _ _ (by rw [ByteArray.size_extract]; unfold maxLen; omega)).mono ?_
    rintro e w' ⟨rfl, k, rfl⟩
    rw [e1.out]
    obtain ⟨ea, hea⟩ : ∃ e, latPErr ((bl s).take 9) = e := ⟨_, rfl⟩
    obtain ⟨va, hva⟩ : ∃ v, latPV ((bl s).take 9) = v := ⟨_, rfl⟩
    rw [hea] at HE
    rw [hva] at HLa
    rw [hea, hva]
    clear hea hva
    by_cases h0 : ea = 0
    · have e3 : (ea != 0) = false := bne_eq_false_iff_eq.2 h0
      rw [if_pos h0] at HE
      have H0 := Lib.hid h0
      clear h0
      go_wp2_with fail
      refine (parseLon_any _ _ (by rw [ByteArray.size_extract]; unfold maxLen; omega)).mono ?_
      rintro e w' ⟨rfl, k2, rfl⟩
      rw [e2.out]
      obtain ⟨eb, heb⟩ : ∃ e, lonPErr ((bl s).drop 9) = e := ⟨_, rfl⟩
      obtain ⟨vb, hvb⟩ : ∃ v, lonPV ((bl s).drop 9) = v := ⟨_, rfl⟩
      rw [heb] at HE
      rw [hvb] at HLa
      rw [heb, hvb]
      clear heb hvb
      by_cases h0 : eb = 0
      · have e4 : (eb != 0) = false := bne_eq_false_iff_eq.2 h0
        have H1 := Lib.hid h0
        clear h0
        have HR := Lib.hid (HLa.out (HE.out.trans H1.out))
        have HE0 := Lib.hid (HE.out.trans H1.out)
        go_wp2
        exact bodyPost_ret (v := .tuple #[.agg #[.int .i64 va, .int .i64 vb], .int .i64 0]) (by simp [results, Tryz.results95, go_sem]) rfl (HP.out _ _ _ _ HE0.out HR.out.1 HR.out.2 (by repeat (first | exact Below.refl _ _ | refine Below.setCell ?_ (by simp) _ | refine below_drewN' ?_ _ | refine Below.alloc ?_ (by simp) _)))
      · have e4 : (eb != 0) = true := bne_iff_ne.2 h0
        have H1 := Lib.hid h0
        have HR := Lib.hid (HZ.out (by rw [HE.out]; exact h0))
        clear h0
        go_wp2
        exact bodyPost_ret (v := .tuple #[.agg #[.int .i64 0, .int .i64 0], .int .i64 eb]) (by simp [results, Tryz.results95, go_sem]) rfl (HP.out _ _ _ _ HE.out HR.out.1 HR.out.2 (by repeat (first | exact Below.refl _ _ | refine Below.setCell ?_ (by simp) _ | refine below_drewN' ?_ _ | refine Below.alloc ?_ (by simp) _)))
    · have e3 : (ea != 0) = true := bne_iff_ne.2 h0
      rw [if_neg h0] at HE
      have H0 := Lib.hid h0
      have HR := Lib.hid (HZ.out (by rw [HE.out]; exact h0))
      clear h0
      go_wp2
      exact bodyPost_ret (v := .tuple #[.agg #[.int .i64 0, .int .i64 0], .int .i64 ea]) (by simp [results, Tryz.results95, go_sem]) rfl (HP.out _ _ _ _ HE.out HR.out.1 HR.out.2 (by repeat (first | exact Below.refl _ _ | refine Below.setCell ?_ (by simp) _ | refine below_drewN' ?_ _ | refine Below.alloc ?_ (by simp) _)))
  · have h19 : ((s.size : Int) != 19) = true := bne_iff_ne.2 (by omega)
    have HE : Hid (posPErr (bl s) = 4) := by unfold Hid posPErr; rw [if_neg (show ¬ (bl s).length = 19 from hl)]
    clear hl
    go_enter Tryz.func95, Tryz.ntmps95
    have HR := Lib.hid (HZ.out (by rw [HE.out]; decide))
    go_wp2
    exact bodyPost_ret (v := .tuple #[.agg #[.int .i64 0, .int .i64 0], .int .i64 4]) (by simp [results, Tryz.results95, go_sem]) rfl (HP.out _ _ _ _ HE.out HR.out.1 HR.out.2 (by repeat (first | exact Below.refl _ _ | refine Below.setCell ?_ (by simp) _ | refine below_drewN' ?_ _ | refine Below.alloc ?_ (by simp) _)))
end Go.Proofs.YteojggbmkppjoaaGreatDoor
namespace Go.Proofs.YteojggbmkppjoaaGreatDoor
open Go.RowKit
set_option linter.unusedVariables false
set_option linter.unusedSimpArgs false
theorem fixD_front : ∀ (k n : Nat), fixD n (k + 1) = UInt8.ofNat (48 + n / 10 ^ k % 10) :: fixD n k
  | 0, n => by
    show fixD (n / 10) 0 ++ [UInt8.ofNat (48 + n % 10)] = _
    rw [Nat.pow_zero, Nat.div_one]; rfl
  | k + 1, n => by
    have h1 : fixD n (k + 1 + 1) = fixD (n / 10) (k + 1) ++ [UInt8.ofNat (48 + n % 10)] := rfl
    have h2 : fixD n (k + 1) = fixD (n / 10) k ++ [UInt8.ofNat (48 + n % 10)] := rfl
    rw [h1, fixD_front k (n / 10), h2, Nat.div_div_eq_div_mul, Nat.pow_succ, Nat.mul_comm 10 (10 ^ k)]; rfl
/-- the reference's minutes and seconds are the program's -/
theorem sexa_ref (a : Nat) : a / 6000 % 60 = a % 360000 / 6000 ∧ a / 100 % 60 = a % 6000 / 100 := by omega
theorem byteCells_app (a b : List UInt8) : Lib.byteCells (a ++ b) = Lib.byteCells a ++ Lib.byteCells b := by unfold Lib.byteCells; rw [List.map_append]
theorem byteCells_rep (n : Nat) : Lib.byteCells (List.replicate n 48) = List.replicate n (.int .u8 48) := by
  unfold Lib.byteCells; rw [List.map_replicate]; rfl
/-- the zeros, of which the last ones have been overwritten -/
def digMid (l : List UInt8) (N c j : Nat) : List UInt8 := l ++ (List.replicate (c - j) 48 ++ fixD N j)
theorem digMid_zero (l : List UInt8) (N c : Nat) : digMid l N c 0 = l ++ List.replicate c 48 := by unfold digMid fixD; simp
theorem digMid_full (l : List UInt8) (N c : Nat) : digMid l N c c = l ++ fixD N c := by unfold digMid; simp
theorem digMid_len (l : List UInt8) (N c j : Nat) (h : j ≤ c) : (digMid l N c j).length = l.length + c := by
  unfold digMid; rw [List.length_append, List.length_append, List.length_replicate, fixD_len]; omega
theorem set_rep (l t : List Value) (u v : Value) (m : Nat) : (l ++ (List.replicate (m + 1) u ++ t)).set (l.length + m) v = l ++ (List.replicate m u ++ v :: t) := by
  rw [List.set_append_right _ _ (by omega), show l.length + m - l.length = m by omega]
  congr 1
  rw [List.replicate_succ', List.append_assoc, List.set_append_right _ _ (by rw [List.length_replicate]; exact Nat.le_refl _), List.length_replicate, Nat.sub_self]
  rfl
theorem digMid_set (l : List UInt8) (N c j m : Nat) (hm : c - j = m + 1) : (Lib.byteCells (digMid l N c j)).set (l.length + m) (.int .u8 (48 + ((N / 10 ^ j : Nat) : Int) % 10)) = Lib.byteCells (digMid l N c (j + 1)) := by
  unfold digMid
  rw [fixD_front, show c - (j + 1) = m by omega, hm, byteCells_app, byteCells_app, byteCells_app, byteCells_app, byteCells_rep, byteCells_rep]
  have hl : (Lib.byteCells l).length = l.length := by unfold Lib.byteCells; rw [List.length_map]
  have := set_rep (Lib.byteCells l) (Lib.byteCells (fixD N j)) (.int .u8 48) (.int .u8 (48 + ((N / 10 ^ j : Nat) : Int) % 10)) m
  rw [hl] at this
  rw [this]
  congr 2
  show _ = Value.int .u8 (((UInt8.ofNat (48 + N / 10 ^ j % 10)).toNat : Nat) : Int) :: _
  rw [digit_toNat (Nat.mod_lt _ (by decide))]
  congr 2
/-- a row of bytes as a string -/
theorem push_list (l : List UInt8) : ∀ s : ByteArray, ((l.map fun c => (c.toNat : Int)).foldl (fun r n => r.push (UInt8.ofNat n.toNat)) s) = ⟨s.data ++ l.toArray⟩ := by
  induction l with
  | nil => intro s; cases s; simp
  | cons c l ih =>
    intro s
    rw [List.map_cons, List.foldl_cons, ih, Int.toNat_natCast, UInt8.ofNat_toNat]
    cases s
    simp [ByteArray.push]
theorem string_own {base : Nat} {w : World} {v : Value} {l : List UInt8} {n : Nat} (h : w.ownsRow base 5 1 v n (Lib.byteCells l)) (hn : 0 < n) : (convert 91 9 v).run Tryz.prog w = .ok (.string (sb l)) w := by
  have hcs := @World.ownsRow.cells _ _ _ _ _ _ _ h
  obtain ⟨hl, ⟨rfl, rfl⟩ | ⟨g, cap, cur, rfl, hb, hh, hnc, hm, hs, ht⟩⟩ := h
  · omega
  have hlen : (Lib.byteCells l).length = n := by rw [hl]; omega
  have e1 : Lib.byteCells l = (l.map fun c => (c.toNat : Int)).map (Value.int .u8) := by unfold Lib.byteCells; rw [List.map_map]; rfl
  have hload := run_loadCells_list (P := Tryz.prog) (w := w) ⟨g, 0, none⟩ (Lib.byteCells l) (fun j u hu => hcs (g := g) rfl j u hu)
  rw [hlen] at hload
  refine (run_convert_bytes_string w _ _ _ _ _ _ Tryz.underlying91 Tryz.underlying5 Tryz.underlying9).trans ?_
  rw [run_bytesToString w _ n cap _ (by rw [hload, e1]), push_list]
  unfold sb; simp
end Go.Proofs.YteojggbmkppjoaaGreatDoor
namespace Go.Proofs.YteojggbmkppjoaaGreatDoor
open Go.RowKit
set_option linter.unusedVariables false
set_option linter.unusedSimpArgs false

theorem infoU8 : (Tryz.prog.info? 5).map (fun i => (i.zero, i.size, i.bytes)) = some (some (.int .u8 0), 1, 1) := by kernel_rfl
/-- a row of bytes, of blocks from base on -/
def ByR (w : World) (base : Nat) (v : Value) (l : List UInt8) : Prop := w.ownsRow base 5 1 v l.length (Lib.byteCells l)
def ByPost (base : Nat) (l : List UInt8) (w : World) (e : Ending) (w' : World) : Prop := ∃ v', e = .returned v' ∧ ByR w' base v' l ∧ Below base w w'
theorem own_mk {w : World} {base n : Nat} {v : Value} {l : List UInt8} (h : w.ownsRow base 5 1 v n (Lib.byteCells l)) : ByR w base v l := by
  have : n = l.length := by
    have := h.1
    unfold Lib.byteCells at this
    rw [List.length_map] at this
    omega
  subst this
  exact h
/-- one zero is appended -/
theorem dig_step {base : Nat} {w0 wr w' : World} {v v' : Value} {l : List UInt8} {o : Obj} {n : Nat}
    (hlt : ∀ k, v.ownBlock = some k → base ≤ k ∧ k < wr.heap.size) (hb : Below base w0 wr) (hown' : w'.ownsRow base 5 1 v' (n + 1) (Lib.byteCells l ++ [.int .u8 48])) (hg : (wr.alloc o).grownBy w' v.ownBlock) (hB : base ≤ wr.heap.size) :
    ByR w' base v' (l ++ [48]) ∧ Below base w0 w' := by
  refine ⟨own_mk (n := n + 1) (by rw [byteCells_app]; exact hown'), (hb.alloc hB o).grown hg (by simp; omega) (fun k hk => (hlt k hk).1)⟩
theorem rep_snoc (l : List UInt8) (k : Nat) : (l ++ List.replicate k 48) ++ [48] = l ++ List.replicate (k + 1) (48 : UInt8) := by
  rw [List.append_assoc, ← List.replicate_succ']
theorem ByR.slice {w : World} {base : Nat} {v : Value} {l : List UInt8} (h : ByR w base v l) (hl : l ≠ []) : ∃ g c, v = .slice (some ⟨g, 0, none⟩) l.length c ∧ base ≤ g ∧ g < w.heap.size ∧ l.length ≤ c ∧ c ≤ maxLen := by
  have hlt := h.lt
  obtain ⟨_, ⟨rfl, h0⟩ | ⟨g, cap, cur, rfl, hb, hh, hn, hm, _⟩⟩ := h
  · exact absurd (List.eq_nil_of_length_eq_zero h0) hl
  · exact ⟨g, cap, rfl, hb, (hlt g rfl).2, hn, hm⟩
theorem ByR.len {w : World} {base : Nat} {v : Value} {l : List UInt8} (h : ByR w base v l) : ∃ A c, v = .slice A l.length c ∧ l.length ≤ c ∧ c ≤ maxLen := by
  obtain ⟨_, ⟨rfl, h0⟩ | ⟨g, cap, cur, rfl, hb, hh, hn, hm, _⟩⟩ := h
  · rw [h0]; exact ⟨_, _, rfl, Nat.le_refl _, by unfold maxLen; omega⟩
  · exact ⟨_, _, rfl, hn, hm⟩
/-- one digit is stored -/
theorem put_step {base : Nat} {w0 w : World} {g cap N c j m L : Nat} {l : List UInt8} (hL : l.length = L) (hj : j < c) (hm : c - j = m + 1)
    (h : ByR w base (.slice (some ⟨g, 0, none⟩) (L + c) cap) (digMid l N c j)) (hb : Below base w0 w) (hg : base ≤ g) :
    (∃ x, w.cell? ⟨g, L + m, none⟩ = some (.int .u8 x)) ∧ w.frozen? ⟨g, L + m, none⟩ = false ∧
    ByR (w.setCell ⟨g, L + m, none⟩ (.int .u8 (48 + ((N / 10 ^ j : Nat) : Int) % 10))) base (.slice (some ⟨g, 0, none⟩) (L + c) cap) (digMid l N c (j + 1)) ∧
      Below base w0 (w.setCell ⟨g, L + m, none⟩ (.int .u8 (48 + ((N / 10 ^ j : Nat) : Int) % 10))) := by
  subst hL
  have h' : w.ownsRow base 5 1 (.slice (some ⟨g, 0, none⟩) (l.length + c) cap) (l.length + c) (Lib.byteCells (digMid l N c j)) := by
    have := h
    unfold ByR at this
    rw [digMid_len l N c j (by omega)] at this
    exact this
  have hs := (h'.stored (l.length + m) (.int .u8 (48 + ((N / 10 ^ j : Nat) : Int) % 10))).1
  rw [digMid_set l N c j m hm] at hs
  have hlt : l.length + m < (digMid l N c j).length := by rw [digMid_len l N c j (by omega)]; omega
  refine ⟨⟨((digMid l N c j)[l.length + m]'hlt).toNat, ?_⟩, h'.frozenAt _, own_mk hs, hb.setCell (p := ⟨g, l.length + m, none⟩) hg _⟩
  rw [h'.cellAt (l.length + m) (by omega)]
  unfold Lib.byteCells
  rw [List.getElem?_map, List.getElem?_eq_getElem hlt]; rfl
set_option maxRecDepth 100000 in
set_option maxHeartbeats 2000000 in
theorem digits_row (v : Value) (l : List UInt8) (N c base : Nat) (w : World) (hc : c ≤ 4) (hc0 : 0 < c) (hl : l.length ≤ 40) (hN : N < 1000000000000) (hown : ByR w base v l) (hB : base ≤ w.heap.size) :
    Calls Tryz.prog 128 #[v, .int .i64 (N : Int), .int .i64 (c : Int)] w (ByPost base (l ++ fixD N c) w) := by
  obtain ⟨i0, hi, hz0, hz1, hz2⟩ := info_parts infoU8
  obtain ⟨A, cp, rfl, hcp, hcm⟩ := hown.len
  unfold maxLen at hcm
  obtain ⟨L, hL⟩ : ∃ L, l.length = L := ⟨_, rfl⟩
  have HL := Lib.hid hL
  have H0 : Hid (ByR w base (.slice A l.length cp) l) := hown
  rw [hL] at hcp hl ⊢
  clear hown hL
  have hci : (c : Int) ≤ 4 := by omega
  go_enter Tryz.func128, Tryz.ntmps128
  go_wp2
  go_loopw [0, 12] (fun b i wr => ∃ k : Nat, k ≤ c ∧ i = .int .i64 k ∧ Hid (ByR wr base b (l ++ List.replicate k 48)) ∧ Below base w wr) (fun _ i _ => c - (intOf i).toNat)
  case atStart => exact ⟨0, Nat.zero_le _, rfl, by unfold Hid; rw [List.replicate_zero, List.append_nil, ← HL.out]; exact H0.out, Below.refl _ _⟩
  case round =>
    obtain ⟨k, hk, rfl, hby, hbr⟩ := hrel
    have hBr : base ≤ wr.heap.size := Nat.le_trans hB hbr.size
    have hlen : (l ++ List.replicate k (48 : UInt8)).length = L + k := by rw [List.length_append, List.length_replicate, HL.out]
    by_cases hlt : k < c
    · have hown : wr.ownsRow base 5 1 u0 (L + k) (Lib.byteCells (l ++ List.replicate k 48)) := by
        have := hby.out
        unfold ByR at this
        rwa [hlen] at this
      have hlo := hown.lt
      clear hlen hby
      go_wp2_with (at_builtin; refine wpList_append_own _ rfl _ _ 91 rfl base 5 i0 (.int .u8 0) 1 1 Tryz.underlying91 hi hz0 hz1 hz2 rfl (by decide) _ _ _ rfl (hown.alloc _) ⟨wr.heap.size, 0, none⟩ 1 1 [.int .u8 48] rfl rfl ?c1 ?c2 ?c3 ?c4 ?c5 ?_)
      case c1 => intro j u hu; cases j with
        | zero => simp only [List.getElem?_cons_zero, Option.some.injEq] at hu; subst hu; simp [go_sem]
        | succ j => simp at hu
      case c2 => intro u hu; simp at hu; subst hu; rfl
      case c3 => unfold maxLen; omega
      case c4 => omega
      case c5 => simp; omega
      intro v' w' hown' hgrow _
      have R := dig_step hlo hbr hown' hgrow hBr
      rw [rep_snoc] at R
      have R1 := Lib.hid R.1
      have R2 := R.2
      clear R hown hown' hgrow hlo
      go_wp2
      go_roundw
      case rel => exact ⟨k + 1, hlt, by go_num, R1.out, R2⟩
      case measure => simp [intOf]; omega
    · obtain rfl : k = c := by omega
      obtain ⟨g, cap, hv, hbg, hgs, hcap, hcm2⟩ := hby.out.slice (by rw [← List.length_pos_iff]; omega)
      rw [hlen] at hv hcap
      unfold maxLen at hcm2
      subst hv
      have HM : Hid (ByR wr base (.slice (some ⟨g, 0, none⟩) (l.length + k) cap) (digMid l N k 0)) := by
        unfold Hid; rw [digMid_zero, HL.out]; exact hby.out
      clear hlen hby
      go_wp2_with fail
      obtain ⟨wo, rfl⟩ : ∃ wo : World, wo = wr := ⟨_, rfl⟩
      go_loopw [1, 8] (fun q i wr => ∃ (j m : Nat) (x : Int) (y : Nat), j + m = k ∧ i = .int .i64 x ∧ x + 1 = (L : Int) + (m : Int) ∧ q = .int .i64 (y : Int) ∧ Hid (N / 10 ^ j = y) ∧ Hid (ByR wr base (.slice (some ⟨g, 0, none⟩) (L + k) cap) (digMid l N k j)) ∧ Below base w wr) (fun _ i _ => ((intOf i) + 1 - L).toNat)
      case atStart => exact ⟨0, k, (L : Int) + (k : Int) - 1, N, by omega, by first | rfl | go_num, by omega, rfl, by unfold Hid; simp, by have := HM.out; rw [HL.out] at this; exact this, hbr⟩
      case round =>
        obtain ⟨j, m, x, y, hjm, rfl, hx, rfl, hy, hby, hbr2⟩ := hrel
        have hyb : y < 1000000000000 := by rw [← hy.out]; exact Nat.lt_of_le_of_lt (Nat.div_le_self _ _) hN
        rcases Nat.eq_zero_or_pos m with hm | hm
        · have hjk : j = k := by omega
          subst hjk
          have hxL : x < (L : Int) := by omega
          clear hx hm hjm
          go_wp2
          go_ret
          refine ⟨_, rfl, ?_, hbr2⟩
          have := hby.out
          rw [digMid_full] at this
          exact this
        · obtain ⟨p, rfl⟩ : ∃ p, m = p + 1 := ⟨m - 1, by omega⟩
          obtain rfl : x = ((L + p : Nat) : Int) := by omega
          obtain ⟨⟨u, hcell⟩, hfz, P1, P2⟩ := put_step HL.out (show j < k by omega) (show k - j = p + 1 by omega) hby.out hbr2 hbg
          rw [hy.out] at P1 P2
          have HP1 := Lib.hid P1
          have HP2 := Lib.hid P2
          have HJ := Lib.hid hjm
          have hlo : (L : Int) ≤ ((L + p : Nat) : Int) := by omega
          have hhi : ((L + p : Nat) : Int) < ((L + k : Nat) : Int) := by omega
          have hyd : y / 10 = N / 10 ^ (j + 1) := by rw [Nat.pow_succ, ← Nat.div_div_eq_div_mul, hy.out]
          have HYD := Lib.hid hyd
          clear P1 P2 hby hx hm hjm hyd
          go_wp2
          go_roundw
          case rel => exact ⟨j + 1, p, _, y / 10, by have := HJ.out; omega, rfl, by omega, by go_num, HYD.out.symm, HP1.out, HP2.out⟩
          case measure => simp [intOf]; omega

theorem ByPost.next {base : Nat} {l : List UInt8} {w w1 : World} {e : Ending} {w2 : World} (h : ByPost base l w1 e w2) (hb : Below base w w1) : ByPost base l w e w2 := by
  obtain ⟨v, he, hr, hb2⟩ := h
  exact ⟨v, he, hr, hb.trans hb2⟩
set_option maxRecDepth 100000 in
set_option maxHeartbeats 1000000 in
theorem split_row (v : Value) (l : List UInt8) (N c base : Nat) (w : World) (hc : c ≤ 3) (hc0 : 0 < c) (hl : l.length ≤ 20) (hN : N < 1000000000) (hown : ByR w base v l) (hB : base ≤ w.heap.size) :
    Calls Tryz.prog 106 #[v, .int .i64 (N : Int), .int .i64 (c : Int)] w (ByPost base (l ++ sexa N c) w) := by
  have q1 := Lib.hid (show (N : Int) / 360000 = ((N / 360000 : Nat) : Int) by omega)
  have q2 := Lib.hid (show (N : Int) % 360000 / 6000 = ((N % 360000 / 6000 : Nat) : Int) by omega)
  have q3 := Lib.hid (show (N : Int) % 6000 / 100 = ((N % 6000 / 100 : Nat) : Int) by omega)
  have q4 := Lib.hid (show (N : Int) % 100 = ((N % 100 : Nat) : Int) by omega)
  have d1 : N / 360000 < 1000000000000 := by omega
  have d2 : N % 360000 / 6000 < 1000000000000 := by omega
  have d3 : N % 6000 / 100 < 1000000000000 := by omega
  have d4 : N % 100 < 1000000000000 := by omega
  have HO := Lib.hid hown
  clear hown
  go_enter Tryz.func106, Tryz.ntmps106
  go_wp2_with fail
  rw [q1.out]
  refine (digits_row _ l _ c base _ (by omega) hc0 (by omega) d1 HO.out hB).mono ?_
  rintro e w1 ⟨v1, rfl, hr1, hb1⟩
  have R1 := Lib.hid hr1
  clear hr1
  go_wp2_with fail
  rw [q2.out]
  refine (digits_row _ _ _ 2 base _ (by omega) (by omega) (by rw [List.length_append, fixD_len]; omega) d2 R1.out (Nat.le_trans hB hb1.size)).mono ?_
  rintro e w2 ⟨v2, rfl, hr2, hb2⟩
  have R2 := Lib.hid hr2
  have hb02 := hb1.trans hb2
  clear hr2 hb1 hb2 R1
  go_wp2_with fail
  rw [q3.out]
  refine (digits_row _ _ _ 2 base _ (by omega) (by omega) (by rw [List.length_append, List.length_append, fixD_len, fixD_len]; omega) d3 R2.out (Nat.le_trans hB hb02.size)).mono ?_
  rintro e w3 ⟨v3, rfl, hr3, hb3⟩
  have R3 := Lib.hid hr3
  have hb03 := hb02.trans hb3
  clear hr3 hb02 hb3 R2
  go_wp2_with fail
  rw [q4.out]
  refine (digits_row _ _ _ 2 base _ (by omega) (by omega) (by rw [List.length_append, List.length_append, List.length_append, fixD_len, fixD_len, fixD_len]; omega) d4 R3.out (Nat.le_trans hB hb03.size)).mono ?_
  rintro e w4 ⟨v4, rfl, hr4, hb4⟩
  have hb04 := hb03.trans hb4
  have R4 : Hid (ByR w4 base v4 (l ++ sexa N c)) := by
    unfold Hid sexa
    simpa only [List.append_assoc] using hr4
  clear hr4 hb03 hb4 R3
  go_wp2
  go_ret
  exact ⟨v4, rfl, R4.out, hb04⟩
set_option maxRecDepth 100000 in
set_option maxHeartbeats 1000000 in
theorem signed_any (a : Int) (p m : UInt8) (c : Nat) (w : World) (hc : c ≤ 3) (hc0 : 0 < c) (ha : a.natAbs < 1000000000) :
    Calls Tryz.prog 87 #[.int .i64 a, .int .u8 (p.toNat : Int), .int .u8 (m.toNat : Int), .int .i64 (c : Int)] w (StrPost (sgnText a p m c) w) := by
  by_cases h0 : a < 0
  · obtain ⟨N, hN⟩ : ∃ N : Nat, -a = (N : Int) := ⟨a.natAbs, by omega⟩
    have HT : Hid (sgnText a p m c = m :: sexa N c) := by unfold Hid sgnText; rw [if_pos h0, hN, Int.toNat_natCast]
    have HNb : N < 1000000000 := by omega
    have hN' := Lib.hid hN
    have ha1 : -1000000000 < a := by omega
    clear hN ha
    go_enter Tryz.func87, Tryz.ntmps87
    go_wp2_with fail
    rw [hN'.out]
    refine (split_row _ [m] N c w.heap.size _ hc hc0 (by simp) HNb (World.ownsRow_lit w #[.int .u8 (m.toNat : Int)] 1 (Nat.le_refl _) (by unfold maxLen; omega) rfl) (by simp)).mono ?_
    rintro e w1 ⟨v, rfl, hr, hb⟩
    have hcv := string_own hr (by simp)
    have hb' := ((Below.refl _ _).alloc (Nat.le_refl _) _).trans hb
    clear hr hb
    go_wp2
    go_ret
    exact ⟨_, rfl, by unfold Hid; rw [HT.out]; rfl, hb'⟩
  · obtain ⟨N, rfl⟩ : ∃ N : Nat, a = (N : Int) := ⟨a.natAbs, by omega⟩
    have HT : Hid (sgnText (N : Int) p m c = p :: sexa N c) := by unfold Hid sgnText; rw [if_neg h0, Int.toNat_natCast]
    have HNb : N < 1000000000 := by omega
    clear h0 ha
    go_enter Tryz.func87, Tryz.ntmps87
    go_wp2_with fail
    refine (split_row _ [p] N c w.heap.size _ hc hc0 (by simp) HNb (World.ownsRow_lit w #[.int .u8 (p.toNat : Int)] 1 (Nat.le_refl _) (by unfold maxLen; omega) rfl) (by simp)).mono ?_
    rintro e w1 ⟨v, rfl, hr, hb⟩
    have hcv := string_own hr (by simp)
    have hb' := ((Below.refl _ _).alloc (Nat.le_refl _) _).trans hb
    clear hr hb
    go_wp2
    go_ret
    exact ⟨_, rfl, by unfold Hid; rw [HT.out]; rfl, hb'⟩
end Go.Proofs.YteojggbmkppjoaaGreatDoor
namespace Go.Proofs.YteojggbmkppjoaaGreatDoor
open Go.RowKit
set_option linter.unusedVariables false
set_option linter.unusedSimpArgs false

theorem replicate_cells (c : UInt8) (w : World) (C : Nat) : (convert 91 9 (.slice (some ⟨w.heap.size, 0, none⟩) 1 1)).run Tryz.prog (w.alloc (.cells #[.int .u8 (c.toNat : Int)] 5)) = .ok (.string (sb [c])) (w.alloc (.cells #[.int .u8 (c.toNat : Int)] 5)) :=
  string_own (base := w.heap.size) (l := [c]) (n := 1) (World.ownsRow_lit w #[.int .u8 (c.toNat : Int)] 1 (Nat.le_refl _) (by unfold maxLen; omega) rfl) (by decide)
theorem StrPost.size {l : List UInt8} {t : ByteArray} (h : bl t = l) : t.size = l.length := by rw [← bl_len, h]
/-- LatText, LonText -/
def AngTPost (l : List UInt8) (er : Int) (w : World) (e : Ending) (w' : World) : Prop := ∃ t : ByteArray, e = .returned (.tuple #[.string t, .int .i64 er]) ∧ Hid (bl t = l) ∧ Below w.heap.size w w'
set_option maxHeartbeats 1000000 in
theorem latText_any (a : Int) (w : World) : Calls Tryz.prog 58 #[.int .i64 a] w (AngTPost (latOut a) (if latB a then 0 else 2) w) := by
  cases h : latB a
  · have HO : Hid (latOut a = []) := by unfold Hid latOut; rw [h]; rfl
    have H := Lib.hid h
    clear h
    go_enter Tryz.func58, Tryz.ntmps58
    go_wp2_with fail
    refine (isLat_any a _).mono ?_
    rintro e w1 ⟨rfl, rfl⟩
    rw [H.out]
    go_wp2
    go_ret2
    exact ⟨_, rfl, HO.out.symm ▸ rfl, Below.refl _ _⟩
  · have hb := h
    unfold latB at hb
    rw [Bool.and_eq_true, decide_eq_true_iff, decide_eq_true_iff] at hb
    have hnb : a.natAbs < 1000000000 := by omega
    have HO : Hid (latOut a = sgnText a 78 83 2) := by unfold Hid latOut; rw [h]; rfl
    have H := Lib.hid h
    clear h hb
    go_enter Tryz.func58, Tryz.ntmps58
    go_wp2_with fail
    refine (isLat_any a _).mono ?_
    rintro e w1 ⟨rfl, rfl⟩
    rw [H.out]
    go_wp2_with fail
    refine (signed_any a 78 83 2 _ (by omega) (by omega) hnb).mono ?_
    rintro e w1 ⟨t, rfl, ht, hb⟩
    go_wp2
    go_ret2
    exact ⟨t, rfl, by unfold Hid; rw [HO.out]; exact ht.out, hb⟩
set_option maxHeartbeats 1000000 in
theorem lonText_any (a : Int) (w : World) : Calls Tryz.prog 59 #[.int .i64 a] w (AngTPost (lonOut a) (if lonB a then 0 else 2) w) := by
  cases h : lonB a
  · have HO : Hid (lonOut a = []) := by unfold Hid lonOut; rw [h]; rfl
    have H := Lib.hid h
    clear h
    go_enter Tryz.func59, Tryz.ntmps59
    go_wp2_with fail
    refine (isLon_any a _).mono ?_
    rintro e w1 ⟨rfl, rfl⟩
    rw [H.out]
    go_wp2
    go_ret2
    exact ⟨_, rfl, HO.out.symm ▸ rfl, Below.refl _ _⟩
  · have hb := h
    unfold lonB at hb
    rw [Bool.and_eq_true, decide_eq_true_iff, decide_eq_true_iff] at hb
    have hnb : a.natAbs < 1000000000 := by omega
    have HO : Hid (lonOut a = sgnText a 69 87 3) := by unfold Hid lonOut; rw [h]; rfl
    have H := Lib.hid h
    clear h hb
    go_enter Tryz.func59, Tryz.ntmps59
    go_wp2_with fail
    refine (isLon_any a _).mono ?_
    rintro e w1 ⟨rfl, rfl⟩
    rw [H.out]
    go_wp2_with fail
    refine (signed_any a 69 87 3 _ (by omega) (by omega) hnb).mono ?_
    rintro e w1 ⟨t, rfl, ht, hb⟩
    go_wp2
    go_ret2
    exact ⟨t, rfl, by unfold Hid; rw [HO.out]; exact ht.out, hb⟩

set_option maxHeartbeats 1000000 in
theorem posText_any (a b : Int) (w : World) : Calls Tryz.prog 29 #[.agg #[.int .i64 a, .int .i64 b]] w (AngTPost (posOut a b) (posErr a b) w) := by
  have HOK : Hid (posB a b = true → posOut a b = latOut a ++ lonOut b ∧ posErr a b = 0) := by
    intro h; unfold posOut posErr; rw [if_pos h, if_pos h]; exact ⟨rfl, rfl⟩
  have HNO : Hid (posB a b = false → posOut a b = [] ∧ posErr a b = 2) := by
    intro h; unfold posOut posErr; rw [h]; exact ⟨rfl, rfl⟩
  have HFOK : Hid (posB a b = true → ∀ (t u : ByteArray) w', bl t = latOut a → bl u = lonOut b → Below w.heap.size w w' → AngTPost (posOut a b) (posErr a b) w (.returned (.tuple #[.string (t ++ u), .int .i64 0])) w') := by
    intro h t u w' ht hu hb; refine ⟨_, by rw [(HOK.out h).2], ?_, hb⟩; unfold Hid; rw [(HOK.out h).1, bl_append, ht, hu]
  have HFNO : Hid (posB a b = false → ∀ w', Below w.heap.size w w' → AngTPost (posOut a b) (posErr a b) w (.returned (.tuple #[.string ⟨#[]⟩, .int .i64 2])) w') := by
    intro h w' hb; refine ⟨_, by rw [(HNO.out h).2], ?_, hb⟩; unfold Hid; rw [(HNO.out h).1]; rfl
  have l1 : (latOut a).length ≤ 9 := by unfold latOut; split <;> first | (rw [sgnText_len]; omega) | simp
  have l2 : (lonOut b).length ≤ 10 := by unfold lonOut; split <;> first | (rw [sgnText_len]; omega) | simp
  cases h1 : latB a <;> cases h2 : lonB b
  all_goals
    have H1 := Lib.hid h1
    have H2 := Lib.hid h2
    clear h1 h2
    go_enter Tryz.func29, Tryz.ntmps29
    go_wp2_with fail
    refine (latText_any a _).mono ?_
    rintro e w1 ⟨t, rfl, ht, hb1⟩
    rw [H1.out]
    have c1 : w1.cell? ⟨w.heap.size, 1, none⟩ = some (.int .i64 b) := (hb1.cell (p := ⟨w.heap.size, 1, none⟩) (by simp)).trans (by simp [go_sem])
    have z1 : w.heap.size < w1.heap.size := by have := hb1.size; simp at this; omega
    have hts : t.size ≤ 9 := by rw [StrPost.size ht.out]; exact l1
    go_wp2_with fail
    refine (lonText_any b _).mono ?_
    rintro e w2 ⟨u, rfl, hu, hb2⟩
    rw [H2.out]
    have hus : u.size ≤ 10 := by rw [StrPost.size hu.out]; exact l2
    have HB := Lib.hid ((((Below.refl w.heap.size w).alloc (Nat.le_refl _) (.cells #[.int .i64 a, .int .i64 b] 24)).trans (hb1.mono (by simp))).trans (hb2.mono (by omega)))
    clear hb1 hb2 c1 z1
    go_wp2
    go_ret2
    first
      | exact HFOK.out (by unfold posB; rw [H1.out, H2.out]; rfl) _ _ _ ht.out hu.out HB.out
      | exact HFNO.out (by unfold posB; rw [H1.out, H2.out]; rfl) _ HB.out
end Go.Proofs.YteojggbmkppjoaaGreatDoor
