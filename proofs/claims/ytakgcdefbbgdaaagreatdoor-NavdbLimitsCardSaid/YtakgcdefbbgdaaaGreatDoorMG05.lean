/-
  Several texts as one.
  Plain laws: texts of latitudes, longitudes and positions, and what such a text means.
  Contracts: the number that digits mean, on both sides.
  Contracts: the angle of degrees, minutes, seconds and hundredths, on both sides.
  Plain laws: digits from the front; bytes in a row of the call's own; the string of bytes.
-/
import Derived.Test.YtakgcdefbbgdaaaGreatDoorBase
import Derived.IntWalk
import Derived.Laws.BytesString
import Derived.Laws.Cells
import Derived.Laws.OwnMore
import Derived.Deep.OwnRows
namespace Go.Proofs.YtakgcdefbbgdaaaGreatDoor
open Go.RowKit
set_option linter.unusedVariables false
set_option linter.unusedSimpArgs false

/-- so many digits of a number -/
def fixD (n : Nat) : Nat → List UInt8
  | 0 => []
  | c + 1 => fixD (n / 10) c ++ [UInt8.ofNat (48 + n % 10)]
def digC (c : UInt8) : Bool := decide (48 ≤ c.toNat) && decide (c.toNat ≤ 57)
def numV (l : List UInt8) : Nat := l.foldl (fun n c => 10 * n + (c.toNat - 48)) 0
theorem fixD_len : ∀ (c n : Nat), (fixD n c).length = c
  | 0, n => rfl
  | c + 1, n => by unfold fixD; rw [List.length_append, fixD_len c]; rfl
theorem digit_toNat {n : Nat} (h : n < 10) : (UInt8.ofNat (48 + n)).toNat = 48 + n := by
  simp; omega
theorem digC_digit {n : Nat} (h : n < 10) : digC (UInt8.ofNat (48 + n)) = true := by
  unfold digC; rw [digit_toNat h, decide_eq_true (by omega), decide_eq_true (by omega)]; rfl
theorem fixD_dig : ∀ (c n : Nat), (fixD n c).all digC = true
  | 0, n => rfl
  | c + 1, n => by
    unfold fixD
    rw [List.all_append, fixD_dig c, Bool.true_and]
    show (digC _ && true) = true
    rw [Bool.and_true]
    exact digC_digit (Nat.mod_lt _ (by decide))
theorem numV_snoc (l : List UInt8) (c : UInt8) : numV (l ++ [c]) = 10 * numV l + (c.toNat - 48) := by unfold numV; rw [List.foldl_append]; rfl
theorem numV_fixD : ∀ (c n : Nat), n < 10 ^ c → numV (fixD n c) = n
  | 0, n, h => by
    have : n = 0 := by simpa using h
    subst this; rfl
  | c + 1, n, h => by
    unfold fixD
    rw [numV_snoc, numV_fixD c (n / 10) (by rw [Nat.pow_succ] at h; omega), digit_toNat (Nat.mod_lt _ (by decide))]
    omega
theorem fold_lt : ∀ (l : List UInt8) (acc : Nat), l.all digC = true → l.foldl (fun n c => 10 * n + (c.toNat - 48)) acc + 1 ≤ (acc + 1) * 10 ^ l.length
  | [], acc, _ => by simp
  | c :: l, acc, h => by
    rw [List.all_cons, Bool.and_eq_true] at h
    have h2 := h.1
    unfold digC at h2
    rw [Bool.and_eq_true, decide_eq_true_iff, decide_eq_true_iff] at h2
    rw [List.foldl_cons, List.length_cons]
    refine Nat.le_trans (fold_lt l _ h.2) ?_
    rw [Nat.pow_succ, Nat.mul_comm (10 ^ l.length) 10, ← Nat.mul_assoc]
    exact Nat.mul_le_mul_right _ (by omega)
theorem numV_lt (l : List UInt8) (h : l.all digC = true) : numV l < 10 ^ l.length := by
  have := fold_lt l 0 h
  unfold numV
  omega
/-- degrees in so many digits, minutes, seconds and hundredths -/
def sexa (a : Nat) (c : Nat) : List UInt8 := fixD (a / 360000) c ++ fixD (a % 360000 / 6000) 2 ++ fixD (a % 6000 / 100) 2 ++ fixD (a % 100) 2
theorem sexa_len (a c : Nat) : (sexa a c).length = c + 6 := by
  unfold sexa; rw [List.length_append, List.length_append, List.length_append, fixD_len, fixD_len, fixD_len, fixD_len]
theorem sexa_dig (a c : Nat) : (sexa a c).all digC = true := by
  unfold sexa; rw [List.all_append, List.all_append, List.all_append, fixD_dig, fixD_dig, fixD_dig, fixD_dig]; rfl
def sgnText (a : Int) (p m : UInt8) (c : Nat) : List UInt8 := if a < 0 then m :: sexa (-a).toNat c else p :: sexa a.toNat c
def latB (a : Int) : Bool := decide (-32400000 ≤ a) && decide (a ≤ 32400000)
def lonB (a : Int) : Bool := decide (-64800000 < a) && decide (a ≤ 64800000)
def latOut (a : Int) : List UInt8 := if latB a then sgnText a 78 83 2 else []
def lonOut (a : Int) : List UInt8 := if lonB a then sgnText a 69 87 3 else []
def posB (a b : Int) : Bool := latB a && lonB b
def posOut (a b : Int) : List UInt8 := if posB a b then latOut a ++ lonOut b else []
def posErr (a b : Int) : Int := if posB a b then 0 else 2
/-- the angle of degrees (in so many digits), minutes, seconds and hundredths -/
def joinV (l : List UInt8) (c : Nat) : Nat := numV (l.take c) * 360000 + numV ((l.drop c).take 2) * 6000 + numV ((l.drop (c + 2)).take 2) * 100 + numV (l.drop (c + 4))
def joinB (l : List UInt8) (c : Nat) : Bool := decide (l.length = c + 6) && l.all digC && decide (numV ((l.drop c).take 2) < 60) && decide (numV ((l.drop (c + 2)).take 2) < 60)
/-- the signed angle of a letter and digits -/
def sgnB (l : List UInt8) (p m : UInt8) (c : Nat) : Bool := decide (l.length = c + 7) && (l.headD 0 == p || l.headD 0 == m) && joinB l.tail c && !(l.headD 0 == m && decide (joinV l.tail c = 0))
def sgnV (l : List UInt8) (m : UInt8) (c : Nat) : Int := if l.headD 0 == m then -(joinV l.tail c : Int) else (joinV l.tail c : Int)
theorem joinV_sexa {a c : Nat} (h : a / 360000 < 10 ^ c) : joinV (sexa a c) c = a ∧ joinB (sexa a c) c = true := by
  have e1 : (sexa a c).take c = fixD (a / 360000) c := by
    unfold sexa
    rw [List.append_assoc, List.append_assoc, List.take_append_of_le_length (by rw [fixD_len]; exact Nat.le_refl _), List.take_of_length_le (by rw [fixD_len]; exact Nat.le_refl _)]
  have e2 : (sexa a c).drop c = fixD (a % 360000 / 6000) 2 ++ (fixD (a % 6000 / 100) 2 ++ fixD (a % 100) 2) := by
    unfold sexa
    rw [List.append_assoc, List.append_assoc]
    have := List.drop_append_of_le_length (l₁ := fixD (a / 360000) c) (l₂ := fixD (a % 360000 / 6000) 2 ++ (fixD (a % 6000 / 100) 2 ++ fixD (a % 100) 2)) (i := c) (by rw [fixD_len]; exact Nat.le_refl _)
    rw [this, List.drop_of_length_le (by rw [fixD_len]; exact Nat.le_refl _)]; rfl
  have e3 : (sexa a c).drop (c + 2) = fixD (a % 6000 / 100) 2 ++ fixD (a % 100) 2 := by
    rw [← List.drop_drop, e2]; rfl
  have e4 : (sexa a c).drop (c + 4) = fixD (a % 100) 2 := by
    rw [← List.drop_drop, e2]; rfl
  have e5 : ((sexa a c).drop c).take 2 = fixD (a % 360000 / 6000) 2 := by rw [e2]; rfl
  have e6 : ((sexa a c).drop (c + 2)).take 2 = fixD (a % 6000 / 100) 2 := by rw [e3]; rfl
  have n1 := numV_fixD c (a / 360000) h
  have n2 := numV_fixD 2 (a % 360000 / 6000) (by omega)
  have n3 := numV_fixD 2 (a % 6000 / 100) (by omega)
  have n4 := numV_fixD 2 (a % 100) (by omega)
  constructor
  · unfold joinV
    rw [e1, e5, e6, e4, n1, n2, n3, n4]
    omega
  · unfold joinB
    rw [sexa_len, sexa_dig, e5, e6, n2, n3, decide_eq_true rfl, decide_eq_true (by omega), decide_eq_true (by omega)]; rfl
theorem sgn_back {a : Int} {p m : UInt8} {c : Nat} (hpm : p ≠ m) (h : a.natAbs / 360000 < 10 ^ c) : sgnB (sgnText a p m c) p m c = true ∧ sgnV (sgnText a p m c) m c = a := by
  unfold sgnText
  by_cases h0 : a < 0
  · rw [if_pos h0]
    have hj := joinV_sexa (a := (-a).toNat) (c := c) (by rw [show (-a).toNat = a.natAbs by omega]; exact h)
    constructor
    · unfold sgnB
      rw [List.length_cons, sexa_len, List.headD_cons, List.tail_cons, hj.2, hj.1, decide_eq_true rfl, decide_eq_false (by omega)]
      simp
    · unfold sgnV
      rw [List.headD_cons, List.tail_cons, hj.1, if_pos (by simp)]
      omega
  · rw [if_neg h0]
    have hj := joinV_sexa (a := a.toNat) (c := c) (by rw [show a.toNat = a.natAbs by omega]; exact h)
    constructor
    · unfold sgnB
      rw [List.length_cons, sexa_len, List.headD_cons, List.tail_cons, hj.2, hj.1, decide_eq_true rfl, beq_eq_false_iff_ne.2 hpm]
      simp
    · unfold sgnV
      rw [List.headD_cons, List.tail_cons, hj.1, if_neg (by simpa using hpm)]
      omega
theorem sgnText_len (a : Int) (p m : UInt8) (c : Nat) : (sgnText a p m c).length = c + 7 := by
  unfold sgnText; split <;> rw [List.length_cons, sexa_len]
/-- what ParsePos answers: 4: no text of that form, 2: out of range -/
def latPErr (l : List UInt8) : Int := if sgnB l 78 83 2 then (if latB (sgnV l 83 2) then 0 else 2) else 4
def lonPErr (l : List UInt8) : Int := if sgnB l 69 87 3 then (if lonB (sgnV l 87 3) then 0 else 2) else 4
def latPV (l : List UInt8) : Int := if latPErr l = 0 then sgnV l 83 2 else 0
def lonPV (l : List UInt8) : Int := if lonPErr l = 0 then sgnV l 87 3 else 0
def posPErr (l : List UInt8) : Int := if l.length = 19 then (if latPErr (l.take 9) = 0 then lonPErr (l.drop 9) else latPErr (l.take 9)) else 4
def posPLat (l : List UInt8) : Int := if posPErr l = 0 then latPV (l.take 9) else 0
def posPLon (l : List UInt8) : Int := if posPErr l = 0 then lonPV (l.drop 9) else 0
theorem pos_back {a b : Int} (h : posB a b = true) : posPErr (posOut a b) = 0 ∧ posPLat (posOut a b) = a ∧ posPLon (posOut a b) = b := by
  have h2 := h
  unfold posB at h2
  rw [Bool.and_eq_true] at h2
  have hl := h2.1
  have hn := h2.2
  unfold latB at hl
  unfold lonB at hn
  rw [Bool.and_eq_true, decide_eq_true_iff, decide_eq_true_iff] at hl hn
  have e1 : latOut a = sgnText a 78 83 2 := by unfold latOut; rw [if_pos h2.1]
  have e2 : lonOut b = sgnText b 69 87 3 := by unfold lonOut; rw [if_pos h2.2]
  have l1 : (latOut a).length = 9 := by rw [e1, sgnText_len]
  have l2 : (lonOut b).length = 10 := by rw [e2, sgnText_len]
  have e3 : posOut a b = latOut a ++ lonOut b := by unfold posOut; rw [if_pos h]
  have t1 : (posOut a b).take 9 = latOut a := by rw [e3, List.take_append_of_le_length (by omega), List.take_of_length_le (by omega)]
  have t2 : (posOut a b).drop 9 = lonOut b := by rw [e3, List.drop_append_of_le_length (by omega), List.drop_of_length_le (by omega)]; rfl
  have s1 := sgn_back (a := a) (p := 78) (m := 83) (c := 2) (by decide) (by omega)
  have s2 := sgn_back (a := b) (p := 69) (m := 87) (c := 3) (by decide) (by omega)
  have p1 : latPErr (latOut a) = 0 := by unfold latPErr; rw [e1, if_pos s1.1, s1.2, if_pos h2.1]
  have p2 : lonPErr (lonOut b) = 0 := by unfold lonPErr; rw [e2, if_pos s2.1, s2.2, if_pos h2.2]
  have p3 : posPErr (posOut a b) = 0 := by
    unfold posPErr
    rw [t1, t2, p1, if_pos (by rw [e3, List.length_append]; omega), if_pos rfl, p2]
  refine ⟨p3, ?_, ?_⟩
  · unfold posPLat; rw [if_pos p3, t1]; unfold latPV; rw [if_pos p1, e1, s1.2]
  · unfold posPLon; rw [if_pos p3, t2]; unfold lonPV; rw [if_pos p2, e2, s2.2]
end Go.Proofs.YtakgcdefbbgdaaaGreatDoor
namespace Go.Proofs.YtakgcdefbbgdaaaGreatDoor
open Go.RowKit
set_option linter.unusedVariables false
set_option linter.unusedSimpArgs false

theorem take_snoc' (s : ByteArray) (k : Nat) (h : k < s.size) : (bl s).take (k + 1) = (bl s).take k ++ [s[k]] := by
  rw [List.take_succ_eq_append_getElem (by rw [bl_len]; exact h)]; rfl
theorem digC_of {c : UInt8} (h1 : (48 : Int) ≤ (c.toNat : Int)) (h2 : (c.toNat : Int) ≤ 57) : digC c = true := by
  unfold digC; rw [decide_eq_true (by omega), decide_eq_true (by omega)]; rfl
theorem digC_not {c : UInt8} (h : (c.toNat : Int) < 48 ∨ 57 < (c.toNat : Int)) : digC c = false := by
  unfold digC
  rcases h with h | h
  · rw [decide_eq_false (p := 48 ≤ c.toNat) (by omega)]; rfl
  · rw [decide_eq_false (p := c.toNat ≤ 57) (by omega), Bool.and_false]
theorem all_take_snoc {s : ByteArray} {k : Nat} (hk : k < s.size) (h : ((bl s).take k).all digC = true) (hc : digC s[k] = true) : ((bl s).take (k + 1)).all digC = true := by
  rw [take_snoc' s k hk, List.all_append, h, List.all_cons, hc]; rfl
theorem all_no {s : ByteArray} {k : Nat} (hk : k < s.size) (hc : digC s[k] = false) : (bl s).all digC = false :=
  all_false_at (l := bl s) (k := k) (by rw [bl_len]; exact hk) hc
def DigPost (s : ByteArray) (w : World) (e : Ending) (w' : World) : Prop := e = .returned (.tuple #[.int .i64 (if (bl s).all digC then (numV (bl s) : Int) else 0), .bool ((bl s).all digC)]) ∧ w = w'
set_option maxRecDepth 100000 in
set_option maxHeartbeats 1000000 in
theorem number_any (s : ByteArray) (w : World) (hs : s.size ≤ 9) : Calls Tryz.prog 256 #[.string s] w (DigPost s w) := by
  have HNO : Hid ((bl s).all digC = false → DigPost s w (.returned (.tuple #[.int .i64 0, .bool false])) w) := by
    intro h; unfold DigPost; rw [h]; exact ⟨rfl, rfl⟩
  have HYES : Hid ((bl s).all digC = true → ∀ n : Nat, numV (bl s) = n → DigPost s w (.returned (.tuple #[.int .i64 (n : Int), .bool true])) w) := by
    intro h n hn; unfold DigPost; rw [h, hn]; exact ⟨rfl, rfl⟩
  go_enter Tryz.func256, Tryz.ntmps256
  go_wp2
  go_loop [4, 8] (fun nv iv => ∃ k n : Nat, k ≤ s.size ∧ iv = .int .i64 k ∧ nv = .int .i64 n ∧ Hid (numV ((bl s).take k) = n ∧ ((bl s).take k).all digC = true)) (fun _ iv => s.size - (intOf iv).toNat)
  case atStart => exact ⟨0, 0, Nat.zero_le _, rfl, rfl, rfl, rfl⟩
  case round =>
    obtain ⟨k, n, hk, rfl, rfl, hn⟩ := hrel
    by_cases hlt : k < s.size
    · have hb : (n : Int) ≤ 100000000 := by
        have h1 := numV_lt _ hn.out.2
        rw [hn.out.1, List.length_take, bl_len, Nat.min_eq_left hk] at h1
        have h2 : 10 ^ k ≤ 10 ^ 8 := Nat.pow_le_pow_right (by decide) (by omega)
        omega
      have hb0 : (0 : Int) ≤ (n : Int) := by omega
      have HST : Hid (numV ((bl s).take (k + 1)) = 10 * n + (s[k].toNat - 48)) := by
        unfold Hid; rw [take_snoc' s k hlt, numV_snoc, hn.out.1]
      have hki : (k : Int) < (s.size : Int) := by omega
      rcases Int.lt_or_le (s[k].toNat : Int) 48 with h1 | h1
      · have HF := Lib.hid (all_no hlt (digC_not (.inl h1)))
        go_wp2
        go_ret2
        exact HNO.out HF.out
      · rcases Int.lt_or_le 57 (s[k].toNat : Int) with h2 | h2
        · have HF := Lib.hid (all_no hlt (digC_not (.inr h2)))
          go_wp2
          go_ret2
          exact HNO.out HF.out
        · have HT := Lib.hid (all_take_snoc hlt hn.out.2 (digC_of h1 h2))
          have HC : Hid (10 * (n : Int) + ((s[k].toNat : Int) - 48) = ((10 * n + (s[k].toNat - 48) : Nat) : Int)) := by
            unfold Hid; omega
          go_wp2
          go_round
          case rel => exact ⟨k + 1, _, hlt, by go_num, congrArg (Value.int .i64) HC.out, HST.out, HT.out⟩
          case measure => simp [intOf]; omega
    · have HE : Hid ((bl s).take k = bl s) := List.take_of_length_le (by rw [bl_len]; omega)
      go_wp2
      go_ret2
      exact HYES.out (by rw [← HE.out]; exact hn.out.2) n (by rw [← HE.out]; exact hn.out.1)
end Go.Proofs.YtakgcdefbbgdaaaGreatDoor
namespace Go.Proofs.YtakgcdefbbgdaaaGreatDoor
open Go.RowKit
set_option linter.unusedVariables false
set_option linter.unusedSimpArgs false

theorem number_yes (s : ByteArray) (n : Nat) (w : World) (hs : s.size ≤ 9) (hd : (bl s).all digC = true) (hn : numV (bl s) = n) : Calls Tryz.prog 256 #[.string s] w fun e w' => e = .returned (.tuple #[.int .i64 (n : Int), .bool true]) ∧ w = w' :=
  (number_any s w hs).mono fun e w' h => by unfold DigPost at h; rw [hd, hn] at h; exact h
theorem number_no (s : ByteArray) (w : World) (hs : s.size ≤ 9) (hd : (bl s).all digC = false) : Calls Tryz.prog 256 #[.string s] w fun e w' => e = .returned (.tuple #[.int .i64 0, .bool false]) ∧ w = w' :=
  (number_any s w hs).mono fun e w' h => by unfold DigPost at h; rw [hd] at h; exact h
theorem all_of_take {l : List UInt8} (k : Nat) (h : l.all digC = true) : (l.take k).all digC = true := by
  rw [List.all_eq_true] at *; exact fun x hx => h x (List.mem_of_mem_take hx)
theorem all_of_drop {l : List UInt8} (k : Nat) (h : l.all digC = true) : (l.drop k).all digC = true := by
  rw [List.all_eq_true] at *; exact fun x hx => h x (List.mem_of_mem_drop hx)
theorem numV_small {l : List UInt8} {k : Nat} (h : l.all digC = true) (hl : l.length ≤ k) : numV l < 10 ^ k :=
  Nat.lt_of_lt_of_le (numV_lt l h) (Nat.pow_le_pow_right (by decide) hl)
def JoinPost (s : ByteArray) (c : Nat) (w : World) (e : Ending) (w' : World) : Prop := e = .returned (.tuple #[.int .i64 (if joinB (bl s) c then (joinV (bl s) c : Int) else 0), .bool (joinB (bl s) c)]) ∧ w = w'
set_option maxRecDepth 100000 in
set_option maxHeartbeats 2000000 in
theorem join_any (s : ByteArray) (c : Nat) (w : World) (hc : c ≤ 3) (hs : s.size ≤ maxLen) : Calls Tryz.prog 237 #[.string s, .int .i64 (c : Int)] w (JoinPost s c w) := by
  unfold maxLen at hs
  have HNO : Hid (joinB (bl s) c = false → JoinPost s c w (.returned (.tuple #[.int .i64 0, .bool false])) w) := by
    intro h; unfold JoinPost; rw [h]; exact ⟨rfl, rfl⟩
  have HYES : Hid (joinB (bl s) c = true → ∀ n : Int, (joinV (bl s) c : Int) = n → JoinPost s c w (.returned (.tuple #[.int .i64 n, .bool true])) w) := by
    intro h n hn; unfold JoinPost; rw [h, ← hn]; exact ⟨rfl, rfl⟩
  by_cases hl : s.size = c + 6
  · have HLE : Hid ((bl s).length = c + 6) := hl
    have hl1 : (s.size : Int) = (c : Int) + 6 := by omega
    have hz1 : s.size ≤ 9 := by omega
    have hz2 : c + 6 ≤ s.size := by omega
    have hne : ((s.size : Int) != (c : Int) + 6) = false := bne_eq_false_iff_eq.2 hl1
    have hc0 : (0 : Int) ≤ (c : Int) := by omega
    have hc3 : (c : Int) ≤ 3 := by omega
    have hz3 : (c : Int) + 6 ≤ (s.size : Int) := by omega
    clear hl hl1
    cases hd : (bl s).all digC with
    | false =>
      have HD := Lib.hid hd
      have HJ : Hid (joinB (bl s) c = false) := by unfold Hid joinB; rw [hd]; simp
      clear hd
      go_enter Tryz.func237, Tryz.ntmps237
      go_wp2_with fail
      refine (number_no s _ hz1 HD.out).mono ?_
      rintro e w' ⟨rfl, rfl⟩
      go_wp2
      go_ret2
      exact HNO.out HJ.out
    | true =>
      have HD := Lib.hid hd
      clear hd
      obtain ⟨n1, h1⟩ : ∃ n, numV ((bl s).take c) = n := ⟨_, rfl⟩
      obtain ⟨n2, h2⟩ : ∃ n, numV (((bl s).drop c).take 2) = n := ⟨_, rfl⟩
      obtain ⟨n3, h3⟩ : ∃ n, numV (((bl s).drop (c + 2)).take 2) = n := ⟨_, rfl⟩
      obtain ⟨n4, h4⟩ : ∃ n, numV ((bl s).drop (c + 4)) = n := ⟨_, rfl⟩
      have b1 : n1 < 1000 := by
        rw [← h1]; exact numV_small (k := 3) (all_of_take _ HD.out) (by rw [List.length_take]; omega)
      have b2 : n2 < 100 := by
        rw [← h2]; exact numV_small (k := 2) (all_of_take _ (all_of_drop _ HD.out)) (by rw [List.length_take]; omega)
      have b3 : n3 < 100 := by
        rw [← h3]; exact numV_small (k := 2) (all_of_take _ (all_of_drop _ HD.out)) (by rw [List.length_take]; omega)
      have b4 : n4 < 100 := by
        rw [← h4]; exact numV_small (k := 2) (all_of_drop _ HD.out) (by rw [List.length_drop, HLE.out]; omega)
      have HV : Hid ((joinV (bl s) c : Int) = (n1 : Int) * 360000 + (n2 : Int) * 6000 + (n3 : Int) * 100 + (n4 : Int)) := by
        unfold Hid joinV; rw [h1, h2, h3, h4]; omega
      have HB : Hid (joinB (bl s) c = (decide (n2 < 60) && decide (n3 < 60))) := by
        unfold Hid joinB; rw [HD.out, HLE.out, h2, h3]; simp
      have i1 : (n1 : Int) < 1000 := by omega
      have i2 : (n2 : Int) < 100 := by omega
      have i3 : (n3 : Int) < 100 := by omega
      have i4 : (n4 : Int) < 100 := by omega
      have H1 := Lib.hid h1
      have H2 := Lib.hid h2
      have H3 := Lib.hid h3
      have H4 := Lib.hid h4
      clear h1 h2 h3 h4
      go_enter Tryz.func237, Tryz.ntmps237
      go_wp2_with fail
      refine (number_yes s _ _ hz1 HD.out rfl).mono ?_
      rintro e w' ⟨rfl, rfl⟩
      go_wp2_with fail
      refine (number_yes _ n1 _ (by rw [ByteArray.size_extract]; omega) (by rw [bl_extract]; exact all_of_take _ (all_of_drop _ HD.out)) (by rw [bl_extract]; first | exact H1.out | (rw [List.drop_zero]; exact H1.out))).mono ?_
      rintro e w' ⟨rfl, rfl⟩
      go_wp2_with fail
      refine (number_yes _ n2 _ (by rw [ByteArray.size_extract]; omega) (by rw [bl_extract]; exact all_of_take _ (all_of_drop _ HD.out)) (by rw [bl_extract, show c + 2 - c = 2 by omega]; exact H2.out)).mono ?_
      rintro e w' ⟨rfl, rfl⟩
      go_wp2_with fail
      refine (number_yes _ n3 _ (by rw [ByteArray.size_extract]; omega) (by rw [bl_extract]; exact all_of_take _ (all_of_drop _ HD.out)) (by rw [bl_extract, show c + 4 - (c + 2) = 2 by omega]; exact H3.out)).mono ?_
      rintro e w' ⟨rfl, rfl⟩
      go_wp2_with fail
      refine (number_yes _ n4 _ (by rw [ByteArray.size_extract]; omega) (by rw [bl_extract]; exact all_of_take _ (all_of_drop _ HD.out)) (by rw [bl_extract, List.take_of_length_le (by rw [List.length_drop, bl_len]; omega)]; exact H4.out)).mono ?_
      rintro e w' ⟨rfl, rfl⟩
      rcases Nat.lt_or_ge n2 60 with k2 | k2
      · have k2' : (n2 : Int) < 60 := by omega
        rcases Nat.lt_or_ge n3 60 with k3 | k3
        · have k3' : (n3 : Int) < 60 := by omega
          have HJ : Hid (joinB (bl s) c = true) := by unfold Hid; rw [HB.out, decide_eq_true k2, decide_eq_true k3]; rfl
          go_wp2
          go_ret2
          exact HYES.out HJ.out _ HV.out
        · have k3' : (60 : Int) ≤ (n3 : Int) := by omega
          have HJ : Hid (joinB (bl s) c = false) := by unfold Hid; rw [HB.out, decide_eq_false (p := n3 < 60) (by omega), Bool.and_false]
          go_wp2
          go_ret2
          exact HNO.out HJ.out
      · have k2' : (60 : Int) ≤ (n2 : Int) := by omega
        have HJ : Hid (joinB (bl s) c = false) := by unfold Hid; rw [HB.out, decide_eq_false (p := n2 < 60) (by omega), Bool.false_and]
        go_wp2
        go_ret2
        exact HNO.out HJ.out
  · have HJ : Hid (joinB (bl s) c = false) := by
      unfold Hid joinB; rw [decide_eq_false (p := (bl s).length = c + 6) (by rw [bl_len]; exact hl)]; rfl
    have hne : ((s.size : Int) != (c : Int) + 6) = true := bne_iff_ne.2 (by omega)
    have hc0 : (0 : Int) ≤ (c : Int) := by omega
    have hc3 : (c : Int) ≤ 3 := by omega
    clear hl
    go_enter Tryz.func237, Tryz.ntmps237
    go_wp2
    go_ret2
    exact HNO.out HJ.out
theorem and4 : ∀ a b c d : Bool, ((a && b) && c && d) = false → a = false ∨ b = false ∨ c = false ∨ d = false := by decide
theorem parts4 (l : List UInt8) (c : Nat) : l.all digC = (((l.take c).all digC && ((l.drop c).take 2).all digC) && ((l.drop (c + 2)).take 2).all digC && (l.drop (c + 4)).all digC) := by
  have e1 : l = l.take c ++ l.drop c := (List.take_append_drop c l).symm
  have e2 : l.drop c = (l.drop c).take 2 ++ l.drop (c + 2) := by
    have h := (List.take_append_drop 2 (l.drop c)).symm
    rw [List.drop_drop] at h
    exact h
  have e3 : l.drop (c + 2) = (l.drop (c + 2)).take 2 ++ l.drop (c + 4) := by
    have h := (List.take_append_drop 2 (l.drop (c + 2))).symm
    rw [List.drop_drop] at h
    exact h
  have a1 : l.all digC = ((l.take c).all digC && (l.drop c).all digC) := by rw [← List.all_append, List.take_append_drop]
  have a2 : (l.drop c).all digC = (((l.drop c).take 2).all digC && (l.drop (c + 2)).all digC) := by rw [← List.all_append, ← e2]
  have a3 : (l.drop (c + 2)).all digC = (((l.drop (c + 2)).take 2).all digC && (l.drop (c + 4)).all digC) := by rw [← List.all_append, ← e3]
  rw [a1, a2, a3, Bool.and_assoc, Bool.and_assoc]
end Go.Proofs.YtakgcdefbbgdaaaGreatDoor
namespace Go.Proofs.YtakgcdefbbgdaaaGreatDoor
open Go.RowKit
set_option linter.unusedVariables false
set_option linter.unusedSimpArgs false
theorem fixD_front : ∀ (k n : Nat), fixD n (k + 1) = UInt8.ofNat (48 + n / 10 ^ k % 10) :: fixD n k
  | 0, n => by
    show fixD (n / 10) 0 ++ [UInt8.ofNat (48 + n % 10)] = _
    rw [Nat.pow_zero, Nat.div_one]; rfl
  | k + 1, n => by
    have h1 : fixD n (k + 1 + 1) = fixD (n / 10) (k + 1) ++ [UInt8.ofNat (48 + n % 10)] := rfl
    have h2 : fixD n (k + 1) = fixD (n / 10) k ++ [UInt8.ofNat (48 + n % 10)] := rfl
    rw [h1, fixD_front k (n / 10), h2, Nat.div_div_eq_div_mul, Nat.pow_succ, Nat.mul_comm 10 (10 ^ k)]; rfl
/-- the reference's minutes and seconds are the program's -/
theorem sexa_ref (a : Nat) : a / 6000 % 60 = a % 360000 / 6000 ∧ a / 100 % 60 = a % 6000 / 100 := by omega
theorem byteCells_app (a b : List UInt8) : Lib.byteCells (a ++ b) = Lib.byteCells a ++ Lib.byteCells b := by unfold Lib.byteCells; rw [List.map_append]
theorem byteCells_rep (n : Nat) : Lib.byteCells (List.replicate n 48) = List.replicate n (.int .u8 48) := by
  unfold Lib.byteCells; rw [List.map_replicate]; rfl
/-- the zeros, of which the last ones have been overwritten -/
def digMid (l : List UInt8) (N c j : Nat) : List UInt8 := l ++ (List.replicate (c - j) 48 ++ fixD N j)
theorem digMid_zero (l : List UInt8) (N c : Nat) : digMid l N c 0 = l ++ List.replicate c 48 := by unfold digMid fixD; simp
theorem digMid_full (l : List UInt8) (N c : Nat) : digMid l N c c = l ++ fixD N c := by unfold digMid; simp
theorem digMid_len (l : List UInt8) (N c j : Nat) (h : j ≤ c) : (digMid l N c j).length = l.length + c := by
  unfold digMid; rw [List.length_append, List.length_append, List.length_replicate, fixD_len]; omega
theorem set_rep (l t : List Value) (u v : Value) (m : Nat) : (l ++ (List.replicate (m + 1) u ++ t)).set (l.length + m) v = l ++ (List.replicate m u ++ v :: t) := by
  rw [List.set_append_right _ _ (by omega), show l.length + m - l.length = m by omega]
  congr 1
  rw [List.replicate_succ', List.append_assoc, List.set_append_right _ _ (by rw [List.length_replicate]; exact Nat.le_refl _), List.length_replicate, Nat.sub_self]
  rfl
theorem digMid_set (l : List UInt8) (N c j m : Nat) (hm : c - j = m + 1) : (Lib.byteCells (digMid l N c j)).set (l.length + m) (.int .u8 (48 + ((N / 10 ^ j : Nat) : Int) % 10)) = Lib.byteCells (digMid l N c (j + 1)) := by
  unfold digMid
  rw [fixD_front, show c - (j + 1) = m by omega, hm, byteCells_app, byteCells_app, byteCells_app, byteCells_app, byteCells_rep, byteCells_rep]
  have hl : (Lib.byteCells l).length = l.length := by unfold Lib.byteCells; rw [List.length_map]
  have := set_rep (Lib.byteCells l) (Lib.byteCells (fixD N j)) (.int .u8 48) (.int .u8 (48 + ((N / 10 ^ j : Nat) : Int) % 10)) m
  rw [hl] at this
  rw [this]
  congr 2
  show _ = Value.int .u8 (((UInt8.ofNat (48 + N / 10 ^ j % 10)).toNat : Nat) : Int) :: _
  rw [digit_toNat (Nat.mod_lt _ (by decide))]
  congr 2
/-- a row of bytes as a string -/
theorem push_list (l : List UInt8) : ∀ s : ByteArray, ((l.map fun c => (c.toNat : Int)).foldl (fun r n => r.push (UInt8.ofNat n.toNat)) s) = ⟨s.data ++ l.toArray⟩ := by
  induction l with
  | nil => intro s; cases s; simp
  | cons c l ih =>
    intro s
    rw [List.map_cons, List.foldl_cons, ih, Int.toNat_natCast, UInt8.ofNat_toNat]
    cases s
    simp [ByteArray.push]
theorem string_own {base : Nat} {w : World} {v : Value} {l : List UInt8} {n : Nat} (h : w.ownsRow base 5 1 v n (Lib.byteCells l)) (hn : 0 < n) : (convert 42 9 v).run Tryz.prog w = .ok (.string (sb l)) w := by
  have hcs := @World.ownsRow.cells _ _ _ _ _ _ _ h
  obtain ⟨hl, ⟨rfl, rfl⟩ | ⟨g, cap, cur, rfl, hb, hh, hnc, hm, hs, ht⟩⟩ := h
  · omega
  have hlen : (Lib.byteCells l).length = n := by rw [hl]; omega
  have e1 : Lib.byteCells l = (l.map fun c => (c.toNat : Int)).map (Value.int .u8) := by unfold Lib.byteCells; rw [List.map_map]; rfl
  have hload := run_loadCells_list (P := Tryz.prog) (w := w) ⟨g, 0, none⟩ (Lib.byteCells l) (fun j u hu => hcs (g := g) rfl j u hu)
  rw [hlen] at hload
  refine (run_convert_bytes_string w _ _ _ _ _ _ Tryz.underlying42 Tryz.underlying5 Tryz.underlying9).trans ?_
  rw [run_bytesToString w _ n cap _ (by rw [hload, e1]), push_list]
  unfold sb; simp
end Go.Proofs.YtakgcdefbbgdaaaGreatDoor
