/-
  Several texts as one.
  Contracts of the small functions on texts of layer 8 (record and its reference): plain, Name, ranged, and the law's cut.
  Contracts: numbers and altitudes as texts (strconv.FormatInt at base 10, the reference's digits, AltText of both sides).
  Contracts: the texts of altitude windows on both sides.
  Contracts of the library's cuts in the words of this program's proofs: CutPrefix, CutSuffix and Cut at one byte.
  Contracts: strings.Cut at one byte, at any string; references of fixes: SplitRef of both sides.
-/
import Derived.Test.YteojggbmkppjoaaGreatDoorBase
namespace Go.Proofs.YteojggbmkppjoaaGreatDoor
open Go.RowKit
set_option linter.unusedVariables false
set_option linter.unusedSimpArgs false

def digitB (c : UInt8) : Bool := decide (48 ≤ c.toNat) && decide (c.toNat ≤ 57)
def upperB (c : UInt8) : Bool := decide (65 ≤ c.toNat) && decide (c.toNat ≤ 90)
def nameC (c : UInt8) : Bool := upperB c || digitB c
def zeroAhead (l : List UInt8) : Bool := decide (1 < l.length) && l.headD 0 == 48
def plainB (l : List UInt8) : Bool := !l.isEmpty && !zeroAhead l && l.all digitB
def nameB (l : List UInt8) (most : Int) : Bool := decide (0 < l.length) && decide ((l.length : Int) ≤ most) && upperB (l.headD 0) && l.all nameC
def rangedB (a : Int) : Bool := decide (-200000 ≤ a) && decide (a ≤ 6000000)

theorem zeroAhead_yes {s : ByteArray} (h1 : 1 < s.size) (h : s[0].toNat = 48) : zeroAhead (bl s) = true := by
  unfold zeroAhead
  rw [bl_head s (by omega), bl_len, (u8_eq (n := 48) (by omega)).1 h]; simp [h1]
theorem zeroAhead_no {s : ByteArray} (h1 : 1 < s.size) (h : ¬ s[0].toNat = 48) : zeroAhead (bl s) = false := by
  unfold zeroAhead
  rw [bl_head s (by omega)]
  have : (s[0] == 48) = false := by
    rw [beq_eq_false_iff_ne]; intro e; apply h; rw [e]; rfl
  rw [this]; simp
theorem zeroAhead_short {s : ByteArray} (h1 : s.size ≤ 1) : zeroAhead (bl s) = false := by
  unfold zeroAhead
  rw [bl_len, decide_eq_false (by omega)]; rfl
theorem plainB_of {s : ByteArray} (h0 : 0 < s.size) (h : zeroAhead (bl s) = false) : plainB (bl s) = (bl s).all digitB := by
  unfold plainB
  have : (bl s).isEmpty = false := by
    rw [← Bool.not_eq_true, List.isEmpty_iff]; intro e; have := bl_nil_iff.1 e; omega
  rw [this, h]; rfl
theorem plainB_zero {s : ByteArray} (h : zeroAhead (bl s) = true) : plainB (bl s) = false := by
  unfold plainB; rw [h]; simp
theorem plainB_nil {s : ByteArray} (h : s.size = 0) : plainB (bl s) = false := by rw [bl_nil h]; rfl
theorem digitB_no {c : UInt8} (h : (c.toNat : Int) < 48 ∨ 57 < (c.toNat : Int)) : digitB c = false := by
  unfold digitB; rcases h with h | h
  · rw [decide_eq_false (by omega)]; rfl
  · rw [decide_eq_false (p := c.toNat ≤ 57) (by omega), Bool.and_false]
theorem digitB_yes {c : UInt8} (h1 : 48 ≤ (c.toNat : Int)) (h2 : (c.toNat : Int) ≤ 57) : digitB c = true := by
  unfold digitB; rw [decide_eq_true (by omega), decide_eq_true (by omega)]; rfl
theorem upperB_no {c : UInt8} (h : (c.toNat : Int) < 65 ∨ 90 < (c.toNat : Int)) : upperB c = false := by
  unfold upperB; rcases h with h | h
  · rw [decide_eq_false (by omega)]; rfl
  · rw [decide_eq_false (p := c.toNat ≤ 90) (by omega), Bool.and_false]
theorem upperB_yes {c : UInt8} (h1 : 65 ≤ (c.toNat : Int)) (h2 : (c.toNat : Int) ≤ 90) : upperB c = true := by
  unfold upperB; rw [decide_eq_true (by omega), decide_eq_true (by omega)]; rfl
theorem plain_no {s : ByteArray} {k : Nat} (HP : plainB (bl s) = (bl s).all digitB) (hk : k < s.size) (h : (s[k].toNat : Int) < 48 ∨ 57 < (s[k].toNat : Int)) : false = plainB (bl s) := by
  rw [HP, all_false_at (l := bl s) (k := k) hk (digitB_no h)]
theorem plain_yes {s : ByteArray} {k : Nat} (HP : plainB (bl s) = (bl s).all digitB) (hk : ¬ k < s.size) (h : ((bl s).take k).all digitB = true) : true = plainB (bl s) := by
  rw [HP, all_take_all h (by rw [bl_len]; omega)]

set_option maxHeartbeats 400000 in
theorem plain_zero (s : ByteArray) (w : World) (hs : s.size ≤ maxLen) (h1 : 1 < s.size) (h : s[0].toNat = 48) :
    Calls Tryz.prog 117 #[.string s] w fun e w' => e = .returned (.bool false) ∧ w = w' := by
  unfold maxLen at hs
  have hb : ((s.size : Int) == 0) = false := by simp only [beq_eq_false_iff_ne, ne_eq]; omega
  have hd : ((s[0].toNat : Int) == 48) = true := by rw [beq_iff_eq]; omega
  clear h
  go_enter Tryz.func117, Tryz.ntmps117
  go_wp2
  go_ret
  exact ⟨rfl, rfl⟩
set_option maxHeartbeats 400000 in
theorem plain_nil (s : ByteArray) (w : World) (hb : ((s.size : Int) == 0) = true) :
    Calls Tryz.prog 117 #[.string s] w fun e w' => e = .returned (.bool false) ∧ w = w' := by
  go_enter Tryz.func117, Tryz.ntmps117
  go_wp2
  go_ret
  exact ⟨rfl, rfl⟩
set_option maxHeartbeats 400000 in
theorem plain_loop (s : ByteArray) (w : World) (hs : s.size ≤ maxLen) (h0 : 0 < s.size) (hz : Hid (zeroAhead (bl s) = false)) (hd : ∀ h : 1 < s.size, Hid (((s[0].toNat : Int) == 48) = false)) :
    Calls Tryz.prog 117 #[.string s] w fun e w' => e = .returned (.bool (plainB (bl s))) ∧ w = w' := by
  unfold maxLen at hs
  have HP := Lib.hid (plainB_of h0 hz.out)
  have hb : ((s.size : Int) == 0) = false := by simp only [beq_eq_false_iff_ne, ne_eq]; omega
  have hd2 : (∃ h : 1 < s.size, ((s[0].toNat : Int) == 48) = false) ∨ s.size ≤ 1 := by
    by_cases h1 : 1 < s.size
    · exact .inl ⟨h1, (hd h1).out⟩
    · exact .inr (by omega)
  clear hd
  rcases hd2 with ⟨h1, hd⟩ | h1
  all_goals
    go_enter Tryz.func117, Tryz.ntmps117
    go_wp2
    go_loop [19] (fun i => ∃ k : Nat, k ≤ s.size ∧ i = .int .i64 k ∧ Hid (((bl s).take k).all digitB = true)) (fun i => s.size - (intOf i).toNat)
    case atStart => exact ⟨0, Nat.zero_le _, rfl, rfl⟩
    case round =>
      obtain ⟨k, hk, rfl, hall⟩ := hrel
      go_wp2
      · go_ret
        exact ⟨ret_bool (plain_no HP.out ‹_› ‹_ ∨ _›), rfl⟩
      · have h : k < s.size := by assumption
        go_round
        case rel => exact ⟨k+1, h, by go_num, all_take_succ hall.out h (digitB_yes (‹_ ∧ _›).1 (‹_ ∧ _›).2)⟩
        case measure => simp [intOf]; omega
      · go_ret
        exact ⟨ret_bool (plain_no HP.out ‹_› (.inl ‹_›)), rfl⟩
      · go_ret
        exact ⟨ret_bool (plain_yes HP.out ‹_› hall.out), rfl⟩
theorem plain_any (s : ByteArray) (w : World) (hs : s.size ≤ maxLen) :
    Calls Tryz.prog 117 #[.string s] w fun e w' => e = .returned (.bool (plainB (bl s))) ∧ w = w' := by
  rcases Nat.eq_zero_or_pos s.size with h0 | h0
  · rw [plainB_nil h0]; exact plain_nil s w (by rw [beq_iff_eq]; omega)
  · by_cases h1 : 1 < s.size
    · by_cases h : s[0].toNat = 48
      · rw [plainB_zero (zeroAhead_yes h1 h)]; exact plain_zero s w hs h1 h
      · exact plain_loop s w hs h0 (zeroAhead_no h1 h) (fun _ => by show (_ == _) = false; rw [beq_eq_false_iff_ne]; omega)
    · exact plain_loop s w hs h0 (zeroAhead_short (by omega)) (fun h => absurd h h1)

theorem nameC_yes {c : UInt8} (h : (65 ≤ (c.toNat : Int) ∧ (c.toNat : Int) ≤ 90) ∨ (48 ≤ (c.toNat : Int) ∧ (c.toNat : Int) ≤ 57)) : nameC c = true := by
  unfold nameC; rcases h with h | h
  · rw [upperB_yes h.1 h.2]; rfl
  · rw [digitB_yes h.1 h.2, Bool.or_true]
theorem nameC_no {c : UInt8} (h : (c.toNat : Int) < 65 ∨ 90 < (c.toNat : Int)) (h' : (c.toNat : Int) < 48 ∨ 57 < (c.toNat : Int)) : nameC c = false := by
  unfold nameC; rw [upperB_no h, digitB_no h']; rfl
theorem nameB_nil {s : ByteArray} {m : Int} (h : s.size = 0) : nameB (bl s) m = false := by rw [bl_nil h]; rfl
theorem nameB_long {s : ByteArray} {m : Int} (h : m < s.size) : nameB (bl s) m = false := by
  unfold nameB; rw [bl_len, decide_eq_false (p := (s.size : Int) ≤ m) (by omega)]; simp
theorem nameB_head {s : ByteArray} {m : Int} (h0 : 0 < s.size) (h : (s[0].toNat : Int) < 65 ∨ 90 < (s[0].toNat : Int)) : nameB (bl s) m = false := by
  unfold nameB; rw [bl_head s h0, upperB_no h]; simp
theorem nameB_of {s : ByteArray} {m : Int} (h0 : 0 < s.size) (hm : (s.size : Int) ≤ m) (h1 : 65 ≤ (s[0].toNat : Int)) (h2 : (s[0].toNat : Int) ≤ 90) : nameB (bl s) m = (bl s).all nameC := by
  unfold nameB; rw [bl_head s h0, upperB_yes h1 h2, bl_len, decide_eq_true h0, decide_eq_true hm]; rfl
theorem name_no {s : ByteArray} {k : Nat} {m : Int} (HP : nameB (bl s) m = (bl s).all nameC) (hk : k < s.size) (h : (s[k].toNat : Int) < 65 ∨ 90 < (s[k].toNat : Int)) (h' : (s[k].toNat : Int) < 48 ∨ 57 < (s[k].toNat : Int)) : false = nameB (bl s) m := by
  rw [HP, all_false_at (l := bl s) (k := k) hk (nameC_no h h')]
theorem name_yes {s : ByteArray} {k : Nat} {m : Int} (HP : nameB (bl s) m = (bl s).all nameC) (hk : ¬ k < s.size) (h : ((bl s).take k).all nameC = true) : true = nameB (bl s) m := by
  rw [HP, all_take_all h (by rw [bl_len]; omega)]

set_option maxHeartbeats 400000 in
theorem name_short (s : ByteArray) (m : Int) (w : World) (hs : s.size ≤ maxLen) (h0 : s.size = 0 ∨ m < s.size) :
    Calls Tryz.prog 39 #[.string s, .int .i64 m] w fun e w' => e = .returned (.bool false) ∧ w = w' := by
  unfold maxLen at hs
  have h : ((s.size : Int) == 0) = true ∧ (s.size : Int) < 1 ∨ (((s.size : Int) == 0) = false ∧ 1 ≤ (s.size : Int)) ∧ m < s.size := by
    rcases Nat.eq_zero_or_pos s.size with h | h
    · exact .inl ⟨by rw [beq_iff_eq]; omega, by omega⟩
    · exact .inr ⟨⟨by rw [beq_eq_false_iff_ne]; omega, by omega⟩, by omega⟩
  clear h0
  rcases h with ⟨h, hl⟩ | ⟨⟨h, hl⟩, hm⟩
  all_goals
    go_enter Tryz.func39, Tryz.ntmps39
    go_wp2
    go_ret
    exact ⟨rfl, rfl⟩
set_option maxHeartbeats 400000 in
theorem name_head (s : ByteArray) (m : Int) (w : World) (hs : s.size ≤ maxLen) (h0 : 0 < s.size) (hm : (s.size : Int) ≤ m) (h : (s[0].toNat : Int) < 65 ∨ 90 < (s[0].toNat : Int)) :
    Calls Tryz.prog 39 #[.string s, .int .i64 m] w fun e w' => e = .returned (.bool false) ∧ w = w' := by
  unfold maxLen at hs
  have hb : ((s.size : Int) == 0) = false := by rw [beq_eq_false_iff_ne]; omega
  have hl : 1 ≤ (s.size : Int) := by omega
  have h' : (s[0].toNat : Int) < 65 ∨ 65 ≤ (s[0].toNat : Int) ∧ 90 < (s[0].toNat : Int) := by omega
  clear h
  rcases h' with h | ⟨h, h2⟩
  all_goals
    go_enter Tryz.func39, Tryz.ntmps39
    go_wp2
    go_ret
    exact ⟨rfl, rfl⟩
set_option maxHeartbeats 1000000 in
theorem name_loop (s : ByteArray) (m : Int) (w : World) (hs : s.size ≤ maxLen) (h0 : 0 < s.size) (hm : (s.size : Int) ≤ m) (h1 : 65 ≤ (s[0].toNat : Int)) (h2 : (s[0].toNat : Int) ≤ 90) :
    Calls Tryz.prog 39 #[.string s, .int .i64 m] w fun e w' => e = .returned (.bool (nameB (bl s) m)) ∧ w = w' := by
  have HP := Lib.hid (nameB_of h0 hm h1 h2)
  unfold maxLen at hs
  have hb : ((s.size : Int) == 0) = false := by rw [beq_eq_false_iff_ne]; omega
  have hl : 1 ≤ (s.size : Int) := by omega
  go_enter Tryz.func39, Tryz.ntmps39
  go_wp2
  clear h1 h2
  go_loop [27] (fun i => ∃ k : Nat, k ≤ s.size ∧ i = .int .i64 k ∧ Hid (((bl s).take k).all nameC = true)) (fun i => s.size - (intOf i).toNat)
  case atStart => exact ⟨0, Nat.zero_le _, rfl, rfl⟩
  case round =>
    obtain ⟨k, hk, rfl, hall⟩ := hrel
    by_cases h : k < s.size
    · have hc : ((65 ≤ (s[k].toNat : Int) ∧ (s[k].toNat : Int) ≤ 90) ∨ ((s[k].toNat : Int) < 65 ∧ 48 ≤ (s[k].toNat : Int) ∧ (s[k].toNat : Int) ≤ 57)) ∨ ((s[k].toNat : Int) < 48 ∨ (90 < (s[k].toNat : Int)) ∨ (57 < (s[k].toNat : Int) ∧ (s[k].toNat : Int) < 65)) := by omega
      rcases hc with (⟨c1, c2⟩ | ⟨c0, c1, c2⟩) | (c1 | c1 | ⟨c1, c2⟩)
      · go_wp2
        go_round
        case rel => exact ⟨k+1, h, by go_num, all_take_succ hall.out h (nameC_yes (.inl ⟨c1, c2⟩))⟩
        case measure => simp [intOf]; omega
      · go_wp2
        go_round
        case rel => exact ⟨k+1, h, by go_num, all_take_succ hall.out h (nameC_yes (.inr ⟨c1, c2⟩))⟩
        case measure => simp [intOf]; omega
      all_goals
        go_wp2
        go_ret
        exact ⟨ret_bool (name_no HP.out h (by omega) (by omega)), rfl⟩
    · go_wp2
      go_ret
      exact ⟨ret_bool (name_yes HP.out h hall.out), rfl⟩
theorem name_any (s : ByteArray) (m : Int) (w : World) (hs : s.size ≤ maxLen) :
    Calls Tryz.prog 39 #[.string s, .int .i64 m] w fun e w' => e = .returned (.bool (nameB (bl s) m)) ∧ w = w' := by
  by_cases h0 : s.size = 0
  · rw [nameB_nil h0]; exact name_short s m w hs (.inl h0)
  · by_cases hm : m < s.size
    · rw [nameB_long hm]; exact name_short s m w hs (.inr hm)
    · by_cases h : (s[0].toNat : Int) < 65 ∨ 90 < (s[0].toNat : Int)
      · rw [nameB_head (by omega) h]; exact name_head s m w hs (by omega) (by omega) h
      · exact name_loop s m w hs (by omega) (by omega) (by omega) (by omega)
end Go.Proofs.YteojggbmkppjoaaGreatDoor
namespace Go.Proofs.YteojggbmkppjoaaGreatDoor
open Go.RowKit
set_option linter.unusedVariables false
set_option linter.unusedSimpArgs false

theorem decDigits_len (n : Nat) : (Lib.decDigits n).length ≤ n + 1 := by
  induction n using Nat.strongRecOn with
  | _ n ih =>
    rw [Lib.decDigits]
    split
    · simp
    · have := ih (n / 10) (by omega)
      simp only [List.length_append, List.length_cons, List.length_nil]
      omega
theorem decDigits_small {n : Nat} (h : n < 10) : Lib.decDigits n = [UInt8.ofNat (48 + n)] := by rw [Lib.decDigits, dif_pos h]
theorem decDigits_big {n : Nat} (h : ¬ n < 10) : Lib.decDigits n = Lib.decDigits (n / 10) ++ [UInt8.ofNat (48 + n % 10)] := by rw [Lib.decDigits, dif_neg h]

/-- strconv.FormatInt(n, 10) at n >= 0 -/
theorem fmt10 (n : Nat) (h1 : n ≤ 9223372036854775807) (w : World) (E : Env w) :
    Calls Tryz.prog 63 #[.int .i64 (n : Int), .int .i64 10] w fun e w' => ∃ t, e = .returned (.string t) ∧ Hid (bl t = Lib.decDigits n) ∧ t.size ≤ n + 1 ∧ Below w.heap.size w w' := by
  refine (Tryz.strconv_FormatInt_10 n (by omega) (by omega) w E.pow10).mono ?_
  rintro e w' ⟨rfl, k, os, rfl⟩
  have h2 : Lib.itoa (n : Int) = Lib.decDigits n := by unfold Lib.itoa; rw [if_neg (by omega)]; rfl
  refine ⟨_, rfl, ?_, ?_, below_grow w k os⟩
  · rw [h2]; rfl
  · rw [h2]; exact decDigits_len n

def altAbs (b : Nat) : List UInt8 := Lib.decDigits (b / 100) ++ (if b % 100 = 0 then [] else 46 :: Lib.decDigits (b % 100 / 10) ++ Lib.decDigits (b % 10))
def altTextL (a : Int) : List UInt8 := if a < 0 then 45 :: altAbs (-a).toNat else altAbs a.toNat
def altOut (a : Int) : List UInt8 := if rangedB a then altTextL a else []
def altErr (a : Int) : Int := if rangedB a then 0 else 2
theorem rangedB_yes {a : Int} (h1 : -200000 ≤ a) (h2 : a ≤ 6000000) : rangedB a = true := by unfold rangedB; rw [decide_eq_true h1, decide_eq_true h2]; rfl
theorem rangedB_no {a : Int} (h : a < -200000 ∨ 6000000 < a) : rangedB a = false := by
  unfold rangedB; rcases h with h | h
  · rw [decide_eq_false (by omega)]; rfl
  · rw [decide_eq_false (p := a ≤ 6000000) (by omega), Bool.and_false]
theorem altAbs_whole {b : Nat} (h : b % 100 = 0) : altAbs b = Lib.decDigits (b / 100) := by unfold altAbs; rw [if_pos h, List.append_nil]
theorem altAbs_part {b : Nat} (h : ¬ b % 100 = 0) : altAbs b = Lib.decDigits (b / 100) ++ (46 :: Lib.decDigits (b % 100 / 10) ++ Lib.decDigits (b % 10)) := by unfold altAbs; rw [if_neg h]
theorem str_size {t : ByteArray} {l : List UInt8} (h : bl t = l) : t.size = l.length := by rw [← h, bl_len]

set_option maxHeartbeats 400000 in
theorem altText_bad (a : Int) (w : World) (h : a < -200000 ∨ 6000000 < a) :
    Calls Tryz.prog 33 #[.int .i64 a] w fun e w' => ∃ t, e = .returned (.tuple #[.string t, .int .i64 2]) ∧ Hid (bl t = []) ∧ w = w' := by
  have h' : a < -200000 ∨ -200000 ≤ a ∧ 6000000 < a := by omega
  clear h
  rcases h' with h | ⟨h, h2⟩
  all_goals
    go_enter Tryz.func33, Tryz.ntmps33
    go_wp2
    go_ret2
    exact ⟨_, rfl, rfl, rfl⟩

set_option maxHeartbeats 400000 in
theorem altText_neg (b : Nat) (w : World) (h : 1 ≤ b) (h2 : b ≤ 200000) (E : Env w) :
    Calls Tryz.prog 33 #[.int .i64 (-(b : Int))] w fun e w' => ∃ t, e = .returned (.tuple #[.string t, .int .i64 0]) ∧ Hid (bl t = 45 :: altAbs b) ∧ Below w.heap.size w w' := by
  have q1 := Lib.hid (show (b : Int) / 100 = ((b / 100 : Nat) : Int) by omega)
  have q2 := Lib.hid (show (b : Int) % 100 / 10 = ((b % 100 / 10 : Nat) : Int) by omega)
  have q3 := Lib.hid (show (b : Int) % 10 = ((b % 10 : Nat) : Int) by omega)
  by_cases hk : b % 100 = 0
  · have hk' : ((b : Int) % 100 != 0) = false := by simp only [bne_eq_false_iff_eq]; omega
    have HK := Lib.hid hk; clear hk
    go_enter Tryz.func33, Tryz.ntmps33
    go_wp2_with fail
    rw [q1.out]
    refine (fmt10 (b / 100) (by omega) _ E).mono ?_
    rintro e w1 ⟨t1, rfl, ht1, hs1, hb1⟩
    go_wp2_with fail
    go_ret2
    refine ⟨_, rfl, ?_, hb1⟩
    show bl (⟨#[45]⟩ ++ t1) = _
    simp only [bl_append, ht1.out, altAbs_whole HK.out, bl_mk, List.cons_append, List.nil_append]
  · have hk' : ((b : Int) % 100 != 0) = true := by rw [bne_iff_ne]; omega
    go_enter Tryz.func33, Tryz.ntmps33
    go_wp2_with fail
    rw [q1.out]
    refine (fmt10 (b / 100) (by omega) _ E).mono ?_
    rintro e w1 ⟨t1, rfl, ht1, hs1, hb1⟩
    go_wp2_with fail
    rw [q2.out]
    refine (fmt10 (b % 100 / 10) (by omega) _ (E.below hb1)).mono ?_
    rintro e w2 ⟨t2, rfl, ht2, hs2, hb2⟩
    go_wp2_with fail
    rw [q3.out]
    refine (fmt10 (b % 10) (by omega) _ ((E.below hb1).below hb2)).mono ?_
    rintro e w3 ⟨t3, rfl, ht3, hs3, hb3⟩
    go_wp2_with fail
    go_ret2
    refine ⟨_, rfl, ?_, Below.then_ (Below.then_ hb1 hb2) hb3⟩
    show bl (⟨#[45]⟩ ++ t1 ++ (⟨#[46]⟩ ++ t2 ++ t3)) = _
    simp only [bl_append, ht1.out, ht2.out, ht3.out, altAbs_part hk, bl_mk, List.cons_append, List.nil_append, List.append_assoc]
set_option maxHeartbeats 400000 in
theorem altText_pos (b : Nat) (w : World) (h : 0 ≤ b) (h2 : b ≤ 6000000) (E : Env w) :
    Calls Tryz.prog 33 #[.int .i64 (b : Int)] w fun e w' => ∃ t, e = .returned (.tuple #[.string t, .int .i64 0]) ∧ Hid (bl t =  altAbs b) ∧ Below w.heap.size w w' := by
  have q1 := Lib.hid (show (b : Int) / 100 = ((b / 100 : Nat) : Int) by omega)
  have q2 := Lib.hid (show (b : Int) % 100 / 10 = ((b % 100 / 10 : Nat) : Int) by omega)
  have q3 := Lib.hid (show (b : Int) % 10 = ((b % 10 : Nat) : Int) by omega)
  by_cases hk : b % 100 = 0
  · have hk' : ((b : Int) % 100 != 0) = false := by simp only [bne_eq_false_iff_eq]; omega
    have HK := Lib.hid hk; clear hk
    go_enter Tryz.func33, Tryz.ntmps33
    go_wp2_with fail
    rw [q1.out]
    refine (fmt10 (b / 100) (by omega) _ E).mono ?_
    rintro e w1 ⟨t1, rfl, ht1, hs1, hb1⟩
    go_wp2_with fail
    go_ret2
    refine ⟨_, rfl, ?_, hb1⟩
    show bl (t1) = _
    simp only [bl_append, ht1.out, altAbs_whole HK.out, bl_mk, List.cons_append, List.nil_append]
  · have hk' : ((b : Int) % 100 != 0) = true := by rw [bne_iff_ne]; omega
    go_enter Tryz.func33, Tryz.ntmps33
    go_wp2_with fail
    rw [q1.out]
    refine (fmt10 (b / 100) (by omega) _ E).mono ?_
    rintro e w1 ⟨t1, rfl, ht1, hs1, hb1⟩
    go_wp2_with fail
    rw [q2.out]
    refine (fmt10 (b % 100 / 10) (by omega) _ (E.below hb1)).mono ?_
    rintro e w2 ⟨t2, rfl, ht2, hs2, hb2⟩
    go_wp2_with fail
    rw [q3.out]
    refine (fmt10 (b % 10) (by omega) _ ((E.below hb1).below hb2)).mono ?_
    rintro e w3 ⟨t3, rfl, ht3, hs3, hb3⟩
    go_wp2_with fail
    go_ret2
    refine ⟨_, rfl, ?_, Below.then_ (Below.then_ hb1 hb2) hb3⟩
    show bl (t1 ++ (⟨#[46]⟩ ++ t2 ++ t3)) = _
    simp only [bl_append, ht1.out, ht2.out, ht3.out, altAbs_part hk, bl_mk, List.cons_append, List.nil_append, List.append_assoc]
theorem altOut_neg {b : Nat} (h : 1 ≤ b) (h2 : b ≤ 200000) : altOut (-(b : Int)) = 45 :: altAbs b := by
  unfold altOut altTextL; rw [if_pos (rangedB_yes (by omega) (by omega)), if_pos (by omega)]; simp
theorem altOut_pos {b : Nat} (h2 : b ≤ 6000000) : altOut (b : Int) = altAbs b := by
  unfold altOut altTextL; rw [if_pos (rangedB_yes (by omega) (by omega)), if_neg (by omega)]; simp
theorem altOut_bad {a : Int} (h : a < -200000 ∨ 6000000 < a) : altOut a = [] := by unfold altOut; rw [rangedB_no h]; rfl
theorem altErr_bad {a : Int} (h : a < -200000 ∨ 6000000 < a) : altErr a = 2 := by unfold altErr; rw [rangedB_no h]; rfl
theorem altErr_ok {a : Int} (h : -200000 ≤ a) (h2 : a ≤ 6000000) : altErr a = 0 := by unfold altErr; rw [rangedB_yes h h2]; rfl
theorem altAbs_len {b : Nat} (h2 : b ≤ 6000000) : (altAbs b).length ≤ 70000 := by
  unfold altAbs
  have h1 := decDigits_len (b / 100)
  have h3 := decDigits_len (b % 100 / 10)
  have h4 := decDigits_len (b % 10)
  split
  · simp only [List.append_nil]; omega
  · simp only [List.length_append, List.length_cons]; omega
theorem altOut_len (a : Int) : (altOut a).length ≤ 70001 := by
  by_cases h : a < -200000 ∨ 6000000 < a
  · rw [altOut_bad h]; simp
  · by_cases hn : a < 0
    · obtain ⟨b, rfl⟩ : ∃ b : Nat, a = -(b : Int) := ⟨(-a).toNat, by omega⟩
      rw [altOut_neg (by omega) (by omega)]
      have := @altAbs_len b (by omega)
      simp only [List.length_cons]; omega
    · obtain ⟨b, rfl⟩ : ∃ b : Nat, a = (b : Int) := ⟨a.toNat, by omega⟩
      rw [altOut_pos (by omega)]
      have := @altAbs_len b (by omega)
      omega
/-- AltText at every altitude -/
theorem altText_any (a : Int) (w : World) (E : Env w) :
    Calls Tryz.prog 33 #[.int .i64 a] w fun e w' => ∃ t, e = .returned (.tuple #[.string t, .int .i64 (altErr a)]) ∧ Hid (bl t = altOut a) ∧ t.size ≤ 70001 ∧ Below w.heap.size w w' := by
  have hl := altOut_len a
  by_cases h : a < -200000 ∨ 6000000 < a
  · rw [altErr_bad h]
    refine (altText_bad a w h).mono ?_
    rintro e w' ⟨t, he, ht, hw⟩
    exact ⟨t, he, by rw [altOut_bad h]; exact ht, by rw [str_size ht]; simp, (by subst hw; exact Below.refl _ _)⟩
  · rw [altErr_ok (by omega) (by omega)]
    by_cases hn : a < 0
    · obtain ⟨b, rfl⟩ : ∃ b : Nat, a = -(b : Int) := ⟨(-a).toNat, by omega⟩
      refine (altText_neg b w (by omega) (by omega) E).mono ?_
      rintro e w' ⟨t, he, ht, hw⟩
      have ht' : bl t = altOut (-(b : Int)) := by rw [altOut_neg (by omega) (by omega)]; exact ht
      exact ⟨t, he, ht', by rw [str_size ht']; exact hl, hw⟩
    · obtain ⟨b, rfl⟩ : ∃ b : Nat, a = (b : Int) := ⟨a.toNat, by omega⟩
      refine (altText_pos b w (by omega) (by omega) E).mono ?_
      rintro e w' ⟨t, he, ht, hw⟩
      have ht' : bl t = altOut (b : Int) := by rw [altOut_pos (by omega)]; exact ht
      exact ⟨t, he, ht', by rw [str_size ht']; exact hl, hw⟩
/-- decimal digits by a count of steps -/
def digs : Nat → Nat → List UInt8
  | 0, _ => []
  | f + 1, n => if n < 10 then [UInt8.ofNat (48 + n)] else digs f (n / 10) ++ [UInt8.ofNat (48 + n % 10)]
theorem decDigits_digs : ∀ (f n : Nat), n < 10 ^ f → 0 < f → Lib.decDigits n = digs f n
  | f + 1, n, h, _ => by
    unfold digs
    by_cases hn : n < 10
    · rw [if_pos hn, decDigits_small hn]
    · rw [if_neg hn, decDigits_big hn]
      have hf : 0 < f := by
        rcases Nat.eq_zero_or_pos f with h0 | h0
        · subst h0; omega
        · exact h0
      rw [decDigits_digs f (n / 10) (by rw [Nat.pow_succ] at h; omega) hf]
end Go.Proofs.YteojggbmkppjoaaGreatDoor
namespace Go.Proofs.YteojggbmkppjoaaGreatDoor
open Go.RowKit
set_option linter.unusedVariables false
set_option linter.unusedSimpArgs false

/-- a block of two cells that the call laid, read in a later world -/
theorem boxed2 {w w1 : World} {a b : Value} {t : TypeId} (h : Below (w.alloc (.cells #[a, b] t)).heap.size (w.alloc (.cells #[a, b] t)) w1) :
    w1.cell? ⟨w.heap.size, 0, none⟩ = some a ∧ w1.cell? ⟨w.heap.size, 1, none⟩ = some b :=
  ⟨(h.cell (p := ⟨w.heap.size, 0, none⟩) (by simp)).trans (by simp [go_sem]), (h.cell (p := ⟨w.heap.size, 1, none⟩) (by simp)).trans (by simp [go_sem])⟩
theorem below_box {w w1 : World} {o : Obj} (h : Below (w.alloc o).heap.size (w.alloc o) w1) : Below w.heap.size w w1 :=
  ((Below.refl _ _).alloc (Nat.le_refl _) o).trans (h.mono (by simp))

def winBad (lo hi : Int) : Prop := lo < -200000 ∨ hi < lo ∨ 6000000 < hi
instance (lo hi : Int) : Decidable (winBad lo hi) := by unfold winBad; infer_instance
def winText (lo hi : Int) : List UInt8 :=
  if lo = -200000 ∧ hi = 6000000 then [45] else if lo = hi then altOut lo else if hi = 6000000 then altOut lo ++ [43] else if lo = -200000 then altOut hi ++ [45] else altOut lo ++ 58 :: altOut hi
def winOut (lo hi : Int) : List UInt8 := if winBad lo hi then [] else winText lo hi
def winErr (lo hi : Int) : Int := if winBad lo hi then 1 else 0



end Go.Proofs.YteojggbmkppjoaaGreatDoor
namespace Go.Proofs.YteojggbmkppjoaaGreatDoor
open Go.RowKit
set_option linter.unusedVariables false
set_option linter.unusedSimpArgs false

/-- strings.Cut at one byte, as a recursion: before, behind, found -/
def cutAt (c : UInt8) : List UInt8 → List UInt8 × List UInt8 × Bool
  | [] => ([], [], false)
  | x :: l => if x = c then ([], l, true) else (x :: (cutAt c l).1, (cutAt c l).2.1, (cutAt c l).2.2)
def headIs (c : UInt8) (l : List UInt8) : Bool := l.head? == some c
def lastIs (c : UInt8) (l : List UInt8) : Bool := l.getLast? == some c

theorem index_one (c : UInt8) (l : List UInt8) :
    (Lib.index l [c] = -1 ∧ cutAt c l = (l, [], false)) ∨ ∃ i : Nat, Lib.index l [c] = i ∧ cutAt c l = (l.take i, l.drop (i + 1), true) := by
  induction l with
  | nil => exact .inl ⟨rfl, rfl⟩
  | cons x l ih =>
    unfold Lib.index cutAt
    by_cases h : x = c
    · subst h
      exact .inr ⟨0, by simp, by simp⟩
    · have h1 : ([c].isPrefixOf (x :: l)) = false := by simp [List.isPrefixOf, Ne.symm h]
      rw [h1]
      rcases ih with ⟨h2, h3⟩ | ⟨i, h2, h3⟩
      · rw [h2, h3]; exact .inl ⟨by simp, by simp [h]⟩
      · rw [h2, h3]
        have h4 : ((i : Int) == -1) = false := by rw [beq_eq_false_iff_ne]; omega
        exact .inr ⟨i + 1, by simp [h4], by simp [h]⟩
theorem cut_one (c : UInt8) (l : List UInt8) : Lib.cut l [c] = cutAt c l := by
  unfold Lib.cut
  rcases index_one c l with ⟨h1, h2⟩ | ⟨i, h1, h2⟩
  · rw [h1, h2]; rfl
  · rw [h1, h2, if_pos (by omega)]; simp
theorem cutAt_len (c : UInt8) (l : List UInt8) : (cutAt c l).1.length ≤ l.length ∧ (cutAt c l).2.1.length ≤ l.length := by
  rcases index_one c l with ⟨h1, h2⟩ | ⟨i, h1, h2⟩
  · rw [h2]; simp
  · rw [h2]; simp; omega

theorem str_len {a : List UInt8} {s : ByteArray} (h : a.length ≤ (bl s).length) : (sb a).size ≤ s.size := h

/-- only draws -/
def Drawn (w w' : World) : Prop := ∃ m, w' = w.drewN m
theorem Drawn.refl (w : World) : Drawn w w := ⟨0, rfl⟩
theorem Drawn.trans {a b c : World} (h : Drawn a b) (k : Drawn b c) : Drawn a c := by
  obtain ⟨m, rfl⟩ := h
  obtain ⟨n, rfl⟩ := k
  exact ⟨m + n, by rw [World.drewN_drewN]⟩
theorem Drawn.more {w w' : World} (h : Drawn w w') (n : Nat) : Drawn w (w'.drewN n) := h.trans ⟨n, rfl⟩
theorem Drawn.below {w w' : World} (h : Drawn w w') {b : Nat} : Below b w w' := by
  obtain ⟨m, rfl⟩ := h
  exact below_drewN' (Below.refl _ _) m
def CutPost (s : ByteArray) (c : UInt8) (w : World) (e : Ending) (w' : World) : Prop :=
  ∃ a b f, e = .returned (.tuple #[.string a, .string b, .bool f]) ∧ Hid (cutAt c (bl s) = (bl a, bl b, f)) ∧ a.size ≤ s.size ∧ b.size ≤ s.size ∧ Drawn w w'
theorem cutAt_byte (c : UInt8) (l : List UInt8) :
    (Lib.indexByte l c = -1 ∧ cutAt c l = (l, [], false)) ∨ ∃ i : Nat, Lib.indexByte l c = i ∧ i < l.length ∧ cutAt c l = (l.take i, l.drop (i + 1), true) := by
  induction l with
  | nil => exact .inl ⟨rfl, rfl⟩
  | cons x l ih =>
    unfold Lib.indexByte cutAt
    by_cases h : x = c
    · subst h
      exact .inr ⟨0, by simp, by simp, by simp⟩
    · have h1 : (x == c) = false := beq_eq_false_iff_ne.2 h
      rw [h1]
      rcases ih with ⟨h2, h3⟩ | ⟨i, h2, h4, h3⟩
      · rw [h2, h3]; exact .inl ⟨by simp, by simp [h]⟩
      · rw [h2, h3]
        have h5 : ((i : Int) == -1) = false := by rw [beq_eq_false_iff_ne]; omega
        exact .inr ⟨i + 1, by simp [h5], by simp; omega, by simp [h]⟩
theorem cut_ways (s : ByteArray) (c : UInt8) : (∃ h : Hid (cutAt c (bl s) = (bl s, [], false)), Lib.indexByte s.data.toList c = -1) ∨
    ∃ i : Nat, i < s.size ∧ Lib.indexByte s.data.toList c = i ∧ Hid (cutAt c (bl s) = (bl (s.extract 0 i), bl (s.extract (i + 1) s.size), true)) := by
  rcases cutAt_byte c (bl s) with ⟨h1, h2⟩ | ⟨i, h1, h2, h3⟩
  · exact .inl ⟨h2, h1⟩
  · refine .inr ⟨i, h2, h1, ?_⟩
    unfold Hid
    rw [h3, bl_extract, bl_extract, List.drop_zero, Nat.sub_zero, List.take_of_length_le (l := (bl s).drop (i + 1)) (by rw [List.length_drop, bl_len]; omega)]
set_option maxHeartbeats 400000 in
theorem slCut_any (s : ByteArray) (c : UInt8) (w : World) (hs : s.size ≤ maxLen) :
    Calls Tryz.prog 72 #[.string s, .string ⟨#[c]⟩] w (CutPost s c w) := by
  unfold maxLen at hs
  rcases cut_ways s c with ⟨h, hi⟩ | ⟨i, hi, hx, h⟩
  · have HI := Lib.hid hi
    clear hi
    go_enter Tryz.func72, Tryz.ntmps72
    go_wp2_with fail
    refine (Tryz.stringslite_Index_one s c _).mono ?_
    rintro e w1 ⟨rfl, rfl⟩
    rw [HI.out]
    go_wp2
    go_ret3
    exact ⟨s, ⟨#[]⟩, false, rfl, h, Nat.le_refl _, Nat.zero_le _, Drawn.refl _⟩
  · have HI := Lib.hid hx
    clear hx
    have hsa : (s.extract 0 i).size ≤ s.size := by rw [ByteArray.size_extract]; omega
    have hsb : (s.extract (i + 1) s.size).size ≤ s.size := by rw [ByteArray.size_extract]; omega
    go_enter Tryz.func72, Tryz.ntmps72
    go_wp2_with fail
    refine (Tryz.stringslite_Index_one s c _).mono ?_
    rintro e w1 ⟨rfl, rfl⟩
    rw [HI.out]
    go_wp2
    go_quiet (fail)
    go_wp2
    go_ret3
    exact ⟨_, _, true, rfl, h, hsa, hsb, _, rfl⟩
set_option maxHeartbeats 400000 in
theorem cutAny (s : ByteArray) (c : UInt8) (w : World) (hs : s.size ≤ maxLen) :
    Calls Tryz.prog 38 #[.string s, .string ⟨#[c]⟩] w (CutPost s c w) := by
  go_enter Tryz.func38, Tryz.ntmps38
  go_wp2_with fail
  refine (slCut_any s c _ hs).mono ?_
  rintro e w1 ⟨a, b, f, rfl, h⟩
  go_wp2
  go_ret3
  exact ⟨a, b, f, rfl, h⟩

/-- strings.Cut(s, one byte) -/
theorem cut1 (s : ByteArray) (c : UInt8) (w : World) (E : Env w) (hs : s.size ≤ 140737488351232) :
    Calls Tryz.prog 38 #[.string s, .string ⟨#[c]⟩] w fun e w' => ∃ a b f, e = .returned (.tuple #[.string a, .string b, .bool f]) ∧ Hid (cutAt c (bl s) = (bl a, bl b, f)) ∧ a.size ≤ s.size ∧ b.size ≤ s.size ∧ Below w.heap.size w w' :=
  (cutAny s c w (by unfold maxLen; omega)).mono fun _ _ ⟨a, b, f, h1, h2, h3, h4, h5⟩ => ⟨a, b, f, h1, h2, h3, h4, h5.below⟩

/-- strings.CutPrefix(s, one byte) -/
theorem cutPrefix1 (s : ByteArray) (c : UInt8) (w : World) :
    Calls Tryz.prog 134 #[.string s, .string ⟨#[c]⟩] w fun e w' => ∃ r f, e = .returned (.tuple #[.string r, .bool f]) ∧ Hid (f = headIs c (bl s)) ∧ Hid (bl r = if f then (bl s).tail else bl s) ∧ r.size ≤ s.size ∧ w = w' := by
  refine (Tryz.strings_CutPrefix s ⟨#[c]⟩ w).mono ?_
  rintro e w' ⟨rfl, rfl⟩
  have h1 : Lib.hasPrefix s.data.toList (⟨#[c]⟩ : ByteArray).data.toList = headIs c (bl s) := by
    show Lib.hasPrefix (bl s) [c] = _
    unfold Lib.hasPrefix headIs
    cases bl s with
    | nil => rfl
    | cons x l => simp [List.isPrefixOf, Bool.beq_comm (a := c)]
  have h2 : Lib.trimPrefix s.data.toList (⟨#[c]⟩ : ByteArray).data.toList = if headIs c (bl s) then (bl s).tail else bl s := by
    unfold Lib.trimPrefix
    rw [h1]
    show (if headIs c (bl s) then (bl s).drop 1 else bl s) = _
    rw [List.drop_one]
  rw [h1, h2]
  refine ⟨sb _, _, rfl, rfl, rfl, ?_, rfl⟩
  apply str_len
  split
  · simp
  · exact Nat.le_refl _
end Go.Proofs.YteojggbmkppjoaaGreatDoor
namespace Go.Proofs.YteojggbmkppjoaaGreatDoor
open Go.RowKit
set_option linter.unusedVariables false
set_option linter.unusedSimpArgs false

/-! ### regions of two letters or digits -/
def shortB (l : List UInt8) : Bool := l.length == 2 && l.all nameC
theorem shortB_len {s : ByteArray} (h : ¬ s.size = 2) : shortB (bl s) = false := by
  unfold shortB
  have : ((bl s).length == 2) = false := by rw [beq_eq_false_iff_ne]; exact h
  rw [this]; rfl
theorem shortB_of {s : ByteArray} (h : s.size = 2) : shortB (bl s) = (bl s).all nameC := by
  unfold shortB
  have : ((bl s).length == 2) = true := by rw [beq_iff_eq]; exact h
  rw [this]; rfl
theorem short_no {s : ByteArray} {k : Nat} (h2 : s.size = 2) (hk : k < s.size) (h : (s[k].toNat : Int) < 65 ∨ 90 < (s[k].toNat : Int)) (h' : (s[k].toNat : Int) < 48 ∨ 57 < (s[k].toNat : Int)) : false = shortB (bl s) := by
  rw [shortB_of h2, all_false_at (l := bl s) (k := k) hk (nameC_no h h')]
theorem nameC_ways (c : UInt8) : (Hid (nameC c = true) ∧ ((65 ≤ (c.toNat : Int) ∧ (c.toNat : Int) ≤ 90) ∨ ((c.toNat : Int) < 65 ∧ 48 ≤ (c.toNat : Int) ∧ (c.toNat : Int) ≤ 57))) ∨
    (Hid (nameC c = false) ∧ (((c.toNat : Int) < 65 ∧ (c.toNat : Int) < 48) ∨ ((c.toNat : Int) < 65 ∧ 48 ≤ (c.toNat : Int) ∧ 57 < (c.toNat : Int)) ∨ (65 ≤ (c.toNat : Int) ∧ 90 < (c.toNat : Int) ∧ 48 ≤ (c.toNat : Int) ∧ 57 < (c.toNat : Int)))) := by
  by_cases h : (65 ≤ (c.toNat : Int) ∧ (c.toNat : Int) ≤ 90) ∨ (48 ≤ (c.toNat : Int) ∧ (c.toNat : Int) ≤ 57)
  · exact .inl ⟨nameC_yes h, by omega⟩
  · exact .inr ⟨nameC_no (by omega) (by omega), by omega⟩
set_option maxHeartbeats 1000000 in
theorem short_any (s : ByteArray) (w : World) (hs : s.size ≤ maxLen) :
    Calls Tryz.prog 40 #[.string s] w fun e w' => e = .returned (.bool (shortB (bl s))) ∧ w = w' := by
  unfold maxLen at hs
  by_cases h2 : s.size = 2
  · have H2 := Lib.hid h2
    have e2 : ((s.size : Int) != 2) = false := by rw [bne_eq_false_iff_eq]; omega
    have b1 : 2 ≤ s.size := by omega
    have b2 : s.size ≤ 2 := by omega
    clear h2
    go_enter Tryz.func40, Tryz.ntmps40
    go_wp2
    go_loop [9] (fun i => ∃ k : Nat, k ≤ s.size ∧ i = .int .i64 k ∧ Hid (((bl s).take k).all nameC = true)) (fun i => s.size - (intOf i).toNat)
    case atStart => exact ⟨0, Nat.zero_le _, rfl, rfl⟩
    case round =>
      obtain ⟨k, hk, rfl, hall⟩ := hrel
      by_cases h : k < s.size
      · have hk2 : (k : Int) < 2 := by omega
        rcases nameC_ways s[k] with ⟨hn, hc⟩ | ⟨hn, hc⟩
        · have HA := Lib.hid (all_take_succ hall.out h hn.out)
          clear hn
          rcases hc with ⟨c1, c2⟩ | ⟨c1, c2, c3⟩
          all_goals
            go_wp2
            go_round
            case rel => exact ⟨k + 1, h, by go_num, HA.out⟩
            case measure => simp [intOf]; omega
        · have HF : Hid (shortB (bl s) = false) := by unfold Hid; rw [shortB_of H2.out, all_false_at (l := bl s) (k := k) h hn.out]
          clear hn
          rcases hc with ⟨c1, c2⟩ | ⟨c1, c2, c3⟩ | ⟨c1, c2, c3, c4⟩
          all_goals
            go_wp2
            go_ret
            exact ⟨ret_bool HF.out.symm, rfl⟩
      · have hk2 : (2 : Int) ≤ (k : Int) := by omega
        go_wp2
        go_ret
        exact ⟨ret_bool (by rw [shortB_of H2.out, all_take_all hall.out (by rw [bl_len]; omega)]), rfl⟩
  · have e2 : ((s.size : Int) != 2) = true := by rw [bne_iff_ne]; omega
    have HF := Lib.hid (shortB_len h2)
    clear h2
    go_enter Tryz.func40, Tryz.ntmps40
    go_wp2
    go_ret
    exact ⟨ret_bool HF.out.symm, rfl⟩

/-! ### references -/
def refB (a b : List UInt8) : Bool := nameB a 6 && (nameB b 6 || shortB b)
def refErr (l : List UInt8) : Int := if (cutAt 47 l).2.2 then (if refB (cutAt 47 l).1 (cutAt 47 l).2.1 then 0 else 5) else 4
def refFst (l : List UInt8) : List UInt8 := if refErr l = 0 then (cutAt 47 l).1 else []
def refSnd (l : List UInt8) : List UInt8 := if refErr l = 0 then (cutAt 47 l).2.1 else []
def RefTPost (s : ByteArray) (w : World) (e : Ending) (w' : World) : Prop :=
  ∃ a b, e = .returned (.tuple #[.string a, .string b, .int .i64 (refErr (bl s))]) ∧ Hid (bl a = refFst (bl s)) ∧ Hid (bl b = refSnd (bl s)) ∧ a.size ≤ s.size ∧ b.size ≤ s.size ∧ Drawn w w'
theorem refErr_no {s : ByteArray} {x y : List UInt8} (h : cutAt 47 (bl s) = (x, y, false)) : refErr (bl s) = 4 := by unfold refErr; rw [h]; rfl
theorem refErr_yes {s : ByteArray} {x y : List UInt8} (h : cutAt 47 (bl s) = (x, y, true)) : refErr (bl s) = if refB x y then 0 else 5 := by unfold refErr; rw [h]; rfl
theorem refTPost_bad {s : ByteArray} {w w' : World} {n : Int} (h : refErr (bl s) = n) (h0 : n ≠ 0) (hd : Drawn w w') : RefTPost s w (.returned (.tuple #[.string ⟨#[]⟩, .string ⟨#[]⟩, .int .i64 n])) w' := by
  subst h
  refine ⟨_, _, rfl, ?_, ?_, Nat.zero_le _, Nat.zero_le _, hd⟩
  · unfold Hid refFst; rw [if_neg h0]; rfl
  · unfold Hid refSnd; rw [if_neg h0]; rfl
theorem refTPost_ok {s a b : ByteArray} {w w' : World} (h : cutAt 47 (bl s) = (bl a, bl b, true)) (hr : refB (bl a) (bl b) = true) (ha : a.size ≤ s.size) (hb : b.size ≤ s.size) (hd : Drawn w w') : RefTPost s w (.returned (.tuple #[.string a, .string b, .int .i64 0])) w' := by
  have h0 : refErr (bl s) = 0 := by rw [refErr_yes h, if_pos hr]
  refine ⟨a, b, by rw [h0], ?_, ?_, ha, hb, hd⟩
  · unfold Hid refFst; rw [if_pos h0, h]
  · unfold Hid refSnd; rw [if_pos h0, h]
theorem refB_ways (a b : List UInt8) : (nameB a 6 = false ∧ Hid (refB a b = false)) ∨ (nameB a 6 = true ∧ ((nameB b 6 = true ∧ Hid (refB a b = true)) ∨ (nameB b 6 = false ∧ ((shortB b = true ∧ Hid (refB a b = true)) ∨ (shortB b = false ∧ Hid (refB a b = false)))))) := by
  unfold refB Hid
  cases nameB a 6 <;> cases nameB b 6 <;> cases shortB b <;> simp
set_option maxHeartbeats 1000000 in
theorem splitRef_any (s : ByteArray) (w : World) (hs : s.size ≤ maxLen) :
    Calls Tryz.prog 13 #[.string s] w (RefTPost s w) := by
  go_enter Tryz.func13, Tryz.ntmps13
  go_wp2_with fail
  refine (cutAny s 47 _ hs).mono ?_
  rintro e w1 ⟨a, b, f, rfl, hcut, has, hbs, hd⟩
  cases f
  · go_wp2
    go_ret3
    exact refTPost_bad (refErr_no hcut.out) (by decide) hd
  · go_wp2_with fail
    refine (name_any a 6 _ (Nat.le_trans has hs)).mono ?_
    rintro e w' ⟨rfl, rfl⟩
    rcases refB_ways (bl a) (bl b) with ⟨h1, hr⟩ | ⟨h1, ⟨h2, hr⟩ | ⟨h2, ⟨h3, hr⟩ | ⟨h3, hr⟩⟩⟩
    · rw [h1]
      clear h1
      go_wp2
      go_ret3
      exact refTPost_bad (n := 5) (by rw [refErr_yes hcut.out, hr.out]; rfl) (by decide) hd
    all_goals
      rw [h1]
      have H2 := Lib.hid h2
      clear h1 h2
      go_wp2_with fail
      refine (name_any b 6 _ (Nat.le_trans hbs hs)).mono ?_
      rintro e w' ⟨rfl, rfl⟩
      rw [H2.out]
    · go_wp2
      go_ret3
      exact refTPost_ok hcut.out hr.out has hbs hd
    all_goals
      have H3 := Lib.hid h3
      clear h3
      go_wp2_with fail
      refine (short_any b _ (Nat.le_trans hbs hs)).mono ?_
      rintro e w' ⟨rfl, rfl⟩
      rw [H3.out]
    · go_wp2
      go_ret3
      exact refTPost_ok hcut.out hr.out has hbs hd
    · go_wp2
      go_ret3
      exact refTPost_bad (n := 5) (by rw [refErr_yes hcut.out, hr.out]; rfl) (by decide) hd
theorem cutHere {s : ByteArray} {j : Nat} (c : UInt8) (hj : j < s.size) (h : s[j] = c) (hn : c ∉ (bl s).take j) : cutAt c (bl s) = (bl (s.extract 0 j), bl (s.extract (j + 1) s.size), true) := by
  rcases cut_ways s c with ⟨h1, _⟩ | ⟨i, hi, _, h1⟩
  · exfalso
    have hm : c ∈ bl s := by rw [← h]; exact List.getElem_mem (l := bl s) (n := j) hj
    rcases cutAt_byte c (bl s) with ⟨h2, _⟩ | ⟨i, _, _, h3⟩
    · obtain ⟨k, hk, hk2⟩ := List.getElem_of_mem hm
      exact Lib.indexByte_none h2 k (by rw [List.getElem?_eq_getElem hk, hk2])
    · rw [h1.out] at h3; simp at h3
  · rcases cutAt_byte c (bl s) with ⟨_, h3⟩ | ⟨k, h2, hk, h3⟩
    · rw [h1.out] at h3; simp at h3
    · obtain ⟨k1, k2⟩ := Lib.indexByte_some h2
      have hkj : k = j := by
        rcases Nat.lt_trichotomy k j with hlt | heq | hgt
        · exfalso
          apply hn
          have : ((bl s).take j)[k]? = some c := by rw [List.getElem?_take, if_pos hlt]; exact k1
          exact List.mem_of_getElem? this
        · exact heq
        · exact absurd (by rw [bl_get? s j hj, h]) (k2 j hgt)
      subst hkj
      rw [h3, bl_extract, bl_extract, List.drop_zero, Nat.sub_zero, List.take_of_length_le (l := (bl s).drop (k + 1)) (by rw [List.length_drop, bl_len]; omega)]
theorem cutNone {s : ByteArray} {j : Nat} (c : UInt8) (hj : s.size ≤ j) (hn : c ∉ (bl s).take j) : cutAt c (bl s) = (bl s, [], false) := by
  rw [List.take_of_length_le (by rw [bl_len]; exact hj)] at hn
  rcases cutAt_byte c (bl s) with ⟨_, h3⟩ | ⟨k, h2, hk, h3⟩
  · exact h3
  · exact absurd (List.mem_of_getElem? (Lib.indexByte_some h2).1) hn
theorem notinMore {s : ByteArray} {j : Nat} {c : UInt8} (hj : j < s.size) (h : s[j] ≠ c) (hn : c ∉ (bl s).take j) : c ∉ (bl s).take (j + 1) := by
  rw [List.take_succ_eq_append_getElem (show j < (bl s).length from hj), List.mem_append, List.mem_singleton]
  rintro (e | e)
  · exact hn e
  · exact h e.symm
end Go.Proofs.YteojggbmkppjoaaGreatDoor
