/-
  Several texts as one.
-/
import Derived.Test.YtgmehlgfilpleaaGreatDoorBase
namespace Go.Proofs.YtgmehlgfilpleaaGreatDoor
open Go.RowKit
set_option linter.unusedVariables false
set_option linter.unusedSimpArgs false

def digitB (c : UInt8) : Bool := decide (48 ≤ c.toNat) && decide (c.toNat ≤ 57)
def upperB (c : UInt8) : Bool := decide (65 ≤ c.toNat) && decide (c.toNat ≤ 90)
def nameC (c : UInt8) : Bool := upperB c || digitB c
def zeroAhead (l : List UInt8) : Bool := decide (1 < l.length) && l.headD 0 == 48
def plainB (l : List UInt8) : Bool := !l.isEmpty && !zeroAhead l && l.all digitB
def nameB (l : List UInt8) (most : Int) : Bool := decide (0 < l.length) && decide ((l.length : Int) ≤ most) && upperB (l.headD 0) && l.all nameC
def rangedB (a : Int) : Bool := decide (-200000 ≤ a) && decide (a ≤ 6000000)

theorem zeroAhead_yes {s : ByteArray} (h1 : 1 < s.size) (h : s[0].toNat = 48) : zeroAhead (bl s) = true := by
  unfold zeroAhead
  rw [bl_head s (by omega), bl_len, (u8_eq (n := 48) (by omega)).1 h]; simp [h1]
theorem zeroAhead_no {s : ByteArray} (h1 : 1 < s.size) (h : ¬ s[0].toNat = 48) : zeroAhead (bl s) = false := by
  unfold zeroAhead
  rw [bl_head s (by omega)]
  have : (s[0] == 48) = false := by
    rw [beq_eq_false_iff_ne]; intro e; apply h; rw [e]; rfl
  rw [this]; simp
theorem zeroAhead_short {s : ByteArray} (h1 : s.size ≤ 1) : zeroAhead (bl s) = false := by
  unfold zeroAhead
  rw [bl_len, decide_eq_false (by omega)]; rfl
theorem plainB_of {s : ByteArray} (h0 : 0 < s.size) (h : zeroAhead (bl s) = false) : plainB (bl s) = (bl s).all digitB := by
  unfold plainB
  have : (bl s).isEmpty = false := by
    rw [← Bool.not_eq_true, List.isEmpty_iff]; intro e; have := bl_nil_iff.1 e; omega
  rw [this, h]; rfl
theorem plainB_zero {s : ByteArray} (h : zeroAhead (bl s) = true) : plainB (bl s) = false := by
  unfold plainB; rw [h]; simp
theorem plainB_nil {s : ByteArray} (h : s.size = 0) : plainB (bl s) = false := by rw [bl_nil h]; rfl
theorem digitB_no {c : UInt8} (h : (c.toNat : Int) < 48 ∨ 57 < (c.toNat : Int)) : digitB c = false := by
  unfold digitB; rcases h with h | h
  · rw [decide_eq_false (by omega)]; rfl
  · rw [decide_eq_false (p := c.toNat ≤ 57) (by omega), Bool.and_false]
theorem digitB_yes {c : UInt8} (h1 : 48 ≤ (c.toNat : Int)) (h2 : (c.toNat : Int) ≤ 57) : digitB c = true := by
  unfold digitB; rw [decide_eq_true (by omega), decide_eq_true (by omega)]; rfl
theorem upperB_no {c : UInt8} (h : (c.toNat : Int) < 65 ∨ 90 < (c.toNat : Int)) : upperB c = false := by
  unfold upperB; rcases h with h | h
  · rw [decide_eq_false (by omega)]; rfl
  · rw [decide_eq_false (p := c.toNat ≤ 90) (by omega), Bool.and_false]
theorem upperB_yes {c : UInt8} (h1 : 65 ≤ (c.toNat : Int)) (h2 : (c.toNat : Int) ≤ 90) : upperB c = true := by
  unfold upperB; rw [decide_eq_true (by omega), decide_eq_true (by omega)]; rfl
theorem plain_no {s : ByteArray} {k : Nat} (HP : plainB (bl s) = (bl s).all digitB) (hk : k < s.size) (h : (s[k].toNat : Int) < 48 ∨ 57 < (s[k].toNat : Int)) : false = plainB (bl s) := by
  rw [HP, all_false_at (l := bl s) (k := k) hk (digitB_no h)]
theorem plain_yes {s : ByteArray} {k : Nat} (HP : plainB (bl s) = (bl s).all digitB) (hk : ¬ k < s.size) (h : ((bl s).take k).all digitB = true) : true = plainB (bl s) := by
  rw [HP, all_take_all h (by rw [bl_len]; omega)]

set_option maxHeartbeats 400000 in
theorem plain_zero (s : ByteArray) (w : World) (hs : s.size ≤ maxLen) (h1 : 1 < s.size) (h : s[0].toNat = 48) :
    Calls Tryz.prog 363 #[.string s] w fun e w' => e = .returned (.bool false) ∧ w = w' := by
  unfold maxLen at hs
  have hb : ((s.size : Int) == 0) = false := by simp only [beq_eq_false_iff_ne, ne_eq]; omega
  have hd : ((s[0].toNat : Int) == 48) = true := by rw [beq_iff_eq]; omega
  clear h
  go_enter Tryz.func363, Tryz.ntmps363
  go_wp2
  go_ret
  exact ⟨rfl, rfl⟩
set_option maxHeartbeats 400000 in
theorem plain_nil (s : ByteArray) (w : World) (hb : ((s.size : Int) == 0) = true) :
    Calls Tryz.prog 363 #[.string s] w fun e w' => e = .returned (.bool false) ∧ w = w' := by
  go_enter Tryz.func363, Tryz.ntmps363
  go_wp2
  go_ret
  exact ⟨rfl, rfl⟩
set_option maxHeartbeats 400000 in
theorem plain_loop (s : ByteArray) (w : World) (hs : s.size ≤ maxLen) (h0 : 0 < s.size) (hz : Hid (zeroAhead (bl s) = false)) (hd : ∀ h : 1 < s.size, Hid (((s[0].toNat : Int) == 48) = false)) :
    Calls Tryz.prog 363 #[.string s] w fun e w' => e = .returned (.bool (plainB (bl s))) ∧ w = w' := by
  unfold maxLen at hs
  have HP := Lib.hid (plainB_of h0 hz.out)
  have hb : ((s.size : Int) == 0) = false := by simp only [beq_eq_false_iff_ne, ne_eq]; omega
  have hd2 : (∃ h : 1 < s.size, ((s[0].toNat : Int) == 48) = false) ∨ s.size ≤ 1 := by
    by_cases h1 : 1 < s.size
    · exact .inl ⟨h1, (hd h1).out⟩
    · exact .inr (by omega)
  clear hd
  rcases hd2 with ⟨h1, hd⟩ | h1
  all_goals
    go_enter Tryz.func363, Tryz.ntmps363
    go_wp2
    go_loop [19] (fun i => ∃ k : Nat, k ≤ s.size ∧ i = .int .i64 k ∧ Hid (((bl s).take k).all digitB = true)) (fun i => s.size - (intOf i).toNat)
    case atStart => exact ⟨0, Nat.zero_le _, rfl, rfl⟩
    case round =>
      obtain ⟨k, hk, rfl, hall⟩ := hrel
      go_wp2
      · go_ret
        exact ⟨ret_bool (plain_no HP.out ‹_› ‹_ ∨ _›), rfl⟩
      · have h : k < s.size := by assumption
        go_round
        case rel => exact ⟨k+1, h, by go_num, all_take_succ hall.out h (digitB_yes (‹_ ∧ _›).1 (‹_ ∧ _›).2)⟩
        case measure => simp [intOf]; omega
      · go_ret
        exact ⟨ret_bool (plain_no HP.out ‹_› (.inl ‹_›)), rfl⟩
      · go_ret
        exact ⟨ret_bool (plain_yes HP.out ‹_› hall.out), rfl⟩
theorem plain_any (s : ByteArray) (w : World) (hs : s.size ≤ maxLen) :
    Calls Tryz.prog 363 #[.string s] w fun e w' => e = .returned (.bool (plainB (bl s))) ∧ w = w' := by
  rcases Nat.eq_zero_or_pos s.size with h0 | h0
  · rw [plainB_nil h0]; exact plain_nil s w (by rw [beq_iff_eq]; omega)
  · by_cases h1 : 1 < s.size
    · by_cases h : s[0].toNat = 48
      · rw [plainB_zero (zeroAhead_yes h1 h)]; exact plain_zero s w hs h1 h
      · exact plain_loop s w hs h0 (zeroAhead_no h1 h) (fun _ => by show (_ == _) = false; rw [beq_eq_false_iff_ne]; omega)
    · exact plain_loop s w hs h0 (zeroAhead_short (by omega)) (fun h => absurd h h1)

theorem nameC_yes {c : UInt8} (h : (65 ≤ (c.toNat : Int) ∧ (c.toNat : Int) ≤ 90) ∨ (48 ≤ (c.toNat : Int) ∧ (c.toNat : Int) ≤ 57)) : nameC c = true := by
  unfold nameC; rcases h with h | h
  · rw [upperB_yes h.1 h.2]; rfl
  · rw [digitB_yes h.1 h.2, Bool.or_true]
theorem nameC_no {c : UInt8} (h : (c.toNat : Int) < 65 ∨ 90 < (c.toNat : Int)) (h' : (c.toNat : Int) < 48 ∨ 57 < (c.toNat : Int)) : nameC c = false := by
  unfold nameC; rw [upperB_no h, digitB_no h']; rfl
theorem nameB_nil {s : ByteArray} {m : Int} (h : s.size = 0) : nameB (bl s) m = false := by rw [bl_nil h]; rfl
theorem nameB_long {s : ByteArray} {m : Int} (h : m < s.size) : nameB (bl s) m = false := by
  unfold nameB; rw [bl_len, decide_eq_false (p := (s.size : Int) ≤ m) (by omega)]; simp
theorem nameB_head {s : ByteArray} {m : Int} (h0 : 0 < s.size) (h : (s[0].toNat : Int) < 65 ∨ 90 < (s[0].toNat : Int)) : nameB (bl s) m = false := by
  unfold nameB; rw [bl_head s h0, upperB_no h]; simp
theorem nameB_of {s : ByteArray} {m : Int} (h0 : 0 < s.size) (hm : (s.size : Int) ≤ m) (h1 : 65 ≤ (s[0].toNat : Int)) (h2 : (s[0].toNat : Int) ≤ 90) : nameB (bl s) m = (bl s).all nameC := by
  unfold nameB; rw [bl_head s h0, upperB_yes h1 h2, bl_len, decide_eq_true h0, decide_eq_true hm]; rfl
theorem name_no {s : ByteArray} {k : Nat} {m : Int} (HP : nameB (bl s) m = (bl s).all nameC) (hk : k < s.size) (h : (s[k].toNat : Int) < 65 ∨ 90 < (s[k].toNat : Int)) (h' : (s[k].toNat : Int) < 48 ∨ 57 < (s[k].toNat : Int)) : false = nameB (bl s) m := by
  rw [HP, all_false_at (l := bl s) (k := k) hk (nameC_no h h')]
theorem name_yes {s : ByteArray} {k : Nat} {m : Int} (HP : nameB (bl s) m = (bl s).all nameC) (hk : ¬ k < s.size) (h : ((bl s).take k).all nameC = true) : true = nameB (bl s) m := by
  rw [HP, all_take_all h (by rw [bl_len]; omega)]

set_option maxHeartbeats 400000 in
theorem name_short (s : ByteArray) (m : Int) (w : World) (hs : s.size ≤ maxLen) (h0 : s.size = 0 ∨ m < s.size) :
    Calls Tryz.prog 68 #[.string s, .int .i64 m] w fun e w' => e = .returned (.bool false) ∧ w = w' := by
  unfold maxLen at hs
  have h : ((s.size : Int) == 0) = true ∧ (s.size : Int) < 1 ∨ (((s.size : Int) == 0) = false ∧ 1 ≤ (s.size : Int)) ∧ m < s.size := by
    rcases Nat.eq_zero_or_pos s.size with h | h
    · exact .inl ⟨by rw [beq_iff_eq]; omega, by omega⟩
    · exact .inr ⟨⟨by rw [beq_eq_false_iff_ne]; omega, by omega⟩, by omega⟩
  clear h0
  rcases h with ⟨h, hl⟩ | ⟨⟨h, hl⟩, hm⟩
  all_goals
    go_enter Tryz.func68, Tryz.ntmps68
    go_wp2
    go_ret
    exact ⟨rfl, rfl⟩
set_option maxHeartbeats 400000 in
theorem name_head (s : ByteArray) (m : Int) (w : World) (hs : s.size ≤ maxLen) (h0 : 0 < s.size) (hm : (s.size : Int) ≤ m) (h : (s[0].toNat : Int) < 65 ∨ 90 < (s[0].toNat : Int)) :
    Calls Tryz.prog 68 #[.string s, .int .i64 m] w fun e w' => e = .returned (.bool false) ∧ w = w' := by
  unfold maxLen at hs
  have hb : ((s.size : Int) == 0) = false := by rw [beq_eq_false_iff_ne]; omega
  have hl : 1 ≤ (s.size : Int) := by omega
  have h' : (s[0].toNat : Int) < 65 ∨ 65 ≤ (s[0].toNat : Int) ∧ 90 < (s[0].toNat : Int) := by omega
  clear h
  rcases h' with h | ⟨h, h2⟩
  all_goals
    go_enter Tryz.func68, Tryz.ntmps68
    go_wp2
    go_ret
    exact ⟨rfl, rfl⟩
set_option maxHeartbeats 1000000 in
theorem name_loop (s : ByteArray) (m : Int) (w : World) (hs : s.size ≤ maxLen) (h0 : 0 < s.size) (hm : (s.size : Int) ≤ m) (h1 : 65 ≤ (s[0].toNat : Int)) (h2 : (s[0].toNat : Int) ≤ 90) :
    Calls Tryz.prog 68 #[.string s, .int .i64 m] w fun e w' => e = .returned (.bool (nameB (bl s) m)) ∧ w = w' := by
  have HP := Lib.hid (nameB_of h0 hm h1 h2)
  unfold maxLen at hs
  have hb : ((s.size : Int) == 0) = false := by rw [beq_eq_false_iff_ne]; omega
  have hl : 1 ≤ (s.size : Int) := by omega
  go_enter Tryz.func68, Tryz.ntmps68
  go_wp2
  clear h1 h2
  go_loop [27] (fun i => ∃ k : Nat, k ≤ s.size ∧ i = .int .i64 k ∧ Hid (((bl s).take k).all nameC = true)) (fun i => s.size - (intOf i).toNat)
  case atStart => exact ⟨0, Nat.zero_le _, rfl, rfl⟩
  case round =>
    obtain ⟨k, hk, rfl, hall⟩ := hrel
    by_cases h : k < s.size
    · have hc : ((65 ≤ (s[k].toNat : Int) ∧ (s[k].toNat : Int) ≤ 90) ∨ ((s[k].toNat : Int) < 65 ∧ 48 ≤ (s[k].toNat : Int) ∧ (s[k].toNat : Int) ≤ 57)) ∨ ((s[k].toNat : Int) < 48 ∨ (90 < (s[k].toNat : Int)) ∨ (57 < (s[k].toNat : Int) ∧ (s[k].toNat : Int) < 65)) := by omega
      rcases hc with (⟨c1, c2⟩ | ⟨c0, c1, c2⟩) | (c1 | c1 | ⟨c1, c2⟩)
      · go_wp2
        go_round
        case rel => exact ⟨k+1, h, by go_num, all_take_succ hall.out h (nameC_yes (.inl ⟨c1, c2⟩))⟩
        case measure => simp [intOf]; omega
      · go_wp2
        go_round
        case rel => exact ⟨k+1, h, by go_num, all_take_succ hall.out h (nameC_yes (.inr ⟨c1, c2⟩))⟩
        case measure => simp [intOf]; omega
      all_goals
        go_wp2
        go_ret
        exact ⟨ret_bool (name_no HP.out h (by omega) (by omega)), rfl⟩
    · go_wp2
      go_ret
      exact ⟨ret_bool (name_yes HP.out h hall.out), rfl⟩
theorem name_any (s : ByteArray) (m : Int) (w : World) (hs : s.size ≤ maxLen) :
    Calls Tryz.prog 68 #[.string s, .int .i64 m] w fun e w' => e = .returned (.bool (nameB (bl s) m)) ∧ w = w' := by
  by_cases h0 : s.size = 0
  · rw [nameB_nil h0]; exact name_short s m w hs (.inl h0)
  · by_cases hm : m < s.size
    · rw [nameB_long hm]; exact name_short s m w hs (.inr hm)
    · by_cases h : (s[0].toNat : Int) < 65 ∨ 90 < (s[0].toNat : Int)
      · rw [nameB_head (by omega) h]; exact name_head s m w hs (by omega) (by omega) h
      · exact name_loop s m w hs (by omega) (by omega) (by omega) (by omega)

theorem decDigits_len (n : Nat) : (Lib.decDigits n).length ≤ n + 1 := by
  induction n using Nat.strongRecOn with
  | _ n ih =>
    rw [Lib.decDigits]
    split
    · simp
    · have := ih (n / 10) (by omega)
      simp only [List.length_append, List.length_cons, List.length_nil]
      omega
/-- strconv.FormatInt(n, 10) at n >= 0 -/
theorem fmt10 (n : Nat) (h1 : n ≤ 9223372036854775807) (w : World) (E : Env w) :
    Calls Tryz.prog 251 #[.int .i64 (n : Int), .int .i64 10] w fun e w' => ∃ t, e = .returned (.string t) ∧ Hid (bl t = Lib.decDigits n) ∧ t.size ≤ n + 1 ∧ Below w.heap.size w w' := by
  refine (Tryz.strconv_FormatInt_10 n (by omega) (by omega) w E.pow10).mono ?_
  rintro e w' ⟨rfl, k, os, rfl⟩
  have h2 : Lib.itoa (n : Int) = Lib.decDigits n := by unfold Lib.itoa; rw [if_neg (by omega)]; rfl
  refine ⟨_, rfl, ?_, ?_, below_grow w k os⟩
  · rw [h2]; rfl
  · rw [h2]; exact decDigits_len n

def altAbs (b : Nat) : List UInt8 := Lib.decDigits (b / 100) ++ (if b % 100 = 0 then [] else 46 :: Lib.decDigits (b % 100 / 10) ++ Lib.decDigits (b % 10))
def altTextL (a : Int) : List UInt8 := if a < 0 then 45 :: altAbs (-a).toNat else altAbs a.toNat
def altOut (a : Int) : List UInt8 := if rangedB a then altTextL a else []
def altErr (a : Int) : Int := if rangedB a then 0 else 2
theorem rangedB_yes {a : Int} (h1 : -200000 ≤ a) (h2 : a ≤ 6000000) : rangedB a = true := by unfold rangedB; rw [decide_eq_true h1, decide_eq_true h2]; rfl
theorem rangedB_no {a : Int} (h : a < -200000 ∨ 6000000 < a) : rangedB a = false := by
  unfold rangedB; rcases h with h | h
  · rw [decide_eq_false (by omega)]; rfl
  · rw [decide_eq_false (p := a ≤ 6000000) (by omega), Bool.and_false]
theorem altAbs_whole {b : Nat} (h : b % 100 = 0) : altAbs b = Lib.decDigits (b / 100) := by unfold altAbs; rw [if_pos h, List.append_nil]
theorem altAbs_part {b : Nat} (h : ¬ b % 100 = 0) : altAbs b = Lib.decDigits (b / 100) ++ (46 :: Lib.decDigits (b % 100 / 10) ++ Lib.decDigits (b % 10)) := by unfold altAbs; rw [if_neg h]
theorem str_size {t : ByteArray} {l : List UInt8} (h : bl t = l) : t.size = l.length := by rw [← h, bl_len]

set_option maxHeartbeats 400000 in
theorem altText_bad (a : Int) (w : World) (h : a < -200000 ∨ 6000000 < a) :
    Calls Tryz.prog 173 #[.int .i64 a] w fun e w' => ∃ t, e = .returned (.tuple #[.string t, .int .i64 2]) ∧ Hid (bl t = []) ∧ w = w' := by
  have h' : a < -200000 ∨ -200000 ≤ a ∧ 6000000 < a := by omega
  clear h
  rcases h' with h | ⟨h, h2⟩
  all_goals
    go_enter Tryz.func173, Tryz.ntmps173
    go_wp2
    go_ret2
    exact ⟨_, rfl, rfl, rfl⟩

set_option maxHeartbeats 400000 in
theorem altText_neg (b : Nat) (w : World) (h : 1 ≤ b) (h2 : b ≤ 200000) (E : Env w) :
    Calls Tryz.prog 173 #[.int .i64 (-(b : Int))] w fun e w' => ∃ t, e = .returned (.tuple #[.string t, .int .i64 0]) ∧ Hid (bl t = 45 :: altAbs b) ∧ Below w.heap.size w w' := by
  have q1 := Lib.hid (show (b : Int) / 100 = ((b / 100 : Nat) : Int) by omega)
  have q2 := Lib.hid (show (b : Int) % 100 / 10 = ((b % 100 / 10 : Nat) : Int) by omega)
  have q3 := Lib.hid (show (b : Int) % 10 = ((b % 10 : Nat) : Int) by omega)
  by_cases hk : b % 100 = 0
  · have hk' : ((b : Int) % 100 != 0) = false := by simp only [bne_eq_false_iff_eq]; omega
    have HK := Lib.hid hk; clear hk
    go_enter Tryz.func173, Tryz.ntmps173
    go_wp2_with fail
    rw [q1.out]
    refine (fmt10 (b / 100) (by omega) _ E).mono ?_
    rintro e w1 ⟨t1, rfl, ht1, hs1, hb1⟩
    go_wp2_with fail
    go_ret2
    refine ⟨_, rfl, ?_, hb1⟩
    show bl (⟨#[45]⟩ ++ t1) = _
    simp only [bl_append, ht1.out, altAbs_whole HK.out, bl_mk, List.cons_append, List.nil_append]
  · have hk' : ((b : Int) % 100 != 0) = true := by rw [bne_iff_ne]; omega
    go_enter Tryz.func173, Tryz.ntmps173
    go_wp2_with fail
    rw [q1.out]
    refine (fmt10 (b / 100) (by omega) _ E).mono ?_
    rintro e w1 ⟨t1, rfl, ht1, hs1, hb1⟩
    go_wp2_with fail
    rw [q2.out]
    refine (fmt10 (b % 100 / 10) (by omega) _ (E.below hb1)).mono ?_
    rintro e w2 ⟨t2, rfl, ht2, hs2, hb2⟩
    go_wp2_with fail
    rw [q3.out]
    refine (fmt10 (b % 10) (by omega) _ ((E.below hb1).below hb2)).mono ?_
    rintro e w3 ⟨t3, rfl, ht3, hs3, hb3⟩
    go_wp2_with fail
    go_ret2
    refine ⟨_, rfl, ?_, Below.then_ (Below.then_ hb1 hb2) hb3⟩
    show bl (⟨#[45]⟩ ++ t1 ++ (⟨#[46]⟩ ++ t2 ++ t3)) = _
    simp only [bl_append, ht1.out, ht2.out, ht3.out, altAbs_part hk, bl_mk, List.cons_append, List.nil_append, List.append_assoc]
set_option maxHeartbeats 400000 in
theorem altText_pos (b : Nat) (w : World) (h : 0 ≤ b) (h2 : b ≤ 6000000) (E : Env w) :
    Calls Tryz.prog 173 #[.int .i64 (b : Int)] w fun e w' => ∃ t, e = .returned (.tuple #[.string t, .int .i64 0]) ∧ Hid (bl t =  altAbs b) ∧ Below w.heap.size w w' := by
  have q1 := Lib.hid (show (b : Int) / 100 = ((b / 100 : Nat) : Int) by omega)
  have q2 := Lib.hid (show (b : Int) % 100 / 10 = ((b % 100 / 10 : Nat) : Int) by omega)
  have q3 := Lib.hid (show (b : Int) % 10 = ((b % 10 : Nat) : Int) by omega)
  by_cases hk : b % 100 = 0
  · have hk' : ((b : Int) % 100 != 0) = false := by simp only [bne_eq_false_iff_eq]; omega
    have HK := Lib.hid hk; clear hk
    go_enter Tryz.func173, Tryz.ntmps173
    go_wp2_with fail
    rw [q1.out]
    refine (fmt10 (b / 100) (by omega) _ E).mono ?_
    rintro e w1 ⟨t1, rfl, ht1, hs1, hb1⟩
    go_wp2_with fail
    go_ret2
    refine ⟨_, rfl, ?_, hb1⟩
    show bl (t1) = _
    simp only [bl_append, ht1.out, altAbs_whole HK.out, bl_mk, List.cons_append, List.nil_append]
  · have hk' : ((b : Int) % 100 != 0) = true := by rw [bne_iff_ne]; omega
    go_enter Tryz.func173, Tryz.ntmps173
    go_wp2_with fail
    rw [q1.out]
    refine (fmt10 (b / 100) (by omega) _ E).mono ?_
    rintro e w1 ⟨t1, rfl, ht1, hs1, hb1⟩
    go_wp2_with fail
    rw [q2.out]
    refine (fmt10 (b % 100 / 10) (by omega) _ (E.below hb1)).mono ?_
    rintro e w2 ⟨t2, rfl, ht2, hs2, hb2⟩
    go_wp2_with fail
    rw [q3.out]
    refine (fmt10 (b % 10) (by omega) _ ((E.below hb1).below hb2)).mono ?_
    rintro e w3 ⟨t3, rfl, ht3, hs3, hb3⟩
    go_wp2_with fail
    go_ret2
    refine ⟨_, rfl, ?_, Below.then_ (Below.then_ hb1 hb2) hb3⟩
    show bl (t1 ++ (⟨#[46]⟩ ++ t2 ++ t3)) = _
    simp only [bl_append, ht1.out, ht2.out, ht3.out, altAbs_part hk, bl_mk, List.cons_append, List.nil_append, List.append_assoc]
theorem altOut_neg {b : Nat} (h : 1 ≤ b) (h2 : b ≤ 200000) : altOut (-(b : Int)) = 45 :: altAbs b := by
  unfold altOut altTextL; rw [if_pos (rangedB_yes (by omega) (by omega)), if_pos (by omega)]; simp
theorem altOut_pos {b : Nat} (h2 : b ≤ 6000000) : altOut (b : Int) = altAbs b := by
  unfold altOut altTextL; rw [if_pos (rangedB_yes (by omega) (by omega)), if_neg (by omega)]; simp
theorem altOut_bad {a : Int} (h : a < -200000 ∨ 6000000 < a) : altOut a = [] := by unfold altOut; rw [rangedB_no h]; rfl
theorem altErr_bad {a : Int} (h : a < -200000 ∨ 6000000 < a) : altErr a = 2 := by unfold altErr; rw [rangedB_no h]; rfl
theorem altErr_ok {a : Int} (h : -200000 ≤ a) (h2 : a ≤ 6000000) : altErr a = 0 := by unfold altErr; rw [rangedB_yes h h2]; rfl
theorem altAbs_len {b : Nat} (h2 : b ≤ 6000000) : (altAbs b).length ≤ 70000 := by
  unfold altAbs
  have h1 := decDigits_len (b / 100)
  have h3 := decDigits_len (b % 100 / 10)
  have h4 := decDigits_len (b % 10)
  split
  · simp only [List.append_nil]; omega
  · simp only [List.length_append, List.length_cons]; omega
theorem altOut_len (a : Int) : (altOut a).length ≤ 70001 := by
  by_cases h : a < -200000 ∨ 6000000 < a
  · rw [altOut_bad h]; simp
  · by_cases hn : a < 0
    · obtain ⟨b, rfl⟩ : ∃ b : Nat, a = -(b : Int) := ⟨(-a).toNat, by omega⟩
      rw [altOut_neg (by omega) (by omega)]
      have := @altAbs_len b (by omega)
      simp only [List.length_cons]; omega
    · obtain ⟨b, rfl⟩ : ∃ b : Nat, a = (b : Int) := ⟨a.toNat, by omega⟩
      rw [altOut_pos (by omega)]
      have := @altAbs_len b (by omega)
      omega
/-- AltText at every altitude -/
theorem altText_any (a : Int) (w : World) (E : Env w) :
    Calls Tryz.prog 173 #[.int .i64 a] w fun e w' => ∃ t, e = .returned (.tuple #[.string t, .int .i64 (altErr a)]) ∧ Hid (bl t = altOut a) ∧ t.size ≤ 70001 ∧ Below w.heap.size w w' := by
  have hl := altOut_len a
  by_cases h : a < -200000 ∨ 6000000 < a
  · rw [altErr_bad h]
    refine (altText_bad a w h).mono ?_
    rintro e w' ⟨t, he, ht, hw⟩
    exact ⟨t, he, by rw [altOut_bad h]; exact ht, by rw [str_size ht]; simp, (by subst hw; exact Below.refl _ _)⟩
  · rw [altErr_ok (by omega) (by omega)]
    by_cases hn : a < 0
    · obtain ⟨b, rfl⟩ : ∃ b : Nat, a = -(b : Int) := ⟨(-a).toNat, by omega⟩
      refine (altText_neg b w (by omega) (by omega) E).mono ?_
      rintro e w' ⟨t, he, ht, hw⟩
      have ht' : bl t = altOut (-(b : Int)) := by rw [altOut_neg (by omega) (by omega)]; exact ht
      exact ⟨t, he, ht', by rw [str_size ht']; exact hl, hw⟩
    · obtain ⟨b, rfl⟩ : ∃ b : Nat, a = (b : Int) := ⟨a.toNat, by omega⟩
      refine (altText_pos b w (by omega) (by omega) E).mono ?_
      rintro e w' ⟨t, he, ht, hw⟩
      have ht' : bl t = altOut (b : Int) := by rw [altOut_pos (by omega)]; exact ht
      exact ⟨t, he, ht', by rw [str_size ht']; exact hl, hw⟩
end Go.Proofs.YtgmehlgfilpleaaGreatDoor
