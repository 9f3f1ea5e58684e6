/-
  Contracts of the small functions on texts of layer 8 (record and its reference): plain, Name, ranged, and the law's cut.
-/
import Derived.Test.YtgnnblkpjankgaaGreatDoorBase
namespace Go.Proofs.YtgnnblkpjankgaaGreatDoor
open Go.RowKit
set_option linter.unusedVariables false
set_option linter.unusedSimpArgs false

def digitB (c : UInt8) : Bool := decide (48 ≤ c.toNat) && decide (c.toNat ≤ 57)
def upperB (c : UInt8) : Bool := decide (65 ≤ c.toNat) && decide (c.toNat ≤ 90)
def nameC (c : UInt8) : Bool := upperB c || digitB c
def zeroAhead (l : List UInt8) : Bool := decide (1 < l.length) && l.headD 0 == 48
def plainB (l : List UInt8) : Bool := !l.isEmpty && !zeroAhead l && l.all digitB
def nameB (l : List UInt8) (most : Int) : Bool := decide (0 < l.length) && decide ((l.length : Int) ≤ most) && upperB (l.headD 0) && l.all nameC
def rangedB (a : Int) : Bool := decide (-200000 ≤ a) && decide (a ≤ 6000000)

theorem zeroAhead_yes {s : ByteArray} (h1 : 1 < s.size) (h : s[0].toNat = 48) : zeroAhead (bl s) = true := by
  unfold zeroAhead
  rw [bl_head s (by omega), bl_len, (u8_eq (n := 48) (by omega)).1 h]; simp [h1]
theorem zeroAhead_no {s : ByteArray} (h1 : 1 < s.size) (h : ¬ s[0].toNat = 48) : zeroAhead (bl s) = false := by
  unfold zeroAhead
  rw [bl_head s (by omega)]
  have : (s[0] == 48) = false := by
    rw [beq_eq_false_iff_ne]; intro e; apply h; rw [e]; rfl
  rw [this]; simp
theorem zeroAhead_short {s : ByteArray} (h1 : s.size ≤ 1) : zeroAhead (bl s) = false := by
  unfold zeroAhead
  rw [bl_len, decide_eq_false (by omega)]; rfl
theorem plainB_of {s : ByteArray} (h0 : 0 < s.size) (h : zeroAhead (bl s) = false) : plainB (bl s) = (bl s).all digitB := by
  unfold plainB
  have : (bl s).isEmpty = false := by
    rw [← Bool.not_eq_true, List.isEmpty_iff]; intro e; have := bl_nil_iff.1 e; omega
  rw [this, h]; rfl
theorem plainB_zero {s : ByteArray} (h : zeroAhead (bl s) = true) : plainB (bl s) = false := by
  unfold plainB; rw [h]; simp
theorem plainB_nil {s : ByteArray} (h : s.size = 0) : plainB (bl s) = false := by rw [bl_nil h]; rfl
theorem digitB_no {c : UInt8} (h : (c.toNat : Int) < 48 ∨ 57 < (c.toNat : Int)) : digitB c = false := by
  unfold digitB; rcases h with h | h
  · rw [decide_eq_false (by omega)]; rfl
  · rw [decide_eq_false (p := c.toNat ≤ 57) (by omega), Bool.and_false]
theorem digitB_yes {c : UInt8} (h1 : 48 ≤ (c.toNat : Int)) (h2 : (c.toNat : Int) ≤ 57) : digitB c = true := by
  unfold digitB; rw [decide_eq_true (by omega), decide_eq_true (by omega)]; rfl
theorem upperB_no {c : UInt8} (h : (c.toNat : Int) < 65 ∨ 90 < (c.toNat : Int)) : upperB c = false := by
  unfold upperB; rcases h with h | h
  · rw [decide_eq_false (by omega)]; rfl
  · rw [decide_eq_false (p := c.toNat ≤ 90) (by omega), Bool.and_false]
theorem upperB_yes {c : UInt8} (h1 : 65 ≤ (c.toNat : Int)) (h2 : (c.toNat : Int) ≤ 90) : upperB c = true := by
  unfold upperB; rw [decide_eq_true (by omega), decide_eq_true (by omega)]; rfl
theorem plain_no {s : ByteArray} {k : Nat} (HP : plainB (bl s) = (bl s).all digitB) (hk : k < s.size) (h : (s[k].toNat : Int) < 48 ∨ 57 < (s[k].toNat : Int)) : false = plainB (bl s) := by
  rw [HP, all_false_at (l := bl s) (k := k) hk (digitB_no h)]
theorem plain_yes {s : ByteArray} {k : Nat} (HP : plainB (bl s) = (bl s).all digitB) (hk : ¬ k < s.size) (h : ((bl s).take k).all digitB = true) : true = plainB (bl s) := by
  rw [HP, all_take_all h (by rw [bl_len]; omega)]


theorem nameC_yes {c : UInt8} (h : (65 ≤ (c.toNat : Int) ∧ (c.toNat : Int) ≤ 90) ∨ (48 ≤ (c.toNat : Int) ∧ (c.toNat : Int) ≤ 57)) : nameC c = true := by
  unfold nameC; rcases h with h | h
  · rw [upperB_yes h.1 h.2]; rfl
  · rw [digitB_yes h.1 h.2, Bool.or_true]
theorem nameC_no {c : UInt8} (h : (c.toNat : Int) < 65 ∨ 90 < (c.toNat : Int)) (h' : (c.toNat : Int) < 48 ∨ 57 < (c.toNat : Int)) : nameC c = false := by
  unfold nameC; rw [upperB_no h, digitB_no h']; rfl
theorem nameB_nil {s : ByteArray} {m : Int} (h : s.size = 0) : nameB (bl s) m = false := by rw [bl_nil h]; rfl
theorem nameB_long {s : ByteArray} {m : Int} (h : m < s.size) : nameB (bl s) m = false := by
  unfold nameB; rw [bl_len, decide_eq_false (p := (s.size : Int) ≤ m) (by omega)]; simp
theorem nameB_head {s : ByteArray} {m : Int} (h0 : 0 < s.size) (h : (s[0].toNat : Int) < 65 ∨ 90 < (s[0].toNat : Int)) : nameB (bl s) m = false := by
  unfold nameB; rw [bl_head s h0, upperB_no h]; simp
theorem nameB_of {s : ByteArray} {m : Int} (h0 : 0 < s.size) (hm : (s.size : Int) ≤ m) (h1 : 65 ≤ (s[0].toNat : Int)) (h2 : (s[0].toNat : Int) ≤ 90) : nameB (bl s) m = (bl s).all nameC := by
  unfold nameB; rw [bl_head s h0, upperB_yes h1 h2, bl_len, decide_eq_true h0, decide_eq_true hm]; rfl
theorem name_no {s : ByteArray} {k : Nat} {m : Int} (HP : nameB (bl s) m = (bl s).all nameC) (hk : k < s.size) (h : (s[k].toNat : Int) < 65 ∨ 90 < (s[k].toNat : Int)) (h' : (s[k].toNat : Int) < 48 ∨ 57 < (s[k].toNat : Int)) : false = nameB (bl s) m := by
  rw [HP, all_false_at (l := bl s) (k := k) hk (nameC_no h h')]
theorem name_yes {s : ByteArray} {k : Nat} {m : Int} (HP : nameB (bl s) m = (bl s).all nameC) (hk : ¬ k < s.size) (h : ((bl s).take k).all nameC = true) : true = nameB (bl s) m := by
  rw [HP, all_take_all h (by rw [bl_len]; omega)]

set_option maxHeartbeats 400000 in
theorem name_short (s : ByteArray) (m : Int) (w : World) (hs : s.size ≤ maxLen) (h0 : s.size = 0 ∨ m < s.size) :
    Calls Tryz.prog 69 #[.string s, .int .i64 m] w fun e w' => e = .returned (.bool false) ∧ w = w' := by
  unfold maxLen at hs
  have h : ((s.size : Int) == 0) = true ∧ (s.size : Int) < 1 ∨ (((s.size : Int) == 0) = false ∧ 1 ≤ (s.size : Int)) ∧ m < s.size := by
    rcases Nat.eq_zero_or_pos s.size with h | h
    · exact .inl ⟨by rw [beq_iff_eq]; omega, by omega⟩
    · exact .inr ⟨⟨by rw [beq_eq_false_iff_ne]; omega, by omega⟩, by omega⟩
  clear h0
  rcases h with ⟨h, hl⟩ | ⟨⟨h, hl⟩, hm⟩
  all_goals
    go_enter Tryz.func69, Tryz.ntmps69
    go_wp2
    go_ret
    exact ⟨rfl, rfl⟩
set_option maxHeartbeats 400000 in
theorem name_head (s : ByteArray) (m : Int) (w : World) (hs : s.size ≤ maxLen) (h0 : 0 < s.size) (hm : (s.size : Int) ≤ m) (h : (s[0].toNat : Int) < 65 ∨ 90 < (s[0].toNat : Int)) :
    Calls Tryz.prog 69 #[.string s, .int .i64 m] w fun e w' => e = .returned (.bool false) ∧ w = w' := by
  unfold maxLen at hs
  have hb : ((s.size : Int) == 0) = false := by rw [beq_eq_false_iff_ne]; omega
  have hl : 1 ≤ (s.size : Int) := by omega
  have h' : (s[0].toNat : Int) < 65 ∨ 65 ≤ (s[0].toNat : Int) ∧ 90 < (s[0].toNat : Int) := by omega
  clear h
  rcases h' with h | ⟨h, h2⟩
  all_goals
    go_enter Tryz.func69, Tryz.ntmps69
    go_wp2
    go_ret
    exact ⟨rfl, rfl⟩
set_option maxHeartbeats 1000000 in
theorem name_loop (s : ByteArray) (m : Int) (w : World) (hs : s.size ≤ maxLen) (h0 : 0 < s.size) (hm : (s.size : Int) ≤ m) (h1 : 65 ≤ (s[0].toNat : Int)) (h2 : (s[0].toNat : Int) ≤ 90) :
    Calls Tryz.prog 69 #[.string s, .int .i64 m] w fun e w' => e = .returned (.bool (nameB (bl s) m)) ∧ w = w' := by
  have HP := Lib.hid (nameB_of h0 hm h1 h2)
  unfold maxLen at hs
  have hb : ((s.size : Int) == 0) = false := by rw [beq_eq_false_iff_ne]; omega
  have hl : 1 ≤ (s.size : Int) := by omega
  go_enter Tryz.func69, Tryz.ntmps69
  go_wp2
  clear h1 h2
  go_loop [27] (fun i => ∃ k : Nat, k ≤ s.size ∧ i = .int .i64 k ∧ Hid (((bl s).take k).all nameC = true)) (fun i => s.size - (intOf i).toNat)
  case atStart => exact ⟨0, Nat.zero_le _, rfl, rfl⟩
  case round =>
    obtain ⟨k, hk, rfl, hall⟩ := hrel
    by_cases h : k < s.size
    · have hc : ((65 ≤ (s[k].toNat : Int) ∧ (s[k].toNat : Int) ≤ 90) ∨ ((s[k].toNat : Int) < 65 ∧ 48 ≤ (s[k].toNat : Int) ∧ (s[k].toNat : Int) ≤ 57)) ∨ ((s[k].toNat : Int) < 48 ∨ (90 < (s[k].toNat : Int)) ∨ (57 < (s[k].toNat : Int) ∧ (s[k].toNat : Int) < 65)) := by omega
      rcases hc with (⟨c1, c2⟩ | ⟨c0, c1, c2⟩) | (c1 | c1 | ⟨c1, c2⟩)
      · go_wp2
        go_round
        case rel => exact ⟨k+1, h, by go_num, all_take_succ hall.out h (nameC_yes (.inl ⟨c1, c2⟩))⟩
        case measure => simp [intOf]; omega
      · go_wp2
        go_round
        case rel => exact ⟨k+1, h, by go_num, all_take_succ hall.out h (nameC_yes (.inr ⟨c1, c2⟩))⟩
        case measure => simp [intOf]; omega
      all_goals
        go_wp2
        go_ret
        exact ⟨ret_bool (name_no HP.out h (by omega) (by omega)), rfl⟩
    · go_wp2
      go_ret
      exact ⟨ret_bool (name_yes HP.out h hall.out), rfl⟩
theorem name_any (s : ByteArray) (m : Int) (w : World) (hs : s.size ≤ maxLen) :
    Calls Tryz.prog 69 #[.string s, .int .i64 m] w fun e w' => e = .returned (.bool (nameB (bl s) m)) ∧ w = w' := by
  by_cases h0 : s.size = 0
  · rw [nameB_nil h0]; exact name_short s m w hs (.inl h0)
  · by_cases hm : m < s.size
    · rw [nameB_long hm]; exact name_short s m w hs (.inr hm)
    · by_cases h : (s[0].toNat : Int) < 65 ∨ 90 < (s[0].toNat : Int)
      · rw [nameB_head (by omega) h]; exact name_head s m w hs (by omega) (by omega) h
      · exact name_loop s m w hs (by omega) (by omega) (by omega) (by omega)
set_option maxHeartbeats 400000 in
theorem rname_short (s : ByteArray) (m : Int) (w : World) (hs : s.size ≤ maxLen) (h0 : s.size = 0 ∨ m < s.size) :
    Calls Tryz.prog 92 #[.string s, .int .i64 m] w fun e w' => e = .returned (.bool false) ∧ w = w' := by
  unfold maxLen at hs
  have h : ((s.size : Int) == 0) = true ∧ (s.size : Int) < 1 ∨ (((s.size : Int) == 0) = false ∧ 1 ≤ (s.size : Int)) ∧ m < s.size := by
    rcases Nat.eq_zero_or_pos s.size with h | h
    · exact .inl ⟨by rw [beq_iff_eq]; omega, by omega⟩
    · exact .inr ⟨⟨by rw [beq_eq_false_iff_ne]; omega, by omega⟩, by omega⟩
  clear h0
  rcases h with ⟨h, hl⟩ | ⟨⟨h, hl⟩, hm⟩
  all_goals
    go_enter Tryz.func92, Tryz.ntmps92
    go_wp2
    go_ret
    exact ⟨rfl, rfl⟩
set_option maxHeartbeats 400000 in
theorem rname_head (s : ByteArray) (m : Int) (w : World) (hs : s.size ≤ maxLen) (h0 : 0 < s.size) (hm : (s.size : Int) ≤ m) (h : (s[0].toNat : Int) < 65 ∨ 90 < (s[0].toNat : Int)) :
    Calls Tryz.prog 92 #[.string s, .int .i64 m] w fun e w' => e = .returned (.bool false) ∧ w = w' := by
  unfold maxLen at hs
  have hb : ((s.size : Int) == 0) = false := by rw [beq_eq_false_iff_ne]; omega
  have hl : 1 ≤ (s.size : Int) := by omega
  have h' : (s[0].toNat : Int) < 65 ∨ 65 ≤ (s[0].toNat : Int) ∧ 90 < (s[0].toNat : Int) := by omega
  clear h
  rcases h' with h | ⟨h, h2⟩
  all_goals
    go_enter Tryz.func92, Tryz.ntmps92
    go_wp2
    go_ret
    exact ⟨rfl, rfl⟩
set_option maxHeartbeats 1000000 in
theorem rname_loop (s : ByteArray) (m : Int) (w : World) (hs : s.size ≤ maxLen) (h0 : 0 < s.size) (hm : (s.size : Int) ≤ m) (h1 : 65 ≤ (s[0].toNat : Int)) (h2 : (s[0].toNat : Int) ≤ 90) :
    Calls Tryz.prog 92 #[.string s, .int .i64 m] w fun e w' => e = .returned (.bool (nameB (bl s) m)) ∧ w = w' := by
  have HP := Lib.hid (nameB_of h0 hm h1 h2)
  unfold maxLen at hs
  have hb : ((s.size : Int) == 0) = false := by rw [beq_eq_false_iff_ne]; omega
  have hl : 1 ≤ (s.size : Int) := by omega
  go_enter Tryz.func92, Tryz.ntmps92
  go_wp2
  clear h1 h2
  go_loop [5] (fun i => ∃ k : Nat, k ≤ s.size ∧ i = .int .i64 k ∧ Hid (((bl s).take k).all nameC = true)) (fun i => s.size - (intOf i).toNat)
  case atStart => exact ⟨0, Nat.zero_le _, rfl, rfl⟩
  case round =>
    obtain ⟨k, hk, rfl, hall⟩ := hrel
    by_cases h : k < s.size
    · have hc : ((65 ≤ (s[k].toNat : Int) ∧ (s[k].toNat : Int) ≤ 90) ∨ ((s[k].toNat : Int) < 65 ∧ 48 ≤ (s[k].toNat : Int) ∧ (s[k].toNat : Int) ≤ 57)) ∨ ((s[k].toNat : Int) < 48 ∨ (90 < (s[k].toNat : Int)) ∨ (57 < (s[k].toNat : Int) ∧ (s[k].toNat : Int) < 65)) := by omega
      rcases hc with (⟨c1, c2⟩ | ⟨c0, c1, c2⟩) | (c1 | c1 | ⟨c1, c2⟩)
      · go_wp2
        go_round
        case rel => exact ⟨k+1, h, by go_num, all_take_succ hall.out h (nameC_yes (.inl ⟨c1, c2⟩))⟩
        case measure => simp [intOf]; omega
      · go_wp2
        go_round
        case rel => exact ⟨k+1, h, by go_num, all_take_succ hall.out h (nameC_yes (.inr ⟨c1, c2⟩))⟩
        case measure => simp [intOf]; omega
      all_goals
        go_wp2
        go_ret
        exact ⟨ret_bool (name_no HP.out h (by omega) (by omega)), rfl⟩
    · go_wp2
      go_ret
      exact ⟨ret_bool (name_yes HP.out h hall.out), rfl⟩
theorem rname_any (s : ByteArray) (m : Int) (w : World) (hs : s.size ≤ maxLen) :
    Calls Tryz.prog 92 #[.string s, .int .i64 m] w fun e w' => e = .returned (.bool (nameB (bl s) m)) ∧ w = w' := by
  by_cases h0 : s.size = 0
  · rw [nameB_nil h0]; exact rname_short s m w hs (.inl h0)
  · by_cases hm : m < s.size
    · rw [nameB_long hm]; exact rname_short s m w hs (.inr hm)
    · by_cases h : (s[0].toNat : Int) < 65 ∨ 90 < (s[0].toNat : Int)
      · rw [nameB_head (by omega) h]; exact rname_head s m w hs (by omega) (by omega) h
      · exact rname_loop s m w hs (by omega) (by omega) (by omega) (by omega)
end Go.Proofs.YtgnnblkpjankgaaGreatDoor
