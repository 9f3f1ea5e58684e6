/-
  Several texts as one.
  Contracts of the small functions on texts of layer 8 (record and its reference): plain, Name, ranged, and the law's cut.
  Contracts: numbers and altitudes as texts (strconv.FormatInt at base 10, the reference's digits, AltText of both sides).
  Contracts: the texts of altitude windows on both sides.
  Contracts of the library's cuts in the words of this program's proofs: CutPrefix, CutSuffix and Cut at one byte.
  Contracts: altitudes read from texts: record.altitude.
  Contracts: altitudes read from texts: ranged, ParseAlt, and the reference's value, altForm, ParseAlt.
  Contracts: altitude windows read from texts, on both sides.
-/
import Derived.Test.YtfdhinbojbohcaaGreatDoorBase
import Derived.Lib.ParseIntB
import Derived.Deep.CutRange
import Derived.Deep.DeepCutAuto
namespace Go.Proofs.YtfdhinbojbohcaaGreatDoor
open Go.RowKit
set_option linter.unusedVariables false
set_option linter.unusedSimpArgs false

def digitB (c : UInt8) : Bool := decide (48 ≤ c.toNat) && decide (c.toNat ≤ 57)
def upperB (c : UInt8) : Bool := decide (65 ≤ c.toNat) && decide (c.toNat ≤ 90)
def nameC (c : UInt8) : Bool := upperB c || digitB c
def zeroAhead (l : List UInt8) : Bool := decide (1 < l.length) && l.headD 0 == 48
def plainB (l : List UInt8) : Bool := !l.isEmpty && !zeroAhead l && l.all digitB
def nameB (l : List UInt8) (most : Int) : Bool := decide (0 < l.length) && decide ((l.length : Int) ≤ most) && upperB (l.headD 0) && l.all nameC
def rangedB (a : Int) : Bool := decide (-200000 ≤ a) && decide (a ≤ 6000000)

theorem digitB_no {c : UInt8} (h : (c.toNat : Int) < 48 ∨ 57 < (c.toNat : Int)) : digitB c = false := by
  unfold digitB; rcases h with h | h
  · rw [decide_eq_false (by omega)]; rfl
  · rw [decide_eq_false (p := c.toNat ≤ 57) (by omega), Bool.and_false]
theorem digitB_yes {c : UInt8} (h1 : 48 ≤ (c.toNat : Int)) (h2 : (c.toNat : Int) ≤ 57) : digitB c = true := by
  unfold digitB; rw [decide_eq_true (by omega), decide_eq_true (by omega)]; rfl
theorem upperB_no {c : UInt8} (h : (c.toNat : Int) < 65 ∨ 90 < (c.toNat : Int)) : upperB c = false := by
  unfold upperB; rcases h with h | h
  · rw [decide_eq_false (by omega)]; rfl
  · rw [decide_eq_false (p := c.toNat ≤ 90) (by omega), Bool.and_false]
theorem upperB_yes {c : UInt8} (h1 : 65 ≤ (c.toNat : Int)) (h2 : (c.toNat : Int) ≤ 90) : upperB c = true := by
  unfold upperB; rw [decide_eq_true (by omega), decide_eq_true (by omega)]; rfl
theorem nameC_yes {c : UInt8} (h : (65 ≤ (c.toNat : Int) ∧ (c.toNat : Int) ≤ 90) ∨ (48 ≤ (c.toNat : Int) ∧ (c.toNat : Int) ≤ 57)) : nameC c = true := by
  unfold nameC; rcases h with h | h
  · rw [upperB_yes h.1 h.2]; rfl
  · rw [digitB_yes h.1 h.2, Bool.or_true]
theorem nameC_no {c : UInt8} (h : (c.toNat : Int) < 65 ∨ 90 < (c.toNat : Int)) (h' : (c.toNat : Int) < 48 ∨ 57 < (c.toNat : Int)) : nameC c = false := by
  unfold nameC; rw [upperB_no h, digitB_no h']; rfl
theorem nameB_nil {s : ByteArray} {m : Int} (h : s.size = 0) : nameB (bl s) m = false := by rw [bl_nil h]; rfl
theorem nameB_long {s : ByteArray} {m : Int} (h : m < s.size) : nameB (bl s) m = false := by
  unfold nameB; rw [bl_len, decide_eq_false (p := (s.size : Int) ≤ m) (by omega)]; simp
theorem nameB_head {s : ByteArray} {m : Int} (h0 : 0 < s.size) (h : (s[0].toNat : Int) < 65 ∨ 90 < (s[0].toNat : Int)) : nameB (bl s) m = false := by
  unfold nameB; rw [bl_head s h0, upperB_no h]; simp
theorem nameB_of {s : ByteArray} {m : Int} (h0 : 0 < s.size) (hm : (s.size : Int) ≤ m) (h1 : 65 ≤ (s[0].toNat : Int)) (h2 : (s[0].toNat : Int) ≤ 90) : nameB (bl s) m = (bl s).all nameC := by
  unfold nameB; rw [bl_head s h0, upperB_yes h1 h2, bl_len, decide_eq_true h0, decide_eq_true hm]; rfl
theorem name_no {s : ByteArray} {k : Nat} {m : Int} (HP : nameB (bl s) m = (bl s).all nameC) (hk : k < s.size) (h : (s[k].toNat : Int) < 65 ∨ 90 < (s[k].toNat : Int)) (h' : (s[k].toNat : Int) < 48 ∨ 57 < (s[k].toNat : Int)) : false = nameB (bl s) m := by
  rw [HP, all_false_at (l := bl s) (k := k) hk (nameC_no h h')]
theorem name_yes {s : ByteArray} {k : Nat} {m : Int} (HP : nameB (bl s) m = (bl s).all nameC) (hk : ¬ k < s.size) (h : ((bl s).take k).all nameC = true) : true = nameB (bl s) m := by
  rw [HP, all_take_all h (by rw [bl_len]; omega)]

set_option maxHeartbeats 400000 in
theorem name_short (s : ByteArray) (m : Int) (w : World) (hs : s.size ≤ maxLen) (h0 : s.size = 0 ∨ m < s.size) :
    Calls Tryz.prog 64 #[.string s, .int .i64 m] w fun e w' => e = .returned (.bool false) ∧ w = w' := by
  unfold maxLen at hs
  have h : ((s.size : Int) == 0) = true ∧ (s.size : Int) < 1 ∨ (((s.size : Int) == 0) = false ∧ 1 ≤ (s.size : Int)) ∧ m < s.size := by
    rcases Nat.eq_zero_or_pos s.size with h | h
    · exact .inl ⟨by rw [beq_iff_eq]; omega, by omega⟩
    · exact .inr ⟨⟨by rw [beq_eq_false_iff_ne]; omega, by omega⟩, by omega⟩
  clear h0
  rcases h with ⟨h, hl⟩ | ⟨⟨h, hl⟩, hm⟩
  all_goals
    go_enter Tryz.func64, Tryz.ntmps64
    go_wp2
    go_ret
    exact ⟨rfl, rfl⟩
set_option maxHeartbeats 400000 in
theorem name_head (s : ByteArray) (m : Int) (w : World) (hs : s.size ≤ maxLen) (h0 : 0 < s.size) (hm : (s.size : Int) ≤ m) (h : (s[0].toNat : Int) < 65 ∨ 90 < (s[0].toNat : Int)) :
    Calls Tryz.prog 64 #[.string s, .int .i64 m] w fun e w' => e = .returned (.bool false) ∧ w = w' := by
  unfold maxLen at hs
  have hb : ((s.size : Int) == 0) = false := by rw [beq_eq_false_iff_ne]; omega
  have hl : 1 ≤ (s.size : Int) := by omega
  have h' : (s[0].toNat : Int) < 65 ∨ 65 ≤ (s[0].toNat : Int) ∧ 90 < (s[0].toNat : Int) := by omega
  clear h
  rcases h' with h | ⟨h, h2⟩
  all_goals
    go_enter Tryz.func64, Tryz.ntmps64
    go_wp2
    go_ret
    exact ⟨rfl, rfl⟩
set_option maxHeartbeats 1000000 in
theorem name_loop (s : ByteArray) (m : Int) (w : World) (hs : s.size ≤ maxLen) (h0 : 0 < s.size) (hm : (s.size : Int) ≤ m) (h1 : 65 ≤ (s[0].toNat : Int)) (h2 : (s[0].toNat : Int) ≤ 90) :
    Calls Tryz.prog 64 #[.string s, .int .i64 m] w fun e w' => e = .returned (.bool (nameB (bl s) m)) ∧ w = w' := by
  have HP := Lib.hid (nameB_of h0 hm h1 h2)
  unfold maxLen at hs
  have hb : ((s.size : Int) == 0) = false := by rw [beq_eq_false_iff_ne]; omega
  have hl : 1 ≤ (s.size : Int) := by omega
  go_enter Tryz.func64, Tryz.ntmps64
  go_wp2
  clear h1 h2
  go_loop [27] (fun i => ∃ k : Nat, k ≤ s.size ∧ i = .int .i64 k ∧ Hid (((bl s).take k).all nameC = true)) (fun i => s.size - (intOf i).toNat)
  case atStart => exact ⟨0, Nat.zero_le _, rfl, rfl⟩
  case round =>
    obtain ⟨k, hk, rfl, hall⟩ := hrel
    by_cases h : k < s.size
    · have hc : ((65 ≤ (s[k].toNat : Int) ∧ (s[k].toNat : Int) ≤ 90) ∨ ((s[k].toNat : Int) < 65 ∧ 48 ≤ (s[k].toNat : Int) ∧ (s[k].toNat : Int) ≤ 57)) ∨ ((s[k].toNat : Int) < 48 ∨ (90 < (s[k].toNat : Int)) ∨ (57 < (s[k].toNat : Int) ∧ (s[k].toNat : Int) < 65)) := by omega
      rcases hc with (⟨c1, c2⟩ | ⟨c0, c1, c2⟩) | (c1 | c1 | ⟨c1, c2⟩)
      · go_wp2
        go_round
        case rel => exact ⟨k+1, h, by go_num, all_take_succ hall.out h (nameC_yes (.inl ⟨c1, c2⟩))⟩
        case measure => simp [intOf]; omega
      · go_wp2
        go_round
        case rel => exact ⟨k+1, h, by go_num, all_take_succ hall.out h (nameC_yes (.inr ⟨c1, c2⟩))⟩
        case measure => simp [intOf]; omega
      all_goals
        go_wp2
        go_ret
        exact ⟨ret_bool (name_no HP.out h (by omega) (by omega)), rfl⟩
    · go_wp2
      go_ret
      exact ⟨ret_bool (name_yes HP.out h hall.out), rfl⟩
theorem name_any (s : ByteArray) (m : Int) (w : World) (hs : s.size ≤ maxLen) :
    Calls Tryz.prog 64 #[.string s, .int .i64 m] w fun e w' => e = .returned (.bool (nameB (bl s) m)) ∧ w = w' := by
  by_cases h0 : s.size = 0
  · rw [nameB_nil h0]; exact name_short s m w hs (.inl h0)
  · by_cases hm : m < s.size
    · rw [nameB_long hm]; exact name_short s m w hs (.inr hm)
    · by_cases h : (s[0].toNat : Int) < 65 ∨ 90 < (s[0].toNat : Int)
      · rw [nameB_head (by omega) h]; exact name_head s m w hs (by omega) (by omega) h
      · exact name_loop s m w hs (by omega) (by omega) (by omega) (by omega)
end Go.Proofs.YtfdhinbojbohcaaGreatDoor
namespace Go.Proofs.YtfdhinbojbohcaaGreatDoor
open Go.RowKit
set_option linter.unusedVariables false
set_option linter.unusedSimpArgs false

def altAbs (b : Nat) : List UInt8 := Lib.decDigits (b / 100) ++ (if b % 100 = 0 then [] else 46 :: Lib.decDigits (b % 100 / 10) ++ Lib.decDigits (b % 10))
def altTextL (a : Int) : List UInt8 := if a < 0 then 45 :: altAbs (-a).toNat else altAbs a.toNat
def altOut (a : Int) : List UInt8 := if rangedB a then altTextL a else []
end Go.Proofs.YtfdhinbojbohcaaGreatDoor
namespace Go.Proofs.YtfdhinbojbohcaaGreatDoor
open Go.RowKit
set_option linter.unusedVariables false
set_option linter.unusedSimpArgs false

def winBad (lo hi : Int) : Prop := lo < -200000 ∨ hi < lo ∨ 6000000 < hi
instance (lo hi : Int) : Decidable (winBad lo hi) := by unfold winBad; infer_instance
def winText (lo hi : Int) : List UInt8 :=
  if lo = -200000 ∧ hi = 6000000 then [45] else if lo = hi then altOut lo else if hi = 6000000 then altOut lo ++ [43] else if lo = -200000 then altOut hi ++ [45] else altOut lo ++ 58 :: altOut hi
def winOut (lo hi : Int) : List UInt8 := if winBad lo hi then [] else winText lo hi
end Go.Proofs.YtfdhinbojbohcaaGreatDoor
namespace Go.Proofs.YtfdhinbojbohcaaGreatDoor
open Go.RowKit
set_option linter.unusedVariables false
set_option linter.unusedSimpArgs false

/-- strings.Cut at one byte, as a recursion: before, behind, found -/
def cutAt (c : UInt8) : List UInt8 → List UInt8 × List UInt8 × Bool
  | [] => ([], [], false)
  | x :: l => if x = c then ([], l, true) else (x :: (cutAt c l).1, (cutAt c l).2.1, (cutAt c l).2.2)
def headIs (c : UInt8) (l : List UInt8) : Bool := l.head? == some c
def lastIs (c : UInt8) (l : List UInt8) : Bool := l.getLast? == some c

theorem index_one (c : UInt8) (l : List UInt8) :
    (Lib.index l [c] = -1 ∧ cutAt c l = (l, [], false)) ∨ ∃ i : Nat, Lib.index l [c] = i ∧ cutAt c l = (l.take i, l.drop (i + 1), true) := by
  induction l with
  | nil => exact .inl ⟨rfl, rfl⟩
  | cons x l ih =>
    unfold Lib.index cutAt
    by_cases h : x = c
    · subst h
      exact .inr ⟨0, by simp, by simp⟩
    · have h1 : ([c].isPrefixOf (x :: l)) = false := by simp [List.isPrefixOf, Ne.symm h]
      rw [h1]
      rcases ih with ⟨h2, h3⟩ | ⟨i, h2, h3⟩
      · rw [h2, h3]; exact .inl ⟨by simp, by simp [h]⟩
      · rw [h2, h3]
        have h4 : ((i : Int) == -1) = false := by rw [beq_eq_false_iff_ne]; omega
        exact .inr ⟨i + 1, by simp [h4], by simp [h]⟩
/-- only draws -/
def Drawn (w w' : World) : Prop := ∃ m, w' = w.drewN m
theorem Drawn.refl (w : World) : Drawn w w := ⟨0, rfl⟩
theorem Drawn.trans {a b c : World} (h : Drawn a b) (k : Drawn b c) : Drawn a c := by
  obtain ⟨m, rfl⟩ := h
  obtain ⟨n, rfl⟩ := k
  exact ⟨m + n, by rw [World.drewN_drewN]⟩
theorem Drawn.more {w w' : World} (h : Drawn w w') (n : Nat) : Drawn w (w'.drewN n) := h.trans ⟨n, rfl⟩
theorem Drawn.below {w w' : World} (h : Drawn w w') {b : Nat} : Below b w w' := by
  obtain ⟨m, rfl⟩ := h
  exact below_drewN' (Below.refl _ _) m
def CutPost (s : ByteArray) (c : UInt8) (w : World) (e : Ending) (w' : World) : Prop :=
  ∃ a b f, e = .returned (.tuple #[.string a, .string b, .bool f]) ∧ Hid (cutAt c (bl s) = (bl a, bl b, f)) ∧ a.size ≤ s.size ∧ b.size ≤ s.size ∧ Drawn w w'
theorem cutAt_byte (c : UInt8) (l : List UInt8) :
    (Lib.indexByte l c = -1 ∧ cutAt c l = (l, [], false)) ∨ ∃ i : Nat, Lib.indexByte l c = i ∧ i < l.length ∧ cutAt c l = (l.take i, l.drop (i + 1), true) := by
  induction l with
  | nil => exact .inl ⟨rfl, rfl⟩
  | cons x l ih =>
    unfold Lib.indexByte cutAt
    by_cases h : x = c
    · subst h
      exact .inr ⟨0, by simp, by simp, by simp⟩
    · have h1 : (x == c) = false := beq_eq_false_iff_ne.2 h
      rw [h1]
      rcases ih with ⟨h2, h3⟩ | ⟨i, h2, h4, h3⟩
      · rw [h2, h3]; exact .inl ⟨by simp, by simp [h]⟩
      · rw [h2, h3]
        have h5 : ((i : Int) == -1) = false := by rw [beq_eq_false_iff_ne]; omega
        exact .inr ⟨i + 1, by simp [h5], by simp; omega, by simp [h]⟩
theorem cut_ways (s : ByteArray) (c : UInt8) : (∃ h : Hid (cutAt c (bl s) = (bl s, [], false)), Lib.indexByte s.data.toList c = -1) ∨
    ∃ i : Nat, i < s.size ∧ Lib.indexByte s.data.toList c = i ∧ Hid (cutAt c (bl s) = (bl (s.extract 0 i), bl (s.extract (i + 1) s.size), true)) := by
  rcases cutAt_byte c (bl s) with ⟨h1, h2⟩ | ⟨i, h1, h2, h3⟩
  · exact .inl ⟨h2, h1⟩
  · refine .inr ⟨i, h2, h1, ?_⟩
    unfold Hid
    rw [h3, bl_extract, bl_extract, List.drop_zero, Nat.sub_zero, List.take_of_length_le (l := (bl s).drop (i + 1)) (by rw [List.length_drop, bl_len]; omega)]
set_option maxHeartbeats 400000 in
theorem slCut_any (s : ByteArray) (c : UInt8) (w : World) (hs : s.size ≤ maxLen) :
    Calls Tryz.prog 168 #[.string s, .string ⟨#[c]⟩] w (CutPost s c w) := by
  unfold maxLen at hs
  rcases cut_ways s c with ⟨h, hi⟩ | ⟨i, hi, hx, h⟩
  · have HI := Lib.hid hi
    clear hi
    go_enter Tryz.func168, Tryz.ntmps168
    go_wp2_with fail
    refine (Tryz.stringslite_Index_one s c _).mono ?_
    rintro e w1 ⟨rfl, rfl⟩
    rw [HI.out]
    go_wp2
    go_ret3
    exact ⟨s, ⟨#[]⟩, false, rfl, h, Nat.le_refl _, Nat.zero_le _, Drawn.refl _⟩
  · have HI := Lib.hid hx
    clear hx
    have hsa : (s.extract 0 i).size ≤ s.size := by rw [ByteArray.size_extract]; omega
    have hsb : (s.extract (i + 1) s.size).size ≤ s.size := by rw [ByteArray.size_extract]; omega
    go_enter Tryz.func168, Tryz.ntmps168
    go_wp2_with fail
    refine (Tryz.stringslite_Index_one s c _).mono ?_
    rintro e w1 ⟨rfl, rfl⟩
    rw [HI.out]
    go_wp2
    go_quiet (fail)
    go_wp2
    go_ret3
    exact ⟨_, _, true, rfl, h, hsa, hsb, _, rfl⟩
set_option maxHeartbeats 400000 in
theorem cutAny (s : ByteArray) (c : UInt8) (w : World) (hs : s.size ≤ maxLen) :
    Calls Tryz.prog 126 #[.string s, .string ⟨#[c]⟩] w (CutPost s c w) := by
  go_enter Tryz.func126, Tryz.ntmps126
  go_wp2_with fail
  refine (slCut_any s c _ hs).mono ?_
  rintro e w1 ⟨a, b, f, rfl, h⟩
  go_wp2
  go_ret3
  exact ⟨a, b, f, rfl, h⟩

/-- strings.Cut(s, one byte) -/
theorem cut1 (s : ByteArray) (c : UInt8) (w : World) (E : Env w) (hs : s.size ≤ 140737488351232) :
    Calls Tryz.prog 126 #[.string s, .string ⟨#[c]⟩] w fun e w' => ∃ a b f, e = .returned (.tuple #[.string a, .string b, .bool f]) ∧ Hid (cutAt c (bl s) = (bl a, bl b, f)) ∧ a.size ≤ s.size ∧ b.size ≤ s.size ∧ Below w.heap.size w w' :=
  (cutAny s c w (by unfold maxLen; omega)).mono fun _ _ ⟨a, b, f, h1, h2, h3, h4, h5⟩ => ⟨a, b, f, h1, h2, h3, h4, h5.below⟩

end Go.Proofs.YtfdhinbojbohcaaGreatDoor
namespace Go.Proofs.YtfdhinbojbohcaaGreatDoor
open Go.RowKit
set_option linter.unusedVariables false
set_option linter.unusedSimpArgs false

/-- the number that digits mean, behind a number that was read already -/
def digFrom (a : Nat) (l : List UInt8) : Nat := l.foldl (fun a c => 10 * a + (c.toNat - 48)) a
def digVal (l : List UInt8) : Nat := digFrom 0 l
def pairB (l : List UInt8) : Bool := l.length == 2 && l.all digitB && !(l == [48, 48])
/-- the altitude of a text, if it is written as one -/
def altSpec (l : List UInt8) : Option Int :=
  if plainB (cutAt 46 (if headIs 45 l then l.tail else l)).1 && (!(cutAt 46 (if headIs 45 l then l.tail else l)).2.2 || pairB (cutAt 46 (if headIs 45 l then l.tail else l)).2.1) then
    if headIs 45 l then
      (if digVal (cutAt 46 (if headIs 45 l then l.tail else l)).1 * 100 + (if (cutAt 46 (if headIs 45 l then l.tail else l)).2.2 then digVal (cutAt 46 (if headIs 45 l then l.tail else l)).2.1 else 0) = 0 then none
       else some (-((digVal (cutAt 46 (if headIs 45 l then l.tail else l)).1 * 100 + (if (cutAt 46 (if headIs 45 l then l.tail else l)).2.2 then digVal (cutAt 46 (if headIs 45 l then l.tail else l)).2.1 else 0) : Nat) : Int)))
    else some ((digVal (cutAt 46 (if headIs 45 l then l.tail else l)).1 * 100 + (if (cutAt 46 (if headIs 45 l then l.tail else l)).2.2 then digVal (cutAt 46 (if headIs 45 l then l.tail else l)).2.1 else 0) : Nat) : Int)
  else none
end Go.Proofs.YtfdhinbojbohcaaGreatDoor
namespace Go.Proofs.YtfdhinbojbohcaaGreatDoor
open Go.RowKit
set_option linter.unusedVariables false
set_option linter.unusedSimpArgs false

/-! ### the reference's side -/
theorem cutAt_spec (c : UInt8) (l : List UInt8) : ((cutAt c l).2.2 = true ∧ l = (cutAt c l).1 ++ c :: (cutAt c l).2.1 ∧ c ∉ (cutAt c l).1) ∨ ((cutAt c l).2.2 = false ∧ c ∉ l ∧ (cutAt c l).1 = l ∧ (cutAt c l).2.1 = []) := by
  induction l with
  | nil => exact .inr ⟨rfl, by simp, rfl, rfl⟩
  | cons x l ih =>
    unfold cutAt
    by_cases h : x = c
    · subst h
      rw [if_pos rfl]
      exact .inl ⟨rfl, rfl, by simp⟩
    · rw [if_neg h]
      rcases ih with ⟨h1, h2, h3⟩ | ⟨h1, h2, h3, h4⟩
      · exact .inl ⟨h1, by simp only [List.cons_append, List.cons.injEq, true_and]; exact h2, by simp only [List.mem_cons, not_or]; exact ⟨Ne.symm h, h3⟩⟩
      · exact .inr ⟨h1, by simp only [List.mem_cons, not_or]; exact ⟨Ne.symm h, h2⟩, by simp only [h3], h4⟩
end Go.Proofs.YtfdhinbojbohcaaGreatDoor
namespace Go.Proofs.YtfdhinbojbohcaaGreatDoor
open Go.RowKit
set_option linter.unusedVariables false
set_option linter.unusedSimpArgs false

/-- the window of a text, of altitudes of any size -/
def winOf (l : List UInt8) (a b : List UInt8) (two : Bool) : Option (Int × Int) :=
  if two then (match altSpec a, altSpec b with | some x, some y => some (x, y) | _, _ => none)
  else if lastIs 43 l then (altSpec l.dropLast).map fun x => (x, 6000000)
  else if lastIs 45 l then (altSpec l.dropLast).map fun x => (-200000, x)
  else (altSpec l).map fun x => (x, x)
def winSpec (l : List UInt8) : Option (Int × Int) :=
  if l = [45] then some (-200000, 6000000) else winOf l (cutAt 58 l).1 (cutAt 58 l).2.1 (cutAt 58 l).2.2
/-- an altitude that is answered for another one: itself, or both are out of range -/
def Near (n v : Int) : Prop := rangedB n = rangedB v ∧ (rangedB v = true → n = v)
theorem Near.refl (n : Int) : Near n n := ⟨rfl, fun _ => rfl⟩
/-- what ParseWindow answers: the window, or zeros, and the error -/
def pwLo (l : List UInt8) (o : Option (Int × Int)) : Int := match o with
  | some (a, b) => if rangedB a && rangedB b && decide (a ≤ b) && (winOut a b == l) then a else 0
  | none => 0
def pwHi (l : List UInt8) (o : Option (Int × Int)) : Int := match o with
  | some (a, b) => if rangedB a && rangedB b && decide (a ≤ b) && (winOut a b == l) then b else 0
  | none => 0
def pwErr (l : List UInt8) (o : Option (Int × Int)) : Int := match o with
  | some (a, b) => if rangedB a && rangedB b then (if a ≤ b then (if winOut a b == l then 0 else 4) else 9) else 2
  | none => 4
end Go.Proofs.YtfdhinbojbohcaaGreatDoor
