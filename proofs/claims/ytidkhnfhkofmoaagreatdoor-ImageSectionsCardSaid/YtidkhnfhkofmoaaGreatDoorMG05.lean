/-
  Several texts as one.
  Contracts: the texts of altitude windows on both sides.
  Contracts of the library's cuts in the words of this program's proofs: CutPrefix, CutSuffix and Cut at one byte.
  Contracts: strings.Cut at one byte, at any string; references of fixes: SplitRef of both sides.
  Airways in memory: points, and the index of a reference on both sides.
  Contract: cmp.Compare at strings; orders by a text.
-/
import Derived.Test.YtidkhnfhkofmoaaGreatDoorMG02
import Derived.Test.YtidkhnfhkofmoaaGreatDoorMG24
import Derived.Shelf.SlSortCmp.KitK
namespace Go.Proofs.YtidkhnfhkofmoaaGreatDoor
open Go.RowKit
set_option linter.unusedVariables false
set_option linter.unusedSimpArgs false

theorem boxed2 {w w1 : World} {a b : Value} {t : TypeId} (h : Below (w.alloc (.cells #[a, b] t)).heap.size (w.alloc (.cells #[a, b] t)) w1) :
  w1.cell? ⟨w.heap.size, 0, none⟩ = some a ∧ w1.cell? ⟨w.heap.size, 1, none⟩ = some b :=
 ⟨(h.cell (p := ⟨w.heap.size, 0, none⟩) (by simp)).trans (by simp [go_sem]), (h.cell (p := ⟨w.heap.size, 1, none⟩) (by simp)).trans (by simp [go_sem])⟩
theorem below_box {w w1 : World} {o : Obj} (h : Below (w.alloc o).heap.size (w.alloc o) w1) : Below w.heap.size w w1 :=
 ((Below.refl _ _).alloc (Nat.le_refl _) o).trans (h.mono (by simp))

def winBad (lo hi : Int) : Prop := lo < -200000 ∨ hi < lo ∨ 6000000 < hi
instance (lo hi : Int) : Decidable (winBad lo hi) := by unfold winBad; infer_instance
def winText (lo hi : Int) : List UInt8 :=
 if lo = -200000 ∧ hi = 6000000 then [45] else if lo = hi then altOut lo else if hi = 6000000 then altOut lo ++ [43] else if lo = -200000 then altOut hi ++ [45] else altOut lo ++ 58 :: altOut hi
def winOut (lo hi : Int) : List UInt8 := if winBad lo hi then [] else winText lo hi
def winErr (lo hi : Int) : Int := if winBad lo hi then 1 else 0

set_option maxHeartbeats 400000 in
theorem winText_bad (lo hi : Int) (w : World) (h : winBad lo hi) :
  Calls Tryz.prog 263 #[.agg #[.int .i64 lo, .int .i64 hi]] w fun e w' => ∃ t, e = .returned (.tuple #[.string t, .int .i64 1]) ∧ Hid (bl t = []) ∧ Below w.heap.size w w' := by
 have h' : lo < -200000 ∨ (-200000 ≤ lo ∧ hi < lo) ∨ (-200000 ≤ lo ∧ lo ≤ hi ∧ 6000000 < hi) := by unfold winBad at h; omega
 clear h
 rcases h' with h | ⟨h, h2⟩ | ⟨h, h2, h3⟩
 all_goals
  go_enter Tryz.func263, Tryz.ntmps263
  go_wp2
  go_ret2
  exact ⟨_, rfl, rfl, (Below.refl _ _).alloc (Nat.le_refl _) _⟩

set_option maxHeartbeats 1000000 in
theorem winText_ok (lo hi : Int) (w : World) (E : Env w) (h : ¬ winBad lo hi) :
  Calls Tryz.prog 263 #[.agg #[.int .i64 lo, .int .i64 hi]] w fun e w' => ∃ t, e = .returned (.tuple #[.string t, .int .i64 0]) ∧ Hid (bl t = winText lo hi) ∧ Below w.heap.size w w' := by
 have l1 : -200000 ≤ lo := by unfold winBad at h; omega
 have l2 : lo ≤ hi := by unfold winBad at h; omega
 have l3 : hi ≤ 6000000 := by unfold winBad at h; omega
 clear h
 have h' : (Hid (winText lo hi = [45]) ∧ lo ≤ -200000 ∧ 6000000 ≤ hi) ∨ (Hid (winText lo hi = altOut lo) ∧ lo ≤ -200000 ∧ hi ≤ lo) ∨ (Hid (winText lo hi = altOut lo) ∧ -200000 < lo ∧ hi ≤ lo) ∨ (Hid (winText lo hi = altOut lo ++ [43]) ∧ -200000 < lo ∧ lo < hi ∧ 6000000 ≤ hi) ∨ (Hid (winText lo hi = altOut hi ++ [45]) ∧ lo ≤ -200000 ∧ lo < hi ∧ hi < 6000000) ∨ (Hid (winText lo hi = altOut lo ++ 58 :: altOut hi) ∧ -200000 < lo ∧ lo < hi ∧ hi < 6000000) := by
  unfold winText Hid
  by_cases a : lo = -200000 ∧ hi = 6000000
  ·exact .inl ⟨by rw [if_pos a], by omega, by omega⟩
  ·by_cases b : lo = hi
   ·by_cases c : lo = -200000
    ·exact .inr (.inl ⟨by rw [if_neg a, if_pos b], by omega, by omega⟩)
    ·exact .inr (.inr (.inl ⟨by rw [if_neg a, if_pos b], by omega, by omega⟩))
   ·by_cases c : hi = 6000000
    ·exact .inr (.inr (.inr (.inl ⟨by rw [if_neg a, if_neg b, if_pos c], by omega, by omega, by omega⟩)))
    ·by_cases d : lo = -200000
     ·exact .inr (.inr (.inr (.inr (.inl ⟨by rw [if_neg a, if_neg b, if_neg c, if_pos d], by omega, by omega, by omega⟩))))
     ·exact .inr (.inr (.inr (.inr (.inr ⟨by rw [if_neg a, if_neg b, if_neg c, if_neg d], by omega, by omega, by omega⟩))))
 rcases h' with ⟨hw, c1, c2⟩ | ⟨hw, c1, c2⟩ | ⟨hw, c1, c2⟩ | ⟨hw, c1, c2, c3⟩ | ⟨hw, c1, c2, c3⟩ | ⟨hw, c1, c2, c3⟩

 all_goals
  go_enter Tryz.func263, Tryz.ntmps263
  go_wp2_with fail
  refine (altText_any lo _ (E.alloc _)).mono ?_
  rintro e w1 ⟨t1, rfl, ht1, hs1, hb1⟩
  obtain ⟨k0, k1⟩ := boxed2 hb1
  go_wp2_with fail
  refine (altText_any hi _ ((E.alloc _).below hb1)).mono ?_
  rintro e w2 ⟨t2, rfl, ht2, hs2, hb2⟩
  have hb := Below.then_ hb1 hb2; obtain ⟨k2, k3⟩ := boxed2 hb
  go_wp2
  go_ret2
  refine ⟨_, rfl, ?_, below_box hb⟩
  unfold Hid
  rw [hw.out]
  first
  | (show bl ⟨#[45]⟩ = [45]; rfl)
  | (show bl t1 = altOut lo; exact ht1.out)
  | (show bl (t1 ++ ⟨#[43]⟩) = _; rw [bl_append, ht1.out]; rfl)
  | (show bl (t2 ++ ⟨#[45]⟩) = _; rw [bl_append, ht2.out]; rfl)
  | (show bl (t1 ++ ⟨#[58]⟩ ++ t2) = _; rw [bl_append, bl_append, ht1.out, ht2.out, bl_mk, List.append_assoc]; rfl)

theorem winText_any (lo hi : Int) (w : World) (E : Env w) :
  Calls Tryz.prog 263 #[.agg #[.int .i64 lo, .int .i64 hi]] w fun e w' => ∃ t, e = .returned (.tuple #[.string t, .int .i64 (winErr lo hi)]) ∧ Hid (bl t = winOut lo hi) ∧ Below w.heap.size w w' := by
 by_cases h : winBad lo hi
 ·have h1 : winErr lo hi = 1 := if_pos h
  have h2 : winOut lo hi = [] := if_pos h
  rw [h1, h2]
  exact winText_bad lo hi w h
 ·have h1 : winErr lo hi = 0 := if_neg h
  have h2 : winOut lo hi = winText lo hi := if_neg h
  rw [h1, h2]
  exact winText_ok lo hi w E h
end Go.Proofs.YtidkhnfhkofmoaaGreatDoor
namespace Go.Proofs.YtidkhnfhkofmoaaGreatDoor
open Go.RowKit
set_option linter.unusedVariables false
set_option linter.unusedSimpArgs false

def cutAt (c : UInt8) : List UInt8 → List UInt8 × List UInt8 × Bool
 | [] => ([], [], false)
 | x :: l => if x = c then ([], l, true) else (x :: (cutAt c l).1, (cutAt c l).2.1, (cutAt c l).2.2)
def headIs (c : UInt8) (l : List UInt8) : Bool := l.head? == some c
def lastIs (c : UInt8) (l : List UInt8) : Bool := l.getLast? == some c

theorem index_one (c : UInt8) (l : List UInt8) :
  (Lib.index l [c] = -1 ∧ cutAt c l = (l, [], false)) ∨ ∃ i : Nat, Lib.index l [c] = i ∧ cutAt c l = (l.take i, l.drop (i + 1), true) := by
 induction l with
 | nil => exact .inl ⟨rfl, rfl⟩
 | cons x l ih =>
  unfold Lib.index cutAt
  by_cases h : x = c
  ·subst h
   exact .inr ⟨0, by simp, by simp⟩
  ·have h1 : ([c].isPrefixOf (x :: l)) = false := by simp [List.isPrefixOf, Ne.symm h]
   rw [h1]
   rcases ih with ⟨h2, h3⟩ | ⟨i, h2, h3⟩
   ·rw [h2, h3]; exact .inl ⟨by simp, by simp [h]⟩
   ·rw [h2, h3]
    have h4 : ((i : Int) == -1) = false := by rw [beq_eq_false_iff_ne]; omega
    exact .inr ⟨i + 1, by simp [h4], by simp [h]⟩
theorem str_len {a : List UInt8} {s : ByteArray} (h : a.length ≤ (bl s).length) : (sb a).size ≤ s.size := h

def Drawn (w w' : World) : Prop := ∃ m, w' = w.drewN m
theorem Drawn.refl (w : World) : Drawn w w := ⟨0, rfl⟩
theorem Drawn.trans {a b c : World} (h : Drawn a b) (k : Drawn b c) : Drawn a c := by
 obtain ⟨m, rfl⟩ := h
 obtain ⟨n, rfl⟩ := k
 exact ⟨m + n, by rw [World.drewN_drewN]⟩
theorem Drawn.more {w w' : World} (h : Drawn w w') (n : Nat) : Drawn w (w'.drewN n) := h.trans ⟨n, rfl⟩
theorem Drawn.below {w w' : World} (h : Drawn w w') {b : Nat} : Below b w w' := by
 obtain ⟨m, rfl⟩ := h
 exact below_drewN' (Below.refl _ _) m
def CutPost (s : ByteArray) (c : UInt8) (w : World) (e : Ending) (w' : World) : Prop :=
 ∃ a b f, e = .returned (.tuple #[.string a, .string b, .bool f]) ∧ Hid (cutAt c (bl s) = (bl a, bl b, f)) ∧ a.size ≤ s.size ∧ b.size ≤ s.size ∧ Drawn w w'
theorem cutAt_byte (c : UInt8) (l : List UInt8) :
  (Lib.indexByte l c = -1 ∧ cutAt c l = (l, [], false)) ∨ ∃ i : Nat, Lib.indexByte l c = i ∧ i < l.length ∧ cutAt c l = (l.take i, l.drop (i + 1), true) := by
 induction l with
 | nil => exact .inl ⟨rfl, rfl⟩
 | cons x l ih =>
  unfold Lib.indexByte cutAt
  by_cases h : x = c
  ·subst h
   exact .inr ⟨0, by simp, by simp, by simp⟩
  ·have h1 : (x == c) = false := beq_eq_false_iff_ne.2 h
   rw [h1]
   rcases ih with ⟨h2, h3⟩ | ⟨i, h2, h4, h3⟩
   ·rw [h2, h3]; exact .inl ⟨by simp, by simp [h]⟩
   ·rw [h2, h3]
    have h5 : ((i : Int) == -1) = false := by rw [beq_eq_false_iff_ne]; omega
    exact .inr ⟨i + 1, by simp [h5], by simp; omega, by simp [h]⟩
theorem cut_ways (s : ByteArray) (c : UInt8) : (∃ h : Hid (cutAt c (bl s) = (bl s, [], false)), Lib.indexByte s.data.toList c = -1) ∨
  ∃ i : Nat, i < s.size ∧ Lib.indexByte s.data.toList c = i ∧ Hid (cutAt c (bl s) = (bl (s.extract 0 i), bl (s.extract (i + 1) s.size), true)) := by
 rcases cutAt_byte c (bl s) with ⟨h1, h2⟩ | ⟨i, h1, h2, h3⟩
 ·exact .inl ⟨h2, h1⟩
 ·refine .inr ⟨i, h2, h1, ?_⟩
  unfold Hid
  rw [h3, bl_extract, bl_extract, List.drop_zero, Nat.sub_zero, List.take_of_length_le (l := (bl s).drop (i + 1)) (by rw [List.length_drop, bl_len]; omega)]
set_option maxHeartbeats 400000 in
theorem slCut_any (s : ByteArray) (c : UInt8) (w : World) (hs : s.size ≤ maxLen) :
  Calls Tryz.prog 162 #[.string s, .string ⟨#[c]⟩] w (CutPost s c w) := by
 unfold maxLen at hs
 rcases cut_ways s c with ⟨h, hi⟩ | ⟨i, hi, hx, h⟩
 ·have HI := Lib.hid hi
  clear hi
  go_enter Tryz.func162, Tryz.ntmps162
  go_wp2_with fail
  refine (Tryz.stringslite_Index_one s c _).mono ?_
  rintro e w1 ⟨rfl, rfl⟩
  rw [HI.out]
  go_wp2
  go_ret3
  exact ⟨s, ⟨#[]⟩, false, rfl, h, Nat.le_refl _, Nat.zero_le _, Drawn.refl _⟩
 ·have HI := Lib.hid hx
  clear hx
  have hsa : (s.extract 0 i).size ≤ s.size := by rw [ByteArray.size_extract]; omega
  have hsb : (s.extract (i + 1) s.size).size ≤ s.size := by rw [ByteArray.size_extract]; omega
  go_enter Tryz.func162, Tryz.ntmps162
  go_wp2_with fail
  refine (Tryz.stringslite_Index_one s c _).mono ?_
  rintro e w1 ⟨rfl, rfl⟩
  rw [HI.out]
  go_wp2
  go_quiet (fail)
  go_wp2
  go_ret3
  exact ⟨_, _, true, rfl, h, hsa, hsb, _, rfl⟩
set_option maxHeartbeats 400000 in
theorem cutAny (s : ByteArray) (c : UInt8) (w : World) (hs : s.size ≤ maxLen) :
  Calls Tryz.prog 112 #[.string s, .string ⟨#[c]⟩] w (CutPost s c w) := by
 go_enter Tryz.func112, Tryz.ntmps112
 go_wp2_with fail
 refine (slCut_any s c _ hs).mono ?_
 rintro e w1 ⟨a, b, f, rfl, h⟩
 go_wp2
 go_ret3
 exact ⟨a, b, f, rfl, h⟩

theorem cut1 (s : ByteArray) (c : UInt8) (w : World) (E : Env w) (hs : s.size ≤ 140737488351232) :
  Calls Tryz.prog 112 #[.string s, .string ⟨#[c]⟩] w fun e w' => ∃ a b f, e = .returned (.tuple #[.string a, .string b, .bool f]) ∧ Hid (cutAt c (bl s) = (bl a, bl b, f)) ∧ a.size ≤ s.size ∧ b.size ≤ s.size ∧ Below w.heap.size w w' :=
 (cutAny s c w (by unfold maxLen; omega)).mono fun _ _ ⟨a, b, f, h1, h2, h3, h4, h5⟩ => ⟨a, b, f, h1, h2, h3, h4, h5.below⟩

theorem cutPrefix1 (s : ByteArray) (c : UInt8) (w : World) :
  Calls Tryz.prog 252 #[.string s, .string ⟨#[c]⟩] w fun e w' => ∃ r f, e = .returned (.tuple #[.string r, .bool f]) ∧ Hid (f = headIs c (bl s)) ∧ Hid (bl r = if f then (bl s).tail else bl s) ∧ r.size ≤ s.size ∧ w = w' := by
 refine (Tryz.strings_CutPrefix s ⟨#[c]⟩ w).mono ?_
 rintro e w' ⟨rfl, rfl⟩
 have h1 : Lib.hasPrefix s.data.toList (⟨#[c]⟩ : ByteArray).data.toList = headIs c (bl s) := by
  show Lib.hasPrefix (bl s) [c] = _
  unfold Lib.hasPrefix headIs
  cases bl s with
  | nil => rfl
  | cons x l => simp [List.isPrefixOf, Bool.beq_comm (a := c)]
 have h2 : Lib.trimPrefix s.data.toList (⟨#[c]⟩ : ByteArray).data.toList = if headIs c (bl s) then (bl s).tail else bl s := by
  unfold Lib.trimPrefix
  rw [h1]
  show (if headIs c (bl s) then (bl s).drop 1 else bl s) = _
  rw [List.drop_one]
 rw [h1, h2]
 refine ⟨sb _, _, rfl, rfl, rfl, ?_, rfl⟩
 apply str_len
 split
 ·simp
 ·exact Nat.le_refl _
theorem cutSuffix1 (s : ByteArray) (c : UInt8) (w : World) (hs : s.size ≤ maxLen) :
  Calls Tryz.prog 282 #[.string s, .string ⟨#[c]⟩] w fun e w' => ∃ r f, e = .returned (.tuple #[.string r, .bool f]) ∧ Hid (f = lastIs c (bl s)) ∧ Hid (bl r = if f then (bl s).dropLast else bl s) ∧ r.size ≤ s.size ∧ w = w' := by
 unfold maxLen at hs
 refine (Tryz.strings_CutSuffix s ⟨#[c]⟩ w (by omega)).mono ?_
 rintro e w' ⟨rfl, rfl⟩
 have h1 : Lib.hasSuffix s.data.toList (⟨#[c]⟩ : ByteArray).data.toList = lastIs c (bl s) := by
  show Lib.hasSuffix (bl s) [c] = _
  unfold Lib.hasSuffix lastIs
  rw [Bool.eq_iff_iff, List.isSuffixOf_iff_suffix, beq_iff_eq, List.getLast?_eq_some_iff]
  exact exists_congr fun _ => eq_comm
 have h2 : Lib.trimSuffix s.data.toList (⟨#[c]⟩ : ByteArray).data.toList = if lastIs c (bl s) then (bl s).dropLast else bl s := by
  unfold Lib.trimSuffix
  rw [h1]
  show (if lastIs c (bl s) then (bl s).take ((bl s).length - 1) else bl s) = _
  rw [List.dropLast_eq_take]
 rw [h1, h2]
 refine ⟨sb _, _, rfl, rfl, rfl, ?_, rfl⟩
 apply str_len
 split
 ·simp
 ·exact Nat.le_refl _
end Go.Proofs.YtidkhnfhkofmoaaGreatDoor
namespace Go.Proofs.YtidkhnfhkofmoaaGreatDoor
open Go.RowKit
set_option linter.unusedVariables false
set_option linter.unusedSimpArgs false

def shortB (l : List UInt8) : Bool := l.length == 2 && l.all nameC
theorem shortB_len {s : ByteArray} (h : ¬ s.size = 2) : shortB (bl s) = false := by
 unfold shortB
 have : ((bl s).length == 2) = false := by rw [beq_eq_false_iff_ne]; exact h
 rw [this]; rfl
theorem shortB_of {s : ByteArray} (h : s.size = 2) : shortB (bl s) = (bl s).all nameC := by
 unfold shortB
 have : ((bl s).length == 2) = true := by rw [beq_iff_eq]; exact h
 rw [this]; rfl
theorem nameC_ways (c : UInt8) : (Hid (nameC c = true) ∧ ((65 ≤ (c.toNat : Int) ∧ (c.toNat : Int) ≤ 90) ∨ ((c.toNat : Int) < 65 ∧ 48 ≤ (c.toNat : Int) ∧ (c.toNat : Int) ≤ 57))) ∨
  (Hid (nameC c = false) ∧ (((c.toNat : Int) < 65 ∧ (c.toNat : Int) < 48) ∨ ((c.toNat : Int) < 65 ∧ 48 ≤ (c.toNat : Int) ∧ 57 < (c.toNat : Int)) ∨ (65 ≤ (c.toNat : Int) ∧ 90 < (c.toNat : Int) ∧ 48 ≤ (c.toNat : Int) ∧ 57 < (c.toNat : Int)))) := by
 by_cases h : (65 ≤ (c.toNat : Int) ∧ (c.toNat : Int) ≤ 90) ∨ (48 ≤ (c.toNat : Int) ∧ (c.toNat : Int) ≤ 57)
 ·exact .inl ⟨nameC_yes h, by omega⟩
 ·exact .inr ⟨nameC_no (by omega) (by omega), by omega⟩
set_option maxHeartbeats 1000000 in
theorem short_any (s : ByteArray) (w : World) (hs : s.size ≤ maxLen) :
  Calls Tryz.prog 144 #[.string s] w fun e w' => e = .returned (.bool (shortB (bl s))) ∧ w = w' := by
 unfold maxLen at hs
 by_cases h2 : s.size = 2
 ·have H2 := Lib.hid h2
  have e2 : ((s.size : Int) != 2) = false := by rw [bne_eq_false_iff_eq]; omega
  have b1 : 2 ≤ s.size := by omega
  have b2 : s.size ≤ 2 := by omega
  clear h2
  go_enter Tryz.func144, Tryz.ntmps144
  go_wp2
  go_loop [9] (fun i => ∃ k : Nat, k ≤ s.size ∧ i = .int .i64 k ∧ Hid (((bl s).take k).all nameC = true)) (fun i => s.size - (intOf i).toNat)
  case atStart => exact ⟨0, Nat.zero_le _, rfl, rfl⟩
  case round =>
   obtain ⟨k, hk, rfl, hall⟩ := hrel
   by_cases h : k < s.size
   ·have hk2 : (k : Int) < 2 := by omega
    rcases nameC_ways s[k] with ⟨hn, hc⟩ | ⟨hn, hc⟩
    ·have HA := Lib.hid (all_take_succ hall.out h hn.out)
     clear hn
     rcases hc with ⟨c1, c2⟩ | ⟨c1, c2, c3⟩
     all_goals
      go_wp2
      go_round
      case rel => exact ⟨k + 1, h, by go_num, HA.out⟩
      case measure => simp [intOf]; omega
    ·have HF : Hid (shortB (bl s) = false) := by unfold Hid; rw [shortB_of H2.out, all_false_at (l := bl s) (k := k) h hn.out]
     clear hn
     rcases hc with ⟨c1, c2⟩ | ⟨c1, c2, c3⟩ | ⟨c1, c2, c3, c4⟩
     all_goals
      go_wp2
      go_ret
      exact ⟨ret_bool HF.out.symm, rfl⟩
   ·have hk2 : (2 : Int) ≤ (k : Int) := by omega
    go_wp2
    go_ret
    exact ⟨ret_bool (by rw [shortB_of H2.out, all_take_all hall.out (by rw [bl_len]; omega)]), rfl⟩
 ·have e2 : ((s.size : Int) != 2) = true := by rw [bne_iff_ne]; omega
  have HF := Lib.hid (shortB_len h2)
  clear h2
  go_enter Tryz.func144, Tryz.ntmps144
  go_wp2
  go_ret
  exact ⟨ret_bool HF.out.symm, rfl⟩

def refB (a b : List UInt8) : Bool := nameB a 6 && (nameB b 6 || shortB b)
def refErr (l : List UInt8) : Int := if (cutAt 47 l).2.2 then (if refB (cutAt 47 l).1 (cutAt 47 l).2.1 then 0 else 5) else 4
def refFst (l : List UInt8) : List UInt8 := if refErr l = 0 then (cutAt 47 l).1 else []
def refSnd (l : List UInt8) : List UInt8 := if refErr l = 0 then (cutAt 47 l).2.1 else []
def RefTPost (s : ByteArray) (w : World) (e : Ending) (w' : World) : Prop :=
 ∃ a b, e = .returned (.tuple #[.string a, .string b, .int .i64 (refErr (bl s))]) ∧ Hid (bl a = refFst (bl s)) ∧ Hid (bl b = refSnd (bl s)) ∧ a.size ≤ s.size ∧ b.size ≤ s.size ∧ Drawn w w'
theorem refErr_no {s : ByteArray} {x y : List UInt8} (h : cutAt 47 (bl s) = (x, y, false)) : refErr (bl s) = 4 := by unfold refErr; rw [h]; rfl
theorem refErr_yes {s : ByteArray} {x y : List UInt8} (h : cutAt 47 (bl s) = (x, y, true)) : refErr (bl s) = if refB x y then 0 else 5 := by unfold refErr; rw [h]; rfl
theorem refTPost_bad {s : ByteArray} {w w' : World} {n : Int} (h : refErr (bl s) = n) (h0 : n ≠ 0) (hd : Drawn w w') : RefTPost s w (.returned (.tuple #[.string ⟨#[]⟩, .string ⟨#[]⟩, .int .i64 n])) w' := by
 subst h
 refine ⟨_, _, rfl, ?_, ?_, Nat.zero_le _, Nat.zero_le _, hd⟩
 ·unfold Hid refFst; rw [if_neg h0]; rfl
 ·unfold Hid refSnd; rw [if_neg h0]; rfl
theorem refTPost_ok {s a b : ByteArray} {w w' : World} (h : cutAt 47 (bl s) = (bl a, bl b, true)) (hr : refB (bl a) (bl b) = true) (ha : a.size ≤ s.size) (hb : b.size ≤ s.size) (hd : Drawn w w') : RefTPost s w (.returned (.tuple #[.string a, .string b, .int .i64 0])) w' := by
 have h0 : refErr (bl s) = 0 := by rw [refErr_yes h, if_pos hr]
 refine ⟨a, b, by rw [h0], ?_, ?_, ha, hb, hd⟩
 ·unfold Hid refFst; rw [if_pos h0, h]
 ·unfold Hid refSnd; rw [if_pos h0, h]
theorem refB_ways (a b : List UInt8) : (nameB a 6 = false ∧ Hid (refB a b = false)) ∨ (nameB a 6 = true ∧ ((nameB b 6 = true ∧ Hid (refB a b = true)) ∨ (nameB b 6 = false ∧ ((shortB b = true ∧ Hid (refB a b = true)) ∨ (shortB b = false ∧ Hid (refB a b = false)))))) := by
 unfold refB Hid
 cases nameB a 6 <;> cases nameB b 6 <;> cases shortB b <;> simp
set_option maxHeartbeats 1000000 in
theorem splitRef_any (s : ByteArray) (w : World) (hs : s.size ≤ maxLen) :
  Calls Tryz.prog 145 #[.string s] w (RefTPost s w) := by
 go_enter Tryz.func145, Tryz.ntmps145
 go_wp2_with fail
 refine (cutAny s 47 _ hs).mono ?_
 rintro e w1 ⟨a, b, f, rfl, hcut, has, hbs, hd⟩
 cases f
 ·go_wp2
  go_ret3
  exact refTPost_bad (refErr_no hcut.out) (by decide) hd
 ·go_wp2_with fail
  refine (name_any a 6 _ (Nat.le_trans has hs)).mono ?_
  rintro e w' ⟨rfl, rfl⟩
  rcases refB_ways (bl a) (bl b) with ⟨h1, hr⟩ | ⟨h1, ⟨h2, hr⟩ | ⟨h2, ⟨h3, hr⟩ | ⟨h3, hr⟩⟩⟩
  ·rw [h1]
   clear h1
   go_wp2
   go_ret3
   exact refTPost_bad (n := 5) (by rw [refErr_yes hcut.out, hr.out]; rfl) (by decide) hd
  all_goals
   rw [h1]
   have H2 := Lib.hid h2
   clear h1 h2
   go_wp2_with fail
   refine (name_any b 6 _ (Nat.le_trans hbs hs)).mono ?_
   rintro e w' ⟨rfl, rfl⟩
   rw [H2.out]
  ·go_wp2
   go_ret3
   exact refTPost_ok hcut.out hr.out has hbs hd
  all_goals
   have H3 := Lib.hid h3
   clear h3
   go_wp2_with fail
   refine (short_any b _ (Nat.le_trans hbs hs)).mono ?_
   rintro e w' ⟨rfl, rfl⟩
   rw [H3.out]
  ·go_wp2
   go_ret3
   exact refTPost_ok hcut.out hr.out has hbs hd
  ·go_wp2
   go_ret3
   exact refTPost_bad (n := 5) (by rw [refErr_yes hcut.out, hr.out]; rfl) (by decide) hd
end Go.Proofs.YtidkhnfhkofmoaaGreatDoor
namespace Go.Proofs.YtidkhnfhkofmoaaGreatDoor
open Go.RowKit
set_option linter.unusedVariables false
set_option linter.unusedSimpArgs false

section
variable {w w' : World} {size n : Nat} {v : Value} {xs : List Value}
end
structure Pt where
 ref : List UInt8
 lo : Int
 hi : Int
 dir : Nat
def ptc (p : Pt) : List Value := [.string (sb p.ref), .int .i64 p.lo, .int .i64 p.hi, .int .u8 (p.dir : Int)]
def ptcells (l : List Pt) : List Value := l.flatMap ptc
theorem ptcells_snoc (l : List Pt) (p : Pt) : ptcells (l ++ [p]) = ptcells l ++ ptc p := by
 unfold ptcells; rw [List.flatMap_append]; simp
theorem ptcells_at (l : List Pt) : ∀ (k : Nat) (h : k < l.length), (ptcells l)[k * 4]? = some (.string (sb l[k].ref)) ∧ (ptcells l)[k * 4 + 1]? = some (.int .i64 l[k].lo) ∧ (ptcells l)[k * 4 + 2]? = some (.int .i64 l[k].hi) ∧ (ptcells l)[k * 4 + 3]? = some (.int .u8 (l[k].dir : Int)) := by
 induction l with
 | nil => intro k h; simp at h
 | cons p l ih =>
  intro k h
  cases k with
  | zero => exact ⟨rfl, rfl, rfl, rfl⟩
  | succ k =>
   have := ih k (by simpa using h)
   rw [show (k + 1) * 4 = k * 4 + 4 by omega]
   exact this
def PtsR (w : World) (v : Value) (l : List Pt) : Prop := Rd w 4 v l.length (ptcells l) ∧ ∀ p ∈ l, p.ref.length ≤ maxLen ∧ p.dir < 256
theorem PtsR.form {w : World} {v : Value} {l : List Pt} (h : PtsR w v l) : ∃ A c, v = .slice A l.length c ∧ l.length ≤ c ∧ c ≤ maxLen := h.1.form
theorem PtsR.below {w w' : World} {v : Value} {l : List Pt} (h : PtsR w v l) (hb : Below w.heap.size w w') : PtsR w' v l := ⟨h.1.below hb, h.2⟩
theorem PtsR.at_ {w : World} {v : Value} {l : List Pt} (h : PtsR w v l) {k : Nat} (hk : k < l.length) :
  ∃ g o c, v = .slice (some ⟨g, o, none⟩) l.length c ∧ g < w.heap.size ∧ w.cell? ⟨g, o + k * 4, none⟩ = some (.string (sb l[k].ref)) ∧ w.cell? ⟨g, o + k * 4 + 1, none⟩ = some (.int .i64 l[k].lo) ∧ w.cell? ⟨g, o + k * 4 + 2, none⟩ = some (.int .i64 l[k].hi) ∧ w.cell? ⟨g, o + k * 4 + 3, none⟩ = some (.int .u8 (l[k].dir : Int)) := by
 obtain ⟨⟨hl, A, c, hv, hc, hm, hr⟩, _⟩ := h
 obtain ⟨g, o, rfl, hg, hx⟩ := hr (by omega)
 obtain ⟨h0, h1, h2, h3⟩ := ptcells_at l k hk
 exact ⟨g, o, c, hv, hg, hx _ _ h0, hx _ _ h1, hx _ _ h2, hx _ _ h3⟩

def idxFrom (r : List UInt8) (n : Nat) : List Pt → Int
 | [] => -1
 | p :: l => if p.ref = r then n else idxFrom r (n + 1) l
def idxOf (l : List Pt) (r : List UInt8) : Int := idxFrom r 0 l
theorem idx_step {l : List Pt} {k : Nat} (r : List UInt8) (h : k < l.length) : idxFrom r k (l.drop k) = if l[k].ref = r then (k : Int) else idxFrom r (k + 1) (l.drop (k + 1)) := by
 rw [List.drop_eq_getElem_cons h]; rfl
theorem idx_end {l : List Pt} {k : Nat} (r : List UInt8) (h : l.length ≤ k) : idxFrom r k (l.drop k) = -1 := by
 rw [List.drop_eq_nil_of_le h]; rfl
set_option maxHeartbeats 400000 in
theorem same_any (t r : ByteArray) (a b : Int) (d : Nat) (B : Nat) (w : World) (hr : w.cell? ⟨B, 0, none⟩ = some (.string r)) (hB : B < w.heap.size) :
  Calls Tryz.prog 202 #[.agg #[.string t, .int .i64 a, .int .i64 b, .int .u8 (d : Int)], .pointer (some ⟨B, 0, none⟩)] w fun e w' => e = .returned (.bool (t.toList == r.toList)) ∧ Below w.heap.size w w' := by
 go_enter Tryz.func202, Tryz.ntmps202
 go_wp2
 go_ret
 exact ⟨rfl, (Below.refl _ _).alloc (Nat.le_refl _) _⟩
theorem str_eq {t r : ByteArray} : (t.toList == r.toList) = decide (bl t = bl r) := by
 rw [bl_toList, bl_toList, Bool.eq_iff_iff, beq_iff_eq, decide_eq_true_iff]
set_option maxRecDepth 100000 in
set_option maxHeartbeats 1000000 in
theorem indexFunc_any (v : Value) (l : List Pt) (r : ByteArray) (B : Nat) (w : World) (h : PtsR w v l) (hr : w.cell? ⟨B, 0, none⟩ = some (.string r)) (hB : B < w.heap.size) :
  Calls Tryz.prog 201 #[v, .func (.func 202) #[] #[.pointer (some ⟨B, 0, none⟩)]] w
   fun e w' => e = .returned (.int .i64 (idxOf l (bl r))) ∧ Below w.heap.size w w' := by
 obtain ⟨A, c, rfl, hc, hm⟩ := h.form
 unfold maxLen at hm
 have H := Lib.hid h
 clear h
 obtain ⟨n, hnn⟩ : ∃ n, l.length = n := ⟨_, rfl⟩
 rw [hnn] at hc H
 rw [hnn]
 have HN := Lib.hid hnn
 obtain ⟨x, hx⟩ : ∃ x, idxOf l (bl r) = x := ⟨_, rfl⟩
 rw [hx]
 have HX := Lib.hid hx
 clear hnn hx
 go_enter Tryz.func201, Tryz.ntmps201
 go_wp2
 go_loopw [8] (fun i wr => ∃ k : Nat, k ≤ n ∧ i = .int .i64 k ∧ Hid (idxFrom (bl r) k (l.drop k) = x) ∧ Below w.heap.size w wr) (fun i _ => n - (intOf i).toNat)
 case atStart => exact ⟨0, Nat.zero_le _, rfl, HX.out, Below.refl _ _⟩
 case round =>
  obtain ⟨k, hk, rfl, hix, hbr⟩ := hrel
  by_cases hlt : k < n
  ·have hkl : k < l.length := by rw [HN.out]; exact hlt
   obtain ⟨g, o, c', hA, hg, h0, h1, h2, h3⟩ := H.out.at_ hkl
   rw [HN.out] at hA
   simp only [Value.slice.injEq, true_and] at hA
   obtain ⟨rfl, rfl⟩ := hA
   have k0 := (hbr.cell (p := ⟨g, o + k * 4, none⟩) hg).trans h0
   have k1 := (hbr.cell (p := ⟨g, o + k * 4 + 1, none⟩) hg).trans h1
   have k2 := (hbr.cell (p := ⟨g, o + k * 4 + 2, none⟩) hg).trans h2
   have k3 := (hbr.cell (p := ⟨g, o + k * 4 + 3, none⟩) hg).trans h3
   have HS := Lib.hid (idx_step (bl r) hkl)
   obtain ⟨p, hp⟩ : ∃ p, l[k] = p := ⟨_, rfl⟩
   rw [hp] at k0 k1 k2 k3 HS
   clear h0 h1 h2 h3 hp hkl
   have hr2 := (hbr.cell (p := ⟨B, 0, none⟩) hB).trans hr
   have hB2 : B < wr.heap.size := Nat.lt_of_lt_of_le hB hbr.size
   go_wp2_with fail
   refine (same_any (sb p.ref) r p.lo p.hi p.dir B _ hr2 hB2).mono ?_
   rintro e w1 ⟨rfl, hb1⟩
   have hbn := hbr.trans (hb1.mono hbr.size)
   rw [str_eq, bl_sb]
   clear hr2 hB2 k0 k1 k2 k3
   by_cases he : p.ref = bl r
   ·have HE := Lib.hid he
    rw [decide_eq_true he]
    clear he
    go_wp2
    go_ret
    exact ⟨ret_int (by rw [← hix.out, HS.out, if_pos HE.out]), hbn⟩
   ·have HE := Lib.hid he
    rw [decide_eq_false he]
    clear he
    go_wp2
    go_roundw
    case rel => exact ⟨k + 1, hlt, by go_num, by unfold Hid; rw [← hix.out, HS.out, if_neg HE.out], hbn⟩
    case measure => simp [intOf]; omega
  ·have HE := Lib.hid (idx_end (l := l) (k := k) (bl r) (by have := HN.out; omega))
   go_wp2
   go_ret
   exact ⟨ret_int (by rw [← hix.out, HE.out]), hbr⟩
set_option maxHeartbeats 1000000 in
theorem index_any (nm r : ByteArray) (v : Value) (l : List Pt) (w : World) (h : PtsR w v l) :
  Calls Tryz.prog 146 #[.agg #[.string nm, v], .string r] w fun e w' => e = .returned (.int .i64 (idxOf l (bl r))) ∧ Below w.heap.size w w' := by
 obtain ⟨A, c, rfl, hc, hm⟩ := h.form
 go_enter Tryz.func146, Tryz.ntmps146
 go_wp2_with fail
 refine (indexFunc_any _ l r _ _ (h.below (((Below.refl _ _).alloc (Nat.le_refl _) _).alloc (by simp) _)) (by simp [go_sem]) (by simp)).mono ?_
 rintro e w1 ⟨rfl, hb1⟩
 have hbn := (((Below.refl w.heap.size w).alloc (Nat.le_refl _) (.cells #[.string nm, .slice A l.length c] 77)).alloc (by simp) (.cells #[.string r] 9)).trans (hb1.mono (by simp; omega))
 go_wp2
 go_ret
 exact ⟨rfl, hbn⟩
end Go.Proofs.YtidkhnfhkofmoaaGreatDoor
namespace Go.Proofs.YtidkhnfhkofmoaaGreatDoor
open Go.RowKit Go.Sort
set_option linter.unusedVariables false
set_option linter.unusedSimpArgs false

def cmpS (a b : List UInt8) : Int := if a < b then -1 else if b < a then 1 else 0
theorem cmpS_neg {a b : List UInt8} : cmpS a b < 0 ↔ a < b := by
 unfold cmpS
 split
 ·rename_i h; simp [h]
 ·rename_i h; split <;> simp [h]
theorem blt_asymm {a b : List UInt8} (h : a < b) : ¬ b < a := List.lt_asymm h
theorem blt_trans {a b c : List UInt8} (h : ¬ b < a) (k : ¬ c < b) : ¬ c < a := by
 rw [List.not_lt] at *
 exact List.le_trans h k
theorem blt_eq {a b : List UInt8} (h : ¬ a < b) (k : ¬ b < a) : a = b := by
 rw [List.not_lt] at *
 exact List.le_antisymm k h
theorem swo_text {α : Type} (f : α → List UInt8) : Swo (ltOf fun x y : α => cmpS (f x) (f y)) where
 asymm a b h := by
  have h1 : f a < f b := cmpS_neg.1 (of_decide_eq_true h)
  exact decide_eq_false fun h2 => blt_asymm h1 (cmpS_neg.1 h2)
 trans a b c h k := by
  have h1 : ¬ f b < f a := fun h1 => of_decide_eq_false h (cmpS_neg.2 h1)
  have h2 : ¬ f c < f b := fun h1 => of_decide_eq_false k (cmpS_neg.2 h1)
  exact decide_eq_false fun h3 => blt_trans h1 h2 (cmpS_neg.1 h3)
theorem str_eqB {t r : ByteArray} : (t.toList == r.toList) = decide (bl t = bl r) := by
 rw [bl_toList, bl_toList, Bool.eq_iff_iff, beq_iff_eq, decide_eq_true_iff]
theorem bytesLess_bl (x y : ByteArray) : Op.bytesLess x.toList y.toList = decide (bl x < bl y) := by rw [bl_toList, bl_toList, bytesLess_eq]
set_option maxHeartbeats 400000 in
theorem isNaNs_any (x : ByteArray) (w : World) : Calls Tryz.prog 84 #[.string x] w fun e w' => e = .returned (.bool false) ∧ w' = w := by
 go_enter Tryz.func84, Tryz.ntmps84
 go_wp2
 go_ret
 exact ⟨by simp, rfl⟩
set_option maxHeartbeats 1000000 in
theorem cmpStr_any (x y : ByteArray) (w : World) : Calls Tryz.prog 38 #[.string x, .string y] w fun e w' => e = .returned (.int .i64 (cmpS (bl x) (bl y))) ∧ w' = w := by
 have b1 := bytesLess_bl x y
 have b2 := bytesLess_bl y x
 obtain ⟨r, hr⟩ : ∃ r, cmpS (bl x) (bl y) = r := ⟨_, rfl⟩
 have HR := Lib.hid hr
 rw [hr]
 clear hr
 by_cases h1 : bl x < bl y
 ·have H : Hid ((-1 : Int) = r) := by unfold Hid; rw [← HR.out]; unfold cmpS; rw [if_pos h1]
  rw [decide_eq_true h1] at b1
  rw [decide_eq_false (blt_asymm h1)] at b2
  clear h1
  go_enter Tryz.func38, Tryz.ntmps38
  go_wp2_with fail
  refine (isNaNs_any x _).mono ?_
  rintro e w1 ⟨rfl, rfl⟩
  go_wp2_with fail
  refine (isNaNs_any y _).mono ?_
  rintro e w1 ⟨rfl, rfl⟩
  go_wp2
  go_ret
  exact ⟨by rw [← H.out]; rfl, rfl⟩
 ·rw [decide_eq_false h1] at b1
  by_cases h2 : bl y < bl x
  ·have e3 : (x.toList == y.toList) = false := by rw [str_eqB]; exact decide_eq_false fun e => blt_asymm h2 (by rw [e] at h2 ⊢; exact h2)
   have H : Hid ((1 : Int) = r) := by unfold Hid; rw [← HR.out]; unfold cmpS; rw [if_neg h1, if_pos h2]
   rw [decide_eq_true h2] at b2
   clear h1 h2
   go_enter Tryz.func38, Tryz.ntmps38
   go_wp2_with fail
   refine (isNaNs_any x _).mono ?_
   rintro e w1 ⟨rfl, rfl⟩
   go_wp2_with fail
   refine (isNaNs_any y _).mono ?_
   rintro e w1 ⟨rfl, rfl⟩
   go_wp2
   go_ret
   exact ⟨by rw [← H.out]; rfl, rfl⟩
  ·have e3 : (x.toList == y.toList) = true := by rw [str_eqB]; exact decide_eq_true (blt_eq h1 h2)
   have H : Hid ((0 : Int) = r) := by unfold Hid; rw [← HR.out]; unfold cmpS; rw [if_neg h1, if_neg h2]
   rw [decide_eq_false h2] at b2
   clear h1 h2
   go_enter Tryz.func38, Tryz.ntmps38
   go_wp2_with fail
   refine (isNaNs_any x _).mono ?_
   rintro e w1 ⟨rfl, rfl⟩
   go_wp2_with fail
   refine (isNaNs_any y _).mono ?_
   rintro e w1 ⟨rfl, rfl⟩
   go_wp2
   go_ret
   exact ⟨by rw [← H.out]; rfl, rfl⟩
end Go.Proofs.YtidkhnfhkofmoaaGreatDoor
