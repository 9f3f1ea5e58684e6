/-
  Several texts as one.
-/
import Derived.Test.YtgmehlgfilpleaaGreatDoorMG01
import Derived.Lib.ParseIntB
namespace Go.Proofs.YtgmehlgfilpleaaGreatDoor
open Go.RowKit
set_option linter.unusedVariables false
set_option linter.unusedSimpArgs false

/-- a block of two cells that the call laid, read in a later world -/
theorem boxed2 {w w1 : World} {a b : Value} {t : TypeId} (h : Below (w.alloc (.cells #[a, b] t)).heap.size (w.alloc (.cells #[a, b] t)) w1) :
    w1.cell? ⟨w.heap.size, 0, none⟩ = some a ∧ w1.cell? ⟨w.heap.size, 1, none⟩ = some b :=
  ⟨(h.cell (p := ⟨w.heap.size, 0, none⟩) (by simp)).trans (by simp [go_sem]), (h.cell (p := ⟨w.heap.size, 1, none⟩) (by simp)).trans (by simp [go_sem])⟩
theorem below_box {w w1 : World} {o : Obj} (h : Below (w.alloc o).heap.size (w.alloc o) w1) : Below w.heap.size w w1 :=
  ((Below.refl _ _).alloc (Nat.le_refl _) o).trans (h.mono (by simp))

def winBad (lo hi : Int) : Prop := lo < -200000 ∨ hi < lo ∨ 6000000 < hi
instance (lo hi : Int) : Decidable (winBad lo hi) := by unfold winBad; infer_instance
def winText (lo hi : Int) : List UInt8 :=
  if lo = -200000 ∧ hi = 6000000 then [45] else if lo = hi then altOut lo else if hi = 6000000 then altOut lo ++ [43] else if lo = -200000 then altOut hi ++ [45] else altOut lo ++ 58 :: altOut hi
def winOut (lo hi : Int) : List UInt8 := if winBad lo hi then [] else winText lo hi
def winErr (lo hi : Int) : Int := if winBad lo hi then 1 else 0

set_option maxHeartbeats 400000 in
theorem winText_bad (lo hi : Int) (w : World) (h : winBad lo hi) :
    Calls Tryz.prog 175 #[.agg #[.int .i64 lo, .int .i64 hi]] w fun e w' => ∃ t, e = .returned (.tuple #[.string t, .int .i64 1]) ∧ Hid (bl t = []) ∧ Below w.heap.size w w' := by
  have h' : lo < -200000 ∨ (-200000 ≤ lo ∧ hi < lo) ∨ (-200000 ≤ lo ∧ lo ≤ hi ∧ 6000000 < hi) := by unfold winBad at h; omega
  clear h
  rcases h' with h | ⟨h, h2⟩ | ⟨h, h2, h3⟩
  all_goals
    go_enter Tryz.func175, Tryz.ntmps175
    go_wp2
    go_ret2
    exact ⟨_, rfl, rfl, (Below.refl _ _).alloc (Nat.le_refl _) _⟩

set_option maxHeartbeats 1000000 in
theorem winText_ok (lo hi : Int) (w : World) (E : Env w) (h : ¬ winBad lo hi) :
    Calls Tryz.prog 175 #[.agg #[.int .i64 lo, .int .i64 hi]] w fun e w' => ∃ t, e = .returned (.tuple #[.string t, .int .i64 0]) ∧ Hid (bl t = winText lo hi) ∧ Below w.heap.size w w' := by
  have l1 : -200000 ≤ lo := by unfold winBad at h; omega
  have l2 : lo ≤ hi := by unfold winBad at h; omega
  have l3 : hi ≤ 6000000 := by unfold winBad at h; omega
  clear h
  have h' : (Hid (winText lo hi = [45]) ∧ lo ≤ -200000 ∧ 6000000 ≤ hi) ∨ (Hid (winText lo hi = altOut lo) ∧ lo ≤ -200000 ∧ hi ≤ lo) ∨ (Hid (winText lo hi = altOut lo) ∧ -200000 < lo ∧ hi ≤ lo) ∨ (Hid (winText lo hi = altOut lo ++ [43]) ∧ -200000 < lo ∧ lo < hi ∧ 6000000 ≤ hi) ∨ (Hid (winText lo hi = altOut hi ++ [45]) ∧ lo ≤ -200000 ∧ lo < hi ∧ hi < 6000000) ∨ (Hid (winText lo hi = altOut lo ++ 58 :: altOut hi) ∧ -200000 < lo ∧ lo < hi ∧ hi < 6000000) := by
    unfold winText Hid
    by_cases a : lo = -200000 ∧ hi = 6000000
    · exact .inl ⟨by rw [if_pos a], by omega, by omega⟩
    · by_cases b : lo = hi
      · by_cases c : lo = -200000
        · exact .inr (.inl ⟨by rw [if_neg a, if_pos b], by omega, by omega⟩)
        · exact .inr (.inr (.inl ⟨by rw [if_neg a, if_pos b], by omega, by omega⟩))
      · by_cases c : hi = 6000000
        · exact .inr (.inr (.inr (.inl ⟨by rw [if_neg a, if_neg b, if_pos c], by omega, by omega, by omega⟩)))
        · by_cases d : lo = -200000
          · exact .inr (.inr (.inr (.inr (.inl ⟨by rw [if_neg a, if_neg b, if_neg c, if_pos d], by omega, by omega, by omega⟩))))
          · exact .inr (.inr (.inr (.inr (.inr ⟨by rw [if_neg a, if_neg b, if_neg c, if_neg d], by omega, by omega, by omega⟩))))
  rcases h' with ⟨hw, c1, c2⟩ | ⟨hw, c1, c2⟩ | ⟨hw, c1, c2⟩ | ⟨hw, c1, c2, c3⟩ | ⟨hw, c1, c2, c3⟩ | ⟨hw, c1, c2, c3⟩

  all_goals
    go_enter Tryz.func175, Tryz.ntmps175
    go_wp2_with fail
    refine (altText_any lo _ (E.alloc _)).mono ?_
    rintro e w1 ⟨t1, rfl, ht1, hs1, hb1⟩
    obtain ⟨k0, k1⟩ := boxed2 hb1
    go_wp2_with fail
    refine (altText_any hi _ ((E.alloc _).below hb1)).mono ?_
    rintro e w2 ⟨t2, rfl, ht2, hs2, hb2⟩
    have hb := Below.then_ hb1 hb2; obtain ⟨k2, k3⟩ := boxed2 hb
    go_wp2
    go_ret2
    refine ⟨_, rfl, ?_, below_box hb⟩
    unfold Hid
    rw [hw.out]
    first
    | (show bl ⟨#[45]⟩ = [45]; rfl)
    | (show bl t1 = altOut lo; exact ht1.out)
    | (show bl (t1 ++ ⟨#[43]⟩) = _; rw [bl_append, ht1.out]; rfl)
    | (show bl (t2 ++ ⟨#[45]⟩) = _; rw [bl_append, ht2.out]; rfl)
    | (show bl (t1 ++ ⟨#[58]⟩ ++ t2) = _; rw [bl_append, bl_append, ht1.out, ht2.out, bl_mk, List.append_assoc]; rfl)

/-- WindowText of every window -/
theorem winText_any (lo hi : Int) (w : World) (E : Env w) :
    Calls Tryz.prog 175 #[.agg #[.int .i64 lo, .int .i64 hi]] w fun e w' => ∃ t, e = .returned (.tuple #[.string t, .int .i64 (winErr lo hi)]) ∧ Hid (bl t = winOut lo hi) ∧ Below w.heap.size w w' := by
  by_cases h : winBad lo hi
  · have h1 : winErr lo hi = 1 := if_pos h
    have h2 : winOut lo hi = [] := if_pos h
    rw [h1, h2]
    exact winText_bad lo hi w h
  · have h1 : winErr lo hi = 0 := if_neg h
    have h2 : winOut lo hi = winText lo hi := if_neg h
    rw [h1, h2]
    exact winText_ok lo hi w E h

/-- strings.Cut at one byte, as a recursion: before, behind, found -/
def cutAt (c : UInt8) : List UInt8 → List UInt8 × List UInt8 × Bool
  | [] => ([], [], false)
  | x :: l => if x = c then ([], l, true) else (x :: (cutAt c l).1, (cutAt c l).2.1, (cutAt c l).2.2)
def headIs (c : UInt8) (l : List UInt8) : Bool := l.head? == some c
def lastIs (c : UInt8) (l : List UInt8) : Bool := l.getLast? == some c

theorem index_one (c : UInt8) (l : List UInt8) :
    (Lib.index l [c] = -1 ∧ cutAt c l = (l, [], false)) ∨ ∃ i : Nat, Lib.index l [c] = i ∧ cutAt c l = (l.take i, l.drop (i + 1), true) := by
  induction l with
  | nil => exact .inl ⟨rfl, rfl⟩
  | cons x l ih =>
    unfold Lib.index cutAt
    by_cases h : x = c
    · subst h
      exact .inr ⟨0, by simp, by simp⟩
    · have h1 : ([c].isPrefixOf (x :: l)) = false := by simp [List.isPrefixOf, Ne.symm h]
      rw [h1]
      rcases ih with ⟨h2, h3⟩ | ⟨i, h2, h3⟩
      · rw [h2, h3]; exact .inl ⟨by simp, by simp [h]⟩
      · rw [h2, h3]
        have h4 : ((i : Int) == -1) = false := by rw [beq_eq_false_iff_ne]; omega
        exact .inr ⟨i + 1, by simp [h4], by simp [h]⟩
theorem str_len {a : List UInt8} {s : ByteArray} (h : a.length ≤ (bl s).length) : (sb a).size ≤ s.size := h

/-- only draws -/
def Drawn (w w' : World) : Prop := ∃ m, w' = w.drewN m
theorem Drawn.refl (w : World) : Drawn w w := ⟨0, rfl⟩
theorem Drawn.trans {a b c : World} (h : Drawn a b) (k : Drawn b c) : Drawn a c := by
  obtain ⟨m, rfl⟩ := h
  obtain ⟨n, rfl⟩ := k
  exact ⟨m + n, by rw [World.drewN_drewN]⟩
theorem Drawn.more {w w' : World} (h : Drawn w w') (n : Nat) : Drawn w (w'.drewN n) := h.trans ⟨n, rfl⟩
theorem Drawn.below {w w' : World} (h : Drawn w w') {b : Nat} : Below b w w' := by
  obtain ⟨m, rfl⟩ := h
  exact below_drewN' (Below.refl _ _) m
def CutPost (s : ByteArray) (c : UInt8) (w : World) (e : Ending) (w' : World) : Prop :=
  ∃ a b f, e = .returned (.tuple #[.string a, .string b, .bool f]) ∧ Hid (cutAt c (bl s) = (bl a, bl b, f)) ∧ a.size ≤ s.size ∧ b.size ≤ s.size ∧ Drawn w w'
theorem cutAt_byte (c : UInt8) (l : List UInt8) :
    (Lib.indexByte l c = -1 ∧ cutAt c l = (l, [], false)) ∨ ∃ i : Nat, Lib.indexByte l c = i ∧ i < l.length ∧ cutAt c l = (l.take i, l.drop (i + 1), true) := by
  induction l with
  | nil => exact .inl ⟨rfl, rfl⟩
  | cons x l ih =>
    unfold Lib.indexByte cutAt
    by_cases h : x = c
    · subst h
      exact .inr ⟨0, by simp, by simp, by simp⟩
    · have h1 : (x == c) = false := beq_eq_false_iff_ne.2 h
      rw [h1]
      rcases ih with ⟨h2, h3⟩ | ⟨i, h2, h4, h3⟩
      · rw [h2, h3]; exact .inl ⟨by simp, by simp [h]⟩
      · rw [h2, h3]
        have h5 : ((i : Int) == -1) = false := by rw [beq_eq_false_iff_ne]; omega
        exact .inr ⟨i + 1, by simp [h5], by simp; omega, by simp [h]⟩
theorem cut_ways (s : ByteArray) (c : UInt8) : (∃ h : Hid (cutAt c (bl s) = (bl s, [], false)), Lib.indexByte s.data.toList c = -1) ∨
    ∃ i : Nat, i < s.size ∧ Lib.indexByte s.data.toList c = i ∧ Hid (cutAt c (bl s) = (bl (s.extract 0 i), bl (s.extract (i + 1) s.size), true)) := by
  rcases cutAt_byte c (bl s) with ⟨h1, h2⟩ | ⟨i, h1, h2, h3⟩
  · exact .inl ⟨h2, h1⟩
  · refine .inr ⟨i, h2, h1, ?_⟩
    unfold Hid
    rw [h3, bl_extract, bl_extract, List.drop_zero, Nat.sub_zero, List.take_of_length_le (l := (bl s).drop (i + 1)) (by rw [List.length_drop, bl_len]; omega)]
set_option maxHeartbeats 400000 in
theorem slCut_any (s : ByteArray) (c : UInt8) (w : World) (hs : s.size ≤ maxLen) :
    Calls Tryz.prog 296 #[.string s, .string ⟨#[c]⟩] w (CutPost s c w) := by
  unfold maxLen at hs
  rcases cut_ways s c with ⟨h, hi⟩ | ⟨i, hi, hx, h⟩
  · have HI := Lib.hid hi
    clear hi
    go_enter Tryz.func296, Tryz.ntmps296
    go_wp2_with fail
    refine (Tryz.stringslite_Index_one s c _).mono ?_
    rintro e w1 ⟨rfl, rfl⟩
    rw [HI.out]
    go_wp2
    go_ret3
    exact ⟨s, ⟨#[]⟩, false, rfl, h, Nat.le_refl _, Nat.zero_le _, Drawn.refl _⟩
  · have HI := Lib.hid hx
    clear hx
    have hsa : (s.extract 0 i).size ≤ s.size := by rw [ByteArray.size_extract]; omega
    have hsb : (s.extract (i + 1) s.size).size ≤ s.size := by rw [ByteArray.size_extract]; omega
    go_enter Tryz.func296, Tryz.ntmps296
    go_wp2_with fail
    refine (Tryz.stringslite_Index_one s c _).mono ?_
    rintro e w1 ⟨rfl, rfl⟩
    rw [HI.out]
    go_wp2
    go_quiet (fail)
    go_wp2
    go_ret3
    exact ⟨_, _, true, rfl, h, hsa, hsb, _, rfl⟩
set_option maxHeartbeats 400000 in
theorem cutAny (s : ByteArray) (c : UInt8) (w : World) (hs : s.size ≤ maxLen) :
    Calls Tryz.prog 222 #[.string s, .string ⟨#[c]⟩] w (CutPost s c w) := by
  go_enter Tryz.func222, Tryz.ntmps222
  go_wp2_with fail
  refine (slCut_any s c _ hs).mono ?_
  rintro e w1 ⟨a, b, f, rfl, h⟩
  go_wp2
  go_ret3
  exact ⟨a, b, f, rfl, h⟩

/-- strings.Cut(s, one byte) -/
theorem cut1 (s : ByteArray) (c : UInt8) (w : World) (E : Env w) (hs : s.size ≤ 140737488351232) :
    Calls Tryz.prog 222 #[.string s, .string ⟨#[c]⟩] w fun e w' => ∃ a b f, e = .returned (.tuple #[.string a, .string b, .bool f]) ∧ Hid (cutAt c (bl s) = (bl a, bl b, f)) ∧ a.size ≤ s.size ∧ b.size ≤ s.size ∧ Below w.heap.size w w' :=
  (cutAny s c w (by unfold maxLen; omega)).mono fun _ _ ⟨a, b, f, h1, h2, h3, h4, h5⟩ => ⟨a, b, f, h1, h2, h3, h4, h5.below⟩

/-- strings.CutPrefix(s, one byte) -/
theorem cutPrefix1 (s : ByteArray) (c : UInt8) (w : World) :
    Calls Tryz.prog 395 #[.string s, .string ⟨#[c]⟩] w fun e w' => ∃ r f, e = .returned (.tuple #[.string r, .bool f]) ∧ Hid (f = headIs c (bl s)) ∧ Hid (bl r = if f then (bl s).tail else bl s) ∧ r.size ≤ s.size ∧ w = w' := by
  refine (Tryz.strings_CutPrefix s ⟨#[c]⟩ w).mono ?_
  rintro e w' ⟨rfl, rfl⟩
  have h1 : Lib.hasPrefix s.data.toList (⟨#[c]⟩ : ByteArray).data.toList = headIs c (bl s) := by
    show Lib.hasPrefix (bl s) [c] = _
    unfold Lib.hasPrefix headIs
    cases bl s with
    | nil => rfl
    | cons x l => simp [List.isPrefixOf, Bool.beq_comm (a := c)]
  have h2 : Lib.trimPrefix s.data.toList (⟨#[c]⟩ : ByteArray).data.toList = if headIs c (bl s) then (bl s).tail else bl s := by
    unfold Lib.trimPrefix
    rw [h1]
    show (if headIs c (bl s) then (bl s).drop 1 else bl s) = _
    rw [List.drop_one]
  rw [h1, h2]
  refine ⟨sb _, _, rfl, rfl, rfl, ?_, rfl⟩
  apply str_len
  split
  · simp
  · exact Nat.le_refl _
/-- strings.CutSuffix(s, one byte) -/
theorem cutSuffix1 (s : ByteArray) (c : UInt8) (w : World) (hs : s.size ≤ maxLen) :
    Calls Tryz.prog 416 #[.string s, .string ⟨#[c]⟩] w fun e w' => ∃ r f, e = .returned (.tuple #[.string r, .bool f]) ∧ Hid (f = lastIs c (bl s)) ∧ Hid (bl r = if f then (bl s).dropLast else bl s) ∧ r.size ≤ s.size ∧ w = w' := by
  unfold maxLen at hs
  refine (Tryz.strings_CutSuffix s ⟨#[c]⟩ w (by omega)).mono ?_
  rintro e w' ⟨rfl, rfl⟩
  have h1 : Lib.hasSuffix s.data.toList (⟨#[c]⟩ : ByteArray).data.toList = lastIs c (bl s) := by
    show Lib.hasSuffix (bl s) [c] = _
    unfold Lib.hasSuffix lastIs
    rw [Bool.eq_iff_iff, List.isSuffixOf_iff_suffix, beq_iff_eq, List.getLast?_eq_some_iff]
    exact exists_congr fun _ => eq_comm
  have h2 : Lib.trimSuffix s.data.toList (⟨#[c]⟩ : ByteArray).data.toList = if lastIs c (bl s) then (bl s).dropLast else bl s := by
    unfold Lib.trimSuffix
    rw [h1]
    show (if lastIs c (bl s) then (bl s).take ((bl s).length - 1) else bl s) = _
    rw [List.dropLast_eq_take]
  rw [h1, h2]
  refine ⟨sb _, _, rfl, rfl, rfl, ?_, rfl⟩
  apply str_len
  split
  · simp
  · exact Nat.le_refl _

/-- the number that digits mean, behind a number that was read already -/
def digFrom (a : Nat) (l : List UInt8) : Nat := l.foldl (fun a c => 10 * a + (c.toNat - 48)) a
def digVal (l : List UInt8) : Nat := digFrom 0 l
theorem digFrom_cons (a : Nat) (c : UInt8) (l : List UInt8) : digFrom a (c :: l) = digFrom (10 * a + (c.toNat - 48)) l := by unfold digFrom; rw [List.foldl_cons]
theorem digitB_bounds {c : UInt8} (h : digitB c = true) : 48 ≤ c.toNat ∧ c.toNat ≤ 57 := by
  unfold digitB at h; simpa using h
theorem ten_up (a p : Nat) : (a + 1) * (p * 10) = (10 * a + 10) * p := by
  rw [Nat.mul_comm p 10, ← Nat.mul_assoc, Nat.add_mul, Nat.mul_comm a 10]
theorem ten_low (a p : Nat) : a * (p * 10) = (10 * a) * p := by
  rw [Nat.mul_comm p 10, ← Nat.mul_assoc, Nat.mul_comm a 10]
theorem digFrom_bound (l : List UInt8) : ∀ (a : Nat), l.all digitB = true → digFrom a l < (a + 1) * 10 ^ l.length ∧ a * 10 ^ l.length ≤ digFrom a l := by
  induction l with
  | nil => intro a _; unfold digFrom; simp
  | cons c l ih =>
    intro a h
    rw [List.all_cons, Bool.and_eq_true] at h
    have hc := digitB_bounds h.1
    have ih := ih (10 * a + (c.toNat - 48)) h.2
    rw [digFrom_cons, List.length_cons, Nat.pow_succ, ten_up, ten_low]
    exact ⟨Nat.lt_of_lt_of_le ih.1 (Nat.mul_le_mul_right _ (by omega)), Nat.le_trans (Nat.mul_le_mul_right _ (by omega)) ih.2⟩
theorem digVal_lt {l : List UInt8} (h : l.all digitB = true) : digVal l < 10 ^ l.length := by
  have := (digFrom_bound l 0 h).1; simpa [digVal] using this
theorem parseM_digits (l : List UInt8) : ∀ (a : Nat), l.all digitB = true → (a + 1) * 10 ^ l.length ≤ 1000000000000000000 → Lib.parseUintM (2 ^ 64 - 1) a l = .ok (digFrom a l) := by
  induction l with
  | nil => intro a _ _; rfl
  | cons c l ih =>
    intro a h hb
    rw [List.all_cons, Bool.and_eq_true] at h
    have hc := digitB_bounds h.1
    rw [List.length_cons, Nat.pow_succ, ten_up] at hb
    have hp : 0 < 10 ^ l.length := Nat.pow_pos (by decide)
    have hb3 : 10 * a + 10 ≤ 1000000000000000000 := Nat.le_trans (Nat.le_mul_of_pos_right _ hp) hb
    have ih := ih (10 * a + (c.toNat - 48)) h.2 (Nat.le_trans (Nat.mul_le_mul_right _ (by omega)) hb)
    unfold Lib.parseUintM
    rw [if_pos hc, if_neg (by omega), if_neg (by omega), show a * 10 + (c.toNat - 48) = 10 * a + (c.toNat - 48) by omega]
    exact ih
theorem plainB_parts {l : List UInt8} (h : plainB l = true) : l ≠ [] ∧ zeroAhead l = false ∧ l.all digitB = true := by
  unfold plainB at h
  simp only [Bool.and_eq_true, Bool.not_eq_true', List.isEmpty_eq_false_iff] at h
  exact ⟨h.1.1, h.1.2, h.2⟩
theorem parseInt_plain {l : List UInt8} (h0 : l ≠ []) (h : l.all digitB = true) (hl : l.length ≤ 18) : Lib.parseIntB 64 l = .ok (digVal l : Int) := by
  match l, h0 with
  | c :: r, _ =>
    have hd := digVal_lt h
    have hp : 10 ^ (c :: r).length ≤ 10 ^ 18 := Nat.pow_le_pow_right (by decide) hl
    have hm := parseM_digits (c :: r) 0 h (by rw [Nat.zero_add, Nat.one_mul]; exact hp)
    have hc : digitB c = true := by simp only [List.all_cons, Bool.and_eq_true] at h; exact h.1
    have hcb := digitB_bounds hc
    unfold Lib.parseIntB
    simp only []
    rw [if_neg (show ¬ (c.toNat = 43 ∨ c.toNat = 45) by omega)]
    have hu : Lib.parseUintB 64 (c :: r) = .ok (digFrom 0 (c :: r)) := by
      unfold Lib.parseUintB; rw [if_neg (by simp)]; exact hm
    rw [hu]
    have e1 : digFrom 0 (c :: r) = digVal (c :: r) := rfl
    simp only [e1]
    rw [if_neg (by omega), if_neg (by omega), if_neg (by omega)]
theorem below_bytesWorld (w : World) (t : TypeId) (s : ByteArray) : Below w.heap.size w (Lib.bytesWorld w t s) :=
  ⟨rfl, rfl, rfl, by rw [Lib.bytesWorld_size]; omega, fun k hk => Lib.bytesWorld_at_old w t s k hk⟩
/-- strconv.ParseInt of few plain digits -/
theorem parseInt_ok (s : ByteArray) (w : World) (h0 : Hid (bl s ≠ [])) (h : Hid ((bl s).all digitB = true)) (hl : s.size ≤ 18) :
    Calls Tryz.prog 364 #[.string s, .int .i64 10, .int .i64 64] w fun e w' => ∃ n : Nat, e = .returned (.tuple #[.int .i64 (n : Int), .nilIface]) ∧ Hid (n = digVal (bl s)) ∧ n < 1000000000000000000 ∧ Below w.heap.size w w' := by
  refine (Tryz.strconv_ParseInt_10_at64_ok s (by omega) _ (parseInt_plain h0.out h.out hl) w).mono ?_
  rintro e w' ⟨rfl, hw⟩
  refine ⟨_, rfl, rfl, ?_, ?_⟩
  · have hp : 10 ^ (bl s).length ≤ 10 ^ 18 := Nat.pow_le_pow_right (by decide) hl
    exact Nat.lt_of_lt_of_le (digVal_lt h.out) hp
  · rcases hw with rfl | ⟨t, rfl⟩
    · exact Below.refl _ _
    · exact below_bytesWorld _ _ _

def pairB (l : List UInt8) : Bool := l.length == 2 && l.all digitB && !(l == [48, 48])
/-- the altitude of a text, if it is written as one -/
def altSpec (l : List UInt8) : Option Int :=
  if plainB (cutAt 46 (if headIs 45 l then l.tail else l)).1 && (!(cutAt 46 (if headIs 45 l then l.tail else l)).2.2 || pairB (cutAt 46 (if headIs 45 l then l.tail else l)).2.1) then
    if headIs 45 l then
      (if digVal (cutAt 46 (if headIs 45 l then l.tail else l)).1 * 100 + (if (cutAt 46 (if headIs 45 l then l.tail else l)).2.2 then digVal (cutAt 46 (if headIs 45 l then l.tail else l)).2.1 else 0) = 0 then none
       else some (-((digVal (cutAt 46 (if headIs 45 l then l.tail else l)).1 * 100 + (if (cutAt 46 (if headIs 45 l then l.tail else l)).2.2 then digVal (cutAt 46 (if headIs 45 l then l.tail else l)).2.1 else 0) : Nat) : Int)))
    else some ((digVal (cutAt 46 (if headIs 45 l then l.tail else l)).1 * 100 + (if (cutAt 46 (if headIs 45 l then l.tail else l)).2.2 then digVal (cutAt 46 (if headIs 45 l then l.tail else l)).2.1 else 0) : Nat) : Int)
  else none
/-- the same by its parts -/
def altOf (neg : Bool) (whole part : List UInt8) (dot : Bool) : Option Int :=
  if plainB whole && (!dot || pairB part) then
    if neg then (if digVal whole * 100 + (if dot then digVal part else 0) = 0 then none else some (-((digVal whole * 100 + (if dot then digVal part else 0) : Nat) : Int)))
    else some ((digVal whole * 100 + (if dot then digVal part else 0) : Nat) : Int)
  else none
theorem altSpec_eq {l r a b : List UInt8} {f g : Bool} (h1 : g = headIs 45 l) (h2 : r = if g then l.tail else l) (h3 : cutAt 46 r = (a, b, f)) : altSpec l = altOf g a b f := by
  subst h1 h2
  unfold altSpec altOf
  rw [h3]
/-- how record.altitude answers: an altitude that is out of range is answered by one that is out of range -/
def AltRes (o : Option Int) (n : Int) (ok : Bool) : Prop := match o with
  | none => ok = false
  | some v => ok = true ∧ rangedB n = rangedB v ∧ (rangedB v = true → n = v)
theorem altOf_plain {g f : Bool} {a b : List UInt8} (h : plainB a = false) : altOf g a b f = none := by unfold altOf; rw [h]; rfl
theorem altOf_pair {g : Bool} {a b : List UInt8} (h : pairB b = false) : altOf g a b true = none := by unfold altOf; rw [h]; simp
theorem pair_size {s : ByteArray} (h : ¬ s.size = 2) : pairB (bl s) = false := by
  unfold pairB
  have : ((bl s).length == 2) = false := by rw [beq_eq_false_iff_ne]; exact h
  rw [this]; rfl
theorem pair_digit {s : ByteArray} {k : Nat} (hk : k < s.size) (h : (s[k].toNat : Int) < 48 ∨ 57 < (s[k].toNat : Int)) : pairB (bl s) = false := by
  unfold pairB; rw [all_false_at (l := bl s) (k := k) hk (digitB_no h)]; simp
theorem pair_zero {s : ByteArray} (h : bl s = [48, 48]) : pairB (bl s) = false := by rw [h]; rfl
theorem two_bytes {s : ByteArray} (h : s.size = 2) : bl s = [s[0], s[1]] := by
  apply List.ext_getElem?
  intro i
  match i with
  | 0 => rw [bl_get? s 0 (by omega)]; rfl
  | 1 => rw [bl_get? s 1 (by omega)]; rfl
  | i + 2 => rw [List.getElem?_eq_none (by rw [bl_len]; omega)]; rfl

theorem digVal_two {s : ByteArray} (h : s.size = 2) : digVal (bl s) = (s[0].toNat - 48) * 10 + (s[1].toNat - 48) := by
  rw [two_bytes h]
  show digFrom 0 [s[0], s[1]] = _
  rw [digFrom_cons, digFrom_cons]
  show 10 * (10 * 0 + (s[0].toNat - 48)) + (s[1].toNat - 48) = _
  omega
theorem pair_yes {s : ByteArray} (h : s.size = 2) (h0 : 48 ≤ s[0].toNat ∧ s[0].toNat ≤ 57) (h1 : 48 ≤ s[1].toNat ∧ s[1].toNat ≤ 57) (hz : ¬ bl s = [48, 48]) : pairB (bl s) = true := by
  unfold pairB
  have e1 : ((bl s).length == 2) = true := by rw [beq_iff_eq]; exact h
  have e2 : (bl s).all digitB = true := by
    rw [two_bytes h]
    simp only [List.all_cons, List.all_nil, digitB_yes (c := s[0]) (by omega) (by omega), digitB_yes (c := s[1]) (by omega) (by omega)]; rfl
  have e3 : (bl s == [48, 48]) = false := by rw [beq_eq_false_iff_ne]; exact hz
  rw [e1, e2, e3]; rfl
theorem pair_val {b : List UInt8} (h : pairB b = true) : digVal b < 100 := by
  unfold pairB at h
  simp only [Bool.and_eq_true, beq_iff_eq] at h
  have := digVal_lt h.1.2
  rw [h.1.1] at this
  exact this
theorem digVal_big {a : List UInt8} (hp : plainB a = true) (hl : 10 ≤ a.length) : 1000000000 ≤ digVal a := by
  obtain ⟨h0, hz, hd⟩ := plainB_parts hp
  match a, h0 with
  | c :: r, _ =>
    rw [List.all_cons, Bool.and_eq_true] at hd
    have hc := digitB_bounds hd.1
    have hne : c.toNat ≠ 48 := by
      intro e
      unfold zeroAhead at hz
      have e2 : c = 48 := (u8_eq (n := 48) (by omega)).1 e
      subst e2
      rw [decide_eq_true (by omega)] at hz
      simp at hz
    have hb := (digFrom_bound r (10 * 0 + (c.toNat - 48)) hd.2).2
    have hp9 : 10 ^ 9 ≤ 10 ^ r.length := Nat.pow_le_pow_right (by decide) (by simp only [List.length_cons] at hl; omega)
    have h1 : 1 * 10 ^ r.length ≤ (10 * 0 + (c.toNat - 48)) * 10 ^ r.length := Nat.mul_le_mul_right _ (by omega)
    have e : digVal (c :: r) = digFrom (10 * 0 + (c.toNat - 48)) r := by unfold digVal; rw [digFrom_cons]
    rw [e]
    omega
theorem altRes_pos {g f : Bool} {a b : List UInt8} {n k : Nat} (hg : g = false) (hp : plainB a = true) (hf : f = false ∧ k = 0 ∨ f = true ∧ pairB b = true ∧ k = digVal b)
    (hn : n = digVal a ∨ 10 ≤ a.length ∧ n = 1099511627776) : AltRes (altOf g a b f) ((n : Int) * 100 + (k : Int)) true := by
  subst hg
  have hk : k < 100 := by
    rcases hf with ⟨_, h⟩ | ⟨_, h, h'⟩
    · omega
    · rw [h']; exact pair_val h
  have e : altOf false a b f = some ((digVal a * 100 + k : Nat) : Int) := by
    unfold altOf
    rcases hf with ⟨rfl, rfl⟩ | ⟨rfl, h, rfl⟩
    · rw [hp]; simp
    · rw [hp, h]; simp
  rw [e]
  refine ⟨rfl, ?_⟩
  rcases hn with rfl | ⟨hl, rfl⟩
  · exact ⟨by rw [show ((digVal a : Int) * 100 + (k : Int)) = ((digVal a * 100 + k : Nat) : Int) by omega], fun _ => by omega⟩
  · have hb := digVal_big hp hl
    have h1 : rangedB (((1099511627776 : Nat) : Int) * 100 + (k : Int)) = false := rangedB_no (by omega)
    have h2 : rangedB ((digVal a * 100 + k : Nat) : Int) = false := rangedB_no (by omega)
    rw [h1, h2]
    exact ⟨rfl, fun h => nomatch h⟩
theorem altRes_neg {g f ok : Bool} {a b : List UInt8} {n k : Nat} (hg : g = true) (hp : plainB a = true) (hf : f = false ∧ k = 0 ∨ f = true ∧ pairB b = true ∧ k = digVal b)
    (hn : n = digVal a ∨ 10 ≤ a.length ∧ n = 1099511627776) (hok : ok = decide (n * 100 + k ≠ 0)) : AltRes (altOf g a b f) (-((n : Int) * 100 + (k : Int))) ok := by
  subst hg hok
  have hk : k < 100 := by
    rcases hf with ⟨_, h⟩ | ⟨_, h, h'⟩
    · omega
    · rw [h']; exact pair_val h
  have e : altOf true a b f = if digVal a * 100 + k = 0 then none else some (-((digVal a * 100 + k : Nat) : Int)) := by
    unfold altOf
    rcases hf with ⟨rfl, rfl⟩ | ⟨rfl, h, rfl⟩
    · rw [hp]; simp
    · rw [hp, h]; simp
  rw [e]
  rcases hn with rfl | ⟨hl, rfl⟩
  · by_cases hz : digVal a * 100 + k = 0
    · rw [if_pos hz, decide_eq_false (by omega)]; rfl
    · rw [if_neg hz, decide_eq_true hz]
      exact ⟨rfl, by rw [show ((digVal a : Int) * 100 + (k : Int)) = ((digVal a * 100 + k : Nat) : Int) by omega], fun _ => by omega⟩
  · have hb := digVal_big hp hl
    rw [if_neg (by omega), decide_eq_true (by omega)]
    have h1 : rangedB (-(((1099511627776 : Nat) : Int) * 100 + (k : Int))) = false := rangedB_no (by omega)
    have h2 : rangedB (-((digVal a * 100 + k : Nat) : Int)) = false := rangedB_no (by omega)
    refine ⟨rfl, ?_⟩
    rw [h1, h2]
    exact ⟨rfl, fun h => by cases h⟩
theorem altRes_none {o : Option Int} {n : Int} (h : o = none) : AltRes o n false := by subst h; rfl
theorem short_val {s : ByteArray} {n : Nat} (hn : n = digVal (bl s)) (hd : (bl s).all digitB = true) (h : s.size < 10) : n < 1000000000 := by
  have h1 := digVal_lt hd
  have h2 : 10 ^ (bl s).length ≤ 10 ^ 9 := Nat.pow_le_pow_right (by decide) (by rw [bl_len]; omega)
  omega
theorem bne_dec {x : Int} {N : Nat} (h : x = (N : Int)) : (x != 0) = decide (N ≠ 0) := by
  subst h
  rw [Bool.eq_iff_iff, bne_iff_ne, decide_eq_true_iff]
  omega
def AltPost (s : ByteArray) (w : World) (e : Ending) (w' : World) : Prop := ∃ n ok, e = .returned (.tuple #[.int .i64 n, .bool ok]) ∧ AltRes (altSpec (bl s)) n ok ∧ Below w.heap.size w w'
theorem altPost {s : ByteArray} {w w' : World} {n : Int} {ok : Bool} {o : Option Int} (ho : altSpec (bl s) = o) (h : AltRes o n ok) (hb : Below w.heap.size w w') : AltPost s w (.returned (.tuple #[.int .i64 n, .bool ok])) w' :=
  ⟨n, ok, rfl, ho ▸ h, hb⟩
set_option maxHeartbeats 1000000 in
theorem altitude_any (s : ByteArray) (w : World) (E : Env w) (hs : s.size ≤ 140737488351232) :
    Calls Tryz.prog 361 #[.string s] w (AltPost s w) := by
  go_enter Tryz.func361, Tryz.ntmps361
  go_wp2_with fail
  refine (cutPrefix1 s 45 _).mono ?_
  rintro e w' ⟨r, g, rfl, hg, hr, hrs, rfl⟩
  go_wp2_with fail
  refine (cut1 r 46 _ E (by omega)).mono ?_
  rintro e w1 ⟨a, b, f, rfl, hcut, has, hbs, hb1⟩
  have hspec := Lib.hid (altSpec_eq hg.out hr.out hcut.out)
  go_wp2_with fail
  refine (plain_any a _ (by unfold maxLen; omega)).mono ?_
  rintro e w' ⟨rfl, rfl⟩
  rcases hp : plainB (bl a) with _ | _
  · have HP := Lib.hid hp; clear hp
    go_wp2
    go_ret2
    exact altPost hspec.out (altRes_none (altOf_plain HP.out)) hb1
  · have HP := Lib.hid hp; clear hp
    have hcase : (f = true ∧ ∃ h2 : b.size = 2, Hid (pairB (bl b) = true) ∧ Hid (((b.size : Int) != 2) = false) ∧ (48 : Int) ≤ (b[0].toNat : Int) ∧ (b[0].toNat : Int) ≤ 57 ∧ (48 : Int) ≤ (b[1].toNat : Int) ∧ (b[1].toNat : Int) ≤ 57 ∧ Hid ((b.toList == [48, 48]) = false))
        ∨ (f = true ∧ Hid (pairB (bl b) = false) ∧ (Hid (((b.size : Int) != 2) = true) ∨ ∃ h2 : b.size = 2, Hid (((b.size : Int) != 2) = false) ∧ ((b[0].toNat : Int) < 48 ∨ 57 < (b[0].toNat : Int) ∨
          ((48 : Int) ≤ (b[0].toNat : Int) ∧ (b[0].toNat : Int) ≤ 57 ∧ ((b[1].toNat : Int) < 48 ∨ 57 < (b[1].toNat : Int) ∨ ((48 : Int) ≤ (b[1].toNat : Int) ∧ (b[1].toNat : Int) ≤ 57 ∧ Hid ((b.toList == [48, 48]) = true))))))) ∨ f = false := by
      cases f
      · exact .inr (.inr rfl)
      · by_cases h2 : b.size = 2
        · have hne : ((b.size : Int) != 2) = false := by rw [bne_eq_false_iff_eq]; omega
          by_cases c0 : (b[0].toNat : Int) < 48 ∨ 57 < (b[0].toNat : Int)
          · exact .inr (.inl ⟨rfl, pair_digit (by omega) c0, .inr ⟨h2, hne, by omega⟩⟩)
          · by_cases c1 : (b[1].toNat : Int) < 48 ∨ 57 < (b[1].toNat : Int)
            · exact .inr (.inl ⟨rfl, pair_digit (by omega) c1, .inr ⟨h2, hne, by omega⟩⟩)
            · by_cases c2 : bl b = [48, 48]
              · exact .inr (.inl ⟨rfl, pair_zero c2, .inr ⟨h2, hne, .inr (.inr ⟨by omega, by omega, .inr (.inr ⟨by omega, by omega, by show (b.toList == [48, 48]) = true; rw [bl_toList, c2]; rfl⟩)⟩)⟩⟩)
              · exact .inl ⟨rfl, h2, pair_yes h2 (by omega) (by omega) c2, hne, by omega, by omega, by omega, by omega, by show (b.toList == [48, 48]) = false; rw [bl_toList, beq_eq_false_iff_ne]; exact c2⟩
        · have hne : ((b.size : Int) != 2) = true := by rw [bne_iff_ne]; omega
          exact .inr (.inl ⟨rfl, pair_size h2, .inl hne⟩)
    have hlen : a.size < 10 ∨ 10 ≤ a.size := by omega
    rcases hcase with ⟨rfl, h2, hpair, h3, h4, h5, h6, h7, h8⟩ | ⟨rfl, hpair, hb | ⟨h2, hb, hc⟩⟩ | rfl
    · have h3 := h3.out
      have h8 := h8.out
      have hv := Lib.hid (digVal_two h2)
      go_wp2
      go_quiet (fail)
      have hk : ∃ k : Nat, (((b[0].toNat : Int) - (48 : Int)) * (10 : Int) + ((b[1].toNat : Int) - (48 : Int))) = (k : Int) ∧ k = digVal (bl b) ∧ k < 100 := ⟨(b[0].toNat - 48) * 10 + (b[1].toNat - 48), by omega, hv.out.symm, by omega⟩
      obtain ⟨k, hk, hkv, hk100⟩ := hk
      rw [hk]
      have HKV := Lib.hid hkv
      clear hkv hk h3 h4 h5 h6 h8 hv
      cases g
      · rcases hlen with hlen | hlen
        · go_wp2_with fail
          refine (parseInt_ok a _ (plainB_parts HP.out).1 (plainB_parts HP.out).2.2 (by omega)).mono ?_
          rintro e w2 ⟨n, rfl, hn, hn18, hb2⟩
          have hn9 := short_val hn.out (plainB_parts HP.out).2.2 hlen
          go_wp2
          go_ret2
          have h := altRes_pos (b := bl b) (n := n) (k := k) (g := false) rfl HP.out (.inr ⟨rfl, hpair.out, HKV.out⟩) (.inl hn.out)
          exact altPost hspec.out (show AltRes _ ((n : Int) * 100 + (k : Int)) true by simpa using h) (Below.then_ hb1 (Below.trans (below_drewN' (Below.refl _ _) _) hb2))
        · go_wp2
          go_ret2
          have h := altRes_pos (b := bl b) (n := 1099511627776) (k := k) (g := false) rfl HP.out (.inr ⟨rfl, hpair.out, HKV.out⟩) (.inr ⟨hlen, rfl⟩)
          exact altPost hspec.out (show AltRes _ (109951162777600 + (k : Int)) true from h) (Below.then_ hb1 (below_drewN' (Below.refl _ _) _))
      · rcases hlen with hlen | hlen
        · go_wp2_with fail
          refine (parseInt_ok a _ (plainB_parts HP.out).1 (plainB_parts HP.out).2.2 (by omega)).mono ?_
          rintro e w2 ⟨n, rfl, hn, hn18, hb2⟩
          have hn9 := short_val hn.out (plainB_parts HP.out).2.2 hlen
          go_wp2
          go_ret2
          have h := altRes_neg (b := bl b) (n := n) (k := k) (g := true) rfl HP.out (.inr ⟨rfl, hpair.out, HKV.out⟩) (.inl hn.out) (bne_dec (x := (n : Int) * 100 + (k : Int)) (N := n * 100 + k) (by omega))
          exact altPost hspec.out (show AltRes _ (-((n : Int) * 100 + (k : Int))) ((n : Int) * 100 + (k : Int) != 0) by simpa using h) (Below.then_ hb1 (Below.trans (below_drewN' (Below.refl _ _) _) hb2))
        · have hq : (109951162777600 + (k : Int) != 0) = true := by rw [bne_iff_ne]; omega
          go_wp2
          go_ret2
          have h := altRes_neg (b := bl b) (n := 1099511627776) (k := k) (g := true) (ok := true) rfl HP.out (.inr ⟨rfl, hpair.out, HKV.out⟩) (.inr ⟨hlen, rfl⟩) (by rw [eq_comm, decide_eq_true_iff]; omega)
          exact altPost hspec.out (show AltRes _ (-(109951162777600 + (k : Int))) true from h) (Below.then_ hb1 (below_drewN' (Below.refl _ _) _))
    · have hb := hb.out
      go_wp2
      go_ret2
      exact altPost hspec.out (altRes_none (altOf_pair hpair.out)) hb1
    · have hb := hb.out
      rcases hc with hc | hc | ⟨hc0, hc1, hc | hc | ⟨hc2, hc3, hc⟩⟩
      all_goals try have hc := Hid.out hc
      all_goals
        go_wp2
        go_ret2
        exact altPost hspec.out (altRes_none (altOf_pair hpair.out)) hb1
    · cases g
      · rcases hlen with hlen | hlen
        · go_wp2_with fail
          refine (parseInt_ok a _ (plainB_parts HP.out).1 (plainB_parts HP.out).2.2 (by omega)).mono ?_
          rintro e w2 ⟨n, rfl, hn, hn18, hb2⟩
          have hn9 := short_val hn.out (plainB_parts HP.out).2.2 hlen
          go_wp2
          go_ret2
          have h := altRes_pos (b := bl b) (n := n) (k := 0) (g := false) rfl HP.out (.inl ⟨rfl, rfl⟩) (.inl hn.out)
          exact altPost hspec.out (show AltRes _ ((n : Int) * 100) true by simpa using h) (Below.then_ hb1 (Below.trans (Below.refl _ _) hb2))
        · go_wp2
          go_ret2
          have h := altRes_pos (b := bl b) (n := 1099511627776) (k := 0) (g := false) rfl HP.out (.inl ⟨rfl, rfl⟩) (.inr ⟨hlen, rfl⟩)
          exact altPost hspec.out (show AltRes _ (109951162777600) true from h) (Below.then_ hb1 (Below.refl _ _))
      · rcases hlen with hlen | hlen
        · go_wp2_with fail
          refine (parseInt_ok a _ (plainB_parts HP.out).1 (plainB_parts HP.out).2.2 (by omega)).mono ?_
          rintro e w2 ⟨n, rfl, hn, hn18, hb2⟩
          have hn9 := short_val hn.out (plainB_parts HP.out).2.2 hlen
          go_wp2
          go_ret2
          have h := altRes_neg (b := bl b) (n := n) (k := 0) (g := true) rfl HP.out (.inl ⟨rfl, rfl⟩) (.inl hn.out) (bne_dec (x := (n : Int) * 100) (N := n * 100 + 0) (by omega))
          exact altPost hspec.out (show AltRes _ (-((n : Int) * 100)) ((n : Int) * 100 != 0) by simpa using h) (Below.then_ hb1 (Below.trans (Below.refl _ _) hb2))
        · have hq : (109951162777600 != 0) = true := by rw [bne_iff_ne]; omega
          go_wp2
          go_ret2
          have h := altRes_neg (b := bl b) (n := 1099511627776) (k := 0) (g := true) (ok := true) rfl HP.out (.inl ⟨rfl, rfl⟩) (.inr ⟨hlen, rfl⟩) (by rw [eq_comm, decide_eq_true_iff]; omega)
          exact altPost hspec.out (show AltRes _ (-(109951162777600)) true from h) (Below.then_ hb1 (Below.refl _ _))
end Go.Proofs.YtgmehlgfilpleaaGreatDoor
