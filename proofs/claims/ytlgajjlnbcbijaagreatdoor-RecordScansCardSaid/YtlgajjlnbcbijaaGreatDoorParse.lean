/-
  Contracts: altitudes read from texts: ranged, ParseAlt, and the reference's value, altForm, ParseAlt.
-/
import Derived.Test.YtlgajjlnbcbijaaGreatDoorAltP
import Derived.Deep.CutRange
import Derived.Deep.DeepCutAuto
namespace Go.Proofs.YtlgajjlnbcbijaaGreatDoor
open Go.RowKit
set_option linter.unusedVariables false
set_option linter.unusedSimpArgs false

set_option maxHeartbeats 400000 in
theorem ranged_any (a : Int) (w : World) :
    Calls Tryz.prog 161 #[.int .i64 a] w fun e w' => e = .returned (.bool (rangedB a)) ∧ w = w' := by
  have h : (a < -200000 ∧ Hid (rangedB a = false)) ∨ (-200000 ≤ a ∧ a ≤ 6000000 ∧ Hid (rangedB a = true)) ∨ (-200000 ≤ a ∧ 6000000 < a ∧ Hid (rangedB a = false)) := by
    by_cases h1 : a < -200000
    · exact .inl ⟨h1, rangedB_no (.inl h1)⟩
    · by_cases h2 : a ≤ 6000000
      · exact .inr (.inl ⟨by omega, h2, rangedB_yes (by omega) h2⟩)
      · exact .inr (.inr ⟨by omega, by omega, rangedB_no (by omega)⟩)
  rcases h with ⟨h1, hr⟩ | ⟨h1, h2, hr⟩ | ⟨h1, h2, hr⟩
  all_goals
    go_enter Tryz.func161, Tryz.ntmps161
    go_wp2
    go_ret
    exact ⟨ret_bool (by first | exact hr.out.symm | exact (decide_eq_true h2).trans hr.out.symm | exact (decide_eq_false (by omega)).trans hr.out.symm), rfl⟩

/-- what ParseAlt answers -/
def pAltN (o : Option Int) : Int := match o with | some v => if rangedB v then v else 0 | none => 0
def pAltE (o : Option Int) : Int := match o with | some v => if rangedB v then 0 else 2 | none => 4
set_option maxHeartbeats 400000 in
theorem parseAlt_any (s : ByteArray) (w : World) (E : Env w) (hs : s.size ≤ 140737488351232) :
    Calls Tryz.prog 113 #[.string s] w fun e w' => e = .returned (.tuple #[.int .i64 (pAltN (altSpec (bl s))), .int .i64 (pAltE (altSpec (bl s)))]) ∧ Below w.heap.size w w' := by
  go_enter Tryz.func113, Tryz.ntmps113
  go_wp2_with fail
  refine (altitude_any s _ E hs).mono ?_
  rintro e w1 ⟨n, ok, rfl, hres, hb1⟩
  have hc : (ok = false ∧ Hid (altSpec (bl s) = none)) ∨ (ok = true ∧ ∃ v, Hid (altSpec (bl s) = some v) ∧ Hid (rangedB n = rangedB v ∧ (rangedB v = true → n = v))) := by
    cases h : altSpec (bl s) with
    | none => rw [h] at hres; exact .inl ⟨hres, rfl⟩
    | some v => rw [h] at hres; exact .inr ⟨hres.1, v, rfl, hres.2⟩
  clear hres
  rcases hc with ⟨rfl, hn⟩ | ⟨rfl, v, hv, hr⟩
  · go_wp2
    go_ret2
    rw [hn.out]
    exact ⟨rfl, hb1⟩
  · go_wp2_with fail
    refine (ranged_any n _).mono ?_
    rintro e w' ⟨rfl, rfl⟩
    rcases hq : rangedB n with _ | _
    · have HQ := Lib.hid hq; clear hq
      go_wp2
      go_ret2
      have h2 : rangedB v = false := hr.out.1.symm.trans HQ.out
      rw [hv.out]
      unfold pAltN pAltE
      simp only [h2]
      exact ⟨rfl, hb1⟩
    · have HQ := Lib.hid hq; clear hq
      go_wp2
      go_ret2
      have h2 : rangedB v = true := hr.out.1.symm.trans HQ.out
      have h3 := hr.out.2 h2
      rw [hv.out]
      unfold pAltN pAltE
      simp only [h2]
      exact ⟨by rw [← h3]; rfl, hb1⟩

/-! ### the reference's side -/
theorem digFrom_append (a : Nat) (l m : List UInt8) : digFrom a (l ++ m) = digFrom (digFrom a l) m := by unfold digFrom; rw [List.foldl_append]
theorem digVal_snoc (l : List UInt8) (c : UInt8) : digVal (l ++ [c]) = 10 * digVal l + (c.toNat - 48) := by unfold digVal; rw [digFrom_append, digFrom_cons]; rfl
theorem digVal_mono (l m : List UInt8) (h : m.all digitB = true) : digVal l ≤ digVal (l ++ m) := by
  unfold digVal
  rw [digFrom_append]
  refine Nat.le_trans ?_ (digFrom_bound m _ h).2
  exact Nat.le_mul_of_pos_right _ (Nat.pow_pos (by decide))
theorem digVal_take_le {l : List UInt8} (h : l.all digitB = true) (k : Nat) : digVal (l.take k) ≤ digVal l := by
  have h2 := digVal_mono (l.take k) (l.drop k) (by rw [List.all_eq_true] at h ⊢; exact fun x hx => h x (List.mem_of_mem_drop hx))
  rwa [List.take_append_drop] at h2
theorem digVal_take_succ {s : ByteArray} {k : Nat} (h : k < s.size) : digVal ((bl s).take (k + 1)) = 10 * digVal ((bl s).take k) + (s[k].toNat - 48) := by
  rw [List.take_succ_eq_append_getElem (l := bl s) h, digVal_snoc]; rfl
theorem digit_at {s : ByteArray} (h : (bl s).all digitB = true) {k : Nat} (hk : k < s.size) : 48 ≤ s[k].toNat ∧ s[k].toNat ≤ 57 := by
  rw [List.all_eq_true] at h
  exact digitB_bounds (h _ (List.getElem_mem (l := bl s) (n := k) hk))

def ValPost (s : ByteArray) (w : World) (e : Ending) (w' : World) : Prop :=
  ∃ n ok, e = .returned (.tuple #[.int .i64 n, .bool ok]) ∧ ((ok = true ∧ n = (digVal (bl s) : Int) ∧ digVal (bl s) ≤ 4611686018427387904) ∨ (ok = false ∧ 4611686018427387904 < digVal (bl s))) ∧ w = w'
set_option maxHeartbeats 1000000 in
theorem value_any (s : ByteArray) (w : World) (hs : s.size ≤ 140737488351232) (hd : Hid ((bl s).all digitB = true)) :
    Calls Tryz.prog 216 #[.string s] w (ValPost s w) := by
  go_enter Tryz.func216, Tryz.ntmps216
  go_wp2
  go_loop [4, 5] (fun n i => ∃ k m : Nat, k ≤ s.size ∧ i = .int .i64 k ∧ n = .int .i64 m ∧ m ≤ 4611686018427387904 ∧ Hid (m = digVal ((bl s).take k))) (fun _ i => s.size - (intOf i).toNat)
  case atStart => exact ⟨0, 0, Nat.zero_le _, rfl, rfl, by omega, rfl⟩
  case round =>
    obtain ⟨k, m, hk, rfl, rfl, hm, hv⟩ := hrel
    by_cases h : k < s.size
    · have hb := digit_at hd.out h
      have hb1 : (48 : Int) ≤ (s[k].toNat : Int) := by omega
      have hb2 : (s[k].toNat : Int) ≤ 57 := by omega
      clear hb
      by_cases ht : 4611686018427387904 < 10 * m + (s[k].toNat - 48)
      · have ht2 : ((4611686018427387904 : Int) - ((s[k].toNat : Int) - 48)) / 10 < (m : Int) := by omega
        go_wp2
        go_ret2
        have h3 := digVal_take_succ h
        have h4 := digVal_take_le hd.out (k + 1)
        exact ⟨_, _, rfl, .inr ⟨rfl, by rw [← hv.out] at h3; omega⟩, rfl⟩
      · have ht2 : (m : Int) ≤ ((4611686018427387904 : Int) - ((s[k].toNat : Int) - 48)) / 10 := by omega
        have ht3 : 10 * (m : Int) + ((s[k].toNat : Int) - 48) ≤ 4611686018427387904 := by omega
        go_wp2
        go_round
        case rel => exact ⟨k + 1, 10 * m + (s[k].toNat - 48), h, by go_num, by go_num, by omega, by unfold Hid; rw [digVal_take_succ h, ← hv.out]⟩
        case measure => simp [intOf]; omega
    · go_wp2
      go_ret2
      exact ⟨_, _, rfl, .inl ⟨rfl, by rw [hv.out, List.take_of_length_le (by rw [bl_len]; omega)], by have := hv.out; rw [List.take_of_length_le (by rw [bl_len]; omega)] at this; omega⟩, rfl⟩

/-- the reference's reading behind its cut: a: the whole feet, p: the two digits behind the point, or 00 -/
def refOf (neg : Bool) (a p : List UInt8) : Option Int :=
  if plainB a then (if neg then (if digVal a * 100 + digVal p = 0 then none else some (-((digVal a * 100 + digVal p : Nat) : Int))) else some ((digVal a * 100 + digVal p : Nat) : Int)) else none
def RefPost (s : ByteArray) (w : World) (e : Ending) (w' : World) : Prop :=
  ∃ n form inn, e = .returned (.tuple #[.int .i64 n, .bool form, .bool inn]) ∧ (match altSpec (bl s) with
    | none => form = false
    | some v => form = true ∧ inn = rangedB v ∧ (inn = true → n = v)) ∧ Below w.heap.size w w'
theorem refPost_none {s : ByteArray} {w w' : World} {n : Int} {i : Bool} (h : altSpec (bl s) = none) (hb : Below w.heap.size w w') : RefPost s w (.returned (.tuple #[.int .i64 n, .bool false, .bool i])) w' :=
  ⟨n, false, i, rfl, by rw [h], hb⟩
theorem refPost_some {s : ByteArray} {w w' : World} {n v : Int} {i : Bool} (h : altSpec (bl s) = some v) (hi : i = rangedB v) (hn : i = true → n = v) (hb : Below w.heap.size w w') : RefPost s w (.returned (.tuple #[.int .i64 n, .bool true, .bool i])) w' :=
  ⟨n, true, i, rfl, by rw [h]; exact ⟨rfl, hi, hn⟩, hb⟩

theorem headIs_nil {s : ByteArray} {c : UInt8} (h : s.size = 0) : headIs c (bl s) = false := by rw [bl_nil h]; rfl
theorem headIs_at {s : ByteArray} {n : Nat} (hn : n < 256) (h : 0 < s.size) : headIs (UInt8.ofNat n) (bl s) = ((s[0].toNat : Int) == (n : Int)) := by
  unfold headIs
  rw [List.head?_eq_getElem?, bl_get? s 0 h, Bool.eq_iff_iff, beq_iff_eq, beq_iff_eq, Option.some.injEq, ← u8_eq hn]
  omega
theorem headIs_pos {s : ByteArray} {c : UInt8} (h : true = headIs c (bl s)) : 0 < s.size := by
  rcases Nat.eq_zero_or_pos s.size with h0 | h0
  · rw [headIs_nil h0] at h; cases h
  · exact h0
theorem bl_tail (s : ByteArray) : bl (s.extract 1 s.size) = (bl s).tail := by
  rw [bl_extract, List.drop_one, List.take_of_length_le (by rw [List.length_tail, bl_len]; omega)]
/-- is there a point before the last two bytes, and something before it -/
def dotB (l : List UInt8) : Bool := decide (3 < l.length) && (l.getD (l.length - 3) 0 == 46)

theorem cutAt_spec (c : UInt8) (l : List UInt8) : ((cutAt c l).2.2 = true ∧ l = (cutAt c l).1 ++ c :: (cutAt c l).2.1 ∧ c ∉ (cutAt c l).1) ∨ ((cutAt c l).2.2 = false ∧ c ∉ l ∧ (cutAt c l).1 = l ∧ (cutAt c l).2.1 = []) := by
  induction l with
  | nil => exact .inr ⟨rfl, by simp, rfl, rfl⟩
  | cons x l ih =>
    unfold cutAt
    by_cases h : x = c
    · subst h
      rw [if_pos rfl]
      exact .inl ⟨rfl, rfl, by simp⟩
    · rw [if_neg h]
      rcases ih with ⟨h1, h2, h3⟩ | ⟨h1, h2, h3, h4⟩
      · exact .inl ⟨h1, by simp only [List.cons_append, List.cons.injEq, true_and]; exact h2, by simp only [List.mem_cons, not_or]; exact ⟨Ne.symm h, h3⟩⟩
      · exact .inr ⟨h1, by simp only [List.mem_cons, not_or]; exact ⟨Ne.symm h, h2⟩, by simp only [h3], h4⟩
theorem first_unique {c : UInt8} {b y : List UInt8} : ∀ {a x : List UInt8}, a ++ c :: b = x ++ c :: y → c ∉ a → c ∉ x → a = x ∧ b = y
  | [], [], h, _, _ => by simpa using h
  | [], z :: x, h, _, hx => by
    simp only [List.nil_append, List.cons_append, List.cons.injEq] at h
    exact absurd (by rw [h.1]; simp) hx
  | z :: a, [], h, ha, _ => by
    simp only [List.nil_append, List.cons_append, List.cons.injEq] at h
    exact absurd (by rw [h.1]; simp) ha
  | z :: a, u :: x, h, ha, hx => by
    simp only [List.cons_append, List.cons.injEq] at h
    simp only [List.mem_cons, not_or] at ha hx
    obtain ⟨h1, h2⟩ := first_unique h.2 ha.2 hx.2
    exact ⟨by rw [h.1, h1], h2⟩
theorem pairB_len {l : List UInt8} (h : pairB l = true) : l.length = 2 := by
  unfold pairB at h
  simp only [Bool.and_eq_true, beq_iff_eq] at h
  exact h.1.1
theorem pairB_digits {l : List UInt8} (h : pairB l = true) : l.all digitB = true := by
  unfold pairB at h
  simp only [Bool.and_eq_true, beq_iff_eq] at h
  exact h.1.2
theorem plainB_mem {l : List UInt8} {c : UInt8} (h : plainB l = true) (hc : c ∈ l) : digitB c = true := by
  have := (plainB_parts h).2.2
  rw [List.all_eq_true] at this
  exact this c hc
theorem plainB_dot {l : List UInt8} (h : (46 : UInt8) ∈ l) : plainB l = false := by
  rw [← Bool.not_eq_true]
  intro hp
  have h2 := plainB_mem hp h
  exact absurd h2 (by decide)
theorem digVal_zeros : digVal [48, 48] = 0 := by decide
theorem altOf_refOf {g : Bool} {a b p : List UInt8} {f : Bool} (h : (if f then digVal b else 0) = digVal p) (hf : f = false ∨ pairB b = true) : altOf g a b f = refOf g a p := by
  unfold altOf refOf
  rw [h]
  rcases hf with rfl | hb
  · simp
  · rw [hb]; simp
theorem refOf_plain {g : Bool} {a p : List UInt8} (h : plainB a = false) : refOf g a p = none := by unfold refOf; rw [h]; rfl
theorem dot_at {a b : List UInt8} (h : b.length = 2) (ha : a ≠ []) : dotB (a ++ 46 :: b) = true := by
  unfold dotB
  have h1 : (a ++ 46 :: b).length = a.length + 3 := by simp only [List.length_append, List.length_cons, h]
  have h2 : 0 < a.length := List.length_pos_iff.2 ha
  have h3 : (a ++ 46 :: b)[a.length]? = some 46 := by rw [List.getElem?_append_right (Nat.le_refl _), Nat.sub_self]; rfl
  rw [h1, decide_eq_true (by omega), show a.length + 3 - 3 = a.length by omega, List.getD_eq_getElem?_getD, h3]
  rfl
theorem dot_parts {r : List UInt8} (h : dotB r = true) : r = r.take (r.length - 3) ++ 46 :: r.drop (r.length - 2) ∧ (r.drop (r.length - 2)).length = 2 ∧ r.take (r.length - 3) ≠ [] := by
  unfold dotB at h
  simp only [Bool.and_eq_true, decide_eq_true_eq, beq_iff_eq] at h
  obtain ⟨h1, h2⟩ := h
  have h3 : r.length - 3 < r.length := by omega
  have h4 : r[r.length - 3] = 46 := by rw [List.getD_eq_getElem?_getD, List.getElem?_eq_getElem h3] at h2; exact h2
  refine ⟨?_, by rw [List.length_drop]; omega, ?_⟩
  · have h5 := List.drop_eq_getElem_cons h3
    rw [h4, show r.length - 3 + 1 = r.length - 2 by omega] at h5
    rw [← h5, List.take_append_drop]
  · intro e
    have := congrArg List.length e
    rw [List.length_take] at this
    simp only [List.length_nil] at this
    omega
theorem ref_nodot {l r : List UInt8} {g : Bool} (hg : g = headIs 45 l) (hr : r = if g then l.tail else l) (hd : dotB r = false) : altSpec l = refOf g r [48, 48] := by
  rw [altSpec_eq hg hr (Prod.ext rfl (Prod.ext rfl rfl) : cutAt 46 r = ((cutAt 46 r).1, (cutAt 46 r).2.1, (cutAt 46 r).2.2))]
  rcases cutAt_spec 46 r with ⟨h1, h2, h3⟩ | ⟨h1, h2, h3, h4⟩
  · rw [h1]
    have hp : plainB r = false := plainB_dot (by rw [h2]; simp)
    rw [refOf_plain hp]
    by_cases hq : plainB (cutAt 46 r).1 = true ∧ pairB (cutAt 46 r).2.1 = true
    · have := dot_at (pairB_len hq.2) (plainB_parts hq.1).1
      rw [← h2, hd] at this
      cases this
    · unfold altOf
      rw [if_neg]
      simp only [Bool.and_eq_true, Bool.or_eq_true, Bool.not_eq_true']
      rintro ⟨q1, q2 | q2⟩
      · cases q2
      · exact hq ⟨q1, q2⟩
  · rw [h1, h3]
    exact altOf_refOf digVal_zeros.symm (.inl rfl)
theorem ref_dot {l r : List UInt8} {g : Bool} (hg : g = headIs 45 l) (hr : r = if g then l.tail else l) (hd : dotB r = true) :
    (pairB (r.drop (r.length - 2)) = false → altSpec l = none) ∧ (pairB (r.drop (r.length - 2)) = true → altSpec l = refOf g (r.take (r.length - 3)) (r.drop (r.length - 2))) := by
  rw [altSpec_eq hg hr (Prod.ext rfl (Prod.ext rfl rfl) : cutAt 46 r = ((cutAt 46 r).1, (cutAt 46 r).2.1, (cutAt 46 r).2.2))]
  obtain ⟨p1, p2, p3⟩ := dot_parts hd
  generalize r.take (r.length - 3) = x at p1 p3
  generalize r.drop (r.length - 2) = y at p1 p2
  rcases cutAt_spec 46 r with ⟨h1, h2, h3⟩ | ⟨h1, h2, h3, h4⟩
  · rw [h1]
    generalize (cutAt 46 r).1 = a at h2 h3
    generalize (cutAt 46 r).2.1 = b at h2
    have same : b.length = 2 → a = x ∧ b = y := by
      intro hb
      have e : a ++ 46 :: b = x ++ 46 :: y := h2.symm.trans p1
      have := List.append_inj' e (by simp only [List.length_cons, hb, p2])
      exact ⟨this.1, by simpa using this.2⟩
    constructor
    · intro hy
      apply altOf_pair
      rw [← Bool.not_eq_true]
      intro hb
      rw [(same (pairB_len hb)).2, hy] at hb
      cases hb
    · intro hy
      by_cases hb : pairB b = true
      · obtain ⟨rfl, rfl⟩ := same (pairB_len hb)
        exact altOf_refOf rfl (.inr hb)
      · rw [altOf_pair (by simpa using hb), refOf_plain]
        rw [← Bool.not_eq_true]
        intro hx
        have hnx : (46 : UInt8) ∉ x := fun h => by have := plainB_mem hx h; exact absurd this (by decide)
        have e : a ++ 46 :: b = x ++ 46 :: y := h2.symm.trans p1
        have := (first_unique e h3 hnx).2
        rw [this] at hb
        exact hb hy
  · exact absurd (by rw [p1]; simp) h2
theorem dotB_short {r : ByteArray} (h : r.size ≤ 3) : dotB (bl r) = false := by
  unfold dotB; rw [bl_len, decide_eq_false (by omega)]; rfl
theorem dotB_at {r : ByteArray} (h : 3 < r.size) : dotB (bl r) = ((r[r.size - 3].toNat : Int) == 46) := by
  unfold dotB
  rw [bl_len, decide_eq_true h, List.getD_eq_getElem?_getD, bl_get? r (r.size - 3) (by omega), Bool.true_and, Bool.eq_iff_iff, beq_iff_eq, beq_iff_eq]
  show r[r.size - 3] = 46 ↔ _
  rw [show (46 : UInt8) = UInt8.ofNat 46 from rfl, ← u8_eq (n := 46) (by omega)]
  omega
theorem z48 : (48 : Int) ≤ ((48 : UInt8).toNat : Int) ∧ ((48 : UInt8).toNat : Int) ≤ 57 := by decide
theorem bl_take (r : ByteArray) (n : Nat) : bl (r.extract 0 n) = (bl r).take n := by rw [bl_extract]; rfl
theorem bl_drop (r : ByteArray) (n : Nat) : bl (r.extract n r.size) = (bl r).drop n := by
  rw [bl_extract, List.take_of_length_le (by rw [List.length_drop, bl_len]; omega)]
theorem pairDigits {y : ByteArray} (h2 : y.size = 2) (h3 : (48 : Int) ≤ (y[0].toNat : Int)) (h4 : (y[0].toNat : Int) ≤ 57) (h5 : (48 : Int) ≤ (y[1].toNat : Int)) (h6 : (y[1].toNat : Int) ≤ 57) : (bl y).all digitB = true := by
  rw [two_bytes h2]
  simp only [List.all_cons, List.all_nil, digitB_yes (c := y[0]) (by omega) (by omega), digitB_yes (c := y[1]) (by omega) (by omega)]; rfl
theorem plainL_zero {a : List UInt8} (hp : plainB a = true) (h : digVal a = 0) : a = [48] := by
  obtain ⟨h0, hz, hd⟩ := plainB_parts hp
  match a, h0 with
  | c :: r, _ =>
    rw [List.all_cons, Bool.and_eq_true] at hd
    have hc := digitB_bounds hd.1
    have e : digVal (c :: r) = digFrom (10 * 0 + (c.toNat - 48)) r := by unfold digVal; rw [digFrom_cons]
    have hb := (digFrom_bound r (10 * 0 + (c.toNat - 48)) hd.2).2
    have hp9 : 0 < 10 ^ r.length := Nat.pow_pos (by decide)
    have hc48 : c.toNat = 48 := by
      rcases Nat.lt_or_ge 48 c.toNat with h1 | h1
      · have : 0 < (10 * 0 + (c.toNat - 48)) * 10 ^ r.length := Nat.mul_pos (by omega) hp9
        omega
      · omega
    have e2 : c = 48 := (u8_eq (n := 48) (by omega)).1 hc48
    subst e2
    cases r with
    | nil => rfl
    | cons d r =>
      unfold zeroAhead at hz
      rw [decide_eq_true (by simp)] at hz
      simp at hz
theorem two_zero {y : ByteArray} (h2 : y.size = 2) (hd : (bl y).all digitB = true) (h : digVal (bl y) = 0) : bl y = [48, 48] := by
  rw [digVal_two h2] at h
  have d0 := digit_at hd (k := 0) (by omega)
  have d1 := digit_at hd (k := 1) (by omega)
  rw [two_bytes h2, (u8_eq (c := y[0]) (n := 48) (by omega)).1 (by omega), (u8_eq (c := y[1]) (n := 48) (by omega)).1 (by omega)]
  rfl
theorem refVal {o : Option Int} {g : Bool} {x y : ByteArray} (h : o = refOf g (bl x) (bl y)) (hp : plainB (bl x) = true) (h2 : y.size = 2) (hd : (bl y).all digitB = true) (hn : ¬ (g = true ∧ bl x = [48] ∧ bl y = [48, 48])) :
    ∃ N : Nat, Hid (N = digVal (bl x) * 100 + digVal (bl y)) ∧ Hid (o = some (if g then -(N : Int) else (N : Int))) := by
  refine ⟨_, rfl, ?_⟩
  unfold Hid
  rw [h]
  unfold refOf
  rw [hp, if_pos rfl]
  cases g
  · rfl
  · rw [if_pos rfl, if_pos rfl, if_neg]
    intro e
    exact hn ⟨rfl, plainL_zero hp (by omega), two_zero h2 hd (by omega)⟩
theorem ref_big {N a p : Nat} (hN : N = a * 100 + p) (h : 1125899906842624 < a) : rangedB (-(N : Int)) = false ∧ rangedB (N : Int) = false :=
  ⟨rangedB_no (by omega), rangedB_no (by omega)⟩
set_option maxRecDepth 100000 in
set_option maxHeartbeats 2000000 in
theorem altForm_any (s : ByteArray) (w : World) (hs : s.size ≤ 140737488351232) :
    Calls Tryz.prog 215 #[.string s] w (RefPost s w) := by
  go_enter Tryz.func215, Tryz.ntmps215
  go_upto_region 1 with (fail)
  go_cut [5] (fun g wx => ∃ b : Bool, g = .bool b ∧ Hid (b = headIs 45 (bl s)) ∧ w = wx)
  case first =>
    rcases Nat.eq_zero_or_pos s.size with h0 | h0
    · have H0 := Lib.hid h0
      have h1 : (s.size : Int) ≤ 0 := by omega
      clear h0
      go_wp2
      go_meet
      exact ⟨_, rfl, (headIs_nil H0.out).symm, rfl⟩
    · have h1 : (0 : Int) < (s.size : Int) := by omega
      have hh := Lib.hid (headIs_at (n := 45) (by omega) h0)
      go_wp2
      go_meet
      exact ⟨_, rfl, hh.out.symm, rfl⟩
  case rest =>
    obtain ⟨g, rfl, hg, rfl⟩ := hcut
    go_upto_if 20 with (fail)
    go_cut [6] (fun t wx => ∃ r : ByteArray, t = .string r ∧ Hid (bl r = if g then (bl s).tail else bl s) ∧ r.size ≤ s.size ∧ w = wx)
    case first =>
      cases g
      · go_wp2
        go_meet
        exact ⟨_, rfl, rfl, Nat.le_refl _, rfl⟩
      · have h0 := headIs_pos hg.out
        go_wp2
        go_meet
        exact ⟨_, rfl, bl_tail s, by rw [← bl_len, bl_tail, List.length_tail, bl_len]; omega, rfl⟩
    case rest =>
      obtain ⟨r, rfl, hr, hrs, rfl⟩ := hcut
      go_upto_region 6 with (fail)
      go_cut [34] (fun g wx => ∃ b : Bool, g = .bool b ∧ Hid (b = dotB (bl r)) ∧ w = wx)
      case first =>
        by_cases h3 : r.size ≤ 3
        · have h1 : (r.size : Int) ≤ 3 := by omega
          go_wp2
          go_meet
          exact ⟨_, rfl, (dotB_short h3).symm, rfl⟩
        · have h1 : (3 : Int) < (r.size : Int) := by omega
          have hh := Lib.hid (dotB_at (r := r) (by omega))
          go_wp2
          go_meet
          exact ⟨_, rfl, hh.out.symm, rfl⟩
      case rest =>
        obtain ⟨d, rfl, hd, rfl⟩ := hcut
        go_upto_if 34 with (fail)
        go_cut [7, 8] (fun a p wx => ∃ x y : ByteArray, a = .string x ∧ p = .string y ∧ x.size ≤ r.size ∧ ∃ h2 : y.size = 2, (48 : Int) ≤ (y[0].toNat : Int) ∧ (y[0].toNat : Int) ≤ 57 ∧ (48 : Int) ≤ (y[1].toNat : Int) ∧ (y[1].toNat : Int) ≤ 57 ∧ Hid (altSpec (bl s) = refOf g (bl x) (bl y)) ∧ Below w.heap.size w wx)
        case first =>
          cases d
          · go_wp2
            go_meet
            exact ⟨r, ⟨#[48, 48]⟩, rfl, rfl, Nat.le_refl _, rfl, z48.1, z48.2, z48.1, z48.2, ref_nodot hg.out hr.out hd.out.symm, Below.refl _ _⟩
          · have hq := Lib.hid (ref_dot hg.out hr.out hd.out.symm)
            have h3 : (3 : Int) < (r.size : Int) := by
              have := dot_parts hd.out.symm
              have h := this.2.2
              have h5 : (bl r).length - 3 ≠ 0 := fun e => h (by rw [e]; rfl)
              rw [bl_len] at h5
              omega
            go_wp2
            go_quiet (fail)
            generalize hx : r.extract 0 (r.size - 3) = x
            generalize hy : r.extract (r.size - 2) r.size = y
            have hbx : bl x = (bl r).take ((bl r).length - 3) := by rw [← hx, bl_take, bl_len]
            have hby : bl y = (bl r).drop ((bl r).length - 2) := by rw [← hy, bl_drop, bl_len]
            have hq2 := hq.out
            rw [← hbx, ← hby] at hq2
            have HQ := Lib.hid hq2
            have hxs : x.size ≤ r.size := by rw [← bl_len, hbx, List.length_take, bl_len]; omega
            have h2 : y.size = 2 := by
              have h4 : (bl y).length = 2 := by rw [hby]; exact (dot_parts hd.out.symm).2.1
              exact h4
            clear hq2 hbx hby hx hy
            by_cases c2 : bl y = [48, 48]
            · have e1 : (y.toList == [48, 48]) = true := by rw [bl_toList, c2]; rfl
              have hn := Lib.hid (HQ.out.1 (pair_zero c2))
              clear c2
              go_wp2
              go_ret3
              exact refPost_none hn.out (below_drewN' (Below.refl _ _) _)
            · have e1 : (y.toList == [48, 48]) = false := by rw [bl_toList, beq_eq_false_iff_ne]; exact c2
              have C2 := Lib.hid c2
              clear c2
              by_cases c0 : (48 : Int) ≤ (y[0].toNat : Int) ∧ (y[0].toNat : Int) ≤ 57
              · obtain ⟨a1, a2⟩ := c0
                by_cases c1 : (48 : Int) ≤ (y[1].toNat : Int) ∧ (y[1].toNat : Int) ≤ 57
                · obtain ⟨a3, a4⟩ := c1
                  go_wp2
                  go_meet
                  exact ⟨x, y, rfl, rfl, hxs, h2, a1, a2, a3, a4, HQ.out.2 (pair_yes h2 (by omega) (by omega) C2.out), below_drewN' (Below.refl _ _) _⟩
                · have hn := Lib.hid (HQ.out.1 (pair_digit (k := 1) (by omega) (by omega)))
                  have c1' : (y[1].toNat : Int) < 48 ∨ (48 : Int) ≤ (y[1].toNat : Int) ∧ 57 < (y[1].toNat : Int) := by omega
                  clear c1
                  rcases c1' with c1 | ⟨c1, c1'⟩
                  all_goals
                    go_wp2
                    go_ret3
                    exact refPost_none hn.out (below_drewN' (Below.refl _ _) _)
              · have hn := Lib.hid (HQ.out.1 (pair_digit (k := 0) (by omega) (by omega)))
                have c1' : (y[0].toNat : Int) < 48 ∨ (48 : Int) ≤ (y[0].toNat : Int) ∧ 57 < (y[0].toNat : Int) := by omega
                clear c0
                rcases c1' with c1 | ⟨c1, c1'⟩
                all_goals
                  go_wp2
                  go_ret3
                  exact refPost_none hn.out (below_drewN' (Below.refl _ _) _)
        case rest =>
          obtain ⟨x, y, rfl, rfl, hx, h2, h3, h4, h5, h6, hspec, hb1⟩ := hcut
          go_wp2_with fail
          refine (rplain_any x _ (by unfold maxLen; omega)).mono ?_
          rintro e w' ⟨rfl, rfl⟩
          rcases hp : plainB (bl x) with _ | _
          · have hn := Lib.hid (hspec.out.trans (refOf_plain hp))
            clear hp
            go_wp2
            go_ret3
            exact refPost_none hn.out hb1
          · have HP := Lib.hid hp
            clear hp
            have hz := Lib.hid (digVal_two h2)
            by_cases hnone : g = true ∧ bl x = [48] ∧ bl y = [48, 48]
            · obtain ⟨rfl, z1, z2⟩ := hnone
              have e1 : (x.toList == [48]) = true := by rw [bl_toList, z1]; rfl
              have e2 : (y.toList == [48, 48]) = true := by rw [bl_toList, z2]; rfl
              have hn : Hid (altSpec (bl s) = none) := by unfold Hid; rw [hspec.out, z1, z2]; decide
              clear z1 z2
              go_wp2
              go_ret3
              exact refPost_none hn.out hb1
            · have hval := refVal hspec.out HP.out h2 (pairDigits h2 h3 h4 h5 h6) hnone
              have hg2 : g = false ∨ (g = true ∧ Hid ((x.toList == [48]) = false)) ∨ (g = true ∧ Hid ((x.toList == [48]) = true) ∧ Hid ((y.toList == [48, 48]) = false)) := by
                cases g
                · exact .inl rfl
                · by_cases z1 : bl x = [48]
                  · refine .inr (.inr ⟨rfl, by unfold Hid; rw [bl_toList, z1]; rfl, ?_⟩)
                    show (y.toList == [48, 48]) = false
                    rw [bl_toList, beq_eq_false_iff_ne]
                    exact fun z2 => hnone ⟨rfl, z1, z2⟩
                  · refine .inr (.inl ⟨rfl, ?_⟩)
                    show (x.toList == [48]) = false
                    rw [bl_toList, beq_eq_false_iff_ne]
                    exact z1
              obtain ⟨N, hN, hspec2⟩ := hval
              clear hnone hspec
              have hd2 := Lib.hid (plainB_parts HP.out).2.2
              rcases hg2 with rfl | ⟨rfl, e1⟩ | ⟨rfl, e1, e2⟩
              all_goals try have e1 := Hid.out e1
              all_goals try have e2 := Hid.out e2
              all_goals
                go_wp2_with fail
                refine (value_any x _ (by omega) hd2).mono ?_
                rintro e w' ⟨n, ok, rfl, hok, rfl⟩
                rcases hok with ⟨rfl, hn, hle⟩ | ⟨rfl, hbig⟩
                · obtain ⟨m, hm⟩ : ∃ m : Nat, digVal (bl x) = m := ⟨_, rfl⟩
                  rw [hm] at hn hle
                  have HM := Lib.hid hm
                  subst hn
                  clear hm
                  by_cases h50 : (1125899906842624 : Int) < (m : Int)
                  · go_wp2
                    go_ret3
                    exact refPost_some hspec2.out (by have h := ref_big hN.out (by rw [HM.out]; omega); simp only [if_true, if_false, Bool.false_eq_true]; first | exact h.1.symm | exact h.2.symm) (fun h => by cases h) hb1
                  · have h50' : (m : Int) ≤ (1125899906842624 : Int) := by omega
                    clear h50
                    go_wp2
                    go_quiet (fail)
                    have hNv : (((100 : Int) * (m : Int) + (10 : Int) * ((y[0].toNat : Int) - (48 : Int))) + ((y[1].toNat : Int) - (48 : Int))) = (N : Int) := by
                      have := hN.out
                      rw [HM.out, hz.out] at this
                      omega
                    have hNb : (N : Int) ≤ 112589990684262400 + 99 := by omega
                    rw [hNv]
                    clear hNv h3 h4 h5 h6 h50'
                    have h3 : (N : Int) ≤ 200000 ∨ (200000 < (N : Int) ∧ (N : Int) ≤ 6000000) ∨ 6000000 < (N : Int) := by omega
                    rcases h3 with h3 | ⟨h3, h4⟩ | h3
                    all_goals
                      go_wp2
                      go_ret3
                      exact refPost_some hspec2.out (by simp only [rangedB, if_true, if_false, Bool.false_eq_true]; rw [Bool.eq_iff_iff]; simp; try omega) (fun _ => rfl) (below_drewN' hb1 _)
                · go_wp2
                  go_ret3
                  exact refPost_some hspec2.out (by have h := ref_big hN.out (by omega); simp only [if_true, if_false, Bool.false_eq_true]; first | exact h.1.symm | exact h.2.symm) (fun h => by cases h) hb1

set_option maxHeartbeats 400000 in
theorem rparseAlt_any (s : ByteArray) (w : World) (hs : s.size ≤ 140737488351232) :
    Calls Tryz.prog 167 #[.string s] w fun e w' => e = .returned (.tuple #[.int .i64 (pAltN (altSpec (bl s))), .int .i64 (pAltE (altSpec (bl s)))]) ∧ Below w.heap.size w w' := by
  go_enter Tryz.func167, Tryz.ntmps167
  go_wp2_with fail
  refine (altForm_any s _ hs).mono ?_
  rintro e w1 ⟨n, form, inn, rfl, hres, hb1⟩
  have hc : (form = false ∧ Hid (altSpec (bl s) = none)) ∨ (form = true ∧ ∃ v, Hid (altSpec (bl s) = some v) ∧ Hid (inn = rangedB v ∧ (inn = true → n = v))) := by
    cases h : altSpec (bl s) with
    | none => rw [h] at hres; exact .inl ⟨hres, rfl⟩
    | some v => rw [h] at hres; exact .inr ⟨hres.1, v, rfl, hres.2⟩
  clear hres
  rcases hc with ⟨rfl, hn⟩ | ⟨rfl, v, hv, hr⟩
  · go_wp2
    go_ret2
    rw [hn.out]
    exact ⟨rfl, hb1⟩
  · cases inn
    · go_wp2
      go_ret2
      have h2 : rangedB v = false := hr.out.1.symm
      rw [hv.out]
      unfold pAltN pAltE
      simp only [h2]
      exact ⟨rfl, hb1⟩
    · go_wp2
      go_ret2
      have h2 : rangedB v = true := hr.out.1.symm
      have h3 := hr.out.2 (by first | rfl | trivial)
      rw [hv.out]
      unfold pAltN pAltE
      simp only [h2]
      exact ⟨by rw [← h3]; rfl, hb1⟩
end Go.Proofs.YtlgajjlnbcbijaaGreatDoor
