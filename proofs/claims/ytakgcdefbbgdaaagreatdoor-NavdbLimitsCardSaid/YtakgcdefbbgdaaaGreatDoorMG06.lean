/-
  Several texts as one.
  Contracts: altitudes read from texts: ranged, ParseAlt, and the reference's value, altForm, ParseAlt.
  Contracts: decimal numbers read from texts: ParseNumber of both sides.
-/
import Derived.Test.YtakgcdefbbgdaaaGreatDoorMG03
import Derived.Deep.CutRange
import Derived.Deep.DeepCutAuto
namespace Go.Proofs.YtakgcdefbbgdaaaGreatDoor
open Go.RowKit
set_option linter.unusedVariables false
set_option linter.unusedSimpArgs false

set_option maxHeartbeats 400000 in
theorem ranged_any (a : Int) (w : World) :
    Calls Tryz.prog 200 #[.int .i64 a] w fun e w' => e = .returned (.bool (rangedB a)) ∧ w = w' := by
  have h : (a < -200000 ∧ Hid (rangedB a = false)) ∨ (-200000 ≤ a ∧ a ≤ 6000000 ∧ Hid (rangedB a = true)) ∨ (-200000 ≤ a ∧ 6000000 < a ∧ Hid (rangedB a = false)) := by
    by_cases h1 : a < -200000
    · exact .inl ⟨h1, rangedB_no (.inl h1)⟩
    · by_cases h2 : a ≤ 6000000
      · exact .inr (.inl ⟨by omega, h2, rangedB_yes (by omega) h2⟩)
      · exact .inr (.inr ⟨by omega, by omega, rangedB_no (by omega)⟩)
  rcases h with ⟨h1, hr⟩ | ⟨h1, h2, hr⟩ | ⟨h1, h2, hr⟩
  all_goals
    go_enter Tryz.func200, Tryz.ntmps200
    go_wp2
    go_ret
    exact ⟨ret_bool (by first | exact hr.out.symm | exact (decide_eq_true h2).trans hr.out.symm | exact (decide_eq_false (by omega)).trans hr.out.symm), rfl⟩

/-- what ParseAlt answers -/
def pAltN (o : Option Int) : Int := match o with | some v => if rangedB v then v else 0 | none => 0
def pAltE (o : Option Int) : Int := match o with | some v => if rangedB v then 0 else 2 | none => 4
set_option maxHeartbeats 400000 in
theorem parseAlt_any (s : ByteArray) (w : World) (E : Env w) (hs : s.size ≤ 140737488351232) :
    Calls Tryz.prog 155 #[.string s] w fun e w' => e = .returned (.tuple #[.int .i64 (pAltN (altSpec (bl s))), .int .i64 (pAltE (altSpec (bl s)))]) ∧ Below w.heap.size w w' := by
  go_enter Tryz.func155, Tryz.ntmps155
  go_wp2_with fail
  refine (altitude_any s _ E hs).mono ?_
  rintro e w1 ⟨n, ok, rfl, hres, hb1⟩
  have hc : (ok = false ∧ Hid (altSpec (bl s) = none)) ∨ (ok = true ∧ ∃ v, Hid (altSpec (bl s) = some v) ∧ Hid (rangedB n = rangedB v ∧ (rangedB v = true → n = v))) := by
    cases h : altSpec (bl s) with
    | none => rw [h] at hres; exact .inl ⟨hres, rfl⟩
    | some v => rw [h] at hres; exact .inr ⟨hres.1, v, rfl, hres.2⟩
  clear hres
  rcases hc with ⟨rfl, hn⟩ | ⟨rfl, v, hv, hr⟩
  · go_wp2
    go_ret2
    rw [hn.out]
    exact ⟨rfl, hb1⟩
  · go_wp2_with fail
    refine (ranged_any n _).mono ?_
    rintro e w' ⟨rfl, rfl⟩
    rcases hq : rangedB n with _ | _
    · have HQ := Lib.hid hq; clear hq
      go_wp2
      go_ret2
      have h2 : rangedB v = false := hr.out.1.symm.trans HQ.out
      rw [hv.out]
      unfold pAltN pAltE
      simp only [h2]
      exact ⟨rfl, hb1⟩
    · have HQ := Lib.hid hq; clear hq
      go_wp2
      go_ret2
      have h2 : rangedB v = true := hr.out.1.symm.trans HQ.out
      have h3 := hr.out.2 h2
      rw [hv.out]
      unfold pAltN pAltE
      simp only [h2]
      exact ⟨by rw [← h3]; rfl, hb1⟩

/-! ### the reference's side -/
theorem digFrom_append (a : Nat) (l m : List UInt8) : digFrom a (l ++ m) = digFrom (digFrom a l) m := by unfold digFrom; rw [List.foldl_append]
theorem digVal_snoc (l : List UInt8) (c : UInt8) : digVal (l ++ [c]) = 10 * digVal l + (c.toNat - 48) := by unfold digVal; rw [digFrom_append, digFrom_cons]; rfl
theorem digVal_mono (l m : List UInt8) (h : m.all digitB = true) : digVal l ≤ digVal (l ++ m) := by
  unfold digVal
  rw [digFrom_append]
  refine Nat.le_trans ?_ (digFrom_bound m _ h).2
  exact Nat.le_mul_of_pos_right _ (Nat.pow_pos (by decide))
theorem digVal_take_le {l : List UInt8} (h : l.all digitB = true) (k : Nat) : digVal (l.take k) ≤ digVal l := by
  have h2 := digVal_mono (l.take k) (l.drop k) (by rw [List.all_eq_true] at h ⊢; exact fun x hx => h x (List.mem_of_mem_drop hx))
  rwa [List.take_append_drop] at h2
theorem digVal_take_succ {s : ByteArray} {k : Nat} (h : k < s.size) : digVal ((bl s).take (k + 1)) = 10 * digVal ((bl s).take k) + (s[k].toNat - 48) := by
  rw [List.take_succ_eq_append_getElem (l := bl s) h, digVal_snoc]; rfl
theorem digit_at {s : ByteArray} (h : (bl s).all digitB = true) {k : Nat} (hk : k < s.size) : 48 ≤ s[k].toNat ∧ s[k].toNat ≤ 57 := by
  rw [List.all_eq_true] at h
  exact digitB_bounds (h _ (List.getElem_mem (l := bl s) (n := k) hk))

def ValPost (s : ByteArray) (w : World) (e : Ending) (w' : World) : Prop :=
  ∃ n ok, e = .returned (.tuple #[.int .i64 n, .bool ok]) ∧ ((ok = true ∧ n = (digVal (bl s) : Int) ∧ digVal (bl s) ≤ 4611686018427387904) ∨ (ok = false ∧ 4611686018427387904 < digVal (bl s))) ∧ w = w'
/-- the reference's reading behind its cut: a: the whole feet, p: the two digits behind the point, or 00 -/
def refOf (neg : Bool) (a p : List UInt8) : Option Int :=
  if plainB a then (if neg then (if digVal a * 100 + digVal p = 0 then none else some (-((digVal a * 100 + digVal p : Nat) : Int))) else some ((digVal a * 100 + digVal p : Nat) : Int)) else none
def RefPost (s : ByteArray) (w : World) (e : Ending) (w' : World) : Prop :=
  ∃ n form inn, e = .returned (.tuple #[.int .i64 n, .bool form, .bool inn]) ∧ (match altSpec (bl s) with
    | none => form = false
    | some v => form = true ∧ inn = rangedB v ∧ (inn = true → n = v)) ∧ Below w.heap.size w w'
theorem refPost_none {s : ByteArray} {w w' : World} {n : Int} {i : Bool} (h : altSpec (bl s) = none) (hb : Below w.heap.size w w') : RefPost s w (.returned (.tuple #[.int .i64 n, .bool false, .bool i])) w' :=
  ⟨n, false, i, rfl, by rw [h], hb⟩
theorem refPost_some {s : ByteArray} {w w' : World} {n v : Int} {i : Bool} (h : altSpec (bl s) = some v) (hi : i = rangedB v) (hn : i = true → n = v) (hb : Below w.heap.size w w') : RefPost s w (.returned (.tuple #[.int .i64 n, .bool true, .bool i])) w' :=
  ⟨n, true, i, rfl, by rw [h]; exact ⟨rfl, hi, hn⟩, hb⟩

theorem headIs_nil {s : ByteArray} {c : UInt8} (h : s.size = 0) : headIs c (bl s) = false := by rw [bl_nil h]; rfl
theorem headIs_at {s : ByteArray} {n : Nat} (hn : n < 256) (h : 0 < s.size) : headIs (UInt8.ofNat n) (bl s) = ((s[0].toNat : Int) == (n : Int)) := by
  unfold headIs
  rw [List.head?_eq_getElem?, bl_get? s 0 h, Bool.eq_iff_iff, beq_iff_eq, beq_iff_eq, Option.some.injEq, ← u8_eq hn]
  omega
theorem headIs_pos {s : ByteArray} {c : UInt8} (h : true = headIs c (bl s)) : 0 < s.size := by
  rcases Nat.eq_zero_or_pos s.size with h0 | h0
  · rw [headIs_nil h0] at h; cases h
  · exact h0
theorem bl_tail (s : ByteArray) : bl (s.extract 1 s.size) = (bl s).tail := by
  rw [bl_extract, List.drop_one, List.take_of_length_le (by rw [List.length_tail, bl_len]; omega)]
/-- is there a point before the last two bytes, and something before it -/
def dotB (l : List UInt8) : Bool := decide (3 < l.length) && (l.getD (l.length - 3) 0 == 46)

theorem cutAt_spec (c : UInt8) (l : List UInt8) : ((cutAt c l).2.2 = true ∧ l = (cutAt c l).1 ++ c :: (cutAt c l).2.1 ∧ c ∉ (cutAt c l).1) ∨ ((cutAt c l).2.2 = false ∧ c ∉ l ∧ (cutAt c l).1 = l ∧ (cutAt c l).2.1 = []) := by
  induction l with
  | nil => exact .inr ⟨rfl, by simp, rfl, rfl⟩
  | cons x l ih =>
    unfold cutAt
    by_cases h : x = c
    · subst h
      rw [if_pos rfl]
      exact .inl ⟨rfl, rfl, by simp⟩
    · rw [if_neg h]
      rcases ih with ⟨h1, h2, h3⟩ | ⟨h1, h2, h3, h4⟩
      · exact .inl ⟨h1, by simp only [List.cons_append, List.cons.injEq, true_and]; exact h2, by simp only [List.mem_cons, not_or]; exact ⟨Ne.symm h, h3⟩⟩
      · exact .inr ⟨h1, by simp only [List.mem_cons, not_or]; exact ⟨Ne.symm h, h2⟩, by simp only [h3], h4⟩
theorem first_unique {c : UInt8} {b y : List UInt8} : ∀ {a x : List UInt8}, a ++ c :: b = x ++ c :: y → c ∉ a → c ∉ x → a = x ∧ b = y
  | [], [], h, _, _ => by simpa using h
  | [], z :: x, h, _, hx => by
    simp only [List.nil_append, List.cons_append, List.cons.injEq] at h
    exact absurd (by rw [h.1]; simp) hx
  | z :: a, [], h, ha, _ => by
    simp only [List.nil_append, List.cons_append, List.cons.injEq] at h
    exact absurd (by rw [h.1]; simp) ha
  | z :: a, u :: x, h, ha, hx => by
    simp only [List.cons_append, List.cons.injEq] at h
    simp only [List.mem_cons, not_or] at ha hx
    obtain ⟨h1, h2⟩ := first_unique h.2 ha.2 hx.2
    exact ⟨by rw [h.1, h1], h2⟩
theorem pairB_len {l : List UInt8} (h : pairB l = true) : l.length = 2 := by
  unfold pairB at h
  simp only [Bool.and_eq_true, beq_iff_eq] at h
  exact h.1.1
theorem pairB_digits {l : List UInt8} (h : pairB l = true) : l.all digitB = true := by
  unfold pairB at h
  simp only [Bool.and_eq_true, beq_iff_eq] at h
  exact h.1.2
theorem plainB_mem {l : List UInt8} {c : UInt8} (h : plainB l = true) (hc : c ∈ l) : digitB c = true := by
  have := (plainB_parts h).2.2
  rw [List.all_eq_true] at this
  exact this c hc
theorem plainB_dot {l : List UInt8} (h : (46 : UInt8) ∈ l) : plainB l = false := by
  rw [← Bool.not_eq_true]
  intro hp
  have h2 := plainB_mem hp h
  exact absurd h2 (by decide)
theorem digVal_zeros : digVal [48, 48] = 0 := by decide
theorem altOf_refOf {g : Bool} {a b p : List UInt8} {f : Bool} (h : (if f then digVal b else 0) = digVal p) (hf : f = false ∨ pairB b = true) : altOf g a b f = refOf g a p := by
  unfold altOf refOf
  rw [h]
  rcases hf with rfl | hb
  · simp
  · rw [hb]; simp
theorem refOf_plain {g : Bool} {a p : List UInt8} (h : plainB a = false) : refOf g a p = none := by unfold refOf; rw [h]; rfl
theorem dot_at {a b : List UInt8} (h : b.length = 2) (ha : a ≠ []) : dotB (a ++ 46 :: b) = true := by
  unfold dotB
  have h1 : (a ++ 46 :: b).length = a.length + 3 := by simp only [List.length_append, List.length_cons, h]
  have h2 : 0 < a.length := List.length_pos_iff.2 ha
  have h3 : (a ++ 46 :: b)[a.length]? = some 46 := by rw [List.getElem?_append_right (Nat.le_refl _), Nat.sub_self]; rfl
  rw [h1, decide_eq_true (by omega), show a.length + 3 - 3 = a.length by omega, List.getD_eq_getElem?_getD, h3]
  rfl
theorem dot_parts {r : List UInt8} (h : dotB r = true) : r = r.take (r.length - 3) ++ 46 :: r.drop (r.length - 2) ∧ (r.drop (r.length - 2)).length = 2 ∧ r.take (r.length - 3) ≠ [] := by
  unfold dotB at h
  simp only [Bool.and_eq_true, decide_eq_true_eq, beq_iff_eq] at h
  obtain ⟨h1, h2⟩ := h
  have h3 : r.length - 3 < r.length := by omega
  have h4 : r[r.length - 3] = 46 := by rw [List.getD_eq_getElem?_getD, List.getElem?_eq_getElem h3] at h2; exact h2
  refine ⟨?_, by rw [List.length_drop]; omega, ?_⟩
  · have h5 := List.drop_eq_getElem_cons h3
    rw [h4, show r.length - 3 + 1 = r.length - 2 by omega] at h5
    rw [← h5, List.take_append_drop]
  · intro e
    have := congrArg List.length e
    rw [List.length_take] at this
    simp only [List.length_nil] at this
    omega
theorem ref_nodot {l r : List UInt8} {g : Bool} (hg : g = headIs 45 l) (hr : r = if g then l.tail else l) (hd : dotB r = false) : altSpec l = refOf g r [48, 48] := by
  rw [altSpec_eq hg hr (Prod.ext rfl (Prod.ext rfl rfl) : cutAt 46 r = ((cutAt 46 r).1, (cutAt 46 r).2.1, (cutAt 46 r).2.2))]
  rcases cutAt_spec 46 r with ⟨h1, h2, h3⟩ | ⟨h1, h2, h3, h4⟩
  · rw [h1]
    have hp : plainB r = false := plainB_dot (by rw [h2]; simp)
    rw [refOf_plain hp]
    by_cases hq : plainB (cutAt 46 r).1 = true ∧ pairB (cutAt 46 r).2.1 = true
    · have := dot_at (pairB_len hq.2) (plainB_parts hq.1).1
      rw [← h2, hd] at this
      cases this
    · unfold altOf
      rw [if_neg]
      simp only [Bool.and_eq_true, Bool.or_eq_true, Bool.not_eq_true']
      rintro ⟨q1, q2 | q2⟩
      · cases q2
      · exact hq ⟨q1, q2⟩
  · rw [h1, h3]
    exact altOf_refOf digVal_zeros.symm (.inl rfl)
theorem ref_dot {l r : List UInt8} {g : Bool} (hg : g = headIs 45 l) (hr : r = if g then l.tail else l) (hd : dotB r = true) :
    (pairB (r.drop (r.length - 2)) = false → altSpec l = none) ∧ (pairB (r.drop (r.length - 2)) = true → altSpec l = refOf g (r.take (r.length - 3)) (r.drop (r.length - 2))) := by
  rw [altSpec_eq hg hr (Prod.ext rfl (Prod.ext rfl rfl) : cutAt 46 r = ((cutAt 46 r).1, (cutAt 46 r).2.1, (cutAt 46 r).2.2))]
  obtain ⟨p1, p2, p3⟩ := dot_parts hd
  generalize r.take (r.length - 3) = x at p1 p3
  generalize r.drop (r.length - 2) = y at p1 p2
  rcases cutAt_spec 46 r with ⟨h1, h2, h3⟩ | ⟨h1, h2, h3, h4⟩
  · rw [h1]
    generalize (cutAt 46 r).1 = a at h2 h3
    generalize (cutAt 46 r).2.1 = b at h2
    have same : b.length = 2 → a = x ∧ b = y := by
      intro hb
      have e : a ++ 46 :: b = x ++ 46 :: y := h2.symm.trans p1
      have := List.append_inj' e (by simp only [List.length_cons, hb, p2])
      exact ⟨this.1, by simpa using this.2⟩
    constructor
    · intro hy
      apply altOf_pair
      rw [← Bool.not_eq_true]
      intro hb
      rw [(same (pairB_len hb)).2, hy] at hb
      cases hb
    · intro hy
      by_cases hb : pairB b = true
      · obtain ⟨rfl, rfl⟩ := same (pairB_len hb)
        exact altOf_refOf rfl (.inr hb)
      · rw [altOf_pair (by simpa using hb), refOf_plain]
        rw [← Bool.not_eq_true]
        intro hx
        have hnx : (46 : UInt8) ∉ x := fun h => by have := plainB_mem hx h; exact absurd this (by decide)
        have e : a ++ 46 :: b = x ++ 46 :: y := h2.symm.trans p1
        have := (first_unique e h3 hnx).2
        rw [this] at hb
        exact hb hy
  · exact absurd (by rw [p1]; simp) h2
theorem dotB_short {r : ByteArray} (h : r.size ≤ 3) : dotB (bl r) = false := by
  unfold dotB; rw [bl_len, decide_eq_false (by omega)]; rfl
theorem dotB_at {r : ByteArray} (h : 3 < r.size) : dotB (bl r) = ((r[r.size - 3].toNat : Int) == 46) := by
  unfold dotB
  rw [bl_len, decide_eq_true h, List.getD_eq_getElem?_getD, bl_get? r (r.size - 3) (by omega), Bool.true_and, Bool.eq_iff_iff, beq_iff_eq, beq_iff_eq]
  show r[r.size - 3] = 46 ↔ _
  rw [show (46 : UInt8) = UInt8.ofNat 46 from rfl, ← u8_eq (n := 46) (by omega)]
  omega
theorem z48 : (48 : Int) ≤ ((48 : UInt8).toNat : Int) ∧ ((48 : UInt8).toNat : Int) ≤ 57 := by decide
theorem bl_take (r : ByteArray) (n : Nat) : bl (r.extract 0 n) = (bl r).take n := by rw [bl_extract]; rfl
theorem bl_drop (r : ByteArray) (n : Nat) : bl (r.extract n r.size) = (bl r).drop n := by
  rw [bl_extract, List.take_of_length_le (by rw [List.length_drop, bl_len]; omega)]
theorem pairDigits {y : ByteArray} (h2 : y.size = 2) (h3 : (48 : Int) ≤ (y[0].toNat : Int)) (h4 : (y[0].toNat : Int) ≤ 57) (h5 : (48 : Int) ≤ (y[1].toNat : Int)) (h6 : (y[1].toNat : Int) ≤ 57) : (bl y).all digitB = true := by
  rw [two_bytes h2]
  simp only [List.all_cons, List.all_nil, digitB_yes (c := y[0]) (by omega) (by omega), digitB_yes (c := y[1]) (by omega) (by omega)]; rfl
theorem plainL_zero {a : List UInt8} (hp : plainB a = true) (h : digVal a = 0) : a = [48] := by
  obtain ⟨h0, hz, hd⟩ := plainB_parts hp
  match a, h0 with
  | c :: r, _ =>
    rw [List.all_cons, Bool.and_eq_true] at hd
    have hc := digitB_bounds hd.1
    have e : digVal (c :: r) = digFrom (10 * 0 + (c.toNat - 48)) r := by unfold digVal; rw [digFrom_cons]
    have hb := (digFrom_bound r (10 * 0 + (c.toNat - 48)) hd.2).2
    have hp9 : 0 < 10 ^ r.length := Nat.pow_pos (by decide)
    have hc48 : c.toNat = 48 := by
      rcases Nat.lt_or_ge 48 c.toNat with h1 | h1
      · have : 0 < (10 * 0 + (c.toNat - 48)) * 10 ^ r.length := Nat.mul_pos (by omega) hp9
        omega
      · omega
    have e2 : c = 48 := (u8_eq (n := 48) (by omega)).1 hc48
    subst e2
    cases r with
    | nil => rfl
    | cons d r =>
      unfold zeroAhead at hz
      rw [decide_eq_true (by simp)] at hz
      simp at hz
theorem two_zero {y : ByteArray} (h2 : y.size = 2) (hd : (bl y).all digitB = true) (h : digVal (bl y) = 0) : bl y = [48, 48] := by
  rw [digVal_two h2] at h
  have d0 := digit_at hd (k := 0) (by omega)
  have d1 := digit_at hd (k := 1) (by omega)
  rw [two_bytes h2, (u8_eq (c := y[0]) (n := 48) (by omega)).1 (by omega), (u8_eq (c := y[1]) (n := 48) (by omega)).1 (by omega)]
  rfl
theorem refVal {o : Option Int} {g : Bool} {x y : ByteArray} (h : o = refOf g (bl x) (bl y)) (hp : plainB (bl x) = true) (h2 : y.size = 2) (hd : (bl y).all digitB = true) (hn : ¬ (g = true ∧ bl x = [48] ∧ bl y = [48, 48])) :
    ∃ N : Nat, Hid (N = digVal (bl x) * 100 + digVal (bl y)) ∧ Hid (o = some (if g then -(N : Int) else (N : Int))) := by
  refine ⟨_, rfl, ?_⟩
  unfold Hid
  rw [h]
  unfold refOf
  rw [hp, if_pos rfl]
  cases g
  · rfl
  · rw [if_pos rfl, if_pos rfl, if_neg]
    intro e
    exact hn ⟨rfl, plainL_zero hp (by omega), two_zero h2 hd (by omega)⟩
theorem ref_big {N a p : Nat} (hN : N = a * 100 + p) (h : 1125899906842624 < a) : rangedB (-(N : Int)) = false ∧ rangedB (N : Int) = false :=
  ⟨rangedB_no (by omega), rangedB_no (by omega)⟩
end Go.Proofs.YtakgcdefbbgdaaaGreatDoor
namespace Go.Proofs.YtakgcdefbbgdaaaGreatDoor
open Go.RowKit
set_option linter.unusedVariables false
set_option linter.unusedSimpArgs false

/-- the number that a sign and digits mean, if they are written as one -/
def numOf (g : Bool) (r : List UInt8) : Option Int :=
  if plainB r && !(g && r == [48]) then some (if g then -(digVal r : Int) else (digVal r : Int)) else none
def numSpec (l : List UInt8) : Option Int := numOf (headIs 45 l) (if headIs 45 l then l.tail else l)
def i64In (v : Int) : Bool := decide (-9223372036854775808 ≤ v) && decide (v ≤ 9223372036854775807)
def numIn (low high v : Int) : Bool := i64In v && decide (low ≤ v) && decide (v ≤ high)
def numN (low high : Int) (o : Option Int) : Int := match o with | some v => if numIn low high v then v else 0 | none => 0
def numE (low high : Int) (o : Option Int) : Int := match o with | some v => if numIn low high v then 0 else 2 | none => 4
theorem numSpec_eq {l r : List UInt8} {g : Bool} (h1 : g = headIs 45 l) (h2 : r = if g then l.tail else l) : numSpec l = numOf g r := by
  subst h1 h2; rfl
theorem numOf_plain {g : Bool} {r : List UInt8} (h : plainB r = false) : numOf g r = none := by unfold numOf; rw [h]; rfl
theorem numOf_zero {r : List UInt8} (h : r = [48]) : numOf true r = none := by subst h; decide
theorem numOf_some {g : Bool} {r : List UInt8} (h : plainB r = true) (hz : ¬ (g = true ∧ r = [48])) : numOf g r = some (if g then -(digVal r : Int) else (digVal r : Int)) := by
  unfold numOf; rw [h, if_pos]
  simp only [Bool.true_and, Bool.not_eq_true', Bool.and_eq_false_iff]
  cases g
  · exact .inl rfl
  · right; rw [beq_eq_false_iff_ne]; exact fun e => hz ⟨rfl, e⟩
theorem num_none {low high : Int} : numN low high none = 0 ∧ numE low high none = 4 := ⟨rfl, rfl⟩
theorem num_out {low high v : Int} (h : numIn low high v = false) : numN low high (some v) = 0 ∧ numE low high (some v) = 2 := by
  unfold numN numE; simp only [h]; exact ⟨rfl, rfl⟩
theorem num_in {low high v : Int} (h : numIn low high v = true) : numN low high (some v) = v ∧ numE low high (some v) = 0 := by
  unfold numN numE; simp only [h]; exact ⟨rfl, rfl⟩
theorem numIn_of {low high v : Int} (h : i64In v = true) : numIn low high v = (decide (low ≤ v) && decide (v ≤ high)) := by unfold numIn; rw [h]; rfl
theorem numIn_big {low high v : Int} (h : i64In v = false) : numIn low high v = false := by unfold numIn; rw [h]; rfl

theorem parseM_all (l : List UInt8) : ∀ (a : Nat), l.all digitB = true → a ≤ 2 ^ 64 - 1 →
    Lib.parseUintM (2 ^ 64 - 1) a l = if digFrom a l ≤ 2 ^ 64 - 1 then .ok (digFrom a l) else .range := by
  induction l with
  | nil => intro a _ h; unfold digFrom; rw [List.foldl_nil, if_pos h]; rfl
  | cons c l ih =>
    intro a h ha
    rw [List.all_cons, Bool.and_eq_true] at h
    have hc := digitB_bounds h.1
    have hb := (digFrom_bound l (10 * a + (c.toNat - 48)) h.2).2
    have hp : 0 < 10 ^ l.length := Nat.pow_pos (by decide)
    have hge : 10 * a + (c.toNat - 48) ≤ digFrom (10 * a + (c.toNat - 48)) l := Nat.le_trans (Nat.le_mul_of_pos_right _ hp) hb
    rw [digFrom_cons]
    unfold Lib.parseUintM
    rw [if_pos hc]
    by_cases h1 : 1844674407370955162 ≤ a
    · rw [if_pos h1, if_neg (by omega)]
    · rw [if_neg h1, show a * 10 + (c.toNat - 48) = 10 * a + (c.toNat - 48) by omega]
      by_cases h2 : 2 ^ 64 - 1 < 10 * a + (c.toNat - 48)
      · rw [if_pos h2, if_neg (by omega)]
      · rw [if_neg h2]
        exact ih _ h.2 (by omega)
theorem i64In_iff {v : Int} : i64In v = true ↔ -9223372036854775808 ≤ v ∧ v ≤ 9223372036854775807 := by
  unfold i64In; simp
theorem parseInt_all {l r : List UInt8} {g : Bool} (hg : g = headIs 45 l) (hr : r = if g then l.tail else l) (hp : plainB r = true) :
    Lib.parseIntB 64 l = if i64In (if g then -(digVal r : Int) else (digVal r : Int)) then .ok (if g then -(digVal r : Int) else (digVal r : Int)) else .range := by
  obtain ⟨h0, _, hd⟩ := plainB_parts hp
  have hM := parseM_all r 0 hd (by omega)
  have hu : Lib.parseUintB 64 r = if digVal r ≤ 2 ^ 64 - 1 then .ok (digVal r) else .range := by
    unfold Lib.parseUintB; rw [if_neg h0]; exact hM
  match l with
  | [] => subst hr; simp at h0
  | c :: t =>
    have hgc : g = (c == 45) := by rw [hg]; unfold headIs; simp
    unfold Lib.parseIntB
    simp only []
    have hc45 : c.toNat = 45 ↔ c = 45 := u8_eq (n := 45) (by omega)
    by_cases hc : c = 45
    · subst hc
      have hgt : g = true := by rw [hgc]; rfl
      subst hgt
      have hrt : t = r := by rw [hr]; rfl
      subst hrt
      rw [if_pos (by right; rfl), hu]
      by_cases h1 : digVal t ≤ 2 ^ 64 - 1
      · rw [if_pos h1]
        simp only [if_true]
        rw [if_neg (by intro h; exact h.1 rfl)]
        by_cases h2 : 2 ^ (64 - 1) < digVal t
        · rw [if_pos ⟨rfl, h2⟩, if_neg]
          rw [i64In_iff]; omega
        · rw [if_neg (by rintro ⟨_, h⟩; exact h2 h), if_pos (by rfl), if_pos (i64In_iff.2 (by omega))]
      · rw [if_neg h1, if_neg]
        simp only [if_true]
        rw [i64In_iff]; omega
    · have hgf : g = false := by rw [hgc, beq_eq_false_iff_ne]; exact hc
      subst hgf
      have hrt : c :: t = r := by rw [hr]; rfl
      subst hrt
      have hcd : digitB c = true := by simp only [List.all_cons, Bool.and_eq_true] at hd; exact hd.1
      have hcb := digitB_bounds hcd
      rw [if_neg (show ¬ (c.toNat = 43 ∨ c.toNat = 45) by omega), hu]
      have hn : ¬ c.toNat = 45 := by omega
      by_cases h1 : digVal (c :: t) ≤ 2 ^ 64 - 1
      · rw [if_pos h1]
        simp only [Bool.false_eq_true, if_false]
        by_cases h2 : 2 ^ (64 - 1) ≤ digVal (c :: t)
        · rw [if_pos ⟨hn, h2⟩, if_neg]
          rw [i64In_iff]; omega
        · rw [if_neg (by rintro ⟨_, h⟩; exact h2 h), if_neg (by rintro ⟨h, _⟩; exact hn h), if_neg hn, if_pos]
          rw [i64In_iff]; omega
      · rw [if_neg h1, if_neg]
        simp only [Bool.false_eq_true, if_false]
        rw [i64In_iff]; omega

/-- strconv.ParseInt of a sign and plain digits -/
theorem parseInt_num (s : ByteArray) (w : World) (E : Env w) (v : Int) (hs : s.size ≤ 140737488351232) (h : Hid (Lib.parseIntB 64 (bl s) = if i64In v then .ok v else .range)) :
    Calls Tryz.prog 202 #[.string s, .int .i64 10, .int .i64 64] w fun e w' =>
      ((Hid (i64In v = true) ∧ e = .returned (.tuple #[.int .i64 v, .nilIface])) ∨ (Hid (i64In v = false) ∧ ∃ m t p, e = .returned (.tuple #[.int .i64 m, .iface t p]))) ∧ Below w.heap.size w w' := by
  obtain ⟨b, hv⟩ : ∃ b, i64In v = b := ⟨_, rfl⟩
  cases b
  · have h2 : Lib.parseIntB 64 (bl s) = .range := by rw [h.out, hv]; rfl
    obtain ⟨te, pe, he⟩ := E.errR
    refine (Tryz.strconv_ParseInt_10_at64_range s (by omega) h2 (.iface te pe) w he (.inr ⟨te, pe, rfl⟩)).mono ?_
    rintro e w' ⟨N, rfl, _, _, hb⟩
    exact ⟨.inr ⟨Lib.hid hv, _, _, _, rfl⟩, hb⟩
  · have h2 : Lib.parseIntB 64 (bl s) = .ok v := by rw [h.out, hv]; rfl
    refine (Tryz.strconv_ParseInt_10_at64_ok s (by omega) v h2 w).mono ?_
    rintro e w' ⟨rfl, hw⟩
    refine ⟨.inl ⟨Lib.hid hv, rfl⟩, ?_⟩
    rcases hw with rfl | ⟨t, rfl⟩
    · exact Below.refl _ _
    · exact below_bytesWorld _ _ _

theorem range3 (v low high : Int) : (v < low ∧ Hid ((decide (low ≤ v) && decide (v ≤ high)) = false)) ∨ (low ≤ v ∧ high < v ∧ Hid ((decide (low ≤ v) && decide (v ≤ high)) = false)) ∨ (low ≤ v ∧ v ≤ high ∧ Hid ((decide (low ≤ v) && decide (v ≤ high)) = true)) := by
  by_cases h1 : v < low
  · exact .inl ⟨h1, by unfold Hid; rw [decide_eq_false (by omega)]; rfl⟩
  · by_cases h2 : high < v
    · exact .inr (.inl ⟨by omega, h2, by unfold Hid; rw [decide_eq_false (p := v ≤ high) (by omega), Bool.and_false]⟩)
    · exact .inr (.inr ⟨by omega, by omega, by unfold Hid; rw [decide_eq_true (by omega), decide_eq_true (by omega)]; rfl⟩)
def NumPost (s : ByteArray) (low high : Int) (w : World) (e : Ending) (w' : World) : Prop :=
  e = .returned (.tuple #[.int .i64 (numN low high (numSpec (bl s))), .int .i64 (numE low high (numSpec (bl s)))]) ∧ Below w.heap.size w w'
theorem numPost {s : ByteArray} {low high n k : Int} {o : Option Int} {w w' : World} (ho : numSpec (bl s) = o) (h1 : numN low high o = n) (h2 : numE low high o = k) (hb : Below w.heap.size w w') :
    NumPost s low high w (.returned (.tuple #[.int .i64 n, .int .i64 k])) w' := by
  subst ho h1 h2; exact ⟨rfl, hb⟩

theorem tdiv_low (m : Nat) (d : Int) (h0 : 0 ≤ d) (h9 : d ≤ 9) : (-(m : Int) < (-9223372036854775808 + d).tdiv 10) ↔ 9223372036854775808 < 10 * (m : Int) + d := by
  have e : (-9223372036854775808 + d).tdiv 10 = -((9223372036854775808 - d) / 10) := by
    rw [show (-9223372036854775808 + d) = -(9223372036854775808 - d) by omega, Int.neg_tdiv, Int.tdiv_eq_ediv_of_nonneg (by omega)]
  rw [e]
  omega
theorem not_lt_le {a b : Int} (h : ¬ a < b) : b ≤ a := by omega
theorem i64In_no {n : Nat} {g : Bool} (h : 9223372036854775808 < n) : i64In (if g then -(n : Int) else (n : Int)) = false := by
  rw [← Bool.not_eq_true, i64In_iff]; cases g <;> simp <;> omega
end Go.Proofs.YtakgcdefbbgdaaaGreatDoor
