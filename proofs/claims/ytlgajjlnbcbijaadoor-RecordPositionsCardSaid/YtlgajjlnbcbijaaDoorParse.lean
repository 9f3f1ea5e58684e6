/-
  Contracts: altitudes read from texts: ranged, ParseAlt, and the reference's value, altForm, ParseAlt.
-/
import Derived.Test.YtlgajjlnbcbijaaDoorAltP
import Derived.Deep.CutRange
import Derived.Deep.DeepCutAuto
namespace Go.Proofs.YtlgajjlnbcbijaaDoor
open Go.RowKit
set_option linter.unusedVariables false
set_option linter.unusedSimpArgs false

set_option maxHeartbeats 400000 in
theorem ranged_any (a : Int) (w : World) :
    Calls Tryd.prog 22 #[.int .i64 a] w fun e w' => e = .returned (.bool (rangedB a)) ∧ w = w' := by
  have h : (a < -200000 ∧ Hid (rangedB a = false)) ∨ (-200000 ≤ a ∧ a ≤ 6000000 ∧ Hid (rangedB a = true)) ∨ (-200000 ≤ a ∧ 6000000 < a ∧ Hid (rangedB a = false)) := by
    by_cases h1 : a < -200000
    · exact .inl ⟨h1, rangedB_no (.inl h1)⟩
    · by_cases h2 : a ≤ 6000000
      · exact .inr (.inl ⟨by omega, h2, rangedB_yes (by omega) h2⟩)
      · exact .inr (.inr ⟨by omega, by omega, rangedB_no (by omega)⟩)
  rcases h with ⟨h1, hr⟩ | ⟨h1, h2, hr⟩ | ⟨h1, h2, hr⟩
  all_goals
    go_enter Tryd.func22, Tryd.ntmps22
    go_wp2
    go_ret
    exact ⟨ret_bool (by first | exact hr.out.symm | exact (decide_eq_true h2).trans hr.out.symm | exact (decide_eq_false (by omega)).trans hr.out.symm), rfl⟩

/-- what ParseAlt answers -/
def pAltN (o : Option Int) : Int := match o with | some v => if rangedB v then v else 0 | none => 0
def pAltE (o : Option Int) : Int := match o with | some v => if rangedB v then 0 else 2 | none => 4
theorem digFrom_append (a : Nat) (l m : List UInt8) : digFrom a (l ++ m) = digFrom (digFrom a l) m := by unfold digFrom; rw [List.foldl_append]
theorem digVal_snoc (l : List UInt8) (c : UInt8) : digVal (l ++ [c]) = 10 * digVal l + (c.toNat - 48) := by unfold digVal; rw [digFrom_append, digFrom_cons]; rfl
theorem digVal_mono (l m : List UInt8) (h : m.all digitB = true) : digVal l ≤ digVal (l ++ m) := by
  unfold digVal
  rw [digFrom_append]
  refine Nat.le_trans ?_ (digFrom_bound m _ h).2
  exact Nat.le_mul_of_pos_right _ (Nat.pow_pos (by decide))
theorem digVal_take_le {l : List UInt8} (h : l.all digitB = true) (k : Nat) : digVal (l.take k) ≤ digVal l := by
  have h2 := digVal_mono (l.take k) (l.drop k) (by rw [List.all_eq_true] at h ⊢; exact fun x hx => h x (List.mem_of_mem_drop hx))
  rwa [List.take_append_drop] at h2
theorem digVal_take_succ {s : ByteArray} {k : Nat} (h : k < s.size) : digVal ((bl s).take (k + 1)) = 10 * digVal ((bl s).take k) + (s[k].toNat - 48) := by
  rw [List.take_succ_eq_append_getElem (l := bl s) h, digVal_snoc]; rfl
theorem digit_at {s : ByteArray} (h : (bl s).all digitB = true) {k : Nat} (hk : k < s.size) : 48 ≤ s[k].toNat ∧ s[k].toNat ≤ 57 := by
  rw [List.all_eq_true] at h
  exact digitB_bounds (h _ (List.getElem_mem (l := bl s) (n := k) hk))

def ValPost (s : ByteArray) (w : World) (e : Ending) (w' : World) : Prop :=
  ∃ n ok, e = .returned (.tuple #[.int .i64 n, .bool ok]) ∧ ((ok = true ∧ n = (digVal (bl s) : Int) ∧ digVal (bl s) ≤ 4611686018427387904) ∨ (ok = false ∧ 4611686018427387904 < digVal (bl s))) ∧ w = w'
/-- the reference's reading behind its cut: a: the whole feet, p: the two digits behind the point, or 00 -/
def refOf (neg : Bool) (a p : List UInt8) : Option Int :=
  if plainB a then (if neg then (if digVal a * 100 + digVal p = 0 then none else some (-((digVal a * 100 + digVal p : Nat) : Int))) else some ((digVal a * 100 + digVal p : Nat) : Int)) else none
def RefPost (s : ByteArray) (w : World) (e : Ending) (w' : World) : Prop :=
  ∃ n form inn, e = .returned (.tuple #[.int .i64 n, .bool form, .bool inn]) ∧ (match altSpec (bl s) with
    | none => form = false
    | some v => form = true ∧ inn = rangedB v ∧ (inn = true → n = v)) ∧ Below w.heap.size w w'
theorem refPost_none {s : ByteArray} {w w' : World} {n : Int} {i : Bool} (h : altSpec (bl s) = none) (hb : Below w.heap.size w w') : RefPost s w (.returned (.tuple #[.int .i64 n, .bool false, .bool i])) w' :=
  ⟨n, false, i, rfl, by rw [h], hb⟩
theorem refPost_some {s : ByteArray} {w w' : World} {n v : Int} {i : Bool} (h : altSpec (bl s) = some v) (hi : i = rangedB v) (hn : i = true → n = v) (hb : Below w.heap.size w w') : RefPost s w (.returned (.tuple #[.int .i64 n, .bool true, .bool i])) w' :=
  ⟨n, true, i, rfl, by rw [h]; exact ⟨rfl, hi, hn⟩, hb⟩

theorem headIs_nil {s : ByteArray} {c : UInt8} (h : s.size = 0) : headIs c (bl s) = false := by rw [bl_nil h]; rfl
theorem headIs_at {s : ByteArray} {n : Nat} (hn : n < 256) (h : 0 < s.size) : headIs (UInt8.ofNat n) (bl s) = ((s[0].toNat : Int) == (n : Int)) := by
  unfold headIs
  rw [List.head?_eq_getElem?, bl_get? s 0 h, Bool.eq_iff_iff, beq_iff_eq, beq_iff_eq, Option.some.injEq, ← u8_eq hn]
  omega
theorem headIs_pos {s : ByteArray} {c : UInt8} (h : true = headIs c (bl s)) : 0 < s.size := by
  rcases Nat.eq_zero_or_pos s.size with h0 | h0
  · rw [headIs_nil h0] at h; cases h
  · exact h0
theorem bl_tail (s : ByteArray) : bl (s.extract 1 s.size) = (bl s).tail := by
  rw [bl_extract, List.drop_one, List.take_of_length_le (by rw [List.length_tail, bl_len]; omega)]
/-- is there a point before the last two bytes, and something before it -/
def dotB (l : List UInt8) : Bool := decide (3 < l.length) && (l.getD (l.length - 3) 0 == 46)

theorem cutAt_spec (c : UInt8) (l : List UInt8) : ((cutAt c l).2.2 = true ∧ l = (cutAt c l).1 ++ c :: (cutAt c l).2.1 ∧ c ∉ (cutAt c l).1) ∨ ((cutAt c l).2.2 = false ∧ c ∉ l ∧ (cutAt c l).1 = l ∧ (cutAt c l).2.1 = []) := by
  induction l with
  | nil => exact .inr ⟨rfl, by simp, rfl, rfl⟩
  | cons x l ih =>
    unfold cutAt
    by_cases h : x = c
    · subst h
      rw [if_pos rfl]
      exact .inl ⟨rfl, rfl, by simp⟩
    · rw [if_neg h]
      rcases ih with ⟨h1, h2, h3⟩ | ⟨h1, h2, h3, h4⟩
      · exact .inl ⟨h1, by simp only [List.cons_append, List.cons.injEq, true_and]; exact h2, by simp only [List.mem_cons, not_or]; exact ⟨Ne.symm h, h3⟩⟩
      · exact .inr ⟨h1, by simp only [List.mem_cons, not_or]; exact ⟨Ne.symm h, h2⟩, by simp only [h3], h4⟩
theorem first_unique {c : UInt8} {b y : List UInt8} : ∀ {a x : List UInt8}, a ++ c :: b = x ++ c :: y → c ∉ a → c ∉ x → a = x ∧ b = y
  | [], [], h, _, _ => by simpa using h
  | [], z :: x, h, _, hx => by
    simp only [List.nil_append, List.cons_append, List.cons.injEq] at h
    exact absurd (by rw [h.1]; simp) hx
  | z :: a, [], h, ha, _ => by
    simp only [List.nil_append, List.cons_append, List.cons.injEq] at h
    exact absurd (by rw [h.1]; simp) ha
  | z :: a, u :: x, h, ha, hx => by
    simp only [List.cons_append, List.cons.injEq] at h
    simp only [List.mem_cons, not_or] at ha hx
    obtain ⟨h1, h2⟩ := first_unique h.2 ha.2 hx.2
    exact ⟨by rw [h.1, h1], h2⟩
theorem pairB_len {l : List UInt8} (h : pairB l = true) : l.length = 2 := by
  unfold pairB at h
  simp only [Bool.and_eq_true, beq_iff_eq] at h
  exact h.1.1
theorem pairB_digits {l : List UInt8} (h : pairB l = true) : l.all digitB = true := by
  unfold pairB at h
  simp only [Bool.and_eq_true, beq_iff_eq] at h
  exact h.1.2
theorem plainB_mem {l : List UInt8} {c : UInt8} (h : plainB l = true) (hc : c ∈ l) : digitB c = true := by
  have := (plainB_parts h).2.2
  rw [List.all_eq_true] at this
  exact this c hc
theorem plainB_dot {l : List UInt8} (h : (46 : UInt8) ∈ l) : plainB l = false := by
  rw [← Bool.not_eq_true]
  intro hp
  have h2 := plainB_mem hp h
  exact absurd h2 (by decide)
theorem digVal_zeros : digVal [48, 48] = 0 := by decide
theorem altOf_refOf {g : Bool} {a b p : List UInt8} {f : Bool} (h : (if f then digVal b else 0) = digVal p) (hf : f = false ∨ pairB b = true) : altOf g a b f = refOf g a p := by
  unfold altOf refOf
  rw [h]
  rcases hf with rfl | hb
  · simp
  · rw [hb]; simp
theorem refOf_plain {g : Bool} {a p : List UInt8} (h : plainB a = false) : refOf g a p = none := by unfold refOf; rw [h]; rfl
theorem dot_at {a b : List UInt8} (h : b.length = 2) (ha : a ≠ []) : dotB (a ++ 46 :: b) = true := by
  unfold dotB
  have h1 : (a ++ 46 :: b).length = a.length + 3 := by simp only [List.length_append, List.length_cons, h]
  have h2 : 0 < a.length := List.length_pos_iff.2 ha
  have h3 : (a ++ 46 :: b)[a.length]? = some 46 := by rw [List.getElem?_append_right (Nat.le_refl _), Nat.sub_self]; rfl
  rw [h1, decide_eq_true (by omega), show a.length + 3 - 3 = a.length by omega, List.getD_eq_getElem?_getD, h3]
  rfl
theorem dot_parts {r : List UInt8} (h : dotB r = true) : r = r.take (r.length - 3) ++ 46 :: r.drop (r.length - 2) ∧ (r.drop (r.length - 2)).length = 2 ∧ r.take (r.length - 3) ≠ [] := by
  unfold dotB at h
  simp only [Bool.and_eq_true, decide_eq_true_eq, beq_iff_eq] at h
  obtain ⟨h1, h2⟩ := h
  have h3 : r.length - 3 < r.length := by omega
  have h4 : r[r.length - 3] = 46 := by rw [List.getD_eq_getElem?_getD, List.getElem?_eq_getElem h3] at h2; exact h2
  refine ⟨?_, by rw [List.length_drop]; omega, ?_⟩
  · have h5 := List.drop_eq_getElem_cons h3
    rw [h4, show r.length - 3 + 1 = r.length - 2 by omega] at h5
    rw [← h5, List.take_append_drop]
  · intro e
    have := congrArg List.length e
    rw [List.length_take] at this
    simp only [List.length_nil] at this
    omega
theorem ref_nodot {l r : List UInt8} {g : Bool} (hg : g = headIs 45 l) (hr : r = if g then l.tail else l) (hd : dotB r = false) : altSpec l = refOf g r [48, 48] := by
  rw [altSpec_eq hg hr (Prod.ext rfl (Prod.ext rfl rfl) : cutAt 46 r = ((cutAt 46 r).1, (cutAt 46 r).2.1, (cutAt 46 r).2.2))]
  rcases cutAt_spec 46 r with ⟨h1, h2, h3⟩ | ⟨h1, h2, h3, h4⟩
  · rw [h1]
    have hp : plainB r = false := plainB_dot (by rw [h2]; simp)
    rw [refOf_plain hp]
    by_cases hq : plainB (cutAt 46 r).1 = true ∧ pairB (cutAt 46 r).2.1 = true
    · have := dot_at (pairB_len hq.2) (plainB_parts hq.1).1
      rw [← h2, hd] at this
      cases this
    · unfold altOf
      rw [if_neg]
      simp only [Bool.and_eq_true, Bool.or_eq_true, Bool.not_eq_true']
      rintro ⟨q1, q2 | q2⟩
      · cases q2
      · exact hq ⟨q1, q2⟩
  · rw [h1, h3]
    exact altOf_refOf digVal_zeros.symm (.inl rfl)
theorem ref_dot {l r : List UInt8} {g : Bool} (hg : g = headIs 45 l) (hr : r = if g then l.tail else l) (hd : dotB r = true) :
    (pairB (r.drop (r.length - 2)) = false → altSpec l = none) ∧ (pairB (r.drop (r.length - 2)) = true → altSpec l = refOf g (r.take (r.length - 3)) (r.drop (r.length - 2))) := by
  rw [altSpec_eq hg hr (Prod.ext rfl (Prod.ext rfl rfl) : cutAt 46 r = ((cutAt 46 r).1, (cutAt 46 r).2.1, (cutAt 46 r).2.2))]
  obtain ⟨p1, p2, p3⟩ := dot_parts hd
  generalize r.take (r.length - 3) = x at p1 p3
  generalize r.drop (r.length - 2) = y at p1 p2
  rcases cutAt_spec 46 r with ⟨h1, h2, h3⟩ | ⟨h1, h2, h3, h4⟩
  · rw [h1]
    generalize (cutAt 46 r).1 = a at h2 h3
    generalize (cutAt 46 r).2.1 = b at h2
    have same : b.length = 2 → a = x ∧ b = y := by
      intro hb
      have e : a ++ 46 :: b = x ++ 46 :: y := h2.symm.trans p1
      have := List.append_inj' e (by simp only [List.length_cons, hb, p2])
      exact ⟨this.1, by simpa using this.2⟩
    constructor
    · intro hy
      apply altOf_pair
      rw [← Bool.not_eq_true]
      intro hb
      rw [(same (pairB_len hb)).2, hy] at hb
      cases hb
    · intro hy
      by_cases hb : pairB b = true
      · obtain ⟨rfl, rfl⟩ := same (pairB_len hb)
        exact altOf_refOf rfl (.inr hb)
      · rw [altOf_pair (by simpa using hb), refOf_plain]
        rw [← Bool.not_eq_true]
        intro hx
        have hnx : (46 : UInt8) ∉ x := fun h => by have := plainB_mem hx h; exact absurd this (by decide)
        have e : a ++ 46 :: b = x ++ 46 :: y := h2.symm.trans p1
        have := (first_unique e h3 hnx).2
        rw [this] at hb
        exact hb hy
  · exact absurd (by rw [p1]; simp) h2
theorem dotB_short {r : ByteArray} (h : r.size ≤ 3) : dotB (bl r) = false := by
  unfold dotB; rw [bl_len, decide_eq_false (by omega)]; rfl
theorem dotB_at {r : ByteArray} (h : 3 < r.size) : dotB (bl r) = ((r[r.size - 3].toNat : Int) == 46) := by
  unfold dotB
  rw [bl_len, decide_eq_true h, List.getD_eq_getElem?_getD, bl_get? r (r.size - 3) (by omega), Bool.true_and, Bool.eq_iff_iff, beq_iff_eq, beq_iff_eq]
  show r[r.size - 3] = 46 ↔ _
  rw [show (46 : UInt8) = UInt8.ofNat 46 from rfl, ← u8_eq (n := 46) (by omega)]
  omega
theorem z48 : (48 : Int) ≤ ((48 : UInt8).toNat : Int) ∧ ((48 : UInt8).toNat : Int) ≤ 57 := by decide
theorem bl_take (r : ByteArray) (n : Nat) : bl (r.extract 0 n) = (bl r).take n := by rw [bl_extract]; rfl
theorem bl_drop (r : ByteArray) (n : Nat) : bl (r.extract n r.size) = (bl r).drop n := by
  rw [bl_extract, List.take_of_length_le (by rw [List.length_drop, bl_len]; omega)]
theorem pairDigits {y : ByteArray} (h2 : y.size = 2) (h3 : (48 : Int) ≤ (y[0].toNat : Int)) (h4 : (y[0].toNat : Int) ≤ 57) (h5 : (48 : Int) ≤ (y[1].toNat : Int)) (h6 : (y[1].toNat : Int) ≤ 57) : (bl y).all digitB = true := by
  rw [two_bytes h2]
  simp only [List.all_cons, List.all_nil, digitB_yes (c := y[0]) (by omega) (by omega), digitB_yes (c := y[1]) (by omega) (by omega)]; rfl
theorem plainL_zero {a : List UInt8} (hp : plainB a = true) (h : digVal a = 0) : a = [48] := by
  obtain ⟨h0, hz, hd⟩ := plainB_parts hp
  match a, h0 with
  | c :: r, _ =>
    rw [List.all_cons, Bool.and_eq_true] at hd
    have hc := digitB_bounds hd.1
    have e : digVal (c :: r) = digFrom (10 * 0 + (c.toNat - 48)) r := by unfold digVal; rw [digFrom_cons]
    have hb := (digFrom_bound r (10 * 0 + (c.toNat - 48)) hd.2).2
    have hp9 : 0 < 10 ^ r.length := Nat.pow_pos (by decide)
    have hc48 : c.toNat = 48 := by
      rcases Nat.lt_or_ge 48 c.toNat with h1 | h1
      · have : 0 < (10 * 0 + (c.toNat - 48)) * 10 ^ r.length := Nat.mul_pos (by omega) hp9
        omega
      · omega
    have e2 : c = 48 := (u8_eq (n := 48) (by omega)).1 hc48
    subst e2
    cases r with
    | nil => rfl
    | cons d r =>
      unfold zeroAhead at hz
      rw [decide_eq_true (by simp)] at hz
      simp at hz
theorem two_zero {y : ByteArray} (h2 : y.size = 2) (hd : (bl y).all digitB = true) (h : digVal (bl y) = 0) : bl y = [48, 48] := by
  rw [digVal_two h2] at h
  have d0 := digit_at hd (k := 0) (by omega)
  have d1 := digit_at hd (k := 1) (by omega)
  rw [two_bytes h2, (u8_eq (c := y[0]) (n := 48) (by omega)).1 (by omega), (u8_eq (c := y[1]) (n := 48) (by omega)).1 (by omega)]
  rfl
theorem refVal {o : Option Int} {g : Bool} {x y : ByteArray} (h : o = refOf g (bl x) (bl y)) (hp : plainB (bl x) = true) (h2 : y.size = 2) (hd : (bl y).all digitB = true) (hn : ¬ (g = true ∧ bl x = [48] ∧ bl y = [48, 48])) :
    ∃ N : Nat, Hid (N = digVal (bl x) * 100 + digVal (bl y)) ∧ Hid (o = some (if g then -(N : Int) else (N : Int))) := by
  refine ⟨_, rfl, ?_⟩
  unfold Hid
  rw [h]
  unfold refOf
  rw [hp, if_pos rfl]
  cases g
  · rfl
  · rw [if_pos rfl, if_pos rfl, if_neg]
    intro e
    exact hn ⟨rfl, plainL_zero hp (by omega), two_zero h2 hd (by omega)⟩
theorem ref_big {N a p : Nat} (hN : N = a * 100 + p) (h : 1125899906842624 < a) : rangedB (-(N : Int)) = false ∧ rangedB (N : Int) = false :=
  ⟨rangedB_no (by omega), rangedB_no (by omega)⟩
end Go.Proofs.YtlgajjlnbcbijaaDoor
