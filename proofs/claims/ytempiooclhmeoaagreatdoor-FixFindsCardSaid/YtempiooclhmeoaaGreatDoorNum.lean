/-
  Contracts: decimal numbers read from texts: ParseNumber of both sides.
-/
import Derived.Test.YtempiooclhmeoaaGreatDoorParse
namespace Go.Proofs.YtempiooclhmeoaaGreatDoor
open Go.RowKit
set_option linter.unusedVariables false
set_option linter.unusedSimpArgs false

/-- the number that a sign and digits mean, if they are written as one -/
def numOf (g : Bool) (r : List UInt8) : Option Int :=
  if plainB r && !(g && r == [48]) then some (if g then -(digVal r : Int) else (digVal r : Int)) else none
def numSpec (l : List UInt8) : Option Int := numOf (headIs 45 l) (if headIs 45 l then l.tail else l)
def i64In (v : Int) : Bool := decide (-9223372036854775808 ≤ v) && decide (v ≤ 9223372036854775807)
def numIn (low high v : Int) : Bool := i64In v && decide (low ≤ v) && decide (v ≤ high)
def numN (low high : Int) (o : Option Int) : Int := match o with | some v => if numIn low high v then v else 0 | none => 0
def numE (low high : Int) (o : Option Int) : Int := match o with | some v => if numIn low high v then 0 else 2 | none => 4
theorem numSpec_eq {l r : List UInt8} {g : Bool} (h1 : g = headIs 45 l) (h2 : r = if g then l.tail else l) : numSpec l = numOf g r := by
  subst h1 h2; rfl
theorem numOf_plain {g : Bool} {r : List UInt8} (h : plainB r = false) : numOf g r = none := by unfold numOf; rw [h]; rfl
theorem numOf_zero {r : List UInt8} (h : r = [48]) : numOf true r = none := by subst h; decide
theorem numOf_some {g : Bool} {r : List UInt8} (h : plainB r = true) (hz : ¬ (g = true ∧ r = [48])) : numOf g r = some (if g then -(digVal r : Int) else (digVal r : Int)) := by
  unfold numOf; rw [h, if_pos]
  simp only [Bool.true_and, Bool.not_eq_true', Bool.and_eq_false_iff]
  cases g
  · exact .inl rfl
  · right; rw [beq_eq_false_iff_ne]; exact fun e => hz ⟨rfl, e⟩
theorem num_none {low high : Int} : numN low high none = 0 ∧ numE low high none = 4 := ⟨rfl, rfl⟩
theorem num_out {low high v : Int} (h : numIn low high v = false) : numN low high (some v) = 0 ∧ numE low high (some v) = 2 := by
  unfold numN numE; simp only [h]; exact ⟨rfl, rfl⟩
theorem num_in {low high v : Int} (h : numIn low high v = true) : numN low high (some v) = v ∧ numE low high (some v) = 0 := by
  unfold numN numE; simp only [h]; exact ⟨rfl, rfl⟩
theorem numIn_of {low high v : Int} (h : i64In v = true) : numIn low high v = (decide (low ≤ v) && decide (v ≤ high)) := by unfold numIn; rw [h]; rfl
theorem numIn_big {low high v : Int} (h : i64In v = false) : numIn low high v = false := by unfold numIn; rw [h]; rfl

theorem parseM_all (l : List UInt8) : ∀ (a : Nat), l.all digitB = true → a ≤ 2 ^ 64 - 1 →
    Lib.parseUintM (2 ^ 64 - 1) a l = if digFrom a l ≤ 2 ^ 64 - 1 then .ok (digFrom a l) else .range := by
  induction l with
  | nil => intro a _ h; unfold digFrom; rw [List.foldl_nil, if_pos h]; rfl
  | cons c l ih =>
    intro a h ha
    rw [List.all_cons, Bool.and_eq_true] at h
    have hc := digitB_bounds h.1
    have hb := (digFrom_bound l (10 * a + (c.toNat - 48)) h.2).2
    have hp : 0 < 10 ^ l.length := Nat.pow_pos (by decide)
    have hge : 10 * a + (c.toNat - 48) ≤ digFrom (10 * a + (c.toNat - 48)) l := Nat.le_trans (Nat.le_mul_of_pos_right _ hp) hb
    rw [digFrom_cons]
    unfold Lib.parseUintM
    rw [if_pos hc]
    by_cases h1 : 1844674407370955162 ≤ a
    · rw [if_pos h1, if_neg (by omega)]
    · rw [if_neg h1, show a * 10 + (c.toNat - 48) = 10 * a + (c.toNat - 48) by omega]
      by_cases h2 : 2 ^ 64 - 1 < 10 * a + (c.toNat - 48)
      · rw [if_pos h2, if_neg (by omega)]
      · rw [if_neg h2]
        exact ih _ h.2 (by omega)
theorem i64In_iff {v : Int} : i64In v = true ↔ -9223372036854775808 ≤ v ∧ v ≤ 9223372036854775807 := by
  unfold i64In; simp
theorem parseInt_all {l r : List UInt8} {g : Bool} (hg : g = headIs 45 l) (hr : r = if g then l.tail else l) (hp : plainB r = true) :
    Lib.parseIntB 64 l = if i64In (if g then -(digVal r : Int) else (digVal r : Int)) then .ok (if g then -(digVal r : Int) else (digVal r : Int)) else .range := by
  obtain ⟨h0, _, hd⟩ := plainB_parts hp
  have hM := parseM_all r 0 hd (by omega)
  have hu : Lib.parseUintB 64 r = if digVal r ≤ 2 ^ 64 - 1 then .ok (digVal r) else .range := by
    unfold Lib.parseUintB; rw [if_neg h0]; exact hM
  match l with
  | [] => subst hr; simp at h0
  | c :: t =>
    have hgc : g = (c == 45) := by rw [hg]; unfold headIs; simp
    unfold Lib.parseIntB
    simp only []
    have hc45 : c.toNat = 45 ↔ c = 45 := u8_eq (n := 45) (by omega)
    by_cases hc : c = 45
    · subst hc
      have hgt : g = true := by rw [hgc]; rfl
      subst hgt
      have hrt : t = r := by rw [hr]; rfl
      subst hrt
      rw [if_pos (by right; rfl), hu]
      by_cases h1 : digVal t ≤ 2 ^ 64 - 1
      · rw [if_pos h1]
        simp only [if_true]
        rw [if_neg (by intro h; exact h.1 rfl)]
        by_cases h2 : 2 ^ (64 - 1) < digVal t
        · rw [if_pos ⟨rfl, h2⟩, if_neg]
          rw [i64In_iff]; omega
        · rw [if_neg (by rintro ⟨_, h⟩; exact h2 h), if_pos (by rfl), if_pos (i64In_iff.2 (by omega))]
      · rw [if_neg h1, if_neg]
        simp only [if_true]
        rw [i64In_iff]; omega
    · have hgf : g = false := by rw [hgc, beq_eq_false_iff_ne]; exact hc
      subst hgf
      have hrt : c :: t = r := by rw [hr]; rfl
      subst hrt
      have hcd : digitB c = true := by simp only [List.all_cons, Bool.and_eq_true] at hd; exact hd.1
      have hcb := digitB_bounds hcd
      rw [if_neg (show ¬ (c.toNat = 43 ∨ c.toNat = 45) by omega), hu]
      have hn : ¬ c.toNat = 45 := by omega
      by_cases h1 : digVal (c :: t) ≤ 2 ^ 64 - 1
      · rw [if_pos h1]
        simp only [Bool.false_eq_true, if_false]
        by_cases h2 : 2 ^ (64 - 1) ≤ digVal (c :: t)
        · rw [if_pos ⟨hn, h2⟩, if_neg]
          rw [i64In_iff]; omega
        · rw [if_neg (by rintro ⟨_, h⟩; exact h2 h), if_neg (by rintro ⟨h, _⟩; exact hn h), if_neg hn, if_pos]
          rw [i64In_iff]; omega
      · rw [if_neg h1, if_neg]
        simp only [Bool.false_eq_true, if_false]
        rw [i64In_iff]; omega

/-- strconv.ParseInt of a sign and plain digits -/
theorem parseInt_num (s : ByteArray) (w : World) (E : Env w) (v : Int) (hs : s.size ≤ 100000) (h : Hid (Lib.parseIntB 64 (bl s) = if i64In v then .ok v else .range)) :
    Calls Tryz.prog 147 #[.string s, .int .i64 10, .int .i64 64] w fun e w' =>
      ((Hid (i64In v = true) ∧ e = .returned (.tuple #[.int .i64 v, .nilIface])) ∨ (Hid (i64In v = false) ∧ ∃ m t p, e = .returned (.tuple #[.int .i64 m, .iface t p]))) ∧ Below w.heap.size w w' := by
  obtain ⟨b, hv⟩ : ∃ b, i64In v = b := ⟨_, rfl⟩
  cases b
  · have h2 : Lib.parseIntB 64 (bl s) = .range := by rw [h.out, hv]; rfl
    obtain ⟨te, pe, he⟩ := E.errR
    refine (Tryz.strconv_ParseInt_10_at64_range s (by omega) h2 (.iface te pe) w he (.inr ⟨te, pe, rfl⟩)).mono ?_
    rintro e w' ⟨N, rfl, _, _, hb⟩
    exact ⟨.inr ⟨Lib.hid hv, _, _, _, rfl⟩, hb⟩
  · have h2 : Lib.parseIntB 64 (bl s) = .ok v := by rw [h.out, hv]; rfl
    refine (Tryz.strconv_ParseInt_10_at64_ok s (by omega) v h2 w).mono ?_
    rintro e w' ⟨rfl, hw⟩
    refine ⟨.inl ⟨Lib.hid hv, rfl⟩, ?_⟩
    rcases hw with rfl | ⟨t, rfl⟩
    · exact Below.refl _ _
    · exact below_bytesWorld _ _ _

theorem range3 (v low high : Int) : (v < low ∧ Hid ((decide (low ≤ v) && decide (v ≤ high)) = false)) ∨ (low ≤ v ∧ high < v ∧ Hid ((decide (low ≤ v) && decide (v ≤ high)) = false)) ∨ (low ≤ v ∧ v ≤ high ∧ Hid ((decide (low ≤ v) && decide (v ≤ high)) = true)) := by
  by_cases h1 : v < low
  · exact .inl ⟨h1, by unfold Hid; rw [decide_eq_false (by omega)]; rfl⟩
  · by_cases h2 : high < v
    · exact .inr (.inl ⟨by omega, h2, by unfold Hid; rw [decide_eq_false (p := v ≤ high) (by omega), Bool.and_false]⟩)
    · exact .inr (.inr ⟨by omega, by omega, by unfold Hid; rw [decide_eq_true (by omega), decide_eq_true (by omega)]; rfl⟩)
def NumPost (s : ByteArray) (low high : Int) (w : World) (e : Ending) (w' : World) : Prop :=
  e = .returned (.tuple #[.int .i64 (numN low high (numSpec (bl s))), .int .i64 (numE low high (numSpec (bl s)))]) ∧ Below w.heap.size w w'
theorem numPost {s : ByteArray} {low high n k : Int} {o : Option Int} {w w' : World} (ho : numSpec (bl s) = o) (h1 : numN low high o = n) (h2 : numE low high o = k) (hb : Below w.heap.size w w') :
    NumPost s low high w (.returned (.tuple #[.int .i64 n, .int .i64 k])) w' := by
  subst ho h1 h2; exact ⟨rfl, hb⟩

theorem tdiv_low (m : Nat) (d : Int) (h0 : 0 ≤ d) (h9 : d ≤ 9) : (-(m : Int) < (-9223372036854775808 + d).tdiv 10) ↔ 9223372036854775808 < 10 * (m : Int) + d := by
  have e : (-9223372036854775808 + d).tdiv 10 = -((9223372036854775808 - d) / 10) := by
    rw [show (-9223372036854775808 + d) = -(9223372036854775808 - d) by omega, Int.neg_tdiv, Int.tdiv_eq_ediv_of_nonneg (by omega)]
  rw [e]
  omega
theorem not_lt_le {a b : Int} (h : ¬ a < b) : b ≤ a := by omega
theorem i64In_no {n : Nat} {g : Bool} (h : 9223372036854775808 < n) : i64In (if g then -(n : Int) else (n : Int)) = false := by
  rw [← Bool.not_eq_true, i64In_iff]; cases g <;> simp <;> omega
end Go.Proofs.YtempiooclhmeoaaGreatDoor
