/-
  Contracts: decimal numbers read from texts: ParseNumber of both sides.
-/
import Derived.Test.YtlgajjlnbcbijaaGreatDoorParse
namespace Go.Proofs.YtlgajjlnbcbijaaGreatDoor
open Go.RowKit
set_option linter.unusedVariables false
set_option linter.unusedSimpArgs false

/-- the number that a sign and digits mean, if they are written as one -/
def numOf (g : Bool) (r : List UInt8) : Option Int :=
  if plainB r && !(g && r == [48]) then some (if g then -(digVal r : Int) else (digVal r : Int)) else none
def numSpec (l : List UInt8) : Option Int := numOf (headIs 45 l) (if headIs 45 l then l.tail else l)
def i64In (v : Int) : Bool := decide (-9223372036854775808 ≤ v) && decide (v ≤ 9223372036854775807)
def numIn (low high v : Int) : Bool := i64In v && decide (low ≤ v) && decide (v ≤ high)
def numN (low high : Int) (o : Option Int) : Int := match o with | some v => if numIn low high v then v else 0 | none => 0
def numE (low high : Int) (o : Option Int) : Int := match o with | some v => if numIn low high v then 0 else 2 | none => 4
theorem numSpec_eq {l r : List UInt8} {g : Bool} (h1 : g = headIs 45 l) (h2 : r = if g then l.tail else l) : numSpec l = numOf g r := by
  subst h1 h2; rfl
theorem numOf_plain {g : Bool} {r : List UInt8} (h : plainB r = false) : numOf g r = none := by unfold numOf; rw [h]; rfl
theorem numOf_zero {r : List UInt8} (h : r = [48]) : numOf true r = none := by subst h; decide
theorem numOf_some {g : Bool} {r : List UInt8} (h : plainB r = true) (hz : ¬ (g = true ∧ r = [48])) : numOf g r = some (if g then -(digVal r : Int) else (digVal r : Int)) := by
  unfold numOf; rw [h, if_pos]
  simp only [Bool.true_and, Bool.not_eq_true', Bool.and_eq_false_iff]
  cases g
  · exact .inl rfl
  · right; rw [beq_eq_false_iff_ne]; exact fun e => hz ⟨rfl, e⟩
theorem num_none {low high : Int} : numN low high none = 0 ∧ numE low high none = 4 := ⟨rfl, rfl⟩
theorem num_out {low high v : Int} (h : numIn low high v = false) : numN low high (some v) = 0 ∧ numE low high (some v) = 2 := by
  unfold numN numE; simp only [h]; exact ⟨rfl, rfl⟩
theorem num_in {low high v : Int} (h : numIn low high v = true) : numN low high (some v) = v ∧ numE low high (some v) = 0 := by
  unfold numN numE; simp only [h]; exact ⟨rfl, rfl⟩
theorem numIn_of {low high v : Int} (h : i64In v = true) : numIn low high v = (decide (low ≤ v) && decide (v ≤ high)) := by unfold numIn; rw [h]; rfl
theorem numIn_big {low high v : Int} (h : i64In v = false) : numIn low high v = false := by unfold numIn; rw [h]; rfl

theorem parseM_all (l : List UInt8) : ∀ (a : Nat), l.all digitB = true → a ≤ 2 ^ 64 - 1 →
    Lib.parseUintM (2 ^ 64 - 1) a l = if digFrom a l ≤ 2 ^ 64 - 1 then .ok (digFrom a l) else .range := by
  induction l with
  | nil => intro a _ h; unfold digFrom; rw [List.foldl_nil, if_pos h]; rfl
  | cons c l ih =>
    intro a h ha
    rw [List.all_cons, Bool.and_eq_true] at h
    have hc := digitB_bounds h.1
    have hb := (digFrom_bound l (10 * a + (c.toNat - 48)) h.2).2
    have hp : 0 < 10 ^ l.length := Nat.pow_pos (by decide)
    have hge : 10 * a + (c.toNat - 48) ≤ digFrom (10 * a + (c.toNat - 48)) l := Nat.le_trans (Nat.le_mul_of_pos_right _ hp) hb
    rw [digFrom_cons]
    unfold Lib.parseUintM
    rw [if_pos hc]
    by_cases h1 : 1844674407370955162 ≤ a
    · rw [if_pos h1, if_neg (by omega)]
    · rw [if_neg h1, show a * 10 + (c.toNat - 48) = 10 * a + (c.toNat - 48) by omega]
      by_cases h2 : 2 ^ 64 - 1 < 10 * a + (c.toNat - 48)
      · rw [if_pos h2, if_neg (by omega)]
      · rw [if_neg h2]
        exact ih _ h.2 (by omega)
theorem i64In_iff {v : Int} : i64In v = true ↔ -9223372036854775808 ≤ v ∧ v ≤ 9223372036854775807 := by
  unfold i64In; simp
theorem parseInt_all {l r : List UInt8} {g : Bool} (hg : g = headIs 45 l) (hr : r = if g then l.tail else l) (hp : plainB r = true) :
    Lib.parseIntB 64 l = if i64In (if g then -(digVal r : Int) else (digVal r : Int)) then .ok (if g then -(digVal r : Int) else (digVal r : Int)) else .range := by
  obtain ⟨h0, _, hd⟩ := plainB_parts hp
  have hM := parseM_all r 0 hd (by omega)
  have hu : Lib.parseUintB 64 r = if digVal r ≤ 2 ^ 64 - 1 then .ok (digVal r) else .range := by
    unfold Lib.parseUintB; rw [if_neg h0]; exact hM
  match l with
  | [] => subst hr; simp at h0
  | c :: t =>
    have hgc : g = (c == 45) := by rw [hg]; unfold headIs; simp
    unfold Lib.parseIntB
    simp only []
    have hc45 : c.toNat = 45 ↔ c = 45 := u8_eq (n := 45) (by omega)
    by_cases hc : c = 45
    · subst hc
      have hgt : g = true := by rw [hgc]; rfl
      subst hgt
      have hrt : t = r := by rw [hr]; rfl
      subst hrt
      rw [if_pos (by right; rfl), hu]
      by_cases h1 : digVal t ≤ 2 ^ 64 - 1
      · rw [if_pos h1]
        simp only [if_true]
        rw [if_neg (by intro h; exact h.1 rfl)]
        by_cases h2 : 2 ^ (64 - 1) < digVal t
        · rw [if_pos ⟨rfl, h2⟩, if_neg]
          rw [i64In_iff]; omega
        · rw [if_neg (by rintro ⟨_, h⟩; exact h2 h), if_pos (by rfl), if_pos (i64In_iff.2 (by omega))]
      · rw [if_neg h1, if_neg]
        simp only [if_true]
        rw [i64In_iff]; omega
    · have hgf : g = false := by rw [hgc, beq_eq_false_iff_ne]; exact hc
      subst hgf
      have hrt : c :: t = r := by rw [hr]; rfl
      subst hrt
      have hcd : digitB c = true := by simp only [List.all_cons, Bool.and_eq_true] at hd; exact hd.1
      have hcb := digitB_bounds hcd
      rw [if_neg (show ¬ (c.toNat = 43 ∨ c.toNat = 45) by omega), hu]
      have hn : ¬ c.toNat = 45 := by omega
      by_cases h1 : digVal (c :: t) ≤ 2 ^ 64 - 1
      · rw [if_pos h1]
        simp only [Bool.false_eq_true, if_false]
        by_cases h2 : 2 ^ (64 - 1) ≤ digVal (c :: t)
        · rw [if_pos ⟨hn, h2⟩, if_neg]
          rw [i64In_iff]; omega
        · rw [if_neg (by rintro ⟨_, h⟩; exact h2 h), if_neg (by rintro ⟨h, _⟩; exact hn h), if_neg hn, if_pos]
          rw [i64In_iff]; omega
      · rw [if_neg h1, if_neg]
        simp only [Bool.false_eq_true, if_false]
        rw [i64In_iff]; omega

/-- strconv.ParseInt of a sign and plain digits -/
theorem parseInt_num (s : ByteArray) (w : World) (E : Env w) (v : Int) (hs : s.size ≤ 140737488351232) (h : Hid (Lib.parseIntB 64 (bl s) = if i64In v then .ok v else .range)) :
    Calls Tryz.prog 173 #[.string s, .int .i64 10, .int .i64 64] w fun e w' =>
      ((Hid (i64In v = true) ∧ e = .returned (.tuple #[.int .i64 v, .nilIface])) ∨ (Hid (i64In v = false) ∧ ∃ m t p, e = .returned (.tuple #[.int .i64 m, .iface t p]))) ∧ Below w.heap.size w w' := by
  obtain ⟨b, hv⟩ : ∃ b, i64In v = b := ⟨_, rfl⟩
  cases b
  · have h2 : Lib.parseIntB 64 (bl s) = .range := by rw [h.out, hv]; rfl
    obtain ⟨te, pe, he⟩ := E.errR
    refine (Tryz.strconv_ParseInt_10_at64_range s (by omega) h2 (.iface te pe) w he (.inr ⟨te, pe, rfl⟩)).mono ?_
    rintro e w' ⟨N, rfl, _, _, hb⟩
    exact ⟨.inr ⟨Lib.hid hv, _, _, _, rfl⟩, hb⟩
  · have h2 : Lib.parseIntB 64 (bl s) = .ok v := by rw [h.out, hv]; rfl
    refine (Tryz.strconv_ParseInt_10_at64_ok s (by omega) v h2 w).mono ?_
    rintro e w' ⟨rfl, hw⟩
    refine ⟨.inl ⟨Lib.hid hv, rfl⟩, ?_⟩
    rcases hw with rfl | ⟨t, rfl⟩
    · exact Below.refl _ _
    · exact below_bytesWorld _ _ _

theorem range3 (v low high : Int) : (v < low ∧ Hid ((decide (low ≤ v) && decide (v ≤ high)) = false)) ∨ (low ≤ v ∧ high < v ∧ Hid ((decide (low ≤ v) && decide (v ≤ high)) = false)) ∨ (low ≤ v ∧ v ≤ high ∧ Hid ((decide (low ≤ v) && decide (v ≤ high)) = true)) := by
  by_cases h1 : v < low
  · exact .inl ⟨h1, by unfold Hid; rw [decide_eq_false (by omega)]; rfl⟩
  · by_cases h2 : high < v
    · exact .inr (.inl ⟨by omega, h2, by unfold Hid; rw [decide_eq_false (p := v ≤ high) (by omega), Bool.and_false]⟩)
    · exact .inr (.inr ⟨by omega, by omega, by unfold Hid; rw [decide_eq_true (by omega), decide_eq_true (by omega)]; rfl⟩)
def NumPost (s : ByteArray) (low high : Int) (w : World) (e : Ending) (w' : World) : Prop :=
  e = .returned (.tuple #[.int .i64 (numN low high (numSpec (bl s))), .int .i64 (numE low high (numSpec (bl s)))]) ∧ Below w.heap.size w w'
theorem numPost {s : ByteArray} {low high n k : Int} {o : Option Int} {w w' : World} (ho : numSpec (bl s) = o) (h1 : numN low high o = n) (h2 : numE low high o = k) (hb : Below w.heap.size w w') :
    NumPost s low high w (.returned (.tuple #[.int .i64 n, .int .i64 k])) w' := by
  subst ho h1 h2; exact ⟨rfl, hb⟩

set_option maxHeartbeats 1000000 in
theorem parseNumber_any (s : ByteArray) (low high : Int) (w : World) (E : Env w) (hs : s.size ≤ 140737488351232) :
    Calls Tryz.prog 110 #[.string s, .int .i64 low, .int .i64 high] w (NumPost s low high w) := by
  go_enter Tryz.func110, Tryz.ntmps110
  go_wp2_with fail
  refine (cutPrefix1 s 45 _).mono ?_
  rintro e w' ⟨r, g, rfl, hg, hr, hrs, rfl⟩
  have hspec := Lib.hid (numSpec_eq hg.out hr.out)
  go_wp2_with fail
  refine (plain_any r _ (by unfold maxLen; omega)).mono ?_
  rintro e w' ⟨rfl, rfl⟩
  rcases hp : plainB (bl r) with _ | _
  · have HP := Lib.hid hp; clear hp
    go_wp2
    go_ret2
    exact numPost (hspec.out.trans (numOf_plain HP.out)) rfl rfl (Below.refl _ _)
  · have HP := Lib.hid hp; clear hp
    have hz : (g = true ∧ Hid ((r.toList == [48]) = true)) ∨ ((g = false ∨ (g = true ∧ Hid ((r.toList == [48]) = false))) ∧ Hid (¬ (g = true ∧ bl r = [48]))) := by
      cases g
      · exact .inr ⟨.inl rfl, by unfold Hid; simp⟩
      · by_cases h : bl r = [48]
        · exact .inl ⟨rfl, by unfold Hid; rw [bl_toList, h]; rfl⟩
        · exact .inr ⟨.inr ⟨rfl, by unfold Hid; rw [bl_toList, beq_eq_false_iff_ne]; exact h⟩, fun ⟨_, h2⟩ => h h2⟩
    rcases hz with ⟨rfl, hz⟩ | ⟨hz, hnz⟩
    · have h48 : Hid (bl r = [48]) := by have := hz.out; rw [bl_toList, beq_iff_eq] at this; exact this
      have hz := hz.out
      go_wp2
      go_ret2
      exact numPost (hspec.out.trans (numOf_zero h48.out)) rfl rfl (Below.refl _ _)
    · have hall := Lib.hid (parseInt_all hg.out hr.out HP.out)
      have hsome := Lib.hid (hspec.out.trans (numOf_some HP.out hnz.out))
      obtain ⟨v, hv⟩ : ∃ v : Int, (if g then -(digVal (bl r) : Int) else (digVal (bl r) : Int)) = v := ⟨_, rfl⟩
      rw [hv] at hall hsome
      clear hv hnz
      rcases hz with rfl | ⟨rfl, hz⟩
      all_goals try have hz := Hid.out hz
      all_goals
        go_wp2_with fail
        refine (parseInt_num s _ E v hs hall).mono ?_
        rintro e w1 ⟨⟨hi, rfl⟩ | ⟨hi, m, t, p, rfl⟩, hb⟩
        · rcases range3 v low high with ⟨h1, h3⟩ | ⟨h1, h2, h3⟩ | ⟨h1, h2, h3⟩
          · go_wp2
            go_ret2
            have hq := num_out ((numIn_of hi.out).trans h3.out)
            exact numPost hsome.out hq.1 hq.2 hb
          · go_wp2
            go_ret2
            have hq := num_out ((numIn_of hi.out).trans h3.out)
            exact numPost hsome.out hq.1 hq.2 hb
          · go_wp2
            go_ret2
            have hq := num_in ((numIn_of hi.out).trans h3.out)
            exact numPost hsome.out hq.1 hq.2 hb
        · go_wp2
          go_ret2
          have hq := num_out (low := low) (high := high) (numIn_big hi.out)
          exact numPost hsome.out hq.1 hq.2 hb

/-! ### the reference -/
theorem tdiv_low (m : Nat) (d : Int) (h0 : 0 ≤ d) (h9 : d ≤ 9) : (-(m : Int) < (-9223372036854775808 + d).tdiv 10) ↔ 9223372036854775808 < 10 * (m : Int) + d := by
  have e : (-9223372036854775808 + d).tdiv 10 = -((9223372036854775808 - d) / 10) := by
    rw [show (-9223372036854775808 + d) = -(9223372036854775808 - d) by omega, Int.neg_tdiv, Int.tdiv_eq_ediv_of_nonneg (by omega)]
  rw [e]
  omega
theorem not_lt_le {a b : Int} (h : ¬ a < b) : b ≤ a := by omega
theorem i64In_no {n : Nat} {g : Bool} (h : 9223372036854775808 < n) : i64In (if g then -(n : Int) else (n : Int)) = false := by
  rw [← Bool.not_eq_true, i64In_iff]; cases g <;> simp <;> omega
set_option maxHeartbeats 2000000 in
theorem rparseNumber_any (s : ByteArray) (low high : Int) (w : World) (hs : s.size ≤ 140737488351232) :
    Calls Tryz.prog 165 #[.string s, .int .i64 low, .int .i64 high] w (NumPost s low high w) := by
  go_enter Tryz.func165, Tryz.ntmps165
  go_upto_region 1 with (fail)
  go_cut [8] (fun g wx => ∃ b : Bool, g = .bool b ∧ Hid (b = headIs 45 (bl s)) ∧ w = wx)
  case first =>
    rcases Nat.eq_zero_or_pos s.size with h0 | h0
    · have H0 := Lib.hid h0
      have h1 : (s.size : Int) ≤ 0 := by omega
      clear h0
      go_wp2
      go_meet
      exact ⟨_, rfl, (headIs_nil H0.out).symm, rfl⟩
    · have h1 : (0 : Int) < (s.size : Int) := by omega
      have hh := Lib.hid (headIs_at (n := 45) (by omega) h0)
      go_wp2
      go_meet
      exact ⟨_, rfl, hh.out.symm, rfl⟩
  case rest =>
    obtain ⟨g, rfl, hg, rfl⟩ := hcut
    go_upto_if 22 with (fail)
    go_cut [9] (fun t wx => ∃ r : ByteArray, t = .string r ∧ Hid (bl r = if g then (bl s).tail else bl s) ∧ r.size ≤ s.size ∧ w = wx)
    case first =>
      cases g
      · go_wp2
        go_meet
        exact ⟨_, rfl, rfl, Nat.le_refl _, rfl⟩
      · have h0 := headIs_pos hg.out
        go_wp2
        go_meet
        exact ⟨_, rfl, bl_tail s, by rw [← bl_len, bl_tail, List.length_tail, bl_len]; omega, rfl⟩
    case rest =>
      obtain ⟨r, rfl, hr, hrs, rfl⟩ := hcut
      have hspec := Lib.hid (numSpec_eq hg.out hr.out)
      go_wp2_with fail
      refine (rplain_any r _ (by unfold maxLen; omega)).mono ?_
      rintro e w' ⟨rfl, rfl⟩
      rcases hp : plainB (bl r) with _ | _
      · have HP := Lib.hid hp; clear hp
        go_wp2
        go_ret2
        exact numPost (hspec.out.trans (numOf_plain HP.out)) rfl rfl (Below.refl _ _)
      have HP := Lib.hid hp; clear hp
      have hz : (g = true ∧ Hid ((r.toList == [48]) = true)) ∨ ((g = false ∨ (g = true ∧ Hid ((r.toList == [48]) = false))) ∧ Hid (¬ (g = true ∧ bl r = [48]))) := by
        cases g
        · exact .inr ⟨.inl rfl, by unfold Hid; simp⟩
        · by_cases h : bl r = [48]
          · exact .inl ⟨rfl, by unfold Hid; rw [bl_toList, h]; rfl⟩
          · exact .inr ⟨.inr ⟨rfl, by unfold Hid; rw [bl_toList, beq_eq_false_iff_ne]; exact h⟩, fun ⟨_, h2⟩ => h h2⟩
      rcases hz with ⟨rfl, hz⟩ | ⟨hz, hnz⟩
      · have h48 : Hid (bl r = [48]) := by have := hz.out; rw [bl_toList, beq_iff_eq] at this; exact this
        have hz := hz.out
        go_wp2
        go_ret2
        exact numPost (hspec.out.trans (numOf_zero h48.out)) rfl rfl (Below.refl _ _)
      have hsome := Lib.hid (hspec.out.trans (numOf_some HP.out hnz.out))
      clear hnz
      rcases hz with rfl | ⟨rfl, hz⟩
      all_goals try have hz := Hid.out hz
      · have hsome : Hid (numSpec (bl s) = some (digVal (bl r) : Int)) := hsome
        go_wp2
        go_loop [10, 11, 12] (fun n i _ => ∃ k m : Nat, k ≤ r.size ∧ i = .int .i64 k ∧ n = .int .i64 (-(m : Int)) ∧ m ≤ 9223372036854775808 ∧ Hid (m = digVal ((bl r).take k))) (fun _ i _ => r.size - (intOf i).toNat)
        case atStart => exact ⟨0, 0, Nat.zero_le _, rfl, rfl, by omega, rfl⟩
        case round =>
          obtain ⟨k, m, hk, rfl, rfl, hm, hv⟩ := hrel
          by_cases h : k < r.size
          · have hb := digit_at (plainB_parts HP.out).2.2 h
            have hb1 : (48 : Int) ≤ (r[k].toNat : Int) := by omega
            have hb2 : (r[k].toNat : Int) ≤ 57 := by omega
            clear hb
            have hlow := tdiv_low m ((r[k].toNat : Int) - 48) (by omega) (by omega)
            by_cases ht : 9223372036854775808 < 10 * (m : Int) + ((r[k].toNat : Int) - 48)
            · have ht2 := hlow.2 ht
              have h3 := digVal_take_succ h
              have h4 := digVal_take_le (plainB_parts HP.out).2.2 (k + 1)
              have hbig : 9223372036854775808 < digVal (bl r) := by rw [← hv.out] at h3; omega
              clear h3 h4 hlow
              go_wp2
              go_ret2
              have hq := num_out (v := (digVal (bl r) : Int)) (low := low) (high := high) (numIn_big (i64In_no (g := false) hbig))
              exact numPost hsome.out hq.1 hq.2 (Below.refl _ _)
            · have ht2 := not_lt_le (fun hh => ht (hlow.1 hh))
              have ht3 : 10 * (m : Int) + ((r[k].toNat : Int) - 48) ≤ 9223372036854775808 := by omega
              clear hlow ht
              go_wp2
              go_round
              case rel => exact ⟨k + 1, 10 * m + (r[k].toNat - 48), h, by go_num, by go_num, by omega, by unfold Hid; rw [digVal_take_succ h, ← hv.out]⟩
              case measure => simp [intOf]; omega
          · have hk2 : (r.size : Int) ≤ (k : Int) := by omega
            have hvm : Hid (m = digVal (bl r)) := by unfold Hid; rw [hv.out, List.take_of_length_le (by rw [bl_len]; omega)]
            by_cases hmin : m = 9223372036854775808
            · have e1 : (-(m : Int) == -9223372036854775808) = true := by rw [beq_iff_eq]; omega
              have HM := Lib.hid hmin
              clear hmin
              go_wp2
              go_ret2
              have hq := num_out (v := (digVal (bl r) : Int)) (low := low) (high := high) (numIn_big (by rw [← hvm.out, HM.out]; decide))
              exact numPost hsome.out hq.1 hq.2 (Below.refl _ _)
            · have e1 : (-(m : Int) == -9223372036854775808) = false := by rw [beq_eq_false_iff_ne]; omega
              have hm2 : m ≤ 9223372036854775807 := by omega
              clear hmin hm
              have hi : Hid (i64In (digVal (bl r) : Int) = true) := by unfold Hid; rw [← hvm.out, i64In_iff]; omega
              rcases range3 (m : Int) low high with ⟨h1, h3⟩ | ⟨h1, h2, h3⟩ | ⟨h1, h2, h3⟩
              · go_wp2
                go_ret2
                have hq := num_out (v := (digVal (bl r) : Int)) ((numIn_of hi.out).trans (by rw [← hvm.out]; exact h3.out))
                exact numPost hsome.out hq.1 hq.2 (Below.refl _ _)
              · go_wp2
                go_ret2
                have hq := num_out (v := (digVal (bl r) : Int)) ((numIn_of hi.out).trans (by rw [← hvm.out]; exact h3.out))
                exact numPost hsome.out hq.1 hq.2 (Below.refl _ _)
              · go_wp2
                go_ret2
                have hq := num_in (v := (digVal (bl r) : Int)) ((numIn_of hi.out).trans (by rw [← hvm.out]; exact h3.out))
                exact numPost hsome.out (hq.1.trans (by rw [← hvm.out])) hq.2 (Below.refl _ _)
      · have hsome : Hid (numSpec (bl s) = some (-(digVal (bl r) : Int))) := hsome
        go_wp2
        go_loop [10, 11, 12] (fun n i _ => ∃ k m : Nat, k ≤ r.size ∧ i = .int .i64 k ∧ n = .int .i64 (-(m : Int)) ∧ m ≤ 9223372036854775808 ∧ Hid (m = digVal ((bl r).take k))) (fun _ i _ => r.size - (intOf i).toNat)
        case atStart => exact ⟨0, 0, Nat.zero_le _, rfl, rfl, by omega, rfl⟩
        case round =>
          obtain ⟨k, m, hk, rfl, rfl, hm, hv⟩ := hrel
          by_cases h : k < r.size
          · have hb := digit_at (plainB_parts HP.out).2.2 h
            have hb1 : (48 : Int) ≤ (r[k].toNat : Int) := by omega
            have hb2 : (r[k].toNat : Int) ≤ 57 := by omega
            clear hb
            have hlow := tdiv_low m ((r[k].toNat : Int) - 48) (by omega) (by omega)
            by_cases ht : 9223372036854775808 < 10 * (m : Int) + ((r[k].toNat : Int) - 48)
            · have ht2 := hlow.2 ht
              have h3 := digVal_take_succ h
              have h4 := digVal_take_le (plainB_parts HP.out).2.2 (k + 1)
              have hbig : 9223372036854775808 < digVal (bl r) := by rw [← hv.out] at h3; omega
              clear h3 h4 hlow
              go_wp2
              go_ret2
              have hq := num_out (v := (-(digVal (bl r) : Int))) (low := low) (high := high) (numIn_big (i64In_no (g := true) hbig))
              exact numPost hsome.out hq.1 hq.2 (Below.refl _ _)
            · have ht2 := not_lt_le (fun hh => ht (hlow.1 hh))
              have ht3 : 10 * (m : Int) + ((r[k].toNat : Int) - 48) ≤ 9223372036854775808 := by omega
              clear hlow ht
              go_wp2
              go_round
              case rel => exact ⟨k + 1, 10 * m + (r[k].toNat - 48), h, by go_num, by go_num, by omega, by unfold Hid; rw [digVal_take_succ h, ← hv.out]⟩
              case measure => simp [intOf]; omega
          · have hk2 : (r.size : Int) ≤ (k : Int) := by omega
            have hvm : Hid (m = digVal (bl r)) := by unfold Hid; rw [hv.out, List.take_of_length_le (by rw [bl_len]; omega)]
            have hi : Hid (i64In (-(digVal (bl r) : Int)) = true) := by unfold Hid; rw [← hvm.out, i64In_iff]; omega
            rcases range3 (-(m : Int)) low high with ⟨h1, h3⟩ | ⟨h1, h2, h3⟩ | ⟨h1, h2, h3⟩
            · go_wp2
              go_ret2
              have hq := num_out (v := -(digVal (bl r) : Int)) ((numIn_of hi.out).trans (by rw [← hvm.out]; exact h3.out))
              exact numPost hsome.out hq.1 hq.2 (Below.refl _ _)
            · go_wp2
              go_ret2
              have hq := num_out (v := -(digVal (bl r) : Int)) ((numIn_of hi.out).trans (by rw [← hvm.out]; exact h3.out))
              exact numPost hsome.out hq.1 hq.2 (Below.refl _ _)
            · go_wp2
              go_ret2
              have hq := num_in (v := -(digVal (bl r) : Int)) ((numIn_of hi.out).trans (by rw [← hvm.out]; exact h3.out))
              exact numPost hsome.out (hq.1.trans (by rw [← hvm.out])) hq.2 (Below.refl _ _)
end Go.Proofs.YtlgajjlnbcbijaaGreatDoor
