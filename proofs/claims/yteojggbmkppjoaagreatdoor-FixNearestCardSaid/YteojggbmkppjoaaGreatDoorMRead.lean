/-
  Several texts as one.
  Plain laws: the text of an altitude is read as that altitude.
  Contracts: distances as texts (DistText of both sides), and the plain law that the text of a distance is read as it.
  Contracts: distances read from texts: ParseDist of both sides.
  Contract: record.Split: the fields of a line.
  Contract: the reference's Split.
-/
import Derived.Test.YteojggbmkppjoaaGreatDoorMParse
import Derived.Test.YteojggbmkppjoaaGreatDoorMWords
namespace Go.Proofs.YteojggbmkppjoaaGreatDoor
set_option linter.unusedVariables false
set_option linter.unusedSimpArgs false

theorem dig_nat {d : Nat} (h : d < 10) : (UInt8.ofNat (48 + d)).toNat = 48 + d := by
  rw [UInt8.toNat_ofNat']; omega
theorem dig_B {d : Nat} (h : d < 10) : digitB (UInt8.ofNat (48 + d)) = true := by
  unfold digitB; rw [dig_nat h]; simp; omega
theorem digFrom_snoc (a : Nat) (l : List UInt8) (c : UInt8) : digFrom a (l ++ [c]) = 10 * digFrom a l + (c.toNat - 48) := by
  unfold digFrom; rw [List.foldl_append]; rfl
theorem dec_all (n : Nat) : (Lib.decDigits n).all digitB = true := by
  induction n using Nat.strongRecOn with
  | _ n ih =>
    by_cases h : n < 10
    · rw [decDigits_small h, List.all_cons, dig_B h]; rfl
    · rw [decDigits_big h, List.all_append, ih (n / 10) (by omega), List.all_cons, dig_B (by omega)]; rfl
theorem dec_val (n : Nat) : digVal (Lib.decDigits n) = n := by
  induction n using Nat.strongRecOn with
  | _ n ih =>
    by_cases h : n < 10
    · rw [decDigits_small h]
      show 10 * 0 + ((UInt8.ofNat (48 + n)).toNat - 48) = n
      rw [dig_nat h]; omega
    · rw [decDigits_big h]
      unfold digVal at ih ⊢
      rw [digFrom_snoc, ih (n / 10) (by omega), dig_nat (by omega)]; omega
theorem dec_ne (n : Nat) : Lib.decDigits n ≠ [] := by
  by_cases h : n < 10
  · rw [decDigits_small h]; simp
  · rw [decDigits_big h]; simp
theorem headD_append {l r : List UInt8} (h : l ≠ []) : (l ++ r).headD 0 = l.headD 0 := by
  cases l with
  | nil => exact absurd rfl h
  | cons a l => rfl
theorem dec_head (n : Nat) : (n = 0 ∧ Lib.decDigits n = [48]) ∨ (0 < n ∧ 48 < ((Lib.decDigits n).headD 0).toNat) := by
  induction n using Nat.strongRecOn with
  | _ n ih =>
    by_cases h : n < 10
    · by_cases h0 : n = 0
      · subst h0; exact .inl ⟨rfl, by rw [decDigits_small (by omega)]; rfl⟩
      · right
        rw [decDigits_small h]
        show 0 < n ∧ 48 < (UInt8.ofNat (48 + n)).toNat
        rw [dig_nat h]; omega
    · right
      rw [decDigits_big h, headD_append (dec_ne _)]
      rcases ih (n / 10) (by omega) with h1 | h1
      · omega
      · exact ⟨by omega, h1.2⟩
theorem dec_zeroAhead (n : Nat) : zeroAhead (Lib.decDigits n) = false := by
  unfold zeroAhead
  rcases dec_head n with ⟨_, h⟩ | ⟨_, h⟩
  · rw [h]; rfl
  · have e : ((Lib.decDigits n).headD 0 == 48) = false := by
      rw [beq_eq_false_iff_ne]; intro e; rw [e] at h; exact absurd h (by decide)
    rw [e, Bool.and_false]
theorem dec_plain (n : Nat) : plainB (Lib.decDigits n) = true := by
  unfold plainB
  rw [dec_zeroAhead, dec_all, List.isEmpty_eq_false_iff.2 (dec_ne n)]; rfl
theorem notin_digits {l : List UInt8} {c : UInt8} (h : l.all digitB = true) (hc : digitB c = false) : c ∉ l := by
  intro hm
  have := List.all_eq_true.1 h c hm
  rw [hc] at this; cases this
theorem headIs_append {c : UInt8} {l r : List UInt8} (h0 : l ≠ []) (h : c ∉ l) : headIs c (l ++ r) = false := by
  cases l with
  | nil => exact absurd rfl h0
  | cons a l =>
    have : a ≠ c := fun e => h (by rw [e]; simp)
    simp [headIs, this]
theorem pair_dec {x y : Nat} (hx : x < 10) (hy : y < 10) (h : ¬ (x = 0 ∧ y = 0)) : pairB (Lib.decDigits x ++ Lib.decDigits y) = true ∧ digVal (Lib.decDigits x ++ Lib.decDigits y) = 10 * x + y := by
  rw [decDigits_small hx, decDigits_small hy]
  constructor
  · unfold pairB
    have e1 : ([UInt8.ofNat (48 + x)] ++ [UInt8.ofNat (48 + y)]).all digitB = true := by
      simp only [List.cons_append, List.nil_append, List.all_cons, List.all_nil, dig_B hx, dig_B hy]; rfl
    have e2 : (([UInt8.ofNat (48 + x)] ++ [UInt8.ofNat (48 + y)]) == [48, 48]) = false := by
      rw [beq_eq_false_iff_ne]
      intro e
      simp only [List.cons_append, List.nil_append, List.cons.injEq, and_true] at e
      have a1 := congrArg UInt8.toNat e.1
      have a2 := congrArg UInt8.toNat e.2
      rw [dig_nat hx] at a1
      rw [dig_nat hy] at a2
      have b1 : (48 : UInt8).toNat = 48 := rfl
      omega
    rw [e1, e2]; rfl
  · show 10 * (10 * 0 + ((UInt8.ofNat (48 + x)).toNat - 48)) + ((UInt8.ofNat (48 + y)).toNat - 48) = _
    rw [dig_nat hx, dig_nat hy]; omega
/-- the parts of the text of an altitude without its sign -/
theorem altAbs_cut (b : Nat) : ∃ p f, cutAt 46 (altAbs b) = (Lib.decDigits (b / 100), p, f) ∧ (∀ g, altOf g (Lib.decDigits (b / 100)) p f = if g then (if b = 0 then none else some (-(b : Int))) else some (b : Int)) := by
  have hn : (46 : UInt8) ∉ Lib.decDigits (b / 100) := notin_digits (dec_all _) (by decide)
  by_cases h : b % 100 = 0
  · refine ⟨[], false, by rw [altAbs_whole h, cutAt_none hn], fun g => ?_⟩
    have e : b / 100 * 100 = b := by omega
    unfold altOf
    simp only [dec_plain, dec_val, e, Bool.not_false, Bool.true_or, Bool.and_self, if_true, Bool.false_eq_true, if_false, Nat.add_zero]
  · obtain ⟨k1, k2⟩ := @pair_dec (b % 100 / 10) (b % 10) (by omega) (by omega) (by omega)
    refine ⟨Lib.decDigits (b % 100 / 10) ++ Lib.decDigits (b % 10), true, ?_, fun g => ?_⟩
    · rw [altAbs_part h, List.cons_append, cutAt_mid hn]
    · have e : b / 100 * 100 + (10 * (b % 100 / 10) + b % 10) = b := by omega
      unfold altOf
      simp only [dec_plain, dec_val, k1, k2, e, Bool.not_true, Bool.false_or, Bool.and_self, if_true]
theorem altAbs_head (b : Nat) {c : UInt8} (hc : digitB c = false) : headIs c (altAbs b) = false := by
  unfold altAbs
  exact headIs_append (dec_ne _) (notin_digits (dec_all _) hc)
/-- the text of an altitude is read as that altitude -/
theorem altSpec_altOut {a : Int} (h : rangedB a = true) : altSpec (altOut a) = some a := by
  have hr : -200000 ≤ a ∧ a ≤ 6000000 := by unfold rangedB at h; simpa using h
  by_cases hn : a < 0
  · obtain ⟨b, rfl⟩ : ∃ b : Nat, a = -(b : Int) := ⟨(-a).toNat, by omega⟩
    obtain ⟨p, f, h1, h2⟩ := altAbs_cut b
    rw [altOut_neg (by omega) (by omega), altSpec_eq (g := true) (r := altAbs b) (by simp [headIs]) rfl h1, h2, if_pos rfl, if_neg (by omega)]
  · obtain ⟨b, rfl⟩ := Int.eq_ofNat_of_zero_le (a := a) (by omega)
    obtain ⟨p, f, h1, h2⟩ := altAbs_cut b
    rw [altOut_pos (by omega), altSpec_eq (g := false) (r := altAbs b) (altAbs_head b (by decide)).symm rfl h1, h2, if_neg (by decide)]
theorem pAlt_altOut {a : Int} (h : rangedB a = true) : pAltN (altSpec (altOut a)) = a ∧ pAltE (altSpec (altOut a)) = 0 := by
  rw [altSpec_altOut h]
  exact ⟨if_pos h, if_pos h⟩
end Go.Proofs.YteojggbmkppjoaaGreatDoor
namespace Go.Proofs.YteojggbmkppjoaaGreatDoor
open Go.RowKit
set_option linter.unusedVariables false
set_option linter.unusedSimpArgs false

def distAbs (b : Nat) : List UInt8 := Lib.decDigits (b / 6000) ++ (if b % 6000 = 0 then [] else 43 :: Lib.decDigits (b % 6000))
theorem distAbs_whole {b : Nat} (h : b % 6000 = 0) : distAbs b = Lib.decDigits (b / 6000) := by unfold distAbs; rw [if_pos h, List.append_nil]
theorem distAbs_part {b : Nat} (h : ¬ b % 6000 = 0) : distAbs b = Lib.decDigits (b / 6000) ++ (43 :: Lib.decDigits (b % 6000)) := by unfold distAbs; rw [if_neg h]
theorem distAbs_len {b : Nat} (h : b ≤ 8000000) : (distAbs b).length ≤ 20000 := by
  have h1 := decDigits_len (b / 6000)
  have h2 := decDigits_len (b % 6000)
  by_cases h0 : b % 6000 = 0
  · rw [distAbs_whole h0]; omega
  · rw [distAbs_part h0, List.length_append, List.length_cons]; omega
def distGood (d : Int) : Bool := decide (0 ≤ d) && decide (d ≤ 8000000)
def distOut (d : Int) : List UInt8 := if distGood d then distAbs d.toNat else []
def distErr (d : Int) : Int := if distGood d then 0 else 2
theorem distGood_iff {d : Int} : distGood d = true ↔ 0 ≤ d ∧ d ≤ 8000000 := by unfold distGood; simp
theorem dist_bad {d : Int} (h : d < 0 ∨ 8000000 < d) : distGood d = false := by
  rw [← Bool.not_eq_true, distGood_iff]; omega
/-- the distance of a text -/
def distOf (a b : List UInt8) (f : Bool) : Option Int :=
  if plainB a && (!f || (plainB b && !(b == [48]) && decide (b.length ≤ 4) && decide (digVal b < 6000))) then some ((digVal a * 6000 + (if f then digVal b else 0) : Nat) : Int) else none
def distSpec (l : List UInt8) : Option Int := distOf (cutAt 43 l).1 (cutAt 43 l).2.1 (cutAt 43 l).2.2
theorem distSpec_eq {l a b : List UInt8} {f : Bool} (h : cutAt 43 l = (a, b, f)) : distSpec l = distOf a b f := by unfold distSpec; rw [h]
def distN (o : Option Int) : Int := match o with | some v => if v ≤ 8000000 then v else 0 | none => 0
def distE (o : Option Int) : Int := match o with | some v => if v ≤ 8000000 then 0 else 2 | none => 4
/-- the text of a distance is read as it -/
theorem distSpec_out {d : Int} (h : distGood d = true) : distSpec (distOut d) = some d := by
  have hr := distGood_iff.1 h
  obtain ⟨b, rfl⟩ := Int.eq_ofNat_of_zero_le (a := d) hr.1
  unfold distOut
  rw [if_pos h, Int.toNat_natCast]
  have hn : (43 : UInt8) ∉ Lib.decDigits (b / 6000) := notin_digits (dec_all _) (by decide)
  by_cases h0 : b % 6000 = 0
  · rw [distAbs_whole h0, distSpec_eq (cutAt_none hn)]
    unfold distOf
    rw [dec_plain, dec_val, show b / 6000 * 6000 + (if false = true then digVal [] else 0) = b by simp; omega]
    rfl
  · rw [distAbs_part h0, distSpec_eq (cutAt_mid hn)]
    unfold distOf
    have e1 : (Lib.decDigits (b % 6000) == [48]) = false := by
      rw [beq_eq_false_iff_ne]
      intro e
      have := dec_val (b % 6000)
      rw [e] at this
      exact h0 this.symm
    have hl4 : ∀ n : Nat, n < 10000 → (Lib.decDigits n).length ≤ 4 := by
      intro n hn
      by_cases h1 : n < 10
      · rw [decDigits_small h1]; simp
      · rw [decDigits_big h1, List.length_append, List.length_singleton]
        by_cases h2 : n / 10 < 10
        · rw [decDigits_small h2]; simp
        · rw [decDigits_big h2, List.length_append, List.length_singleton]
          by_cases h3 : n / 10 / 10 < 10
          · rw [decDigits_small h3]; simp
          · rw [decDigits_big h3, List.length_append, List.length_singleton, decDigits_small (by omega)]; simp
    rw [dec_plain, dec_plain, dec_val, dec_val, e1, decide_eq_true (hl4 _ (by omega)), decide_eq_true (by omega), show b / 6000 * 6000 + (if true = true then b % 6000 else 0) = b by simp; omega]
    rfl
theorem dist_back {d : Int} (h : distGood d = true) : distN (distSpec (distOut d)) = d ∧ distE (distSpec (distOut d)) = 0 := by
  rw [distSpec_out h]
  have hr := distGood_iff.1 h
  exact ⟨if_pos hr.2, if_pos hr.2⟩

set_option maxHeartbeats 400000 in
theorem distText_bad (a : Int) (w : World) (h : a < 0 ∨ 8000000 < a) :
    Calls Tryz.prog 35 #[.int .i64 a] w fun e w' => ∃ t, e = .returned (.tuple #[.string t, .int .i64 2]) ∧ Hid (bl t = []) ∧ w = w' := by
  have h' : a < 0 ∨ 0 ≤ a ∧ 8000000 < a := by omega
  clear h
  rcases h' with h | ⟨h, h2⟩
  all_goals
    go_enter Tryz.func35, Tryz.ntmps35
    go_wp2
    go_ret2
    exact ⟨_, rfl, rfl, rfl⟩
set_option maxHeartbeats 400000 in
theorem distText_good (b : Nat) (w : World) (h2 : b ≤ 8000000) (E : Env w) :
    Calls Tryz.prog 35 #[.int .i64 (b : Int)] w fun e w' => ∃ t, e = .returned (.tuple #[.string t, .int .i64 0]) ∧ Hid (bl t = distAbs b) ∧ Below w.heap.size w w' := by
  have q1 := Lib.hid (show (b : Int) / 6000 = ((b / 6000 : Nat) : Int) by omega)
  have q2 := Lib.hid (show (b : Int) % 6000 = ((b % 6000 : Nat) : Int) by omega)
  by_cases hk : b % 6000 = 0
  · have hk' : ((b : Int) % 6000 != 0) = false := by simp only [bne_eq_false_iff_eq]; omega
    have HK := Lib.hid hk; clear hk
    go_enter Tryz.func35, Tryz.ntmps35
    go_wp2_with fail
    rw [q1.out]
    refine (fmt10 (b / 6000) (by omega) _ E).mono ?_
    rintro e w1 ⟨t1, rfl, ht1, hs1, hb1⟩
    go_wp2_with fail
    go_ret2
    refine ⟨_, rfl, ?_, hb1⟩
    show bl t1 = _
    rw [ht1.out, distAbs_whole HK.out]
  · have hk' : ((b : Int) % 6000 != 0) = true := by rw [bne_iff_ne]; omega
    have HK := Lib.hid hk; clear hk
    go_enter Tryz.func35, Tryz.ntmps35
    go_wp2_with fail
    rw [q1.out]
    refine (fmt10 (b / 6000) (by omega) _ E).mono ?_
    rintro e w1 ⟨t1, rfl, ht1, hs1, hb1⟩
    go_wp2_with fail
    rw [q2.out]
    refine (fmt10 (b % 6000) (by omega) _ (E.below hb1)).mono ?_
    rintro e w2 ⟨t2, rfl, ht2, hs2, hb2⟩
    go_wp2_with fail
    go_ret2
    refine ⟨_, rfl, ?_, (Below.then_ hb1 hb2)⟩
    first | show bl (t1 ++ (⟨#[43]⟩ ++ t2)) = _ | show bl (t1 ++ ⟨#[43]⟩ ++ t2) = _
    simp only [bl_append, ht1.out, ht2.out, distAbs_part HK.out, bl_mk, List.cons_append, List.nil_append, List.append_assoc]
/-- DistText at every distance -/
theorem distText_any (a : Int) (w : World) (E : Env w) :
    Calls Tryz.prog 35 #[.int .i64 a] w fun e w' => ∃ t, e = .returned (.tuple #[.string t, .int .i64 (distErr a)]) ∧ Hid (bl t = distOut a) ∧ t.size ≤ 20000 ∧ Below w.heap.size w w' := by
  by_cases h : a < 0 ∨ 8000000 < a
  · have hg := dist_bad h
    rw [show distErr a = 2 by unfold distErr; rw [hg]; rfl]
    refine (distText_bad a w h).mono ?_
    rintro e w' ⟨t, he, ht, hw⟩
    exact ⟨t, he, by unfold distOut; rw [hg]; exact ht, by rw [str_size ht]; simp, (by subst hw; exact Below.refl _ _)⟩
  · have hg : distGood a = true := distGood_iff.2 (by omega)
    rw [show distErr a = 0 by unfold distErr; rw [hg]; rfl]
    obtain ⟨b, rfl⟩ := Int.eq_ofNat_of_zero_le (a := a) (by omega)
    refine (distText_good b w (by omega) E).mono ?_
    rintro e w' ⟨t, he, ht, hw⟩
    exact ⟨t, he, by unfold distOut; rw [hg]; exact ht, by rw [str_size ht]; exact distAbs_len (by omega), hw⟩
end Go.Proofs.YteojggbmkppjoaaGreatDoor
namespace Go.Proofs.YteojggbmkppjoaaGreatDoor
open Go.RowKit
set_option linter.unusedVariables false
set_option linter.unusedSimpArgs false

theorem distOf_plain {a b : List UInt8} {f : Bool} (h : plainB a = false) : distOf a b f = none := by unfold distOf; rw [h]; rfl
theorem distOf_part {a b : List UInt8} (h : plainB b = false ∨ b = [48] ∨ 4 < b.length ∨ 6000 ≤ digVal b) : distOf a b true = none := by
  unfold distOf
  rw [if_neg]
  simp only [Bool.and_eq_true, Bool.or_eq_true, Bool.not_eq_true', beq_eq_false_iff_ne, decide_eq_true_eq]
  rintro ⟨_, h2 | ⟨⟨⟨h2, h3⟩, h4⟩, h5⟩⟩
  · cases h2
  · rcases h with h | h | h | h
    · rw [h] at h2; cases h2
    · exact h3 h
    · omega
    · omega
theorem distOf_one {a b : List UInt8} (h : plainB a = true) : distOf a b false = some ((digVal a * 6000 : Nat) : Int) := by
  unfold distOf; rw [h]; simp
theorem distOf_two {a b : List UInt8} (h : plainB a = true) (h2 : plainB b = true) (h3 : b ≠ [48]) (h4 : b.length ≤ 4) (h5 : digVal b < 6000) : distOf a b true = some ((digVal a * 6000 + digVal b : Nat) : Int) := by
  unfold distOf
  have e : (b == [48]) = false := beq_eq_false_iff_ne.2 h3
  rw [h, h2, e, decide_eq_true h4, decide_eq_true h5]; rfl
def DistPost (s : ByteArray) (w : World) (e : Ending) (w' : World) : Prop :=
  e = .returned (.tuple #[.int .i64 (distN (distSpec (bl s))), .int .i64 (distE (distSpec (bl s)))]) ∧ Below w.heap.size w w'
theorem distPost {s : ByteArray} {n k : Int} {o : Option Int} {w w' : World} (ho : distSpec (bl s) = o) (h1 : distN o = n) (h2 : distE o = k) (hb : Below w.heap.size w w') :
    DistPost s w (.returned (.tuple #[.int .i64 n, .int .i64 k])) w' := by
  subst ho h1 h2; exact ⟨rfl, hb⟩
theorem dist_out {v : Int} (h : 8000000 < v) : distN (some v) = 0 ∧ distE (some v) = 2 := ⟨if_neg (by omega), if_neg (by omega)⟩
theorem dist_in {v : Int} (h : v ≤ 8000000) : distN (some v) = v ∧ distE (some v) = 0 := ⟨if_pos (by omega), if_pos (by omega)⟩
/-- what is left when the part behind the sign is known: k units -/
theorem dist_far {a : List UInt8} (hp : plainB a = true) (hl : 9 < a.length) (k : Nat) : distN (some ((digVal a * 6000 + k : Nat) : Int)) = 0 ∧ distE (some ((digVal a * 6000 + k : Nat) : Int)) = 2 := by
  have := digVal_big hp (by omega)
  exact dist_out (by omega)

theorem dist_far0 {a : List UInt8} (hp : plainB a = true) (hl : 9 < a.length) : distN (some ((digVal a * 6000 : Nat) : Int)) = 0 ∧ distE (some ((digVal a * 6000 : Nat) : Int)) = 2 := by
  have := digVal_big hp (by omega)
  exact dist_out (by omega)

set_option maxRecDepth 100000 in
set_option maxHeartbeats 1000000 in
theorem parseDist_any (s : ByteArray) (w : World) (E : Env w) (hs : s.size ≤ 140737488351232) :
    Calls Tryz.prog 98 #[.string s] w (DistPost s w) := by
  go_enter Tryz.func98, Tryz.ntmps98
  go_wp2_with fail
  refine (cut1 s 43 _ E (by omega)).mono ?_
  rintro e w1 ⟨a, b, f, rfl, hcut, has, hbs, hb1⟩
  have hspec := Lib.hid (distSpec_eq hcut.out)
  have E1 := E.below hb1
  go_wp2_with fail
  refine (plain_any a _ (by unfold maxLen; omega)).mono ?_
  rintro e w' ⟨rfl, rfl⟩
  rcases hp : plainB (bl a) with _ | _
  · have HP := Lib.hid hp; clear hp
    go_wp2
    go_ret2
    exact distPost (hspec.out.trans (distOf_plain HP.out)) rfl rfl hb1
  have HP := Lib.hid hp; clear hp
  have hlen : a.size ≤ 9 ∨ 9 < a.size := by omega
  cases f
  · have hv := Lib.hid (hspec.out.trans (distOf_one HP.out))
    rcases hlen with hlen | hlen
    · go_wp2_with fail
      refine (parseInt_ok a _ (plainB_parts HP.out).1 (plainB_parts HP.out).2.2 (by omega)).mono ?_
      rintro e w2 ⟨n, rfl, hn, hn18, hb2⟩
      have hn9 := short_val hn.out (plainB_parts HP.out).2.2 (by omega)
      have hb := Below.then_ hb1 hb2
      by_cases hbig : 8000000 < (n : Int) * 6000
      · go_wp2
        go_ret2
        have hq := dist_out (v := ((digVal (bl a) * 6000 : Nat) : Int)) (by have := hn.out; omega)
        exact distPost hv.out hq.1 hq.2 hb
      · have hbig : (n : Int) * 6000 ≤ 8000000 := by omega
        go_wp2
        go_ret2
        have hq := dist_in (v := ((digVal (bl a) * 6000 : Nat) : Int)) (by have := hn.out; omega)
        exact distPost hv.out (hq.1.trans (by have := hn.out; omega)) hq.2 hb
    · go_wp2
      go_ret2
      have hq := dist_far0 HP.out (show 9 < (bl a).length from hlen)
      exact distPost hv.out hq.1 hq.2 hb1
  · go_wp2_with fail
    refine (plain_any b _ (by unfold maxLen; omega)).mono ?_
    rintro e w' ⟨rfl, rfl⟩
    rcases hp2 : plainB (bl b) with _ | _
    · have HP2 := Lib.hid hp2; clear hp2
      go_wp2
      go_ret2
      exact distPost (hspec.out.trans (distOf_part (.inl HP2.out))) rfl rfl hb1
    have HP2 := Lib.hid hp2; clear hp2
    by_cases hz : bl b = [48]
    · have e1 : (b.toList == [48]) = true := by rw [bl_toList, hz]; rfl
      have HZ := Lib.hid hz; clear hz
      go_wp2
      go_ret2
      exact distPost (hspec.out.trans (distOf_part (.inr (.inl HZ.out)))) rfl rfl hb1
    have e1 : (b.toList == [48]) = false := by rw [bl_toList, beq_eq_false_iff_ne]; exact hz
    have HZ := Lib.hid hz; clear hz
    by_cases h4 : 4 < b.size
    · have h4' : (4 : Int) < (b.size : Int) := by omega
      go_wp2
      go_ret2
      exact distPost (hspec.out.trans (distOf_part (.inr (.inr (.inl h4))))) rfl rfl hb1
    have h4' : (b.size : Int) ≤ 4 := by omega
    go_wp2_with fail
    refine (parseInt_ok b _ (plainB_parts HP2.out).1 (plainB_parts HP2.out).2.2 (by omega)).mono ?_
    rintro e w2 ⟨k, rfl, hk, hk18, hb2⟩
    have E2 := E1.below hb2
    have hbb := Below.then_ hb1 hb2
    have hk9 := short_val hk.out (plainB_parts HP2.out).2.2 (by omega)
    by_cases h6 : (6000 : Int) ≤ (k : Int)
    · go_wp2
      go_ret2
      exact distPost (hspec.out.trans (distOf_part (.inr (.inr (.inr (by have := hk.out; omega)))))) rfl rfl hbb
    have h6' : (k : Int) < 6000 := by omega
    have hv := Lib.hid (hspec.out.trans (distOf_two HP.out HP2.out HZ.out (show (bl b).length ≤ 4 by rw [bl_len]; omega) (by have := hk.out; omega)))
    clear h6
    rcases hlen with hlen | hlen
    · go_wp2_with fail
      refine (parseInt_ok a _ (plainB_parts HP.out).1 (plainB_parts HP.out).2.2 (by omega)).mono ?_
      rintro e w3 ⟨n, rfl, hn, hn18, hb3⟩
      have hn9 := short_val hn.out (plainB_parts HP.out).2.2 (by omega)
      have hb := Below.then_ hbb hb3
      by_cases hbig : 8000000 < (n : Int) * 6000 + (k : Int)
      · go_wp2
        go_ret2
        have hq := dist_out (v := ((digVal (bl a) * 6000 + digVal (bl b) : Nat) : Int)) (by have := hn.out; have := hk.out; omega)
        exact distPost hv.out hq.1 hq.2 hb
      · have hbig : (n : Int) * 6000 + (k : Int) ≤ 8000000 := by omega
        go_wp2
        go_ret2
        have hq := dist_in (v := ((digVal (bl a) * 6000 + digVal (bl b) : Nat) : Int)) (by have := hn.out; have := hk.out; omega)
        exact distPost hv.out (hq.1.trans (by have := hn.out; have := hk.out; omega)) hq.2 hb
    · go_wp2
      go_ret2
      have hq := dist_far HP.out (show 9 < (bl a).length from hlen) (digVal (bl b))
      exact distPost hv.out hq.1 hq.2 hbb

/-! ### the reference -/
theorem cut_now {s : ByteArray} {j : Nat} (c : UInt8) (hj : j < s.size) (h : s[j] = c) (hn : c ∉ (bl s).take j) : cutAt c (bl s) = (bl (s.extract 0 j), bl (s.extract (j + 1) s.size), true) := by
  have hj' : j < (bl s).length := hj
  have h5 := List.drop_eq_getElem_cons hj'
  rw [show (bl s)[j]'hj' = c from h] at h5
  have e : bl s = (bl s).take j ++ c :: (bl s).drop (j + 1) := by rw [← h5, List.take_append_drop]
  rw [bl_extract, bl_extract, List.drop_zero, Nat.sub_zero, List.take_of_length_le (l := (bl s).drop (j + 1)) (by rw [List.length_drop, bl_len]; omega)]
  conv => lhs; rw [e]
  rw [cutAt_mid hn]
theorem notin_more {s : ByteArray} {j : Nat} {c : UInt8} (hj : j < s.size) (h : s[j] ≠ c) (hn : c ∉ (bl s).take j) : c ∉ (bl s).take (j + 1) := by
  rw [List.take_succ_eq_append_getElem (show j < (bl s).length from hj), List.mem_append, List.mem_singleton]
  rintro (e | e)
  · exact hn e
  · exact h e.symm
theorem pd_ways {s : ByteArray} {j : Nat} {mv av bv : Value} (hst : (mv = .bool false ∧ av = .string s ∧ bv = .string ⟨#[]⟩ ∧ Hid ((43 : UInt8) ∉ (bl s).take j)) ∨ (∃ a b : ByteArray, mv = .bool true ∧ av = .string a ∧ bv = .string b ∧ a.size ≤ s.size ∧ b.size ≤ s.size ∧ Hid (cutAt 43 (bl s) = (bl a, bl b, true)))) (hj : s.size ≤ j) :
    ∃ (f : Bool) (a b : ByteArray), mv = .bool f ∧ av = .string a ∧ bv = .string b ∧ a.size ≤ s.size ∧ b.size ≤ s.size ∧ Hid (cutAt 43 (bl s) = (bl a, bl b, f)) := by
  rcases hst with ⟨e1, e2, e3, hno⟩ | ⟨a, b, e1, e2, e3, ha, hb, hcut⟩
  · have hn := hno.out
    rw [List.take_of_length_le (by rw [bl_len]; omega)] at hn
    exact ⟨false, s, ⟨#[]⟩, e1, e2, e3, Nat.le_refl _, Nat.zero_le _, cutAt_none hn⟩
  · exact ⟨true, a, b, e1, e2, e3, ha, hb, hcut⟩
end Go.Proofs.YteojggbmkppjoaaGreatDoor
namespace Go.Proofs.YteojggbmkppjoaaGreatDoor
open Go.RowKit
set_option linter.unusedVariables false
set_option linter.unusedSimpArgs false

theorem infoField : (Tryz.prog.info? 102).map (fun i => (i.zero, i.size, i.bytes)) = some (some (.agg #[.string ⟨#[]⟩, .int .i64 0]), 2, 24) := by kernel_rfl

def SplitPost (s : ByteArray) (w : World) (e : Ending) (w' : World) : Prop :=
  ∃ v, e = .returned (.tuple #[v, .int .i64 (splitCol (bl s)), .int .i64 (splitErr (bl s))]) ∧ RdT w' 102 2 v (splitF (bl s)).length (fcells (splitF (bl s))) ∧ Below w.heap.size w w'
theorem splitPost {s : ByteArray} {w w' : World} {v : Value} {c e : Int} {fs : List Fld} (h1 : c = splitCol (bl s)) (h2 : e = splitErr (bl s)) (h3 : fs = splitF (bl s)) (hr : RdT w' 102 2 v fs.length (fcells fs)) (hb : Below w.heap.size w w') :
    SplitPost s w (.returned (.tuple #[v, .int .i64 c, .int .i64 e])) w' := by
  subst h1 h2 h3; exact ⟨v, rfl, hr, hb⟩
set_option maxHeartbeats 400000 in
theorem split_longC (s : ByteArray) (w : World) (h : 200 < s.size) (hs : s.size ≤ maxLen) :
    Calls Tryz.prog 36 #[.string s] w (SplitPost s w) := by
  unfold maxLen at hs
  have h1 : (200 : Int) < (s.size : Int) := by omega
  have H := Lib.hid (split_long (l := bl s) h)
  go_enter Tryz.func36, Tryz.ntmps36
  go_wp2
  go_ret3
  exact splitPost H.out.2.1.symm H.out.2.2.symm H.out.1.symm (RdT.nil _ _ _) (Below.refl _ _)
theorem drop_cons {a : ByteArray} {j : Nat} (h : j < a.size) : (bl a).drop j = a[j] :: (bl a).drop (j + 1) := List.drop_eq_getElem_cons (l := bl a) h
theorem u8_32 {c : UInt8} (h : (c.toNat : Int) = 32) : c = 32 := (u8_eq (n := 32) (by omega)).1 (by omega)
theorem take_ext {a : ByteArray} {j q : Nat} : ((bl a).drop j).take (q - j) = bl (a.extract j q) := (bl_extract a j q).symm
theorem nb_step {a : ByteArray} {j q : Nat} (hjq : j ≤ q) (h : q < a.size) (hnb : ∀ c ∈ ((bl a).drop j).take (q - j), c ≠ 32) (e : ((a[q].toNat : Int) != 32) = true) : ∀ c ∈ ((bl a).drop j).take (q + 1 - j), c ≠ 32 := by
  have hl : q - j < ((bl a).drop j).length := by rw [List.length_drop, bl_len]; omega
  rw [show q + 1 - j = (q - j) + 1 by omega, List.take_succ_eq_append_getElem hl]
  intro c hc
  rw [List.mem_append] at hc
  rcases hc with hc | hc
  · exact hnb c hc
  · rw [List.mem_singleton] at hc
    have h3 : ((bl a).drop j)[q - j]? = some a[q] := by rw [List.getElem?_drop, show j + (q - j) = q by omega, bl_get? a q h]
    rw [List.getElem?_eq_getElem hl, ← hc, Option.some.injEq] at h3
    rw [h3]
    intro e2
    rw [e2] at e
    exact absurd e (by decide)
theorem token_at {a : ByteArray} {j q : Nat} (hjq : j ≤ q) (hq : q ≤ a.size) (hne : j ≠ q) (hnb : ∀ c ∈ ((bl a).drop j).take (q - j), c ≠ 32) (he : (∃ h : q < a.size, (a[q].toNat : Int) = 32) ∨ a.size ≤ q) :
    j < q ∧ fieldsGo [] 0 j ((bl a).drop j) = (bl (a.extract j q), j + 1) :: fieldsGo [] 0 q ((bl a).drop q) := by
  refine ⟨by omega, ?_⟩
  have hs : (bl a).drop j = ((bl a).drop j).take (q - j) ++ (bl a).drop q := by
    conv => lhs; rw [← List.take_append_drop (q - j) ((bl a).drop j)]
    rw [List.drop_drop, show j + (q - j) = q by omega]
  have hl : (((bl a).drop j).take (q - j)).length = q - j := by rw [List.length_take, List.length_drop, bl_len]; omega
  have h0 : ((bl a).drop j).take (q - j) ≠ [] := by
    intro e; rw [e] at hl; simp at hl; omega
  have hend : (bl a).drop q = [] ∨ ((bl a).drop q).head? = some 32 := by
    rcases he with ⟨h, e⟩ | h
    · right; rw [drop_cons h, u8_32 e]; rfl
    · left; exact List.drop_eq_nil_of_le (by rw [bl_len]; omega)
  rw [hs, fieldsGo_start _ _ _ _ h0 hnb, fieldsGo_end _ _ _ _ h0 hend, hl, take_ext, show j + (q - j) = q by omega]
/-- what an append of a field does to what is owned -/
theorem field_step {base : Nat} {w0 wr w' : World} {v v' : Value} {e : TypeId} {done : List Fld} {t : ByteArray} {j : Nat} {o : Obj}
    (hlt : ∀ k, v.ownBlock = some k → base ≤ k ∧ k < wr.heap.size) (hb : Below base w0 wr) (hown' : w'.ownsRow base e 2 v' (done.length + 1) (fcells done ++ [.string t, .int .i64 ((j : Int) + 1)])) (hg : (wr.alloc o).grownBy w' v.ownBlock) (hB : base ≤ wr.heap.size) :
    w'.ownsRow base e 2 v' (done ++ [(bl t, j + 1)]).length (fcells (done ++ [(bl t, j + 1)])) ∧ Below base w0 w' := by
  refine ⟨?_, (hb.alloc hB o).grown hg (by simp; omega) (fun k hk => (hlt k hk).1)⟩
  rw [fcells_snoc, sb_bl, List.length_append]
  exact hown'
set_option maxRecDepth 100000 in
set_option maxHeartbeats 1000000 in
theorem split_short (s : ByteArray) (w : World) (E : Env w) (hs : s.size ≤ 200) :
    Calls Tryz.prog 36 #[.string s] w (SplitPost s w) := by
  have h1 : (s.size : Int) ≤ 200 := by omega
  obtain ⟨i0, hi, hz0, hz1, hz2⟩ := info_parts infoField
  go_enter Tryz.func36, Tryz.ntmps36
  go_wp2
  go_loop [14] (fun i => ∃ k : Nat, k ≤ s.size ∧ i = .int .i64 k ∧ Hid (((bl s).take k).all okC = true)) (fun i => s.size - (intOf i).toNat)
  case atStart => exact ⟨0, Nat.zero_le _, rfl, rfl⟩
  case round =>
    obtain ⟨k, hk, rfl, hall⟩ := hrel
    by_cases h : k < s.size
    · have hc : ((32 : Int) ≤ (s[k].toNat : Int) ∧ (s[k].toNat : Int) ≤ 126) ∨ ((s[k].toNat : Int) < 32) ∨ ((32 : Int) ≤ (s[k].toNat : Int) ∧ 126 < (s[k].toNat : Int)) := by omega
      rcases hc with ⟨c1, c2⟩ | c1 | ⟨c1, c2⟩
      · go_wp2
        go_round
        case rel => exact ⟨k + 1, h, by go_num, all_take_succ hall.out h (okC_yes c1 c2)⟩
        case measure => simp [intOf]; omega
      · have H := Lib.hid (split_bad (l := bl s) hs h hall.out (okC_no (.inl c1)))
        go_wp2
        go_ret3
        exact splitPost (by have := H.out.2.1; omega) H.out.2.2.symm H.out.1.symm (RdT.nil _ _ _) (Below.refl _ _)
      · have H := Lib.hid (split_bad (l := bl s) hs h hall.out (okC_no (.inr c2)))
        go_wp2
        go_ret3
        exact splitPost (by have := H.out.2.1; omega) H.out.2.2.symm H.out.1.symm (RdT.nil _ _ _) (Below.refl _ _)
    · have H := Lib.hid (split_ok (l := bl s) hs (all_take_all hall.out (by rw [bl_len]; omega)))
      clear hall
      go_wp2_with fail
      refine (cut1 s 35 _ E (by omega)).mono ?_
      rintro e w1 ⟨a, b, f, rfl, hcut, has, hbs, hb1⟩
      have hfl : Hid (fieldsL (bl s) = fieldsGo [] 0 0 (bl a)) := by unfold Hid fieldsL; rw [hcut.out]
      clear hcut
      go_wp2_with fail
      go_loopw [6, 7] (fun v i wr => ∃ (j : Nat) (done : List Fld), j ≤ a.size ∧ i = .int .i64 j ∧ done.length ≤ j ∧ wr.ownsRow w1.heap.size 102 2 v done.length (fcells done) ∧ Hid (fieldsL (bl s) = done ++ fieldsGo [] 0 j ((bl a).drop j)) ∧ Below w1.heap.size w1 wr) (fun _ i _ => a.size - (intOf i).toNat)
      case atStart => exact ⟨0, [], Nat.zero_le _, rfl, Nat.le_refl _, World.ownsRow_nil _ _ _ _, hfl.out, Below.refl _ _⟩
      case round =>
        obtain ⟨j, done, hj, rfl, hdl, hown, hrest, hbr⟩ := hrel
        by_cases hlt : j < a.size
        · by_cases hsp : (a[j].toNat : Int) = 32
          · have e1 : ((a[j].toNat : Int) == 32) = true := beq_iff_eq.2 hsp
            have HS := Lib.hid hsp
            clear hsp
            go_wp2
            go_roundw
            case rel => exact ⟨j + 1, done, hlt, by go_num, by omega, hown, by unfold Hid; rw [hrest.out, drop_cons hlt, u8_32 HS.out, fieldsGo_blank], hbr⟩
            case measure => simp [intOf]; omega
          · have e1 : ((a[j].toNat : Int) == 32) = false := beq_eq_false_iff_ne.2 hsp
            have HS := Lib.hid hsp
            clear hsp
            go_wp2
            go_loop [7] (fun i => ∃ q : Nat, j ≤ q ∧ q ≤ a.size ∧ i = .int .i64 q ∧ Hid (∀ c ∈ ((bl a).drop j).take (q - j), c ≠ 32)) (fun i => a.size - (intOf i).toNat)
            case atStart => exact ⟨j, Nat.le_refl _, hj, rfl, by unfold Hid; simp⟩
            case round =>
              obtain ⟨q, hjq, hq, rfl, hnb⟩ := hrel
              have hcase : (∃ h : q < a.size, Hid (((a[q].toNat : Int) != 32) = true)) ∨ ((∃ h : q < a.size, Hid (((a[q].toNat : Int) != 32) = false)) ∨ a.size ≤ q) ∧ Hid (j < q ∧ fieldsGo [] 0 j ((bl a).drop j) = (bl (a.extract j q), j + 1) :: fieldsGo [] 0 q ((bl a).drop q)) := by
                by_cases h : q < a.size
                · by_cases hb : (a[q].toNat : Int) = 32
                  · exact .inr ⟨.inl ⟨h, bne_eq_false_iff_eq.2 hb⟩, token_at hjq hq (fun e => by subst e; exact HS.out hb) hnb.out (.inl ⟨h, hb⟩)⟩
                  · exact .inl ⟨h, bne_iff_ne.2 hb⟩
                · exact .inr ⟨.inr (by omega), token_at hjq hq (by omega) hnb.out (.inr (by omega))⟩
              rcases hcase with ⟨h, e2⟩ | ⟨⟨h, e2⟩ | h, htok⟩
              · have e2 := e2.out
                go_wp2
                go_round
                case rel => exact ⟨q + 1, by omega, h, by go_num, nb_step hjq h hnb.out e2⟩
                case measure => simp [intOf]; omega
              all_goals try have e2 := Hid.out e2
              all_goals
                go_wp2_with (at_builtin; refine wpList_append_own _ rfl (.tmp 59) (.tmp 67) 67 rfl w1.heap.size 102 i0 (.agg #[.string ⟨#[]⟩, .int .i64 0]) 2 24 Tryz.underlying67 hi hz0 hz1 hz2 rfl (by decide) _ _ _ rfl (hown.alloc _) ⟨wr.heap.size, 0, none⟩ 1 1 [.string (a.extract j q), .int .i64 ((j : Int) + 1)] rfl rfl (cell_two_new _ _ _ _) (by intro u hu; simp at hu; rcases hu with rfl | rfl <;> rfl) (by unfold maxLen; omega) (by omega) (by have := hbr.size; simp; omega) ?_)
                intro v' w' hown' hgrow _
                have R := field_step hown.lt hbr hown' hgrow hbr.size
                clear hown hown' hgrow
                go_wp2
                go_roundw
                case rel => exact ⟨q, done ++ [(bl (a.extract j q), j + 1)], hq, rfl, by have := htok.out.1; simp; omega, R.1, by unfold Hid; rw [hrest.out, htok.out.2, List.append_assoc]; rfl, R.2⟩
                case measure => have := htok.out.1; simp [intOf]; omega
        · go_wp2
          go_ret3
          have hd : (bl a).drop j = [] := List.drop_eq_nil_of_le (by rw [bl_len]; omega)
          have hr2 := hrest.out
          rw [hd] at hr2
          exact splitPost H.out.2.1.symm H.out.2.2.symm (by rw [H.out.1, hr2]; simp [fieldsGo]) (RdT.of_own hown) (Below.then_ hb1 hbr)
theorem split_any (s : ByteArray) (w : World) (E : Env w) (hs : s.size ≤ maxLen) :
    Calls Tryz.prog 36 #[.string s] w (SplitPost s w) := by
  by_cases h : 200 < s.size
  · exact split_longC s w h hs
  · exact split_short s w E (by omega)
end Go.Proofs.YteojggbmkppjoaaGreatDoor
namespace Go.Proofs.YteojggbmkppjoaaGreatDoor
open Go.RowKit
set_option linter.unusedVariables false
set_option linter.unusedSimpArgs false

theorem cut35 (s : ByteArray) {a : List UInt8} (ha : a = (cutAt 35 (bl s)).1) : a.length ≤ s.size ∧ (∀ (k : Nat) (h : k < s.size), k < a.length → s[k].toNat ≠ 35 ∧ a.drop k = s[k] :: a.drop (k + 1)) ∧ (a.length = s.size ∨ ∃ h : a.length < s.size, s[a.length].toNat = 35) := by
  subst ha
  have hpre : ∃ r, bl s = (cutAt 35 (bl s)).1 ++ r ∧ (35 : UInt8) ∉ (cutAt 35 (bl s)).1 ∧ (r = [] ∨ r.head? = some 35) := by
    rcases cutAt_spec 35 (bl s) with ⟨_, h2, h3⟩ | ⟨_, h2, h3, _⟩
    · exact ⟨_, h2, h3, .inr rfl⟩
    · exact ⟨[], by rw [h3, List.append_nil], by rw [h3]; exact h2, .inl rfl⟩
  obtain ⟨r, h1, h2, h3⟩ := hpre
  generalize (cutAt 35 (bl s)).1 = a at h1 h2
  have hl : s.size = a.length + r.length := by rw [← bl_len, h1, List.length_append]
  refine ⟨by omega, fun k h hk => ?_, ?_⟩
  · have e : s[k] = a[k] := by
      have := bl_get? s k h
      rw [h1, List.getElem?_append_left hk, List.getElem?_eq_getElem hk, Option.some.injEq] at this
      exact this.symm
    refine ⟨fun h35 => h2 ?_, by rw [e]; exact List.drop_eq_getElem_cons hk⟩
    have : a[k] = 35 := by rw [← e]; exact (u8_eq (n := 35) (by omega)).1 h35
    rw [← this]; exact List.getElem_mem hk
  · rcases h3 with rfl | h3
    · left; simpa using hl.symm
    · right
      match r, h3 with
      | c :: r, h3 =>
        have hc : c = 35 := by simpa using h3
        have h : a.length < s.size := by simp only [List.length_cons] at hl; omega
        refine ⟨h, ?_⟩
        have := bl_get? s a.length h
        rw [h1, List.getElem?_append_right (Nat.le_refl _), Nat.sub_self, hc] at this
        simp only [List.getElem?_cons_zero, Option.some.injEq] at this
        rw [← this]; rfl

/-- the field that has begun, by the reference's number -/
def Begun (s : ByteArray) (k : Nat) (z : Int) (cur : List UInt8) (st : Nat) : Prop := (z = -1 ∧ cur = []) ∨ (z = (st : Int) ∧ st < k ∧ cur = bl (s.extract st k) ∧ cur ≠ [])
theorem extract_snoc {s : ByteArray} {st k : Nat} (h1 : st ≤ k) (h : k < s.size) : bl (s.extract st k) ++ [s[k]] = bl (s.extract st (k + 1)) := by
  rw [bl_extract, bl_extract, show k + 1 - st = (k - st) + 1 by omega]
  have hl : k - st < ((bl s).drop st).length := by rw [List.length_drop, bl_len]; omega
  rw [List.take_succ_eq_append_getElem hl]
  have h3 : ((bl s).drop st)[k - st]? = some s[k] := by rw [List.getElem?_drop, show st + (k - st) = k by omega, bl_get? s k h]
  rw [List.getElem?_eq_getElem hl, Option.some.injEq] at h3
  rw [h3]
theorem rsplit_char {s : ByteArray} {a : List UInt8} {k st : Nat} {cur : List UInt8} {z : Int} {all done : List Fld} (h : k < s.size) (hd : a.drop k = s[k] :: a.drop (k + 1)) (h32 : ¬ (s[k].toNat : Int) = 32)
    (hb : Begun s k z cur st) (hr : all = done ++ fieldsGo cur st k (a.drop k)) :
    ∃ st', Begun s (k + 1) (if z < 0 then (k : Int) else z) (cur ++ [s[k]]) st' ∧ all = done ++ fieldsGo (cur ++ [s[k]]) st' (k + 1) (a.drop (k + 1)) := by
  have hne : s[k] ≠ 32 := fun e => h32 (by rw [e]; rfl)
  rw [hd, fieldsGo, if_neg hne] at hr
  rcases hb with ⟨rfl, rfl⟩ | ⟨rfl, hlt, hc, hn⟩
  · rw [if_pos rfl] at hr
    refine ⟨k, .inr ⟨by rw [if_pos (by decide)], by omega, ?_, by simp⟩, hr⟩
    rw [← extract_snoc (Nat.le_refl k) h, bl_extract, Nat.sub_self]; rfl
  · rw [if_neg hn] at hr
    exact ⟨st, .inr ⟨by rw [if_neg (by omega)], by omega, by rw [hc]; exact extract_snoc (by omega) h, by simp⟩, hr⟩
/-- what is left behind a field's end -/
theorem rsplit_blank {s : ByteArray} {a : List UInt8} {k st : Nat} {cur : List UInt8} {all done : List Fld} (h : k < s.size) (hd : a.drop k = s[k] :: a.drop (k + 1)) (h32 : (s[k].toNat : Int) = 32)
    (hr : all = done ++ fieldsGo cur st k (a.drop k)) : (cur = [] → all = done ++ fieldsGo [] 0 (k + 1) (a.drop (k + 1))) ∧ (cur ≠ [] → all = (done ++ [(cur, st + 1)]) ++ fieldsGo [] 0 (k + 1) (a.drop (k + 1))) := by
  rw [hd, u8_32 h32, fieldsGo, if_pos rfl] at hr
  constructor
  · intro e; rw [if_pos e] at hr; exact hr
  · intro e; rw [if_neg e] at hr; rw [hr, List.append_assoc]; rfl
theorem rsplit_last {a : List UInt8} {k st : Nat} {cur : List UInt8} {all done : List Fld} (hk : a.length ≤ k) (hr : all = done ++ fieldsGo cur st k (a.drop k)) : (cur = [] → all = done) ∧ (cur ≠ [] → all = done ++ [(cur, st + 1)]) := by
  rw [List.drop_eq_nil_of_le hk, fieldsGo] at hr
  constructor
  · intro e; rw [if_pos e, List.append_nil] at hr; exact hr
  · intro e; rw [if_neg e] at hr; exact hr

end Go.Proofs.YteojggbmkppjoaaGreatDoor
