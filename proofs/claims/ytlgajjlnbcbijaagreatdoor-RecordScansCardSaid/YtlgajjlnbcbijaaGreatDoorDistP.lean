/-
  Contracts: distances read from texts: ParseDist of both sides.
-/
import Derived.Test.YtlgajjlnbcbijaaGreatDoorDistT
import Derived.Test.YtlgajjlnbcbijaaGreatDoorRefT
namespace Go.Proofs.YtlgajjlnbcbijaaGreatDoor
open Go.RowKit
set_option linter.unusedVariables false
set_option linter.unusedSimpArgs false

theorem distOf_plain {a b : List UInt8} {f : Bool} (h : plainB a = false) : distOf a b f = none := by unfold distOf; rw [h]; rfl
theorem distOf_part {a b : List UInt8} (h : plainB b = false ∨ b = [48] ∨ 4 < b.length ∨ 6000 ≤ digVal b) : distOf a b true = none := by
  unfold distOf
  rw [if_neg]
  simp only [Bool.and_eq_true, Bool.or_eq_true, Bool.not_eq_true', beq_eq_false_iff_ne, decide_eq_true_eq]
  rintro ⟨_, h2 | ⟨⟨⟨h2, h3⟩, h4⟩, h5⟩⟩
  · cases h2
  · rcases h with h | h | h | h
    · rw [h] at h2; cases h2
    · exact h3 h
    · omega
    · omega
theorem distOf_one {a b : List UInt8} (h : plainB a = true) : distOf a b false = some ((digVal a * 6000 : Nat) : Int) := by
  unfold distOf; rw [h]; simp
theorem distOf_two {a b : List UInt8} (h : plainB a = true) (h2 : plainB b = true) (h3 : b ≠ [48]) (h4 : b.length ≤ 4) (h5 : digVal b < 6000) : distOf a b true = some ((digVal a * 6000 + digVal b : Nat) : Int) := by
  unfold distOf
  have e : (b == [48]) = false := beq_eq_false_iff_ne.2 h3
  rw [h, h2, e, decide_eq_true h4, decide_eq_true h5]; rfl
def DistPost (s : ByteArray) (w : World) (e : Ending) (w' : World) : Prop :=
  e = .returned (.tuple #[.int .i64 (distN (distSpec (bl s))), .int .i64 (distE (distSpec (bl s)))]) ∧ Below w.heap.size w w'
theorem distPost {s : ByteArray} {n k : Int} {o : Option Int} {w w' : World} (ho : distSpec (bl s) = o) (h1 : distN o = n) (h2 : distE o = k) (hb : Below w.heap.size w w') :
    DistPost s w (.returned (.tuple #[.int .i64 n, .int .i64 k])) w' := by
  subst ho h1 h2; exact ⟨rfl, hb⟩
theorem dist_out {v : Int} (h : 8000000 < v) : distN (some v) = 0 ∧ distE (some v) = 2 := ⟨if_neg (by omega), if_neg (by omega)⟩
theorem dist_in {v : Int} (h : v ≤ 8000000) : distN (some v) = v ∧ distE (some v) = 0 := ⟨if_pos (by omega), if_pos (by omega)⟩
/-- what is left when the part behind the sign is known: k units -/
theorem dist_far {a : List UInt8} (hp : plainB a = true) (hl : 9 < a.length) (k : Nat) : distN (some ((digVal a * 6000 + k : Nat) : Int)) = 0 ∧ distE (some ((digVal a * 6000 + k : Nat) : Int)) = 2 := by
  have := digVal_big hp (by omega)
  exact dist_out (by omega)

theorem dist_far0 {a : List UInt8} (hp : plainB a = true) (hl : 9 < a.length) : distN (some ((digVal a * 6000 : Nat) : Int)) = 0 ∧ distE (some ((digVal a * 6000 : Nat) : Int)) = 2 := by
  have := digVal_big hp (by omega)
  exact dist_out (by omega)

set_option maxRecDepth 100000 in
set_option maxHeartbeats 1000000 in
theorem parseDist_any (s : ByteArray) (w : World) (E : Env w) (hs : s.size ≤ 140737488351232) :
    Calls Tryz.prog 115 #[.string s] w (DistPost s w) := by
  go_enter Tryz.func115, Tryz.ntmps115
  go_wp2_with fail
  refine (cut1 s 43 _ E (by omega)).mono ?_
  rintro e w1 ⟨a, b, f, rfl, hcut, has, hbs, hb1⟩
  have hspec := Lib.hid (distSpec_eq hcut.out)
  have E1 := E.below hb1
  go_wp2_with fail
  refine (plain_any a _ (by unfold maxLen; omega)).mono ?_
  rintro e w' ⟨rfl, rfl⟩
  rcases hp : plainB (bl a) with _ | _
  · have HP := Lib.hid hp; clear hp
    go_wp2
    go_ret2
    exact distPost (hspec.out.trans (distOf_plain HP.out)) rfl rfl hb1
  have HP := Lib.hid hp; clear hp
  have hlen : a.size ≤ 9 ∨ 9 < a.size := by omega
  cases f
  · have hv := Lib.hid (hspec.out.trans (distOf_one HP.out))
    rcases hlen with hlen | hlen
    · go_wp2_with fail
      refine (parseInt_ok a _ (plainB_parts HP.out).1 (plainB_parts HP.out).2.2 (by omega)).mono ?_
      rintro e w2 ⟨n, rfl, hn, hn18, hb2⟩
      have hn9 := short_val hn.out (plainB_parts HP.out).2.2 (by omega)
      have hb := Below.then_ hb1 hb2
      by_cases hbig : 8000000 < (n : Int) * 6000
      · go_wp2
        go_ret2
        have hq := dist_out (v := ((digVal (bl a) * 6000 : Nat) : Int)) (by have := hn.out; omega)
        exact distPost hv.out hq.1 hq.2 hb
      · have hbig : (n : Int) * 6000 ≤ 8000000 := by omega
        go_wp2
        go_ret2
        have hq := dist_in (v := ((digVal (bl a) * 6000 : Nat) : Int)) (by have := hn.out; omega)
        exact distPost hv.out (hq.1.trans (by have := hn.out; omega)) hq.2 hb
    · go_wp2
      go_ret2
      have hq := dist_far0 HP.out (show 9 < (bl a).length from hlen)
      exact distPost hv.out hq.1 hq.2 hb1
  · go_wp2_with fail
    refine (plain_any b _ (by unfold maxLen; omega)).mono ?_
    rintro e w' ⟨rfl, rfl⟩
    rcases hp2 : plainB (bl b) with _ | _
    · have HP2 := Lib.hid hp2; clear hp2
      go_wp2
      go_ret2
      exact distPost (hspec.out.trans (distOf_part (.inl HP2.out))) rfl rfl hb1
    have HP2 := Lib.hid hp2; clear hp2
    by_cases hz : bl b = [48]
    · have e1 : (b.toList == [48]) = true := by rw [bl_toList, hz]; rfl
      have HZ := Lib.hid hz; clear hz
      go_wp2
      go_ret2
      exact distPost (hspec.out.trans (distOf_part (.inr (.inl HZ.out)))) rfl rfl hb1
    have e1 : (b.toList == [48]) = false := by rw [bl_toList, beq_eq_false_iff_ne]; exact hz
    have HZ := Lib.hid hz; clear hz
    by_cases h4 : 4 < b.size
    · have h4' : (4 : Int) < (b.size : Int) := by omega
      go_wp2
      go_ret2
      exact distPost (hspec.out.trans (distOf_part (.inr (.inr (.inl h4))))) rfl rfl hb1
    have h4' : (b.size : Int) ≤ 4 := by omega
    go_wp2_with fail
    refine (parseInt_ok b _ (plainB_parts HP2.out).1 (plainB_parts HP2.out).2.2 (by omega)).mono ?_
    rintro e w2 ⟨k, rfl, hk, hk18, hb2⟩
    have E2 := E1.below hb2
    have hbb := Below.then_ hb1 hb2
    have hk9 := short_val hk.out (plainB_parts HP2.out).2.2 (by omega)
    by_cases h6 : (6000 : Int) ≤ (k : Int)
    · go_wp2
      go_ret2
      exact distPost (hspec.out.trans (distOf_part (.inr (.inr (.inr (by have := hk.out; omega)))))) rfl rfl hbb
    have h6' : (k : Int) < 6000 := by omega
    have hv := Lib.hid (hspec.out.trans (distOf_two HP.out HP2.out HZ.out (show (bl b).length ≤ 4 by rw [bl_len]; omega) (by have := hk.out; omega)))
    clear h6
    rcases hlen with hlen | hlen
    · go_wp2_with fail
      refine (parseInt_ok a _ (plainB_parts HP.out).1 (plainB_parts HP.out).2.2 (by omega)).mono ?_
      rintro e w3 ⟨n, rfl, hn, hn18, hb3⟩
      have hn9 := short_val hn.out (plainB_parts HP.out).2.2 (by omega)
      have hb := Below.then_ hbb hb3
      by_cases hbig : 8000000 < (n : Int) * 6000 + (k : Int)
      · go_wp2
        go_ret2
        have hq := dist_out (v := ((digVal (bl a) * 6000 + digVal (bl b) : Nat) : Int)) (by have := hn.out; have := hk.out; omega)
        exact distPost hv.out hq.1 hq.2 hb
      · have hbig : (n : Int) * 6000 + (k : Int) ≤ 8000000 := by omega
        go_wp2
        go_ret2
        have hq := dist_in (v := ((digVal (bl a) * 6000 + digVal (bl b) : Nat) : Int)) (by have := hn.out; have := hk.out; omega)
        exact distPost hv.out (hq.1.trans (by have := hn.out; have := hk.out; omega)) hq.2 hb
    · go_wp2
      go_ret2
      have hq := dist_far HP.out (show 9 < (bl a).length from hlen) (digVal (bl b))
      exact distPost hv.out hq.1 hq.2 hbb

/-! ### the reference -/
theorem cut_now {s : ByteArray} {j : Nat} (c : UInt8) (hj : j < s.size) (h : s[j] = c) (hn : c ∉ (bl s).take j) : cutAt c (bl s) = (bl (s.extract 0 j), bl (s.extract (j + 1) s.size), true) := by
  have hj' : j < (bl s).length := hj
  have h5 := List.drop_eq_getElem_cons hj'
  rw [show (bl s)[j]'hj' = c from h] at h5
  have e : bl s = (bl s).take j ++ c :: (bl s).drop (j + 1) := by rw [← h5, List.take_append_drop]
  rw [bl_extract, bl_extract, List.drop_zero, Nat.sub_zero, List.take_of_length_le (l := (bl s).drop (j + 1)) (by rw [List.length_drop, bl_len]; omega)]
  conv => lhs; rw [e]
  rw [cutAt_mid hn]
theorem notin_more {s : ByteArray} {j : Nat} {c : UInt8} (hj : j < s.size) (h : s[j] ≠ c) (hn : c ∉ (bl s).take j) : c ∉ (bl s).take (j + 1) := by
  rw [List.take_succ_eq_append_getElem (show j < (bl s).length from hj), List.mem_append, List.mem_singleton]
  rintro (e | e)
  · exact hn e
  · exact h e.symm
theorem pd_ways {s : ByteArray} {j : Nat} {mv av bv : Value} (hst : (mv = .bool false ∧ av = .string s ∧ bv = .string ⟨#[]⟩ ∧ Hid ((43 : UInt8) ∉ (bl s).take j)) ∨ (∃ a b : ByteArray, mv = .bool true ∧ av = .string a ∧ bv = .string b ∧ a.size ≤ s.size ∧ b.size ≤ s.size ∧ Hid (cutAt 43 (bl s) = (bl a, bl b, true)))) (hj : s.size ≤ j) :
    ∃ (f : Bool) (a b : ByteArray), mv = .bool f ∧ av = .string a ∧ bv = .string b ∧ a.size ≤ s.size ∧ b.size ≤ s.size ∧ Hid (cutAt 43 (bl s) = (bl a, bl b, f)) := by
  rcases hst with ⟨e1, e2, e3, hno⟩ | ⟨a, b, e1, e2, e3, ha, hb, hcut⟩
  · have hn := hno.out
    rw [List.take_of_length_le (by rw [bl_len]; omega)] at hn
    exact ⟨false, s, ⟨#[]⟩, e1, e2, e3, Nat.le_refl _, Nat.zero_le _, cutAt_none hn⟩
  · exact ⟨true, a, b, e1, e2, e3, ha, hb, hcut⟩
set_option maxRecDepth 100000 in
set_option maxHeartbeats 2000000 in
theorem rparseDist_any (s : ByteArray) (w : World) (hs : s.size ≤ 140737488351232) :
    Calls Tryz.prog 169 #[.string s] w (DistPost s w) := by
  go_enter Tryz.func169, Tryz.ntmps169
  go_wp2
  go_loopw [4, 5, 6, 7] (fun av bv mv i wr => ∃ j : Nat, j ≤ s.size ∧ i = .int .i64 j ∧ Drew w wr ∧
    ((mv = .bool false ∧ av = .string s ∧ bv = .string ⟨#[]⟩ ∧ Hid ((43 : UInt8) ∉ (bl s).take j)) ∨ (∃ a b : ByteArray, mv = .bool true ∧ av = .string a ∧ bv = .string b ∧ a.size ≤ s.size ∧ b.size ≤ s.size ∧ Hid (cutAt 43 (bl s) = (bl a, bl b, true))))) (fun _ _ _ i _ => s.size - (intOf i).toNat)
  case atStart => exact ⟨0, Nat.zero_le _, rfl, Drew.refl _, .inl ⟨rfl, rfl, rfl, by unfold Hid; simp⟩⟩
  case round =>
    obtain ⟨j, hj, rfl, hbr, hst⟩ := hrel
    by_cases hjs : j < s.size
    · by_cases h43 : (s[j].toNat : Int) = 43
      · have e43 : ((s[j].toNat : Int) == 43) = true := beq_iff_eq.2 h43
        rcases hst with ⟨rfl, rfl, rfl, hno⟩ | ⟨a, b, rfl, rfl, rfl, ha, hb, hcut⟩
        · have HB := Lib.hid (cut_now 43 hjs ((u8_eq (n := 43) (by omega)).1 (by omega)) hno.out)
          have hsa : (s.extract 0 j).size ≤ s.size := by rw [ByteArray.size_extract]; omega
          have hsb : (s.extract (j + 1) s.size).size ≤ s.size := by rw [ByteArray.size_extract]; omega
          clear h43
          go_wp2
          go_quiet (fail)
          go_wp2
          go_roundw
          case rel => exact ⟨j + 1, hjs, by go_num, hbr.more _, .inr ⟨_, _, rfl, rfl, rfl, hsa, hsb, HB.out⟩⟩
          case measure => simp [intOf]; omega
        · clear h43
          go_wp2
          go_roundw
          case rel => exact ⟨j + 1, hjs, by go_num, hbr, .inr ⟨a, b, rfl, rfl, rfl, ha, hb, hcut⟩⟩
          case measure => simp [intOf]; omega
      · have e43 : ((s[j].toNat : Int) == 43) = false := beq_eq_false_iff_ne.2 h43
        rcases hst with ⟨rfl, rfl, rfl, hno⟩ | ⟨a, b, rfl, rfl, rfl, ha, hb, hcut⟩
        · have HN2 := Lib.hid (notin_more (c := 43) hjs (fun e => h43 (by rw [e]; rfl)) hno.out)
          clear h43
          go_wp2
          go_roundw
          case rel => exact ⟨j + 1, hjs, by go_num, hbr, .inl ⟨rfl, rfl, rfl, HN2.out⟩⟩
          case measure => simp [intOf]; omega
        · clear h43
          go_wp2
          go_roundw
          case rel => exact ⟨j + 1, hjs, by go_num, hbr, .inr ⟨a, b, rfl, rfl, rfl, ha, hb, hcut⟩⟩
          case measure => simp [intOf]; omega
    · have hjs2 : (s.size : Int) ≤ (j : Int) := by omega
      have hB := Lib.hid (hbr.below (b := w.heap.size))
      have hst2 := pd_ways hst (by omega)
      clear hst hbr
      obtain ⟨f, a, b, rfl, rfl, rfl, has, hbs, hcut⟩ := hst2
      have hspec := Lib.hid (distSpec_eq hcut.out)
      clear hcut
      go_wp2_with fail
      refine (rplain_any a _ (by unfold maxLen; omega)).mono ?_
      rintro e w' ⟨rfl, rfl⟩
      rcases hp : plainB (bl a) with _ | _
      · have HP := Lib.hid hp; clear hp
        go_wp2
        go_ret2
        exact distPost (hspec.out.trans (distOf_plain HP.out)) rfl rfl hB.out
      have HP := Lib.hid hp; clear hp
      have HD := Lib.hid (plainB_parts HP.out).2.2
      cases f
      · have hv := Lib.hid (hspec.out.trans (distOf_one HP.out))
        go_wp2_with fail
        refine (value_any a _ (by omega) HD).mono ?_
        rintro e w' ⟨n, ok, rfl, hok, rfl⟩
        rcases hok with ⟨rfl, hn, hle⟩ | ⟨rfl, hbig⟩
        · obtain ⟨m, hm⟩ : ∃ m : Nat, digVal (bl a) = m := ⟨_, rfl⟩
          rw [hm] at hn hle hv
          clear hm
          subst hn
          by_cases h8 : 8000000 < (m : Int)
          · go_wp2
            go_ret2
            have hq := dist_out (v := ((m * 6000 : Nat) : Int)) (by omega)
            exact distPost hv.out hq.1 hq.2 hB.out
          · have h8' : (m : Int) ≤ 8000000 := by omega
            clear h8
            by_cases h9 : 8000000 < (m : Int) * 6000
            · go_wp2
              go_ret2
              have hq := dist_out (v := ((m * 6000 : Nat) : Int)) (by omega)
              exact distPost hv.out hq.1 hq.2 hB.out
            · have h9' : (m : Int) * 6000 ≤ 8000000 := by omega
              clear h9
              go_wp2
              go_ret2
              have hq := dist_in (v := ((m * 6000 : Nat) : Int)) (by omega)
              exact distPost hv.out (hq.1.trans (by omega)) hq.2 hB.out
        · go_wp2
          go_ret2
          have hq := dist_out (v := ((digVal (bl a) * 6000 : Nat) : Int)) (by omega)
          exact distPost hv.out hq.1 hq.2 hB.out
      · go_wp2_with fail
        refine (rplain_any b _ (by unfold maxLen; omega)).mono ?_
        rintro e w' ⟨rfl, rfl⟩
        rcases hp2 : plainB (bl b) with _ | _
        · have HP2 := Lib.hid hp2; clear hp2
          go_wp2
          go_ret2
          exact distPost (hspec.out.trans (distOf_part (.inl HP2.out))) rfl rfl hB.out
        have HP2 := Lib.hid hp2; clear hp2
        have HD2 := Lib.hid (plainB_parts HP2.out).2.2
        by_cases hz : bl b = [48]
        · have e1 : (b.toList == [48]) = true := by rw [bl_toList, hz]; rfl
          have HZ := Lib.hid hz; clear hz
          go_wp2
          go_ret2
          exact distPost (hspec.out.trans (distOf_part (.inr (.inl HZ.out)))) rfl rfl hB.out
        have e1 : (b.toList == [48]) = false := by rw [bl_toList, beq_eq_false_iff_ne]; exact hz
        have HZ := Lib.hid hz; clear hz
        by_cases h4 : 4 < b.size
        · have h4' : (4 : Int) < (b.size : Int) := by omega
          go_wp2
          go_ret2
          exact distPost (hspec.out.trans (distOf_part (.inr (.inr (.inl h4))))) rfl rfl hB.out
        have h4' : (b.size : Int) ≤ 4 := by omega
        have hb9 : Hid (digVal (bl b) < 10000) := by
          have h1 := digVal_lt HD2.out
          have h2 : 10 ^ (bl b).length ≤ 10 ^ 4 := Nat.pow_le_pow_right (by decide) (by rw [bl_len]; omega)
          show digVal (bl b) < 10000
          omega
        go_wp2_with fail
        refine (value_any b _ (by omega) HD2).mono ?_
        rintro e w' ⟨n2, ok2, rfl, hok2, rfl⟩
        have hok3 : ∃ k : Nat, n2 = (k : Int) ∧ k < 10000 ∧ Hid (digVal (bl b) = k) := by
          rcases hok2 with ⟨_, hn, _⟩ | ⟨_, hbig⟩
          · exact ⟨_, hn, hb9.out, rfl⟩
          · have := hb9.out; omega
        clear hok2
        obtain ⟨k, rfl, hk9, hk⟩ := hok3
        by_cases h6 : (6000 : Int) ≤ (k : Int)
        · go_wp2
          go_ret2
          exact distPost (hspec.out.trans (distOf_part (.inr (.inr (.inr (by have := hk.out; omega)))))) rfl rfl hB.out
        have h6' : (k : Int) < 6000 := by omega
        have hv := Lib.hid (hspec.out.trans (distOf_two HP.out HP2.out HZ.out (show (bl b).length ≤ 4 by rw [bl_len]; omega) (by have := hk.out; omega)))
        rw [hk.out] at hv
        clear h6
        go_wp2_with fail
        refine (value_any a _ (by omega) HD).mono ?_
        rintro e w' ⟨n, ok, rfl, hok, rfl⟩
        rcases hok with ⟨rfl, hn, hle⟩ | ⟨rfl, hbig⟩
        · obtain ⟨m, hm⟩ : ∃ m : Nat, digVal (bl a) = m := ⟨_, rfl⟩
          rw [hm] at hn hle hv
          clear hm
          subst hn
          by_cases h8 : 8000000 < (m : Int)
          · go_wp2
            go_ret2
            have hq := dist_out (v := ((m * 6000 + k : Nat) : Int)) (by omega)
            exact distPost hv.out hq.1 hq.2 hB.out
          · have h8' : (m : Int) ≤ 8000000 := by omega
            clear h8
            by_cases h9 : 8000000 < (m : Int) * 6000 + (k : Int)
            · go_wp2
              go_ret2
              have hq := dist_out (v := ((m * 6000 + k : Nat) : Int)) (by omega)
              exact distPost hv.out hq.1 hq.2 hB.out
            · have h9' : (m : Int) * 6000 + (k : Int) ≤ 8000000 := by omega
              clear h9
              go_wp2
              go_ret2
              have hq := dist_in (v := ((m * 6000 + k : Nat) : Int)) (by omega)
              exact distPost hv.out (hq.1.trans (by omega)) hq.2 hB.out
        · go_wp2
          go_ret2
          have hq := dist_out (v := ((digVal (bl a) * 6000 + k : Nat) : Int)) (by omega)
          exact distPost hv.out hq.1 hq.2 hB.out
end Go.Proofs.YtlgajjlnbcbijaaGreatDoor
