/-
  Contracts: strings.Cut at one byte, at any string; references of fixes: SplitRef of both sides.
-/
import Derived.Test.YtgnnblkpjankgaaGreatDoorCut
namespace Go.Proofs.YtgnnblkpjankgaaGreatDoor
open Go.RowKit
set_option linter.unusedVariables false
set_option linter.unusedSimpArgs false

/-! ### regions of two letters or digits -/
def shortB (l : List UInt8) : Bool := l.length == 2 && l.all nameC
theorem shortB_len {s : ByteArray} (h : ¬ s.size = 2) : shortB (bl s) = false := by
  unfold shortB
  have : ((bl s).length == 2) = false := by rw [beq_eq_false_iff_ne]; exact h
  rw [this]; rfl
theorem shortB_of {s : ByteArray} (h : s.size = 2) : shortB (bl s) = (bl s).all nameC := by
  unfold shortB
  have : ((bl s).length == 2) = true := by rw [beq_iff_eq]; exact h
  rw [this]; rfl
theorem short_no {s : ByteArray} {k : Nat} (h2 : s.size = 2) (hk : k < s.size) (h : (s[k].toNat : Int) < 65 ∨ 90 < (s[k].toNat : Int)) (h' : (s[k].toNat : Int) < 48 ∨ 57 < (s[k].toNat : Int)) : false = shortB (bl s) := by
  rw [shortB_of h2, all_false_at (l := bl s) (k := k) hk (nameC_no h h')]
theorem nameC_ways (c : UInt8) : (Hid (nameC c = true) ∧ ((65 ≤ (c.toNat : Int) ∧ (c.toNat : Int) ≤ 90) ∨ ((c.toNat : Int) < 65 ∧ 48 ≤ (c.toNat : Int) ∧ (c.toNat : Int) ≤ 57))) ∨
    (Hid (nameC c = false) ∧ (((c.toNat : Int) < 65 ∧ (c.toNat : Int) < 48) ∨ ((c.toNat : Int) < 65 ∧ 48 ≤ (c.toNat : Int) ∧ 57 < (c.toNat : Int)) ∨ (65 ≤ (c.toNat : Int) ∧ 90 < (c.toNat : Int) ∧ 48 ≤ (c.toNat : Int) ∧ 57 < (c.toNat : Int)))) := by
  by_cases h : (65 ≤ (c.toNat : Int) ∧ (c.toNat : Int) ≤ 90) ∨ (48 ≤ (c.toNat : Int) ∧ (c.toNat : Int) ≤ 57)
  · exact .inl ⟨nameC_yes h, by omega⟩
  · exact .inr ⟨nameC_no (by omega) (by omega), by omega⟩
set_option maxHeartbeats 1000000 in
theorem short_any (s : ByteArray) (w : World) (hs : s.size ≤ maxLen) :
    Calls Tryz.prog 114 #[.string s] w fun e w' => e = .returned (.bool (shortB (bl s))) ∧ w = w' := by
  unfold maxLen at hs
  by_cases h2 : s.size = 2
  · have H2 := Lib.hid h2
    have e2 : ((s.size : Int) != 2) = false := by rw [bne_eq_false_iff_eq]; omega
    have b1 : 2 ≤ s.size := by omega
    have b2 : s.size ≤ 2 := by omega
    clear h2
    go_enter Tryz.func114, Tryz.ntmps114
    go_wp2
    go_loop [9] (fun i => ∃ k : Nat, k ≤ s.size ∧ i = .int .i64 k ∧ Hid (((bl s).take k).all nameC = true)) (fun i => s.size - (intOf i).toNat)
    case atStart => exact ⟨0, Nat.zero_le _, rfl, rfl⟩
    case round =>
      obtain ⟨k, hk, rfl, hall⟩ := hrel
      by_cases h : k < s.size
      · have hk2 : (k : Int) < 2 := by omega
        rcases nameC_ways s[k] with ⟨hn, hc⟩ | ⟨hn, hc⟩
        · have HA := Lib.hid (all_take_succ hall.out h hn.out)
          clear hn
          rcases hc with ⟨c1, c2⟩ | ⟨c1, c2, c3⟩
          all_goals
            go_wp2
            go_round
            case rel => exact ⟨k + 1, h, by go_num, HA.out⟩
            case measure => simp [intOf]; omega
        · have HF : Hid (shortB (bl s) = false) := by unfold Hid; rw [shortB_of H2.out, all_false_at (l := bl s) (k := k) h hn.out]
          clear hn
          rcases hc with ⟨c1, c2⟩ | ⟨c1, c2, c3⟩ | ⟨c1, c2, c3, c4⟩
          all_goals
            go_wp2
            go_ret
            exact ⟨ret_bool HF.out.symm, rfl⟩
      · have hk2 : (2 : Int) ≤ (k : Int) := by omega
        go_wp2
        go_ret
        exact ⟨ret_bool (by rw [shortB_of H2.out, all_take_all hall.out (by rw [bl_len]; omega)]), rfl⟩
  · have e2 : ((s.size : Int) != 2) = true := by rw [bne_iff_ne]; omega
    have HF := Lib.hid (shortB_len h2)
    clear h2
    go_enter Tryz.func114, Tryz.ntmps114
    go_wp2
    go_ret
    exact ⟨ret_bool HF.out.symm, rfl⟩
set_option maxHeartbeats 1000000 in
theorem region_any (s : ByteArray) (w : World) (hs : s.size ≤ maxLen) :
    Calls Tryz.prog 116 #[.string s] w fun e w' => e = .returned (.bool (shortB (bl s))) ∧ w = w' := by
  unfold maxLen at hs
  by_cases h2 : s.size = 2
  · have H2 := Lib.hid h2
    have e2 : ((s.size : Int) != 2) = false := by rw [bne_eq_false_iff_eq]; omega
    have b1 : 2 ≤ s.size := by omega
    have b2 : s.size ≤ 2 := by omega
    clear h2
    go_enter Tryz.func116, Tryz.ntmps116
    go_wp2
    go_loop [3] (fun i => ∃ k : Nat, k ≤ s.size ∧ i = .int .i64 k ∧ Hid (((bl s).take k).all nameC = true)) (fun i => s.size - (intOf i).toNat)
    case atStart => exact ⟨0, Nat.zero_le _, rfl, rfl⟩
    case round =>
      obtain ⟨k, hk, rfl, hall⟩ := hrel
      by_cases h : k < s.size
      · have hk2 : (k : Int) < 2 := by omega
        rcases nameC_ways s[k] with ⟨hn, hc⟩ | ⟨hn, hc⟩
        · have HA := Lib.hid (all_take_succ hall.out h hn.out)
          clear hn
          rcases hc with ⟨c1, c2⟩ | ⟨c1, c2, c3⟩
          all_goals
            go_wp2
            go_round
            case rel => exact ⟨k + 1, h, by go_num, HA.out⟩
            case measure => simp [intOf]; omega
        · have HF : Hid (shortB (bl s) = false) := by unfold Hid; rw [shortB_of H2.out, all_false_at (l := bl s) (k := k) h hn.out]
          clear hn
          rcases hc with ⟨c1, c2⟩ | ⟨c1, c2, c3⟩ | ⟨c1, c2, c3, c4⟩
          all_goals
            go_wp2
            go_ret
            exact ⟨ret_bool HF.out.symm, rfl⟩
      · have hk2 : (2 : Int) ≤ (k : Int) := by omega
        go_wp2
        go_ret
        exact ⟨ret_bool (by rw [shortB_of H2.out, all_take_all hall.out (by rw [bl_len]; omega)]), rfl⟩
  · have e2 : ((s.size : Int) != 2) = true := by rw [bne_iff_ne]; omega
    have HF := Lib.hid (shortB_len h2)
    clear h2
    go_enter Tryz.func116, Tryz.ntmps116
    go_wp2
    go_ret
    exact ⟨ret_bool HF.out.symm, rfl⟩

/-! ### references -/
def refB (a b : List UInt8) : Bool := nameB a 6 && (nameB b 6 || shortB b)
def refErr (l : List UInt8) : Int := if (cutAt 47 l).2.2 then (if refB (cutAt 47 l).1 (cutAt 47 l).2.1 then 0 else 5) else 4
def refFst (l : List UInt8) : List UInt8 := if refErr l = 0 then (cutAt 47 l).1 else []
def refSnd (l : List UInt8) : List UInt8 := if refErr l = 0 then (cutAt 47 l).2.1 else []
def RefTPost (s : ByteArray) (w : World) (e : Ending) (w' : World) : Prop :=
  ∃ a b, e = .returned (.tuple #[.string a, .string b, .int .i64 (refErr (bl s))]) ∧ Hid (bl a = refFst (bl s)) ∧ Hid (bl b = refSnd (bl s)) ∧ a.size ≤ s.size ∧ b.size ≤ s.size ∧ Drawn w w'
theorem refErr_no {s : ByteArray} {x y : List UInt8} (h : cutAt 47 (bl s) = (x, y, false)) : refErr (bl s) = 4 := by unfold refErr; rw [h]; rfl
theorem refErr_yes {s : ByteArray} {x y : List UInt8} (h : cutAt 47 (bl s) = (x, y, true)) : refErr (bl s) = if refB x y then 0 else 5 := by unfold refErr; rw [h]; rfl
theorem refTPost_bad {s : ByteArray} {w w' : World} {n : Int} (h : refErr (bl s) = n) (h0 : n ≠ 0) (hd : Drawn w w') : RefTPost s w (.returned (.tuple #[.string ⟨#[]⟩, .string ⟨#[]⟩, .int .i64 n])) w' := by
  subst h
  refine ⟨_, _, rfl, ?_, ?_, Nat.zero_le _, Nat.zero_le _, hd⟩
  · unfold Hid refFst; rw [if_neg h0]; rfl
  · unfold Hid refSnd; rw [if_neg h0]; rfl
theorem refTPost_ok {s a b : ByteArray} {w w' : World} (h : cutAt 47 (bl s) = (bl a, bl b, true)) (hr : refB (bl a) (bl b) = true) (ha : a.size ≤ s.size) (hb : b.size ≤ s.size) (hd : Drawn w w') : RefTPost s w (.returned (.tuple #[.string a, .string b, .int .i64 0])) w' := by
  have h0 : refErr (bl s) = 0 := by rw [refErr_yes h, if_pos hr]
  refine ⟨a, b, by rw [h0], ?_, ?_, ha, hb, hd⟩
  · unfold Hid refFst; rw [if_pos h0, h]
  · unfold Hid refSnd; rw [if_pos h0, h]
theorem refB_ways (a b : List UInt8) : (nameB a 6 = false ∧ Hid (refB a b = false)) ∨ (nameB a 6 = true ∧ ((nameB b 6 = true ∧ Hid (refB a b = true)) ∨ (nameB b 6 = false ∧ ((shortB b = true ∧ Hid (refB a b = true)) ∨ (shortB b = false ∧ Hid (refB a b = false)))))) := by
  unfold refB Hid
  cases nameB a 6 <;> cases nameB b 6 <;> cases shortB b <;> simp
set_option maxHeartbeats 1000000 in
theorem splitRef_any (s : ByteArray) (w : World) (hs : s.size ≤ maxLen) :
    Calls Tryz.prog 88 #[.string s] w (RefTPost s w) := by
  go_enter Tryz.func88, Tryz.ntmps88
  go_wp2_with fail
  refine (cutAny s 47 _ hs).mono ?_
  rintro e w1 ⟨a, b, f, rfl, hcut, has, hbs, hd⟩
  cases f
  · go_wp2
    go_ret3
    exact refTPost_bad (refErr_no hcut.out) (by decide) hd
  · go_wp2_with fail
    refine (name_any a 6 _ (Nat.le_trans has hs)).mono ?_
    rintro e w' ⟨rfl, rfl⟩
    rcases refB_ways (bl a) (bl b) with ⟨h1, hr⟩ | ⟨h1, ⟨h2, hr⟩ | ⟨h2, ⟨h3, hr⟩ | ⟨h3, hr⟩⟩⟩
    · rw [h1]
      clear h1
      go_wp2
      go_ret3
      exact refTPost_bad (n := 5) (by rw [refErr_yes hcut.out, hr.out]; rfl) (by decide) hd
    all_goals
      rw [h1]
      have H2 := Lib.hid h2
      clear h1 h2
      go_wp2_with fail
      refine (name_any b 6 _ (Nat.le_trans hbs hs)).mono ?_
      rintro e w' ⟨rfl, rfl⟩
      rw [H2.out]
    · go_wp2
      go_ret3
      exact refTPost_ok hcut.out hr.out has hbs hd
    all_goals
      have H3 := Lib.hid h3
      clear h3
      go_wp2_with fail
      refine (short_any b _ (Nat.le_trans hbs hs)).mono ?_
      rintro e w' ⟨rfl, rfl⟩
      rw [H3.out]
    · go_wp2
      go_ret3
      exact refTPost_ok hcut.out hr.out has hbs hd
    · go_wp2
      go_ret3
      exact refTPost_bad (n := 5) (by rw [refErr_yes hcut.out, hr.out]; rfl) (by decide) hd
theorem cutHere {s : ByteArray} {j : Nat} (c : UInt8) (hj : j < s.size) (h : s[j] = c) (hn : c ∉ (bl s).take j) : cutAt c (bl s) = (bl (s.extract 0 j), bl (s.extract (j + 1) s.size), true) := by
  rcases cut_ways s c with ⟨h1, _⟩ | ⟨i, hi, _, h1⟩
  · exfalso
    have hm : c ∈ bl s := by rw [← h]; exact List.getElem_mem (l := bl s) (n := j) hj
    rcases cutAt_byte c (bl s) with ⟨h2, _⟩ | ⟨i, _, _, h3⟩
    · obtain ⟨k, hk, hk2⟩ := List.getElem_of_mem hm
      exact Lib.indexByte_none h2 k (by rw [List.getElem?_eq_getElem hk, hk2])
    · rw [h1.out] at h3; simp at h3
  · rcases cutAt_byte c (bl s) with ⟨_, h3⟩ | ⟨k, h2, hk, h3⟩
    · rw [h1.out] at h3; simp at h3
    · obtain ⟨k1, k2⟩ := Lib.indexByte_some h2
      have hkj : k = j := by
        rcases Nat.lt_trichotomy k j with hlt | heq | hgt
        · exfalso
          apply hn
          have : ((bl s).take j)[k]? = some c := by rw [List.getElem?_take, if_pos hlt]; exact k1
          exact List.mem_of_getElem? this
        · exact heq
        · exact absurd (by rw [bl_get? s j hj, h]) (k2 j hgt)
      subst hkj
      rw [h3, bl_extract, bl_extract, List.drop_zero, Nat.sub_zero, List.take_of_length_le (l := (bl s).drop (k + 1)) (by rw [List.length_drop, bl_len]; omega)]
theorem cutNone {s : ByteArray} {j : Nat} (c : UInt8) (hj : s.size ≤ j) (hn : c ∉ (bl s).take j) : cutAt c (bl s) = (bl s, [], false) := by
  rw [List.take_of_length_le (by rw [bl_len]; exact hj)] at hn
  rcases cutAt_byte c (bl s) with ⟨_, h3⟩ | ⟨k, h2, hk, h3⟩
  · exact h3
  · exact absurd (List.mem_of_getElem? (Lib.indexByte_some h2).1) hn
theorem notinMore {s : ByteArray} {j : Nat} {c : UInt8} (hj : j < s.size) (h : s[j] ≠ c) (hn : c ∉ (bl s).take j) : c ∉ (bl s).take (j + 1) := by
  rw [List.take_succ_eq_append_getElem (show j < (bl s).length from hj), List.mem_append, List.mem_singleton]
  rintro (e | e)
  · exact hn e
  · exact h e.symm
set_option maxHeartbeats 1000000 in
theorem rsplitRef_any (s : ByteArray) (w : World) (hs : s.size ≤ maxLen) :
    Calls Tryz.prog 93 #[.string s] w (RefTPost s w) := by
  have hs' := hs
  unfold maxLen at hs
  go_enter Tryz.func93, Tryz.ntmps93
  go_wp2
  go_loop [5] (fun i => ∃ j : Nat, j ≤ s.size ∧ i = .int .i64 j ∧ Hid ((47 : UInt8) ∉ (bl s).take j)) (fun i => s.size - (intOf i).toNat)
  case atStart => exact ⟨0, Nat.zero_le _, rfl, by unfold Hid; simp⟩
  case round =>
    obtain ⟨j, hj, rfl, hno⟩ := hrel
    by_cases hjs : j < s.size
    · by_cases h47 : (s[j].toNat : Int) = 47
      · have e47 : ((s[j].toNat : Int) == 47) = true := beq_iff_eq.2 h47
        have hcut := Lib.hid (cutHere 47 hjs ((u8_eq (n := 47) (by omega)).1 (by omega)) hno.out)
        have has : (s.extract 0 j).size ≤ s.size := by rw [ByteArray.size_extract]; omega
        have hbs : (s.extract (j + 1) s.size).size ≤ s.size := by rw [ByteArray.size_extract]; omega
        clear h47
        go_wp2
        go_quiet (fail)
        obtain ⟨a, ha⟩ : ∃ a, s.extract 0 j = a := ⟨_, rfl⟩
        obtain ⟨b, hb⟩ : ∃ b, s.extract (j + 1) s.size = b := ⟨_, rfl⟩
        rw [ha] at hcut has ⊢
        rw [hb] at hcut hbs ⊢
        clear ha hb
        have hd : Drawn w (w.drewN nq) := ⟨nq, rfl⟩
        go_wp2_with fail
        refine (rname_any a 6 _ (Nat.le_trans has hs')).mono ?_
        rintro e w' ⟨rfl, rfl⟩
        rcases refB_ways (bl a) (bl b) with ⟨h1, hr⟩ | ⟨h1, ⟨h2, hr⟩ | ⟨h2, ⟨h3, hr⟩ | ⟨h3, hr⟩⟩⟩
        · rw [h1]
          clear h1
          go_wp2
          go_ret3
          exact refTPost_bad (n := 5) (by rw [refErr_yes hcut.out, hr.out]; rfl) (by decide) hd
        all_goals
          rw [h1]
          have H2 := Lib.hid h2
          clear h1 h2
          go_wp2_with fail
          refine (rname_any b 6 _ (Nat.le_trans hbs hs')).mono ?_
          rintro e w' ⟨rfl, rfl⟩
          rw [H2.out]
        · go_wp2
          go_ret3
          exact refTPost_ok hcut.out hr.out has hbs hd
        all_goals
          have H3 := Lib.hid h3
          clear h3
          go_wp2_with fail
          refine (region_any b _ (Nat.le_trans hbs hs')).mono ?_
          rintro e w' ⟨rfl, rfl⟩
          rw [H3.out]
        · go_wp2
          go_ret3
          exact refTPost_ok hcut.out hr.out has hbs hd
        · go_wp2
          go_ret3
          exact refTPost_bad (n := 5) (by rw [refErr_yes hcut.out, hr.out]; rfl) (by decide) hd
      · have e47 : ((s[j].toNat : Int) == 47) = false := beq_eq_false_iff_ne.2 h47
        have HN2 := Lib.hid (notinMore (c := 47) hjs (fun e => h47 (by rw [e]; rfl)) hno.out)
        clear h47
        go_wp2
        go_round
        case rel => exact ⟨j + 1, hjs, by go_num, HN2.out⟩
        case measure => simp [intOf]; omega
    · have hcut := Lib.hid (cutNone 47 (by omega) hno.out)
      go_wp2
      go_ret3
      exact refTPost_bad (refErr_no hcut.out) (by decide) (Drawn.refl _)
end Go.Proofs.YtgnnblkpjankgaaGreatDoor
