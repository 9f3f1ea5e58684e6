/-
  Contract: the reference's Split.
-/
import Derived.Test.YtlgajjlnbcbijaaGreatDoorSplit
namespace Go.Proofs.YtlgajjlnbcbijaaGreatDoor
open Go.RowKit
set_option linter.unusedVariables false
set_option linter.unusedSimpArgs false

theorem cut35 (s : ByteArray) {a : List UInt8} (ha : a = (cutAt 35 (bl s)).1) : a.length ≤ s.size ∧ (∀ (k : Nat) (h : k < s.size), k < a.length → s[k].toNat ≠ 35 ∧ a.drop k = s[k] :: a.drop (k + 1)) ∧ (a.length = s.size ∨ ∃ h : a.length < s.size, s[a.length].toNat = 35) := by
  subst ha
  have hpre : ∃ r, bl s = (cutAt 35 (bl s)).1 ++ r ∧ (35 : UInt8) ∉ (cutAt 35 (bl s)).1 ∧ (r = [] ∨ r.head? = some 35) := by
    rcases cutAt_spec 35 (bl s) with ⟨_, h2, h3⟩ | ⟨_, h2, h3, _⟩
    · exact ⟨_, h2, h3, .inr rfl⟩
    · exact ⟨[], by rw [h3, List.append_nil], by rw [h3]; exact h2, .inl rfl⟩
  obtain ⟨r, h1, h2, h3⟩ := hpre
  generalize (cutAt 35 (bl s)).1 = a at h1 h2
  have hl : s.size = a.length + r.length := by rw [← bl_len, h1, List.length_append]
  refine ⟨by omega, fun k h hk => ?_, ?_⟩
  · have e : s[k] = a[k] := by
      have := bl_get? s k h
      rw [h1, List.getElem?_append_left hk, List.getElem?_eq_getElem hk, Option.some.injEq] at this
      exact this.symm
    refine ⟨fun h35 => h2 ?_, by rw [e]; exact List.drop_eq_getElem_cons hk⟩
    have : a[k] = 35 := by rw [← e]; exact (u8_eq (n := 35) (by omega)).1 h35
    rw [← this]; exact List.getElem_mem hk
  · rcases h3 with rfl | h3
    · left; simpa using hl.symm
    · right
      match r, h3 with
      | c :: r, h3 =>
        have hc : c = 35 := by simpa using h3
        have h : a.length < s.size := by simp only [List.length_cons] at hl; omega
        refine ⟨h, ?_⟩
        have := bl_get? s a.length h
        rw [h1, List.getElem?_append_right (Nat.le_refl _), Nat.sub_self, hc] at this
        simp only [List.getElem?_cons_zero, Option.some.injEq] at this
        rw [← this]; rfl

/-- the field that has begun, by the reference's number -/
def Begun (s : ByteArray) (k : Nat) (z : Int) (cur : List UInt8) (st : Nat) : Prop := (z = -1 ∧ cur = []) ∨ (z = (st : Int) ∧ st < k ∧ cur = bl (s.extract st k) ∧ cur ≠ [])
theorem extract_snoc {s : ByteArray} {st k : Nat} (h1 : st ≤ k) (h : k < s.size) : bl (s.extract st k) ++ [s[k]] = bl (s.extract st (k + 1)) := by
  rw [bl_extract, bl_extract, show k + 1 - st = (k - st) + 1 by omega]
  have hl : k - st < ((bl s).drop st).length := by rw [List.length_drop, bl_len]; omega
  rw [List.take_succ_eq_append_getElem hl]
  have h3 : ((bl s).drop st)[k - st]? = some s[k] := by rw [List.getElem?_drop, show st + (k - st) = k by omega, bl_get? s k h]
  rw [List.getElem?_eq_getElem hl, Option.some.injEq] at h3
  rw [h3]
theorem rsplit_char {s : ByteArray} {a : List UInt8} {k st : Nat} {cur : List UInt8} {z : Int} {all done : List Fld} (h : k < s.size) (hd : a.drop k = s[k] :: a.drop (k + 1)) (h32 : ¬ (s[k].toNat : Int) = 32)
    (hb : Begun s k z cur st) (hr : all = done ++ fieldsGo cur st k (a.drop k)) :
    ∃ st', Begun s (k + 1) (if z < 0 then (k : Int) else z) (cur ++ [s[k]]) st' ∧ all = done ++ fieldsGo (cur ++ [s[k]]) st' (k + 1) (a.drop (k + 1)) := by
  have hne : s[k] ≠ 32 := fun e => h32 (by rw [e]; rfl)
  rw [hd, fieldsGo, if_neg hne] at hr
  rcases hb with ⟨rfl, rfl⟩ | ⟨rfl, hlt, hc, hn⟩
  · rw [if_pos rfl] at hr
    refine ⟨k, .inr ⟨by rw [if_pos (by decide)], by omega, ?_, by simp⟩, hr⟩
    rw [← extract_snoc (Nat.le_refl k) h, bl_extract, Nat.sub_self]; rfl
  · rw [if_neg hn] at hr
    exact ⟨st, .inr ⟨by rw [if_neg (by omega)], by omega, by rw [hc]; exact extract_snoc (by omega) h, by simp⟩, hr⟩
/-- what is left behind a field's end -/
theorem rsplit_blank {s : ByteArray} {a : List UInt8} {k st : Nat} {cur : List UInt8} {all done : List Fld} (h : k < s.size) (hd : a.drop k = s[k] :: a.drop (k + 1)) (h32 : (s[k].toNat : Int) = 32)
    (hr : all = done ++ fieldsGo cur st k (a.drop k)) : (cur = [] → all = done ++ fieldsGo [] 0 (k + 1) (a.drop (k + 1))) ∧ (cur ≠ [] → all = (done ++ [(cur, st + 1)]) ++ fieldsGo [] 0 (k + 1) (a.drop (k + 1))) := by
  rw [hd, u8_32 h32, fieldsGo, if_pos rfl] at hr
  constructor
  · intro e; rw [if_pos e] at hr; exact hr
  · intro e; rw [if_neg e] at hr; rw [hr, List.append_assoc]; rfl
theorem rsplit_last {a : List UInt8} {k st : Nat} {cur : List UInt8} {all done : List Fld} (hk : a.length ≤ k) (hr : all = done ++ fieldsGo cur st k (a.drop k)) : (cur = [] → all = done) ∧ (cur ≠ [] → all = done ++ [(cur, st + 1)]) := by
  rw [List.drop_eq_nil_of_le hk, fieldsGo] at hr
  constructor
  · intro e; rw [if_pos e, List.append_nil] at hr; exact hr
  · intro e; rw [if_neg e] at hr; exact hr

set_option maxRecDepth 100000 in
set_option maxHeartbeats 400000 in
theorem rsplit_longC (s : ByteArray) (w : World) (h : 200 < s.size) (hs : s.size ≤ maxLen) :
    Calls Tryz.prog 24 #[.string s] w (SplitPost s w) := by
  unfold maxLen at hs
  have h1 : (200 : Int) < (s.size : Int) := by omega
  have H := Lib.hid (split_long (l := bl s) h)
  go_enter Tryz.func24, Tryz.ntmps24
  go_wp2
  go_ret3
  exact splitPost H.out.2.1.symm H.out.2.2.symm H.out.1.symm (RdT.nil _ _ _) (Below.refl _ _)
set_option maxRecDepth 100000 in
set_option maxHeartbeats 2000000 in
theorem rsplit_short (s : ByteArray) (w : World) (hs : s.size ≤ 200) :
    Calls Tryz.prog 24 #[.string s] w (SplitPost s w) := by
  have h1 : (s.size : Int) ≤ 200 := by omega
  obtain ⟨i0, hi, hz0, hz1, hz2⟩ := info_parts infoField
  go_enter Tryz.func24, Tryz.ntmps24
  go_wp2
  go_loop [5] (fun i => ∃ k : Nat, k ≤ s.size ∧ i = .int .i64 k ∧ Hid (((bl s).take k).all okC = true)) (fun i => s.size - (intOf i).toNat)
  case atStart => exact ⟨0, Nat.zero_le _, rfl, rfl⟩
  case round =>
    obtain ⟨k, hk, rfl, hall⟩ := hrel
    by_cases h : k < s.size
    · have hc : ((32 : Int) ≤ (s[k].toNat : Int) ∧ (s[k].toNat : Int) ≤ 126) ∨ ((s[k].toNat : Int) < 32) ∨ ((32 : Int) ≤ (s[k].toNat : Int) ∧ 126 < (s[k].toNat : Int)) := by omega
      rcases hc with ⟨c1, c2⟩ | c1 | ⟨c1, c2⟩
      · go_wp2
        go_round
        case rel => exact ⟨k + 1, h, by go_num, all_take_succ hall.out h (okC_yes c1 c2)⟩
        case measure => simp [intOf]; omega
      · have H := Lib.hid (split_bad (l := bl s) hs h hall.out (okC_no (.inl c1)))
        go_wp2
        go_ret3
        exact splitPost (by have := H.out.2.1; omega) H.out.2.2.symm H.out.1.symm (RdT.nil _ _ _) (Below.refl _ _)
      · have H := Lib.hid (split_bad (l := bl s) hs h hall.out (okC_no (.inr c2)))
        go_wp2
        go_ret3
        exact splitPost (by have := H.out.2.1; omega) H.out.2.2.symm H.out.1.symm (RdT.nil _ _ _) (Below.refl _ _)
    · have H := Lib.hid (split_ok (l := bl s) hs (all_take_all hall.out (by rw [bl_len]; omega)))
      clear hall
      obtain ⟨a, ha⟩ : ∃ a, a = (cutAt 35 (bl s)).1 := ⟨_, rfl⟩
      obtain ⟨p, hp⟩ : ∃ p, a.length = p := ⟨_, rfl⟩
      have hfl : Hid (fieldsL (bl s) = fieldsGo [] 0 0 a) := by unfold Hid fieldsL; rw [← ha]
      have hcut := cut35 s ha
      rw [hp] at hcut
      obtain ⟨hps, hch, hend⟩ := hcut
      have HCH := Lib.hid hch
      have HEND := Lib.hid hend
      have HP := Lib.hid hp
      clear ha hp hch hend
      obtain ⟨all, hall⟩ : ∃ all, fieldsL (bl s) = all := ⟨_, rfl⟩
      rw [hall] at hfl H
      clear hall
      go_wp2
      go_loopw [6, 7, 8] (fun v b i wr => ∃ (j : Nat) (done : List Fld) (z : Int), i = .int .i64 j ∧ b = .int .i64 z ∧ -1 ≤ z ∧ z ≤ 300 ∧ done.length ≤ j ∧ wr.ownsRow w.heap.size 158 2 v done.length (fcells done) ∧ Below w.heap.size w wr ∧
        ((j ≤ p ∧ ∃ (cur : List UInt8) (st : Nat), Hid (Begun s j z cur st) ∧ Hid (all = done ++ fieldsGo cur st j (a.drop j))) ∨ (j = s.size + 1 ∧ Hid (all = done)))) (fun _ _ i _ => s.size + 2 - (intOf i).toNat)
      case atStart => exact ⟨0, [], -1, rfl, rfl, by omega, by omega, Nat.le_refl _, World.ownsRow_nil _ _ _ _, Below.refl _ _, .inl ⟨Nat.zero_le _, [], 0, .inl ⟨rfl, rfl⟩, hfl.out⟩⟩
      case round =>
        obtain ⟨j, done, z, rfl, rfl, hz1', hz2', hdl, hown, hbr, hst⟩ := hrel
        rcases hst with ⟨hj, cur, st, hbeg, hrest⟩ | ⟨rfl, hdone⟩
        · have hzc : (z < 0 ∧ Hid (cur = [])) ∨ (0 ≤ z ∧ Hid (cur ≠ [] ∧ z = (st : Int) ∧ st < j ∧ cur = bl (s.extract st j))) := by
            rcases hbeg.out with ⟨e1, e2⟩ | ⟨e1, e2, e3, e4⟩
            · exact .inl ⟨by omega, e2⟩
            · exact .inr ⟨by omega, e4, e1, e2, e3⟩
          by_cases hjp : j < p
          · have hjs : j < s.size := by omega
            obtain ⟨h35, hdr⟩ := HCH.out j hjs hjp
            have hje : ((j : Int) == (s.size : Int)) = false := by rw [beq_eq_false_iff_ne]; omega
            have e35 : ((s[j].toNat : Int) == 35) = false := by rw [beq_eq_false_iff_ne]; omega
            have HDR := Lib.hid hdr
            clear hdr h35
            by_cases h32 : (s[j].toNat : Int) = 32
            · have e32 : ((s[j].toNat : Int) == 32) = true := beq_iff_eq.2 h32
              have HB := Lib.hid (rsplit_blank hjs HDR.out h32 hrest.out)
              clear h32
              rcases hzc with ⟨hz0', hc⟩ | ⟨hz0', hc⟩
              · go_wp2
                go_roundw
                case rel => exact ⟨j + 1, done, z, by go_num, rfl, hz1', hz2', by omega, hown, hbr, .inl ⟨hjp, [], 0, .inl ⟨by omega, rfl⟩, HB.out.1 hc.out⟩⟩
                case measure => simp [intOf]; omega
              · obtain ⟨hc1, rfl, hst, hcur⟩ := hc.out
                have HC1 := Lib.hid hc1
                have HCUR := Lib.hid hcur
                clear hc hc1 hcur
                have hlen2 : (done ++ [(bl (s.extract st j), st + 1)]).length ≤ j + 1 := by simp; omega
                have hstb : (st : Int) ≤ 300 := by omega
                go_wp2_with (at_builtin; refine wpList_append_own _ rfl (.tmp 65) (.tmp 73) 61 rfl w.heap.size 158 i0 (.agg #[.string ⟨#[]⟩, .int .i64 0]) 2 24 Tryz.underlying61 hi hz0 hz1 hz2 rfl (by decide) _ _ _ rfl (hown.alloc _) ⟨wr.heap.size, 0, none⟩ 1 1 [.string (s.extract st j), .int .i64 ((st : Int) + 1)] rfl rfl (cell_two_new _ _ _ _) (by intro u hu; simp at hu; rcases hu with rfl | rfl <;> rfl) (by unfold maxLen; omega) (by omega) (by have := hbr.size; simp; omega) ?_)
                intro v' w' hown' hgrow _
                have R := field_step hown.lt hbr hown' hgrow hbr.size
                clear hown hown' hgrow
                go_wp2
                go_roundw
                case rel => exact ⟨j + 1, _, -1, by go_num, rfl, by omega, by omega, hlen2, R.1, R.2, .inl ⟨hjp, [], 0, .inl ⟨rfl, rfl⟩, by have := HB.out.2 HC1.out; rw [HCUR.out] at this; exact this⟩⟩
                case measure => simp [intOf]; omega
            · have e32 : ((s[j].toNat : Int) == 32) = false := beq_eq_false_iff_ne.2 h32
              have HB := Lib.hid (rsplit_char hjs HDR.out h32 hbeg.out hrest.out)
              clear h32
              rcases hzc with ⟨hz0', hc⟩ | ⟨hz0', hc⟩
              · obtain ⟨st', hb1, hb2⟩ := HB.out
                rw [if_pos hz0'] at hb1
                have HB1 := Lib.hid hb1
                have HB2 := Lib.hid hb2
                clear hb1 hb2 HB hc
                go_wp2
                go_roundw
                case rel => exact ⟨j + 1, done, j, by go_num, rfl, by omega, by omega, by omega, hown, hbr, .inl ⟨hjp, _, _, HB1.out, HB2.out⟩⟩
                case measure => simp [intOf]; omega
              · obtain ⟨st', hb1, hb2⟩ := HB.out
                rw [if_neg (by omega)] at hb1
                have HB1 := Lib.hid hb1
                have HB2 := Lib.hid hb2
                clear hb1 hb2 HB hc
                go_wp2
                go_roundw
                case rel => exact ⟨j + 1, done, z, by go_num, rfl, hz1', hz2', by omega, hown, hbr, .inl ⟨hjp, _, _, HB1.out, HB2.out⟩⟩
                case measure => simp [intOf]; omega
          · have hjp' : j = p := by omega
            subst hjp'
            have HB := Lib.hid (rsplit_last (Nat.le_of_eq HP.out) hrest.out)
            rcases HEND.out with hps' | ⟨hps', h35⟩
            · have hje : ((j : Int) == (s.size : Int)) = true := by rw [beq_iff_eq]; omega
              have hjle : (s.size : Int) ≤ (j : Int) := by omega
              clear hps'
              rcases hzc with ⟨hz0', hc⟩ | ⟨hz0', hc⟩
              · go_wp2
                go_roundw
                case rel => exact ⟨j + 1, done, z, by go_num, rfl, hz1', hz2', by omega, hown, hbr, .inr ⟨by omega, HB.out.1 hc.out⟩⟩
                case measure => simp [intOf]; omega
              · obtain ⟨hc1, rfl, hst, hcur⟩ := hc.out
                have HC1 := Lib.hid hc1
                have HCUR := Lib.hid hcur
                clear hc hc1 hcur
                have hlen2 : (done ++ [(bl (s.extract st j), st + 1)]).length ≤ j + 1 := by simp; omega
                have hstb : (st : Int) ≤ 300 := by omega
                go_wp2_with (at_builtin; refine wpList_append_own _ rfl (.tmp 65) (.tmp 73) 61 rfl w.heap.size 158 i0 (.agg #[.string ⟨#[]⟩, .int .i64 0]) 2 24 Tryz.underlying61 hi hz0 hz1 hz2 rfl (by decide) _ _ _ rfl (hown.alloc _) ⟨wr.heap.size, 0, none⟩ 1 1 [.string (s.extract st j), .int .i64 ((st : Int) + 1)] rfl rfl (cell_two_new _ _ _ _) (by intro u hu; simp at hu; rcases hu with rfl | rfl <;> rfl) (by unfold maxLen; omega) (by omega) (by have := hbr.size; simp; omega) ?_)
                intro v' w' hown' hgrow _
                have R := field_step hown.lt hbr hown' hgrow hbr.size
                clear hown hown' hgrow
                go_wp2
                go_roundw
                case rel => exact ⟨j + 1, _, -1, by go_num, rfl, by omega, by omega, hlen2, R.1, R.2, .inr ⟨by omega, by have := HB.out.2 HC1.out; rw [HCUR.out] at this; exact this⟩⟩
                case measure => simp [intOf]; omega
            · have hje : ((j : Int) == (s.size : Int)) = false := by rw [beq_eq_false_iff_ne]; omega
              have e35 : ((s[j].toNat : Int) == 35) = true := by rw [beq_iff_eq]; omega
              have e32 : ((s[j].toNat : Int) == 32) = false := by rw [beq_eq_false_iff_ne]; omega
              clear h35
              rcases hzc with ⟨hz0', hc⟩ | ⟨hz0', hc⟩
              · go_wp2
                go_ret3
                exact splitPost H.out.2.1.symm H.out.2.2.symm (by rw [H.out.1, HB.out.1 hc.out]) (RdT.of_own hown) hbr
              · obtain ⟨hc1, rfl, hst, hcur⟩ := hc.out
                have HC1 := Lib.hid hc1
                have HCUR := Lib.hid hcur
                clear hc hc1 hcur
                have hlen2 : (done ++ [(bl (s.extract st j), st + 1)]).length ≤ j + 1 := by simp; omega
                have hstb : (st : Int) ≤ 300 := by omega
                go_wp2_with (at_builtin; refine wpList_append_own _ rfl (.tmp 65) (.tmp 73) 61 rfl w.heap.size 158 i0 (.agg #[.string ⟨#[]⟩, .int .i64 0]) 2 24 Tryz.underlying61 hi hz0 hz1 hz2 rfl (by decide) _ _ _ rfl (hown.alloc _) ⟨wr.heap.size, 0, none⟩ 1 1 [.string (s.extract st j), .int .i64 ((st : Int) + 1)] rfl rfl (cell_two_new _ _ _ _) (by intro u hu; simp at hu; rcases hu with rfl | rfl <;> rfl) (by unfold maxLen; omega) (by omega) (by have := hbr.size; simp; omega) ?_)
                intro v' w' hown' hgrow _
                have R := field_step hown.lt hbr hown' hgrow hbr.size
                clear hown hown' hgrow
                go_wp2
                go_ret3
                exact splitPost H.out.2.1.symm H.out.2.2.symm (by have := HB.out.2 HC1.out; rw [HCUR.out] at this; rw [H.out.1, this]) (RdT.of_own R.1) R.2
        · go_wp2
          go_ret3
          exact splitPost H.out.2.1.symm H.out.2.2.symm (by rw [H.out.1, hdone.out]) (RdT.of_own hown) hbr
theorem rsplit_any (s : ByteArray) (w : World) (hs : s.size ≤ maxLen) :
    Calls Tryz.prog 24 #[.string s] w (SplitPost s w) := by
  by_cases h : 200 < s.size
  · exact rsplit_longC s w h hs
  · exact rsplit_short s w (by omega)
end Go.Proofs.YtlgajjlnbcbijaaGreatDoor
