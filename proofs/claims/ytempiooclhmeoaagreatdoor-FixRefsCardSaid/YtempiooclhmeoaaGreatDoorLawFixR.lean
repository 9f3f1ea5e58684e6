/-
  The walk of the law FixRefs.
-/
import Derived.Test.YtempiooclhmeoaaGreatDoorFixB
namespace Go.Proofs.YtempiooclhmeoaaGreatDoor
open Go.RowKit
set_option linter.unusedVariables false
set_option linter.unusedSimpArgs false

theorem nameC_47 : nameC 47 = false := by decide
theorem cut_ref {a b : List UInt8} (h : ∀ c ∈ a, nameC c = true) : cutAt 47 (a ++ 47 :: b) = (a, b, true) := by
  apply cutAt_mid
  intro hm
  have := h 47 hm
  rw [nameC_47] at this
  cases this
theorem nameB_all {l : List UInt8} (h : nameB l 6 = true) : ∀ c ∈ l, nameC c = true := by
  unfold nameB at h
  rw [Bool.and_eq_true] at h
  exact List.all_eq_true.1 h.2
/-- the reference of a valid fix is split into its parts -/
theorem ref_back {f : Fx} (h : fixE f = 0) : refErr (fxRef f) = 0 ∧ refFst (fxRef f) = f.id ∧ refSnd (fxRef f) = f.rg := by
  have hf := fixE_ok h
  have h1 : nameB f.id 6 = true := by
    have := hf.2.1
    unfold identE at this
    split at this
    · rename_i h2; rw [Bool.and_eq_true] at h2; exact h2.1
    · cases this
  have h2 : (nameB f.rg 6 || shortB f.rg) = true := by
    have := hf.2.2.1
    unfold locE at this
    split at this
    · rename_i h2
      simp only [Bool.or_eq_true, Bool.and_eq_true] at h2 ⊢
      rcases h2 with ⟨_, h2⟩ | ⟨_, h2⟩
      · exact .inl h2
      · exact .inr h2
    · cases this
  have hc : cutAt 47 (fxRef f) = (f.id, f.rg, true) := cut_ref (nameB_all h1)
  have he : refErr (fxRef f) = 0 := by
    unfold refErr; rw [hc]
    show (if true = true then (if refB f.id f.rg = true then (0 : Int) else 5) else 4) = 0
    unfold refB; rw [h1, h2]; rfl
  refine ⟨he, ?_, ?_⟩
  · unfold refFst; rw [if_pos he, hc]
  · unfold refSnd; rw [if_pos he, hc]
theorem sb_same {a b : ByteArray} (h : bl a = bl b) : a = b := bl_inj h
set_option maxRecDepth 100000 in
set_option maxHeartbeats 4000000 in
theorem fixRefs_walk (f : Fx) (s : ByteArray) (w : World) (E : Env w) (hi : f.id.length ≤ 1000000000000000) (hr : f.rg.length ≤ 1000000000000000) (hs : s.size ≤ maxLen) :
    Calls Tryz.prog 4 #[.agg #[.string (sb f.id), .string (sb f.rg), .int .u8 (f.kd : Int), .int .i64 f.lat, .int .i64 f.lon, .int .i64 f.el, .int .i64 f.ra], .string s] w fun e w' => e = .returned (.bool true) ∧ Below w.heap.size w w' := by
  have B0 := Lib.hid (fxBox_new w f)
  have HB0 : Hid (Below w.heap.size w (w.alloc (.cells #[.string (sb f.id), .string (sb f.rg), .int .u8 (f.kd : Int), .int .i64 f.lat, .int .i64 f.lon, .int .i64 f.el, .int .i64 f.ra] 26))) := (Below.refl _ _).alloc (Nat.le_refl _) _
  have HI := Lib.hid hi
  have HR := Lib.hid hr
  have s1 : (sb f.id).size ≤ 1000000000000000 := hi
  have s2 : (sb f.rg).size ≤ 1000000000000000 := hr
  have HI2 : Hid (f.id.length ≤ maxLen) := by unfold Hid maxLen; omega
  have HR2 : Hid (f.rg.length ≤ maxLen) := by unfold Hid maxLen; omega
  have HRS : Hid ((sb (fxRef f)).size ≤ maxLen) := by
    unfold Hid maxLen fxRef
    rw [sb_size, List.length_append, List.length_cons]
    omega
  have HEQ : ((sb (fxRef f)).toList == (sb f.id ++ (⟨#[47]⟩ : ByteArray) ++ sb f.rg).toList) = true := by
    rw [bl_toList, bl_toList, bl_append, bl_append, bl_sb, bl_sb, bl_sb]
    unfold fxRef; simp [bl_mk]
  have HEQ2 : ((sb (fxRef f)).toList == (sb f.id ++ ((⟨#[47]⟩ : ByteArray) ++ sb f.rg)).toList) = true := by
    rw [bl_toList, bl_toList, bl_append, bl_append, bl_sb, bl_sb, bl_sb]
    unfold fxRef; simp [bl_mk]
  unfold maxLen at hs
  have hsz : Hid ((s.extract 0 (min (s.size : Int) 40).toNat).size ≤ maxLen) := by
    unfold Hid maxLen; rw [ByteArray.size_extract]; omega
  clear hi hr
  go_enter Tryz.func4, Tryz.ntmps4
  go_wp2_with fail
  refine (awakeF_any _ (E.alloc _)).mono ?_
  rintro e w1 ⟨rfl, hb1⟩
  have B1 := Lib.hid (B0.out.below hb1)
  have HB1 := Lib.hid (Below.then_ HB0.out hb1)
  clear hb1
  obtain ⟨c0, c1, c2, c3, c4, c5, c6⟩ := B1.out.cells
  have hl1 := lt_heap B1.out
  go_wp2_with fail
  refine (fixRef_any f _ HI.out HR.out).mono ?_
  rintro e w2 ⟨rfl, hb2⟩
  have B2 := Lib.hid (B1.out.below hb2)
  have HB2 := Lib.hid (Below.then_ HB1.out hb2)
  clear hb2 c0 c1 c2 c3 c4 c5 c6 hl1
  obtain ⟨c0, c1, c2, c3, c4, c5, c6⟩ := B2.out.cells
  have hl1 := lt_heap B2.out
  go_wp2_with fail
  refine (check_any f _ HI2.out HR2.out).mono ?_
  rintro e w3 ⟨rfl, hb3⟩
  have B3 := Lib.hid (B2.out.below hb3)
  have HB3 := Lib.hid (Below.then_ HB2.out hb3)
  have HBK := Lib.hid (ref_back (f := f))
  obtain ⟨er, her⟩ : ∃ x, fixE f = x := ⟨_, rfl⟩
  rw [her] at HBK ⊢
  clear hb3 c0 c1 c2 c3 c4 c5 c6 hl1 her
  obtain ⟨c0, c1, c2, c3, c4, c5, c6⟩ := B3.out.cells
  have hl1 := lt_heap B3.out
  by_cases h0 : er = 0
  · have e1 : (er == 0) = true := beq_iff_eq.2 h0
    have HK := Lib.hid (HBK.out h0)
    clear h0
    go_wp2_with fail
    refine (splitRef_any (sb (fxRef f)) _ HRS.out).mono ?_
    rintro e w4 ⟨a, b, rfl, ha, hb, hsa, hsb, hd⟩
    rw [bl_sb, HK.out.1]
    have ea : a = sb f.id := sb_same (by rw [ha.out, bl_sb, bl_sb]; exact HK.out.2.1)
    have eb : b = sb f.rg := sb_same (by rw [hb.out, bl_sb, bl_sb]; exact HK.out.2.2)
    subst ea eb
    have HB4 := Lib.hid (Below.then_ HB3.out hd.below)
    have B4 := Lib.hid (B3.out.below hd.below)
    clear ha hb hsa hsb hd c0 c1 c2 c3 c4 c5 c6 hl1
    obtain ⟨c0, c1, c2, c3, c4, c5, c6⟩ := B4.out.cells
    have hl1 := lt_heap B4.out
    go_wp2_with fail
    refine (splitRef_any _ _ hsz.out).mono ?_
    rintro e w5 ⟨a, b, rfl, ha, hb, hsa, hsb, hd⟩
    have HB5 := Lib.hid (Below.then_ HB4.out hd.below)
    clear hsa hsb hd
    go_wp2_with fail
    refine (rsplitRef_any _ _ hsz.out).mono ?_
    rintro e w6 ⟨a', b', rfl, ha', hb', hsa, hsb, hd⟩
    have HB6 := Lib.hid (Below.then_ HB5.out hd.below)
    have ea : a' = a := sb_same (by rw [ha.out, ha'.out])
    have eb : b' = b := sb_same (by rw [hb.out, hb'.out])
    subst ea eb
    clear ha hb ha' hb' hsa hsb hd
    go_wp2
    go_ret
    exact ⟨rfl, HB6.out⟩
  · have e1 : (er == 0) = false := beq_eq_false_iff_ne.2 h0
    clear h0
    go_wp2_with fail
    refine (splitRef_any _ _ hsz.out).mono ?_
    rintro e w5 ⟨a, b, rfl, ha, hb, hsa, hsb, hd⟩
    have HB5 := Lib.hid (Below.then_ HB3.out hd.below)
    clear hsa hsb hd
    go_wp2_with fail
    refine (rsplitRef_any _ _ hsz.out).mono ?_
    rintro e w6 ⟨a', b', rfl, ha', hb', hsa, hsb, hd⟩
    have HB6 := Lib.hid (Below.then_ HB5.out hd.below)
    have ea : a' = a := sb_same (by rw [ha.out, ha'.out])
    have eb : b' = b := sb_same (by rw [hb.out, hb'.out])
    subst ea eb
    clear ha hb ha' hb' hsa hsb hd
    go_wp2
    go_ret
    exact ⟨rfl, HB6.out⟩
end Go.Proofs.YtempiooclhmeoaaGreatDoor
