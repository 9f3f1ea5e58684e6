/-
  Contracts: the fix of a line, on both sides.
-/
import Derived.Test.YtempiooclhmeoaaGreatDoorFixQ
import Derived.Test.YtempiooclhmeoaaGreatDoorRSplit
namespace Go.Proofs.YtempiooclhmeoaaGreatDoor
open Go.RowKit
set_option linter.unusedVariables false
set_option linter.unusedSimpArgs false

/-- fields with columns that may be any number -/
def fldI (fs : List Fld) : List FldI := fs.map fun f => (f.1, (f.2 : Int))
theorem fldI_cells (fs : List Fld) : ficells (fldI fs) = fcells fs := by
  unfold ficells fldI fcells
  rw [List.flatMap_map]
theorem fldI_len (fs : List Fld) : (fldI fs).length = fs.length := by unfold fldI; rw [List.length_map]
theorem fieldsGo_le (l : List UInt8) : ∀ (cur : List UInt8) (st pos : Nat), (∀ f ∈ fieldsGo cur st pos l, f.1.length ≤ cur.length + l.length) ∧ (fieldsGo cur st pos l).length ≤ l.length + 1 := by
  induction l with
  | nil =>
    intro cur st pos
    unfold fieldsGo
    split
    · exact ⟨by simp, by simp⟩
    · exact ⟨by simp, by simp⟩
  | cons c l ih =>
    intro cur st pos
    unfold fieldsGo
    rw [List.length_cons]
    split
    · split
      · have := ih [] 0 (pos + 1)
        refine ⟨fun f hf => ?_, by omega⟩
        have := this.1 f hf
        simp at this
        omega
      · have := ih [] 0 (pos + 1)
        refine ⟨fun f hf => ?_, by rw [List.length_cons]; omega⟩
        rw [List.mem_cons] at hf
        rcases hf with rfl | hf
        · show cur.length ≤ _; omega
        · have := this.1 f hf
          simp at this
          omega
    · have := ih (cur ++ [c]) (if cur = [] then pos else st) (pos + 1)
      refine ⟨fun f hf => ?_, by omega⟩
      have := this.1 f hf
      rw [List.length_append, List.length_singleton] at this
      omega
theorem cutAt_fst_len (c : UInt8) (l : List UInt8) : (cutAt c l).1.length ≤ l.length := by
  rcases cutAt_spec c l with ⟨_, h, _⟩ | ⟨_, _, h, _⟩
  · have := congrArg List.length h
    rw [List.length_append, List.length_cons] at this
    omega
  · rw [h]; exact Nat.le_refl _
theorem splitF_small (l : List UInt8) : (∀ f ∈ splitF l, f.1.length ≤ 200) ∧ (splitF l).length ≤ 201 := by
  unfold splitF
  split
  · exact ⟨by simp, by simp⟩
  · rename_i hl
    split
    · unfold fieldsL
      have h := fieldsGo_le (cutAt 35 l).1 [] 0 0
      have h2 := cutAt_fst_len 35 l
      refine ⟨fun f hf => ?_, by omega⟩
      have := h.1 f hf
      simp at this
      omega
    · exact ⟨by simp, by simp⟩
theorem fsr_of {w : World} {v : Value} {fs : List Fld} (h : RdT w 77 2 v fs.length (fcells fs)) (hs : ∀ f ∈ fs, f.1.length ≤ 200) : FsR w w.heap.size v (fldI fs) := by
  obtain ⟨⟨hl, A, c, hv, hc, hm, hr⟩, _⟩ := h
  refine ⟨A, c, by rw [fldI_len]; exact hv, by rw [fldI_len]; exact hc, hm, ?_, fun h0 => ?_⟩
  · intro f hf
    unfold fldI at hf
    rw [List.mem_map] at hf
    obtain ⟨f', hf', rfl⟩ := hf
    have := hs f' hf'
    unfold maxLen
    show f'.1.length ≤ _
    omega
  · rw [fldI_len] at h0
    obtain ⟨g, o, hA, hg, hx⟩ := hr h0
    refine ⟨g, o, hA, hg, ?_⟩
    rw [fldI_cells]; exact hx
theorem fldI_small {fs : List Fld} {N M : Nat} (hs : ∀ f ∈ fs, f.1.length ≤ N) (hNM : N ≤ M) : ∀ f ∈ fldI fs, f.1.length ≤ M := by
  intro f hf
  unfold fldI at hf
  rw [List.mem_map] at hf
  obtain ⟨f', hf', rfl⟩ := hf
  have := hs f' hf'
  show f'.1.length ≤ _
  omega
/-! ### a scanner that has failed -/
theorem tk_bad {s : Sc} (h : s.bad = true) (er : List UInt8 → Int) : s.tk er = s := by
  rw [Sc.tk_no (by unfold Sc.got; rw [h]; rfl), Sc.take_bad h]
theorem tkNm_bad {s : Sc} (h : s.bad = true) (er : List UInt8 → Int) : tkNm s er = s := by
  unfold tkNm; rw [Sc.take_bad h, Sc.note_bad h]
theorem tk6_bad {s : Sc} (h : (s.tk (wordE kindWords)).bad = true) : tk6 s = s.tk (wordE kindWords) := by
  have h2 : tk2 s = s.tk (wordE kindWords) := by unfold tk2; exact tkNm_bad h _
  have h3 : tk3 s = s.tk (wordE kindWords) := by unfold tk3; rw [h2]; exact tkNm_bad h _
  have h4 : tk4 s = s.tk (wordE kindWords) := by unfold tk4; rw [h3]; exact tk_bad h _
  have h5 : tk5 s = s.tk (wordE kindWords) := by
    unfold tk5; rw [h4]; unfold tkEl
    split
    · exact tk_bad h _
    · rfl
  unfold tk6 tkRa
  rw [h5]
  have h6 : tkDs (s.tk (wordE kindWords)) = s.tk (wordE kindWords) := by unfold tkDs; exact tk_bad h _
  rw [h6, Sc.note_bad h]
  simp
theorem tk_none (num : Int) : (tk6 (scan0 num [])).endE = 4 ∧ tkOut (scan0 num []) = fx0 ∧ (tk6 (scan0 num [])).endB = true := by
  have h1 : (scan0 num []).tk (wordE kindWords) = { scan0 num [] with dl := num, dc := 1, de := 4 } := by
    rw [Sc.tk_no rfl, Sc.take_end rfl (by simp [scan0])]; rfl
  have hb : ((scan0 num []).tk (wordE kindWords)).bad = true := by rw [h1]; rfl
  have h6 := tk6_bad hb
  have he := end_bad (s := tk6 (scan0 num [])) (by rw [h6]; exact hb)
  refine ⟨by rw [he.2.2.1, h6, h1], ?_, he.2.2.2⟩
  unfold tkOut; rw [if_pos he.2.2.2]
/-! ### what Parse answers -/
def paS (l : List UInt8) : Sc := scan0 1 (fldI (splitF l))
def paE (l : List UInt8) : Int := if splitErr l = 0 then (tk6 (paS l)).endE else splitErr l
def paF (l : List UInt8) : Fx := if splitErr l = 0 then tkOut (paS l) else fx0
def ParseFPost (l : List UInt8) (w : World) (e : Ending) (w' : World) : Prop :=
  e = .returned (.tuple #[.agg #[.string (sb (paF l).id), .string (sb (paF l).rg), .int .u8 ((paF l).kd : Int), .int .i64 (paF l).lat, .int .i64 (paF l).lon, .int .i64 (paF l).el, .int .i64 (paF l).ra], .int .i64 (paE l)]) ∧ Below w.heap.size w w'
theorem ParseFPost.mk {l : List UInt8} {w w' : World} {f : Fx} {er : Int} (h1 : paF l = f) (h2 : paE l = er) (hb : Below w.heap.size w w') :
    ParseFPost l w (.returned (.tuple #[.agg #[.string (sb f.id), .string (sb f.rg), .int .u8 (f.kd : Int), .int .i64 f.lat, .int .i64 f.lon, .int .i64 f.el, .int .i64 f.ra], .int .i64 er])) w' := by
  subst h1 h2; exact ⟨rfl, hb⟩
theorem endB_E {s : Sc} : s.endB = true ↔ s.endE ≠ 0 := by
  unfold Sc.endB Sc.endE Sc.bad
  by_cases h : s.de = 0
  · by_cases h2 : s.nx < s.fs.length <;> simp [h, h2]
  · simp [h]
set_option maxRecDepth 100000 in
set_option maxHeartbeats 2000000 in
theorem parseF_any (s : ByteArray) (w : World) (E : Env w) (hs : s.size ≤ maxLen) :
    Calls Tryz.prog 20 #[.string s] w (ParseFPost (bl s) w) := by
  have HS := Lib.hid hs
  have O0 : Hid (FxBox (w.alloc (.cells #[.string ⟨#[]⟩, .string ⟨#[]⟩, .int .u8 0, .int .i64 0, .int .i64 0, .int .i64 0, .int .i64 0] 26)) w.heap.size fx0) := heap_alloc_new w _
  have HB0 : Hid (Below w.heap.size w (w.alloc (.cells #[.string ⟨#[]⟩, .string ⟨#[]⟩, .int .u8 0, .int .i64 0, .int .i64 0, .int .i64 0, .int .i64 0] 26))) := (Below.refl _ _).alloc (Nat.le_refl _) _
  have E0 : Env (w.alloc (.cells #[.string ⟨#[]⟩, .string ⟨#[]⟩, .int .u8 0, .int .i64 0, .int .i64 0, .int .i64 0, .int .i64 0] 26)) := E.alloc _
  clear hs
  go_enter Tryz.func20, Tryz.ntmps20
  go_wp2_with fail
  refine (split_any s _ E0 HS.out).mono ?_
  rintro e w1 ⟨v, rfl, hr, hb1⟩
  have O1 := Lib.hid (O0.out.below hb1)
  have HB1 := Lib.hid (HB0.out.trans (hb1.mono (by simp)))
  have E1 := E.below HB1.out
  obtain ⟨sc, hsc⟩ : ∃ x, splitCol (bl s) = x := ⟨_, rfl⟩
  obtain ⟨se, hse⟩ : ∃ x, splitErr (bl s) = x := ⟨_, rfl⟩
  rw [hsc, hse]
  have HSE := Lib.hid hse
  have HR := Lib.hid hr
  clear hsc hse hb1 hr
  obtain ⟨r0, r1, r2, r3, r4, r5, r6⟩ : FxCells w1 w.heap.size ⟨#[]⟩ ⟨#[]⟩ 0 0 0 0 0 := O1.out.cells
  have q0 : w1.frozen? ⟨w.heap.size, 0, none⟩ = false := frozen_of_row w1 _ _ _ _ O1.out
  have q1 : w1.frozen? ⟨w.heap.size, 1, none⟩ = false := frozen_of_row w1 _ _ _ _ O1.out
  have q2 : w1.frozen? ⟨w.heap.size, 2, none⟩ = false := frozen_of_row w1 _ _ _ _ O1.out
  have q3 : w1.frozen? ⟨w.heap.size, 3, none⟩ = false := frozen_of_row w1 _ _ _ _ O1.out
  have q4 : w1.frozen? ⟨w.heap.size, 4, none⟩ = false := frozen_of_row w1 _ _ _ _ O1.out
  have q5 : w1.frozen? ⟨w.heap.size, 5, none⟩ = false := frozen_of_row w1 _ _ _ _ O1.out
  have q6 : w1.frozen? ⟨w.heap.size, 6, none⟩ = false := frozen_of_row w1 _ _ _ _ O1.out
  have hl1 := lt_heap O1.out
  by_cases h0 : se = 0
  · have e1 : (se != 0) = false := bne_eq_false_iff_eq.2 h0
    have HPF : Hid (paF (bl s) = tkOut (paS (bl s))) := by unfold Hid paF; rw [HSE.out, if_pos h0]
    have HPE : Hid (paE (bl s) = (tk6 (paS (bl s))).endE) := by unfold Hid paE; rw [HSE.out, if_pos h0]
    have HSM := Lib.hid (splitF_small (bl s))
    obtain ⟨fs, hfs⟩ : ∃ fs, splitF (bl s) = fs := ⟨_, rfl⟩
    have HPS : Hid (paS (bl s) = scan0 1 (fldI fs)) := by unfold Hid paS; rw [hfs]
    rw [hfs] at HR HSM
    rw [HPS.out] at HPF HPE
    obtain ⟨A, c, rfl, hc, hm⟩ := HR.out.1.form
    unfold maxLen at hm
    obtain ⟨n, hn⟩ : ∃ n, fs.length = n := ⟨_, rfl⟩
    rw [hn] at HR hc ⊢
    have HFR : Hid (FsR w1 w1.heap.size (.slice A n c) (fldI fs)) := fsr_of (by rw [hn]; exact HR.out) HSM.out.1
    have HNN : Hid ((fldI fs).length ≤ 1000000000000) := by unfold Hid; rw [fldI_len]; have := HSM.out.2; omega
    have HFL := Lib.hid (fldI_small HSM.out.1 (show 200 ≤ 100000 by omega))
    have hnl : Hid (fs.length = n) := hn
    clear h0 hfs hn
    go_wp2_with fail
    refine (takeF_any 1 _ (fldI fs) _ E1 HFR.out HNN.out HFL.out).mono ?_
    rintro e w2 ⟨rfl, hb2⟩
    obtain ⟨S, hS⟩ : ∃ S, scan0 1 (fldI fs) = S := ⟨_, rfl⟩
    rw [hS] at HPF HPE ⊢
    obtain ⟨F, hF⟩ : ∃ F, tkOut S = F := ⟨_, rfl⟩
    rw [hF]
    obtain ⟨el, hel⟩ : ∃ x, (tk6 S).endL = x := ⟨_, rfl⟩
    obtain ⟨ec, hec⟩ : ∃ x, (tk6 S).endC = x := ⟨_, rfl⟩
    obtain ⟨ee, hee⟩ : ∃ x, (tk6 S).endE = x := ⟨_, rfl⟩
    have HEB : Hid ((tk6 S).endB = true ↔ ee ≠ 0) := by rw [← hee]; exact endB_E
    have HF := Lib.hid (HPF.out.trans hF)
    have HEE := Lib.hid (HPE.out.trans hee)
    have HBAD : Hid ((tk6 S).endB = true → F = fx0) := by intro h; rw [← hF]; unfold tkOut; rw [if_pos h]
    rw [hel, hec, hee]
    have O2 := Lib.hid (O1.out.below hb2)
    have HB2 := Lib.hid (Below.then_ HB1.out hb2)
    clear hF hel hec hee hb2 r0 r1 r2 r3 r4 r5 r6 q0 q1 q2 q3 q4 q5 q6 hl1 hS
    obtain ⟨r0, r1, r2, r3, r4, r5, r6⟩ : FxCells w2 w.heap.size ⟨#[]⟩ ⟨#[]⟩ 0 0 0 0 0 := O2.out.cells
    have q0 : w2.frozen? ⟨w.heap.size, 0, none⟩ = false := frozen_of_row w2 _ _ _ _ O2.out
    have q1 : w2.frozen? ⟨w.heap.size, 1, none⟩ = false := frozen_of_row w2 _ _ _ _ O2.out
    have q2 : w2.frozen? ⟨w.heap.size, 2, none⟩ = false := frozen_of_row w2 _ _ _ _ O2.out
    have q3 : w2.frozen? ⟨w.heap.size, 3, none⟩ = false := frozen_of_row w2 _ _ _ _ O2.out
    have q4 : w2.frozen? ⟨w.heap.size, 4, none⟩ = false := frozen_of_row w2 _ _ _ _ O2.out
    have q5 : w2.frozen? ⟨w.heap.size, 5, none⟩ = false := frozen_of_row w2 _ _ _ _ O2.out
    have q6 : w2.frozen? ⟨w.heap.size, 6, none⟩ = false := frozen_of_row w2 _ _ _ _ O2.out
    have hl1 := lt_heap O2.out
    obtain ⟨id, rg, kd, la, lo, ev, ra⟩ := F
    cases hb : (tk6 S).endB
    · have hz : ee = 0 := by
        rcases Classical.em (ee = 0) with h | h
        · exact h
        · rw [HEB.out.2 h] at hb; cases hb
      have HZ := Lib.hid hz
      clear hb hz
      go_wp2
      exact bodyPost_ret (v := .tuple #[.agg #[.string (sb id), .string (sb rg), .int .u8 (kd : Int), .int .i64 la, .int .i64 lo, .int .i64 ev, .int .i64 ra], .int .i64 0]) (by simp [results, Tryz.results20, go_sem, r0, r1, r2, r3, r4, r5, r6, hl1]) rfl (ParseFPost.mk HF.out (HEE.out.trans HZ.out) (by repeat (first | with_reducible exact HB2.out | with_reducible refine Below.setCell ?_ (by first | (simp; done) | (simp; omega)) _ | with_reducible refine Below.drew ?_ | with_reducible refine below_drewN' ?_ _ | with_reducible refine Below.alloc ?_ (by first | (simp; done) | (simp; omega)) _)))
    · have HFZ := Lib.hid (HBAD.out hb)
      clear hb
      go_wp2
      go_region
      go_wp2
      exact bodyPost_ret (v := .tuple #[.agg #[.string ⟨#[]⟩, .string ⟨#[]⟩, .int .u8 0, .int .i64 0, .int .i64 0, .int .i64 0, .int .i64 0], .int .i64 ee]) (by simp [results, Tryz.results20, go_sem, r0, r1, r2, r3, r4, r5, r6, hl1]) rfl (ParseFPost.mk (f := fx0) (HF.out.trans HFZ.out) HEE.out (by repeat (first | with_reducible exact HB2.out | with_reducible refine Below.setCell ?_ (by first | (simp; done) | (simp; omega)) _ | with_reducible refine Below.drew ?_ | with_reducible refine below_drewN' ?_ _ | with_reducible refine Below.alloc ?_ (by first | (simp; done) | (simp; omega)) _)))
  · have e1 : (se != 0) = true := bne_iff_ne.2 h0
    have HPF : Hid (paF (bl s) = fx0) := by unfold Hid paF; rw [HSE.out, if_neg h0]
    have HPE : Hid (paE (bl s) = se) := by unfold Hid paE; rw [HSE.out, if_neg h0]
    clear h0
    go_wp2
    exact bodyPost_ret (v := .tuple #[.agg #[.string ⟨#[]⟩, .string ⟨#[]⟩, .int .u8 0, .int .i64 0, .int .i64 0, .int .i64 0, .int .i64 0], .int .i64 se]) (by simp [results, Tryz.results20, go_sem, r0, r1, r2, r3, r4, r5, r6, hl1]) rfl (ParseFPost.mk (f := fx0) HPF.out HPE.out (by repeat (first | with_reducible exact HB1.out | with_reducible refine Below.setCell ?_ (by first | (simp; done) | (simp; omega)) _ | with_reducible refine Below.drew ?_ | with_reducible refine below_drewN' ?_ _ | with_reducible refine Below.alloc ?_ (by first | (simp; done) | (simp; omega)) _)))
set_option maxRecDepth 100000 in
set_option maxHeartbeats 2000000 in
theorem rparseF_any (s : ByteArray) (w : World) (E : Env w) (hs : s.size ≤ maxLen) :
    Calls Tryz.prog 21 #[.string s] w (ParseFPost (bl s) w) := by
  have HS := Lib.hid hs
  have O0 : Hid (FxBox (w.alloc (.cells #[.string ⟨#[]⟩, .string ⟨#[]⟩, .int .u8 0, .int .i64 0, .int .i64 0, .int .i64 0, .int .i64 0] 26)) w.heap.size fx0) := heap_alloc_new w _
  have HB0 : Hid (Below w.heap.size w (w.alloc (.cells #[.string ⟨#[]⟩, .string ⟨#[]⟩, .int .u8 0, .int .i64 0, .int .i64 0, .int .i64 0, .int .i64 0] 26))) := (Below.refl _ _).alloc (Nat.le_refl _) _
  have E0 : Env (w.alloc (.cells #[.string ⟨#[]⟩, .string ⟨#[]⟩, .int .u8 0, .int .i64 0, .int .i64 0, .int .i64 0, .int .i64 0] 26)) := E.alloc _
  clear hs
  go_enter Tryz.func21, Tryz.ntmps21
  go_wp2_with fail
  refine (rsplit_any s _ HS.out).mono ?_
  rintro e w1 ⟨v, rfl, hr, hb1⟩
  have O1 := Lib.hid (O0.out.below hb1)
  have HB1 := Lib.hid (HB0.out.trans (hb1.mono (by simp)))
  have E1 := E.below HB1.out
  obtain ⟨sc, hsc⟩ : ∃ x, splitCol (bl s) = x := ⟨_, rfl⟩
  obtain ⟨se, hse⟩ : ∃ x, splitErr (bl s) = x := ⟨_, rfl⟩
  rw [hsc, hse]
  have HSE := Lib.hid hse
  have HR := Lib.hid hr
  clear hsc hse hb1 hr
  obtain ⟨r0, r1, r2, r3, r4, r5, r6⟩ : FxCells w1 w.heap.size ⟨#[]⟩ ⟨#[]⟩ 0 0 0 0 0 := O1.out.cells
  have q0 : w1.frozen? ⟨w.heap.size, 0, none⟩ = false := frozen_of_row w1 _ _ _ _ O1.out
  have q1 : w1.frozen? ⟨w.heap.size, 1, none⟩ = false := frozen_of_row w1 _ _ _ _ O1.out
  have q2 : w1.frozen? ⟨w.heap.size, 2, none⟩ = false := frozen_of_row w1 _ _ _ _ O1.out
  have q3 : w1.frozen? ⟨w.heap.size, 3, none⟩ = false := frozen_of_row w1 _ _ _ _ O1.out
  have q4 : w1.frozen? ⟨w.heap.size, 4, none⟩ = false := frozen_of_row w1 _ _ _ _ O1.out
  have q5 : w1.frozen? ⟨w.heap.size, 5, none⟩ = false := frozen_of_row w1 _ _ _ _ O1.out
  have q6 : w1.frozen? ⟨w.heap.size, 6, none⟩ = false := frozen_of_row w1 _ _ _ _ O1.out
  have hl1 := lt_heap O1.out
  by_cases h0 : se = 0
  · have e1 : (se != 0) = false := bne_eq_false_iff_eq.2 h0
    have HPF : Hid (paF (bl s) = tkOut (paS (bl s))) := by unfold Hid paF; rw [HSE.out, if_pos h0]
    have HPE : Hid (paE (bl s) = (tk6 (paS (bl s))).endE) := by unfold Hid paE; rw [HSE.out, if_pos h0]
    have HSM := Lib.hid (splitF_small (bl s))
    obtain ⟨fs, hfs⟩ : ∃ fs, splitF (bl s) = fs := ⟨_, rfl⟩
    have HPS : Hid (paS (bl s) = scan0 1 (fldI fs)) := by unfold Hid paS; rw [hfs]
    rw [hfs] at HR HSM
    rw [HPS.out] at HPF HPE
    obtain ⟨A, c, rfl, hc, hm⟩ := HR.out.1.form
    unfold maxLen at hm
    obtain ⟨n, hn⟩ : ∃ n, fs.length = n := ⟨_, rfl⟩
    rw [hn] at HR hc ⊢
    have HFR : Hid (FsR w1 w1.heap.size (.slice A n c) (fldI fs)) := fsr_of (by rw [hn]; exact HR.out) HSM.out.1
    have HNN : Hid ((fldI fs).length ≤ 1000000000000) := by unfold Hid; rw [fldI_len]; have := HSM.out.2; omega
    have HFL := Lib.hid (fldI_small HSM.out.1 (show 200 ≤ 100000 by omega))
    have hnl : Hid (fs.length = n) := hn
    clear h0 hfs hn
    rcases Nat.eq_zero_or_pos n with hn0 | hn0
    · subst hn0
      have hnil : fs = [] := List.eq_nil_of_length_eq_zero hnl.out
      subst hnil
      have HT := Lib.hid (tk_none 1)
      have e2 : (((0 : Nat) : Int) == 0) = true := rfl
      clear e2
      go_wp2
      exact bodyPost_ret (v := .tuple #[.agg #[.string ⟨#[]⟩, .string ⟨#[]⟩, .int .u8 0, .int .i64 0, .int .i64 0, .int .i64 0, .int .i64 0], .int .i64 4]) (by simp [results, Tryz.results21, go_sem, r0, r1, r2, r3, r4, r5, r6, hl1]) rfl (ParseFPost.mk (f := fx0) (HPF.out.trans HT.out.2.1) (HPE.out.trans HT.out.1) (by repeat (first | with_reducible exact HB1.out | with_reducible refine Below.setCell ?_ (by first | (simp; done) | (simp; omega)) _ | with_reducible refine Below.drew ?_ | with_reducible refine below_drewN' ?_ _ | with_reducible refine Below.alloc ?_ (by first | (simp; done) | (simp; omega)) _)))
    have e2 : ((n : Int) == 0) = false := beq_eq_false_iff_ne.2 (by omega)
    go_wp2_with fail
    refine (rtakeF_any 1 _ (fldI fs) _ E1 HFR.out HNN.out HFL.out).mono ?_
    rintro e w2 ⟨rfl, hb2⟩
    obtain ⟨S, hS⟩ : ∃ S, scan0 1 (fldI fs) = S := ⟨_, rfl⟩
    rw [hS] at HPF HPE ⊢
    obtain ⟨F, hF⟩ : ∃ F, tkOut S = F := ⟨_, rfl⟩
    rw [hF]
    obtain ⟨el, hel⟩ : ∃ x, (tk6 S).endL = x := ⟨_, rfl⟩
    obtain ⟨ec, hec⟩ : ∃ x, (tk6 S).endC = x := ⟨_, rfl⟩
    obtain ⟨ee, hee⟩ : ∃ x, (tk6 S).endE = x := ⟨_, rfl⟩
    have HEB : Hid ((tk6 S).endB = true ↔ ee ≠ 0) := by rw [← hee]; exact endB_E
    have HF := Lib.hid (HPF.out.trans hF)
    have HEE := Lib.hid (HPE.out.trans hee)
    have HBAD : Hid ((tk6 S).endB = true → F = fx0) := by intro h; rw [← hF]; unfold tkOut; rw [if_pos h]
    rw [hel, hec, hee]
    have O2 := Lib.hid (O1.out.below hb2)
    have HB2 := Lib.hid (Below.then_ HB1.out hb2)
    clear hF hel hec hee hb2 r0 r1 r2 r3 r4 r5 r6 q0 q1 q2 q3 q4 q5 q6 hl1 hS
    obtain ⟨r0, r1, r2, r3, r4, r5, r6⟩ : FxCells w2 w.heap.size ⟨#[]⟩ ⟨#[]⟩ 0 0 0 0 0 := O2.out.cells
    have q0 : w2.frozen? ⟨w.heap.size, 0, none⟩ = false := frozen_of_row w2 _ _ _ _ O2.out
    have q1 : w2.frozen? ⟨w.heap.size, 1, none⟩ = false := frozen_of_row w2 _ _ _ _ O2.out
    have q2 : w2.frozen? ⟨w.heap.size, 2, none⟩ = false := frozen_of_row w2 _ _ _ _ O2.out
    have q3 : w2.frozen? ⟨w.heap.size, 3, none⟩ = false := frozen_of_row w2 _ _ _ _ O2.out
    have q4 : w2.frozen? ⟨w.heap.size, 4, none⟩ = false := frozen_of_row w2 _ _ _ _ O2.out
    have q5 : w2.frozen? ⟨w.heap.size, 5, none⟩ = false := frozen_of_row w2 _ _ _ _ O2.out
    have q6 : w2.frozen? ⟨w.heap.size, 6, none⟩ = false := frozen_of_row w2 _ _ _ _ O2.out
    have hl1 := lt_heap O2.out
    obtain ⟨id, rg, kd, la, lo, ev, ra⟩ := F
    cases hb : (tk6 S).endB
    · have hz : ee = 0 := by
        rcases Classical.em (ee = 0) with h | h
        · exact h
        · rw [HEB.out.2 h] at hb; cases hb
      have HZ := Lib.hid hz
      clear hb hz
      go_wp2
      exact bodyPost_ret (v := .tuple #[.agg #[.string (sb id), .string (sb rg), .int .u8 (kd : Int), .int .i64 la, .int .i64 lo, .int .i64 ev, .int .i64 ra], .int .i64 0]) (by simp [results, Tryz.results21, go_sem, r0, r1, r2, r3, r4, r5, r6, hl1]) rfl (ParseFPost.mk HF.out (HEE.out.trans HZ.out) (by repeat (first | with_reducible exact HB2.out | with_reducible refine Below.setCell ?_ (by first | (simp; done) | (simp; omega)) _ | with_reducible refine Below.drew ?_ | with_reducible refine below_drewN' ?_ _ | with_reducible refine Below.alloc ?_ (by first | (simp; done) | (simp; omega)) _)))
    · have HFZ := Lib.hid (HBAD.out hb)
      clear hb
      go_wp2
      go_region
      go_wp2
      exact bodyPost_ret (v := .tuple #[.agg #[.string ⟨#[]⟩, .string ⟨#[]⟩, .int .u8 0, .int .i64 0, .int .i64 0, .int .i64 0, .int .i64 0], .int .i64 ee]) (by simp [results, Tryz.results21, go_sem, r0, r1, r2, r3, r4, r5, r6, hl1]) rfl (ParseFPost.mk (f := fx0) (HF.out.trans HFZ.out) HEE.out (by repeat (first | with_reducible exact HB2.out | with_reducible refine Below.setCell ?_ (by first | (simp; done) | (simp; omega)) _ | with_reducible refine Below.drew ?_ | with_reducible refine below_drewN' ?_ _ | with_reducible refine Below.alloc ?_ (by first | (simp; done) | (simp; omega)) _)))
  · have e1 : (se != 0) = true := bne_iff_ne.2 h0
    have HPF : Hid (paF (bl s) = fx0) := by unfold Hid paF; rw [HSE.out, if_neg h0]
    have HPE : Hid (paE (bl s) = se) := by unfold Hid paE; rw [HSE.out, if_neg h0]
    clear h0
    go_wp2
    exact bodyPost_ret (v := .tuple #[.agg #[.string ⟨#[]⟩, .string ⟨#[]⟩, .int .u8 0, .int .i64 0, .int .i64 0, .int .i64 0, .int .i64 0], .int .i64 se]) (by simp [results, Tryz.results21, go_sem, r0, r1, r2, r3, r4, r5, r6, hl1]) rfl (ParseFPost.mk (f := fx0) HPF.out HPE.out (by repeat (first | with_reducible exact HB1.out | with_reducible refine Below.setCell ?_ (by first | (simp; done) | (simp; omega)) _ | with_reducible refine Below.drew ?_ | with_reducible refine below_drewN' ?_ _ | with_reducible refine Below.alloc ?_ (by first | (simp; done) | (simp; omega)) _)))
end Go.Proofs.YtempiooclhmeoaaGreatDoor
