/-
  Several texts as one.
  Plain laws: the text of an airway; what an airway without an error has.
  Plain laws: the text of an airway without an error is read back as that airway.
-/
import Derived.Test.YtakgcdefbbgdaaaGreatDoorAwCheck
import Derived.Test.YtakgcdefbbgdaaaGreatDoorMG18
import Derived.Test.YtakgcdefbbgdaaaGreatDoorMG20
import Derived.Test.YtakgcdefbbgdaaaGreatDoorRead
import Derived.Test.YtakgcdefbbgdaaaGreatDoorMG07
namespace Go.Proofs.YtakgcdefbbgdaaaGreatDoor
open Go.RowKit
set_option linter.unusedVariables false
set_option linter.unusedSimpArgs false

def dirWord (d : Nat) : List UInt8 := if d = 0 then [66, 79, 84, 72] else if d = 1 then [70, 79, 82, 87, 65, 82, 68] else [66, 65, 67, 75, 87, 65, 82, 68]
theorem dirWord_len (d : Nat) : (dirWord d).length ≤ 8 := by
  unfold dirWord; split
  · decide
  · split <;> decide
/-- what follows the reference in a point's line -/
def ptTail (p : Pt) (last : Bool) : List UInt8 := if last then [] else 32 :: (winOut p.lo p.hi ++ 32 :: dirWord p.dir)
def ptLine (p : Pt) (last : Bool) : List UInt8 := [86, 73, 65, 32] ++ p.ref ++ (ptTail p last ++ [10])
def ptLines : List Pt → List UInt8
  | [] => []
  | p :: r => ptLine p r.isEmpty ++ ptLines r
def awText (nm : List UInt8) (l : List Pt) : List UInt8 := [65, 73, 82, 87, 65, 89, 32] ++ nm ++ [10] ++ ptLines l
theorem ptLines_step {l : List Pt} {k : Nat} (h : k < l.length) : ptLines (l.drop k) = ptLine l[k] (decide (l.length ≤ k + 1)) ++ ptLines (l.drop (k + 1)) := by
  rw [List.drop_eq_getElem_cons h]
  show ptLine l[k] (l.drop (k + 1)).isEmpty ++ _ = _
  have e : (l.drop (k + 1)).isEmpty = decide (l.length ≤ k + 1) := by
    rw [Bool.eq_iff_iff, List.isEmpty_iff, List.drop_eq_nil_iff, decide_eq_true_iff]
  rw [e]
theorem ptLines_end {l : List Pt} {k : Nat} (h : l.length ≤ k) : ptLines (l.drop k) = [] := by
  rw [List.drop_eq_nil_of_le h]; rfl
theorem winOut_len (lo hi : Int) : (winOut lo hi).length ≤ 140004 := by
  have h1 := altOut_len lo
  have h2 := altOut_len hi
  unfold winOut
  split
  · simp
  · unfold winText
    repeat' split
    all_goals ((try simp only [List.length_append, List.length_cons, List.length_nil]); omega)
theorem chk_zero : ∀ (l : List Pt) (r : List Pt) (i : Nat), chkFrom l i r = 0 → ∀ (j : Nat) (h : j < r.length), ptErr l r[j] (i + j) = 0
  | l, [], i, _, j, h => absurd h (by simp)
  | l, p :: r, i, hc, j, h => by
    have hc2 : (if ptErr l p i = 0 then chkFrom l (i + 1) r else ptErr l p i) = 0 := hc
    split at hc2
    · next h0 =>
      cases j with
      | zero => exact h0
      | succ j =>
        have := chk_zero l r (i + 1) hc2 j (by simpa using h)
        rw [show i + (j + 1) = i + 1 + j by omega]
        exact this
    · next h0 => exact absurd hc2 h0
theorem cutAt_join (c : UInt8) : ∀ l : List UInt8, (cutAt c l).2.2 = true → l = (cutAt c l).1 ++ c :: (cutAt c l).2.1
  | [], h => by simp [cutAt] at h
  | x :: l, h => by
    unfold cutAt at h ⊢
    by_cases hx : x = c
    · rw [if_pos hx]; rw [hx]; rfl
    · rw [if_neg hx] at h ⊢
      exact congrArg (x :: ·) (cutAt_join c l h)
theorem nameB_len {l : List UInt8} {n : Int} (h : nameB l n = true) : (l.length : Int) ≤ n ∧ 0 < l.length := by
  unfold nameB at h
  simp only [Bool.and_eq_true, decide_eq_true_iff] at h
  omega
theorem refErr_len {l : List UInt8} (h : refErr l = 0) : l.length ≤ 13 := by
  unfold refErr at h
  split at h
  · next h1 =>
    split at h
    · next h2 =>
      unfold refB at h2
      rw [Bool.and_eq_true, Bool.or_eq_true] at h2
      have ha := (nameB_len h2.1).1
      have hb : ((cutAt 47 l).2.1.length : Int) ≤ 6 := by
        rcases h2.2 with h3 | h3
        · exact (nameB_len h3).1
        · unfold shortB at h3
          rw [Bool.and_eq_true] at h3
          have := h3.1
          have : (cutAt 47 l).2.1.length = 2 := by simpa using this
          omega
      have hl : l = (cutAt 47 l).1 ++ 47 :: (cutAt 47 l).2.1 := by
        have := cutAt_join 47 l h1
        exact this
      have hlen := congrArg List.length hl
      rw [List.length_append, List.length_cons] at hlen
      omega
    · cases h
  · cases h
/-- what an airway without an error has -/
theorem chk_has {nm : List UInt8} {l : List Pt} (h : chkA nm l = 0) : nm.length ≤ 8 ∧ 2 ≤ l.length ∧ l.length ≤ 40 ∧ ∀ (j : Nat) (hj : j < l.length), l[j].ref.length ≤ 13 ∧ (j + 1 ≠ l.length → l[j].dir ≤ 2 ∧ winOk l[j].lo l[j].hi = true) ∧ (j + 1 = l.length → lastOk l[j] = true) ∧ ¬ idxOf l l[j].ref < j := by
  unfold chkA at h
  split at h
  · next h1 =>
    split at h
    · cases h
    · split at h
      · cases h
      · refine ⟨by have := (nameB_len h1).1; omega, by omega, by omega, fun j hj => ?_⟩
        have h2 := chk_zero l l 0 h j hj
        rw [Nat.zero_add] at h2
        unfold ptErr at h2
        split at h2
        · next h3 =>
          split at h2
          · cases h2
          · next hx =>
            refine ⟨refErr_len h3, ?_, ?_, hx⟩
            · intro hne
              rw [if_neg hne] at h2
              split at h2
              · next hw =>
                split at h2
                · cases h2
                · exact ⟨by omega, hw⟩
              · cases h2
            · intro he
              rw [if_pos he] at h2
              split at h2
              · assumption
              · cases h2
        · cases h2
  · cases h
end Go.Proofs.YtakgcdefbbgdaaaGreatDoor
namespace Go.Proofs.YtakgcdefbbgdaaaGreatDoor
set_option linter.unusedVariables false
set_option linter.unusedSimpArgs false

/-! ### lines of words -/
def joinW (W : List (List (List UInt8))) : List UInt8 := W.flatMap fun ws => unW ws ++ [10]
def numW (n : Nat) : List (List (List UInt8)) → List Rec
  | [] => []
  | ws :: W => (n, colsW 0 ws) :: numW (n + 1) W
/-- words of a line -/
structure WsOk (ws : List (List UInt8)) : Prop where
  ne : ws ≠ []
  tok : ∀ w ∈ ws, w ≠ [] ∧ w.all tokB = true
  len : (unW ws).length ≤ 200
theorem WsOk.no10 {ws : List (List UInt8)} (h : WsOk ws) : (10 : UInt8) ∉ unW ws := fun hm => by
  have := List.all_eq_true.1 (unW_ok ws h.tok).1 10 hm
  exact absurd this (by decide)
theorem linesL_joinW : ∀ (W : List (List (List UInt8))), (∀ ws ∈ W, WsOk ws) → linesL (joinW W) = W.map unW ++ [[]]
  | [], _ => rfl
  | ws :: W, h => by
    have e : joinW (ws :: W) = unW ws ++ 10 :: joinW W := by
      unfold joinW; rw [List.flatMap_cons, List.append_assoc]; rfl
    rw [e, linesL_cut, cutAt_mid (h ws (by simp)).no10, if_pos rfl, linesL_joinW W (fun x hx => h x (List.mem_cons_of_mem _ hx))]
    rfl
theorem recs_joinW : ∀ (W : List (List (List UInt8))) (n : Nat), (∀ ws ∈ W, WsOk ws) → recsL n (W.map unW ++ [[]]) = numW n W ∧ dgsL n (W.map unW ++ [[]]) = []
  | [], n, _ => ⟨rfl, rfl⟩
  | ws :: W, n, h => by
    have hw := h ws (by simp)
    have hs := split_unW hw.tok hw.len
    obtain ⟨i1, i2⟩ := recs_joinW W (n + 1) (fun x hx => h x (List.mem_cons_of_mem _ hx))
    have hr : isRec (unW ws) = true := by
      unfold isRec
      rw [hs.1, hs.2]
      have : (colsW 0 ws).isEmpty = false := by
        rw [List.isEmpty_eq_false_iff]
        intro e
        have := congrArg List.length e
        rw [colsW_len] at this
        exact hw.ne (List.eq_nil_of_length_eq_zero (by simpa using this))
      rw [this]; rfl
    constructor
    · show (if isRec (unW ws) then (n, splitF (unW ws)) :: recsL (n + 1) (W.map unW ++ [[]]) else _) = _
      rw [if_pos hr, hs.2, i1]; rfl
    · show (if splitErr (unW ws) == 0 then dgsL (n + 1) (W.map unW ++ [[]]) else _) = _
      rw [hs.1, if_pos (by decide)]; exact i2
theorem joinW_len : ∀ (W : List (List (List UInt8))), (∀ ws ∈ W, WsOk ws) → (joinW W).length ≤ W.length * 201
  | [], _ => Nat.zero_le _
  | ws :: W, h => by
    have := joinW_len W (fun x hx => h x (List.mem_cons_of_mem _ hx))
    have h2 := (h ws (by simp)).len
    unfold joinW at this ⊢
    rw [List.flatMap_cons, List.length_append, List.length_append, List.length_cons, List.length_cons]
    simp only [List.length_nil]
    omega
/-- lines of words are read as records of them -/
theorem read_joinW {W : List (List (List UInt8))} (h : ∀ ws ∈ W, WsOk ws) (hl : W.length ≤ 1000) : readRecs (joinW W) = numW 1 W ∧ readDgs (joinW W) = [] := by
  have h1 := joinW_len W h
  have h2 := recs_joinW W 1 h
  unfold readRecs readDgs
  rw [if_neg (by omega), if_neg (by omega), linesL_joinW W h, h2.1, h2.2]
  exact ⟨rfl, rfl⟩
/-- a record as a scanner takes it -/
def lnOf (r : Rec) : Ln := ((r.1 : Int), fldI r.2)
/-! ### the lines of an airway -/
def viaWs (p : Pt) (last : Bool) : List (List UInt8) := [86, 73, 65] :: p.ref :: (if last then [] else [winOut p.lo p.hi, dirWord p.dir])
def ptsWs : List Pt → List (List (List UInt8))
  | [] => []
  | p :: r => viaWs p r.isEmpty :: ptsWs r
def awWs (nm : List UInt8) (l : List Pt) : List (List (List UInt8)) := [[65, 73, 82, 87, 65, 89], nm] :: ptsWs l
theorem ptLine_ws (p : Pt) (last : Bool) : ptLine p last = unW (viaWs p last) ++ [10] := by
  unfold ptLine ptTail viaWs
  cases last
  · simp [unW]
  · simp [unW]
theorem ptLines_ws : ∀ l : List Pt, ptLines l = joinW (ptsWs l)
  | [] => rfl
  | p :: r => by
    show ptLine p r.isEmpty ++ ptLines r = joinW (viaWs p r.isEmpty :: ptsWs r)
    rw [ptLine_ws, ptLines_ws r]
    unfold joinW
    rw [List.flatMap_cons]
theorem awText_ws (nm : List UInt8) (l : List Pt) : awText nm l = joinW (awWs nm l) := by
  unfold awText awWs
  rw [ptLines_ws]
  unfold joinW
  rw [List.flatMap_cons]
  simp [unW]
theorem ptsWs_len : ∀ l : List Pt, (ptsWs l).length = l.length
  | [] => rfl
  | p :: r => by
    show (ptsWs r).length + 1 = r.length + 1
    rw [ptsWs_len r]
/-- what the points of an airway without an error have -/
structure PtGood (p : Pt) (last : Bool) : Prop where
  ref : refErr p.ref = 0
  mid : last = false → p.dir ≤ 2 ∧ ¬ winBad p.lo p.hi
  end_ : last = true → p.lo = -200000 ∧ p.hi = 6000000 ∧ p.dir = 0
def PtsGood : List Pt → Prop
  | [] => True
  | p :: r => PtGood p r.isEmpty ∧ PtsGood r
theorem ptErr_ok {l : List Pt} {p : Pt} {i : Nat} (h : ptErr l p i = 0) : PtGood p (decide (i + 1 = l.length)) := by
  unfold ptErr at h
  split at h
  · next h1 =>
    split at h
    · cases h
    · refine ⟨h1, fun h2 => ?_, fun h2 => ?_⟩
      · rw [decide_eq_false_iff_not] at h2
        rw [if_neg h2] at h
        split at h
        · next hw =>
          split at h
          · cases h
          · refine ⟨by omega, ?_⟩
            unfold winOk at hw
            simp only [Bool.and_eq_true, decide_eq_true_eq] at hw
            unfold winBad; omega
        · cases h
      · rw [decide_eq_true_eq] at h2
        rw [if_pos h2] at h
        split at h
        · next hw =>
          unfold lastOk at hw
          simp only [Bool.and_eq_true, decide_eq_true_eq] at hw
          exact ⟨hw.1.1, hw.1.2, hw.2⟩
        · cases h
  · next h1 => exact absurd h (by decide)
theorem chkFrom_ok : ∀ (l r : List Pt) (i : Nat), chkFrom l i r = 0 → i + r.length = l.length → PtsGood r
  | l, [], i, _, _ => trivial
  | l, p :: r, i, hc, hl => by
    have hc2 : (if ptErr l p i = 0 then chkFrom l (i + 1) r else ptErr l p i) = 0 := hc
    rw [List.length_cons] at hl
    split at hc2
    · next h0 =>
      have h1 := ptErr_ok h0
      have e : decide (i + 1 = l.length) = r.isEmpty := by
        cases r with
        | nil => rw [decide_eq_true (by simpa using hl)]; rfl
        | cons q r => rw [decide_eq_false (by rw [List.length_cons] at hl; omega)]; rfl
      rw [e] at h1
      exact ⟨h1, chkFrom_ok l r (i + 1) hc2 (by omega)⟩
    · next h0 => exact absurd hc2 h0
theorem chkA_ok {nm : List UInt8} {l : List Pt} (h : chkA nm l = 0) : nameB nm 8 = true ∧ 2 ≤ l.length ∧ l.length ≤ 40 ∧ PtsGood l := by
  unfold chkA at h
  split at h
  · next h1 =>
    split at h
    · cases h
    · split at h
      · cases h
      · exact ⟨h1, by omega, by omega, chkFrom_ok l l 0 h (by omega)⟩
  · cases h
/-! ### the words of an airway's lines are words -/
theorem cut_join : ∀ l : List UInt8, (cutAt 47 l).2.2 = true → l = (cutAt 47 l).1 ++ 47 :: (cutAt 47 l).2.1 := cutAt_join 47
theorem tok_ref {l : List UInt8} (h : refErr l = 0) : TokW l 13 := by
  have hl := refErr_len h
  unfold refErr at h
  split at h
  · next h1 =>
    split at h
    · next h2 =>
      unfold refB at h2
      rw [Bool.and_eq_true, Bool.or_eq_true] at h2
      have ta := tok_name h2.1
      have tb : TokW (cutAt 47 l).2.1 6 := by
        rcases h2.2 with h3 | h3
        · exact tok_name h3
        · exact tok_short h3
      have he := cut_join l h1
      refine ⟨fun e => ?_, ?_, hl⟩
      · rw [e] at he
        have := congrArg List.length he
        simp at this
      · rw [he, List.all_append, List.all_cons, ta.all, tb.all]; rfl
    · cases h
  · cases h
theorem tok_altB {a : Int} (h : rangedB a = true) : TokW (altOut a) 21 := by
  unfold rangedB at h
  simp only [Bool.and_eq_true, decide_eq_true_eq] at h
  exact tok_alt h.1 h.2
theorem tok_win {lo hi : Int} (h : ¬ winBad lo hi) : TokW (winOut lo hi) 43 := by
  obtain ⟨h1, h2, _⟩ := ranged_of_ok h
  have ta := tok_altB h1
  have tb := tok_altB h2
  have la := ta.len
  have lb := tb.len
  have e : winOut lo hi = winText lo hi := if_neg h
  rw [e]
  unfold winText
  split
  · exact ⟨by decide, by decide, by decide⟩
  · split
    · exact ⟨ta.ne, ta.all, by omega⟩
    · split
      · exact ⟨by simp, by rw [List.all_append, ta.all]; rfl, by rw [List.length_append]; simp; omega⟩
      · split
        · exact ⟨by simp, by rw [List.all_append, tb.all]; rfl, by rw [List.length_append]; simp; omega⟩
        · exact ⟨by simp, by rw [List.all_append, List.all_cons, ta.all, tb.all]; rfl, by rw [List.length_append, List.length_cons]; omega⟩
theorem tok_dir (d : Nat) : TokW (dirWord d) 8 := by
  unfold dirWord
  split
  · exact ⟨by decide, by decide, by decide⟩
  · split
    · exact ⟨by decide, by decide, by decide⟩
    · exact ⟨by decide, by decide, by decide⟩
theorem viaWs_ok {p : Pt} {last : Bool} (h : PtGood p last) : WsOk (viaWs p last) := by
  have tr := tok_ref h.ref
  have lr := tr.len
  have tv : TokW [86, 73, 65] 3 := ⟨by decide, by decide, by decide⟩
  unfold viaWs
  cases last
  · have tw := tok_win (h.mid rfl).2
    have lw := tw.len
    have td := tok_dir p.dir
    have ld := td.len
    refine ⟨by simp, ?_, ?_⟩
    · intro w hw; simp at hw; rcases hw with rfl | rfl | rfl | rfl
      · exact ⟨tv.ne, tv.all⟩
      · exact ⟨tr.ne, tr.all⟩
      · exact ⟨tw.ne, tw.all⟩
      · exact ⟨td.ne, td.all⟩
    · simp [unW]; omega
  · refine ⟨by simp, ?_, ?_⟩
    · intro w hw; simp at hw; rcases hw with rfl | rfl
      · exact ⟨tv.ne, tv.all⟩
      · exact ⟨tr.ne, tr.all⟩
    · simp [unW]; omega
theorem ptsWs_ok : ∀ {l : List Pt}, PtsGood l → ∀ ws ∈ ptsWs l, WsOk ws
  | [], _, ws, h => by cases h
  | p :: r, hp, ws, h => by
    rcases List.mem_cons.1 h with rfl | h
    · exact viaWs_ok hp.1
    · exact ptsWs_ok hp.2 ws h
theorem awWs_ok {nm : List UInt8} {l : List Pt} (h : chkA nm l = 0) : ∀ ws ∈ awWs nm l, WsOk ws := by
  obtain ⟨h1, _, _, h4⟩ := chkA_ok h
  intro ws hw
  rcases List.mem_cons.1 hw with rfl | hw
  · have tn := tok_nameN (k := 8) h1 (by omega)
    have ln := tn.len
    refine ⟨by simp, ?_, ?_⟩
    · intro w hw; simp at hw; rcases hw with rfl | rfl
      · exact ⟨by decide, by decide⟩
      · exact ⟨tn.ne, tn.all⟩
    · simp [unW]; omega
  · exact ptsWs_ok h4 ws hw
/-! ### what is taken of the lines -/
theorem via_back (n : Nat) {p : Pt} {last : Bool} (h : PtGood p last) : (viaS (lnOf (n, colsW 0 (viaWs p last))) last).endB = false ∧ viaP (lnOf (n, colsW 0 (viaWs p last))) last = p := by
  obtain ⟨fs, hfs⟩ : ∃ fs, fldI (colsW 0 (viaWs p last)) = fs := ⟨_, rfl⟩
  have g0 : (fld fs 0).1 = [86, 73, 65] := by rw [← hfs]; exact fld_cols rfl
  have g1 : (fld fs 1).1 = p.ref := by rw [← hfs]; exact fld_cols rfl
  have hlen : fs.length = (viaWs p last).length := by rw [← hfs, fldI_len, colsW_len]
  have hx : lnOf (n, colsW 0 (viaWs p last)) = ((n : Int), fs) := by unfold lnOf; rw [hfs]
  rw [hx]
  have h2 : 2 ≤ fs.length := by rw [hlen]; unfold viaWs; simp
  have s0 : scan0 ((n : Int), fs).1 ((n : Int), fs).2 = StN n fs 0 1 := rfl
  have s1 : via1 ((n : Int), fs) = StN n fs 1 (fld fs 0).2 := by
    unfold via1; rw [s0]
    exact stn_tk (by omega) (by rw [g0]; decide)
  have t1 : (via1 ((n : Int), fs)).text = p.ref := by rw [s1, stn_text (by omega), g1]
  have s2 : via2 ((n : Int), fs) = StN n fs 2 (fld fs 1).2 := by
    unfold via2; rw [s1, Sc.take_got (stn_got (by omega))]; rfl
  have s3 : via3 ((n : Int), fs) = StN n fs 2 (fld fs 1).2 := by
    unfold via3; rw [t1, if_pos h.ref, s2]
  cases hl : last
  · rw [hl] at h hlen hfs
    have g2 : (fld fs 2).1 = winOut p.lo p.hi := by rw [← hfs]; exact fld_cols rfl
    have g3 : (fld fs 3).1 = dirWord p.dir := by rw [← hfs]; exact fld_cols rfl
    have h4 : fs.length = 4 := by rw [hlen]; rfl
    obtain ⟨hd, hw⟩ := h.mid rfl
    have hb := pw_winOut hw
    have s4 : via4 ((n : Int), fs) = StN n fs 3 (fld fs 2).2 := by
      unfold via4; rw [s3]
      exact stn_tk (by omega) (by rw [g2]; exact hb.2.2)
    have hdw : wordAt dirW (dirWord p.dir) 0 = (p.dir : Int) := by
      have : p.dir = 0 ∨ p.dir = 1 ∨ p.dir = 2 := by omega
      rcases this with e | e | e <;> rw [e] <;> decide
    have s5 : via5 ((n : Int), fs) = StN n fs 4 (fld fs 3).2 := by
      unfold via5; rw [s4]
      exact stn_tk (by omega) (by rw [g3]; unfold wordE; rw [hdw, if_neg (by omega)])
    have hv : viaDir ((n : Int), fs) = (p.dir : Int) := by
      unfold viaDir; rw [s4, stn_tv _ _ (by omega), g3]; exact hdw
    constructor
    · show (via5 ((n : Int), fs)).endB = false
      rw [s5, ← h4]
      exact stn_end.2
    · show (⟨(via1 ((n : Int), fs)).text, (via3 ((n : Int), fs)).tv 0 winSLo, (via3 ((n : Int), fs)).tv 0 winSHi, (viaDir ((n : Int), fs) % 256).toNat⟩ : Pt) = p
      rw [t1, s3, stn_tv _ _ (by omega), stn_tv _ _ (by omega), g2, hv]
      have e1 : winSLo (winOut p.lo p.hi) = p.lo := hb.1
      have e2 : winSHi (winOut p.lo p.hi) = p.hi := hb.2.1
      have e3 : ((p.dir : Int) % 256).toNat = p.dir := by omega
      rw [e1, e2, e3]
  · rw [hl] at h hlen
    have h4 : fs.length = 2 := by rw [hlen]; rfl
    obtain ⟨e1, e2, e3⟩ := h.end_ rfl
    constructor
    · show (via3 ((n : Int), fs)).endB = false
      rw [s3, ← h4]
      exact stn_end.2
    · show (⟨(via1 ((n : Int), fs)).text, -200000, 6000000, 0⟩ : Pt) = p
      rw [t1, ← e1, ← e2, ← e3]
theorem pts_back (nm : List UInt8) (l0 c0 : Int) : ∀ (r : List Pt) (n : Nat) (done : List Pt), PtsGood r → chkA nm (done ++ r) = 0 →
    ptsGo nm l0 c0 done ((numW n (ptsWs r)).map lnOf) = ⟨nm, done ++ r, 0, 0, 0, false⟩
  | [], n, done, _, hc => by
    rw [List.append_nil] at hc ⊢
    show (if chkA nm done = 0 then _ else _) = _
    rw [if_pos hc]
  | p :: r, n, done, hp, hc => by
    have hv := via_back n hp.1
    have e : ((numW (n + 1) (ptsWs r)).map lnOf).isEmpty = r.isEmpty := by
      cases r with
      | nil => rfl
      | cons q r => rfl
    show (if (viaS (lnOf (n, colsW 0 (viaWs p r.isEmpty))) ((numW (n + 1) (ptsWs r)).map lnOf).isEmpty).endB then _ else ptsGo nm l0 c0 (done ++ [viaP (lnOf (n, colsW 0 (viaWs p r.isEmpty))) ((numW (n + 1) (ptsWs r)).map lnOf).isEmpty]) ((numW (n + 1) (ptsWs r)).map lnOf)) = _
    rw [e, hv.1, hv.2, if_neg (by decide), pts_back nm l0 c0 r (n + 1) (done ++ [p]) hp.2 (by rw [List.append_assoc]; exact hc), List.append_assoc]
    rfl
theorem take_back {nm : List UInt8} {l : List Pt} (h : chkA nm l = 0) : takeO ((numW 1 (awWs nm l)).map lnOf) = ⟨nm, l, 0, 0, 0, false⟩ := by
  obtain ⟨h1, _, _, h4⟩ := chkA_ok h
  obtain ⟨fs, hfs⟩ : ∃ fs, fldI (colsW 0 [[65, 73, 82, 87, 65, 89], nm]) = fs := ⟨_, rfl⟩
  have g0 : (fld fs 0).1 = [65, 73, 82, 87, 65, 89] := by rw [← hfs]; exact fld_cols rfl
  have g1 : (fld fs 1).1 = nm := by rw [← hfs]; exact fld_cols rfl
  have hlen : fs.length = 2 := by rw [← hfs, fldI_len, colsW_len]; rfl
  have hx : lnOf (1, colsW 0 [[65, 73, 82, 87, 65, 89], nm]) = (((1 : Nat) : Int), fs) := by unfold lnOf; rw [hfs]
  have s0 : scan0 (((1 : Nat) : Int), fs).1 (((1 : Nat) : Int), fs).2 = StN (1 : Nat) fs 0 1 := rfl
  have s1 : hd1 (((1 : Nat) : Int), fs) = StN (1 : Nat) fs 1 (fld fs 0).2 := by
    unfold hd1; rw [s0]
    exact stn_tk (by omega) (by rw [g0]; decide)
  have s2 : hd2 (((1 : Nat) : Int), fs) = StN (1 : Nat) fs 2 (fld fs 1).2 := by
    unfold hd2; rw [s1]
    exact stn_tk (by omega) (by rw [g1]; unfold nameSE; rw [if_pos h1])
  have hn : hdNm (((1 : Nat) : Int), fs) = nm := by
    unfold hdNm; rw [s1, stn_tv _ _ (by omega), g1]; unfold nameSV; rw [if_pos h1]
  show (if (hd2 (lnOf (1, colsW 0 [[65, 73, 82, 87, 65, 89], nm]))).endB then _ else ptsGo (hdNm (lnOf (1, colsW 0 [[65, 73, 82, 87, 65, 89], nm]))) (lnOf (1, colsW 0 [[65, 73, 82, 87, 65, 89], nm])).1 _ [] ((numW 2 (ptsWs l)).map lnOf)) = _
  have he : (StN (1 : Nat) fs 2 (fld fs 1).2).endB = false := by
    have := (stn_end (nu := (1 : Nat)) (fs := fs) (la := (fld fs 1).2)).2
    rw [hlen] at this; exact this
  rw [hx, hn, s2, he, if_neg (by decide), pts_back nm _ _ l 2 [] h4 h]
  rfl
/-! ### what Parse answers -/
def paO (s : List UInt8) : TkO := takeO ((readRecs s).map lnOf)
def paNm (s : List UInt8) : List UInt8 := if readDgs s = [] then (paO s).nm else []
def paPts (s : List UInt8) : List Pt := if readDgs s = [] then (paO s).pts else []
def paDgs (s : List UInt8) : List (Int × Int × Int) := if readDgs s = [] then (if (paO s).bad then [((paO s).dl, (paO s).dc, (paO s).de)] else []) else (readDgs s).map fun d => ((d.1 : Int), d.2.1, d.2.2)
/-- the text of an airway without an error is read back -/
theorem parse_back {nm : List UInt8} {l : List Pt} (h : chkA nm l = 0) : paNm (awText nm l) = nm ∧ paPts (awText nm l) = l ∧ paDgs (awText nm l) = [] := by
  have hl := (chkA_ok h).2.2.1
  have hr := read_joinW (awWs_ok h) (by show (ptsWs l).length + 1 ≤ 1000; rw [ptsWs_len]; omega)
  rw [← awText_ws] at hr
  have ho : paO (awText nm l) = ⟨nm, l, 0, 0, 0, false⟩ := by unfold paO; rw [hr.1]; exact take_back h
  unfold paNm paPts paDgs
  rw [hr.2, if_pos rfl, if_pos rfl, if_pos rfl, ho]
  exact ⟨rfl, rfl, rfl⟩
theorem awText_len {nm : List UInt8} {l : List Pt} (h : chkA nm l = 0) : (awText nm l).length ≤ 8241 := by
  have hl := (chkA_ok h).2.2.1
  have := joinW_len (awWs nm l) (awWs_ok h)
  have e : (awWs nm l).length = l.length + 1 := by show (ptsWs l).length + 1 = _; rw [ptsWs_len]
  rw [awText_ws]
  omega
/-! ### records that were read, as a scanner takes them -/
theorem recs_small : ∀ (ls : List (List UInt8)) (n : Nat), ∀ r ∈ recsL n ls, (∀ f ∈ r.2, f.1.length ≤ 200) ∧ r.2.length ≤ 201
  | [], n, r, h => by cases h
  | l :: ls, n, r, h => by
    have h2 : r ∈ (if isRec l then (n, splitF l) :: recsL (n + 1) ls else recsL (n + 1) ls) := h
    split at h2
    · rcases List.mem_cons.1 h2 with rfl | h2
      · exact splitF_small l
      · exact recs_small ls (n + 1) r h2
    · exact recs_small ls (n + 1) r h2
theorem readRecs_small (s : List UInt8) : (∀ r ∈ readRecs s, (∀ f ∈ r.2, f.1.length ≤ 200) ∧ r.2.length ≤ 201) ∧ (readRecs s).length ≤ 262145 := by
  unfold readRecs
  split
  · exact ⟨by simp, by simp⟩
  · have h1 := recsL_len (linesL s) 1
    have h2 := linesL_len s
    exact ⟨recs_small _ _, by omega⟩
theorem lns_of {w : World} {v : Value} {rs : List Rec} (h : RecsR w v rs) (hs : ∀ r ∈ rs, (∀ f ∈ r.2, f.1.length ≤ 200) ∧ r.2.length ≤ 201) : LnsR w v (rs.map lnOf) := by
  obtain ⟨L, hL, ⟨⟨hl, A, c, hv, hc, hm, hr⟩, _⟩, hF⟩ := h
  have hlen : (rs.map lnOf).length = rs.length := List.length_map _
  have hLl : L.length = rs.length := by rw [← hL, List.length_map]
  refine ⟨A, c, by rw [hlen]; exact hv, by rw [hlen]; exact hc, hm, ?_, fun h0 => ?_⟩
  · intro x hx
    rw [List.mem_map] at hx
    obtain ⟨r, hr, rfl⟩ := hx
    have := hs r hr
    refine ⟨by show (fldI r.2).length ≤ _; rw [fldI_len]; omega, fldI_small this.1 (by omega)⟩
  · rw [hlen] at h0
    obtain ⟨g, o, hA, hg, hx⟩ := hr h0
    refine ⟨g, o, hA, hg, fun k hk => ?_⟩
    rw [hlen] at hk
    have hkL : k < L.length := by omega
    have hrk : L[k].1 = rs[k] := by
      have : (L.map (·.1))[k]? = rs[k]? := by rw [hL]
      rw [List.getElem?_map, List.getElem?_eq_getElem hkL, List.getElem?_eq_getElem hk] at this
      simpa using this
    have hk2 : ∀ c ∈ L.map (fun x => [Value.int .i64 (x.1.1 : Int), x.2]), c.length = 2 := by
      intro c hc; rw [List.mem_map] at hc; obtain ⟨p, _, rfl⟩ := hc; rfl
    have e : rcells L = (L.map fun x => [Value.int .i64 (x.1.1 : Int), x.2]).flatten := by unfold rcells; rw [List.flatMap_def]
    have f0 := flat_at _ hk2 k 0 (by rw [List.length_map]; exact hkL) (by decide)
    have f1 := flat_at _ hk2 k 1 (by rw [List.length_map]; exact hkL) (by decide)
    rw [← e, List.getElem_map] at f0 f1
    have c0 := hx _ _ f0
    have c1 := hx _ _ f1
    rw [Nat.add_zero] at c0
    rw [← Nat.add_assoc] at c1
    rw [hrk] at c0
    refine ⟨L[k].2, ?_, c1, ?_⟩
    · rw [List.getElem_map]; exact c0
    · rw [List.getElem_map]
      have hf := hF _ (List.getElem_mem hkL)
      rw [hrk] at hf
      exact fsr_of hf (hs _ (List.getElem_mem hk)).1
end Go.Proofs.YtakgcdefbbgdaaaGreatDoor
