/-
  The line of a valid fix is read as that fix; the walk of the law FixTexts.
-/
import Derived.Test.YtempiooclhmeoaaGreatDoorFixB
import Derived.Test.YtempiooclhmeoaaGreatDoorFixY
namespace Go.Proofs.YtempiooclhmeoaaGreatDoor
open Go.RowKit
set_option linter.unusedVariables false
set_option linter.unusedSimpArgs false

/-- the bytes of words: neither a blank nor a comment's sign -/
def tokB (c : UInt8) : Bool := decide (36 ≤ c.toNat) && decide (c.toNat ≤ 126)
theorem tokB_iff {c : UInt8} : tokB c = true ↔ 36 ≤ c.toNat ∧ c.toNat ≤ 126 := by unfold tokB; rw [Bool.and_eq_true, decide_eq_true_iff, decide_eq_true_iff]
theorem tok_ne {c : UInt8} (h : tokB c = true) : c ≠ 32 ∧ c ≠ 35 ∧ okC c = true := by
  have h2 := tokB_iff.1 h
  refine ⟨fun e => ?_, fun e => ?_, okC_yes (by omega) (by omega)⟩
  · rw [e] at h2; exact absurd h2.1 (by decide)
  · rw [e] at h2; exact absurd h2.1 (by decide)
theorem name_tok {c : UInt8} (h : nameC c = true) : tokB c = true := by
  unfold nameC upperB digitB at h
  simp only [Bool.or_eq_true, Bool.and_eq_true, decide_eq_true_eq] at h
  exact tokB_iff.2 (by omega)
theorem digB_tok {c : UInt8} (h : digitB c = true) : tokB c = true := by
  unfold digitB at h
  simp only [Bool.and_eq_true, decide_eq_true_eq] at h
  exact tokB_iff.2 (by omega)
theorem digC_tok {c : UInt8} (h : digC c = true) : tokB c = true := by
  unfold digC at h
  simp only [Bool.and_eq_true, decide_eq_true_eq] at h
  exact tokB_iff.2 (by omega)
theorem all_mono {p q : UInt8 → Bool} {l : List UInt8} (h : l.all p = true) (hpq : ∀ c, p c = true → q c = true) : l.all q = true := by
  rw [List.all_eq_true] at *; exact fun c hc => hpq c (h c hc)
theorem dec_short : ∀ (k n : Nat), n < 10 ^ k → 0 < k → (Lib.decDigits n).length ≤ k
  | k + 1, n, h, _ => by
    by_cases hn : n < 10
    · rw [decDigits_small hn]; simp
    · rw [decDigits_big hn, List.length_append, List.length_singleton]
      have hk : 0 < k := by
        rcases Nat.eq_zero_or_pos k with h0 | h0
        · subst h0; omega
        · exact h0
      have := dec_short k (n / 10) (by rw [Nat.pow_succ] at h; omega) hk
      omega
/-! ### what a line is made of -/
structure TokW (l : List UInt8) (N : Nat) : Prop where
  ne : l ≠ []
  all : l.all tokB = true
  len : l.length ≤ N
theorem tok_kw {k : Nat} (h : 1 ≤ k ∧ k ≤ 6) : TokW (kindWord k) 8 := by
  obtain ⟨h1, h2⟩ := h
  match k, h1, h2 with
  | 1, _, _ => exact ⟨by decide, by decide, by decide⟩
  | 2, _, _ => exact ⟨by decide, by decide, by decide⟩
  | 3, _, _ => exact ⟨by decide, by decide, by decide⟩
  | 4, _, _ => exact ⟨by decide, by decide, by decide⟩
  | 5, _, _ => exact ⟨by decide, by decide, by decide⟩
  | 6, _, _ => exact ⟨by decide, by decide, by decide⟩
theorem tok_name {l : List UInt8} (h : nameB l 6 = true) : TokW l 6 := by
  have hl := nameB_len h
  unfold nameB at h
  simp only [Bool.and_eq_true, decide_eq_true_eq] at h
  exact ⟨fun e => by rw [e] at h; simp at h, all_mono h.2 fun c => name_tok, hl⟩
theorem tok_short {l : List UInt8} (h : shortB l = true) : TokW l 6 := by
  unfold shortB at h
  rw [Bool.and_eq_true, beq_iff_eq] at h
  exact ⟨fun e => by rw [e] at h; simp at h, all_mono h.2 fun c => name_tok, by omega⟩
theorem tok_id {l : List UInt8} {k : Nat} (h : identE l k = 0) : TokW l 6 := by
  unfold identE at h
  split at h
  · rename_i h2; rw [Bool.and_eq_true] at h2; exact tok_name h2.1
  · cases h
theorem tok_rg {l : List UInt8} {k : Nat} (h : locE l k = 0) : TokW l 6 := by
  unfold locE at h
  split at h
  · rename_i h2
    simp only [Bool.or_eq_true, Bool.and_eq_true] at h2
    rcases h2 with ⟨_, h2⟩ | ⟨_, h2⟩
    · exact tok_name h2
    · exact tok_short h2
  · cases h
theorem sgn_tok (a : Int) {p m : UInt8} (hp : tokB p = true) (hm : tokB m = true) (c : Nat) : (sgnText a p m c).all tokB = true := by
  unfold sgnText
  split
  · rw [List.all_cons, hm, all_mono (sexa_dig _ _) fun c => digC_tok]; rfl
  · rw [List.all_cons, hp, all_mono (sexa_dig _ _) fun c => digC_tok]; rfl
theorem tok_pos {a b : Int} (h : posB a b = true) : TokW (posOut a b) 19 := by
  have h2 := h
  unfold posB at h2
  rw [Bool.and_eq_true] at h2
  have e : posOut a b = sgnText a 78 83 2 ++ sgnText b 69 87 3 := by
    unfold posOut latOut lonOut; rw [if_pos h, if_pos h2.1, if_pos h2.2]
  refine ⟨?_, ?_, posOut_len a b⟩
  · rw [e]; unfold sgnText; split <;> simp
  · rw [e, List.all_append, sgn_tok a (by decide) (by decide), sgn_tok b (by decide) (by decide)]; rfl
theorem dec_tok (n : Nat) : (Lib.decDigits n).all tokB = true := all_mono (dec_all n) fun c => digB_tok
theorem altAbs_tok {b : Nat} (h : b ≤ 6000000) : TokW (altAbs b) 20 := by
  have l1 := dec_short 8 (b / 100) (by omega) (by omega)
  have l2 := dec_short 2 (b % 100 / 10) (by omega) (by omega)
  have l3 := dec_short 2 (b % 10) (by omega) (by omega)
  by_cases h0 : b % 100 = 0
  · rw [altAbs_whole h0]
    exact ⟨dec_ne _, dec_tok _, by omega⟩
  · rw [altAbs_part h0]
    refine ⟨by simp, ?_, ?_⟩
    · rw [List.all_append, List.all_append, List.all_cons, dec_tok, dec_tok, dec_tok]; rfl
    · simp only [List.length_append, List.length_cons]; omega
theorem tok_alt {a : Int} (h1 : -200000 ≤ a) (h2 : a ≤ 6000000) : TokW (altOut a) 21 := by
  by_cases hn : a < 0
  · obtain ⟨b, rfl⟩ : ∃ b : Nat, a = -(b : Int) := ⟨(-a).toNat, by omega⟩
    rw [altOut_neg (by omega) (by omega)]
    have := altAbs_tok (b := b) (by omega)
    refine ⟨by simp, ?_, ?_⟩
    · rw [List.all_cons, this.all]; rfl
    · rw [List.length_cons]; have := this.len; omega
  · obtain ⟨b, rfl⟩ : ∃ b : Nat, a = (b : Int) := ⟨a.toNat, by omega⟩
    rw [altOut_pos (by omega)]
    have := altAbs_tok (b := b) (by omega)
    exact ⟨this.ne, this.all, by have := this.len; omega⟩
theorem tok_dist {d : Int} (h : distGood d = true) : TokW (distOut d) 21 := by
  have hr := distGood_iff.1 h
  obtain ⟨b, rfl⟩ := Int.eq_ofNat_of_zero_le (a := d) hr.1
  unfold distOut
  rw [if_pos h, Int.toNat_natCast]
  have l1 := dec_short 8 (b / 6000) (by omega) (by omega)
  have l2 := dec_short 8 (b % 6000) (by omega) (by omega)
  by_cases h0 : b % 6000 = 0
  · rw [distAbs_whole h0]
    exact ⟨dec_ne _, dec_tok _, by omega⟩
  · rw [distAbs_part h0]
    refine ⟨by simp, ?_, ?_⟩
    · rw [List.all_append, List.all_cons, dec_tok, dec_tok]; rfl
    · simp only [List.length_append, List.length_cons]; omega
/-! ### the fields of words with one blank between any two -/
def unW : List (List UInt8) → List UInt8
  | [] => []
  | [w] => w
  | w :: ws => w ++ 32 :: unW ws
def colsW : Nat → List (List UInt8) → List Fld
  | _, [] => []
  | p, w :: ws => (w, p + 1) :: colsW (p + w.length + 1) ws
theorem fields_unW : ∀ (ws : List (List UInt8)) (p : Nat), (∀ w ∈ ws, w ≠ [] ∧ w.all tokB = true) → fieldsGo [] 0 p (unW ws) = colsW p ws
  | [], p, _ => rfl
  | [w], p, h => by
    have hw := h w (by simp)
    have hb : ∀ c ∈ w, c ≠ 32 := fun c hc => (tok_ne (List.all_eq_true.1 hw.2 c hc)).1
    have := fieldsGo_start w 0 p [] hw.1 hb
    rw [List.append_nil] at this
    show fieldsGo [] 0 p w = _
    rw [this, fieldsGo_end w p _ [] hw.1 (.inl rfl)]; rfl
  | w :: w2 :: ws, p, h => by
    have hw := h w (by simp)
    have hb : ∀ c ∈ w, c ≠ 32 := fun c hc => (tok_ne (List.all_eq_true.1 hw.2 c hc)).1
    show fieldsGo [] 0 p (w ++ 32 :: unW (w2 :: ws)) = _
    rw [fieldsGo_start w 0 p _ hw.1 hb, fieldsGo_end w p _ _ hw.1 (.inr rfl), fieldsGo_blank, fields_unW (w2 :: ws) (p + w.length + 1) (fun x hx => h x (List.mem_cons_of_mem _ hx))]
    rfl
theorem unW_ok : ∀ (ws : List (List UInt8)), (∀ w ∈ ws, w ≠ [] ∧ w.all tokB = true) → (unW ws).all okC = true ∧ (35 : UInt8) ∉ unW ws
  | [], _ => ⟨rfl, by simp [unW]⟩
  | [w], h => by
    have hw := h w (by simp)
    refine ⟨all_mono hw.2 fun c hc => (tok_ne hc).2.2, fun hm => (tok_ne (List.all_eq_true.1 hw.2 35 hm)).2.1 rfl⟩
  | w :: w2 :: ws, h => by
    have hw := h w (by simp)
    have ih := unW_ok (w2 :: ws) (fun x hx => h x (List.mem_cons_of_mem _ hx))
    show (w ++ 32 :: unW (w2 :: ws)).all okC = true ∧ (35 : UInt8) ∉ w ++ 32 :: unW (w2 :: ws)
    refine ⟨?_, ?_⟩
    · rw [List.all_append, List.all_cons, ih.1, all_mono hw.2 fun c hc => (tok_ne hc).2.2]; rfl
    · rw [List.mem_append, List.mem_cons]
      rintro (hm | hm | hm)
      · exact (tok_ne (List.all_eq_true.1 hw.2 35 hm)).2.1 rfl
      · exact absurd hm (by decide)
      · exact ih.2 hm
theorem split_unW {ws : List (List UInt8)} (h : ∀ w ∈ ws, w ≠ [] ∧ w.all tokB = true) (hl : (unW ws).length ≤ 200) : splitErr (unW ws) = 0 ∧ splitF (unW ws) = colsW 0 ws := by
  have ho := unW_ok ws h
  have hs := split_ok hl ho.1
  refine ⟨hs.2.2, hs.1.trans ?_⟩
  unfold fieldsL
  rw [cutAt_none ho.2]
  exact fields_unW ws 0 h
/-! ### what is taken of the words -/
theorem colsW_at : ∀ (ws : List (List UInt8)) (p k : Nat), ((colsW p ws)[k]?).map (·.1) = ws[k]?
  | [], p, k => by simp [colsW]
  | w :: ws, p, 0 => rfl
  | w :: ws, p, k + 1 => by
    show ((colsW (p + w.length + 1) ws)[k]?).map (·.1) = ws[k]?
    exact colsW_at ws _ k
theorem colsW_len : ∀ (ws : List (List UInt8)) (p : Nat), (colsW p ws).length = ws.length
  | [], _ => rfl
  | w :: ws, p => by
    show (colsW (p + w.length + 1) ws).length + 1 = ws.length + 1
    rw [colsW_len ws]
theorem fld_cols {ws : List (List UInt8)} {k : Nat} {x : List UInt8} (h : ws[k]? = some x) : (fld (fldI (colsW 0 ws)) k).1 = x := by
  have h2 := colsW_at ws 0 k
  rw [h] at h2
  unfold fld fldI
  rw [List.getD_eq_getElem?_getD, List.getElem?_map]
  cases h3 : (colsW 0 ws)[k]? with
  | none => rw [h3] at h2; cases h2
  | some y =>
    rw [h3] at h2
    simp only [Option.map_some, Option.some.injEq] at h2
    simp [h2]
def St (fs : List FldI) (n : Nat) (la : Int) : Sc := ⟨1, fs, n, la, 0, 0, 0⟩
theorem st_got {fs : List FldI} {n : Nat} {la : Int} (h : n < fs.length) : (St fs n la).got = true := Sc.got_iff.2 ⟨rfl, h⟩
theorem st_text {fs : List FldI} {n : Nat} {la : Int} (h : n < fs.length) : (St fs n la).text = (fld fs n).1 := by
  unfold Sc.text; rw [st_got h]; rfl
theorem st_tk {fs : List FldI} {n : Nat} {la : Int} {er : List UInt8 → Int} (h : n < fs.length) (he : er (fld fs n).1 = 0) : (St fs n la).tk er = St fs (n + 1) (fld fs n).2 := by
  rw [Sc.tk_got (st_got h), st_text h, he, Sc.note_zero, Sc.take_got (st_got h)]; rfl
theorem st_nm {fs : List FldI} {n : Nat} {la : Int} {er : List UInt8 → Int} (h : n < fs.length) (he : er (fld fs n).1 = 0) : tkNm (St fs n la) er = St fs (n + 1) (fld fs n).2 := by
  unfold tkNm
  rw [st_text h, he, Sc.note_zero, Sc.take_got (st_got h)]; rfl
theorem st_tv {fs : List FldI} {n : Nat} {la : Int} {α : Type} (z : α) (v : List UInt8 → α) (h : n < fs.length) : (St fs n la).tv z v = v (fld fs n).1 := by
  rw [Sc.tv_got (st_got h), st_text h]
theorem st_end {fs : List FldI} {la : Int} : (St fs fs.length la).endE = 0 ∧ (St fs fs.length la).endB = false := by
  have := end_ok (s := St fs fs.length la) rfl (by show ¬ fs.length < fs.length; omega)
  exact ⟨this.2.2.1, this.2.2.2⟩
theorem kw_at {k : Nat} (h : 1 ≤ k ∧ k ≤ 6) : wordAt kindWords (kindWord k) 0 = (k : Int) - 1 := by
  obtain ⟨h1, h2⟩ := h
  match k, h1, h2 with
  | 1, _, _ => decide
  | 2, _, _ => decide
  | 3, _, _ => decide
  | 4, _, _ => decide
  | 5, _, _ => decide
  | 6, _, _ => decide
/-- the words of a fix's line -/
def fxWs (f : Fx) : List (List UInt8) := [kindWord f.kd, f.id, f.rg, posOut f.lat f.lon] ++ ((if elevB f.kd then [altOut f.el] else []) ++ (if navB f.kd then [distOut f.ra] else []))
theorem elev_nav {k : Nat} (h : elevB k = true) : navB k = false := by
  cases hn : navB k
  · rfl
  · exfalso
    have h1 := elev_yes h
    rcases nav_ways hn with ⟨_, _, _⟩ | ⟨h, _⟩ | ⟨h, _⟩
    · omega
    · cases h
    · cases h
theorem fxLine_unW (f : Fx) : fxLine f = unW (fxWs f) := by
  unfold fxLine fxWs
  cases he : elevB f.kd
  · cases hn : navB f.kd
    · simp [unW]
    · simp [unW]
  · rw [elev_nav he]; simp [unW]
theorem elE_ok {k : Nat} {x : Int} (h : elE k x = 0) : (elevB k = true → -200000 ≤ x ∧ x ≤ 6000000) ∧ (elevB k = false → x = 0) := by
  unfold elE at h
  constructor
  · intro hb; rw [hb, if_pos rfl] at h
    split at h
    · cases h
    · omega
  · intro hb; rw [hb] at h
    simp only [Bool.false_eq_true, if_false] at h
    split at h
    · assumption
    · cases h
theorem raE_ok {k : Nat} {x : Int} (h : raE k x = 0) : (navB k = true → 1 ≤ x ∧ x ≤ 8000000) ∧ (navB k = false → x = 0) := by
  unfold raE at h
  constructor
  · intro hb; rw [hb, if_pos rfl] at h
    split at h
    · cases h
    · omega
  · intro hb; rw [hb] at h
    simp only [Bool.false_eq_true, if_false] at h
    split at h
    · assumption
    · cases h
theorem fxWs_tok {f : Fx} (h : fixE f = 0) : (∀ w ∈ fxWs f, w ≠ [] ∧ w.all tokB = true) ∧ (unW (fxWs f)).length ≤ 200 := by
  have hf := fixE_ok h
  have t1 := tok_kw hf.1
  have t2 := tok_id hf.2.1
  have t3 := tok_rg hf.2.2.1
  have t4 := tok_pos hf.2.2.2.1
  have e5 := elE_ok hf.2.2.2.2.1
  have e6 := raE_ok hf.2.2.2.2.2
  have l1 := t1.len
  have l2 := t2.len
  have l3 := t3.len
  have l4 := t4.len
  unfold fxWs
  cases he : elevB f.kd
  · cases hn : navB f.kd
    · constructor
      · intro w hw; simp at hw; rcases hw with rfl | rfl | rfl | rfl
        all_goals first | exact ⟨t1.ne, t1.all⟩ | exact ⟨t2.ne, t2.all⟩ | exact ⟨t3.ne, t3.all⟩ | exact ⟨t4.ne, t4.all⟩
      · simp [unW]; omega
    · have t5 := tok_dist (d := f.ra) (distGood_iff.2 (by have := e6.1 hn; omega))
      have l5 := t5.len
      constructor
      · intro w hw; simp at hw; rcases hw with rfl | rfl | rfl | rfl | rfl
        all_goals first | exact ⟨t1.ne, t1.all⟩ | exact ⟨t2.ne, t2.all⟩ | exact ⟨t3.ne, t3.all⟩ | exact ⟨t4.ne, t4.all⟩ | exact ⟨t5.ne, t5.all⟩
      · simp [unW]; omega
  · rw [elev_nav he]
    have t5 := tok_alt (e5.1 he).1 (e5.1 he).2
    have l5 := t5.len
    constructor
    · intro w hw; simp at hw; rcases hw with rfl | rfl | rfl | rfl | rfl
      all_goals first | exact ⟨t1.ne, t1.all⟩ | exact ⟨t2.ne, t2.all⟩ | exact ⟨t3.ne, t3.all⟩ | exact ⟨t4.ne, t4.all⟩ | exact ⟨t5.ne, t5.all⟩
    · simp [unW]; omega
/-- the line of a valid fix is read as that fix -/
theorem line_back {f : Fx} (h : fixE f = 0) : paF (fxOut f) = f ∧ paE (fxOut f) = 0 := by
  have hf := fixE_ok h
  have hw := fxWs_tok h
  have e5 := elE_ok hf.2.2.2.2.1
  have e6 := raE_ok hf.2.2.2.2.2
  have ho : fxOut f = unW (fxWs f) := by
    rw [← fxLine_unW]; unfold fxOut; rw [if_pos h]
  have hs := split_unW hw.1 hw.2
  have hS : paS (fxOut f) = St (fldI (colsW 0 (fxWs f))) 0 1 := by
    unfold paS; rw [ho, hs.2]; rfl
  have hE : splitErr (fxOut f) = 0 := by rw [ho]; exact hs.1
  obtain ⟨fs, hfs⟩ : ∃ fs, fldI (colsW 0 (fxWs f)) = fs := ⟨_, rfl⟩
  have hlen : fs.length = (fxWs f).length := by rw [← hfs, fldI_len, colsW_len]
  have g0 : (fld fs 0).1 = kindWord f.kd := by rw [← hfs]; exact fld_cols rfl
  have g1 : (fld fs 1).1 = f.id := by rw [← hfs]; exact fld_cols rfl
  have g2 : (fld fs 2).1 = f.rg := by rw [← hfs]; exact fld_cols rfl
  have g3 : (fld fs 3).1 = posOut f.lat f.lon := by rw [← hfs]; exact fld_cols rfl
  have g4 : ∀ x, (fxWs f)[4]? = some x → (fld fs 4).1 = x := fun x hx => by rw [← hfs]; exact fld_cols hx
  rw [hfs] at hS
  have hl4 : 4 ≤ fs.length := by
    rw [hlen]; unfold fxWs
    rw [List.length_append]
    show 4 ≤ 4 + _
    omega
  have hkw := kw_at hf.1
  have hkd : tkKd (St fs 0 1) = f.kd := by
    unfold tkKd
    rw [st_tv _ _ (by omega), g0, hkw]
    omega
  have s1 : (St fs 0 1).tk (wordE kindWords) = St fs 1 (fld fs 0).2 := st_tk (by omega) (by rw [g0]; unfold wordE; rw [hkw, if_neg (by omega)])
  have s2 : tk2 (St fs 0 1) = St fs 2 (fld fs 1).2 := by
    unfold tk2; rw [s1, hkd]
    exact st_nm (by omega) (by rw [g1]; exact hf.2.1)
  have s3 : tk3 (St fs 0 1) = St fs 3 (fld fs 2).2 := by
    unfold tk3; rw [s2, hkd]
    exact st_nm (by omega) (by rw [g2]; exact hf.2.2.1)
  have hpb := pos_back hf.2.2.2.1
  have s4 : tk4 (St fs 0 1) = St fs 4 (fld fs 3).2 := by
    unfold tk4; rw [s3]
    exact st_tk (by omega) (by rw [g3]; exact hpb.1)
  have hla : (tk3 (St fs 0 1)).tv 0 posPLat = f.lat := by rw [s3, st_tv _ _ (by omega), g3]; exact hpb.2.1
  have hlo : (tk3 (St fs 0 1)).tv 0 posPLon = f.lon := by rw [s3, st_tv _ _ (by omega), g3]; exact hpb.2.2
  have hid : ((St fs 0 1).tk (wordE kindWords)).text = f.id := by rw [s1, st_text (by omega), g1]
  have hrg : (tk2 (St fs 0 1)).text = f.rg := by rw [s2, st_text (by omega), g2]
  have key : ∃ la, tk6 (St fs 0 1) = St fs fs.length la ∧ elV (tk4 (St fs 0 1)) (tkKd (St fs 0 1)) = f.el ∧ raV (tk5 (St fs 0 1)) (tkKd (St fs 0 1)) = f.ra := by
    cases he : elevB f.kd
    · have h5 : tk5 (St fs 0 1) = St fs 4 (fld fs 3).2 := by
        unfold tk5; rw [s4, hkd]; unfold tkEl; rw [he]; rfl
      have hel : elV (tk4 (St fs 0 1)) (tkKd (St fs 0 1)) = f.el := by
        rw [hkd]; unfold elV; rw [he, e5.2 he]; rfl
      cases hn : navB f.kd
      · have hl : fs.length = 4 := by rw [hlen]; unfold fxWs; rw [he, hn]; rfl
        refine ⟨(fld fs 3).2, ?_, hel, ?_⟩
        · unfold tk6; rw [h5, hkd]; unfold tkRa; rw [hn, hl]; rfl
        · rw [hkd]; unfold raV; rw [hn, e6.2 hn]; rfl
      · have hl : fs.length = 5 := by rw [hlen]; unfold fxWs; rw [he, hn]; rfl
        have hg4 : (fld fs 4).1 = distOut f.ra := g4 _ (by unfold fxWs; rw [he, hn]; rfl)
        have hr := e6.1 hn
        have hd := dist_back (d := f.ra) (distGood_iff.2 (by omega))
        have hrv : raV (St fs 4 (fld fs 3).2) f.kd = f.ra := by
          unfold raV; rw [hn, if_pos rfl, st_tv _ _ (by omega), hg4]; exact hd.1
        have hds : tkDs (St fs 4 (fld fs 3).2) = St fs 5 (fld fs 4).2 := by
          unfold tkDs; exact st_tk (by omega) (by rw [hg4]; exact hd.2)
        refine ⟨(fld fs 4).2, ?_, hel, ?_⟩
        · unfold tk6; rw [h5, hkd]; unfold tkRa; rw [hn, if_pos rfl, hrv, if_neg (by omega), hds, hl]
        · rw [hkd, h5]; exact hrv
    · have hn := elev_nav he
      have hl : fs.length = 5 := by rw [hlen]; unfold fxWs; rw [he, hn]; rfl
      have hg4 : (fld fs 4).1 = altOut f.el := g4 _ (by unfold fxWs; rw [he, hn]; rfl)
      have hr := e5.1 he
      have hd := pAlt_altOut (a := f.el) (rangedB_yes hr.1 hr.2)
      have h5 : tk5 (St fs 0 1) = St fs 5 (fld fs 4).2 := by
        unfold tk5; rw [s4, hkd]; unfold tkEl; rw [he, if_pos rfl]
        exact st_tk (by omega) (by rw [hg4]; exact hd.2)
      refine ⟨(fld fs 4).2, ?_, ?_, ?_⟩
      · unfold tk6; rw [h5, hkd]; unfold tkRa; rw [hn, hl]; rfl
      · rw [hkd, s4]; unfold elV; rw [he, if_pos rfl, st_tv _ _ (by omega), hg4]; exact hd.1
      · rw [hkd]; unfold raV; rw [hn, e6.2 hn]; rfl
  obtain ⟨la, k6, kel, kra⟩ := key
  have hfx : tkFx (St fs 0 1) = f := by
    unfold tkFx
    rw [hid, hrg, hla, hlo, kel, kra, hkd]
  have hend := st_end (fs := fs) (la := la)
  constructor
  · unfold paF; rw [if_pos hE, hS]; unfold tkOut; rw [k6, hend.2, if_neg (by decide), hfx]
  · unfold paE; rw [if_pos hE, hS, k6]; exact hend.1
/-! ### the law -/
theorem nil_eq {t : ByteArray} (h : bl t = []) : (t.toList == []) = true := by rw [bl_toList, h]; rfl
set_option maxRecDepth 100000 in
set_option maxHeartbeats 4000000 in
theorem fixTexts_walk (f : Fx) (w : World) (E : Env w) (hi : f.id.length ≤ maxLen) (hr : f.rg.length ≤ maxLen) :
    Calls Tryz.prog 5 #[.agg #[.string (sb f.id), .string (sb f.rg), .int .u8 (f.kd : Int), .int .i64 f.lat, .int .i64 f.lon, .int .i64 f.el, .int .i64 f.ra]] w fun e w' => e = .returned (.bool true) ∧ Below w.heap.size w w' := by
  have B0 := Lib.hid (fxBox_new w f)
  have HB0 : Hid (Below w.heap.size w (w.alloc (.cells #[.string (sb f.id), .string (sb f.rg), .int .u8 (f.kd : Int), .int .i64 f.lat, .int .i64 f.lon, .int .i64 f.el, .int .i64 f.ra] 26))) := (Below.refl _ _).alloc (Nat.le_refl _) _
  have HI := Lib.hid hi
  have HR := Lib.hid hr
  clear hi hr
  go_enter Tryz.func5, Tryz.ntmps5
  go_wp2_with fail
  refine (awakeF_any _ (E.alloc _)).mono ?_
  rintro e w1 ⟨rfl, hb1⟩
  have B1 := Lib.hid (B0.out.below hb1)
  have HB1 := Lib.hid (Below.then_ HB0.out hb1)
  have E1 := E.below HB1.out
  clear hb1
  obtain ⟨c0, c1, c2, c3, c4, c5, c6⟩ := B1.out.cells
  have hl1 := lt_heap B1.out
  go_wp2_with fail
  refine (textF_any f _ E1 HI.out HR.out).mono ?_
  rintro e w2 ⟨t, rfl, ht, hb2⟩
  have B2 := Lib.hid (B1.out.below hb2)
  have HB2 := Lib.hid (Below.then_ HB1.out hb2)
  have E2 := E.below HB2.out
  clear hb2 c0 c1 c2 c3 c4 c5 c6 hl1
  obtain ⟨c0, c1, c2, c3, c4, c5, c6⟩ := B2.out.cells
  have hl1 := lt_heap B2.out
  go_wp2_with fail
  refine (rtextF_any f _ E2 HI.out HR.out).mono ?_
  rintro e w3 ⟨t', rfl, ht', hb3⟩
  obtain rfl : t' = t := bl_inj (by rw [ht'.out, ht.out])
  have B3 := Lib.hid (B2.out.below hb3)
  have HB3 := Lib.hid (Below.then_ HB2.out hb3)
  have E3 := E.below HB3.out
  have HLB := Lib.hid (line_back (f := f))
  have HNO := Lib.hid (fxOut_bad (f := f))
  have HTK : Hid (fixE f = 0 → t'.size ≤ 200) := by
    intro h
    rw [StrPost.size ht.out]
    have := (fxWs_tok h).2
    rw [← fxLine_unW] at this
    unfold fxOut; rw [if_pos h]; exact this
  obtain ⟨er, her⟩ : ∃ x, fixE f = x := ⟨_, rfl⟩
  rw [her] at HLB HNO HTK ⊢
  have HER := Lib.hid her
  have q1 : (er != er) = false := by simp
  clear hb3 c0 c1 c2 c3 c4 c5 c6 hl1 ht' her
  obtain ⟨c0, c1, c2, c3, c4, c5, c6⟩ := B3.out.cells
  have hl1 := lt_heap B3.out
  go_wp2_with fail
  refine (check_any f _ HI.out HR.out).mono ?_
  rintro e w4 ⟨rfl, hb4⟩
  rw [HER.out]
  have B4 := Lib.hid (B3.out.below hb4)
  have HB4 := Lib.hid (Below.then_ HB3.out hb4)
  have E4 := E.below HB4.out
  clear hb4 c0 c1 c2 c3 c4 c5 c6 hl1
  by_cases h0 : er = 0
  · have e1 : (er != 0) = false := bne_eq_false_iff_eq.2 h0
    have HK := Lib.hid (HLB.out h0)
    have HSZ : Hid (t'.size ≤ maxLen) := by unfold Hid maxLen; have := HTK.out h0; omega
    clear h0
    go_wp2_with fail
    refine (parseF_any t' _ E4 HSZ.out).mono ?_
    rintro e w5 ⟨rfl, hb5⟩
    rw [ht.out, HK.out.1, HK.out.2]
    have B5 := Lib.hid (B4.out.below hb5)
    have HB5 := Lib.hid (Below.then_ HB4.out hb5)
    have K5 : Hid (Below w5.heap.size w5 (w5.alloc (.cells #[.string (sb f.id), .string (sb f.rg), .int .u8 (f.kd : Int), .int .i64 f.lat, .int .i64 f.lon, .int .i64 f.el, .int .i64 f.ra] 26))) := (Below.refl _ _).alloc (Nat.le_refl _) _
    have HB6 := Lib.hid (Below.then_ HB5.out K5.out)
    clear hb5
    obtain ⟨c0, c1, c2, c3, c4, c5, c6⟩ := B5.out.cells
    have hl1 := lt_heap B5.out
    go_wp2
    go_ret
    exact ⟨rfl, HB6.out⟩
  · have e1 : (er != 0) = true := bne_iff_ne.2 h0
    have hn := nil_eq (ht.out.trans (HNO.out h0))
    clear h0
    go_wp2
    go_ret
    first | exact ⟨rfl, HB4.out⟩ | exact ⟨ret_bool hn, HB4.out⟩
end Go.Proofs.YtempiooclhmeoaaGreatDoor
