/-
  Several texts as one.
-/
import Derived.Test.YtgmehlgfilpleaaGreatDoorMG06
import Derived.Test.YtgmehlgfilpleaaGreatDoorMG08
import Derived.Test.YtgmehlgfilpleaaGreatDoorMG03
import Derived.Test.YtgmehlgfilpleaaGreatDoorMG12
namespace Go.Proofs.YtgmehlgfilpleaaGreatDoor
open Go.RowKit
set_option linter.unusedVariables false
set_option linter.unusedSimpArgs false

theorem infoField : (Tryz.prog.info? 244).map (fun i => (i.zero, i.size, i.bytes)) = some (some (.agg #[.string ⟨#[]⟩, .int .i64 0]), 2, 24) := by kernel_rfl

def SplitPost (s : ByteArray) (w : World) (e : Ending) (w' : World) : Prop :=
  ∃ v, e = .returned (.tuple #[v, .int .i64 (splitCol (bl s)), .int .i64 (splitErr (bl s))]) ∧ RdT w' 244 2 v (splitF (bl s)).length (fcells (splitF (bl s))) ∧ Below w.heap.size w w'
theorem splitPost {s : ByteArray} {w w' : World} {v : Value} {c e : Int} {fs : List Fld} (h1 : c = splitCol (bl s)) (h2 : e = splitErr (bl s)) (h3 : fs = splitF (bl s)) (hr : RdT w' 244 2 v fs.length (fcells fs)) (hb : Below w.heap.size w w') :
    SplitPost s w (.returned (.tuple #[v, .int .i64 c, .int .i64 e])) w' := by
  subst h1 h2 h3; exact ⟨v, rfl, hr, hb⟩
set_option maxHeartbeats 400000 in
theorem split_longC (s : ByteArray) (w : World) (h : 200 < s.size) (hs : s.size ≤ maxLen) :
    Calls Tryz.prog 181 #[.string s] w (SplitPost s w) := by
  unfold maxLen at hs
  have h1 : (200 : Int) < (s.size : Int) := by omega
  have H := Lib.hid (split_long (l := bl s) h)
  go_enter Tryz.func181, Tryz.ntmps181
  go_wp2
  go_ret3
  exact splitPost H.out.2.1.symm H.out.2.2.symm H.out.1.symm (RdT.nil _ _ _) (Below.refl _ _)
theorem drop_cons {a : ByteArray} {j : Nat} (h : j < a.size) : (bl a).drop j = a[j] :: (bl a).drop (j + 1) := List.drop_eq_getElem_cons (l := bl a) h
theorem u8_32 {c : UInt8} (h : (c.toNat : Int) = 32) : c = 32 := (u8_eq (n := 32) (by omega)).1 (by omega)
theorem take_ext {a : ByteArray} {j q : Nat} : ((bl a).drop j).take (q - j) = bl (a.extract j q) := (bl_extract a j q).symm
theorem nb_step {a : ByteArray} {j q : Nat} (hjq : j ≤ q) (h : q < a.size) (hnb : ∀ c ∈ ((bl a).drop j).take (q - j), c ≠ 32) (e : ((a[q].toNat : Int) != 32) = true) : ∀ c ∈ ((bl a).drop j).take (q + 1 - j), c ≠ 32 := by
  have hl : q - j < ((bl a).drop j).length := by rw [List.length_drop, bl_len]; omega
  rw [show q + 1 - j = (q - j) + 1 by omega, List.take_succ_eq_append_getElem hl]
  intro c hc
  rw [List.mem_append] at hc
  rcases hc with hc | hc
  · exact hnb c hc
  · rw [List.mem_singleton] at hc
    have h3 : ((bl a).drop j)[q - j]? = some a[q] := by rw [List.getElem?_drop, show j + (q - j) = q by omega, bl_get? a q h]
    rw [List.getElem?_eq_getElem hl, ← hc, Option.some.injEq] at h3
    rw [h3]
    intro e2
    rw [e2] at e
    exact absurd e (by decide)
theorem token_at {a : ByteArray} {j q : Nat} (hjq : j ≤ q) (hq : q ≤ a.size) (hne : j ≠ q) (hnb : ∀ c ∈ ((bl a).drop j).take (q - j), c ≠ 32) (he : (∃ h : q < a.size, (a[q].toNat : Int) = 32) ∨ a.size ≤ q) :
    j < q ∧ fieldsGo [] 0 j ((bl a).drop j) = (bl (a.extract j q), j + 1) :: fieldsGo [] 0 q ((bl a).drop q) := by
  refine ⟨by omega, ?_⟩
  have hs : (bl a).drop j = ((bl a).drop j).take (q - j) ++ (bl a).drop q := by
    conv => lhs; rw [← List.take_append_drop (q - j) ((bl a).drop j)]
    rw [List.drop_drop, show j + (q - j) = q by omega]
  have hl : (((bl a).drop j).take (q - j)).length = q - j := by rw [List.length_take, List.length_drop, bl_len]; omega
  have h0 : ((bl a).drop j).take (q - j) ≠ [] := by
    intro e; rw [e] at hl; simp at hl; omega
  have hend : (bl a).drop q = [] ∨ ((bl a).drop q).head? = some 32 := by
    rcases he with ⟨h, e⟩ | h
    · right; rw [drop_cons h, u8_32 e]; rfl
    · left; exact List.drop_eq_nil_of_le (by rw [bl_len]; omega)
  rw [hs, fieldsGo_start _ _ _ _ h0 hnb, fieldsGo_end _ _ _ _ h0 hend, hl, take_ext, show j + (q - j) = q by omega]
/-- what an append of a field does to what is owned -/
theorem field_step {base : Nat} {w0 wr w' : World} {v v' : Value} {e : TypeId} {done : List Fld} {t : ByteArray} {j : Nat} {o : Obj}
    (hlt : ∀ k, v.ownBlock = some k → base ≤ k ∧ k < wr.heap.size) (hb : Below base w0 wr) (hown' : w'.ownsRow base e 2 v' (done.length + 1) (fcells done ++ [.string t, .int .i64 ((j : Int) + 1)])) (hg : (wr.alloc o).grownBy w' v.ownBlock) (hB : base ≤ wr.heap.size) :
    w'.ownsRow base e 2 v' (done ++ [(bl t, j + 1)]).length (fcells (done ++ [(bl t, j + 1)])) ∧ Below base w0 w' := by
  refine ⟨?_, (hb.alloc hB o).grown hg (by simp; omega) (fun k hk => (hlt k hk).1)⟩
  rw [fcells_snoc, sb_bl, List.length_append]
  exact hown'
set_option maxRecDepth 100000 in
set_option maxHeartbeats 1000000 in
theorem split_short (s : ByteArray) (w : World) (E : Env w) (hs : s.size ≤ 200) :
    Calls Tryz.prog 181 #[.string s] w (SplitPost s w) := by
  have h1 : (s.size : Int) ≤ 200 := by omega
  obtain ⟨i0, hi, hz0, hz1, hz2⟩ := info_parts infoField
  go_enter Tryz.func181, Tryz.ntmps181
  go_wp2
  go_loop [14] (fun i => ∃ k : Nat, k ≤ s.size ∧ i = .int .i64 k ∧ Hid (((bl s).take k).all okC = true)) (fun i => s.size - (intOf i).toNat)
  case atStart => exact ⟨0, Nat.zero_le _, rfl, rfl⟩
  case round =>
    obtain ⟨k, hk, rfl, hall⟩ := hrel
    by_cases h : k < s.size
    · have hc : ((32 : Int) ≤ (s[k].toNat : Int) ∧ (s[k].toNat : Int) ≤ 126) ∨ ((s[k].toNat : Int) < 32) ∨ ((32 : Int) ≤ (s[k].toNat : Int) ∧ 126 < (s[k].toNat : Int)) := by omega
      rcases hc with ⟨c1, c2⟩ | c1 | ⟨c1, c2⟩
      · go_wp2
        go_round
        case rel => exact ⟨k + 1, h, by go_num, all_take_succ hall.out h (okC_yes c1 c2)⟩
        case measure => simp [intOf]; omega
      · have H := Lib.hid (split_bad (l := bl s) hs h hall.out (okC_no (.inl c1)))
        go_wp2
        go_ret3
        exact splitPost (by have := H.out.2.1; omega) H.out.2.2.symm H.out.1.symm (RdT.nil _ _ _) (Below.refl _ _)
      · have H := Lib.hid (split_bad (l := bl s) hs h hall.out (okC_no (.inr c2)))
        go_wp2
        go_ret3
        exact splitPost (by have := H.out.2.1; omega) H.out.2.2.symm H.out.1.symm (RdT.nil _ _ _) (Below.refl _ _)
    · have H := Lib.hid (split_ok (l := bl s) hs (all_take_all hall.out (by rw [bl_len]; omega)))
      clear hall
      go_wp2_with fail
      refine (cut1 s 35 _ E (by omega)).mono ?_
      rintro e w1 ⟨a, b, f, rfl, hcut, has, hbs, hb1⟩
      have hfl : Hid (fieldsL (bl s) = fieldsGo [] 0 0 (bl a)) := by unfold Hid fieldsL; rw [hcut.out]
      clear hcut
      go_wp2_with fail
      go_loopw [6, 7] (fun v i wr => ∃ (j : Nat) (done : List Fld), j ≤ a.size ∧ i = .int .i64 j ∧ done.length ≤ j ∧ wr.ownsRow w1.heap.size 244 2 v done.length (fcells done) ∧ Hid (fieldsL (bl s) = done ++ fieldsGo [] 0 j ((bl a).drop j)) ∧ Below w1.heap.size w1 wr) (fun _ i _ => a.size - (intOf i).toNat)
      case atStart => exact ⟨0, [], Nat.zero_le _, rfl, Nat.le_refl _, World.ownsRow_nil _ _ _ _, hfl.out, Below.refl _ _⟩
      case round =>
        obtain ⟨j, done, hj, rfl, hdl, hown, hrest, hbr⟩ := hrel
        by_cases hlt : j < a.size
        · by_cases hsp : (a[j].toNat : Int) = 32
          · have e1 : ((a[j].toNat : Int) == 32) = true := beq_iff_eq.2 hsp
            have HS := Lib.hid hsp
            clear hsp
            go_wp2
            go_roundw
            case rel => exact ⟨j + 1, done, hlt, by go_num, by omega, hown, by unfold Hid; rw [hrest.out, drop_cons hlt, u8_32 HS.out, fieldsGo_blank], hbr⟩
            case measure => simp [intOf]; omega
          · have e1 : ((a[j].toNat : Int) == 32) = false := beq_eq_false_iff_ne.2 hsp
            have HS := Lib.hid hsp
            clear hsp
            go_wp2
            go_loop [7] (fun i => ∃ q : Nat, j ≤ q ∧ q ≤ a.size ∧ i = .int .i64 q ∧ Hid (∀ c ∈ ((bl a).drop j).take (q - j), c ≠ 32)) (fun i => a.size - (intOf i).toNat)
            case atStart => exact ⟨j, Nat.le_refl _, hj, rfl, by unfold Hid; simp⟩
            case round =>
              obtain ⟨q, hjq, hq, rfl, hnb⟩ := hrel
              have hcase : (∃ h : q < a.size, Hid (((a[q].toNat : Int) != 32) = true)) ∨ ((∃ h : q < a.size, Hid (((a[q].toNat : Int) != 32) = false)) ∨ a.size ≤ q) ∧ Hid (j < q ∧ fieldsGo [] 0 j ((bl a).drop j) = (bl (a.extract j q), j + 1) :: fieldsGo [] 0 q ((bl a).drop q)) := by
                by_cases h : q < a.size
                · by_cases hb : (a[q].toNat : Int) = 32
                  · exact .inr ⟨.inl ⟨h, bne_eq_false_iff_eq.2 hb⟩, token_at hjq hq (fun e => by subst e; exact HS.out hb) hnb.out (.inl ⟨h, hb⟩)⟩
                  · exact .inl ⟨h, bne_iff_ne.2 hb⟩
                · exact .inr ⟨.inr (by omega), token_at hjq hq (by omega) hnb.out (.inr (by omega))⟩
              rcases hcase with ⟨h, e2⟩ | ⟨⟨h, e2⟩ | h, htok⟩
              · have e2 := e2.out
                go_wp2
                go_round
                case rel => exact ⟨q + 1, by omega, h, by go_num, nb_step hjq h hnb.out e2⟩
                case measure => simp [intOf]; omega
              all_goals try have e2 := Hid.out e2
              all_goals
                go_wp2_with (at_builtin; refine wpList_append_own _ rfl (.tmp 59) (.tmp 67) 182 rfl w1.heap.size 244 i0 (.agg #[.string ⟨#[]⟩, .int .i64 0]) 2 24 Tryz.underlying182 hi hz0 hz1 hz2 rfl (by decide) _ _ _ rfl (hown.alloc _) ⟨wr.heap.size, 0, none⟩ 1 1 [.string (a.extract j q), .int .i64 ((j : Int) + 1)] rfl rfl (cell_two_new _ _ _ _) (by intro u hu; simp at hu; rcases hu with rfl | rfl <;> rfl) (by unfold maxLen; omega) (by omega) (by have := hbr.size; simp; omega) ?_)
                intro v' w' hown' hgrow _
                have R := field_step hown.lt hbr hown' hgrow hbr.size
                clear hown hown' hgrow
                go_wp2
                go_roundw
                case rel => exact ⟨q, done ++ [(bl (a.extract j q), j + 1)], hq, rfl, by have := htok.out.1; simp; omega, R.1, by unfold Hid; rw [hrest.out, htok.out.2, List.append_assoc]; rfl, R.2⟩
                case measure => have := htok.out.1; simp [intOf]; omega
        · go_wp2
          go_ret3
          have hd : (bl a).drop j = [] := List.drop_eq_nil_of_le (by rw [bl_len]; omega)
          have hr2 := hrest.out
          rw [hd] at hr2
          exact splitPost H.out.2.1.symm H.out.2.2.symm (by rw [H.out.1, hr2]; simp [fieldsGo]) (RdT.of_own hown) (Below.then_ hb1 hbr)
theorem split_any (s : ByteArray) (w : World) (E : Env w) (hs : s.size ≤ maxLen) :
    Calls Tryz.prog 181 #[.string s] w (SplitPost s w) := by
  by_cases h : 200 < s.size
  · exact split_longC s w h hs
  · exact split_short s w E (by omega)


/-- fields with columns that may be any number -/
def fldI (fs : List Fld) : List FldI := fs.map fun f => (f.1, (f.2 : Int))
theorem fldI_cells (fs : List Fld) : ficells (fldI fs) = fcells fs := by
  unfold ficells fldI fcells
  rw [List.flatMap_map]
theorem fldI_len (fs : List Fld) : (fldI fs).length = fs.length := by unfold fldI; rw [List.length_map]
theorem fieldsGo_le (l : List UInt8) : ∀ (cur : List UInt8) (st pos : Nat), (∀ f ∈ fieldsGo cur st pos l, f.1.length ≤ cur.length + l.length) ∧ (fieldsGo cur st pos l).length ≤ l.length + 1 := by
  induction l with
  | nil =>
    intro cur st pos
    unfold fieldsGo
    split
    · exact ⟨by simp, by simp⟩
    · exact ⟨by simp, by simp⟩
  | cons c l ih =>
    intro cur st pos
    unfold fieldsGo
    rw [List.length_cons]
    split
    · split
      · have := ih [] 0 (pos + 1)
        refine ⟨fun f hf => ?_, by omega⟩
        have := this.1 f hf
        simp at this
        omega
      · have := ih [] 0 (pos + 1)
        refine ⟨fun f hf => ?_, by rw [List.length_cons]; omega⟩
        rw [List.mem_cons] at hf
        rcases hf with rfl | hf
        · show cur.length ≤ _; omega
        · have := this.1 f hf
          simp at this
          omega
    · have := ih (cur ++ [c]) (if cur = [] then pos else st) (pos + 1)
      refine ⟨fun f hf => ?_, by omega⟩
      have := this.1 f hf
      rw [List.length_append, List.length_singleton] at this
      omega
theorem cutAt_fst_len (c : UInt8) (l : List UInt8) : (cutAt c l).1.length ≤ l.length := by
  rcases cutAt_spec c l with ⟨_, h, _⟩ | ⟨_, _, h, _⟩
  · have := congrArg List.length h
    rw [List.length_append, List.length_cons] at this
    omega
  · rw [h]; exact Nat.le_refl _
theorem splitF_small (l : List UInt8) : (∀ f ∈ splitF l, f.1.length ≤ 200) ∧ (splitF l).length ≤ 201 := by
  unfold splitF
  split
  · exact ⟨by simp, by simp⟩
  · rename_i hl
    split
    · unfold fieldsL
      have h := fieldsGo_le (cutAt 35 l).1 [] 0 0
      have h2 := cutAt_fst_len 35 l
      refine ⟨fun f hf => ?_, by omega⟩
      have := h.1 f hf
      simp at this
      omega
    · exact ⟨by simp, by simp⟩
theorem fsr_of {w : World} {v : Value} {fs : List Fld} (h : RdT w 244 2 v fs.length (fcells fs)) (hs : ∀ f ∈ fs, f.1.length ≤ 200) : FsR w w.heap.size v (fldI fs) := by
  obtain ⟨⟨hl, A, c, hv, hc, hm, hr⟩, _⟩ := h
  refine ⟨A, c, by rw [fldI_len]; exact hv, by rw [fldI_len]; exact hc, hm, ?_, fun h0 => ?_⟩
  · intro f hf
    unfold fldI at hf
    rw [List.mem_map] at hf
    obtain ⟨f', hf', rfl⟩ := hf
    have := hs f' hf'
    unfold maxLen
    show f'.1.length ≤ _
    omega
  · rw [fldI_len] at h0
    obtain ⟨g, o, hA, hg, hx⟩ := hr h0
    refine ⟨g, o, hA, hg, ?_⟩
    rw [fldI_cells]; exact hx
theorem fldI_small {fs : List Fld} {N M : Nat} (hs : ∀ f ∈ fs, f.1.length ≤ N) (hNM : N ≤ M) : ∀ f ∈ fldI fs, f.1.length ≤ M := by
  intro f hf
  unfold fldI at hf
  rw [List.mem_map] at hf
  obtain ⟨f', hf', rfl⟩ := hf
  have := hs f' hf'
  show f'.1.length ≤ _
  omega

/-- the bytes of words: neither a blank nor a comment's sign -/
def tokB (c : UInt8) : Bool := decide (36 ≤ c.toNat) && decide (c.toNat ≤ 126)
theorem tokB_iff {c : UInt8} : tokB c = true ↔ 36 ≤ c.toNat ∧ c.toNat ≤ 126 := by unfold tokB; rw [Bool.and_eq_true, decide_eq_true_iff, decide_eq_true_iff]
theorem tok_ne {c : UInt8} (h : tokB c = true) : c ≠ 32 ∧ c ≠ 35 ∧ okC c = true := by
  have h2 := tokB_iff.1 h
  refine ⟨fun e => ?_, fun e => ?_, okC_yes (by omega) (by omega)⟩
  · rw [e] at h2; exact absurd h2.1 (by decide)
  · rw [e] at h2; exact absurd h2.1 (by decide)
theorem all_mono {p q : UInt8 → Bool} {l : List UInt8} (h : l.all p = true) (hpq : ∀ c, p c = true → q c = true) : l.all q = true := by
  rw [List.all_eq_true] at *; exact fun c hc => hpq c (h c hc)
/-! ### what a line is made of -/
/-! ### the fields of words with one blank between any two -/
def unW : List (List UInt8) → List UInt8
  | [] => []
  | [w] => w
  | w :: ws => w ++ 32 :: unW ws
def colsW : Nat → List (List UInt8) → List Fld
  | _, [] => []
  | p, w :: ws => (w, p + 1) :: colsW (p + w.length + 1) ws
theorem fields_unW : ∀ (ws : List (List UInt8)) (p : Nat), (∀ w ∈ ws, w ≠ [] ∧ w.all tokB = true) → fieldsGo [] 0 p (unW ws) = colsW p ws
  | [], p, _ => rfl
  | [w], p, h => by
    have hw := h w (by simp)
    have hb : ∀ c ∈ w, c ≠ 32 := fun c hc => (tok_ne (List.all_eq_true.1 hw.2 c hc)).1
    have := fieldsGo_start w 0 p [] hw.1 hb
    rw [List.append_nil] at this
    show fieldsGo [] 0 p w = _
    rw [this, fieldsGo_end w p _ [] hw.1 (.inl rfl)]; rfl
  | w :: w2 :: ws, p, h => by
    have hw := h w (by simp)
    have hb : ∀ c ∈ w, c ≠ 32 := fun c hc => (tok_ne (List.all_eq_true.1 hw.2 c hc)).1
    show fieldsGo [] 0 p (w ++ 32 :: unW (w2 :: ws)) = _
    rw [fieldsGo_start w 0 p _ hw.1 hb, fieldsGo_end w p _ _ hw.1 (.inr rfl), fieldsGo_blank, fields_unW (w2 :: ws) (p + w.length + 1) (fun x hx => h x (List.mem_cons_of_mem _ hx))]
    rfl
theorem unW_ok : ∀ (ws : List (List UInt8)), (∀ w ∈ ws, w ≠ [] ∧ w.all tokB = true) → (unW ws).all okC = true ∧ (35 : UInt8) ∉ unW ws
  | [], _ => ⟨rfl, by simp [unW]⟩
  | [w], h => by
    have hw := h w (by simp)
    refine ⟨all_mono hw.2 fun c hc => (tok_ne hc).2.2, fun hm => (tok_ne (List.all_eq_true.1 hw.2 35 hm)).2.1 rfl⟩
  | w :: w2 :: ws, h => by
    have hw := h w (by simp)
    have ih := unW_ok (w2 :: ws) (fun x hx => h x (List.mem_cons_of_mem _ hx))
    show (w ++ 32 :: unW (w2 :: ws)).all okC = true ∧ (35 : UInt8) ∉ w ++ 32 :: unW (w2 :: ws)
    refine ⟨?_, ?_⟩
    · rw [List.all_append, List.all_cons, ih.1, all_mono hw.2 fun c hc => (tok_ne hc).2.2]; rfl
    · rw [List.mem_append, List.mem_cons]
      rintro (hm | hm | hm)
      · exact (tok_ne (List.all_eq_true.1 hw.2 35 hm)).2.1 rfl
      · exact absurd hm (by decide)
      · exact ih.2 hm
theorem split_unW {ws : List (List UInt8)} (h : ∀ w ∈ ws, w ≠ [] ∧ w.all tokB = true) (hl : (unW ws).length ≤ 200) : splitErr (unW ws) = 0 ∧ splitF (unW ws) = colsW 0 ws := by
  have ho := unW_ok ws h
  have hs := split_ok hl ho.1
  refine ⟨hs.2.2, hs.1.trans ?_⟩
  unfold fieldsL
  rw [cutAt_none ho.2]
  exact fields_unW ws 0 h
/-! ### what is taken of the words -/
theorem colsW_len : ∀ (ws : List (List UInt8)) (p : Nat), (colsW p ws).length = ws.length
  | [], _ => rfl
  | w :: ws, p => by
    show (colsW (p + w.length + 1) ws).length + 1 = ws.length + 1
    rw [colsW_len ws]
end Go.Proofs.YtgmehlgfilpleaaGreatDoor
