/-
  Several texts as one.
  Contract: record.Split: the fields of a line.
  Contract: the reference's Split.
  Plain words: the fields of a line as a scanner takes them.
  Plain laws: a line of words with one blank between any two; what a scanner takes of it.
-/
import Derived.Test.YtakgcdefbbgdaaaGreatDoorMG07
import Derived.Test.YtakgcdefbbgdaaaGreatDoorMG10
import Derived.Test.YtakgcdefbbgdaaaGreatDoorMG09
namespace Go.Proofs.YtakgcdefbbgdaaaGreatDoor
open Go.RowKit
set_option linter.unusedVariables false
set_option linter.unusedSimpArgs false

theorem infoField : (Tryz.prog.info? 125).map (fun i => (i.zero, i.size, i.bytes)) = some (some (.agg #[.string ⟨#[]⟩, .int .i64 0]), 2, 24) := by kernel_rfl

def SplitPost (s : ByteArray) (w : World) (e : Ending) (w' : World) : Prop :=
  ∃ v, e = .returned (.tuple #[v, .int .i64 (splitCol (bl s)), .int .i64 (splitErr (bl s))]) ∧ RdT w' 125 2 v (splitF (bl s)).length (fcells (splitF (bl s))) ∧ Below w.heap.size w w'
theorem splitPost {s : ByteArray} {w w' : World} {v : Value} {c e : Int} {fs : List Fld} (h1 : c = splitCol (bl s)) (h2 : e = splitErr (bl s)) (h3 : fs = splitF (bl s)) (hr : RdT w' 125 2 v fs.length (fcells fs)) (hb : Below w.heap.size w w') :
    SplitPost s w (.returned (.tuple #[v, .int .i64 c, .int .i64 e])) w' := by
  subst h1 h2 h3; exact ⟨v, rfl, hr, hb⟩
set_option maxHeartbeats 400000 in
theorem split_longC (s : ByteArray) (w : World) (h : 200 < s.size) (hs : s.size ≤ maxLen) :
    Calls Tryz.prog 44 #[.string s] w (SplitPost s w) := by
  unfold maxLen at hs
  have h1 : (200 : Int) < (s.size : Int) := by omega
  have H := Lib.hid (split_long (l := bl s) h)
  go_enter Tryz.func44, Tryz.ntmps44
  go_wp2
  go_ret3
  exact splitPost H.out.2.1.symm H.out.2.2.symm H.out.1.symm (RdT.nil _ _ _) (Below.refl _ _)
theorem drop_cons {a : ByteArray} {j : Nat} (h : j < a.size) : (bl a).drop j = a[j] :: (bl a).drop (j + 1) := List.drop_eq_getElem_cons (l := bl a) h
theorem u8_32 {c : UInt8} (h : (c.toNat : Int) = 32) : c = 32 := (u8_eq (n := 32) (by omega)).1 (by omega)
theorem take_ext {a : ByteArray} {j q : Nat} : ((bl a).drop j).take (q - j) = bl (a.extract j q) := (bl_extract a j q).symm
theorem nb_step {a : ByteArray} {j q : Nat} (hjq : j ≤ q) (h : q < a.size) (hnb : ∀ c ∈ ((bl a).drop j).take (q - j), c ≠ 32) (e : ((a[q].toNat : Int) != 32) = true) : ∀ c ∈ ((bl a).drop j).take (q + 1 - j), c ≠ 32 := by
  have hl : q - j < ((bl a).drop j).length := by rw [List.length_drop, bl_len]; omega
  rw [show q + 1 - j = (q - j) + 1 by omega, List.take_succ_eq_append_getElem hl]
  intro c hc
  rw [List.mem_append] at hc
  rcases hc with hc | hc
  · exact hnb c hc
  · rw [List.mem_singleton] at hc
    have h3 : ((bl a).drop j)[q - j]? = some a[q] := by rw [List.getElem?_drop, show j + (q - j) = q by omega, bl_get? a q h]
    rw [List.getElem?_eq_getElem hl, ← hc, Option.some.injEq] at h3
    rw [h3]
    intro e2
    rw [e2] at e
    exact absurd e (by decide)
theorem token_at {a : ByteArray} {j q : Nat} (hjq : j ≤ q) (hq : q ≤ a.size) (hne : j ≠ q) (hnb : ∀ c ∈ ((bl a).drop j).take (q - j), c ≠ 32) (he : (∃ h : q < a.size, (a[q].toNat : Int) = 32) ∨ a.size ≤ q) :
    j < q ∧ fieldsGo [] 0 j ((bl a).drop j) = (bl (a.extract j q), j + 1) :: fieldsGo [] 0 q ((bl a).drop q) := by
  refine ⟨by omega, ?_⟩
  have hs : (bl a).drop j = ((bl a).drop j).take (q - j) ++ (bl a).drop q := by
    conv => lhs; rw [← List.take_append_drop (q - j) ((bl a).drop j)]
    rw [List.drop_drop, show j + (q - j) = q by omega]
  have hl : (((bl a).drop j).take (q - j)).length = q - j := by rw [List.length_take, List.length_drop, bl_len]; omega
  have h0 : ((bl a).drop j).take (q - j) ≠ [] := by
    intro e; rw [e] at hl; simp at hl; omega
  have hend : (bl a).drop q = [] ∨ ((bl a).drop q).head? = some 32 := by
    rcases he with ⟨h, e⟩ | h
    · right; rw [drop_cons h, u8_32 e]; rfl
    · left; exact List.drop_eq_nil_of_le (by rw [bl_len]; omega)
  rw [hs, fieldsGo_start _ _ _ _ h0 hnb, fieldsGo_end _ _ _ _ h0 hend, hl, take_ext, show j + (q - j) = q by omega]
/-- what an append of a field does to what is owned -/
theorem field_step {base : Nat} {w0 wr w' : World} {v v' : Value} {e : TypeId} {done : List Fld} {t : ByteArray} {j : Nat} {o : Obj}
    (hlt : ∀ k, v.ownBlock = some k → base ≤ k ∧ k < wr.heap.size) (hb : Below base w0 wr) (hown' : w'.ownsRow base e 2 v' (done.length + 1) (fcells done ++ [.string t, .int .i64 ((j : Int) + 1)])) (hg : (wr.alloc o).grownBy w' v.ownBlock) (hB : base ≤ wr.heap.size) :
    w'.ownsRow base e 2 v' (done ++ [(bl t, j + 1)]).length (fcells (done ++ [(bl t, j + 1)])) ∧ Below base w0 w' := by
  refine ⟨?_, (hb.alloc hB o).grown hg (by simp; omega) (fun k hk => (hlt k hk).1)⟩
  rw [fcells_snoc, sb_bl, List.length_append]
  exact hown'
set_option maxRecDepth 100000 in
set_option maxHeartbeats 1000000 in
theorem split_short (s : ByteArray) (w : World) (E : Env w) (hs : s.size ≤ 200) :
    Calls Tryz.prog 44 #[.string s] w (SplitPost s w) := by
  have h1 : (s.size : Int) ≤ 200 := by omega
  obtain ⟨i0, hi, hz0, hz1, hz2⟩ := info_parts infoField
  go_enter Tryz.func44, Tryz.ntmps44
  go_wp2
  go_loop [14] (fun i => ∃ k : Nat, k ≤ s.size ∧ i = .int .i64 k ∧ Hid (((bl s).take k).all okC = true)) (fun i => s.size - (intOf i).toNat)
  case atStart => exact ⟨0, Nat.zero_le _, rfl, rfl⟩
  case round =>
    obtain ⟨k, hk, rfl, hall⟩ := hrel
    by_cases h : k < s.size
    · have hc : ((32 : Int) ≤ (s[k].toNat : Int) ∧ (s[k].toNat : Int) ≤ 126) ∨ ((s[k].toNat : Int) < 32) ∨ ((32 : Int) ≤ (s[k].toNat : Int) ∧ 126 < (s[k].toNat : Int)) := by omega
      rcases hc with ⟨c1, c2⟩ | c1 | ⟨c1, c2⟩
      · go_wp2
        go_round
        case rel => exact ⟨k + 1, h, by go_num, all_take_succ hall.out h (okC_yes c1 c2)⟩
        case measure => simp [intOf]; omega
      · have H := Lib.hid (split_bad (l := bl s) hs h hall.out (okC_no (.inl c1)))
        go_wp2
        go_ret3
        exact splitPost (by have := H.out.2.1; omega) H.out.2.2.symm H.out.1.symm (RdT.nil _ _ _) (Below.refl _ _)
      · have H := Lib.hid (split_bad (l := bl s) hs h hall.out (okC_no (.inr c2)))
        go_wp2
        go_ret3
        exact splitPost (by have := H.out.2.1; omega) H.out.2.2.symm H.out.1.symm (RdT.nil _ _ _) (Below.refl _ _)
    · have H := Lib.hid (split_ok (l := bl s) hs (all_take_all hall.out (by rw [bl_len]; omega)))
      clear hall
      go_wp2_with fail
      refine (cut1 s 35 _ E (by omega)).mono ?_
      rintro e w1 ⟨a, b, f, rfl, hcut, has, hbs, hb1⟩
      have hfl : Hid (fieldsL (bl s) = fieldsGo [] 0 0 (bl a)) := by unfold Hid fieldsL; rw [hcut.out]
      clear hcut
      go_wp2_with fail
      go_loopw [6, 7] (fun v i wr => ∃ (j : Nat) (done : List Fld), j ≤ a.size ∧ i = .int .i64 j ∧ done.length ≤ j ∧ wr.ownsRow w1.heap.size 125 2 v done.length (fcells done) ∧ Hid (fieldsL (bl s) = done ++ fieldsGo [] 0 j ((bl a).drop j)) ∧ Below w1.heap.size w1 wr) (fun _ i _ => a.size - (intOf i).toNat)
      case atStart => exact ⟨0, [], Nat.zero_le _, rfl, Nat.le_refl _, World.ownsRow_nil _ _ _ _, hfl.out, Below.refl _ _⟩
      case round =>
        obtain ⟨j, done, hj, rfl, hdl, hown, hrest, hbr⟩ := hrel
        by_cases hlt : j < a.size
        · by_cases hsp : (a[j].toNat : Int) = 32
          · have e1 : ((a[j].toNat : Int) == 32) = true := beq_iff_eq.2 hsp
            have HS := Lib.hid hsp
            clear hsp
            go_wp2
            go_roundw
            case rel => exact ⟨j + 1, done, hlt, by go_num, by omega, hown, by unfold Hid; rw [hrest.out, drop_cons hlt, u8_32 HS.out, fieldsGo_blank], hbr⟩
            case measure => simp [intOf]; omega
          · have e1 : ((a[j].toNat : Int) == 32) = false := beq_eq_false_iff_ne.2 hsp
            have HS := Lib.hid hsp
            clear hsp
            go_wp2
            go_loop [7] (fun i => ∃ q : Nat, j ≤ q ∧ q ≤ a.size ∧ i = .int .i64 q ∧ Hid (∀ c ∈ ((bl a).drop j).take (q - j), c ≠ 32)) (fun i => a.size - (intOf i).toNat)
            case atStart => exact ⟨j, Nat.le_refl _, hj, rfl, by unfold Hid; simp⟩
            case round =>
              obtain ⟨q, hjq, hq, rfl, hnb⟩ := hrel
              have hcase : (∃ h : q < a.size, Hid (((a[q].toNat : Int) != 32) = true)) ∨ ((∃ h : q < a.size, Hid (((a[q].toNat : Int) != 32) = false)) ∨ a.size ≤ q) ∧ Hid (j < q ∧ fieldsGo [] 0 j ((bl a).drop j) = (bl (a.extract j q), j + 1) :: fieldsGo [] 0 q ((bl a).drop q)) := by
                by_cases h : q < a.size
                · by_cases hb : (a[q].toNat : Int) = 32
                  · exact .inr ⟨.inl ⟨h, bne_eq_false_iff_eq.2 hb⟩, token_at hjq hq (fun e => by subst e; exact HS.out hb) hnb.out (.inl ⟨h, hb⟩)⟩
                  · exact .inl ⟨h, bne_iff_ne.2 hb⟩
                · exact .inr ⟨.inr (by omega), token_at hjq hq (by omega) hnb.out (.inr (by omega))⟩
              rcases hcase with ⟨h, e2⟩ | ⟨⟨h, e2⟩ | h, htok⟩
              · have e2 := e2.out
                go_wp2
                go_round
                case rel => exact ⟨q + 1, by omega, h, by go_num, nb_step hjq h hnb.out e2⟩
                case measure => simp [intOf]; omega
              all_goals try have e2 := Hid.out e2
              all_goals
                go_wp2_with (at_builtin; refine wpList_append_own _ rfl (.tmp 59) (.tmp 67) 62 rfl w1.heap.size 125 i0 (.agg #[.string ⟨#[]⟩, .int .i64 0]) 2 24 Tryz.underlying62 hi hz0 hz1 hz2 rfl (by decide) _ _ _ rfl (hown.alloc _) ⟨wr.heap.size, 0, none⟩ 1 1 [.string (a.extract j q), .int .i64 ((j : Int) + 1)] rfl rfl (cell_two_new _ _ _ _) (by intro u hu; simp at hu; rcases hu with rfl | rfl <;> rfl) (by unfold maxLen; omega) (by omega) (by have := hbr.size; simp; omega) ?_)
                intro v' w' hown' hgrow _
                have R := field_step hown.lt hbr hown' hgrow hbr.size
                clear hown hown' hgrow
                go_wp2
                go_roundw
                case rel => exact ⟨q, done ++ [(bl (a.extract j q), j + 1)], hq, rfl, by have := htok.out.1; simp; omega, R.1, by unfold Hid; rw [hrest.out, htok.out.2, List.append_assoc]; rfl, R.2⟩
                case measure => have := htok.out.1; simp [intOf]; omega
        · go_wp2
          go_ret3
          have hd : (bl a).drop j = [] := List.drop_eq_nil_of_le (by rw [bl_len]; omega)
          have hr2 := hrest.out
          rw [hd] at hr2
          exact splitPost H.out.2.1.symm H.out.2.2.symm (by rw [H.out.1, hr2]; simp [fieldsGo]) (RdT.of_own hown) (Below.then_ hb1 hbr)
theorem split_any (s : ByteArray) (w : World) (E : Env w) (hs : s.size ≤ maxLen) :
    Calls Tryz.prog 44 #[.string s] w (SplitPost s w) := by
  by_cases h : 200 < s.size
  · exact split_longC s w h hs
  · exact split_short s w E (by omega)
end Go.Proofs.YtakgcdefbbgdaaaGreatDoor
namespace Go.Proofs.YtakgcdefbbgdaaaGreatDoor
open Go.RowKit
set_option linter.unusedVariables false
set_option linter.unusedSimpArgs false

theorem cut35 (s : ByteArray) {a : List UInt8} (ha : a = (cutAt 35 (bl s)).1) : a.length ≤ s.size ∧ (∀ (k : Nat) (h : k < s.size), k < a.length → s[k].toNat ≠ 35 ∧ a.drop k = s[k] :: a.drop (k + 1)) ∧ (a.length = s.size ∨ ∃ h : a.length < s.size, s[a.length].toNat = 35) := by
  subst ha
  have hpre : ∃ r, bl s = (cutAt 35 (bl s)).1 ++ r ∧ (35 : UInt8) ∉ (cutAt 35 (bl s)).1 ∧ (r = [] ∨ r.head? = some 35) := by
    rcases cutAt_spec 35 (bl s) with ⟨_, h2, h3⟩ | ⟨_, h2, h3, _⟩
    · exact ⟨_, h2, h3, .inr rfl⟩
    · exact ⟨[], by rw [h3, List.append_nil], by rw [h3]; exact h2, .inl rfl⟩
  obtain ⟨r, h1, h2, h3⟩ := hpre
  generalize (cutAt 35 (bl s)).1 = a at h1 h2
  have hl : s.size = a.length + r.length := by rw [← bl_len, h1, List.length_append]
  refine ⟨by omega, fun k h hk => ?_, ?_⟩
  · have e : s[k] = a[k] := by
      have := bl_get? s k h
      rw [h1, List.getElem?_append_left hk, List.getElem?_eq_getElem hk, Option.some.injEq] at this
      exact this.symm
    refine ⟨fun h35 => h2 ?_, by rw [e]; exact List.drop_eq_getElem_cons hk⟩
    have : a[k] = 35 := by rw [← e]; exact (u8_eq (n := 35) (by omega)).1 h35
    rw [← this]; exact List.getElem_mem hk
  · rcases h3 with rfl | h3
    · left; simpa using hl.symm
    · right
      match r, h3 with
      | c :: r, h3 =>
        have hc : c = 35 := by simpa using h3
        have h : a.length < s.size := by simp only [List.length_cons] at hl; omega
        refine ⟨h, ?_⟩
        have := bl_get? s a.length h
        rw [h1, List.getElem?_append_right (Nat.le_refl _), Nat.sub_self, hc] at this
        simp only [List.getElem?_cons_zero, Option.some.injEq] at this
        rw [← this]; rfl

/-- the field that has begun, by the reference's number -/
def Begun (s : ByteArray) (k : Nat) (z : Int) (cur : List UInt8) (st : Nat) : Prop := (z = -1 ∧ cur = []) ∨ (z = (st : Int) ∧ st < k ∧ cur = bl (s.extract st k) ∧ cur ≠ [])
theorem extract_snoc {s : ByteArray} {st k : Nat} (h1 : st ≤ k) (h : k < s.size) : bl (s.extract st k) ++ [s[k]] = bl (s.extract st (k + 1)) := by
  rw [bl_extract, bl_extract, show k + 1 - st = (k - st) + 1 by omega]
  have hl : k - st < ((bl s).drop st).length := by rw [List.length_drop, bl_len]; omega
  rw [List.take_succ_eq_append_getElem hl]
  have h3 : ((bl s).drop st)[k - st]? = some s[k] := by rw [List.getElem?_drop, show st + (k - st) = k by omega, bl_get? s k h]
  rw [List.getElem?_eq_getElem hl, Option.some.injEq] at h3
  rw [h3]
theorem rsplit_char {s : ByteArray} {a : List UInt8} {k st : Nat} {cur : List UInt8} {z : Int} {all done : List Fld} (h : k < s.size) (hd : a.drop k = s[k] :: a.drop (k + 1)) (h32 : ¬ (s[k].toNat : Int) = 32)
    (hb : Begun s k z cur st) (hr : all = done ++ fieldsGo cur st k (a.drop k)) :
    ∃ st', Begun s (k + 1) (if z < 0 then (k : Int) else z) (cur ++ [s[k]]) st' ∧ all = done ++ fieldsGo (cur ++ [s[k]]) st' (k + 1) (a.drop (k + 1)) := by
  have hne : s[k] ≠ 32 := fun e => h32 (by rw [e]; rfl)
  rw [hd, fieldsGo, if_neg hne] at hr
  rcases hb with ⟨rfl, rfl⟩ | ⟨rfl, hlt, hc, hn⟩
  · rw [if_pos rfl] at hr
    refine ⟨k, .inr ⟨by rw [if_pos (by decide)], by omega, ?_, by simp⟩, hr⟩
    rw [← extract_snoc (Nat.le_refl k) h, bl_extract, Nat.sub_self]; rfl
  · rw [if_neg hn] at hr
    exact ⟨st, .inr ⟨by rw [if_neg (by omega)], by omega, by rw [hc]; exact extract_snoc (by omega) h, by simp⟩, hr⟩
/-- what is left behind a field's end -/
theorem rsplit_blank {s : ByteArray} {a : List UInt8} {k st : Nat} {cur : List UInt8} {all done : List Fld} (h : k < s.size) (hd : a.drop k = s[k] :: a.drop (k + 1)) (h32 : (s[k].toNat : Int) = 32)
    (hr : all = done ++ fieldsGo cur st k (a.drop k)) : (cur = [] → all = done ++ fieldsGo [] 0 (k + 1) (a.drop (k + 1))) ∧ (cur ≠ [] → all = (done ++ [(cur, st + 1)]) ++ fieldsGo [] 0 (k + 1) (a.drop (k + 1))) := by
  rw [hd, u8_32 h32, fieldsGo, if_pos rfl] at hr
  constructor
  · intro e; rw [if_pos e] at hr; exact hr
  · intro e; rw [if_neg e] at hr; rw [hr, List.append_assoc]; rfl
theorem rsplit_last {a : List UInt8} {k st : Nat} {cur : List UInt8} {all done : List Fld} (hk : a.length ≤ k) (hr : all = done ++ fieldsGo cur st k (a.drop k)) : (cur = [] → all = done) ∧ (cur ≠ [] → all = done ++ [(cur, st + 1)]) := by
  rw [List.drop_eq_nil_of_le hk, fieldsGo] at hr
  constructor
  · intro e; rw [if_pos e, List.append_nil] at hr; exact hr
  · intro e; rw [if_neg e] at hr; exact hr

end Go.Proofs.YtakgcdefbbgdaaaGreatDoor
namespace Go.Proofs.YtakgcdefbbgdaaaGreatDoor
open Go.RowKit
set_option linter.unusedVariables false
set_option linter.unusedSimpArgs false

/-- fields with columns that may be any number -/
def fldI (fs : List Fld) : List FldI := fs.map fun f => (f.1, (f.2 : Int))
theorem fldI_cells (fs : List Fld) : ficells (fldI fs) = fcells fs := by
  unfold ficells fldI fcells
  rw [List.flatMap_map]
theorem fldI_len (fs : List Fld) : (fldI fs).length = fs.length := by unfold fldI; rw [List.length_map]
theorem fieldsGo_le (l : List UInt8) : ∀ (cur : List UInt8) (st pos : Nat), (∀ f ∈ fieldsGo cur st pos l, f.1.length ≤ cur.length + l.length) ∧ (fieldsGo cur st pos l).length ≤ l.length + 1 := by
  induction l with
  | nil =>
    intro cur st pos
    unfold fieldsGo
    split
    · exact ⟨by simp, by simp⟩
    · exact ⟨by simp, by simp⟩
  | cons c l ih =>
    intro cur st pos
    unfold fieldsGo
    rw [List.length_cons]
    split
    · split
      · have := ih [] 0 (pos + 1)
        refine ⟨fun f hf => ?_, by omega⟩
        have := this.1 f hf
        simp at this
        omega
      · have := ih [] 0 (pos + 1)
        refine ⟨fun f hf => ?_, by rw [List.length_cons]; omega⟩
        rw [List.mem_cons] at hf
        rcases hf with rfl | hf
        · show cur.length ≤ _; omega
        · have := this.1 f hf
          simp at this
          omega
    · have := ih (cur ++ [c]) (if cur = [] then pos else st) (pos + 1)
      refine ⟨fun f hf => ?_, by omega⟩
      have := this.1 f hf
      rw [List.length_append, List.length_singleton] at this
      omega
theorem cutAt_fst_len (c : UInt8) (l : List UInt8) : (cutAt c l).1.length ≤ l.length := by
  rcases cutAt_spec c l with ⟨_, h, _⟩ | ⟨_, _, h, _⟩
  · have := congrArg List.length h
    rw [List.length_append, List.length_cons] at this
    omega
  · rw [h]; exact Nat.le_refl _
theorem splitF_small (l : List UInt8) : (∀ f ∈ splitF l, f.1.length ≤ 200) ∧ (splitF l).length ≤ 201 := by
  unfold splitF
  split
  · exact ⟨by simp, by simp⟩
  · rename_i hl
    split
    · unfold fieldsL
      have h := fieldsGo_le (cutAt 35 l).1 [] 0 0
      have h2 := cutAt_fst_len 35 l
      refine ⟨fun f hf => ?_, by omega⟩
      have := h.1 f hf
      simp at this
      omega
    · exact ⟨by simp, by simp⟩
theorem fsr_of {w : World} {v : Value} {fs : List Fld} (h : RdT w 125 2 v fs.length (fcells fs)) (hs : ∀ f ∈ fs, f.1.length ≤ 200) : FsR w w.heap.size v (fldI fs) := by
  obtain ⟨⟨hl, A, c, hv, hc, hm, hr⟩, _⟩ := h
  refine ⟨A, c, by rw [fldI_len]; exact hv, by rw [fldI_len]; exact hc, hm, ?_, fun h0 => ?_⟩
  · intro f hf
    unfold fldI at hf
    rw [List.mem_map] at hf
    obtain ⟨f', hf', rfl⟩ := hf
    have := hs f' hf'
    unfold maxLen
    show f'.1.length ≤ _
    omega
  · rw [fldI_len] at h0
    obtain ⟨g, o, hA, hg, hx⟩ := hr h0
    refine ⟨g, o, hA, hg, ?_⟩
    rw [fldI_cells]; exact hx
theorem fldI_small {fs : List Fld} {N M : Nat} (hs : ∀ f ∈ fs, f.1.length ≤ N) (hNM : N ≤ M) : ∀ f ∈ fldI fs, f.1.length ≤ M := by
  intro f hf
  unfold fldI at hf
  rw [List.mem_map] at hf
  obtain ⟨f', hf', rfl⟩ := hf
  have := hs f' hf'
  show f'.1.length ≤ _
  omega
end Go.Proofs.YtakgcdefbbgdaaaGreatDoor
namespace Go.Proofs.YtakgcdefbbgdaaaGreatDoor
open Go.RowKit
set_option linter.unusedVariables false
set_option linter.unusedSimpArgs false

/-- the bytes of words: neither a blank nor a comment's sign -/
def tokB (c : UInt8) : Bool := decide (36 ≤ c.toNat) && decide (c.toNat ≤ 126)
theorem tokB_iff {c : UInt8} : tokB c = true ↔ 36 ≤ c.toNat ∧ c.toNat ≤ 126 := by unfold tokB; rw [Bool.and_eq_true, decide_eq_true_iff, decide_eq_true_iff]
theorem tok_ne {c : UInt8} (h : tokB c = true) : c ≠ 32 ∧ c ≠ 35 ∧ okC c = true := by
  have h2 := tokB_iff.1 h
  refine ⟨fun e => ?_, fun e => ?_, okC_yes (by omega) (by omega)⟩
  · rw [e] at h2; exact absurd h2.1 (by decide)
  · rw [e] at h2; exact absurd h2.1 (by decide)
theorem name_tok {c : UInt8} (h : nameC c = true) : tokB c = true := by
  unfold nameC upperB digitB at h
  simp only [Bool.or_eq_true, Bool.and_eq_true, decide_eq_true_eq] at h
  exact tokB_iff.2 (by omega)
theorem digB_tok {c : UInt8} (h : digitB c = true) : tokB c = true := by
  unfold digitB at h
  simp only [Bool.and_eq_true, decide_eq_true_eq] at h
  exact tokB_iff.2 (by omega)
theorem digC_tok {c : UInt8} (h : digC c = true) : tokB c = true := by
  unfold digC at h
  simp only [Bool.and_eq_true, decide_eq_true_eq] at h
  exact tokB_iff.2 (by omega)
theorem all_mono {p q : UInt8 → Bool} {l : List UInt8} (h : l.all p = true) (hpq : ∀ c, p c = true → q c = true) : l.all q = true := by
  rw [List.all_eq_true] at *; exact fun c hc => hpq c (h c hc)
theorem dec_short : ∀ (k n : Nat), n < 10 ^ k → 0 < k → (Lib.decDigits n).length ≤ k
  | k + 1, n, h, _ => by
    by_cases hn : n < 10
    · rw [decDigits_small hn]; simp
    · rw [decDigits_big hn, List.length_append, List.length_singleton]
      have hk : 0 < k := by
        rcases Nat.eq_zero_or_pos k with h0 | h0
        · subst h0; omega
        · exact h0
      have := dec_short k (n / 10) (by rw [Nat.pow_succ] at h; omega) hk
      omega
/-! ### what a line is made of -/
structure TokW (l : List UInt8) (N : Nat) : Prop where
  ne : l ≠ []
  all : l.all tokB = true
  len : l.length ≤ N
theorem nameB_len' {l : List UInt8} {n : Int} (h : nameB l n = true) : (l.length : Int) ≤ n ∧ 0 < l.length := by
  unfold nameB at h
  simp only [Bool.and_eq_true, decide_eq_true_iff] at h
  omega
theorem tok_nameN {l : List UInt8} {n : Int} {k : Nat} (h : nameB l n = true) (hk : n ≤ (k : Int)) : TokW l k := by
  have hl := nameB_len' h
  unfold nameB at h
  simp only [Bool.and_eq_true, decide_eq_true_eq] at h
  exact ⟨fun e => by rw [e] at hl; simp at hl, all_mono h.2 fun c => name_tok, by omega⟩
theorem tok_name {l : List UInt8} (h : nameB l 6 = true) : TokW l 6 := tok_nameN h (by omega)
theorem tok_short {l : List UInt8} (h : shortB l = true) : TokW l 6 := by
  unfold shortB at h
  rw [Bool.and_eq_true, beq_iff_eq] at h
  exact ⟨fun e => by rw [e] at h; simp at h, all_mono h.2 fun c => name_tok, by omega⟩
theorem dec_tok (n : Nat) : (Lib.decDigits n).all tokB = true := all_mono (dec_all n) fun c => digB_tok
theorem altAbs_tok {b : Nat} (h : b ≤ 6000000) : TokW (altAbs b) 20 := by
  have l1 := dec_short 8 (b / 100) (by omega) (by omega)
  have l2 := dec_short 2 (b % 100 / 10) (by omega) (by omega)
  have l3 := dec_short 2 (b % 10) (by omega) (by omega)
  by_cases h0 : b % 100 = 0
  · rw [altAbs_whole h0]
    exact ⟨dec_ne _, dec_tok _, by omega⟩
  · rw [altAbs_part h0]
    refine ⟨by simp, ?_, ?_⟩
    · rw [List.all_append, List.all_append, List.all_cons, dec_tok, dec_tok, dec_tok]; rfl
    · simp only [List.length_append, List.length_cons]; omega
theorem tok_alt {a : Int} (h1 : -200000 ≤ a) (h2 : a ≤ 6000000) : TokW (altOut a) 21 := by
  by_cases hn : a < 0
  · obtain ⟨b, rfl⟩ : ∃ b : Nat, a = -(b : Int) := ⟨(-a).toNat, by omega⟩
    rw [altOut_neg (by omega) (by omega)]
    have := altAbs_tok (b := b) (by omega)
    refine ⟨by simp, ?_, ?_⟩
    · rw [List.all_cons, this.all]; rfl
    · rw [List.length_cons]; have := this.len; omega
  · obtain ⟨b, rfl⟩ : ∃ b : Nat, a = (b : Int) := ⟨a.toNat, by omega⟩
    rw [altOut_pos (by omega)]
    have := altAbs_tok (b := b) (by omega)
    exact ⟨this.ne, this.all, by have := this.len; omega⟩
/-! ### the fields of words with one blank between any two -/
def unW : List (List UInt8) → List UInt8
  | [] => []
  | [w] => w
  | w :: ws => w ++ 32 :: unW ws
def colsW : Nat → List (List UInt8) → List Fld
  | _, [] => []
  | p, w :: ws => (w, p + 1) :: colsW (p + w.length + 1) ws
theorem fields_unW : ∀ (ws : List (List UInt8)) (p : Nat), (∀ w ∈ ws, w ≠ [] ∧ w.all tokB = true) → fieldsGo [] 0 p (unW ws) = colsW p ws
  | [], p, _ => rfl
  | [w], p, h => by
    have hw := h w (by simp)
    have hb : ∀ c ∈ w, c ≠ 32 := fun c hc => (tok_ne (List.all_eq_true.1 hw.2 c hc)).1
    have := fieldsGo_start w 0 p [] hw.1 hb
    rw [List.append_nil] at this
    show fieldsGo [] 0 p w = _
    rw [this, fieldsGo_end w p _ [] hw.1 (.inl rfl)]; rfl
  | w :: w2 :: ws, p, h => by
    have hw := h w (by simp)
    have hb : ∀ c ∈ w, c ≠ 32 := fun c hc => (tok_ne (List.all_eq_true.1 hw.2 c hc)).1
    show fieldsGo [] 0 p (w ++ 32 :: unW (w2 :: ws)) = _
    rw [fieldsGo_start w 0 p _ hw.1 hb, fieldsGo_end w p _ _ hw.1 (.inr rfl), fieldsGo_blank, fields_unW (w2 :: ws) (p + w.length + 1) (fun x hx => h x (List.mem_cons_of_mem _ hx))]
    rfl
theorem unW_ok : ∀ (ws : List (List UInt8)), (∀ w ∈ ws, w ≠ [] ∧ w.all tokB = true) → (unW ws).all okC = true ∧ (35 : UInt8) ∉ unW ws
  | [], _ => ⟨rfl, by simp [unW]⟩
  | [w], h => by
    have hw := h w (by simp)
    refine ⟨all_mono hw.2 fun c hc => (tok_ne hc).2.2, fun hm => (tok_ne (List.all_eq_true.1 hw.2 35 hm)).2.1 rfl⟩
  | w :: w2 :: ws, h => by
    have hw := h w (by simp)
    have ih := unW_ok (w2 :: ws) (fun x hx => h x (List.mem_cons_of_mem _ hx))
    show (w ++ 32 :: unW (w2 :: ws)).all okC = true ∧ (35 : UInt8) ∉ w ++ 32 :: unW (w2 :: ws)
    refine ⟨?_, ?_⟩
    · rw [List.all_append, List.all_cons, ih.1, all_mono hw.2 fun c hc => (tok_ne hc).2.2]; rfl
    · rw [List.mem_append, List.mem_cons]
      rintro (hm | hm | hm)
      · exact (tok_ne (List.all_eq_true.1 hw.2 35 hm)).2.1 rfl
      · exact absurd hm (by decide)
      · exact ih.2 hm
theorem split_unW {ws : List (List UInt8)} (h : ∀ w ∈ ws, w ≠ [] ∧ w.all tokB = true) (hl : (unW ws).length ≤ 200) : splitErr (unW ws) = 0 ∧ splitF (unW ws) = colsW 0 ws := by
  have ho := unW_ok ws h
  have hs := split_ok hl ho.1
  refine ⟨hs.2.2, hs.1.trans ?_⟩
  unfold fieldsL
  rw [cutAt_none ho.2]
  exact fields_unW ws 0 h
/-! ### what is taken of the words -/
theorem colsW_at : ∀ (ws : List (List UInt8)) (p k : Nat), ((colsW p ws)[k]?).map (·.1) = ws[k]?
  | [], p, k => by simp [colsW]
  | w :: ws, p, 0 => rfl
  | w :: ws, p, k + 1 => by
    show ((colsW (p + w.length + 1) ws)[k]?).map (·.1) = ws[k]?
    exact colsW_at ws _ k
theorem colsW_len : ∀ (ws : List (List UInt8)) (p : Nat), (colsW p ws).length = ws.length
  | [], _ => rfl
  | w :: ws, p => by
    show (colsW (p + w.length + 1) ws).length + 1 = ws.length + 1
    rw [colsW_len ws]
theorem fld_cols {ws : List (List UInt8)} {k : Nat} {x : List UInt8} (h : ws[k]? = some x) : (fld (fldI (colsW 0 ws)) k).1 = x := by
  have h2 := colsW_at ws 0 k
  rw [h] at h2
  unfold fld fldI
  rw [List.getD_eq_getElem?_getD, List.getElem?_map]
  cases h3 : (colsW 0 ws)[k]? with
  | none => rw [h3] at h2; cases h2
  | some y =>
    rw [h3] at h2
    simp only [Option.map_some, Option.some.injEq] at h2
    simp [h2]
def StN (nu : Int) (fs : List FldI) (n : Nat) (la : Int) : Sc := ⟨nu, fs, n, la, 0, 0, 0⟩
theorem stn_got {nu : Int} {fs : List FldI} {n : Nat} {la : Int} (h : n < fs.length) : (StN nu fs n la).got = true := Sc.got_iff.2 ⟨rfl, h⟩
theorem stn_text {nu : Int} {fs : List FldI} {n : Nat} {la : Int} (h : n < fs.length) : (StN nu fs n la).text = (fld fs n).1 := by
  unfold Sc.text; rw [stn_got h]; rfl
theorem stn_tk {nu : Int} {fs : List FldI} {n : Nat} {la : Int} {er : List UInt8 → Int} (h : n < fs.length) (he : er (fld fs n).1 = 0) : (StN nu fs n la).tk er = StN nu fs (n + 1) (fld fs n).2 := by
  rw [Sc.tk_got (stn_got h), stn_text h, he, Sc.note_zero, Sc.take_got (stn_got h)]; rfl
theorem stn_tv {nu : Int} {fs : List FldI} {n : Nat} {la : Int} {α : Type} (z : α) (v : List UInt8 → α) (h : n < fs.length) : (StN nu fs n la).tv z v = v (fld fs n).1 := by
  rw [Sc.tv_got (stn_got h), stn_text h]
theorem stn_end {nu : Int} {fs : List FldI} {la : Int} : (StN nu fs fs.length la).endE = 0 ∧ (StN nu fs fs.length la).endB = false := by
  have := end_ok (s := StN nu fs fs.length la) rfl (by show ¬ fs.length < fs.length; omega)
  exact ⟨this.2.2.1, this.2.2.2⟩
end Go.Proofs.YtakgcdefbbgdaaaGreatDoor
