/-
  Plain laws: records that were read are written, and read again with the same fields, one line each.
-/
import Derived.Test.YtfmijelndlllaaaDoorWrite
namespace Go.Proofs.YtfmijelndlllaaaDoor
set_option linter.unusedVariables false
set_option linter.unusedSimpArgs false

/-- how much room texts take with one byte behind each -/
def roomL (ts : List (List UInt8)) : Nat := (ts.map fun t => t.length + 1).sum
theorem roomL_nil : roomL [] = 0 := rfl
theorem roomL_cons (t : List UInt8) (ts : List (List UInt8)) : roomL (t :: ts) = t.length + 1 + roomL ts := by unfold roomL; rw [List.map_cons, List.sum_cons]
theorem joinL_one (t : List UInt8) : joinL [t] = t := Lib.join_one t [32]
theorem joinL_two (t u : List UInt8) (r : List (List UInt8)) : joinL (t :: u :: r) = t ++ 32 :: joinL (u :: r) := by
  unfold joinL
  rw [Lib.join_cons, Lib.join_cons]
  unfold Lib.joinTail
  rw [List.map_cons, List.flatten_cons]
  simp
theorem joinL_room : ∀ (ts : List (List UInt8)), ts ≠ [] → (joinL ts).length + 1 = roomL ts
  | [], h => absurd rfl h
  | [t], _ => by rw [joinL_one, roomL_cons, roomL_nil]
  | t :: u :: r, _ => by
    rw [joinL_two, roomL_cons, ← joinL_room (u :: r) (by simp), List.length_append, List.length_cons]; omega
theorem len_room (ts : List (List UInt8)) : ts.length ≤ roomL ts := by
  induction ts with
  | nil => exact Nat.le_refl _
  | cons t r ih => rw [roomL_cons, List.length_cons]; omega
theorem fieldsGo_room (l : List UInt8) : ∀ (cur : List UInt8) (st pos : Nat), roomL ((fieldsGo cur st pos l).map (·.1)) ≤ cur.length + l.length + 1 := by
  induction l with
  | nil =>
    intro cur st pos
    unfold fieldsGo
    split
    · exact Nat.zero_le _
    · rw [List.map_cons, List.map_nil, roomL_cons, roomL_nil]; simp
  | cons c l ih =>
    intro cur st pos
    unfold fieldsGo
    split
    · split
      · have := ih [] 0 (pos + 1)
        simp only [List.length_nil, List.length_cons] at this ⊢
        omega
      · have := ih [] 0 (pos + 1)
        rw [List.map_cons, roomL_cons]
        simp only [List.length_nil, List.length_cons] at this ⊢
        omega
    · have := ih (cur ++ [c]) (if cur = [] then pos else st) (pos + 1)
      rw [List.length_append] at this
      simp only [List.length_nil, List.length_cons] at this ⊢
      omega
/-- a byte of a field's text -/
def TxC (c : UInt8) : Prop := okC c = true ∧ c ≠ 32 ∧ c ≠ 35
def TxT (t : List UInt8) : Prop := t ≠ [] ∧ ∀ c ∈ t, TxC c
theorem fieldsGo_ok (l : List UInt8) : ∀ (cur : List UInt8) (st pos : Nat), (∀ c ∈ cur, TxC c) → (∀ c ∈ l, okC c = true ∧ c ≠ 35) → ∀ f ∈ fieldsGo cur st pos l, TxT f.1 := by
  induction l with
  | nil =>
    intro cur st pos hc _ f hf
    unfold fieldsGo at hf
    split at hf
    · cases hf
    · rw [List.mem_singleton] at hf
      subst hf
      exact ⟨by assumption, hc⟩
  | cons c l ih =>
    intro cur st pos hc hl f hf
    have hl2 : ∀ x ∈ l, okC x = true ∧ x ≠ 35 := fun x hx => hl x (List.mem_cons_of_mem _ hx)
    unfold fieldsGo at hf
    split at hf
    · split at hf
      · exact ih [] 0 (pos + 1) (fun x hx => by cases hx) hl2 f hf
      · rcases List.mem_cons.1 hf with hf | hf
        · subst hf; exact ⟨by assumption, hc⟩
        · exact ih [] 0 (pos + 1) (fun x hx => by cases hx) hl2 f hf
    · next h32 =>
      refine ih (cur ++ [c]) _ (pos + 1) (fun x hx => ?_) hl2 f hf
      rw [List.mem_append, List.mem_singleton] at hx
      rcases hx with hx | rfl
      · exact hc x hx
      · have := hl x (List.mem_cons_self ..)
        exact ⟨this.1, h32, this.2⟩
theorem cutH (l : List UInt8) : (∀ c ∈ (cutAt 35 l).1, c ∈ l ∧ c ≠ 35) := by
  intro c hc
  rcases cutAt_spec 35 l with ⟨_, h2, h3⟩ | ⟨_, h2, h3, _⟩
  · refine ⟨?_, fun e => h3 (e ▸ hc)⟩
    rw [h2, List.mem_append]; exact .inl hc
  · rw [h3] at hc
    exact ⟨hc, fun e => h2 (e ▸ hc)⟩
/-- the texts of a record that was read -/
def TxL (ts : List (List UInt8)) : Prop := ts ≠ [] ∧ ∀ t ∈ ts, TxT t
theorem rec_ok {l : List UInt8} (h : isRec l = true) : TxL ((splitF l).map (·.1)) ∧ roomL ((splitF l).map (·.1)) ≤ l.length + 1 ∧ l.length ≤ 200 := by
  unfold isRec at h
  simp only [Bool.and_eq_true, beq_iff_eq, Bool.not_eq_true', List.isEmpty_eq_false_iff] at h
  obtain ⟨h1, h2⟩ := h
  have hl : l.length ≤ 200 := by
    rcases Nat.lt_or_ge 200 l.length with hl | hl
    · rw [(split_long hl).2.2] at h1; cases h1
    · exact hl
  have ha : l.all okC = true := by
    cases ha : l.all okC
    · unfold splitErr at h1
      rw [if_neg (by omega), ha] at h1
      simp at h1
    · rfl
  have hf := (split_ok hl ha).1
  rw [hf] at h2 ⊢
  rw [List.all_eq_true] at ha
  have hc := cutH l
  refine ⟨⟨fun e => h2 (List.map_eq_nil_iff.1 e), ?_⟩, ?_, hl⟩
  · intro t ht
    rw [List.mem_map] at ht
    obtain ⟨f, hf1, rfl⟩ := ht
    exact fieldsGo_ok _ [] 0 0 (fun x hx => by cases hx) (fun c hcc => ⟨ha c (hc c hcc).1, (hc c hcc).2⟩) f hf1
  · have h3 := fieldsGo_room (cutAt 35 l).1 [] 0 0
    have h4 := (cutAt_len 35 l).1
    simp only [List.length_nil] at h3
    unfold fieldsL
    omega
theorem fieldsGo_join : ∀ (ts : List (List UInt8)) (st pos : Nat), TxL ts → (fieldsGo [] st pos (joinL ts)).map (·.1) = ts
  | [], _, _, h => absurd rfl h.1
  | [t], st, pos, h => by
    have ht := h.2 t (by simp)
    have h1 := fieldsGo_start t st pos [] ht.1 (fun c hc => (ht.2 c hc).2.1)
    rw [List.append_nil] at h1
    rw [joinL_one, h1, fieldsGo_end t pos _ [] ht.1 (.inl rfl)]
    rfl
  | t :: u :: r, st, pos, h => by
    have ht := h.2 t (by simp)
    rw [joinL_two, fieldsGo_start t st pos _ ht.1 (fun c hc => (ht.2 c hc).2.1), fieldsGo_end t pos _ _ ht.1 (.inr rfl), fieldsGo_blank, List.map_cons, fieldsGo_join (u :: r) _ _ ⟨by simp, fun x hx => h.2 x (by simp at hx ⊢; exact .inr hx)⟩]
theorem joinL_mem : ∀ (ts : List (List UInt8)) (c : UInt8), c ∈ joinL ts → c = 32 ∨ ∃ t ∈ ts, c ∈ t
  | [], c, h => by cases h
  | [t], c, h => by rw [joinL_one] at h; exact .inr ⟨t, by simp, h⟩
  | t :: u :: r, c, h => by
    rw [joinL_two, List.mem_append, List.mem_cons] at h
    rcases h with h | h | h
    · exact .inr ⟨t, by simp, h⟩
    · exact .inl h
    · rcases joinL_mem (u :: r) c h with h | ⟨x, hx, hc⟩
      · exact .inl h
      · exact .inr ⟨x, by simp at hx ⊢; exact .inr hx, hc⟩
theorem joinL_ok {ts : List (List UInt8)} (h : TxL ts) : ∀ c ∈ joinL ts, okC c = true ∧ c ≠ 35 ∧ c ≠ 10 := by
  intro c hc
  rcases joinL_mem ts c hc with rfl | ⟨t, ht, hct⟩
  · decide
  · have := (h.2 t ht).2 c hct
    refine ⟨this.1, this.2.2, ?_⟩
    rintro rfl
    exact absurd this.1 (by decide)
theorem line_ok {ts : List (List UInt8)} (h : TxL ts) (hr : roomL ts ≤ 201) : isRec (joinL ts) = true ∧ splitErr (joinL ts) = 0 ∧ (splitF (joinL ts)).map (·.1) = ts := by
  have hk := joinL_ok h
  have hl : (joinL ts).length ≤ 200 := by have := joinL_room ts h.1; omega
  have ha : (joinL ts).all okC = true := List.all_eq_true.2 fun c hc => (hk c hc).1
  have hs := split_ok hl ha
  have hf : (splitF (joinL ts)).map (·.1) = ts := by
    rw [hs.1]
    unfold fieldsL
    rw [cutAt_none (fun h35 => (hk 35 h35).2.1 rfl)]
    exact fieldsGo_join ts 0 0 h
  refine ⟨?_, hs.2.2, hf⟩
  unfold isRec
  rw [hs.2.2]
  have : splitF (joinL ts) ≠ [] := fun e => h.1 (by rw [← hf, e]; rfl)
  rw [List.isEmpty_eq_false_iff.2 this]; rfl
theorem linesL_write : ∀ (L : List (List (List UInt8))), (∀ ts ∈ L, TxL ts) → linesL (writeL L) = L.map joinL ++ [[]]
  | [], _ => rfl
  | ts :: L, h => by
    have ht := h ts (by simp)
    have e : writeL (ts :: L) = joinL ts ++ 10 :: writeL L := by
      unfold writeL
      rw [List.flatMap_cons, if_neg ht.1, List.append_assoc]; rfl
    rw [e, linesL_cut, cutAt_mid (fun h10 => (joinL_ok ht 10 h10).2.2 rfl), if_pos rfl, linesL_write L (fun x hx => h x (List.mem_cons_of_mem _ hx))]
    rfl
theorem isRec_nil : isRec [] = false := rfl
theorem recs_write : ∀ (L : List (List (List UInt8))) (n : Nat), (∀ ts ∈ L, TxL ts ∧ roomL ts ≤ 201) →
    (recsL n (L.map joinL ++ [[]])).map (fun r => r.2.map (·.1)) = L ∧ (recsL n (L.map joinL ++ [[]])).map (·.1) = List.range' n L.length ∧ dgsL n (L.map joinL ++ [[]]) = []
  | [], n, _ => ⟨rfl, rfl, rfl⟩
  | ts :: L, n, h => by
    have ht := h ts (by simp)
    obtain ⟨h1, h2, h3⟩ := line_ok ht.1 ht.2
    obtain ⟨i1, i2, i3⟩ := recs_write L (n + 1) (fun x hx => h x (List.mem_cons_of_mem _ hx))
    simp only [List.map_cons, List.cons_append, recsL, dgsL, h1, h2, if_true, List.length_cons, List.range'_succ, h3, i1, i2, i3]
    exact ⟨trivial, trivial, rfl⟩
theorem linesL_sum (l : List UInt8) : ((linesL l).map fun x => x.length + 1).sum = l.length + 1 := by
  induction l with
  | nil => rfl
  | cons c l ih =>
    have he := linesL_eta l
    rw [linesL_cons]
    split
    · rw [List.map_cons, List.sum_cons, ih, List.length_cons]; simp; omega
    · rw [← he, List.map_cons, List.sum_cons] at ih
      rw [List.map_cons, List.sum_cons, List.length_cons, List.length_cons]
      omega
def textsOf (rs : List Rec) : List (List (List UInt8)) := rs.map fun r => r.2.map (·.1)
theorem recs_good : ∀ (ls : List (List UInt8)) (n : Nat), (∀ ts ∈ textsOf (recsL n ls), TxL ts ∧ roomL ts ≤ 201) ∧ ((textsOf (recsL n ls)).map roomL).sum ≤ (ls.map fun x => x.length + 1).sum
  | [], n => ⟨fun _ h => (by cases h), Nat.le_refl _⟩
  | l :: ls, n => by
    obtain ⟨h1, h2⟩ := recs_good ls (n + 1)
    unfold recsL
    rw [List.map_cons, List.sum_cons]
    split
    · next hr =>
      obtain ⟨k1, k2, k3⟩ := rec_ok hr
      unfold textsOf at h1 h2 ⊢
      rw [List.map_cons]
      refine ⟨fun ts hts => ?_, ?_⟩
      · rcases List.mem_cons.1 hts with rfl | hts
        · exact ⟨k1, Nat.le_trans k2 (by omega)⟩
        · exact h1 ts hts
      · rw [List.map_cons, List.sum_cons]
        change roomL ((splitF l).map (·.1)) + _ ≤ _
        omega
    · exact ⟨h1, by omega⟩
theorem writeL_room_sum : ∀ (L : List (List (List UInt8))), (∀ ts ∈ L, TxL ts) → (writeL L).length = (L.map roomL).sum
  | [], _ => rfl
  | ts :: L, h => by
    have ht := h ts (by simp)
    have ih := writeL_room_sum L (fun x hx => h x (List.mem_cons_of_mem _ hx))
    have hr := joinL_room ts ht.1
    have e : writeL (ts :: L) = (joinL ts ++ [10]) ++ writeL L := by
      unfold writeL; rw [List.flatMap_cons, if_neg ht.1]
    rw [e, List.length_append, List.length_append, ih, List.map_cons, List.sum_cons]
    simp only [List.length_cons, List.length_nil]
    omega
/-- records that were read, written and read again -/
theorem write_back {s : List UInt8} (hs : s.length ≤ 2000) :
    (∀ ts ∈ textsOf (readRecs s), ts.length ≤ 201) ∧ (writeL (textsOf (readRecs s))).length ≤ 2001 ∧ readDgs (writeL (textsOf (readRecs s))) = [] ∧
    textsOf (readRecs (writeL (textsOf (readRecs s)))) = textsOf (readRecs s) ∧ (readRecs (writeL (textsOf (readRecs s)))).map (·.1) = List.range' 1 (readRecs s).length := by
  have e : readRecs s = recsL 1 (linesL s) := if_neg (by omega)
  obtain ⟨h1, h2⟩ := recs_good (linesL s) 1
  rw [← e] at h1 h2
  rw [linesL_sum] at h2
  have h3 := writeL_room_sum _ (fun ts hts => (h1 ts hts).1)
  have hlen : (writeL (textsOf (readRecs s))).length ≤ 2001 := by omega
  have h4 := recs_write (textsOf (readRecs s)) 1 h1
  rw [← linesL_write _ (fun ts hts => (h1 ts hts).1)] at h4
  have e2 : ∀ l : List UInt8, l.length ≤ 2001 → readRecs l = recsL 1 (linesL l) ∧ readDgs l = (dgsL 1 (linesL l)).take 50 := fun l hl => ⟨if_neg (by omega), if_neg (by omega)⟩
  refine ⟨fun ts hts => Nat.le_trans (len_room ts) (h1 ts hts).2, hlen, ?_, ?_, ?_⟩
  · rw [(e2 _ hlen).2, h4.2.2]; rfl
  · rw [(e2 _ hlen).1]; exact h4.1
  · rw [(e2 _ hlen).1, h4.2.1]
    unfold textsOf
    rw [List.length_map]
end Go.Proofs.YtfmijelndlllaaaDoor
