/-
  Several texts as one.
  Plain words: places in the order of their distances and references; the least one that is left, again and again, is the sorted list.
  Contracts: the comparison of two places (cmp.Compare at numbers, cmp.Or, the function that Near hands to the sort).
  Contract: fix.Near: the places of the fixes, sorted; the references of the first ones.
  Contract: the reference's Near: the least place that is left is taken, again and again.
-/
import Derived.Test.YteojggbmkppjoaaGreatDoorMFixS
import Derived.Test.YteojggbmkppjoaaGreatDoorMSph
import Derived.Test.YteojggbmkppjoaaGreatDoorMSorV
import Derived.Maps.AppendAt
namespace Go.Proofs.YteojggbmkppjoaaGreatDoor
open Go.RowKit Go.Sort
set_option linter.unusedVariables false
set_option linter.unusedSimpArgs false

/-- how two numbers compare -/
def cmpI (a b : Int) : Int := if a < b then -1 else if b < a then 1 else 0
/-- a place: a distance and a reference -/
abbrev Plc := Int × List UInt8
def cfP (x y : Plc) : Int := if cmpI x.1 y.1 = 0 then cmpS x.2 y.2 else cmpI x.1 y.1
theorem cfP_neg {x y : Plc} : cfP x y < 0 ↔ x.1 < y.1 ∨ x.1 = y.1 ∧ x.2 < y.2 := by
  unfold cfP cmpI
  by_cases h1 : x.1 < y.1
  · simp [h1]
  · by_cases h2 : y.1 < x.1
    · have h3 : ¬ x.1 = y.1 := by omega
      simp [h1, h2, h3]
    · have h3 : x.1 = y.1 := by omega
      simp [h1, h2, h3, cmpS_neg]
theorem ltP (x y : Plc) : ltOf cfP x y = decide (x.1 < y.1 ∨ x.1 = y.1 ∧ x.2 < y.2) := by
  unfold ltOf; rw [Bool.eq_iff_iff, decide_eq_true_iff, decide_eq_true_iff]; exact cfP_neg
theorem swoP : Swo (ltOf cfP) where
  asymm a b h := by
    rw [ltP, decide_eq_true_iff] at h
    rw [ltP, decide_eq_false_iff_not]
    rintro (h2 | ⟨h2, h3⟩)
    · rcases h with h | ⟨h, _⟩ <;> omega
    · rcases h with h | ⟨h, h4⟩
      · omega
      · exact blt_asymm h4 h3
  trans a b c h k := by
    rw [ltP, decide_eq_false_iff_not] at h k ⊢
    rintro (h2 | ⟨h2, h3⟩)
    · have h4 : ¬ b.1 < a.1 := fun e => h (.inl e)
      have h5 : ¬ c.1 < b.1 := fun e => k (.inl e)
      omega
    · have h4 : ¬ b.1 < a.1 := fun e => h (.inl e)
      have h5 : ¬ c.1 < b.1 := fun e => k (.inl e)
      have e1 : b.1 = a.1 := by omega
      have e2 : c.1 = b.1 := by omega
      exact blt_trans (fun e => h (.inr ⟨e1, e⟩)) (fun e => k (.inr ⟨e2, e⟩)) h3
section
variable {α : Type} {lt : α → α → Bool}
/-- what is left where some are taken -/
def lft : List α → List Bool → List α
  | a :: l, t :: ts => if t then lft l ts else a :: lft l ts
  | _, _ => []
theorem lft_none : ∀ (l : List α), lft l (List.replicate l.length false) = l
  | [] => rfl
  | a :: l => by
    rw [List.length_cons, List.replicate_succ]
    show (if false = true then _ else a :: lft l _) = _
    rw [if_neg (by decide), lft_none l]
theorem lft_split : ∀ (l : List α) (t : List Bool) (b : Nat) (hb : b < l.length) (ht : t.length = l.length), t[b]? = some false →
    lft l t = lft (l.take b) (t.take b) ++ l[b] :: lft (l.drop (b + 1)) (t.drop (b + 1)) ∧ lft l (t.set b true) = lft (l.take b) (t.take b) ++ lft (l.drop (b + 1)) (t.drop (b + 1))
  | [], _, _, hb, _, _ => absurd hb (by simp)
  | a :: l, [], _, _, ht, _ => by simp at ht
  | a :: l, t :: ts, 0, _, _, h => by
    simp at h
    subst h
    exact ⟨rfl, rfl⟩
  | a :: l, t :: ts, b + 1, hb, ht, h => by
    have ih := lft_split l ts b (by simpa using hb) (by simpa using ht) (by simpa using h)
    have e : ∀ us : List Bool, lft (a :: l) (t :: us) = if t then lft l us else a :: lft l us := fun _ => rfl
    have e2 : ∀ us : List Bool, lft (a :: l.take b) (t :: us) = if t then lft (l.take b) us else a :: lft (l.take b) us := fun _ => rfl
    rw [List.set_cons_succ, e, e, List.take_succ_cons, List.take_succ_cons, e2, List.drop_succ_cons, List.drop_succ_cons, ih.1, ih.2]
    cases t
    · exact ⟨rfl, rfl⟩
    · exact ⟨rfl, rfl⟩
theorem mem_lft : ∀ (l : List α) (t : List Bool) (x : α), x ∈ lft l t → ∃ j : Nat, l[j]? = some x ∧ t[j]? = some false
  | [], _, x, h => by cases h
  | a :: l, [], x, h => by cases h
  | a :: l, t :: ts, x, h => by
    have e : lft (a :: l) (t :: ts) = if t then lft l ts else a :: lft l ts := rfl
    rw [e] at h
    cases t
    · rw [if_neg (by decide)] at h
      rcases List.mem_cons.1 h with rfl | h
      · exact ⟨0, rfl, rfl⟩
      · obtain ⟨j, h1, h2⟩ := mem_lft l ts x h
        exact ⟨j + 1, by simpa using h1, by simpa using h2⟩
    · rw [if_pos rfl] at h
      obtain ⟨j, h1, h2⟩ := mem_lft l ts x h
      exact ⟨j + 1, by simpa using h1, by simpa using h2⟩
/-- the first of the least ones is the first of the sorted list -/
theorem stb_pick (hs : Swo lt) {A B D : List α} {x : α} (h : Stb lt (A ++ x :: B) D) (hA : ∀ a ∈ A, lt x a = true) (hB : ∀ b ∈ B, lt b x = false) :
    ∃ D', D = x :: D' ∧ Stb lt (A ++ B) D' := by
  have hAx : ∀ z, eqv lt z x = true → A.filter (eqv lt z) = [] := by
    intro z hz
    rw [List.filter_eq_nil_iff]
    intro a ha hza
    have h1 := eqv_trans hs (eqv_symm hz) hza
    unfold eqv at h1
    rw [hA a ha] at h1
    simp at h1
  cases D with
  | nil => have := h.len; simp at this
  | cons y D' =>
    have hx : x ∈ y :: D' := h.sam.mem hs (by simp)
    have hy : y ∈ A ++ x :: B := h.sam.symm.mem hs (by simp)
    have e1 : lt x y = false := srt_first hs h.srt x hx
    have e2 : lt y x = false := by
      rcases List.mem_append.1 hy with h1 | h1
      · have := hA y h1; rw [e1] at this; cases this
      · rcases List.mem_cons.1 h1 with rfl | h1
        · exact hs.irrefl _
        · exact hB y h1
    have exy : eqv lt x y = true := by unfold eqv; rw [e1, e2]; rfl
    have h2 := h.sam x
    rw [List.filter_append, hAx x (eqv_self hs x), List.nil_append, List.filter_cons_of_pos (eqv_self hs x), List.filter_cons_of_pos exy, List.cons.injEq] at h2
    obtain ⟨rfl, _⟩ := h2
    refine ⟨D', rfl, ?_, (List.pairwise_cons.1 h.srt).2, fun z => ?_⟩
    · have := h.len; simp only [List.length_append, List.length_cons] at this ⊢; omega
    · have h3 := h.sam z
      rw [List.filter_append] at h3 ⊢
      by_cases ez : eqv lt z x = true
      · rw [List.filter_cons_of_pos ez, List.filter_cons_of_pos ez, hAx z ez, List.nil_append, List.cons.injEq] at h3
        rw [hAx z ez, List.nil_append]
        exact h3.2
      · rw [List.filter_cons_of_neg ez, List.filter_cons_of_neg ez] at h3
        exact h3
/-- one choice: the index of the first of the least ones that are left -/
theorem pick_at (hs : Swo lt) {L P D : List α} {t : List Bool} {b : Nat} (hb : b < L.length) (ht : t.length = L.length) (hf : t[b]? = some false)
    (h1 : ∀ j x, j < b → L[j]? = some x → t[j]? = some false → lt L[b] x = true) (h2 : ∀ j x, b < j → L[j]? = some x → t[j]? = some false → lt x L[b] = false)
    (h : ∃ R, P ++ R = D ∧ Stb lt (lft L t) R) : (∃ R, (P ++ [L[b]]) ++ R = D ∧ Stb lt (lft L (t.set b true)) R) := by
  obtain ⟨R, hR, hst⟩ := h
  obtain ⟨e1, e2⟩ := lft_split L t b hb ht hf
  rw [e1] at hst
  obtain ⟨R', rfl, hst'⟩ := stb_pick hs hst (fun a ha => by
      obtain ⟨j, h3, h4⟩ := mem_lft _ _ _ ha
      have hj : j < b := by
        have := (List.getElem?_eq_some_iff.1 h3).1
        rw [List.length_take] at this; omega
      rw [List.getElem?_take_of_lt hj] at h3 h4
      exact h1 j a hj h3 h4) (fun a ha => by
      obtain ⟨j, h3, h4⟩ := mem_lft _ _ _ ha
      rw [List.getElem?_drop] at h3 h4
      exact h2 _ a (by omega) h3 h4)
  exact ⟨R', by rw [List.append_assoc]; exact hR, by rw [e2]; exact hst'⟩
end
end Go.Proofs.YteojggbmkppjoaaGreatDoor
namespace Go.Proofs.YteojggbmkppjoaaGreatDoor
open Go.RowKit Go.Lib Go.Sort
set_option linter.unusedVariables false
set_option linter.unusedSimpArgs false
/-- a place's cells -/
def encP (x : Plc) : List Value := [.int .i64 x.1, .string (sb x.2)]
theorem encP_len (x : Plc) : (encP x).length = 2 := rfl
theorem encP_one (x : Plc) : ∀ v ∈ encP x, v.oneCell' = true := by
  intro v hv
  unfold encP at hv
  simp at hv
  rcases hv with rfl | rfl <;> rfl
theorem aggPl : ∀ w, (isAgg 47).run Tryz.prog w = .ok true w := fun w => by kernel_rfl
theorem sizePl : ∀ w, (Go.sizeOf 47).run Tryz.prog w = .ok 2 w := fun w => by kernel_rfl
set_option maxHeartbeats 400000 in
theorem isNaNi_any (x : Int) (w : World) : Calls Tryz.prog 42 #[.int .i64 x] w fun e w' => e = .returned (.bool false) ∧ w' = w := by
  go_enter Tryz.func42, Tryz.ntmps42
  go_wp2
  go_ret
  exact ⟨by simp, rfl⟩
set_option maxHeartbeats 1000000 in
theorem cmpInt_any (x y : Int) (w : World) : Calls Tryz.prog 17 #[.int .i64 x, .int .i64 y] w fun e w' => e = .returned (.int .i64 (cmpI x y)) ∧ w' = w := by
  obtain ⟨r, hr⟩ : ∃ r, cmpI x y = r := ⟨_, rfl⟩
  have HR := Lib.hid hr
  rw [hr]
  clear hr
  by_cases h1 : x < y
  · have H : Hid ((-1 : Int) = r) := by unfold Hid; rw [← HR.out]; unfold cmpI; rw [if_pos h1]
    go_enter Tryz.func17, Tryz.ntmps17
    go_wp2_with fail
    refine (isNaNi_any x _).mono ?_
    rintro e w1 ⟨rfl, rfl⟩
    go_wp2_with fail
    refine (isNaNi_any y _).mono ?_
    rintro e w1 ⟨rfl, rfl⟩
    go_wp2
    go_ret
    exact ⟨by rw [← H.out]; rfl, rfl⟩
  · by_cases h2 : y < x
    · have H : Hid ((1 : Int) = r) := by unfold Hid; rw [← HR.out]; unfold cmpI; rw [if_neg h1, if_pos h2]
      go_enter Tryz.func17, Tryz.ntmps17
      go_wp2_with fail
      refine (isNaNi_any x _).mono ?_
      rintro e w1 ⟨rfl, rfl⟩
      go_wp2_with fail
      refine (isNaNi_any y _).mono ?_
      rintro e w1 ⟨rfl, rfl⟩
      go_wp2
      go_ret
      exact ⟨by rw [← H.out]; rfl, rfl⟩
    · have H : Hid ((0 : Int) = r) := by unfold Hid; rw [← HR.out]; unfold cmpI; rw [if_neg h1, if_neg h2]
      go_enter Tryz.func17, Tryz.ntmps17
      go_wp2_with fail
      refine (isNaNi_any x _).mono ?_
      rintro e w1 ⟨rfl, rfl⟩
      go_wp2_with fail
      refine (isNaNi_any y _).mono ?_
      rintro e w1 ⟨rfl, rfl⟩
      go_wp2
      go_ret
      exact ⟨by rw [← H.out]; rfl, rfl⟩
set_option maxHeartbeats 1000000 in
theorem cmpOr_any (b : Nat) (x y : Int) (w : World) (h0 : w.cell? ⟨b, 0, none⟩ = some (.int .i64 x)) (h1 : w.cell? ⟨b, 1, none⟩ = some (.int .i64 y)) :
    Calls Tryz.prog 16 #[.slice (some ⟨b, 0, none⟩) 2 2] w fun e w' => e = .returned (.int .i64 (if x = 0 then y else x)) ∧ w' = w := by
  obtain ⟨r, hr⟩ : ∃ r, (if x = 0 then y else x) = r := ⟨_, rfl⟩
  have HR := Lib.hid hr
  rw [hr]
  clear hr
  go_enter Tryz.func16, Tryz.ntmps16
  go_wp2
  go_loopg [8] 2 (fun g i wr => (i = .int .i64 0 ∧ 2 ≤ g ∨ i = .int .i64 1 ∧ x = 0 ∧ 1 ≤ g ∨ i = .int .i64 2 ∧ x = 0 ∧ y = 0) ∧ w = wr)
  case atStart => exact ⟨.inl ⟨rfl, Nat.le_refl _⟩, rfl⟩
  case round =>
    obtain ⟨hc, rfl⟩ := hrel
    rcases hc with ⟨rfl, hg⟩ | ⟨rfl, hx, hg⟩ | ⟨rfl, hx, hy⟩
    · by_cases hx : x = 0
      · go_wp2
        go_roundg (1)
        case measure => omega
        case rel => exact ⟨.inr (.inl ⟨by go_num, hx, Nat.le_refl _⟩), rfl⟩
      · have H : Hid (r = x) := by unfold Hid; rw [← HR.out, if_neg hx]
        have hx2 : (x == 0) = false := beq_eq_false_iff_ne.2 hx
        go_wp2
        go_ret
        exact ⟨by rw [H.out]; rfl, rfl⟩
    · by_cases hy : y = 0
      · go_wp2
        go_roundg (0)
        case measure => omega
        case rel => exact ⟨.inr (.inr ⟨by go_num, hx, hy⟩), rfl⟩
      · have H : Hid (r = y) := by unfold Hid; rw [← HR.out, if_pos hx]
        have hy2 : (y == 0) = false := beq_eq_false_iff_ne.2 hy
        clear h0
        go_wp2
        go_ret
        exact ⟨by rw [H.out]; rfl, rfl⟩
    · have H : Hid (r = 0) := by unfold Hid; rw [← HR.out, if_pos hx, hy]
      go_wp2
      go_ret
      exact ⟨by rw [H.out]; rfl, rfl⟩
/-- two boxes of a place each -/
def P4 (a b : Nat) (x y : Plc) (T : World) : Prop := T.cell? ⟨a, 0, none⟩ = some (.int .i64 x.1) ∧ T.cell? ⟨a, 1, none⟩ = some (.string (sb x.2)) ∧ T.cell? ⟨b, 0, none⟩ = some (.int .i64 y.1) ∧ T.cell? ⟨b, 1, none⟩ = some (.string (sb y.2))
theorem p4_alloc {a b : Nat} {x0 x1 y0 y1 : Value} {T : World} (o : Obj) (h : T.cell? ⟨a, 0, none⟩ = some x0 ∧ T.cell? ⟨a, 1, none⟩ = some x1 ∧ T.cell? ⟨b, 0, none⟩ = some y0 ∧ T.cell? ⟨b, 1, none⟩ = some y1) :
    (T.alloc o).cell? ⟨a, 0, none⟩ = some x0 ∧ (T.alloc o).cell? ⟨a, 1, none⟩ = some x1 ∧ (T.alloc o).cell? ⟨b, 0, none⟩ = some y0 ∧ (T.alloc o).cell? ⟨b, 1, none⟩ = some y1 :=
  have k : ∀ c j u, T.cell? ⟨c, j, none⟩ = some u → (T.alloc o).cell? ⟨c, j, none⟩ = some u := fun c j u h => (((Below.refl _ T).alloc (Nat.le_refl _) o).cell (p := ⟨c, j, none⟩) (World.block_lt_of_cell? T _ h)).trans h
  ⟨k _ _ _ h.1, k _ _ _ h.2.1, k _ _ _ h.2.2.1, k _ _ _ h.2.2.2⟩
theorem or_new (T : World) (x y : Int) (t : TypeId) : Calls Tryz.prog 16 #[.slice (some ⟨T.heap.size, 0, none⟩) 2 2] (T.alloc (.cells #[.int .i64 x, .int .i64 y] t)) fun e w' => e = .returned (.int .i64 (if x = 0 then y else x)) ∧ w' = T.alloc (.cells #[.int .i64 x, .int .i64 y] t) := by
  have h := heap_alloc_new T (.cells #[.int .i64 x, .int .i64 y] t)
  refine cmpOr_any _ x y _ ?_ ?_
  · simp only [World.cell?, h, Option.bind_some, Bind.bind]; rfl
  · simp only [World.cell?, h, Option.bind_some, Bind.bind]; rfl
theorem or_new2 (T : World) (x y : Int) (t : TypeId) : Calls Tryz.prog 16 #[.slice (some ⟨T.heap.size, 0, none⟩) 2 2] (T.alloc (.cells #[.int .i64 x, .int .i64 y] t)).drew fun e w' => e = .returned (.int .i64 (if x = 0 then y else x)) ∧ w' = (T.alloc (.cells #[.int .i64 x, .int .i64 y] t)).drew := by
  have h := heap_alloc_new T (.cells #[.int .i64 x, .int .i64 y] t)
  refine cmpOr_any _ x y _ ?_ ?_
  · show (T.alloc _).cell? _ = _
    simp only [World.cell?, h, Option.bind_some, Bind.bind]; rfl
  · show (T.alloc _).cell? _ = _
    simp only [World.cell?, h, Option.bind_some, Bind.bind]; rfl
theorem p4_ad {a b : Nat} {x0 x1 y0 y1 : Value} {T : World} (o : Obj) (h : T.cell? ⟨a, 0, none⟩ = some x0 ∧ T.cell? ⟨a, 1, none⟩ = some x1 ∧ T.cell? ⟨b, 0, none⟩ = some y0 ∧ T.cell? ⟨b, 1, none⟩ = some y1) :
    (T.alloc o).drew.cell? ⟨a, 0, none⟩ = some x0 ∧ (T.alloc o).drew.cell? ⟨a, 1, none⟩ = some x1 ∧ (T.alloc o).drew.cell? ⟨b, 0, none⟩ = some y0 ∧ (T.alloc o).drew.cell? ⟨b, 1, none⟩ = some y1 := p4_alloc o h
set_option maxRecDepth 100000 in
set_option maxHeartbeats 4000000 in
theorem cmpP_any (x y : Plc) (w : World) : Calls Tryz.prog 15 #[.agg (encP x).toArray, .agg (encP y).toArray] w fun e w' => e = .returned (.int .i64 (cfP x y)) ∧ ∃ q os', w' = grow (w.drewN q) os' := by
  have ci := fun W => cmpInt_any x.1 y.1 W
  have cs := fun W => cmpStr_any (sb x.2) (sb y.2) W
  have HC : Hid ((if cmpI x.1 y.1 = 0 then cmpS (bl (sb x.2)) (bl (sb y.2)) else cmpI x.1 y.1) = cfP x y) := by unfold Hid cfP; rw [bl_sb, bl_sb]
  obtain ⟨r, hr⟩ : ∃ r, cfP x y = r := ⟨_, rfl⟩
  rw [hr] at HC ⊢
  show Calls Tryz.prog 15 #[.agg #[.int .i64 x.1, .string (sb x.2)], .agg #[.int .i64 y.1, .string (sb y.2)]] w fun e w' => e = .returned (.int .i64 r) ∧ ∃ q os', w' = grow (w.drewN q) os'
  obtain ⟨x1, hx1⟩ : ∃ a, x.1 = a := ⟨_, rfl⟩
  obtain ⟨y1, hy1⟩ : ∃ a, y.1 = a := ⟨_, rfl⟩
  obtain ⟨x2, hx2⟩ : ∃ a, sb x.2 = a := ⟨_, rfl⟩
  obtain ⟨y2, hy2⟩ : ∃ a, sb y.2 = a := ⟨_, rfl⟩
  rw [hx1, hy1] at ci HC ⊢
  rw [hx2, hy2] at cs HC ⊢
  clear hx1 hy1 hx2 hy2 hr x y
  obtain ⟨p, hp⟩ : ∃ p, cmpI x1 y1 = p := ⟨_, rfl⟩
  obtain ⟨q, hq⟩ : ∃ p, cmpS (bl x2) (bl y2) = p := ⟨_, rfl⟩
  rw [hp] at ci HC
  rw [hq] at cs HC
  clear hp hq
  have co := fun W => or_new W p q 3
  have co2 := fun W => or_new2 W p q 3
  rw [HC.out] at co co2
  obtain ⟨W2, hW2⟩ : ∃ W2, (w.alloc (.cells #[.int .i64 x1, .string x2] 47)).alloc (.cells #[.int .i64 y1, .string y2] 47) = W2 := ⟨_, rfl⟩
  have HW : Hid (∀ n os, ∃ q os', grow (W2.drewN n) os = grow (w.drewN q) os') := fun n os => ⟨n, _, by rw [← hW2, alloc_eq_grow, alloc_eq_grow, grow_grow]; show grow (grow (w.drewN n) _) os = _; rw [grow_grow]⟩
  have HS : W2.drew.cell? ⟨w.heap.size, 0, none⟩ = some (.int .i64 x1) ∧ W2.drew.cell? ⟨w.heap.size, 1, none⟩ = some (.string x2) ∧ W2.drew.cell? ⟨w.heap.size + 1, 0, none⟩ = some (.int .i64 y1) ∧ W2.drew.cell? ⟨w.heap.size + 1, 1, none⟩ = some (.string y2) := by rw [← hW2]; simp [go_sem]
  have HS0 : W2.cell? ⟨w.heap.size, 0, none⟩ = some (.int .i64 x1) ∧ W2.cell? ⟨w.heap.size, 1, none⟩ = some (.string x2) ∧ W2.cell? ⟨w.heap.size + 1, 0, none⟩ = some (.int .i64 y1) ∧ W2.cell? ⟨w.heap.size + 1, 1, none⟩ = some (.string y2) := HS
  have mixed := mixedS
  go_enter Tryz.func15, Tryz.ntmps15
  go_wp2_with fail
  try rw [hW2]
  clear hW2
  go_region_held3 (fun wx => wx.cell? ⟨w.heap.size, 0, none⟩ = some (.int .i64 x1) ∧ wx.cell? ⟨w.heap.size, 1, none⟩ = some (.string x2) ∧ wx.cell? ⟨w.heap.size + 1, 0, none⟩ = some (.int .i64 y1) ∧ wx.cell? ⟨w.heap.size + 1, 1, none⟩ = some (.string y2))
    (first | with_reducible assumption | (with_reducible refine p4_alloc _ ?_; with_reducible assumption) | (with_reducible refine p4_ad _ ?_; with_reducible assumption))
    (first
    | (go_at_call 17; with_reducible refine (ci _).mono ?_; rintro e wa ⟨rfl, rfl⟩)
    | (go_at_call 18; with_reducible refine (cs _).mono ?_; rintro e wa ⟨rfl, rfl⟩)
    | (go_at_call 16; (first | with_reducible refine (co _).mono ?_ | with_reducible refine (co2 _).mono ?_); rintro e wa ⟨rfl, rfl⟩)
    | fail)
  all_goals go_wp2
  all_goals go_ret
  all_goals exact ⟨rfl, by obtain ⟨n, os, h⟩ := HW.out 1 #[.cells #[.int .i64 p, .int .i64 q] 3]; exact ⟨n, os, by rw [← h, alloc_eq_grow]; rfl⟩⟩
end Go.Proofs.YteojggbmkppjoaaGreatDoor
namespace Go.Proofs.YteojggbmkppjoaaGreatDoor
open Go.RowKit Go.Lib Go.Sort
set_option linter.unusedVariables false
set_option linter.unusedSimpArgs false
/-- the place of a fix, seen from a position -/
noncomputable def plc (la lo : Int) (f : FxS) : Plc := (distV (vecOf la lo) (vecOf f.1.lat f.1.lon), fxRef f.1)
theorem plc_fst (la lo : Int) (f : FxS) : (plc la lo f).1 = distV (vecOf la lo) (vecOf f.1.lat f.1.lon) := by unfold plc; with_reducible rfl
theorem plc_snd (la lo : Int) (f : FxS) : (plc la lo f).2 = rfS f := by unfold plc rfS; with_reducible rfl
def okP (la lo : Int) (f : FxS) : Bool := vldB la lo && vldB f.1.lat f.1.lon
/-- strings as values -/
def strs (l : List (List UInt8)) : List Value := l.map fun x => .string (sb x)
theorem strs_snoc (l : List (List UInt8)) (x : List UInt8) : strs (l ++ [x]) = strs l ++ [.string (sb x)] := by unfold strs; rw [List.map_append]; rfl
theorem str_step {base : Nat} {w0 wr w' : World} {v v' : Value} {e : TypeId} {done : List (List UInt8)} {x : List UInt8} {o : Obj} {n : Nat} (hn : done.length = n)
    (hlt : ∀ k, v.ownBlock = some k → base ≤ k ∧ k < wr.heap.size) (hb : Below base w0 wr) (hown' : w'.ownsRow base e 1 v' (n + 1) (strs done ++ [.string (sb x)])) (hg : (wr.alloc o).grownBy w' v.ownBlock) (hB : base ≤ wr.heap.size) :
    w'.ownsRow base e 1 v' (done ++ [x]).length (strs (done ++ [x])) ∧ Below base w0 w' := by
  subst hn
  refine ⟨?_, (hb.alloc hB o).grown hg (by simp; omega) (fun k hk => (hlt k hk).1)⟩
  rw [strs_snoc, List.length_append]
  exact hown'
theorem cell_str2 (w : World) (o : Obj) (a : Value) (t : TypeId) : ∀ j u, [a][j]? = some u → ((w.alloc o).alloc (.cells #[a] t)).cell? ((⟨w.heap.size + 1, 0, none⟩ : Addr).add j) = some u := by
  have h := cell_one_new (w.alloc o) a t
  have e : (w.alloc o).heap.size = w.heap.size + 1 := by simp
  rw [e] at h
  exact h
theorem own_less {base base' : Nat} {w : World} {e : TypeId} {size n : Nat} {v : Value} {xs : List Value} (h : w.ownsRow base e size v n xs) (hb : base' ≤ base) : w.ownsRow base' e size v n xs := by
  obtain ⟨hl, h2 | ⟨g, cap, cur, hv, hg, r⟩⟩ := h
  · exact ⟨hl, .inl h2⟩
  · exact ⟨hl, .inr ⟨g, cap, cur, hv, Nat.le_trans hb hg, r⟩⟩
def pcells (D : List Plc) : List Value := D.flatMap encP
theorem pcells_snoc (l : List Plc) (x : Plc) : pcells (l ++ [x]) = pcells l ++ encP x := by unfold pcells; rw [List.flatMap_append]; simp
theorem pcells_at (l : List Plc) : ∀ (k : Nat) (h : k < l.length), (pcells l)[k * 2]? = some (.int .i64 l[k].1) ∧ (pcells l)[k * 2 + 1]? = some (.string (sb l[k].2)) := by
  induction l with
  | nil => intro k h; simp at h
  | cons p l ih =>
    intro k h
    have e : pcells (p :: l) = encP p ++ pcells l := rfl
    have hl : (encP p).length = 2 := rfl
    rw [e]
    cases k with
    | zero => exact ⟨rfl, rfl⟩
    | succ k =>
      have h2 := ih k (by simpa using h)
      rw [List.getElem?_append_right (by omega), List.getElem?_append_right (by omega), hl, show (k + 1) * 2 - 2 = k * 2 by omega, show (k + 1) * 2 + 1 - 2 = k * 2 + 1 by omega]
      exact h2
theorem plc_step {base : Nat} {w0 wr w' : World} {v v' : Value} {done : List Plc} {x : Plc} {o : Obj} {n : Nat} (hn : done.length = n)
    (hlt : ∀ k, v.ownBlock = some k → base ≤ k ∧ k < wr.heap.size) (hb : Below base w0 wr) (hown' : w'.ownsRow base 47 2 v' (n + 1) (pcells done ++ encP x)) (hg : (wr.alloc o).grownBy w' v.ownBlock) (hB : base ≤ wr.heap.size) :
    w'.ownsRow base 47 2 v' (done ++ [x]).length (pcells (done ++ [x])) ∧ Below base w0 w' := by
  subst hn
  refine ⟨?_, (hb.alloc hB o).grown hg (by simp; omega) (fun k hk => (hlt k hk).1)⟩
  rw [pcells_snoc, List.length_append]
  exact hown'
theorem infoPl : (Tryz.prog.info? 47).map (fun i => (i.zero, i.size, i.bytes)) = some (some (.agg #[.int .i64 0, .string ⟨#[]⟩]), 2, 24) := by kernel_rfl
/-- the nearest ones, or the error -/
def NearPost (la lo n : Int) (L : List FxS) (w : World) (e : Ending) (w' : World) : Prop :=
  ∃ v er, e = .returned (.tuple #[v, .int .i64 er]) ∧ Below w.heap.size w w' ∧
    ((er = 1 ∧ v = .slice none 0 0 ∧ (n < 0 ∨ L.all (okP la lo) = false)) ∨
     (er = 0 ∧ 0 ≤ n ∧ L.all (okP la lo) = true ∧ ∃ (D : List Plc) (m : Nat), Stb (ltOf cfP) (L.map (plc la lo)) D ∧ (m : Int) = min n (L.length : Int) ∧ w'.ownsRow w.heap.size 9 1 v m (strs ((D.take m).map (·.2)))))
set_option maxRecDepth 100000 in
set_option maxHeartbeats 4000000 in
theorem near_any (v : Value) (L : List FxS) (la lo n : Int) (w : World) (h : FxsR w v (L.map (·.1))) (hN : L.length ≤ 1000) :
    Calls Tryz.prog 7 #[v, .agg #[.int .i64 la, .int .i64 lo], .int .i64 n] w (NearPost la lo n L w) := by
  obtain ⟨i0, hi, hz0, hz1, hz2⟩ := info_parts infoPl
  obtain ⟨j0, hj, hy0, hy1, hy2⟩ := info_parts infoString
  have HLM : Hid ((L.map (·.1)).length = L.length) := List.length_map _
  obtain ⟨A, c, rfl, hc, hm⟩ := h.form
  by_cases hn0 : n < 0
  · clear h hi hz0 hz1 hz2 hj hy0 hy1 hy2
    go_enter Tryz.func7, Tryz.ntmps7
    go_wp2
    go_ret2
    exact ⟨_, _, rfl, (Below.refl _ _).alloc (Nat.le_refl _) _, .inl ⟨rfl, rfl, .inl hn0⟩⟩
  obtain ⟨W0, hW0⟩ : ∃ W0, w.alloc (.cells #[.int .i64 la, .int .i64 lo] 24) = W0 := ⟨_, rfl⟩
  have HB0 : Hid (Below w.heap.size w W0 ∧ W0.heap.size = w.heap.size + 1) := by rw [← hW0]; exact ⟨(Below.refl _ _).alloc (Nat.le_refl _) _, by simp⟩
  have HP0 : Hid (W0.cell? ⟨w.heap.size, 0, none⟩ = some (.int .i64 la) ∧ W0.cell? ⟨w.heap.size, 1, none⟩ = some (.int .i64 lo)) := by rw [← hW0]; unfold Hid; simp [go_sem]
  have H0 : Hid (FxsR W0 (.slice A (L.map (·.1)).length c) (L.map (·.1))) := by rw [← hW0]; exact h.below ((Below.refl _ _).alloc (Nat.le_refl _) _)
  obtain ⟨N, hNN⟩ : ∃ N, L.length = N := ⟨_, rfl⟩
  have HN := Lib.hid hNN
  rw [HLM.out, hNN] at H0 hc
  rw [HLM.out, hNN]
  rw [hNN] at hN
  clear h hNN
  go_enter Tryz.func7, Tryz.ntmps7
  go_wp2_with fail
  try rw [hW0]
  clear hW0
  go_loopg [8, 20] (N + 1) (fun g1 va vi wr => ∃ k : Nat, vi = .int .i64 k ∧ k ≤ N ∧ N - k ≤ g1 ∧ Hid (Below W0.heap.size W0 wr) ∧ Hid (wr.ownsRow W0.heap.size 47 2 va k (pcells ((L.take k).map (plc la lo)))) ∧ Hid ((L.take k).all (okP la lo) = true))
  case atStart => exact ⟨0, by first | rfl | go_num, Nat.zero_le _, by omega, Lib.hid (Below.refl _ _), Lib.hid (World.ownsRow_nil _ _ _ _), Lib.hid rfl⟩
  case round =>
    obtain ⟨k, rfl, hk, hg1, hb, hown, hall⟩ := hrel
    by_cases hlt : k < N
    · have hkl : k < L.length := by rw [HN.out]; exact hlt
      obtain ⟨g, o, c', hA, hg, hat⟩ := H0.out.at_ (by rw [List.length_map]; exact hkl)
      rw [HLM.out, HN.out] at hA
      simp only [Value.slice.injEq, true_and] at hA
      obtain ⟨rfl, rfl⟩ := hA
      rw [List.getElem_map] at hat
      obtain ⟨f, hf⟩ : ∃ f, L[k] = f := ⟨_, rfl⟩
      have HT : Hid (L.take (k + 1) = L.take k ++ [f]) := by unfold Hid; rw [List.take_succ_eq_append_getElem hkl, hf]
      have HM : Hid (f ∈ L) := by rw [← hf]; exact List.getElem_mem hkl
      rw [hf] at hat
      have rf := fun W => fixRefG_any f W
      obtain ⟨x, hx⟩ : ∃ x, plc la lo f = x := ⟨_, rfl⟩
      have hx1 : distV (vecOf la lo) (vecOf f.1.lat f.1.lon) = x.1 := by rw [← hx, plc_fst]
      have hx2 : rfS f = x.2 := by rw [← hx, plc_snd]
      rw [hx2] at rf
      have HK : Hid (okP la lo f = (vldB la lo && vldB f.1.lat f.1.lon)) := rfl
      have di := fun W h1 h2 => sdist_ok la lo f.1.lat f.1.lon W h1 h2
      have db := fun W h1 => sdist_bad la lo f.1.lat f.1.lon W h1
      rw [hx1] at di
      clear hx1 hx2 hf
      obtain ⟨f, hfs⟩ := f
      simp only at hat di db HK
      change ∀ W, Calls Tryz.prog 9 #[.agg #[.string (sb f.id), .string (sb f.rg), .int .u8 (f.kd : Int), .int .i64 f.lat, .int .i64 f.lon, .int .i64 f.el, .int .i64 f.ra]] W _ at rf
      obtain ⟨c0, c1, c2, c3, c4, c5, c6⟩ := hat.below hg hb.out hg
      have hgw : g < wr.heap.size := Nat.lt_of_lt_of_le hg hb.out.size
      obtain ⟨p0, p1⟩ := HP0.out
      have hwl : w.heap.size < W0.heap.size := by have := HB0.out.2; omega
      have q0 : wr.cell? ⟨w.heap.size, 0, none⟩ = some (.int .i64 la) := (hb.out.cell (p := ⟨w.heap.size, 0, none⟩) hwl).trans p0
      have q1 : wr.cell? ⟨w.heap.size, 1, none⟩ = some (.int .i64 lo) := (hb.out.cell (p := ⟨w.heap.size, 1, none⟩) hwl).trans p1
      have hwr : w.heap.size < wr.heap.size := Nat.lt_of_lt_of_le hwl hb.out.size
      have X1 : FxBox (wr.alloc (.cells #[.string (sb f.id), .string (sb f.rg), .int .u8 (f.kd : Int), .int .i64 f.lat, .int .i64 f.lon, .int .i64 f.el, .int .i64 f.ra] 34)) wr.heap.size f := heap_alloc_new wr _
      have HX1 := Lib.hid X1
      have HBX := Lib.hid (fun o => hb.out.alloc hb.out.size o)
      have HOX := Lib.hid (fun o => hown.out.alloc o)
      clear p0 p1 hwl hat X1
      by_cases hv : (vldB la lo && vldB f.lat f.lon) = true
      · have hv1 : vldB la lo = true ∧ vldB f.lat f.lon = true := by rw [Bool.and_eq_true] at hv; exact hv
        have HA : Hid ((L.take (k + 1)).all (okP la lo) = true) := by
          unfold Hid
          rw [HT.out, List.all_append, hall.out, List.all_cons, HK.out, hv]; rfl
        have HD : Hid ((L.take (k + 1)).map (plc la lo) = (L.take k).map (plc la lo) ++ [x]) := by
          unfold Hid
          rw [HT.out, List.map_append, ← hx]; rfl
        have HLK : Hid (((L.take k).map (plc la lo)).length = k) := by unfold Hid; rw [List.length_map, List.length_take, HN.out]; omega
        clear hv db hall HT hx
        obtain ⟨done, hdone⟩ : ∃ d, (L.take k).map (plc la lo) = d := ⟨_, rfl⟩
        rw [hdone] at HD HLK HOX hown
        clear hdone hown
        go_wp2_with fail
        refine (di _ hv1.1 hv1.2).mono ?_
        rintro e w2 ⟨rfl, hb2⟩
        have X2 := HX1.out.below hb2
        obtain ⟨y0, y1, y2, y3, y4, y5, y6⟩ := X2.cells
        have HB2 := Lib.hid (Below.then_ (HBX.out _) hb2)
        have HO2 := Lib.hid (own_below (HOX.out _) hb2)
        clear hb2 HX1 HBX HOX X2 di c0 c1 c2 c3 c4 c5 c6 q0 q1
        go_wp2_with fail
        refine (rf _).mono ?_
        rintro e w3 ⟨rfl, hgr⟩
        have hb3 : Below w2.heap.size w2 w3 := by obtain ⟨q, os, rfl⟩ := hgr; exact below_grow w2 q os
        have HB3 := Lib.hid (Below.then_ HB2.out hb3)
        have HO3 := own_below HO2.out hb3
        have hlo := Lib.hid HO3.lt
        have hB3 : W0.heap.size ≤ w3.heap.size := HB3.out.size
        clear hb3 hgr HB2 HO2 y0 y1 y2 y3 y4 y5 y6 rf
        go_wp2_with (at_builtin; refine wpList_append_own _ rfl _ _ 45 rfl W0.heap.size 47 i0 (.agg #[.int .i64 0, .string ⟨#[]⟩]) 2 24 Tryz.underlying45 hi hz0 hz1 hz2 rfl (by decide) _ _ _ rfl (HO3.alloc _) ⟨w3.heap.size, 0, none⟩ 1 1 (encP x) rfl rfl ?c1 ?c2 ?c3 ?c4 ?c5 ?_)
        case c1 => exact World.news_of_block (heap_alloc_new w3 _)
        case c2 => exact encP_one x
        case c3 => unfold maxLen; omega
        case c4 => omega
        case c5 => simp; omega
        intro v' w' hown' hgrow _
        have R := plc_step HLK.out hlo.out HB3.out hown' hgrow hB3
        rw [← HD.out] at R
        have hlk1 : ((L.take (k + 1)).map (plc la lo)).length = k + 1 := by rw [HD.out, List.length_append, HLK.out]; rfl
        rw [hlk1] at R
        have R1 := Lib.hid R.1
        have R2 := Lib.hid R.2
        clear R hown' hgrow hlo HO3 hlk1
        go_wp2
        go_roundg (N - (k + 1))
        case measure => omega
        case rel => exact ⟨k + 1, by go_num, hlt, by omega, R2, R1, HA⟩
      · have hv2 : (vldB la lo && vldB f.lat f.lon) = false := Bool.eq_false_iff.2 hv
        have HF : Hid (L.all (okP la lo) = false) := by
          unfold Hid
          rw [List.all_eq_false]
          exact ⟨_, HM.out, by rw [HK.out, hv2]; decide⟩
        have HBw : Hid (∀ w2, Below (wr.alloc (.cells #[.string (sb f.id), .string (sb f.rg), .int .u8 (f.kd : Int), .int .i64 f.lat, .int .i64 f.lon, .int .i64 f.el, .int .i64 f.ra] 34)).heap.size (wr.alloc (.cells #[.string (sb f.id), .string (sb f.rg), .int .u8 (f.kd : Int), .int .i64 f.lat, .int .i64 f.lon, .int .i64 f.el, .int .i64 f.ra] 34)) w2 → Below w.heap.size w w2) := fun w2 h =>
          Below.then_ HB0.out.1 (Below.then_ (HBX.out _) h)
        clear hv HBX HOX rf di HX1 HT
        go_wp2_with fail
        refine (db _ hv2).mono ?_
        rintro e w2 ⟨rfl, hb2⟩
        have HE := Lib.hid (HBw.out _ hb2)
        clear hb2
        go_wp2
        go_ret2
        exact ⟨_, _, rfl, HE.out, .inl ⟨rfl, rfl, .inr HF.out⟩⟩
    · have hkN : k = N := by omega
      subst hkN
      have HF : Hid (L.take k = L) := List.take_of_length_le (by rw [HN.out]; exact Nat.le_refl _)
      have hown2 := hown.out
      rw [HF.out] at hown2 hall
      have HALL := Lib.hid hall.out
      obtain ⟨P, hP⟩ : ∃ P, L.map (plc la lo) = P := ⟨_, rfl⟩
      have HPL : Hid (P.length = k) := by unfold Hid; rw [← hP, List.length_map, HN.out]
      rw [hP] at hown2
      have HPP := Lib.hid hP
      obtain ⟨m, hm⟩ : ∃ m : Nat, (m : Int) = min n (k : Int) := ⟨(min n (k : Int)).toNat, by omega⟩
      have HM := Lib.hid hm
      clear hall HF hP hown hg1 hk hm
      rcases Nat.eq_zero_or_pos k with h0 | h0
      · have hmin : min n (k : Int) = 0 := by omega
        have HM0 : Hid (m = 0) := by have := HM.out; unfold Hid; omega
        have HP0' : Hid (P = []) := List.eq_nil_of_length_eq_zero (HPL.out.trans h0)
        obtain ⟨A', c', hv, hc', hm'⟩ := (Rd.of_own hown2 : Rd wr 2 u8 k _).form
        subst hv
        have HB := Lib.hid (Below.then_ HB0.out.1 hb.out)
        clear hown2 hb
        subst h0
        unfold maxLen at hm'
        go_wp2_with fail
        refine (stable0_pl A' c' _ _).mono ?_
        rintro e w2 ⟨rfl, rfl⟩
        cases A'
        all_goals
          go_wp2_with fail
          go_loopg [13, 51] 0 (fun g1 vo vi w3 => vo = .slice none 0 0 ∧ vi = .int .i64 0 ∧ w2 = w3)
          case atStart => exact ⟨rfl, rfl, rfl⟩
          case round =>
            obtain ⟨rfl, rfl, rfl⟩ := hrel
            go_wp2
            go_ret2
            refine ⟨_, _, rfl, HB.out, .inr ⟨rfl, hn0, HALL.out, [], 0, ?_, ?_, ?_⟩⟩
            · rw [HPP.out, HP0'.out]; exact Stb.nil _
            · rw [HN.out]; omega
            · exact World.ownsRow_nil _ _ _ _
      · obtain ⟨g, cg, rfl, hcg, hmg, hge, hlt2, hH⟩ := holdsK_own encP_len (show wr.ownsRow W0.heap.size 47 2 u8 P.length (P.flatMap encP) by rw [HPL.out]; exact hown2) (by rw [HPL.out]; exact h0)
        rw [HPL.out] at hcg
        rw [HPL.out]
        have HH := Lib.hid hH
        clear hown2 hH
        go_wp2_with fail
        refine (sortStable_pl 2 aggPl sizePl encP cfP swoP 15 #[] (fun _ _ => rfl) g 0 cg k P _ ⟨encP_len, encP_one, HH.out, hlt2⟩ HPL.out (fun _ _ _ _ x y => cmpP_any x y _) (by omega)).mono ?_
        rintro e w2 ⟨rfl, D, hst, hsw⟩
        have HST := Lib.hid hst
        have HDL : Hid (D.length = k) := hst.len.trans HPL.out
        have HD2 : Hid (HoldsK encP 2 w2 g 0 D.toArray) := hsw.holds hlt2 HH.out (by rw [List.size_toArray, List.size_toArray]; exact hst.len)
        have HG2 : Hid (g < w2.heap.size) := hsw.lt hlt2
        have HB2 : Hid (Below W0.heap.size W0 w2) := hb.out.trans (swk_below hsw hge hb.out.size)
        clear hst hsw HH hb hlt2
        have hmin : min n (k : Int) = (m : Int) := HM.out.symm
        have hmk : m ≤ k := by omega
        have HRD := Lib.hid (rd_holdsK encP_len HD2.out HG2.out (by rw [HDL.out]; exact hcg) hmg)
        have HLT := Lib.hid (Nat.le_trans (Nat.le_trans (by have := HB0.out.2; omega : w.heap.size ≤ W0.heap.size) HB2.out.size) (Nat.le_refl w2.heap.size))
        unfold maxLen at hmg
        go_wp2_with fail
        go_loopg [13, 51] (m + 1) (fun g1 vo vi wr => ∃ i : Nat, vi = .int .i64 i ∧ i ≤ m ∧ m - i ≤ g1 ∧ Hid (Below w2.heap.size w2 wr) ∧ Hid (wr.ownsRow w2.heap.size 9 1 vo i (strs ((D.take i).map (·.2)))))
        case atStart => exact ⟨0, by first | rfl | go_num, Nat.zero_le _, by omega, Lib.hid (Below.refl _ _), Lib.hid (World.ownsRow_nil _ _ _ _)⟩
        case round =>
          obtain ⟨i, rfl, hi2, hg2, hb3, hown3⟩ := hrel
          by_cases hil : i < m
          · have hiD : i < D.length := by rw [HDL.out]; omega
            obtain ⟨g', o', cc, a, b, hsl, _, hgl, ha, hb', hca, hcb⟩ := HRD.out.two hiD
            have he := pcells_at D i hiD
            unfold pcells at he
            rw [he.1, Option.some.injEq] at ha
            rw [he.2, Option.some.injEq] at hb'
            simp only [Value.slice.injEq, Option.some.injEq, Addr.mk.injEq, and_true, true_and] at hsl
            obtain ⟨⟨rfl, rfl⟩, rfl⟩ := hsl
            subst ha hb'
            have k1 := (hb3.out.cell (p := ⟨g, 0 + i * 2, none⟩) hgl).trans hca
            have k2 := (hb3.out.cell (p := ⟨g, 0 + i * 2 + 1, none⟩) hgl).trans hcb
            rw [Nat.zero_add] at k1 k2
            have HS : Hid (((D.take (i + 1)).map (·.2)) = ((D.take i).map (·.2)) ++ [D[i].2]) := by unfold Hid; rw [List.take_succ_eq_append_getElem hiD, List.map_append]; rfl
            have HLK : Hid (((D.take i).map (·.2)).length = i) := by unfold Hid; rw [List.length_map, List.length_take]; omega
            obtain ⟨x, hx⟩ : ∃ x, D[i] = x := ⟨_, rfl⟩
            rw [hx] at k1 k2 HS
            obtain ⟨done, hdone⟩ : ∃ d, (D.take i).map (·.2) = d := ⟨_, rfl⟩
            rw [hdone] at HS HLK hown3
            have hown := hown3.out
            have hw3 : w2.heap.size ≤ wr.heap.size := hb3.out.size
            clear hdone hx he hca hcb hgl hiD hown3
            go_wp2_with (at_builtin; refine wpList_append_own _ rfl _ _ 27 rfl w2.heap.size 9 j0 (.string ⟨#[]⟩) 1 16 Tryz.underlying27 hj hy0 hy1 hy2 rfl (by decide) _ _ _ rfl ((hown.alloc _).alloc _) ⟨wr.heap.size + 1, 0, none⟩ 1 1 [.string (sb x.2)] rfl rfl (cell_str2 _ _ _ _) ?c2 ?c3 ?c4 ?c5 ?_)
            case c2 => intro u hu; simp at hu; rcases hu with rfl; rfl
            case c3 => unfold maxLen; omega
            case c4 => omega
            case c5 => simp; omega
            intro v' w' hown' hgrow _
            have R := str_step HLK.out (hown.alloc _).lt (hb3.out.alloc hb3.out.size _) hown' hgrow (by simp; omega)
            rw [← HS.out] at R
            have hlk1 : ((D.take (i + 1)).map (·.2)).length = i + 1 := by rw [HS.out, List.length_append, HLK.out]; rfl
            rw [hlk1] at R
            have R1 := Lib.hid R.1
            have R2 := Lib.hid R.2
            clear R hown' hgrow hown hlk1
            go_wp2
            go_roundg (m - (i + 1))
            case measure => omega
            case rel => exact ⟨i + 1, by go_num, hil, by omega, R2, R1⟩
          · have him : i = m := by omega
            subst him
            have HE : Hid (Below w.heap.size w wr) := Below.then_ HB0.out.1 (Below.then_ HB2.out hb3.out)
            have HO : Hid (wr.ownsRow w.heap.size 9 1 u13 i (strs ((D.take i).map (·.2)))) := own_less hown3.out HLT.out
            clear hb3 hown3
            go_wp2
            go_ret2
            exact ⟨_, _, rfl, HE.out, .inr ⟨rfl, hn0, HALL.out, D, i, by rw [HPP.out]; exact HST.out, by rw [HN.out]; exact HM.out, HO.out⟩⟩
end Go.Proofs.YteojggbmkppjoaaGreatDoor
namespace Go.Proofs.YteojggbmkppjoaaGreatDoor
open Go.RowKit Go.Lib Go.Sort
set_option linter.unusedVariables false
set_option linter.unusedSimpArgs false
/-- numbers as values -/
def nums (l : List Int) : List Value := l.map fun x => .int .i64 x
theorem nums_snoc (l : List Int) (x : Int) : nums (l ++ [x]) = nums l ++ [.int .i64 x] := by unfold nums; rw [List.map_append]; rfl
theorem num_step {base : Nat} {w0 wr w' : World} {v v' : Value} {e : TypeId} {done : List Int} {x : Int} {o : Obj} {n : Nat} (hn : done.length = n)
    (hlt : ∀ k, v.ownBlock = some k → base ≤ k ∧ k < wr.heap.size) (hb : RowKit.Below base w0 wr) (hown' : w'.ownsRow base e 1 v' (n + 1) (nums done ++ [.int .i64 x])) (hg : (wr.alloc o).grownBy w' v.ownBlock) (hB : base ≤ wr.heap.size) :
    w'.ownsRow base e 1 v' (done ++ [x]).length (nums (done ++ [x])) ∧ RowKit.Below base w0 w' := by
  subst hn
  refine ⟨?_, (hb.alloc hB o).grown hg (by simp; omega) (fun k hk => (hlt k hk).1)⟩
  rw [nums_snoc, List.length_append]
  exact hown'
theorem infoI64 : (Tryz.prog.info? 2).map (fun i => (i.zero, i.size, i.bytes)) = some (some (.int .i64 0), 1, 8) := by kernel_rfl
theorem infoBool : (Tryz.prog.info? 4).map (fun i => (i.zero, i.size, i.bytes)) = some (some (.bool false), 1, 1) := by kernel_rfl
/-- the distances and the marks of what is taken, in memory; both lie below B -/
structure NrI (B gd gt : Nat) (d : List Int) (t : List Bool) (w wr : World) : Prop where
  ds : ∀ j x, d[j]? = some x → wr.cell? ⟨gd, j, none⟩ = some (.int .i64 x)
  tk : ∀ j b, t[j]? = some b → wr.cell? ⟨gt, j, none⟩ = some (.bool b) ∧ wr.frozen? ⟨gt, j, none⟩ = false
  bl : RowKit.Below w.heap.size w wr
  sz : B ≤ wr.heap.size
  ld : gd < B
  lt : gt < B
  ne : gd ≠ gt
  hi : w.heap.size ≤ gt
  wB : w.heap.size ≤ B
theorem NrI.below {B gd gt : Nat} {d : List Int} {t : List Bool} {w wr w' : World} (h : NrI B gd gt d t w wr) {B' : Nat} (hb : RowKit.Below B' wr w') (hB : B ≤ B') : NrI B gd gt d t w w' :=
  ⟨fun j x hj => (hb.cell (p := ⟨gd, j, none⟩) (Nat.lt_of_lt_of_le h.ld hB)).trans (h.ds j x hj),
   fun j b hj => ⟨(hb.cell (p := ⟨gt, j, none⟩) (Nat.lt_of_lt_of_le h.lt hB)).trans (h.tk j b hj).1, (hb.frozen (p := ⟨gt, j, none⟩) (Nat.lt_of_lt_of_le h.lt hB)).trans (h.tk j b hj).2⟩,
   h.bl.trans (hb.mono (Nat.le_trans h.wB hB)), Nat.le_trans h.sz hb.size, h.ld, h.lt, h.ne, h.hi, h.wB⟩
theorem NrI.take {B gd gt : Nat} {d : List Int} {t : List Bool} {w wr : World} (h : NrI B gd gt d t w wr) {b : Nat} (hb : b < t.length) : NrI B gd gt d (t.set b true) w (wr.setCell ⟨gt, b, none⟩ (.bool true)) := by
  have hne := h.ne
  refine ⟨fun j x hj => ?_, fun j c hj => ?_, h.bl.setCell h.hi _, by rw [World.size_setCell]; exact h.sz, h.ld, h.lt, h.ne, h.hi, h.wB⟩
  · rw [World.cell?_setCell_other _ _ _ _ (by intro e; injection e with e1 e2; omega)]
    exact h.ds j x hj
  · refine ⟨?_, by
      rw [World.frozen?_setCell]
      have hj2 : j < t.length := by have := (List.getElem?_eq_some_iff.1 hj).1; rwa [List.length_set] at this
      exact (h.tk j _ (List.getElem?_eq_getElem hj2)).2⟩
    by_cases hjb : j = b
    · subst hjb
      rw [List.getElem?_set_self hb, Option.some.injEq] at hj
      subst hj
      exact World.cell?_setCell_same _ _ _ (h.tk j _ (List.getElem?_eq_getElem hb)).1
    · rw [List.getElem?_set_ne (by omega)] at hj
      rw [World.cell?_setCell_other _ _ _ _ (by intro e; injection e with e1 e2; omega)]
      exact (h.tk j c hj).1
/-- the best of the first ones: none is left, or the first of the least ones -/
def BestR (P : List Plc) (t : List Bool) (i : Nat) (best : Int) : Prop :=
  (best = -1 ∧ ∀ j, j < i → t[j]? = some true) ∨
  ∃ b : Nat, best = (b : Int) ∧ b < i ∧ t[b]? = some false ∧ ∃ x, P[b]? = some x ∧ (∀ j y, j < b → P[j]? = some y → t[j]? = some false → ltOf cfP x y = true) ∧ (∀ j y, b < j → j < i → P[j]? = some y → t[j]? = some false → ltOf cfP y x = false)
theorem BestR.start (P : List Plc) (t : List Bool) : BestR P t 0 (-1) := .inl ⟨rfl, fun j h => absurd h (Nat.not_lt_zero _)⟩
theorem BestR.skip {P : List Plc} {t : List Bool} {i : Nat} {best : Int} (h : BestR P t i best) (ht : t[i]? = some true) : BestR P t (i + 1) best := by
  rcases h with ⟨h1, h2⟩ | ⟨b, h1, h2, h3, x, h4, h5, h6⟩
  · refine .inl ⟨h1, fun j hj => ?_⟩
    rcases Nat.lt_or_eq_of_le (Nat.le_of_lt_succ hj) with h | rfl
    · exact h2 j h
    · exact ht
  · refine .inr ⟨b, h1, by omega, h3, x, h4, h5, fun j y hj1 hj2 hy hf => ?_⟩
    rcases Nat.lt_or_eq_of_le (Nat.le_of_lt_succ hj2) with h | rfl
    · exact h6 j y hj1 h hy hf
    · rw [ht] at hf; cases hf
theorem BestR.first {P : List Plc} {t : List Bool} {i : Nat} (h : BestR P t i (-1)) (ht : t[i]? = some false) {x : Plc} (hx : P[i]? = some x) : BestR P t (i + 1) (i : Int) := by
  rcases h with ⟨_, h2⟩ | ⟨b, h1, _⟩
  · exact .inr ⟨i, rfl, by omega, ht, x, hx, (fun j y hj _ hf => by rw [h2 j hj] at hf; cases hf), (fun j y h1 h2 => by omega)⟩
  · omega
theorem BestR.less {P : List Plc} {t : List Bool} {i b : Nat} (h : BestR P t i (b : Int)) (ht : t[i]? = some false) {x y : Plc} (hx : P[i]? = some x) (hy : P[b]? = some y) (hl : ltOf cfP x y = true) : BestR P t (i + 1) (i : Int) := by
  rcases h with ⟨h1, _⟩ | ⟨b', h1, h2, h3, y', h4, h5, h6⟩
  · omega
  · obtain rfl : b = b' := by omega
    rw [hy, Option.some.injEq] at h4
    subst h4
    refine .inr ⟨i, rfl, by omega, ht, x, hx, fun j z hj hz hf => ?_, fun j z h1 h2 => by omega⟩
    rcases Nat.lt_trichotomy j b with hlt | rfl | hgt
    · exact lt_le swoP hl (swoP.asymm _ _ (h5 j z hlt hz hf))
    · rw [hy, Option.some.injEq] at hz; subst hz; exact hl
    · exact lt_le swoP hl (h6 j z hgt hj hz hf)
theorem BestR.more {P : List Plc} {t : List Bool} {i b : Nat} (h : BestR P t i (b : Int)) {x y : Plc} (hx : P[i]? = some x) (hy : P[b]? = some y) (hl : ltOf cfP x y = false) : BestR P t (i + 1) (b : Int) := by
  rcases h with ⟨h1, _⟩ | ⟨b', h1, h2, h3, y', h4, h5, h6⟩
  · omega
  · obtain rfl : b = b' := by omega
    rw [hy, Option.some.injEq] at h4
    subst h4
    refine .inr ⟨b, rfl, by omega, h3, y, hy, h5, fun j z hj1 hj2 hz hf => ?_⟩
    rcases Nat.lt_or_eq_of_le (Nat.le_of_lt_succ hj2) with h | rfl
    · exact h6 j z hj1 h hz hf
    · rw [hx, Option.some.injEq] at hz; subst hz; exact hl
theorem lft_all : ∀ (P : List Plc) (t : List Bool), (∀ j, j < P.length → t[j]? = some true) → lft P t = []
  | [], _, _ => by unfold lft; rfl
  | a :: P, [], _ => by unfold lft; rfl
  | a :: P, b :: t, h => by
    have h0 := h 0 (by simp)
    simp at h0
    subst h0
    have e : lft (a :: P) (true :: t) = lft P t := rfl
    rw [e]
    exact lft_all P t fun j hj => by simpa using h (j + 1) (by simpa using hj)
/-- what a whole search has found -/
theorem BestR.pick {P Q D : List Plc} {t : List Bool} {best : Int} (h : BestR P t P.length best) (ht : t.length = P.length) (hst : ∃ R, Q ++ R = D ∧ Stb (ltOf cfP) (lft P t) R) (hlen : D.length = P.length) (hq : Q.length < P.length) :
    ∃ (b : Nat) (x : Plc), best = (b : Int) ∧ P[b]? = some x ∧ t[b]? = some false ∧ ∃ R, (Q ++ [x]) ++ R = D ∧ Stb (ltOf cfP) (lft P (t.set b true)) R := by
  rcases h with ⟨_, h2⟩ | ⟨b, h1, h2, h3, x, h4, h5, h6⟩
  · exfalso
    obtain ⟨R, hR, hs⟩ := hst
    rw [lft_all P t h2] at hs
    have h3 := hs.len
    have h4 : D.length = Q.length + R.length := by rw [← hR, List.length_append]
    simp at h3
    rw [h3] at h4
    simp at h4
    omega
  · obtain ⟨hb, hx⟩ := List.getElem?_eq_some_iff.1 h4
    subst hx
    exact ⟨b, _, h1, h4, h3, pick_at swoP hb ht h3 h5 (fun j y hj1 hy hf => h6 j y hj1 (List.getElem?_eq_some_iff.1 hy).1 hy hf) hst⟩
theorem own_slice {base : Nat} {w : World} {e : TypeId} {n : Nat} {v : Value} {xs : List Value} (h : w.ownsRow base e 1 v n xs) (h0 : 0 < n) :
    ∃ g c, v = .slice (some ⟨g, 0, none⟩) n c ∧ n ≤ c ∧ c ≤ maxLen ∧ base ≤ g ∧ g < w.heap.size ∧ ∀ j u, xs[j]? = some u → w.cell? ⟨g, j, none⟩ = some u := by
  have hcs := @World.ownsRow.cells _ _ _ _ _ _ _ h
  obtain ⟨hl, ⟨rfl, h1⟩ | ⟨g, cap, cur, rfl, hb, hh, hn, hm, _, _⟩⟩ := h
  · omega
  · exact ⟨g, cap, rfl, hn, hm, hb, heap_lt hh, fun j u hu => by have := hcs (g := g) rfl j u hu; simpa [Addr.add_lit] using this⟩
theorem own_set {base : Nat} {w : World} {e : TypeId} {size n : Nat} {v : Value} {xs : List Value} (h : w.ownsRow base e size v n xs) {g : Nat} (hg : g < base) (j : Nat) (u : Value) : (w.setCell ⟨g, j, none⟩ u).ownsRow base e size v n xs := by
  obtain ⟨hl, h2 | ⟨g', cap, cur, hv, hb, hh, r⟩⟩ := h
  · exact ⟨hl, .inl h2⟩
  · refine ⟨hl, .inr ⟨g', cap, cur, hv, hb, ?_, r⟩⟩
    rw [heap_setCell_other w ⟨g, j, none⟩ g' u (by show g' ≠ g; omega)]
    exact hh
theorem fxAt_grown {w : World} {g o : Nat} {f : Fx} (h : FxAt w g o f) (hg : g < w.heap.size) (n : Nat) (os : Array Obj) : FxAt (grow (w.drewN n) os) g o f :=
  ⟨cell_grown hg h.c0 n os, cell_grown hg h.c1 n os, cell_grown hg h.c2 n os, cell_grown hg h.c3 n os, cell_grown hg h.c4 n os, cell_grown hg h.c5 n os, cell_grown hg h.c6 n os⟩
theorem ins_place {α : Type} {lt : α → α → Bool} (x : α) : ∀ (k : Nat) (D : List α), D.length = k → ∃ P1 P2, D = P1 ++ P2 ∧ (∀ a ∈ P2, lt x a = true) ∧ (P1 = [] ∨ ∃ Q z, P1 = Q ++ [z] ∧ lt x z = false)
  | 0, D, h => ⟨[], D, rfl, (fun a ha => by rw [List.eq_nil_of_length_eq_zero h] at ha; cases ha), .inl rfl⟩
  | k + 1, D, h => by
    have hne : D ≠ [] := by intro e; rw [e] at h; simp at h
    have hD := (List.dropLast_concat_getLast hne).symm
    cases hz : lt x (D.getLast hne)
    · exact ⟨D, [], by simp, (fun a ha => by cases ha), .inr ⟨_, _, hD, hz⟩⟩
    · obtain ⟨P1, P2, e, h2, h1⟩ := ins_place x k D.dropLast (by rw [List.length_dropLast, h]; rfl)
      refine ⟨P1, P2 ++ [D.getLast hne], by rw [← List.append_assoc, ← e]; exact hD, fun a ha => ?_, h1⟩
      rcases List.mem_append.1 ha with h3 | h3
      · exact h2 a h3
      · rw [List.mem_singleton.1 h3]; exact hz
theorem stb_ex {α : Type} {lt : α → α → Bool} (hs : Swo lt) (l : List α) : ∃ D, Stb lt l D := by
  have key : ∀ (k : Nat) (l : List α), l.length = k → ∃ D, Stb lt l D := by
    intro k
    induction k with
    | zero => intro l h; rw [List.eq_nil_of_length_eq_zero h]; exact ⟨[], Stb.nil _⟩
    | succ k ih =>
      intro l h
      have hne : l ≠ [] := by intro e; rw [e] at h; simp at h
      have hl := (List.dropLast_concat_getLast hne).symm
      obtain ⟨D, hD⟩ := ih l.dropLast (by rw [List.length_dropLast, h]; rfl)
      obtain ⟨P1, P2, rfl, h2, h1⟩ := ins_place (lt := lt) (l.getLast hne) _ D rfl
      rw [hl]
      exact ⟨_, hD.mrg (Stb.one lt _) (ins_mrg hs hD.srt h2 h1)⟩
  exact key _ l rfl
set_option maxRecDepth 100000 in
set_option maxHeartbeats 4000000 in
theorem rnear_any (v : Value) (L : List FxS) (la lo n : Int) (w : World) (h : FxsR w v (L.map (·.1))) (hN : L.length ≤ 1000) :
    Calls Tryz.prog 8 #[v, .agg #[.int .i64 la, .int .i64 lo], .int .i64 n] w (NearPost la lo n L w) := by
  obtain ⟨i0, hi, hz0, hz1, hz2⟩ := info_parts infoI64
  obtain ⟨j0, hj, hy0, hy1, hy2⟩ := info_parts infoString
  obtain ⟨l0, hl, hx0, hx1, hx2⟩ := info_parts infoBool
  have HH0 := Lib.hid h
  have HLM : Hid ((L.map (·.1)).length = L.length) := List.length_map _
  obtain ⟨A, c, rfl, hc, hm⟩ := h.form
  by_cases hn0 : n < 0
  · clear h hi hz0 hz1 hz2 hj hy0 hy1 hy2
    go_enter Tryz.func8, Tryz.ntmps8
    go_wp2
    go_ret2
    exact ⟨_, _, rfl, (Below.refl _ _).alloc (Nat.le_refl _) _, .inl ⟨rfl, rfl, .inl hn0⟩⟩
  obtain ⟨W0, hW0⟩ : ∃ W0, w.alloc (.cells #[.int .i64 la, .int .i64 lo] 24) = W0 := ⟨_, rfl⟩
  have HB0 : Hid (Below w.heap.size w W0 ∧ W0.heap.size = w.heap.size + 1) := by rw [← hW0]; exact ⟨(Below.refl _ _).alloc (Nat.le_refl _) _, by simp⟩
  have HP0 : Hid (W0.cell? ⟨w.heap.size, 0, none⟩ = some (.int .i64 la) ∧ W0.cell? ⟨w.heap.size, 1, none⟩ = some (.int .i64 lo)) := by rw [← hW0]; unfold Hid; simp [go_sem]
  have H0 : Hid (FxsR W0 (.slice A (L.map (·.1)).length c) (L.map (·.1))) := by rw [← hW0]; exact h.below ((Below.refl _ _).alloc (Nat.le_refl _) _)
  obtain ⟨N, hNN⟩ : ∃ N, L.length = N := ⟨_, rfl⟩
  have HN := Lib.hid hNN
  rw [HLM.out, hNN] at H0 hc
  rw [HLM.out, hNN]
  rw [hNN] at hN
  clear h hNN
  go_enter Tryz.func8, Tryz.ntmps8
  go_wp2_with fail
  try rw [hW0]
  clear hW0
  go_loopg [8, 21] (N + 1) (fun g1 va vi wr => ∃ k : Nat, vi = .int .i64 k ∧ k ≤ N ∧ N - k ≤ g1 ∧ Hid (Below W0.heap.size W0 wr) ∧ Hid (wr.ownsRow W0.heap.size 2 1 va k (nums ((L.take k).map fun f => (plc la lo f).1))) ∧ Hid ((L.take k).all (okP la lo) = true))
  case atStart => exact ⟨0, by first | rfl | go_num, Nat.zero_le _, by omega, Lib.hid (Below.refl _ _), Lib.hid (World.ownsRow_nil _ _ _ _), Lib.hid rfl⟩
  case round =>
    obtain ⟨k, rfl, hk, hg1, hb, hown, hall⟩ := hrel
    by_cases hlt : k < N
    · have hkl : k < L.length := by rw [HN.out]; exact hlt
      obtain ⟨g, o, c', hA, hg, hat⟩ := H0.out.at_ (by rw [List.length_map]; exact hkl)
      rw [HLM.out, HN.out] at hA
      simp only [Value.slice.injEq, true_and] at hA
      obtain ⟨rfl, rfl⟩ := hA
      rw [List.getElem_map] at hat
      obtain ⟨f, hf⟩ : ∃ f, L[k] = f := ⟨_, rfl⟩
      have HT : Hid (L.take (k + 1) = L.take k ++ [f]) := by unfold Hid; rw [List.take_succ_eq_append_getElem hkl, hf]
      have HM : Hid (f ∈ L) := by rw [← hf]; exact List.getElem_mem hkl
      rw [hf] at hat
      have rf := fun W => rfixRefG_any f W
      obtain ⟨x, hx⟩ : ∃ x, plc la lo f = x := ⟨_, rfl⟩
      have hx1 : distV (vecOf la lo) (vecOf f.1.lat f.1.lon) = x.1 := by rw [← hx, plc_fst]
      have hx2 : rfS f = x.2 := by rw [← hx, plc_snd]
      rw [hx2] at rf
      have HK : Hid (okP la lo f = (vldB la lo && vldB f.1.lat f.1.lon)) := rfl
      have di := fun W h1 h2 => rdist_ok la lo f.1.lat f.1.lon W h1 h2
      have db := fun W h1 => rdist_bad la lo f.1.lat f.1.lon W h1
      rw [hx1] at di
      clear hx1 hx2 hf
      obtain ⟨f, hfs⟩ := f
      simp only at hat di db HK
      change ∀ W, Calls Tryz.prog 20 #[.agg #[.string (sb f.id), .string (sb f.rg), .int .u8 (f.kd : Int), .int .i64 f.lat, .int .i64 f.lon, .int .i64 f.el, .int .i64 f.ra]] W _ at rf
      obtain ⟨c0, c1, c2, c3, c4, c5, c6⟩ := hat.below hg hb.out hg
      have hgw : g < wr.heap.size := Nat.lt_of_lt_of_le hg hb.out.size
      obtain ⟨p0, p1⟩ := HP0.out
      have hwl : w.heap.size < W0.heap.size := by have := HB0.out.2; omega
      have q0 : wr.cell? ⟨w.heap.size, 0, none⟩ = some (.int .i64 la) := (hb.out.cell (p := ⟨w.heap.size, 0, none⟩) hwl).trans p0
      have q1 : wr.cell? ⟨w.heap.size, 1, none⟩ = some (.int .i64 lo) := (hb.out.cell (p := ⟨w.heap.size, 1, none⟩) hwl).trans p1
      have hwr : w.heap.size < wr.heap.size := Nat.lt_of_lt_of_le hwl hb.out.size
      have X1 : FxBox (wr.alloc (.cells #[.string (sb f.id), .string (sb f.rg), .int .u8 (f.kd : Int), .int .i64 f.lat, .int .i64 f.lon, .int .i64 f.el, .int .i64 f.ra] 34)) wr.heap.size f := heap_alloc_new wr _
      have HX1 := Lib.hid X1
      have HBX := Lib.hid (fun o => hb.out.alloc hb.out.size o)
      have HOX := Lib.hid (fun o => hown.out.alloc o)
      clear p0 p1 hwl hat X1
      by_cases hv : (vldB la lo && vldB f.lat f.lon) = true
      · have hv1 : vldB la lo = true ∧ vldB f.lat f.lon = true := by rw [Bool.and_eq_true] at hv; exact hv
        have HA : Hid ((L.take (k + 1)).all (okP la lo) = true) := by
          unfold Hid
          rw [HT.out, List.all_append, hall.out, List.all_cons, HK.out, hv]; rfl
        have HD : Hid (((L.take (k + 1)).map fun f => (plc la lo f).1) = ((L.take k).map fun f => (plc la lo f).1) ++ [x.1]) := by
          unfold Hid
          rw [HT.out, List.map_append, ← hx]; rfl
        have HLK : Hid (((L.take k).map fun f => (plc la lo f).1).length = k) := by unfold Hid; rw [List.length_map, List.length_take, HN.out]; omega
        clear hv db hall HT hx
        obtain ⟨done, hdone⟩ : ∃ d, ((L.take k).map fun f => (plc la lo f).1) = d := ⟨_, rfl⟩
        rw [hdone] at HD HLK HOX hown
        clear hdone hown
        go_wp2_with fail
        refine (di _ hv1.1 hv1.2).mono ?_
        rintro e w2 ⟨rfl, hb2⟩
        have HB2 := Lib.hid (Below.then_ (HBX.out _) hb2)
        have HO2 := own_below (HOX.out _) hb2
        have hlo := Lib.hid HO2.lt
        have hB2 : W0.heap.size ≤ w2.heap.size := HB2.out.size
        clear hb2 HX1 HBX HOX di c0 c1 c2 c3 c4 c5 c6 q0 q1
        go_wp2_with (at_builtin; refine wpList_append_own _ rfl _ _ 53 rfl W0.heap.size 2 i0 (.int .i64 0) 1 8 Tryz.underlying53 hi hz0 hz1 hz2 rfl (by decide) _ _ _ rfl (HO2.alloc _) ⟨w2.heap.size, 0, none⟩ 1 1 [.int .i64 x.1] rfl rfl (cell_one_new _ _ _) ?c2 ?c3 ?c4 ?c5 ?_)
        case c2 => intro u hu; simp at hu; rcases hu with rfl; rfl
        case c3 => unfold maxLen; omega
        case c4 => omega
        case c5 => simp; omega
        intro v' w' hown' hgrow _
        have R := num_step HLK.out hlo.out HB2.out hown' hgrow hB2
        rw [← HD.out] at R
        have hlk1 : ((L.take (k + 1)).map fun f => (plc la lo f).1).length = k + 1 := by rw [HD.out, List.length_append, HLK.out]; rfl
        rw [hlk1] at R
        have R1 := Lib.hid R.1
        have R2 := Lib.hid R.2
        clear R hown' hgrow hlo HO2 hlk1
        go_wp2
        go_roundg (N - (k + 1))
        case measure => omega
        case rel => exact ⟨k + 1, by go_num, hlt, by omega, R2, R1, HA⟩
      · have hv2 : (vldB la lo && vldB f.lat f.lon) = false := Bool.eq_false_iff.2 hv
        have HF : Hid (L.all (okP la lo) = false) := by
          unfold Hid
          rw [List.all_eq_false]
          exact ⟨_, HM.out, by rw [HK.out, hv2]; decide⟩
        have HBw : Hid (∀ w2, Below (wr.alloc (.cells #[.string (sb f.id), .string (sb f.rg), .int .u8 (f.kd : Int), .int .i64 f.lat, .int .i64 f.lon, .int .i64 f.el, .int .i64 f.ra] 34)).heap.size (wr.alloc (.cells #[.string (sb f.id), .string (sb f.rg), .int .u8 (f.kd : Int), .int .i64 f.lat, .int .i64 f.lon, .int .i64 f.el, .int .i64 f.ra] 34)) w2 → Below w.heap.size w w2) := fun w2 h =>
          Below.then_ HB0.out.1 (Below.then_ (HBX.out _) h)
        clear hv HBX HOX rf di HX1 HT
        go_wp2_with fail
        refine (db _ hv2).mono ?_
        rintro e w2 ⟨rfl, hb2⟩
        have HE := Lib.hid (HBw.out _ hb2)
        clear hb2
        go_wp2
        go_ret2
        exact ⟨_, _, rfl, HE.out, .inl ⟨rfl, rfl, .inr HF.out⟩⟩
    · have hkN : k = N := by omega
      subst hkN
      have HF : Hid (L.take k = L) := List.take_of_length_le (by rw [HN.out]; exact Nat.le_refl _)
      have hown2 := hown.out
      rw [HF.out] at hown2 hall
      have HALL := Lib.hid hall.out
      obtain ⟨P, hP⟩ : ∃ P, L.map (plc la lo) = P := ⟨_, rfl⟩
      have HPL : Hid (P.length = k) := by unfold Hid; rw [← hP, List.length_map, HN.out]
      have hPm : (L.map fun f => (plc la lo f).1) = P.map (·.1) := by rw [← hP, List.map_map]; rfl
      rw [hPm] at hown2
      have HPP := Lib.hid hP
      obtain ⟨D, hD⟩ := stb_ex swoP P
      have HD := Lib.hid hD
      have HDL : Hid (D.length = k) := hD.len.trans HPL.out
      obtain ⟨m, hm⟩ : ∃ m : Nat, (m : Int) = min n (k : Int) := ⟨(min n (k : Int)).toNat, by omega⟩
      have HM := Lib.hid hm
      have hmk : ∀ W : World, (Instr.makeSlice 54 (.int .i64 (k : Int)) (.int .i64 (k : Int))).run Tryz.prog W = .ok (.slice (some ⟨W.heap.size, 0, none⟩) k k) (W.alloc (.cells (madeCells #[.bool false] k) 4)) := fun W => by
        have h := run_make W 54 4 l0 (.bool false) Tryz.underlying54 hl hx0 .i64 .i64 (k : Int) (k : Int) (by omega) (by omega) (by rw [hx2]; omega) (by omega)
        rw [hx1, Int.toNat_natCast, Nat.mul_one] at h
        exact h
      clear hall HF hP hown hg1 hk hm hPm hD hl hx0 hx1 hx2
      rcases Nat.eq_zero_or_pos k with h0 | h0
      · have HM0 : Hid (m = 0) := by have := HM.out; unfold Hid; omega
        obtain ⟨A', c', hv, hc', hm'⟩ := (Rd.of_own hown2 : Rd wr 1 u8 k _).form
        subst hv
        have HB := Lib.hid (fun o => Below.then_ HB0.out.1 (hb.out.alloc hb.out.size o))
        clear hown2 hb
        subst h0
        unfold maxLen at hm'
        have hmk0 : ∀ W : World, (Instr.makeSlice 54 (.int .i64 0) (.int .i64 0)).run Tryz.prog W = .ok (.slice (some ⟨W.heap.size, 0, none⟩) 0 0) (W.alloc (.cells (madeCells #[.bool false] 0) 4)) := fun W => hmk W
        by_cases hn1 : 0 < n
        all_goals
          go_wp2
          go_loopg [14] 0 (fun g1 vo w3 => vo = .slice none 0 0 ∧ wr.alloc (.cells (madeCells #[.bool false] 0) 4) = w3)
          case atStart => exact ⟨rfl, rfl⟩
          case round =>
            obtain ⟨rfl, hw⟩ := hrel
            have HE := Lib.hid (hw ▸ HB.out _ : Below w.heap.size w _)
            clear hw
            go_wp2
            go_ret2
            refine ⟨_, _, rfl, HE.out, .inr ⟨rfl, hn0, HALL.out, D, 0, ?_, ?_, ?_⟩⟩
            · rw [HPP.out]; exact HD.out
            · rw [HN.out]; omega
            · exact World.ownsRow_nil _ _ _ _
      · obtain ⟨gd, cd, rfl, hcd, hmd, hde, hdl, hdc⟩ := own_slice hown2 h0
        have I0 : NrI (wr.heap.size + 1) gd wr.heap.size (P.map (·.1)) (List.replicate k false) w (wr.alloc (.cells (madeCells #[.bool false] k) 4)) := by
          refine ⟨fun j x hj => ?_, fun j b hj => ?_, Below.then_ HB0.out.1 (hb.out.alloc hb.out.size _), by rw [World.size_alloc]; exact Nat.le_refl _, by omega, by omega, by omega, ?_, ?_⟩
          · refine (((Below.refl _ wr).alloc (Nat.le_refl _) _).cell (p := ⟨gd, j, none⟩) hdl).trans (hdc j _ ?_)
            unfold nums; rw [List.getElem?_map, hj]; rfl
          · obtain ⟨hj2, rfl⟩ := List.getElem?_eq_some_iff.1 hj
            rw [List.length_replicate] at hj2
            rw [List.getElem_replicate]
            have hsz : (madeCells #[Value.bool false] k)[j]? = some (.bool false) := by
              rw [← Array.getElem?_toList, toList_madeCells_one, List.getElem?_replicate, if_pos hj2]
            exact ⟨by simpa [go_sem] using hsz, by simp [go_sem]⟩
          · have h1 := HB0.out.2; have h2 := hb.out.size; omega
          · have h1 := HB0.out.2; have h2 := hb.out.size; omega
        have HI0 := Lib.hid I0
        obtain ⟨gt, hgt⟩ : ∃ g, wr.heap.size = g := ⟨_, rfl⟩
        obtain ⟨B, hB⟩ : ∃ B, wr.heap.size + 1 = B := ⟨_, rfl⟩
        rw [hB, hgt] at HI0
        unfold maxLen at hmd
        have hmn : (m : Int) = n ∨ m = k ∧ (k : Int) < n := by have := HM.out; omega
        have hmle : m ≤ k ∧ (m : Int) ≤ n := by have := HM.out; omega
        clear hown2 I0 hdc hb
        go_wp2_with fail
        go_loopg [14] (m + 1) (fun g1 vo wr => ∃ (Q : List Plc) (t : List Bool), Q.length ≤ m ∧ m - Q.length ≤ g1 ∧ t.length = k ∧ Hid (wr.ownsRow B 9 1 vo Q.length (strs (Q.map (·.2)))) ∧ Hid (NrI B gd gt (P.map (·.1)) t w wr) ∧ Hid (∃ R, Q ++ R = D ∧ Stb (ltOf cfP) (lft P t) R))
        case atStart =>
          refine ⟨[], List.replicate k false, Nat.zero_le _, by simp, List.length_replicate, Lib.hid (World.ownsRow_nil _ _ _ _), HI0, Lib.hid ⟨D, rfl, ?_⟩⟩
          have := lft_none P
          rw [HPL.out] at this
          rw [this]; exact HD.out
        case round =>
          clear HI0
          obtain ⟨Q, t, hQ, hg2, htl, hown, HI, HQ⟩ := hrel
          obtain ⟨A2, cq, hvq, _, _⟩ := (Rd.of_own hown.out : Rd wr 1 u14 Q.length _).form
          subst hvq
          by_cases hq : Q.length < m
          · have hq1 : (Q.length : Int) < n := by omega
            have hq2 : (Q.length : Int) < (k : Int) := by omega
            go_wp2_with fail
            go_loopg [15, 56] (k + 1) (fun g2 vb vi wr => ∃ (i : Nat) (best : Int), vi = .int .i64 i ∧ i ≤ k ∧ k - i ≤ g2 ∧ vb = .int .i64 best ∧ Hid (BestR P t i best) ∧ Hid (wr.ownsRow B 9 1 (.slice A2 Q.length cq) Q.length (strs (Q.map (·.2)))) ∧ Hid (NrI B gd gt (P.map (·.1)) t w wr))
            case atStart => exact ⟨0, -1, by first | rfl | go_num, Nat.zero_le _, by omega, rfl, Lib.hid (BestR.start P t), hown, HI⟩
            case round =>
              clear HI hown
              obtain ⟨i, best, rfl, hi2, hg3, rfl, HBR, hown, HI⟩ := hrel
              by_cases hik : i < k
              · have hiki : (i : Int) < (k : Int) := by omega
                obtain ⟨tb, hti⟩ : ∃ tb, t[i]? = some tb := ⟨_, List.getElem?_eq_getElem (by rw [htl]; exact hik)⟩
                obtain ⟨kc, _⟩ := HI.out.tk i tb hti
                cases tb
                · obtain ⟨x, hPx⟩ : ∃ x, P[i]? = some x := ⟨_, List.getElem?_eq_getElem (by rw [HPL.out]; exact hik)⟩
                  have hdi := HI.out.ds i x.1 (by rw [List.getElem?_map, hPx]; rfl)
                  by_cases hb1 : best = -1
                  · subst hb1
                    have HB2 := Lib.hid (HBR.out.first hti hPx)
                    clear HBR
                    go_wp2_with fail
                    go_quiet (fail)
                    have I2 := Lib.hid (HI.out.below (bel_drewN (RowKit.Below.refl wr.heap.size wr) nq) HI.out.sz)
                    have O2 := Lib.hid (own_below hown.out (bel_drewN (RowKit.Below.refl wr.heap.size wr) nq))
                    clear HI hown
                    go_wp2
                    go_roundg (k - (i + 1))
                    case measure => omega
                    case rel => exact ⟨i + 1, (i : Int), by go_num, hik, by omega, rfl, HB2, O2, I2⟩
                  · obtain ⟨b, xb, rfl, hbi, hPb⟩ : ∃ (b : Nat) (xb : Plc), best = (b : Int) ∧ b < i ∧ P[b]? = some xb := by
                      rcases HBR.out with ⟨h1, _⟩ | ⟨b, h1, h2, _, xb, h4, _⟩
                      · exact absurd h1 hb1
                      · exact ⟨b, xb, h1, h2, h4⟩
                    have hdb := HI.out.ds b xb.1 (by rw [List.getElem?_map, hPb]; rfl)
                    have hbk : (b : Int) < (k : Int) := by omega
                    have hb0 : ¬ (b : Int) < 0 := by omega
                    have HLT : Hid (ltOf cfP x xb = decide (x.1 < xb.1 ∨ x.1 = xb.1 ∧ x.2 < xb.2)) := ltP x xb
                    have hd0 : decide ((b : Int) < 0) = false := decide_eq_false hb0
                    rcases Int.lt_trichotomy x.1 xb.1 with hlt1 | heq1 | hgt1
                    · have HB2 := Lib.hid (HBR.out.less hti hPx hPb (by rw [HLT.out, decide_eq_true_iff]; exact .inl hlt1))
                      have hd1 : decide (x.1 < xb.1) = true := decide_eq_true hlt1
                      clear HBR hb1 HLT
                      go_wp2_with fail
                      go_quiet (fail)
                      have I2 := Lib.hid (HI.out.below (bel_drewN (RowKit.Below.refl wr.heap.size wr) nq) HI.out.sz)
                      have O2 := Lib.hid (own_below hown.out (bel_drewN (RowKit.Below.refl wr.heap.size wr) nq))
                      clear HI hown
                      go_wp2
                      go_roundg (k - (i + 1))
                      case measure => omega
                      case rel => exact ⟨i + 1, (i : Int), by go_num, hik, by omega, rfl, HB2, O2, I2⟩
                    · have hiL : i < L.length := by rw [HN.out]; exact hik
                      have hbL : b < L.length := by rw [HN.out]; omega
                      obtain ⟨g, o, c', hA, hg, hat⟩ := HH0.out.at_ (k := i) (by rw [List.length_map]; exact hiL)
                      rw [HLM.out, HN.out] at hA
                      simp only [Value.slice.injEq, true_and] at hA
                      obtain ⟨rfl, rfl⟩ := hA
                      obtain ⟨g', o', c'', hA, hg', hat2⟩ := HH0.out.at_ (k := b) (by rw [List.length_map]; exact hbL)
                      rw [HLM.out, HN.out] at hA
                      simp only [Value.slice.injEq, Option.some.injEq, Addr.mk.injEq, and_true, true_and] at hA
                      obtain ⟨⟨rfl, rfl⟩, rfl⟩ := hA
                      rw [List.getElem_map] at hat hat2
                      obtain ⟨f, hf⟩ : ∃ f, L[i] = f := ⟨_, rfl⟩
                      obtain ⟨z, hz⟩ : ∃ z, L[b] = z := ⟨_, rfl⟩
                      have hxf : rfS f = x.2 := by
                        have h1 : P[i]? = some (plc la lo f) := by rw [← HPP.out, List.getElem?_map, List.getElem?_eq_getElem hiL, hf]; rfl
                        rw [h1, Option.some.injEq] at hPx
                        rw [← hPx, plc_snd]
                      have hxz : rfS z = xb.2 := by
                        have h1 : P[b]? = some (plc la lo z) := by rw [← HPP.out, List.getElem?_map, List.getElem?_eq_getElem hbL, hz]; rfl
                        rw [h1, Option.some.injEq] at hPb
                        rw [← hPb, plc_snd]
                      rw [hf] at hat
                      rw [hz] at hat2
                      have r1 := fun W => rfixRefG_any f W
                      have r2 := fun W => rfixRefG_any z W
                      rw [hxf] at r1
                      rw [hxz] at r2
                      have HPX := Lib.hid hPx
                      have HPB := Lib.hid hPb
                      have HTI := Lib.hid hti
                      clear hxf hxz hf hz hPx hPb hti
                      obtain ⟨f, hfs⟩ := f
                      obtain ⟨z, hzs⟩ := z
                      simp only at hat hat2
                      change ∀ W, Calls Tryz.prog 20 #[.agg #[.string (sb f.id), .string (sb f.rg), .int .u8 (f.kd : Int), .int .i64 f.lat, .int .i64 f.lon, .int .i64 f.el, .int .i64 f.ra]] W _ at r1
                      change ∀ W, Calls Tryz.prog 20 #[.agg #[.string (sb z.id), .string (sb z.rg), .int .u8 (z.kd : Int), .int .i64 z.lat, .int .i64 z.lon, .int .i64 z.el, .int .i64 z.ra]] W _ at r2
                      have hatr := hat.below hg HI.out.bl hg
                      have hatz := hat2.below hg' HI.out.bl hg'
                      have hgr : g < wr.heap.size := Nat.lt_of_lt_of_le hg HI.out.bl.size
                      have hgd : gd < wr.heap.size := Nat.lt_of_lt_of_le HI.out.ld HI.out.sz
                      have c0 := fun n os => (fxAt_grown hatr hgr n os).c0
                      have e0 := fun n os => (fxAt_grown hatz hgr n os).c0
                      have c1 := fun n os => (fxAt_grown hatr hgr n os).c1
                      have e1 := fun n os => (fxAt_grown hatz hgr n os).c1
                      have c2 := fun n os => (fxAt_grown hatr hgr n os).c2
                      have e2 := fun n os => (fxAt_grown hatz hgr n os).c2
                      have c3 := fun n os => (fxAt_grown hatr hgr n os).c3
                      have e3 := fun n os => (fxAt_grown hatz hgr n os).c3
                      have c4 := fun n os => (fxAt_grown hatr hgr n os).c4
                      have e4 := fun n os => (fxAt_grown hatz hgr n os).c4
                      have c5 := fun n os => (fxAt_grown hatr hgr n os).c5
                      have e5 := fun n os => (fxAt_grown hatz hgr n os).c5
                      have c6 := fun n os => (fxAt_grown hatr hgr n os).c6
                      have e6 := fun n os => (fxAt_grown hatz hgr n os).c6
                      have gdi := fun n os => cell_grown (w := wr) hgd hdi n os
                      have gdb := fun n os => cell_grown (w := wr) hgd hdb n os
                      have hne1 : ¬ x.1 < xb.1 := by omega
                      have hne2 : (x.1 == xb.1) = true := beq_iff_eq.2 heq1
                      have hd1 : decide (x.1 < xb.1) = false := decide_eq_false hne1
                      have hbl := bytesLess_bl (sb x.2) (sb xb.2)
                      rw [bl_sb, bl_sb] at hbl
                      have HEQ := Lib.hid heq1
                      clear hat hat2 heq1 hg hg' hiL hbL hatr hatz hgr hgd hdi hdb
                      by_cases hl2 : x.2 < xb.2
                      · have hd : decide (x.2 < xb.2) = true := decide_eq_true hl2
                        rw [hd] at hbl
                        have HB2 := Lib.hid (HBR.out.less HTI.out HPX.out HPB.out (by rw [HLT.out, decide_eq_true_iff]; exact .inr ⟨HEQ.out, hl2⟩))
                        clear HBR hb1 HLT hd hl2
                        go_wp2_with fail
                        have mixed := mixedS
                        go_quiet_grown (first | (go_at_call 20; first | refine Calls.grown_of (r1 _) | refine Calls.grown_of (r2 _)))
                        clear mixed
                        have I2 := Lib.hid (HI.out.below (below_grow wr nq osq) HI.out.sz)
                        have O2 := Lib.hid (own_below hown.out (below_grow wr nq osq))
                        clear HI hown
                        go_wp2
                        go_roundg (k - (i + 1))
                        case measure => omega
                        case rel => exact ⟨i + 1, (i : Int), by go_num, hik, by omega, rfl, HB2, O2, I2⟩
                      · have hd : decide (x.2 < xb.2) = false := decide_eq_false hl2
                        rw [hd] at hbl
                        have HB2 := Lib.hid (HBR.out.more HPX.out HPB.out (by
                          rw [HLT.out, decide_eq_false_iff_not]
                          rintro (h | ⟨_, h⟩)
                          · exact hne1 h
                          · exact hl2 h))
                        clear HBR hb1 HLT hd hl2
                        go_wp2_with fail
                        have mixed := mixedS
                        go_quiet_grown (first | (go_at_call 20; first | refine Calls.grown_of (r1 _) | refine Calls.grown_of (r2 _)))
                        clear mixed
                        have I2 := Lib.hid (HI.out.below (below_grow wr nq osq) HI.out.sz)
                        have O2 := Lib.hid (own_below hown.out (below_grow wr nq osq))
                        clear HI hown
                        go_wp2
                        go_roundg (k - (i + 1))
                        case measure => omega
                        case rel => exact ⟨i + 1, (b : Int), by go_num, hik, by omega, rfl, HB2, O2, I2⟩
                    · have hne1 : ¬ x.1 < xb.1 := by omega
                      have hne2 : (x.1 == xb.1) = false := beq_eq_false_iff_ne.2 (by omega)
                      have HB2 := Lib.hid (HBR.out.more hPx hPb (by
                        rw [HLT.out, decide_eq_false_iff_not]
                        rintro (h | ⟨h, _⟩) <;> omega))
                      have hd1 : decide (x.1 < xb.1) = false := decide_eq_false hne1
                      clear HBR hb1 HLT
                      go_wp2_with fail
                      go_quiet (fail)
                      have I2 := Lib.hid (HI.out.below (bel_drewN (RowKit.Below.refl wr.heap.size wr) nq) HI.out.sz)
                      have O2 := Lib.hid (own_below hown.out (bel_drewN (RowKit.Below.refl wr.heap.size wr) nq))
                      clear HI hown
                      go_wp2
                      go_roundg (k - (i + 1))
                      case measure => omega
                      case rel => exact ⟨i + 1, (b : Int), by go_num, hik, by omega, rfl, HB2, O2, I2⟩
                · have HB2 := Lib.hid (HBR.out.skip hti)
                  clear HBR
                  go_wp2
                  go_roundg (k - (i + 1))
                  case measure => omega
                  case rel => exact ⟨i + 1, best, by go_num, hik, by omega, rfl, HB2, hown, HI⟩
              · have hikk : i = k := by omega
                subst hikk
                obtain ⟨b, x, rfl, hPb, htb, hR⟩ := BestR.pick (by rw [HPL.out]; exact HBR.out) (by rw [HPL.out]; exact htl) HQ.out (by rw [HDL.out, HPL.out]) (by rw [HPL.out]; omega)
                have HR := Lib.hid hR
                have hbk : b < i := by rw [← htl]; exact (List.getElem?_eq_some_iff.1 htb).1
                have hbL : b < L.length := by rw [HN.out]; exact hbk
                obtain ⟨g, o, c', hA, hg, hat⟩ := HH0.out.at_ (k := b) (by rw [List.length_map]; exact hbL)
                rw [HLM.out, HN.out] at hA
                simp only [Value.slice.injEq, true_and] at hA
                obtain ⟨rfl, rfl⟩ := hA
                rw [List.getElem_map] at hat
                obtain ⟨f, hf⟩ : ∃ f, L[b] = f := ⟨_, rfl⟩
                have hxf : rfS f = x.2 := by
                  have h1 : P[b]? = some (plc la lo f) := by rw [← HPP.out, List.getElem?_map, List.getElem?_eq_getElem hbL, hf]; rfl
                  rw [h1, Option.some.injEq] at hPb
                  rw [← hPb, plc_snd]
                rw [hf] at hat
                have rf := fun W => rfixRefG_any f W
                rw [hxf] at rf
                clear hxf hf hPb hR
                obtain ⟨f, hfs⟩ := f
                simp only at hat
                change ∀ W, Calls Tryz.prog 20 #[.agg #[.string (sb f.id), .string (sb f.rg), .int .u8 (f.kd : Int), .int .i64 f.lat, .int .i64 f.lon, .int .i64 f.el, .int .i64 f.ra]] W _ at rf
                obtain ⟨kc, kf⟩ := HI.out.tk b _ htb
                have I2 := Lib.hid (HI.out.take (b := b) (by rw [htl]; exact hbk))
                have hO2 : Hid ((wr.setCell ⟨gt, b, none⟩ (.bool true)).ownsRow B 9 1 (.slice A2 Q.length cq) Q.length (strs (Q.map (·.2)))) := own_set hown.out HI.out.lt _ _
                obtain ⟨c0, c1, c2, c3, c4, c5, c6⟩ := hat.below hg I2.out.bl hg
                have hbz : (b : Int) < (i : Int) := by omega
                clear hat HI hown HBR HQ
                have hsz2 := I2.out.sz
                go_wp2_with fail
                refine (rf _).mono ?_
                rintro e w3 ⟨rfl, hgr⟩
                have hb3 : Below (wr.setCell ⟨gt, b, none⟩ (.bool true)).heap.size (wr.setCell ⟨gt, b, none⟩ (.bool true)) w3 := by obtain ⟨q, os, rfl⟩ := hgr; exact below_grow _ q os
                have I3 := Lib.hid (I2.out.below hb3 hsz2)
                have HO3 := own_below hO2.out hb3
                have hlo := Lib.hid HO3.lt
                have hB3 : B ≤ w3.heap.size := I3.out.sz
                have HQL : Hid ((Q.map (·.2)).length = Q.length) := List.length_map _
                clear hb3 hgr I2 hO2 rf c0 c1 c2 c3 c4 c5 c6 kc kf hsz2 hg
                obtain ⟨ql, hql⟩ : ∃ q, Q.length = q := ⟨_, rfl⟩
                rw [hql] at hQ hg2 hq hq1 hq2 HO3 HQL hlo
                have HQ2 := Lib.hid hql
                rw [hql]
                clear hql
                go_wp2_with (at_builtin; refine wpList_append_own _ rfl _ _ 27 rfl B 9 j0 (.string ⟨#[]⟩) 1 16 Tryz.underlying27 hj hy0 hy1 hy2 rfl (by decide) _ _ _ rfl (HO3.alloc _) ⟨w3.heap.size, 0, none⟩ 1 1 [.string (sb x.2)] rfl rfl (cell_one_new _ _ _) ?c2 ?c3 ?c4 ?c5 ?_)
                case c2 => intro u hu; simp at hu; rcases hu with rfl; rfl
                case c3 => unfold maxLen; omega
                case c4 => omega
                case c5 => simp; omega
                intro v' w' hown' hgrow _
                have R := str_step HQL.out hlo.out (RowKit.Below.refl B w3) hown' hgrow hB3
                have hmap : (Q ++ [x]).map (·.2) = Q.map (·.2) ++ [x.2] := by rw [List.map_append]; rfl
                have hlk1 : (Q ++ [x]).length = ql + 1 := by rw [List.length_append, HQ2.out]; rfl
                rw [← hmap, List.length_map, hlk1] at R
                have R1 := Lib.hid R.1
                have R2 := Lib.hid (I3.out.below R.2 (Nat.le_refl B))
                have htl2 : (t.set b true).length = i := by rw [List.length_set]; exact htl
                clear R hown' hgrow hlo HO3 I3
                go_wp2
                go_roundg (m - (ql + 1))
                case measure => omega
                case rel => exact ⟨Q ++ [x], t.set b true, by omega, by omega, htl2, by rw [hlk1]; exact R1, R2, HR⟩
          · have hqm : Q.length = m := by omega
            have HT : Hid (Q = D.take m) := by
              obtain ⟨R, hR, _⟩ := HQ.out
              unfold Hid
              rw [← hR, ← hqm, List.take_left]
            have HE : Hid (Below w.heap.size w wr) := HI.out.bl
            have HO : Hid (wr.ownsRow w.heap.size 9 1 (.slice A2 Q.length cq) m (strs ((D.take m).map (·.2)))) := by
              have h1 := own_less hown.out HI.out.wB
              rw [hqm] at h1
              unfold Hid
              rw [← HT.out, hqm]; exact h1
            clear HI hown HQ
            rw [hqm] at HO ⊢
            rcases hmn with hmn | ⟨hmn1, hmn2⟩
            · have hq1 : ¬ (m : Int) < n := by omega
              go_wp2
              go_ret2
              exact ⟨_, _, rfl, HE.out, .inr ⟨rfl, hn0, HALL.out, D, m, by rw [HPP.out]; exact HD.out, by rw [HN.out]; exact HM.out, HO.out⟩⟩
            · subst hmn1
              have hq1 : (m : Int) < n := by omega
              have hq2 : ¬ (m : Int) < (m : Int) := by omega
              go_wp2
              go_ret2
              exact ⟨_, _, rfl, HE.out, .inr ⟨rfl, hn0, HALL.out, D, m, by rw [HPP.out]; exact HD.out, by rw [HN.out]; exact HM.out, HO.out⟩⟩
end Go.Proofs.YteojggbmkppjoaaGreatDoor
