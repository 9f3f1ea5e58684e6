/-
  Several texts as one.
  Slices in memory as lists of cells; the fields of a line as a list.
  Contracts: the lines of a text: strings.Split by "\n"; flightdeckref08.Lines.
  Plain laws: the text of an altitude is read as that altitude.
  Plain laws: the text of a window is read as that window; a text that is read is the text of what was read.
-/
import Derived.Test.YtakgcdefbbgdaaaGreatDoorPWin
import Derived.Lib.SplitLaws
namespace Go.Proofs.YtakgcdefbbgdaaaGreatDoor
open Go.RowKit
set_option linter.unusedVariables false
set_option linter.unusedSimpArgs false

section
variable {w w' : World} {size n : Nat} {v : Value} {xs : List Value}
end

/-! ### slices whose block's element type is known: an append to a row of another type leaves them alone -/
def RdT (w : World) (e : TypeId) (size : Nat) (v : Value) (n : Nat) (xs : List Value) : Prop :=
  Rd w size v n xs ∧ (n = 0 ∨ ∃ g o c cur z, v = .slice (some ⟨g, o, none⟩) n c ∧ w.heap[g]? = some (.cells cur e z))
section
variable {w w' : World} {size n : Nat} {v : Value} {xs : List Value} {e : TypeId}
theorem RdT.nil (w : World) (e : TypeId) (size : Nat) : RdT w e size (.slice none 0 0) 0 [] := ⟨Rd.nil w size, .inl rfl⟩
theorem RdT.below (h : RdT w e size v n xs) (hb : Below w.heap.size w w') : RdT w' e size v n xs := by
  refine ⟨h.1.below hb, ?_⟩
  rcases h.2 with h0 | ⟨g, o, c, cur, z, hv, hh⟩
  · exact .inl h0
  · exact .inr ⟨g, o, c, cur, z, hv, (hb.block g (heap_lt hh)).trans hh⟩
theorem RdT.alloc (h : RdT w e size v n xs) (o : Obj) : RdT (w.alloc o) e size v n xs := h.below ((Below.refl _ _).alloc (Nat.le_refl _) o)
theorem RdT.of_own {base : Nat} (h : w.ownsRow base e size v n xs) : RdT w e size v n xs := by
  refine ⟨Rd.of_own h, ?_⟩
  obtain ⟨hl, ⟨rfl, rfl⟩ | ⟨g, cap, cur, rfl, hb, hh, _⟩⟩ := h
  · exact .inl rfl
  · exact .inr ⟨g, 0, cap, cur, _, rfl, hh⟩
/-- an append to a row of another element type -/
theorem RdT.grown {row : Option Nat} (h : RdT w e size v n xs) (hg : w.grownBy w' row) (hr : ∀ k, row = some k → ∃ cur e' z, w.heap[k]? = some (.cells cur e' z) ∧ e' ≠ e) : RdT w' e size v n xs := by
  obtain ⟨⟨hl, A, c, hv, hc, hm, hx⟩, h2⟩ := h
  have same : ∀ g o c' cur z, 0 < n → v = .slice (some ⟨g, o, none⟩) n c' → w.heap[g]? = some (.cells cur e z) → w'.heap[g]? = w.heap[g]? := by
    intro g o c' cur z _ _ hh
    refine hg.block g (heap_lt hh) (fun he => ?_)
    obtain ⟨cur', e', z', hh', hne⟩ := hr g he.symm
    rw [hh] at hh'
    injection hh' with hh'
    injection hh' with _ ht
    exact hne ht.symm
  refine ⟨⟨hl, A, c, hv, hc, hm, fun hn => ?_⟩, ?_⟩
  · obtain ⟨g, o, hA, hgl, hcell⟩ := hx hn
    rcases h2 with h0 | ⟨g', o', c', cur, z, hv', hh⟩
    · omega
    · have hg' : g = g' := by
        rw [hv, hA] at hv'
        injection hv' with ha
        injection ha with ha
        injection ha
      subst hg'
      have hs := same g o' c' cur z hn hv' hh
      exact ⟨g, o, hA, Nat.lt_of_lt_of_le hgl hg.size, fun j u hu => (World.cell?_of_block (w := w) (a := ⟨g, o + j, none⟩) hs).trans (hcell j u hu)⟩
  · rcases h2 with h0 | ⟨g', o', c', cur, z, hv', hh⟩
    · exact .inl h0
    · rcases Nat.eq_zero_or_pos n with h0 | hn
      · exact .inl h0
      · exact .inr ⟨g', o', c', cur, z, hv', (same g' o' c' cur z hn hv' hh).trans hh⟩
theorem own_block {base : Nat} (h : w.ownsRow base e size v n xs) : ∀ k, v.ownBlock = some k → ∃ cur e' z, w.heap[k]? = some (.cells cur e' z) ∧ e' = e := by
  intro k hk
  obtain ⟨_, ⟨rfl, _⟩ | ⟨g, cap, cur, rfl, _, hh, _⟩⟩ := h
  · cases hk
  · have : g = k := by simpa [Value.ownBlock] using hk
    subst this
    exact ⟨cur, e, _, hh, rfl⟩
/-- two owned rows of different element types -/
theorem own_apart {base base' size' n' : Nat} {v' : Value} {xs' : List Value} {e' : TypeId} (h : w.ownsRow base e size v n xs) (h' : w.ownsRow base' e' size' v' n' xs') (hne : e ≠ e') : v.ownBlock = none ∨ v.ownBlock ≠ v'.ownBlock := by
  cases hk : v.ownBlock with
  | none => exact .inl rfl
  | some k =>
    right
    intro hk'
    obtain ⟨cur, _, z, hh, rfl⟩ := own_block h k hk
    obtain ⟨cur', _, z', hh', rfl⟩ := own_block h' k hk'.symm
    rw [hh] at hh'
    injection hh' with hh'
    injection hh' with _ ht
    exact hne ht
end
/-! ### the fields of a line -/
/-- one field: its bytes and its column -/
abbrev Fld := List UInt8 × Nat
def fcells (l : List Fld) : List Value := l.flatMap fun f => [.string (sb f.1), .int .i64 (f.2 : Int)]
theorem fcells_len (l : List Fld) : (fcells l).length = l.length * 2 := by
  induction l with
  | nil => rfl
  | cons f l ih => unfold fcells at ih ⊢; rw [List.flatMap_cons, List.length_append, ih]; simp only [List.length_cons, List.length_nil]; omega
theorem fcells_snoc (l : List Fld) (f : Fld) : fcells (l ++ [f]) = fcells l ++ [.string (sb f.1), .int .i64 (f.2 : Int)] := by
  unfold fcells; rw [List.flatMap_append]; rfl
theorem fcells_cons (f : Fld) (l : List Fld) : fcells (f :: l) = .string (sb f.1) :: .int .i64 (f.2 : Int) :: fcells l := rfl
theorem fcells_at (l : List Fld) : ∀ (k : Nat) (h : k < l.length), (fcells l)[k * 2]? = some (.string (sb l[k].1)) ∧ (fcells l)[k * 2 + 1]? = some (.int .i64 (l[k].2 : Int)) := by
  induction l with
  | nil => intro k h; simp at h
  | cons f l ih =>
    intro k h
    rw [fcells_cons]
    cases k with
    | zero => exact ⟨rfl, rfl⟩
    | succ k =>
      have := ih k (by simpa using h)
      rw [show (k + 1) * 2 = k * 2 + 2 by omega]
      exact this
/-- the fields of what is left of a line: cur: the bytes of a field that has begun, at place st -/
def fieldsGo (cur : List UInt8) (st pos : Nat) : List UInt8 → List Fld
  | [] => if cur = [] then [] else [(cur, st + 1)]
  | c :: l => if c = 32 then (if cur = [] then fieldsGo [] 0 (pos + 1) l else (cur, st + 1) :: fieldsGo [] 0 (pos + 1) l)
    else fieldsGo (cur ++ [c]) (if cur = [] then pos else st) (pos + 1) l
def fieldsL (l : List UInt8) : List Fld := fieldsGo [] 0 0 (cutAt 35 l).1
theorem fieldsGo_blank (st pos : Nat) (l : List UInt8) : fieldsGo [] st pos (32 :: l) = fieldsGo [] 0 (pos + 1) l := by
  rw [fieldsGo, if_pos rfl, if_pos rfl]
theorem fieldsGo_st (st st' pos : Nat) (l : List UInt8) : fieldsGo [] st pos l = fieldsGo [] st' pos l := by
  cases l with
  | nil => rfl
  | cons c l => unfold fieldsGo; simp only [if_true, List.nil_append]
theorem fieldsGo_token (t : List UInt8) : ∀ (cur : List UInt8) (st pos : Nat) (l : List UInt8), cur ≠ [] → (∀ c ∈ t, c ≠ 32) → fieldsGo cur st pos (t ++ l) = fieldsGo (cur ++ t) st (pos + t.length) l := by
  induction t with
  | nil => intro cur st pos l _ _; simp
  | cons c t ih =>
    intro cur st pos l hc ht
    have h1 : c ≠ 32 := ht c (by simp)
    rw [List.cons_append, fieldsGo, if_neg h1, if_neg hc, ih _ _ _ _ (by simp) (fun x hx => ht x (by simp [hx]))]
    rw [List.append_assoc]
    simp only [List.cons_append, List.nil_append, List.length_cons]
    rw [show pos + 1 + t.length = pos + (t.length + 1) by omega]
theorem fieldsGo_start (t : List UInt8) (st pos : Nat) (l : List UInt8) (h0 : t ≠ []) (ht : ∀ c ∈ t, c ≠ 32) : fieldsGo [] st pos (t ++ l) = fieldsGo t pos (pos + t.length) l := by
  match t, h0 with
  | c :: t, _ =>
    have h1 : c ≠ 32 := ht c (by simp)
    rw [List.cons_append, fieldsGo, if_neg h1, if_pos rfl, List.nil_append, fieldsGo_token t [c] pos (pos + 1) l (by simp) (fun x hx => ht x (by simp [hx]))]
    simp only [List.cons_append, List.nil_append, List.length_cons]
    rw [show pos + 1 + t.length = pos + (t.length + 1) by omega]
/-- a field ends at a blank, or at the line's end -/
theorem fieldsGo_end (t : List UInt8) (st pos : Nat) (l : List UInt8) (h0 : t ≠ []) (hl : l = [] ∨ l.head? = some 32) : fieldsGo t st pos l = (t, st + 1) :: fieldsGo [] 0 pos l := by
  rcases hl with rfl | hl
  · rw [fieldsGo, if_neg h0]; rfl
  · match l, hl with
    | c :: l, hl =>
      have : c = 32 := by simpa using hl
      subst this
      rw [fieldsGo, if_pos rfl, if_neg h0, fieldsGo_blank]

def badC (c : UInt8) : Bool := decide (c.toNat < 32) || decide (126 < c.toNat)
def okC (c : UInt8) : Bool := !badC c
theorem okC_yes {c : UInt8} (h1 : (32 : Int) ≤ (c.toNat : Int)) (h2 : (c.toNat : Int) ≤ 126) : okC c = true := by
  unfold okC badC; rw [decide_eq_false (by omega), decide_eq_false (by omega)]; rfl
theorem okC_no {c : UInt8} (h : (c.toNat : Int) < 32 ∨ 126 < (c.toNat : Int)) : okC c = false := by
  unfold okC badC; rcases h with h | h
  · rw [decide_eq_true (p := c.toNat < 32) (by omega)]; rfl
  · rw [decide_eq_true (p := 126 < c.toNat) (by omega), Bool.or_true]; rfl
/-- what Split answers -/
def splitF (l : List UInt8) : List Fld := if 200 < l.length then [] else if l.all okC then fieldsL l else []
def splitCol (l : List UInt8) : Int := if 200 < l.length then 201 else if l.all okC then 0 else (l.findIdx badC : Int) + 1
def splitErr (l : List UInt8) : Int := if 200 < l.length then 3 else if l.all okC then 0 else 4
theorem split_long {l : List UInt8} (h : 200 < l.length) : splitF l = [] ∧ splitCol l = 201 ∧ splitErr l = 3 := ⟨if_pos h, if_pos h, if_pos h⟩
theorem split_ok {l : List UInt8} (h : l.length ≤ 200) (h2 : l.all okC = true) : splitF l = fieldsL l ∧ splitCol l = 0 ∧ splitErr l = 0 := by
  unfold splitF splitCol splitErr
  simp only [if_neg (show ¬ 200 < l.length by omega), if_pos h2]; exact ⟨trivial, trivial, trivial⟩
theorem split_bad {l : List UInt8} {k : Nat} (h : l.length ≤ 200) (hk : k < l.length) (h1 : (l.take k).all okC = true) (h2 : okC l[k] = false) : splitF l = [] ∧ splitCol l = (k : Int) + 1 ∧ splitErr l = 4 := by
  have ha : ¬ l.all okC = true := by rw [all_false_at hk h2]; decide
  have hi : l.findIdx badC = k := by
    rw [List.findIdx_eq hk]
    refine ⟨by unfold okC at h2; simpa using h2, fun j hj => ?_⟩
    rw [List.all_eq_true] at h1
    have hjl : j < (l.take k).length := by rw [List.length_take]; omega
    have := h1 _ (List.getElem_mem hjl)
    rw [List.getElem_take] at this
    unfold okC at this
    simpa using this
  unfold splitF splitCol splitErr
  simp only [if_neg (show ¬ 200 < l.length by omega), if_neg ha, hi]; exact ⟨trivial, trivial, trivial⟩
theorem cutAt_cons (c x : UInt8) (l : List UInt8) : cutAt c (x :: l) = if x = c then ([], l, true) else (x :: (cutAt c l).1, (cutAt c l).2.1, (cutAt c l).2.2) := rfl
theorem cutAt_mid {c : UInt8} {r : List UInt8} : ∀ {a : List UInt8}, c ∉ a → cutAt c (a ++ c :: r) = (a, r, true)
  | [], _ => by rw [List.nil_append, cutAt_cons, if_pos rfl]
  | x :: a, h => by
    have hx : x ≠ c := fun e => h (by rw [e]; simp)
    have ha : c ∉ a := fun e => h (List.mem_cons_of_mem _ e)
    rw [List.cons_append, cutAt_cons, if_neg hx, cutAt_mid ha]
theorem cutAt_none {c : UInt8} {l : List UInt8} (h : c ∉ l) : cutAt c l = (l, [], false) := by
  rcases cutAt_spec c l with ⟨_, h2, _⟩ | ⟨h1, _, h3, h4⟩
  · exact absurd (by rw [h2]; simp) h
  · exact Prod.ext h3 (Prod.ext h4 h1)
end Go.Proofs.YtakgcdefbbgdaaaGreatDoor
namespace Go.Proofs.YtakgcdefbbgdaaaGreatDoor
open Go.RowKit
set_option linter.unusedVariables false
set_option linter.unusedSimpArgs false

/-- the lines of a text -/
def linesL : List UInt8 → List (List UInt8)
  | [] => [[]]
  | c :: l => if c = 10 then [] :: linesL l else (c :: (linesL l).headD []) :: (linesL l).tail
theorem linesL_ne (l : List UInt8) : linesL l ≠ [] := by
  cases l with
  | nil => simp [linesL]
  | cons c l => unfold linesL; split <;> simp
theorem linesL_eta (l : List UInt8) : (linesL l).headD [] :: (linesL l).tail = linesL l := by
  cases h : linesL l with
  | nil => exact absurd h (linesL_ne l)
  | cons a r => rfl
theorem linesL_cons (c : UInt8) (l : List UInt8) : linesL (c :: l) = if c = 10 then [] :: linesL l else (c :: (linesL l).headD []) :: (linesL l).tail := rfl
theorem linesL_cut (l : List UInt8) : linesL l = if (cutAt 10 l).2.2 then (cutAt 10 l).1 :: linesL (cutAt 10 l).2.1 else [l] := by
  induction l with
  | nil => rfl
  | cons c l ih =>
    rw [linesL_cons, cutAt_cons]
    by_cases h : c = 10
    · rw [if_pos h, if_pos h, if_pos rfl]
    · rw [if_neg h, if_neg h]
      rcases cutAt_spec 10 l with ⟨h1, _, _⟩ | ⟨h1, _, _, _⟩
      · rw [h1, if_pos rfl] at ih
        rw [ih, h1, if_pos rfl]; rfl
      · rw [h1, if_neg (by decide)] at ih
        rw [ih, h1, if_neg (by decide)]; rfl
theorem linesL_len (l : List UInt8) : (linesL l).length ≤ l.length + 1 := by
  induction l with
  | nil => simp [linesL]
  | cons c l ih =>
    unfold linesL
    have := linesL_eta l
    have h2 : (linesL l).length = (linesL l).tail.length + 1 := by rw [← this]; simp
    split
    · simp only [List.length_cons]; omega
    · simp only [List.length_cons]; omega
theorem linesL_mem (l : List UInt8) : ∀ x ∈ linesL l, x.length ≤ l.length := by
  induction l with
  | nil => simp [linesL]
  | cons c l ih =>
    have hh : (linesL l).headD [] ∈ linesL l := by
      rw [← linesL_eta l]; simp
    unfold linesL
    split
    · intro x hx
      simp only [List.mem_cons] at hx
      rcases hx with rfl | hx
      · simp
      · have := ih x hx; simp only [List.length_cons]; omega
    · intro x hx
      simp only [List.mem_cons] at hx
      rcases hx with rfl | hx
      · have := ih _ hh; simp only [List.length_cons]; omega
      · have := ih x (List.mem_of_mem_tail hx); simp only [List.length_cons]; omega

theorem countFrom_succ (sub : List UInt8) (fuel : Nat) (s : List UInt8) : Lib.countFrom sub (fuel + 1) s = if Lib.index s sub == -1 then 0 else 1 + Lib.countFrom sub fuel (s.drop ((Lib.index s sub).toNat + sub.length)) := rfl
theorem countFrom_one (c : UInt8) (fuel : Nat) (s : List UInt8) (h : s.length < fuel) : Lib.countFrom [c] fuel s = if (cutAt c s).2.2 then 1 + Lib.countFrom [c] (fuel - 1) (cutAt c s).2.1 else 0 := by
  match fuel, h with
  | fuel + 1, h =>
    rw [countFrom_succ]
    rcases index_one c s with ⟨h1, h2⟩ | ⟨i, h1, h2⟩
    · rw [h1, h2]; rfl
    · have e : ((i : Int) == -1) = false := by rw [beq_eq_false_iff_ne]; omega
      rw [h1, h2, e]
      rfl
theorem countFrom_fuel (c : UInt8) : ∀ (n : Nat) (f f' : Nat) (s : List UInt8), s.length ≤ n → s.length < f → s.length < f' → Lib.countFrom [c] f s = Lib.countFrom [c] f' s := by
  intro n
  induction n with
  | zero =>
    intro f f' s h h1 h2
    have : s = [] := List.eq_nil_of_length_eq_zero (by omega)
    subst this
    rw [countFrom_one c f [] h1, countFrom_one c f' [] h2]; rfl
  | succ n ih =>
    intro f f' s h h1 h2
    rw [countFrom_one c f s h1, countFrom_one c f' s h2]
    rcases cutAt_spec c s with ⟨k1, k2, _⟩ | ⟨k1, _⟩
    · have hl : (cutAt c s).2.1.length < s.length := by
        have := congrArg List.length k2
        rw [List.length_append, List.length_cons] at this
        omega
      rw [k1, ih (f - 1) (f' - 1) _ (by omega) (by omega) (by omega)]
    · rw [k1]; rfl
theorem splitK_lines : ∀ (n : Nat) (s : List UInt8), s.length ≤ n → Lib.splitK [10] 0 (Lib.count s [10]) s = linesL s := by
  intro n
  induction n with
  | zero =>
    intro s h
    have : s = [] := List.eq_nil_of_length_eq_zero (by omega)
    subst this
    rfl
  | succ n ih =>
    intro s h
    rw [linesL_cut]
    unfold Lib.count
    rw [countFrom_one 10 _ s (by omega)]
    rcases index_one 10 s with ⟨h1, h2⟩ | ⟨i, h1, h2⟩
    · rw [h2]; rfl
    · have hl : (s.drop (i + 1)).length < s.length := by
        rcases cutAt_spec 10 s with ⟨k1, k2, _⟩ | ⟨k1, _⟩
        · rw [h2] at k2
          have := congrArg List.length k2
          rw [List.length_append, List.length_cons] at this
          simp only [] at this ⊢
          omega
        · rw [h2] at k1; cases k1
      rw [h2]
      simp only [if_true, Nat.add_sub_cancel]
      have e : ((i : Int) == -1) = false := by rw [beq_eq_false_iff_ne]; omega
      rw [Nat.add_comm 1, Lib.splitK, h1, e]
      simp only [Bool.false_eq_true, if_false, List.length_cons, List.length_nil, Int.toNat_natCast, Nat.add_zero]
      rw [countFrom_fuel 10 s.length s.length ((s.drop (i + 1)).length + 1) _ (by omega) (by omega) (by omega)]
      have := ih (s.drop (i + 1)) (by omega)
      unfold Lib.count at this
      rw [Nat.zero_add, this]
/-- a block that the call just laid -/
theorem rdT_new (w : World) (cs : List Value) (e : TypeId) (size n : Nat) (h : cs.length = n * size) (hm : n ≤ maxLen) : RdT (w.alloc (.cells cs.toArray e)) e size (.slice (some ⟨w.heap.size, 0, none⟩) n n) n cs := by
  have hh : (w.alloc (.cells cs.toArray e)).heap[w.heap.size]? = some (.cells cs.toArray e) := heap_alloc_new w _
  refine ⟨⟨h, _, n, rfl, Nat.le_refl _, hm, fun _ => ⟨w.heap.size, 0, rfl, heap_lt hh, fun j u hu => ?_⟩⟩, .inr ⟨_, _, _, _, _, rfl, hh⟩⟩
  rw [Nat.zero_add, cell_of_row _ _ _ _ _ _ hh]
  simpa using hu
def scells (l : List (List UInt8)) : List Value := l.map fun x => .string (sb x)
/-- the lines of a text, as a slice of strings of the call's own -/
def LinesPost (s : ByteArray) (w : World) (e : Ending) (w' : World) : Prop :=
  ∃ v, e = .returned v ∧ RdT w' 9 1 v (linesL (bl s)).length (scells (linesL (bl s))) ∧ Below w.heap.size w w'
theorem splitNl (s : ByteArray) (w : World) (E : Env w) (hs : s.size ≤ 1048576) :
    Calls Tryz.prog 7 #[.string s, .string ⟨#[10]⟩] w (LinesPost s w) := by
  obtain ⟨m, hm⟩ := E.most
  refine (Tryz.strings_Split s ⟨#[10]⟩ m w (by omega) hm (by decide)).mono ?_
  rintro e w' ⟨rfl, rfl⟩
  have h1 : (Lib.splitB ⟨#[10]⟩ 0 (Lib.countB s ⟨#[10]⟩) s).map bl = linesL (bl s) := by
    have h := Lib.splitB_data ⟨#[10]⟩ 0 (Lib.countB s ⟨#[10]⟩) s
    exact h.trans (splitK_lines _ _ (Nat.le_refl _))
  have hlen : (Lib.splitB ⟨#[10]⟩ 0 (Lib.countB s ⟨#[10]⟩) s).length = (linesL (bl s)).length := by rw [← h1, List.length_map]
  have hcnt : Lib.countB s ⟨#[10]⟩ + 1 = (linesL (bl s)).length := by
    rw [← hlen]; exact (Lib.splitB_all ⟨#[10]⟩ (by decide) 0 _ s rfl).symm
  have hc : scells (linesL (bl s)) = (Lib.splitB ⟨#[10]⟩ 0 (Lib.countB s ⟨#[10]⟩) s).map Value.string := by
    unfold scells
    rw [← h1, List.map_map]
    apply List.map_congr_left
    intro x _
    show Value.string (sb (bl x)) = _
    rw [sb_bl]
  refine ⟨_, rfl, ?_, (Below.refl _ _).alloc (Nat.le_refl _) _⟩
  rw [hcnt, hc]
  exact rdT_new w _ _ 1 _ (by rw [List.length_map, hlen, Nat.mul_one]) (by have := linesL_len (bl s); rw [bl_len] at this; unfold maxLen; omega)

/-! ### flightdeckref08.Lines -/
/-- no newline in s from b to j -/
def NoNl (s : ByteArray) (b j : Nat) : Prop := (10 : UInt8) ∉ ((bl s).drop b).take (j - b)
theorem noNl_self (s : ByteArray) (b : Nat) : NoNl s b b := by unfold NoNl; rw [Nat.sub_self]; simp
theorem noNl_succ {s : ByteArray} {b j : Nat} (hb : b ≤ j) (hj : j < s.size) (hc : (s[j].toNat : Int) ≠ 10) (h : NoNl s b j) : NoNl s b (j + 1) := by
  unfold NoNl at *
  have hl : j - b < ((bl s).drop b).length := by rw [List.length_drop, bl_len]; omega
  rw [show j + 1 - b = (j - b) + 1 by omega, List.take_succ_eq_append_getElem hl, List.mem_append, List.mem_singleton, List.getElem_drop]
  rintro (e | e)
  · exact h e
  · apply hc
    have : (bl s)[b + (j - b)]'(by rw [bl_len]; omega) = s[j] := by
      have hh : b + (j - b) = j := by omega
      simp only [hh]; rfl
    rw [this] at e
    rw [← e]; rfl
theorem lines_nl {s : ByteArray} {b j : Nat} (hb : b ≤ j) (hj : j < s.size) (hc : (s[j].toNat : Int) = 10) (h : NoNl s b j) : linesL ((bl s).drop b) = bl (s.extract b j) :: linesL ((bl s).drop (j + 1)) := by
  have hl : j - b < ((bl s).drop b).length := by rw [List.length_drop, bl_len]; omega
  have h1 : (bl s).drop b = ((bl s).drop b).take (j - b) ++ (10 : UInt8) :: (bl s).drop (j + 1) := by
    conv => lhs; rw [← List.take_append_drop (j - b) ((bl s).drop b)]
    rw [List.drop_drop, show b + (j - b) = j by omega, List.drop_eq_getElem_cons (show j < (bl s).length from hj)]
    have e10 : s[j] = 10 := by apply UInt8.toNat_inj.1; show s[j].toNat = 10; omega
    exact congrArg (fun c : UInt8 => ((bl s).drop b).take (j - b) ++ c :: (bl s).drop (j + 1)) e10
  rw [bl_extract, linesL_cut, h1, cutAt_mid (by unfold NoNl at h; exact h), if_pos rfl, ← h1]
theorem lines_end {s : ByteArray} {b : Nat} (hb : b ≤ s.size) (h : NoNl s b s.size) : linesL ((bl s).drop b) = [bl (s.extract b s.size)] := by
  have e : ((bl s).drop b).take (s.size - b) = (bl s).drop b := List.take_of_length_le (by rw [List.length_drop, bl_len]; omega)
  unfold NoNl at h
  rw [e] at h
  rw [bl_extract, e, linesL_cut, cutAt_none h, if_neg Bool.false_ne_true]
theorem scells_snoc (l : List (List UInt8)) (x : ByteArray) : scells (l ++ [bl x]) = scells l ++ [.string x] := by
  unfold scells; rw [List.map_append]
  show _ ++ [Value.string (sb (bl x))] = _
  rw [sb_bl]
theorem string_step {base : Nat} {w0 wr w' : World} {v v' : Value} {e : TypeId} {done : List (List UInt8)} {t : ByteArray} {o : Obj}
    (hlt : ∀ k, v.ownBlock = some k → base ≤ k ∧ k < wr.heap.size) (hb : Below base w0 wr) (hown' : w'.ownsRow base e 1 v' (done.length + 1) (scells done ++ [.string t])) (hg : (wr.alloc o).grownBy w' v.ownBlock) (hB : base ≤ wr.heap.size) :
    w'.ownsRow base e 1 v' (done ++ [bl t]).length (scells (done ++ [bl t])) ∧ Below base w0 w' := by
  refine ⟨?_, (hb.alloc hB o).grown hg (by simp; omega) (fun k hk => (hlt k hk).1)⟩
  rw [scells_snoc, List.length_append]
  exact hown'
end Go.Proofs.YtakgcdefbbgdaaaGreatDoor
namespace Go.Proofs.YtakgcdefbbgdaaaGreatDoor
set_option linter.unusedVariables false
set_option linter.unusedSimpArgs false

theorem dig_nat {d : Nat} (h : d < 10) : (UInt8.ofNat (48 + d)).toNat = 48 + d := by
  rw [UInt8.toNat_ofNat']; omega
theorem dig_B {d : Nat} (h : d < 10) : digitB (UInt8.ofNat (48 + d)) = true := by
  unfold digitB; rw [dig_nat h]; simp; omega
theorem digFrom_snoc (a : Nat) (l : List UInt8) (c : UInt8) : digFrom a (l ++ [c]) = 10 * digFrom a l + (c.toNat - 48) := by
  unfold digFrom; rw [List.foldl_append]; rfl
theorem dec_all (n : Nat) : (Lib.decDigits n).all digitB = true := by
  induction n using Nat.strongRecOn with
  | _ n ih =>
    by_cases h : n < 10
    · rw [decDigits_small h, List.all_cons, dig_B h]; rfl
    · rw [decDigits_big h, List.all_append, ih (n / 10) (by omega), List.all_cons, dig_B (by omega)]; rfl
theorem dec_val (n : Nat) : digVal (Lib.decDigits n) = n := by
  induction n using Nat.strongRecOn with
  | _ n ih =>
    by_cases h : n < 10
    · rw [decDigits_small h]
      show 10 * 0 + ((UInt8.ofNat (48 + n)).toNat - 48) = n
      rw [dig_nat h]; omega
    · rw [decDigits_big h]
      unfold digVal at ih ⊢
      rw [digFrom_snoc, ih (n / 10) (by omega), dig_nat (by omega)]; omega
theorem dec_ne (n : Nat) : Lib.decDigits n ≠ [] := by
  by_cases h : n < 10
  · rw [decDigits_small h]; simp
  · rw [decDigits_big h]; simp
theorem headD_append {l r : List UInt8} (h : l ≠ []) : (l ++ r).headD 0 = l.headD 0 := by
  cases l with
  | nil => exact absurd rfl h
  | cons a l => rfl
theorem dec_head (n : Nat) : (n = 0 ∧ Lib.decDigits n = [48]) ∨ (0 < n ∧ 48 < ((Lib.decDigits n).headD 0).toNat) := by
  induction n using Nat.strongRecOn with
  | _ n ih =>
    by_cases h : n < 10
    · by_cases h0 : n = 0
      · subst h0; exact .inl ⟨rfl, by rw [decDigits_small (by omega)]; rfl⟩
      · right
        rw [decDigits_small h]
        show 0 < n ∧ 48 < (UInt8.ofNat (48 + n)).toNat
        rw [dig_nat h]; omega
    · right
      rw [decDigits_big h, headD_append (dec_ne _)]
      rcases ih (n / 10) (by omega) with h1 | h1
      · omega
      · exact ⟨by omega, h1.2⟩
theorem dec_zeroAhead (n : Nat) : zeroAhead (Lib.decDigits n) = false := by
  unfold zeroAhead
  rcases dec_head n with ⟨_, h⟩ | ⟨_, h⟩
  · rw [h]; rfl
  · have e : ((Lib.decDigits n).headD 0 == 48) = false := by
      rw [beq_eq_false_iff_ne]; intro e; rw [e] at h; exact absurd h (by decide)
    rw [e, Bool.and_false]
theorem dec_plain (n : Nat) : plainB (Lib.decDigits n) = true := by
  unfold plainB
  rw [dec_zeroAhead, dec_all, List.isEmpty_eq_false_iff.2 (dec_ne n)]; rfl
theorem notin_digits {l : List UInt8} {c : UInt8} (h : l.all digitB = true) (hc : digitB c = false) : c ∉ l := by
  intro hm
  have := List.all_eq_true.1 h c hm
  rw [hc] at this; cases this
theorem headIs_append {c : UInt8} {l r : List UInt8} (h0 : l ≠ []) (h : c ∉ l) : headIs c (l ++ r) = false := by
  cases l with
  | nil => exact absurd rfl h0
  | cons a l =>
    have : a ≠ c := fun e => h (by rw [e]; simp)
    simp [headIs, this]
theorem pair_dec {x y : Nat} (hx : x < 10) (hy : y < 10) (h : ¬ (x = 0 ∧ y = 0)) : pairB (Lib.decDigits x ++ Lib.decDigits y) = true ∧ digVal (Lib.decDigits x ++ Lib.decDigits y) = 10 * x + y := by
  rw [decDigits_small hx, decDigits_small hy]
  constructor
  · unfold pairB
    have e1 : ([UInt8.ofNat (48 + x)] ++ [UInt8.ofNat (48 + y)]).all digitB = true := by
      simp only [List.cons_append, List.nil_append, List.all_cons, List.all_nil, dig_B hx, dig_B hy]; rfl
    have e2 : (([UInt8.ofNat (48 + x)] ++ [UInt8.ofNat (48 + y)]) == [48, 48]) = false := by
      rw [beq_eq_false_iff_ne]
      intro e
      simp only [List.cons_append, List.nil_append, List.cons.injEq, and_true] at e
      have a1 := congrArg UInt8.toNat e.1
      have a2 := congrArg UInt8.toNat e.2
      rw [dig_nat hx] at a1
      rw [dig_nat hy] at a2
      have b1 : (48 : UInt8).toNat = 48 := rfl
      omega
    rw [e1, e2]; rfl
  · show 10 * (10 * 0 + ((UInt8.ofNat (48 + x)).toNat - 48)) + ((UInt8.ofNat (48 + y)).toNat - 48) = _
    rw [dig_nat hx, dig_nat hy]; omega
/-- the parts of the text of an altitude without its sign -/
theorem altAbs_cut (b : Nat) : ∃ p f, cutAt 46 (altAbs b) = (Lib.decDigits (b / 100), p, f) ∧ (∀ g, altOf g (Lib.decDigits (b / 100)) p f = if g then (if b = 0 then none else some (-(b : Int))) else some (b : Int)) := by
  have hn : (46 : UInt8) ∉ Lib.decDigits (b / 100) := notin_digits (dec_all _) (by decide)
  by_cases h : b % 100 = 0
  · refine ⟨[], false, by rw [altAbs_whole h, cutAt_none hn], fun g => ?_⟩
    have e : b / 100 * 100 = b := by omega
    unfold altOf
    simp only [dec_plain, dec_val, e, Bool.not_false, Bool.true_or, Bool.and_self, if_true, Bool.false_eq_true, if_false, Nat.add_zero]
  · obtain ⟨k1, k2⟩ := @pair_dec (b % 100 / 10) (b % 10) (by omega) (by omega) (by omega)
    refine ⟨Lib.decDigits (b % 100 / 10) ++ Lib.decDigits (b % 10), true, ?_, fun g => ?_⟩
    · rw [altAbs_part h, List.cons_append, cutAt_mid hn]
    · have e : b / 100 * 100 + (10 * (b % 100 / 10) + b % 10) = b := by omega
      unfold altOf
      simp only [dec_plain, dec_val, k1, k2, e, Bool.not_true, Bool.false_or, Bool.and_self, if_true]
theorem altAbs_head (b : Nat) {c : UInt8} (hc : digitB c = false) : headIs c (altAbs b) = false := by
  unfold altAbs
  exact headIs_append (dec_ne _) (notin_digits (dec_all _) hc)
/-- the text of an altitude is read as that altitude -/
theorem altSpec_altOut {a : Int} (h : rangedB a = true) : altSpec (altOut a) = some a := by
  have hr : -200000 ≤ a ∧ a ≤ 6000000 := by unfold rangedB at h; simpa using h
  by_cases hn : a < 0
  · obtain ⟨b, rfl⟩ : ∃ b : Nat, a = -(b : Int) := ⟨(-a).toNat, by omega⟩
    obtain ⟨p, f, h1, h2⟩ := altAbs_cut b
    rw [altOut_neg (by omega) (by omega), altSpec_eq (g := true) (r := altAbs b) (by simp [headIs]) rfl h1, h2, if_pos rfl, if_neg (by omega)]
  · obtain ⟨b, rfl⟩ := Int.eq_ofNat_of_zero_le (a := a) (by omega)
    obtain ⟨p, f, h1, h2⟩ := altAbs_cut b
    rw [altOut_pos (by omega), altSpec_eq (g := false) (r := altAbs b) (altAbs_head b (by decide)).symm rfl h1, h2, if_neg (by decide)]
theorem pAlt_altOut {a : Int} (h : rangedB a = true) : pAltN (altSpec (altOut a)) = a ∧ pAltE (altSpec (altOut a)) = 0 := by
  rw [altSpec_altOut h]
  exact ⟨if_pos h, if_pos h⟩
end Go.Proofs.YtakgcdefbbgdaaaGreatDoor
namespace Go.Proofs.YtakgcdefbbgdaaaGreatDoor
set_option linter.unusedVariables false
set_option linter.unusedSimpArgs false

theorem altAbs_mem {b : Nat} {c : UInt8} (h : c ∈ altAbs b) : digitB c = true ∨ c = 46 := by
  unfold altAbs at h
  have hd : ∀ n, ∀ x ∈ Lib.decDigits n, digitB x = true := fun n => List.all_eq_true.1 (dec_all n)
  rw [List.mem_append] at h
  rcases h with h | h
  · exact .inl (hd _ _ h)
  · split at h
    · cases h
    · simp only [List.cons_append, List.mem_cons, List.mem_append] at h
      rcases h with h | h | h
      · exact .inr h
      · exact .inl (hd _ _ h)
      · exact .inl (hd _ _ h)
theorem altOut_mem {a : Int} {c : UInt8} (h : c ∈ altOut a) : digitB c = true ∨ c = 46 ∨ c = 45 := by
  unfold altOut altTextL at h
  split at h
  · split at h
    · rcases List.mem_cons.1 h with h | h
      · exact .inr (.inr h)
      · rcases altAbs_mem h with h | h
        · exact .inl h
        · exact .inr (.inl h)
    · rcases altAbs_mem h with h | h
      · exact .inl h
      · exact .inr (.inl h)
  · cases h
theorem altOut_no {a : Int} {c : UInt8} (h1 : digitB c = false) (h2 : c ≠ 46) (h3 : c ≠ 45) : c ∉ altOut a := by
  intro h
  rcases altOut_mem h with h | h | h
  · rw [h1] at h; cases h
  · exact h2 h
  · exact h3 h
theorem lastIs_append {c : UInt8} {l r : List UInt8} (h : r ≠ []) : lastIs c (l ++ r) = lastIs c r := by
  unfold lastIs
  rw [List.getLast?_append]
  cases hr : r.getLast? with
  | none => exact absurd (List.getLast?_eq_none_iff.1 hr) h
  | some x => rfl
theorem dec_last (n : Nat) {c : UInt8} (hc : digitB c = false) : lastIs c (Lib.decDigits n) = false := by
  unfold lastIs
  rw [beq_eq_false_iff_ne]
  intro h
  exact notin_digits (dec_all n) hc (List.mem_of_getLast? h)
theorem altAbs_last (b : Nat) {c : UInt8} (hc : digitB c = false) : lastIs c (altAbs b) = false := by
  by_cases h : b % 100 = 0
  · rw [altAbs_whole h]; exact dec_last _ hc
  · rw [altAbs_part h, ← List.append_assoc, lastIs_append (dec_ne _)]
    exact dec_last _ hc
theorem altAbs_ne (b : Nat) : altAbs b ≠ [] := by
  unfold altAbs
  intro h
  exact dec_ne _ (List.append_eq_nil_iff.1 h).1
theorem altOut_last {a : Int} (h : rangedB a = true) {c : UInt8} (hc : digitB c = false) : lastIs c (altOut a) = false := by
  unfold altOut altTextL
  rw [if_pos h]
  split
  · rw [show (45 :: altAbs (-a).toNat) = [45] ++ altAbs (-a).toNat from rfl, lastIs_append (altAbs_ne _)]
    exact altAbs_last _ hc
  · exact altAbs_last _ hc
theorem altOut_ne {a : Int} (h : rangedB a = true) : altOut a ≠ [] := by
  unfold altOut altTextL
  rw [if_pos h]
  split
  · simp
  · exact altAbs_ne _
theorem lastIs_45 : lastIs 45 [45] = true := rfl
theorem altOut_dash {a : Int} (h : rangedB a = true) : altOut a ≠ [45] := by
  intro e
  have := altOut_last (c := 45) h (by decide)
  rw [e] at this; cases this
theorem ranged_of_ok {lo hi : Int} (h : ¬ winBad lo hi) : rangedB lo = true ∧ rangedB hi = true ∧ lo ≤ hi := by
  unfold winBad at h
  exact ⟨rangedB_yes (by omega) (by omega), rangedB_yes (by omega) (by omega), by omega⟩
theorem winSpec_winText {lo hi : Int} (h : ¬ winBad lo hi) : winSpec (winText lo hi) = some (lo, hi) := by
  obtain ⟨h1, h2, h3⟩ := ranged_of_ok h
  have n58 : ∀ a, (58 : UInt8) ∉ altOut a := fun a => altOut_no (by decide) (by decide) (by decide)
  unfold winText
  split
  · rename_i e; rw [e.1, e.2]; rfl
  · split
    · rename_i e
      subst e
      rw [winSpec_eq (altOut_dash h1) (cutAt_none (n58 lo))]
      unfold winOf
      rw [if_neg (by decide), altOut_last h1 (by decide), altOut_last h1 (by decide), altSpec_altOut h1]; rfl
    · split
      · rename_i e
        subst e
        have hne : altOut lo ++ [43] ≠ [45] := by
          intro e
          have := lastIs_append (c := 43) (l := altOut lo) (r := [43]) (by simp)
          rw [e] at this; cases this
        have h58 : (58 : UInt8) ∉ altOut lo ++ [43] := by
          rw [List.mem_append]; rintro (e | e)
          · exact n58 _ e
          · revert e; decide
        rw [winSpec_eq hne (cutAt_none h58)]
        unfold winOf
        rw [if_neg (by decide), lastIs_append (by simp), if_pos (show lastIs 43 [43] = true from rfl), List.dropLast_concat, altSpec_altOut h1]; rfl
      · split
        · rename_i e
          subst e
          have hne : altOut hi ++ [45] ≠ [45] := by
            intro e
            apply altOut_ne h2
            have := congrArg List.length e
            rw [List.length_append] at this
            exact List.eq_nil_of_length_eq_zero (by simpa using this)
          have h58 : (58 : UInt8) ∉ altOut hi ++ [45] := by
            rw [List.mem_append]; rintro (e | e)
            · exact n58 _ e
            · revert e; decide
          rw [winSpec_eq hne (cutAt_none h58)]
          unfold winOf
          rw [if_neg (by decide), lastIs_append (by simp), lastIs_append (by simp), if_neg (by decide), if_pos lastIs_45, List.dropLast_concat, altSpec_altOut h2]; rfl
        · have hne : altOut lo ++ 58 :: altOut hi ≠ [45] := by
            intro e
            have : (58 : UInt8) ∈ ([45] : List UInt8) := by rw [← e]; simp
            revert this; decide
          rw [winSpec_eq hne (cutAt_mid (n58 lo))]
          unfold winOf
          rw [if_pos rfl, altSpec_altOut h1, altSpec_altOut h2]
/-- a window is written and read back -/
theorem pw_winOut {lo hi : Int} (h : ¬ winBad lo hi) : pwLo (winOut lo hi) (winSpec (winOut lo hi)) = lo ∧ pwHi (winOut lo hi) (winSpec (winOut lo hi)) = hi ∧ pwErr (winOut lo hi) (winSpec (winOut lo hi)) = 0 := by
  obtain ⟨h1, h2, h3⟩ := ranged_of_ok h
  have e : winOut lo hi = winText lo hi := if_neg h
  have hs : winSpec (winOut lo hi) = some (lo, hi) := by rw [e]; exact winSpec_winText h
  rw [hs]
  have := pw_ok (l := winOut lo hi) h1 h2 h3 rfl
  exact ⟨this.1.symm, this.2.1.symm, this.2.2.symm⟩
/-- what is read is written as it was -/
theorem winOut_pw {l : List UInt8} (h : pwErr l (winSpec l) = 0) : winOut (pwLo l (winSpec l)) (pwHi l (winSpec l)) = l ∧ winErr (pwLo l (winSpec l)) (pwHi l (winSpec l)) = 0 := by
  cases ho : winSpec l with
  | none => rw [ho] at h; exact absurd (show (4 : Int) = 0 from h) (by decide)
  | some v =>
    obtain ⟨a, b⟩ := v
    rw [ho] at h
    cases h1 : rangedB a with
    | false => rw [← (pw_range (l := l) (a := a) (b := b) (by rw [h1]; rfl)).2.2] at h; exact absurd h (by decide)
    | true =>
      cases h2 : rangedB b with
      | false => rw [← (pw_range (l := l) (a := a) (b := b) (by rw [h1, h2]; rfl)).2.2] at h; exact absurd h (by decide)
      | true =>
        by_cases h3 : a ≤ b
        · by_cases h4 : winOut a b = l
          · have k := pw_ok h1 h2 h3 h4
            rw [← k.1, ← k.2.1]
            refine ⟨h4, if_neg ?_⟩
            unfold rangedB at h1 h2
            unfold winBad
            simp only [Bool.and_eq_true, decide_eq_true_eq] at h1 h2
            omega
          · rw [← (pw_form h1 h2 h3 h4).2.2] at h; exact absurd h (by decide)
        · rw [← (pw_order (l := l) h1 h2 (by omega)).2.2] at h; exact absurd h (by decide)
end Go.Proofs.YtakgcdefbbgdaaaGreatDoor
