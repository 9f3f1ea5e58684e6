/-
  Slices in memory as lists of cells; the fields of a line as a list.
-/
import Derived.Test.YtlgajjlnbcbijaaGreatDoorPWin
namespace Go.Proofs.YtlgajjlnbcbijaaGreatDoor
open Go.RowKit
set_option linter.unusedVariables false
set_option linter.unusedSimpArgs false

section
variable {w w' : World} {size n : Nat} {v : Value} {xs : List Value}
end

/-! ### slices whose block's element type is known: an append to a row of another type leaves them alone -/
def RdT (w : World) (e : TypeId) (size : Nat) (v : Value) (n : Nat) (xs : List Value) : Prop :=
  Rd w size v n xs ∧ (n = 0 ∨ ∃ g o c cur z, v = .slice (some ⟨g, o, none⟩) n c ∧ w.heap[g]? = some (.cells cur e z))
section
variable {w w' : World} {size n : Nat} {v : Value} {xs : List Value} {e : TypeId}
theorem RdT.nil (w : World) (e : TypeId) (size : Nat) : RdT w e size (.slice none 0 0) 0 [] := ⟨Rd.nil w size, .inl rfl⟩
theorem RdT.below (h : RdT w e size v n xs) (hb : Below w.heap.size w w') : RdT w' e size v n xs := by
  refine ⟨h.1.below hb, ?_⟩
  rcases h.2 with h0 | ⟨g, o, c, cur, z, hv, hh⟩
  · exact .inl h0
  · exact .inr ⟨g, o, c, cur, z, hv, (hb.block g (heap_lt hh)).trans hh⟩
theorem RdT.alloc (h : RdT w e size v n xs) (o : Obj) : RdT (w.alloc o) e size v n xs := h.below ((Below.refl _ _).alloc (Nat.le_refl _) o)
theorem RdT.of_own {base : Nat} (h : w.ownsRow base e size v n xs) : RdT w e size v n xs := by
  refine ⟨Rd.of_own h, ?_⟩
  obtain ⟨hl, ⟨rfl, rfl⟩ | ⟨g, cap, cur, rfl, hb, hh, _⟩⟩ := h
  · exact .inl rfl
  · exact .inr ⟨g, 0, cap, cur, _, rfl, hh⟩
/-- an append to a row of another element type -/
theorem RdT.grown {row : Option Nat} (h : RdT w e size v n xs) (hg : w.grownBy w' row) (hr : ∀ k, row = some k → ∃ cur e' z, w.heap[k]? = some (.cells cur e' z) ∧ e' ≠ e) : RdT w' e size v n xs := by
  obtain ⟨⟨hl, A, c, hv, hc, hm, hx⟩, h2⟩ := h
  have same : ∀ g o c' cur z, 0 < n → v = .slice (some ⟨g, o, none⟩) n c' → w.heap[g]? = some (.cells cur e z) → w'.heap[g]? = w.heap[g]? := by
    intro g o c' cur z _ _ hh
    refine hg.block g (heap_lt hh) (fun he => ?_)
    obtain ⟨cur', e', z', hh', hne⟩ := hr g he.symm
    rw [hh] at hh'
    injection hh' with hh'
    injection hh' with _ ht
    exact hne ht.symm
  refine ⟨⟨hl, A, c, hv, hc, hm, fun hn => ?_⟩, ?_⟩
  · obtain ⟨g, o, hA, hgl, hcell⟩ := hx hn
    rcases h2 with h0 | ⟨g', o', c', cur, z, hv', hh⟩
    · omega
    · have hg' : g = g' := by
        rw [hv, hA] at hv'
        injection hv' with ha
        injection ha with ha
        injection ha
      subst hg'
      have hs := same g o' c' cur z hn hv' hh
      exact ⟨g, o, hA, Nat.lt_of_lt_of_le hgl hg.size, fun j u hu => (World.cell?_of_block (w := w) (a := ⟨g, o + j, none⟩) hs).trans (hcell j u hu)⟩
  · rcases h2 with h0 | ⟨g', o', c', cur, z, hv', hh⟩
    · exact .inl h0
    · rcases Nat.eq_zero_or_pos n with h0 | hn
      · exact .inl h0
      · exact .inr ⟨g', o', c', cur, z, hv', (same g' o' c' cur z hn hv' hh).trans hh⟩
theorem own_block {base : Nat} (h : w.ownsRow base e size v n xs) : ∀ k, v.ownBlock = some k → ∃ cur e' z, w.heap[k]? = some (.cells cur e' z) ∧ e' = e := by
  intro k hk
  obtain ⟨_, ⟨rfl, _⟩ | ⟨g, cap, cur, rfl, _, hh, _⟩⟩ := h
  · cases hk
  · have : g = k := by simpa [Value.ownBlock] using hk
    subst this
    exact ⟨cur, e, _, hh, rfl⟩
/-- two owned rows of different element types -/
theorem own_apart {base base' size' n' : Nat} {v' : Value} {xs' : List Value} {e' : TypeId} (h : w.ownsRow base e size v n xs) (h' : w.ownsRow base' e' size' v' n' xs') (hne : e ≠ e') : v.ownBlock = none ∨ v.ownBlock ≠ v'.ownBlock := by
  cases hk : v.ownBlock with
  | none => exact .inl rfl
  | some k =>
    right
    intro hk'
    obtain ⟨cur, _, z, hh, rfl⟩ := own_block h k hk
    obtain ⟨cur', _, z', hh', rfl⟩ := own_block h' k hk'.symm
    rw [hh] at hh'
    injection hh' with hh'
    injection hh' with _ ht
    exact hne ht
end
/-! ### the fields of a line -/
/-- one field: its bytes and its column -/
abbrev Fld := List UInt8 × Nat
def fcells (l : List Fld) : List Value := l.flatMap fun f => [.string (sb f.1), .int .i64 (f.2 : Int)]
theorem fcells_len (l : List Fld) : (fcells l).length = l.length * 2 := by
  induction l with
  | nil => rfl
  | cons f l ih => unfold fcells at ih ⊢; rw [List.flatMap_cons, List.length_append, ih]; simp only [List.length_cons, List.length_nil]; omega
theorem fcells_snoc (l : List Fld) (f : Fld) : fcells (l ++ [f]) = fcells l ++ [.string (sb f.1), .int .i64 (f.2 : Int)] := by
  unfold fcells; rw [List.flatMap_append]; rfl
theorem fcells_cons (f : Fld) (l : List Fld) : fcells (f :: l) = .string (sb f.1) :: .int .i64 (f.2 : Int) :: fcells l := rfl
theorem fcells_at (l : List Fld) : ∀ (k : Nat) (h : k < l.length), (fcells l)[k * 2]? = some (.string (sb l[k].1)) ∧ (fcells l)[k * 2 + 1]? = some (.int .i64 (l[k].2 : Int)) := by
  induction l with
  | nil => intro k h; simp at h
  | cons f l ih =>
    intro k h
    rw [fcells_cons]
    cases k with
    | zero => exact ⟨rfl, rfl⟩
    | succ k =>
      have := ih k (by simpa using h)
      rw [show (k + 1) * 2 = k * 2 + 2 by omega]
      exact this
/-- the fields of what is left of a line: cur: the bytes of a field that has begun, at place st -/
def fieldsGo (cur : List UInt8) (st pos : Nat) : List UInt8 → List Fld
  | [] => if cur = [] then [] else [(cur, st + 1)]
  | c :: l => if c = 32 then (if cur = [] then fieldsGo [] 0 (pos + 1) l else (cur, st + 1) :: fieldsGo [] 0 (pos + 1) l)
    else fieldsGo (cur ++ [c]) (if cur = [] then pos else st) (pos + 1) l
def fieldsL (l : List UInt8) : List Fld := fieldsGo [] 0 0 (cutAt 35 l).1
theorem fieldsGo_blank (st pos : Nat) (l : List UInt8) : fieldsGo [] st pos (32 :: l) = fieldsGo [] 0 (pos + 1) l := by
  rw [fieldsGo, if_pos rfl, if_pos rfl]
theorem fieldsGo_st (st st' pos : Nat) (l : List UInt8) : fieldsGo [] st pos l = fieldsGo [] st' pos l := by
  cases l with
  | nil => rfl
  | cons c l => unfold fieldsGo; simp only [if_true, List.nil_append]
theorem fieldsGo_token (t : List UInt8) : ∀ (cur : List UInt8) (st pos : Nat) (l : List UInt8), cur ≠ [] → (∀ c ∈ t, c ≠ 32) → fieldsGo cur st pos (t ++ l) = fieldsGo (cur ++ t) st (pos + t.length) l := by
  induction t with
  | nil => intro cur st pos l _ _; simp
  | cons c t ih =>
    intro cur st pos l hc ht
    have h1 : c ≠ 32 := ht c (by simp)
    rw [List.cons_append, fieldsGo, if_neg h1, if_neg hc, ih _ _ _ _ (by simp) (fun x hx => ht x (by simp [hx]))]
    rw [List.append_assoc]
    simp only [List.cons_append, List.nil_append, List.length_cons]
    rw [show pos + 1 + t.length = pos + (t.length + 1) by omega]
theorem fieldsGo_start (t : List UInt8) (st pos : Nat) (l : List UInt8) (h0 : t ≠ []) (ht : ∀ c ∈ t, c ≠ 32) : fieldsGo [] st pos (t ++ l) = fieldsGo t pos (pos + t.length) l := by
  match t, h0 with
  | c :: t, _ =>
    have h1 : c ≠ 32 := ht c (by simp)
    rw [List.cons_append, fieldsGo, if_neg h1, if_pos rfl, List.nil_append, fieldsGo_token t [c] pos (pos + 1) l (by simp) (fun x hx => ht x (by simp [hx]))]
    simp only [List.cons_append, List.nil_append, List.length_cons]
    rw [show pos + 1 + t.length = pos + (t.length + 1) by omega]
/-- a field ends at a blank, or at the line's end -/
theorem fieldsGo_end (t : List UInt8) (st pos : Nat) (l : List UInt8) (h0 : t ≠ []) (hl : l = [] ∨ l.head? = some 32) : fieldsGo t st pos l = (t, st + 1) :: fieldsGo [] 0 pos l := by
  rcases hl with rfl | hl
  · rw [fieldsGo, if_neg h0]; rfl
  · match l, hl with
    | c :: l, hl =>
      have : c = 32 := by simpa using hl
      subst this
      rw [fieldsGo, if_pos rfl, if_neg h0, fieldsGo_blank]

def badC (c : UInt8) : Bool := decide (c.toNat < 32) || decide (126 < c.toNat)
def okC (c : UInt8) : Bool := !badC c
theorem okC_yes {c : UInt8} (h1 : (32 : Int) ≤ (c.toNat : Int)) (h2 : (c.toNat : Int) ≤ 126) : okC c = true := by
  unfold okC badC; rw [decide_eq_false (by omega), decide_eq_false (by omega)]; rfl
theorem okC_no {c : UInt8} (h : (c.toNat : Int) < 32 ∨ 126 < (c.toNat : Int)) : okC c = false := by
  unfold okC badC; rcases h with h | h
  · rw [decide_eq_true (p := c.toNat < 32) (by omega)]; rfl
  · rw [decide_eq_true (p := 126 < c.toNat) (by omega), Bool.or_true]; rfl
/-- what Split answers -/
def splitF (l : List UInt8) : List Fld := if 200 < l.length then [] else if l.all okC then fieldsL l else []
def splitCol (l : List UInt8) : Int := if 200 < l.length then 201 else if l.all okC then 0 else (l.findIdx badC : Int) + 1
def splitErr (l : List UInt8) : Int := if 200 < l.length then 3 else if l.all okC then 0 else 4
theorem split_long {l : List UInt8} (h : 200 < l.length) : splitF l = [] ∧ splitCol l = 201 ∧ splitErr l = 3 := ⟨if_pos h, if_pos h, if_pos h⟩
theorem split_ok {l : List UInt8} (h : l.length ≤ 200) (h2 : l.all okC = true) : splitF l = fieldsL l ∧ splitCol l = 0 ∧ splitErr l = 0 := by
  unfold splitF splitCol splitErr
  simp only [if_neg (show ¬ 200 < l.length by omega), if_pos h2]; exact ⟨trivial, trivial, trivial⟩
theorem split_bad {l : List UInt8} {k : Nat} (h : l.length ≤ 200) (hk : k < l.length) (h1 : (l.take k).all okC = true) (h2 : okC l[k] = false) : splitF l = [] ∧ splitCol l = (k : Int) + 1 ∧ splitErr l = 4 := by
  have ha : ¬ l.all okC = true := by rw [all_false_at hk h2]; decide
  have hi : l.findIdx badC = k := by
    rw [List.findIdx_eq hk]
    refine ⟨by unfold okC at h2; simpa using h2, fun j hj => ?_⟩
    rw [List.all_eq_true] at h1
    have hjl : j < (l.take k).length := by rw [List.length_take]; omega
    have := h1 _ (List.getElem_mem hjl)
    rw [List.getElem_take] at this
    unfold okC at this
    simpa using this
  unfold splitF splitCol splitErr
  simp only [if_neg (show ¬ 200 < l.length by omega), if_neg ha, hi]; exact ⟨trivial, trivial, trivial⟩
theorem cutAt_cons (c x : UInt8) (l : List UInt8) : cutAt c (x :: l) = if x = c then ([], l, true) else (x :: (cutAt c l).1, (cutAt c l).2.1, (cutAt c l).2.2) := rfl
theorem cutAt_mid {c : UInt8} {r : List UInt8} : ∀ {a : List UInt8}, c ∉ a → cutAt c (a ++ c :: r) = (a, r, true)
  | [], _ => by rw [List.nil_append, cutAt_cons, if_pos rfl]
  | x :: a, h => by
    have hx : x ≠ c := fun e => h (by rw [e]; simp)
    have ha : c ∉ a := fun e => h (List.mem_cons_of_mem _ e)
    rw [List.cons_append, cutAt_cons, if_neg hx, cutAt_mid ha]
theorem cutAt_none {c : UInt8} {l : List UInt8} (h : c ∉ l) : cutAt c l = (l, [], false) := by
  rcases cutAt_spec c l with ⟨_, h2, _⟩ | ⟨h1, _, h3, h4⟩
  · exact absurd (by rw [h2]; simp) h
  · exact Prod.ext h3 (Prod.ext h4 h1)
end Go.Proofs.YtlgajjlnbcbijaaGreatDoor
