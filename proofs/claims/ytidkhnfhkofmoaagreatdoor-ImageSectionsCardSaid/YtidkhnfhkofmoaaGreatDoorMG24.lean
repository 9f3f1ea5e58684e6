/-
  Several texts as one.
  Plain words: lists in order, stable merges of two of them.
  Plain laws: rows whose elements change places; runs of a row that are turned, merged and sorted in place.
  Contracts: the parts of slices.SortStableFunc at structs: two ranges change places; two runs side by side change places; the insertion sort.
  Over any encoding of the elements (enc), any comparison (cf): the library's words SWK, RowK, CmpLays.
-/
import Derived.Test.YtidkhnfhkofmoaaGreatDoorBase
import Derived.Shelf.SlSortCmp.KitK
import Derived.Deep.LoopGhost
import Derived.BigRegion
namespace Go.Proofs.YtidkhnfhkofmoaaGreatDoor
set_option linter.unusedVariables false
set_option linter.unusedSimpArgs false
section
variable {α : Type}
structure Swo (lt : α → α → Bool) : Prop where
 asymm : ∀ a b, lt a b = true → lt b a = false
 trans : ∀ a b c, lt b a = false → lt c b = false → lt c a = false
def eqv (lt : α → α → Bool) (x y : α) : Bool := !lt x y && !lt y x
def Srt (lt : α → α → Bool) (l : List α) : Prop := l.Pairwise fun a b => lt b a = false
def Sam (lt : α → α → Bool) (l m : List α) : Prop := ∀ x, l.filter (eqv lt x) = m.filter (eqv lt x)
theorem Swo.irrefl {lt : α → α → Bool} (h : Swo lt) (a : α) : lt a a = false := by
 cases e : lt a a
 ·rfl
 ·exact (h.asymm a a e).symm.trans e |>.symm ▸ rfl
theorem eqv_self {lt : α → α → Bool} (h : Swo lt) (a : α) : eqv lt a a = true := by unfold eqv; rw [h.irrefl a]; rfl
theorem Sam.refl (lt : α → α → Bool) (l : List α) : Sam lt l l := fun _ => rfl
theorem Sam.symm {lt : α → α → Bool} {l m : List α} (h : Sam lt l m) : Sam lt m l := fun x => (h x).symm
theorem Sam.trans {lt : α → α → Bool} {l m n : List α} (h : Sam lt l m) (k : Sam lt m n) : Sam lt l n := fun x => (h x).trans (k x)
theorem Sam.app {lt : α → α → Bool} {l m l' m' : List α} (h : Sam lt l m) (k : Sam lt l' m') : Sam lt (l ++ l') (m ++ m') := fun x => by
 rw [List.filter_append, List.filter_append, h x, k x]
theorem Sam.cons {lt : α → α → Bool} {l m : List α} (a : α) (h : Sam lt l m) : Sam lt (a :: l) (a :: m) := (Sam.refl lt [a]).app h
theorem Sam.swap {lt : α → α → Bool} (hs : Swo lt) : ∀ (u v : List α), (∀ a ∈ u, ∀ b ∈ v, lt b a = true) → Sam lt (u ++ v) (v ++ u) := by
 intro u v h x
 rw [List.filter_append, List.filter_append]
 by_cases hu : u.filter (eqv lt x) = []
 ·rw [hu]; simp
 ·by_cases hv : v.filter (eqv lt x) = []
  ·rw [hv]; simp
  ·exfalso
   obtain ⟨a, ha⟩ := List.exists_mem_of_ne_nil _ hu
   obtain ⟨b, hb⟩ := List.exists_mem_of_ne_nil _ hv
   rw [List.mem_filter] at ha hb
   have h1 := h a ha.1 b hb.1
   unfold eqv at ha hb
   simp only [Bool.and_eq_true, Bool.not_eq_true'] at ha hb
   have := hs.trans a x b ha.2.1 hb.2.2
   rw [this] at h1; cases h1
theorem Sam.mem {lt : α → α → Bool} (hs : Swo lt) {l m : List α} (h : Sam lt l m) {a : α} (ha : a ∈ l) : a ∈ m := by
 have : a ∈ l.filter (eqv lt a) := List.mem_filter.2 ⟨ha, eqv_self hs a⟩
 rw [h a] at this
 exact (List.mem_filter.1 this).1
structure Mrg (lt : α → α → Bool) (p q w : List α) : Prop where
 len : w.length = p.length + q.length
 srt : Srt lt w
 sam : Sam lt (p ++ q) w
theorem Mrg.nil_left {lt : α → α → Bool} {q : List α} (h : Srt lt q) : Mrg lt [] q q := ⟨by simp, h, Sam.refl _ _⟩
theorem Mrg.nil_right {lt : α → α → Bool} {q : List α} (h : Srt lt q) : Mrg lt q [] q := ⟨by simp, h, by rw [List.append_nil]; exact Sam.refl _ _⟩
theorem Srt.left {lt : α → α → Bool} {l m : List α} (h : Srt lt (l ++ m)) : Srt lt l := (List.pairwise_append.1 h).1
theorem Srt.right {lt : α → α → Bool} {l m : List α} (h : Srt lt (l ++ m)) : Srt lt m := (List.pairwise_append.1 h).2.1
theorem Srt.cross {lt : α → α → Bool} {l m : List α} (h : Srt lt (l ++ m)) : ∀ a ∈ l, ∀ b ∈ m, lt b a = false := (List.pairwise_append.1 h).2.2
theorem Srt.app {lt : α → α → Bool} {l m : List α} (h : Srt lt l) (k : Srt lt m) (hc : ∀ a ∈ l, ∀ b ∈ m, lt b a = false) : Srt lt (l ++ m) := List.pairwise_append.2 ⟨h, k, hc⟩
theorem Srt.one (lt : α → α → Bool) (a : α) : Srt lt [a] := by unfold Srt; simp
theorem Srt.nil (lt : α → α → Bool) : Srt lt ([] : List α) := by unfold Srt; simp
theorem srt_last {lt : α → α → Bool} (hs : Swo lt) {l : List α} {z : α} (h : Srt lt (l ++ [z])) : ∀ a ∈ l ++ [z], lt z a = false := by
 intro a ha
 rcases List.mem_append.1 ha with h1 | h1
 ·exact h.cross a h1 z (by simp)
 ·rw [List.mem_singleton.1 h1]; exact hs.irrefl _
theorem srt_first {lt : α → α → Bool} (hs : Swo lt) {l : List α} {z : α} (h : Srt lt (z :: l)) : ∀ a ∈ z :: l, lt a z = false := by
 intro a ha
 rcases List.mem_cons.1 ha with rfl | h1
 ·exact hs.irrefl _
 ·exact (List.pairwise_cons.1 h).1 a h1
theorem lt_le {lt : α → α → Bool} (hs : Swo lt) {a b c : α} (h : lt a b = true) (k : lt c b = false) : lt a c = true := by
 cases e : lt a c
 ·have := hs.trans b c a k e
  rw [this] at h; cases h
 ·rfl
theorem le_lt {lt : α → α → Bool} (hs : Swo lt) {a b c : α} (h : lt b a = false) (k : lt b c = true) : lt a c = true := by
 cases e : lt a c
 ·have := hs.trans c a b e h
  rw [this] at k; cases k
 ·rfl
theorem Mrg.split {lt : α → α → Bool} (hs : Swo lt) {p1 u v q2 w1 w2 : List α} (h1 : Mrg lt p1 v w1) (h2 : Mrg lt u q2 w2)
  (hc : ∀ a ∈ u, ∀ b ∈ v, lt b a = true) (hx : ∀ x ∈ p1 ++ v, ∀ y ∈ u ++ q2, lt y x = false) : Mrg lt (p1 ++ u) (v ++ q2) (w1 ++ w2) := by
 refine ⟨?_, h1.srt.app h2.srt fun x hxx y hy => hx x (h1.sam.symm.mem hs hxx) y (h2.sam.symm.mem hs hy), ?_⟩
 ·have := h1.len; have := h2.len; simp only [List.length_append]; omega
 ·have e : Sam lt (p1 ++ u ++ (v ++ q2)) (p1 ++ v ++ (u ++ q2)) := by
   rw [List.append_assoc, List.append_assoc, ← List.append_assoc u, ← List.append_assoc v]
   exact (Sam.refl lt p1).app ((Sam.swap hs u v hc).app (Sam.refl lt q2))
  exact e.trans (h1.sam.app h2.sam)
theorem sym_split {lt : α → α → Bool} (hs : Swo lt) {p1 u v q2 : List α} (hP : Srt lt (p1 ++ u)) (hQ : Srt lt (v ++ q2))
  (h1 : u = [] ∨ v = [] ∨ ∃ a u' b v', u = a :: u' ∧ v = v' ++ [b] ∧ lt b a = true)
  (h2 : p1 = [] ∨ q2 = [] ∨ ∃ a p' b q', p1 = p' ++ [a] ∧ q2 = b :: q' ∧ lt b a = false) :
  (∀ a ∈ u, ∀ b ∈ v, lt b a = true) ∧ (∀ x ∈ p1 ++ v, ∀ y ∈ u ++ q2, lt y x = false) := by
 have hc : ∀ a ∈ u, ∀ b ∈ v, lt b a = true := by
  intro a ha b hb
  rcases h1 with rfl | rfl | ⟨a0, u', b0, v', rfl, rfl, h⟩
  ·cases ha
  ·cases hb
  ·have e1 := srt_first hs hP.right a ha
   have e2 := srt_last hs hQ.left b hb
   exact le_lt hs e2 (lt_le hs h e1)
 refine ⟨hc, fun x hx y hy => ?_⟩
 rcases List.mem_append.1 hx with hx | hx <;> rcases List.mem_append.1 hy with hy | hy
 ·exact hP.cross x hx y hy
 ·rcases h2 with rfl | rfl | ⟨a0, p', b0, q', rfl, rfl, h⟩
  ·cases hx
  ·cases hy
  ·have e1 := srt_last hs hP.left x hx
   have e2 := srt_first hs hQ.right y hy
   exact hs.trans x a0 y e1 (hs.trans a0 b0 y h e2)
 ·exact hs.asymm _ _ (hc y hy x hx)
 ·exact hQ.cross x hx y hy
theorem Mrg.one_left {lt : α → α → Bool} (hs : Swo lt) {x : α} {q1 q2 : List α} (hQ : Srt lt (q1 ++ q2)) (h1 : ∀ b ∈ q1, lt b x = true) (h2 : ∀ b ∈ q2, lt b x = false) : Mrg lt [x] (q1 ++ q2) (q1 ++ x :: q2) := by
 refine ⟨by simp only [List.length_append, List.length_cons, List.length_nil]; omega, hQ.left.app (List.pairwise_cons.2 ⟨h2, hQ.right⟩) ?_, ?_⟩
 ·intro a ha b hb
  rcases List.mem_cons.1 hb with rfl | hb
  ·exact hs.asymm _ _ (h1 a ha)
  ·exact hQ.cross a ha b hb
 ·have := (Sam.swap hs [x] q1 (by intro a ha b hb; rw [List.mem_singleton.1 ha]; exact h1 b hb)).app (Sam.refl lt q2)
  simpa using this
theorem Mrg.one_right {lt : α → α → Bool} (hs : Swo lt) {y : α} {p1 p2 : List α} (hP : Srt lt (p1 ++ p2)) (h1 : ∀ a ∈ p1, lt y a = false) (h2 : ∀ a ∈ p2, lt y a = true) : Mrg lt (p1 ++ p2) [y] (p1 ++ y :: p2) := by
 refine ⟨by simp only [List.length_append, List.length_cons, List.length_nil]; omega, hP.left.app (List.pairwise_cons.2 ⟨fun a ha => hs.asymm _ _ (h2 a ha), hP.right⟩) ?_, ?_⟩
 ·intro a ha b hb
  rcases List.mem_cons.1 hb with rfl | hb
  ·exact h1 a ha
  ·exact hP.cross a ha b hb
 ·have := (Sam.refl lt p1).app (Sam.swap hs p2 [y] (by intro a ha b hb; rw [List.mem_singleton.1 hb]; exact h2 a ha))
  simpa using this
structure Stb (lt : α → α → Bool) (l m : List α) : Prop where
 len : m.length = l.length
 srt : Srt lt m
 sam : Sam lt l m
theorem Stb.nil (lt : α → α → Bool) : Stb lt ([] : List α) [] := ⟨rfl, Srt.nil lt, Sam.refl _ _⟩
theorem Stb.one (lt : α → α → Bool) (a : α) : Stb lt [a] [a] := ⟨rfl, Srt.one lt a, Sam.refl _ _⟩
theorem Stb.mrg {lt : α → α → Bool} {l m l' m' w : List α} (h : Stb lt l m) (k : Stb lt l' m') (hw : Mrg lt m m' w) : Stb lt (l ++ l') w :=
 ⟨by have := h.len; have := k.len; have := hw.len; rw [List.length_append]; omega, hw.srt, (h.sam.app k.sam).trans hw.sam⟩
end
end Go.Proofs.YtidkhnfhkofmoaaGreatDoor
namespace Go.Proofs.YtidkhnfhkofmoaaGreatDoor
open Go.Sort
set_option linter.unusedVariables false
set_option linter.unusedSimpArgs false
section
variable {α : Type} [Inhabited α]
theorem get_mid {A B : List α} {x : α} {i : Nat} (h : i = A.length) : (A ++ x :: B).toArray[i]! = x := by
 subst h; simp
theorem swp_mid {A M B : List α} {x y : α} {i j : Nat} (hi : i = A.length) (hj : j = A.length + 1 + M.length) : swp (A ++ x :: (M ++ y :: B)).toArray i j = (A ++ y :: (M ++ x :: B)).toArray := by
 subst hi hj
 have e1 : (A ++ x :: (M ++ y :: B)).toArray[A.length]! = x := get_mid rfl
 have e2 : (A ++ x :: (M ++ y :: B)).toArray[A.length + 1 + M.length]! = y := by
  have := get_mid (A := A ++ x :: M) (x := y) (B := B) (i := A.length + 1 + M.length) (by simp; omega)
  rwa [List.append_assoc] at this
 unfold swp
 rw [e1, e2]
 simp only [List.setIfInBounds_toArray]
 congr 1
 rw [List.set_append_right _ _ (Nat.le_refl _), Nat.sub_self, List.set_cons_zero, List.set_append_right _ _ (by omega)]
 rw [show A.length + 1 + M.length - A.length = M.length + 1 by omega, List.set_cons_succ, List.set_append_right _ _ (Nat.le_refl _), Nat.sub_self, List.set_cons_zero]
theorem swp_mid' {A M B : List α} {x y : α} {i j : Nat} (hi : i = A.length + 1 + M.length) (hj : j = A.length) : swp (A ++ x :: (M ++ y :: B)).toArray i j = (A ++ y :: (M ++ x :: B)).toArray := by
 subst hi hj
 have e1 : (A ++ x :: (M ++ y :: B)).toArray[A.length]! = x := get_mid rfl
 have e2 : (A ++ x :: (M ++ y :: B)).toArray[A.length + 1 + M.length]! = y := by
  have := get_mid (A := A ++ x :: M) (x := y) (B := B) (i := A.length + 1 + M.length) (by simp; omega)
  rwa [List.append_assoc] at this
 unfold swp
 rw [e1, e2]
 simp only [List.setIfInBounds_toArray]
 congr 1
 rw [List.set_append_right _ _ (by omega), show A.length + 1 + M.length - A.length = M.length + 1 by omega, List.set_cons_succ, List.set_append_right _ _ (Nat.le_refl _), Nat.sub_self, List.set_cons_zero,
  List.set_append_right _ _ (Nat.le_refl _), Nat.sub_self, List.set_cons_zero]
theorem swp_range {A Y1 X2 M X1 Y2 B : List α} {x y : α} {i j : Nat} (hi : i = A.length + Y1.length) (hj : j = A.length + Y1.length + 1 + X2.length + M.length + X1.length) :
  swp (A ++ Y1 ++ x :: X2 ++ M ++ X1 ++ y :: Y2 ++ B).toArray i j = (A ++ (Y1 ++ [y]) ++ X2 ++ M ++ (X1 ++ [x]) ++ Y2 ++ B).toArray := by
 have := swp_mid (A := A ++ Y1) (x := x) (M := X2 ++ M ++ X1) (y := y) (B := Y2 ++ B) (i := i) (j := j) (by simp; omega) (by simp; omega)
 simpa using this
end
section
variable {α : Type} {lt : α → α → Bool}
theorem ins_mrg (hs : Swo lt) {P1 P2 : List α} {x : α} (hP : Srt lt (P1 ++ P2)) (h2 : ∀ a ∈ P2, lt x a = true) (h1 : P1 = [] ∨ ∃ Q z, P1 = Q ++ [z] ∧ lt x z = false) : Mrg lt (P1 ++ P2) [x] (P1 ++ x :: P2) := by
 refine Mrg.one_right hs hP ?_ h2
 rcases h1 with rfl | ⟨Q, z, rfl, hz⟩
 ·intro a ha; cases ha
 ·intro a ha
  exact hs.trans a z x (srt_last hs hP.left a ha) hz
inductive Bf (lt : α → α → Bool) (s : Nat) : List α → List α → Prop
 | nil : Bf lt s [] []
 | snoc {L D l d : List α} : Bf lt s L D → l.length = s → Stb lt l d → Bf lt s (L ++ l) (D ++ d)
inductive Bk (lt : α → α → Bool) (s : Nat) : List α → List α → Prop
 | last {l d : List α} : l.length ≤ s → Stb lt l d → Bk lt s l d
 | cons {l d L D : List α} : l.length = s → Stb lt l d → Bk lt s L D → Bk lt s (l ++ L) (d ++ D)
theorem Bf.len {s : Nat} {L D : List α} (h : Bf lt s L D) : D.length = L.length := by
 induction h with
 | nil => rfl
 | snoc _ _ hd ih => rw [List.length_append, List.length_append, ih, hd.len]
theorem Bk.len {s : Nat} {L D : List α} (h : Bk lt s L D) : D.length = L.length := by
 induction h with
 | last _ hd => exact hd.len
 | cons _ hd _ ih => rw [List.length_append, List.length_append, ih, hd.len]
theorem Bf.app {s : Nat} {L D : List α} (h : Bf lt s L D) : ∀ {L' D' : List α}, Bk lt s L' D' → Bk lt s (L ++ L') (D ++ D') := by
 induction h with
 | nil => intro L' D' k; exact k
 | snoc _ hl hd ih =>
  intro L' D' k
  rw [List.append_assoc, List.append_assoc]
  exact ih (Bk.cons hl hd k)
theorem Bk.one {s : Nat} {L D : List α} (h : Bk lt s L D) (hl : L.length ≤ s) : Stb lt L D := by
 cases h with
 | last _ hd => exact hd
 | cons h1 hd hk =>
  rename_i l d L D
  rw [List.length_append] at hl
  have h0 : L = [] := List.eq_nil_of_length_eq_zero (by omega)
  have h0' : D = [] := List.eq_nil_of_length_eq_zero (by rw [hk.len, h0]; rfl)
  subst h0 h0'
  rwa [List.append_nil, List.append_nil]
theorem Bk.first {s : Nat} {L D : List α} (h : Bk lt s L D) (hl : s < L.length) : ∃ l d L' D', L = l ++ L' ∧ D = d ++ D' ∧ l.length = s ∧ Stb lt l d ∧ Bk lt s L' D' := by
 cases h with
 | last h1 _ => omega
 | cons h1 hd hk => exact ⟨_, _, _, _, rfl, rfl, h1, hd, hk⟩
theorem Bk.first' {s : Nat} (hs : 0 < s) {L D : List α} (h : Bk lt s L D) (hl : s ≤ L.length) : ∃ l d L' D', L = l ++ L' ∧ D = d ++ D' ∧ l.length = s ∧ Stb lt l d ∧ Bk lt s L' D' := by
 rcases Nat.lt_or_ge s L.length with h1 | h1
 ·exact h.first h1
 ·exact ⟨L, D, [], [], by simp, by simp, by omega, h.one h1, Bk.last (Nat.zero_le _) (Stb.nil lt)⟩
theorem Bk.two {s : Nat} (hs : 0 < s) {L D : List α} (h : Bk lt s L D) (hl : 2 * s ≤ L.length) : ∃ l d l2 d2 L' D', L = l ++ l2 ++ L' ∧ D = d ++ d2 ++ D' ∧ l.length = s ∧ l2.length = s ∧ Stb lt l d ∧ Stb lt l2 d2 ∧ Bk lt s L' D' := by
 obtain ⟨l, d, L1, D1, rfl, rfl, h1, h2, h3⟩ := h.first (by omega)
 rw [List.length_append] at hl
 obtain ⟨l2, d2, L2, D2, rfl, rfl, h4, h5, h6⟩ := h3.first' hs (by omega)
 exact ⟨l, d, l2, d2, L2, D2, by rw [List.append_assoc], by rw [List.append_assoc], h1, h4, h2, h5, h6⟩
theorem sym_mrg (hs : Swo lt) {p1 u v q2 w1 w2 : List α} (hP : Srt lt (p1 ++ u)) (hQ : Srt lt (v ++ q2))
  (h1 : u = [] ∨ v = [] ∨ ∃ a u' b v', u = a :: u' ∧ v = v' ++ [b] ∧ lt b a = true)
  (h2 : p1 = [] ∨ q2 = [] ∨ ∃ a p' b q', p1 = p' ++ [a] ∧ q2 = b :: q' ∧ lt b a = false)
  (hw1 : Mrg lt p1 v w1) (hw2 : Mrg lt u q2 w2) : Mrg lt (p1 ++ u) (v ++ q2) (w1 ++ w2) := by
 have h := sym_split hs hP hQ h1 h2
 exact Mrg.split hs hw1 hw2 h.1 h.2
end
end Go.Proofs.YtidkhnfhkofmoaaGreatDoor
namespace Go.Proofs.YtidkhnfhkofmoaaGreatDoor
open Go.RowKit Go.Lib Go.Sort
set_option linter.unusedVariables false
set_option linter.unusedSimpArgs false
theorem mixedS : Tryz.prog.follows .mixedOrders = true := by kernel_rfl
theorem asd {p : Prop} (h : p) : Aside p := h
section
variable {α : Type}
theorem range_start {A X M Y B : List α} : A ++ X ++ M ++ Y ++ B = A ++ [] ++ X ++ M ++ [] ++ Y ++ B := by simp
theorem snoc_cons {X1 X2 : List α} {x : α} : X1 ++ x :: X2 = (X1 ++ [x]) ++ X2 := by simp
theorem take_of {X : List α} {n : Nat} (h : n ≤ X.length) : ∃ X1 X2, X = X1 ++ X2 ∧ X1.length = n := ⟨X.take n, X.drop n, (List.take_append_drop n X).symm, by rw [List.length_take]; omega⟩
variable [Inhabited α]
theorem range_step {A X1 X2 M Y1 Y2 B : List α} {dk : Array α} {i n a b : Nat} (hX : (X1 ++ X2).length = n) (hY : (Y1 ++ Y2).length = n) (h1 : X1.length = i) (h2 : Y1.length = i) (hd : dk = (A ++ Y1 ++ X2 ++ M ++ X1 ++ Y2 ++ B).toArray) (hi : i < n) (ha : A.length = a) (hb : b = a + n + M.length) :
  ∃ x X2' y Y2', X2 = x :: X2' ∧ Y2 = y :: Y2' ∧ swp dk (a + i) (b + i) = (A ++ (Y1 ++ [y]) ++ X2' ++ M ++ (X1 ++ [x]) ++ Y2' ++ B).toArray := by
 rw [List.length_append] at hX hY
 match X2, Y2, hX, hY, hd with
 | [], _, hX, _, _ => simp at hX; omega
 | _ :: _, [], _, hY, _ => simp at hY; omega
 | x :: X2, y :: Y2, hX, hY, hd =>
  refine ⟨x, X2, y, Y2, rfl, rfl, ?_⟩
  simp only [List.length_cons] at hX hY
  rw [hd]
  exact swp_range (by omega) (by omega)
set_option maxRecDepth 100000 in
set_option maxHeartbeats 4000000 in
theorem swapRange_fx (k : Nat) (aE : ∀ w, (isAgg 73).run Tryz.prog w = .ok true w) (zE : ∀ w, (Go.sizeOf 73).run Tryz.prog w = .ok k w) (enc : α → List Value) (blk off cap a b n N : Nat) (fv : Value) (A X M Y B : List α) (d0 : Array α) (w0 w : World) (R : RowK enc k w0 blk off d0) (hN : d0.size = N) (hs : (A ++ X ++ M ++ Y ++ B).length = N) (S : SWK enc k w0 blk off (A ++ X ++ M ++ Y ++ B).toArray w)
  (ha : a = A.length) (hX : X.length = n) (hY : Y.length = n) (hb : b = A.length + n + M.length) (hsz : N < 4611686018427387904) :
  Calls Tryz.prog 264 #[.slice (some ⟨blk, off, none⟩) N cap, .int .i64 a, .int .i64 b, .int .i64 n, fv] w
   fun e w' => e = .returned (.tuple #[]) ∧ SWK enc k w0 blk off (A ++ Y ++ M ++ X ++ B).toArray w' := by
 have mixed := mixedS
 have HAL : Hid (A.length = a) := ha.symm
 have HML : Hid (b = a + n + M.length) := by rw [ha]; exact hb
 have hlen : N = A.length + n + M.length + n + B.length := by rw [← hs]; simp only [List.length_append]; omega
 have hbN : b + n ≤ N := by omega
 have hab : a + n ≤ b := by omega
 have S0 : Aside (SWK enc k w0 blk off (A ++ X ++ M ++ Y ++ B).toArray w) := S
 have HS := Lib.hid hs
 have HXL := Lib.hid hX
 have HYL := Lib.hid hY
 obtain ⟨D', hD'⟩ : ∃ D', A ++ Y ++ M ++ X ++ B = D' := ⟨_, rfl⟩
 rw [hD']
 have HD' := Lib.hid hD'
 clear S ha hb hs hlen hX hY hD'
 go_enter Tryz.func264, Tryz.ntmps264
 go_wp2
 go_loopg [10] n (fun g i wr => ∃ (ki : Nat) (dk : Array α) (X1 X2 Y1 Y2 : List α), i = .int .i64 ki ∧ ki + g = n ∧ dk.size = N ∧ Aside (SWK enc k w0 blk off dk wr) ∧ Hid (X = X1 ++ X2 ∧ Y = Y1 ++ Y2 ∧ X1.length = ki ∧ Y1.length = ki ∧ dk = (A ++ Y1 ++ X2 ++ M ++ X1 ++ Y2 ++ B).toArray))
 case atStart => exact ⟨0, _, [], X, [], Y, rfl, by omega, by rw [List.size_toArray]; exact HS.out, S0, ⟨rfl, rfl, rfl, rfl, congrArg List.toArray range_start⟩⟩
 case round =>
  clear S0
  obtain ⟨i, dk, X1, X2, Y1, Y2, rfl, hin, hdk, S1, HI⟩ := hrel
  by_cases hlt : i < n
  ·have hlt' : (i : Int) < (n : Int) := by omega
   have HSW : Hid (∃ x X2' y Y2', X2 = x :: X2' ∧ Y2 = y :: Y2' ∧ swp dk (a + i) (b + i) = (A ++ (Y1 ++ [y]) ++ X2' ++ M ++ (X1 ++ [x]) ++ Y2' ++ B).toArray) := by
    obtain ⟨e1, e2, e3, e4, e5⟩ := HI.out
    exact range_step (by rw [← e1]; exact HXL.out) (by rw [← e2]; exact HYL.out) e3 e4 e5 hlt HAL.out HML.out
   have ea : ((a : Int) + (i : Int)).toNat = a + i := by omega
   have pa : (0 : Int) ≤ (a : Int) + (i : Int) := by omega
   have ba : (a : Int) + (i : Int) < (N : Int) := by omega
   have ra : IntKind.i64.wrap ((a : Int) + (i : Int)) = (a : Int) + (i : Int) := by rw [IntKind.wrap_i64]; omega
   have eb : ((b : Int) + (i : Int)).toNat = b + i := by omega
   have pb : (0 : Int) ≤ (b : Int) + (i : Int) := by omega
   have bb : (b : Int) + (i : Int) < (N : Int) := by omega
   have rb : IntKind.i64.wrap ((b : Int) + (i : Int)) = (b : Int) + (i : Int) := by rw [IntKind.wrap_i64]; omega
   have S2 : Aside (SWK enc k w0 blk off (swp dk (a + i) (b + i)) ((wr.drew.setCells blk (off + (a + i) * k) (enc dk[b + i]!)).setCells blk (off + (b + i) * k) (enc dk[a + i]!))) := S1.out.swapped R (a + i) (b + i) (by omega) (by omega)
   have l1 := S1.out.ld1 R (by omega) Tryz.prog (a + i) (by omega)
   have l2 := S1.out.ld1 R (by omega) Tryz.prog (b + i) (by omega)
   have s1 := S1.out.st1 R (by omega) Tryz.prog (a + i) (by omega) dk[b + i]!
   have s2 := S1.out.st2 R (by omega) Tryz.prog (a + i) (b + i) (by omega) (by omega) dk[b + i]! dk[a + i]!
   have n1 : (enc dk[a + i]!).length = k := R.hk _
   have n2 : (enc dk[b + i]!).length = k := R.hk _
   generalize enc dk[a + i]! = cI at S2 l1 s2 n1
   generalize enc dk[b + i]! = cJ at S2 l2 s1 s2 n2
   clear S1
   go_wp2_with fail
   go_big_region_o
   clear l1 l2 s1 s2
   generalize (wr.drew.setCells blk (off + (a + i) * k) cJ).setCells blk (off + (b + i) * k) cI = w2 at S2 ⊢
   go_wp2
   go_roundg (n - (i + 1))
   case measure => omega
   case rel =>
    obtain ⟨x, X2', y, Y2', rfl, rfl, hsw⟩ := HSW.out
    obtain ⟨e1, e2, e3, e4, e5⟩ := HI.out
    exact ⟨i + 1, _, X1 ++ [x], X2', Y1 ++ [y], Y2', by go_num, by omega, by rw [size_swp]; exact hdk, S2, ⟨e1.trans snoc_cons, e2.trans snoc_cons, by rw [List.length_append, e3]; rfl, by rw [List.length_append, e4]; rfl, hsw⟩⟩
  ·have hlt' : ¬ (i : Int) < (n : Int) := by omega
   have HE : Hid (dk = D'.toArray) := by
    obtain ⟨e1, e2, e3, e4, e5⟩ := HI.out
    have h1 : X2 = [] := List.eq_nil_of_length_eq_zero (by have := HXL.out; rw [e1, List.length_append] at this; omega)
    have h2 : Y2 = [] := List.eq_nil_of_length_eq_zero (by have := HYL.out; rw [e2, List.length_append] at this; omega)
    subst h1 h2
    unfold Hid
    rw [e5, ← HD'.out, e1, e2]; simp
   go_wp2
   go_end0
   refine ⟨rfl, ?_⟩
   rw [← HE.out]
   exact S1.out
set_option maxRecDepth 100000 in
set_option maxHeartbeats 4000000 in
theorem rotate_fx (k : Nat) (aE : ∀ w, (isAgg 73).run Tryz.prog w = .ok true w) (zE : ∀ w, (Go.sizeOf 73).run Tryz.prog w = .ok k w) (enc : α → List Value) (blk off cap a m b N : Nat) (fv : Value) (A U V B : List α) (d0 : Array α) (w0 w : World) (R : RowK enc k w0 blk off d0) (hN : d0.size = N) (hs : (A ++ U ++ V ++ B).length = N) (S : SWK enc k w0 blk off (A ++ U ++ V ++ B).toArray w)
  (ha : a = A.length) (hm : m = A.length + U.length) (hb : b = m + V.length) (hu : 0 < U.length) (hv : 0 < V.length) (hsz : N < 4611686018427387904) :
  Calls Tryz.prog 233 #[.slice (some ⟨blk, off, none⟩) N cap, .int .i64 a, .int .i64 m, .int .i64 b, fv] w
   fun e w' => e = .returned (.tuple #[]) ∧ SWK enc k w0 blk off (A ++ V ++ U ++ B).toArray w' := by
 have S0 : Aside (SWK enc k w0 blk off (A ++ U ++ V ++ B).toArray w) := S
 have hlen : N = A.length + U.length + V.length + B.length := by rw [← hs]; simp only [List.length_append]
 obtain ⟨u, hU⟩ : ∃ u, U.length = u := ⟨_, rfl⟩
 obtain ⟨v, hV⟩ : ∃ v, V.length = v := ⟨_, rfl⟩
 rw [hU] at hm hu hlen
 rw [hV] at hb hv hlen
 have ham : a + u = m := by omega
 have hbN : b ≤ N := by omega
 have H0 : Hid (A.length + u = m ∧ U.length = u ∧ V.length = v ∧ (A ++ U ++ V ++ B).length = N) := ⟨by omega, hU, hV, hs⟩
 obtain ⟨D', hD'⟩ : ∃ D', A ++ V ++ U ++ B = D' := ⟨_, rfl⟩
 rw [hD']
 have HD' := Lib.hid hD'
 have hmN : m ≤ N := by omega
 have ham2 : a ≤ m := by omega
 have hmb : m ≤ b := by omega
 have HB := Lib.hid hb
 have HA := Lib.hid ham
 clear S ha hs hlen hU hV hD' hm hb ham
 go_enter Tryz.func233, Tryz.ntmps233
 go_wp2
 go_loopg [10, 11] (u + v) (fun g vi vj wr => ∃ (i j : Nat) (A1 U1 V1 B1 : List α), vi = .int .i64 i ∧ vj = .int .i64 j ∧ 0 < i ∧ 0 < j ∧ i ≤ m ∧ m + j ≤ N ∧ i + j ≤ g ∧ Hid (A1.length + i = m ∧ U1.length = i ∧ V1.length = j ∧ (A1 ++ U1 ++ V1 ++ B1).length = N) ∧ Hid (D' = A1 ++ V1 ++ U1 ++ B1) ∧ Aside (SWK enc k w0 blk off (A1 ++ U1 ++ V1 ++ B1).toArray wr))
 case atStart => exact ⟨u, v, A, U, V, B, by rw [show ((m : Int) - (a : Int)) = (u : Int) by have := HA.out; omega], by rw [show ((b : Int) - (m : Int)) = (v : Int) by have := HB.out; omega], hu, hv, by have := HA.out; omega, by have := HB.out; omega, by omega, H0, HD'.out.symm, S0⟩
 case round =>
  clear S0 H0 HD'
  obtain ⟨i, j, A1, U1, V1, B1, rfl, rfl, hi, hj, him, hjN, hg, HL, HD, S1⟩ := hrel
  rcases Nat.lt_trichotomy i j with hij | hij | hij
  ·-- i < j
   have hne : ((i : Int) == (j : Int)) = false := by rw [beq_eq_false_iff_ne]; omega
   have hgt : ¬ (j : Int) < (i : Int) := by omega
   obtain ⟨V2, V3, hV23, hV2⟩ := take_of (X := V1) (n := j - i) (by have := HL.out.2.2.1; omega)
   have HV := Lib.hid hV23
   have HV2 := Lib.hid hV2
   have hc := swapRange_fx k aE zE enc blk off cap (m - i) (m + j - i) i N fv A1 U1 V2 V3 B1 d0 w0 wr R hN
    (by have := HL.out.2.2.2; rw [hV23] at this; simpa [Nat.add_assoc] using this) (by have := S1.out; rw [hV23] at this; simpa using this) (by have := HL.out.1; omega) HL.out.2.1
    (by have := HL.out.2.2.1; rw [hV23, List.length_append] at this; omega) (by have := HL.out.1; omega) hsz
   rw [show (((m - i : Nat)) : Int) = (m : Int) - (i : Int) by omega, show (((m + j - i : Nat)) : Int) = (m : Int) + (j : Int) - (i : Int) by omega] at hc
   clear S1 hV23 hV2
   go_wp2_with fail
   refine hc.mono ?_
   rintro e w2 ⟨rfl, S2⟩
   have S3 := asd S2
   clear S2 hc
   go_wp2
   go_roundg (i + (j - i))
   case measure => omega
   case rel =>
    refine ⟨i, j - i, A1, V3, V2, U1 ++ B1, by go_num, by rw [show ((j : Int) - (i : Int)) = ((j - i : Nat) : Int) by omega], hi, by omega, him, by omega, Nat.le_refl _, ⟨HL.out.1, ?_, HV2.out, ?_⟩, ?_, ?_⟩
    ·have := HL.out.2.2.1; rw [HV.out, List.length_append, HV2.out] at this; omega
    ·have := HL.out.2.2.2; rw [HV.out] at this; simp only [List.length_append] at this ⊢; omega
    ·unfold Hid; rw [HD.out, HV.out]; simp
    ·have := S3.out; simpa using asd this
  ·-- i = j
   subst hij
   have hne : ((i : Int) == (i : Int)) = true := by rw [beq_iff_eq]
   have hc := swapRange_fx k aE zE enc blk off cap (m - i) m i N fv A1 U1 [] V1 B1 d0 w0 wr R hN
    (by have := HL.out.2.2.2; simpa using this) (by have := S1.out; simpa using this) (by have := HL.out.1; omega) HL.out.2.1 HL.out.2.2.1 (by have := HL.out.1; simp; omega) hsz
   rw [show (((m - i : Nat)) : Int) = (m : Int) - (i : Int) by omega] at hc
   clear S1
   go_wp2_with fail
   refine hc.mono ?_
   rintro e w2 ⟨rfl, S2⟩
   have S3 : Aside (SWK enc k w0 blk off D'.toArray w2) := by rw [HD.out]; simpa using asd S2
   clear S2 hc
   go_wp2
   go_end0
   exact ⟨rfl, S3.out⟩
  ·-- i > j
   have hne : ((i : Int) == (j : Int)) = false := by rw [beq_eq_false_iff_ne]; omega
   have hgt : (j : Int) < (i : Int) := by omega
   obtain ⟨U2, U3, hU23, hU2⟩ := take_of (X := U1) (n := j) (by have := HL.out.2.1; omega)
   have HU := Lib.hid hU23
   have HU2 := Lib.hid hU2
   have hc := swapRange_fx k aE zE enc blk off cap (m - i) m j N fv A1 U2 U3 V1 B1 d0 w0 wr R hN
    (by have := HL.out.2.2.2; rw [hU23] at this; simpa [Nat.add_assoc] using this) (by have := S1.out; rw [hU23] at this; simpa using this) (by have := HL.out.1; omega) hU2 HL.out.2.2.1
    (by have h1 := HL.out.1; have := HL.out.2.1; rw [hU23, List.length_append] at this; omega) hsz
   rw [show (((m - i : Nat)) : Int) = (m : Int) - (i : Int) by omega] at hc
   clear S1 hU23 hU2
   go_wp2_with fail
   refine hc.mono ?_
   rintro e w2 ⟨rfl, S2⟩
   have S3 := asd S2
   clear S2 hc
   go_wp2
   go_roundg (i - j + j)
   case measure => omega
   case rel =>
    refine ⟨i - j, j, A1 ++ V1, U3, U2, B1, by rw [show ((i : Int) - (j : Int)) = ((i - j : Nat) : Int) by omega], by go_num, by omega, hj, by omega, hjN, by omega, ⟨?_, ?_, HU2.out, ?_⟩, ?_, ?_⟩
    ·have h1 := HL.out.1; have h2 := HL.out.2.2.1; rw [List.length_append]; omega
    ·have := HL.out.2.1; rw [HU.out, List.length_append, HU2.out] at this; omega
    ·have := HL.out.2.2.2; rw [HU.out] at this; simp only [List.length_append] at this ⊢; omega
    ·unfold Hid; rw [HD.out, HU.out]; simp
    ·have := S3.out; simpa using asd this
end
end Go.Proofs.YtidkhnfhkofmoaaGreatDoor
