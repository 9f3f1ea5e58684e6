/-
  Plain laws: the references that can be reached, in the order in which they are found, and ascending.
-/
import Derived.Test.YtgnnblkpjankgaaGreatDoorAwNext
namespace Go.Proofs.YtgnnblkpjankgaaGreatDoor
set_option linter.unusedVariables false
set_option linter.unusedSimpArgs false

abbrev Rf := List UInt8
/-- the references of a list that are not yet there go behind -/
def addAll (q : List Rf) : List Rf → List Rf
  | [] => q
  | d :: r => if d ∈ q then addAll q r else addAll (q ++ [d]) r
def bfs (nx : Rf → List Rf) : Nat → List Rf → Nat → List Rf
  | 0, q, _ => q
  | f + 1, q, i => match q[i]? with
    | none => q
    | some s => bfs nx f (addAll q (nx s)) (i + 1)
theorem addAll_nodup : ∀ (r : List Rf) (q : List Rf), q.Nodup → (addAll q r).Nodup
  | [], q, h => h
  | d :: r, q, h => by
    unfold addAll
    split
    · exact addAll_nodup r q h
    · next hd =>
      refine addAll_nodup r _ ?_
      rw [List.nodup_append]
      refine ⟨h, by simp, ?_⟩
      intro a ha b hb e
      rw [List.mem_singleton] at hb
      exact hd (by rw [← hb, ← e]; exact ha)
theorem addAll_mem : ∀ (r : List Rf) (q : List Rf) (x : Rf), x ∈ addAll q r ↔ x ∈ q ∨ x ∈ r
  | [], q, x => by simp [addAll]
  | d :: r, q, x => by
    unfold addAll
    split
    · next hd =>
      rw [addAll_mem r q x, List.mem_cons]
      constructor
      · rintro (h | h)
        · exact .inl h
        · exact .inr (.inr h)
      · rintro (h | h | h)
        · exact .inl h
        · exact .inl (h ▸ hd)
        · exact .inr h
    · rw [addAll_mem r _ x, List.mem_append, List.mem_singleton, List.mem_cons, or_assoc]
theorem addAll_ext : ∀ (r : List Rf) (q : List Rf), ∃ t, addAll q r = q ++ t
  | [], q => ⟨[], by simp [addAll]⟩
  | d :: r, q => by
    unfold addAll
    split
    · exact addAll_ext r q
    · obtain ⟨t, ht⟩ := addAll_ext r (q ++ [d])
      exact ⟨d :: t, by rw [ht, List.append_assoc]; rfl⟩
/-- a list without repeats is no longer than one that has its members -/
theorem nodup_le {α : Type} [DecidableEq α] : ∀ (l m : List α), l.Nodup → (∀ x ∈ l, x ∈ m) → l.length ≤ m.length
  | [], m, _, _ => Nat.zero_le _
  | a :: l, m, h, hm => by
    have ha := hm a (by simp)
    rw [List.nodup_cons] at h
    have h2 := nodup_le l (m.erase a) h.2 (fun x hx => by
      have hne : x ≠ a := fun e => h.1 (e ▸ hx)
      rw [List.mem_erase_of_ne hne]
      exact hm x (List.mem_cons_of_mem _ hx))
    rw [List.length_erase_of_mem ha] at h2
    have h3 : 0 < m.length := List.length_pos_of_mem ha
    simp only [List.length_cons]
    omega
/-- all references of points -/
def allRefs (L : List Aw) : List Rf := L.flatMap fun a => a.pts.map (·.ref)
theorem hops_dst (L : List Aw) (s : Rf) : ∀ h ∈ hopsL L s, h.dst ∈ allRefs L := by
  intro h hh
  unfold hopsL at hh
  rw [List.mem_flatMap] at hh
  obtain ⟨a, ha, hh⟩ := hh
  unfold allRefs
  rw [List.mem_flatMap]
  refine ⟨a, ha, ?_⟩
  rcases idxOf_bd a.pts s with hi | ⟨i, hi, hil⟩
  · unfold hopsOf at hh; rw [if_pos hi] at hh; cases hh
  · unfold hopsOf at hh
    rw [if_neg (by omega), hi, Int.toNat_natCast, List.mem_append] at hh
    rw [List.mem_map]
    rcases hh with hh | hh
    · rcases hopF_ways hil with ⟨h1, _, e⟩ | ⟨h1, _, e⟩ | ⟨_, e⟩
      · rw [e, List.mem_singleton] at hh; subst hh; exact ⟨_, List.getElem_mem h1, rfl⟩
      · rw [e] at hh; cases hh
      · rw [e] at hh; cases hh
    · rcases hopB_ways hil with ⟨h1, _, _, e⟩ | ⟨h1, _, _, e⟩ | ⟨_, e⟩
      · rw [e, List.mem_singleton] at hh; subst hh; exact ⟨_, List.getElem_mem h1, rfl⟩
      · rw [e] at hh; cases hh
      · rw [e] at hh; cases hh
def nxt (L : List Aw) (s : Rf) : List Rf := (hopsL L s).map (·.dst)
theorem nxt_mem (L : List Aw) (s : Rf) : ∀ x ∈ nxt L s, x ∈ allRefs L := by
  intro x hx
  unfold nxt at hx
  rw [List.mem_map] at hx
  obtain ⟨h, hh, rfl⟩ := hx
  exact hops_dst L s h hh

/-! ### ascending -/
def leB (x y : Rf) : Bool := decide (x ≤ y)
def srt (q : List Rf) : List Rf := q.mergeSort leB
theorem leB_trans (a b c : Rf) (h : leB a b = true) (k : leB b c = true) : leB a c = true := by
  unfold leB at *
  rw [decide_eq_true_iff] at *
  exact List.le_trans h k
theorem leB_total (a b : Rf) : (leB a b || leB b a) = true := by
  unfold leB
  rcases List.le_total a b with h | h
  · rw [decide_eq_true h]; rfl
  · rw [decide_eq_true h, Bool.or_true]
theorem leB_anti {a b : Rf} (h : leB a b = true) (k : leB b a = true) : a = b := by
  unfold leB at *
  rw [decide_eq_true_iff] at *
  exact List.le_antisymm h k
theorem srt_sorted (q : List Rf) : (srt q).Pairwise (fun a b => leB a b = true) := List.pairwise_mergeSort leB_trans leB_total q
theorem srt_perm (q : List Rf) : (srt q).Perm q := List.mergeSort_perm q leB
theorem srt_mem {q : List Rf} {x : Rf} : x ∈ srt q ↔ x ∈ q := (srt_perm q).mem_iff
/-- into an ascending list -/
def insL (d : Rf) : List Rf → List Rf
  | [] => [d]
  | s :: l => if leB d s then d :: s :: l else s :: insL d l
theorem insL_perm (d : Rf) : ∀ l, (insL d l).Perm (d :: l)
  | [] => List.Perm.refl _
  | s :: l => by
    unfold insL
    split
    · exact List.Perm.refl _
    · exact ((insL_perm d l).cons s).trans (List.Perm.swap _ _ _)
theorem insL_sorted (d : Rf) : ∀ l, l.Pairwise (fun a b => leB a b = true) → (insL d l).Pairwise (fun a b => leB a b = true)
  | [], _ => by simp [insL]
  | s :: l, h => by
    rw [List.pairwise_cons] at h
    unfold insL
    split
    · next hd =>
      rw [List.pairwise_cons, List.pairwise_cons]
      refine ⟨?_, h⟩
      intro x hx
      rcases List.mem_cons.1 hx with rfl | hx
      · exact hd
      · exact leB_trans _ _ _ hd (h.1 x hx)
    · next hd =>
      rw [List.pairwise_cons]
      refine ⟨?_, insL_sorted d l h.2⟩
      intro x hx
      rw [(insL_perm d l).mem_iff] at hx
      rcases List.mem_cons.1 hx with rfl | hx
      · have := leB_total x s
        rw [Bool.or_eq_true] at this
        rcases this with h1 | h1
        · exact absurd h1 hd
        · exact h1
      · exact h.1 x hx
theorem srt_snoc (q : List Rf) (d : Rf) : srt (q ++ [d]) = insL d (srt q) := by
  refine List.Perm.eq_of_pairwise (le := fun a b => leB a b = true) (fun a b _ _ h k => leB_anti h k) (srt_sorted _) (insL_sorted d _ (srt_sorted q)) ?_
  refine (srt_perm _).trans ?_
  refine (List.perm_append_comm).trans ?_
  exact ((srt_perm q).symm.cons d).trans (insL_perm d _).symm
theorem srt_nodup {q : List Rf} (h : q.Nodup) : (srt q).Nodup := (srt_perm q).nodup_iff.2 h

/-! ### step by step -/
theorem addAll_append : ∀ (a : List Rf) (q b : List Rf), addAll q (a ++ b) = addAll (addAll q a) b
  | [], q, b => rfl
  | d :: a, q, b => by
    have e : ∀ (q l : List Rf) (d : Rf), addAll q (d :: l) = if d ∈ q then addAll q l else addAll (q ++ [d]) l := fun _ _ _ => rfl
    rw [List.cons_append, e, e]
    split
    · exact addAll_append a q b
    · exact addAll_append a _ b
theorem addAll_snoc (q a : List Rf) (d : Rf) : addAll q (a ++ [d]) = if d ∈ addAll q a then addAll q a else addAll q a ++ [d] := by
  rw [addAll_append]; rfl
theorem bfs_step {nx : Rf → List Rf} {f i : Nat} {q : List Rf} (h : i < q.length) : bfs nx (f + 1) q i = bfs nx f (addAll q (nx q[i])) (i + 1) := by
  rw [bfs, List.getElem?_eq_getElem h]
theorem bfs_end {nx : Rf → List Rf} {f i : Nat} {q : List Rf} (h : q.length ≤ i) : bfs nx f q i = q := by
  cases f with
  | zero => rfl
  | succ f => rw [bfs, List.getElem?_eq_none h]
/-- the references that can be reached from r, in the order in which they are found -/
def found (L : List Aw) (r : Rf) : List Rf := bfs (nxt L) ((allRefs L).length + 2) [r] 0
def reachL (L : List Aw) (r : Rf) : List Rf := srt (found L r)
end Go.Proofs.YtgnnblkpjankgaaGreatDoor
