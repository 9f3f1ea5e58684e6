/-
  Plain laws: what the search finds is closed under hops, and it is the least such list that has its beginning.
-/
import Derived.Test.YtgnnblkpjankgaaGreatDoorReach
namespace Go.Proofs.YtgnnblkpjankgaaGreatDoor
set_option linter.unusedVariables false
set_option linter.unusedSimpArgs false

theorem bfs_sub {nx : Rf → List Rf} {C : Rf → Prop} (hC : ∀ x, C x → ∀ y ∈ nx x, C y) : ∀ (f : Nat) (q : List Rf) (i : Nat), (∀ x ∈ q, C x) → ∀ x ∈ bfs nx f q i, C x
  | 0, q, i, h => by simpa [bfs] using h
  | f + 1, q, i, h => by
    by_cases hi : i < q.length
    · rw [bfs_step hi]
      refine bfs_sub hC f _ _ ?_
      intro x hx
      rw [addAll_mem] at hx
      rcases hx with hx | hx
      · exact h x hx
      · exact hC _ (h _ (List.getElem_mem hi)) x hx
    · rw [bfs_end (by omega)]; exact h
theorem bfs_ext {nx : Rf → List Rf} : ∀ (f : Nat) (q : List Rf) (i : Nat), ∀ x ∈ q, x ∈ bfs nx f q i
  | 0, q, i, x, h => by simpa [bfs] using h
  | f + 1, q, i, x, h => by
    by_cases hi : i < q.length
    · rw [bfs_step hi]
      exact bfs_ext f _ _ x ((addAll_mem _ _ _).2 (.inl h))
    · rw [bfs_end (by omega)]; exact h
theorem bfs_nodup {nx : Rf → List Rf} : ∀ (f : Nat) (q : List Rf) (i : Nat), q.Nodup → (bfs nx f q i).Nodup
  | 0, q, i, h => by simpa [bfs] using h
  | f + 1, q, i, h => by
    by_cases hi : i < q.length
    · rw [bfs_step hi]
      exact bfs_nodup f _ _ (addAll_nodup _ _ h)
    · rw [bfs_end (by omega)]; exact h
theorem bfs_closed {nx : Rf → List Rf} {r : Rf} {M : List Rf} (hM : ∀ x, ∀ y ∈ nx x, y ∈ M) : ∀ (f : Nat) (q : List Rf) (i : Nat), f + i = M.length + 2 → q.Nodup → (∀ x ∈ q, x ∈ r :: M) → i ≤ q.length → (∀ (j : Nat) (hj : j < q.length), j < i → ∀ y ∈ nx q[j], y ∈ q) →
    ∀ x ∈ bfs nx f q i, ∀ y ∈ nx x, y ∈ bfs nx f q i
  | 0, q, i, hf, hn, hq, hi, hc => by
    exfalso
    have := nodup_le q (r :: M) hn hq
    simp only [List.length_cons] at this
    omega
  | f + 1, q, i, hf, hn, hq, hi, hc => by
    by_cases h : i < q.length
    · rw [bfs_step h]
      obtain ⟨t, ht⟩ := addAll_ext (nx q[i]) q
      refine bfs_closed (r := r) hM f _ _ (by omega) (addAll_nodup _ _ hn) ?_ (by rw [ht, List.length_append]; omega) ?_
      · intro x hx
        rw [addAll_mem] at hx
        rcases hx with hx | hx
        · exact hq x hx
        · exact List.mem_cons_of_mem _ (hM _ x hx)
      · intro j hj hji y hy
        rw [addAll_mem]
        have hjq : j < q.length := by omega
        have e : (addAll q (nx q[i]))[j] = q[j] := by
          have : ∀ (l : List Rf) (hl : l = q ++ t) (hj' : j < l.length), l[j] = q[j] := by
            intro l hl hj'
            subst hl
            exact List.getElem_append_left hjq
          exact this _ ht hj
        rw [e] at hy
        rcases Nat.lt_or_ge j i with h2 | h2
        · exact .inl (hc j hjq h2 y hy)
        · have : j = i := by omega
          subst this
          exact .inr hy
    · rw [bfs_end (by omega)]
      intro x hx y hy
      obtain ⟨j, hj, rfl⟩ := List.mem_iff_getElem.1 hx
      exact hc j hj (by omega) y hy
theorem found_self (L : List Aw) (r : Rf) : r ∈ found L r := bfs_ext _ _ _ r (by simp)
theorem found_nodup (L : List Aw) (r : Rf) : (found L r).Nodup := bfs_nodup _ _ _ (by simp)
theorem found_closed (L : List Aw) (r : Rf) : ∀ x ∈ found L r, ∀ y ∈ nxt L x, y ∈ found L r :=
  bfs_closed (r := r) (fun x => nxt_mem L x) _ _ _ (by omega) (by simp) (by simp) (Nat.zero_le _) (fun j _ h => absurd h (by omega))
theorem found_sub (L : List Aw) (r x : Rf) (hx : x ∈ found L r) : ∀ y ∈ found L x, y ∈ found L r :=
  bfs_sub (C := fun z => z ∈ found L r) (found_closed L r) _ _ _ (by intro z hz; rw [List.mem_singleton] at hz; exact hz ▸ hx)
theorem reach_self (L : List Aw) (r : Rf) : r ∈ reachL L r := srt_mem.2 (found_self L r)
theorem reach_nodup (L : List Aw) (r : Rf) : (reachL L r).Nodup := srt_nodup (found_nodup L r)
theorem reach_closed (L : List Aw) (r : Rf) : ∀ x ∈ reachL L r, ∀ h ∈ hopsL L x, h.dst ∈ reachL L r := fun x hx h hh =>
  srt_mem.2 (found_closed L r x (srt_mem.1 hx) h.dst (List.mem_map.2 ⟨h, hh, rfl⟩))
theorem reach_sub (L : List Aw) (r x : Rf) (hx : x ∈ reachL L r) : ∀ y ∈ reachL L x, y ∈ reachL L r := fun y hy => srt_mem.2 (found_sub L r x (srt_mem.1 hx) y (srt_mem.1 hy))
/-- strictly ascending -/
theorem reach_asc (L : List Aw) (r : Rf) {i : Nat} (h : i + 1 < (reachL L r).length) : (reachL L r)[i] < (reachL L r)[i + 1] := by
  have hs := srt_sorted (found L r)
  have hn := reach_nodup L r
  have h1 : leB (reachL L r)[i] (reachL L r)[i + 1] = true := List.pairwise_iff_getElem.1 hs i (i + 1) (by show i < (reachL L r).length; omega) h (by omega)
  have h2 : (reachL L r)[i] ≠ (reachL L r)[i + 1] := List.pairwise_iff_getElem.1 hn i (i + 1) (by omega) h (by omega)
  unfold leB at h1
  rw [decide_eq_true_iff] at h1
  by_cases h3 : (reachL L r)[i] < (reachL L r)[i + 1]
  · exact h3
  · exact absurd (List.le_antisymm h1 (List.not_lt.1 h3)) h2
end Go.Proofs.YtgnnblkpjankgaaGreatDoor
