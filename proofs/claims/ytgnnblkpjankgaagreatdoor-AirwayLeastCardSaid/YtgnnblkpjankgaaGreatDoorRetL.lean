/-
  Plain laws: the points on the way between two points of an airway, and on the way back.
-/
import Derived.Test.YtgnnblkpjankgaaGreatDoorAwExp
namespace Go.Proofs.YtgnnblkpjankgaaGreatDoor
set_option linter.unusedVariables false
set_option linter.unusedSimpArgs false

def ptF (l : List Pt) (k : Nat) : Pt := ⟨(l.getD (k + 1) noPt).ref, (l.getD k noPt).lo, (l.getD k noPt).hi, 0⟩
def ptB (l : List Pt) (k : Nat) : Pt := ⟨(l.getD k noPt).ref, (l.getD k noPt).lo, (l.getD k noPt).hi, 0⟩
def fwdL (l : List Pt) (i n : Nat) : List Pt := (List.range n).map fun t => ptF l (i + t)
def backL (l : List Pt) (i n : Nat) : List Pt := (List.range n).map fun t => ptB l (i - 1 - t)
theorem fwdL_succ (l : List Pt) (i n : Nat) : fwdL l i (n + 1) = ptF l i :: fwdL l (i + 1) n := by
  unfold fwdL
  rw [List.range_succ_eq_map, List.map_cons, List.map_map]
  refine List.cons_eq_cons.2 ⟨rfl, List.map_congr_left fun t _ => ?_⟩
  show ptF l (i + (t + 1)) = ptF l (i + 1 + t)
  rw [show i + (t + 1) = i + 1 + t by omega]
theorem backL_succ (l : List Pt) (i n : Nat) : backL l i (n + 1) = ptB l (i - 1) :: backL l (i - 1) n := by
  unfold backL
  rw [List.range_succ_eq_map, List.map_cons, List.map_map]
  refine List.cons_eq_cons.2 ⟨rfl, List.map_congr_left fun t _ => ?_⟩
  show ptB l (i - 1 - (t + 1)) = ptB l (i - 1 - 1 - t)
  rw [show i - 1 - (t + 1) = i - 1 - 1 - t by omega]
theorem expGo_fwd (l : List Pt) (j : Nat) : ∀ (f i : Nat) (out r : List Pt), i ≤ j → f = j - i → expGo l j f i out = some r → r = out ++ fwdL l i f
  | 0, i, out, r, _, _, h => by
    unfold expGo at h
    have h2 : out = r := by simpa using h
    rw [← h2]; simp [fwdL]
  | f + 1, i, out, r, hij, hf, h => by
    unfold expGo at h
    rw [if_pos (show i < j by omega)] at h
    split at h
    · cases h
    · rw [expGo_fwd l j f (i + 1) _ r (by omega) (by omega) h, fwdL_succ, List.append_assoc]; rfl
theorem expGo_back (l : List Pt) (j : Nat) : ∀ (f i : Nat) (out r : List Pt), j ≤ i → f = i - j → expGo l j f i out = some r → r = out ++ backL l i f
  | 0, i, out, r, _, _, h => by
    unfold expGo at h
    have h2 : out = r := by simpa using h
    rw [← h2]; simp [backL]
  | f + 1, i, out, r, hij, hf, h => by
    unfold expGo at h
    rw [if_neg (show ¬ i < j by omega)] at h
    split at h
    · cases h
    · rw [expGo_back l j f (i - 1) _ r (by omega) (by omega) h, backL_succ, List.append_assoc]; rfl
theorem fwdL_at {l : List Pt} {i n t : Nat} (h : t < n) : (fwdL l i n)[t]? = some (ptF l (i + t)) := by
  unfold fwdL; rw [List.getElem?_map, List.getElem?_range h]; rfl
theorem backL_at {l : List Pt} {i n t : Nat} (h : t < n) : (backL l i n)[t]? = some (ptB l (i - 1 - t)) := by
  unfold backL; rw [List.getElem?_map, List.getElem?_range h]; rfl
theorem fwdL_len (l : List Pt) (i n : Nat) : (fwdL l i n).length = n := by unfold fwdL; simp
theorem backL_len (l : List Pt) (i n : Nat) : (backL l i n).length = n := by unfold backL; simp
theorem idxFrom_ref (r : List UInt8) : ∀ (l : List Pt) (n : Nat) (k : Nat), idxFrom r n l = ((n + k : Nat) : Int) → (l.getD k noPt).ref = r
  | [], n, k, h => by unfold idxFrom at h; omega
  | p :: l, n, k, h => by
    unfold idxFrom at h
    split at h
    · next hp =>
      have : k = 0 := by omega
      subst this
      exact hp
    · have h3 := idxFrom_ge r l (n + 1)
      have hk : 1 ≤ k := by omega
      obtain ⟨k, rfl⟩ : ∃ k', k = k' + 1 := ⟨k - 1, by omega⟩
      have := idxFrom_ref r l (n + 1) k (by rw [h]; omega)
      exact this
theorem idxOf_ref {l : List Pt} {r : List UInt8} {k : Nat} (h : idxOf l r = (k : Int)) : (l.getD k noPt).ref = r := idxFrom_ref r l 0 k (by rw [Nat.zero_add]; exact h)
/-- what the way and the way back have to do with one another -/
def BackOk (f t : List UInt8) (a b : List Pt) : Prop :=
  a.length = b.length ∧ 0 < a.length ∧ (a.getD (a.length - 1) noPt).ref = t ∧ (b.getD (a.length - 1) noPt).ref = f ∧
  ∀ i, i < a.length → (b.getD i noPt).lo = (a.getD (a.length - 1 - i) noPt).lo ∧ (b.getD i noPt).hi = (a.getD (a.length - 1 - i) noPt).hi ∧ (a.getD i noPt).dir = 0 ∧ (b.getD i noPt).dir = 0 ∧
    (i + 1 < a.length → (b.getD i noPt).ref = (a.getD (a.length - 2 - i) noPt).ref)
theorem getD_of {l : List Pt} {k : Nat} {p : Pt} (h : l[k]? = some p) : l.getD k noPt = p := by rw [List.getD_eq_getElem?_getD, h]; rfl
theorem back_fwd (l : List Pt) (x y : Nat) (f t : List UInt8) (h : x < y) (hx : (l.getD x noPt).ref = f) (hy : (l.getD y noPt).ref = t) : BackOk f t (fwdL l x (y - x)) (backL l y (y - x)) := by
  unfold BackOk
  rw [fwdL_len, backL_len]
  refine ⟨rfl, by omega, ?_, ?_, fun i hi => ⟨?_, ?_, ?_, ?_, fun hi2 => ?_⟩⟩
  · rw [getD_of (fwdL_at (by omega))]; unfold ptF; rw [show x + (y - x - 1) + 1 = y by omega]; exact hy
  · rw [getD_of (backL_at (by omega))]; unfold ptB; rw [show y - 1 - (y - x - 1) = x by omega]; exact hx
  · rw [getD_of (backL_at (by omega)), getD_of (fwdL_at (by omega))]; unfold ptB ptF; rw [show y - 1 - i = x + (y - x - 1 - i) by omega]
  · rw [getD_of (backL_at (by omega)), getD_of (fwdL_at (by omega))]; unfold ptB ptF; rw [show y - 1 - i = x + (y - x - 1 - i) by omega]
  · rw [getD_of (fwdL_at (by omega))]; rfl
  · rw [getD_of (backL_at (by omega))]; rfl
  · rw [getD_of (backL_at (by omega)), getD_of (fwdL_at (by omega))]; unfold ptB ptF; rw [show y - 1 - i = x + (y - x - 2 - i) + 1 by omega]
theorem back_back (l : List Pt) (x y : Nat) (f t : List UInt8) (h : y < x) (hx : (l.getD x noPt).ref = f) (hy : (l.getD y noPt).ref = t) : BackOk f t (backL l x (x - y)) (fwdL l y (x - y)) := by
  unfold BackOk
  rw [fwdL_len, backL_len]
  refine ⟨rfl, by omega, ?_, ?_, fun i hi => ⟨?_, ?_, ?_, ?_, fun hi2 => ?_⟩⟩
  · rw [getD_of (backL_at (by omega))]; unfold ptB; rw [show x - 1 - (x - y - 1) = y by omega]; exact hy
  · rw [getD_of (fwdL_at (by omega))]; unfold ptF; rw [show y + (x - y - 1) + 1 = x by omega]; exact hx
  · rw [getD_of (backL_at (by omega)), getD_of (fwdL_at (by omega))]; unfold ptB ptF; rw [show x - 1 - (x - y - 1 - i) = y + i by omega]
  · rw [getD_of (backL_at (by omega)), getD_of (fwdL_at (by omega))]; unfold ptB ptF; rw [show x - 1 - (x - y - 1 - i) = y + i by omega]
  · rw [getD_of (backL_at (by omega))]; rfl
  · rw [getD_of (fwdL_at (by omega))]; rfl
  · rw [getD_of (backL_at (by omega)), getD_of (fwdL_at (by omega))]; unfold ptB ptF; rw [show x - 1 - (x - y - 2 - i) = y + i + 1 by omega]
/-- an answer with an error has no points -/
theorem expOut_err {nm : List UInt8} {l : List Pt} {f t : List UInt8} (h : (expOut nm l f t).2 ≠ 0) : (expOut nm l f t).1 = [] := by
  unfold expOut at h ⊢
  split at h
  · split at h
    · next h1 h2 => rw [if_pos h1, if_pos h2]
    · split at h
      · next h1 h2 h3 => rw [if_pos h1, if_neg h2, if_pos h3]
      · next h1 h2 h3 =>
        rw [if_pos h1, if_neg h2, if_neg h3]
        unfold expR at h ⊢
        split at h
        · exact absurd rfl h
        · rfl
  · next h1 => rw [if_neg h1]
theorem expOut_ok {nm : List UInt8} {l : List Pt} {f t : List UInt8} (h : (expOut nm l f t).2 = 0) : ∃ x y : Nat, x ≠ y ∧ idxOf l f = (x : Int) ∧ idxOf l t = (y : Int) ∧ (expOut nm l f t).1 = if x < y then fwdL l x (y - x) else backL l x (x - y) := by
  unfold expOut at h ⊢
  split at h
  · next h1 =>
    split at h
    · cases h
    · next h2 =>
      split at h
      · cases h
      · next h3 =>
        rw [if_pos h1, if_neg h2, if_neg h3]
        obtain ⟨x, hx⟩ : ∃ x : Nat, idxOf l f = x := ⟨(idxOf l f).toNat, by omega⟩
        obtain ⟨y, hy⟩ : ∃ y : Nat, idxOf l t = y := ⟨(idxOf l t).toNat, by omega⟩
        rw [hx, hy] at h h3 ⊢
        have hne : x ≠ y := by omega
        refine ⟨x, y, hne, rfl, rfl, ?_⟩
        rw [Int.toNat_natCast, Int.toNat_natCast] at h ⊢
        unfold expR at h ⊢
        split at h
        · next o ho =>
          show o = _
          unfold expRes at ho
          by_cases hlt : x < y
          · rw [if_pos hlt]
            rw [show x - y + (y - x) = y - x by omega] at ho
            exact expGo_fwd l y _ x [] o (by omega) rfl ho
          · rw [if_neg hlt]
            rw [show x - y + (y - x) = x - y by omega] at ho
            exact expGo_back l y _ x [] o (by omega) rfl ho
        · cases h
  · next h1 => exact absurd h (by simpa using h1)
theorem expOut_back {nm : List UInt8} {l : List Pt} {f t : List UInt8} (h : (expOut nm l f t).2 = 0) (h' : (expOut nm l t f).2 = 0) : BackOk f t (expOut nm l f t).1 (expOut nm l t f).1 := by
  obtain ⟨x, y, hne, hx, hy, e⟩ := expOut_ok h
  obtain ⟨y', x', _, hy', hx', e'⟩ := expOut_ok h'
  have e1 : x' = x := by omega
  have e2 : y' = y := by omega
  subst e1
  subst e2
  rw [e, e']
  rcases Nat.lt_or_ge x' y' with hlt | hge
  · rw [if_pos hlt, if_neg (by omega)]
    exact back_fwd l x' y' f t hlt (idxOf_ref hx) (idxOf_ref hy)
  · rw [if_neg (by omega), if_pos (by omega)]
    exact back_back l x' y' f t (by omega) (idxOf_ref hx) (idxOf_ref hy)
end Go.Proofs.YtgnnblkpjankgaaGreatDoor
