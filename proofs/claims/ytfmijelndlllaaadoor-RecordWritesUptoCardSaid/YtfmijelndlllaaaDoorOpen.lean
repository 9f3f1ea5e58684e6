/-
  Arguments that are slices of structs, opened to cells: the fields and the records that came in, and their bulk. (open_slice_fields is the library's page's own block, as it says: to copy.)
-/
import Derived.Test.YtfmijelndlllaaaDoorWriteLaw
import Derived.Test.YtfmijelndlllaaaDoorRow
import Derived.Deep.Slices
import Derived.Deep.Fields
import Derived.ChangeSame
import Derived.Carry
namespace Go.Proofs.YtfmijelndlllaaaDoor
open Go.ChangeShapes Go.WideShapes Go.Deep Go.RowKit
set_option linter.unusedVariables false
set_option linter.unusedSimpArgs false

section
variable {H : Type} {enc : TypeId × Value → H} {P : Program} {w : World} {base : Nat} {spare : Nat → Bool} {held : Bool}
theorem open_slice_fields {t e : TypeId} {fs : Array Field} {fuel : Nat} {cs : List Value} {x : DataW H × List MemPlace} (ht : P.underlying t = some (.slice e)) (he : P.underlying e = some (.struct fs))
    (hone : oneCellFields P fs = true) (hC : P.cellsOf e = fs.size) (h : DataW.trod enc P w base spare held fuel t cs = some x) :
    (cs = [.slice none 0 0] ∧ x = (.nil, [])) ∨
    ∃ (a : Addr) (len cap m : Nat) (D : Nat → DataW H) (Pl : Nat → List MemPlace), cs = [.slice (some a) len cap] ∧ base ≤ a.block ∧ len ≤ cap ∧ cap ≤ maxLen ∧ m = (if spare a.block then cap else len) ∧
      x = (.slice ((List.range len).map D) ((List.range (m - len)).map fun j => D (len + j)), MemPlace.row a (m * fs.size) ++ (List.range m).flatMap Pl) ∧
      ∀ i, i < m → ∃ (ys : List (DataW H × List MemPlace)) (n : Nat), D i = .agg (ys.map (·.1)) ∧ Pl i = ys.flatMap (·.2) ∧ ys.length = fs.size ∧
        ∀ (j : Nat) (f : Field), fs[j]? = some f → ∃ (v : Value) (y : DataW H × List MemPlace), w.cell? (a.add (i * fs.size + j)) = some v ∧ ys[j]? = some y ∧ DataW.trod enc P w base spare held n f.type [v] = some y := by
  rcases open_slice ht h with h0 | ⟨a, len, cap, m, n, D, Pl, hcs, hb, hl, hm, hmm, hx, hi⟩
  · exact .inl h0
  · refine .inr ⟨a, len, cap, m, D, Pl, hcs, hb, hl, hm, hmm, by rw [hC] at hx; exact hx, fun i him => ?_⟩
    obtain ⟨cs', hc, ht'⟩ := hi i him
    rw [hC] at hc
    obtain ⟨ys, n', hn', hy, hlen, hyl, hf⟩ := DataW.trod_struct he ht'
    obtain ⟨_, hcl, hat⟩ := World.cells?_some hc
    simp only [Prod.mk.injEq] at hy
    refine ⟨ys, n', hy.1, hy.2, hyl, fun j f hj => ?_⟩
    obtain ⟨ho, hk⟩ := hone_of hone j f hj
    have hjl : j < fs.size := (Array.getElem?_eq_some_iff.1 hj).1
    have hcell := hat j hjl
    have hv : cs'[j]? = some (cs'[j]'(by omega)) := List.getElem?_eq_getElem (by omega)
    have h1 := hf j f hj
    rw [ho, hk] at h1
    have hone' : (cs'.drop j).take 1 = [cs'[j]'(by omega)] := by
      rw [List.drop_eq_getElem_cons (by omega)]
      rfl
    rw [hone'] at h1
    have hys : ys[j]? = some (ys[j]'(by omega)) := List.getElem?_eq_getElem (by omega)
    refine ⟨_, _, ?_, hys, h1.trans hys⟩
    rw [← Go.Deep.add_add, hcell, hv]
end

theorem list_of {α : Type} {P : Nat → α → Prop} : ∀ (n : Nat), (∀ i, i < n → ∃ y, P i y) → ∃ l : List α, l.length = n ∧ ∀ i (h : i < l.length), P i l[i]
  | 0, _ => ⟨[], rfl, fun i h => absurd h (by simp)⟩
  | n + 1, h => by
    obtain ⟨l, hl, hp⟩ := list_of n (fun i hi => h i (by omega))
    obtain ⟨y, hy⟩ := h n (by omega)
    refine ⟨l ++ [y], by simp [hl], fun i hi => ?_⟩
    rw [List.length_append, List.length_singleton] at hi
    by_cases hin : i < l.length
    · rw [List.getElem_append_left hin]; exact hp i hin
    · have e : i = n := by omega
      subst e
      rw [List.getElem_append_right (by omega)]
      simp only [hl, Nat.sub_self, List.getElem_singleton]
      exact hy
def pcells (L : List (Value × Value)) : List Value := L.flatMap fun p => [p.1, p.2]
theorem pcells_len (L : List (Value × Value)) : (pcells L).length = L.length * 2 := by
  induction L with
  | nil => rfl
  | cons f l ih => unfold pcells at ih ⊢; rw [List.flatMap_cons, List.length_append, ih]; simp only [List.length_cons, List.length_nil]; omega
theorem pcells_at (L : List (Value × Value)) : ∀ (k : Nat) (h : k < L.length), (pcells L)[k * 2]? = some L[k].1 ∧ (pcells L)[k * 2 + 1]? = some L[k].2 := by
  induction L with
  | nil => intro k h; simp at h
  | cons d l ih =>
    intro k h
    cases k with
    | zero => exact ⟨rfl, rfl⟩
    | succ k =>
      have := ih k (by simpa using h)
      rw [show (k + 1) * 2 = k * 2 + 2 by omega]
      exact this
theorem cell_lt {w : World} {g o : Nat} {v : Value} (h : w.cell? ⟨g, o, none⟩ = some v) : g < w.heap.size := by
  rcases Nat.lt_or_ge g w.heap.size with h1 | h1
  · exact h1
  · exfalso
    have e : w.heap[g]? = none := Array.getElem?_eq_none h1
    simp [World.cell?, e] at h
theorem rd2_new {w : World} {a : Addr} {cap : Nat} (L : List (Value × Value)) (hc : L.length ≤ cap) (hm : cap ≤ maxLen)
    (h : ∀ i (hi : i < L.length), w.cell? (a.add (i * 2 + 0)) = some L[i].1 ∧ w.cell? (a.add (i * 2 + 1)) = some L[i].2) : Rd w 2 (.slice (some a) L.length cap) L.length (pcells L) := by
  refine ⟨pcells_len L, some a, cap, rfl, hc, hm, fun h0 => ?_⟩
  obtain ⟨g, o, sp⟩ := a
  have hsp : sp = none := by have := World.cell?_spot (h 0 h0).1; simpa [Addr.add] using this
  subst hsp
  have h' : ∀ i (hi : i < L.length), w.cell? ⟨g, o + (i * 2), none⟩ = some L[i].1 ∧ w.cell? ⟨g, o + (i * 2 + 1), none⟩ = some L[i].2 := by
    intro i hi
    have := h i hi
    rw [add_plain, add_plain] at this
    exact this
  refine ⟨g, o, rfl, cell_lt (h' 0 h0).1, fun j u hu => ?_⟩
  have hj : j < L.length * 2 := by
    rw [← pcells_len]
    rcases Nat.lt_or_ge j (pcells L).length with h1 | h1
    · exact h1
    · rw [List.getElem?_eq_none h1] at hu; cases hu
  have hi : j / 2 < L.length := by omega
  have hp := pcells_at L (j / 2) hi
  have hq := h' (j / 2) hi
  rcases Nat.mod_two_eq_zero_or_one j with h2 | h2
  · have e : j / 2 * 2 = j := by omega
    rw [e] at hp hq
    rw [hq.1, ← hp.1, hu]
  · have e : j / 2 * 2 + 1 = j := by omega
    rw [e] at hp hq
    rw [hq.2, ← hp.2, hu]
theorem bulkAll_map {H α : Type} (L : List α) (g : α → DataW H) : Rows.uptoBulkAll (L.map g) = (L.map fun x => Rows.uptoBulk (g x)).sum := by
  induction L with
  | nil => simp [Rows.uptoBulkAll]
  | cons x L ih => rw [List.map_cons, Rows.uptoBulkAll, ih, List.map_cons, List.sum_cons]
theorem sum_le {α : Type} (L : List α) {f g : α → Nat} (h : ∀ x ∈ L, f x ≤ g x) : (L.map f).sum ≤ (L.map g).sum := by
  induction L with
  | nil => exact Nat.le_refl _
  | cons x L ih =>
    rw [List.map_cons, List.map_cons, List.sum_cons, List.sum_cons]
    have := h x (by simp)
    have := ih (fun y hy => h y (List.mem_cons_of_mem _ hy))
    omega
theorem range_map {β α : Type} (L : List α) (D : Nat → β) (g : α → β) (h : ∀ i (hi : i < L.length), D i = g L[i]) : (List.range L.length).map D = L.map g := by
  apply List.ext_getElem
  · simp
  · intro i h1 h2
    rw [List.getElem_map, List.getElem_map, List.getElem_range]
    exact h i (by simpa using h1)
section
variable {H : Type} {enc : TypeId × Value → H} {w : World} {base : Nat} {held : Bool}
theorem open_fields {fuel : Nat} {v : Value} {x : DataW H × List MemPlace} (h : DataW.trod enc Tryd.prog w base (fun _ => true) held fuel 24 [v] = some x) :
    ∃ ts, TxR w v ts ∧ roomL ts ≤ Rows.uptoBulk x.1 := by
  rcases open_slice_fields Tryd.underlying24 Tryd.underlying59 (by kernel_rfl) (by kernel_rfl) h with ⟨hcs, rfl⟩ | ⟨a, len, cap, m, D, Pl, hcs, hb, hl, hm, hmm, rfl, hi⟩
  · obtain rfl : v = .slice none 0 0 := by simpa using hcs
    exact ⟨[], ⟨[], Rd.nil w 2, fun k hk => absurd hk (by simp)⟩, Nat.zero_le _⟩
  · obtain rfl : v = .slice (some a) len cap := by simpa using hcs
    obtain rfl : m = cap := hmm
    have each : ∀ i, i < len → ∃ p : ByteArray × Int, w.cell? (a.add (i * 2 + 0)) = some (.string p.1) ∧ w.cell? (a.add (i * 2 + 1)) = some (.int .i64 p.2) ∧ D i = .agg [.lit (.string (bl p.1)), .lit (.int .i64 p.2)] := by
      intro i hil
      obtain ⟨ys, n, hD, _, hyl, hf⟩ := hi i (by omega)
      obtain ⟨v0, y0, c0, g0, t0⟩ := hf 0 _ rfl
      obtain ⟨v1, y1, c1, g1, t1⟩ := hf 1 _ rfl
      obtain ⟨s, e0, rfl, _⟩ := DataW.trod_string Tryd.underlying9 t0
      obtain ⟨k, e1, rfl, _⟩ := DataW.trod_int Tryd.underlying3 t1
      obtain rfl : v0 = .string s := by simpa using e0
      obtain rfl : v1 = .int .i64 k := by simpa using e1
      match ys, hyl with
      | [z0, z1], _ =>
        obtain rfl : z0 = _ := by simpa using g0
        obtain rfl : z1 = _ := by simpa using g1
        exact ⟨(s, k), c0, c1, hD⟩
    obtain ⟨L, rfl, hp⟩ := list_of len each
    refine ⟨L.map fun p => bl p.1, ⟨pcells (L.map fun p => (.string p.1, .int .i64 p.2)), ?_, fun k hk => ?_⟩, ?_⟩
    · have h2 := rd2_new (w := w) (a := a) (cap := m) (L.map fun p : ByteArray × Int => (Value.string p.1, Value.int .i64 p.2)) (by rw [List.length_map]; exact hl) hm (fun i hi2 => by
        rw [List.length_map] at hi2
        rw [List.getElem_map]
        exact ⟨(hp i hi2).1, (hp i hi2).2.1⟩)
      rw [List.length_map] at h2 ⊢
      exact h2
    · rw [List.length_map] at hk
      have h2 := pcells_at (L.map fun p : ByteArray × Int => (Value.string p.1, Value.int .i64 p.2)) k (by rw [List.length_map]; exact hk)
      rw [List.getElem_map] at h2
      rw [List.getElem_map, sb_bl]
      exact ⟨h2.1, _, h2.2⟩
    · simp only [Rows.uptoBulk]
      rw [range_map L D (fun p => .agg [.lit (.string (bl p.1)), .lit (.int .i64 p.2)]) (fun i hi2 => (hp i hi2).2.2), bulkAll_map]
      unfold roomL
      rw [List.map_map]
      have := sum_le L (f := (fun t : List UInt8 => t.length + 1) ∘ fun p : ByteArray × Int => bl p.1) (g := fun p => Rows.uptoBulk (DataW.agg (H := H) [.lit (.string (bl p.1)), .lit (.int .i64 p.2)])) (fun p _ => by simp [Rows.uptoBulk, Rows.uptoBulkAll])
      omega
/-- records that came in: their fields' texts, and the room that these take -/
theorem open_lines {fuel : Nat} {v : Value} {x : DataW H × List MemPlace} (h : DataW.trod enc Tryd.prog w base (fun _ => true) held fuel 30 [v] = some x) :
    ∃ L, LnR w v L ∧ (L.map roomL).sum ≤ Rows.uptoBulk x.1 := by
  rcases open_slice_fields Tryd.underlying30 Tryd.underlying57 (by kernel_rfl) (by kernel_rfl) h with ⟨hcs, rfl⟩ | ⟨a, len, cap, m, D, Pl, hcs, hb, hl, hm, hmm, rfl, hi⟩
  · obtain rfl : v = .slice none 0 0 := by simpa using hcs
    exact ⟨[], ⟨[], Rd.nil w 2, fun k hk => absurd hk (by simp)⟩, Nat.zero_le _⟩
  · obtain rfl : v = .slice (some a) len cap := by simpa using hcs
    obtain rfl : m = cap := hmm
    have each : ∀ i, i < len → ∃ p : Int × Value × List (List UInt8) × DataW H, w.cell? (a.add (i * 2 + 0)) = some (.int .i64 p.1) ∧ w.cell? (a.add (i * 2 + 1)) = some p.2.1 ∧ TxR w p.2.1 p.2.2.1 ∧ roomL p.2.2.1 ≤ Rows.uptoBulk p.2.2.2 ∧ D i = .agg [.lit (.int .i64 p.1), p.2.2.2] := by
      intro i hil
      obtain ⟨ys, n, hD, _, hyl, hf⟩ := hi i (by omega)
      obtain ⟨v0, y0, c0, g0, t0⟩ := hf 0 _ rfl
      obtain ⟨v1, y1, c1, g1, t1⟩ := hf 1 _ rfl
      obtain ⟨k, e0, rfl, _⟩ := DataW.trod_int Tryd.underlying3 t0
      obtain rfl : v0 = .int .i64 k := by simpa using e0
      obtain ⟨ts, h1, h2⟩ := open_fields t1
      match ys, hyl with
      | [z0, z1], _ =>
        obtain rfl : z0 = _ := by simpa using g0
        obtain rfl : z1 = _ := by simpa using g1
        exact ⟨(k, v1, ts, z1.1), c0, c1, h1, h2, hD⟩
    obtain ⟨L, rfl, hp⟩ := list_of len each
    refine ⟨L.map fun p => p.2.2.1, ⟨pcells (L.map fun p => (.int .i64 p.1, p.2.1)), ?_, fun k hk => ?_⟩, ?_⟩
    · have h2 := rd2_new (w := w) (a := a) (cap := m) (L.map fun p => (Value.int .i64 p.1, p.2.1)) (by rw [List.length_map]; exact hl) hm (fun i hi2 => by
        rw [List.length_map] at hi2
        rw [List.getElem_map]
        exact ⟨(hp i hi2).1, (hp i hi2).2.1⟩)
      rw [List.length_map] at h2 ⊢
      exact h2
    · rw [List.length_map] at hk
      have h2 := pcells_at (L.map fun p => (Value.int .i64 p.1, p.2.1)) k (by rw [List.length_map]; exact hk)
      rw [List.getElem_map] at h2
      rw [List.getElem_map]
      exact ⟨_, _, h2.1, h2.2, (hp k hk).2.2.1⟩
    · simp only [Rows.uptoBulk]
      rw [range_map L D (fun p => .agg [.lit (.int .i64 p.1), p.2.2.2]) (fun i hi2 => (hp i hi2).2.2.2.2), bulkAll_map, List.map_map]
      have h3 : ∀ p ∈ L, roomL p.2.2.1 ≤ Rows.uptoBulk p.2.2.2 := by
        intro p hpm
        obtain ⟨i, hi2, rfl⟩ := List.getElem_of_mem hpm
        exact (hp i hi2).2.2.2.1
      have := sum_le L (f := roomL ∘ fun p => p.2.2.1) (g := fun p => Rows.uptoBulk (DataW.agg (H := H) [.lit (.int .i64 p.1), p.2.2.2])) (fun p hpm => by
        have := h3 p hpm
        simp only [Rows.uptoBulk, Rows.uptoBulkAll, Function.comp]; omega)
      omega
end
theorem writeL_le (L : List (List (List UInt8))) : (writeL L).length ≤ (L.map roomL).sum := by
  induction L with
  | nil => exact Nat.le_refl _
  | cons ts L ih =>
    have e : writeL (ts :: L) = (if ts = [] then [] else joinL ts ++ [10]) ++ writeL L := by unfold writeL; rw [List.flatMap_cons]
    rw [e, List.length_append, List.map_cons, List.sum_cons]
    split
    · simp; omega
    · next h =>
      have := joinL_room ts h
      simp only [List.length_append, List.length_cons, List.length_nil]
      omega
theorem mem_sum {α : Type} {L : List α} {f : α → Nat} {x : α} (h : x ∈ L) : f x ≤ (L.map f).sum := by
  induction L with
  | nil => cases h
  | cons y L ih =>
    rw [List.map_cons, List.sum_cons]
    rcases List.mem_cons.1 h with rfl | h
    · omega
    · have := ih h; omega
end Go.Proofs.YtfmijelndlllaaaDoor
